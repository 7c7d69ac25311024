/- The walk of Origin.Answer once more: what it returns lies in memory that may be written. The methods of a nil origin. The walk of Origin.At. What OriginMemory needs: a page of which is known what may be written; clone of a version without variants. At and Answer with what may be written; a store beside the origin; OriginMemory in plain words. The walk of OriginMemory. -/
import Derived.Test.YtmckbcbdnckngaaGreatDoorJ8
import Derived.Lib.SmallJoins
set_option linter.unusedSimpArgs false
set_option linter.unusedVariables false
namespace Go.Proofs.YtmckbcbdnckngaaGreatDoor
open Go.RowKit

/-- A slice that reads, lies outside of Q, and may be written. -/
structure RSN (Q : Nat → Prop) (w : World) (k : Nat) (s : Sl) (xs : List Value) : Prop extends RS Q w k s xs where
  nf : 0 < xs.length → ∀ a, s.A = some a → ∀ i, w.frozen? ⟨a.block, i, none⟩ = false
theorem frozen_blk {w w' : World} {b : Nat} (h : w'.heap[b]? = w.heap[b]?) (i : Nat) : w'.frozen? ⟨b, i, none⟩ = w.frozen? ⟨b, i, none⟩ := by
  unfold World.frozen?
  simp only [h]
section
variable {Q Q' R : Nat → Prop} {w w' : World} {k : Nat} {s : Sl} {xs : List Value}
theorem RSN.sub (h : RSN Q w k s xs) (hq : ∀ i, Q' i → Q i) : RSN Q' w k s xs := ⟨h.toRS.sub hq, h.nf⟩
theorem RSN.more (h : RSN Q w k s xs) (hq : ∀ i, Q' i → Q i ∨ w.heap.size ≤ i) : RSN Q' w k s xs := ⟨h.toRS.more hq, h.nf⟩
theorem RSN.ext (h : RSN Q w k s xs) (hb : Ext w w') : RSN Q w' k s xs :=
  ⟨h.toRS.ext hb, fun h0 a ha i => (frozen_blk (hb.below.block _ (h.toRS.lt h0 a ha)) i).trans (h.nf h0 a ha i)⟩
theorem RSN.keep (h : RSN Q w k s xs) (hk : Keeps R w w') (hR : ∀ i, R i → Q i ∨ w.heap.size ≤ i) : RSN Q w' k s xs :=
  ⟨h.toRS.keep hk hR, fun h0 a ha i => (frozen_blk (hk.block _ (h.toRS.lt h0 a ha) (fun hr => (hR _ hr).elim (h.out h0 a ha) (fun h2 => by have := h.toRS.lt h0 a ha; omega))) i).trans (h.nf h0 a ha i)⟩
theorem RSN.nil (Q : Nat → Prop) (w : World) (k : Nat) : RSN Q w k sl0 [] := ⟨RS.nil Q w k, fun h => absurd h (by simp)⟩
theorem RSN.of_own {base n : Nat} {e : TypeId} (h : w.ownsRow base e k s.v n xs) (hr : RS Q w k s xs) : RSN Q w k s xs := by
  refine ⟨hr, fun h0 a ha i => ?_⟩
  rcases h.2 with ⟨hn, _⟩ | ⟨g, cap, cur, hv, _, hg, _⟩
  · unfold Sl.v at hn; injection hn with hn; rw [hn] at ha; cases ha
  · unfold Sl.v at hv; injection hv with hv
    rw [ha] at hv; injection hv with hv
    subst hv
    exact frozen_of_row w g i cur e hg
end
set_option maxHeartbeats 5000000 in
set_option maxRecDepth 100000 in
theorem or_AnswerN (Q R : Nat → Prop) (p : Nat) (o : Org) (M : OM) (t : Int) (r : Rq) (rA : Option Addr) (rn rc : Nat) (w : World) (hO : OrgP w p R Q o M) (hr : RdF w rA rn r.fs) (hrc : rn ≤ rc)
    (hrT : sumF r.fs + 2 * rn ≤ 1048576) (htz : r.target.size ≤ 1048576) (hbr : o.br.length ≤ 1000000) (hlg : o.lg.length ≤ 1000000) (hg : Gl w) (hh : GlH w) (hp : GlP w) :
    Calls Tryz.prog 15 #[.pointer (some ⟨p, 0, none⟩), .int .i64 t, .agg #[.string r.method, .string r.target, .slice rA rn rc]] w fun e w' => ∃ s1 s2 : Sl, e = .returned (.tuple #[.agg #[.int .i64 (answS o t r).1, s1.v], s2.v]) ∧
      ∃ R', (∃ M', OrgP w' p R' (fun i => Q i ∨ w.heap.size ≤ i) (answS o t r).2.2.2 M') ∧ RSN (fun i => i < w.heap.size ∨ R' i) w' 2 s1 (fldCells (answS o t r).2.1) ∧ RSN (fun i => i < w.heap.size ∨ R' i) w' 1 s2 (bytC (answS o t r).2.2.1) ∧
        Keeps R w w' ∧ (∀ i, R i → R' i) ∧ (∀ i, R' i → R i ∨ w.heap.size ≤ i) := by
  have Hans := Lib.hid (answ_eq o t r)
  have Hct := Lib.hid (show 0 ≤ cl55 t ∧ cl55 t ≤ 1099511627776 by unfold cl55; omega)
  have HAB := Lib.hid (AB_dec (o := o) (t := cl55 t) (r := r) (fun x hx => (hO.bd x hx).1))
  have HCl := Lib.hid (fun w' => or_clip t w'); have HFl := Lib.hid (fun w' => http_Floor t w')
  generalize answS o t r = AW at *
  generalize cl55 t = t1 at *
  have HEg := Lib.hid (fun w' (hx : Ext w w') => (⟨hg.ext hx, hh.ext hx, hp.ext hx⟩ : Gl w' ∧ GlH w' ∧ GlP w'))
  have hsz1 : (w.alloc (.cells #[.string r.method, .string r.target, .slice rA rn rc] 42)).heap.size = w.heap.size + 1 := by simp
  have hsz2 : ((w.alloc (.cells #[.string r.method, .string r.target, .slice rA rn rc] 42)).alloc (.cells #[.int .i64 0, .slice none 0 0] 38)).heap.size = w.heap.size + 2 := by simp
  have HX := Lib.hid (((Blk.new w 42 #[.string r.method, .string r.target, .slice rA rn rc]).alloc (.cells #[.int .i64 0, .slice none 0 0] 38)).alloc (.cells #[.int .i64 t1, .int .i64 0, .int .i64 0, .int .i64 0, .string ⟨#[]⟩, .int .i64 0, .int .i64 0, .slice none 0 0, .slice none 0 0] 111))
  have HY := Lib.hid ((Blk.new (w.alloc (.cells #[.string r.method, .string r.target, .slice rA rn rc] 42)) 38 #[.int .i64 0, .slice none 0 0]).alloc (.cells #[.int .i64 t1, .int .i64 0, .int .i64 0, .int .i64 0, .string ⟨#[]⟩, .int .i64 0, .int .i64 0, .slice none 0 0, .slice none 0 0] 111))
  have HZ := Lib.hid (Blk.new ((w.alloc (.cells #[.string r.method, .string r.target, .slice rA rn rc] 42)).alloc (.cells #[.int .i64 0, .slice none 0 0] 38)) 111 #[.int .i64 t1, .int .i64 0, .int .i64 0, .int .i64 0, .string ⟨#[]⟩, .int .i64 0, .int .i64 0, .slice none 0 0, .slice none 0 0])
  have HE3 := Lib.hid ((((Ext.refl w).alloc (.cells #[.string r.method, .string r.target, .slice rA rn rc] 42)).alloc (.cells #[.int .i64 0, .slice none 0 0] 38)).alloc (.cells #[.int .i64 t1, .int .i64 0, .int .i64 0, .int .i64 0, .string ⟨#[]⟩, .int .i64 0, .int .i64 0, .slice none 0 0, .slice none 0 0] 111))
  rw [hsz1] at HY
  rw [hsz2] at HZ
  obtain ⟨W3, hW3⟩ : ∃ W3, (((w.alloc (.cells #[.string r.method, .string r.target, .slice rA rn rc] 42)).alloc (.cells #[.int .i64 0, .slice none 0 0] 38)).alloc (.cells #[.int .i64 t1, .int .i64 0, .int .i64 0, .int .i64 0, .string ⟨#[]⟩, .int .i64 0, .int .i64 0, .slice none 0 0, .slice none 0 0] 111)) = W3 := ⟨_, rfl⟩
  have HW3 := Lib.hid hW3
  rw [hW3] at HX HY HZ HE3
  have hA3 : AnsAt W3 (w.heap.size + 2) t1 ans0 sl0 sl0 := ⟨HZ.out, RS.nil _ _ _, RS.nil _ _ _⟩
  have hO3 := (hO.more (Q' := fun i => Q i ∨ w.heap.size ≤ i) (fun i hi => hi) (fun b hb => .inl (hO.rq b hb))).ext HE3.out
  have hpl : ¬ R (w.heap.size + 2) := fun h => by have := hO.low _ h; omega
  have hr3 := ((⟨hr, fun _ _ _ h => h, hrc⟩ : RS (fun _ => False) w 2 ⟨rA, rn, rc⟩ (fldCells r.fs)).more (Q' := fun i => i = (w.heap.size + 2)) (fun i hi => .inr (by omega))).ext HE3.out
  have hgp : ∀ w', Keeps (fun i => i = (w.heap.size + 2)) W3 w' → Ext w w' := fun w' hk => HE3.out.keeps hk (fun i hi => by omega)
  have HCh := Lib.hid (or_choose (fun i => Q i ∨ w.heap.size ≤ i) R p o M (w.heap.size + 2) t1 r rA rn rc W3 hO3 hA3 hpl (.inr (by omega)) hr3 hrT htz hbr (fun w' hk => HEg.out _ (hgp w' hk)))
  have HO := Lib.hid (fun w' (hk : Keeps (fun i => i = (w.heap.size + 2)) W3 w') => hO3.keeps hk (fun i hi => by rw [show i = (w.heap.size + 2) from hi]; exact ⟨hpl, .inr (by omega)⟩))
  have HGp := Lib.hid hgp
  have Hlow := Lib.hid hO.low; have Hrl := Lib.hid hO.rl; have Hrq := Lib.hid hO.rq
  have HPl := Lib.hid hpl
  clear hO hr hg hh hp hW3 hA3 hO3 hpl hr3 hgp HZ hrT htz hbr hsz1
  obtain ⟨me, ta, rfs⟩ := r
  obtain ⟨vs, br, ⟨lgA, lgn, lgc⟩, mv⟩ := M
  generalize decS55 o t1 ⟨me, ta, rfs⟩ = A at *
  simp only at HX HY HW3 HCh Hans
  obtain rfl := Hans.out
  clear Hans
  simp only
  go_enter Tryz.func15, Tryz.ntmps15
  go_wp2_with fail
  refine (HCl.out _).mono ?_; rintro e w1 ⟨rfl, rfl⟩
  go_upto_region 4 with fail
  (try rw [hsz2])
  rw [HW3.out]
  have r0 : W3.cell? ⟨w.heap.size, 0, none⟩ = some (.string me) := HX.out.cell 0
  have r1 : W3.cell? ⟨w.heap.size, 1, none⟩ = some (.string ta) := HX.out.cell 1
  have r2 : W3.cell? ⟨w.heap.size, 2, none⟩ = some (.slice rA rn rc) := HX.out.cell 2
  clear HW3
  go_wp2_with fail
  refine HCh.out.mono ?_; rintro e w4 ⟨v, rfl, ⟨⟨fA, fn, fc⟩, ⟨bA, bn, bc⟩, h4⟩, hk4⟩
  clear r0 r1 r2
  have hE4 := HGp.out _ hk4
  have Hk4 := Lib.hid hk4
  have HA4 := Lib.hid h4
  clear hk4 h4
  go_wp2_with fail
  refine (HFl.out _).mono ?_; rintro e w4x ⟨rfl, rfl⟩
  go_wp2_with fail
  refine (http_Format (t1 / 1000) w4x (by have := Hct.out; omega) (by have := Hct.out; omega) (HEg.out _ hE4).2.1).mono ?_; rintro e w5 ⟨rfl, hb5⟩
  have HA5 := Lib.hid (HA4.out.ext hb5)
  have hfl := Nat.le_of_eq (HA5.out.fs.rd.lenF).symm
  have s7 : w5.cell? ⟨(w.heap.size + 2), 7, none⟩ = some (.slice fA fn fc) := HA5.out.blk.cell 7
  have hab := HAB.out.len
  have HS1 := Lib.hid (field_Set fA fn fc A.fs x_dt (fmtS (t1 / 1000)) w5 HA5.out.fs.rd (by simp only at hfl; omega) (by decide) HAB.out.bsz)
  have Hdz := Lib.hid (fmtS_len (n := t1 / 1000) (by have := Hct.out; omega) (by have := Hct.out; omega))
  have HFS := Lib.hid (show ansF A t1 = if emS A then setS x_dt (fmtS (t1 / 1000)) A.fs else setS x_cl (decV A.body.size) (setS x_dt (fmtS (t1 / 1000)) A.fs) from rfl)
  generalize fmtS (t1 / 1000) = date at *
  go_wp2_with fail
  refine HS1.out.mono ?_; rintro e w6 ⟨gA, gn, gc, rfl, hg6, hgc, hb6, hown6⟩
  have Hown6 := Lib.hid hown6
  have HG6 := Lib.hid (show RSN (fun i => i < w.heap.size + 3) w6 2 ⟨gA, gn, gc⟩ (fldCells (setS x_dt date A.fs)) from RSN.of_own (s := ⟨gA, gn, gc⟩) Hown6.out ⟨hg6, fun h1 a ha hb => by
    have h9 := (Hown6.out.lt a.block (by simp only at ha; subst ha; rfl)).1
    have h8 : (w.heap.size + 2) < w5.heap.size := HA5.out.blk.lt
    have hb' : a.block < w.heap.size + 3 := hb
    omega, hgc⟩)
  have HE6 := Lib.hid ((hE4.trans hb5).trans hb6); have HE46 := Lib.hid (hb5.trans hb6)
  have HA6 := Lib.hid (HA5.out.ext hb6)
  have HgN := Lib.hid (show gn ≤ 131076 by have h1 := hg6.lenF; have h2 := setS_len x_dt date A.fs; omega)
  have hBn := HA6.out.bsz
  change A.body.size = bn at hBn
  have HBn := Lib.hid hBn
  clear s7 hown6 hg6 hgc hb5 hb6 hfl hBn hE4 HS1
  go_upto_region 9 with fail
  go_cut [12] (fun v wx => v = .bool (emS A) ∧ w6 = wx)
  case first =>
    have s1 : w6.cell? ⟨(w.heap.size + 2), 1, none⟩ = some (.int .i64 A.status) := HA6.out.blk.cell 1
    have HEm := Lib.hid (show emS A = (A.status == 204 || A.status == 304) from rfl)
    generalize emS A = em at *
    generalize A.status = st at *
    cases q1 : (st == 204)
    · cases q2 : (st == 304)
      · go_wp2_with fail
        go_meet
        exact ⟨by rw [HEm.out, q1, q2]; rfl, rfl⟩
      · go_wp2_with fail
        go_meet
        exact ⟨by rw [HEm.out, q1, q2]; rfl, rfl⟩
    · go_wp2_with fail
      go_meet
      exact ⟨by rw [HEm.out, q1]; rfl, rfl⟩
  case rest =>
  obtain ⟨rfl, rfl⟩ := hcut
  obtain ⟨em, hem⟩ : ∃ em, emS A = em := ⟨_, rfl⟩
  rw [hem]
  have Hem := Lib.hid hem
  clear hem
  go_upto_if 55 with fail
  go_cut [11] (fun v wx => ∃ s : Sl, v = s.v ∧ RSN (fun i => i < w.heap.size + 3) wx 2 s (fldCells (ansF A t1)) ∧ Ext w6 wx)
  case first =>
    cases em with
    | true =>
      have HF := Lib.hid (show ansF A t1 = setS x_dt date A.fs by rw [HFS.out, Hem.out, if_pos rfl])
      go_wp2_with fail
      go_meet
      exact ⟨⟨gA, gn, gc⟩, rfl, by rw [HF.out]; exact HG6.out, Ext.refl _⟩
    | false =>
      have HF := Lib.hid (show ansF A t1 = setS x_cl (decV A.body.size) (setS x_dt date A.fs) by rw [HFS.out, Hem.out, if_neg (by simp)])
      have s8 : w6.cell? ⟨(w.heap.size + 2), 8, none⟩ = some (.slice bA bn bc) := HA6.out.blk.cell 8
      have hbb := HAB.out.bdy
      have hbn := HBn.out
      have HIt := Lib.hid (show Calls Tryz.prog 48 #[.int .i64 (bn : Nat)] w6 fun e w'' => e = .returned (.string (decV A.body.size)) ∧ Ext w6 w'' from by rw [hbn]; exact std_Itoa bn (by omega) (by omega) w6 (HEg.out _ HE6.out).2.2)
      have HS2 := Lib.hid (fun w' (hx : Ext w6 w') => field_Set gA gn gc (setS x_dt date A.fs) x_cl (decV A.body.size) w' (HG6.out.rd.ext hx) (by have := HgN.out; omega) (by decide) (setS_bsz (by decide) (by have := Hdz.out; omega) HAB.out.bsz))
      clear hbb hbn
      generalize decV A.body.size = dv at *
      go_wp2_with fail
      refine HIt.out.mono ?_; rintro e w7 ⟨rfl, hb7⟩
      go_wp2_with fail
      refine (HS2.out _ hb7).mono ?_; rintro e w8 ⟨kA, kn, kc, rfl, hk, hkc, hb8, hown8⟩
      go_wp2_with fail
      go_meet
      have h8 : (w.heap.size + 2) < w6.heap.size := HA6.out.blk.lt
      have h7 := hb7.size
      have hRS : RSN (fun i => i < w.heap.size + 3) w8 2 ⟨kA, kn, kc⟩ (fldCells (setS x_cl dv (setS x_dt date A.fs))) := RSN.of_own (s := ⟨kA, kn, kc⟩) hown8 ⟨hk, fun h1 a ha hb => by
        have h9 := (hown8.lt a.block (by simp only at ha; subst ha; rfl)).1
        have hb' : a.block < w.heap.size + 3 := hb
        omega, hkc⟩
      exact ⟨⟨kA, kn, kc⟩, rfl, by rw [HF.out]; exact hRS, hb7.trans hb8⟩
  case rest =>
  obtain ⟨⟨fA1, fn1, fc1⟩, rfl, hF1, hE7⟩ := hcut
  have HF1 := Lib.hid hF1; have HE67 := Lib.hid hE7
  clear hF1 hE7
  generalize wc = w7 at *
  have HA7 := Lib.hid (HA6.out.ext HE67.out)
  have s8 : w7.cell? ⟨(w.heap.size + 2), 8, none⟩ = some (.slice bA bn bc) := HA7.out.blk.cell 8
  simp only [Sl.v]
  go_wp2_with fail
  refine (cln_B ⟨bA, bn, bc⟩ (bytC A.body) w7 HA7.out.bd.rd (bytC_one _) (by have := HAB.out.bdy; have := HBn.out; simp only; omega)).mono ?_; rintro e w8 ⟨⟨cA, cn, cc⟩, rfl, hcn, hC, hb8, hoC⟩
  have HC := Lib.hid (RSN.of_own (s := ⟨cA, cn, cc⟩) hoC hC); have HE78 := Lib.hid hb8
  have HX8 := Lib.hid ((HX.out.keep Hk4.out (by omega)).ext (HE46.out.trans (HE67.out.trans hb8)))
  have HA8 := Lib.hid (HA7.out.ext hb8)
  clear s8 hcn hC hb8 hoC
  simp only [Sl.v]
  go_upto_region 13 with fail
  go_cut [74] (fun v wx => v = .bool (em || me.toList == [72, 69, 65, 68]) ∧ w8 = wx)
  case first =>
    have r0 : w8.cell? ⟨w.heap.size, 0, none⟩ = some (.string me) := HX8.out.cell 0
    cases em with
    | true =>
      go_wp2_with fail
      go_meet
      exact ⟨by simp, rfl⟩
    | false =>
      cases q : (me.toList == [72, 69, 65, 68])
      · go_wp2_with fail
        go_meet
        exact ⟨by simp [q], rfl⟩
      · go_wp2_with fail
        go_meet
        exact ⟨by simp [q], rfl⟩
  case rest =>
  obtain ⟨rfl, rfl⟩ := hcut
  obtain ⟨z, hz⟩ : ∃ z, (em || me.toList == [72, 69, 65, 68]) = z := ⟨_, rfl⟩
  rw [hz]
  have Hz := Lib.hid (show (emS A || me.toList == [72, 69, 65, 68]) = z by rw [Hem.out]; exact hz)
  clear hz
  go_upto_if 74 with fail
  go_cut [13] (fun v wx => ∃ s : Sl, v = s.v ∧ RSN (fun i => i < w.heap.size + 3) wx 1 s (bytC (ansB A me)) ∧ w8 = wx)
  case first =>
    cases z with
    | true =>
      have HB := Lib.hid (show ansB A me = ⟨#[]⟩ by unfold ansB; rw [if_pos Hz.out])
      go_wp2_with fail
      go_meet
      exact ⟨sl0, rfl, by rw [HB.out]; exact RSN.nil _ _ _, rfl⟩
    | false =>
      have HB := Lib.hid (show ansB A me = A.body by unfold ansB; rw [if_neg (by rw [Hz.out]; simp)])
      go_wp2_with fail
      go_meet
      have h8 : (w.heap.size + 2) < w7.heap.size := HA7.out.blk.lt
      exact ⟨⟨cA, cn, cc⟩, rfl, by
        rw [HB.out]
        exact HC.out.sub (fun i hi => by
          show i < w7.heap.size
          have hi' : i < w.heap.size + 3 := hi
          omega), rfl⟩
  case rest =>
  obtain ⟨⟨dA, dn, dc⟩, rfl, hD, rfl⟩ := hcut
  have HD := Lib.hid hD
  clear hD
  simp only [Sl.v]
  have hdn : (ansB A me).size = dn := by have := HD.out.len1; rw [bytC_len] at this; exact this
  have HKlo := Lib.hid (show (ansK A t1 me).lo = if A.status == 206 then A.lo else 0 from rfl)
  have HKhi := Lib.hid (show (ansK A t1 me).hi = if A.status == 206 then A.hi else (ansB A me).size from rfl)
  rw [hdn] at HKhi
  clear hdn
  have s1 : w8.cell? ⟨(w.heap.size + 2), 1, none⟩ = some (.int .i64 A.status) := HA8.out.blk.cell 1
  go_upto_if 80 with fail
  go_cut [8, 80] (fun v u wx => v = .pointer (some ⟨(w.heap.size + 2), 0, none⟩) ∧ Blk wx (w.heap.size + 2) 111 #[.int .i64 t1, .int .i64 A.status, .int .i64 A.version, .int .i64 A.variant, .string A.addr, .int .i64 (ansK A t1 me).lo, .int .i64 (ansK A t1 me).hi, .slice fA fn fc, .slice bA bn bc] ∧ Keeps (fun i => i = (w.heap.size + 2)) w8 wx)
  case first =>
    clear s1
    have hBk : Blk w8 (w.heap.size + 2) 111 #[.int .i64 t1, .int .i64 A.status, .int .i64 A.version, .int .i64 A.variant, .string A.addr, .int .i64 A.lo, .int .i64 A.hi, .slice fA fn fc, .slice bA bn bc] := HA8.out.blk
    by_cases h206 : A.status = 206
    · have HKlo := Lib.hid (HKlo.out.trans (if_pos (by rw [beq_iff_eq]; exact h206))); have HKhi := Lib.hid (HKhi.out.trans (if_pos (by rw [beq_iff_eq]; exact h206)))
      have q1 : (A.status == 206) = true := by rw [beq_iff_eq]; exact h206
      have q2 : (A.status != 206) = false := by simp [h206]
      clear h206
      have HBk := Lib.hid hBk
      clear hBk
      go_wp2_with fail
      go_meet
      exact ⟨rfl, by rw [HKlo.out, HKhi.out]; exact HBk.out, Keeps.refl _ _⟩
    · have HKlo := Lib.hid (HKlo.out.trans (if_neg (by rw [beq_iff_eq]; exact h206))); have HKhi := Lib.hid (HKhi.out.trans (if_neg (by rw [beq_iff_eq]; exact h206)))
      have q1 : (A.status == 206) = false := by rw [beq_eq_false_iff_ne]; exact h206
      have q2 : (A.status != 206) = true := by simp [h206]
      clear h206
      have HBk := Lib.hid hBk
      have k5 : w8.cell? ⟨(w.heap.size + 2), 5, none⟩ = some (.int .i64 A.lo) := hBk.cell 5
      have k6 : w8.cell? ⟨(w.heap.size + 2), 6, none⟩ = some (.int .i64 A.hi) := hBk.cell 6
      have f5 : w8.frozen? ⟨(w.heap.size + 2), 5, none⟩ = false := hBk.frozen 5
      have f6 : w8.frozen? ⟨(w.heap.size + 2), 6, none⟩ = false := hBk.frozen 6
      clear hBk
      go_wp2_with fail
      go_meet
      exact ⟨rfl, by rw [HKlo.out, HKhi.out]; exact (HBk.out.set_ 5 (.int .i64 0)).set_ 6 (.int .i64 (dn : Nat)), ((Keeps.refl (fun i => i = (w.heap.size + 2)) w8).set_ (b := (w.heap.size + 2)) rfl 5 _).set_ (b := (w.heap.size + 2)) rfl 6 _⟩
  case rest =>
  obtain ⟨rfl, hBk, hK9⟩ := hcut
  clear s1
  generalize wc = w9 at *
  have HE8 := Lib.hid (HE6.out.trans (HE67.out.trans HE78.out))
  have HKW := Lib.hid ((Hk4.out.trans (Keeps.of (HE46.out.trans (HE67.out.trans HE78.out)))).trans hK9)
  have HO9 := Lib.hid (HO.out w9 HKW.out)
  have HE9 := Lib.hid (HE8.out.keeps hK9 (fun i hi => by omega))
  have HBk := Lib.hid hBk
  have HY9 := Lib.hid (HY.out.keep HKW.out (by omega))
  have HF9 := Lib.hid ((HF1.out.ext HE78.out).keep hK9 (fun i hi => .inl (by show i < _; omega)))
  have HD9 := Lib.hid (HD.out.keep hK9 (fun i hi => .inl (by show i < _; omega)))
  have hpl9 : (w.heap.size + 2) < w9.heap.size := HBk.out.lt
  have HS17 := Lib.hid (fun w' (hx : Ext w9 w') => (⟨(HO9.out.blk.ext hx).cell 2, (HBk.out.ext hx).cell 0, (HBk.out.ext hx).cell 1, (HBk.out.ext hx).cell 2, (HBk.out.ext hx).cell 3, (HBk.out.ext hx).cell 4, (HBk.out.ext hx).cell 5, (HBk.out.ext hx).cell 6⟩ : w'.cell? ⟨p, 2, none⟩ = some (.slice lgA lgn lgc) ∧ w'.cell? ⟨(w.heap.size + 2), 0, none⟩ = some (.int .i64 t1) ∧ w'.cell? ⟨(w.heap.size + 2), 1, none⟩ = some (.int .i64 A.status) ∧ w'.cell? ⟨(w.heap.size + 2), 2, none⟩ = some (.int .i64 A.version) ∧ w'.cell? ⟨(w.heap.size + 2), 3, none⟩ = some (.int .i64 A.variant) ∧ w'.cell? ⟨(w.heap.size + 2), 4, none⟩ = some (.string A.addr) ∧ w'.cell? ⟨(w.heap.size + 2), 5, none⟩ = some (.int .i64 (ansK A t1 me).lo) ∧ w'.cell? ⟨(w.heap.size + 2), 6, none⟩ = some (.int .i64 (ansK A t1 me).hi)))
  clear hBk hK9
  go_upto_region 17 with fail
  have hL := (Ext.refl w9).drew
  refine wp_region_U (S := (fun w' => w'.cell? ⟨p, 2, none⟩ = some (.slice lgA lgn lgc) ∧ w'.cell? ⟨(w.heap.size + 2), 0, none⟩ = some (.int .i64 t1) ∧ w'.cell? ⟨(w.heap.size + 2), 1, none⟩ = some (.int .i64 A.status) ∧ w'.cell? ⟨(w.heap.size + 2), 2, none⟩ = some (.int .i64 A.version) ∧ w'.cell? ⟨(w.heap.size + 2), 3, none⟩ = some (.int .i64 A.variant) ∧ w'.cell? ⟨(w.heap.size + 2), 4, none⟩ = some (.string A.addr) ∧ w'.cell? ⟨(w.heap.size + 2), 5, none⟩ = some (.int .i64 (ansK A t1 me).lo) ∧ w'.cell? ⟨(w.heap.size + 2), 6, none⟩ = some (.int .i64 (ansK A t1 me).hi))) 10 (by kernel_rfl) ?_ (fun hHeld => ?_)
  · (try dsimp only); exact HS17.out _ hL
  refine wpAnyU_takeW (i := 0) (oi := { dst := some 88, op := _, type := _, pos := _, after := _, guard := _ }) (v := ?_) (by kernel_rfl) rfl (by kernel_rfl) (by kernel_rfl) (by kernel_rfl) (fun _ _ _ h => h) (Or.inl ⟨by rfl, ?_⟩) (by assumption) ?_
  rotate_left
  · (intro w hSw; (try dsimp only at hSw); go_simp; (try with_reducible rfl))
  (try simp only [Act.put, List.setIfInBounds_toArray, List.set_cons_zero, List.set_cons_succ])
  refine wpAnyU_takeW (i := 1) (oi := { dst := some 89, op := _, type := _, pos := _, after := _, guard := _ }) (v := ?_) (by kernel_rfl) rfl (by kernel_rfl) (by kernel_rfl) (by kernel_rfl) (fun _ _ _ h => h) (Or.inl ⟨by rfl, ?_⟩) (by assumption) ?_
  rotate_left
  · (intro w hSw; (try dsimp only at hSw); go_simp; (try with_reducible rfl))
  (try simp only [Act.put, List.setIfInBounds_toArray, List.set_cons_zero, List.set_cons_succ])
  refine wpAnyU_takeW (i := 2) (oi := { dst := some 90, op := _, type := _, pos := _, after := _, guard := _ }) (v := ?_) (by kernel_rfl) rfl (by kernel_rfl) (by kernel_rfl) (by kernel_rfl) (fun _ _ _ h => h) (Or.inl ⟨by rfl, ?_⟩) (by assumption) ?_
  rotate_left
  · (intro w hSw; (try dsimp only at hSw); go_simp; (try with_reducible rfl))
  (try simp only [Act.put, List.setIfInBounds_toArray, List.set_cons_zero, List.set_cons_succ])
  refine wpAnyU_takeW (i := 3) (oi := { dst := some 91, op := _, type := _, pos := _, after := _, guard := _ }) (v := ?_) (by kernel_rfl) rfl (by kernel_rfl) (by kernel_rfl) (by kernel_rfl) (fun _ _ _ h => h) (Or.inl ⟨by rfl, ?_⟩) (by assumption) ?_
  rotate_left
  · (intro w hSw; (try dsimp only at hSw); go_simp; (try with_reducible rfl))
  (try simp only [Act.put, List.setIfInBounds_toArray, List.set_cons_zero, List.set_cons_succ])
  refine wpAnyU_take (i := 4) (oi := { dst := some 92, op := _, type := _, pos := _, after := _, guard := _ }) (v := ?_) [10, 11, 12, 13] (by kernel_rfl) (by kernel_rfl) (by kernel_rfl) (by kernel_rfl) rfl (by kernel_rfl) (by kernel_rfl) (by kernel_rfl) (fun _ _ _ h => h) (Or.inl ⟨by rfl, ?_⟩) (by assumption) ?_
  rotate_left
  · (intro w hSw; (try dsimp only at hSw); go_simp; (try with_reducible rfl))
  (try simp only [Act.put, List.setIfInBounds_toArray, List.set_cons_zero, List.set_cons_succ])
  refine wpAnyU_takeW (i := 5) (oi := { dst := some 93, op := _, type := _, pos := _, after := _, guard := _ }) (v := ?_) (by kernel_rfl) rfl (by kernel_rfl) (by kernel_rfl) (by kernel_rfl) (fun _ _ _ h => h) (Or.inl ⟨by rfl, ?_⟩) (by assumption) ?_
  rotate_left
  · (intro w hSw; (try dsimp only at hSw); go_simp; (try with_reducible rfl))
  (try simp only [Act.put, List.setIfInBounds_toArray, List.set_cons_zero, List.set_cons_succ])
  refine wpAnyU_takeW (i := 6) (oi := { dst := some 94, op := _, type := _, pos := _, after := _, guard := _ }) (v := ?_) (by kernel_rfl) rfl (by kernel_rfl) (by kernel_rfl) (by kernel_rfl) (fun _ _ _ h => h) (Or.inl ⟨by rfl, ?_⟩) (by assumption) ?_
  rotate_left
  · (intro w hSw; (try dsimp only at hSw); go_simp; (try with_reducible rfl))
  (try simp only [Act.put, List.setIfInBounds_toArray, List.set_cons_zero, List.set_cons_succ])
  refine wpAnyU_takeW (i := 7) (oi := { dst := some 95, op := _, type := _, pos := _, after := _, guard := _ }) (v := ?_) (by kernel_rfl) rfl (by kernel_rfl) (by kernel_rfl) (by kernel_rfl) (fun _ _ _ h => h) (Or.inl ⟨by rfl, ?_⟩) (by assumption) ?_
  rotate_left
  · (intro w hSw; (try dsimp only at hSw); go_simp; (try with_reducible rfl))
  (try simp only [Act.put, List.setIfInBounds_toArray, List.set_cons_zero, List.set_cons_succ])
  refine wpAnyU_take (i := 8) (oi := { dst := some 96, op := _, type := _, pos := _, after := _, guard := _ }) (v := ?_) [9, 10, 11, 12, 13] (by kernel_rfl) (by kernel_rfl) (by kernel_rfl) (by kernel_rfl) rfl (by kernel_rfl) (by kernel_rfl) (by kernel_rfl) (fun _ _ _ h => h) (Or.inl ⟨by rfl, ?_⟩) (by assumption) ?_
  rotate_left
  · (intro w hSw; (try dsimp only at hSw); go_simp; (try with_reducible rfl))
  (try simp only [Act.put, List.setIfInBounds_toArray, List.set_cons_zero, List.set_cons_succ])
  refine wpAnyU_ready (rs := [9]) (by kernel_rfl) (by simp) ?_
  refine AllReadyU.cons (o := { dst := some 97, op := _, type := _, pos := _, after := _, guard := _ }) rfl (fun K hK => ?_) AllReadyU.nil
  go_simp
  replace hL := hL.alloc (.cells #[.int .i64 t1, .int .i64 A.status, .int .i64 A.version, .int .i64 A.variant, .string A.addr, .int .i64 (ansK A t1 me).lo, .int .i64 (ansK A t1 me).hi] 109)
  try go_wp2_with fail
  refine hK.out _ _ ?_ (fun hHeld => ?_)
  · (try dsimp only); exact HS17.out _ hL
  clear hK K
  (try simp only [Act.put, List.setIfInBounds_toArray, List.set_cons_zero, List.set_cons_succ])
  refine wpAnyU_ready (rs := [10]) (by kernel_rfl) (by simp) ?_
  refine AllReadyU.stop (o := { dst := some 98, op := _, type := _, pos := _, after := _, guard := _ }) rfl (by kernel_rfl) (fun K hK => ?_) AllReadyU.nil
  refine step_appO _ rfl (.tmp 92) (.tmp 97) 72 rfl 109 _ 7 64 Tryz.underlying72 info_cln_K (by simp [Value.cells]) (by decide) _ _ _ rfl (own_ext HO9.out.lg hL) _ 1 1 (akdC (ansK A t1 me)) rfl (Rd.lit _ _ _ rfl 7 1 rfl) (by have := akdC_one [ansK A t1 me]; simpa using this) (by omega) (by decide) ?_; intro A6 c6 w10 hown10 hle10 hg10 hn10
  refine hK.out _ _ ?_ (fun hHeld => ?_)
  · (try dsimp only); (try trivial)
  clear hK K
  (try simp only [Act.put, List.setIfInBounds_toArray, List.set_cons_zero, List.set_cons_succ])
  refine wpAnyH_take (i := 11) (oi := { dst := some 99, op := _, type := _, pos := _, after := _, guard := _ }) (v := ?_) rfl (by kernel_rfl) (by kernel_rfl) (by kernel_rfl) (fun _ _ _ h => h) (Or.inl ⟨by rfl, ?_⟩) (by assumption) ?_
  rotate_left
  · (intro w hSw; (try dsimp only at hSw); go_simp; (try with_reducible rfl))
  (try simp only [Act.put, List.setIfInBounds_toArray, List.set_cons_zero, List.set_cons_succ])
  refine wpAnyH_take (i := 12) (oi := { dst := some 100, op := _, type := _, pos := _, after := _, guard := _ }) (v := ?_) rfl (by kernel_rfl) (by kernel_rfl) (by kernel_rfl) (fun _ _ _ h => h) (Or.inl ⟨by rfl, ?_⟩) (by assumption) ?_
  rotate_left
  · (intro w hSw; (try dsimp only at hSw); go_simp; (try with_reducible rfl))
  (try simp only [Act.put, List.setIfInBounds_toArray, List.set_cons_zero, List.set_cons_succ])
  refine wpAnyH_ready (rs := [13]) (by kernel_rfl) (by simp) ?_
  refine AllReadyH.cons (o := { dst := none, op := _, type := _, pos := _, after := _, guard := _ }) rfl (fun K hK => ?_) AllReadyH.nil
  have hOx := HO9.out.ext hL; have hPb := hOx.blk.grown hg10 (Ne.symm (own_blk hOx.lg hOx.blk (by decide))); have kp := hPb.cell 2; have fp := hPb.frozen 2; clear hOx hPb; (simp only [Sl.v] at kp)
  go_simp
  try go_wp2_with fail
  refine hK.out _ _ ?_ (fun hHeld => ?_)
  · (try dsimp only); (try trivial)
  clear hK K
  (try simp only [Act.put, List.setIfInBounds_toArray, List.set_cons_zero, List.set_cons_succ])
  refine wpAnyH_done (by kernel_rfl) ?_ _
  clear kp fp
  have hOa := HO9.out.ext hL
  obtain ⟨hO2, hK2⟩ := hOa.addL (x := ansK A t1 me) hown10 hg10 hn10
  have HO2 := Lib.hid hO2; have HK2 := Lib.hid hK2; have Hn10 := Lib.hid hn10; have HLa := Lib.hid hL
  have HBf := Lib.hid ((HBk.out.ext hL).keep hK2 HPl.out)
  have HYf := Lib.hid ((HY9.out.ext hL).keep hK2 (fun h => by have := Hlow.out _ h; omega))
  have HNew := Lib.hid (show ∀ i, (Value.slice A6 (o.lg.length + 1) c6).ownBlock = some i → R i ∨ w9.heap.size ≤ i from fun i hi => hn10.elim (fun e => .inl (Hrl.out i (by rw [e] at hi; exact hi))) (fun e => .inr (by rw [e] at hi; injection hi with hi; have h9 := hL.size; rw [← hi]; exact h9)))
  have HFb := Lib.hid (((HF9.out.ext hL).more (Q' := fun i => i < w.heap.size + 3 ∨ (Value.slice A6 (o.lg.length + 1) c6).ownBlock = some i) (fun i hi => hi.elim .inl (fun hi => hn10.elim (fun e => .inl (by rw [e] at hi; have := Hlow.out i (Hrl.out i hi); show i < _; omega)) (fun e => .inr (by rw [e] at hi; injection hi with hi; rw [← hi]; exact Nat.le_refl _))))).keep hK2 (fun i hi => .inl (.inl (by have := Hlow.out i hi; show i < _; omega))))
  have HDb := Lib.hid (((HD9.out.ext hL).more (Q' := fun i => i < w.heap.size + 3 ∨ (Value.slice A6 (o.lg.length + 1) c6).ownBlock = some i) (fun i hi => hi.elim .inl (fun hi => hn10.elim (fun e => .inl (by rw [e] at hi; have := Hlow.out i (Hrl.out i hi); show i < _; omega)) (fun e => .inr (by rw [e] at hi; injection hi with hi; rw [← hi]; exact Nat.le_refl _))))).keep hK2 (fun i hi => .inl (.inl (by have := Hlow.out i hi; show i < _; omega))))
  have HKF := Lib.hid ((Keeps.of (S := R) (HE9.out.trans hL)).trans hK2)
  have HOF := Lib.hid (hO2.more (Q' := fun i => Q i ∨ w.heap.size ≤ i) (fun i hi => .inl (.inl hi)) (fun b hb => hb.elim (fun h => .inl (Hrq.out b h)) (fun h => (HNew.out b h).elim (fun h => .inl (Hrq.out b h)) (fun h => .inr (by omega)))))
  clear hOa hO2 hK2 hn10 hown10 hg10 hL HO2 HK2 Hn10 HLa
  generalize (w10.setCell ⟨p, 2, none⟩ (.slice A6 (o.lg.length + 1) c6)) = wF at *
  have s1 : wF.cell? ⟨(w.heap.size + 2), 1, none⟩ = some (.int .i64 A.status) := HBf.out.cell 1
  go_wp2_with (first | (refine wpList_storeB rfl 38 (.tmp 6) (.tmp 107) rfl rfl (w.heap.size + 1) _ rfl rfl 38 _ HYf.out infoRsp rfl (by simp [Value.oneCell']) ?_; intro w12 hB12 hx12))
  have y0 : w12.cell? ⟨w.heap.size + 1, 0, none⟩ = some (.int .i64 A.status) := hB12.cell 0
  have y1 : w12.cell? ⟨w.heap.size + 1, 1, none⟩ = some (.slice fA1 fn1 fc1) := hB12.cell 1
  refine bodyPost_ret (v := .tuple #[.agg #[.int .i64 A.status, .slice fA1 fn1 fc1], .slice dA dn dc]) (by simp [results, Tryz.results15, go_sem, y0, y1]) rfl ?_
  have KX : Keeps (fun i => i = w.heap.size + 1) wF w12 := Keeps.grown (Keeps.refl _ wF) hx12 (fun b hb => .inl (by injection hb with hb; exact hb.symm))
  have hNo : ∀ i, i = w.heap.size + 1 → ¬ Rplus R (Value.slice A6 (o.lg.length + 1) c6) i := fun i hi hR => hR.elim (fun h => by have := Hlow.out i h; omega) (fun h => (HNew.out i h).elim (fun h => by have := Hlow.out i h; omega) (fun h => by omega))
  have hSub : ∀ i, (i < w.heap.size ∨ Rplus R (Value.slice A6 (o.lg.length + 1) c6) i) → (i < w.heap.size + 3 ∨ (Value.slice A6 (o.lg.length + 1) c6).ownBlock = some i) := fun i hi => hi.elim (fun h => .inl (by omega)) (fun h => h.elim (fun h => .inl (by have := Hlow.out i h; omega)) .inr)
  refine ⟨⟨fA1, fn1, fc1⟩, ⟨dA, dn, dc⟩, rfl, Rplus R (Value.slice A6 (o.lg.length + 1) c6), ⟨_, HOF.out.keeps KX (fun i hi => ⟨hNo i hi, .inr (by omega)⟩)⟩, (HFb.out.keep KX (fun i hi => .inl (.inl (by omega)))).sub hSub, (HDb.out.keep KX (fun i hi => .inl (.inl (by omega)))).sub hSub, HKF.out.then KX (fun i hi => .inr (by omega)), fun _ h => .inl h, fun i hi => ?_⟩
  exact hi.elim .inl (fun h => (HNew.out i h).elim .inl (fun h => .inr (by omega)))
end Go.Proofs.YtmckbcbdnckngaaGreatDoor

namespace Go.Proofs.YtmckbcbdnckngaaGreatDoor
open Go.RowKit

theorem e3 : errV 3 = .iface 63 (.int .i64 3) := rfl
set_option maxHeartbeats 4000000 in
set_option maxRecDepth 100000 in
theorem or_PubNil (t : Int) (addr : ByteArray) (status : Int) (fA bA vA : Option Addr) (fn fc bn bc vn vc : Nat) (w : World) :
    Calls Tryz.prog 14 #[.pointer none, .int .i64 t, .agg #[.string addr, .int .i64 status, .slice fA fn fc, .slice bA bn bc, .slice vA vn vc]] w fun e w' => e = .returned (.tuple #[.int .i64 0, errV 3]) ∧ Ext w w' := by
  rw [e3]
  have HC := Lib.hid (fun w' => or_clip t w')
  go_enter Tryz.func14, Tryz.ntmps14
  go_wp2_with fail
  refine (HC.out _).mono ?_; rintro e w1 ⟨rfl, rfl⟩
  go_wp2_with fail
  go_ret2
  exact ⟨rfl, (Ext.refl w).alloc _⟩
set_option maxHeartbeats 4000000 in
set_option maxRecDepth 100000 in
theorem or_WdNil (t : Int) (text : ByteArray) (w : World) :
    Calls Tryz.prog 34 #[.pointer none, .int .i64 t, .string text] w fun e w' => e = .returned (.tuple #[.int .i64 0, errV 3]) ∧ Ext w w' := by
  have kc := fun (w : World) (C : Array Value) (n c : Nat) => Lib.run_convert_bytes_const (P := Tryz.prog) w 23 5 C n c Tryz.underlying23 Tryz.underlying5
  go_enter Tryz.func34, Tryz.ntmps34
  go_wp2_with fail
  refine (or_brief _).mono ?_; rintro e w1 ⟨⟨sA, sn, sc⟩, rfl, -, -, hb1⟩
  simp only [Sl.v]
  go_wp2_with fail
  refine (or_PubNil t text 404 _ _ _ _ _ _ _ _ _ _).mono ?_; rintro e w2 ⟨rfl, hb2⟩
  have hE := (hb1.alloc (.cells #[.int .u8 103, .int .u8 111, .int .u8 110, .int .u8 101] 5 (4, 5))).trans hb2
  rw [e3]
  clear hb1 hb2
  go_wp2_with fail
  go_ret2
  exact ⟨rfl, hE⟩
def x_go : ByteArray := ⟨#[103, 111, 110, 101]⟩
theorem gone_cells : bytC x_go = (#[.int .u8 103, .int .u8 111, .int .u8 110, .int .u8 101] : Array Value).toList := by kernel_rfl
theorem gone_rs (w : World) : RS (fun _ => False) (w.alloc (.cells #[.int .u8 103, .int .u8 111, .int .u8 110, .int .u8 101] 5 (4, 5))) 1 ⟨some ⟨w.heap.size, 0, none⟩, 4, 4⟩ (bytC x_go) := by
  rw [gone_cells]
  refine ⟨⟨rfl, fun _ => ⟨_, _, rfl, fun j u hu => ?_⟩⟩, fun _ _ _ hf => hf, Nat.le_refl _⟩
  rw [Nat.zero_add, World.cell?_alloc_mark, ← Array.getElem?_toList]
  exact hu
/-- The version that Withdraw publishes. -/
def goneV (text : ByteArray) : Ver := ⟨text, 404, brief, x_go, []⟩
set_option maxHeartbeats 4000000 in
set_option maxRecDepth 100000 in
theorem or_Withdraw {Q R : Nat → Prop} {p : Nat} {o : Org} {M : OM} {t : Int} {text : ByteArray} {w : World} (hO : OrgP w p R Q o M) (ht : text.size ≤ 1048576) {x : Int} {k : Nat} {o2 : Org} (hp : pubS o t (goneV text) = (x, k, o2)) (hg : Gl w) :
    Calls Tryz.prog 34 #[.pointer (some ⟨p, 0, none⟩), .int .i64 t, .string text] w fun e w' => e = .returned (.tuple #[.int .i64 x, errV k]) ∧
      ∃ R', (∃ M', OrgP w' p R' (fun i => (Q i ∧ i < w.heap.size) ∨ R' i) o2 M') ∧ Keeps R w w' ∧ (∀ i, R i → R' i) ∧ (∀ i, R' i → R i ∨ w.heap.size ≤ i) := by
  have kc := fun (w : World) (C : Array Value) (n c : Nat) => Lib.run_convert_bytes_const (P := Tryz.prog) w 23 5 C n c Tryz.underlying23 Tryz.underlying5
  have HO := Lib.hid hO; have HP := Lib.hid hp; have Hg := Lib.hid hg
  clear hO hp hg
  go_enter Tryz.func34, Tryz.ntmps34
  go_wp2_with fail
  refine (or_brief _).mono ?_; rintro e w1 ⟨⟨sA, sn, sc⟩, rfl, hsn, hs1, hb1⟩
  simp only at hsn
  subst hsn
  simp only [Sl.v]
  have hX := (Ext.refl w1).alloc (.cells #[.int .u8 103, .int .u8 111, .int .u8 110, .int .u8 101] 5 (4, 5))
  have hm : (⟨text, 404, brief, x_go, [], ⟨sA, 1, sc⟩, ⟨some ⟨w1.heap.size, 0, none⟩, 4, 4⟩, sl0⟩ : MV).At (fun _ => False) (w1.alloc (.cells #[.int .u8 103, .int .u8 111, .int .u8 110, .int .u8 101] 5 (4, 5))) := by
    exact ⟨(hs1.ext hX).sub (fun _ hf => hf.elim), gone_rs w1, RS.nil _ _ _, fun x hx => by cases hx⟩
  have HPu := Lib.hid (pub_v (HO.out.ext (hb1.trans hX)) hm (v := goneV text) rfl ⟨ht, by show 1 ≤ _; omega, by show sumF brief ≤ _; decide, by show x_go.size ≤ _; decide, by show 0 ≤ _; omega, fun x hx => by cases hx⟩ HP.out (Hg.out.ext (hb1.trans hX)))
  have HE := Lib.hid (hb1.trans hX)
  have Hlow := Lib.hid HO.out.low
  clear hs1 hm hb1 hX
  simp only [MV.cells, Sl.v, sl0] at HPu
  go_wp2_with fail
  refine HPu.out.mono ?_; rintro e w3 ⟨rfl, R', ⟨M', hO'⟩, hk, hRa, hRb⟩
  have HC := Lib.hid (show ∃ R', (∃ M', OrgP w3 p R' (fun i => (Q i ∧ i < w.heap.size) ∨ R' i) o2 M') ∧ Keeps R w w3 ∧ (∀ i, R i → R' i) ∧ (∀ i, R' i → R i ∨ w.heap.size ≤ i) from
    ⟨R', ⟨M', hO'.more (fun i hi => .inl (hi.elim (fun h => .inl ⟨h.1, Nat.lt_of_lt_of_le h.2 HE.out.size⟩) .inr)) (fun b hb => .inr hb)⟩, (Keeps.of HE.out).trans hk, hRa, fun i hi => (hRb i hi).imp id (fun h => Nat.le_trans HE.out.size h)⟩)
  clear hO' hk hRa hRb HPu
  go_wp2_with fail
  go_ret2
  exact ⟨rfl, HC.out⟩
set_option maxHeartbeats 4000000 in
set_option maxRecDepth 100000 in
theorem or_AtNil (t : Int) (text : ByteArray) (w : World) :
    Calls Tryz.prog 33 #[.pointer none, .string text, .int .i64 t] w fun e w' => e = .returned (.tuple #[.agg #[.string ⟨#[]⟩, .int .i64 0, .slice none 0 0, .slice none 0 0, .slice none 0 0], .int .i64 0, errV 3]) ∧ Ext w w' := by
  rw [e3]
  have hB := Blk.new w 36 #[.string ⟨#[]⟩, .int .i64 0, .slice none 0 0, .slice none 0 0, .slice none 0 0]
  have hX := (Ext.refl w).alloc (.cells #[.string ⟨#[]⟩, .int .i64 0, .slice none 0 0, .slice none 0 0, .slice none 0 0] 36)
  have y0 := hB.cell 0; have y1 := hB.cell 1; have y2 := hB.cell 2; have y3 := hB.cell 3; have y4 := hB.cell 4
  simp only [List.getElem?_toArray, List.getElem?_cons_succ, List.getElem?_cons_zero] at y0 y1 y2 y3 y4
  go_enter Tryz.func33, Tryz.ntmps33
  go_wp2_with fail
  refine bodyPost_ret (v := .tuple #[.agg #[.string ⟨#[]⟩, .int .i64 0, .slice none 0 0, .slice none 0 0, .slice none 0 0], .int .i64 0, .iface 63 (.int .i64 3)]) (by simp [results, Tryz.results33, go_sem, y0, y1, y2, y3, y4]) rfl ?_
  exact ⟨rfl, hX⟩
set_option maxHeartbeats 4000000 in
set_option maxRecDepth 100000 in
theorem or_AnsNil (t : Int) (me ta : ByteArray) (rA : Option Addr) (rn rc : Nat) (w : World) :
    Calls Tryz.prog 15 #[.pointer none, .int .i64 t, .agg #[.string me, .string ta, .slice rA rn rc]] w fun e w' => e = .returned (.tuple #[.agg #[.int .i64 0, .slice none 0 0], .slice none 0 0]) ∧ Ext w w' := by
  have hX := ((Ext.refl w).alloc (.cells #[.string me, .string ta, .slice rA rn rc] 42)).alloc (.cells #[.int .i64 0, .slice none 0 0] 38)
  have hB := Blk.new (w.alloc (.cells #[.string me, .string ta, .slice rA rn rc] 42)) 38 #[.int .i64 0, .slice none 0 0]
  rw [show (w.alloc (.cells #[.string me, .string ta, .slice rA rn rc] 42)).heap.size = w.heap.size + 1 by simp] at hB
  have y0 := hB.cell 0; have y1 := hB.cell 1
  simp only [List.getElem?_toArray, List.getElem?_cons_succ, List.getElem?_cons_zero] at y0 y1
  go_enter Tryz.func15, Tryz.ntmps15
  go_wp2_with fail
  refine bodyPost_ret (v := .tuple #[.agg #[.int .i64 0, .slice none 0 0], .slice none 0 0]) (by simp [results, Tryz.results15, go_sem, y0, y1]) rfl ?_
  exact ⟨rfl, hX⟩
set_option maxHeartbeats 4000000 in
set_option maxRecDepth 100000 in
theorem or_BrNil (a b : Int) (w : World) : Calls Tryz.prog 36 #[.pointer none, .int .i64 a, .int .i64 b] w fun e w' => e = .returned (errV 3) ∧ w' = w := by
  rw [e3]
  go_enter Tryz.func36, Tryz.ntmps36
  go_wp2_with fail
  go_ret
  exact ⟨rfl, rfl⟩
set_option maxHeartbeats 4000000 in
set_option maxRecDepth 100000 in
theorem or_RqNil (w : World) : Calls Tryz.prog 37 #[.pointer none] w fun e w' => e = .returned (.slice none 0 0) ∧ w' = w := by
  go_enter Tryz.func37, Tryz.ntmps37
  go_wp2_with fail
  go_ret
  exact ⟨rfl, rfl⟩
end Go.Proofs.YtmckbcbdnckngaaGreatDoor

namespace Go.Proofs.YtmckbcbdnckngaaGreatDoor
open Go.RowKit

/-- The cells of one published version. -/
theorem OrgP.vcell {w : World} {p : Nat} {R Q : Nat → Prop} {o : Org} {M : OM} (h : OrgP w p R Q o M) {k : Nat} (hk : k < o.vs.length) :
    ∃ (g c : Nat) (x : Int × MV), M.vs.v = .slice (some ⟨g, 0, none⟩) o.vs.length c ∧ o.vs[k]? = some (x.1, x.2.ver) ∧ x.2.At Q w ∧ (∀ i u, x.2.cells[i]? = some u → w.cell? ⟨g, k * 6 + 1 + i, none⟩ = some u) := by
  obtain ⟨h1, h2⟩ := h.vsn
  have hkm : k < M.mv.length := by omega
  obtain ⟨A, c, e, hle⟩ := own_shape h.vs
  have hv := h.vs
  rw [e] at hv
  have hr := Rd.of_own hv
  obtain ⟨g, of, e2, hc⟩ := hr.2 (by rw [pubC_len]; omega)
  subst e2
  have hof : of = 0 := by
    rcases hv.2 with ⟨hn, _⟩ | ⟨g', cap, cur, e3, _⟩
    · cases hn
    · injection e3 with e3; injection e3 with e3; injection e3
  subst hof
  refine ⟨g, c, M.mv[k], e, ?_, h.mem _ (List.getElem_mem hkm), fun i u hu => ?_⟩
  · rw [← h.ver, List.getElem?_map, List.getElem?_eq_getElem hkm]; rfl
  · have hi : i < 5 := by
      have := (List.getElem?_eq_some_iff.1 hu).1
      simpa [MV.cells] using this
    have hf := flat_at pubC 6 (fun _ => rfl) M.mv k (1 + i) hkm (by omega)
    have h9 := hc (k * 6 + (1 + i)) u (by rw [hf]; rw [Nat.add_comm 1 i]; exact hu)
    rw [Nat.zero_add] at h9
    rw [Nat.add_assoc]; exact h9
set_option maxHeartbeats 8000000 in
set_option maxRecDepth 100000 in
theorem or_At (Q R : Nat → Prop) (p : Nat) (o : Org) (M : OM) (text : ByteArray) (t : Int) (w : World) (hO : OrgP w p R Q o M) :
    Calls Tryz.prog 33 #[.pointer (some ⟨p, 0, none⟩), .string text, .int .i64 t] w fun e w' => Ext w w' ∧ ((findS o.vs text (cl55 t) = 0 ∧ e = .returned (.tuple #[.agg #[.string ⟨#[]⟩, .int .i64 0, .slice none 0 0, .slice none 0 0, .slice none 0 0], .int .i64 0, errV 3])) ∨
      ∃ (n : Nat) (q : Int × Ver) (m' : MV), findS o.vs text (cl55 t) = n + 1 ∧ o.vs[n]? = some q ∧ m'.ver = q.2 ∧ m'.At (fun i => i < w.heap.size) w' ∧ e = .returned (.tuple #[.agg m'.cells.toArray, .int .i64 ((n + 1 : Nat) : Int), .nilIface])) := by
  rw [e3]
  have HO := Lib.hid hO
  have HC := Lib.hid (fun w' => or_clip t w')
  have hB := Blk.new w 36 #[.string ⟨#[]⟩, .int .i64 0, .slice none 0 0, .slice none 0 0, .slice none 0 0]
  have HX := Lib.hid ((Ext.refl w).alloc (.cells #[.string ⟨#[]⟩, .int .i64 0, .slice none 0 0, .slice none 0 0, .slice none 0 0] 36))
  have HF := Lib.hid (or_find Q R p o M text (cl55 t) _ (hO.ext HX.out))
  have HFl := Lib.hid (fnd_le o.vs text (cl55 t))
  obtain ⟨n0, hn0⟩ : ∃ n, findS o.vs text (cl55 t) = n := ⟨_, rfl⟩
  rw [hn0] at HF HFl ⊢
  have HB := Lib.hid hB
  clear hO hB hn0
  cases n0 with
  | zero =>
    go_enter Tryz.func33, Tryz.ntmps33
    go_wp2_with fail
    refine (HC.out _).mono ?_; rintro e w1 ⟨rfl, rfl⟩
    go_wp2_with fail
    refine HF.out.mono ?_; rintro e w2 ⟨rfl, hb2⟩
    have HX2 := Lib.hid (HX.out.trans hb2)
    have HB2 := Lib.hid (HB.out.ext hb2)
    clear hb2 HF
    go_wp2_with (first | (refine wpList_storeB rfl 36 (.tmp 6) (.tmp 21) rfl rfl w.heap.size _ rfl rfl 36 _ HB2.out infoVe rfl (by simp [Value.oneCell']) ?_; intro w9 hB9 hx9))
    have y0 := hB9.cell 0; have y1 := hB9.cell 1; have y2 := hB9.cell 2; have y3 := hB9.cell 3; have y4 := hB9.cell 4
    simp only [List.getElem?_toArray, List.getElem?_cons_succ, List.getElem?_cons_zero] at y0 y1 y2 y3 y4
    have hE9 := HX2.out.growB hx9 (Nat.le_refl _)
    refine bodyPost_ret (v := .tuple #[.agg #[.string ⟨#[]⟩, .int .i64 0, .slice none 0 0, .slice none 0 0, .slice none 0 0], .int .i64 0, .iface 63 (.int .i64 3)]) (by simp [results, Tryz.results33, go_sem, y0, y1, y2, y3, y4]) rfl ?_
    exact ⟨hE9, .inl ⟨by trivial, rfl⟩⟩
  | succ n =>
    obtain ⟨g, c, ⟨at9, m⟩, hvs, hq, hmA, hcl⟩ := HO.out.vcell (k := n) (by have := HFl.out; omega)
    have hvb := (HO.out.bd _ (List.mem_of_getElem? hq)).1
    simp only at hmA hcl hq hvb
    have Hq := Lib.hid hq
    have hlen : o.vs.length ≤ 4096 := HO.out.few
    have HLn := Lib.hid (show n < o.vs.length from by have := HFl.out; omega)
    have HP := Lib.hid (fun w' (hx : Ext w w') => ((HO.out.ext hx).blk).cell 0)
    simp only [List.getElem?_toArray, List.getElem?_cons_zero, hvs] at HP
    have HCl := Lib.hid (fun w' (hx : Ext w w') => or_clone Q m w' (hmA.ext hx) (by have := hvb.fs.1; show m.f.length ≤ _; have h2 : m.ver.fs = m.f := rfl; rw [h2] at this; omega) (by have := hvb.body; have h2 : m.ver.body = m.body := rfl; rw [h2] at this; omega) (by have := hvb.vars; have h2 : m.ver.vars = m.vars.map (·.1) := rfl; rw [h2, List.length_map] at this; omega) (fun x hx2 => by have := hvb.each x.1 (List.mem_map.2 ⟨x, hx2, rfl⟩); exact ⟨this.1, by omega⟩))
    have HD := Lib.hid (fun w' (hx : Ext w w') => (⟨hx.cell (hcl 0 _ rfl), hx.cell (hcl 1 _ rfl), hx.cell (hcl 2 _ rfl), hx.cell (hcl 3 _ rfl), hx.cell (hcl 4 _ rfl)⟩ : w'.cell? ⟨g, n * 6 + 1, none⟩ = some (.string m.addr) ∧ w'.cell? ⟨g, n * 6 + 2, none⟩ = some (.int .i64 m.status) ∧ w'.cell? ⟨g, n * 6 + 3, none⟩ = some m.fs.v ∧ w'.cell? ⟨g, n * 6 + 4, none⟩ = some m.bd.v ∧ w'.cell? ⟨g, n * 6 + 5, none⟩ = some m.vr.v))
    have HMc := Lib.hid (show m.cells.toArray = #[.string m.addr, .int .i64 m.status, m.fs.v, m.bd.v, m.vr.v] from rfl)
    rw [HMc.out] at HCl
    clear hmA hcl hvb hvs hq
    obtain ⟨vv, hvv⟩ : ∃ v, m.ver = v := ⟨_, rfl⟩
    rw [hvv] at HCl Hq
    generalize m.fs.v = vfs at *
    generalize m.bd.v = vbd at *
    generalize m.vr.v = vvr at *
    generalize m.addr = ad at *
    generalize m.status = st at *
    go_enter Tryz.func33, Tryz.ntmps33
    go_wp2_with fail
    refine (HC.out _).mono ?_; rintro e w1 ⟨rfl, rfl⟩
    go_wp2_with fail
    refine HF.out.mono ?_; rintro e w2 ⟨rfl, hb2⟩
    have HX2 := Lib.hid (HX.out.trans hb2)
    have HB2 := Lib.hid (HB.out.ext hb2)
    have hp0 := HP.out _ HX2.out
    obtain ⟨d0, d1, d2, d3, d4⟩ := HD.out _ HX2.out
    have hln := HLn.out
    clear hb2 HF
    go_wp2_with fail
    refine (HCl.out _ HX2.out).mono ?_; rintro e w3 ⟨m', rfl, hver, hAt, hb3⟩
    have HX3 := Lib.hid (HX2.out.trans hb3)
    have HB3 := Lib.hid (HB2.out.ext hb3)
    have Hlt := Lib.hid HB2.out.lt
    have HAt := Lib.hid hAt
    have HMc2 := Lib.hid (show m'.cells.toArray = #[.string m'.addr, .int .i64 m'.status, m'.fs.v, m'.bd.v, m'.vr.v] from rfl)
    rw [HMc2.out]
    clear hb3 hAt hp0 d0 d1 d2 d3 d4 hln
    go_wp2_with (first | (refine wpList_storeB rfl 36 (.tmp 6) (.tmp 32) rfl rfl w.heap.size _ rfl rfl 36 _ HB3.out infoVe rfl (by simp [Value.oneCell', Sl.v]) ?_; intro w9 hB9 hx9))
    have y0 := hB9.cell 0; have y1 := hB9.cell 1; have y2 := hB9.cell 2; have y3 := hB9.cell 3; have y4 := hB9.cell 4
    simp only [List.getElem?_toArray, List.getElem?_cons_succ, List.getElem?_cons_zero] at y0 y1 y2 y3 y4
    have hE9 := HX3.out.growB hx9 (Nat.le_refl _)
    refine bodyPost_ret (v := .tuple #[.agg #[.string m'.addr, .int .i64 m'.status, m'.fs.v, m'.bd.v, m'.vr.v], .int .i64 ((n + 1 : Nat) : Int), .nilIface]) (by simp [results, Tryz.results33, go_sem, y0, y1, y2, y3, y4]) rfl ?_
    have hK : Keeps (fun i => i = w.heap.size) w3 w9 := Keeps.grown (Keeps.refl _ w3) hx9 (fun b hb => .inl (by injection hb with hb; exact hb.symm))
    refine ⟨hE9, .inr ⟨n, _, m', rfl, Hq.out, hver, ?_, rfl⟩⟩
    have h9 := HAt.out.keep hK (fun i hi => .inl (by rw [show i = w.heap.size from hi]; exact Hlt.out))
    exact h9.more (fun i hi => .inl (Nat.lt_of_lt_of_le hi HX2.out.size))
end Go.Proofs.YtmckbcbdnckngaaGreatDoor

namespace Go.Proofs.YtmckbcbdnckngaaGreatDoor
open Go.RowKit

set_option maxHeartbeats 8000000 in
set_option maxRecDepth 100000 in
theorem law_pageN (body : ByteArray) (A : Option Addr) (n c : Nat) (fs : List Fd) (w : World) (hr : RdF w A n fs) (hn : n ≤ 1000) (hb : body.size ≤ 1048576) :
    Calls Tryz.prog 20 #[.string body, .slice A n c] w fun e w' => ∃ m : MV, e = .returned (.agg m.cells.toArray) ∧ m.ver = pageV body fs ∧ m.vr = sl0 ∧ RSN (fun i => i < w.heap.size) w' 2 m.fs (fldCells ((x_et, x_q1) :: fs)) ∧ (∃ b c, m.bd = ⟨some ⟨b, 0, none⟩, body.size, c⟩ ∧ (0 < body.size → w'.frozen? ⟨b, 0, none⟩ = false)) ∧ m.At (fun i => i < w.heap.size) w' ∧ Ext w w' := by
  have HW := Lib.hid ((Ext.refl w).alloc (.cells #[.string ⟨#[]⟩, .int .i64 0, .slice none 0 0, .slice none 0 0, .slice none 0 0] 36))
  have HB := Lib.hid (Blk.new w 36 #[.string ⟨#[]⟩, .int .i64 0, .slice none 0 0, .slice none 0 0, .slice none 0 0])
  have hbs := fun w => run_bytes_of_string (P := Tryz.prog) w 9 23 5 body Tryz.underlying9 Tryz.underlying23 Tryz.underlying5
  go_enter Tryz.func20, Tryz.ntmps20
  go_wp2_with (at_builtin; refine wpList_app2 _ rfl (.tmp 6) (.tmp 7) 33 32 rfl w 51 51 _ 2 32 Tryz.underlying33 Tryz.underlying32 info_cln_F (by simp [Value.cells]) (by decide) _ 1 (fldCells [(x_et, x_q1)]) rfl ?qa A n c (fldCells fs) rfl (hr.ext (HW.out.alloc _)) (fldCells_one _) (HW.out.alloc _) (by omega) (by decide) ?qb)
  case qa =>
    rw [show w.heap.size + 1 = (w.alloc (.cells #[.string ⟨#[]⟩, .int .i64 0, .slice none 0 0, .slice none 0 0, .slice none 0 0] 36)).heap.size by simp]
    exact World.ownsRow_lit _ _ 1 (by simp) (by decide) rfl
  case qb =>
    intro A2 c2 w2 hown hb2 hle hg2
    have HBw := Lib.hid ((HB.out.alloc (.cells #[.string x_et, .string x_q1] 51)).grown hg2 (by simp [Value.ownBlock]))
    generalize hcap : grownCap w2 body.size 0 5 = cap at *
    have hcs : body.size ≤ cap := by rw [← hcap]; exact grownCap_ge _ _ _ _
    go_wp2_with (first | (refine wpList_storeB rfl 36 (.tmp 4) (.tmp 11) rfl rfl w.heap.size _ rfl rfl 36 _ (HBw.out.ext ((Ext.refl w2).alloc _).drew) infoVe rfl (by simp [Value.oneCell']) ?_; intro w9 hB9 hx9))
    have y0 : w9.cell? ⟨w.heap.size, 0, none⟩ = some (.string x_ad) := hB9.cell 0
    have y1 : w9.cell? ⟨w.heap.size, 1, none⟩ = some (.int .i64 200) := hB9.cell 1
    have y2 : w9.cell? ⟨w.heap.size, 2, none⟩ = some (.slice A2 (1 + n) c2) := hB9.cell 2
    have y3 : w9.cell? ⟨w.heap.size, 3, none⟩ = some (.slice (some ⟨w2.heap.size, 0, none⟩) body.size cap) := hB9.cell 3
    have y4 : w9.cell? ⟨w.heap.size, 4, none⟩ = some (.slice none 0 0) := hB9.cell 4
    refine bodyPost_ret (v := .agg #[.string x_ad, .int .i64 200, .slice A2 (1 + n) c2, .slice (some ⟨w2.heap.size, 0, none⟩) body.size cap, .slice none 0 0]) (by simp [results, Tryz.results20, go_sem, y0, y1, y2, y3, y4]) rfl ?_
    have hEb := ((Ext.refl w2).alloc (.cells (bytesRow body cap) 5 ((bytesRow body cap).size, (bytesRow body cap).size + 1))).drew
    have hRB : RS (fun i => i < w2.heap.size) ((w2.alloc (.cells (bytesRow body cap) 5 ((bytesRow body cap).size, (bytesRow body cap).size + 1))).drew) 1 ⟨some ⟨w2.heap.size, 0, none⟩, body.size, cap⟩ (bytC body) := ⟨⟨by rw [bytC_len]; simp, fun _ => ⟨_, _, rfl, fun j u hu => by
      have hj : j < body.size := by
        have := (List.getElem?_eq_some_iff.1 hu).1
        rw [bytC_len] at this; exact this
      show (w2.alloc _).cell? _ = _
      rw [Nat.zero_add, World.cell?_alloc_mark, bytesRow_at body cap j hj]
      unfold bytC at hu
      rw [List.getElem?_map, List.getElem?_eq_getElem (by simpa using hj)] at hu
      rw [← hu]; rfl⟩⟩, fun _ a ha hb => by simp only [Option.some.injEq] at ha; subst ha; simp at hb, hcs⟩
    have hfz : 0 < body.size → ((w2.alloc (.cells (bytesRow body cap) 5 ((bytesRow body cap).size, (bytesRow body cap).size + 1))).drew).frozen? ⟨w2.heap.size, 0, none⟩ = false := fun h0 => by
      have h1 := bytesRow_at body cap 0 h0
      have h2 : 0 < (bytesRow body cap).size := (Array.getElem?_eq_some_iff.1 h1).1
      show (w2.alloc (.cells (bytesRow body cap) 5 ((bytesRow body cap).size, (bytesRow body cap).size + 1))).frozen? _ = false
      unfold World.frozen?
      rw [show (w2.alloc (.cells (bytesRow body cap) 5 ((bytesRow body cap).size, (bytesRow body cap).size + 1))).heap[w2.heap.size]? = some (.cells (bytesRow body cap) 5 ((bytesRow body cap).size, (bytesRow body cap).size + 1)) by
        show (w2.heap.push _)[w2.heap.size]? = _
        simp]
      show (decide ((bytesRow body cap).size ≤ 0) && decide (0 < (bytesRow body cap).size + 1)) = false
      rw [decide_eq_false (by omega)]; rfl
    have hltB : w2.heap.size < ((w2.alloc (.cells (bytesRow body cap) 5 ((bytesRow body cap).size, (bytesRow body cap).size + 1))).drew).heap.size := by
      show w2.heap.size < (w2.alloc _).heap.size
      simp
    generalize (w2.alloc (.cells (bytesRow body cap) 5 ((bytesRow body cap).size, (bytesRow body cap).size + 1))).drew = wB at *
    have KX : Keeps (fun i => i = w.heap.size) wB w9 := Keeps.grown (Keeps.refl _ wB) hx9 (fun b hb => .inl (by injection hb with hb; exact hb.symm))
    have ho9 := own_keepS (own_ext hown hEb) KX (own_ne (own_ext hown hEb) (HBw.out.ext hEb) (by decide))
    obtain ⟨s, hs, hsn, hr9⟩ := RS.own ho9
    have hlt : w.heap.size < w2.heap.size := HBw.out.lt
    refine ⟨⟨x_ad, 200, (x_et, x_q1) :: fs, body, [], s, ⟨some ⟨w2.heap.size, 0, none⟩, body.size, cap⟩, sl0⟩, by rw [hs]; rfl, rfl, rfl, RSN.of_own (by rw [← hs]; exact ho9) hr9, ⟨_, _, rfl, fun h0 => (frozen_blk (KX.block _ hltB (fun h => by omega)) 0).trans (hfz h0)⟩, ⟨hr9, ?_, RS.nil _ _ _, fun x hx => by cases hx⟩, (hb2.trans hEb).growB hx9 (Nat.le_refl _)⟩
    exact (hRB.keep KX (fun i hi => .inl (by show i < _; omega))).sub (fun i hi => by show i < _; omega)
set_option maxHeartbeats 16000000 in
set_option maxRecDepth 100000 in
theorem or_cloneN (Q : Nat → Prop) (m : MV) (w : World) (h : m.At Q w) (hfn : m.f.length ≤ 1048576) (hbn : m.body.size ≤ 1099511627776) (hvn : m.vars.length ≤ 1048576)
    (hx : ∀ x ∈ m.vars, x.1.names.length ≤ 1048576 ∧ x.1.body.size ≤ 1099511627776) :
    Calls Tryz.prog 43 #[.agg m.cells.toArray] w fun e w' => ∃ m' : MV, e = .returned (.agg m'.cells.toArray) ∧ m'.ver = m.ver ∧ m'.At (fun i => i < w.heap.size) w' ∧ Ext w w' ∧ RSN (fun i => i < w.heap.size) w' 1 m'.bd (bytC m'.body) := by
  have hfl := h.fs.rd.lenF
  have hvl := h.vlen
  have hbl : m.body.size = m.bd.n := by have := h.bd.len1; rw [bytC_len] at this; exact this
  have HF := Lib.hid (fun w' (hh : Ext w w') => cln_F m.fs (fldCells m.f) w' (h.fs.rd.ext hh) (fdCells_one _) (by omega))
  have HB := Lib.hid (fun w' (hh : Ext w w') => cln_B m.bd (bytC m.body) w' (h.bd.rd.ext hh) (bytC_one _) (by omega))
  have HV := Lib.hid (fun w' (hh : Ext w w') => cln_V m.vr (vrsC m.vars) w' (h.vr.rd.ext hh) (vrsC_one _) (by omega))
  have Hv := Lib.hid (h.each); have Hvl := Lib.hid hvl; have Hx := Lib.hid hx
  have hvn2 : m.vr.n ≤ 1048576 := by omega
  clear h hfl hbl hvl hx hfn hbn hvn
  obtain ⟨addr, status, f, body, vars, ⟨fA, fn, fc⟩, ⟨bA, bn, bc⟩, ⟨vA, vn, vc⟩⟩ := m
  simp only [MV.cells, Sl.v] at *
  have hHX := Lib.hid ((Blk.new w 36 #[.string addr, .int .i64 status, .slice fA fn fc, .slice bA bn bc, .slice vA vn vc]).alloc (.cells #[.string ⟨#[]⟩, .int .i64 0, .slice none 0 0, .slice none 0 0, .slice none 0 0] 36))
  have hHY := Lib.hid (Blk.new (w.alloc (.cells #[.string addr, .int .i64 status, .slice fA fn fc, .slice bA bn bc, .slice vA vn vc] 36)) 36 #[.string ⟨#[]⟩, .int .i64 0, .slice none 0 0, .slice none 0 0, .slice none 0 0])
  have hHW := Lib.hid (((Ext.refl w).alloc (.cells #[.string addr, .int .i64 status, .slice fA fn fc, .slice bA bn bc, .slice vA vn vc] 36)).alloc (.cells #[.string ⟨#[]⟩, .int .i64 0, .slice none 0 0, .slice none 0 0, .slice none 0 0] 36))
  go_enter Tryz.func43, Tryz.ntmps43
  go_wp2_with fail
  have hsz1 : (w.alloc (.cells #[.string addr, .int .i64 status, .slice fA fn fc, .slice bA bn bc, .slice vA vn vc] 36)).heap.size = w.heap.size + 1 := by simp
  have hsz2 : ((w.alloc (.cells #[.string addr, .int .i64 status, .slice fA fn fc, .slice bA bn bc, .slice vA vn vc] 36)).alloc (.cells #[.string ⟨#[]⟩, .int .i64 0, .slice none 0 0, .slice none 0 0, .slice none 0 0] 36)).heap.size = w.heap.size + 2 := by simp
  rw [hsz1] at hHY
  (try rw [hsz1])
  generalize ((w.alloc (.cells #[.string addr, .int .i64 status, .slice fA fn fc, .slice bA bn bc, .slice vA vn vc] 36)).alloc (.cells #[.string ⟨#[]⟩, .int .i64 0, .slice none 0 0, .slice none 0 0, .slice none 0 0] 36)) = W0 at *
  clear hsz1
  generalize hb1 : w.heap.size = b1 at *
  have HW := hHW; have HX := hHX; have HY := hHY
  have hE := (Ext.refl W0).drew
  have HS := Lib.hid (fun w' (hh : Ext W0 w') => (⟨(HX.out.ext hh).cell 2, (HX.out.ext hh).cell 3, (HX.out.ext hh).cell 4⟩ : w'.cell? ⟨b1, 2, none⟩ = some (.slice fA fn fc) ∧ w'.cell? ⟨b1, 3, none⟩ = some (.slice bA bn bc) ∧ w'.cell? ⟨b1, 4, none⟩ = some (.slice vA vn vc)))
  refine wp_region_U (S := (fun w' => w'.cell? ⟨b1, 2, none⟩ = some (.slice fA fn fc) ∧ w'.cell? ⟨b1, 3, none⟩ = some (.slice bA bn bc) ∧ w'.cell? ⟨b1, 4, none⟩ = some (.slice vA vn vc))) 10 (by kernel_rfl) ?_ (fun hHeld => ?_)
  · (try dsimp only); exact HS.out _ hE
  refine wpAnyU_takeW (i := 0) (oi := { dst := some 5, op := _, type := _, pos := _, after := _, guard := _ }) (v := ?_) (by kernel_rfl) rfl (by kernel_rfl) (by kernel_rfl) (by kernel_rfl) (fun _ _ _ h => h) (Or.inl ⟨by rfl, ?_⟩) (by assumption) ?_
  rotate_left
  · (intro w hSw; (try dsimp only at hSw); go_simp; (try with_reducible rfl))
  (try simp only [Act.put, List.setIfInBounds_toArray, List.set_cons_zero, List.set_cons_succ])
  refine wpAnyU_take (i := 1) (oi := { dst := some 6, op := _, type := _, pos := _, after := _, guard := _ }) (v := ?_) [2, 5, 8, 9, 10, 11, 12, 13, 14] (by kernel_rfl) (by kernel_rfl) (by kernel_rfl) (by kernel_rfl) rfl (by kernel_rfl) (by kernel_rfl) (by kernel_rfl) (fun _ _ _ h => h) (Or.inl ⟨by rfl, ?_⟩) (by assumption) ?_
  rotate_left
  · (intro w hSw; (try dsimp only at hSw); go_simp; (try with_reducible rfl))
  (try simp only [Act.put, List.setIfInBounds_toArray, List.set_cons_zero, List.set_cons_succ])
  refine wpAnyU_takeW (i := 3) (oi := { dst := some 8, op := _, type := _, pos := _, after := _, guard := _ }) (v := ?_) (by kernel_rfl) rfl (by kernel_rfl) (by kernel_rfl) (by kernel_rfl) (fun _ _ _ h => h) (Or.inl ⟨by rfl, ?_⟩) (by assumption) ?_
  rotate_left
  · (intro w hSw; (try dsimp only at hSw); go_simp; (try with_reducible rfl))
  (try simp only [Act.put, List.setIfInBounds_toArray, List.set_cons_zero, List.set_cons_succ])
  refine wpAnyU_take (i := 4) (oi := { dst := some 9, op := _, type := _, pos := _, after := _, guard := _ }) (v := ?_) [5, 8, 9, 10, 11, 12, 13, 14] (by kernel_rfl) (by kernel_rfl) (by kernel_rfl) (by kernel_rfl) rfl (by kernel_rfl) (by kernel_rfl) (by kernel_rfl) (fun _ _ _ h => h) (Or.inl ⟨by rfl, ?_⟩) (by assumption) ?_
  rotate_left
  · (intro w hSw; (try dsimp only at hSw); go_simp; (try with_reducible rfl))
  (try simp only [Act.put, List.setIfInBounds_toArray, List.set_cons_zero, List.set_cons_succ])
  refine wpAnyU_takeW (i := 6) (oi := { dst := some 11, op := _, type := _, pos := _, after := _, guard := _ }) (v := ?_) (by kernel_rfl) rfl (by kernel_rfl) (by kernel_rfl) (by kernel_rfl) (fun _ _ _ h => h) (Or.inl ⟨by rfl, ?_⟩) (by assumption) ?_
  rotate_left
  · (intro w hSw; (try dsimp only at hSw); go_simp; (try with_reducible rfl))
  (try simp only [Act.put, List.setIfInBounds_toArray, List.set_cons_zero, List.set_cons_succ])
  refine wpAnyU_take (i := 7) (oi := { dst := some 12, op := _, type := _, pos := _, after := _, guard := _ }) (v := ?_) [8, 9, 10, 11, 12, 13, 14] (by kernel_rfl) (by kernel_rfl) (by kernel_rfl) (by kernel_rfl) rfl (by kernel_rfl) (by kernel_rfl) (by kernel_rfl) (fun _ _ _ h => h) (Or.inl ⟨by rfl, ?_⟩) (by assumption) ?_
  rotate_left
  · (intro w hSw; (try dsimp only at hSw); go_simp; (try with_reducible rfl))
  (try simp only [Act.put, List.setIfInBounds_toArray, List.set_cons_zero, List.set_cons_succ])
  refine wpAnyU_ready (rs := [2]) (by kernel_rfl) (by simp) ?_
  refine AllReadyU.cons (o := { dst := some 7, op := _, type := _, pos := _, after := _, guard := _ }) rfl (fun K hK => ?_) AllReadyU.nil
  go_simp
  refine (HF.out _ (HW.out.trans hE)).mono ?_; rintro e w3 ⟨⟨fA2, fn2, fc2⟩, rfl, hn3, hr3, hb3, -⟩; have Hr3 := Lib.hid hr3; have Hw3 := Lib.hid hE; replace hE := hE.trans hb3; have HE3 := Lib.hid hE; clear hr3 hb3; (simp only [Sl.v] at *); replace hn3 := Eq.symm hn3; subst hn3
  try go_wp2_with fail
  refine hK.out _ _ ?_ (fun hHeld => ?_)
  · (try dsimp only); exact HS.out _ hE
  clear hK K
  (try simp only [Act.put, List.setIfInBounds_toArray, List.set_cons_zero, List.set_cons_succ])
  refine wpAnyU_takeW (i := 9) (oi := { dst := some 14, op := _, type := _, pos := _, after := _, guard := _ }) (v := ?_) (by kernel_rfl) rfl (by kernel_rfl) (by kernel_rfl) (by kernel_rfl) (fun _ _ _ h => h) (Or.inl ⟨by rfl, ?_⟩) (by assumption) ?_
  rotate_left
  · (intro w hSw; (try dsimp only at hSw); go_simp; (try with_reducible rfl))
  (try simp only [Act.put, List.setIfInBounds_toArray, List.set_cons_zero, List.set_cons_succ])
  refine wpAnyU_ready (rs := [5]) (by kernel_rfl) (by simp) ?_
  refine AllReadyU.cons (o := { dst := some 10, op := _, type := _, pos := _, after := _, guard := _ }) rfl (fun K hK => ?_) AllReadyU.nil
  go_simp
  refine (HB.out _ (HW.out.trans hE)).mono ?_; rintro e w4 ⟨⟨bA2, bn2, bc2⟩, rfl, hn4, hr4, hb4, ho4⟩; replace hr4 := RSN.of_own (s := ⟨bA2, bn2, bc2⟩) ho4 hr4; clear ho4; have Hr4 := Lib.hid hr4; have Hb4 := Lib.hid hb4; replace hE := hE.trans hb4; have HE4 := Lib.hid hE; clear hr4 hb4; (simp only [Sl.v] at *); replace hn4 := Eq.symm hn4; subst hn4
  try go_wp2_with fail
  refine hK.out _ _ ?_ (fun hHeld => ?_)
  · (try dsimp only); exact HS.out _ hE
  clear hK K
  (try simp only [Act.put, List.setIfInBounds_toArray, List.set_cons_zero, List.set_cons_succ])
  refine wpAnyU_ready (rs := [8]) (by kernel_rfl) (by simp) ?_
  refine AllReadyU.cons (o := { dst := some 13, op := _, type := _, pos := _, after := _, guard := _ }) rfl (fun K hK => ?_) AllReadyU.nil
  go_simp
  refine (HV.out _ (HW.out.trans hE)).mono ?_; rintro e w5 ⟨⟨vA2, vn2, vc2⟩, rfl, hn5, hr5, hb5, ho5⟩; have Hr5 := Lib.hid hr5; have Ho5 := Lib.hid ho5; have Hb5 := Lib.hid hb5; replace hE := hE.trans hb5; have HE5 := Lib.hid hE; clear hr5 hb5 ho5; (simp only [Sl.v] at *); replace hn5 := Eq.symm hn5; subst hn5
  try go_wp2_with fail
  refine hK.out _ _ ?_ (fun hHeld => ?_)
  · (try dsimp only); exact HS.out _ hE
  clear hK K
  (try simp only [Act.put, List.setIfInBounds_toArray, List.set_cons_zero, List.set_cons_succ])
  refine wpAnyU_ready (rs := [10]) (by kernel_rfl) (by simp) ?_
  refine AllReadyU.stop (o := { dst := none, op := _, type := _, pos := _, after := _, guard := _ }) rfl (by kernel_rfl) (fun K hK => ?_) AllReadyU.nil
  have hX5 := HX.out.ext hE; have k2 : w5.cell? ⟨b1, 2, none⟩ = some (.slice fA fn fc) := hX5.cell 2; have f2 : w5.frozen? ⟨b1, 2, none⟩ = false := hX5.frozen 2; have k3 : w5.cell? ⟨b1, 3, none⟩ = some (.slice bA bn bc) := hX5.cell 3; have f3 : w5.frozen? ⟨b1, 3, none⟩ = false := hX5.frozen 3; have k4 : w5.cell? ⟨b1, 4, none⟩ = some (.slice vA vn vc) := hX5.cell 4; have f4 : w5.frozen? ⟨b1, 4, none⟩ = false := hX5.frozen 4; clear hX5
  go_simp
  try go_wp2_with fail
  refine hK.out _ _ ?_ (fun hHeld => ?_)
  · (try dsimp only); (try trivial)
  clear hK K
  (try simp only [Act.put, List.setIfInBounds_toArray, List.set_cons_zero, List.set_cons_succ])
  refine wpAnyH_take (i := 11) (oi := { dst := some 15, op := _, type := _, pos := _, after := _, guard := _ }) (v := ?_) rfl (by kernel_rfl) (by kernel_rfl) (by kernel_rfl) (fun _ _ _ h => h) (Or.inl ⟨by rfl, ?_⟩) (by assumption) ?_
  rotate_left
  · (intro w hSw; (try dsimp only at hSw); go_simp; (try with_reducible rfl))
  (try simp only [Act.put, List.setIfInBounds_toArray, List.set_cons_zero, List.set_cons_succ])
  refine wpAnyH_ready (rs := [12]) (by kernel_rfl) (by simp) ?_
  refine AllReadyH.cons (o := { dst := none, op := _, type := _, pos := _, after := _, guard := _ }) rfl (fun K hK => ?_) AllReadyH.nil
  go_simp
  try go_wp2_with fail
  refine hK.out _ _ ?_ (fun hHeld => ?_)
  · (try dsimp only); (try trivial)
  clear hK K
  (try simp only [Act.put, List.setIfInBounds_toArray, List.set_cons_zero, List.set_cons_succ])
  refine wpAnyH_take (i := 13) (oi := { dst := some 16, op := _, type := _, pos := _, after := _, guard := _ }) (v := ?_) rfl (by kernel_rfl) (by kernel_rfl) (by kernel_rfl) (fun _ _ _ h => h) (Or.inl ⟨by rfl, ?_⟩) (by assumption) ?_
  rotate_left
  · (intro w hSw; (try dsimp only at hSw); go_simp; (try with_reducible rfl))
  (try simp only [Act.put, List.setIfInBounds_toArray, List.set_cons_zero, List.set_cons_succ])
  refine wpAnyH_ready (rs := [14]) (by kernel_rfl) (by simp) ?_
  refine AllReadyH.cons (o := { dst := none, op := _, type := _, pos := _, after := _, guard := _ }) rfl (fun K hK => ?_) AllReadyH.nil
  go_simp
  try go_wp2_with fail
  refine hK.out _ _ ?_ (fun hHeld => ?_)
  · (try dsimp only); (try trivial)
  clear hK K
  (try simp only [Act.put, List.setIfInBounds_toArray, List.set_cons_zero, List.set_cons_succ])
  refine wpAnyH_done (by kernel_rfl) ?_ _
  have HX6 := Lib.hid (show Blk (((w5.setCell ⟨b1, 2, none⟩ (.slice fA2 fn fc2)).setCell ⟨b1, 3, none⟩ (.slice bA2 bn bc2)).setCell ⟨b1, 4, none⟩ (.slice vA2 vn vc2)) b1 36 #[.string addr, .int .i64 status, .slice fA2 fn fc2, .slice bA2 bn bc2, .slice vA2 vn vc2] from (((HX.out.ext hE).set_ 2 _).set_ 3 _).set_ 4 _)
  have HK6 := Lib.hid ((((Keeps.refl (fun i => i = b1) w5).set_ (b := b1) rfl 2 (.slice fA2 fn fc2)).set_ (b := b1) rfl 3 (.slice bA2 bn bc2)).set_ (b := b1) rfl 4 (.slice vA2 vn vc2))
  clear k2 k3 k4 f2 f3 f4
  have hsz6 : (((w5.setCell ⟨b1, 2, none⟩ (.slice fA2 fn fc2)).setCell ⟨b1, 3, none⟩ (.slice bA2 bn bc2)).setCell ⟨b1, 4, none⟩ (.slice vA2 vn vc2)).heap.size = w5.heap.size := by simp [World.setCell]
  generalize ((w5.setCell ⟨b1, 2, none⟩ (.slice fA2 fn fc2)).setCell ⟨b1, 3, none⟩ (.slice bA2 bn bc2)).setCell ⟨b1, 4, none⟩ (.slice vA2 vn vc2) = w6 at *
  have HK6 := HK6; have HX6 := HX6
  have hb1lt : b1 + 1 < w5.heap.size := by have h1 := HE5.out.size; omega
  -- what is behind the clones
  have Ho6 := Lib.hid (own_keepS Ho5.out HK6.out (own_ne Ho5.out (HX.out.ext HE5.out) (by decide)))
  have HE6 := Lib.hid (show Ext w w6 from (HW.out.trans HE5.out).keeps HK6.out (fun i hi => by rw [hi, hb1]; exact Nat.le_refl _))
  obtain ⟨c0, c1, c2, c3, c4⟩ := (⟨HX6.out.cell 0, HX6.out.cell 1, HX6.out.cell 2, HX6.out.cell 3, HX6.out.cell 4⟩ : w6.cell? ⟨b1, 0, none⟩ = some (.string addr) ∧ w6.cell? ⟨b1, 1, none⟩ = some (.int .i64 status) ∧ w6.cell? ⟨b1, 2, none⟩ = some (.slice fA2 fn fc2) ∧ w6.cell? ⟨b1, 3, none⟩ = some (.slice bA2 bn bc2) ∧ w6.cell? ⟨b1, 4, none⟩ = some (.slice vA2 vn vc2))
  go_wp2_with fail
  clear c0 c1 c2 c3 c4
  have Hsz6 := Lib.hid hsz6; have HB1 := Lib.hid hb1; have Hsz2 := Lib.hid hsz2; have Hb1lt := Lib.hid hb1lt
  clear hsz6 hsz2 hb1lt hb1 HF HB HV hE HS
  have Hglt := Lib.hid (fun b hb => Ho5.out.lt b hb)
  go_loopw [20] (fun i wr => ∃ (k : Nat) (l : List (Vr × VrM)), k ≤ vn ∧ i = .int .i64 (k : Nat) ∧ l.length = vn ∧ l.map (·.1) = vars.map (·.1) ∧ l.drop k = vars.drop k ∧ (∀ x ∈ l.take k, VrAt (fun i => i < w5.heap.size) wr x) ∧ wr.ownsRow w4.heap.size 58 4 (.slice vA2 vn vc2) vn (vrsC l) ∧ Keeps (fun b => (Value.slice vA2 vn vc2).ownBlock = some b) w6 wr) (fun i _ => vn - (intOf i).toNat)
  case atStart => exact ⟨0, vars, Nat.zero_le _, rfl, Hvl.out, rfl, rfl, (fun x hx => by simp at hx), Ho6.out, Keeps.refl _ _⟩
  case round =>
    obtain ⟨k, l, hk, rfl, hll, hlm, hld, hat, hown, hK⟩ := hrel
    have hXr := Lib.hid (HX6.out.keep hK (fun hb => own_ne Ho6.out HX6.out (by decide) b1 hb rfl))
    have Hwr := Lib.hid (show Ext w wr from HE6.out.keeps hK (fun i hi => by have h1 := (Hglt.out i hi).1; have h2 := HE4.out.size; have h3 := Hsz2.out; have h4 := HB1.out; omega))
    have x4 : wr.cell? ⟨b1, 4, none⟩ = some (.slice vA2 vn vc2) := hXr.out.cell 4
    by_cases hlt : k < vn
    · have hlk : k < l.length := by omega
      have hvk : k < vars.length := by have := Hvl.out; omega
      obtain ⟨e1, e2⟩ := drop_head hld hlk hvk
      have HST := Lib.hid (fun y => vrs_set l k hlk y); have HTK := Lib.hid (fun y => set_take hlk y); have HFS := Lib.hid (fun (y : VrM) => set_fst hlk y)
      have HDR := Lib.hid (fun y => show (l.set k y).drop (k + 1) = vars.drop (k + 1) from by rw [List.drop_set_of_lt (by omega)]; exact e2)
      have HLN := Lib.hid (fun y => show (l.set k y).length = vn from by rw [List.length_set]; exact hll)
      obtain ⟨g, hA⟩ : ∃ g, vA2 = some ⟨g, 0, none⟩ := by
        rcases hown.2 with ⟨_, h0⟩ | ⟨g, _, _, hv, _⟩
        · omega
        · exact ⟨g, (slice_inj hv).1⟩
      subst hA
      obtain ⟨b, o, hbo, d0, d1, d2, d3⟩ := vrI_at (Rd.of_own hown) hlk
      injection hbo with hbo
      injection hbo with e3 e4
      subst e3; subst e4
      simp only [Nat.zero_add] at d0 d1 d2 d3
      rw [e1] at d0 d1 d2 d3 HST HFS
      have HVk := Lib.hid (Hv.out _ (List.getElem_mem hvk)); have hxk := Hx.out _ (List.getElem_mem hvk)
      have Hown := Lib.hid hown; have Hat := Lib.hid hat; have HKr := Lib.hid hK; have Hlm := Lib.hid hlm
      clear hown hat hK hlm hld e1 e2 hlk hll
      generalize vars[k] = x at *
      obtain ⟨⟨names, key, tag, xb⟩, ⟨⟨nA, nn, nc⟩, ⟨dA, dn, dc⟩⟩⟩ := x
      simp only [Sl.v] at d0 d1 d2 d3
      have hnn : names.length = nn := HVk.out.nm.rd.lenS
      have hdn : xb.size = dn := by have := HVk.out.bd.len1; rw [bytC_len] at this; exact this
      have HCS := Lib.hid (fun w' (hh : Ext wr w') => cln_S ⟨nA, nn, nc⟩ (strCells names) w' (HVk.out.nm.rd.ext (Hwr.out.trans hh)) (strCells_one _) (by have := hxk.1; simp only at *; omega))
      have HCB := Lib.hid (fun w' (hh : Ext wr w') => cln_B ⟨dA, dn, dc⟩ (bytC xb) w' (HVk.out.bd.rd.ext (Hwr.out.trans hh)) (bytC_one _) (by have := hxk.2; simp only at *; omega))
      clear hnn hdn hxk
      simp only [Sl.v] at HCS HCB
      go_wp2_with fail
      have hE := (Ext.refl wr).drew
      have HS := Lib.hid (fun w' (hh : Ext wr w') => (⟨hh.cell d0, hh.cell d3⟩ : w'.cell? ⟨g, k * 4, none⟩ = some (.slice nA nn nc) ∧ w'.cell? ⟨g, k * 4 + 3, none⟩ = some (.slice dA dn dc)))
      refine wp_region_U (S := (fun w' => w'.cell? ⟨g, k * 4, none⟩ = some (.slice nA nn nc) ∧ w'.cell? ⟨g, k * 4 + 3, none⟩ = some (.slice dA dn dc))) 14 (by kernel_rfl) ?_ (fun hHeld => ?_)
      · (try dsimp only); exact HS.out _ hE
      refine wpAnyU_takeW (i := 0) (oi := { dst := some 27, op := _, type := _, pos := _, after := _, guard := _ }) (v := ?_) (by kernel_rfl) rfl (by kernel_rfl) (by kernel_rfl) (by kernel_rfl) (fun _ _ _ h => h) (Or.inl ⟨by rfl, ?_⟩) (by assumption) ?_
      rotate_left
      · (intro w hSw; (try dsimp only at hSw); go_simp; (try with_reducible rfl))
      (try simp only [Act.put, List.setIfInBounds_toArray, List.set_cons_zero, List.set_cons_succ])
      refine wpAnyU_takeW (i := 1) (oi := { dst := some 28, op := _, type := _, pos := _, after := _, guard := _ }) (v := ?_) (by kernel_rfl) rfl (by kernel_rfl) (by kernel_rfl) (by kernel_rfl) (fun _ _ _ h => h) (Or.inl ⟨by rfl, ?_⟩) (by assumption) ?_
      rotate_left
      · (intro w hSw; (try dsimp only at hSw); go_simp; (try with_reducible rfl))
      (try simp only [Act.put, List.setIfInBounds_toArray, List.set_cons_zero, List.set_cons_succ])
      refine wpAnyU_takeW (i := 2) (oi := { dst := some 29, op := _, type := _, pos := _, after := _, guard := _ }) (v := ?_) (by kernel_rfl) rfl (by kernel_rfl) (by kernel_rfl) (by kernel_rfl) (fun _ _ _ h => h) (Or.inl ⟨by rfl, ?_⟩) (by assumption) ?_
      rotate_left
      · (intro w hSw; (try dsimp only at hSw); go_simp; (try with_reducible rfl))
      (try simp only [Act.put, List.setIfInBounds_toArray, List.set_cons_zero, List.set_cons_succ])
      refine wpAnyU_takeW (i := 3) (oi := { dst := some 30, op := _, type := _, pos := _, after := _, guard := _ }) (v := ?_) (by kernel_rfl) rfl (by kernel_rfl) (by kernel_rfl) (by kernel_rfl) (fun _ _ _ h => h) (Or.inl ⟨by rfl, ?_⟩) (by assumption) ?_
      rotate_left
      · (intro w hSw; (try dsimp only at hSw); go_simp; (try with_reducible rfl))
      (try simp only [Act.put, List.setIfInBounds_toArray, List.set_cons_zero, List.set_cons_succ])
      refine wpAnyU_takeW (i := 4) (oi := { dst := some 31, op := _, type := _, pos := _, after := _, guard := _ }) (v := ?_) (by kernel_rfl) rfl (by kernel_rfl) (by kernel_rfl) (by kernel_rfl) (fun _ _ _ h => h) (Or.inl ⟨by rfl, ?_⟩) (by assumption) ?_
      rotate_left
      · (intro w hSw; (try dsimp only at hSw); go_simp; (try with_reducible rfl))
      (try simp only [Act.put, List.setIfInBounds_toArray, List.set_cons_zero, List.set_cons_succ])
      refine wpAnyU_take (i := 5) (oi := { dst := some 32, op := _, type := _, pos := _, after := _, guard := _ }) (v := ?_) [6, 11, 12, 13, 14, 15, 16, 17] (by kernel_rfl) (by kernel_rfl) (by kernel_rfl) (by kernel_rfl) rfl (by kernel_rfl) (by kernel_rfl) (by kernel_rfl) (fun _ _ _ h => h) (Or.inl ⟨by rfl, ?_⟩) (by assumption) ?_
      rotate_left
      · (intro w hSw; (try dsimp only at hSw); go_simp; (try with_reducible rfl))
      (try simp only [Act.put, List.setIfInBounds_toArray, List.set_cons_zero, List.set_cons_succ])
      refine wpAnyU_takeW (i := 7) (oi := { dst := some 34, op := _, type := _, pos := _, after := _, guard := _ }) (v := ?_) (by kernel_rfl) rfl (by kernel_rfl) (by kernel_rfl) (by kernel_rfl) (fun _ _ _ h => h) (Or.inl ⟨by rfl, ?_⟩) (by assumption) ?_
      rotate_left
      · (intro w hSw; (try dsimp only at hSw); go_simp; (try with_reducible rfl))
      (try simp only [Act.put, List.setIfInBounds_toArray, List.set_cons_zero, List.set_cons_succ])
      refine wpAnyU_takeW (i := 8) (oi := { dst := some 35, op := _, type := _, pos := _, after := _, guard := _ }) (v := ?_) (by kernel_rfl) rfl (by kernel_rfl) (by kernel_rfl) (by kernel_rfl) (fun _ _ _ h => h) (Or.inl ⟨by rfl, ?_⟩) (by assumption) ?_
      rotate_left
      · (intro w hSw; (try dsimp only at hSw); go_simp; (try with_reducible rfl))
      (try simp only [Act.put, List.setIfInBounds_toArray, List.set_cons_zero, List.set_cons_succ])
      refine wpAnyU_takeW (i := 9) (oi := { dst := some 36, op := _, type := _, pos := _, after := _, guard := _ }) (v := ?_) (by kernel_rfl) rfl (by kernel_rfl) (by kernel_rfl) (by kernel_rfl) (fun _ _ _ h => h) (Or.inl ⟨by rfl, ?_⟩) (by assumption) ?_
      rotate_left
      · (intro w hSw; (try dsimp only at hSw); go_simp; (try with_reducible rfl))
      (try simp only [Act.put, List.setIfInBounds_toArray, List.set_cons_zero, List.set_cons_succ])
      refine wpAnyU_take (i := 10) (oi := { dst := some 37, op := _, type := _, pos := _, after := _, guard := _ }) (v := ?_) [11, 12, 13, 14, 15, 16, 17] (by kernel_rfl) (by kernel_rfl) (by kernel_rfl) (by kernel_rfl) rfl (by kernel_rfl) (by kernel_rfl) (by kernel_rfl) (fun _ _ _ h => h) (Or.inl ⟨by rfl, ?_⟩) (by assumption) ?_
      rotate_left
      · (intro w hSw; (try dsimp only at hSw); go_simp; (try with_reducible rfl))
      (try simp only [Act.put, List.setIfInBounds_toArray, List.set_cons_zero, List.set_cons_succ])
      refine wpAnyU_ready (rs := [6]) (by kernel_rfl) (by simp) ?_
      refine AllReadyU.cons (o := { dst := some 33, op := _, type := _, pos := _, after := _, guard := _ }) rfl (fun K hK => ?_) AllReadyU.nil
      go_simp
      refine (HCS.out _ hE).mono ?_; rintro e w7 ⟨⟨nA2, nn2, nc2⟩, rfl, hn7, hr7, hb7, -⟩; have Hr7 := Lib.hid hr7; replace hE := hE.trans hb7; have HE7 := Lib.hid hE; clear hr7 hb7; (simp only [Sl.v] at *); replace hn7 := Eq.symm hn7; subst hn7
      try go_wp2_with fail
      refine hK.out _ _ ?_ (fun hHeld => ?_)
      · (try dsimp only); exact HS.out _ hE
      clear hK K
      (try simp only [Act.put, List.setIfInBounds_toArray, List.set_cons_zero, List.set_cons_succ])
      refine wpAnyU_ready (rs := [11]) (by kernel_rfl) (by simp) ?_
      refine AllReadyU.cons (o := { dst := some 38, op := _, type := _, pos := _, after := _, guard := _ }) rfl (fun K hK => ?_) AllReadyU.nil
      go_simp
      refine (HCB.out _ hE).mono ?_; rintro e w8 ⟨⟨dA2, dn2, dc2⟩, rfl, hn8, hr8, hb8, -⟩; have Hr8 := Lib.hid hr8; have Hb8 := Lib.hid hb8; replace hE := hE.trans hb8; have HE8 := Lib.hid hE; clear hr8 hb8; (simp only [Sl.v] at *); replace hn8 := Eq.symm hn8; subst hn8
      try go_wp2_with fail
      refine hK.out _ _ ?_ (fun hHeld => ?_)
      · (try dsimp only); exact HS.out _ hE
      clear hK K
      (try simp only [Act.put, List.setIfInBounds_toArray, List.set_cons_zero, List.set_cons_succ])
      refine wpAnyU_takeW (i := 12) (oi := { dst := some 39, op := _, type := _, pos := _, after := _, guard := _ }) (v := ?_) (by kernel_rfl) rfl (by kernel_rfl) (by kernel_rfl) (by kernel_rfl) (fun _ _ _ h => h) (Or.inl ⟨by rfl, ?_⟩) (by assumption) ?_
      rotate_left
      · (intro w hSw; (try dsimp only at hSw); go_simp; (try with_reducible rfl))
      (try simp only [Act.put, List.setIfInBounds_toArray, List.set_cons_zero, List.set_cons_succ])
      refine wpAnyU_takeW (i := 13) (oi := { dst := some 40, op := _, type := _, pos := _, after := _, guard := _ }) (v := ?_) (by kernel_rfl) rfl (by kernel_rfl) (by kernel_rfl) (by kernel_rfl) (fun _ _ _ h => h) (Or.inl ⟨by rfl, ?_⟩) (by assumption) ?_
      rotate_left
      · (intro w hSw; (try dsimp only at hSw); go_simp; (try with_reducible rfl))
      (try simp only [Act.put, List.setIfInBounds_toArray, List.set_cons_zero, List.set_cons_succ])
      refine wpAnyU_ready (rs := [14]) (by kernel_rfl) (by simp) ?_
      refine AllReadyU.stop (o := { dst := none, op := _, type := _, pos := _, after := _, guard := _ }) rfl (by kernel_rfl) (fun K hK => ?_) AllReadyU.nil
      have k0 := hE.cell d0; have k3 := hE.cell d3; have f0 : w8.frozen? ⟨g, k * 4, none⟩ = false := (own_ext Hown.out hE).frozenAt _; have f3 : w8.frozen? ⟨g, k * 4 + 3, none⟩ = false := (own_ext Hown.out hE).frozenAt _
      go_simp
      try go_wp2_with fail
      refine hK.out _ _ ?_ (fun hHeld => ?_)
      · (try dsimp only); (try trivial)
      clear hK K
      (try simp only [Act.put, List.setIfInBounds_toArray, List.set_cons_zero, List.set_cons_succ])
      refine wpAnyH_take (i := 15) (oi := { dst := some 41, op := _, type := _, pos := _, after := _, guard := _ }) (v := ?_) rfl (by kernel_rfl) (by kernel_rfl) (by kernel_rfl) (fun _ _ _ h => h) (Or.inl ⟨by rfl, ?_⟩) (by assumption) ?_
      rotate_left
      · (intro w hSw; (try dsimp only at hSw); go_simp; (try with_reducible rfl))
      (try simp only [Act.put, List.setIfInBounds_toArray, List.set_cons_zero, List.set_cons_succ])
      refine wpAnyH_take (i := 16) (oi := { dst := some 42, op := _, type := _, pos := _, after := _, guard := _ }) (v := ?_) rfl (by kernel_rfl) (by kernel_rfl) (by kernel_rfl) (fun _ _ _ h => h) (Or.inl ⟨by rfl, ?_⟩) (by assumption) ?_
      rotate_left
      · (intro w hSw; (try dsimp only at hSw); go_simp; (try with_reducible rfl))
      (try simp only [Act.put, List.setIfInBounds_toArray, List.set_cons_zero, List.set_cons_succ])
      refine wpAnyH_ready (rs := [17]) (by kernel_rfl) (by simp) ?_
      refine AllReadyH.cons (o := { dst := none, op := _, type := _, pos := _, after := _, guard := _ }) rfl (fun K hK => ?_) AllReadyH.nil
      go_simp
      try go_wp2_with fail
      refine hK.out _ _ ?_ (fun hHeld => ?_)
      · (try dsimp only); (try trivial)
      clear hK K
      (try simp only [Act.put, List.setIfInBounds_toArray, List.set_cons_zero, List.set_cons_succ])
      refine wpAnyH_done (by kernel_rfl) ?_ _
      have hG := Hglt.out g rfl
      have hwr5 : w5.heap.size ≤ wr.heap.size := by have h1 := HKr.out.size; have h2 := Hsz6.out; omega
      have Hown8 := Lib.hid (own_ext Hown.out HE8.out)
      have Hst1 := Lib.hid (Hown8.out.stored (k * 4) (.slice nA2 nn nc2))
      have Hst2 := Lib.hid (Hst1.out.1.stored (k * 4 + 3) (.slice dA2 dn dc2))
      have HKs := Lib.hid (((Keeps.refl (fun b => b = g) w8).set_ (b := g) rfl (k * 4) (.slice nA2 nn nc2)).set_ (b := g) rfl (k * 4 + 3) (.slice dA2 dn dc2))
      generalize ((w8.setCell ⟨g, k * 4, none⟩ (.slice nA2 nn nc2)).setCell ⟨g, k * 4 + 3, none⟩ (.slice dA2 dn dc2)) = w9 at *
      have hk8 : ∀ i, i = g → (fun i => i < w5.heap.size) i ∨ w8.heap.size ≤ i := fun i hi => .inl (by rw [hi]; exact hG.2)
      clear d0 d1 d2 d3
      go_wp2_with fail
      first | go_roundw | refine ⟨?rel, ?measure⟩
      case rel =>
        refine ⟨k + 1, l.set k (⟨names, key, tag, xb⟩, ⟨⟨nA2, nn, nc2⟩, ⟨dA2, dn, dc2⟩⟩), by omega, by go_num, HLN.out _, ?_, HDR.out _, ?_, ?_, ?_⟩
        · exact (HFS.out _).trans Hlm.out
        · intro x hx
          rw [HTK.out] at hx
          rcases List.mem_append.1 hx with hx | hx
          · have h1 := Hat.out x hx
            exact ⟨(h1.nm.ext HE8.out).keep HKs.out hk8, (h1.bd.ext HE8.out).keep HKs.out hk8⟩
          · rw [List.mem_singleton] at hx
            subst hx
            have q1 := Hr7.out.sub (Q' := fun i => i < w5.heap.size) (fun i hi => by show i < wr.heap.size; omega)
            have q2 := Hr8.out.sub (Q' := fun i => i < w5.heap.size) (fun i hi => by have := HE7.out.size; show i < w7.heap.size; omega)
            exact ⟨(q1.ext Hb8.out).keep HKs.out hk8, q2.keep HKs.out hk8⟩
        · rw [HST.out]; exact Hst2.out.1
        · exact (HKr.out.trans (Keeps.of HE8.out)).then HKs.out (fun i hi => .inl (by rw [hi]; rfl))
      case measure => simp [intOf]; omega
    · obtain rfl : k = vn := by omega
      have hlA : ∀ x ∈ l, VrAt (fun i => i < w5.heap.size) wr x := by rw [List.take_of_length_le (by omega)] at hat; exact hat
      have HlA := Lib.hid hlA; have Hlm := Lib.hid hlm; have Hown := Lib.hid hown; have HKr := Lib.hid hK
      have HYr := Lib.hid ((((HY.out.ext HE5.out).keep HK6.out (by omega)).keep hK (fun hb => own_ne Ho5.out (HY.out.ext HE5.out) (by decide) _ hb rfl)))
      have x0 : wr.cell? ⟨b1, 0, none⟩ = some (.string addr) := hXr.out.cell 0
      have x1 : wr.cell? ⟨b1, 1, none⟩ = some (.int .i64 status) := hXr.out.cell 1
      have x2 : wr.cell? ⟨b1, 2, none⟩ = some (.slice fA2 fn fc2) := hXr.out.cell 2
      have x3 : wr.cell? ⟨b1, 3, none⟩ = some (.slice bA2 bn bc2) := hXr.out.cell 3
      clear hlA hlm hown hK hat hld
      go_wp2_with (first | (refine wpList_storeB rfl 36 (.tmp 2) (.tmp 44) rfl rfl (b1 + 1) _ rfl rfl 36 _ HYr.out infoVe rfl (by simp [Value.oneCell']) ?_; intro w9 hB9 hx9))
      have y0 : w9.cell? ⟨b1 + 1, 0, none⟩ = some (.string addr) := hB9.cell 0
      have y1 : w9.cell? ⟨b1 + 1, 1, none⟩ = some (.int .i64 status) := hB9.cell 1
      have y2 : w9.cell? ⟨b1 + 1, 2, none⟩ = some (.slice fA2 fn fc2) := hB9.cell 2
      have y3 : w9.cell? ⟨b1 + 1, 3, none⟩ = some (.slice bA2 bn bc2) := hB9.cell 3
      have y4 : w9.cell? ⟨b1 + 1, 4, none⟩ = some (.slice vA2 k vc2) := hB9.cell 4
      refine bodyPost_ret (v := .agg #[.string addr, .int .i64 status, .slice fA2 fn fc2, .slice bA2 bn bc2, .slice vA2 k vc2]) (by simp [results, Tryz.results43, go_sem, y0, y1, y2, y3, y4]) rfl ?_
      have hs2 := Hsz2.out; have hB := HB1.out
      have KX : Keeps (fun i => i = b1 + 1) wr w9 := Keeps.grown (Keeps.refl _ wr) hx9 (fun b hb => .inl (by injection hb with hb; exact hb.symm))
      have KA : Keeps (fun i => i = b1 ∨ i = b1 + 1 ∨ (Value.slice vA2 k vc2).ownBlock = some i) w5 w9 :=
        (((Keeps.refl _ w5).then HK6.out (fun i hi => .inl (.inl hi))).then HKr.out (fun i hi => .inl (.inr (.inr hi)))).then KX (fun i hi => .inl (.inr (.inl hi)))
      have hQ : ∀ i, (i = b1 ∨ i = b1 + 1 ∨ (Value.slice vA2 k vc2).ownBlock = some i) → (i < W0.heap.size ∨ w4.heap.size ≤ i) := fun i hi => by
        rcases hi with hi | hi | hi
        · left; omega
        · left; omega
        · right; exact (Ho5.out.lt i hi).1
      have hw3 := HE3.out.size
      have HBN : RSN (fun i => i < w.heap.size) w9 1 ⟨bA2, bn, bc2⟩ (bytC body) := (((Hr4.out.more (Q' := fun i => i < W0.heap.size ∨ w4.heap.size ≤ i) (fun i hi => hi.imp (fun h => by show i < w3.heap.size; omega) id)).ext Hb5.out).keep KA (fun i hi => .inl (hQ i hi))).sub (fun i hi => .inl (by omega))
      refine ⟨⟨addr, status, f, body, l, ⟨fA2, fn, fc2⟩, ⟨bA2, bn, bc2⟩, ⟨vA2, k, vc2⟩⟩, rfl, by unfold MV.ver; simp only; rw [Hlm.out], ⟨?_, ?_, ?_, ?_⟩, ?_, ?_⟩
      · exact ((((Hr3.out.ext Hb4.out).more (Q' := fun i => i < W0.heap.size ∨ w4.heap.size ≤ i) (fun i hi => hi)).ext Hb5.out).keep KA (fun i hi => .inl (hQ i hi))).sub (fun i hi => .inl (by omega))
      · exact HBN.toRS
      · have ho9 := own_keepS Hown.out KX (own_ne Hown.out HYr.out (by decide))
        obtain ⟨s, hs, hsn, hr⟩ := RS.own ho9
        have hs' : s = ⟨vA2, k, vc2⟩ := by
          obtain ⟨a1, a2, a3⟩ := s
          simp only [Sl.v, Value.slice.injEq] at hs
          obtain ⟨rfl, rfl, rfl⟩ := hs
          rfl
        subst hs'
        exact hr.sub (fun i hi => by have := HE4.out.size; show i < w4.heap.size; omega)
      · intro x hx
        have h1 := HlA.out x hx
        have h5 := Hb1lt.out
        have hR : ∀ i, i = b1 + 1 → (fun i => i < w5.heap.size) i ∨ wr.heap.size ≤ i := fun i hi => .inl (by show i < w5.heap.size; omega)
        exact ⟨(h1.nm.keep KX hR).sub (fun i hi => by show i < w5.heap.size; omega), (h1.bd.keep KX hR).sub (fun i hi => by show i < w5.heap.size; omega)⟩
      · exact (HW.out.trans HE5.out).keeps KA (fun i hi => by
          rcases hi with hi | hi | hi
          · omega
          · omega
          · have h1 := (Ho5.out.lt i hi).1; have h2 := HE4.out.size; omega)
      · exact HBN
end Go.Proofs.YtmckbcbdnckngaaGreatDoor

namespace Go.Proofs.YtmckbcbdnckngaaGreatDoor
open Go.RowKit

set_option maxHeartbeats 8000000 in
set_option maxRecDepth 100000 in
theorem or_AtN (Q R : Nat → Prop) (p : Nat) (o : Org) (M : OM) (text : ByteArray) (t : Int) (w : World) (hO : OrgP w p R Q o M) :
    Calls Tryz.prog 33 #[.pointer (some ⟨p, 0, none⟩), .string text, .int .i64 t] w fun e w' => Ext w w' ∧ ((findS o.vs text (cl55 t) = 0 ∧ e = .returned (.tuple #[.agg #[.string ⟨#[]⟩, .int .i64 0, .slice none 0 0, .slice none 0 0, .slice none 0 0], .int .i64 0, errV 3])) ∨
      ∃ (n : Nat) (q : Int × Ver) (m' : MV), findS o.vs text (cl55 t) = n + 1 ∧ o.vs[n]? = some q ∧ m'.ver = q.2 ∧ m'.At (fun i => i < w.heap.size) w' ∧ RSN (fun i => i < w.heap.size) w' 1 m'.bd (bytC m'.body) ∧ e = .returned (.tuple #[.agg m'.cells.toArray, .int .i64 ((n + 1 : Nat) : Int), .nilIface])) := by
  rw [e3]
  have HO := Lib.hid hO
  have HC := Lib.hid (fun w' => or_clip t w')
  have hB := Blk.new w 36 #[.string ⟨#[]⟩, .int .i64 0, .slice none 0 0, .slice none 0 0, .slice none 0 0]
  have HX := Lib.hid ((Ext.refl w).alloc (.cells #[.string ⟨#[]⟩, .int .i64 0, .slice none 0 0, .slice none 0 0, .slice none 0 0] 36))
  have HF := Lib.hid (or_find Q R p o M text (cl55 t) _ (hO.ext HX.out))
  have HFl := Lib.hid (fnd_le o.vs text (cl55 t))
  obtain ⟨n0, hn0⟩ : ∃ n, findS o.vs text (cl55 t) = n := ⟨_, rfl⟩
  rw [hn0] at HF HFl ⊢
  have HB := Lib.hid hB
  clear hO hB hn0
  cases n0 with
  | zero =>
    go_enter Tryz.func33, Tryz.ntmps33
    go_wp2_with fail
    refine (HC.out _).mono ?_; rintro e w1 ⟨rfl, rfl⟩
    go_wp2_with fail
    refine HF.out.mono ?_; rintro e w2 ⟨rfl, hb2⟩
    have HX2 := Lib.hid (HX.out.trans hb2)
    have HB2 := Lib.hid (HB.out.ext hb2)
    clear hb2 HF
    go_wp2_with (first | (refine wpList_storeB rfl 36 (.tmp 6) (.tmp 21) rfl rfl w.heap.size _ rfl rfl 36 _ HB2.out infoVe rfl (by simp [Value.oneCell']) ?_; intro w9 hB9 hx9))
    have y0 := hB9.cell 0; have y1 := hB9.cell 1; have y2 := hB9.cell 2; have y3 := hB9.cell 3; have y4 := hB9.cell 4
    simp only [List.getElem?_toArray, List.getElem?_cons_succ, List.getElem?_cons_zero] at y0 y1 y2 y3 y4
    have hE9 := HX2.out.growB hx9 (Nat.le_refl _)
    refine bodyPost_ret (v := .tuple #[.agg #[.string ⟨#[]⟩, .int .i64 0, .slice none 0 0, .slice none 0 0, .slice none 0 0], .int .i64 0, .iface 63 (.int .i64 3)]) (by simp [results, Tryz.results33, go_sem, y0, y1, y2, y3, y4]) rfl ?_
    exact ⟨hE9, .inl ⟨by trivial, rfl⟩⟩
  | succ n =>
    obtain ⟨g, c, ⟨at9, m⟩, hvs, hq, hmA, hcl⟩ := HO.out.vcell (k := n) (by have := HFl.out; omega)
    have hvb := (HO.out.bd _ (List.mem_of_getElem? hq)).1
    simp only at hmA hcl hq hvb
    have Hq := Lib.hid hq
    have hlen : o.vs.length ≤ 4096 := HO.out.few
    have HLn := Lib.hid (show n < o.vs.length from by have := HFl.out; omega)
    have HP := Lib.hid (fun w' (hx : Ext w w') => ((HO.out.ext hx).blk).cell 0)
    simp only [List.getElem?_toArray, List.getElem?_cons_zero, hvs] at HP
    have HCl := Lib.hid (fun w' (hx : Ext w w') => or_cloneN Q m w' (hmA.ext hx) (by have := hvb.fs.1; show m.f.length ≤ _; have h2 : m.ver.fs = m.f := rfl; rw [h2] at this; omega) (by have := hvb.body; have h2 : m.ver.body = m.body := rfl; rw [h2] at this; omega) (by have := hvb.vars; have h2 : m.ver.vars = m.vars.map (·.1) := rfl; rw [h2, List.length_map] at this; omega) (fun x hx2 => by have := hvb.each x.1 (List.mem_map.2 ⟨x, hx2, rfl⟩); exact ⟨this.1, by omega⟩))
    have HD := Lib.hid (fun w' (hx : Ext w w') => (⟨hx.cell (hcl 0 _ rfl), hx.cell (hcl 1 _ rfl), hx.cell (hcl 2 _ rfl), hx.cell (hcl 3 _ rfl), hx.cell (hcl 4 _ rfl)⟩ : w'.cell? ⟨g, n * 6 + 1, none⟩ = some (.string m.addr) ∧ w'.cell? ⟨g, n * 6 + 2, none⟩ = some (.int .i64 m.status) ∧ w'.cell? ⟨g, n * 6 + 3, none⟩ = some m.fs.v ∧ w'.cell? ⟨g, n * 6 + 4, none⟩ = some m.bd.v ∧ w'.cell? ⟨g, n * 6 + 5, none⟩ = some m.vr.v))
    have HMc := Lib.hid (show m.cells.toArray = #[.string m.addr, .int .i64 m.status, m.fs.v, m.bd.v, m.vr.v] from rfl)
    rw [HMc.out] at HCl
    clear hmA hcl hvb hvs hq
    obtain ⟨vv, hvv⟩ : ∃ v, m.ver = v := ⟨_, rfl⟩
    rw [hvv] at HCl Hq
    generalize m.fs.v = vfs at *
    generalize m.bd.v = vbd at *
    generalize m.vr.v = vvr at *
    generalize m.addr = ad at *
    generalize m.status = st at *
    go_enter Tryz.func33, Tryz.ntmps33
    go_wp2_with fail
    refine (HC.out _).mono ?_; rintro e w1 ⟨rfl, rfl⟩
    go_wp2_with fail
    refine HF.out.mono ?_; rintro e w2 ⟨rfl, hb2⟩
    have HX2 := Lib.hid (HX.out.trans hb2)
    have HB2 := Lib.hid (HB.out.ext hb2)
    have hp0 := HP.out _ HX2.out
    obtain ⟨d0, d1, d2, d3, d4⟩ := HD.out _ HX2.out
    have hln := HLn.out
    clear hb2 HF
    go_wp2_with fail
    refine (HCl.out _ HX2.out).mono ?_; rintro e w3 ⟨m', rfl, hver, hAt, hb3, hNb⟩
    have HX3 := Lib.hid (HX2.out.trans hb3)
    have HB3 := Lib.hid (HB2.out.ext hb3)
    have Hlt := Lib.hid HB2.out.lt
    have HAt := Lib.hid hAt; have HNb := Lib.hid hNb
    have HMc2 := Lib.hid (show m'.cells.toArray = #[.string m'.addr, .int .i64 m'.status, m'.fs.v, m'.bd.v, m'.vr.v] from rfl)
    rw [HMc2.out]
    clear hb3 hAt hNb hp0 d0 d1 d2 d3 d4 hln
    go_wp2_with (first | (refine wpList_storeB rfl 36 (.tmp 6) (.tmp 32) rfl rfl w.heap.size _ rfl rfl 36 _ HB3.out infoVe rfl (by simp [Value.oneCell', Sl.v]) ?_; intro w9 hB9 hx9))
    have y0 := hB9.cell 0; have y1 := hB9.cell 1; have y2 := hB9.cell 2; have y3 := hB9.cell 3; have y4 := hB9.cell 4
    simp only [List.getElem?_toArray, List.getElem?_cons_succ, List.getElem?_cons_zero] at y0 y1 y2 y3 y4
    have hE9 := HX3.out.growB hx9 (Nat.le_refl _)
    refine bodyPost_ret (v := .tuple #[.agg #[.string m'.addr, .int .i64 m'.status, m'.fs.v, m'.bd.v, m'.vr.v], .int .i64 ((n + 1 : Nat) : Int), .nilIface]) (by simp [results, Tryz.results33, go_sem, y0, y1, y2, y3, y4]) rfl ?_
    have hK : Keeps (fun i => i = w.heap.size) w3 w9 := Keeps.grown (Keeps.refl _ w3) hx9 (fun b hb => .inl (by injection hb with hb; exact hb.symm))
    refine ⟨hE9, .inr ⟨n, _, m', rfl, Hq.out, hver, ?_, (HNb.out.keep hK (fun i hi => .inl (by rw [show i = w.heap.size from hi]; exact Hlt.out))).more (fun i hi => .inl (Nat.lt_of_lt_of_le hi HX2.out.size)), rfl⟩⟩
    have h9 := HAt.out.keep hK (fun i hi => .inl (by rw [show i = w.heap.size from hi]; exact Hlt.out))
    exact h9.more (fun i hi => .inl (Nat.lt_of_lt_of_le hi HX2.out.size))
/-- The answer to a request that law_get has made: its sizes, and what may be written. -/
theorem ans_n {Q R : Nat → Prop} {p : Nat} {o : Org} {M : OM} {t : Int} {me ta : ByteArray} {fs : List Fd} {s : Sl} {w : World} {Qr : Nat → Prop} (hO : OrgP w p R Q o M) (hr : RS Qr w 2 s (fldCells fs)) (hz : sumF fs + 2 * fs.length ≤ 1048576) (htz : ta.size ≤ 1048576)
    (hbr : o.br.length ≤ 1000000) (hlg : o.lg.length ≤ 1000000) (hg : Gl w ∧ GlH w ∧ GlP w) {S : Int} {F : List Fd} {B : ByteArray} {o2 : Org} (ha : answS o t ⟨me, ta, fs⟩ = (S, F, B, o2)) :
    (F.length ≤ 131077 ∧ sumF F ≤ 400000) ∧ Calls Tryz.prog 15 #[.pointer (some ⟨p, 0, none⟩), .int .i64 t, .agg #[.string me, .string ta, s.v]] w fun e w' => ∃ s1 s2 : Sl, e = .returned (.tuple #[.agg #[.int .i64 S, s1.v], s2.v]) ∧
      ∃ R', (∃ M', OrgP w' p R' (fun i => Q i ∨ w.heap.size ≤ i) o2 M') ∧ RSN (fun i => i < w.heap.size ∨ R' i) w' 2 s1 (fldCells F) ∧ RSN (fun i => i < w.heap.size ∨ R' i) w' 1 s2 (bytC B) ∧
        Keeps R w w' ∧ (∀ i, R i → R' i) ∧ (∀ i, R' i → R i ∨ w.heap.size ≤ i) := by
  have h1 := ans_sz (o := o) (t := t) (r := ⟨me, ta, fs⟩) (fun x hx => (hO.bd x hx).1)
  have hl := hr.rd.lenF
  have h2 := or_AnswerN Q R p o M t ⟨me, ta, fs⟩ s.A s.n s.c w hO hr.rd hr.cap (by show sumF fs + 2 * s.n ≤ _; omega) htz hbr hlg hg.1 hg.2.1 hg.2.2
  rw [ha] at h1 h2
  exact ⟨h1, h2⟩
theorem OrgP.poke {w : World} {p : Nat} {R Q : Nat → Prop} {o : Org} {M : OM} (h : OrgP w p R Q o M) {b : Nat} (hb : ¬ R b ∧ Q b) (i : Nat) (u : Value) : OrgP (w.setCell ⟨b, i, none⟩ u) p R Q o M :=
  h.keeps ((Keeps.refl (fun j => j = b) w).set_ rfl i u) (fun j hj => by rw [show j = b from hj]; exact hb)
theorem RSN.open0 {Q : Nat → Prop} {w : World} {k : Nat} {s : Sl} {xs : List Value} (h : RSN Q w k s xs) (h0 : 0 < xs.length) :
    ∃ b i, s.A = some ⟨b, i, none⟩ ∧ ¬ Q b ∧ b < w.heap.size ∧ (∀ j u, xs[j]? = some u → w.cell? ⟨b, i + j, none⟩ = some u) ∧ ∀ j, w.frozen? ⟨b, j, none⟩ = false := by
  obtain ⟨b, i, e, hc⟩ := h.rd.2 h0
  exact ⟨b, i, e, h.out h0 _ e, h.toRS.lt h0 _ e, hc, h.nf h0 _ e⟩
theorem bytC_0 {b : ByteArray} (h : 0 < b.size) : ∃ x : Int, (bytC b)[0]? = some (.int .u8 x) := by
  unfold bytC
  rw [List.getElem?_map, List.getElem?_eq_getElem (by simpa using h)]
  exact ⟨_, rfl⟩
def orgM (body : ByteArray) : Org := ⟨[(1, pageV body [])], [], []⟩
def x_eh : ByteArray := ⟨#[101, 120, 97, 109, 112, 108, 101, 46, 99, 111, 109]⟩
theorem m_pub {body : ByteArray} (h : body.size ≤ 65536) : pubS org0 1 (pageV body []) = (((0 + 1 : Nat) : Int), 0, orgM body) :=
  pub_ok (o := org0) (t := 1) (by unfold bigVr pageV; simp; omega) (by decide) (by kernel_rfl) (fun p hp => by cases hp)
/-- What is answered. -/
structure MmS (body : ByteArray) : Prop where
  f1 : 0 < (answS (orgM body) 1 rqG).2.1.length
  b1 : (answS (orgM body) 1 rqG).2.2.1 = body
  lg : (answS (orgM body) 1 rqG).2.2.2.lg.length = 1
  br : (answS (orgM body) 1 rqG).2.2.2.br.length = 0
  fd : findS (answS (orgM body) 1 rqG).2.2.2.vs x_ad (cl55 1) = 1
  vs : (answS (orgM body) 1 rqG).2.2.2.vs = [(1, pageV body [])]
  g2 : getO (answS (answS (orgM body) 1 rqG).2.2.2 1 rqG).2.1 x_et = some x_q1
  b2 : (answS (answS (orgM body) 1 rqG).2.2.2 1 rqG).2.2.1 = body
set_option maxRecDepth 100000 in
theorem mmS (body : ByteArray) : MmS body :=
  ⟨of_decide_eq_true (by kernel_rfl), by kernel_rfl, by kernel_rfl, by kernel_rfl, by kernel_rfl, by kernel_rfl, by kernel_rfl, by kernel_rfl⟩
theorem host_eh : hV (hostL (bsL x_eh)) = .tuple #[.string x_eh, .nilIface] := by kernel_rfl
end Go.Proofs.YtmckbcbdnckngaaGreatDoor

namespace Go.Proofs.YtmckbcbdnckngaaGreatDoor
open Go.RowKit

set_option maxHeartbeats 16000000 in
set_option maxRecDepth 100000 in
theorem mem_walk (body : ByteArray) (A : Option Addr) (n c : Nat) (w : World) (hr : Rd w 1 A n (bytC body)) (hg : Gl w) (hh : GlH w) (hp : GlP w) :
    Calls Tryz.prog 10 #[.slice A n c] w fun e w' => e = .returned (.bool true) ∧ Ext w w' := by
  have hn : body.size = n := by have := hr.1; rw [bytC_len] at this; omega
  have HEg := Lib.hid (fun w' (hx : Ext w w') => (⟨hg.ext hx, hh.ext hx, hp.ext hx⟩ : Gl w' ∧ GlH w' ∧ GlP w'))
  clear hg hh hp
  by_cases hbig : 2000 < n
  · have f1 : (2000 : Int) < n := by omega
    go_enter Tryz.func10, Tryz.ntmps10
    go_wp2_with fail
    refine (law_awake _ (HEg.out _ (Ext.refl _)).1 (HEg.out _ (Ext.refl _)).2.1 (HEg.out _ (Ext.refl _)).2.2).mono ?_; rintro e w1 ⟨rfl, hb1⟩
    go_wp2_with fail
    go_ret
    exact ⟨rfl, hb1⟩
  by_cases h0 : n = 0
  · subst h0
    go_enter Tryz.func10, Tryz.ntmps10
    go_wp2_with fail
    refine (law_awake _ (HEg.out _ (Ext.refl _)).1 (HEg.out _ (Ext.refl _)).2.1 (HEg.out _ (Ext.refl _)).2.2).mono ?_; rintro e w1 ⟨rfl, hb1⟩
    go_wp2_with fail
    go_ret
    exact ⟨rfl, hb1⟩
  have f1 : ¬ ((2000 : Int) < n) := by omega
  have f2 : ((n : Int) == 0) = false := by rw [beq_eq_false_iff_ne]; omega
  have f3 : ¬ ((n : Int) = 0) := by omega
  have Hn0 := Lib.hid (show 0 < n by omega)
  have HPb := Lib.hid (m_pub (body := body) (by omega))
  have HSz := Lib.hid (show SzV (pageV body []) from ⟨by show x_ad.size ≤ _; decide, by show 1 ≤ _; omega, by show sumF [(x_et, x_q1)] ≤ _; decide, by show body.size ≤ _; omega, by show 0 ≤ _; omega, fun x hx => by cases hx⟩)
  have Hn := Lib.hid hn
  have Hbz := Lib.hid (show body.size ≤ 1048576 by omega)
  obtain ⟨⟨S1, F1, B1, o1⟩, ha1⟩ : ∃ X, answS (orgM body) 1 rqG = X := ⟨_, rfl⟩
  obtain ⟨⟨S2, F2, B2, o2⟩, ha2⟩ : ∃ X, answS o1 1 rqG = X := ⟨_, rfl⟩
  obtain ⟨c1, c2, c3, c4, c5, c6, c7, c8⟩ := mmS body
  rw [ha1] at c1 c2 c3 c4 c5 c6 c7 c8
  simp only at c1 c2 c3 c4 c5 c6 c7 c8
  rw [ha2] at c7 c8
  simp only at c7 c8
  rw [c2] at ha1
  rw [c8] at ha2
  have HA1 := Lib.hid ha1; have HA2 := Lib.hid ha2; have HF1 := Lib.hid c1; have HL := Lib.hid (⟨c3, c4⟩ : _ ∧ _); have HFd := Lib.hid c5; have HVs := Lib.hid c6; have HG2 := Lib.hid c7
  clear hn hbig h0 ha1 ha2 c1 c2 c3 c4 c5 c6 c7 c8
  go_enter Tryz.func10, Tryz.ntmps10
  go_wp2_with fail
  refine (law_awake _ (HEg.out _ (Ext.refl _)).1 (HEg.out _ (Ext.refl _)).2.1 (HEg.out _ (Ext.refl _)).2.2).mono ?_; rintro e w1 ⟨rfl, hb1⟩
  have hcv := conv_BE (c := c) (hr.ext hb1)
  go_wp2_with fail
  refine (or_New _).mono ?_; rintro e w2 ⟨rfl, hO2, hb2⟩
  have HE2 := Lib.hid (hb1.trans hb2)
  go_wp2_with fail
  refine (law_pageN body none 0 0 [] w2 (Rd.none_ _ _ _) (by decide) Hbz.out).mono ?_; rintro e w3 ⟨m, rfl, hver, hvr, hNf, ⟨bb, vbc, hbd, hfz⟩, hAt, hb3⟩
  have HW := Lib.hid hb1.size
  have HWp := Lib.hid (show w1.heap.size < w2.heap.size from hO2.blk.lt)
  have HE3 := Lib.hid (HE2.out.trans hb3)
  have hxv := (Ext.refl w3).alloc (.cells m.cells.toArray 36)
  have HPub := Lib.hid (pub_v (hO2.ext (hb3.trans hxv)) (hAt.ext hxv) hver HSz.out HPb.out (HEg.out _ (HE3.out.trans hxv)).1)
  have HBv := Lib.hid (Blk.new w3 36 m.cells.toArray)
  have Hbody := Lib.hid (show m.body = body from congrArg Ver.body hver)
  have hbdA := hAt.bd
  have HW3 := Lib.hid hb3.size
  clear hO2 hAt hver hb2 hb3 hb1 hcv HSz HPb hxv hr
  obtain ⟨vaddr, vstatus, vf, vbody, vars, ⟨vfA, vfn, vfc⟩, vbs, vrs⟩ := m
  simp only at hvr hNf hbd hbdA Hbody
  rw [Hn.out] at hbd hfz
  subst hvr hbd
  rw [Hbody.out] at hbdA
  have hvfn : vfn = 1 := by have := hNf.rd.lenF; simpa using this.symm
  subst hvfn
  obtain ⟨bf, fo, hfA, hfn, hfl, hfc, hff⟩ := hNf.open0 (by show 0 < 2; omega)
  simp only at hfA
  subst hfA
  obtain ⟨xb, hxb⟩ := bytC_0 (b := body) (by rw [Hn.out]; exact Hn0.out)
  obtain ⟨g9, o9, hg9, hcb⟩ := hbdA.rd.2 (by rw [bytC_len, Hn.out]; exact Hn0.out)
  simp only [Option.some.injEq, Addr.mk.injEq] at hg9
  obtain ⟨rfl, rfl, -⟩ := hg9
  have hbn := hbdA.out (by rw [bytC_len, Hn.out]; exact Hn0.out) _ rfl
  have hbl := hbdA.lt (by rw [bytC_len, Hn.out]; exact Hn0.out) _ rfl
  simp only at hbn hbl
  have Hfr := Lib.hid (⟨hfz Hn0.out, hff (fo + 1)⟩ : w3.frozen? ⟨bb, 0, none⟩ = false ∧ w3.frozen? ⟨bf, fo + 1, none⟩ = false)
  have Hcl := Lib.hid (⟨hcb 0 _ hxb, hfc 1 _ rfl⟩ : w3.cell? ⟨bb, 0 + 0, none⟩ = some (.int .u8 xb) ∧ w3.cell? ⟨bf, fo + 1, none⟩ = some (.string x_q1))
  have Hpl := Lib.hid (⟨hfn, hfl, hbn, hbl⟩ : (¬ bf < w2.heap.size) ∧ bf < w3.heap.size ∧ (¬ bb < w2.heap.size) ∧ bb < w3.heap.size)
  have Hxb := Lib.hid hxb
  clear hfz hff hfc hcb hxb hfn hfl hbn hbl hbdA hNf Hbody
  simp only [MV.cells, Sl.v, sl0] at HPub HBv ⊢
  generalize w1.heap.size = p at *
  go_wp2_with (refine wpList_loadB rfl 36 (.tmp 5) rfl w3.heap.size rfl 36 _ HBv.out _ Tryz.underlying36 infoVe ?_)
  refine HPub.out.mono ?_; rintro e w5 ⟨rfl, R5, ⟨M5, hO5⟩, hk5, hR5a, hR5b⟩
  have hxv := (Ext.refl w3).alloc (.cells #[.string vaddr, .int .i64 vstatus, .slice (some ⟨bf, fo, none⟩) 1 vfc, .slice (some ⟨bb, 0, none⟩) n vbc, .slice none 0 0] 36)
  have HE5 := Lib.hid ((HE3.out.trans hxv).keeps hk5 (fun i hi => by rw [show i = p from hi]; exact HW.out))
  have hsz4 : (w3.alloc (.cells #[.string vaddr, .int .i64 vstatus, .slice (some ⟨bf, fo, none⟩) 1 vfc, .slice (some ⟨bb, 0, none⟩) n vbc, .slice none 0 0] 36)).heap.size = w3.heap.size + 1 := by simp
  rw [hsz4] at hO5 hR5b
  have HR5 := Lib.hid (fun i (hi : R5 i) => (show i = p ∨ w3.heap.size < i from (hR5b i hi).imp id (fun h => by omega)))
  have HO5 := Lib.hid hO5
  have Hv5 := Lib.hid (HBv.out.keep hk5 (fun h => by have h1 := HWp.out; have h2 := HW3.out; have h3 : w3.heap.size = p := h; omega))
  have hpl := Hpl.out; have hwp := HWp.out; have hw3 := HW3.out
  have hK5 : Keeps (fun i => i = p) w3 w5 := (Keeps.of hxv).trans hk5
  have f4 : w5.frozen? ⟨bb, 0, none⟩ = false := (frozen_blk (hK5.block _ hpl.2.2.2 (fun h => by have h3 : bb = p := h; omega)) _).trans Hfr.out.1
  have f5 : ∀ u, (w5.setCell ⟨bb, 0, none⟩ u).frozen? ⟨bf, fo + 1, none⟩ = false := fun u => by
    rw [World.frozen?_setCell]
    exact (frozen_blk (hK5.block _ hpl.2.1 (fun h => by have h3 : bf = p := h; omega)) _).trans Hfr.out.2
  have k1 : w5.cell? ⟨w3.heap.size, 3, none⟩ = some (.slice (some ⟨bb, 0, none⟩) n vbc) := Hv5.out.cell 3
  have k2 : w5.cell? ⟨bb, 0, none⟩ = some (.int .u8 xb) := hK5.cell Hcl.out.1 (fun h => by have h3 : bb = p := h; omega)
  have k3 : ∀ u, (w5.setCell ⟨bb, 0, none⟩ u).cell? ⟨w3.heap.size, 2, none⟩ = some (.slice (some ⟨bf, fo, none⟩) 1 vfc) := fun u => (Hv5.out.far (p := ⟨bb, 0, none⟩) (by show w3.heap.size ≠ bb; omega) u).cell 2
  have k4 : ∀ u, (w5.setCell ⟨bb, 0, none⟩ u).cell? ⟨bf, fo + 1, none⟩ = some (.string x_q1) := fun u => by
    rw [World.cell?_setCell_other _ _ _ _ (by intro h; injection h with h1 h2; omega)]
    exact hK5.cell Hcl.out.2 (fun h => by have h3 : bf = p := h; omega)
  rw [show errV 0 = .nilIface from rfl]
  clear hk5 hR5a hR5b hO5 HPub hK5 hxv hsz4 Hcl Hfr HE3 HE2
  have hn0 := Hn0.out
  go_wp2_with fail
  have HO6 := Lib.hid ((HO5.out.poke (b := bb) ⟨fun h => by have := HR5.out _ h; omega, .inl ⟨trivial, by omega⟩⟩ 0 (.int .u8 ((xb + 1) % 256))).poke (b := bf) ⟨fun h => by have := HR5.out _ h; omega, .inl ⟨trivial, by omega⟩⟩ (fo + 1) (.string ⟨#[120]⟩))
  have HK6 := Lib.hid (((Keeps.refl (fun i => w2.heap.size ≤ i) w5).set_ (b := bb) (by show _ ≤ _; omega) 0 (.int .u8 ((xb + 1) % 256))).set_ (b := bf) (by show _ ≤ _; omega) (fo + 1) (.string ⟨#[120]⟩))
  have Hv6 := Lib.hid ((Hv5.out.far (p := ⟨bb, 0, none⟩) (by show w3.heap.size ≠ bb; omega) (.int .u8 ((xb + 1) % 256))).far (p := ⟨bf, fo + 1, none⟩) (by show w3.heap.size ≠ bf; omega) (.string ⟨#[120]⟩))
  have HE6 := Lib.hid (HE5.out.keeps HK6.out (fun i hi => by have h1 : w2.heap.size ≤ i := hi; have h2 := HW.out; omega))
  clear k1 k2 k3 k4 f4 f5
  generalize ((w5.setCell ⟨bb, 0, none⟩ (.int .u8 ((xb + 1) % 256))).setCell ⟨bf, fo + 1, none⟩ (.string ⟨#[120]⟩)) = w6 at *
  refine (law_get x_ge none 0 0 [] w6 (Rd.none_ _ _ _) (by decide)).mono ?_; rintro e w7 ⟨⟨gA, gn, gc⟩, rfl, hg7, hb7⟩
  have HE7 := Lib.hid (HE6.out.trans hb7)
  have HO7 := Lib.hid (HO6.out.ext hb7)
  have Hv7 := Lib.hid (Hv6.out.ext hb7)
  obtain ⟨-, hAn⟩ := (ans_n (t := 1) (me := x_ge) (ta := x_sa) HO7.out hg7 (by decide) (by decide) (by show 0 ≤ _; omega) (by show 0 ≤ _; omega) (HEg.out _ HE7.out) (show answS (orgM body) 1 ⟨x_ge, x_sa, [(x_ho, x_ec)]⟩ = _ from HA1.out))
  have HAn := Lib.hid hAn
  simp only [Sl.v] at HAn ⊢
  clear hAn hb7 hg7 HO5 HO6 HE5 HE6 Hv5 Hv6 HBv HK6
  go_wp2_with fail
  refine HAn.out.mono ?_; rintro e w8 ⟨⟨sA, sn, sc⟩, ⟨tA, tn, tc⟩, rfl, R8, ⟨M8, hO8⟩, hs8, ht8, hk8, -, hR8b⟩
  have hlow := HO7.out.low
  have htn : n = tn := by have h1 := ht8.toRS.len1; rw [bytC_len, Hn.out] at h1; exact h1
  subst htn
  obtain ⟨⟨fk, fv⟩, F1', hF1⟩ : ∃ q F', F1 = q :: F' := by have h1 := HF1.out; cases F1 with | nil => exact absurd h1 (by decide) | cons q F' => exact ⟨q, F', rfl⟩
  have hsn := hs8.rd.lenF
  have hfk : (fldCells F1)[1]? = some (.string fv) := by rw [hF1]; rfl
  obtain ⟨ba, oa, hsA, han, hal, hac, haf⟩ := hs8.open0 (by rw [hF1]; show 0 < (_ :: _ : List Value).length; exact Nat.zero_lt_succ _)
  obtain ⟨bt, ot, htA, htn, htl, htc, htf⟩ := ht8.open0 (by rw [bytC_len, Hn.out]; exact Hn0.out)
  simp only at hsA htA hsn
  subst hsA htA
  have hsn0 : ((sn : Int) == 0) = false := by rw [beq_eq_false_iff_ne]; rw [← hsn, hF1]; show ((F1'.length + 1 : Nat) : Int) ≠ 0; omega
  have hsn1 : ¬ ((sn : Int) = 0) := by rwa [beq_eq_false_iff_ne] at hsn0
  have hsn2 : 0 < sn := by omega
  have htv : w8.cell? ⟨bt, ot, none⟩ = some (.int .u8 xb) := htc 0 _ Hxb.out
  have hav : w8.cell? ⟨ba, oa + 1, none⟩ = some (.string fv) := hac 1 _ hfk
  have hpl2 := hO8.low
  have HE8 := Lib.hid (HE7.out.keeps hk8 (fun i hi => by have := HR5.out i hi; have := HW.out; omega))
  have hw7 : w3.heap.size < w7.heap.size := Hv7.out.lt
  have Hv8 := Lib.hid (Hv7.out.keep hk8 (fun h => by have := HR5.out _ h; omega))
  have HR8 := Lib.hid (fun i (hi : R8 i) => (show i = p ∨ w3.heap.size < i from (hR8b i hi).elim (HR5.out i) (fun h => .inr (by omega))))
  have hne : (⟨ba, oa + 1, none⟩ : Addr) ≠ ⟨bt, ot, none⟩ := fun h => by rw [h, htv] at hav; cases hav
  have f2 : w8.frozen? ⟨bt, ot, none⟩ = false := htf ot
  have f4 : w8.frozen? ⟨ba, oa + 1, none⟩ = false := haf _
  have k4 : ∀ u, (w8.setCell ⟨bt, ot, none⟩ u).cell? ⟨ba, oa + 1, none⟩ = some (.string fv) := fun u => by
    rw [World.cell?_setCell_other _ _ _ _ (by first | exact hne | exact hne.symm)]
    exact hav
  have k1 : ∀ u, ((w8.setCell ⟨bt, ot, none⟩ u).alloc (.cells #[.int .i64 S1, .slice (some ⟨ba, oa, none⟩) sn sc] 38)).cell? ⟨w8.heap.size, 1, none⟩ = some (.slice (some ⟨ba, oa, none⟩) sn sc) := fun u => by
    have h := (Blk.new (w8.setCell ⟨bt, ot, none⟩ u) 38 #[.int .i64 S1, .slice (some ⟨ba, oa, none⟩) sn sc]).cell 1
    rw [show (w8.setCell ⟨bt, ot, none⟩ u).heap.size = w8.heap.size by simp [World.setCell]] at h
    exact h
  have htn' : ¬ bt < w7.heap.size := fun h => htn (.inl h)
  have han' : ¬ ba < w7.heap.size := fun h => han (.inl h)
  have HO9 := Lib.hid (((hO8.poke (b := bt) ⟨fun h => htn (.inr h), .inr (by omega)⟩ ot (.int .u8 ((xb + 1) % 256))).poke (b := ba) ⟨fun h => han (.inr h), .inr (by omega)⟩ (oa + 1) (.string ⟨#[121]⟩)).ext ((Ext.refl _).alloc (.cells #[.int .i64 S1, .slice (some ⟨ba, oa, none⟩) sn sc] 38)))
  have HK9 := Lib.hid ((((Keeps.refl (fun i => w7.heap.size ≤ i) w8).set_ (b := bt) (by show _ ≤ _; omega) ot (.int .u8 ((xb + 1) % 256))).set_ (b := ba) (by show _ ≤ _; omega) (oa + 1) (.string ⟨#[121]⟩)).alloc (.cells #[.int .i64 S1, .slice (some ⟨ba, oa, none⟩) sn sc] 38))
  have Hv9 := Lib.hid (Hv8.out.keep HK9.out (fun h => by have h1 : w7.heap.size ≤ w3.heap.size := h; omega))
  have HE9 := Lib.hid (HE8.out.keeps HK9.out (fun i hi => by have h1 : w7.heap.size ≤ i := hi; have := HE7.out.size; omega))
  clear hs8 ht8 hk8 hO8 HAn hac htc haf htf hfk Hv8 Hv7 HO7 hlow hR8b hav hne
  have k2 := htv
  clear htv
  go_wp2_with fail
  clear k1 k2 k4 f2 f4 htn' han' htn han HE7 HE8 hpl2
  generalize ((w8.setCell ⟨bt, ot, none⟩ (.int .u8 ((xb + 1) % 256))).setCell ⟨ba, oa + 1, none⟩ (.string ⟨#[121]⟩)).alloc (.cells #[.int .i64 S1, .slice (some ⟨ba, oa, none⟩) sn sc] 38) = w9 at *
  have hlow9 := HO9.out.low
  refine (or_AtN _ _ _ _ _ x_ad 1 w9 HO9.out).mono ?_; rintro e w10 ⟨hb10, ⟨hbad, -⟩ | ⟨n9, q9, ⟨xad, xst, xf, xbody, xvars, ⟨xfA, xfn, xfc⟩, ⟨xbA, xbn, xbc⟩, ⟨xvA, xvn, xvc⟩⟩, hfd9, hq9, hver9, -, hNb9, rfl⟩⟩
  · rw [HFd.out] at hbad; exact absurd hbad (by decide)
  have hn9 : n9 = 0 := by rw [HFd.out] at hfd9; omega
  subst hn9
  rw [HVs.out] at hq9
  have hxbody : xbody = body := by
    simp only [List.getElem?_cons_zero, Option.some.injEq] at hq9
    rw [← hq9] at hver9
    exact congrArg Ver.body hver9
  simp only at hNb9
  rw [hxbody] at hNb9
  have hxn : n = xbn := by have h1 := hNb9.toRS.len1; rw [bytC_len, Hn.out] at h1; exact h1
  subst hxn
  obtain ⟨bx, ox, hxA, hxn', hxl, hxc, hxf⟩ := hNb9.open0 (by rw [bytC_len, Hn.out]; exact Hn0.out)
  simp only at hxA hxn'
  subst hxA
  have k2 : w10.cell? ⟨bx, ox, none⟩ = some (.int .u8 xb) := hxc 0 _ Hxb.out
  have f2 : w10.frozen? ⟨bx, ox, none⟩ = false := hxf ox
  have hw9 := HK9.out.size
  have HO10 := Lib.hid ((((HO9.out.more (Q' := fun i => (((True ∧ i < w3.heap.size + 1) ∨ R5 i) ∨ w7.heap.size ≤ i) ∨ w9.heap.size ≤ i) (fun i hi => hi) (fun i hi => .inl (HO9.out.rq i hi))).ext hb10).poke (b := bx) ⟨fun h => by have := hlow9 _ h; omega, .inr (by omega)⟩ ox (.int .u8 ((xb - 1) % 256))).ext ((Ext.refl _).alloc (.cells #[.string xad, .int .i64 xst, .slice xfA xfn xfc, .slice (some ⟨bx, ox, none⟩) n xbc, .slice xvA xvn xvc] 36)))
  have HK10 := Lib.hid (((Keeps.of (S := fun i => w9.heap.size ≤ i) hb10).set_ (b := bx) (by show _ ≤ _; omega) ox (.int .u8 ((xb - 1) % 256))).alloc (.cells #[.string xad, .int .i64 xst, .slice xfA xfn xfc, .slice (some ⟨bx, ox, none⟩) n xbc, .slice xvA xvn xvc] 36))
  have Hv10 := Lib.hid (Hv9.out.keep HK10.out (fun h => by have h1 : w9.heap.size ≤ w3.heap.size := h; have := Hv9.out.lt; omega))
  have HE10 := Lib.hid (HE9.out.keeps HK10.out (fun i hi => by have h1 : w9.heap.size ≤ i := hi; have := HE9.out.size; omega))
  have k1 : ∀ u, ((w10.setCell ⟨bx, ox, none⟩ u).alloc (.cells #[.string xad, .int .i64 xst, .slice xfA xfn xfc, .slice (some ⟨bx, ox, none⟩) n xbc, .slice xvA xvn xvc] 36)).cell? ⟨w10.heap.size, 3, none⟩ = some (.slice (some ⟨bx, ox, none⟩) n xbc) := fun u => by
    have h := (Blk.new (w10.setCell ⟨bx, ox, none⟩ u) 36 #[.string xad, .int .i64 xst, .slice xfA xfn xfc, .slice (some ⟨bx, ox, none⟩) n xbc, .slice xvA xvn xvc]).cell 3
    rw [show (w10.setCell ⟨bx, ox, none⟩ u).heap.size = w10.heap.size by simp [World.setCell]] at h
    exact h
  simp only [MV.cells, Sl.v]
  clear hxc hxf hNb9 hver9 hq9 hfd9 hb10 HO9 HK9 Hv9 HE9
  go_wp2_with fail
  clear k1 k2 f2 hlow9 hxn' hxl hw9
  generalize ((w10.setCell ⟨bx, ox, none⟩ (.int .u8 ((xb - 1) % 256))).alloc (.cells #[.string xad, .int .i64 xst, .slice xfA xfn xfc, .slice (some ⟨bx, ox, none⟩) n xbc, .slice xvA xvn xvc] 36)) = w11 at *
  refine (law_get x_ge none 0 0 [] w11 (Rd.none_ _ _ _) (by decide)).mono ?_; rintro e w12 ⟨⟨gA2, gn2, gc2⟩, rfl, hg12, hb12⟩
  have HE12 := Lib.hid (HE10.out.trans hb12)
  have HO12 := Lib.hid (HO10.out.ext hb12)
  have Hv12 := Lib.hid (Hv10.out.ext hb12)
  obtain ⟨hFz, hAn⟩ := (ans_n (t := 1) (me := x_ge) (ta := x_sa) HO12.out hg12 (by decide) (by decide) (by rw [HL.out.2]; decide) (by rw [HL.out.1]; decide) (HEg.out _ HE12.out) (show answS o1 1 ⟨x_ge, x_sa, [(x_ho, x_ec)]⟩ = _ from HA2.out))
  have HAn := Lib.hid hAn
  have HFz := Lib.hid hFz
  simp only [Sl.v] at HAn ⊢
  clear hAn hFz hb12 hg12 HO10 HE10 Hv10 HK10
  go_wp2_with fail
  refine HAn.out.mono ?_; rintro e w13 ⟨⟨rA, rn, rc⟩, ⟨cA, cn, cc⟩, rfl, R13, -, hs13, ht13, hk13, -, -⟩
  have hX14 := (Ext.refl w13).alloc (.cells #[.int .i64 S2, .slice rA rn rc] 38)
  have HE14 := Lib.hid ((HE12.out.keeps hk13 (fun i hi => by have := HR8.out i hi; have := HW.out; omega)).trans hX14)
  have Hv14 := Lib.hid ((Hv12.out.keep hk13 (fun h => by have := HR8.out _ h; omega)).ext hX14)
  have k1 : (w13.alloc (.cells #[.int .i64 S2, .slice rA rn rc] 38)).cell? ⟨w13.heap.size, 1, none⟩ = some (.slice rA rn rc) := (Blk.new w13 38 #[.int .i64 S2, .slice rA rn rc]).cell 1
  have HGt := Lib.hid (get_F x_et (by decide) (hs13.toRS.ext hX14) HFz.out)
  rw [HG2.out, show getV (some x_q1) = .tuple #[.string x_q1, .bool true] from rfl] at HGt
  have Hc14 := Lib.hid (ht13.toRS.rd.ext hX14)
  clear hs13 ht13 hk13 HAn HFz HG2 HA1 HA2 HO12 HE12 Hv12 hX14 HL HFd HVs
  go_wp2_with fail
  refine HGt.out.mono ?_; rintro e w15 ⟨rfl, hb15⟩
  have HE15 := Lib.hid (HE14.out.trans hb15)
  have Hv15 := Lib.hid (Hv14.out.ext hb15)
  have Hc15 := Lib.hid (Hc14.out.ext hb15)
  clear HE14 Hv14 Hc14 hb15 k1 HGt
  go_wp2_with (refine wpList_loadB rfl 36 (.tmp 5) rfl w3.heap.size rfl 36 _ Hv15.out _ Tryz.underlying36 infoVe ?_)
  refine (or_PubNil _ _ _ _ _ _ _ _ _ _ _ _ _).mono ?_; rintro e w16 ⟨rfl, hb16⟩
  go_wp2_with fail
  refine (or_WdNil _ _ _).mono ?_; rintro e w17 ⟨rfl, hb17⟩
  go_wp2_with fail
  refine (or_AtNil _ _ _).mono ?_; rintro e w18 ⟨rfl, hb18⟩
  have hX18 := (((hb16.trans hb17).trans hb18).alloc (.cells #[.string ⟨#[]⟩, .int .i64 0, .slice none 0 0, .slice none 0 0, .slice none 0 0] 36))
  have HE18 := Lib.hid (HE15.out.trans hX18)
  have Hc18 := Lib.hid (Hc15.out.ext hX18)
  clear hX18 hb16 hb17 hb18 HE15 Hc15 Hv15
  go_wp2_with fail
  generalize w18.alloc (.cells #[.string ⟨#[]⟩, .int .i64 0, .slice none 0 0, .slice none 0 0, .slice none 0 0] 36) = w19 at *
  refine (law_get x_ge none 0 0 [] w19 (Rd.none_ _ _ _) (by decide)).mono ?_; rintro e w20 ⟨⟨gA3, gn3, gc3⟩, rfl, -, hb20⟩
  simp only [Sl.v]
  go_wp2_with fail
  refine (or_AnsNil _ _ _ _ _ _ _).mono ?_; rintro e w21 ⟨rfl, hb21⟩
  have hX22 := ((hb20.trans hb21).alloc (.cells #[.int .i64 0, .slice none 0 0] 38))
  have HE22 := Lib.hid (HE18.out.trans hX22)
  have Hc22 := Lib.hid (Hc18.out.ext hX22)
  have Hz22 := Lib.hid ((Blk.new w21 38 #[.int .i64 0, .slice none 0 0]))
  clear hX22 hb20 hb21 HE18 Hc18
  go_wp2_with fail
  generalize w21.alloc (.cells #[.int .i64 0, .slice none 0 0] 38) = w22 at *
  have hHo := adr_Host x_eh w22 (by decide) (HEg.out _ HE22.out).1
  rw [host_eh] at hHo
  refine hHo.mono ?_; rintro e w23 ⟨rfl, hb23⟩
  have HE23 := Lib.hid (HE22.out.trans hb23)
  have hcv := conv_BE (c := cc) (Hc22.out.ext hb23)
  have Hz23 := Lib.hid (Hz22.out.ext hb23)
  have hqx : (x_q1.toList == [34, 49, 34]) = true := by decide +kernel
  generalize x_q1 = xq at *
  have hqe : (x_eh.toList == [101, 120, 97, 109, 112, 108, 101, 46, 99, 111, 109]) = true := by decide +kernel
  generalize x_eh = xe at *
  clear hHo hb23 HE22 Hz22 Hc22
  go_wp2_with fail
  refine (base_Is 3 3 (by decide) (by decide) (by decide) _).mono ?_; rintro e w24 ⟨rfl, hb24⟩
  rw [show decide ((3 : Nat) = 3) = true from rfl]
  go_wp2_with fail
  refine (base_Is 3 3 (by decide) (by decide) (by decide) _).mono ?_; rintro e w25 ⟨rfl, hb25⟩
  rw [show decide ((3 : Nat) = 3) = true from rfl]
  go_wp2_with fail
  refine (base_Is 3 3 (by decide) (by decide) (by decide) _).mono ?_; rintro e w26 ⟨rfl, hb26⟩
  rw [show decide ((3 : Nat) = 3) = true from rfl]
  go_wp2_with fail
  refine (or_BrNil _ _ _).mono ?_; rintro e w27 ⟨rfl, rfl⟩
  go_wp2_with fail
  refine (base_Is 3 3 (by decide) (by decide) (by decide) _).mono ?_; rintro e w28 ⟨rfl, hb28⟩
  rw [show decide ((3 : Nat) = 3) = true from rfl]
  have hX := ((hb24.trans hb25).trans hb26).trans hb28
  have k0 : w28.cell? ⟨w21.heap.size, 0, none⟩ = some (.int .i64 0) := (Hz23.out.ext hX).cell 0
  go_wp2_with fail
  refine (or_RqNil _).mono ?_; rintro e w29 ⟨rfl, rfl⟩
  go_wp2_with fail
  go_ret
  exact ⟨rfl, HE23.out.trans hX⟩
theorem mem_walkI (body : ByteArray) (s : Sl) (w : World) (hr : RS (fun _ => False) w 1 s (bytC body)) (hg : Gl w) (hh : GlH w) (hp : GlP w) :
    Calls Tryz.prog 10 #[s.v] w fun e w' => e = .returned (.bool true) ∧ Ext w w' :=
  mem_walk body s.A s.n s.c w hr.rd hg hh hp
end Go.Proofs.YtmckbcbdnckngaaGreatDoor
