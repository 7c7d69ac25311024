/- Walks of functions that the proof needs, and plain laws on what they compute. No condition beyond those that each one states. -/
import Derived.Test.YtmckbcbdnckngaaGreatDoorJ4
import Derived.Lib.SmallJoins
set_option maxHeartbeats 32000000
set_option maxRecDepth 100000
set_option linter.unusedSimpArgs false
set_option linter.unusedVariables false
namespace Go.Proofs.YtmckbcbdnckngaaGreatDoor
open Go.RowKit

theorem infoRsp : (Tryz.prog.info? 38).map (·.size) = some 2 := by kernel_rfl
def emS (A : Ans) : Bool := A.status == 204 || A.status == 304
def ansF (A : Ans) (t1 : Int) : List Fd := if emS A then setS x_dt (fmtS (t1 / 1000)) A.fs else setS x_cl (decV A.body.size) (setS x_dt (fmtS (t1 / 1000)) A.fs)
def ansB (A : Ans) (me : ByteArray) : ByteArray := if emS A || me.toList == [72, 69, 65, 68] then ⟨#[]⟩ else A.body
def ansK (A : Ans) (t1 : Int) (me : ByteArray) : Akd := ⟨t1, A.status, A.version, A.variant, A.addr, if A.status == 206 then A.lo else 0, if A.status == 206 then A.hi else (ansB A me).size⟩
theorem answ_eq (o : Org) (t : Int) (r : Rq) : answS o t r = ((decS55 o (cl55 t) r).status, ansF (decS55 o (cl55 t) r) (cl55 t), ansB (decS55 o (cl55 t) r) r.method, { o with lg := o.lg ++ [ansK (decS55 o (cl55 t) r) (cl55 t) r.method] }) := rfl
theorem fmtS_len {n : Int} (h0 : 0 ≤ n) (h1 : n ≤ 253402300799) : (fmtS n).size ≤ 100 := by
 obtain ⟨⟨_, _, m0, m1, _, _⟩, -⟩ := date_ok (d := n / 86400) (by omega) (by omega)
 unfold fmtS catS
 simp only [ByteArray.size_append, wdS_size, twoS_size, moS_size m0 m1]
 decide
theorem or_Answer (Q R : Nat → Prop) (p : Nat) (o : Org) (M : OM) (t : Int) (r : Rq) (rA : Option Addr) (rn rc : Nat) (w : World) (hO : OrgP w p R Q o M) (hr : RdF w rA rn r.fs) (hrc : rn ≤ rc)
  (hrT : sumF r.fs + 2 * rn ≤ 1048576) (htz : r.target.size ≤ 1048576) (hbr : o.br.length ≤ 1000000) (hlg : o.lg.length ≤ 1000000) (hg : Gl w) (hh : GlH w) (hp : GlP w) :
  Calls Tryz.prog 15 #[.pointer (some ⟨p, 0, none⟩), .int .i64 t, .agg #[.string r.method, .string r.target, .slice rA rn rc]] w fun e w' => ∃ s1 s2 : Sl, e = .returned (.tuple #[.agg #[.int .i64 (answS o t r).1, s1.v], s2.v]) ∧
   ∃ R', (∃ M', OrgP w' p R' (fun i => Q i ∨ w.heap.size ≤ i) (answS o t r).2.2.2 M') ∧ RS (fun i => i < w.heap.size ∨ R' i) w' 2 s1 (fldCells (answS o t r).2.1) ∧ RS (fun i => i < w.heap.size ∨ R' i) w' 1 s2 (bytC (answS o t r).2.2.1) ∧
    Keeps R w w' ∧ (∀ i, R i → R' i) ∧ (∀ i, R' i → R i ∨ w.heap.size ≤ i) := by
 have Hans := zi (answ_eq o t r)
 have Hct := zi (show 0 ≤ cl55 t ∧ cl55 t ≤ 1099511627776 by unfold cl55; omega)
 have HAB := zi (AB_dec (o := o) (t := cl55 t) (r := r) (fun x hx => (hO.bd x hx).1))
 have HCl := zi (fun w' => or_clip t w'); have HFl := zi (fun w' => http_Floor t w')
 generalize answS o t r = AW at *
 generalize cl55 t = t1 at *
 have HEg := zi (fun w' (hx : Ext w w') => (⟨hg.ext hx, hh.ext hx, hp.ext hx⟩ : Gl w' ∧ GlH w' ∧ GlP w'))
 have hsz1 : (w.alloc (.cells #[.string r.method, .string r.target, .slice rA rn rc] 42)).heap.size = w.heap.size + 1 := by simp
 have hsz2 : ((w.alloc (.cells #[.string r.method, .string r.target, .slice rA rn rc] 42)).alloc (.cells #[.int .i64 0, .slice none 0 0] 38)).heap.size = w.heap.size + 2 := by simp
 have HX := zi (((Blk.new w 42 #[.string r.method, .string r.target, .slice rA rn rc]).alloc (.cells #[.int .i64 0, .slice none 0 0] 38)).alloc (.cells #[.int .i64 t1, .int .i64 0, .int .i64 0, .int .i64 0, .string ⟨#[]⟩, .int .i64 0, .int .i64 0, .slice none 0 0, .slice none 0 0] 111))
 have HY := zi ((Blk.new (w.alloc (.cells #[.string r.method, .string r.target, .slice rA rn rc] 42)) 38 #[.int .i64 0, .slice none 0 0]).alloc (.cells #[.int .i64 t1, .int .i64 0, .int .i64 0, .int .i64 0, .string ⟨#[]⟩, .int .i64 0, .int .i64 0, .slice none 0 0, .slice none 0 0] 111))
 have HZ := zi (Blk.new ((w.alloc (.cells #[.string r.method, .string r.target, .slice rA rn rc] 42)).alloc (.cells #[.int .i64 0, .slice none 0 0] 38)) 111 #[.int .i64 t1, .int .i64 0, .int .i64 0, .int .i64 0, .string ⟨#[]⟩, .int .i64 0, .int .i64 0, .slice none 0 0, .slice none 0 0])
 have HE3 := zi ((((Ext.refl w).alloc (.cells #[.string r.method, .string r.target, .slice rA rn rc] 42)).alloc (.cells #[.int .i64 0, .slice none 0 0] 38)).alloc (.cells #[.int .i64 t1, .int .i64 0, .int .i64 0, .int .i64 0, .string ⟨#[]⟩, .int .i64 0, .int .i64 0, .slice none 0 0, .slice none 0 0] 111))
 rw [hsz1] at HY
 rw [hsz2] at HZ
 obtain ⟨W3, hW3⟩ : ∃ W3, (((w.alloc (.cells #[.string r.method, .string r.target, .slice rA rn rc] 42)).alloc (.cells #[.int .i64 0, .slice none 0 0] 38)).alloc (.cells #[.int .i64 t1, .int .i64 0, .int .i64 0, .int .i64 0, .string ⟨#[]⟩, .int .i64 0, .int .i64 0, .slice none 0 0, .slice none 0 0] 111)) = W3 := ⟨_, rfl⟩
 have HW3 := zi hW3
 rw [hW3] at HX HY HZ HE3
 have hA3 : AnsAt W3 (w.heap.size + 2) t1 ans0 sl0 sl0 := ⟨HZ.out, RS.nil _ _ _, RS.nil _ _ _⟩
 have hO3 := (hO.more (Q' := fun i => Q i ∨ w.heap.size ≤ i) (fun i hi => hi) (fun b hb => .inl (hO.rq b hb))).ext HE3.out
 have hpl : ¬ R (w.heap.size + 2) := fun h => by have := hO.low _ h; omega
 have hr3 := ((⟨hr, fun _ _ _ h => h, hrc⟩ : RS (fun _ => False) w 2 ⟨rA, rn, rc⟩ (fldCells r.fs)).more (Q' := fun i => i = (w.heap.size + 2)) (fun i hi => .inr (by omega))).ext HE3.out
 have hgp : ∀ w', Keeps (fun i => i = (w.heap.size + 2)) W3 w' → Ext w w' := fun w' hk => HE3.out.keeps hk (fun i hi => by omega)
 have HCh := zi (or_choose (fun i => Q i ∨ w.heap.size ≤ i) R p o M (w.heap.size + 2) t1 r rA rn rc W3 hO3 hA3 hpl (.inr (by omega)) hr3 hrT htz hbr (fun w' hk => HEg.out _ (hgp w' hk)))
 have HO := zi (fun w' (hk : Keeps (fun i => i = (w.heap.size + 2)) W3 w') => hO3.keeps hk (fun i hi => by rw [show i = (w.heap.size + 2) from hi]; exact ⟨hpl, .inr (by omega)⟩))
 have HGp := zi hgp
 have Hlow := zi hO.low; have Hrl := zi hO.rl; have Hrq := zi hO.rq
 have HPl := zi hpl
 clear hO hr hg hh hp hW3 hA3 hO3 hpl hr3 hgp HZ hrT htz hbr hsz1
 obtain ⟨me, ta, rfs⟩ := r
 obtain ⟨vs, br, ⟨lgA, lgn, lgc⟩, mv⟩ := M
 generalize decS55 o t1 ⟨me, ta, rfs⟩ = A at *
 simp only at HX HY HW3 HCh Hans
 obtain rfl := Hans.out
 clear Hans
 simp only
 go_enter Tryz.func15, Tryz.ntmps15
 go_wp2_with fail
 refine (HCl.out _).mono ?_; rintro e w1 ⟨rfl, rfl⟩
 go_upto_region 4 with fail
 (try rw [hsz2])
 rw [HW3.out]
 have r0 : W3.cell? ⟨w.heap.size, 0, none⟩ = some (.string me) := HX.out.cell 0
 have r1 : W3.cell? ⟨w.heap.size, 1, none⟩ = some (.string ta) := HX.out.cell 1
 have r2 : W3.cell? ⟨w.heap.size, 2, none⟩ = some (.slice rA rn rc) := HX.out.cell 2
 clear HW3
 go_wp2_with fail
 refine HCh.out.mono ?_; rintro e w4 ⟨v, rfl, ⟨⟨fA, fn, fc⟩, ⟨bA, bn, bc⟩, h4⟩, hk4⟩
 clear r0 r1 r2
 have hE4 := HGp.out _ hk4
 have Hk4 := zi hk4
 have HA4 := zi h4
 clear hk4 h4
 go_wp2_with fail
 refine (HFl.out _).mono ?_; rintro e w4x ⟨rfl, rfl⟩
 go_wp2_with fail
 refine (http_Format (t1 / 1000) w4x (by have := Hct.out; omega) (by have := Hct.out; omega) (HEg.out _ hE4).2.1).mono ?_; rintro e w5 ⟨rfl, hb5⟩
 have HA5 := zi (HA4.out.ext hb5)
 have hfl := Nat.le_of_eq (HA5.out.fs.rd.lenF).symm
 have s7 : w5.cell? ⟨(w.heap.size + 2), 7, none⟩ = some (.slice fA fn fc) := HA5.out.blk.cell 7
 have hab := HAB.out.len
 have HS1 := zi (field_Set fA fn fc A.fs x_dt (fmtS (t1 / 1000)) w5 HA5.out.fs.rd (by simp only at hfl; omega) (by decide) HAB.out.bsz)
 have Hdz := zi (fmtS_len (n := t1 / 1000) (by have := Hct.out; omega) (by have := Hct.out; omega))
 have HFS := zi (show ansF A t1 = if emS A then setS x_dt (fmtS (t1 / 1000)) A.fs else setS x_cl (decV A.body.size) (setS x_dt (fmtS (t1 / 1000)) A.fs) from rfl)
 generalize fmtS (t1 / 1000) = date at *
 go_wp2_with fail
 refine HS1.out.mono ?_; rintro e w6 ⟨gA, gn, gc, rfl, hg6, hgc, hb6, hown6⟩
 have Hown6 := zi hown6
 have HG6 := zi (show RS (fun i => i < w.heap.size + 3) w6 2 ⟨gA, gn, gc⟩ (fldCells (setS x_dt date A.fs)) from ⟨hg6, fun h1 a ha hb => by
  have h9 := (Hown6.out.lt a.block (by simp only at ha; subst ha; rfl)).1
  have h8 : (w.heap.size + 2) < w5.heap.size := HA5.out.blk.lt
  have hb' : a.block < w.heap.size + 3 := hb
  omega, hgc⟩)
 have HE6 := zi ((hE4.trans hb5).trans hb6); have HE46 := zi (hb5.trans hb6)
 have HA6 := zi (HA5.out.ext hb6)
 have HgN := zi (show gn ≤ 131076 by have h1 := hg6.lenF; have h2 := setS_len x_dt date A.fs; omega)
 have hBn := HA6.out.bsz
 change A.body.size = bn at hBn
 have HBn := zi hBn
 clear s7 hown6 hg6 hgc hb5 hb6 hfl hBn hE4 HS1
 go_upto_region 9 with fail
 go_cut [12] (fun v wx => v = .bool (emS A) ∧ w6 = wx)
 case first =>
  have s1 : w6.cell? ⟨(w.heap.size + 2), 1, none⟩ = some (.int .i64 A.status) := HA6.out.blk.cell 1
  have HEm := zi (show emS A = (A.status == 204 || A.status == 304) from rfl)
  generalize emS A = em at *
  generalize A.status = st at *
  cases q1 : (st == 204)
  ·cases q2 : (st == 304)
   ·go_wp2_with fail
    go_meet
    exact ⟨by rw [HEm.out, q1, q2]; rfl, rfl⟩
   ·go_wp2_with fail
    go_meet
    exact ⟨by rw [HEm.out, q1, q2]; rfl, rfl⟩
  ·go_wp2_with fail
   go_meet
   exact ⟨by rw [HEm.out, q1]; rfl, rfl⟩
 case rest =>
 obtain ⟨rfl, rfl⟩ := hcut
 obtain ⟨em, hem⟩ : ∃ em, emS A = em := ⟨_, rfl⟩
 rw [hem]
 have Hem := zi hem
 clear hem
 go_upto_if 55 with fail
 go_cut [11] (fun v wx => ∃ s : Sl, v = s.v ∧ RS (fun i => i < w.heap.size + 3) wx 2 s (fldCells (ansF A t1)) ∧ Ext w6 wx)
 case first =>
  cases em with
  | true =>
   have HF := zi (show ansF A t1 = setS x_dt date A.fs by rw [HFS.out, Hem.out, if_pos rfl])
   go_wp2_with fail
   go_meet
   exact ⟨⟨gA, gn, gc⟩, rfl, by rw [HF.out]; exact HG6.out, Ext.refl _⟩
  | false =>
   have HF := zi (show ansF A t1 = setS x_cl (decV A.body.size) (setS x_dt date A.fs) by rw [HFS.out, Hem.out, if_neg (by simp)])
   have s8 : w6.cell? ⟨(w.heap.size + 2), 8, none⟩ = some (.slice bA bn bc) := HA6.out.blk.cell 8
   have hbb := HAB.out.bdy
   have hbn := HBn.out
   have HIt := zi (show Calls Tryz.prog 48 #[.int .i64 (bn : Nat)] w6 fun e w'' => e = .returned (.string (decV A.body.size)) ∧ Ext w6 w'' from by rw [hbn]; exact std_Itoa bn (by omega) (by omega) w6 (HEg.out _ HE6.out).2.2)
   have HS2 := zi (fun w' (hx : Ext w6 w') => field_Set gA gn gc (setS x_dt date A.fs) x_cl (decV A.body.size) w' (HG6.out.rd.ext hx) (by have := HgN.out; omega) (by decide) (setS_bsz (by decide) (by have := Hdz.out; omega) HAB.out.bsz))
   clear hbb hbn
   generalize decV A.body.size = dv at *
   go_wp2_with fail
   refine HIt.out.mono ?_; rintro e w7 ⟨rfl, hb7⟩
   go_wp2_with fail
   refine (HS2.out _ hb7).mono ?_; rintro e w8 ⟨kA, kn, kc, rfl, hk, hkc, hb8, hown8⟩
   go_wp2_with fail
   go_meet
   have h8 : (w.heap.size + 2) < w6.heap.size := HA6.out.blk.lt
   have h7 := hb7.size
   have hRS : RS (fun i => i < w.heap.size + 3) w8 2 ⟨kA, kn, kc⟩ (fldCells (setS x_cl dv (setS x_dt date A.fs))) := ⟨hk, fun h1 a ha hb => by
    have h9 := (hown8.lt a.block (by simp only at ha; subst ha; rfl)).1
    have hb' : a.block < w.heap.size + 3 := hb
    omega, hkc⟩
   exact ⟨⟨kA, kn, kc⟩, rfl, by rw [HF.out]; exact hRS, hb7.trans hb8⟩
 case rest =>
 obtain ⟨⟨fA1, fn1, fc1⟩, rfl, hF1, hE7⟩ := hcut
 have HF1 := zi hF1; have HE67 := zi hE7
 clear hF1 hE7
 generalize wc = w7 at *
 have HA7 := zi (HA6.out.ext HE67.out)
 have s8 : w7.cell? ⟨(w.heap.size + 2), 8, none⟩ = some (.slice bA bn bc) := HA7.out.blk.cell 8
 simp only [Sl.v]
 go_wp2_with fail
 refine (cln_B ⟨bA, bn, bc⟩ (bytC A.body) w7 HA7.out.bd.rd (bytC_one _) (by have := HAB.out.bdy; have := HBn.out; simp only; omega)).mono ?_; rintro e w8 ⟨⟨cA, cn, cc⟩, rfl, hcn, hC, hb8, -⟩
 have HC := zi hC; have HE78 := zi hb8
 have HX8 := zi ((HX.out.keep Hk4.out (by omega)).ext (HE46.out.trans (HE67.out.trans hb8)))
 have HA8 := zi (HA7.out.ext hb8)
 clear s8 hcn hC hb8
 simp only [Sl.v]
 go_upto_region 13 with fail
 go_cut [74] (fun v wx => v = .bool (em || me.toList == [72, 69, 65, 68]) ∧ w8 = wx)
 case first =>
  have r0 : w8.cell? ⟨w.heap.size, 0, none⟩ = some (.string me) := HX8.out.cell 0
  cases em with
  | true =>
   go_wp2_with fail
   go_meet
   exact ⟨by simp, rfl⟩
  | false =>
   cases q : (me.toList == [72, 69, 65, 68])
   ·go_wp2_with fail
    go_meet
    exact ⟨by simp [q], rfl⟩
   ·go_wp2_with fail
    go_meet
    exact ⟨by simp [q], rfl⟩
 case rest =>
 obtain ⟨rfl, rfl⟩ := hcut
 obtain ⟨z, hz⟩ : ∃ z, (em || me.toList == [72, 69, 65, 68]) = z := ⟨_, rfl⟩
 rw [hz]
 have Hz := zi (show (emS A || me.toList == [72, 69, 65, 68]) = z by rw [Hem.out]; exact hz)
 clear hz
 go_upto_if 74 with fail
 go_cut [13] (fun v wx => ∃ s : Sl, v = s.v ∧ RS (fun i => i < w.heap.size + 3) wx 1 s (bytC (ansB A me)) ∧ w8 = wx)
 case first =>
  cases z with
  | true =>
   have HB := zi (show ansB A me = ⟨#[]⟩ by unfold ansB; rw [if_pos Hz.out])
   go_wp2_with fail
   go_meet
   exact ⟨sl0, rfl, by rw [HB.out]; exact RS.nil _ _ _, rfl⟩
  | false =>
   have HB := zi (show ansB A me = A.body by unfold ansB; rw [if_neg (by rw [Hz.out]; simp)])
   go_wp2_with fail
   go_meet
   have h8 : (w.heap.size + 2) < w7.heap.size := HA7.out.blk.lt
   exact ⟨⟨cA, cn, cc⟩, rfl, by
    rw [HB.out]
    exact HC.out.sub (fun i hi => by
     show i < w7.heap.size
     have hi' : i < w.heap.size + 3 := hi
     omega), rfl⟩
 case rest =>
 obtain ⟨⟨dA, dn, dc⟩, rfl, hD, rfl⟩ := hcut
 have HD := zi hD
 clear hD
 simp only [Sl.v]
 have hdn : (ansB A me).size = dn := by have := HD.out.len1; rw [bytC_len] at this; exact this
 have HKlo := zi (show (ansK A t1 me).lo = if A.status == 206 then A.lo else 0 from rfl)
 have HKhi := zi (show (ansK A t1 me).hi = if A.status == 206 then A.hi else (ansB A me).size from rfl)
 rw [hdn] at HKhi
 clear hdn
 have s1 : w8.cell? ⟨(w.heap.size + 2), 1, none⟩ = some (.int .i64 A.status) := HA8.out.blk.cell 1
 go_upto_if 80 with fail
 go_cut [8, 80] (fun v u wx => v = .pointer (some ⟨(w.heap.size + 2), 0, none⟩) ∧ Blk wx (w.heap.size + 2) 111 #[.int .i64 t1, .int .i64 A.status, .int .i64 A.version, .int .i64 A.variant, .string A.addr, .int .i64 (ansK A t1 me).lo, .int .i64 (ansK A t1 me).hi, .slice fA fn fc, .slice bA bn bc] ∧ Keeps (fun i => i = (w.heap.size + 2)) w8 wx)
 case first =>
  clear s1
  have hBk : Blk w8 (w.heap.size + 2) 111 #[.int .i64 t1, .int .i64 A.status, .int .i64 A.version, .int .i64 A.variant, .string A.addr, .int .i64 A.lo, .int .i64 A.hi, .slice fA fn fc, .slice bA bn bc] := HA8.out.blk
  by_cases h206 : A.status = 206
  ·have HKlo := zi (HKlo.out.trans (if_pos (by rw [beq_iff_eq]; exact h206))); have HKhi := zi (HKhi.out.trans (if_pos (by rw [beq_iff_eq]; exact h206)))
   have q1 : (A.status == 206) = true := by rw [beq_iff_eq]; exact h206
   have q2 : (A.status != 206) = false := by simp [h206]
   clear h206
   have HBk := zi hBk
   clear hBk
   go_wp2_with fail
   go_meet
   exact ⟨rfl, by rw [HKlo.out, HKhi.out]; exact HBk.out, Keeps.refl _ _⟩
  ·have HKlo := zi (HKlo.out.trans (if_neg (by rw [beq_iff_eq]; exact h206))); have HKhi := zi (HKhi.out.trans (if_neg (by rw [beq_iff_eq]; exact h206)))
   have q1 : (A.status == 206) = false := by rw [beq_eq_false_iff_ne]; exact h206
   have q2 : (A.status != 206) = true := by simp [h206]
   clear h206
   have HBk := zi hBk
   have k5 : w8.cell? ⟨(w.heap.size + 2), 5, none⟩ = some (.int .i64 A.lo) := hBk.cell 5
   have k6 : w8.cell? ⟨(w.heap.size + 2), 6, none⟩ = some (.int .i64 A.hi) := hBk.cell 6
   have f5 : w8.frozen? ⟨(w.heap.size + 2), 5, none⟩ = false := hBk.frozen 5
   have f6 : w8.frozen? ⟨(w.heap.size + 2), 6, none⟩ = false := hBk.frozen 6
   clear hBk
   go_wp2_with fail
   go_meet
   exact ⟨rfl, by rw [HKlo.out, HKhi.out]; exact (HBk.out.set_ 5 (.int .i64 0)).set_ 6 (.int .i64 (dn : Nat)), ((Keeps.refl (fun i => i = (w.heap.size + 2)) w8).set_ (b := (w.heap.size + 2)) rfl 5 _).set_ (b := (w.heap.size + 2)) rfl 6 _⟩
 case rest =>
 obtain ⟨rfl, hBk, hK9⟩ := hcut
 clear s1
 generalize wc = w9 at *
 have HE8 := zi (HE6.out.trans (HE67.out.trans HE78.out))
 have HKW := zi ((Hk4.out.trans (Keeps.of (HE46.out.trans (HE67.out.trans HE78.out)))).trans hK9)
 have HO9 := zi (HO.out w9 HKW.out)
 have HE9 := zi (HE8.out.keeps hK9 (fun i hi => by omega))
 have HBk := zi hBk
 have HY9 := zi (HY.out.keep HKW.out (by omega))
 have HF9 := zi ((HF1.out.ext HE78.out).keep hK9 (fun i hi => .inl (by show i < _; omega)))
 have HD9 := zi (HD.out.keep hK9 (fun i hi => .inl (by show i < _; omega)))
 have hpl9 : (w.heap.size + 2) < w9.heap.size := HBk.out.lt
 have HS17 := zi (fun w' (hx : Ext w9 w') => (⟨(HO9.out.blk.ext hx).cell 2, (HBk.out.ext hx).cell 0, (HBk.out.ext hx).cell 1, (HBk.out.ext hx).cell 2, (HBk.out.ext hx).cell 3, (HBk.out.ext hx).cell 4, (HBk.out.ext hx).cell 5, (HBk.out.ext hx).cell 6⟩ : w'.cell? ⟨p, 2, none⟩ = some (.slice lgA lgn lgc) ∧ w'.cell? ⟨(w.heap.size + 2), 0, none⟩ = some (.int .i64 t1) ∧ w'.cell? ⟨(w.heap.size + 2), 1, none⟩ = some (.int .i64 A.status) ∧ w'.cell? ⟨(w.heap.size + 2), 2, none⟩ = some (.int .i64 A.version) ∧ w'.cell? ⟨(w.heap.size + 2), 3, none⟩ = some (.int .i64 A.variant) ∧ w'.cell? ⟨(w.heap.size + 2), 4, none⟩ = some (.string A.addr) ∧ w'.cell? ⟨(w.heap.size + 2), 5, none⟩ = some (.int .i64 (ansK A t1 me).lo) ∧ w'.cell? ⟨(w.heap.size + 2), 6, none⟩ = some (.int .i64 (ansK A t1 me).hi)))
 clear hBk hK9
 go_upto_region 17 with fail
 have hL := (Ext.refl w9).drew
 refine wp_region_U (S := (fun w' => w'.cell? ⟨p, 2, none⟩ = some (.slice lgA lgn lgc) ∧ w'.cell? ⟨(w.heap.size + 2), 0, none⟩ = some (.int .i64 t1) ∧ w'.cell? ⟨(w.heap.size + 2), 1, none⟩ = some (.int .i64 A.status) ∧ w'.cell? ⟨(w.heap.size + 2), 2, none⟩ = some (.int .i64 A.version) ∧ w'.cell? ⟨(w.heap.size + 2), 3, none⟩ = some (.int .i64 A.variant) ∧ w'.cell? ⟨(w.heap.size + 2), 4, none⟩ = some (.string A.addr) ∧ w'.cell? ⟨(w.heap.size + 2), 5, none⟩ = some (.int .i64 (ansK A t1 me).lo) ∧ w'.cell? ⟨(w.heap.size + 2), 6, none⟩ = some (.int .i64 (ansK A t1 me).hi))) 10 (by kernel_rfl) ?_ (fun hHeld => ?_)
 ·(try dsimp only); exact HS17.out _ hL
 refine wpAnyU_takeW (i := 0) (oi := ⟨some 88, _, _, _, _, _⟩) (v := ?_) (by kernel_rfl) rfl (by kernel_rfl) (by kernel_rfl) (by kernel_rfl) (fun _ _ _ h => h) (Or.inl ⟨by rfl, ?_⟩) (by assumption) ?_
 rotate_left
 ·(intro w hSw; (try dsimp only at hSw); go_simp; (try with_reducible rfl))
 try simp only [zP]
 refine wpAnyU_takeW (i := 1) (oi := ⟨some 89, _, _, _, _, _⟩) (v := ?_) (by kernel_rfl) rfl (by kernel_rfl) (by kernel_rfl) (by kernel_rfl) (fun _ _ _ h => h) (Or.inl ⟨by rfl, ?_⟩) (by assumption) ?_
 rotate_left
 ·(intro w hSw; (try dsimp only at hSw); go_simp; (try with_reducible rfl))
 try simp only [zP]
 refine wpAnyU_takeW (i := 2) (oi := ⟨some 90, _, _, _, _, _⟩) (v := ?_) (by kernel_rfl) rfl (by kernel_rfl) (by kernel_rfl) (by kernel_rfl) (fun _ _ _ h => h) (Or.inl ⟨by rfl, ?_⟩) (by assumption) ?_
 rotate_left
 ·(intro w hSw; (try dsimp only at hSw); go_simp; (try with_reducible rfl))
 try simp only [zP]
 refine wpAnyU_takeW (i := 3) (oi := ⟨some 91, _, _, _, _, _⟩) (v := ?_) (by kernel_rfl) rfl (by kernel_rfl) (by kernel_rfl) (by kernel_rfl) (fun _ _ _ h => h) (Or.inl ⟨by rfl, ?_⟩) (by assumption) ?_
 rotate_left
 ·(intro w hSw; (try dsimp only at hSw); go_simp; (try with_reducible rfl))
 try simp only [zP]
 refine wpAnyU_take (i := 4) (oi := ⟨some 92, _, _, _, _, _⟩) (v := ?_) [10, 11, 12, 13] (by kernel_rfl) (by kernel_rfl) (by kernel_rfl) (by kernel_rfl) rfl (by kernel_rfl) (by kernel_rfl) (by kernel_rfl) (fun _ _ _ h => h) (Or.inl ⟨by rfl, ?_⟩) (by assumption) ?_
 rotate_left
 ·(intro w hSw; (try dsimp only at hSw); go_simp; (try with_reducible rfl))
 try simp only [zP]
 refine wpAnyU_takeW (i := 5) (oi := ⟨some 93, _, _, _, _, _⟩) (v := ?_) (by kernel_rfl) rfl (by kernel_rfl) (by kernel_rfl) (by kernel_rfl) (fun _ _ _ h => h) (Or.inl ⟨by rfl, ?_⟩) (by assumption) ?_
 rotate_left
 ·(intro w hSw; (try dsimp only at hSw); go_simp; (try with_reducible rfl))
 try simp only [zP]
 refine wpAnyU_takeW (i := 6) (oi := ⟨some 94, _, _, _, _, _⟩) (v := ?_) (by kernel_rfl) rfl (by kernel_rfl) (by kernel_rfl) (by kernel_rfl) (fun _ _ _ h => h) (Or.inl ⟨by rfl, ?_⟩) (by assumption) ?_
 rotate_left
 ·(intro w hSw; (try dsimp only at hSw); go_simp; (try with_reducible rfl))
 try simp only [zP]
 refine wpAnyU_takeW (i := 7) (oi := ⟨some 95, _, _, _, _, _⟩) (v := ?_) (by kernel_rfl) rfl (by kernel_rfl) (by kernel_rfl) (by kernel_rfl) (fun _ _ _ h => h) (Or.inl ⟨by rfl, ?_⟩) (by assumption) ?_
 rotate_left
 ·(intro w hSw; (try dsimp only at hSw); go_simp; (try with_reducible rfl))
 try simp only [zP]
 refine wpAnyU_take (i := 8) (oi := ⟨some 96, _, _, _, _, _⟩) (v := ?_) [9, 10, 11, 12, 13] (by kernel_rfl) (by kernel_rfl) (by kernel_rfl) (by kernel_rfl) rfl (by kernel_rfl) (by kernel_rfl) (by kernel_rfl) (fun _ _ _ h => h) (Or.inl ⟨by rfl, ?_⟩) (by assumption) ?_
 rotate_left
 ·(intro w hSw; (try dsimp only at hSw); go_simp; (try with_reducible rfl))
 try simp only [zP]
 refine wpAnyU_ready (rs := [9]) (by kernel_rfl) (by simp) ?_
 refine AllReadyU.cons (o := ⟨some 97, _, _, _, _, _⟩) rfl (fun K hK => ?_) AllReadyU.nil
 go_simp
 replace hL := hL.alloc (.cells #[.int .i64 t1, .int .i64 A.status, .int .i64 A.version, .int .i64 A.variant, .string A.addr, .int .i64 (ansK A t1 me).lo, .int .i64 (ansK A t1 me).hi] 109)
 try go_wp2_with fail
 refine hK.out _ _ ?_ (fun hHeld => ?_)
 ·(try dsimp only); exact HS17.out _ hL
 clear hK K
 try simp only [zP]
 refine wpAnyU_ready (rs := [10]) (by kernel_rfl) (by simp) ?_
 refine AllReadyU.stop (o := ⟨some 98, _, _, _, _, _⟩) rfl (by kernel_rfl) (fun K hK => ?_) AllReadyU.nil
 refine step_appO _ rfl (.tmp 92) (.tmp 97) 72 rfl 109 _ 7 64 Tryz.underlying72 info_cln_K (by simp [Value.cells]) (by decide) _ _ _ rfl (own_ext HO9.out.lg hL) _ 1 1 (akdC (ansK A t1 me)) rfl (Rd.lit _ _ _ rfl 7 1 rfl) (by have := akdC_one [ansK A t1 me]; simpa using this) (by omega) (by decide) ?_; intro A6 c6 w10 hown10 hle10 hg10 hn10
 refine hK.out _ _ ?_ (fun hHeld => ?_)
 ·(try dsimp only); (try trivial)
 clear hK K
 try simp only [zP]
 refine zH (v := ?_) 11 (some 99) rfl ?_ ?_; rotate_left
 ·(intro w hSw; (try dsimp only at hSw); go_simp; (try with_reducible rfl))
 try simp only [zP]
 refine zH (v := ?_) 12 (some 100) rfl ?_ ?_; rotate_left
 ·(intro w hSw; (try dsimp only at hSw); go_simp; (try with_reducible rfl))
 try simp only [zP]
 refine wpAnyH_ready (rs := [13]) (by kernel_rfl) (by simp) ?_
 refine AllReadyH.cons (o := ⟨none, _, _, _, _, _⟩) rfl (fun K hK => ?_) AllReadyH.nil
 have hOx := HO9.out.ext hL; have hPb := hOx.blk.grown hg10 (Ne.symm (own_blk hOx.lg hOx.blk (by decide))); have kp := hPb.cell 2; have fp := hPb.frozen 2; clear hOx hPb; (simp only [Sl.v] at kp)
 go_simp
 try go_wp2_with fail
 refine hK.out _ _ ?_ (fun hHeld => ?_)
 ·(try dsimp only); (try trivial)
 clear hK K
 try simp only [zP]
 refine wpAnyH_done (by kernel_rfl) ?_ _
 clear kp fp
 have hOa := HO9.out.ext hL
 obtain ⟨hO2, hK2⟩ := hOa.addL (x := ansK A t1 me) hown10 hg10 hn10
 have HO2 := zi hO2; have HK2 := zi hK2; have Hn10 := zi hn10; have HLa := zi hL
 have HBf := zi ((HBk.out.ext hL).keep hK2 HPl.out)
 have HYf := zi ((HY9.out.ext hL).keep hK2 (fun h => by have := Hlow.out _ h; omega))
 have HNew := zi (show ∀ i, (Value.slice A6 (o.lg.length + 1) c6).ownBlock = some i → R i ∨ w9.heap.size ≤ i from fun i hi => hn10.elim (fun e => .inl (Hrl.out i (by rw [e] at hi; exact hi))) (fun e => .inr (by rw [e] at hi; injection hi with hi; have h9 := hL.size; rw [← hi]; exact h9)))
 have HFb := zi (((HF9.out.ext hL).more (Q' := fun i => i < w.heap.size + 3 ∨ (Value.slice A6 (o.lg.length + 1) c6).ownBlock = some i) (fun i hi => hi.elim .inl (fun hi => hn10.elim (fun e => .inl (by rw [e] at hi; have := Hlow.out i (Hrl.out i hi); show i < _; omega)) (fun e => .inr (by rw [e] at hi; injection hi with hi; rw [← hi]; exact Nat.le_refl _))))).keep hK2 (fun i hi => .inl (.inl (by have := Hlow.out i hi; show i < _; omega))))
 have HDb := zi (((HD9.out.ext hL).more (Q' := fun i => i < w.heap.size + 3 ∨ (Value.slice A6 (o.lg.length + 1) c6).ownBlock = some i) (fun i hi => hi.elim .inl (fun hi => hn10.elim (fun e => .inl (by rw [e] at hi; have := Hlow.out i (Hrl.out i hi); show i < _; omega)) (fun e => .inr (by rw [e] at hi; injection hi with hi; rw [← hi]; exact Nat.le_refl _))))).keep hK2 (fun i hi => .inl (.inl (by have := Hlow.out i hi; show i < _; omega))))
 have HKF := zi ((Keeps.of (S := R) (HE9.out.trans hL)).trans hK2)
 have HOF := zi (hO2.more (Q' := fun i => Q i ∨ w.heap.size ≤ i) (fun i hi => .inl (.inl hi)) (fun b hb => hb.elim (fun h => .inl (Hrq.out b h)) (fun h => (HNew.out b h).elim (fun h => .inl (Hrq.out b h)) (fun h => .inr (by omega)))))
 clear hOa hO2 hK2 hn10 hown10 hg10 hL HO2 HK2 Hn10 HLa
 generalize (w10.setCell ⟨p, 2, none⟩ (.slice A6 (o.lg.length + 1) c6)) = wF at *
 have s1 : wF.cell? ⟨(w.heap.size + 2), 1, none⟩ = some (.int .i64 A.status) := HBf.out.cell 1
 go_wp2_with (first | (refine wpList_storeB rfl 38 (.tmp 6) (.tmp 107) rfl rfl (w.heap.size + 1) _ rfl rfl 38 _ HYf.out infoRsp rfl (by simp [Value.oneCell']) ?_; intro w12 hB12 hx12))
 have y0 : w12.cell? ⟨w.heap.size + 1, 0, none⟩ = some (.int .i64 A.status) := hB12.cell 0
 have y1 : w12.cell? ⟨w.heap.size + 1, 1, none⟩ = some (.slice fA1 fn1 fc1) := hB12.cell 1
 refine bodyPost_ret (v := .tuple #[.agg #[.int .i64 A.status, .slice fA1 fn1 fc1], .slice dA dn dc]) (by simp [results, Tryz.results15, go_sem, y0, y1]) rfl ?_
 have KX : Keeps (fun i => i = w.heap.size + 1) wF w12 := Keeps.grown (Keeps.refl _ wF) hx12 (fun b hb => .inl (by injection hb with hb; exact hb.symm))
 have hNo : ∀ i, i = w.heap.size + 1 → ¬ Rplus R (Value.slice A6 (o.lg.length + 1) c6) i := fun i hi hR => hR.elim (fun h => by have := Hlow.out i h; omega) (fun h => (HNew.out i h).elim (fun h => by have := Hlow.out i h; omega) (fun h => by omega))
 have hSub : ∀ i, (i < w.heap.size ∨ Rplus R (Value.slice A6 (o.lg.length + 1) c6) i) → (i < w.heap.size + 3 ∨ (Value.slice A6 (o.lg.length + 1) c6).ownBlock = some i) := fun i hi => hi.elim (fun h => .inl (by omega)) (fun h => h.elim (fun h => .inl (by have := Hlow.out i h; omega)) .inr)
 refine ⟨⟨fA1, fn1, fc1⟩, ⟨dA, dn, dc⟩, rfl, Rplus R (Value.slice A6 (o.lg.length + 1) c6), ⟨_, HOF.out.keeps KX (fun i hi => ⟨hNo i hi, .inr (by omega)⟩)⟩, (HFb.out.keep KX (fun i hi => .inl (.inl (by omega)))).sub hSub, (HDb.out.keep KX (fun i hi => .inl (.inl (by omega)))).sub hSub, HKF.out.then KX (fun i hi => .inr (by omega)), fun _ h => .inl h, fun i hi => ?_⟩
 exact hi.elim .inl (fun h => (HNew.out i h).elim .inl (fun h => .inr (by omega)))
end Go.Proofs.YtmckbcbdnckngaaGreatDoor

namespace Go.Proofs.YtmckbcbdnckngaaGreatDoor
open Go.RowKit

theorem or_New (w : World) : Calls Tryz.prog 13 #[] w fun e w' => e = .returned (.pointer (some ⟨w.heap.size, 0, none⟩)) ∧ OrgP w' w.heap.size (fun i => i = w.heap.size) (fun _ => True) org0 ⟨sl0, sl0, sl0, []⟩ ∧ Ext w w' := by
 go_enter Tryz.func13, Tryz.ntmps13
 go_wp2_with fail
 go_ret
 exact ⟨rfl, OrgP.new w, (Ext.refl w).alloc _⟩

theorem app_types {P : Program} {t t2 e e2 ty : TypeId} {i : TypeInfo} (h : P.underlying t = some (.slice e)) (h2 : P.underlying t2 = some (.slice e2)) (hi : P.info? e = some i) (A : Option Addr) (n c : Nat) (x : Value) (w : World) :
  (Builtin.append_ #[t, t2] ty #[.slice A n c, x]).run P w = (Builtin.append_ #[t, t] ty #[.slice A n c, x]).run P w := by
 unfold Builtin.append_
 simp [run_underlying h, run_underlying h2, sizeOf, typeInfo, hi]
theorem wpList_app2 {P : Program} (w : World) {ops : Array Oper} {rest : List Oper} {o : Oper} {a : Act} {Q : Exit → Act → World → Prop} (hgd : o.guard = none) (s x : Operand) (t t2 : TypeId)
  (ho : o.op = .call { callee := .builtin .append, args := #[s, x], argTypes := #[t, t2] })
  (w0 : World) (e e2 : TypeId) (z : Value) (size bytes : Nat) (ht : P.underlying t = some (.slice e)) (ht2 : P.underlying t2 = some (.slice e2))
  (hinfo : (P.info? e).map (fun i => (i.zero, i.size, i.bytes)) = some (some z, size, bytes)) (hzs : z.cells.size = size) (hsz : 0 < size)
  (v : Value) (n : Nat) (xs : List Value) (hs : a.eval s = v) (hown : w.ownsRow w0.heap.size e size v n xs)
  (A : Option Addr) (m c : Nat) (news : List Value) (hx : a.eval x = .slice A m c) (hr : Rd w size A m news) (h1 : ∀ u ∈ news, u.oneCell' = true)
  (hb : Ext w0 w) (hbytes : (n + m) * bytes ≤ 140737488355328) (hby0 : 0 < bytes)
  (h : ∀ A' c' w', w'.ownsRow w0.heap.size e size (.slice A' (n + m) c') (n + m) (xs ++ news) → Ext w0 w' → n + m ≤ c' → w.grownBy w' v.ownBlock → wpList P ops Q rest (a.put o.dst (.slice A' (n + m) c')) w') : wpList P ops Q (o :: rest) a w := by
 have h63 : n + m ≤ maxLen := by
  have : (n + m) * 1 ≤ (n + m) * bytes := Nat.mul_le_mul_left _ hby0
  simp only [maxLen]; omega
 obtain ⟨v', w', hrun, h2, h3⟩ := run_app (P := P) w w0.heap.size t o.type e z size bytes ht hinfo hzs hsz v n xs hown A m c news hr h1 h63 hbytes hb.size
 obtain ⟨A', c', rfl, hle⟩ := own_shape h2
 obtain ⟨i, hi, -, -, -⟩ := info_parts hinfo
 obtain ⟨A0, c0, rfl, -⟩ := own_shape hown
 rw [← app_types ht ht2 hi] at hrun
 refine wpList_plain hgd fun K hK => ?_
 unfold Oper.wp execOp
 simp only [ho, resolve, invoke, builtin, Sem.run_bind, Sem.run_pure, Result.andThen_ok, List.map_toArray, List.map_cons, List.map_nil, hs, hx, hrun]
 exact hK _ _ (h A' c' w' h2 (hb.grown h3 (fun k hk => (hown.lt k hk).1)) hle h3)
theorem infoRq : (Tryz.prog.info? 42).map (·.size) = some 3 := by kernel_rfl
def x_ad : ByteArray := ⟨#[101, 120, 97, 109, 112, 108, 101, 46, 99, 111, 109, 47, 97]⟩
def x_q1 : ByteArray := ⟨#[34, 49, 34]⟩
def x_ec : ByteArray := ⟨#[101, 120, 97, 109, 112, 108, 101, 46, 99, 111, 109]⟩
def x_sa : ByteArray := ⟨#[47, 97]⟩
def pageV (body : ByteArray) (more : List Fd) : Ver := ⟨x_ad, 200, (x_et, x_q1) :: more, body, []⟩
theorem law_get (me : ByteArray) (A : Option Addr) (n c : Nat) (fs : List Fd) (w : World) (hr : RdF w A n fs) (hn : n ≤ 1000) :
  Calls Tryz.prog 16 #[.string me, .slice A n c] w fun e w' => ∃ s : Sl, e = .returned (.agg #[.string me, .string x_sa, s.v]) ∧ RS (fun i => i < w.heap.size) w' 2 s (fldCells ((x_ho, x_ec) :: fs)) ∧ Ext w w' := by
 have HW := zi ((Ext.refl w).alloc (.cells #[.string ⟨#[]⟩, .string ⟨#[]⟩, .slice none 0 0] 42))
 have HB := zi (Blk.new w 42 #[.string ⟨#[]⟩, .string ⟨#[]⟩, .slice none 0 0])
 go_enter Tryz.func16, Tryz.ntmps16
 go_wp2_with (at_builtin; refine wpList_app2 _ rfl (.tmp 7) (.tmp 8) 33 32 rfl w 51 51 _ 2 32 Tryz.underlying33 Tryz.underlying32 info_cln_F (by simp [Value.cells]) (by decide) _ 1 (fldCells [(x_ho, x_ec)]) rfl ?qa A n c (fldCells fs) rfl (hr.ext (HW.out.alloc _)) (fldCells_one _) (HW.out.alloc _) (by omega) (by decide) ?qb)
 case qa =>
  rw [show w.heap.size + 1 = (w.alloc (.cells #[.string ⟨#[]⟩, .string ⟨#[]⟩, .slice none 0 0] 42)).heap.size by simp]
  exact World.ownsRow_lit _ _ 1 (by simp) (by decide) rfl
 case qb =>
  intro A2 c2 w2 hown hb2 hle hg2
  have HBw := zi ((HB.out.alloc (.cells #[.string x_ho, .string x_ec] 51)).grown hg2 (by simp [Value.ownBlock]))
  go_wp2_with (first | (refine wpList_storeB rfl 42 (.tmp 4) (.tmp 10) rfl rfl w.heap.size _ rfl rfl 42 _ HBw.out infoRq rfl (by simp [Value.oneCell']) ?_; intro w9 hB9 hx9))
  have y0 : w9.cell? ⟨w.heap.size, 0, none⟩ = some (.string me) := hB9.cell 0
  have y1 : w9.cell? ⟨w.heap.size, 1, none⟩ = some (.string x_sa) := hB9.cell 1
  have y2 : w9.cell? ⟨w.heap.size, 2, none⟩ = some (.slice A2 (1 + n) c2) := hB9.cell 2
  refine bodyPost_ret (v := .agg #[.string me, .string x_sa, .slice A2 (1 + n) c2]) (by simp [results, Tryz.results16, go_sem, y0, y1, y2]) rfl ?_
  have KX : Keeps (fun i => i = w.heap.size) w2 w9 := Keeps.grown (Keeps.refl _ w2) hx9 (fun b hb => .inl (by injection hb with hb; exact hb.symm))
  have ho9 := own_keepS hown KX (own_ne hown HBw.out (by decide))
  obtain ⟨s, hs, hsn, hr9⟩ := RS.own ho9
  exact ⟨s, by rw [← hs], hr9, hb2.growB hx9 (Nat.le_refl _)⟩

theorem law_page (body : ByteArray) (A : Option Addr) (n c : Nat) (fs : List Fd) (w : World) (hr : RdF w A n fs) (hn : n ≤ 1000) (hb : body.size ≤ 1048576) :
  Calls Tryz.prog 20 #[.string body, .slice A n c] w fun e w' => ∃ m : MV, e = .returned (.agg m.cells.toArray) ∧ m.ver = pageV body fs ∧ m.At (fun i => i < w.heap.size) w' ∧ Ext w w' := by
 have HW := zi ((Ext.refl w).alloc (.cells #[.string ⟨#[]⟩, .int .i64 0, .slice none 0 0, .slice none 0 0, .slice none 0 0] 36))
 have HB := zi (Blk.new w 36 #[.string ⟨#[]⟩, .int .i64 0, .slice none 0 0, .slice none 0 0, .slice none 0 0])
 have hbs := fun w => run_bytes_of_string (P := Tryz.prog) w 9 23 5 body Tryz.underlying9 Tryz.underlying23 Tryz.underlying5
 go_enter Tryz.func20, Tryz.ntmps20
 go_wp2_with (at_builtin; refine wpList_app2 _ rfl (.tmp 6) (.tmp 7) 33 32 rfl w 51 51 _ 2 32 Tryz.underlying33 Tryz.underlying32 info_cln_F (by simp [Value.cells]) (by decide) _ 1 (fldCells [(x_et, x_q1)]) rfl ?qa A n c (fldCells fs) rfl (hr.ext (HW.out.alloc _)) (fldCells_one _) (HW.out.alloc _) (by omega) (by decide) ?qb)
 case qa =>
  rw [show w.heap.size + 1 = (w.alloc (.cells #[.string ⟨#[]⟩, .int .i64 0, .slice none 0 0, .slice none 0 0, .slice none 0 0] 36)).heap.size by simp]
  exact World.ownsRow_lit _ _ 1 (by simp) (by decide) rfl
 case qb =>
  intro A2 c2 w2 hown hb2 hle hg2
  have HBw := zi ((HB.out.alloc (.cells #[.string x_et, .string x_q1] 51)).grown hg2 (by simp [Value.ownBlock]))
  generalize hcap : grownCap w2 body.size 0 5 = cap at *
  have hcs : body.size ≤ cap := by rw [← hcap]; exact grownCap_ge _ _ _ _
  go_wp2_with (first | (refine wpList_storeB rfl 36 (.tmp 4) (.tmp 11) rfl rfl w.heap.size _ rfl rfl 36 _ (HBw.out.ext ((Ext.refl w2).alloc _).drew) infoVe rfl (by simp [Value.oneCell']) ?_; intro w9 hB9 hx9))
  have y0 : w9.cell? ⟨w.heap.size, 0, none⟩ = some (.string x_ad) := hB9.cell 0
  have y1 : w9.cell? ⟨w.heap.size, 1, none⟩ = some (.int .i64 200) := hB9.cell 1
  have y2 : w9.cell? ⟨w.heap.size, 2, none⟩ = some (.slice A2 (1 + n) c2) := hB9.cell 2
  have y3 : w9.cell? ⟨w.heap.size, 3, none⟩ = some (.slice (some ⟨w2.heap.size, 0, none⟩) body.size cap) := hB9.cell 3
  have y4 : w9.cell? ⟨w.heap.size, 4, none⟩ = some (.slice none 0 0) := hB9.cell 4
  refine bodyPost_ret (v := .agg #[.string x_ad, .int .i64 200, .slice A2 (1 + n) c2, .slice (some ⟨w2.heap.size, 0, none⟩) body.size cap, .slice none 0 0]) (by simp [results, Tryz.results20, go_sem, y0, y1, y2, y3, y4]) rfl ?_
  have hEb := ((Ext.refl w2).alloc (.cells (bytesRow body cap) 5 ((bytesRow body cap).size, (bytesRow body cap).size + 1))).drew
  have hRB : RS (fun i => i < w2.heap.size) ((w2.alloc (.cells (bytesRow body cap) 5 ((bytesRow body cap).size, (bytesRow body cap).size + 1))).drew) 1 ⟨some ⟨w2.heap.size, 0, none⟩, body.size, cap⟩ (bytC body) := ⟨⟨by rw [bytC_len]; simp, fun _ => ⟨_, _, rfl, fun j u hu => by
   have hj : j < body.size := by
    have := (List.getElem?_eq_some_iff.1 hu).1
    rw [bytC_len] at this; exact this
   show (w2.alloc _).cell? _ = _
   rw [Nat.zero_add, World.cell?_alloc_mark, bytesRow_at body cap j hj]
   unfold bytC at hu
   rw [List.getElem?_map, List.getElem?_eq_getElem (by simpa using hj)] at hu
   rw [← hu]; rfl⟩⟩, fun _ a ha hb => by simp only [Option.some.injEq] at ha; subst ha; simp at hb, hcs⟩
  generalize (w2.alloc (.cells (bytesRow body cap) 5 ((bytesRow body cap).size, (bytesRow body cap).size + 1))).drew = wB at *
  have KX : Keeps (fun i => i = w.heap.size) wB w9 := Keeps.grown (Keeps.refl _ wB) hx9 (fun b hb => .inl (by injection hb with hb; exact hb.symm))
  have ho9 := own_keepS (own_ext hown hEb) KX (own_ne (own_ext hown hEb) (HBw.out.ext hEb) (by decide))
  obtain ⟨s, hs, hsn, hr9⟩ := RS.own ho9
  have hlt : w.heap.size < w2.heap.size := HBw.out.lt
  refine ⟨⟨x_ad, 200, (x_et, x_q1) :: fs, body, [], s, ⟨some ⟨w2.heap.size, 0, none⟩, body.size, cap⟩, sl0⟩, by rw [hs]; rfl, rfl, ⟨hr9, ?_, RS.nil _ _ _, fun x hx => by cases hx⟩, (hb2.trans hEb).growB hx9 (Nat.le_refl _)⟩
  exact (hRB.keep KX (fun i hi => .inl (by show i < _; omega))).sub (fun i hi => by show i < _; omega)
end Go.Proofs.YtmckbcbdnckngaaGreatDoor

namespace Go.Proofs.YtmckbcbdnckngaaGreatDoor
open Go.RowKit

theorem conv_B {w : World} {A : Option Addr} {n c : Nat} {b : ByteArray} (h : Rd w 1 A n (bytC b)) (hb : 0 < b.size) : (convert 23 9 (.slice A n c)).run Tryz.prog w = .ok (.string b) w := by
 obtain ⟨g, o, rfl, hc⟩ := h.2 (by rw [bytC_len]; exact hb)
 have hn : n = b.size := by have := h.1; rw [bytC_len] at this; omega
 subst hn
 rw [run_convert_bytes_arg (P := Tryz.prog) w 23 5 Tryz.underlying23 Tryz.underlying5 g o b.size c (b.data.toList.map fun x => (x.toNat : Int)) (by simp) (fun i hi => by
  have h1 := hc i (.int .u8 (b.data.toList[i]'(by simpa using hi)).toNat) (by unfold bytC; rw [List.getElem?_map, List.getElem?_eq_getElem (by simpa using hi)]; rfl)
  rw [h1]
  simp [List.getD, List.getElem?_map, List.getElem?_eq_getElem (show i < b.data.toList.length by simpa using hi)]
  try rfl) 9 Tryz.underlying9]
 congr 2
 apply bytes_ext
 unfold strOfNums
 have e : ((fun n : Int => UInt8.ofNat n.toNat) ∘ fun x : UInt8 => (x.toNat : Int)) = id := by funext x; simp
 simp only [List.map_map, e, List.map_id]
def x_he : ByteArray := ⟨#[104, 101, 108, 108, 111]⟩
def x_ge : ByteArray := ⟨#[71, 69, 84]⟩
def rqG : Rq := ⟨x_ge, x_sa, [(x_ho, x_ec)]⟩
def orgA : Org := ⟨[(10, pageV x_he [])], [], []⟩
theorem aw_pub : pubS org0 10 (pageV x_he []) = (((0 + 1 : Nat) : Int), 0, orgA) :=
 pub_ok (o := org0) (t := 10) (by decide +kernel) (by decide) (by decide +kernel) (fun p hp => by cases hp)
theorem aw_9 : (answS orgA 9 rqG).1 = 404 := by decide +kernel
theorem aw_10 : (answS (answS orgA 9 rqG).2.2.2 10 rqG).1 = 200 ∧ (answS (answS orgA 9 rqG).2.2.2 10 rqG).2.2.1 = x_he := by decide +kernel
theorem aw_lg : (answS orgA 9 rqG).2.2.2.lg.length = 1 ∧ (answS orgA 9 rqG).2.2.2.br.length = 0 := by decide +kernel
theorem law_awake (w : World) (hg : Gl w) (hh : GlH w) (hp : GlP w) : Calls Tryz.prog 12 #[] w fun e w' => e = .returned (.bool true) ∧ Ext w w' := by
 have HEg := zi (fun w' (hx : Ext w w') => (⟨hg.ext hx, hh.ext hx, hp.ext hx⟩ : Gl w' ∧ GlH w' ∧ GlP w'))
 clear hg hh hp
 go_enter Tryz.func12, Tryz.ntmps12
 go_wp2_with fail
 refine (or_New _).mono ?_; rintro e w1 ⟨rfl, hO1, hb1⟩
 go_wp2_with fail
 refine (law_page x_he none 0 0 [] w1 (Rd.none_ _ _ _) (by decide) (by decide)).mono ?_; rintro e w2 ⟨m, rfl, hver, hAt, hb2⟩
 have e1 : m.addr = x_ad := congrArg Ver.addr hver
 have e2 : m.f = [(x_et, x_q1)] := congrArg Ver.fs hver
 have e3 : m.body = x_he := congrArg Ver.body hver
 have e4 : m.vars = [] := List.map_eq_nil_iff.1 (congrArg Ver.vars hver)
 have HPub := zi (or_Publish (fun _ => True) (fun i => i = w.heap.size) (fun i => i < w1.heap.size) w.heap.size org0 ⟨sl0, sl0, sl0, []⟩ 10 m w2 (hO1.ext hb2) hAt (by rw [e1]; decide) (by rw [e2]; decide) (by rw [e2]; decide) (by rw [e3]; decide) (by rw [e4]; decide) (by rw [e4]; intro x hx; cases hx) (HEg.out _ (hb1.trans hb2)).1)
 rw [hver, aw_pub] at HPub
 have HE2 := zi (hb1.trans hb2)
 clear hO1 hAt hver e1 e2 e3 e4 hb1 hb2
 obtain ⟨vaddr, vstatus, f, vbody, vars, ⟨vfA, vfn, vfc⟩, ⟨vbA, vbn, vbc⟩, ⟨vA, vn, vc⟩⟩ := m
 simp only [MV.cells, Sl.v] at HPub ⊢
 go_wp2_with fail
 refine HPub.out.mono ?_; rintro e w3 ⟨rfl, R3, ⟨M3, hO3⟩, hk3, hR3a, hR3b⟩
 have HE3 := zi (HE2.out.keeps hk3 (fun i hi => by rw [show i = w.heap.size from hi]; exact Nat.le_refl _))
 have HR3 := zi (fun i (hi : R3 i) => (hR3b i hi).elim (fun h => show w.heap.size ≤ i from by rw [show i = w.heap.size from h]; exact Nat.le_refl _) (fun h => by have := HE2.out.size; omega))
 have HO3 := zi hO3
 clear hk3 hR3a hR3b hO3 HPub HE2
 rw [show errV 0 = .nilIface from rfl]
 go_wp2_with fail
 refine (law_get x_ge none 0 0 [] w3 (Rd.none_ _ _ _) (by decide)).mono ?_; rintro e w4 ⟨⟨gA, gn, gc⟩, rfl, hg4, hb4⟩
 have hgn : gn = 1 := by have := hg4.rd.lenF; simp at this; omega
 subst hgn
 have HE4 := zi (HE3.out.trans hb4)
 have HAn := zi (or_Answer _ R3 w.heap.size orgA M3 9 rqG gA 1 gc w4 (HO3.out.ext hb4) hg4.rd hg4.cap (by decide) (by decide) (by decide) (by decide) (HEg.out _ HE4.out).1 (HEg.out _ HE4.out).2.1 (HEg.out _ HE4.out).2.2)
 rw [aw_9] at HAn
 have A10 := zi aw_10; have ALg := zi aw_lg
 simp only [Sl.v] at HAn ⊢
 generalize (answS orgA 9 rqG).2.2.2 = o2 at *
 clear hg4 hb4
 go_wp2_with fail
 refine HAn.out.mono ?_; rintro e w5 ⟨⟨sA, sn, sc⟩, ⟨tA, tn, tc⟩, rfl, R5, ⟨M5, hO5⟩, -, -, hk5, -, hR5b⟩
 have HE5 := zi (HE4.out.keeps hk5 HR3.out)
 have HR5 := zi (fun i (hi : R5 i) => (hR5b i hi).elim (HR3.out i) (fun h => by have := HE4.out.size; omega))
 have HO5 := zi hO5
 have HB5 := zi (Blk.new w5 38 #[.int .i64 404, .slice sA sn sc])
 have HE6 := zi (HE5.out.alloc (.cells #[.int .i64 404, .slice sA sn sc] 38))
 have HO6 := zi (hO5.ext ((Ext.refl w5).alloc (.cells #[.int .i64 404, .slice sA sn sc] 38)))
 have Hn5 := zi (show ¬ R5 w5.heap.size from fun h => by have := hO5.low _ h; omega)
 clear hk5 hR5b hO5 HAn
 simp only [Sl.v]
 go_wp2_with fail
 generalize w5.alloc (.cells #[.int .i64 404, .slice sA sn sc] 38) = w6 at *
 refine (law_get x_ge none 0 0 [] w6 (Rd.none_ _ _ _) (by decide)).mono ?_; rintro e w7 ⟨⟨kA, kn, kc⟩, rfl, hg7, hb7⟩
 have hkn : kn = 1 := by have := hg7.rd.lenF; simp at this; omega
 subst hkn
 have HE7 := zi (HE6.out.trans hb7)
 have HAn := zi (or_Answer _ R5 w.heap.size o2 M5 10 rqG kA 1 kc w7 (HO6.out.ext hb7) hg7.rd hg7.cap (by decide) (by decide) (by rw [ALg.out.2]; decide) (by rw [ALg.out.1]; decide) (HEg.out _ HE7.out).1 (HEg.out _ HE7.out).2.1 (HEg.out _ HE7.out).2.2)
 rw [A10.out.1, A10.out.2] at HAn
 have HB7 := zi (HB5.out.ext hb7)
 simp only [Sl.v] at HAn ⊢
 clear hg7 hb7
 go_wp2_with fail
 refine HAn.out.mono ?_; rintro e w8 ⟨⟨uA, un, uc⟩, ⟨vA2, vn2, vc2⟩, rfl, R8, -, -, ht8, hk8, -, -⟩
 have HE8 := zi (HE7.out.keeps hk8 HR5.out)
 have hB8 := (HB7.out.keep hk8 Hn5.out).alloc (.cells #[.int .i64 200, .slice uA un uc] 38)
 have z0 : (w8.alloc (.cells #[.int .i64 200, .slice uA un uc] 38)).cell? ⟨w5.heap.size, 0, none⟩ = some (.int .i64 404) := hB8.cell 0
 have z1 : (w8.alloc (.cells #[.int .i64 200, .slice uA un uc] 38)).cell? ⟨w8.heap.size, 0, none⟩ = some (.int .i64 200) := (Blk.new w8 38 #[.int .i64 200, .slice uA un uc]).cell 0
 have hcv := conv_B (c := vc2) (ht8.rd.ext ((Ext.refl w8).alloc (.cells #[.int .i64 200, .slice uA un uc] 38))) (by decide)
 simp only at hcv
 have hq : (x_he.toList == [104, 101, 108, 108, 111]) = true := by decide +kernel
 generalize x_he = xh at *
 clear hB8 ht8 hk8
 simp only [Sl.v]
 go_wp2_with fail
 go_ret
 exact ⟨rfl, HE8.out.alloc _⟩
end Go.Proofs.YtmckbcbdnckngaaGreatDoor

namespace Go.Proofs.YtmckbcbdnckngaaGreatDoor
open Go.RowKit

theorem conv_BE {w : World} {A : Option Addr} {n c : Nat} {b : ByteArray} (h : Rd w 1 A n (bytC b)) : (convert 23 9 (.slice A n c)).run Tryz.prog w = .ok (.string b) w := by
 rcases Nat.eq_zero_or_pos b.size with h0 | h0
 ·have hn : n = 0 := by have := h.1; rw [bytC_len] at this; omega
  subst hn
  obtain rfl : b = ⟨#[]⟩ := ByteArray.size_eq_zero_iff.1 h0
  rw [run_convert_bytes_string w 23 9 5 A 0 c Tryz.underlying23 Tryz.underlying5 Tryz.underlying9]
  cases A <;> simp [Conv.bytesToString] <;> rfl
 ·exact conv_B h h0
theorem base_Bytes (A : Option Addr) (n c : Nat) (B : Option Addr) (m d : Nat) (x y : ByteArray) (w : World) (hx : Rd w 1 A n (bytC x)) (hy : Rd w 1 B m (bytC y)) :
  Calls Tryz.prog 18 #[.slice A n c, .slice B m d] w fun e w' => e = .returned (.bool (decide (x = y))) ∧ w' = w := by
 have h1 := conv_BE (c := c) hx
 have h2 := conv_BE (c := d) hy
 have he : (x.toList == y.toList) = decide (x = y) := by
  by_cases h : x = y
  ·rw [decide_eq_true h, eqS_iff.2 h]
  ·rw [decide_eq_false h, Bool.eq_false_iff]; exact fun e => h (eqS_iff.1 e)
 generalize decide (x = y) = z at *
 go_enter Tryz.func18, Tryz.ntmps18
 go_wp2_with fail
 go_ret
 exact ⟨rfl, rfl⟩
def SzV (v : Ver) : Prop := v.addr.size ≤ 1048576 ∧ v.fs.length ≤ 131072 ∧ sumF v.fs ≤ 131072 ∧ v.body.size ≤ 1099511627776 ∧ v.vars.length ≤ 1048576 ∧ ∀ x ∈ v.vars, x.names.length ≤ 1048576 ∧ (∀ n ∈ x.names, n.size ≤ 1048576) ∧ x.tag.size ≤ 131072 ∧ x.body.size ≤ 1099511627776
theorem pub_v {Q R Qm : Nat → Prop} {p : Nat} {o : Org} {M : OM} {t : Int} {m : MV} {w : World} (hO : OrgP w p R Q o M) (hm : m.At Qm w) {v : Ver} (hv : m.ver = v) (hs : SzV v) {x : Int} {k : Nat} {o2 : Org} (hp : pubS o t v = (x, k, o2)) (hg : Gl w) :
  Calls Tryz.prog 14 #[.pointer (some ⟨p, 0, none⟩), .int .i64 t, .agg m.cells.toArray] w fun e w' => e = .returned (.tuple #[.int .i64 x, errV k]) ∧
   ∃ R', (∃ M', OrgP w' p R' (fun i => (Q i ∧ i < w.heap.size) ∨ R' i) o2 M') ∧ Keeps R w w' ∧ (∀ i, R i → R' i) ∧ (∀ i, R' i → R i ∨ w.heap.size ≤ i) := by
 subst hv
 obtain ⟨q1, q2, q3, q4, q5, q6⟩ := hs
 have := or_Publish Q R Qm p o M t m w hO hm q1 q2 q3 q4 (by rw [show m.ver.vars = m.vars.map (·.1) from rfl, List.length_map] at q5; exact q5) (fun y hy => q6 y.1 (List.mem_map.2 ⟨y, hy, rfl⟩)) hg
 rw [hp] at this
 exact this
theorem ans_v {Q R : Nat → Prop} {p : Nat} {o : Org} {M : OM} {t : Int} {me ta : ByteArray} {fs : List Fd} {s : Sl} {w : World} {Qr : Nat → Prop} (hO : OrgP w p R Q o M) (hr : RS Qr w 2 s (fldCells fs)) (hz : sumF fs + 2 * fs.length ≤ 1048576) (htz : ta.size ≤ 1048576)
  (hbr : o.br.length ≤ 1000000) (hlg : o.lg.length ≤ 1000000) (hg : Gl w ∧ GlH w ∧ GlP w) {S : Int} {F : List Fd} {B : ByteArray} {o2 : Org} (ha : answS o t ⟨me, ta, fs⟩ = (S, F, B, o2)) :
  Calls Tryz.prog 15 #[.pointer (some ⟨p, 0, none⟩), .int .i64 t, .agg #[.string me, .string ta, s.v]] w fun e w' => ∃ s1 s2 : Sl, e = .returned (.tuple #[.agg #[.int .i64 S, s1.v], s2.v]) ∧
   ∃ R', (∃ M', OrgP w' p R' (fun i => Q i ∨ w.heap.size ≤ i) o2 M') ∧ RS (fun i => i < w.heap.size ∨ R' i) w' 2 s1 (fldCells F) ∧ RS (fun i => i < w.heap.size ∨ R' i) w' 1 s2 (bytC B) ∧
    Keeps R w w' ∧ (∀ i, R i → R' i) ∧ (∀ i, R' i → R i ∨ w.heap.size ≤ i) := by
 have hl := hr.rd.lenF
 have := or_Answer Q R p o M t ⟨me, ta, fs⟩ s.A s.n s.c w hO hr.rd hr.cap (by show sumF fs + 2 * s.n ≤ _; omega) htz hbr hlg hg.1 hg.2.1 hg.2.2
 rw [ha] at this
 exact this
end Go.Proofs.YtmckbcbdnckngaaGreatDoor

namespace Go.Proofs.YtmckbcbdnckngaaGreatDoor
open Go.RowKit

theorem sumF_fil (p : Fd → Bool) : ∀ fs : List Fd, sumF (fs.filter p) ≤ sumF fs
 | [] => Nat.le_refl _
 | f :: r => by
  have := sumF_fil p r
  rw [List.filter_cons]
  split
  ·rw [sumF_cons, sumF_cons]; omega
  ·rw [sumF_cons]; omega
theorem AZ_part {a : Ans} {r : Rq} {s : St} (h1 : sumF a.fs ≤ 393216) (h3 : a.body.size ≤ 1048576) : sumF (partS a r s).fs ≤ 393400 := by
 have h0 : sumF a.fs ≤ 393400 := by omega
 unfold partS
 split
 ·split
  ·exact h0
  ·split
   ·have z := decV_size (n := (a.body.size : Int)) (by omega)
    simp only
    rw [sumF_cons, sumF_nil]
    simp only [ByteArray.size_append, show x_cr.size = 13 from rfl, show (⟨#[98, 121, 116, 101, 115, 32, 42, 47]⟩ : ByteArray).size = 8 from rfl]
    omega
   ·split
    ·split
     ·rename_i text ht
      have z := crP_size ht
      have := sumF_set x_cr text a.fs
      simp only [show x_cr.size = 13 from rfl] at this ⊢
      omega
     ·exact h0
    ·exact h0
 ·exact h0
theorem AZ_ver {a : Ans} {v : Ver} {r : Rq} (hB : VerB v) : sumF (verS a v r).fs ≤ 393400 := by
 obtain ⟨c1, c2, c3⟩ := chs_bd v r.fs 0 hB.body hB.fs.1 hB.fs.2 0 v.vars (fun x hx => ⟨(hB.each x hx).2.2.1, (hB.each x hx).2.2.2⟩)
 unfold verS
 simp only
 split
 ·show sumF (chsS v r.fs 0 v.vars).1 ≤ _; omega
 ·split
  ·exact Nat.le_trans (sumF_fil _ _) (by show sumF (chsS v r.fs 0 v.vars).1 ≤ _; omega)
  ·split
   ·exact Nat.zero_le _
   ·exact AZ_part c2 c3
theorem AZ_dec {o : Org} {t : Int} {r : Rq} (h : ∀ x ∈ o.vs, VerB x.2) : sumF (decS55 o t r).fs ≤ 393400 := by
 have hb : sumF brief ≤ 393400 := by decide
 unfold decS55
 split
 ·exact Nat.zero_le _
 ·split
  ·exact Nat.zero_le _
  ·split
   ·split
    ·exact Nat.zero_le _
    ·simp only
     split
     ·rename_i p hp
      split
      ·exact hb
      ·exact AZ_ver (h p (List.mem_of_getElem? hp))
     ·exact hb
   ·exact Nat.zero_le _
theorem ans_sz {o : Org} {t : Int} {r : Rq} (h : ∀ x ∈ o.vs, VerB x.2) : (answS o t r).2.1.length ≤ 131077 ∧ sumF (answS o t r).2.1 ≤ 400000 := by
 have h1 := AB_dec (o := o) (t := cl55 t) (r := r) h
 have h2 := AZ_dec (o := o) (t := cl55 t) (r := r) h
 have hc : 0 ≤ cl55 t ∧ cl55 t ≤ 1099511627776 := by unfold cl55; omega
 have hd := fmtS_len (n := cl55 t / 1000) (by omega) (by omega)
 have hl := h1.len; have hbd := h1.bdy
 rw [answ_eq]
 simp only
 unfold ansF
 generalize decS55 o (cl55 t) r = A at *
 generalize fmtS (cl55 t / 1000) = d at *
 have z := decV_size (n := (A.body.size : Int)) (by omega)
 have e1 := setS_len x_dt d A.fs
 have e2 := setS_len x_cl (decV A.body.size) (setS x_dt d A.fs)
 have e3 := sumF_set x_dt d A.fs
 have e4 := sumF_set x_cl (decV A.body.size) (setS x_dt d A.fs)
 simp only [show x_dt.size = 4 from rfl, show x_cl.size = 14 from rfl] at e3 e4
 have hd4 : (setS x_dt d A.fs).length ≤ 131076 := by omega
 have hd5 : (setS x_cl (decV A.body.size) (setS x_dt d A.fs)).length ≤ 131077 := by omega
 split
 ·exact ⟨by omega, by omega⟩
 ·exact ⟨hd5, by omega⟩
theorem ans_s {Q R : Nat → Prop} {p : Nat} {o : Org} {M : OM} {t : Int} {me ta : ByteArray} {fs : List Fd} {s : Sl} {w : World} {Qr : Nat → Prop} (hO : OrgP w p R Q o M) (hr : RS Qr w 2 s (fldCells fs)) (hz : sumF fs + 2 * fs.length ≤ 1048576) (htz : ta.size ≤ 1048576)
  (hbr : o.br.length ≤ 1000000) (hlg : o.lg.length ≤ 1000000) (hg : Gl w ∧ GlH w ∧ GlP w) {S : Int} {F : List Fd} {B : ByteArray} {o2 : Org} (ha : answS o t ⟨me, ta, fs⟩ = (S, F, B, o2)) :
  (F.length ≤ 131077 ∧ sumF F ≤ 400000) ∧ Calls Tryz.prog 15 #[.pointer (some ⟨p, 0, none⟩), .int .i64 t, .agg #[.string me, .string ta, s.v]] w fun e w' => ∃ s1 s2 : Sl, e = .returned (.tuple #[.agg #[.int .i64 S, s1.v], s2.v]) ∧
   ∃ R', (∃ M', OrgP w' p R' (fun i => Q i ∨ w.heap.size ≤ i) o2 M') ∧ RS (fun i => i < w.heap.size ∨ R' i) w' 2 s1 (fldCells F) ∧ RS (fun i => i < w.heap.size ∨ R' i) w' 1 s2 (bytC B) ∧
    Keeps R w w' ∧ (∀ i, R i → R' i) ∧ (∀ i, R' i → R i ∨ w.heap.size ≤ i) := by
 have h1 := ans_sz (o := o) (t := t) (r := ⟨me, ta, fs⟩) (fun x hx => (hO.bd x hx).1)
 rw [ha] at h1
 exact ⟨h1, ans_v hO hr hz htz hbr hlg hg ha⟩
theorem get_F {s : Sl} {F : List Fd} {Q : Nat → Prop} {w : World} (name : ByteArray) (hn : name.size ≤ 1000) (h : RS Q w 2 s (fldCells F)) (hz : F.length ≤ 131077 ∧ sumF F ≤ 400000) :
  Calls Tryz.prog 17 #[.slice s.A s.n s.c, .string name] w fun e w' => e = .returned (getV (getO F name)) ∧ Ext w w' :=
 field_GetO s.A s.n s.c F name w h.rd (by have h1 := h.rd.lenF; omega) (by omega) (fun f hf => by have h1 := bszF F f hf; exact ⟨by omega, by omega⟩) (by have h1 := h.rd.lenF; omega)
end Go.Proofs.YtmckbcbdnckngaaGreatDoor

namespace Go.Proofs.YtmckbcbdnckngaaGreatDoor
open Go.RowKit

structure RSN (Q : Nat → Prop) (w : World) (k : Nat) (s : Sl) (xs : List Value) : Prop extends RS Q w k s xs where
 nf : 0 < xs.length → ∀ a, s.A = some a → ∀ i, w.frozen? ⟨a.block, i, none⟩ = false
theorem frozen_blk {w w' : World} {b : Nat} (h : w'.heap[b]? = w.heap[b]?) (i : Nat) : w'.frozen? ⟨b, i, none⟩ = w.frozen? ⟨b, i, none⟩ := by
 unfold World.frozen?
 simp only [h]
section
variable {Q Q' R : Nat → Prop} {w w' : World} {k : Nat} {s : Sl} {xs : List Value}
theorem RSN.sub (h : RSN Q w k s xs) (hq : ∀ i, Q' i → Q i) : RSN Q' w k s xs := ⟨h.toRS.sub hq, h.nf⟩
theorem RSN.more (h : RSN Q w k s xs) (hq : ∀ i, Q' i → Q i ∨ w.heap.size ≤ i) : RSN Q' w k s xs := ⟨h.toRS.more hq, h.nf⟩
theorem RSN.ext (h : RSN Q w k s xs) (hb : Ext w w') : RSN Q w' k s xs :=
 ⟨h.toRS.ext hb, fun h0 a ha i => (frozen_blk (hb.below.block _ (h.toRS.lt h0 a ha)) i).trans (h.nf h0 a ha i)⟩
theorem RSN.keep (h : RSN Q w k s xs) (hk : Keeps R w w') (hR : ∀ i, R i → Q i ∨ w.heap.size ≤ i) : RSN Q w' k s xs :=
 ⟨h.toRS.keep hk hR, fun h0 a ha i => (frozen_blk (hk.block _ (h.toRS.lt h0 a ha) (fun hr => (hR _ hr).elim (h.out h0 a ha) (fun h2 => by have := h.toRS.lt h0 a ha; omega))) i).trans (h.nf h0 a ha i)⟩
theorem RSN.nil (Q : Nat → Prop) (w : World) (k : Nat) : RSN Q w k sl0 [] := ⟨RS.nil Q w k, fun h => absurd h (by simp)⟩
theorem RSN.of_own {base n : Nat} {e : TypeId} (h : w.ownsRow base e k s.v n xs) (hr : RS Q w k s xs) : RSN Q w k s xs := by
 refine ⟨hr, fun h0 a ha i => ?_⟩
 rcases h.2 with ⟨hn, _⟩ | ⟨g, cap, cur, hv, _, hg, _⟩
 ·unfold Sl.v at hn; injection hn with hn; rw [hn] at ha; cases ha
 ·unfold Sl.v at hv; injection hv with hv
  rw [ha] at hv; injection hv with hv
  subst hv
  exact frozen_of_row w g i cur e hg
end
end Go.Proofs.YtmckbcbdnckngaaGreatDoor

namespace Go.Proofs.YtmckbcbdnckngaaGreatDoor
open Go.RowKit

theorem info_span : (Tryz.prog.info? 140).map (fun i => (i.zero, i.size, i.bytes)) = some (some (.agg #[.int .i64 0, .int .i64 0]), 2, 16) := by kernel_rfl
theorem or_Broken {Q R : Nat → Prop} {p : Nat} {o : Org} {M : OM} (a b : Int) {w : World} (hO : OrgP w p R Q o M) (hbn : o.br.length ≤ 1000000) :
  Calls Tryz.prog 36 #[.pointer (some ⟨p, 0, none⟩), .int .i64 a, .int .i64 b] w fun e w' =>
   (cl55 b < cl55 a ∧ e = .returned (.iface 63 (.int .i64 7)) ∧ w' = w) ∨
   (cl55 a ≤ cl55 b ∧ e = .returned .nilIface ∧ ∃ R', (∃ M', OrgP w' p R' (fun i => Q i ∨ w.heap.size ≤ i) { o with br := o.br ++ [(cl55 a, cl55 b)] } M') ∧ Keeps R w w' ∧ (∀ i, R i → R' i) ∧ (∀ i, R' i → R i ∨ w.heap.size ≤ i)) := by
 have HO := zi hO
 have Hbn := zi hbn
 have HCl := zi (fun (t : Int) w' => or_clip t w')
 obtain ⟨ca, hca⟩ : ∃ z, cl55 a = z := ⟨_, rfl⟩
 obtain ⟨cb, hcb⟩ : ∃ z, cl55 b = z := ⟨_, rfl⟩
 rw [hca, hcb]
 have hbl : M.br.n = o.br.length := by
  rcases hO.br.2 with ⟨e, h0⟩ | ⟨g', _, _, e, _⟩
  ·unfold Sl.v at e; injection e with _ e2 _; omega
  ·unfold Sl.v at e; injection e with _ e2 _
 clear hO hbn
 obtain ⟨vs, ⟨bA, bn, bc⟩, lg, mv⟩ := M
 simp only at hbl
 subst hbl
 have HP := zi (fun w' (h : Ext w w') => (show w'.cell? ⟨p, 1, none⟩ = some (.slice bA o.br.length bc) from (HO.out.blk.ext h).cell 1))
 have HCa := zi (fun w' => (by have h := HCl.out a w'; rw [hca] at h; exact h : Calls Tryz.prog 40 #[.int .i64 a] w' fun e w'' => e = .returned (.int .i64 ca) ∧ w'' = w'))
 have HCb := zi (fun w' => (by have h := HCl.out b w'; rw [hcb] at h; exact h : Calls Tryz.prog 40 #[.int .i64 b] w' fun e w'' => e = .returned (.int .i64 cb) ∧ w'' = w'))
 clear HCl hca hcb
 have hE := Ext.refl w
 go_enter Tryz.func36, Tryz.ntmps36
 go_wp2_with fail
 refine (HCa.out _).mono ?_; rintro e w1 ⟨rfl, hw1⟩; have hw1 := hw1.symm; subst hw1
 go_wp2_with fail
 refine (HCb.out _).mono ?_; rintro e w1 ⟨rfl, hw1⟩; have hw1 := hw1.symm; subst hw1
 by_cases hlt : cb < ca
 ·go_wp2_with fail
  go_ret
  exact .inl ⟨hlt, rfl, rfl⟩
 ·have hab : ca ≤ cb := by omega
  go_wp2_with fail
  have hE := hE.drew
  refine wp_region_U (S := (fun w' => w'.cell? ⟨p, 1, none⟩ = some (.slice bA o.br.length bc))) 11 (by kernel_rfl) ?_ (fun hHeld => ?_)
  ·(try dsimp only); exact HP.out _ hE
  refine wpAnyU_takeW (i := 0) (oi := ⟨some 18, _, _, _, _, _⟩) (v := ?_) (by kernel_rfl) rfl (by kernel_rfl) (by kernel_rfl) (by kernel_rfl) (fun _ _ _ h => h) (Or.inl ⟨by rfl, ?_⟩) (by assumption) ?_
  rotate_left
  ·(intro w hSw; (try dsimp only at hSw); go_simp; (try with_reducible rfl))
  try simp only [zP]
  refine wpAnyU_takeW (i := 1) (oi := ⟨some 19, _, _, _, _, _⟩) (v := ?_) (by kernel_rfl) rfl (by kernel_rfl) (by kernel_rfl) (by kernel_rfl) (fun _ _ _ h => h) (Or.inl ⟨by rfl, ?_⟩) (by assumption) ?_
  rotate_left
  ·(intro w hSw; (try dsimp only at hSw); go_simp; (try with_reducible rfl))
  try simp only [zP]
  refine wpAnyU_takeW (i := 2) (oi := ⟨some 20, _, _, _, _, _⟩) (v := ?_) (by kernel_rfl) rfl (by kernel_rfl) (by kernel_rfl) (by kernel_rfl) (fun _ _ _ h => h) (Or.inl ⟨by rfl, ?_⟩) (by assumption) ?_
  rotate_left
  ·(intro w hSw; (try dsimp only at hSw); go_simp; (try with_reducible rfl))
  try simp only [zP]
  refine wpAnyU_takeW (i := 3) (oi := ⟨some 21, _, _, _, _, _⟩) (v := ?_) (by kernel_rfl) rfl (by kernel_rfl) (by kernel_rfl) (by kernel_rfl) (fun _ _ _ h => h) (Or.inl ⟨by rfl, ?_⟩) (by assumption) ?_
  rotate_left
  ·(intro w hSw; (try dsimp only at hSw); go_simp; (try with_reducible rfl))
  try simp only [zP]
  refine wpAnyU_take (i := 4) (oi := ⟨some 22, _, _, _, _, _⟩) (v := ?_) [11, 12, 13, 14] (by kernel_rfl) (by kernel_rfl) (by kernel_rfl) (by kernel_rfl) rfl (by kernel_rfl) (by kernel_rfl) (by kernel_rfl) (fun _ _ _ h => h) (Or.inl ⟨by rfl, ?_⟩) (by assumption) ?_
  rotate_left
  ·(intro w hSw; (try dsimp only at hSw); go_simp; (try with_reducible rfl))
  try simp only [zP]
  refine wpAnyU_takeW (i := 5) (oi := ⟨some 23, _, _, _, _, _⟩) (v := ?_) (by kernel_rfl) rfl (by kernel_rfl) (by kernel_rfl) (by kernel_rfl) (fun _ _ _ h => h) (Or.inl ⟨by rfl, ?_⟩) (by assumption) ?_
  rotate_left
  ·(intro w hSw; (try dsimp only at hSw); go_simp; (try with_reducible rfl))
  try simp only [zP]
  refine wpAnyU_takeW (i := 7) (oi := ⟨some 25, _, _, _, _, _⟩) (v := ?_) (by kernel_rfl) rfl (by kernel_rfl) (by kernel_rfl) (by kernel_rfl) (fun _ _ _ h => h) (Or.inl ⟨by rfl, ?_⟩) (by assumption) ?_
  rotate_left
  ·(intro w hSw; (try dsimp only at hSw); go_simp; (try with_reducible rfl))
  try simp only [zP]
  refine wpAnyU_ready (rs := [6]) (by kernel_rfl) (by simp) ?_
  refine AllReadyU.cons (o := ⟨some 24, _, _, _, _, _⟩) rfl (fun K hK => ?_) AllReadyU.nil
  go_simp
  refine (HCa.out _).mono ?_; rintro e w5 ⟨rfl, hw5⟩; have hw5 := hw5.symm; subst hw5
  try go_wp2_with fail
  refine hK.out _ _ ?_ (fun hHeld => ?_)
  ·(try dsimp only); exact HP.out _ hE
  clear hK K
  try simp only [zP]
  refine wpAnyU_ready (rs := [8]) (by kernel_rfl) (by simp) ?_
  refine AllReadyU.cons (o := ⟨some 26, _, _, _, _, _⟩) rfl (fun K hK => ?_) AllReadyU.nil
  go_simp
  refine (HCb.out _).mono ?_; rintro e w5 ⟨rfl, hw5⟩; have hw5 := hw5.symm; subst hw5
  try go_wp2_with fail
  refine hK.out _ _ ?_ (fun hHeld => ?_)
  ·(try dsimp only); exact HP.out _ hE
  clear hK K
  try simp only [zP]
  refine wpAnyU_takeW (i := 9) (oi := ⟨some 27, _, _, _, _, _⟩) (v := ?_) (by kernel_rfl) rfl (by kernel_rfl) (by kernel_rfl) (by kernel_rfl) (fun _ _ _ h => h) (Or.inl ⟨by rfl, ?_⟩) (by assumption) ?_
  rotate_left
  ·(intro w hSw; (try dsimp only at hSw); go_simp; (try with_reducible rfl))
  try simp only [zP]
  refine wpAnyU_ready (rs := [10]) (by kernel_rfl) (by simp) ?_
  refine AllReadyU.cons (o := ⟨some 28, _, _, _, _, _⟩) rfl (fun K hK => ?_) AllReadyU.nil
  go_simp
  replace hE := hE.alloc (.cells #[.int .i64 ca, .int .i64 cb] 140)
  try go_wp2_with fail
  refine hK.out _ _ ?_ (fun hHeld => ?_)
  ·(try dsimp only); exact HP.out _ hE
  clear hK K
  try simp only [zP]
  refine wpAnyU_ready (rs := [11]) (by kernel_rfl) (by simp) ?_
  refine AllReadyU.stop (o := ⟨some 29, _, _, _, _, _⟩) rfl (by kernel_rfl) (fun K hK => ?_) AllReadyU.nil
  refine step_appO _ rfl (.tmp 22) (.tmp 28) 98 rfl 140 _ 2 16 Tryz.underlying98 info_span (by simp [Value.cells]) (by decide) _ _ _ rfl (own_ext HO.out.br hE) _ 1 1 (spnC (ca, cb)) rfl (Rd.lit _ _ _ rfl 2 1 rfl) (by intro u hu; simp [spnC] at hu; rcases hu with rfl | rfl <;> rfl) (by have := Hbn.out; omega) (by decide) ?_; intro A6 c6 w6 hown6 hle6 hg6 hn6
  refine hK.out _ _ ?_ (fun hHeld => ?_)
  ·(try dsimp only); (try trivial)
  clear hK K
  try simp only [zP]
  refine zH (v := ?_) 12 (some 30) rfl ?_ ?_; rotate_left
  ·(intro w hSw; (try dsimp only at hSw); go_simp; (try with_reducible rfl))
  try simp only [zP]
  refine zH (v := ?_) 13 (some 31) rfl ?_ ?_; rotate_left
  ·(intro w hSw; (try dsimp only at hSw); go_simp; (try with_reducible rfl))
  try simp only [zP]
  refine wpAnyH_ready (rs := [14]) (by kernel_rfl) (by simp) ?_
  refine AllReadyH.cons (o := ⟨none, _, _, _, _, _⟩) rfl (fun K hK => ?_) AllReadyH.nil
  have hOx := HO.out.ext hE; have hPb := hOx.blk.grown hg6 (Ne.symm (own_blk hOx.br hOx.blk (by decide))); have kp := hPb.cell 1; have fp := hPb.frozen 1; clear hOx hPb; (simp only [Sl.v] at kp)
  go_simp
  try go_wp2_with fail
  refine hK.out _ _ ?_ (fun hHeld => ?_)
  ·(try dsimp only); (try trivial)
  clear hK K
  try simp only [zP]
  refine wpAnyH_done (by kernel_rfl) ?_ _
  clear kp fp
  obtain ⟨hO2, hK2⟩ := ((HO.out.more (Q' := fun i => Q i ∨ w.heap.size ≤ i) (fun i hi => hi) (fun b hb => .inl (HO.out.rq b hb))).ext hE).addB (x := (ca, cb)) hown6 hg6 hn6
  have HO2 := zi hO2; have HK2 := zi ((Keeps.of (S := R) hE).trans hK2); have Hn6 := zi hn6; have hwe := hE.size
  have HNew := zi (show ∀ i, (Value.slice A6 (o.br.length + 1) c6).ownBlock = some i → R i ∨ w.heap.size ≤ i from fun i hi => hn6.elim (fun e => .inl (HO.out.rb i (by rw [e] at hi; exact hi))) (fun e => .inr (by rw [e] at hi; injection hi with hi; rw [← hi]; exact hE.size)))
  clear hO2 hK2 hn6 hown6 hg6 hE
  generalize (w6.setCell ⟨p, 1, none⟩ (.slice A6 (o.br.length + 1) c6)) = wF at *
  go_wp2_with fail
  go_ret
  refine .inr ⟨rfl, Rplus R (.slice A6 (o.br.length + 1) c6), ⟨_, HO2.out.more (Q' := fun i => Q i ∨ w.heap.size ≤ i) (fun i hi => ?_) (fun b hb => ?_)⟩, HK2.out, fun _ h => .inl h, fun i hi => hi.elim .inl (HNew.out i)⟩
  ·exact .inl (.inl hi)
  ·exact hb.elim (fun h => .inl (HO.out.rq b h)) (fun h => (HNew.out b h).elim (fun h => .inl (HO.out.rq b h)) .inr)
end Go.Proofs.YtmckbcbdnckngaaGreatDoor

namespace Go.Proofs.YtmckbcbdnckngaaGreatDoor
open Go.RowKit

theorem e3 : errV 3 = .iface 63 (.int .i64 3) := rfl
def x_go : ByteArray := ⟨#[103, 111, 110, 101]⟩
theorem gone_cells : bytC x_go = (#[.int .u8 103, .int .u8 111, .int .u8 110, .int .u8 101] : Array Value).toList := by kernel_rfl
theorem gone_rs (w : World) : RS (fun _ => False) (w.alloc (.cells #[.int .u8 103, .int .u8 111, .int .u8 110, .int .u8 101] 5 (4, 5))) 1 ⟨some ⟨w.heap.size, 0, none⟩, 4, 4⟩ (bytC x_go) := by
 rw [gone_cells]
 refine ⟨⟨rfl, fun _ => ⟨_, _, rfl, fun j u hu => ?_⟩⟩, fun _ _ _ hf => hf, Nat.le_refl _⟩
 rw [Nat.zero_add, World.cell?_alloc_mark, ← Array.getElem?_toList]
 exact hu
def goneV (text : ByteArray) : Ver := ⟨text, 404, brief, x_go, []⟩
theorem or_Withdraw {Q R : Nat → Prop} {p : Nat} {o : Org} {M : OM} {t : Int} {text : ByteArray} {w : World} (hO : OrgP w p R Q o M) (ht : text.size ≤ 1048576) {x : Int} {k : Nat} {o2 : Org} (hp : pubS o t (goneV text) = (x, k, o2)) (hg : Gl w) :
  Calls Tryz.prog 34 #[.pointer (some ⟨p, 0, none⟩), .int .i64 t, .string text] w fun e w' => e = .returned (.tuple #[.int .i64 x, errV k]) ∧
   ∃ R', (∃ M', OrgP w' p R' (fun i => (Q i ∧ i < w.heap.size) ∨ R' i) o2 M') ∧ Keeps R w w' ∧ (∀ i, R i → R' i) ∧ (∀ i, R' i → R i ∨ w.heap.size ≤ i) := by
 have kc := fun (w : World) (C : Array Value) (n c : Nat) => Lib.run_convert_bytes_const (P := Tryz.prog) w 23 5 C n c Tryz.underlying23 Tryz.underlying5
 have HO := zi hO; have HP := zi hp; have Hg := zi hg
 clear hO hp hg
 go_enter Tryz.func34, Tryz.ntmps34
 go_wp2_with fail
 refine (or_brief _).mono ?_; rintro e w1 ⟨⟨sA, sn, sc⟩, rfl, hsn, hs1, hb1⟩
 simp only at hsn
 subst hsn
 simp only [Sl.v]
 have hX := (Ext.refl w1).alloc (.cells #[.int .u8 103, .int .u8 111, .int .u8 110, .int .u8 101] 5 (4, 5))
 have hm : (⟨text, 404, brief, x_go, [], ⟨sA, 1, sc⟩, ⟨some ⟨w1.heap.size, 0, none⟩, 4, 4⟩, sl0⟩ : MV).At (fun _ => False) (w1.alloc (.cells #[.int .u8 103, .int .u8 111, .int .u8 110, .int .u8 101] 5 (4, 5))) := by
  exact ⟨(hs1.ext hX).sub (fun _ hf => hf.elim), gone_rs w1, RS.nil _ _ _, fun x hx => by cases hx⟩
 have HPu := zi (pub_v (HO.out.ext (hb1.trans hX)) hm (v := goneV text) rfl ⟨ht, by show 1 ≤ _; omega, by show sumF brief ≤ _; decide, by show x_go.size ≤ _; decide, by show 0 ≤ _; omega, fun x hx => by cases hx⟩ HP.out (Hg.out.ext (hb1.trans hX)))
 have HE := zi (hb1.trans hX)
 have Hlow := zi HO.out.low
 clear hs1 hm hb1 hX
 simp only [MV.cells, Sl.v, sl0] at HPu
 go_wp2_with fail
 refine HPu.out.mono ?_; rintro e w3 ⟨rfl, R', ⟨M', hO'⟩, hk, hRa, hRb⟩
 have HC := zi (show ∃ R', (∃ M', OrgP w3 p R' (fun i => (Q i ∧ i < w.heap.size) ∨ R' i) o2 M') ∧ Keeps R w w3 ∧ (∀ i, R i → R' i) ∧ (∀ i, R' i → R i ∨ w.heap.size ≤ i) from
  ⟨R', ⟨M', hO'.more (fun i hi => .inl (hi.elim (fun h => .inl ⟨h.1, Nat.lt_of_lt_of_le h.2 HE.out.size⟩) .inr)) (fun b hb => .inr hb)⟩, (Keeps.of HE.out).trans hk, hRa, fun i hi => (hRb i hi).imp id (fun h => Nat.le_trans HE.out.size h)⟩)
 clear hO' hk hRa hRb HPu
 go_wp2_with fail
 go_ret2
 exact ⟨rfl, HC.out⟩
end Go.Proofs.YtmckbcbdnckngaaGreatDoor

namespace Go.Proofs.YtmckbcbdnckngaaGreatDoor
open Go.RowKit

theorem szfB_step {fs : List Fd} {k : Nat} (h : k < fs.length) : sumF (fs.take (k + 1)) + 4 * (k + 1) = sumF (fs.take k) + 4 * k + (fs[k].1.size + fs[k].2.size + 4) := by
 rw [sumF_step h]; omega
theorem sumF_take (fs : List Fd) (k : Nat) : sumF (fs.take k) ≤ sumF fs := by
 have h : sumF (fs.take k ++ fs.drop k) = sumF (fs.take k) + sumF (fs.drop k) := by unfold sumF; rw [List.map_append, List.sum_append]
 rw [List.take_append_drop] at h; omega
theorem field_SizeB (A : Option Addr) (n c : Nat) (fs : List Fd) (w : World) (hf : RdF w A n fs) (hn : sumF fs + 4 * n ≤ 1000000000000) :
  Calls Tryz.prog 56 #[.slice A n c] w fun e w' => e = .returned (.int .i64 (sumF fs + 4 * n : Nat)) ∧ Ext w w' := by
 have hl := hf.lenF
 go_enter Tryz.func56, Tryz.ntmps56
 have Hl := zi hl; clear hl
 go_wp2_with fail
 go_loopw [3, 8] (fun v i wr => ∃ k, k ≤ n ∧ i = .int .i64 (k : Nat) ∧ v = .int .i64 (sumF (fs.take k) + 4 * k : Nat) ∧ Ext w wr) (fun _ i _ => n - (intOf i).toNat)
 case atStart => exact ⟨0, Nat.zero_le _, rfl, rfl, Ext.refl _⟩
 case round =>
  obtain ⟨k, hk, rfl, rfl, hbr⟩ := hrel
  by_cases hlt : k < n
  ·have hlt' : k < fs.length := by have := Hl.out; omega
   obtain ⟨b, o, rfl, hc0, hc1⟩ := (hf.ext hbr).atF hlt'
   have hmem := sumF_mem (List.getElem_mem hlt')
   have hst := szfB_step hlt'
   have htk := sumF_take fs (k + 1)
   have Hst := zi hst
   generalize fs[k].1 = nm at *
   generalize fs[k].2 = vl at *
   have hX2 : sumF (fs.take k) + 4 * k + (nm.size + vl.size + 4) ≤ 1000000000000 := by omega
   clear hst htk
   generalize hX : sumF (fs.take k) + 4 * k = X at *
   clear hX
   go_wp2
   go_roundw
   case rel => exact ⟨k + 1, by omega, by go_num, by rw [Hst.out]; go_num, (hbr.alloc _)⟩
   case measure => simp [intOf]; omega
  ·obtain rfl : k = n := by omega
   have he : fs.take k = fs := List.take_of_length_le (by have := Hl.out; omega)
   rw [he]
   go_wp2
   go_ret
   exact ⟨rfl, hbr⟩
structure Ac where
 kd : Nat
 t1 : Int
 t2 : Int
 m : MV
 me : ByteArray
 ta : ByteArray
 rf : List Fd
 rs : Sl
def Ac.cells (a : Ac) : List Value := [.int .u8 a.kd, .int .i64 a.t1, .int .i64 a.t2, .string a.m.addr, .int .i64 a.m.status, a.m.fs.v, a.m.bd.v, a.m.vr.v, .string a.me, .string a.ta, a.rs.v]
structure Ac.At (w : World) (a : Ac) : Prop where
 m : a.m.At (fun _ => False) w
 r : RS (fun _ => False) w 2 a.rs (fldCells a.rf)
theorem Ac.At.ext {w w' : World} {a : Ac} (h : a.At w) (hb : Ext w w') : a.At w' := ⟨h.m.ext hb, h.r.ext hb⟩
def szX (x : Vr) : Nat := x.body.size + x.key.size + x.tag.size + 10 + (x.names.map (·.size)).sum
def szA (a : Ac) : Nat := a.m.addr.size + a.m.body.size + a.ta.size + a.me.size + (sumF a.m.f + 4 * a.m.f.length) + (sumF a.rf + 4 * a.rf.length) + (a.m.vars.map fun x => szX x.1).sum
theorem sum_tk {α : Type} (f : α → Nat) {l : List α} {k : Nat} (h : k < l.length) : ((l.take (k + 1)).map f).sum = ((l.take k).map f).sum + f l[k] := by
 rw [List.take_succ_eq_append_getElem h, List.map_append, List.sum_append]; simp
theorem sum_tl {α : Type} (f : α → Nat) (l : List α) (k : Nat) : ((l.take k).map f).sum ≤ (l.map f).sum := by
 have h : ((l.take k ++ l.drop k).map f).sum = ((l.take k).map f).sum + ((l.drop k).map f).sum := by rw [List.map_append, List.sum_append]
 rw [List.take_append_drop] at h; omega
theorem law_size (a : Ac) (w : World) (h : a.At w) (hz : szA a ≤ 1000000000000) (hvb : a.m.vars.length ≤ 1048576) (hnb : ∀ x ∈ a.m.vars, x.1.names.length ≤ 1048576) :
  Calls Tryz.prog 24 #[.agg a.cells.toArray] w fun e w' => e = .returned (.int .i64 (szA a : Nat)) ∧ Ext w w' := by
 obtain ⟨kd, t1, t2, ⟨addr, status, f, body, vars, ⟨fA, fn, fc⟩, ⟨bA, bn, bc⟩, ⟨vA, vn, vc⟩⟩, me, ta, rf, ⟨rA, rn, rc⟩⟩ := a
 have hfl := h.m.fs.rd.lenF; have hrl := h.r.rd.lenF; have hvl := h.m.vlen
 have hbl : body.size = bn := by have := h.m.bd.len1; rw [bytC_len] at this; exact this
 simp only at hfl hrl hvl
 have HAt := zi h
 have HSz := zi (show szA ⟨kd, t1, t2, ⟨addr, status, f, body, vars, ⟨fA, fn, fc⟩, ⟨bA, bn, bc⟩, ⟨vA, vn, vc⟩⟩, me, ta, rf, ⟨rA, rn, rc⟩⟩ = addr.size + bn + ta.size + me.size + (sumF f + 4 * fn) + (sumF rf + 4 * rn) + (vars.map fun x => szX x.1).sum by show addr.size + body.size + ta.size + me.size + (sumF f + 4 * f.length) + (sumF rf + 4 * rf.length) + _ = _; rw [hbl, hfl, hrl])
 rw [HSz.out] at hz ⊢
 have HF := zi (fun w' (hx : Ext w w') => field_SizeB fA fn fc f w' (HAt.out.m.fs.rd.ext hx) (by omega))
 have HR := zi (fun w' (hx : Ext w w') => field_SizeB rA rn rc rf w' (HAt.out.r.rd.ext hx) (by omega))
 have HB := zi (Blk.new w 68 #[.int .u8 kd, .int .i64 t1, .int .i64 t2, .string addr, .int .i64 status, .slice fA fn fc, .slice bA bn bc, .slice vA vn vc, .string me, .string ta, .slice rA rn rc])
 have HW := zi ((Ext.refl w).alloc (.cells #[.int .u8 kd, .int .i64 t1, .int .i64 t2, .string addr, .int .i64 status, .slice fA fn fc, .slice bA bn bc, .slice vA vn vc, .string me, .string ta, .slice rA rn rc] 68))
 have Hvl := zi hvl; have Hvb := zi (show vn ≤ 1048576 by simp only at hvb; omega); have Hnb := zi hnb
 have hV := sum_tl (fun x : Vr × VrM => szX x.1) vars
 have HV := zi hV
 clear hfl hrl hvl hbl hV h hvb hnb
 obtain ⟨zf, hzf⟩ : ∃ z, sumF f + 4 * fn = z := ⟨_, rfl⟩
 obtain ⟨zr, hzr⟩ : ∃ z, sumF rf + 4 * rn = z := ⟨_, rfl⟩
 rw [hzf] at HF hz HSz ⊢
 rw [hzr] at HR hz HSz ⊢
 clear hzf hzr
 obtain ⟨s1, hs1⟩ : ∃ s, addr.size + bn = s := ⟨_, rfl⟩
 obtain ⟨s2, hs2⟩ : ∃ s, s1 + ta.size = s := ⟨_, rfl⟩
 obtain ⟨s3, hs3⟩ : ∃ s, s2 + me.size = s := ⟨_, rfl⟩
 obtain ⟨s4, hs4⟩ : ∃ s, s3 + zf = s := ⟨_, rfl⟩
 obtain ⟨X0, hX0⟩ : ∃ s, s4 + zr = s := ⟨_, rfl⟩
 have hq1 : IntKind.i64.wrap ((addr.size : Int) + (bn : Int)) = (s1 : Int) := by rw [IntWalk.i64_in _ (by omega)]; omega
 have hq2 : IntKind.i64.wrap ((s1 : Int) + (ta.size : Int)) = (s2 : Int) := by rw [IntWalk.i64_in _ (by omega)]; omega
 have hq3 : IntKind.i64.wrap ((s2 : Int) + (me.size : Int)) = (s3 : Int) := by rw [IntWalk.i64_in _ (by omega)]; omega
 have hq4 : IntKind.i64.wrap ((s3 : Int) + (zf : Int)) = (s4 : Int) := by rw [IntWalk.i64_in _ (by omega)]; omega
 have hq5 : IntKind.i64.wrap ((s4 : Int) + (zr : Int)) = (X0 : Int) := by rw [IntWalk.i64_in _ (by omega)]; omega
 have HT := zi (show addr.size + bn + ta.size + me.size + zf + zr = X0 by omega)
 rw [HT.out] at hz HSz ⊢
 have Hz := zi hz
 clear hs1 hs2 hs3 hs4 hX0 hz
 simp only [Ac.cells, Sl.v]
 go_enter Tryz.func24, Tryz.ntmps24
 go_upto_region 1 with fail
 have hsz1 : (w.alloc (.cells #[.int .u8 kd, .int .i64 t1, .int .i64 t2, .string addr, .int .i64 status, .slice fA fn fc, .slice bA bn bc, .slice vA vn vc, .string me, .string ta, .slice rA rn rc] 68)).heap.size = w.heap.size + 1 := by simp
 generalize w.alloc (.cells #[.int .u8 kd, .int .i64 t1, .int .i64 t2, .string addr, .int .i64 status, .slice fA fn fc, .slice bA bn bc, .slice vA vn vc, .string me, .string ta, .slice rA rn rc] 68) = W at *
 have hE := (Ext.refl W).drew
 have HS := zi (fun w' (hx : Ext W w') => (⟨(HB.out.ext hx).cell 3, (HB.out.ext hx).cell 5, (HB.out.ext hx).cell 6, (HB.out.ext hx).cell 8, (HB.out.ext hx).cell 9, (HB.out.ext hx).cell 10⟩ : _ ∧ _ ∧ _ ∧ _ ∧ _ ∧ _))
 simp only [List.getElem?_toArray, List.getElem?_cons_succ, List.getElem?_cons_zero] at HS
 refine wp_region_held_drew (S := (fun w' => w'.cell? ⟨w.heap.size, 3, none⟩ = some (.string addr) ∧ w'.cell? ⟨w.heap.size, 5, none⟩ = some (.slice fA fn fc) ∧ w'.cell? ⟨w.heap.size, 6, none⟩ = some (.slice bA bn bc) ∧ w'.cell? ⟨w.heap.size, 8, none⟩ = some (.string me) ∧ w'.cell? ⟨w.heap.size, 9, none⟩ = some (.string ta) ∧ w'.cell? ⟨w.heap.size, 10, none⟩ = some (.slice rA rn rc))) (by kernel_rfl) ?_ (fun hHeld => ?_)
 ·(try dsimp only); exact HS.out _ hE
 refine zH (v := ?_) 0 (some 8) rfl ?_ ?_; rotate_left
 ·(intro w hSw; (try dsimp only at hSw); go_simp; (try with_reducible rfl))
 try simp only [zP]
 refine zH (v := ?_) 1 (some 9) rfl ?_ ?_; rotate_left
 ·(intro w hSw; (try dsimp only at hSw); go_simp; (try with_reducible rfl))
 try simp only [zP]
 refine zH (v := ?_) 2 (some 10) rfl ?_ ?_; rotate_left
 ·(intro w hSw; (try dsimp only at hSw); go_simp; (try with_reducible rfl))
 try simp only [zP]
 refine zH (v := ?_) 3 (some 11) rfl ?_ ?_; rotate_left
 ·(intro w hSw; (try dsimp only at hSw); go_simp; (try with_reducible rfl))
 try simp only [zP]
 refine zH (v := ?_) 4 (some 12) rfl ?_ ?_; rotate_left
 ·(intro w hSw; (try dsimp only at hSw); go_simp; (try with_reducible rfl))
 try simp only [zP]
 refine zH (v := ?_) 5 (some 13) rfl ?_ ?_; rotate_left
 ·(intro w hSw; (try dsimp only at hSw); go_simp; (try with_reducible rfl))
 try simp only [zP]
 refine zH (v := ?_) 6 (some 14) rfl ?_ ?_; rotate_left
 ·(intro w hSw; (try dsimp only at hSw); go_simp; (try with_reducible rfl))
 try simp only [zP]
 refine zH (v := ?_) 7 (some 15) rfl ?_ ?_; rotate_left
 ·(intro w hSw; (try dsimp only at hSw); go_simp; (try with_reducible rfl))
 try simp only [zP]
 refine zH (v := ?_) 8 (some 16) rfl ?_ ?_; rotate_left
 ·(intro w hSw; (try dsimp only at hSw); go_simp; (try with_reducible rfl))
 try simp only [zP]
 refine zH (v := ?_) 9 (some 17) rfl ?_ ?_; rotate_left
 ·(intro w hSw; (try dsimp only at hSw); go_simp; (try with_reducible rfl))
 try simp only [zP]
 refine zH (v := ?_) 10 (some 18) rfl ?_ ?_; rotate_left
 ·(intro w hSw; (try dsimp only at hSw); go_simp; (try with_reducible rfl))
 try simp only [zP]
 refine zH (v := ?_) 11 (some 19) rfl ?_ ?_; rotate_left
 ·(intro w hSw; (try dsimp only at hSw); go_simp; (try with_reducible rfl))
 try simp only [zP]
 refine zH (v := ?_) 12 (some 20) rfl ?_ ?_; rotate_left
 ·(intro w hSw; (try dsimp only at hSw); go_simp; (try with_reducible rfl))
 try simp only [zP]
 refine zH (v := ?_) 13 (some 21) rfl ?_ ?_; rotate_left
 ·(intro w hSw; (try dsimp only at hSw); go_simp; (try with_reducible rfl))
 try simp only [zP]
 refine zH (v := ?_) 14 (some 22) rfl ?_ ?_; rotate_left
 ·(intro w hSw; (try dsimp only at hSw); go_simp; (try with_reducible rfl))
 try simp only [zP]
 refine zH (v := ?_) 15 (some 23) rfl ?_ ?_; rotate_left
 ·(intro w hSw; (try dsimp only at hSw); go_simp; (try with_reducible rfl))
 try simp only [zP]
 refine zH (v := ?_) 16 (some 24) rfl ?_ ?_; rotate_left
 ·(intro w hSw; (try dsimp only at hSw); go_simp; (try with_reducible rfl))
 try simp only [zP]
 refine zH (v := ?_) 17 (some 25) rfl ?_ ?_; rotate_left
 ·(intro w hSw; (try dsimp only at hSw); go_simp; (try with_reducible rfl))
 try simp only [zP]
 refine zH (v := ?_) 18 (some 26) rfl ?_ ?_; rotate_left
 ·(intro w hSw; (try dsimp only at hSw); go_simp; (try with_reducible rfl))
 try simp only [zP]
 refine zH (v := ?_) 19 (some 27) rfl ?_ ?_; rotate_left
 ·(intro w hSw; (try dsimp only at hSw); go_simp; (try with_reducible rfl))
 try simp only [zP]
 refine zH (v := ?_) 20 (some 28) rfl ?_ ?_; rotate_left
 ·(intro w hSw; (try dsimp only at hSw); go_simp; (try with_reducible rfl))
 try simp only [zP]
 refine zH (v := ?_) 21 (some 29) rfl ?_ ?_; rotate_left
 ·(intro w hSw; (try dsimp only at hSw); go_simp; (try with_reducible rfl))
 try simp only [zP]
 refine zH (v := ?_) 24 (some 32) rfl ?_ ?_; rotate_left
 ·(intro w hSw; (try dsimp only at hSw); go_simp; (try with_reducible rfl))
 try simp only [zP]
 refine zH (v := ?_) 25 (some 33) rfl ?_ ?_; rotate_left
 ·(intro w hSw; (try dsimp only at hSw); go_simp; (try with_reducible rfl))
 try simp only [zP]
 refine zH (v := ?_) 26 (some 34) rfl ?_ ?_; rotate_left
 ·(intro w hSw; (try dsimp only at hSw); go_simp; (try with_reducible rfl))
 try simp only [zP]
 refine wpAnyH_ready (rs := [22]) (by kernel_rfl) (by simp) ?_
 refine AllReadyH.cons (o := ⟨some 30, _, _, _, _, _⟩) rfl (fun K hK => ?_) AllReadyH.nil
 go_simp
 refine (HF.out _ (HW.out.trans hE)).mono ?_; rintro e w22 ⟨rfl, hb22⟩; replace hE := hE.trans hb22
 try go_wp2_with fail
 refine hK.out _ _ ?_ (fun hHeld => ?_)
 ·(try dsimp only); exact HS.out _ hE
 clear hK K
 try simp only [zP]
 refine zH (v := ?_) 23 (some 31) rfl ?_ ?_; rotate_left
 ·(intro w hSw; (try dsimp only at hSw); go_simp; (try with_reducible rfl))
 try simp only [zP]
 refine wpAnyH_ready (rs := [27]) (by kernel_rfl) (by simp) ?_
 refine AllReadyH.cons (o := ⟨some 35, _, _, _, _, _⟩) rfl (fun K hK => ?_) AllReadyH.nil
 go_simp
 refine (HR.out _ (HW.out.trans hE)).mono ?_; rintro e w27 ⟨rfl, hb27⟩; replace hE := hE.trans hb27
 try go_wp2_with fail
 refine hK.out _ _ ?_ (fun hHeld => ?_)
 ·(try dsimp only); exact HS.out _ hE
 clear hK K
 try simp only [zP]
 refine zH (v := ?_) 28 (some 36) rfl ?_ ?_; rotate_left
 ·(intro w hSw; (try dsimp only at hSw); go_simp; (try with_reducible rfl))
 try simp only [zP]
 refine zH (v := ?_) 29 (some 3) rfl ?_ ?_; rotate_left
 ·(intro w hSw; (try dsimp only at hSw); go_simp; (try with_reducible rfl))
 try simp only [zP]
 refine wpAnyH_done (by kernel_rfl) ?_ _
 have HE := zi (HW.out.trans hE)
 have c7 := (HB.out.ext hE).cell 7
 simp only [List.getElem?_toArray, List.getElem?_cons_succ, List.getElem?_cons_zero] at c7
 clear hE HS hq1 hq2 hq3 hq4 hq5
 go_wp2_with fail
 go_loopg [3, 41] vn (fun g nv i wr => ∃ k : Nat, k ≤ vn ∧ g = vn - k ∧ i = .int .i64 (k : Nat) ∧ nv = .int .i64 (X0 + ((vars.take k).map fun x => szX x.1).sum : Nat) ∧ Ext w wr)
 case atStart => exact ⟨0, Nat.zero_le _, rfl, rfl, rfl, HE.out⟩
 case round =>
  obtain ⟨k, hk, rfl, rfl, rfl, hbr⟩ := hrel
  by_cases hlt : k < vn
  ·have hlt' : k < vars.length := by have := Hvl.out; omega
   obtain ⟨b, o, hbo, c0, c1, c2, c3⟩ := (HAt.out.m.ext hbr).var hlt'
   simp only at hbo
   subst hbo
   have HVk := zi ((HAt.out.m.ext hbr).each _ (List.getElem_mem hlt'))
   have Htk := zi (sum_tk (fun x : Vr × VrM => szX x.1) hlt')
   have htl := HV.out (k + 1)
   rw [Htk.out] at htl
   have hz2 := Hz.out
   have hvb := Hvb.out
   have hnb := Hnb.out _ (List.getElem_mem hlt')
   generalize hY : ((vars.take k).map fun x => szX x.1).sum = Y at *
   generalize vars[k] = x at *
   obtain ⟨⟨names, key, tag, xb⟩, ⟨⟨nA, nn, nc⟩, ⟨dA, dn, dc⟩⟩⟩ := x
   simp only [Sl.v] at *
   have hdn : xb.size = dn := by have := HVk.out.bd.len1; rw [bytC_len] at this; exact this
   have hnn : names.length = nn := HVk.out.nm.rd.lenS
   have hsx : szX ⟨names, key, tag, xb⟩ = dn + key.size + tag.size + 10 + (names.map (·.size)).sum := by rw [← hdn]; rfl
   rw [hsx] at htl Htk
   have hnb2 : nn ≤ 1048576 := by omega
   have hnl := sum_tl (fun s : ByteArray => s.size) names
   obtain ⟨U, hU⟩ : ∃ U, X0 + Y + (dn + key.size + tag.size + 10) = U := ⟨_, rfl⟩
   have HU := zi hU
   have hY0 : X0 + Y ≤ 1000000000000 := by omega
   obtain ⟨Y0, hY1⟩ : ∃ y, X0 + Y = y := ⟨_, rfl⟩
   rw [hY1]
   have hUb : U + (names.map (·.size)).sum ≤ 1000000000000 := by omega
   have Hnl := zi hnl; have HUb := zi hUb; have HY1 := zi hY1
   have hdz : dn + key.size + tag.size + 10 ≤ 1000000000000 := by omega
   have hYz : Y0 ≤ 1000000000000 := by omega
   have HW4 := zi (hbr.alloc (.cells #[.slice nA nn nc, .string key, .string tag, .slice dA dn dc] 58))
   have HNm := zi (HVk.out.nm.rd.ext ((Ext.refl wr).alloc (.cells #[.slice nA nn nc, .string key, .string tag, .slice dA dn dc] 58)))
   clear htl hz2 hsx hdn hU hUb hnl HVk hbr hY1 hY
   go_wp2_with fail
   go_loopg [3, 62] nn (fun g nv i wi => ∃ j : Nat, j ≤ nn ∧ g = nn - j ∧ i = .int .i64 (j : Nat) ∧ nv = .int .i64 (U + ((names.take j).map (·.size)).sum : Nat) ∧ Ext w wi ∧ Rd wi 1 nA nn (strCells names))
   case atStart => exact ⟨0, Nat.zero_le _, rfl, rfl, by have h1 := HU.out; have h2 := HY1.out; congr 1; simp only [List.take_zero, List.map_nil, List.sum_nil]; omega, HW4.out, HNm.out⟩
   case round =>
    obtain ⟨j, hj, rfl, rfl, rfl, hbi, hri⟩ := hrel
    by_cases hjt : j < nn
    ·have hjt' : j < names.length := by omega
     obtain ⟨gb, go, rfl, hcj⟩ := Rd.atS hri hjt'
     have hst := sum_tk (fun s : ByteArray => s.size) hjt'
     have hle := Hnl.out (j + 1)
     rw [hst] at hle
     have Hst := zi hst
     have hub := HUb.out
     generalize hZ : ((names.take j).map fun s : ByteArray => s.size).sum = Z at *
     generalize names[j] = nm at *
     have hb1 : U + Z + nm.size ≤ 1000000000000 := by omega
     clear hst hle hZ hub
     obtain ⟨V, hV⟩ : ∃ V, U + Z = V := ⟨_, rfl⟩
     rw [hV] at hb1 ⊢
     go_wp2_with fail
     go_roundg (nn - (j + 1))
     case measure => omega
     case rel => exact ⟨j + 1, by omega, rfl, by go_num, by rw [Hst.out, ← hV]; congr 1; omega, hbi, hri⟩
    ·have hjn : j = nn := by omega
     subst hjn
     rw [List.take_of_length_le (by omega)]
     go_wp2_with fail
     go_roundg (vn - (k + 1))
     case measure => omega
     case rel => exact ⟨k + 1, by omega, rfl, by go_num, by rw [Htk.out]; have h1 := HU.out; congr 1; omega, hbi⟩
  ·have hkn : k = vn := by omega
   subst hkn
   rw [List.take_of_length_le (by have := Hvl.out; omega)]
   go_wp2_with fail
   go_ret
   exact ⟨rfl, hbr⟩
end Go.Proofs.YtmckbcbdnckngaaGreatDoor

namespace Go.Proofs.YtmckbcbdnckngaaGreatDoor
open Go.RowKit

def cdS (n : Nat) (v : Ver) : Nat := if bigVr v || decide (4096 ≤ n) then 5 else if !okVr v then 2 else 0
theorem anyV_step {α : Type} {l : List α} {p : α → Bool} {k : Nat} (h : k < l.length) (ha : (l.take k).any p = false) : (l.take (k + 1)).any p = p l[k] := by
 rw [take_step l k h, List.any_append, ha]; simp
theorem anyV_yes {α : Type} {l : List α} {p : α → Bool} {k : Nat} (h : k < l.length) (ha : p l[k] = true) : l.any p = true :=
 List.any_eq_true.2 ⟨_, List.getElem_mem h, ha⟩
theorem rd_ok {s : ByteArray} {a : Adr} (h : rdAd s = some a) : ((a.has = true ∨ a.query = []) ∧ adP a.host (adTarget a) = some a) ∧ a.host.length ≤ s.size ∧ a.path.length + a.query.length ≤ s.size := by
 unfold rdAd at h
 split at h
 ·split at h
  ·rename_i b hb
   split at h
   ·rename_i ht
    injection h with h
    subst h
    have h1 := ad_again hb
    refine ⟨h1, ?_⟩
    have hl := congrArg List.length ht
    rw [show (bL s).length = s.size by unfold bL; rw [Array.length_toList]; rfl] at hl
    unfold adText at hl
    split at hl
    ·simp only [List.length_append, List.length_cons] at hl; omega
    ·rename_i hh
     rcases h1.1 with h2 | h2
     ·exact absurd h2 hh
     ·rw [h2]; simp only [List.length_append] at hl; simp only [List.length_nil]; omega
   ·cases h
  ·cases h
 ·cases h
theorem law_Code (Q : Nat → Prop) (m : MV) (iA : Option Addr) (n ic : Nat) (sb sl : Value) (w : World) (h : m.At Q w) (hn : n ≤ 1000000000) (ha : m.addr.size ≤ 1048000) (hf : m.f.length ≤ 1048576) (hT : sumF m.f ≤ 1048576) (hbd : m.body.size ≤ 1099511627776) (hv : m.vars.length ≤ 1048576)
  (hx : ∀ x ∈ m.vars, x.1.names.length ≤ 1048576 ∧ (∀ n ∈ x.1.names, n.size ≤ 1048576) ∧ x.1.body.size ≤ 1099511627776) (hg : Gl w) :
  Calls Tryz.prog 25 #[.agg #[.slice iA n ic, sb, sl], .agg m.cells.toArray] w fun e w' => e = .returned (.int .i64 (cdS n m.ver : Nat)) ∧ Ext w w' := by
 have hfl := h.fs.rd.lenF
 have hvl := h.vlen
 have hbl : m.body.size = m.bd.n := by have := h.bd.len1; rw [bytC_len] at this; exact this
 have hbz := bszF m.f
 have HRd := zi (fun w' (hh : Ext w w') => adr_Read m.addr w' (by omega) (hg.ext hh))
 have HVd := zi (fun (a : Adr) (e : rdAd m.addr = some a) w' (hh : Ext w w') => adr_Valid a w' (rd_ok e).1 (by have := (rd_ok e).2; omega) (by have := (rd_ok e).2; omega) (hg.ext hh))
 have HCk := zi (fun w' (hh : Ext w w') => field_Check m.fs.A m.fs.n m.fs.c m.f w' (h.fs.rd.ext hh) (by omega) (fun f hf => ⟨by have := (hbz f hf).1; omega, by have := (hbz f hf).2; omega⟩))
 have HGt := zi (fun w' nm (hh : Ext w w') (hn : nm.size ≤ 100) => field_AllO m.fs.A m.fs.n m.fs.c m.f nm w' (h.fs.rd.ext hh) (by omega) (by omega) (fun f hf => by have := (hbz f hf).1; omega))
 have HAt := zi h
 have HB := zi (bigVr_eq m); have HO := zi (okVr_eq m)
 have Hx := zi hx
 have Hvl := zi hvl
 have HR := zi (show cdS n m.ver = if bigVr m.ver || decide (4096 ≤ n) then 5 else if !okVr m.ver then 2 else 0 from rfl)
 generalize cdS n m.ver = R at *
 generalize bigVr m.ver = big at *
 generalize okVr m.ver = okv at *
 rw [hbl] at hbd HB
 rw [hvl] at hv HB
 clear hfl hbz h hx ha hf hT hbl
 obtain ⟨addr, status, f, body, vars, ⟨fA, fn, fc⟩, ⟨bA, bn, bc⟩, ⟨vA, vn, vc⟩⟩ := m
 simp only [MV.cells, Sl.v] at *
 clear hvl
 have HW := zi (((Ext.refl w).alloc (.cells #[.slice iA n ic, sb, sl] 74)).alloc (.cells #[.string addr, .int .i64 status, .slice fA fn fc, .slice bA bn bc, .slice vA vn vc] 36))
 have HXs := zi ((Blk.new w 74 #[.slice iA n ic, sb, sl]).alloc (.cells #[.string addr, .int .i64 status, .slice fA fn fc, .slice bA bn bc, .slice vA vn vc] 36))
 have HXv := Blk.new (w.alloc (.cells #[.slice iA n ic, sb, sl] 74)) 36 #[.string addr, .int .i64 status, .slice fA fn fc, .slice bA bn bc, .slice vA vn vc]
 rw [show (w.alloc (.cells #[.slice iA n ic, sb, sl] 74)).heap.size = w.heap.size + 1 by simp] at HXv
 have HXv := zi HXv
 have HS := zi (fun w' (hh : Ext ((w.alloc (.cells #[.slice iA n ic, sb, sl] 74)).alloc (.cells #[.string addr, .int .i64 status, .slice fA fn fc, .slice bA bn bc, .slice vA vn vc] 36)) w') => (⟨(HXs.out.ext hh).cell 0, (HXv.out.ext hh).cell 0, (HXv.out.ext hh).cell 1, (HXv.out.ext hh).cell 2, (HXv.out.ext hh).cell 3, (HXv.out.ext hh).cell 4⟩ : w'.cell? ⟨w.heap.size, 0, none⟩ = some (.slice iA n ic) ∧ w'.cell? ⟨w.heap.size + 1, 0, none⟩ = some (.string addr) ∧ w'.cell? ⟨w.heap.size + 1, 1, none⟩ = some (.int .i64 status) ∧ w'.cell? ⟨w.heap.size + 1, 2, none⟩ = some (.slice fA fn fc) ∧ w'.cell? ⟨w.heap.size + 1, 3, none⟩ = some (.slice bA bn bc) ∧ w'.cell? ⟨w.heap.size + 1, 4, none⟩ = some (.slice vA vn vc)))
 obtain ⟨x0, x1, x2, x3, x4, x5⟩ := HS.out _ (Ext.refl _)
 by_cases h1 : 65536 < bn
 ·obtain rfl : R = 5 := by rw [HR.out, HB.out]; simp [h1]
  have h1' : (65536 : Int) < bn := by omega
  go_enter Tryz.func25, Tryz.ntmps25
  go_wp2_with fail
  go_ret
  exact ⟨rfl, HW.out⟩
 have h1' : ¬ (65536 : Int) < bn := by omega
 by_cases h2 : 8 < vn
 ·obtain rfl : R = 5 := by rw [HR.out, HB.out]; simp [h2]
  have h2' : (8 : Int) < vn := by omega
  go_enter Tryz.func25, Tryz.ntmps25
  go_wp2_with fail
  go_ret
  exact ⟨rfl, HW.out⟩
 have h2' : ¬ (8 : Int) < vn := by omega
 by_cases h3 : 4096 ≤ n
 ·obtain rfl : R = 5 := by rw [HR.out]; simp [h3]
  have h3' : (4096 : Int) ≤ n := by omega
  go_enter Tryz.func25, Tryz.ntmps25
  go_wp2_with fail
  go_ret
  exact ⟨rfl, HW.out⟩
 have h3' : ¬ (4096 : Int) ≤ n := by omega
 have HB1 := zi (show big = vars.any fun x => bigX x.1 by rw [HB.out]; simp [h1, h2])
 have HR1 := zi (show R = if big then 5 else if !okv then 2 else 0 by rw [HR.out]; simp [h3])
 clear HB HR
 go_enter Tryz.func25, Tryz.ntmps25
 go_wp2_with fail
 clear x0 x1 x2 x3 x4 x5
 generalize ((w.alloc (.cells #[.slice iA n ic, sb, sl] 74)).alloc (.cells #[.string addr, .int .i64 status, .slice fA fn fc, .slice bA bn bc, .slice vA vn vc] 36)) = Wb at *
 go_loopg [34] vn (fun g i wr => ∃ k : Nat, k ≤ vn ∧ g = vn - k ∧ i = .int .i64 (k : Nat) ∧ (vars.take k).any (fun x => bigX x.1) = false ∧ Wb = wr)
 case atStart => exact ⟨0, Nat.zero_le _, rfl, rfl, rfl, rfl⟩
 case round =>
  obtain ⟨k, hk, rfl, rfl, hany, rfl⟩ := hrel
  obtain ⟨x0, x1, x2, x3, x4, x5⟩ := HS.out _ (Ext.refl _)
  by_cases hlt : k < vn
  ·have hlt' : k < vars.length := by have := Hvl.out; omega
   obtain ⟨b, o, hbo, c0, c1, c2, c3⟩ := (HAt.out.ext HW.out).var hlt'
   simp only at hbo
   subst hbo
   have Hst := zi (anyV_step hlt' hany)
   have Hye := zi (@anyV_yes _ vars (fun x => bigX x.1) k hlt')
   have hbl : vars[k].1.body.size = vars[k].2.bd.n := by have := (HAt.out.each _ (List.getElem_mem hlt')).bd.len1; rw [bytC_len] at this; exact this
   have hxb := (Hx.out _ (List.getElem_mem hlt')).2.2
   clear hany
   generalize vars[k] = x at *
   obtain ⟨⟨names, key, tag, xb⟩, ⟨⟨nA, nn, nc⟩, ⟨dA, dn, dc⟩⟩⟩ := x
   simp only [Sl.v] at *
   have Hbx := zi (show bigX ⟨names, key, tag, xb⟩ = decide (65536 < dn) by rw [← hbl]; rfl)
   rw [Hbx.out] at Hst Hye
   by_cases hd : 65536 < dn
   ·have hd' : (65536 : Int) < dn := by omega
    obtain rfl : R = 5 := by rw [HR1.out, HB1.out, Hye.out (by simp [hd])]; rfl
    go_wp2_with fail
    go_ret
    exact ⟨rfl, HW.out⟩
   ·have hd' : ¬ (65536 : Int) < dn := by omega
    go_wp2_with fail
    go_roundg (vn - (k + 1))
    case measure => omega
    case rel => exact ⟨k + 1, by omega, rfl, by go_num, by rw [Hst.out]; simp [hd], rfl⟩
  ·have hkn : vn = k := by omega
   subst hkn
   have HR2 := zi (show R = if !okv then 2 else 0 by
    rw [List.take_of_length_le (by have := Hvl.out; omega)] at hany
    rw [HR1.out, HB1.out, hany]; rfl)
   clear HB1 HR1 hany hlt
   have HRE := zi (show rdE addr = if (rdAd addr).isSome then 0 else 2 from rfl)
   go_wp2_with fail
   refine (HRd.out _ HW.out).mono ?_; rintro e w1 ⟨rfl, hb1⟩
   clear x0 x1 x2 x3 x4 x5
   cases hra : rdAd addr with
   | none =>
    have HRe := zi (show rdE addr = 2 by rw [HRE.out, hra]; rfl)
    rw [HRe.out, show errV 2 = .iface 63 (.int .i64 2) from rfl, show adrA none = #[.string ⟨#[]⟩, .string ⟨#[]⟩, .string ⟨#[]⟩, .bool false] from rfl]
    obtain rfl : R = 2 := by rw [HR2.out, HO.out, hra]; rfl
    have hE := hb1.alloc (.cells #[.string ⟨#[]⟩, .string ⟨#[]⟩, .string ⟨#[]⟩, .bool false] 123)
    obtain ⟨x0, x1, x2, x3, x4, x5⟩ := HS.out _ hE
    go_wp2_with fail
    go_ret
    exact ⟨rfl, HW.out.trans hE⟩
   | some a =>
    have HRe := zi (show rdE addr = 0 by rw [HRE.out, hra]; rfl)
    have HV := zi (HVd.out a hra)
    have HO1 := zi (show okv = (decide (200 ≤ status) && decide (status ≤ 599) && chkS f == 0 && sixN.all (fun n => (allS f n).isEmpty) && vars.all fun x => okNames x.1) by rw [HO.out, hra]; rfl)
    rw [HRe.out, show errV 0 = .nilIface from rfl, show adrA (some a) = #[.string ⟨a.host.toArray⟩, .string ⟨a.path.toArray⟩, .string ⟨a.query.toArray⟩, .bool a.has] from rfl]
    clear HRe HRE HRd HVd HO
    have hE := hb1.alloc (.cells #[.string ⟨a.host.toArray⟩, .string ⟨a.path.toArray⟩, .string ⟨a.query.toArray⟩, .bool a.has] 123)
    obtain ⟨x0, x1, x2, x3, x4, x5⟩ := HS.out _ hE
    generalize (⟨a.host.toArray⟩ : ByteArray) = ah at *
    generalize (⟨a.path.toArray⟩ : ByteArray) = ap at *
    generalize (⟨a.query.toArray⟩ : ByteArray) = aq at *
    generalize a.has = ab at *
    go_wp2_with fail
    refine (HV.out _ (HW.out.trans hE)).mono ?_; rintro e w2 ⟨rfl, hb2⟩
    replace hE := hE.trans hb2
    clear x0 x1 x2 x3 x4 x5
    obtain ⟨x0, x1, x2, x3, x4, x5⟩ := HS.out _ hE
    by_cases hs1 : status < 200
    ·obtain rfl : R = 2 := by rw [HR2.out, HO1.out, decide_eq_false (show ¬ 200 ≤ status by omega)]; rfl
     go_wp2_with fail
     go_ret
     exact ⟨rfl, HW.out.trans hE⟩
    by_cases hs2 : 599 < status
    ·obtain rfl : R = 2 := by rw [HR2.out, HO1.out, decide_eq_false (show ¬ status ≤ 599 by omega)]; simp
     go_wp2_with fail
     go_ret
     exact ⟨rfl, HW.out.trans hE⟩
    have HO2 := zi (show okv = (chkS f == 0 && sixN.all (fun n => (allS f n).isEmpty) && vars.all fun x => okNames x.1) by rw [HO1.out, decide_eq_true (show 200 ≤ status by omega), decide_eq_true (show status ≤ 599 by omega)]; rfl)
    clear HO1 HV
    generalize chkS f = ck at *
    go_wp2_with fail
    refine (HCk.out _ (HW.out.trans hE)).mono ?_; rintro e w3 ⟨rfl, hb3⟩
    replace hE := hE.trans hb3
    clear x0 x1 x2 x3 x4 x5
    obtain ⟨x0, x1, x2, x3, x4, x5⟩ := HS.out _ hE
    rcases errV_eq0 ck with ⟨h4, h5⟩ | ⟨h4, h5⟩
    rotate_left
    ·obtain rfl : R = 2 := by rw [HR2.out, HO2.out]; simp [h4]
     rw [h5]
     go_wp2_with fail
     go_ret
     exact ⟨rfl, HW.out.trans hE⟩
    rw [h5]
    have HR3 := zi (show R = if !(sixN.all (fun n => (allS f n).isEmpty) && vars.all fun x => okNames x.1) then 2 else 0 by rw [HR2.out, HO2.out, h4]; rfl)
    clear HCk HO2 HR2 h4 h5 hb1 hb2 hb3
    have hNm : RdS (w3.alloc (.cells #[.string ⟨#[100, 97, 116, 101]⟩, .string ⟨#[97, 103, 101]⟩, .string ⟨#[99, 111, 110, 116, 101, 110, 116, 45, 108, 101, 110, 103, 116, 104]⟩, .string ⟨#[99, 111, 110, 116, 101, 110, 116, 45, 114, 97, 110, 103, 101]⟩, .string ⟨#[116, 114, 97, 110, 115, 102, 101, 114, 45, 101, 110, 99, 111, 100, 105, 110, 103]⟩, .string ⟨#[99, 111, 110, 110, 101, 99, 116, 105, 111, 110]⟩] 9)) (some ⟨w3.heap.size, 0, none⟩) 6 sixN := Rd.lit w3 #[.string ⟨#[100, 97, 116, 101]⟩, .string ⟨#[97, 103, 101]⟩, .string ⟨#[99, 111, 110, 116, 101, 110, 116, 45, 108, 101, 110, 103, 116, 104]⟩, .string ⟨#[99, 111, 110, 116, 101, 110, 116, 45, 114, 97, 110, 103, 101]⟩, .string ⟨#[116, 114, 97, 110, 115, 102, 101, 114, 45, 101, 110, 99, 111, 100, 105, 110, 103]⟩, .string ⟨#[99, 111, 110, 110, 101, 99, 116, 105, 111, 110]⟩] 9 rfl 1 6 rfl
    have hE4 := zi (hE.alloc (.cells #[.string ⟨#[100, 97, 116, 101]⟩, .string ⟨#[97, 103, 101]⟩, .string ⟨#[99, 111, 110, 116, 101, 110, 116, 45, 108, 101, 110, 103, 116, 104]⟩, .string ⟨#[99, 111, 110, 116, 101, 110, 116, 45, 114, 97, 110, 103, 101]⟩, .string ⟨#[116, 114, 97, 110, 115, 102, 101, 114, 45, 101, 110, 99, 111, 100, 105, 110, 103]⟩, .string ⟨#[99, 111, 110, 110, 101, 99, 116, 105, 111, 110]⟩] 9))
    clear hE x0 x1 x2 x3 x4 x5
    go_wp2_with fail
    generalize w3.alloc (.cells #[.string ⟨#[100, 97, 116, 101]⟩, .string ⟨#[97, 103, 101]⟩, .string ⟨#[99, 111, 110, 116, 101, 110, 116, 45, 108, 101, 110, 103, 116, 104]⟩, .string ⟨#[99, 111, 110, 116, 101, 110, 116, 45, 114, 97, 110, 103, 101]⟩, .string ⟨#[116, 114, 97, 110, 115, 102, 101, 114, 45, 101, 110, 99, 111, 100, 105, 110, 103]⟩, .string ⟨#[99, 111, 110, 110, 101, 99, 116, 105, 111, 110]⟩] 9) = w4 at *
    generalize w3.heap.size = bN at *
    go_loopg [77] 6 (fun g i wr => ∃ k : Nat, k ≤ 6 ∧ g = 6 - k ∧ i = .int .i64 (k : Nat) ∧ (sixN.take k).all (fun n => (allS f n).isEmpty) = true ∧ Ext w4 wr)
    case atStart => exact ⟨0, by omega, rfl, rfl, rfl, Ext.refl _⟩
    case round =>
     obtain ⟨k, hk, rfl, rfl, hall, hbr⟩ := hrel
     obtain ⟨x0, x1, x2, x3, x4, x5⟩ := HS.out _ (hE4.out.trans hbr)
     by_cases hlt : k < 6
     ·have hlt' : k < sixN.length := hlt
      obtain ⟨b, o, hbo, hc0⟩ := (hNm.ext hbr).atS hlt'
      injection hbo with hbo
      injection hbo with e1 e2
      subst e1; subst e2
      rw [Nat.zero_add] at hc0
      have Hst := zi (all_step hlt' hall)
      have Hno := zi (@all_no _ sixN (fun n => (allS f n).isEmpty) k hlt')
      have Hsz := zi (show (sixN[k]).size ≤ 100 from (show ∀ x ∈ sixN, x.size ≤ 100 by decide +kernel) _ (List.getElem_mem hlt'))
      clear hall
      generalize sixN[k] = nm at *
      have HG2 := zi (HGt.out wr nm (HW.out.trans (hE4.out.trans hbr)) Hsz.out)
      go_wp2_with fail
      refine HG2.out.mono ?_; rintro e w5 ⟨A5, n5, c5, rfl, hr5, hc5, hb5, -⟩
      have hl5 := hr5.lenS
      cases hem : (allS f nm).isEmpty
      ·obtain rfl : R = 2 := by rw [HR3.out, Hno.out hem]; rfl
       have h5 : (0 : Int) < n5 := by
        cases hq : allS f nm with
        | nil => rw [hq] at hem; cases hem
        | cons x l => rw [hq] at hl5; simp at hl5; omega
       go_wp2_with fail
       go_ret
       exact ⟨rfl, HW.out.trans (hE4.out.trans (hbr.trans hb5))⟩
      ·have h5 : ¬ (0 : Int) < n5 := by
        rw [List.isEmpty_iff] at hem
        rw [hem] at hl5; simp at hl5; omega
       go_wp2_with fail
       go_roundg (6 - (k + 1))
       case measure => omega
       case rel => exact ⟨k + 1, by omega, rfl, by go_num, Hst.out.trans hem, hbr.trans hb5⟩
     ·have hk6 : k = 6 := by omega
      subst hk6
      have HR4 := zi (show R = if !(vars.all fun x => okNames x.1) then 2 else 0 by rw [HR3.out, show sixN.all (fun n => (allS f n).isEmpty) = true from hall]; rfl)
      replace hE4 := zi (hE4.out.trans hbr)
      clear hall hNm HGt hbr hlt HR3
      go_wp2_with fail
      clear x0 x1 x2 x3 x4 x5
      go_loopg [91] vn (fun g i wi => ∃ k : Nat, k ≤ vn ∧ g = vn - k ∧ i = .int .i64 (k : Nat) ∧ (vars.take k).all (fun x => okNames x.1) = true ∧ Ext Wb wi)
      case atStart => exact ⟨0, by omega, rfl, rfl, rfl, hE4.out⟩
      case round =>
       obtain ⟨k, hk, rfl, rfl, hall, hbi⟩ := hrel
       obtain ⟨x0, x1, x2, x3, x4, x5⟩ := HS.out _ hbi
       by_cases hlt : k < vn
       ·have hlt' : k < vars.length := by have := Hvl.out; omega
        obtain ⟨b, o, hbo, c0, c1, c2, c3⟩ := (HAt.out.ext (HW.out.trans hbi)).var hlt'
        simp only at hbo
        subst hbo
        have Hst := zi (all_step hlt' hall)
        have Hno := zi (@all_no _ vars (fun x => okNames x.1) k hlt')
        have hxk := Hx.out _ (List.getElem_mem hlt')
        have HVr := zi ((HAt.out.each _ (List.getElem_mem hlt')).nm.rd)
        clear hall
        generalize vars[k] = x at *
        obtain ⟨⟨names, key, tag, xb⟩, ⟨⟨nA, nn, nc⟩, ⟨dA, dn, dc⟩⟩⟩ := x
        simp only [Sl.v] at *
        obtain ⟨hx1, hx2, -⟩ := hxk
        have hnn : names.length = nn := HVr.out.lenS
        have hnn2 : nn ≤ 1048576 := by omega
        have Hnn := zi hnn
        have Hx2 := zi hx2
        clear hnn hx1 hx2
        go_wp2_with fail
        clear c0 c1 c2 c3 x0 x1 x2 x3 x4 x5
        go_loopg [101] nn (fun g i wj => ∃ j : Nat, j ≤ nn ∧ g = nn - j ∧ i = .int .i64 (j : Nat) ∧ (names.take j).all nameOk = true ∧ Ext Wb wj)
        case atStart => exact ⟨0, by omega, rfl, rfl, rfl, hbi⟩
        case round =>
         obtain ⟨j, hj, rfl, rfl, halj, hbj⟩ := hrel
         by_cases hjt : j < nn
         ·have hjt' : j < names.length := by have := Hnn.out; omega
          obtain ⟨b2, o2, rfl, hd0⟩ := (HVr.out.ext (HW.out.trans hbj)).atS hjt'
          have Hsj := zi (all_step hjt' halj)
          have Hnj := zi (@all_no _ names nameOk j hjt')
          have hzj := Hx2.out _ (List.getElem_mem hjt')
          generalize names[j] = nm at *
          have HnO := zi (show nameOk nm = (nameE nm == 0 && nameS nm == nm) from rfl)
          generalize nameOk nm = nk at *
          go_wp2_with fail
          refine (field_Name nm _ (by omega)).mono ?_; rintro e w6 ⟨rfl, hb6⟩
          rcases errV_eq0 (nameE nm) with ⟨h0, h1⟩ | ⟨h0, h1⟩
          rotate_left
          ·rw [h1]
           obtain rfl : nk = false := by rw [HnO.out]; simp [h0]
           obtain rfl : R = 2 := by rw [HR4.out, Hno.out (Hnj.out (by trivial))]; rfl
           generalize nameS nm = ns at *
           generalize nameE nm = ne at *
           go_wp2_with fail
           go_ret
           exact ⟨rfl, HW.out.trans (hbj.trans hb6)⟩
          ·rw [h1]
           rw [h0] at HnO
           generalize nameS nm = ns at *
           by_cases hns : ns = nm
           ·have hq : (ns.toList == nm.toList) = true := eqS_iff.2 hns
            obtain rfl : nk = true := by rw [HnO.out, hns, beqB]; simp
            clear hns
            go_wp2_with fail
            go_roundg (nn - (j + 1))
            case measure => omega
            case rel => exact ⟨j + 1, by omega, rfl, by go_num, Hsj.out, hbj.trans hb6⟩
           ·have hq : (ns.toList == nm.toList) = false := Bool.eq_false_iff.2 (fun e => hns (eqS_iff.1 e))
            obtain rfl : nk = false := by rw [HnO.out, beqB]; simp [hns]
            obtain rfl : R = 2 := by rw [HR4.out, Hno.out (Hnj.out (by trivial))]; rfl
            clear hns
            go_wp2_with fail
            go_ret
            exact ⟨rfl, HW.out.trans (hbj.trans hb6)⟩
         ·have hjn : nn = j := by omega
          subst hjn
          have HA := zi (show okNames ⟨names, key, tag, xb⟩ = true by rw [List.take_of_length_le (by have := Hnn.out; omega)] at halj; exact halj)
          clear halj hjt
          go_wp2_with fail
          go_roundg (vn - (k + 1))
          case measure => omega
          case rel => exact ⟨k + 1, by omega, rfl, by go_num, Hst.out.trans HA.out, hbj⟩
       ·have hkn : vn = k := by omega
        subst hkn
        obtain rfl : R = 0 := by
         rw [HR4.out]
         rw [List.take_of_length_le (by have := Hvl.out; omega)] at hall; rw [hall]; rfl
        go_wp2_with fail
        go_ret
        exact ⟨rfl, HW.out.trans hbi⟩
end Go.Proofs.YtmckbcbdnckngaaGreatDoor

namespace Go.Proofs.YtmckbcbdnckngaaGreatDoor
open Go.RowKit

theorem base_ClipO (n lo hi : Int) (w : World) : Calls Tryz.prog 60 #[.int .i64 n, .int .i64 lo, .int .i64 hi] w fun e w' => e = .returned (.int .i64 (max lo (min n hi))) ∧ w' = w := by
 go_enter Tryz.func60, Tryz.ntmps60
 go_wp2_with fail
 all_goals
  go_ret
  exact ⟨rfl, rfl⟩
theorem base_TimeO (n : Int) (w : World) : Calls Tryz.prog 27 #[.int .i64 n] w fun e w' => e = .returned (.int .i64 (cl55 n)) ∧ w' = w := by
 have HC := zi (base_ClipO n 0 1099511627776)
 go_enter Tryz.func27, Tryz.ntmps27
 go_wp2_with fail
 refine (HC.out _).mono ?_; rintro e w1 ⟨rfl, rfl⟩
 go_wp2_with fail
 go_ret
 exact ⟨rfl, rfl⟩
theorem szA_ver {a : Ac} {n : Nat} (h : szA a ≤ n) : a.m.addr.size ≤ n ∧ sumF a.m.f ≤ n ∧ a.m.f.length ≤ n ∧ a.m.body.size ≤ n ∧ a.me.size ≤ n ∧ a.ta.size ≤ n ∧ sumF a.rf + 4 * a.rf.length ≤ n ∧ (∀ x ∈ a.m.vars, x.1.body.size ≤ n ∧ x.1.tag.size ≤ n ∧ x.1.key.size ≤ n ∧ ∀ s ∈ x.1.names, s.size ≤ n) := by
 unfold szA at h
 refine ⟨by omega, by omega, by omega, by omega, by omega, by omega, by omega, fun x hx => ?_⟩
 have h1 : szX x.1 ≤ (a.m.vars.map fun x => szX x.1).sum := by
  have : ∀ l : List (Vr × VrM), x ∈ l → szX x.1 ≤ (l.map fun x => szX x.1).sum := by
   intro l
   induction l with
   | nil => intro h; cases h
   | cons y l ih =>
    intro h
    rw [List.map_cons, List.sum_cons]
    rcases List.mem_cons.1 h with rfl | h
    ·omega
    ·have := ih h; omega
  exact this _ hx
 have h0 : szX x.1 = x.1.body.size + x.1.key.size + x.1.tag.size + 10 + (x.1.names.map (·.size)).sum := rfl
 generalize (a.m.vars.map fun x => szX x.1).sum = T at *
 refine ⟨by omega, by omega, by omega, fun s hs => ?_⟩
 have h2 : s.size ≤ (x.1.names.map (·.size)).sum := by
  have : ∀ l : List ByteArray, s ∈ l → s.size ≤ (l.map (·.size)).sum := by
   intro l
   induction l with
   | nil => intro h; cases h
   | cons y l ih =>
    intro h
    rw [List.map_cons, List.sum_cons]
    rcases List.mem_cons.1 h with rfl | h
    ·omega
    ·have := ih h; omega
  exact this _ hs
 omega
def acV (m : MV) : Ac := ⟨0, 0, 0, m, ⟨#[]⟩, ⟨#[]⟩, [], sl0⟩
end Go.Proofs.YtmckbcbdnckngaaGreatDoor

namespace Go.Proofs.YtmckbcbdnckngaaGreatDoor
open Go.RowKit

structure SM where
 its : Sl
 br : Sl
 lg : Sl
 mv : List (Int × MV)
 ks : List Akd
def SM.cells (s : SM) : List Value := [s.its.v, s.br.v, s.lg.v]
structure SM.At (Q : Nat → Prop) (w : World) (s : SM) (o : Org) : Prop where
 its : RS Q w 6 s.its (s.mv.flatMap pubC)
 ver : s.mv.map (fun x => (x.1, x.2.ver)) = o.vs
 mem : ∀ x ∈ s.mv, x.2.At Q w
 lg : RS Q w 7 s.lg (s.ks.flatMap akdC)
 len : s.ks.length = o.lg.length
section
variable {Q Q' R : Nat → Prop} {w w' : World} {s : SM} {o : Org}
theorem SM.At.ext (h : s.At Q w o) (hb : Ext w w') : s.At Q w' o := ⟨h.its.ext hb, h.ver, fun x hx => (h.mem x hx).ext hb, h.lg.ext hb, h.len⟩
theorem SM.At.more (h : s.At Q w o) (hq : ∀ i, Q' i → Q i ∨ w.heap.size ≤ i) : s.At Q' w o := ⟨h.its.more hq, h.ver, fun x hx => (h.mem x hx).more hq, h.lg.more hq, h.len⟩
theorem SM.At.keep (h : s.At Q w o) (hk : Keeps R w w') (hR : ∀ i, R i → Q i ∨ w.heap.size ≤ i) : s.At Q w' o := ⟨h.its.keep hk hR, h.ver, fun x hx => (h.mem x hx).keep hk hR, h.lg.keep hk hR, h.len⟩
theorem SM.At.vn (h : s.At Q w o) : s.its.n = o.vs.length ∧ s.mv.length = o.vs.length := by
 have h1 := h.its.rd.1
 rw [pubC_len] at h1
 have h2 : s.mv.length = o.vs.length := by rw [← h.ver, List.length_map]
 exact ⟨by omega, h2⟩
theorem SM.At.item (h : s.At Q w o) {k : Nat} (hk : k < s.mv.length) : ∃ b i, s.its.A = some ⟨b, i, none⟩ ∧ ∀ j u, (pubC s.mv[k])[j]? = some u → w.cell? ⟨b, i + (k * 6 + j), none⟩ = some u := by
 obtain ⟨b, i, e, hc⟩ := h.its.rd.2 (by rw [pubC_len]; omega)
 refine ⟨b, i, e, fun j u hu => hc _ u ?_⟩
 have hj : j < 6 := (List.getElem?_eq_some_iff.1 hu).1
 rw [flat_at pubC 6 (fun _ => rfl) _ _ _ hk hj]; exact hu
end
theorem SM.new (Q : Nat → Prop) (w : World) : (⟨sl0, sl0, sl0, [], []⟩ : SM).At Q w org0 :=
 ⟨RS.nil _ _ _, rfl, fun x hx => (by cases hx), RS.nil _ _ _, rfl⟩
theorem find_app (l : List (Int × Ver)) (p : Int × Ver) (text : ByteArray) (t : Int) : findS (l ++ [p]) text t = if hitS p text t then l.length + 1 else findS l text t := by
 induction l with
 | nil => show (if findS [] text t = 0 then (if hitS p text t = true then 1 else 0) else _) = _; rw [if_pos (show findS [] text t = 0 from rfl)]; rfl
 | cons x l ih =>
  show (if findS (l ++ [p]) text t = 0 then (if hitS x text t = true then 1 else 0) else findS (l ++ [p]) text t + 1) = if hitS p text t = true then (l.length + 1) + 1 else (if findS l text t = 0 then (if hitS x text t = true then 1 else 0) else findS l text t + 1)
  rw [ih]
  by_cases h : hitS p text t = true
  ·rw [if_pos h, if_pos h, if_neg (by omega)]
  ·rw [if_neg h, if_neg h]
theorem law_Gone (text : ByteArray) (w : World) :
  Calls Tryz.prog 62 #[.string text] w fun e w' => ∃ m : MV, e = .returned (.agg m.cells.toArray) ∧ m.ver = goneV text ∧ m.At (fun i => i < w.heap.size) w' ∧ Ext w w' := by
 have kc := Go.Joins.run_convert_bytes_const_at (P := Tryz.prog) ((w.alloc (.cells #[.string ⟨#[]⟩, .int .i64 0, .slice none 0 0, .slice none 0 0, .slice none 0 0] 36)).alloc (.cells #[.string ⟨#[99, 97, 99, 104, 101, 45, 99, 111, 110, 116, 114, 111, 108]⟩, .string ⟨#[109, 97, 120, 45, 97, 103, 101, 61, 49]⟩] 51)) 23 5 #[.int .u8 103, .int .u8 111, .int .u8 110, .int .u8 101] 4 4 (w.heap.size + 1 + 1) (by simp) Tryz.underlying23 Tryz.underlying5
 have HB := zi (Blk.new w 36 #[.string ⟨#[]⟩, .int .i64 0, .slice none 0 0, .slice none 0 0, .slice none 0 0])
 go_enter Tryz.func62, Tryz.ntmps62
 go_wp2_with (first | (refine wpList_storeB rfl 36 (.tmp 2) (.tmp 8) rfl rfl w.heap.size _ rfl rfl 36 _ ((HB.out.alloc _).alloc _) infoVe rfl (by simp [Value.oneCell']) ?_; intro w9 hB9 hx9))
 have y0 : w9.cell? ⟨w.heap.size, 0, none⟩ = some (.string text) := hB9.cell 0
 have y1 : w9.cell? ⟨w.heap.size, 1, none⟩ = some (.int .i64 404) := hB9.cell 1
 have y2 : w9.cell? ⟨w.heap.size, 2, none⟩ = some (.slice (some ⟨w.heap.size + 1, 0, none⟩) 1 1) := hB9.cell 2
 have y3 : w9.cell? ⟨w.heap.size, 3, none⟩ = some (.slice (some ⟨w.heap.size + 2, 0, none⟩) 4 4) := hB9.cell 3
 have y4 : w9.cell? ⟨w.heap.size, 4, none⟩ = some (.slice none 0 0) := hB9.cell 4
 refine bodyPost_ret (v := .agg #[.string text, .int .i64 404, .slice (some ⟨w.heap.size + 1, 0, none⟩) 1 1, .slice (some ⟨w.heap.size + 2, 0, none⟩) 4 4, .slice none 0 0]) (by simp [results, Tryz.results62, go_sem, y0, y1, y2, y3, y4]) rfl ?_
 have hs1 : (w.alloc (.cells #[.string ⟨#[]⟩, .int .i64 0, .slice none 0 0, .slice none 0 0, .slice none 0 0] 36)).heap.size = w.heap.size + 1 := by simp
 have hE0 := (Ext.refl w).alloc (.cells #[.string ⟨#[]⟩, .int .i64 0, .slice none 0 0, .slice none 0 0, .slice none 0 0] 36)
 have hs2 : ((w.alloc (.cells #[.string ⟨#[]⟩, .int .i64 0, .slice none 0 0, .slice none 0 0, .slice none 0 0] 36)).alloc (.cells #[.string ⟨#[99, 97, 99, 104, 101, 45, 99, 111, 110, 116, 114, 111, 108]⟩, .string ⟨#[109, 97, 120, 45, 97, 103, 101, 61, 49]⟩] 51)).heap.size = w.heap.size + 2 := by simp
 have hRF := Rd.two (w.alloc (.cells #[.string ⟨#[]⟩, .int .i64 0, .slice none 0 0, .slice none 0 0, .slice none 0 0] 36)) (.string x_cc) (.string x_m1) 51 hs1.symm
 have hRB := gone_rs ((w.alloc (.cells #[.string ⟨#[]⟩, .int .i64 0, .slice none 0 0, .slice none 0 0, .slice none 0 0] 36)).alloc (.cells #[.string ⟨#[99, 97, 99, 104, 101, 45, 99, 111, 110, 116, 114, 111, 108]⟩, .string ⟨#[109, 97, 120, 45, 97, 103, 101, 61, 49]⟩] 51))
 rw [hs2] at hRB
 have hX3 := (Ext.refl ((w.alloc (.cells #[.string ⟨#[]⟩, .int .i64 0, .slice none 0 0, .slice none 0 0, .slice none 0 0] 36)).alloc (.cells #[.string ⟨#[99, 97, 99, 104, 101, 45, 99, 111, 110, 116, 114, 111, 108]⟩, .string ⟨#[109, 97, 120, 45, 97, 103, 101, 61, 49]⟩] 51))).alloc (.cells #[.int .u8 103, .int .u8 111, .int .u8 110, .int .u8 101] 5 (4, 5))
 have hE3 : Ext w (((w.alloc (.cells #[.string ⟨#[]⟩, .int .i64 0, .slice none 0 0, .slice none 0 0, .slice none 0 0] 36)).alloc (.cells #[.string ⟨#[99, 97, 99, 104, 101, 45, 99, 111, 110, 116, 114, 111, 108]⟩, .string ⟨#[109, 97, 120, 45, 97, 103, 101, 61, 49]⟩] 51)).alloc (.cells #[.int .u8 103, .int .u8 111, .int .u8 110, .int .u8 101] 5 (4, 5))) := (hE0.alloc _).trans hX3
 have hRS : RS (fun i => i < w.heap.size + 1) ((w.alloc (.cells #[.string ⟨#[]⟩, .int .i64 0, .slice none 0 0, .slice none 0 0, .slice none 0 0] 36)).alloc (.cells #[.string ⟨#[99, 97, 99, 104, 101, 45, 99, 111, 110, 116, 114, 111, 108]⟩, .string ⟨#[109, 97, 120, 45, 97, 103, 101, 61, 49]⟩] 51)) 2 ⟨some ⟨w.heap.size + 1, 0, none⟩, 1, 1⟩ (fldCells brief) :=
  ⟨hRF, fun _ a ha hb => (by simp only [Option.some.injEq] at ha; subst ha; simp at hb), Nat.le_refl _⟩
 have hRB1 : RS (fun i => i < w.heap.size + 1) (((w.alloc (.cells #[.string ⟨#[]⟩, .int .i64 0, .slice none 0 0, .slice none 0 0, .slice none 0 0] 36)).alloc (.cells #[.string ⟨#[99, 97, 99, 104, 101, 45, 99, 111, 110, 116, 114, 111, 108]⟩, .string ⟨#[109, 97, 120, 45, 97, 103, 101, 61, 49]⟩] 51)).alloc (.cells #[.int .u8 103, .int .u8 111, .int .u8 110, .int .u8 101] 5 (4, 5))) 1 ⟨some ⟨w.heap.size + 2, 0, none⟩, 4, 4⟩ (bytC x_go) :=
  ⟨hRB.rd, fun _ a ha hb => (by simp only [Option.some.injEq] at ha; subst ha; simp at hb), Nat.le_refl _⟩
 have KX : Keeps (fun i => i = w.heap.size) (((w.alloc (.cells #[.string ⟨#[]⟩, .int .i64 0, .slice none 0 0, .slice none 0 0, .slice none 0 0] 36)).alloc (.cells #[.string ⟨#[99, 97, 99, 104, 101, 45, 99, 111, 110, 116, 114, 111, 108]⟩, .string ⟨#[109, 97, 120, 45, 97, 103, 101, 61, 49]⟩] 51)).alloc (.cells #[.int .u8 103, .int .u8 111, .int .u8 110, .int .u8 101] 5 (4, 5))) w9 := Keeps.grown (Keeps.refl _ _) hx9 (fun b hb => .inl (by injection hb with hb; exact hb.symm))
 refine ⟨⟨text, 404, brief, x_go, [], ⟨some ⟨w.heap.size + 1, 0, none⟩, 1, 1⟩, ⟨some ⟨w.heap.size + 2, 0, none⟩, 4, 4⟩, sl0⟩, rfl, rfl, ⟨?_, ?_, RS.nil _ _ _, fun x hx => by cases hx⟩, hE3.growB hx9 (Nat.le_refl _)⟩
 ·exact ((hRS.ext hX3).keep KX (fun i hi => .inl (by show i < _; omega))).sub (fun i hi => by show i < _; omega)
 ·exact (hRB1.keep KX (fun i hi => .inl (by show i < _; omega))).sub (fun i hi => by show i < _; omega)
theorem law_FieldsE (A B : Option Addr) (n c d : Nat) (fs : List Fd) (w : World) (hf : RdF w A n fs) (hg : RdF w B n fs) (hn : n ≤ 1000000000) :
  Calls Tryz.prog 32 #[.slice A n c, .slice B n d] w fun e w' => e = .returned (.bool true) ∧ Ext w w' := by
 have HF := zi hf; have HG := zi hg; have hl := hf.lenF
 have HL := zi hl
 clear hf hg hl
 go_enter Tryz.func32, Tryz.ntmps32
 go_wp2_with fail
 go_loopw [13] (fun i wr => ∃ k : Nat, k ≤ n ∧ i = .int .i64 (k : Nat) ∧ Ext w wr) (fun i _ => n - (intOf i).toNat)
 case atStart => exact ⟨0, Nat.zero_le _, rfl, Ext.refl _⟩
 case round =>
  obtain ⟨k, hk, rfl, hbr⟩ := hrel
  by_cases hlt : k < n
  ·have hkl : k < fs.length := by have := HL.out; omega
   obtain ⟨g1, o1, rfl, h1⟩ := HF.out.2 (by rw [fldCells_len]; omega)
   obtain ⟨g2, o2, rfl, h2⟩ := HG.out.2 (by rw [fldCells_len]; omega)
   have c0 := h1 _ _ (fldCells_at0 fs k hkl); have c1 := h1 _ _ (fldCells_at1 fs k hkl)
   have d0 := h2 _ _ (fldCells_at0 fs k hkl); have d1 := h2 _ _ (fldCells_at1 fs k hkl)
   clear h1 h2
   generalize fs[k] = q at *
   obtain ⟨q1, q2⟩ := q
   simp only at c0 c1 d0 d1
   have hE := hbr.drew
   have a0 := hbr.cell c0; have a1 : wr.cell? ⟨g1, o1 + k * 2 + 1, none⟩ = some (.string q2) := (by rw [Nat.add_assoc]; exact hbr.cell c1); have b0 := hbr.cell d0; have b1 : wr.cell? ⟨g2, o2 + k * 2 + 1, none⟩ = some (.string q2) := (by rw [Nat.add_assoc]; exact hbr.cell d1)
   have hkn : (k : Int) < n := by omega
   have hwk : IntKind.i64.wrap (k : Int) = (k : Int) := IntWalk.i64_in _ (by omega)
   have hw1 : IntKind.i64.wrap ((k : Int) + 1) = (k : Int) + 1 := IntWalk.i64_in _ (by omega)
   go_wp2_with fail
   go_region
   go_wp2_with fail
   first | go_roundw | refine ⟨?rel, ?measure⟩
   case rel => exact ⟨k + 1, by omega, by go_num, hE⟩
   case measure => simp [intOf]; omega
  ·obtain rfl : k = n := by omega
   go_wp2_with fail
   go_ret
   exact ⟨rfl, hbr⟩
theorem law_At (Q : Nat → Prop) (s : SM) (o : Org) (text : ByteArray) (t : Int) (w : World) (h : s.At Q w o) (hn : o.vs.length ≤ 1000000) :
  Calls Tryz.prog 38 #[.agg s.cells.toArray, .string text, .int .i64 t] w fun e w' => e = .returned (.int .i64 (findS o.vs text (cl55 t) : Nat)) ∧ Ext w w' := by
 have HS := zi h
 have HN := zi h.vn
 have HT := zi (fun w' => base_TimeO t w')
 obtain ⟨ct, hct⟩ : ∃ z, cl55 t = z := ⟨_, rfl⟩
 rw [hct] at HT
 rw [hct]
 have HR := zi (show findS o.vs text ct = findS (o.vs.take o.vs.length) text ct by rw [List.take_length])
 obtain ⟨R, hR⟩ : ∃ R, findS o.vs text ct = R := ⟨_, rfl⟩
 rw [hR]; rw [hR] at HR
 obtain ⟨n, hnn⟩ : ∃ n, o.vs.length = n := ⟨_, rfl⟩
 have Hn := zi hnn
 rw [hnn] at HR hn
 clear h hct hR hnn
 obtain ⟨⟨iA, im, ic⟩, ⟨bA, bn, bc⟩, ⟨lA, ln, lc⟩, mv, ks⟩ := s
 have hin : n = im := by have := HN.out.1; rw [Hn.out] at this; exact this.symm
 subst hin
 simp only [SM.cells, Sl.v]
 have HX := zi (Blk.new w 74 #[.slice iA n ic, .slice bA bn bc, .slice lA ln lc])
 have HW := zi ((Ext.refl w).alloc (.cells #[.slice iA n ic, .slice bA bn bc, .slice lA ln lc] 74))
 have x0 := HX.out.cell 0
 simp only [List.getElem?_toArray, List.getElem?_cons_zero] at x0
 go_enter Tryz.func38, Tryz.ntmps38
 go_wp2_with fail
 generalize w.alloc (.cells #[.slice iA n ic, .slice bA bn bc, .slice lA ln lc] 74) = W0 at *
 go_loopw [7, 12] (fun u i wr => ∃ k : Nat, k ≤ n ∧ u = .int .i64 (findS (o.vs.take k) text ct : Nat) ∧ i = .int .i64 (k : Nat) ∧ Ext W0 wr) (fun _ i _ => n - (intOf i).toNat)
 case atStart => exact ⟨0, Nat.zero_le _, by rw [List.take_zero]; rfl, rfl, Ext.refl _⟩
 case round =>
  obtain ⟨k, hk, rfl, rfl, hbr⟩ := hrel
  by_cases hlt : k < n
  ·have hkv : k < o.vs.length := by rw [Hn.out]; exact hlt
   have hkm : k < mv.length := by have h1 : mv.length = o.vs.length := HN.out.2; omega
   obtain ⟨g, i0, hA, hc⟩ := HS.out.item hkm
   simp only at hA hc
   subst hA
   have hvk : o.vs[k] = (mv[k].1, mv[k].2.ver) := by
    have h1 : (mv.map (fun x => (x.1, x.2.ver)))[k]? = o.vs[k]? := congrArg (·[k]?) HS.out.ver
    rw [List.getElem?_map, List.getElem?_eq_getElem hkm, List.getElem?_eq_getElem hkv] at h1
    simp only [Option.map_some, Option.some.injEq] at h1
    exact h1.symm
   have hst : findS (o.vs.take (k + 1)) text ct = if hitS (mv[k].1, mv[k].2.ver) text ct then k + 1 else findS (o.vs.take k) text ct := by
    rw [take_step o.vs k hkv, find_app, hvk, List.length_take, Nat.min_eq_left (by omega)]
   have hl := fnd_le (o.vs.take k) text ct
   rw [List.length_take, Nat.min_eq_left (by omega)] at hl
   have Hst := zi hst; have Hl := zi hl
   have HC := zi hc
   clear hvk hc hst hkv
   generalize mv[k] = x at *
   clear hkm
   obtain ⟨at_, m⟩ := x
   have hX := HW.out.trans hbr
   have c0 : wr.cell? ⟨g, i0 + k * 6, none⟩ = some (.int .i64 at_) := by have h1 := hX.cell (HC.out 0 _ rfl); rwa [Nat.add_zero] at h1
   have c1 : wr.cell? ⟨g, i0 + k * 6 + 1, none⟩ = some (.string m.addr) := by have h1 := hX.cell (HC.out 1 _ rfl); rwa [← Nat.add_assoc] at h1
   have x0 := (HX.out.ext hbr).cell 0
   simp only [List.getElem?_toArray, List.getElem?_cons_zero] at x0
   have hkn : (k : Int) < n := by omega
   have hwk : IntKind.i64.wrap (k : Int) = (k : Int) := IntWalk.i64_in _ (by omega)
   have hw1 : IntKind.i64.wrap ((k : Int) + 1) = (k : Int) + 1 := IntWalk.i64_in _ (by omega)
   go_wp2_with fail
   have hE := hbr.drew
   have HQ := zi (⟨x0, c0, c1⟩ : wr.cell? ⟨w.heap.size, 0, none⟩ = some (.slice (some ⟨g, i0, none⟩) n ic) ∧ wr.cell? ⟨g, i0 + k * 6, none⟩ = some (.int .i64 at_) ∧ wr.cell? ⟨g, i0 + k * 6 + 1, none⟩ = some (.string m.addr))
   clear x0 c0 c1
   have Hk1 := zi (show findS (o.vs.take k) text ct ≤ k from Hl.out)
   by_cases ht : at_ ≤ ct
   ·by_cases ha : m.addr = text
    ·have hq : (m.addr.toList == text.toList) = true := eqS_iff.2 ha
     have HV := zi (show findS (o.vs.take (k + 1)) text ct = k + 1 by rw [Hst.out, if_pos (by unfold hitS; rw [beqB]; simp only [ht, decide_true, Bool.and_true, decide_eq_true_eq]; exact ha)])
     clear ha
     refine wp_region_held_drew (S := (fun w' => w'.cell? ⟨w.heap.size, 0, none⟩ = some (.slice (some ⟨g, i0, none⟩) n ic) ∧ w'.cell? ⟨g, i0 + k * 6, none⟩ = some (.int .i64 at_) ∧ w'.cell? ⟨g, i0 + k * 6 + 1, none⟩ = some (.string m.addr))) (by kernel_rfl) ?_ (fun hHeld => ?_)
     ·(try dsimp only); exact HQ.out
     refine zH (v := ?_) 0 (some 15) rfl ?_ ?_; rotate_left
     ·(intro w hSw; (try dsimp only at hSw); go_simp; (try with_reducible rfl))
     try simp only [zP]
     refine zH (v := ?_) 1 (some 16) rfl ?_ ?_; rotate_left
     ·(intro w hSw; (try dsimp only at hSw); go_simp; (try with_reducible rfl))
     try simp only [zP]
     refine zH (v := ?_) 2 (some 17) rfl ?_ ?_; rotate_left
     ·(intro w hSw; (try dsimp only at hSw); go_simp; (try with_reducible rfl))
     try simp only [zP]
     refine zH (v := ?_) 3 (some 18) rfl ?_ ?_; rotate_left
     ·(intro w hSw; (try dsimp only at hSw); go_simp; (try with_reducible rfl))
     try simp only [zP]
     refine zH (v := ?_) 4 (some 19) rfl ?_ ?_; rotate_left
     ·(intro w hSw; (try dsimp only at hSw); go_simp; (try with_reducible rfl))
     try simp only [zP]
     refine zH (v := ?_) 5 (some 20) rfl ?_ ?_; rotate_left
     ·(intro w hSw; (try dsimp only at hSw); go_simp; (try with_reducible rfl))
     try simp only [zP]
     refine zH (v := ?_) 6 (some 21) rfl ?_ ?_; rotate_left
     ·(intro w hSw; (try dsimp only at hSw); go_simp; (try with_reducible rfl))
     try simp only [zP]
     refine wpAnyH_ready (rs := [7]) (by kernel_rfl) (by simp) ?_
     refine AllReadyH.cons (o := ⟨some 22, _, _, _, _, _⟩) rfl (fun K hK => ?_) AllReadyH.nil
     go_simp
     refine (HT.out _).mono ?_; rintro e w5 ⟨rfl, hw5⟩; have hw5 := hw5.symm; subst hw5
     try go_wp2_with fail
     refine hK.out _ _ ?_ (fun hHeld => ?_)
     ·(try dsimp only); exact HQ.out
     clear hK K
     try simp only [zP]
     refine zH (v := ?_) 8 (some 23) rfl ?_ ?_; rotate_left
     ·(intro w hSw; (try dsimp only at hSw); go_simp; (try with_reducible rfl))
     try simp only [zP]
     refine zH (v := ?_) 9 (some 24) rfl ?_ ?_; rotate_left
     ·(intro w hSw; (try dsimp only at hSw); go_simp; (try with_reducible rfl))
     try simp only [zP]
     refine zH (v := ?_) 10 (some 25) rfl ?_ ?_; rotate_left
     ·(intro w hSw; (try dsimp only at hSw); go_simp; (try with_reducible rfl))
     try simp only [zP]
     refine zH (v := ?_) 11 (some 26) rfl ?_ ?_; rotate_left
     ·(intro w hSw; (try dsimp only at hSw); go_simp; (try with_reducible rfl))
     try simp only [zP]
     refine zH (v := ?_) 12 (some 27) rfl ?_ ?_; rotate_left
     ·(intro w hSw; (try dsimp only at hSw); go_simp; (try with_reducible rfl))
     try simp only [zP]
     refine zH (v := ?_) 13 (some 28) rfl ?_ ?_; rotate_left
     ·(intro w hSw; (try dsimp only at hSw); go_simp; (try with_reducible rfl))
     try simp only [zP]
     refine zH (v := ?_) 14 (some 29) rfl ?_ ?_; rotate_left
     ·(intro w hSw; (try dsimp only at hSw); go_simp; (try with_reducible rfl))
     try simp only [zP]
     refine zH (v := ?_) 15 (some 30) rfl ?_ ?_; rotate_left
     ·(intro w hSw; (try dsimp only at hSw); go_simp; (try with_reducible rfl))
     try simp only [zP]
     refine zH (v := ?_) 16 (some 31) rfl ?_ ?_; rotate_left
     ·(intro w hSw; (try dsimp only at hSw); go_simp; (try with_reducible rfl))
     try simp only [zP]
     refine zH (v := ?_) 17 (some 32) rfl ?_ ?_; rotate_left
     ·(intro w hSw; (try dsimp only at hSw); go_simp; (try with_reducible rfl))
     try simp only [zP]
     refine zH (v := ?_) 18 (some 33) rfl ?_ ?_; rotate_left
     ·(intro w hSw; (try dsimp only at hSw); go_simp; (try with_reducible rfl))
     try simp only [zP]
     refine zH (v := ?_) 19 (some 34) rfl ?_ ?_; rotate_left
     ·(intro w hSw; (try dsimp only at hSw); go_simp; (try with_reducible rfl))
     try simp only [zP]
     refine wpAnyH_done (by kernel_rfl) ?_ _
     go_wp2_with fail
     first | go_roundw | refine ⟨?rel, ?measure⟩
     case rel => exact ⟨k + 1, by omega, by rw [HV.out]; rfl, by go_num, hE⟩
     case measure => simp [intOf]; omega
    ·have hq : (m.addr.toList == text.toList) = false := (by rw [Bool.eq_false_iff]; exact fun h => ha (eqS_iff.1 h))
     have HV := zi (show findS (o.vs.take (k + 1)) text ct = findS (o.vs.take k) text ct by rw [Hst.out, if_neg (by unfold hitS; rw [beqB]; simp only [ht, decide_true, Bool.and_true, decide_eq_true_eq]; exact ha)])
     clear ha
     refine wp_region_held_drew (S := (fun w' => w'.cell? ⟨w.heap.size, 0, none⟩ = some (.slice (some ⟨g, i0, none⟩) n ic) ∧ w'.cell? ⟨g, i0 + k * 6, none⟩ = some (.int .i64 at_) ∧ w'.cell? ⟨g, i0 + k * 6 + 1, none⟩ = some (.string m.addr))) (by kernel_rfl) ?_ (fun hHeld => ?_)
     ·(try dsimp only); exact HQ.out
     refine zH (v := ?_) 0 (some 15) rfl ?_ ?_; rotate_left
     ·(intro w hSw; (try dsimp only at hSw); go_simp; (try with_reducible rfl))
     try simp only [zP]
     refine zH (v := ?_) 1 (some 16) rfl ?_ ?_; rotate_left
     ·(intro w hSw; (try dsimp only at hSw); go_simp; (try with_reducible rfl))
     try simp only [zP]
     refine zH (v := ?_) 2 (some 17) rfl ?_ ?_; rotate_left
     ·(intro w hSw; (try dsimp only at hSw); go_simp; (try with_reducible rfl))
     try simp only [zP]
     refine zH (v := ?_) 3 (some 18) rfl ?_ ?_; rotate_left
     ·(intro w hSw; (try dsimp only at hSw); go_simp; (try with_reducible rfl))
     try simp only [zP]
     refine zH (v := ?_) 4 (some 19) rfl ?_ ?_; rotate_left
     ·(intro w hSw; (try dsimp only at hSw); go_simp; (try with_reducible rfl))
     try simp only [zP]
     refine zH (v := ?_) 5 (some 20) rfl ?_ ?_; rotate_left
     ·(intro w hSw; (try dsimp only at hSw); go_simp; (try with_reducible rfl))
     try simp only [zP]
     refine zH (v := ?_) 6 (some 21) rfl ?_ ?_; rotate_left
     ·(intro w hSw; (try dsimp only at hSw); go_simp; (try with_reducible rfl))
     try simp only [zP]
     refine wpAnyH_ready (rs := [7]) (by kernel_rfl) (by simp) ?_
     refine AllReadyH.cons (o := ⟨some 22, _, _, _, _, _⟩) rfl (fun K hK => ?_) AllReadyH.nil
     go_simp
     refine (HT.out _).mono ?_; rintro e w5 ⟨rfl, hw5⟩; have hw5 := hw5.symm; subst hw5
     try go_wp2_with fail
     refine hK.out _ _ ?_ (fun hHeld => ?_)
     ·(try dsimp only); exact HQ.out
     clear hK K
     try simp only [zP]
     refine zH (v := ?_) 8 (some 23) rfl ?_ ?_; rotate_left
     ·(intro w hSw; (try dsimp only at hSw); go_simp; (try with_reducible rfl))
     try simp only [zP]
     refine zH (v := ?_) 9 (some 24) rfl ?_ ?_; rotate_left
     ·(intro w hSw; (try dsimp only at hSw); go_simp; (try with_reducible rfl))
     try simp only [zP]
     refine zH (v := ?_) 10 (some 25) rfl ?_ ?_; rotate_left
     ·(intro w hSw; (try dsimp only at hSw); go_simp; (try with_reducible rfl))
     try simp only [zP]
     refine zH (v := ?_) 11 (some 26) rfl ?_ ?_; rotate_left
     ·(intro w hSw; (try dsimp only at hSw); go_simp; (try with_reducible rfl))
     try simp only [zP]
     refine zH (v := ?_) 12 (some 27) rfl ?_ ?_; rotate_left
     ·(intro w hSw; (try dsimp only at hSw); go_simp; (try with_reducible rfl))
     try simp only [zP]
     refine zH (v := ?_) 13 (some 28) rfl ?_ ?_; rotate_left
     ·(intro w hSw; (try dsimp only at hSw); go_simp; (try with_reducible rfl))
     try simp only [zP]
     refine zH (v := ?_) 14 (some 29) rfl ?_ ?_; rotate_left
     ·(intro w hSw; (try dsimp only at hSw); go_simp; (try with_reducible rfl))
     try simp only [zP]
     refine zH (v := ?_) 15 (some 30) rfl ?_ ?_; rotate_left
     ·(intro w hSw; (try dsimp only at hSw); go_simp; (try with_reducible rfl))
     try simp only [zP]
     refine zH (v := ?_) 16 (some 31) rfl ?_ ?_; rotate_left
     ·(intro w hSw; (try dsimp only at hSw); go_simp; (try with_reducible rfl))
     try simp only [zP]
     refine zH (v := ?_) 17 (some 32) rfl ?_ ?_; rotate_left
     ·(intro w hSw; (try dsimp only at hSw); go_simp; (try with_reducible rfl))
     try simp only [zP]
     refine zH (v := ?_) 18 (some 33) rfl ?_ ?_; rotate_left
     ·(intro w hSw; (try dsimp only at hSw); go_simp; (try with_reducible rfl))
     try simp only [zP]
     refine zH (v := ?_) 19 (some 34) rfl ?_ ?_; rotate_left
     ·(intro w hSw; (try dsimp only at hSw); go_simp; (try with_reducible rfl))
     try simp only [zP]
     refine wpAnyH_done (by kernel_rfl) ?_ _
     go_wp2_with fail
     first | go_roundw | refine ⟨?rel, ?measure⟩
     case rel => exact ⟨k + 1, by omega, by rw [HV.out], by go_num, hE⟩
     case measure => simp [intOf]; omega
   ·have HV := zi (show findS (o.vs.take (k + 1)) text ct = findS (o.vs.take k) text ct by rw [Hst.out, if_neg (by unfold hitS; simp [ht])])
    have ht3 : decide (at_ ≤ ct) = false := decide_eq_false ht
    refine wp_region_held_drew (S := (fun w' => w'.cell? ⟨w.heap.size, 0, none⟩ = some (.slice (some ⟨g, i0, none⟩) n ic) ∧ w'.cell? ⟨g, i0 + k * 6, none⟩ = some (.int .i64 at_) ∧ w'.cell? ⟨g, i0 + k * 6 + 1, none⟩ = some (.string m.addr))) (by kernel_rfl) ?_ (fun hHeld => ?_)
    ·(try dsimp only); exact HQ.out
    refine zH (v := ?_) 0 (some 15) rfl ?_ ?_; rotate_left
    ·(intro w hSw; (try dsimp only at hSw); go_simp; (try with_reducible rfl))
    try simp only [zP]
    refine zH (v := ?_) 1 (some 16) rfl ?_ ?_; rotate_left
    ·(intro w hSw; (try dsimp only at hSw); go_simp; (try with_reducible rfl))
    try simp only [zP]
    refine zH (v := ?_) 2 (some 17) rfl ?_ ?_; rotate_left
    ·(intro w hSw; (try dsimp only at hSw); go_simp; (try with_reducible rfl))
    try simp only [zP]
    refine zH (v := ?_) 3 (some 18) rfl ?_ ?_; rotate_left
    ·(intro w hSw; (try dsimp only at hSw); go_simp; (try with_reducible rfl))
    try simp only [zP]
    refine zH (v := ?_) 4 (some 19) rfl ?_ ?_; rotate_left
    ·(intro w hSw; (try dsimp only at hSw); go_simp; (try with_reducible rfl))
    try simp only [zP]
    refine zH (v := ?_) 5 (some 20) rfl ?_ ?_; rotate_left
    ·(intro w hSw; (try dsimp only at hSw); go_simp; (try with_reducible rfl))
    try simp only [zP]
    refine zH (v := ?_) 6 (some 21) rfl ?_ ?_; rotate_left
    ·(intro w hSw; (try dsimp only at hSw); go_simp; (try with_reducible rfl))
    try simp only [zP]
    refine wpAnyH_ready (rs := [7]) (by kernel_rfl) (by simp) ?_
    refine AllReadyH.cons (o := ⟨some 22, _, _, _, _, _⟩) rfl (fun K hK => ?_) AllReadyH.nil
    go_simp
    refine (HT.out _).mono ?_; rintro e w5 ⟨rfl, hw5⟩; have hw5 := hw5.symm; subst hw5
    try go_wp2_with fail
    refine hK.out _ _ ?_ (fun hHeld => ?_)
    ·(try dsimp only); exact HQ.out
    clear hK K
    try simp only [zP]
    refine zH (v := ?_) 8 (some 23) rfl ?_ ?_; rotate_left
    ·(intro w hSw; (try dsimp only at hSw); go_simp; (try with_reducible rfl))
    try simp only [zP]
    refine zH (v := ?_) 9 (some 24) rfl ?_ ?_; rotate_left
    ·(intro w hSw; (try dsimp only at hSw); go_simp; (try with_reducible rfl))
    try simp only [zP]
    refine wpAnyH_take (i := 10) (oi := ⟨some 25, _, _, _, _, _⟩) (v := undef) rfl (by kernel_rfl) (by kernel_rfl) (by kernel_rfl) (fun _ _ _ h => h) (Or.inr ⟨by rfl, rfl⟩) (by assumption) ?_
    try simp only [zP]
    refine wpAnyH_take (i := 11) (oi := ⟨some 26, _, _, _, _, _⟩) (v := undef) rfl (by kernel_rfl) (by kernel_rfl) (by kernel_rfl) (fun _ _ _ h => h) (Or.inr ⟨by rfl, rfl⟩) (by assumption) ?_
    try simp only [zP]
    refine wpAnyH_take (i := 12) (oi := ⟨some 27, _, _, _, _, _⟩) (v := undef) rfl (by kernel_rfl) (by kernel_rfl) (by kernel_rfl) (fun _ _ _ h => h) (Or.inr ⟨by rfl, rfl⟩) (by assumption) ?_
    try simp only [zP]
    refine wpAnyH_take (i := 13) (oi := ⟨some 28, _, _, _, _, _⟩) (v := undef) rfl (by kernel_rfl) (by kernel_rfl) (by kernel_rfl) (fun _ _ _ h => h) (Or.inr ⟨by rfl, rfl⟩) (by assumption) ?_
    try simp only [zP]
    refine wpAnyH_take (i := 14) (oi := ⟨some 29, _, _, _, _, _⟩) (v := undef) rfl (by kernel_rfl) (by kernel_rfl) (by kernel_rfl) (fun _ _ _ h => h) (Or.inr ⟨by rfl, rfl⟩) (by assumption) ?_
    try simp only [zP]
    refine wpAnyH_take (i := 15) (oi := ⟨some 30, _, _, _, _, _⟩) (v := undef) rfl (by kernel_rfl) (by kernel_rfl) (by kernel_rfl) (fun _ _ _ h => h) (Or.inr ⟨by rfl, rfl⟩) (by assumption) ?_
    try simp only [zP]
    refine wpAnyH_take (i := 16) (oi := ⟨some 31, _, _, _, _, _⟩) (v := undef) rfl (by kernel_rfl) (by kernel_rfl) (by kernel_rfl) (fun _ _ _ h => h) (Or.inr ⟨by rfl, rfl⟩) (by assumption) ?_
    try simp only [zP]
    refine wpAnyH_take (i := 17) (oi := ⟨some 32, _, _, _, _, _⟩) (v := undef) rfl (by kernel_rfl) (by kernel_rfl) (by kernel_rfl) (fun _ _ _ h => h) (Or.inr ⟨by rfl, rfl⟩) (by assumption) ?_
    try simp only [zP]
    refine wpAnyH_take (i := 18) (oi := ⟨some 33, _, _, _, _, _⟩) (v := undef) rfl (by kernel_rfl) (by kernel_rfl) (by kernel_rfl) (fun _ _ _ h => h) (Or.inr ⟨by rfl, rfl⟩) (by assumption) ?_
    try simp only [zP]
    refine zH (v := ?_) 19 (some 34) rfl ?_ ?_; rotate_left
    ·(intro w hSw; (try dsimp only at hSw); go_simp; (try with_reducible rfl))
    try simp only [zP]
    refine wpAnyH_done (by kernel_rfl) ?_ _
    go_wp2_with fail
    first | go_roundw | refine ⟨?rel, ?measure⟩
    case rel => exact ⟨k + 1, by omega, by rw [HV.out], by go_num, hE⟩
    case measure => simp [intOf]; omega
  ·obtain rfl : k = n := by omega
   have HV := HR.out
   clear HR
   go_wp2_with fail
   go_ret
   exact ⟨by rw [HV]; rfl, HW.out.trans hbr⟩
end Go.Proofs.YtmckbcbdnckngaaGreatDoor

namespace Go.Proofs.YtmckbcbdnckngaaGreatDoor
open Go.RowKit

theorem infoStM : (Tryz.prog.info? 74).map (·.size) = some 3 := by kernel_rfl
theorem infoIt : (Tryz.prog.info? 95).map (fun i => (i.zero, i.size, i.bytes)) = some (some (.agg #[.int .i64 0, .string ⟨#[]⟩, .int .i64 0, .slice none 0 0, .slice none 0 0, .slice none 0 0]), 6, 104) := by kernel_rfl
theorem pub_cd {o : Org} {t : Int} {v : Ver} (h : cdS o.vs.length v ≠ 0) : pubS o t v = (0, cdS o.vs.length v, o) := by
 unfold cdS at h ⊢
 unfold pubS
 split
 ·rfl
 ·rename_i h1
  rw [if_neg h1] at h
  split
  ·rfl
  ·rename_i h2; rw [if_neg h2] at h; exact absurd rfl h
theorem pub_or {o : Org} {t : Int} {v : Ver} {p : Int × Ver} (h : cdS o.vs.length v = 0) (h4 : o.vs.getLast? = some p) (h5 : cl55 t < p.1) : pubS o t v = (0, 7, o) := by
 unfold cdS at h
 unfold pubS
 split
 ·rename_i h1; rw [if_pos h1] at h; cases h
 ·rename_i h1
  rw [if_neg h1] at h
  split
  ·rename_i h2; rw [if_pos h2] at h; cases h
  ·rw [h4]; simp only; rw [if_pos h5]
theorem pub_go {o : Org} {t : Int} {v : Ver} (h : cdS o.vs.length v = 0) (h4 : ∀ p, o.vs.getLast? = some p → ¬ cl55 t < p.1) : pubS o t v = (((o.vs.length + 1 : Nat) : Int), 0, { o with vs := o.vs ++ [(cl55 t, v)] }) := by
 unfold cdS at h
 unfold pubS
 split
 ·rename_i h1; rw [if_pos h1] at h; cases h
 ·rename_i h1
  rw [if_neg h1] at h
  split
  ·rename_i h2; rw [if_pos h2] at h; cases h
  ·cases h6 : o.vs.getLast? with
   | none => rfl
   | some p => simp only; rw [if_neg (h4 p h6)]; rfl
theorem step_appG {P : Program} (w : World) {ops : Array Oper} {o : Oper} {a : Act} {K : Act → World → Prop} {Q : Exit → Act → World → Prop} {E : Prop} (hgd : o.guard = none) (s x : Operand) (t : TypeId)
  (ho : o.op = .call { callee := .builtin .append, args := #[s, x], argTypes := #[t, t] })
  (w0 : World) (e : TypeId) (z : Value) (size bytes : Nat) (ht : P.underlying t = some (.slice e))
  (hinfo : (P.info? e).map (fun i => (i.zero, i.size, i.bytes)) = some (some z, size, bytes)) (hzs : z.cells.size = size) (hsz : 0 < size)
  (v : Value) (n : Nat) (xs : List Value) (hs : a.eval s = v) (hown : w.ownsRow w0.heap.size e size v n xs)
  (A : Option Addr) (m c : Nat) (news : List Value) (hx : a.eval x = .slice A m c) (hr : Rd w size A m news) (h1 : ∀ u ∈ news, u.oneCell' = true)
  (hb : Ext w0 w) (hbytes : (n + m) * bytes ≤ 140737488355328) (hby0 : 0 < bytes)
  (h : ∀ A' c' w', w'.ownsRow w0.heap.size e size (.slice A' (n + m) c') (n + m) (xs ++ news) → Ext w0 w' → n + m ≤ c' → w.grownBy w' v.ownBlock → K (a.put o.dst (.slice A' (n + m) c')) w') :
  if Region.wanted o (yielded ops a.tmps) = true then Oper.wp P o a w K Q else E := by
 rw [if_pos (by simp [Region.wanted, hgd])]
 have h63 : n + m ≤ maxLen := by
  have : (n + m) * 1 ≤ (n + m) * bytes := Nat.mul_le_mul_left _ hby0
  simp only [maxLen]; omega
 obtain ⟨v', w', hrun, h2, h3⟩ := run_app (P := P) w w0.heap.size t o.type e z size bytes ht hinfo hzs hsz v n xs hown A m c news hr h1 h63 hbytes hb.size
 obtain ⟨A', c', rfl, hle⟩ := own_shape h2
 unfold Oper.wp execOp
 simp only [ho, resolve, invoke, builtin, Sem.run_bind, Sem.run_pure, Result.andThen_ok, List.map_toArray, List.map_cons, List.map_nil, hs, hx, hrun]
 exact h A' c' w' h2 (hb.grown h3 (fun k hk => (hown.lt k hk).1)) hle h3
theorem rd_lit55 {w0 w : World} (_ : Ext w0 w) (cs : Array Value) (e : TypeId) (k : Nat) (h : cs.size = 1 * k) : Rd (w.alloc (.cells cs e)) k (some ⟨w.heap.size, 0, none⟩) 1 cs.toList := Rd.lit w cs e rfl k 1 h
theorem own_made55 {w0 w : World} {e : TypeId} {k : Nat} (h : Ext w0 w) : (w.alloc (.cells #[] e)).ownsRow w0.heap.size e k (.slice (some ⟨w.heap.size, 0, none⟩) 0 0) 0 [] :=
 own_base (World.ownsRow_made w #[] 0 (Nat.le_refl _) (by simp [maxLen]) (by simp)) h.size
theorem SM.At.sub {Q Q' : Nat → Prop} {w : World} {s : SM} {o : Org} (h : s.At Q w o) (hq : ∀ i, Q' i → Q i) : s.At Q' w o := h.more (fun i hi => .inl (hq i hi))
theorem law_Publish (Q Qm : Nat → Prop) (s : SM) (o : Org) (t : Int) (m : MV) (w : World) (h : s.At Q w o) (hm : m.At Qm w) (hn : o.vs.length ≤ 1000000) (hz : SzV m.ver) (ha : m.addr.size ≤ 1048000) (hg : Gl w) :
  Calls Tryz.prog 63 #[.agg s.cells.toArray, .int .i64 t, .agg m.cells.toArray] w fun e w' => ∃ s' : SM, e = .returned (.tuple #[.agg s'.cells.toArray, .int .i64 (pubS o t m.ver).1, .int .i64 ((pubS o t m.ver).2.1 : Nat)]) ∧
   s'.br = s.br ∧ s'.At (fun i => (Q i ∧ Qm i) ∧ i < w.heap.size) w' (pubS o t m.ver).2.2 ∧ Ext w w' := by
 have HS := zi h
 have HM := zi hm
 have HN := zi h.vn
 have HT := zi (fun w' => base_TimeO t w')
 obtain ⟨q1, q2, q3, q4, q5, q6⟩ := hz
 have HCd := zi (fun (iA : Option Addr) (n ic : Nat) (sb sl : Value) w' (hb : Ext w w') (hn : n ≤ 1000000000) => law_Code Qm m iA n ic sb sl w' (hm.ext hb) hn ha (by have h1 : m.f.length ≤ 131072 := q2; omega) (by have h1 : sumF m.f ≤ 131072 := q3; omega) q4 (by have h1 : (m.vars.map (·.1)).length ≤ 1048576 := q5; rw [List.length_map] at h1; exact h1) (fun y hy => by have h1 := q6 y.1 (List.mem_map.2 ⟨y, hy, rfl⟩); exact ⟨h1.1, h1.2.1, h1.2.2.2⟩) (hg.ext hb))
 have Hcd := zi (@pub_cd o t m.ver); have Hor := zi (fun p => @pub_or o t m.ver p); have Hgo := zi (@pub_go o t m.ver)
 have HMc := zi (show m.cells.toArray = #[.string m.addr, .int .i64 m.status, .slice m.fs.A m.fs.n m.fs.c, .slice m.bd.A m.bd.n m.bd.c, .slice m.vr.A m.vr.n m.vr.c] from rfl)
 obtain ⟨ct, hct⟩ : ∃ z, cl55 t = z := ⟨_, rfl⟩
 rw [hct] at HT Hor Hgo
 obtain ⟨n, hnn⟩ : ∃ n, o.vs.length = n := ⟨_, rfl⟩
 have Hn := zi hnn
 rw [hnn] at Hcd Hor Hgo hn
 obtain ⟨PR, hPR⟩ : ∃ PR, pubS o t m.ver = PR := ⟨_, rfl⟩
 rw [hPR] at Hcd Hor Hgo
 rw [hPR]
 obtain ⟨CD, hCD⟩ : ∃ C, cdS n m.ver = C := ⟨_, rfl⟩
 rw [hCD] at Hcd Hor Hgo
 have HCd := zi (fun (iA : Option Addr) (ic : Nat) (sb sl : Value) w' (hb : Ext w w') => (by have h1 := HCd.out iA n ic sb sl w' hb (by omega); rw [hCD, HMc.out] at h1; exact h1 : Calls Tryz.prog 25 #[.agg #[.slice iA n ic, sb, sl], .agg #[.string m.addr, .int .i64 m.status, .slice m.fs.A m.fs.n m.fs.c, .slice m.bd.A m.bd.n m.bd.c, .slice m.vr.A m.vr.n m.vr.c]] w' fun e w'' => e = .returned (.int .i64 (CD : Nat)) ∧ Ext w' w''))
 clear h hm hct hnn hPR hCD q1 q2 q3 q4 q5 q6 ha hg
 obtain ⟨⟨iA, im, ic⟩, ⟨bA, bn, bc⟩, ⟨lA, ln, lc⟩, mv, ks⟩ := s
 have hin : n = im := by have h1 := HN.out.1; rw [Hn.out] at h1; exact h1.symm
 subst hin
 rw [HMc.out]
 simp only [SM.cells, Sl.v]
 have HB0 := zi (((Blk.new w 74 #[.slice iA n ic, .slice bA bn bc, .slice lA ln lc]).alloc (.cells #[.string m.addr, .int .i64 m.status, .slice m.fs.A m.fs.n m.fs.c, .slice m.bd.A m.bd.n m.bd.c, .slice m.vr.A m.vr.n m.vr.c] 36)).alloc (.cells #[.slice none 0 0, .slice none 0 0, .slice none 0 0] 74))
 have HW := zi ((((Ext.refl w).alloc (.cells #[.slice iA n ic, .slice bA bn bc, .slice lA ln lc] 74)).alloc (.cells #[.string m.addr, .int .i64 m.status, .slice m.fs.A m.fs.n m.fs.c, .slice m.bd.A m.bd.n m.bd.c, .slice m.vr.A m.vr.n m.vr.c] 36)).alloc (.cells #[.slice none 0 0, .slice none 0 0, .slice none 0 0] 74))
 have hB1 := (Blk.new (w.alloc (.cells #[.slice iA n ic, .slice bA bn bc, .slice lA ln lc] 74)) 36 #[.string m.addr, .int .i64 m.status, .slice m.fs.A m.fs.n m.fs.c, .slice m.bd.A m.bd.n m.bd.c, .slice m.vr.A m.vr.n m.vr.c]).alloc (.cells #[.slice none 0 0, .slice none 0 0, .slice none 0 0] 74)
 rw [show (w.alloc (.cells #[.slice iA n ic, .slice bA bn bc, .slice lA ln lc] 74)).heap.size = w.heap.size + 1 by simp] at hB1
 have HB1 := zi hB1
 have hB2 := Blk.new ((w.alloc (.cells #[.slice iA n ic, .slice bA bn bc, .slice lA ln lc] 74)).alloc (.cells #[.string m.addr, .int .i64 m.status, .slice m.fs.A m.fs.n m.fs.c, .slice m.bd.A m.bd.n m.bd.c, .slice m.vr.A m.vr.n m.vr.c] 36)) 74 #[.slice none 0 0, .slice none 0 0, .slice none 0 0]
 rw [show ((w.alloc (.cells #[.slice iA n ic, .slice bA bn bc, .slice lA ln lc] 74)).alloc (.cells #[.string m.addr, .int .i64 m.status, .slice m.fs.A m.fs.n m.fs.c, .slice m.bd.A m.bd.n m.bd.c, .slice m.vr.A m.vr.n m.vr.c] 36)).heap.size = w.heap.size + 2 by simp] at hB2
 have HB2 := zi hB2
 clear hB1 hB2
 go_enter Tryz.func63, Tryz.ntmps63
 go_wp2_with fail
 generalize (((w.alloc (.cells #[.slice iA n ic, .slice bA bn bc, .slice lA ln lc] 74)).alloc (.cells #[.string m.addr, .int .i64 m.status, .slice m.fs.A m.fs.n m.fs.c, .slice m.bd.A m.bd.n m.bd.c, .slice m.vr.A m.vr.n m.vr.c] 36)).alloc (.cells #[.slice none 0 0, .slice none 0 0, .slice none 0 0] 74)) = W0 at *
 refine (HT.out _).mono ?_; rintro e w1 ⟨rfl, hw1⟩; have hw1 := hw1.symm; subst hw1
 go_wp2_with (first | (refine wpList_loadB rfl 74 (.tmp 3) rfl w.heap.size rfl 74 _ HB0.out _ Tryz.underlying74 infoStM ?_) | (refine wpList_loadB rfl 36 (.tmp 5) rfl (w.heap.size + 1) rfl 36 _ HB1.out _ Tryz.underlying36 infoVe ?_))
 refine (HCd.out _ _ _ _ _ HW.out).mono ?_; rintro e w2 ⟨rfl, hb2⟩
 have hE := HW.out.trans hb2
 have HB0 := zi (HB0.out.ext hb2); have HB1 := zi (HB1.out.ext hb2); have HB2 := zi (HB2.out.ext hb2)
 by_cases hC : CD = 0
 ·subst hC
  have x0 := HB0.out.cell 0
  simp only [List.getElem?_toArray, List.getElem?_cons_zero] at x0
  rcases Nat.eq_zero_or_pos n with hn0 | hn0
  ·subst hn0
   have hv0 : o.vs = [] := List.eq_nil_of_length_eq_zero Hn.out
   have Hpr := zi (Hgo.out rfl (fun q hq => by rw [hv0] at hq; cases hq))
   go_wp2_with fail
   have HIt := zi (show Rd w2 6 iA 0 (mv.flatMap pubC) from (HS.out.its.rd.ext hE))
   have HC8 := zi (fun w' (h : Ext w2 w') => (⟨(HB0.out.ext h).cell 0, (HB1.out.ext h).cell 0, (HB1.out.ext h).cell 1, (HB1.out.ext h).cell 2, (HB1.out.ext h).cell 3, (HB1.out.ext h).cell 4⟩ : w'.cell? ⟨w.heap.size, 0, none⟩ = some (.slice iA 0 ic) ∧ w'.cell? ⟨w.heap.size + 1, 0, none⟩ = some (.string m.addr) ∧ w'.cell? ⟨w.heap.size + 1, 1, none⟩ = some (.int .i64 m.status) ∧ w'.cell? ⟨w.heap.size + 1, 2, none⟩ = some (.slice m.fs.A m.fs.n m.fs.c) ∧ w'.cell? ⟨w.heap.size + 1, 3, none⟩ = some (.slice m.bd.A m.bd.n m.bd.c) ∧ w'.cell? ⟨w.heap.size + 1, 4, none⟩ = some (.slice m.vr.A m.vr.n m.vr.c)))
   go_cut [3] (fun v wx => v = .pointer (some ⟨w.heap.size, 0, none⟩) ∧ ∃ A9 c9, RS (fun i => i < w2.heap.size) wx 6 ⟨A9, (0 + 1), c9⟩ (mv.flatMap pubC ++ pubC (ct, m)) ∧ Blk wx w.heap.size 74 #[.slice A9 (0 + 1) c9, .slice bA bn bc, .slice lA ln lc] ∧ Blk wx (w.heap.size + 2) 74 #[.slice none 0 0, .slice none 0 0, .slice none 0 0] ∧ Ext w wx)
   case first =>
    rename_i J0 K0 hJ0 hK0
    have hL := (Ext.refl w2).drew
    refine wp_region_U (S := (fun w' => w'.cell? ⟨w.heap.size, 0, none⟩ = some (.slice iA 0 ic) ∧ w'.cell? ⟨w.heap.size + 1, 0, none⟩ = some (.string m.addr) ∧ w'.cell? ⟨w.heap.size + 1, 1, none⟩ = some (.int .i64 m.status) ∧ w'.cell? ⟨w.heap.size + 1, 2, none⟩ = some (.slice m.fs.A m.fs.n m.fs.c) ∧ w'.cell? ⟨w.heap.size + 1, 3, none⟩ = some (.slice m.bd.A m.bd.n m.bd.c) ∧ w'.cell? ⟨w.heap.size + 1, 4, none⟩ = some (.slice m.vr.A m.vr.n m.vr.c))) 10 (by kernel_rfl) ?_ (fun hHeld => ?_)
    ·(try dsimp only); exact HC8.out _ hL
    refine wpAnyU_takeW (i := 1) (oi := ⟨some 38, _, _, _, _, _⟩) (v := ?_) (by kernel_rfl) rfl (by kernel_rfl) (by kernel_rfl) (by kernel_rfl) (fun _ _ _ h => h) (Or.inl ⟨by rfl, ?_⟩) (by assumption) ?_
    rotate_left
    ·(intro w hSw; (try dsimp only at hSw); go_simp; (try with_reducible rfl))
    try simp only [zP]
    refine wpAnyU_take (i := 2) (oi := ⟨some 39, _, _, _, _, _⟩) (v := ?_) [3, 8, 9, 10] (by kernel_rfl) (by kernel_rfl) (by kernel_rfl) (by kernel_rfl) rfl (by kernel_rfl) (by kernel_rfl) (by kernel_rfl) (fun _ _ _ h => h) (Or.inl ⟨by rfl, ?_⟩) (by assumption) ?_
    rotate_left
    ·(intro w hSw; (try dsimp only at hSw); go_simp; (try with_reducible rfl))
    try simp only [zP]
    refine wpAnyU_takeW (i := 4) (oi := ⟨some 41, _, _, _, _, _⟩) (v := ?_) (by kernel_rfl) rfl (by kernel_rfl) (by kernel_rfl) (by kernel_rfl) (fun _ _ _ h => h) (Or.inl ⟨by rfl, ?_⟩) (by assumption) ?_
    rotate_left
    ·(intro w hSw; (try dsimp only at hSw); go_simp; (try with_reducible rfl))
    try simp only [zP]
    refine wpAnyU_take (i := 5) (oi := ⟨some 42, _, _, _, _, _⟩) (v := ?_) [6, 7, 8, 9, 10] (by kernel_rfl) (by kernel_rfl) (by kernel_rfl) (by kernel_rfl) rfl (by kernel_rfl) (by kernel_rfl) (by kernel_rfl) (fun _ _ _ h => h) (Or.inl ⟨by rfl, ?_⟩) (by assumption) ?_
    rotate_left
    ·(intro w hSw; (try dsimp only at hSw); go_simp; (try with_reducible rfl))
    try simp only [zP]
    refine wpAnyU_takeW (i := 6) (oi := ⟨some 43, _, _, _, _, _⟩) (v := ?_) (by kernel_rfl) rfl (by kernel_rfl) (by kernel_rfl) (by kernel_rfl) (fun _ _ _ h => h) (Or.inl ⟨by rfl, ?_⟩) (by assumption) ?_
    rotate_left
    ·(intro w hSw; (try dsimp only at hSw); go_simp; (try with_reducible rfl))
    try simp only [zP]
    refine wpAnyU_ready (rs := [0, 7]) (by kernel_rfl) (by simp) ?_
    refine AllReadyU.cons (o := ⟨some 37, _, _, _, _, _⟩) rfl (fun K hK => ?_) (AllReadyU.cons (o := ⟨some 44, _, _, _, _, _⟩) rfl (fun K hK => ?_) AllReadyU.nil)
    ·have hoA := own_made55 (e := 95) (k := 6) hL; replace hL := hL.alloc (.cells #[] 95)
     go_simp
     skip
     try go_wp2_with fail
     refine hK.out _ _ ?_ (fun hHeld => ?_)
     ·(try dsimp only); exact HC8.out _ hL
     clear hK K
     try simp only [zP]
     refine wpAnyU_ready (rs := [3, 7]) (by kernel_rfl) (by simp) ?_
     refine AllReadyU.cons (o := ⟨some 40, _, _, _, _, _⟩) rfl (fun K hK => ?_) (AllReadyU.cons (o := ⟨some 44, _, _, _, _, _⟩) rfl (fun K hK => ?_) AllReadyU.nil)
     ·refine step_appG _ rfl (.tmp 37) (.tmp 39) 70 rfl w2 95 _ 6 104 Tryz.underlying70 infoIt rfl (by decide) _ _ _ rfl hoA iA 0 ic (mv.flatMap pubC) rfl (HIt.out.ext hL) (pubC_one _) hL (by omega) (by decide) ?_; intro A6 c6 w6 hoB hb6 hle6 hg6; rw [Nat.zero_add] at hoB hle6 ⊢; rw [List.nil_append] at hoB; replace hL := hb6; clear hb6 hg6
      refine hK.out _ _ ?_ (fun hHeld => ?_)
      ·(try dsimp only); exact HC8.out _ hL
      clear hK K
      try simp only [zP]
      refine wpAnyU_ready (rs := [7]) (by kernel_rfl) (by simp) ?_
      refine AllReadyU.cons (o := ⟨some 44, _, _, _, _, _⟩) rfl (fun K hK => ?_) AllReadyU.nil
      have hr5 := rd_lit55 hL #[.int .i64 ct, .string m.addr, .int .i64 m.status, .slice m.fs.A m.fs.n m.fs.c, .slice m.bd.A m.bd.n m.bd.c, .slice m.vr.A m.vr.n m.vr.c] 95 6 rfl; replace hoB := hoB.alloc (.cells #[.int .i64 ct, .string m.addr, .int .i64 m.status, .slice m.fs.A m.fs.n m.fs.c, .slice m.bd.A m.bd.n m.bd.c, .slice m.vr.A m.vr.n m.vr.c] 95); replace hL := hL.alloc (.cells #[.int .i64 ct, .string m.addr, .int .i64 m.status, .slice m.fs.A m.fs.n m.fs.c, .slice m.bd.A m.bd.n m.bd.c, .slice m.vr.A m.vr.n m.vr.c] 95)
      go_simp
      skip
      try go_wp2_with fail
      refine hK.out _ _ ?_ (fun hHeld => ?_)
      ·(try dsimp only); exact HC8.out _ hL
      clear hK K
      try simp only [zP]
      refine wpAnyU_ready (rs := [8]) (by kernel_rfl) (by simp) ?_
      refine AllReadyU.cons (o := ⟨some 45, _, _, _, _, _⟩) rfl (fun K hK => ?_) AllReadyU.nil
      refine step_app _ rfl (.tmp 40) (.tmp 44) 70 rfl w2 95 _ 6 104 Tryz.underlying70 infoIt rfl (by decide) _ _ _ rfl hoB _ 1 1 (pubC (ct, m)) rfl hr5 (by have := pubC_one [(ct, m)]; simpa using this) hL (by omega) (by decide) ?_; intro A9 c9 wa hoC hb9 hle9; replace hL := hb9; clear hb9
      refine hK.out _ _ ?_ (fun hHeld => ?_)
      ·(try dsimp only); exact HC8.out _ hL
      clear hK K
      try simp only [zP]
      refine wpAnyU_takeW (i := 9) (oi := ⟨some 46, _, _, _, _, _⟩) (v := ?_) (by kernel_rfl) rfl (by kernel_rfl) (by kernel_rfl) (by kernel_rfl) (fun _ _ _ h => h) (Or.inl ⟨by rfl, ?_⟩) (by assumption) ?_
      rotate_left
      ·(intro w hSw; (try dsimp only at hSw); go_simp; (try with_reducible rfl))
      try simp only [zP]
      refine wpAnyU_ready (rs := [10]) (by kernel_rfl) (by simp) ?_
      refine AllReadyU.stop (o := ⟨none, _, _, _, _, _⟩) rfl (by kernel_rfl) (fun K hK => ?_) AllReadyU.nil
      have hcz := (HB0.out.ext hL).cell 0; have hfz := (HB0.out.ext hL).frozen 0
      go_simp
      skip
      try go_wp2_with fail
      refine hK.out _ _ ?_ (fun hHeld => ?_)
      ·(try dsimp only); (try trivial)
      clear hK K
      try simp only [zP]
      refine wpAnyH_done (by kernel_rfl) ?_ _
      clear hcz hfz
      have hrs : RS (fun i => i < w2.heap.size) wa 6 ⟨A9, (0 + 1), c9⟩ (mv.flatMap pubC ++ pubC (ct, m)) := ⟨Rd.of_own hoC, fun _ a ha hb => by have h9 := (hoC.lt a.block (by simp only at ha; subst ha; rfl)).1; have h8 : a.block < w2.heap.size := hb; omega, hle9⟩
      have hw2 := HB2.out.lt
      refine hK0 _ _ (Met.intro (hJ0 _ _ ?_))
      (repeat apply Exists.intro)
      refine ⟨?_, rfl⟩
      exact ⟨rfl, _, _, hrs.keep ((Keeps.refl (fun i => i = w.heap.size) wa).set_ (b := w.heap.size) rfl 0 _) (fun i hi => .inl (by show i < _; omega)), (HB0.out.ext hL).set_ 0 _, (HB2.out.ext hL).far (p := ⟨w.heap.size, 0, none⟩) (by show w.heap.size + 2 ≠ w.heap.size; omega) _, (hE.trans hL).growB ((ExtB.refl w.heap.size wa).set_ 0 _) (Nat.le_refl _)⟩
     ·have hr5 := rd_lit55 hL #[.int .i64 ct, .string m.addr, .int .i64 m.status, .slice m.fs.A m.fs.n m.fs.c, .slice m.bd.A m.bd.n m.bd.c, .slice m.vr.A m.vr.n m.vr.c] 95 6 rfl; rw [World.size_alloc] at hr5; replace hoA := hoA.alloc (.cells #[.int .i64 ct, .string m.addr, .int .i64 m.status, .slice m.fs.A m.fs.n m.fs.c, .slice m.bd.A m.bd.n m.bd.c, .slice m.vr.A m.vr.n m.vr.c] 95); replace hL := hL.alloc (.cells #[.int .i64 ct, .string m.addr, .int .i64 m.status, .slice m.fs.A m.fs.n m.fs.c, .slice m.bd.A m.bd.n m.bd.c, .slice m.vr.A m.vr.n m.vr.c] 95)
      go_simp
      skip
      try go_wp2_with fail
      refine hK.out _ _ ?_ (fun hHeld => ?_)
      ·(try dsimp only); exact HC8.out _ hL
      clear hK K
      try simp only [zP]
      refine wpAnyU_ready (rs := [3]) (by kernel_rfl) (by simp) ?_
      refine AllReadyU.cons (o := ⟨some 40, _, _, _, _, _⟩) rfl (fun K hK => ?_) AllReadyU.nil
      refine step_appG _ rfl (.tmp 37) (.tmp 39) 70 rfl w2 95 _ 6 104 Tryz.underlying70 infoIt rfl (by decide) _ _ _ rfl hoA iA 0 ic (mv.flatMap pubC) rfl (HIt.out.ext hL) (pubC_one _) hL (by omega) (by decide) ?_; intro A6 c6 w6 hoB hb6 hle6 hg6; rw [Nat.zero_add] at hoB hle6 ⊢; rw [List.nil_append] at hoB; replace hr5 := Rd.growB hr5 hg6 (fun a ha => by cases ha; simp [World.size_alloc]); replace hL := hb6; clear hb6 hg6
      refine hK.out _ _ ?_ (fun hHeld => ?_)
      ·(try dsimp only); exact HC8.out _ hL
      clear hK K
      try simp only [zP]
      refine wpAnyU_ready (rs := [8]) (by kernel_rfl) (by simp) ?_
      refine AllReadyU.cons (o := ⟨some 45, _, _, _, _, _⟩) rfl (fun K hK => ?_) AllReadyU.nil
      refine step_app _ rfl (.tmp 40) (.tmp 44) 70 rfl w2 95 _ 6 104 Tryz.underlying70 infoIt rfl (by decide) _ _ _ rfl hoB _ 1 1 (pubC (ct, m)) rfl hr5 (by have := pubC_one [(ct, m)]; simpa using this) hL (by omega) (by decide) ?_; intro A9 c9 wa hoC hb9 hle9; replace hL := hb9; clear hb9
      refine hK.out _ _ ?_ (fun hHeld => ?_)
      ·(try dsimp only); exact HC8.out _ hL
      clear hK K
      try simp only [zP]
      refine wpAnyU_takeW (i := 9) (oi := ⟨some 46, _, _, _, _, _⟩) (v := ?_) (by kernel_rfl) rfl (by kernel_rfl) (by kernel_rfl) (by kernel_rfl) (fun _ _ _ h => h) (Or.inl ⟨by rfl, ?_⟩) (by assumption) ?_
      rotate_left
      ·(intro w hSw; (try dsimp only at hSw); go_simp; (try with_reducible rfl))
      try simp only [zP]
      refine wpAnyU_ready (rs := [10]) (by kernel_rfl) (by simp) ?_
      refine AllReadyU.stop (o := ⟨none, _, _, _, _, _⟩) rfl (by kernel_rfl) (fun K hK => ?_) AllReadyU.nil
      have hcz := (HB0.out.ext hL).cell 0; have hfz := (HB0.out.ext hL).frozen 0
      go_simp
      skip
      try go_wp2_with fail
      refine hK.out _ _ ?_ (fun hHeld => ?_)
      ·(try dsimp only); (try trivial)
      clear hK K
      try simp only [zP]
      refine wpAnyH_done (by kernel_rfl) ?_ _
      clear hcz hfz
      have hrs : RS (fun i => i < w2.heap.size) wa 6 ⟨A9, (0 + 1), c9⟩ (mv.flatMap pubC ++ pubC (ct, m)) := ⟨Rd.of_own hoC, fun _ a ha hb => by have h9 := (hoC.lt a.block (by simp only at ha; subst ha; rfl)).1; have h8 : a.block < w2.heap.size := hb; omega, hle9⟩
      have hw2 := HB2.out.lt
      refine hK0 _ _ (Met.intro (hJ0 _ _ ?_))
      (repeat apply Exists.intro)
      refine ⟨?_, rfl⟩
      exact ⟨rfl, _, _, hrs.keep ((Keeps.refl (fun i => i = w.heap.size) wa).set_ (b := w.heap.size) rfl 0 _) (fun i hi => .inl (by show i < _; omega)), (HB0.out.ext hL).set_ 0 _, (HB2.out.ext hL).far (p := ⟨w.heap.size, 0, none⟩) (by show w.heap.size + 2 ≠ w.heap.size; omega) _, (hE.trans hL).growB ((ExtB.refl w.heap.size wa).set_ 0 _) (Nat.le_refl _)⟩
    ·have hr5 := rd_lit55 hL #[.int .i64 ct, .string m.addr, .int .i64 m.status, .slice m.fs.A m.fs.n m.fs.c, .slice m.bd.A m.bd.n m.bd.c, .slice m.vr.A m.vr.n m.vr.c] 95 6 rfl; replace hL := hL.alloc (.cells #[.int .i64 ct, .string m.addr, .int .i64 m.status, .slice m.fs.A m.fs.n m.fs.c, .slice m.bd.A m.bd.n m.bd.c, .slice m.vr.A m.vr.n m.vr.c] 95)
     go_simp
     skip
     try go_wp2_with fail
     refine hK.out _ _ ?_ (fun hHeld => ?_)
     ·(try dsimp only); exact HC8.out _ hL
     clear hK K
     try simp only [zP]
     refine wpAnyU_ready (rs := [0]) (by kernel_rfl) (by simp) ?_
     refine AllReadyU.cons (o := ⟨some 37, _, _, _, _, _⟩) rfl (fun K hK => ?_) AllReadyU.nil
     have hoA := own_made55 (e := 95) (k := 6) hL; rw [World.size_alloc] at hoA; replace hr5 := hr5.ext ((Ext.refl _).alloc (.cells #[] 95)); replace hL := hL.alloc (.cells #[] 95)
     go_simp
     skip
     try go_wp2_with fail
     refine hK.out _ _ ?_ (fun hHeld => ?_)
     ·(try dsimp only); exact HC8.out _ hL
     clear hK K
     try simp only [zP]
     refine wpAnyU_ready (rs := [3]) (by kernel_rfl) (by simp) ?_
     refine AllReadyU.cons (o := ⟨some 40, _, _, _, _, _⟩) rfl (fun K hK => ?_) AllReadyU.nil
     refine step_appG _ rfl (.tmp 37) (.tmp 39) 70 rfl w2 95 _ 6 104 Tryz.underlying70 infoIt rfl (by decide) _ _ _ rfl hoA iA 0 ic (mv.flatMap pubC) rfl (HIt.out.ext hL) (pubC_one _) hL (by omega) (by decide) ?_; intro A6 c6 w6 hoB hb6 hle6 hg6; rw [Nat.zero_add] at hoB hle6 ⊢; rw [List.nil_append] at hoB; replace hr5 := Rd.growB hr5 hg6 (fun a ha => by cases ha; simp [World.size_alloc]); replace hL := hb6; clear hb6 hg6
     refine hK.out _ _ ?_ (fun hHeld => ?_)
     ·(try dsimp only); exact HC8.out _ hL
     clear hK K
     try simp only [zP]
     refine wpAnyU_ready (rs := [8]) (by kernel_rfl) (by simp) ?_
     refine AllReadyU.cons (o := ⟨some 45, _, _, _, _, _⟩) rfl (fun K hK => ?_) AllReadyU.nil
     refine step_app _ rfl (.tmp 40) (.tmp 44) 70 rfl w2 95 _ 6 104 Tryz.underlying70 infoIt rfl (by decide) _ _ _ rfl hoB _ 1 1 (pubC (ct, m)) rfl hr5 (by have := pubC_one [(ct, m)]; simpa using this) hL (by omega) (by decide) ?_; intro A9 c9 wa hoC hb9 hle9; replace hL := hb9; clear hb9
     refine hK.out _ _ ?_ (fun hHeld => ?_)
     ·(try dsimp only); exact HC8.out _ hL
     clear hK K
     try simp only [zP]
     refine wpAnyU_takeW (i := 9) (oi := ⟨some 46, _, _, _, _, _⟩) (v := ?_) (by kernel_rfl) rfl (by kernel_rfl) (by kernel_rfl) (by kernel_rfl) (fun _ _ _ h => h) (Or.inl ⟨by rfl, ?_⟩) (by assumption) ?_
     rotate_left
     ·(intro w hSw; (try dsimp only at hSw); go_simp; (try with_reducible rfl))
     try simp only [zP]
     refine wpAnyU_ready (rs := [10]) (by kernel_rfl) (by simp) ?_
     refine AllReadyU.stop (o := ⟨none, _, _, _, _, _⟩) rfl (by kernel_rfl) (fun K hK => ?_) AllReadyU.nil
     have hcz := (HB0.out.ext hL).cell 0; have hfz := (HB0.out.ext hL).frozen 0
     go_simp
     skip
     try go_wp2_with fail
     refine hK.out _ _ ?_ (fun hHeld => ?_)
     ·(try dsimp only); (try trivial)
     clear hK K
     try simp only [zP]
     refine wpAnyH_done (by kernel_rfl) ?_ _
     clear hcz hfz
     have hrs : RS (fun i => i < w2.heap.size) wa 6 ⟨A9, (0 + 1), c9⟩ (mv.flatMap pubC ++ pubC (ct, m)) := ⟨Rd.of_own hoC, fun _ a ha hb => by have h9 := (hoC.lt a.block (by simp only at ha; subst ha; rfl)).1; have h8 : a.block < w2.heap.size := hb; omega, hle9⟩
     have hw2 := HB2.out.lt
     refine hK0 _ _ (Met.intro (hJ0 _ _ ?_))
     (repeat apply Exists.intro)
     refine ⟨?_, rfl⟩
     exact ⟨rfl, _, _, hrs.keep ((Keeps.refl (fun i => i = w.heap.size) wa).set_ (b := w.heap.size) rfl 0 _) (fun i hi => .inl (by show i < _; omega)), (HB0.out.ext hL).set_ 0 _, (HB2.out.ext hL).far (p := ⟨w.heap.size, 0, none⟩) (by show w.heap.size + 2 ≠ w.heap.size; omega) _, (hE.trans hL).growB ((ExtB.refl w.heap.size wa).set_ 0 _) (Nat.le_refl _)⟩
   case rest =>
   obtain ⟨rfl, A9, c9, hrs, hYb, hYz, hEF⟩ := hcut
   generalize wc = wF at *
   have Hrs := zi hrs; have HEF := zi hEF; have HYb := zi hYb; have HYz := zi hYz; have Hw2 := zi HB2.out.lt
   clear hrs hYb hYz hEF
   go_wp2_with (first | (refine wpList_loadB rfl 74 (.tmp 3) rfl w.heap.size rfl 74 _ HYb.out _ Tryz.underlying74 infoStM ?_) | (refine wpList_storeB rfl 74 (.tmp 6) (.tmp 47) rfl rfl (w.heap.size + 2) _ rfl rfl 74 _ HYz.out infoStM rfl (by simp [Value.oneCell']) ?_; intro w9 hB9 hx9))
   have y0 := hB9.cell 0; have y1 := hB9.cell 1; have y2 := hB9.cell 2
   simp only [List.getElem?_toArray, List.getElem?_cons_succ, List.getElem?_cons_zero] at y0 y1 y2
   have hE9 := HEF.out.growB hx9 (by omega)
   refine bodyPost_ret (v := .tuple #[.agg #[.slice A9 (0 + 1) c9, .slice bA bn bc, .slice lA ln lc], .int .i64 1, .int .i64 0]) (by simp [results, Tryz.results63, go_sem, y0, y1, y2]) rfl ?_
   have hK := Keeps.grown (Keeps.refl (fun i => i = w.heap.size + 2) wF) hx9 (fun b hb => .inl (by injection hb with hb; exact hb.symm))
   have hw2 := Hw2.out
   have hw3 := HW.out.size
   have hb2s := hb2.size
   obtain rfl := Hpr.out
   refine ⟨⟨⟨A9, (0 + 1), c9⟩, ⟨bA, bn, bc⟩, ⟨lA, ln, lc⟩, mv ++ [(ct, m)], ks⟩, rfl, rfl, ⟨?_, by rw [List.map_append, HS.out.ver]; rfl, fun x hx => ?_, (HS.out.lg.sub (fun i hi => hi.1.1)).ext hE9, HS.out.len⟩, hE9⟩
   ·rw [List.flatMap_append, show [(ct, m)].flatMap pubC = pubC (ct, m) by simp]
    exact (Hrs.out.keep hK (fun i hi => .inl (by show i < _; omega))).sub (fun i hi => by have := hi.2; show i < _; omega)
   ·rcases List.mem_append.1 hx with hx | hx
    ·exact ((HS.out.mem x hx).sub (fun i hi => hi.1.1)).ext hE9
    ·rw [List.mem_singleton] at hx; subst hx; exact (HM.out.sub (fun i hi => hi.1.2)).ext hE9
  ·obtain ⟨k, rfl⟩ : ∃ k, n = k + 1 := ⟨n - 1, by omega⟩
   have hkm : k < mv.length := by have h1 : mv.length = o.vs.length := HN.out.2; have := Hn.out; omega
   have hkv : k < o.vs.length := by have := Hn.out; omega
   obtain ⟨g, i0, hA, hc⟩ := HS.out.item hkm
   simp only at hA hc
   subst hA
   have Hlast := zi (show o.vs.getLast? = some o.vs[k] by rw [List.getLast?_eq_getElem?, Hn.out]; exact List.getElem?_eq_getElem hkv)
   have hvk : o.vs[k] = (mv[k].1, mv[k].2.ver) := by
    have h1 : (mv.map (fun x => (x.1, x.2.ver)))[k]? = o.vs[k]? := congrArg (·[k]?) HS.out.ver
    rw [List.getElem?_map, List.getElem?_eq_getElem hkm, List.getElem?_eq_getElem hkv] at h1
    simp only [Option.map_some, Option.some.injEq] at h1
    exact h1.symm
   have Hor := zi (fun h => Hor.out _ rfl Hlast.out h)
   have Hgo := zi (fun h => Hgo.out rfl (fun q hq => by rw [Hlast.out] at hq; injection hq with hq; subst hq; exact h))
   have d0 : w2.cell? ⟨g, i0 + k * 6, none⟩ = some (.int .i64 o.vs[k].1) := by have h1 := hE.cell (hc 0 _ rfl); rw [Nat.add_zero] at h1; rw [hvk]; exact h1
   clear hc hkm Hlast hvk
   generalize o.vs[k].1 = tl at *
   clear hkv
   have hwm : IntKind.i64.wrap (((k + 1 : Nat) : Int) - 1) = (k : Int) := by rw [IntWalk.i64_in _ (by omega)]; omega
   have hwm2 : IntKind.i64.wrap ((k : Int) + 1 - 1) = (k : Int) := by rw [IntWalk.i64_in _ (by omega)]; omega
   have hwk : IntKind.i64.wrap (k : Int) = (k : Int) := IntWalk.i64_in _ (by omega)
   have hk1 : (k : Int) < (k : Int) + 1 := by omega
   by_cases hlt : ct < tl
   ·obtain rfl := Hor.out hlt
    go_wp2_with (first | (refine wpList_loadB rfl 74 (.tmp 3) rfl w.heap.size rfl 74 _ HB0.out _ Tryz.underlying74 infoStM ?_) | (refine wpList_storeB rfl 74 (.tmp 6) (.tmp 36) rfl rfl (w.heap.size + 2) _ rfl rfl 74 _ HB2.out infoStM rfl (by simp [Value.oneCell']) ?_; intro w9 hB9 hx9))
    have y0 := hB9.cell 0; have y1 := hB9.cell 1; have y2 := hB9.cell 2
    simp only [List.getElem?_toArray, List.getElem?_cons_succ, List.getElem?_cons_zero] at y0 y1 y2
    have hE9 := hE.growB hx9 (by omega)
    refine bodyPost_ret (v := .tuple #[.agg #[.slice (some ⟨g, i0, none⟩) (k + 1) ic, .slice bA bn bc, .slice lA ln lc], .int .i64 0, .int .i64 7]) (by simp [results, Tryz.results63, go_sem, y0, y1, y2]) rfl ?_
    exact ⟨⟨⟨some ⟨g, i0, none⟩, k + 1, ic⟩, ⟨bA, bn, bc⟩, ⟨lA, ln, lc⟩, mv, ks⟩, rfl, rfl, (HS.out.sub (fun i hi => hi.1.1)).ext hE9, hE9⟩
   ·have Hpr := zi (Hgo.out (by omega))
    have hlt3 : decide (ct < tl) = false := decide_eq_false hlt
    go_wp2_with fail
    have HIt := zi (show Rd w2 6 (some ⟨g, i0, none⟩) (k + 1) (mv.flatMap pubC) from (HS.out.its.rd.ext hE))
    have HC8 := zi (fun w' (h : Ext w2 w') => (⟨(HB0.out.ext h).cell 0, (HB1.out.ext h).cell 0, (HB1.out.ext h).cell 1, (HB1.out.ext h).cell 2, (HB1.out.ext h).cell 3, (HB1.out.ext h).cell 4⟩ : w'.cell? ⟨w.heap.size, 0, none⟩ = some (.slice (some ⟨g, i0, none⟩) (k + 1) ic) ∧ w'.cell? ⟨w.heap.size + 1, 0, none⟩ = some (.string m.addr) ∧ w'.cell? ⟨w.heap.size + 1, 1, none⟩ = some (.int .i64 m.status) ∧ w'.cell? ⟨w.heap.size + 1, 2, none⟩ = some (.slice m.fs.A m.fs.n m.fs.c) ∧ w'.cell? ⟨w.heap.size + 1, 3, none⟩ = some (.slice m.bd.A m.bd.n m.bd.c) ∧ w'.cell? ⟨w.heap.size + 1, 4, none⟩ = some (.slice m.vr.A m.vr.n m.vr.c)))
    go_cut [3] (fun v wx => v = .pointer (some ⟨w.heap.size, 0, none⟩) ∧ ∃ A9 c9, RS (fun i => i < w2.heap.size) wx 6 ⟨A9, (k + 1 + 1), c9⟩ (mv.flatMap pubC ++ pubC (ct, m)) ∧ Blk wx w.heap.size 74 #[.slice A9 (k + 1 + 1) c9, .slice bA bn bc, .slice lA ln lc] ∧ Blk wx (w.heap.size + 2) 74 #[.slice none 0 0, .slice none 0 0, .slice none 0 0] ∧ Ext w wx)
    case first =>
     rename_i J0 K0 hJ0 hK0
     have hL := (Ext.refl w2).drew
     refine wp_region_U (S := (fun w' => w'.cell? ⟨w.heap.size, 0, none⟩ = some (.slice (some ⟨g, i0, none⟩) (k + 1) ic) ∧ w'.cell? ⟨w.heap.size + 1, 0, none⟩ = some (.string m.addr) ∧ w'.cell? ⟨w.heap.size + 1, 1, none⟩ = some (.int .i64 m.status) ∧ w'.cell? ⟨w.heap.size + 1, 2, none⟩ = some (.slice m.fs.A m.fs.n m.fs.c) ∧ w'.cell? ⟨w.heap.size + 1, 3, none⟩ = some (.slice m.bd.A m.bd.n m.bd.c) ∧ w'.cell? ⟨w.heap.size + 1, 4, none⟩ = some (.slice m.vr.A m.vr.n m.vr.c))) 10 (by kernel_rfl) ?_ (fun hHeld => ?_)
     ·(try dsimp only); exact HC8.out _ hL
     refine wpAnyU_takeW (i := 1) (oi := ⟨some 38, _, _, _, _, _⟩) (v := ?_) (by kernel_rfl) rfl (by kernel_rfl) (by kernel_rfl) (by kernel_rfl) (fun _ _ _ h => h) (Or.inl ⟨by rfl, ?_⟩) (by assumption) ?_
     rotate_left
     ·(intro w hSw; (try dsimp only at hSw); go_simp; (try with_reducible rfl))
     try simp only [zP]
     refine wpAnyU_take (i := 2) (oi := ⟨some 39, _, _, _, _, _⟩) (v := ?_) [3, 8, 9, 10] (by kernel_rfl) (by kernel_rfl) (by kernel_rfl) (by kernel_rfl) rfl (by kernel_rfl) (by kernel_rfl) (by kernel_rfl) (fun _ _ _ h => h) (Or.inl ⟨by rfl, ?_⟩) (by assumption) ?_
     rotate_left
     ·(intro w hSw; (try dsimp only at hSw); go_simp; (try with_reducible rfl))
     try simp only [zP]
     refine wpAnyU_takeW (i := 4) (oi := ⟨some 41, _, _, _, _, _⟩) (v := ?_) (by kernel_rfl) rfl (by kernel_rfl) (by kernel_rfl) (by kernel_rfl) (fun _ _ _ h => h) (Or.inl ⟨by rfl, ?_⟩) (by assumption) ?_
     rotate_left
     ·(intro w hSw; (try dsimp only at hSw); go_simp; (try with_reducible rfl))
     try simp only [zP]
     refine wpAnyU_take (i := 5) (oi := ⟨some 42, _, _, _, _, _⟩) (v := ?_) [6, 7, 8, 9, 10] (by kernel_rfl) (by kernel_rfl) (by kernel_rfl) (by kernel_rfl) rfl (by kernel_rfl) (by kernel_rfl) (by kernel_rfl) (fun _ _ _ h => h) (Or.inl ⟨by rfl, ?_⟩) (by assumption) ?_
     rotate_left
     ·(intro w hSw; (try dsimp only at hSw); go_simp; (try with_reducible rfl))
     try simp only [zP]
     refine wpAnyU_takeW (i := 6) (oi := ⟨some 43, _, _, _, _, _⟩) (v := ?_) (by kernel_rfl) rfl (by kernel_rfl) (by kernel_rfl) (by kernel_rfl) (fun _ _ _ h => h) (Or.inl ⟨by rfl, ?_⟩) (by assumption) ?_
     rotate_left
     ·(intro w hSw; (try dsimp only at hSw); go_simp; (try with_reducible rfl))
     try simp only [zP]
     refine wpAnyU_ready (rs := [0, 7]) (by kernel_rfl) (by simp) ?_
     refine AllReadyU.cons (o := ⟨some 37, _, _, _, _, _⟩) rfl (fun K hK => ?_) (AllReadyU.cons (o := ⟨some 44, _, _, _, _, _⟩) rfl (fun K hK => ?_) AllReadyU.nil)
     ·have hoA := own_made55 (e := 95) (k := 6) hL; replace hL := hL.alloc (.cells #[] 95)
      go_simp
      skip
      try go_wp2_with fail
      refine hK.out _ _ ?_ (fun hHeld => ?_)
      ·(try dsimp only); exact HC8.out _ hL
      clear hK K
      try simp only [zP]
      refine wpAnyU_ready (rs := [3, 7]) (by kernel_rfl) (by simp) ?_
      refine AllReadyU.cons (o := ⟨some 40, _, _, _, _, _⟩) rfl (fun K hK => ?_) (AllReadyU.cons (o := ⟨some 44, _, _, _, _, _⟩) rfl (fun K hK => ?_) AllReadyU.nil)
      ·refine step_appG _ rfl (.tmp 37) (.tmp 39) 70 rfl w2 95 _ 6 104 Tryz.underlying70 infoIt rfl (by decide) _ _ _ rfl hoA (some ⟨g, i0, none⟩) (k + 1) ic (mv.flatMap pubC) rfl (HIt.out.ext hL) (pubC_one _) hL (by omega) (by decide) ?_; intro A6 c6 w6 hoB hb6 hle6 hg6; rw [Nat.zero_add] at hoB hle6 ⊢; rw [List.nil_append] at hoB; replace hL := hb6; clear hb6 hg6
       refine hK.out _ _ ?_ (fun hHeld => ?_)
       ·(try dsimp only); exact HC8.out _ hL
       clear hK K
       try simp only [zP]
       refine wpAnyU_ready (rs := [7]) (by kernel_rfl) (by simp) ?_
       refine AllReadyU.cons (o := ⟨some 44, _, _, _, _, _⟩) rfl (fun K hK => ?_) AllReadyU.nil
       have hr5 := rd_lit55 hL #[.int .i64 ct, .string m.addr, .int .i64 m.status, .slice m.fs.A m.fs.n m.fs.c, .slice m.bd.A m.bd.n m.bd.c, .slice m.vr.A m.vr.n m.vr.c] 95 6 rfl; replace hoB := hoB.alloc (.cells #[.int .i64 ct, .string m.addr, .int .i64 m.status, .slice m.fs.A m.fs.n m.fs.c, .slice m.bd.A m.bd.n m.bd.c, .slice m.vr.A m.vr.n m.vr.c] 95); replace hL := hL.alloc (.cells #[.int .i64 ct, .string m.addr, .int .i64 m.status, .slice m.fs.A m.fs.n m.fs.c, .slice m.bd.A m.bd.n m.bd.c, .slice m.vr.A m.vr.n m.vr.c] 95)
       go_simp
       skip
       try go_wp2_with fail
       refine hK.out _ _ ?_ (fun hHeld => ?_)
       ·(try dsimp only); exact HC8.out _ hL
       clear hK K
       try simp only [zP]
       refine wpAnyU_ready (rs := [8]) (by kernel_rfl) (by simp) ?_
       refine AllReadyU.cons (o := ⟨some 45, _, _, _, _, _⟩) rfl (fun K hK => ?_) AllReadyU.nil
       refine step_app _ rfl (.tmp 40) (.tmp 44) 70 rfl w2 95 _ 6 104 Tryz.underlying70 infoIt rfl (by decide) _ _ _ rfl hoB _ 1 1 (pubC (ct, m)) rfl hr5 (by have := pubC_one [(ct, m)]; simpa using this) hL (by omega) (by decide) ?_; intro A9 c9 wa hoC hb9 hle9; replace hL := hb9; clear hb9
       refine hK.out _ _ ?_ (fun hHeld => ?_)
       ·(try dsimp only); exact HC8.out _ hL
       clear hK K
       try simp only [zP]
       refine wpAnyU_takeW (i := 9) (oi := ⟨some 46, _, _, _, _, _⟩) (v := ?_) (by kernel_rfl) rfl (by kernel_rfl) (by kernel_rfl) (by kernel_rfl) (fun _ _ _ h => h) (Or.inl ⟨by rfl, ?_⟩) (by assumption) ?_
       rotate_left
       ·(intro w hSw; (try dsimp only at hSw); go_simp; (try with_reducible rfl))
       try simp only [zP]
       refine wpAnyU_ready (rs := [10]) (by kernel_rfl) (by simp) ?_
       refine AllReadyU.stop (o := ⟨none, _, _, _, _, _⟩) rfl (by kernel_rfl) (fun K hK => ?_) AllReadyU.nil
       have hcz := (HB0.out.ext hL).cell 0; have hfz := (HB0.out.ext hL).frozen 0
       go_simp
       skip
       try go_wp2_with fail
       refine hK.out _ _ ?_ (fun hHeld => ?_)
       ·(try dsimp only); (try trivial)
       clear hK K
       try simp only [zP]
       refine wpAnyH_done (by kernel_rfl) ?_ _
       clear hcz hfz
       have hrs : RS (fun i => i < w2.heap.size) wa 6 ⟨A9, (k + 1 + 1), c9⟩ (mv.flatMap pubC ++ pubC (ct, m)) := ⟨Rd.of_own hoC, fun _ a ha hb => by have h9 := (hoC.lt a.block (by simp only at ha; subst ha; rfl)).1; have h8 : a.block < w2.heap.size := hb; omega, hle9⟩
       have hw2 := HB2.out.lt
       refine hK0 _ _ (Met.intro (hJ0 _ _ ?_))
       (repeat apply Exists.intro)
       refine ⟨?_, rfl⟩
       exact ⟨rfl, _, _, hrs.keep ((Keeps.refl (fun i => i = w.heap.size) wa).set_ (b := w.heap.size) rfl 0 _) (fun i hi => .inl (by show i < _; omega)), (HB0.out.ext hL).set_ 0 _, (HB2.out.ext hL).far (p := ⟨w.heap.size, 0, none⟩) (by show w.heap.size + 2 ≠ w.heap.size; omega) _, (hE.trans hL).growB ((ExtB.refl w.heap.size wa).set_ 0 _) (Nat.le_refl _)⟩
      ·have hr5 := rd_lit55 hL #[.int .i64 ct, .string m.addr, .int .i64 m.status, .slice m.fs.A m.fs.n m.fs.c, .slice m.bd.A m.bd.n m.bd.c, .slice m.vr.A m.vr.n m.vr.c] 95 6 rfl; rw [World.size_alloc] at hr5; replace hoA := hoA.alloc (.cells #[.int .i64 ct, .string m.addr, .int .i64 m.status, .slice m.fs.A m.fs.n m.fs.c, .slice m.bd.A m.bd.n m.bd.c, .slice m.vr.A m.vr.n m.vr.c] 95); replace hL := hL.alloc (.cells #[.int .i64 ct, .string m.addr, .int .i64 m.status, .slice m.fs.A m.fs.n m.fs.c, .slice m.bd.A m.bd.n m.bd.c, .slice m.vr.A m.vr.n m.vr.c] 95)
       go_simp
       skip
       try go_wp2_with fail
       refine hK.out _ _ ?_ (fun hHeld => ?_)
       ·(try dsimp only); exact HC8.out _ hL
       clear hK K
       try simp only [zP]
       refine wpAnyU_ready (rs := [3]) (by kernel_rfl) (by simp) ?_
       refine AllReadyU.cons (o := ⟨some 40, _, _, _, _, _⟩) rfl (fun K hK => ?_) AllReadyU.nil
       refine step_appG _ rfl (.tmp 37) (.tmp 39) 70 rfl w2 95 _ 6 104 Tryz.underlying70 infoIt rfl (by decide) _ _ _ rfl hoA (some ⟨g, i0, none⟩) (k + 1) ic (mv.flatMap pubC) rfl (HIt.out.ext hL) (pubC_one _) hL (by omega) (by decide) ?_; intro A6 c6 w6 hoB hb6 hle6 hg6; rw [Nat.zero_add] at hoB hle6 ⊢; rw [List.nil_append] at hoB; replace hr5 := Rd.growB hr5 hg6 (fun a ha => by cases ha; simp [World.size_alloc]); replace hL := hb6; clear hb6 hg6
       refine hK.out _ _ ?_ (fun hHeld => ?_)
       ·(try dsimp only); exact HC8.out _ hL
       clear hK K
       try simp only [zP]
       refine wpAnyU_ready (rs := [8]) (by kernel_rfl) (by simp) ?_
       refine AllReadyU.cons (o := ⟨some 45, _, _, _, _, _⟩) rfl (fun K hK => ?_) AllReadyU.nil
       refine step_app _ rfl (.tmp 40) (.tmp 44) 70 rfl w2 95 _ 6 104 Tryz.underlying70 infoIt rfl (by decide) _ _ _ rfl hoB _ 1 1 (pubC (ct, m)) rfl hr5 (by have := pubC_one [(ct, m)]; simpa using this) hL (by omega) (by decide) ?_; intro A9 c9 wa hoC hb9 hle9; replace hL := hb9; clear hb9
       refine hK.out _ _ ?_ (fun hHeld => ?_)
       ·(try dsimp only); exact HC8.out _ hL
       clear hK K
       try simp only [zP]
       refine wpAnyU_takeW (i := 9) (oi := ⟨some 46, _, _, _, _, _⟩) (v := ?_) (by kernel_rfl) rfl (by kernel_rfl) (by kernel_rfl) (by kernel_rfl) (fun _ _ _ h => h) (Or.inl ⟨by rfl, ?_⟩) (by assumption) ?_
       rotate_left
       ·(intro w hSw; (try dsimp only at hSw); go_simp; (try with_reducible rfl))
       try simp only [zP]
       refine wpAnyU_ready (rs := [10]) (by kernel_rfl) (by simp) ?_
       refine AllReadyU.stop (o := ⟨none, _, _, _, _, _⟩) rfl (by kernel_rfl) (fun K hK => ?_) AllReadyU.nil
       have hcz := (HB0.out.ext hL).cell 0; have hfz := (HB0.out.ext hL).frozen 0
       go_simp
       skip
       try go_wp2_with fail
       refine hK.out _ _ ?_ (fun hHeld => ?_)
       ·(try dsimp only); (try trivial)
       clear hK K
       try simp only [zP]
       refine wpAnyH_done (by kernel_rfl) ?_ _
       clear hcz hfz
       have hrs : RS (fun i => i < w2.heap.size) wa 6 ⟨A9, (k + 1 + 1), c9⟩ (mv.flatMap pubC ++ pubC (ct, m)) := ⟨Rd.of_own hoC, fun _ a ha hb => by have h9 := (hoC.lt a.block (by simp only at ha; subst ha; rfl)).1; have h8 : a.block < w2.heap.size := hb; omega, hle9⟩
       have hw2 := HB2.out.lt
       refine hK0 _ _ (Met.intro (hJ0 _ _ ?_))
       (repeat apply Exists.intro)
       refine ⟨?_, rfl⟩
       exact ⟨rfl, _, _, hrs.keep ((Keeps.refl (fun i => i = w.heap.size) wa).set_ (b := w.heap.size) rfl 0 _) (fun i hi => .inl (by show i < _; omega)), (HB0.out.ext hL).set_ 0 _, (HB2.out.ext hL).far (p := ⟨w.heap.size, 0, none⟩) (by show w.heap.size + 2 ≠ w.heap.size; omega) _, (hE.trans hL).growB ((ExtB.refl w.heap.size wa).set_ 0 _) (Nat.le_refl _)⟩
     ·have hr5 := rd_lit55 hL #[.int .i64 ct, .string m.addr, .int .i64 m.status, .slice m.fs.A m.fs.n m.fs.c, .slice m.bd.A m.bd.n m.bd.c, .slice m.vr.A m.vr.n m.vr.c] 95 6 rfl; replace hL := hL.alloc (.cells #[.int .i64 ct, .string m.addr, .int .i64 m.status, .slice m.fs.A m.fs.n m.fs.c, .slice m.bd.A m.bd.n m.bd.c, .slice m.vr.A m.vr.n m.vr.c] 95)
      go_simp
      skip
      try go_wp2_with fail
      refine hK.out _ _ ?_ (fun hHeld => ?_)
      ·(try dsimp only); exact HC8.out _ hL
      clear hK K
      try simp only [zP]
      refine wpAnyU_ready (rs := [0]) (by kernel_rfl) (by simp) ?_
      refine AllReadyU.cons (o := ⟨some 37, _, _, _, _, _⟩) rfl (fun K hK => ?_) AllReadyU.nil
      have hoA := own_made55 (e := 95) (k := 6) hL; rw [World.size_alloc] at hoA; replace hr5 := hr5.ext ((Ext.refl _).alloc (.cells #[] 95)); replace hL := hL.alloc (.cells #[] 95)
      go_simp
      skip
      try go_wp2_with fail
      refine hK.out _ _ ?_ (fun hHeld => ?_)
      ·(try dsimp only); exact HC8.out _ hL
      clear hK K
      try simp only [zP]
      refine wpAnyU_ready (rs := [3]) (by kernel_rfl) (by simp) ?_
      refine AllReadyU.cons (o := ⟨some 40, _, _, _, _, _⟩) rfl (fun K hK => ?_) AllReadyU.nil
      refine step_appG _ rfl (.tmp 37) (.tmp 39) 70 rfl w2 95 _ 6 104 Tryz.underlying70 infoIt rfl (by decide) _ _ _ rfl hoA (some ⟨g, i0, none⟩) (k + 1) ic (mv.flatMap pubC) rfl (HIt.out.ext hL) (pubC_one _) hL (by omega) (by decide) ?_; intro A6 c6 w6 hoB hb6 hle6 hg6; rw [Nat.zero_add] at hoB hle6 ⊢; rw [List.nil_append] at hoB; replace hr5 := Rd.growB hr5 hg6 (fun a ha => by cases ha; simp [World.size_alloc]); replace hL := hb6; clear hb6 hg6
      refine hK.out _ _ ?_ (fun hHeld => ?_)
      ·(try dsimp only); exact HC8.out _ hL
      clear hK K
      try simp only [zP]
      refine wpAnyU_ready (rs := [8]) (by kernel_rfl) (by simp) ?_
      refine AllReadyU.cons (o := ⟨some 45, _, _, _, _, _⟩) rfl (fun K hK => ?_) AllReadyU.nil
      refine step_app _ rfl (.tmp 40) (.tmp 44) 70 rfl w2 95 _ 6 104 Tryz.underlying70 infoIt rfl (by decide) _ _ _ rfl hoB _ 1 1 (pubC (ct, m)) rfl hr5 (by have := pubC_one [(ct, m)]; simpa using this) hL (by omega) (by decide) ?_; intro A9 c9 wa hoC hb9 hle9; replace hL := hb9; clear hb9
      refine hK.out _ _ ?_ (fun hHeld => ?_)
      ·(try dsimp only); exact HC8.out _ hL
      clear hK K
      try simp only [zP]
      refine wpAnyU_takeW (i := 9) (oi := ⟨some 46, _, _, _, _, _⟩) (v := ?_) (by kernel_rfl) rfl (by kernel_rfl) (by kernel_rfl) (by kernel_rfl) (fun _ _ _ h => h) (Or.inl ⟨by rfl, ?_⟩) (by assumption) ?_
      rotate_left
      ·(intro w hSw; (try dsimp only at hSw); go_simp; (try with_reducible rfl))
      try simp only [zP]
      refine wpAnyU_ready (rs := [10]) (by kernel_rfl) (by simp) ?_
      refine AllReadyU.stop (o := ⟨none, _, _, _, _, _⟩) rfl (by kernel_rfl) (fun K hK => ?_) AllReadyU.nil
      have hcz := (HB0.out.ext hL).cell 0; have hfz := (HB0.out.ext hL).frozen 0
      go_simp
      skip
      try go_wp2_with fail
      refine hK.out _ _ ?_ (fun hHeld => ?_)
      ·(try dsimp only); (try trivial)
      clear hK K
      try simp only [zP]
      refine wpAnyH_done (by kernel_rfl) ?_ _
      clear hcz hfz
      have hrs : RS (fun i => i < w2.heap.size) wa 6 ⟨A9, (k + 1 + 1), c9⟩ (mv.flatMap pubC ++ pubC (ct, m)) := ⟨Rd.of_own hoC, fun _ a ha hb => by have h9 := (hoC.lt a.block (by simp only at ha; subst ha; rfl)).1; have h8 : a.block < w2.heap.size := hb; omega, hle9⟩
      have hw2 := HB2.out.lt
      refine hK0 _ _ (Met.intro (hJ0 _ _ ?_))
      (repeat apply Exists.intro)
      refine ⟨?_, rfl⟩
      exact ⟨rfl, _, _, hrs.keep ((Keeps.refl (fun i => i = w.heap.size) wa).set_ (b := w.heap.size) rfl 0 _) (fun i hi => .inl (by show i < _; omega)), (HB0.out.ext hL).set_ 0 _, (HB2.out.ext hL).far (p := ⟨w.heap.size, 0, none⟩) (by show w.heap.size + 2 ≠ w.heap.size; omega) _, (hE.trans hL).growB ((ExtB.refl w.heap.size wa).set_ 0 _) (Nat.le_refl _)⟩
    case rest =>
    obtain ⟨rfl, A9, c9, hrs, hYb, hYz, hEF⟩ := hcut
    generalize wc = wF at *
    have Hrs := zi hrs; have HEF := zi hEF; have HYb := zi hYb; have HYz := zi hYz; have Hw2 := zi HB2.out.lt
    clear hrs hYb hYz hEF
    go_wp2_with (first | (refine wpList_loadB rfl 74 (.tmp 3) rfl w.heap.size rfl 74 _ HYb.out _ Tryz.underlying74 infoStM ?_) | (refine wpList_storeB rfl 74 (.tmp 6) (.tmp 47) rfl rfl (w.heap.size + 2) _ rfl rfl 74 _ HYz.out infoStM rfl (by simp [Value.oneCell']) ?_; intro w9 hB9 hx9))
    have y0 := hB9.cell 0; have y1 := hB9.cell 1; have y2 := hB9.cell 2
    simp only [List.getElem?_toArray, List.getElem?_cons_succ, List.getElem?_cons_zero] at y0 y1 y2
    have hE9 := HEF.out.growB hx9 (by omega)
    refine bodyPost_ret (v := .tuple #[.agg #[.slice A9 (k + 1 + 1) c9, .slice bA bn bc, .slice lA ln lc], .int .i64 ((k : Int) + 1 + 1), .int .i64 0]) (by simp [results, Tryz.results63, go_sem, y0, y1, y2]) rfl ?_
    have hK := Keeps.grown (Keeps.refl (fun i => i = w.heap.size + 2) wF) hx9 (fun b hb => .inl (by injection hb with hb; exact hb.symm))
    have hw2 := Hw2.out
    have hw3 := HW.out.size
    have hb2s := hb2.size
    obtain rfl := Hpr.out
    refine ⟨⟨⟨A9, (k + 1 + 1), c9⟩, ⟨bA, bn, bc⟩, ⟨lA, ln, lc⟩, mv ++ [(ct, m)], ks⟩, rfl, rfl, ⟨?_, by rw [List.map_append, HS.out.ver]; rfl, fun x hx => ?_, (HS.out.lg.sub (fun i hi => hi.1.1)).ext hE9, HS.out.len⟩, hE9⟩
    ·rw [List.flatMap_append, show [(ct, m)].flatMap pubC = pubC (ct, m) by simp]
     exact (Hrs.out.keep hK (fun i hi => .inl (by show i < _; omega))).sub (fun i hi => by have := hi.2; show i < _; omega)
    ·rcases List.mem_append.1 hx with hx | hx
     ·exact ((HS.out.mem x hx).sub (fun i hi => hi.1.1)).ext hE9
     ·rw [List.mem_singleton] at hx; subst hx; exact (HM.out.sub (fun i hi => hi.1.2)).ext hE9
 ·have hC2 : ((CD : Int) != 0) = true := by simp; exact hC
  have hC3 : ¬ ((CD : Int) = 0) := by omega
  obtain rfl := Hcd.out hC
  go_wp2_with (first | (refine wpList_loadB rfl 74 (.tmp 3) rfl w.heap.size rfl 74 _ HB0.out _ Tryz.underlying74 infoStM ?_) | (refine wpList_storeB rfl 74 (.tmp 6) (.tmp 18) rfl rfl (w.heap.size + 2) _ rfl rfl 74 _ HB2.out infoStM rfl (by simp [Value.oneCell']) ?_; intro w9 hB9 hx9))
  have y0 := hB9.cell 0; have y1 := hB9.cell 1; have y2 := hB9.cell 2
  simp only [List.getElem?_toArray, List.getElem?_cons_succ, List.getElem?_cons_zero] at y0 y1 y2
  have hE9 := hE.growB hx9 (by omega)
  refine bodyPost_ret (v := .tuple #[.agg #[.slice iA n ic, .slice bA bn bc, .slice lA ln lc], .int .i64 0, .int .i64 (CD : Nat)]) (by simp [results, Tryz.results63, go_sem, y0, y1, y2]) rfl ?_
  exact ⟨⟨⟨iA, n, ic⟩, ⟨bA, bn, bc⟩, ⟨lA, ln, lc⟩, mv, ks⟩, rfl, rfl, (HS.out.sub (fun i hi => hi.1.1)).ext hE9, hE9⟩
end Go.Proofs.YtmckbcbdnckngaaGreatDoor
