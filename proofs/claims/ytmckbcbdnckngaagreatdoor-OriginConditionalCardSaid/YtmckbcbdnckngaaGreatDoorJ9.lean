/- OriginConditional in plain words: what is answered to the two requests. The walk of OriginConditional. -/
import Derived.Test.YtmckbcbdnckngaaGreatDoorJ8
set_option linter.unusedSimpArgs false
set_option linter.unusedVariables false
namespace Go.Proofs.YtmckbcbdnckngaaGreatDoor
open Go.RowKit

def x_HE : ByteArray := ⟨#[72, 69, 65, 68]⟩
def x_in : ByteArray := ⟨#[105, 102, 45, 110, 111, 110, 101, 45, 109, 97, 116, 99, 104]⟩
def x_im : ByteArray := ⟨#[105, 102, 45, 109, 97, 116, 99, 104]⟩
def tgT (k : Nat) : ByteArray := ⟨#[34]⟩ ++ decV (k : Int) ++ ⟨#[34]⟩
def meT (b : Bool) : ByteArray := if b then x_HE else x_ge
def rqC (b : Bool) (k : Nat) : Rq := ⟨meT b, x_sa, [(x_ho, x_ec), (x_in, tgT k)]⟩
def rqM (b : Bool) (k : Nat) : Rq := ⟨meT b, x_sa, [(x_ho, x_ec), (x_im, tgT k)]⟩
def orgP (body : ByteArray) : Org := ⟨[(0, pageV body [])], [], []⟩
theorem c_pub {body : ByteArray} (h : body.size ≤ 65536) : pubS org0 0 (pageV body []) = (((0 + 1 : Nat) : Int), 0, orgP body) :=
  pub_ok (o := org0) (t := 0) (by unfold bigVr pageV; simp; omega) (by decide) (by kernel_rfl) (fun p hp => by cases hp)
/-- What is answered. -/
structure CdS (body : ByteArray) (b : Bool) (k : Nat) : Prop where
  s1 : (answS (orgP body) 1 (rqC b k)).1 = if k = 1 then 304 else 200
  g1 : getO (answS (orgP body) 1 (rqC b k)).2.1 x_et = some x_q1
  b1 : (answS (orgP body) 1 (rqC b k)).2.2.1 = if k = 1 || b then ⟨#[]⟩ else body
  s2 : (answS (answS (orgP body) 1 (rqC b k)).2.2.2 1 (rqM b k)).1 = if k = 1 then 200 else 412
  b2 : (answS (answS (orgP body) 1 (rqC b k)).2.2.2 1 (rqM b k)).2.2.1 = if k = 1 && !b then body else ⟨#[]⟩
  lg : (answS (orgP body) 1 (rqC b k)).2.2.2.lg.length = 1
  br : (answS (orgP body) 1 (rqC b k)).2.2.2.br.length = 0
set_option maxRecDepth 100000 in
theorem cdS (body : ByteArray) (b : Bool) (k : Nat) (hk : k < 3) : CdS body b k := by
  have h : k = 0 ∨ k = 1 ∨ k = 2 := by omega
  rcases h with rfl | rfl | rfl <;> cases b <;> exact ⟨by kernel_rfl, by kernel_rfl, by kernel_rfl, by kernel_rfl, by kernel_rfl, by kernel_rfl, by kernel_rfl⟩
end Go.Proofs.YtmckbcbdnckngaaGreatDoor

namespace Go.Proofs.YtmckbcbdnckngaaGreatDoor
open Go.RowKit

set_option maxHeartbeats 16000000 in
set_option maxRecDepth 100000 in
theorem cond_walk (body : ByteArray) (A : Option Addr) (n c : Nat) (tag : Nat) (me : Bool) (w : World) (hr : Rd w 1 A n (bytC body)) (ht : tag ≤ 255) (hg : Gl w) (hh : GlH w) (hp : GlP w) :
    Calls Tryz.prog 5 #[.slice A n c, .int .u8 tag, .bool me] w fun e w' => e = .returned (.bool true) ∧ Ext w w' := by
  have hn : body.size = n := by have := hr.1; rw [bytC_len] at this; omega
  have HEg := Lib.hid (fun w' (hx : Ext w w') => (⟨hg.ext hx, hh.ext hx, hp.ext hx⟩ : Gl w' ∧ GlH w' ∧ GlP w'))
  clear hg hh hp
  by_cases hbig : 2000 < n
  · have f1 : (2000 : Int) < n := by omega
    go_enter Tryz.func5, Tryz.ntmps5
    go_wp2_with fail
    refine (law_awake _ (HEg.out _ (Ext.refl _)).1 (HEg.out _ (Ext.refl _)).2.1 (HEg.out _ (Ext.refl _)).2.2).mono ?_; rintro e w1 ⟨rfl, hb1⟩
    go_wp2_with fail
    go_ret
    exact ⟨rfl, hb1⟩
  have f1 : ¬ ((2000 : Int) < n) := by omega
  have HCd := Lib.hid (cdS body me (tag % 3) (by omega))
  have HPb := Lib.hid (c_pub (body := body) (by omega))
  have HSz := Lib.hid (show SzV (pageV body []) from ⟨by show x_ad.size ≤ _; decide, by show 1 ≤ _; omega, by show sumF [(x_et, x_q1)] ≤ _; decide, by show body.size ≤ _; omega, by show 0 ≤ _; omega, fun x hx => by cases hx⟩)
  have Hn := Lib.hid hn
  obtain ⟨k, hk⟩ : ∃ k : Nat, tag % 3 = k := ⟨_, rfl⟩
  have q1 : IntKind.i64.wrap (tag : Int) = (tag : Int) := IntWalk.i64_in _ (by omega)
  have q3 : ((tag : Int)).tmod 3 = ((tag % 3 : Nat) : Int) := by rw [Int.tmod_eq_emod_of_nonneg (by omega)]; rfl
  rw [hk] at q3 HCd
  have Hk := Lib.hid (show k < 3 by omega)
  have q4 : IntKind.i64.wrap (k : Int) = (k : Int) := IntWalk.i64_in _ (by omega)
  have q5 : IntKind.u8.wrap (k : Int) = (k : Int) := by have := Hk.out; show (k : Int) % 256 = k; omega
  have HDg := Lib.hid (fun w' => base_DigitsN (k : Int) w' (by omega) (by have := Hk.out; omega))
  obtain ⟨⟨S1, F1, B1, o1⟩, ha1⟩ : ∃ X, answS (orgP body) 1 (rqC me k) = X := ⟨_, rfl⟩
  obtain ⟨⟨S2, F2, B2, o2⟩, ha2⟩ : ∃ X, answS o1 1 (rqM me k) = X := ⟨_, rfl⟩
  obtain ⟨cs1, cg1, cb1, cs2, cb2, clg, cbr⟩ := HCd.out
  rw [ha1] at cs1 cg1 cb1 cs2 cb2 clg cbr
  simp only at cs1 cg1 cb1 cs2 cb2 clg cbr
  rw [ha2] at cs2 cb2
  simp only at cs2 cb2
  have HA1 := Lib.hid ha1; have HA2 := Lib.hid ha2; have HC := Lib.hid (⟨cs1, cg1, cb1, cs2, cb2⟩ : _ ∧ _ ∧ _ ∧ _ ∧ _); have HL := Lib.hid (⟨clg, cbr⟩ : _ ∧ _)
  clear hk hn hbig HCd ha1 ha2 cs1 cg1 cb1 cs2 cb2 clg cbr
  have Hme := Lib.hid (show meT me = if me then x_HE else x_ge from rfl)
  have Hrq1 := Lib.hid (show rqC me k = ⟨meT me, x_sa, [(x_ho, x_ec), (x_in, tgT k)]⟩ from rfl)
  have Hrq2 := Lib.hid (show rqM me k = ⟨meT me, x_sa, [(x_ho, x_ec), (x_im, tgT k)]⟩ from rfl)
  go_enter Tryz.func5, Tryz.ntmps5
  go_wp2_with fail
  refine (law_awake _ (HEg.out _ (Ext.refl _)).1 (HEg.out _ (Ext.refl _)).2.1 (HEg.out _ (Ext.refl _)).2.2).mono ?_; rintro e w1 ⟨rfl, hb1⟩
  go_wp2_with fail
  refine (or_New _).mono ?_; rintro e w2 ⟨rfl, hO2, hb2⟩
  have HE2 := Lib.hid (hb1.trans hb2)
  have hcv := conv_BE (c := c) (hr.ext HE2.out)
  go_wp2_with fail
  refine (law_page body none 0 0 [] w2 (Rd.none_ _ _ _) (by decide) (by have := Hn.out; omega)).mono ?_; rintro e w3 ⟨m, rfl, hver, hAt, hb3⟩
  have HE3 := Lib.hid (HE2.out.trans hb3)
  have HPub := Lib.hid (pub_v (hO2.ext hb3) hAt hver HSz.out HPb.out (HEg.out _ HE3.out).1)
  have HW := Lib.hid hb1.size
  clear hO2 hAt hver hb2 hb3 hb1 hcv HSz HPb
  obtain ⟨vaddr, vstatus, f, vbody, vars, ⟨vfA, vfn, vfc⟩, ⟨vbA, vbn, vbc⟩, ⟨vA, vn, vc⟩⟩ := m
  simp only [MV.cells, Sl.v] at HPub ⊢
  generalize w1.heap.size = p at *
  go_wp2_with fail
  refine HPub.out.mono ?_; rintro e w4 ⟨rfl, R4, ⟨M4, hO4⟩, hk4, hR4a, hR4b⟩
  have HE4 := Lib.hid (HE3.out.keeps hk4 (fun i hi => by rw [show i = p from hi]; exact HW.out))
  have HR4 := Lib.hid (fun i (hi : R4 i) => (hR4b i hi).elim (fun h => show w.heap.size ≤ i from by rw [show i = p from h]; exact HW.out) (fun h => by have := HE3.out.size; omega))
  have HO4 := Lib.hid hO4
  clear hk4 hR4a hR4b hO4 HPub HE3 HE2
  rw [show errV 0 = .nilIface from rfl]
  go_upto_if 39 with fail
  go_cut [10] (fun v wx => v = .string (meT me) ∧ w4 = wx)
  case first =>
    have h1 := Hme.out
    cases me
    · go_wp2_with fail
      go_meet
      exact ⟨by rw [h1]; rfl, rfl⟩
    · go_wp2_with fail
      go_meet
      exact ⟨by rw [h1]; rfl, rfl⟩
  case rest =>
  obtain ⟨rfl, rfl⟩ := hcut
  go_wp2_with fail
  refine (HDg.out _).mono ?_; rintro e w5 ⟨rfl, hb5⟩
  have HE5 := Lib.hid (HE4.out.trans hb5)
  have HO5 := Lib.hid (HO4.out.ext hb5)
  have hR5 := HO5.out.low
  clear hb5
  have hz1 : (decV (k : Int)).size ≤ 20 := decV_size (by have := Hk.out; omega)
  have hz2 : ((⟨#[34]⟩ : ByteArray) ++ decV (k : Int)).size ≤ 21 := by rw [ByteArray.size_append]; show 1 + _ ≤ _; omega
  have HT := Lib.hid (show tgT k = ⟨#[34]⟩ ++ decV (k : Int) ++ ⟨#[34]⟩ from rfl)
  go_wp2_with fail
  have ht0 : (⟨#[34]⟩ ++ decV (k : Int) ++ ⟨#[34]⟩ : ByteArray) = tgT k := HT.out.symm
  rw [ht0]
  have Hz3 := Lib.hid (show (tgT k).size ≤ 22 by rw [← ht0, ByteArray.size_append]; show _ + 1 ≤ _; omega)
  clear ht0 hz1 hz2
  have HB0 := Lib.hid (Rd.two w5 (.string x_in) (.string (tgT k)) 51 rfl)
  have HEa := Lib.hid (HE5.out.alloc (.cells #[.string x_in, .string (tgT k)] 51))
  have HOa := Lib.hid (HO5.out.ext ((Ext.refl w5).alloc (.cells #[.string x_in, .string (tgT k)] 51)))
  go_wp2_with fail
  unfold x_in at HB0 HEa HOa
  generalize w5.alloc (.cells #[.string ⟨#[105, 102, 45, 110, 111, 110, 101, 45, 109, 97, 116, 99, 104]⟩, .string (tgT k)] 51) = w6 at *
  refine (law_get (meT me) _ 1 1 [(x_in, tgT k)] w6 HB0.out (by decide)).mono ?_; rintro e w7 ⟨⟨gA, gn, gc⟩, rfl, hg7, hb7⟩
  have HE7 := Lib.hid (HEa.out.trans hb7)
  have HO7 := Lib.hid (HOa.out.ext hb7)
  obtain ⟨hFz, hAn⟩ := (ans_s (t := 1) (me := meT me) (ta := x_sa) HO7.out hg7 (by have := Hz3.out; simp only [sumF, List.map_cons, List.map_nil, List.sum_cons, List.sum_nil, show x_ho.size = 4 from rfl, show x_ec.size = 11 from rfl, show x_in.size = 13 from rfl, List.length_cons, List.length_nil]; omega) (by decide) (by show 0 ≤ _; omega) (by show 0 ≤ _; omega) (HEg.out _ HE7.out) HA1.out)
  have HAn := Lib.hid hAn
  have HFz := Lib.hid hFz
  clear hAn hFz
  simp only [Sl.v] at HAn ⊢
  clear hb7 hg7 hR5 HE4 HE5 HO4 HO5 HB0
  go_wp2_with fail
  refine HAn.out.mono ?_; rintro e w8 ⟨⟨sA, sn, sc⟩, ⟨tA, tn, tc⟩, rfl, R8, ⟨M8, hO8⟩, hs8, ht8, hk8, -, hR8b⟩
  have HE8 := Lib.hid (HE7.out.keeps hk8 HR4.out)
  have HR8 := Lib.hid (fun i (hi : R8 i) => (hR8b i hi).elim (HR4.out i) (fun h => by have := HE7.out.size; omega))
  have HX8 := Lib.hid ((Ext.refl w8).alloc (.cells #[.int .i64 S1, .slice sA sn sc] 38))
  have HB8 := Lib.hid (Blk.new w8 38 #[.int .i64 S1, .slice sA sn sc])
  have HO8 := Lib.hid (hO8.ext HX8.out)
  have HE9 := Lib.hid (HE8.out.trans HX8.out)
  have Hs8 := Lib.hid (hs8.ext HX8.out)
  have Ht8 := Lib.hid (ht8.ext HX8.out)
  have Ht8n := Lib.hid (show B1.size = tn by have := ht8.len1; rw [bytC_len] at this; exact this)
  have Hn8 := Lib.hid (show ¬ R8 w8.heap.size from fun h => by have := hO8.low _ h; omega)
  clear hk8 hR8b hO8 hs8 ht8 HAn HX8 HE8
  have HBb := Lib.hid (Rd.two (w8.alloc (.cells #[.int .i64 S1, .slice sA sn sc] 38)) (.string x_im) (.string (tgT k)) 51 (b := w8.heap.size + 1) (by simp))
  have HXb := Lib.hid ((Ext.refl (w8.alloc (.cells #[.int .i64 S1, .slice sA sn sc] 38))).alloc (.cells #[.string x_im, .string (tgT k)] 51))
  have HEb := Lib.hid (HE9.out.trans HXb.out)
  have HOb := Lib.hid (HO8.out.ext HXb.out)
  have Hsb := Lib.hid (Hs8.out.ext HXb.out)
  have Htb := Lib.hid (Ht8.out.ext HXb.out)
  have HRb := Lib.hid ((HB8.out.alloc (.cells #[.string x_im, .string (tgT k)] 51)))
  clear HE9 HO8 Hs8 Ht8 HB8 HXb
  go_wp2_with fail
  unfold x_im at HBb HEb HOb Hsb Htb HRb
  generalize (w8.alloc (.cells #[.int .i64 S1, .slice sA sn sc] 38)).alloc (.cells #[.string ⟨#[105, 102, 45, 109, 97, 116, 99, 104]⟩, .string (tgT k)] 51) = w9 at *
  refine (law_get (meT me) _ 1 1 [(x_im, tgT k)] w9 HBb.out (by decide)).mono ?_; rintro e w10 ⟨⟨gA2, gn2, gc2⟩, rfl, hg10, hb10⟩
  have HE10 := Lib.hid (HEb.out.trans hb10)
  have HO10 := Lib.hid (HOb.out.ext hb10)
  have HAn := Lib.hid (ans_v (t := 1) (me := meT me) (ta := x_sa) HO10.out hg10 (by have := Hz3.out; simp only [sumF, List.map_cons, List.map_nil, List.sum_cons, List.sum_nil, show x_ho.size = 4 from rfl, show x_ec.size = 11 from rfl, show x_im.size = 8 from rfl, List.length_cons, List.length_nil]; omega) (by decide) (by rw [HL.out.2]; decide) (by rw [HL.out.1]; decide) (HEg.out _ HE10.out) HA2.out)
  simp only [Sl.v] at HAn ⊢
  have Hs10 := Lib.hid (Hsb.out.ext hb10)
  have Ht10 := Lib.hid (Htb.out.ext hb10)
  have HR10 := Lib.hid (HRb.out.ext hb10)
  clear hb10 hg10 HEb HOb Hsb Htb HRb HBb
  go_wp2_with fail
  refine HAn.out.mono ?_; rintro e w11 ⟨⟨uA, un, uc⟩, ⟨vA2, vn2, vc2⟩, rfl, R11, -, -, ht11, hk11, -, -⟩
  have HE11 := Lib.hid (HE10.out.keeps hk11 HR8.out)
  have HX11 := Lib.hid ((Ext.refl w11).alloc (.cells #[.int .i64 S2, .slice uA un uc] 38))
  have HE12 := Lib.hid (HE11.out.trans HX11.out)
  have HR12 := Lib.hid ((HR10.out.keep hk11 Hn8.out).ext HX11.out)
  have hs12 := (Hs10.out.keep hk11 (fun i hi => .inl (.inr hi))).ext HX11.out
  have hB12 := Blk.new w11 38 #[.int .i64 S2, .slice uA un uc]
  have hvn : B2.size = vn2 := by have := ht11.len1; rw [bytC_len] at this; exact this
  have htn : B1.size = tn := Ht8n.out
  have HGt := Lib.hid (get_F x_et (by decide) hs12 HFz.out)
  rw [HC.out.2.1, show getV (some x_q1) = .tuple #[.string x_q1, .bool true] from rfl] at HGt
  obtain ⟨c1, -, c3, c4, c5⟩ := HC.out
  have hnb := Hn.out
  clear ht11 hk11 HAn HL HA1 HA2 Hrq1 Hrq2 Hn8 HR8 HR4 HE11 HE10 hs12 Hs10 Ht10 HR10 HEg Hme HDg Hz3 HX11
  have h0 : (w11.alloc (.cells #[.int .i64 S2, .slice uA un uc] 38)).cell? ⟨w8.heap.size, 0, none⟩ = some (.int .i64 S1) := HR12.out.cell 0
  have h1 : (w11.alloc (.cells #[.int .i64 S2, .slice uA un uc] 38)).cell? ⟨w8.heap.size, 1, none⟩ = some (.slice sA sn sc) := HR12.out.cell 1
  have h2 : (w11.alloc (.cells #[.int .i64 S2, .slice uA un uc] 38)).cell? ⟨w11.heap.size, 0, none⟩ = some (.int .i64 S2) := hB12.cell 0
  have hqx : (x_q1.toList == [34, 49, 34]) = true := by decide +kernel
  generalize x_q1 = xq at *
  by_cases hk1 : k = 1
  · subst hk1
    rw [if_pos rfl] at c1 c4
    subst c1 c4
    obtain rfl : tn = 0 := by rw [← htn, c3]; rfl
    cases me
    · obtain rfl : vn2 = n := by rw [← hvn, c5, ← hnb]; rfl
      go_wp2_with fail
      refine HGt.out.mono ?_; rintro e w13 ⟨rfl, hb13⟩
      have h0' := hb13.cell h0
      have h2' := hb13.cell h2
      go_wp2_with fail
      go_ret
      exact ⟨rfl, HE12.out.trans hb13⟩
    · obtain rfl : vn2 = 0 := by rw [← hvn, c5]; rfl
      go_wp2_with fail
      refine HGt.out.mono ?_; rintro e w13 ⟨rfl, hb13⟩
      have h0' := hb13.cell h0
      have h2' := hb13.cell h2
      go_wp2_with fail
      go_ret
      exact ⟨rfl, HE12.out.trans hb13⟩
  · rw [if_neg hk1] at c1 c4
    subst c1 c4
    have hq : ((k : Int) == 1) = false := by rw [beq_eq_false_iff_ne]; omega
    obtain rfl : vn2 = 0 := by rw [← hvn, c5, decide_eq_false hk1]; rfl
    cases me
    · obtain rfl : tn = n := by rw [← htn, c3, ← hnb, decide_eq_false hk1]; rfl
      go_wp2_with fail
      refine HGt.out.mono ?_; rintro e w13 ⟨rfl, hb13⟩
      have h0' := hb13.cell h0
      have h2' := hb13.cell h2
      go_wp2_with fail
      go_ret
      exact ⟨rfl, HE12.out.trans hb13⟩
    · obtain rfl : tn = 0 := by rw [← htn, c3, decide_eq_false hk1]; rfl
      go_wp2_with fail
      refine HGt.out.mono ?_; rintro e w13 ⟨rfl, hb13⟩
      have h0' := hb13.cell h0
      have h2' := hb13.cell h2
      go_wp2_with fail
      go_ret
      exact ⟨rfl, HE12.out.trans hb13⟩
theorem cond_walkI (body : ByteArray) (s : Sl) (x : Int) (me : Bool) (w : World) (hr : RS (fun _ => False) w 1 s (bytC body)) (hx : 0 ≤ x ∧ x ≤ 255) (hg : Gl w) (hh : GlH w) (hp : GlP w) :
    Calls Tryz.prog 5 #[s.v, .int .u8 x, .bool me] w fun e w' => e = .returned (.bool true) ∧ Ext w w' := by
  obtain ⟨a, rfl⟩ := Int.eq_ofNat_of_zero_le hx.1
  exact cond_walk body s.A s.n s.c a me w hr.rd (by omega) hg hh hp
end Go.Proofs.YtmckbcbdnckngaaGreatDoor
