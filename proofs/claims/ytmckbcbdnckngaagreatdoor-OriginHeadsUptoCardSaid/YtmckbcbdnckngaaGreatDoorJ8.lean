/- Walks of functions that the proof needs, and plain laws on what they compute. No condition beyond those that each one states. -/
import Derived.Test.YtmckbcbdnckngaaGreatDoorJ7
set_option maxHeartbeats 32000000
set_option maxRecDepth 100000
set_option linter.unusedSimpArgs false
set_option linter.unusedVariables false
namespace Go.Proofs.YtmckbcbdnckngaaGreatDoor
open Go.RowKit

def x_ir : ByteArray := ⟨#[105, 102, 45, 114, 97, 110, 103, 101]⟩
def x_G : ByteArray := ⟨#[71, 69, 84]⟩
def x_H : ByteArray := ⟨#[72, 69, 65, 68]⟩
def cutF (fs : List Fd) : List Fd := remS (remS fs x_rg) x_ir
theorem cut_rg (fs : List Fd) : allS (cutF fs) x_rg = [] := by
 unfold cutF
 rw [allS_rem_other _ (by decide), allS_rem_same]
theorem part_nil {a : Ans} {r : Rq} {s : St} (h : allS r.fs x_rg = []) : partS a r s = a := by unfold partS; rw [h]
theorem xG : x_G.toList = [71, 69, 84] := by rw [ByteArray.toList_eq]; rfl
theorem xH : x_H.toList = [72, 69, 65, 68] := by rw [ByteArray.toList_eq]; rfl
theorem ev_head (fs : List Fd) (s : St) : evF x_H fs s = evF x_G fs s := by
 unfold evF
 rw [show isR x_H = true by unfold isR; rw [xH]; rfl, show isR x_G = true by unfold isR; rw [xG]; rfl]
theorem ver_head {a : Ans} {v : Ver} {ta : ByteArray} {fs : List Fd} (h : allS fs x_rg = []) : verS a v ⟨x_H, ta, fs⟩ = verS a v ⟨x_G, ta, fs⟩ := by
 unfold verS
 simp only [ev_head, part_nil (r := ⟨x_H, ta, fs⟩) h, part_nil (r := ⟨x_G, ta, fs⟩) h]
theorem dec_head (o : Org) (t : Int) (ta : ByteArray) {fs : List Fd} (h : allS fs x_rg = []) : decS55 o t ⟨x_H, ta, fs⟩ = decS55 o t ⟨x_G, ta, fs⟩ := by
 by_cases hb : o.br.any (inSp t) = true
 ·rw [dec_503 hb, dec_503 hb]
 ·have hb' : o.br.any (inSp t) = false := by simpa using hb
  rw [dec_go hb' (.inr (by unfold headQ; rw [xH]; rfl)), dec_go hb' (.inl (by unfold getQ; rw [xG]; rfl))]
  simp only
  split
  ·split
   ·rfl
   ·split
    ·split
     ·rfl
     ·exact ver_head h
    ·rfl
  ·rfl
def noCl (o : Org) : Prop := ∀ x ∈ o.vs, allS x.2.fs x_cl = []
theorem ok_cl {v : Ver} (h : okVr v = true) : allS v.fs x_cl = [] := by
 unfold okVr at h
 simp only [Bool.and_eq_true, sixN, List.all_cons, List.isEmpty_iff] at h
 exact h.1.2.2.2.1
theorem pub_cl {o : Org} (t : Int) (v : Ver) (h : noCl o) : noCl (pubS o t v).2.2 := by
 have hx : okVr v = true → noCl { o with vs := o.vs ++ [(cl55 t, v)] } := fun hv x hm => by
  rcases List.mem_append.1 hm with hm | hm
  ·exact h x hm
  ·rw [List.mem_singleton] at hm; subst hm; exact ok_cl hv
 unfold pubS
 split
 ·exact h
 ·split
  ·exact h
  ·rename_i hv
   have hv' : okVr v = true := by simpa using hv
   split
   ·split
    ·exact h
    ·exact hx hv'
   ·exact hx hv'
theorem act_cl {o : Org} (a : Ac) (h : noCl o) : noCl (actS o a) := by
 unfold actS
 split
 ·exact pub_cl _ _ h
 ·split
  ·exact pub_cl _ _ h
  ·split
   ·split
    ·exact h
    ·exact h
   ·split
    ·exact h
    ·exact h
theorem play_cl (l : List Ac) : noCl (playS l) := by
 have h : ∀ (l : List Ac) (o : Org), noCl o → noCl (l.foldl actS o) := by
  intro l
  induction l with
  | nil => exact fun o h => h
  | cons a l ih => exact fun o h => ih _ (act_cl a h)
 exact h l org0 (fun x hx => by cases hx)
theorem chs_cl {v : Ver} {fs : List Fd} (h : allS v.fs x_cl = []) : ∀ (k : Nat) (l : List Vr), allS (chsS v fs k l).1 x_cl = []
 | _, [] => h
 | k, x :: l => by
  unfold chsS
  split
  ·split
   ·rw [allS_rem_other _ (by decide)]; exact h
   ·rw [allS_set_other _ (by decide)]; exact h
  ·exact chs_cl h (k + 1) l
theorem filt_cl {fs : List Fd} (p : Fd → Bool) (h : allS fs x_cl = []) : allS (fs.filter p) x_cl = [] := by
 unfold allS at h ⊢
 rw [List.map_eq_nil_iff, List.filter_eq_nil_iff] at h ⊢
 exact fun a ha => h a (List.mem_filter.1 ha).1
theorem brief_cl : allS brief x_cl = [] := by
 unfold allS
 rw [List.map_eq_nil_iff, List.filter_eq_nil_iff]
 intro f hf
 rw [show brief = [(x_cc, x_m1)] from rfl, List.mem_singleton] at hf
 subst hf
 rw [isN_iff]; decide
theorem dec_cl {o : Org} {t : Int} {ta : ByteArray} {fs : List Fd} (h : noCl o) (hr : allS fs x_rg = []) : allS (decS55 o t ⟨x_G, ta, fs⟩).fs x_cl = [] := by
 by_cases hb : o.br.any (inSp t) = true
 ·rw [dec_503 hb]; rfl
 ·have hb' : o.br.any (inSp t) = false := by simpa using hb
  rw [dec_go hb' (.inl (by unfold getQ; rw [xG]; rfl))]
  simp only
  split
  ·split
   ·rfl
   ·split
    ·rename_i q hq
     split
     ·exact brief_cl
     ·have hv := h _ (List.mem_of_getElem? hq)
      unfold verS
      simp only
      split
      ·exact chs_cl hv 0 _
      ·split
       ·exact filt_cl _ (chs_cl hv 0 _)
       ·split
        ·rfl
        ·rw [part_nil hr]; exact chs_cl hv 0 _
    ·exact brief_cl
  ·rfl
theorem ansF_cl {A : Ans} {t1 : Int} (h : allS A.fs x_cl = []) : getO (ansF A t1) x_cl = if emS A then none else some (decV A.body.size) := by
 unfold ansF
 split
 ·exact getO_nil (by rw [allS_set_other _ (by decide)]; exact h)
 ·exact getO_one (allS_set_same _ _ _)
end Go.Proofs.YtmckbcbdnckngaaGreatDoor

namespace Go.Proofs.YtmckbcbdnckngaaGreatDoor
open Go.RowKit

theorem infoAcB : (Tryz.prog.info? 68).map (fun i => (i.zero, i.size, i.bytes)) = some (some (.agg #[.int .u8 0, .int .i64 0, .int .i64 0, .string ⟨#[]⟩, .int .i64 0, .slice none 0 0, .slice none 0 0, .slice none 0 0, .string ⟨#[]⟩, .string ⟨#[]⟩, .slice none 0 0]), 11, 176) := by kernel_rfl
theorem acs_one1 (a : Ac) : ∀ u ∈ a.cells, u.oneCell' = true := by
 intro u hu
 simp only [Ac.cells, Sl.v, List.mem_cons, List.not_mem_nil, or_false] at hu
 rcases hu with rfl | rfl | rfl | rfl | rfl | rfl | rfl | rfl | rfl | rfl | rfl <;> rfl
theorem acs_one (l : List Ac) : ∀ u ∈ l.flatMap Ac.cells, u.oneCell' = true := fun u hu => by
 obtain ⟨a, _, h⟩ := List.mem_flatMap.1 hu
 exact acs_one1 a u h
def acX (me ta : ByteArray) (rA : Option Addr) (rn rc : Nat) : Array Value := #[.int .u8 0, .int .i64 0, .int .i64 0, .string ⟨#[]⟩, .int .i64 0, .slice none 0 0, .slice none 0 0, .slice none 0 0, .string me, .string ta, .slice rA rn rc]
def acR (me ta : ByteArray) (rf : List Fd) (rA : Option Addr) (rn rc : Nat) : Ac := ⟨0, 0, 0, ⟨⟨#[]⟩, 0, [], ⟨#[]⟩, [], sl0, sl0, sl0⟩, me, ta, rf, ⟨rA, rn, rc⟩⟩
theorem app_ac (w : World) {ops : Array Oper} {o : Oper} {a : Act} {K : Act → World → Prop} {Q : Exit → Act → World → Prop} {E : Prop} (hgd : o.guard = none) (s x : Operand)
  (ho : o.op = .call { callee := .builtin .append, args := #[s, x], argTypes := #[78, 78] }) (w0 : World) (v : Value) (n : Nat) (xs : List Value) (hs : a.eval s = v) (hown : w.ownsRow w0.heap.size 68 11 v n xs)
  (A : Option Addr) (m c : Nat) (l : List Ac) (hx : a.eval x = .slice A m c) (hr : Rd w 11 A m (l.flatMap Ac.cells)) (hb : Ext w0 w) (hz : n + m ≤ 100000000)
  (h : ∀ A' c' w', w'.ownsRow w0.heap.size 68 11 (.slice A' (n + m) c') (n + m) (xs ++ l.flatMap Ac.cells) → Ext w0 w' → n + m ≤ c' → w.grownBy w' v.ownBlock → K (a.put o.dst (.slice A' (n + m) c')) w') :
  if Region.wanted o (yielded ops a.tmps) = true then Oper.wp Tryz.prog o a w K Q else E :=
 step_appG w hgd s x 78 ho w0 68 _ 11 176 Tryz.underlying78 infoAcB (by simp [Value.cells]) (by decide) v n xs hs hown A m c _ hx hr (acs_one l) hb (by omega) (by decide) h
theorem heads_walk (A : Option Addr) (n c : Nat) (l : List Ac) (t : Int) (me ta : ByteArray) (rA : Option Addr) (rn rc : Nat) (rf : List Fd) (w : World) (h : AcsAt w A n l) (hz : (l.map szA).sum ≤ 100000000) (hn : n ≤ 10000000) (hr : RdF w rA rn rf) (hrc : rn ≤ rc)
  (hrz : sumF rf + 4 * rn + me.size + ta.size ≤ 100000000) (hg : Gl w) (hh : GlH w) (hp : GlP w) :
  Calls Tryz.prog 9 #[.slice A n c, .int .i64 t, .agg #[.string me, .string ta, .slice rA rn rc]] w fun e w' => e = .returned (.bool true) ∧ Ext w w' := by
 have HGp := zi (fun w' (hx : Ext w w') => (⟨hg.ext hx, hh.ext hx, hp.ext hx⟩ : Gl w' ∧ GlH w' ∧ GlP w'))
 have HA := zi h
 have HR := zi (fun w' (hx : Ext w w') => hr.ext hx)
 have hrl := hr.lenF
 have hbz := bszF rf
 have HBz := zi (show Bsz 4611686018427387904 rf from fun f hf => ⟨by have := (hbz f hf).1; omega, by have := (hbz f hf).2; omega⟩)
 have Hpl := zi (fun w' (hx : Ext w w') h1 h2 => law_played A n c l w' (h.ext hx) h1 h2 (hg.ext hx) (hh.ext hx) (hp.ext hx))
 have hzs : ((l ++ [(acR me ta rf rA rn rc)]).map szA).sum = (l.map szA).sum + (ta.size + me.size + (sumF rf + 4 * rf.length)) := by
  rw [List.map_append, List.sum_append]
  have e1 : szA (acR me ta rf rA rn rc) = 0 + 0 + ta.size + me.size + (0 + 4 * 0) + (sumF rf + 4 * rf.length) + 0 := rfl
  simp only [List.map_cons, List.map_nil, List.sum_cons, List.sum_nil, e1]
  omega
 have Hrl := zi hrl
 rw [hrl] at hzs
 have HAll := zi (fun wa (A9 : Option Addr) (c9 : Nat) (hx : Ext (w.alloc (.cells #[.string me, .string ta, .slice rA rn rc] 42)) wa) (hoC : wa.ownsRow (w.alloc (.cells #[.string me, .string ta, .slice rA rn rc] 42)).heap.size 68 11 (.slice A9 (n + 1) c9) (n + 1) (l.flatMap Ac.cells ++ [acR me ta rf rA rn rc].flatMap Ac.cells)) => (show AcsAt wa A9 (n + 1) (l ++ [(acR me ta rf rA rn rc)]) from
  ⟨by rw [List.flatMap_append]; exact Rd.of_own hoC, fun a ha => by
   rcases List.mem_append.1 ha with ha | ha
   ·exact (h.each a ha).ext (((Ext.refl w).alloc _).trans hx)
   ·rw [List.mem_singleton] at ha; subst ha
    exact ⟨⟨RS.nil _ _ _, RS.nil _ _ _, RS.nil _ _ _, fun x hx => by cases hx⟩, ⟨hr.ext (((Ext.refl w).alloc _).trans hx), fun _ _ _ hf => hf, hrc⟩⟩, fun a ha => by
   rcases List.mem_append.1 ha with ha | ha
   ·exact h.sm a ha
   ·rw [List.mem_singleton] at ha; subst ha
    exact ⟨Nat.zero_le _, fun x hx => by cases hx⟩⟩))
 obtain ⟨Z, hZ⟩ : ∃ Z, ((l ++ [(acR me ta rf rA rn rc)]).map szA).sum = Z := ⟨_, rfl⟩
 rw [hZ] at hzs
 clear h hr hg hh hp hbz hrl
 obtain ⟨bL, hbL⟩ : ∃ b : Bool, (decide (5000 < ((l ++ [acR me ta rf rA rn rc]).map szA).sum) || decide (30 < n + 1)) = b := ⟨_, rfl⟩
 have HbL := zi hbL
 have HLt := zi (fun (h : 5000 < Z ∨ 30 < n + 1) => (show bL = true by rw [← hbL, hZ]; rcases h with h | h <;> simp [h]))
 have HLf := zi (fun (h : ¬ (5000 < Z ∨ 30 < n + 1)) => (show bL = false by rw [← hbL, hZ, Bool.or_eq_false_iff]; exact ⟨decide_eq_false (by omega), decide_eq_false (by omega)⟩))
 clear hbL
 have HB5 := zi (Blk.new w 42 #[.string me, .string ta, .slice rA rn rc])
 have HE0 := zi ((Ext.refl w).alloc (.cells #[.string me, .string ta, .slice rA rn rc] 42))
 have Hb5 := zi (show w.heap.size < (w.alloc (.cells #[.string me, .string ta, .slice rA rn rc] 42)).heap.size by simp)
 go_enter Tryz.func9, Tryz.ntmps9
 go_upto_region 1 with fail
 generalize (w.alloc (.cells #[.string me, .string ta, .slice rA rn rc] 42)) = W0 at *
 have HS := zi (fun w' (hx : Ext W0 w') => (⟨(HB5.out.ext hx).cell 0, (HB5.out.ext hx).cell 1, (HB5.out.ext hx).cell 2⟩ : w'.cell? ⟨w.heap.size, 0, none⟩ = some (.string me) ∧ w'.cell? ⟨w.heap.size, 1, none⟩ = some (.string ta) ∧ w'.cell? ⟨w.heap.size, 2, none⟩ = some (.slice rA rn rc)))
 go_cut [33] (fun v wx => ∃ b : Bool, v = .bool b ∧ (b = false → Z ≤ 5000 ∧ n + 1 ≤ 30) ∧ Ext W0 wx)
 case first =>
  rename_i J9 K9 hJ9 hK9
  have hL := (Ext.refl W0).drew
  refine wp_region_held_drew (S := (fun w' => w'.cell? ⟨w.heap.size, 0, none⟩ = some (.string me) ∧ w'.cell? ⟨w.heap.size, 1, none⟩ = some (.string ta) ∧ w'.cell? ⟨w.heap.size, 2, none⟩ = some (.slice rA rn rc))) (by kernel_rfl) ?_ (fun hHeld => ?_)
  ·(try dsimp only); exact HS.out _ hL
  refine zH (v := ?_) 1 (some 17) rfl ?_ ?_; rotate_left
  ·(intro w hSw; (try dsimp only at hSw); go_simp; (try with_reducible rfl))
  try simp only [zP]
  refine zH (v := ?_) 3 (some 19) rfl ?_ ?_; rotate_left
  ·(intro w hSw; (try dsimp only at hSw); go_simp; (try with_reducible rfl))
  try simp only [zP]
  refine zH (v := ?_) 4 (some 20) rfl ?_ ?_; rotate_left
  ·(intro w hSw; (try dsimp only at hSw); go_simp; (try with_reducible rfl))
  try simp only [zP]
  refine wpAnyH_ready (rs := [0, 5]) (by kernel_rfl) (by simp) ?_
  refine AllReadyH.cons (o := ⟨some 16, _, _, _, _, _⟩) rfl (fun K hK => ?_) (AllReadyH.cons (o := ⟨some 21, _, _, _, _, _⟩) rfl (fun K hK => ?_) AllReadyH.nil)
  ·have hoA := own_made55 (e := 68) (k := 11) hL; replace hL := hL.alloc (.cells #[] 68)
   go_simp
   try go_wp2_with fail
   refine hK.out _ _ ?_ (fun hHeld => ?_)
   ·(try dsimp only); exact HS.out _ hL
   clear hK K
   try simp only [zP]
   refine wpAnyH_ready (rs := [2, 5]) (by kernel_rfl) (by simp) ?_
   refine AllReadyH.cons (o := ⟨some 18, _, _, _, _, _⟩) rfl (fun K hK => ?_) (AllReadyH.cons (o := ⟨some 21, _, _, _, _, _⟩) rfl (fun K hK => ?_) AllReadyH.nil)
   ·refine app_ac _ rfl (.tmp 16) (.tmp 17) rfl W0 _ _ _ rfl hoA A n c l rfl (HA.out.rd.ext (HE0.out.trans hL)) hL (by omega) ?_; intro A6 c6 w6 hoB hb6 hle6 hg6; rw [Nat.zero_add] at hoB hle6 ⊢; rw [List.nil_append] at hoB; replace hL := hb6; clear hb6 hg6
    refine hK.out _ _ ?_ (fun hHeld => ?_)
    ·(try dsimp only); exact HS.out _ hL
    clear hK K
    try simp only [zP]
    refine wpAnyH_ready (rs := [5]) (by kernel_rfl) (by simp) ?_
    refine AllReadyH.cons (o := ⟨some 21, _, _, _, _, _⟩) rfl (fun K hK => ?_) AllReadyH.nil
    have hr5 := rd_lit55 hL (acX me ta rA rn rc) 68 11 rfl; replace hoB := hoB.alloc (.cells (acX me ta rA rn rc) 68); replace hL := hL.alloc (.cells (acX me ta rA rn rc) 68)
    go_simp
    try go_wp2_with fail
    refine hK.out _ _ ?_ (fun hHeld => ?_)
    ·(try dsimp only); exact HS.out _ hL
    clear hK K
    try simp only [zP]
    refine wpAnyH_ready (rs := [6]) (by kernel_rfl) (by simp) ?_
    refine AllReadyH.cons (o := ⟨some 22, _, _, _, _, _⟩) rfl (fun K hK => ?_) AllReadyH.nil
    refine app_ac _ rfl (.tmp 18) (.tmp 21) rfl W0 _ _ _ rfl hoB _ 1 1 [acR me ta rf rA rn rc] rfl hr5 hL (by omega) ?_; intro A9 c9 wa hoC hb9 hle9 hg9; have hAc := HAll.out wa A9 c9 hb9 hoC; replace hL := hb9; clear hb9 hg9
    refine hK.out _ _ ?_ (fun hHeld => ?_)
    ·(try dsimp only); exact HS.out _ hL
    clear hK K
    try simp only [zP]
    refine wpAnyH_ready (rs := [7]) (by kernel_rfl) (by simp) ?_
    refine AllReadyH.cons (o := ⟨some 23, _, _, _, _, _⟩) rfl (fun K hK => ?_) AllReadyH.nil
    go_simp
    refine (act_large A9 (n + 1) c9 _ _ hAc (by omega) (by omega)).mono ?_; rintro e w7 ⟨rfl, hb7⟩; rw [HbL.out]; replace hL := hL.trans hb7; clear hb7
    try go_wp2_with fail
    refine hK.out _ _ ?_ (fun hHeld => ?_)
    ·(try dsimp only); exact HS.out _ hL
    clear hK K
    try simp only [zP]
    by_cases hL2 : 5000 < Z ∨ 30 < n + 1
    ·rw [HLt.out hL2]
     refine zH (v := ?_) 8 (some 24) rfl ?_ ?_; rotate_left
     ·(intro w hSw; (try dsimp only at hSw); go_simp; (try with_reducible rfl))
     try simp only [zP]
     refine wpAnyH_take (i := 9) (oi := ⟨some 25, _, _, _, _, _⟩) (v := undef) rfl (by kernel_rfl) (by kernel_rfl) (by kernel_rfl) (fun _ _ _ h => h) (Or.inr ⟨by rfl, rfl⟩) (by assumption) ?_
     try simp only [zP]
     refine wpAnyH_take (i := 10) (oi := ⟨some 26, _, _, _, _, _⟩) (v := undef) rfl (by kernel_rfl) (by kernel_rfl) (by kernel_rfl) (fun _ _ _ h => h) (Or.inr ⟨by rfl, rfl⟩) (by assumption) ?_
     try simp only [zP]
     refine wpAnyH_ready (rs := [11]) (by kernel_rfl) (by simp) ?_
     refine AllReadyH.cons (o := ⟨some 27, _, _, _, _, _⟩) rfl (fun K hK => ?_) AllReadyH.nil
     rw [if_neg]; rotate_left
     ·exact Bool.eq_false_iff.1 rfl
     refine hK.out _ _ ?_ (fun hHeld => ?_)
     ·(try dsimp only); exact HS.out _ hL
     clear hK K
     try simp only [zP]
     refine wpAnyH_take (i := 12) (oi := ⟨some 28, _, _, _, _, _⟩) (v := undef) rfl (by kernel_rfl) (by kernel_rfl) (by kernel_rfl) (fun _ _ _ h => h) (Or.inr ⟨by rfl, rfl⟩) (by assumption) ?_
     try simp only [zP]
     refine zH (v := ?_) 13 (some 29) rfl ?_ ?_; rotate_left
     ·(intro w hSw; (try dsimp only at hSw); go_simp; (try with_reducible rfl))
     try simp only [zP]
     refine zH (v := ?_) 14 (some 30) rfl ?_ ?_; rotate_left
     ·(intro w hSw; (try dsimp only at hSw); go_simp; (try with_reducible rfl))
     try simp only [zP]
     refine wpAnyH_ready (rs := [15]) (by kernel_rfl) (by simp) ?_
     refine AllReadyH.cons (o := ⟨some 31, _, _, _, _, _⟩) rfl (fun K hK => ?_) AllReadyH.nil
     rw [if_neg]; rotate_left
     ·exact Bool.eq_false_iff.1 rfl
     refine hK.out _ _ ?_ (fun hHeld => ?_)
     ·(try dsimp only); exact HS.out _ hL
     clear hK K
     try simp only [zP]
     refine wpAnyH_take (i := 16) (oi := ⟨some 32, _, _, _, _, _⟩) (v := undef) rfl (by kernel_rfl) (by kernel_rfl) (by kernel_rfl) (fun _ _ _ h => h) (Or.inr ⟨by rfl, rfl⟩) (by assumption) ?_
     try simp only [zP]
     refine zH (v := ?_) 17 (some 33) rfl ?_ ?_; rotate_left
     ·(intro w hSw; (try dsimp only at hSw); go_simp; (try with_reducible rfl))
     try simp only [zP]
     refine wpAnyH_done (by kernel_rfl) ?_ _
     refine hK9 _ _ (Met.intro (hJ9 _ _ ?_))
     (repeat apply Exists.intro)
     refine ⟨?_, rfl⟩
     exact ⟨true, rfl, fun h => (by cases h), hL⟩
    rw [HLf.out hL2]
    rcases errV_eq0 (chkS rf) with ⟨-, hck⟩ | ⟨-, hck⟩
    ·refine zH (v := ?_) 8 (some 24) rfl ?_ ?_; rotate_left
     ·(intro w hSw; (try dsimp only at hSw); go_simp; (try with_reducible rfl))
     try simp only [zP]
     refine zH (v := ?_) 9 (some 25) rfl ?_ ?_; rotate_left
     ·(intro w hSw; (try dsimp only at hSw); go_simp; (try with_reducible rfl))
     try simp only [zP]
     refine zH (v := ?_) 10 (some 26) rfl ?_ ?_; rotate_left
     ·(intro w hSw; (try dsimp only at hSw); go_simp; (try with_reducible rfl))
     try simp only [zP]
     refine wpAnyH_ready (rs := [11]) (by kernel_rfl) (by simp) ?_
     refine AllReadyH.cons (o := ⟨some 27, _, _, _, _, _⟩) rfl (fun K hK => ?_) AllReadyH.nil
     go_simp
     refine (field_Check rA rn rc rf _ (HR.out _ (HE0.out.trans hL)) (by omega) HBz.out).mono ?_; rintro e w8 ⟨rfl, hb8⟩; rw [hck]; replace hL := hL.trans hb8; clear hb8
     try go_wp2_with fail
     refine hK.out _ _ ?_ (fun hHeld => ?_)
     ·(try dsimp only); exact HS.out _ hL
     clear hK K
     try simp only [zP]
     refine zH (v := ?_) 12 (some 28) rfl ?_ ?_; rotate_left
     ·(intro w hSw; (try dsimp only at hSw); go_simp; (try with_reducible rfl))
     try simp only [zP]
     refine zH (v := ?_) 13 (some 29) rfl ?_ ?_; rotate_left
     ·(intro w hSw; (try dsimp only at hSw); go_simp; (try with_reducible rfl))
     try simp only [zP]
     refine zH (v := ?_) 14 (some 30) rfl ?_ ?_; rotate_left
     ·(intro w hSw; (try dsimp only at hSw); go_simp; (try with_reducible rfl))
     try simp only [zP]
     refine wpAnyH_ready (rs := [15]) (by kernel_rfl) (by simp) ?_
     refine AllReadyH.cons (o := ⟨some 31, _, _, _, _, _⟩) rfl (fun K hK => ?_) AllReadyH.nil
     go_simp
     refine (law_awake _ (HGp.out _ (HE0.out.trans hL)).1 (HGp.out _ (HE0.out.trans hL)).2.1 (HGp.out _ (HE0.out.trans hL)).2.2).mono ?_; rintro e w9 ⟨rfl, hb9⟩; replace hL := hL.trans hb9; clear hb9
     try go_wp2_with fail
     refine hK.out _ _ ?_ (fun hHeld => ?_)
     ·(try dsimp only); exact HS.out _ hL
     clear hK K
     try simp only [zP]
     refine zH (v := ?_) 16 (some 32) rfl ?_ ?_; rotate_left
     ·(intro w hSw; (try dsimp only at hSw); go_simp; (try with_reducible rfl))
     try simp only [zP]
     refine zH (v := ?_) 17 (some 33) rfl ?_ ?_; rotate_left
     ·(intro w hSw; (try dsimp only at hSw); go_simp; (try with_reducible rfl))
     try simp only [zP]
     refine wpAnyH_done (by kernel_rfl) ?_ _
     refine hK9 _ _ (Met.intro (hJ9 _ _ ?_))
     (repeat apply Exists.intro)
     refine ⟨?_, rfl⟩
     exact ⟨false, rfl, fun _ => ⟨by omega, by omega⟩, hL⟩
    ·refine zH (v := ?_) 8 (some 24) rfl ?_ ?_; rotate_left
     ·(intro w hSw; (try dsimp only at hSw); go_simp; (try with_reducible rfl))
     try simp only [zP]
     refine zH (v := ?_) 9 (some 25) rfl ?_ ?_; rotate_left
     ·(intro w hSw; (try dsimp only at hSw); go_simp; (try with_reducible rfl))
     try simp only [zP]
     refine zH (v := ?_) 10 (some 26) rfl ?_ ?_; rotate_left
     ·(intro w hSw; (try dsimp only at hSw); go_simp; (try with_reducible rfl))
     try simp only [zP]
     refine wpAnyH_ready (rs := [11]) (by kernel_rfl) (by simp) ?_
     refine AllReadyH.cons (o := ⟨some 27, _, _, _, _, _⟩) rfl (fun K hK => ?_) AllReadyH.nil
     go_simp
     refine (field_Check rA rn rc rf _ (HR.out _ (HE0.out.trans hL)) (by omega) HBz.out).mono ?_; rintro e w8 ⟨rfl, hb8⟩; rw [hck]; replace hL := hL.trans hb8; clear hb8
     try go_wp2_with fail
     refine hK.out _ _ ?_ (fun hHeld => ?_)
     ·(try dsimp only); exact HS.out _ hL
     clear hK K
     try simp only [zP]
     refine zH (v := ?_) 12 (some 28) rfl ?_ ?_; rotate_left
     ·(intro w hSw; (try dsimp only at hSw); go_simp; (try with_reducible rfl))
     try simp only [zP]
     refine zH (v := ?_) 13 (some 29) rfl ?_ ?_; rotate_left
     ·(intro w hSw; (try dsimp only at hSw); go_simp; (try with_reducible rfl))
     try simp only [zP]
     refine zH (v := ?_) 14 (some 30) rfl ?_ ?_; rotate_left
     ·(intro w hSw; (try dsimp only at hSw); go_simp; (try with_reducible rfl))
     try simp only [zP]
     refine wpAnyH_ready (rs := [15]) (by kernel_rfl) (by simp) ?_
     refine AllReadyH.cons (o := ⟨some 31, _, _, _, _, _⟩) rfl (fun K hK => ?_) AllReadyH.nil
     rw [if_neg]; rotate_left
     ·exact Bool.eq_false_iff.1 rfl
     refine hK.out _ _ ?_ (fun hHeld => ?_)
     ·(try dsimp only); exact HS.out _ hL
     clear hK K
     try simp only [zP]
     refine wpAnyH_take (i := 16) (oi := ⟨some 32, _, _, _, _, _⟩) (v := undef) rfl (by kernel_rfl) (by kernel_rfl) (by kernel_rfl) (fun _ _ _ h => h) (Or.inr ⟨by rfl, rfl⟩) (by assumption) ?_
     try simp only [zP]
     refine zH (v := ?_) 17 (some 33) rfl ?_ ?_; rotate_left
     ·(intro w hSw; (try dsimp only at hSw); go_simp; (try with_reducible rfl))
     try simp only [zP]
     refine wpAnyH_done (by kernel_rfl) ?_ _
     refine hK9 _ _ (Met.intro (hJ9 _ _ ?_))
     (repeat apply Exists.intro)
     refine ⟨?_, rfl⟩
     exact ⟨true, rfl, fun h => (by cases h), hL⟩
   ·have hr5 := rd_lit55 hL (acX me ta rA rn rc) 68 11 rfl; rw [World.size_alloc] at hr5; replace hoA := hoA.alloc (.cells (acX me ta rA rn rc) 68); replace hL := hL.alloc (.cells (acX me ta rA rn rc) 68)
    go_simp
    try go_wp2_with fail
    refine hK.out _ _ ?_ (fun hHeld => ?_)
    ·(try dsimp only); exact HS.out _ hL
    clear hK K
    try simp only [zP]
    refine wpAnyH_ready (rs := [2]) (by kernel_rfl) (by simp) ?_
    refine AllReadyH.cons (o := ⟨some 18, _, _, _, _, _⟩) rfl (fun K hK => ?_) AllReadyH.nil
    refine app_ac _ rfl (.tmp 16) (.tmp 17) rfl W0 _ _ _ rfl hoA A n c l rfl (HA.out.rd.ext (HE0.out.trans hL)) hL (by omega) ?_; intro A6 c6 w6 hoB hb6 hle6 hg6; rw [Nat.zero_add] at hoB hle6 ⊢; rw [List.nil_append] at hoB; replace hr5 := Rd.growB hr5 hg6 (fun a ha => by cases ha; simp); replace hL := hb6; clear hb6 hg6
    refine hK.out _ _ ?_ (fun hHeld => ?_)
    ·(try dsimp only); exact HS.out _ hL
    clear hK K
    try simp only [zP]
    refine wpAnyH_ready (rs := [6]) (by kernel_rfl) (by simp) ?_
    refine AllReadyH.cons (o := ⟨some 22, _, _, _, _, _⟩) rfl (fun K hK => ?_) AllReadyH.nil
    refine app_ac _ rfl (.tmp 18) (.tmp 21) rfl W0 _ _ _ rfl hoB _ 1 1 [acR me ta rf rA rn rc] rfl hr5 hL (by omega) ?_; intro A9 c9 wa hoC hb9 hle9 hg9; have hAc := HAll.out wa A9 c9 hb9 hoC; replace hL := hb9; clear hb9 hg9
    refine hK.out _ _ ?_ (fun hHeld => ?_)
    ·(try dsimp only); exact HS.out _ hL
    clear hK K
    try simp only [zP]
    refine wpAnyH_ready (rs := [7]) (by kernel_rfl) (by simp) ?_
    refine AllReadyH.cons (o := ⟨some 23, _, _, _, _, _⟩) rfl (fun K hK => ?_) AllReadyH.nil
    go_simp
    refine (act_large A9 (n + 1) c9 _ _ hAc (by omega) (by omega)).mono ?_; rintro e w7 ⟨rfl, hb7⟩; rw [HbL.out]; replace hL := hL.trans hb7; clear hb7
    try go_wp2_with fail
    refine hK.out _ _ ?_ (fun hHeld => ?_)
    ·(try dsimp only); exact HS.out _ hL
    clear hK K
    try simp only [zP]
    by_cases hL2 : 5000 < Z ∨ 30 < n + 1
    ·rw [HLt.out hL2]
     refine zH (v := ?_) 8 (some 24) rfl ?_ ?_; rotate_left
     ·(intro w hSw; (try dsimp only at hSw); go_simp; (try with_reducible rfl))
     try simp only [zP]
     refine wpAnyH_take (i := 9) (oi := ⟨some 25, _, _, _, _, _⟩) (v := undef) rfl (by kernel_rfl) (by kernel_rfl) (by kernel_rfl) (fun _ _ _ h => h) (Or.inr ⟨by rfl, rfl⟩) (by assumption) ?_
     try simp only [zP]
     refine wpAnyH_take (i := 10) (oi := ⟨some 26, _, _, _, _, _⟩) (v := undef) rfl (by kernel_rfl) (by kernel_rfl) (by kernel_rfl) (fun _ _ _ h => h) (Or.inr ⟨by rfl, rfl⟩) (by assumption) ?_
     try simp only [zP]
     refine wpAnyH_ready (rs := [11]) (by kernel_rfl) (by simp) ?_
     refine AllReadyH.cons (o := ⟨some 27, _, _, _, _, _⟩) rfl (fun K hK => ?_) AllReadyH.nil
     rw [if_neg]; rotate_left
     ·exact Bool.eq_false_iff.1 rfl
     refine hK.out _ _ ?_ (fun hHeld => ?_)
     ·(try dsimp only); exact HS.out _ hL
     clear hK K
     try simp only [zP]
     refine wpAnyH_take (i := 12) (oi := ⟨some 28, _, _, _, _, _⟩) (v := undef) rfl (by kernel_rfl) (by kernel_rfl) (by kernel_rfl) (fun _ _ _ h => h) (Or.inr ⟨by rfl, rfl⟩) (by assumption) ?_
     try simp only [zP]
     refine zH (v := ?_) 13 (some 29) rfl ?_ ?_; rotate_left
     ·(intro w hSw; (try dsimp only at hSw); go_simp; (try with_reducible rfl))
     try simp only [zP]
     refine zH (v := ?_) 14 (some 30) rfl ?_ ?_; rotate_left
     ·(intro w hSw; (try dsimp only at hSw); go_simp; (try with_reducible rfl))
     try simp only [zP]
     refine wpAnyH_ready (rs := [15]) (by kernel_rfl) (by simp) ?_
     refine AllReadyH.cons (o := ⟨some 31, _, _, _, _, _⟩) rfl (fun K hK => ?_) AllReadyH.nil
     rw [if_neg]; rotate_left
     ·exact Bool.eq_false_iff.1 rfl
     refine hK.out _ _ ?_ (fun hHeld => ?_)
     ·(try dsimp only); exact HS.out _ hL
     clear hK K
     try simp only [zP]
     refine wpAnyH_take (i := 16) (oi := ⟨some 32, _, _, _, _, _⟩) (v := undef) rfl (by kernel_rfl) (by kernel_rfl) (by kernel_rfl) (fun _ _ _ h => h) (Or.inr ⟨by rfl, rfl⟩) (by assumption) ?_
     try simp only [zP]
     refine zH (v := ?_) 17 (some 33) rfl ?_ ?_; rotate_left
     ·(intro w hSw; (try dsimp only at hSw); go_simp; (try with_reducible rfl))
     try simp only [zP]
     refine wpAnyH_done (by kernel_rfl) ?_ _
     refine hK9 _ _ (Met.intro (hJ9 _ _ ?_))
     (repeat apply Exists.intro)
     refine ⟨?_, rfl⟩
     exact ⟨true, rfl, fun h => (by cases h), hL⟩
    rw [HLf.out hL2]
    rcases errV_eq0 (chkS rf) with ⟨-, hck⟩ | ⟨-, hck⟩
    ·refine zH (v := ?_) 8 (some 24) rfl ?_ ?_; rotate_left
     ·(intro w hSw; (try dsimp only at hSw); go_simp; (try with_reducible rfl))
     try simp only [zP]
     refine zH (v := ?_) 9 (some 25) rfl ?_ ?_; rotate_left
     ·(intro w hSw; (try dsimp only at hSw); go_simp; (try with_reducible rfl))
     try simp only [zP]
     refine zH (v := ?_) 10 (some 26) rfl ?_ ?_; rotate_left
     ·(intro w hSw; (try dsimp only at hSw); go_simp; (try with_reducible rfl))
     try simp only [zP]
     refine wpAnyH_ready (rs := [11]) (by kernel_rfl) (by simp) ?_
     refine AllReadyH.cons (o := ⟨some 27, _, _, _, _, _⟩) rfl (fun K hK => ?_) AllReadyH.nil
     go_simp
     refine (field_Check rA rn rc rf _ (HR.out _ (HE0.out.trans hL)) (by omega) HBz.out).mono ?_; rintro e w8 ⟨rfl, hb8⟩; rw [hck]; replace hL := hL.trans hb8; clear hb8
     try go_wp2_with fail
     refine hK.out _ _ ?_ (fun hHeld => ?_)
     ·(try dsimp only); exact HS.out _ hL
     clear hK K
     try simp only [zP]
     refine zH (v := ?_) 12 (some 28) rfl ?_ ?_; rotate_left
     ·(intro w hSw; (try dsimp only at hSw); go_simp; (try with_reducible rfl))
     try simp only [zP]
     refine zH (v := ?_) 13 (some 29) rfl ?_ ?_; rotate_left
     ·(intro w hSw; (try dsimp only at hSw); go_simp; (try with_reducible rfl))
     try simp only [zP]
     refine zH (v := ?_) 14 (some 30) rfl ?_ ?_; rotate_left
     ·(intro w hSw; (try dsimp only at hSw); go_simp; (try with_reducible rfl))
     try simp only [zP]
     refine wpAnyH_ready (rs := [15]) (by kernel_rfl) (by simp) ?_
     refine AllReadyH.cons (o := ⟨some 31, _, _, _, _, _⟩) rfl (fun K hK => ?_) AllReadyH.nil
     go_simp
     refine (law_awake _ (HGp.out _ (HE0.out.trans hL)).1 (HGp.out _ (HE0.out.trans hL)).2.1 (HGp.out _ (HE0.out.trans hL)).2.2).mono ?_; rintro e w9 ⟨rfl, hb9⟩; replace hL := hL.trans hb9; clear hb9
     try go_wp2_with fail
     refine hK.out _ _ ?_ (fun hHeld => ?_)
     ·(try dsimp only); exact HS.out _ hL
     clear hK K
     try simp only [zP]
     refine zH (v := ?_) 16 (some 32) rfl ?_ ?_; rotate_left
     ·(intro w hSw; (try dsimp only at hSw); go_simp; (try with_reducible rfl))
     try simp only [zP]
     refine zH (v := ?_) 17 (some 33) rfl ?_ ?_; rotate_left
     ·(intro w hSw; (try dsimp only at hSw); go_simp; (try with_reducible rfl))
     try simp only [zP]
     refine wpAnyH_done (by kernel_rfl) ?_ _
     refine hK9 _ _ (Met.intro (hJ9 _ _ ?_))
     (repeat apply Exists.intro)
     refine ⟨?_, rfl⟩
     exact ⟨false, rfl, fun _ => ⟨by omega, by omega⟩, hL⟩
    ·refine zH (v := ?_) 8 (some 24) rfl ?_ ?_; rotate_left
     ·(intro w hSw; (try dsimp only at hSw); go_simp; (try with_reducible rfl))
     try simp only [zP]
     refine zH (v := ?_) 9 (some 25) rfl ?_ ?_; rotate_left
     ·(intro w hSw; (try dsimp only at hSw); go_simp; (try with_reducible rfl))
     try simp only [zP]
     refine zH (v := ?_) 10 (some 26) rfl ?_ ?_; rotate_left
     ·(intro w hSw; (try dsimp only at hSw); go_simp; (try with_reducible rfl))
     try simp only [zP]
     refine wpAnyH_ready (rs := [11]) (by kernel_rfl) (by simp) ?_
     refine AllReadyH.cons (o := ⟨some 27, _, _, _, _, _⟩) rfl (fun K hK => ?_) AllReadyH.nil
     go_simp
     refine (field_Check rA rn rc rf _ (HR.out _ (HE0.out.trans hL)) (by omega) HBz.out).mono ?_; rintro e w8 ⟨rfl, hb8⟩; rw [hck]; replace hL := hL.trans hb8; clear hb8
     try go_wp2_with fail
     refine hK.out _ _ ?_ (fun hHeld => ?_)
     ·(try dsimp only); exact HS.out _ hL
     clear hK K
     try simp only [zP]
     refine zH (v := ?_) 12 (some 28) rfl ?_ ?_; rotate_left
     ·(intro w hSw; (try dsimp only at hSw); go_simp; (try with_reducible rfl))
     try simp only [zP]
     refine zH (v := ?_) 13 (some 29) rfl ?_ ?_; rotate_left
     ·(intro w hSw; (try dsimp only at hSw); go_simp; (try with_reducible rfl))
     try simp only [zP]
     refine zH (v := ?_) 14 (some 30) rfl ?_ ?_; rotate_left
     ·(intro w hSw; (try dsimp only at hSw); go_simp; (try with_reducible rfl))
     try simp only [zP]
     refine wpAnyH_ready (rs := [15]) (by kernel_rfl) (by simp) ?_
     refine AllReadyH.cons (o := ⟨some 31, _, _, _, _, _⟩) rfl (fun K hK => ?_) AllReadyH.nil
     rw [if_neg]; rotate_left
     ·exact Bool.eq_false_iff.1 rfl
     refine hK.out _ _ ?_ (fun hHeld => ?_)
     ·(try dsimp only); exact HS.out _ hL
     clear hK K
     try simp only [zP]
     refine wpAnyH_take (i := 16) (oi := ⟨some 32, _, _, _, _, _⟩) (v := undef) rfl (by kernel_rfl) (by kernel_rfl) (by kernel_rfl) (fun _ _ _ h => h) (Or.inr ⟨by rfl, rfl⟩) (by assumption) ?_
     try simp only [zP]
     refine zH (v := ?_) 17 (some 33) rfl ?_ ?_; rotate_left
     ·(intro w hSw; (try dsimp only at hSw); go_simp; (try with_reducible rfl))
     try simp only [zP]
     refine wpAnyH_done (by kernel_rfl) ?_ _
     refine hK9 _ _ (Met.intro (hJ9 _ _ ?_))
     (repeat apply Exists.intro)
     refine ⟨?_, rfl⟩
     exact ⟨true, rfl, fun h => (by cases h), hL⟩
  ·have hr5 := rd_lit55 hL (acX me ta rA rn rc) 68 11 rfl; replace hL := hL.alloc (.cells (acX me ta rA rn rc) 68)
   go_simp
   try go_wp2_with fail
   refine hK.out _ _ ?_ (fun hHeld => ?_)
   ·(try dsimp only); exact HS.out _ hL
   clear hK K
   try simp only [zP]
   refine wpAnyH_ready (rs := [0]) (by kernel_rfl) (by simp) ?_
   refine AllReadyH.cons (o := ⟨some 16, _, _, _, _, _⟩) rfl (fun K hK => ?_) AllReadyH.nil
   have hoA := own_made55 (e := 68) (k := 11) hL; rw [World.size_alloc] at hoA; replace hr5 := hr5.ext ((Ext.refl _).alloc (.cells #[] 68)); replace hL := hL.alloc (.cells #[] 68)
   go_simp
   try go_wp2_with fail
   refine hK.out _ _ ?_ (fun hHeld => ?_)
   ·(try dsimp only); exact HS.out _ hL
   clear hK K
   try simp only [zP]
   refine wpAnyH_ready (rs := [2]) (by kernel_rfl) (by simp) ?_
   refine AllReadyH.cons (o := ⟨some 18, _, _, _, _, _⟩) rfl (fun K hK => ?_) AllReadyH.nil
   refine app_ac _ rfl (.tmp 16) (.tmp 17) rfl W0 _ _ _ rfl hoA A n c l rfl (HA.out.rd.ext (HE0.out.trans hL)) hL (by omega) ?_; intro A6 c6 w6 hoB hb6 hle6 hg6; rw [Nat.zero_add] at hoB hle6 ⊢; rw [List.nil_append] at hoB; replace hr5 := Rd.growB hr5 hg6 (fun a ha => by cases ha; simp); replace hL := hb6; clear hb6 hg6
   refine hK.out _ _ ?_ (fun hHeld => ?_)
   ·(try dsimp only); exact HS.out _ hL
   clear hK K
   try simp only [zP]
   refine wpAnyH_ready (rs := [6]) (by kernel_rfl) (by simp) ?_
   refine AllReadyH.cons (o := ⟨some 22, _, _, _, _, _⟩) rfl (fun K hK => ?_) AllReadyH.nil
   refine app_ac _ rfl (.tmp 18) (.tmp 21) rfl W0 _ _ _ rfl hoB _ 1 1 [acR me ta rf rA rn rc] rfl hr5 hL (by omega) ?_; intro A9 c9 wa hoC hb9 hle9 hg9; have hAc := HAll.out wa A9 c9 hb9 hoC; replace hL := hb9; clear hb9 hg9
   refine hK.out _ _ ?_ (fun hHeld => ?_)
   ·(try dsimp only); exact HS.out _ hL
   clear hK K
   try simp only [zP]
   refine wpAnyH_ready (rs := [7]) (by kernel_rfl) (by simp) ?_
   refine AllReadyH.cons (o := ⟨some 23, _, _, _, _, _⟩) rfl (fun K hK => ?_) AllReadyH.nil
   go_simp
   refine (act_large A9 (n + 1) c9 _ _ hAc (by omega) (by omega)).mono ?_; rintro e w7 ⟨rfl, hb7⟩; rw [HbL.out]; replace hL := hL.trans hb7; clear hb7
   try go_wp2_with fail
   refine hK.out _ _ ?_ (fun hHeld => ?_)
   ·(try dsimp only); exact HS.out _ hL
   clear hK K
   try simp only [zP]
   by_cases hL2 : 5000 < Z ∨ 30 < n + 1
   ·rw [HLt.out hL2]
    refine zH (v := ?_) 8 (some 24) rfl ?_ ?_; rotate_left
    ·(intro w hSw; (try dsimp only at hSw); go_simp; (try with_reducible rfl))
    try simp only [zP]
    refine wpAnyH_take (i := 9) (oi := ⟨some 25, _, _, _, _, _⟩) (v := undef) rfl (by kernel_rfl) (by kernel_rfl) (by kernel_rfl) (fun _ _ _ h => h) (Or.inr ⟨by rfl, rfl⟩) (by assumption) ?_
    try simp only [zP]
    refine wpAnyH_take (i := 10) (oi := ⟨some 26, _, _, _, _, _⟩) (v := undef) rfl (by kernel_rfl) (by kernel_rfl) (by kernel_rfl) (fun _ _ _ h => h) (Or.inr ⟨by rfl, rfl⟩) (by assumption) ?_
    try simp only [zP]
    refine wpAnyH_ready (rs := [11]) (by kernel_rfl) (by simp) ?_
    refine AllReadyH.cons (o := ⟨some 27, _, _, _, _, _⟩) rfl (fun K hK => ?_) AllReadyH.nil
    rw [if_neg]; rotate_left
    ·exact Bool.eq_false_iff.1 rfl
    refine hK.out _ _ ?_ (fun hHeld => ?_)
    ·(try dsimp only); exact HS.out _ hL
    clear hK K
    try simp only [zP]
    refine wpAnyH_take (i := 12) (oi := ⟨some 28, _, _, _, _, _⟩) (v := undef) rfl (by kernel_rfl) (by kernel_rfl) (by kernel_rfl) (fun _ _ _ h => h) (Or.inr ⟨by rfl, rfl⟩) (by assumption) ?_
    try simp only [zP]
    refine zH (v := ?_) 13 (some 29) rfl ?_ ?_; rotate_left
    ·(intro w hSw; (try dsimp only at hSw); go_simp; (try with_reducible rfl))
    try simp only [zP]
    refine zH (v := ?_) 14 (some 30) rfl ?_ ?_; rotate_left
    ·(intro w hSw; (try dsimp only at hSw); go_simp; (try with_reducible rfl))
    try simp only [zP]
    refine wpAnyH_ready (rs := [15]) (by kernel_rfl) (by simp) ?_
    refine AllReadyH.cons (o := ⟨some 31, _, _, _, _, _⟩) rfl (fun K hK => ?_) AllReadyH.nil
    rw [if_neg]; rotate_left
    ·exact Bool.eq_false_iff.1 rfl
    refine hK.out _ _ ?_ (fun hHeld => ?_)
    ·(try dsimp only); exact HS.out _ hL
    clear hK K
    try simp only [zP]
    refine wpAnyH_take (i := 16) (oi := ⟨some 32, _, _, _, _, _⟩) (v := undef) rfl (by kernel_rfl) (by kernel_rfl) (by kernel_rfl) (fun _ _ _ h => h) (Or.inr ⟨by rfl, rfl⟩) (by assumption) ?_
    try simp only [zP]
    refine zH (v := ?_) 17 (some 33) rfl ?_ ?_; rotate_left
    ·(intro w hSw; (try dsimp only at hSw); go_simp; (try with_reducible rfl))
    try simp only [zP]
    refine wpAnyH_done (by kernel_rfl) ?_ _
    refine hK9 _ _ (Met.intro (hJ9 _ _ ?_))
    (repeat apply Exists.intro)
    refine ⟨?_, rfl⟩
    exact ⟨true, rfl, fun h => (by cases h), hL⟩
   rw [HLf.out hL2]
   rcases errV_eq0 (chkS rf) with ⟨-, hck⟩ | ⟨-, hck⟩
   ·refine zH (v := ?_) 8 (some 24) rfl ?_ ?_; rotate_left
    ·(intro w hSw; (try dsimp only at hSw); go_simp; (try with_reducible rfl))
    try simp only [zP]
    refine zH (v := ?_) 9 (some 25) rfl ?_ ?_; rotate_left
    ·(intro w hSw; (try dsimp only at hSw); go_simp; (try with_reducible rfl))
    try simp only [zP]
    refine zH (v := ?_) 10 (some 26) rfl ?_ ?_; rotate_left
    ·(intro w hSw; (try dsimp only at hSw); go_simp; (try with_reducible rfl))
    try simp only [zP]
    refine wpAnyH_ready (rs := [11]) (by kernel_rfl) (by simp) ?_
    refine AllReadyH.cons (o := ⟨some 27, _, _, _, _, _⟩) rfl (fun K hK => ?_) AllReadyH.nil
    go_simp
    refine (field_Check rA rn rc rf _ (HR.out _ (HE0.out.trans hL)) (by omega) HBz.out).mono ?_; rintro e w8 ⟨rfl, hb8⟩; rw [hck]; replace hL := hL.trans hb8; clear hb8
    try go_wp2_with fail
    refine hK.out _ _ ?_ (fun hHeld => ?_)
    ·(try dsimp only); exact HS.out _ hL
    clear hK K
    try simp only [zP]
    refine zH (v := ?_) 12 (some 28) rfl ?_ ?_; rotate_left
    ·(intro w hSw; (try dsimp only at hSw); go_simp; (try with_reducible rfl))
    try simp only [zP]
    refine zH (v := ?_) 13 (some 29) rfl ?_ ?_; rotate_left
    ·(intro w hSw; (try dsimp only at hSw); go_simp; (try with_reducible rfl))
    try simp only [zP]
    refine zH (v := ?_) 14 (some 30) rfl ?_ ?_; rotate_left
    ·(intro w hSw; (try dsimp only at hSw); go_simp; (try with_reducible rfl))
    try simp only [zP]
    refine wpAnyH_ready (rs := [15]) (by kernel_rfl) (by simp) ?_
    refine AllReadyH.cons (o := ⟨some 31, _, _, _, _, _⟩) rfl (fun K hK => ?_) AllReadyH.nil
    go_simp
    refine (law_awake _ (HGp.out _ (HE0.out.trans hL)).1 (HGp.out _ (HE0.out.trans hL)).2.1 (HGp.out _ (HE0.out.trans hL)).2.2).mono ?_; rintro e w9 ⟨rfl, hb9⟩; replace hL := hL.trans hb9; clear hb9
    try go_wp2_with fail
    refine hK.out _ _ ?_ (fun hHeld => ?_)
    ·(try dsimp only); exact HS.out _ hL
    clear hK K
    try simp only [zP]
    refine zH (v := ?_) 16 (some 32) rfl ?_ ?_; rotate_left
    ·(intro w hSw; (try dsimp only at hSw); go_simp; (try with_reducible rfl))
    try simp only [zP]
    refine zH (v := ?_) 17 (some 33) rfl ?_ ?_; rotate_left
    ·(intro w hSw; (try dsimp only at hSw); go_simp; (try with_reducible rfl))
    try simp only [zP]
    refine wpAnyH_done (by kernel_rfl) ?_ _
    refine hK9 _ _ (Met.intro (hJ9 _ _ ?_))
    (repeat apply Exists.intro)
    refine ⟨?_, rfl⟩
    exact ⟨false, rfl, fun _ => ⟨by omega, by omega⟩, hL⟩
   ·refine zH (v := ?_) 8 (some 24) rfl ?_ ?_; rotate_left
    ·(intro w hSw; (try dsimp only at hSw); go_simp; (try with_reducible rfl))
    try simp only [zP]
    refine zH (v := ?_) 9 (some 25) rfl ?_ ?_; rotate_left
    ·(intro w hSw; (try dsimp only at hSw); go_simp; (try with_reducible rfl))
    try simp only [zP]
    refine zH (v := ?_) 10 (some 26) rfl ?_ ?_; rotate_left
    ·(intro w hSw; (try dsimp only at hSw); go_simp; (try with_reducible rfl))
    try simp only [zP]
    refine wpAnyH_ready (rs := [11]) (by kernel_rfl) (by simp) ?_
    refine AllReadyH.cons (o := ⟨some 27, _, _, _, _, _⟩) rfl (fun K hK => ?_) AllReadyH.nil
    go_simp
    refine (field_Check rA rn rc rf _ (HR.out _ (HE0.out.trans hL)) (by omega) HBz.out).mono ?_; rintro e w8 ⟨rfl, hb8⟩; rw [hck]; replace hL := hL.trans hb8; clear hb8
    try go_wp2_with fail
    refine hK.out _ _ ?_ (fun hHeld => ?_)
    ·(try dsimp only); exact HS.out _ hL
    clear hK K
    try simp only [zP]
    refine zH (v := ?_) 12 (some 28) rfl ?_ ?_; rotate_left
    ·(intro w hSw; (try dsimp only at hSw); go_simp; (try with_reducible rfl))
    try simp only [zP]
    refine zH (v := ?_) 13 (some 29) rfl ?_ ?_; rotate_left
    ·(intro w hSw; (try dsimp only at hSw); go_simp; (try with_reducible rfl))
    try simp only [zP]
    refine zH (v := ?_) 14 (some 30) rfl ?_ ?_; rotate_left
    ·(intro w hSw; (try dsimp only at hSw); go_simp; (try with_reducible rfl))
    try simp only [zP]
    refine wpAnyH_ready (rs := [15]) (by kernel_rfl) (by simp) ?_
    refine AllReadyH.cons (o := ⟨some 31, _, _, _, _, _⟩) rfl (fun K hK => ?_) AllReadyH.nil
    rw [if_neg]; rotate_left
    ·exact Bool.eq_false_iff.1 rfl
    refine hK.out _ _ ?_ (fun hHeld => ?_)
    ·(try dsimp only); exact HS.out _ hL
    clear hK K
    try simp only [zP]
    refine wpAnyH_take (i := 16) (oi := ⟨some 32, _, _, _, _, _⟩) (v := undef) rfl (by kernel_rfl) (by kernel_rfl) (by kernel_rfl) (fun _ _ _ h => h) (Or.inr ⟨by rfl, rfl⟩) (by assumption) ?_
    try simp only [zP]
    refine zH (v := ?_) 17 (some 33) rfl ?_ ?_; rotate_left
    ·(intro w hSw; (try dsimp only at hSw); go_simp; (try with_reducible rfl))
    try simp only [zP]
    refine wpAnyH_done (by kernel_rfl) ?_ _
    refine hK9 _ _ (Met.intro (hJ9 _ _ ?_))
    (repeat apply Exists.intro)
    refine ⟨?_, rfl⟩
    exact ⟨true, rfl, fun h => (by cases h), hL⟩
 case rest =>
 obtain ⟨b, rfl, hb, hE⟩ := hcut
 cases b with
 | true =>
  go_wp2_with fail
  refine (law_awake _ (HGp.out _ (HE0.out.trans hE)).1 (HGp.out _ (HE0.out.trans hE)).2.1 (HGp.out _ (HE0.out.trans hE)).2.2).mono ?_; rintro e w9 ⟨rfl, hb9⟩
  go_wp2_with fail
  go_ret
  exact ⟨rfl, (HE0.out.trans hE).trans hb9⟩
 | false =>
 obtain ⟨hZ2, hN⟩ := hb rfl
 clear HAll
 have hsum : (l.map szA).sum ≤ 5000 := by omega
 have hrs : sumF rf + 4 * rn + me.size + ta.size ≤ 5000 := by omega
 clear hb hz hrz hzs hZ2
 go_wp2_with fail
 refine (Hpl.out wc (HE0.out.trans hE) hsum (by omega)).mono ?_; rintro e w3 ⟨p, R, Q, M, ⟨⟨iA, im, ic⟩, ⟨uA, un, uc⟩, ⟨lA, ln, lc⟩, mv, ks⟩, rfl, hO, -, hRl, hQl, hb3⟩
 have hlens := play_len l
 have hll := HA.out.len
 have hcl := play_cl l
 have Hln := zi (show (playS l).br.length ≤ 999999 ∧ (playS l).lg.length ≤ 999999 by omega)
 have Hcl := zi hcl
 generalize playS l = o at *
 clear hlens hll hcl Hpl hsum
 have hE4 := (Ext.refl w3).alloc (.cells #[.slice iA im ic, .slice uA un uc, .slice lA ln lc] 74)
 have hE34 := (hE.trans hb3).trans hE4
 have hbw := Hb5.out
 have hRw : ∀ i, R i → w.heap.size ≤ i := fun i hi => by have := hRl i hi; have := hE.size; omega
 have hW0 := hE.size
 have hR5 : ¬ R w.heap.size := fun h => by have := hRl _ h; omega
 have hQ5 : Q w.heap.size := hQl _ (by omega)
 simp only [SM.cells, Sl.v]
 go_upto_region 4 with fail
 generalize w3.alloc (.cells #[.slice iA im ic, .slice uA un uc, .slice lA ln lc] 74) = w4 at *
 generalize w3.heap.size = b8 at *
 have HO4 := zi (hO.ext hE4)
 have HE4 := zi (HE0.out.trans hE34)
 have HB4 := zi (HB5.out.ext hE34)
 have hl4 : w.heap.size < w4.heap.size := HB4.out.lt
 clear hO hE4 hE34 hE hb3 hRl hQl HS HB5 HE0
 have y2 : w4.cell? ⟨w.heap.size, 2, none⟩ = some (.slice rA rn rc) := HB4.out.cell 2
 have hlr := Hrl.out
 go_wp2_with fail
 refine (field_Remove rA rn rc rf x_rg w4 (HR.out _ HE4.out) (by omega) (by decide) HBz.out).mono ?_; rintro e w5 ⟨A1, n1, c1, rfl, h1, hc1, hb5, -⟩
 have q1 := remS_le rf x_rg
 have q2 := sumF_rem x_rg rf
 have l1 := h1.lenF
 have hbz1 := bszF (remS rf x_rg)
 clear y2
 go_wp2_with fail
 refine (field_Remove A1 n1 c1 (remS rf x_rg) x_ir w5 h1 (by omega) (by decide) (fun f hf => ⟨by have := (hbz1 f hf).1; omega, by have := (hbz1 f hf).2; omega⟩)).mono ?_; rintro e w6 ⟨A2, n2, c2, rfl, -, hc2, hb6, hown2⟩
 have q3 := remS_le (remS rf x_rg) x_ir
 have q4 := sumF_rem x_ir (remS rf x_rg)
 have hE46 := hb5.trans hb6
 have HB6 := zi (HB4.out.ext hE46)
 have HO6 := zi (HO4.out.ext hE46)
 have hF6 := own_rs hown2 hc2 (Nat.le_refl w5.heap.size)
 have l2 : (cutF rf).length = n2 := hF6.rd.lenF
 have hRlow : ∀ i, R i → i < w5.heap.size := fun i hi => by have := HO4.out.low i hi; have := hb5.size; omega
 have hl5 : w.heap.size < w5.heap.size := by have := hb5.size; omega
 have hcz : sumF (cutF rf) + 2 * n2 ≤ 5000 := by unfold cutF at l2 ⊢; omega
 have k0 : w6.cell? ⟨w.heap.size, 0, none⟩ = some (.string me) := HB6.out.cell 0
 have k2 : w6.cell? ⟨w.heap.size, 2, none⟩ = some (.slice rA rn rc) := HB6.out.cell 2
 have f0 : w6.frozen? ⟨w.heap.size, 0, none⟩ = false := HB6.out.frozen 0
 have f2 : w6.frozen? ⟨w.heap.size, 2, none⟩ = false := HB6.out.frozen 2
 go_upto_region 6 with fail
 have hB7 : Blk ((w6.setCell ⟨w.heap.size, 2, none⟩ (.slice A2 n2 c2)).setCell ⟨w.heap.size, 0, none⟩ (.string ⟨#[71, 69, 84]⟩)) w.heap.size 42 #[.string ⟨#[71, 69, 84]⟩, .string ta, .slice A2 n2 c2] := (HB6.out.set_ 2 _).set_ 0 _
 have hK7 : Keeps (fun i => i = w.heap.size) w6 ((w6.setCell ⟨w.heap.size, 2, none⟩ (.slice A2 n2 c2)).setCell ⟨w.heap.size, 0, none⟩ (.string ⟨#[71, 69, 84]⟩)) := ((Keeps.refl (fun i => i = w.heap.size) w6).set_ (b := w.heap.size) rfl 2 _).set_ (b := w.heap.size) rfl 0 _
 clear k0 k2 f0 f2
 generalize ((w6.setCell ⟨w.heap.size, 2, none⟩ (.slice A2 n2 c2)).setCell ⟨w.heap.size, 0, none⟩ (.string ⟨#[71, 69, 84]⟩)) = w7 at *
 have HO7 := zi (HO6.out.keeps hK7 (fun i hi => by rw [show i = w.heap.size from hi]; exact ⟨hR5, hQ5⟩))
 have HF7 := zi (hF6.keep hK7 (fun i hi => .inl (by rw [show i = w.heap.size from hi]; exact hl5)))
 have HE7 := zi ((HE4.out.trans hE46).keeps hK7 (fun i hi => by rw [show i = w.heap.size from hi]; exact Nat.le_refl _))
 have HB7 := zi hB7
 clear hB7 hK7 hF6 h1 hown2 hb5 hb6 hE46 HB6 HO6 HB4 HO4 HE4 hbz1
 have hl7 : w.heap.size < w7.heap.size := HB7.out.lt
 obtain ⟨g1, g2, g3⟩ := HGp.out _ HE7.out
 have HP1 := zi (or_Answer Q R p o M t ⟨⟨#[71, 69, 84]⟩, ta, cutF rf⟩ A2 n2 c2 w7 HO7.out HF7.out.rd hc2 (by show sumF (cutF rf) + 2 * n2 ≤ _; omega) (by show ta.size ≤ _; omega) (by have := Hln.out.1; omega) (by have := Hln.out.2; omega) g1 g2 g3)
 have hA1 := answ_eq o t ⟨⟨#[71, 69, 84]⟩, ta, cutF rf⟩
 have hA2 : ∀ K, answS { o with lg := o.lg ++ [K] } t ⟨⟨#[72, 69, 65, 68]⟩, ta, cutF rf⟩ = ((decS55 o (cl55 t) ⟨⟨#[71, 69, 84]⟩, ta, cutF rf⟩).status, ansF (decS55 o (cl55 t) ⟨⟨#[71, 69, 84]⟩, ta, cutF rf⟩) (cl55 t), ⟨#[]⟩, (answS { o with lg := o.lg ++ [K] } t ⟨⟨#[72, 69, 65, 68]⟩, ta, cutF rf⟩).2.2.2) := fun K => by
  have e1 : decS55 { o with lg := o.lg ++ [K] } (cl55 t) ⟨x_H, ta, cutF rf⟩ = decS55 o (cl55 t) ⟨x_G, ta, cutF rf⟩ := dec_head o (cl55 t) ta (cut_rg rf)
  have e2 := answ_eq { o with lg := o.lg ++ [K] } t ⟨x_H, ta, cutF rf⟩
  rw [e1] at e2
  rw [show (⟨⟨#[72, 69, 65, 68]⟩, ta, cutF rf⟩ : Rq) = ⟨x_H, ta, cutF rf⟩ from rfl, e2]
  rw [show ansB (decS55 o (cl55 t) ⟨x_G, ta, cutF rf⟩) x_H = ⟨#[]⟩ by unfold ansB; rw [if_pos (by rw [xH]; simp)]]
  try rfl
 have hfc := ansF_cl (t1 := cl55 t) (dec_cl (t := cl55 t) (ta := ta) Hcl.out (cut_rg rf))
 have hfz := ans_sz (o := o) (t := t) (r := ⟨⟨#[71, 69, 84]⟩, ta, cutF rf⟩) (fun x hx => (HO7.out.bd x hx).1)
 have hdB : (decS55 o (cl55 t) ⟨⟨#[71, 69, 84]⟩, ta, cutF rf⟩).body.size ≤ 1048576 := (AB_dec (fun x hx => (HO7.out.bd x hx).1)).bdy
 rw [hA1] at hfz HP1
 rw [show (⟨x_G, ta, cutF rf⟩ : Rq) = ⟨⟨#[71, 69, 84]⟩, ta, cutF rf⟩ from rfl] at hfc
 obtain ⟨AA, hAA⟩ : ∃ AA, decS55 o (cl55 t) ⟨⟨#[71, 69, 84]⟩, ta, cutF rf⟩ = AA := ⟨_, rfl⟩
 rw [hAA] at hfz HP1 hfc hdB
 simp only [hAA] at hA2
 generalize ansK AA (cl55 t) ⟨#[71, 69, 84]⟩ = KK at *
 have hbb : ansB AA ⟨#[71, 69, 84]⟩ = if emS AA then ⟨#[]⟩ else AA.body := by
  unfold ansB
  rw [show (⟨#[71, 69, 84]⟩ : ByteArray) = x_G from rfl, xG]
  cases emS AA <;> rfl
 rw [hbb] at HP1
 have hem : emS AA = (AA.status == 204 || AA.status == 304) := rfl
 have HA2 := zi (hA2 KK)
 simp only at HP1 hfz
 clear hAA hA1 hA2 hbb g1 g2 g3
 generalize ansF AA (cl55 t) = FF at *
 generalize AA.status = st at *
 generalize AA.body = bo at *
 have y0 : w7.cell? ⟨w.heap.size, 0, none⟩ = some (.string ⟨#[71, 69, 84]⟩) := HB7.out.cell 0; have y1 : w7.cell? ⟨w.heap.size, 1, none⟩ = some (.string ta) := HB7.out.cell 1; have y2 : w7.cell? ⟨w.heap.size, 2, none⟩ = some (.slice A2 n2 c2) := HB7.out.cell 2
 go_wp2_with fail
 refine HP1.out.mono ?_; rintro e w8 ⟨⟨s1A, s1n, s1c⟩, ⟨s2A, s2n, s2c⟩, rfl, R2, ⟨M2, hO2⟩, hs1, hs2, hk2, h12, h22⟩
 clear y0 y1 y2
 have hR52 : ¬ R2 w.heap.size := fun h => (h22 _ h).elim hR5 (fun h => by omega)
 have hR2w : ∀ i, R2 i → w.heap.size ≤ i := fun i hi => (h22 i hi).elim (hRw i) (fun h => by omega)
 have hR2low : ∀ i, R2 i → i < w8.heap.size := hO2.low
 have hs78 := hk2.size
 have hX9 := (Ext.refl w8).alloc (.cells #[.int .i64 st, .slice s1A s1n s1c] 38)
 have hB8 := HB7.out.keep hk2 hR5
 have HF8 := zi (HF7.out.keep hk2 (fun i hi => .inl (hRlow i hi)))
 have HE8 := zi (HE7.out.keeps hk2 (fun i hi => hRw i hi))
 have hB10 := Blk.new w8 38 #[.int .i64 st, .slice s1A s1n s1c]
 have hl9 : w8.heap.size < (w8.alloc (.cells #[.int .i64 st, .slice s1A s1n s1c] 38)).heap.size := by simp
 simp only [Sl.v]
 go_upto_region 7 with fail
 generalize w8.alloc (.cells #[.int .i64 st, .slice s1A s1n s1c] 38) = w9 at *
 have HO9 := zi (hO2.ext hX9)
 have HS1 := zi (hs1.ext hX9); have HS2 := zi (hs2.ext hX9)
 have HB9 := zi (hB8.ext hX9)
 have HF9 := zi (HF8.out.ext hX9)
 have HE9 := zi (HE8.out.trans hX9)
 clear hO2 hs1 hs2 hB8 HF8 HE8 hX9 hk2 HO7 HF7 HB7 HP1
 have k0 : w9.cell? ⟨w.heap.size, 0, none⟩ = some (.string ⟨#[71, 69, 84]⟩) := HB9.out.cell 0
 have f0 : w9.frozen? ⟨w.heap.size, 0, none⟩ = false := HB9.out.frozen 0
 go_upto_region 8 with fail
 have hBx : Blk (w9.setCell ⟨w.heap.size, 0, none⟩ (.string ⟨#[72, 69, 65, 68]⟩)) w.heap.size 42 #[.string ⟨#[72, 69, 65, 68]⟩, .string ta, .slice A2 n2 c2] := HB9.out.set_ 0 _
 have hKx : Keeps (fun i => i = w.heap.size) w9 (w9.setCell ⟨w.heap.size, 0, none⟩ (.string ⟨#[72, 69, 65, 68]⟩)) := (Keeps.refl (fun i => i = w.heap.size) w9).set_ (b := w.heap.size) rfl 0 _
 clear k0 f0
 generalize w9.setCell ⟨w.heap.size, 0, none⟩ (.string ⟨#[72, 69, 65, 68]⟩) = wx at *
 have hbx : ∀ i, i = w.heap.size → i < w5.heap.size ∧ i < w7.heap.size := fun i hi => by rw [hi]; exact ⟨hl5, hl7⟩
 have HOx := zi (HO9.out.keeps hKx (fun i hi => by rw [show i = w.heap.size from hi]; exact ⟨hR52, .inl hQ5⟩))
 have HFx := zi (HF9.out.keep hKx (fun i hi => .inl (hbx i hi).1))
 have HS1x := zi (HS1.out.keep hKx (fun i hi => .inl (.inl (hbx i hi).2))); have HS2x := zi (HS2.out.keep hKx (fun i hi => .inl (.inl (hbx i hi).2)))
 have HEx := zi (HE9.out.keeps hKx (fun i hi => by rw [show i = w.heap.size from hi]; exact Nat.le_refl _))
 have HB10x := zi (hB10.keep hKx (by omega))
 have HBx := zi hBx
 have hl10 : w8.heap.size < wx.heap.size := Nat.lt_of_lt_of_le hl9 hKx.size
 have hlx : w7.heap.size ≤ wx.heap.size := by omega
 clear HO9 HF9 HS1 HS2 HE9 hKx hB10 HB9 hBx
 obtain ⟨g1, g2, g3⟩ := HGp.out _ HEx.out
 have HP2 := zi (or_Answer _ R2 p { o with lg := o.lg ++ [KK] } M2 t ⟨⟨#[72, 69, 65, 68]⟩, ta, cutF rf⟩ A2 n2 c2 wx HOx.out HFx.out.rd hc2 (by show sumF (cutF rf) + 2 * n2 ≤ _; omega) (by show ta.size ≤ _; omega) (by show o.br.length ≤ _; have := Hln.out.1; omega) (by show (o.lg ++ [KK]).length ≤ _; rw [List.length_append]; have := Hln.out.2; simp only [List.length_cons, List.length_nil]; omega) g1 g2 g3)
 rw [HA2.out] at HP2
 simp only at HP2
 clear g1 g2 g3 HA2
 have y0 : wx.cell? ⟨w.heap.size, 0, none⟩ = some (.string ⟨#[72, 69, 65, 68]⟩) := HBx.out.cell 0; have y1 : wx.cell? ⟨w.heap.size, 1, none⟩ = some (.string ta) := HBx.out.cell 1; have y2 : wx.cell? ⟨w.heap.size, 2, none⟩ = some (.slice A2 n2 c2) := HBx.out.cell 2
 go_wp2_with fail
 refine HP2.out.mono ?_; rintro e wy ⟨⟨s3A, s3n, s3c⟩, ⟨s4A, s4n, s4c⟩, rfl, R3, ⟨M3, hO3⟩, hs3, hs4, hk3, h13, h23⟩
 clear y0 y1 y2 HP2
 have hR10 : ¬ R2 w8.heap.size := fun h => by have := hR2low _ h; omega
 have hBy := HB10x.out.keep hk3 hR10
 have hn4 : s4n = 0 := by have h9 := hs4.len1; exact h9.symm
 subst hn4
 have HS1y := zi (HS1x.out.keep hk3 (fun i hi => .inl (.inr hi))); have HS2y := zi (HS2x.out.keep hk3 (fun i hi => .inl (.inr hi)))
 have HEy := HEx.out.keeps hk3 (fun i hi => hR2w i hi)
 have hX := (Ext.refl wy).alloc (.cells #[.int .i64 st, .slice s3A s3n s3c] 38)
 have hB12 := Blk.new wy 38 #[.int .i64 st, .slice s3A s3n s3c]
 simp only [Sl.v]
 go_upto_region 9 with fail
 generalize wy.alloc (.cells #[.int .i64 st, .slice s3A s3n s3c] 38) = wz at *
 generalize wy.heap.size = b12 at *
 generalize w8.heap.size = b10 at *
 have HBz10 := zi (hBy.ext hX); have HBz12 := zi hB12
 have HS1z := zi (HS1y.out.ext hX); have HS2z := zi (HS2y.out.ext hX); have HS3z := zi (hs3.ext hX)
 have HEz := zi (HEy.trans hX)
 clear hBy hB12 HS1y HS2y hs3 hs4 hk3 hX HEy hO3 HS1x HS2x HEx HOx HFx HBx HB10x
 have z0 : wz.cell? ⟨b10, 0, none⟩ = some (.int .i64 st) := HBz10.out.cell 0; have z1 : wz.cell? ⟨b10, 1, none⟩ = some (.slice s1A s1n s1c) := HBz10.out.cell 1
 have y0 : wz.cell? ⟨b12, 0, none⟩ = some (.int .i64 st) := HBz12.out.cell 0; have y1 : wz.cell? ⟨b12, 1, none⟩ = some (.slice s3A s3n s3c) := HBz12.out.cell 1
 have e1 : FF.length = s1n := HS1z.out.rd.lenF
 have e3 : FF.length = s3n := HS3z.out.rd.lenF
 obtain rfl : s1n = s3n := by omega
 have qs : (st != st) = false := by simp
 go_wp2_with fail
 refine (law_FieldsE s1A s3A s1n s1c s3c FF wz HS1z.out.rd HS3z.out.rd (by have := hfz.1; omega)).mono ?_; rintro e wa ⟨rfl, hba⟩
 clear z0 z1 y0 y1 e1 e3
 have z1 : wa.cell? ⟨b10, 1, none⟩ = some (.slice s1A s1n s1c) := (HBz10.out.ext hba).cell 1
 have HGt := zi (get_F x_cl (by decide) (HS1z.out.ext hba) hfz)
 rw [hfc] at HGt
 go_wp2_with fail
 refine HGt.out.mono ?_; rintro e wb ⟨rfl, hbb2⟩
 clear z1
 have hab := hba.trans hbb2
 have z0 : wb.cell? ⟨b10, 0, none⟩ = some (.int .i64 st) := (HBz10.out.ext hab).cell 0
 have hs2n := HS2z.out.len1
 rw [bytC_len] at hs2n
 simp only at hs2n
 generalize emS AA = em at *
 cases em with
 | true =>
  have hn2 : s2n = 0 := by rw [if_pos rfl] at hs2n; exact hs2n.symm
  subst hn2
  rw [if_pos rfl, show getV none = .tuple #[.string ⟨#[]⟩, .bool false] from rfl]
  cases q1 : (st == 304)
  ·have q2 : (st == 204) = true := by rw [q1, Bool.or_false] at hem; exact hem.symm
   clear hem
   go_wp2_with fail
   go_ret
   exact ⟨rfl, HEz.out.trans hab⟩
  ·clear hem
   go_wp2_with fail
   go_ret
   exact ⟨rfl, HEz.out.trans hab⟩
 | false =>
  clear hem
  have hn2 : bo.size = s2n := by rw [if_neg (by simp)] at hs2n; exact hs2n
  rw [if_neg (by simp), hn2, show getV (some (decV s2n)) = .tuple #[.string (decV s2n), .bool true] from rfl]
  have qd : ((decV s2n).toList == (decV s2n).toList) = true := by simp
  go_wp2_with fail
  refine (base_DigitsN s2n wb (by omega) (by omega)).mono ?_; rintro e wc2 ⟨rfl, hbc⟩
  go_wp2_with fail
  go_ret
  exact ⟨rfl, (HEz.out.trans hab).trans hbc⟩
end Go.Proofs.YtmckbcbdnckngaaGreatDoor
