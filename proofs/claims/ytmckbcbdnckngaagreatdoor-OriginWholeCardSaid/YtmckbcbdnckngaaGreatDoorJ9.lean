/- OriginWhole in plain words: the last body up to a time is what is answered. The walk of OriginWhole. -/
import Derived.Test.YtmckbcbdnckngaaGreatDoorJ8
set_option linter.unusedSimpArgs false
set_option linter.unusedVariables false
namespace Go.Proofs.YtmckbcbdnckngaaGreatDoor
open Go.RowKit

def verW (b : ByteArray) : Ver := ⟨x_ad, 200, [], b, []⟩
def vsW (L : List (Int × ByteArray)) : List (Int × Ver) := L.map fun x => (x.1, verW x.2)
def orgW (L : List (Int × ByteArray)) : Org := ⟨vsW L, [], []⟩
def lastW (L : List (Int × ByteArray)) (now : Int) : Option ByteArray := ((L.filter fun x => decide (x.1 ≤ now)).getLast?).map (·.2)
theorem lastW_app (L : List (Int × ByteArray)) (now t : Int) (b : ByteArray) : lastW (L ++ [(t, b)]) now = if t ≤ now then some b else lastW L now := by
  unfold lastW
  rw [List.filter_append]
  by_cases h : t ≤ now
  · rw [if_pos h, List.filter_cons_of_pos (by simpa using h)]; simp
  · rw [if_neg h, List.filter_cons_of_neg (by simpa using h)]; simp
theorem find_W (t : Int) : ∀ L : List (Int × ByteArray), (findS (vsW L) x_ad t = 0 ∧ lastW L t = none) ∨ ∃ n b p, findS (vsW L) x_ad t = n + 1 ∧ (vsW L)[n]? = some (p, verW b) ∧ lastW L t = some b
  | [] => .inl ⟨rfl, rfl⟩
  | x :: L => by
    have hx : ((verW x.2).addr == x_ad) = true := by kernel_rfl
    have e : findS (vsW (x :: L)) x_ad t = if findS (vsW L) x_ad t = 0 then (if ((verW x.2).addr == x_ad && decide (x.1 ≤ t)) = true then 1 else 0) else findS (vsW L) x_ad t + 1 := rfl
    rcases find_W t L with ⟨h1, h2⟩ | ⟨n, b, p, h1, h2, h3⟩
    · rw [e, if_pos h1]
      unfold lastW at h2
      have h4 : L.filter (fun x => decide (x.1 ≤ t)) = [] := by simpa using h2
      by_cases hc : x.1 ≤ t
      · rw [if_pos (by rw [hx]; simp [hc])]
        refine .inr ⟨0, x.2, x.1, rfl, rfl, ?_⟩
        unfold lastW
        rw [List.filter_cons_of_pos (by simpa using hc), h4]; rfl
      · rw [if_neg (by simp [hc])]
        refine .inl ⟨rfl, ?_⟩
        unfold lastW
        rw [List.filter_cons_of_neg (by simpa using hc), h4]; rfl
    · rw [e, if_neg (by omega), h1]
      refine .inr ⟨n + 1, b, p, rfl, h2, ?_⟩
      unfold lastW at h3 ⊢
      by_cases hc : x.1 ≤ t
      · rw [List.filter_cons_of_pos (by simpa using hc)]
        cases hq : L.filter (fun x => decide (x.1 ≤ t)) with
        | nil => rw [hq] at h3; cases h3
        | cons a l => rw [hq] at h3; simpa [List.getLast?_cons_cons] using h3
      · rw [List.filter_cons_of_neg (by simpa using hc)]; exact h3
theorem w_pub {L : List (Int × ByteArray)} {t : Int} {b : ByteArray} (h0 : 0 ≤ t) (h1 : t ≤ 100000) (hL : L.length ≤ 100) (ht : ∀ x ∈ L, x.1 ≤ t) (hb : b.size ≤ 2000) :
    pubS (orgW L) t (verW b) = (((L.length + 1 : Nat) : Int), 0, orgW (L ++ [(t, b)])) := by
  have hc : cl55 t = t := by unfold cl55; omega
  have hl : (vsW L).length = L.length := by unfold vsW; simp
  rw [pub_ok (o := orgW L) (t := t) (by unfold bigVr verW; simp; omega) (by show ¬ 4096 ≤ (vsW L).length; omega) (by kernel_rfl) (fun p hp => by
    have h2 := List.mem_of_getLast? hp
    obtain ⟨x, hx, rfl⟩ := List.mem_map.1 h2
    rw [hc]; have := ht x hx; show ¬ t < x.1; omega)]
  rw [hc]
  show _ = (((L.length + 1 : Nat) : Int), 0, (⟨vsW (L ++ [(t, b)]), [], []⟩ : Org))
  have hm : vsW (L ++ [(t, b)]) = vsW L ++ [(t, verW b)] := by unfold vsW; simp
  rw [hm]
  unfold orgW
  simp [hl]
structure WhS (L : List (Int × ByteArray)) (now : Int) : Prop where
  no : lastW L now = none → (answS (orgW L) now rqG).1 = 404 ∧ (answS (orgW L) now rqG).2.2.1 = ⟨#[]⟩
  so : ∀ b, lastW L now = some b → (answS (orgW L) now rqG).1 = 200 ∧ (answS (orgW L) now rqG).2.2.1 = b ∧ getO (answS (orgW L) now rqG).2.1 x_cl = some (decV b.size)
/-- A request for the address that reaches a version. -/
theorem dec_at {o : Org} {t : Int} {r : Rq} {n : Nat} {p : Int × Ver} (hb : o.br = []) (hm : (!(r.method.toList == [71, 69, 84]) && !(r.method.toList == [72, 69, 65, 68])) = false) (hh : allS r.fs x_ho = [x_ec]) (ht : r.target = x_sa) (hn : findS o.vs x_ad t = n + 1) (hp : o.vs[n]? = some p) :
    decS55 o t r = verS { ans0 with addr := x_ad, version := ((n + 1 : Nat) : Int) } p.2 r := by
  have e1 : adPS x_ec x_sa = some ⟨bL x_ec, bL x_sa, [], false⟩ := by kernel_rfl
  have e2 : ofL (adText ⟨bL x_ec, bL x_sa, [], false⟩) = x_ad := by kernel_rfl
  unfold decS55
  rw [hb, hm, hh, ht]
  simp only [List.any_nil, Bool.false_eq_true, if_false, e1, e2, hn]
  rw [show n + 1 - 1 = n by omega, hp]
  simp
theorem dec_no {o : Org} {t : Int} {r : Rq} (hb : o.br = []) (hm : (!(r.method.toList == [71, 69, 84]) && !(r.method.toList == [72, 69, 65, 68])) = false) (hh : allS r.fs x_ho = [x_ec]) (ht : r.target = x_sa) (hn : findS o.vs x_ad t = 0) :
    decS55 o t r = { ans0 with status := 404, addr := x_ad, fs := brief } := by
  have e1 : adPS x_ec x_sa = some ⟨bL x_ec, bL x_sa, [], false⟩ := by kernel_rfl
  have e2 : ofL (adText ⟨bL x_ec, bL x_sa, [], false⟩) = x_ad := by kernel_rfl
  unfold decS55
  rw [hb, hm, hh, ht]
  simp only [List.any_nil, Bool.false_eq_true, if_false, e1, e2, hn]
  split <;> simp
set_option maxRecDepth 100000 in
theorem whS (L : List (Int × ByteArray)) (now : Int) (h0 : 0 ≤ now) (h1 : now ≤ 100000) (hz : ∀ x ∈ L, x.2.size ≤ 2000) : WhS L now := by
  have hc : cl55 now = now := by unfold cl55; omega
  have hA := answ_eq (orgW L) now rqG
  rw [hc] at hA
  rcases find_W now L with ⟨q1, q2⟩ | ⟨n, b, p, q1, q2, q3⟩
  · rw [dec_no (o := orgW L) (r := rqG) rfl (by kernel_rfl) (by kernel_rfl) rfl q1] at hA
    rw [show ansF { ans0 with status := 404, addr := x_ad, fs := brief } now = [(x_cc, x_m1), (x_dt, fmtS (now / 1000)), (x_cl, decV 0)] by kernel_rfl] at hA
    refine ⟨fun _ => ?_, fun b hb => (by rw [q2] at hb; cases hb)⟩
    rw [hA]; exact ⟨rfl, by kernel_rfl⟩
  · rw [dec_at (o := orgW L) (r := rqG) rfl (by kernel_rfl) (by kernel_rfl) rfl q1 q2] at hA
    have hb : b.size ≤ 2000 := by
      unfold lastW at q3
      rw [Option.map_eq_some_iff] at q3
      obtain ⟨x, hx, rfl⟩ := q3
      exact hz x (List.mem_filter.1 (List.mem_of_getLast? hx)).1
    generalize (((n + 1 : Nat) : Int)) = N at hA
    rw [show ansF (verS { ans0 with addr := x_ad, version := N } (verW b) rqG) now = [(x_dt, fmtS (now / 1000)), (x_cl, decV b.size)] by kernel_rfl] at hA
    refine ⟨fun h => (by rw [q3] at h; cases h), fun b2 h2 => ?_⟩
    rw [q3] at h2; injection h2 with h2; subst h2
    rw [hA]; exact ⟨by kernel_rfl, by kernel_rfl, getO_one (by kernel_rfl)⟩
end Go.Proofs.YtmckbcbdnckngaaGreatDoor

namespace Go.Proofs.YtmckbcbdnckngaaGreatDoor
open Go.RowKit

/-- What the loop holds: the origin with the versions of L. -/
structure WhI (w0 wr : World) (p : Nat) (L : List (Int × ByteArray)) (t : Int) : Prop where
  org : ∃ R Q M, OrgP wr p R Q (orgW L) M ∧ ∀ i, R i → w0.heap.size ≤ i
  ext : Ext w0 wr
  tl : ∀ x ∈ L, x.1 ≤ t
  sz : ∀ x ∈ L, x.2.size ≤ 2000
theorem WhI.pub {w0 wr : World} {p : Nat} {L : List (Int × ByteArray)} {t : Int} (h : WhI w0 wr p L t) {b : ByteArray} {s : Sl} (hb : Rd w0 1 s.A s.n (bytC b)) (hsc : s.n ≤ s.c) (h0 : 0 ≤ t) (h1 : t ≤ 100000) (hL : L.length ≤ 100) (hbz : b.size ≤ 2000) (hg : Gl wr) :
    Calls Tryz.prog 14 #[.pointer (some ⟨p, 0, none⟩), .int .i64 t, .agg #[.string x_ad, .int .i64 200, .slice none 0 0, s.v, .slice none 0 0]] wr fun e w' => e = .returned (.tuple #[.int .i64 ((L.length + 1 : Nat) : Int), .nilIface]) ∧ WhI w0 w' p (L ++ [(t, b)]) t := by
  obtain ⟨R, Q, M, hO, hR⟩ := h.org
  have hm : (⟨x_ad, 200, [], b, [], sl0, s, sl0⟩ : MV).At (fun _ => False) wr := ⟨RS.nil _ _ _, ⟨hb.ext h.ext, fun _ _ _ hf => hf, hsc⟩, RS.nil _ _ _, fun x hx => by cases hx⟩
  refine (pub_v (v := verW b) hO hm rfl ⟨by show x_ad.size ≤ _; decide, by show 0 ≤ _; omega, by show sumF [] ≤ _; decide, by show b.size ≤ _; omega, by show 0 ≤ _; omega, fun x hx => by cases hx⟩ (w_pub h0 h1 hL h.tl hbz) hg).mono ?_
  rintro e w' ⟨rfl, R', ⟨M', hO'⟩, hk, hRa, hRb⟩
  refine ⟨rfl, ⟨R', _, M', hO', fun i hi => (hRb i hi).elim (hR i) (fun h2 => by have := h.ext.size; omega)⟩, h.ext.keeps hk hR, fun x hx => ?_, fun x hx => ?_⟩
  · rcases List.mem_append.1 hx with h2 | h2
    · exact h.tl x h2
    · rw [List.mem_singleton] at h2; subst h2; exact Int.le_refl _
  · rcases List.mem_append.1 hx with h2 | h2
    · exact h.sz x h2
    · rw [List.mem_singleton] at h2; subst h2; exact hbz
theorem WhI.later {w0 wr : World} {p : Nat} {L : List (Int × ByteArray)} {t t2 : Int} (h : WhI w0 wr p L t) (ht : t ≤ t2) : WhI w0 wr p L t2 := ⟨h.org, h.ext, fun x hx => Int.le_trans (h.tl x hx) ht, h.sz⟩
/-- The body that is wanted, and whether there is one. -/
def WhW (w : World) (L : List (Int × ByteArray)) (now : Int) (wv sv : Value) : Prop :=
  (sv = .bool false ∧ wv = .slice none 0 0 ∧ lastW L now = none) ∨ ∃ (b : ByteArray) (s : Sl), sv = .bool true ∧ wv = s.v ∧ Rd w 1 s.A s.n (bytC b) ∧ lastW L now = some b ∧ b.size ≤ 2000
theorem WhW.yes {w : World} {L : List (Int × ByteArray)} {now t : Int} {b : ByteArray} {s : Sl} (hr : Rd w 1 s.A s.n (bytC b)) (hb : b.size ≤ 2000) (ht : t ≤ now) : WhW w (L ++ [(t, b)]) now s.v (.bool true) :=
  .inr ⟨b, s, rfl, rfl, hr, by rw [lastW_app, if_pos ht], hb⟩
theorem WhW.no {w : World} {L : List (Int × ByteArray)} {now t : Int} {b : ByteArray} {wv sv : Value} (h : WhW w L now wv sv) (ht : ¬ t ≤ now) : WhW w (L ++ [(t, b)]) now wv sv := by
  rcases h with ⟨h1, h2, h3⟩ | ⟨b', s, h1, h2, h3, h4, h5⟩
  · exact .inl ⟨h1, h2, by rw [lastW_app, if_neg ht, h3]⟩
  · exact .inr ⟨b', s, h1, h2, h3, by rw [lastW_app, if_neg ht, h4], h5⟩
set_option maxHeartbeats 16000000 in
set_option maxRecDepth 100000 in
theorem whole_walk (L0 : List (ByteArray × Sl)) (A : Option Addr) (n c : Nat) (gs : ByteArray) (sg : Sl) (at_ : Nat) (w : World) (hr : Rd w 1 A n (L0.map fun y => y.2.v)) (hl : L0.length = n) (hn : n ≤ maxLen) (hy : ∀ y ∈ L0, RS (fun _ => False) w 1 y.2 (bytC y.1) ∧ y.2.n ≤ maxLen) (hgs : RS (fun _ => False) w 1 sg (bytC gs)) (hgm : sg.n ≤ maxLen) (hat : at_ ≤ 65535) (hg : Gl w) (hh : GlH w) (hp : GlP w) :
    Calls Tryz.prog 3 #[.slice A n c, sg.v, .int .u16 at_] w fun e w' => e = .returned (.bool true) ∧ Ext w w' := by
  have HEg := Lib.hid (fun w' (hx : Ext w w') => (⟨hg.ext hx, hh.ext hx, hp.ext hx⟩ : Gl w' ∧ GlH w' ∧ GlP w'))
  clear hg hh hp
  obtain ⟨gA, gn, gc⟩ := sg
  simp only [Sl.v]
  by_cases hbig : 20 < n
  · have f1 : (20 : Int) < n := by omega
    go_enter Tryz.func3, Tryz.ntmps3
    go_wp2_with fail
    refine (law_awake _ (HEg.out _ (Ext.refl _)).1 (HEg.out _ (Ext.refl _)).2.1 (HEg.out _ (Ext.refl _)).2.2).mono ?_; rintro e w1 ⟨rfl, hb1⟩
    go_wp2_with fail
    go_ret
    exact ⟨rfl, hb1⟩
  have f1 : ¬ ((20 : Int) < n) := by omega
  have q1 : IntKind.i64.wrap (at_ : Int) = (at_ : Int) := IntWalk.i64_in _ (by omega)
  go_enter Tryz.func3, Tryz.ntmps3
  go_wp2_with fail
  refine (law_awake _ (HEg.out _ (Ext.refl _)).1 (HEg.out _ (Ext.refl _)).2.1 (HEg.out _ (Ext.refl _)).2.2).mono ?_; rintro e w1 ⟨rfl, hb1⟩
  go_wp2_with fail
  refine (or_New _).mono ?_; rintro e w2 ⟨rfl, hO2, hb2⟩
  have HE2 := Lib.hid (hb1.trans hb2)
  have HI2 := Lib.hid (⟨⟨_, _, _, hO2, fun i hi => by rw [show i = w1.heap.size from hi]; exact hb1.size⟩, hb1.trans hb2, fun x hx => (by cases hx), fun x hx => (by cases hx)⟩ : WhI w w2 w1.heap.size [] 0)
  clear hO2 hb2 hb1
  generalize w1.heap.size = p at *
  go_wp2_with fail
  have hnow : 0 ≤ (at_ : Int) ∧ (at_ : Int) ≤ 65535 := by omega
  generalize (at_ : Int) = now at *
  go_loopg [8, 10, 11, 33] n (fun g tv wv sv i wr => ∃ (j : Nat) (L : List (Int × ByteArray)) (t : Int), j ≤ n ∧ g = n - j ∧ i = .int .i64 (j : Nat) ∧ tv = .int .i64 t ∧ 0 ≤ t ∧ t ≤ 255 * j ∧ L.length = j ∧ WhI w wr p L t ∧ WhW w L now wv sv)
  case atStart => exact ⟨0, [], 0, Nat.zero_le _, rfl, rfl, rfl, Int.le_refl _, by omega, rfl, HI2.out, .inl ⟨rfl, rfl, rfl⟩⟩
  case round =>
    obtain ⟨j, L, t, hj, rfl, rfl, rfl, ht0, ht1, hLj, hI, hW⟩ := hrel
    by_cases hlt : j < n
    · have hlt' : j < L0.length := by omega
      obtain ⟨ab, ao, rfl, hca⟩ := hr.2 (by rw [List.length_map]; omega)
      have hcj := hI.ext.cell (hca j _ (by rw [List.getElem?_map, List.getElem?_eq_getElem hlt']; rfl))
      have hyj := hy _ (List.getElem_mem hlt')
      generalize L0[j] = y at *
      obtain ⟨b, ⟨bA, bn, bc⟩⟩ := y
      simp only [Sl.v] at hcj hyj
      have hbn : b.size = bn := by have := hyj.1.len1; rw [bytC_len] at this; exact this
      by_cases hbz : 2000 < bn
      · have f2 : (2000 : Int) < bn := by omega
        go_wp2_with fail
        go_ret
        exact ⟨rfl, hI.ext⟩
      · have f2 : ¬ ((2000 : Int) < bn) := by omega
        have hgz : gs.size = gn := by have := hgs.len1; rw [bytC_len] at this; exact this
        have q2 : IntKind.i64.wrap ((j : Int) + 1) = ((j + 1 : Nat) : Int) := by rw [IntWalk.i64_in _ (by omega)]; omega
        have hne : (((j + 1 : Nat) : Int) != ((j + 1 : Nat) : Int)) = false := by simp
        have HR := Lib.hid hyj.1
        have HW := Lib.hid hW
        have HIx := Lib.hid hI.ext
        clear hyj hW
        by_cases hgj : j < gn
        · have f3 : (j : Int) < gn := by omega
          obtain ⟨gb, go, hgA, hgc⟩ := hgs.rd.2 (by rw [bytC_len]; omega)
          simp only at hgA
          subst hgA
          have hlg : j < gs.data.toList.length := by rw [Array.length_toList]; show j < gs.size; omega
          have hcg := hI.ext.cell (hgc j (.int .u8 (gs.data.toList[j]).toNat) (by unfold bytC; rw [List.getElem?_map, List.getElem?_eq_getElem hlg]; rfl))
          have hz : (gs.data.toList[j]).toNat ≤ 255 := by have := (gs.data.toList[j]).toNat_lt; omega
          generalize (gs.data.toList[j]).toNat = z at *
          have q3 : IntKind.i64.wrap (z : Int) = (z : Int) := IntWalk.i64_in _ (by omega)
          have q4 : IntKind.i64.wrap (t + (z : Int)) = t + (z : Int) := IntWalk.i64_in _ (by omega)
          have HPub := Lib.hid (WhI.pub (s := ⟨bA, bn, bc⟩) (hI.later (t2 := t + z) (by omega)) HR.out.rd HR.out.cap (by omega) (by omega) (by omega) (by omega) (HEg.out _ hI.ext).1)
          rw [hLj] at HPub
          have hb2 : t + (z : Int) ≤ 255 * (j + 1 : Nat) := by omega
          have hb0 : 0 ≤ t + (z : Int) := by omega
          clear hI
          simp only [Sl.v] at HPub
          go_wp2_with fail
          refine HPub.out.mono ?_; rintro e w4 ⟨rfl, hI4⟩
          have HI4 := Lib.hid hI4
          clear hI4 HPub
          by_cases hle : (t + (z : Int)) ≤ now
          · go_wp2_with fail
            go_roundg (n - (j + 1))
            case measure => omega
            case rel => exact ⟨j + 1, _, (t + (z : Int)), by omega, rfl, rfl, rfl, hb0, hb2, by rw [List.length_append, hLj]; rfl, HI4.out, WhW.yes (s := ⟨bA, bn, bc⟩) HR.out.rd (by omega) hle⟩
          · go_wp2_with fail
            go_roundg (n - (j + 1))
            case measure => omega
            case rel => exact ⟨j + 1, _, (t + (z : Int)), by omega, rfl, rfl, rfl, hb0, hb2, by rw [List.length_append, hLj]; rfl, HI4.out, HW.out.no (by omega)⟩
        · have f3 : ¬ ((j : Int) < gn) := by omega
          have HPub := Lib.hid (WhI.pub (s := ⟨bA, bn, bc⟩) hI HR.out.rd HR.out.cap (by omega) (by omega) (by omega) (by omega) (HEg.out _ hI.ext).1)
          rw [hLj] at HPub
          have hb2 : t ≤ 255 * (j + 1 : Nat) := by omega
          have hb0 := ht0
          clear hI
          simp only [Sl.v] at HPub
          go_wp2_with fail
          refine HPub.out.mono ?_; rintro e w4 ⟨rfl, hI4⟩
          have HI4 := Lib.hid hI4
          clear hI4 HPub
          by_cases hle : t ≤ now
          · go_wp2_with fail
            go_roundg (n - (j + 1))
            case measure => omega
            case rel => exact ⟨j + 1, _, t, by omega, rfl, rfl, rfl, hb0, hb2, by rw [List.length_append, hLj]; rfl, HI4.out, WhW.yes (s := ⟨bA, bn, bc⟩) HR.out.rd (by omega) hle⟩
          · go_wp2_with fail
            go_roundg (n - (j + 1))
            case measure => omega
            case rel => exact ⟨j + 1, _, t, by omega, rfl, rfl, rfl, hb0, hb2, by rw [List.length_append, hLj]; rfl, HI4.out, HW.out.no (by omega)⟩
    · have hjn : j = n := by omega
      subst hjn
      obtain ⟨R, Q, M, hO, hRl⟩ := hI.org
      have hS := whS L now (by omega) (by omega) hI.sz
      obtain ⟨⟨S, F1, B, o2⟩, ha⟩ : ∃ X, answS (orgW L) now rqG = X := ⟨_, rfl⟩
      obtain ⟨hSn, hSs⟩ := hS
      rw [ha] at hSn hSs
      simp only at hSn hSs
      have HA := Lib.hid ha; have HSn := Lib.hid hSn; have HSs := Lib.hid hSs; have HO := Lib.hid hO; have HRl := Lib.hid hRl; have HEx := Lib.hid hI.ext; have HW := Lib.hid hW
      clear ha hSn hSs hO hRl hI hW HI2 HE2
      go_wp2_with fail
      refine (law_get x_ge none 0 0 [] wr (Rd.none_ _ _ _) (by decide)).mono ?_; rintro e w4 ⟨⟨kA, kn, kc⟩, rfl, hg4, hb4⟩
      have HE4 := Lib.hid (HEx.out.trans hb4)
      obtain ⟨hFz, hAn⟩ := ans_s (t := now) (me := x_ge) (ta := x_sa) (HO.out.ext hb4) hg4 (by decide) (by decide) (by show 0 ≤ _; omega) (by show 0 ≤ _; omega) (HEg.out _ HE4.out) HA.out
      have HAn := Lib.hid hAn; have HFz := Lib.hid hFz
      clear hAn hFz hg4 hb4
      simp only [Sl.v] at HAn ⊢
      go_wp2_with fail
      refine HAn.out.mono ?_; rintro e w5 ⟨⟨uA, un, uc⟩, ⟨vA2, vn2, vc2⟩, rfl, R5, -, hs5, ht5, hk5, -, -⟩
      have HE5 := Lib.hid (HE4.out.keeps hk5 HRl.out)
      have hX5 := (Ext.refl w5).alloc (.cells #[.int .i64 S, .slice uA un uc] 38)
      have HE6 := Lib.hid (HE5.out.trans hX5)
      have hB5 := Blk.new w5 38 #[.int .i64 S, .slice uA un uc]
      have h0 : (w5.alloc (.cells #[.int .i64 S, .slice uA un uc] 38)).cell? ⟨w5.heap.size, 0, none⟩ = some (.int .i64 S) := hB5.cell 0
      have h1 : (w5.alloc (.cells #[.int .i64 S, .slice uA un uc] 38)).cell? ⟨w5.heap.size, 1, none⟩ = some (.slice uA un uc) := hB5.cell 1
      have hvn : B.size = vn2 := by have := ht5.len1; rw [bytC_len] at this; exact this
      have HT := Lib.hid (ht5.ext hX5)
      have HGt := Lib.hid (get_F x_cl (by decide) (hs5.ext hX5) HFz.out)
      obtain ⟨oc, hoc⟩ : ∃ oc, getO F1 x_cl = oc := ⟨_, rfl⟩
      rw [hoc] at HGt HSs
      rw [show getV oc = .tuple #[.string (oc.getD ⟨#[]⟩), .bool oc.isSome] from rfl] at HGt
      clear hs5 ht5 hk5 HAn HA hoc hX5
      rcases HW.out with ⟨rfl, rfl, e3⟩ | ⟨b, ⟨bA, bn, bc⟩, rfl, rfl, hrb, e4, hbz⟩
      · obtain ⟨rfl, rfl⟩ := HSn.out e3
        obtain rfl : vn2 = 0 := by rw [← hvn]; rfl
        go_wp2_with fail
        refine HGt.out.mono ?_; rintro e w7 ⟨rfl, hb7⟩
        have h0' := hb7.cell h0
        go_wp2_with fail
        go_ret
        exact ⟨rfl, HE6.out.trans hb7⟩
      · obtain ⟨rfl, rfl, rfl⟩ := HSs.out b e4
        have hbn : B.size = bn := by have := hrb.1; rw [bytC_len] at this; simp only at this; omega
        obtain rfl : bn = vn2 := by omega
        have HDg := Lib.hid (fun w' => base_DigitsN (bn : Int) w' (by omega) (by omega))
        have HRb := Lib.hid (fun w' (hx : Ext w w') => hrb.ext hx)
        rw [hbn] at HGt
        simp only [Option.getD_some, Option.isSome_some] at HGt
        simp only [Sl.v]
        simp only at hrb
        clear hrb
        go_wp2_with fail
        refine HGt.out.mono ?_; rintro e w7 ⟨rfl, hb7⟩
        have h0' := hb7.cell h0
        have HBy := Lib.hid (base_Bytes vA2 bn vc2 bA bn bc B B w7 (HT.out.rd.ext hb7) (HRb.out _ (HE6.out.trans hb7)))
        rw [decide_eq_true rfl] at HBy
        go_wp2_with fail
        refine HBy.out.mono ?_; rintro e w8 ⟨rfl, rfl⟩
        go_wp2_with fail
        refine (HDg.out _).mono ?_; rintro e w9 ⟨rfl, hb9⟩
        go_wp2_with fail
        go_ret
        exact ⟨rfl, (HE6.out.trans hb7).trans hb9⟩
theorem u16_wfW {x : Int} (h : (Lit.int .u16 x).wf = true) : 0 ≤ x ∧ x ≤ 65535 := by
  simp [Lit.wf] at h
  have e1 : IntKind.u16.min = 0 := rfl
  have e2 : IntKind.u16.max = 65535 := rfl
  omega
theorem whole_walkI (L0 : List (ByteArray × Sl)) (A : Option Addr) (n c : Nat) (gs : ByteArray) (sg : Sl) (x : Int) (w : World) (hr : Rd w 1 A n (L0.map fun y => y.2.v)) (hl : L0.length = n) (hn : n ≤ maxLen) (hy : ∀ y ∈ L0, RS (fun _ => False) w 1 y.2 (bytC y.1) ∧ y.2.n ≤ maxLen) (hgs : RS (fun _ => False) w 1 sg (bytC gs)) (hgm : sg.n ≤ maxLen) (hx : 0 ≤ x ∧ x ≤ 65535) (hg : Gl w) (hh : GlH w) (hp : GlP w) :
    Calls Tryz.prog 3 #[.slice A n c, sg.v, .int .u16 x] w fun e w' => e = .returned (.bool true) ∧ Ext w w' := by
  obtain ⟨a, rfl⟩ := Int.eq_ofNat_of_zero_le hx.1
  exact whole_walk L0 A n c gs sg a w hr hl hn hy hgs hgm (by omega) hg hh hp
end Go.Proofs.YtmckbcbdnckngaaGreatDoor
