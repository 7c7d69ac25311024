/- OriginWhole in plain words: the last body up to a time is what is answered. OriginVariants in plain words: the first variant with the request's key is what is answered. OriginVariants: the law's version in memory, whose row of variants grows. Plain facts on memory. The walk of OriginVariants. -/
import Derived.Test.YtmckbcbdnckngaaGreatDoorJ8
set_option linter.unusedSimpArgs false
set_option linter.unusedVariables false
namespace Go.Proofs.YtmckbcbdnckngaaGreatDoor
open Go.RowKit

def verW (b : ByteArray) : Ver := ⟨x_ad, 200, [], b, []⟩
def vsW (L : List (Int × ByteArray)) : List (Int × Ver) := L.map fun x => (x.1, verW x.2)
def orgW (L : List (Int × ByteArray)) : Org := ⟨vsW L, [], []⟩
def lastW (L : List (Int × ByteArray)) (now : Int) : Option ByteArray := ((L.filter fun x => decide (x.1 ≤ now)).getLast?).map (·.2)
theorem lastW_app (L : List (Int × ByteArray)) (now t : Int) (b : ByteArray) : lastW (L ++ [(t, b)]) now = if t ≤ now then some b else lastW L now := by
  unfold lastW
  rw [List.filter_append]
  by_cases h : t ≤ now
  · rw [if_pos h, List.filter_cons_of_pos (by simpa using h)]; simp
  · rw [if_neg h, List.filter_cons_of_neg (by simpa using h)]; simp
theorem find_W (t : Int) : ∀ L : List (Int × ByteArray), (findS (vsW L) x_ad t = 0 ∧ lastW L t = none) ∨ ∃ n b p, findS (vsW L) x_ad t = n + 1 ∧ (vsW L)[n]? = some (p, verW b) ∧ lastW L t = some b
  | [] => .inl ⟨rfl, rfl⟩
  | x :: L => by
    have hx : ((verW x.2).addr == x_ad) = true := by kernel_rfl
    have e : findS (vsW (x :: L)) x_ad t = if findS (vsW L) x_ad t = 0 then (if ((verW x.2).addr == x_ad && decide (x.1 ≤ t)) = true then 1 else 0) else findS (vsW L) x_ad t + 1 := rfl
    rcases find_W t L with ⟨h1, h2⟩ | ⟨n, b, p, h1, h2, h3⟩
    · rw [e, if_pos h1]
      unfold lastW at h2
      have h4 : L.filter (fun x => decide (x.1 ≤ t)) = [] := by simpa using h2
      by_cases hc : x.1 ≤ t
      · rw [if_pos (by rw [hx]; simp [hc])]
        refine .inr ⟨0, x.2, x.1, rfl, rfl, ?_⟩
        unfold lastW
        rw [List.filter_cons_of_pos (by simpa using hc), h4]; rfl
      · rw [if_neg (by simp [hc])]
        refine .inl ⟨rfl, ?_⟩
        unfold lastW
        rw [List.filter_cons_of_neg (by simpa using hc), h4]; rfl
    · rw [e, if_neg (by omega), h1]
      refine .inr ⟨n + 1, b, p, rfl, h2, ?_⟩
      unfold lastW at h3 ⊢
      by_cases hc : x.1 ≤ t
      · rw [List.filter_cons_of_pos (by simpa using hc)]
        cases hq : L.filter (fun x => decide (x.1 ≤ t)) with
        | nil => rw [hq] at h3; cases h3
        | cons a l => rw [hq] at h3; simpa [List.getLast?_cons_cons] using h3
      · rw [List.filter_cons_of_neg (by simpa using hc)]; exact h3
theorem w_pub {L : List (Int × ByteArray)} {t : Int} {b : ByteArray} (h0 : 0 ≤ t) (h1 : t ≤ 100000) (hL : L.length ≤ 100) (ht : ∀ x ∈ L, x.1 ≤ t) (hb : b.size ≤ 2000) :
    pubS (orgW L) t (verW b) = (((L.length + 1 : Nat) : Int), 0, orgW (L ++ [(t, b)])) := by
  have hc : cl55 t = t := by unfold cl55; omega
  have hl : (vsW L).length = L.length := by unfold vsW; simp
  rw [pub_ok (o := orgW L) (t := t) (by unfold bigVr verW; simp; omega) (by show ¬ 4096 ≤ (vsW L).length; omega) (by kernel_rfl) (fun p hp => by
    have h2 := List.mem_of_getLast? hp
    obtain ⟨x, hx, rfl⟩ := List.mem_map.1 h2
    rw [hc]; have := ht x hx; show ¬ t < x.1; omega)]
  rw [hc]
  show _ = (((L.length + 1 : Nat) : Int), 0, (⟨vsW (L ++ [(t, b)]), [], []⟩ : Org))
  have hm : vsW (L ++ [(t, b)]) = vsW L ++ [(t, verW b)] := by unfold vsW; simp
  rw [hm]
  unfold orgW
  simp [hl]
structure WhS (L : List (Int × ByteArray)) (now : Int) : Prop where
  no : lastW L now = none → (answS (orgW L) now rqG).1 = 404 ∧ (answS (orgW L) now rqG).2.2.1 = ⟨#[]⟩
  so : ∀ b, lastW L now = some b → (answS (orgW L) now rqG).1 = 200 ∧ (answS (orgW L) now rqG).2.2.1 = b ∧ getO (answS (orgW L) now rqG).2.1 x_cl = some (decV b.size)
/-- A request for the address that reaches a version. -/
theorem dec_at {o : Org} {t : Int} {r : Rq} {n : Nat} {p : Int × Ver} (hb : o.br = []) (hm : (!(r.method.toList == [71, 69, 84]) && !(r.method.toList == [72, 69, 65, 68])) = false) (hh : allS r.fs x_ho = [x_ec]) (ht : r.target = x_sa) (hn : findS o.vs x_ad t = n + 1) (hp : o.vs[n]? = some p) :
    decS55 o t r = verS { ans0 with addr := x_ad, version := ((n + 1 : Nat) : Int) } p.2 r := by
  have e1 : adPS x_ec x_sa = some ⟨bL x_ec, bL x_sa, [], false⟩ := by kernel_rfl
  have e2 : ofL (adText ⟨bL x_ec, bL x_sa, [], false⟩) = x_ad := by kernel_rfl
  unfold decS55
  rw [hb, hm, hh, ht]
  simp only [List.any_nil, Bool.false_eq_true, if_false, e1, e2, hn]
  rw [show n + 1 - 1 = n by omega, hp]
  simp
theorem dec_no {o : Org} {t : Int} {r : Rq} (hb : o.br = []) (hm : (!(r.method.toList == [71, 69, 84]) && !(r.method.toList == [72, 69, 65, 68])) = false) (hh : allS r.fs x_ho = [x_ec]) (ht : r.target = x_sa) (hn : findS o.vs x_ad t = 0) :
    decS55 o t r = { ans0 with status := 404, addr := x_ad, fs := brief } := by
  have e1 : adPS x_ec x_sa = some ⟨bL x_ec, bL x_sa, [], false⟩ := by kernel_rfl
  have e2 : ofL (adText ⟨bL x_ec, bL x_sa, [], false⟩) = x_ad := by kernel_rfl
  unfold decS55
  rw [hb, hm, hh, ht]
  simp only [List.any_nil, Bool.false_eq_true, if_false, e1, e2, hn]
  split <;> simp
set_option maxRecDepth 100000 in
theorem whS (L : List (Int × ByteArray)) (now : Int) (h0 : 0 ≤ now) (h1 : now ≤ 100000) (hz : ∀ x ∈ L, x.2.size ≤ 2000) : WhS L now := by
  have hc : cl55 now = now := by unfold cl55; omega
  have hA := answ_eq (orgW L) now rqG
  rw [hc] at hA
  rcases find_W now L with ⟨q1, q2⟩ | ⟨n, b, p, q1, q2, q3⟩
  · rw [dec_no (o := orgW L) (r := rqG) rfl (by kernel_rfl) (by kernel_rfl) rfl q1] at hA
    rw [show ansF { ans0 with status := 404, addr := x_ad, fs := brief } now = [(x_cc, x_m1), (x_dt, fmtS (now / 1000)), (x_cl, decV 0)] by kernel_rfl] at hA
    refine ⟨fun _ => ?_, fun b hb => (by rw [q2] at hb; cases hb)⟩
    rw [hA]; exact ⟨rfl, by kernel_rfl⟩
  · rw [dec_at (o := orgW L) (r := rqG) rfl (by kernel_rfl) (by kernel_rfl) rfl q1 q2] at hA
    have hb : b.size ≤ 2000 := by
      unfold lastW at q3
      rw [Option.map_eq_some_iff] at q3
      obtain ⟨x, hx, rfl⟩ := q3
      exact hz x (List.mem_filter.1 (List.mem_of_getLast? hx)).1
    generalize (((n + 1 : Nat) : Int)) = N at hA
    rw [show ansF (verS { ans0 with addr := x_ad, version := N } (verW b) rqG) now = [(x_dt, fmtS (now / 1000)), (x_cl, decV b.size)] by kernel_rfl] at hA
    refine ⟨fun h => (by rw [q3] at h; cases h), fun b2 h2 => ?_⟩
    rw [q3] at h2; injection h2 with h2; subst h2
    rw [hA]; exact ⟨by kernel_rfl, by kernel_rfl, getO_one (by kernel_rfl)⟩
end Go.Proofs.YtmckbcbdnckngaaGreatDoor

namespace Go.Proofs.YtmckbcbdnckngaaGreatDoor
open Go.RowKit

def x_ac : ByteArray := ⟨#[97, 99, 99, 101, 112, 116]⟩
def x_pl : ByteArray := ⟨#[112, 108, 97, 105, 110]⟩
def x_bo : ByteArray := ⟨#[98, 111, 100, 121]⟩
def x_qv : ByteArray := ⟨#[34, 118]⟩
def x_qq : ByteArray := ⟨#[34]⟩
/-- The key of a value. -/
def keyA (s : ByteArray) : ByteArray := vkyS [x_ac] [(x_ac, s)]
/-- The variant of a value, with its number. -/
def vrA (i : Nat) (s : ByteArray) : Vr := ⟨[x_ac], keyA s, x_qv ++ decV (i : Int) ++ x_qq, x_bo ++ decV (i : Int)⟩
def vrsA (vs : List ByteArray) : List Vr := vs.mapIdx vrA
def pickA (vs : List Vr) (mine : ByteArray) : ByteArray × ByteArray :=
  match vs.find? (fun x => x.key == keyA mine) with
  | some x => (x.body, x.tag)
  | none => (x_pl, x_q1)
theorem vrsA_app (vs : List ByteArray) (s : ByteArray) : vrsA (vs ++ [s]) = vrsA vs ++ [vrA vs.length s] := by
  unfold vrsA; rw [List.mapIdx_append]; simp
theorem vrsA_len (vs : List ByteArray) : (vrsA vs).length = vs.length := by unfold vrsA; simp
theorem vrsA_mem {vs : List ByteArray} {x : Vr} (h : x ∈ vrsA vs) : ∃ i s, i < vs.length ∧ s ∈ vs ∧ x = vrA i s := by
  unfold vrsA at h
  obtain ⟨i, hi, rfl⟩ := List.mem_mapIdx.1 h
  exact ⟨i, vs[i], hi, List.getElem_mem _, rfl⟩
theorem bo_ne (i : Nat) : x_bo ++ decV (i : Int) ≠ x_pl := by
  intro h
  have := congrArg (fun b : ByteArray => b.data.toList.head?) h
  rw [show x_pl.data.toList.head? = some 112 from rfl] at this
  rw [data_append] at this
  revert this
  show ¬ (some (98 : UInt8) = some 112)
  decide
theorem pick_app (L : List Vr) (x : Vr) (mine : ByteArray) (hL : ∀ y ∈ L, y.body ≠ x_pl) : pickA (L ++ [x]) mine = if (pickA L mine).1 = x_pl ∧ x.key = keyA mine then (x.body, x.tag) else pickA L mine := by
  unfold pickA
  rw [List.find?_append]
  cases h : L.find? (fun x => x.key == keyA mine) with
  | some y =>
    have hy := hL y (List.mem_of_find?_eq_some h)
    simp [hy]
  | none =>
    simp only [Option.none_or, List.find?_cons, List.find?_nil]
    by_cases hk : x.key = keyA mine
    · rw [hk, show (keyA mine == keyA mine) = true by rw [beqB]; exact decide_eq_true rfl]; simp
    · rw [show (x.key == keyA mine) = false by rw [beqB]; exact decide_eq_false hk]; simp [hk]
theorem chs_pick (v : Ver) (fs : List Fd) (mine : ByteArray) (hv : v.fs = [(x_et, x_q1)]) (hk : vkyS [x_ac] fs = keyA mine) : ∀ (l : List Vr) (k : Nat), (∀ x ∈ l, x.names = [x_ac] ∧ x.tag.size ≠ 0) → v.body = x_pl →
    (chsS v fs k l).2.1 = (pickA l mine).1 ∧ (chsS v fs k l).1 = [(x_et, (pickA l mine).2)]
  | [], k, _, hb => ⟨hb, hv⟩
  | x :: l, k, hl, hb => by
    have hx := hl x (List.mem_cons_self ..)
    unfold chsS pickA
    rw [hx.1, hk, List.find?_cons]
    by_cases h : x.key = keyA mine
    · rw [h, show (keyA mine == keyA mine) = true by rw [beqB]; exact decide_eq_true rfl, if_pos rfl]
      rw [if_neg (by simp [hx.2]), hv]
      exact ⟨rfl, show setS x_et x.tag [(x_et, x_q1)] = [(x_et, x.tag)] from by kernel_rfl⟩
    · have h2 : (keyA mine == x.key) = false := by rw [beqB]; exact decide_eq_false (fun e => h e.symm)
      have h3 : (x.key == keyA mine) = false := by rw [beqB]; exact decide_eq_false h
      rw [h2, h3]
      exact chs_pick v fs mine hv hk l (k + 1) (fun y hy => hl y (List.mem_cons_of_mem _ hy)) hb
theorem chs_plain (v : Ver) (fs : List Fd) (hk : vkyS [x_ac] fs = x_ac) : ∀ (l : List Vr) (k : Nat), (∀ x ∈ l, x.names = [x_ac] ∧ x.key ≠ x_ac) → chsS v fs k l = (v.fs, v.body, 0)
  | [], k, _ => rfl
  | x :: l, k, hl => by
    have hx := hl x (List.mem_cons_self ..)
    unfold chsS
    rw [hx.1, hk, show (x_ac == x.key) = false by rw [beqB]; exact decide_eq_false (fun e => hx.2 e.symm)]
    exact chs_plain v fs hk l (k + 1) (fun y hy => hl y (List.mem_cons_of_mem _ hy))
theorem vky_one (n : ByteArray) (fs : List Fd) : vkyS [n] fs = partK fs n := by
  apply bytes_ext
  show (jnL 38 [(partK fs n).data.toList]).toArray.toList = _
  simp [jnL]
theorem keyA_ne (s : ByteArray) : keyA s ≠ x_ac := by
  have e : keyA s = x_ac ++ ⟨#[61]⟩ ++ (if ctlS (jnS 44 [nrmV s]) then ⟨#[]⟩ else quoV (jnS 44 [nrmV s])) := by
    show vkyS [x_ac] [(x_ac, s)] = _
    rw [vky_one]
    unfold partK
    rw [show allS [(x_ac, s)] x_ac = [s] by kernel_rfl]
    rfl
  intro h
  rw [e] at h
  have h2 := congrArg ByteArray.size h
  rw [ByteArray.size_append, ByteArray.size_append, show (⟨#[61]⟩ : ByteArray).size = 1 from rfl] at h2
  omega
def pgA (L : List Vr) : Ver := ⟨x_ad, 200, [(x_et, x_q1)], x_pl, L⟩
def orgV (L : List Vr) : Org := ⟨[(3, pgA L)], [], []⟩
def rqA (mine : ByteArray) : Rq := ⟨x_ge, x_sa, [(x_ho, x_ec), (x_ac, mine)]⟩
theorem vrA_tag (i : Nat) (s : ByteArray) : (vrA i s).tag.size ≠ 0 := by
  show (x_qv ++ decV (i : Int) ++ x_qq).size ≠ 0
  rw [ByteArray.size_append, ByteArray.size_append, show x_qq.size = 1 from rfl]; omega
theorem v_pub {vs : List ByteArray} (h : vs.length ≤ 8) : pubS org0 3 (pgA (vrsA vs)) = (((0 + 1 : Nat) : Int), 0, orgV (vrsA vs)) := by
  refine pub_ok (o := org0) (t := 3) ?_ (by decide) ?_ (fun p hp => by cases hp)
  · unfold bigVr pgA
    have h1 : ((vrsA vs).any fun x => decide (65536 < x.body.size)) = false := by
      rw [List.any_eq_false]
      intro x hx
      obtain ⟨i, s, hi, -, rfl⟩ := vrsA_mem hx
      have := decV_size (n := (i : Int)) (by omega)
      show ¬ decide (65536 < (x_bo ++ decV (i : Int)).size) = true
      rw [ByteArray.size_append, show x_bo.size = 4 from rfl]
      simp; omega
    rw [h1, vrsA_len, show x_pl.size = 5 from rfl]
    simp; omega
  · have h1 : okVr (pgA []) = true := by decide +kernel
    have h2 : ((vrsA vs).all fun x => x.names.all nameOk) = true := List.all_eq_true.2 (fun x hx => by
      obtain ⟨i, s, -, -, rfl⟩ := vrsA_mem hx
      show [x_ac].all nameOk = true
      decide +kernel)
    unfold okVr pgA at *
    simp only [List.all_nil, Bool.and_true] at h1
    simp only [h2, Bool.and_true]
    exact h1
structure VaS (L : List Vr) (mine : ByteArray) : Prop where
  s1 : (answS (orgV L) 3 (rqA mine)).1 = 200
  b1 : (answS (orgV L) 3 (rqA mine)).2.2.1 = (pickA L mine).1
  g1 : getO (answS (orgV L) 3 (rqA mine)).2.1 x_et = some (pickA L mine).2
  s2 : (answS (answS (orgV L) 3 (rqA mine)).2.2.2 3 rqG).1 = 200
  b2 : (answS (answS (orgV L) 3 (rqA mine)).2.2.2 3 rqG).2.2.1 = x_pl
  lg : (answS (orgV L) 3 (rqA mine)).2.2.2.lg.length = 1
  br : (answS (orgV L) 3 (rqA mine)).2.2.2.br.length = 0
/-- A request with no condition and no range gets what it selects. -/
theorem ver_plain {A : Ans} {v : Ver} {r : Rq} {k : Int} (h2 : v.status = 200) (hev : ∀ st, evF r.method r.fs st = k) (hk : k ≠ 2 ∧ k ≠ 3) (hrg : allS r.fs x_rg = []) :
    verS A v r = { A with status := v.status, fs := (chS v r.fs).1, body := (chS v r.fs).2.1, variant := (chS v r.fs).2.2 } := by
  unfold verS
  simp only
  rw [if_neg (by rw [h2]; decide), hev, if_neg (by simp [hk.1]), if_neg (by simp [hk.2])]
  unfold partS
  rw [hrg]
theorem vaS {vs : List ByteArray} (mine : ByteArray) : VaS (vrsA vs) mine := by
  have hL : ∀ x ∈ vrsA vs, x.names = [x_ac] ∧ x.tag.size ≠ 0 := fun x hx => by
    obtain ⟨i, s, -, -, rfl⟩ := vrsA_mem hx
    exact ⟨rfl, vrA_tag i s⟩
  have hL2 : ∀ x ∈ vrsA vs, x.names = [x_ac] ∧ x.key ≠ x_ac := fun x hx => by
    obtain ⟨i, s, -, -, rfl⟩ := vrsA_mem hx
    exact ⟨rfl, keyA_ne s⟩
  generalize vrsA vs = L at *
  have hf : ∀ lg, findS (⟨[(3, pgA L)], [], lg⟩ : Org).vs x_ad 3 = 0 + 1 := fun lg => by kernel_rfl
  have hk : vkyS [x_ac] (rqA mine).fs = keyA mine := by
    show _ = vkyS [x_ac] [(x_ac, mine)]
    rw [vky_one, vky_one]
    unfold partK
    rw [show allS (rqA mine).fs x_ac = [mine] by kernel_rfl, show allS [(x_ac, mine)] x_ac = [mine] by kernel_rfl]
  have hk0 : vkyS [x_ac] rqG.fs = x_ac := by rw [vky_one]; kernel_rfl
  obtain ⟨c1, c2⟩ := chs_pick (pgA L) (rqA mine).fs mine rfl hk L 0 hL rfl
  have hA := answ_eq (orgV L) 3 (rqA mine)
  rw [show cl55 3 = 3 from rfl, dec_at (o := orgV L) (r := rqA mine) rfl (by kernel_rfl) (by kernel_rfl) rfl (hf _) rfl, ver_plain (k := 1) rfl (fun st => by kernel_rfl) (by decide) (by kernel_rfl)] at hA
  rw [show chS (pgA L) (rqA mine).fs = chsS (pgA L) (rqA mine).fs 0 L from rfl] at hA
  generalize chsS (pgA L) (rqA mine).fs 0 L = c at *
  obtain ⟨cf, cb, cn⟩ := c
  simp only at c1 c2
  subst c1 c2
  have hB : ∀ lg, (answS (⟨[(3, pgA L)], [], lg⟩ : Org) 3 rqG).1 = 200 ∧ (answS (⟨[(3, pgA L)], [], lg⟩ : Org) 3 rqG).2.2.1 = x_pl := fun lg => by
    have hB := answ_eq (⟨[(3, pgA L)], [], lg⟩ : Org) 3 rqG
    rw [show cl55 3 = 3 from rfl, dec_at (o := ⟨[(3, pgA L)], [], lg⟩) (r := rqG) rfl (by kernel_rfl) (by kernel_rfl) rfl (hf lg) rfl, ver_plain (k := 1) rfl (fun st => by kernel_rfl) (by decide) (by kernel_rfl)] at hB
    rw [show chS (pgA L) rqG.fs = chsS (pgA L) rqG.fs 0 L from rfl, chs_plain (pgA L) rqG.fs hk0 L 0 hL2] at hB
    rw [hB]; exact ⟨rfl, by kernel_rfl⟩
  have e : (answS (orgV L) 3 (rqA mine)).2.2.2 = ⟨[(3, pgA L)], [], (answS (orgV L) 3 (rqA mine)).2.2.2.lg⟩ := rfl
  refine ⟨?_, ?_, ?_, ?_, ?_, ?_, ?_⟩
  · rw [hA]; rfl
  · rw [hA]; kernel_rfl
  · rw [hA]; exact getO_one (by kernel_rfl)
  · rw [e]; exact (hB _).1
  · rw [e]; exact (hB _).2
  · rw [hA]; rfl
  · rw [hA]; rfl
end Go.Proofs.YtmckbcbdnckngaaGreatDoor

namespace Go.Proofs.YtmckbcbdnckngaaGreatDoor
open Go.RowKit

/-- The law's version in its block vB; its row of variants is its own; nothing else of it lies in these two. -/
structure VaM (w2 wr : World) (vB : Nat) (m : MV) : Prop where
  ext : Ext w2 wr
  lo : w2.heap.size ≤ vB
  blk : Blk wr vB 36 #[.string m.addr, .int .i64 m.status, m.fs.v, m.bd.v, m.vr.v]
  row : wr.ownsRow 0 58 4 m.vr.v m.vars.length (vrsC m.vars)
  rlo : ∀ b, m.vr.v.ownBlock = some b → w2.heap.size ≤ b
  fs : RS (fun i => i = vB ∨ m.vr.v.ownBlock = some i) wr 2 m.fs (fldCells m.f)
  bd : RS (fun i => i = vB ∨ m.vr.v.ownBlock = some i) wr 1 m.bd (bytC m.body)
  each : ∀ x ∈ m.vars, VrAt (fun i => i = vB ∨ m.vr.v.ownBlock = some i) wr x
theorem VaM.ext_ {w2 wr w' : World} {vB : Nat} {m : MV} (h : VaM w2 wr vB m) (hb : Ext wr w') : VaM w2 w' vB m :=
  ⟨h.ext.trans hb, h.lo, h.blk.ext hb, own_ext h.row hb, h.rlo, h.fs.ext hb, h.bd.ext hb, fun x hx => ⟨(h.each x hx).nm.ext hb, (h.each x hx).bd.ext hb⟩⟩
theorem VaM.at_ {w2 wr : World} {vB : Nat} {m : MV} (h : VaM w2 wr vB m) : m.At (fun _ => False) wr := by
  refine ⟨h.fs.sub (fun i hi => hi.elim), h.bd.sub (fun i hi => hi.elim), ?_, fun x hx => ⟨(h.each x hx).nm.sub (fun i hi => hi.elim), (h.each x hx).bd.sub (fun i hi => hi.elim)⟩⟩
  obtain ⟨A, c, e, hle⟩ := own_shape h.row
  have hr := h.row
  rw [e] at hr
  have h2 := Rd.of_own hr
  have e2 : m.vr = ⟨A, m.vars.length, c⟩ := by
    revert e
    generalize m.vr = q
    intro e
    obtain ⟨a, b, d⟩ := q
    unfold Sl.v at e
    injection e with e1 e2 e3
    exact (by subst e1 e2 e3; rfl)
  rw [e2]
  exact ⟨h2, fun _ _ _ hf => hf, hle⟩
theorem vrsC_app (l : List (Vr × VrM)) (x : Vr × VrM) : vrsC (l ++ [x]) = vrsC l ++ vrC x := by unfold vrsC; simp
theorem ver_add {m : MV} {l : List ByteArray} {s : ByteArray} {j : Nat} {x : VrM} {v : Sl} (h : m.ver = pgA (vrsA l)) (hj : l.length = j) : ({ m with vars := m.vars ++ [(vrA j s, x)], vr := v } : MV).ver = pgA (vrsA (l ++ [s])) := by
  subst hj
  have h1 : m.addr = x_ad := congrArg Ver.addr h
  have h2 : m.status = 200 := congrArg Ver.status h
  have h3 : m.f = [(x_et, x_q1)] := congrArg Ver.fs h
  have h4 : m.body = x_pl := congrArg Ver.body h
  have h5 : m.vars.map (·.1) = vrsA l := congrArg Ver.vars h
  rw [vrsA_app]
  unfold MV.ver pgA
  simp only [h1, h2, h3, h4, List.map_append, h5, List.map_cons, List.map_nil]
theorem VaM.add {w2 wr w' : World} {vB : Nat} {m : MV} {x : Vr × VrM} {A : Option Addr} {c : Nat} (h : VaM w2 wr vB m) (hown : w'.ownsRow 0 58 4 (.slice A (m.vars.length + 1) c) (m.vars.length + 1) (vrsC m.vars ++ vrC x))
    (hg : wr.grownBy w' m.vr.v.ownBlock) (hn : (Value.slice A (m.vars.length + 1) c).ownBlock = m.vr.v.ownBlock ∨ (Value.slice A (m.vars.length + 1) c).ownBlock = some wr.heap.size) (hx : VrAt (fun i => i = vB ∨ m.vr.v.ownBlock = some i) wr x) :
    VaM w2 (w'.setCell ⟨vB, 4, none⟩ (.slice A (m.vars.length + 1) c)) vB { m with vars := m.vars ++ [x], vr := ⟨A, m.vars.length + 1, c⟩ } ∧ Keeps (fun i => i = vB ∨ m.vr.v.ownBlock = some i) wr (w'.setCell ⟨vB, 4, none⟩ (.slice A (m.vars.length + 1) c)) := by
  have hpb : m.vr.v.ownBlock ≠ some vB := own_blk h.row h.blk (by decide)
  have hB1 := h.blk.grown hg (Ne.symm hpb)
  have hK : Keeps (fun i => i = vB ∨ m.vr.v.ownBlock = some i) wr (w'.setCell ⟨vB, 4, none⟩ (.slice A (m.vars.length + 1) c)) := (Keeps.grown (Keeps.refl _ wr) hg (fun b hb => .inl (.inr hb))).set_ (.inl rfl) 4 _
  have aux : ∀ {k s xs}, RS (fun i => i = vB ∨ m.vr.v.ownBlock = some i) wr k s xs → RS (fun i => i = vB ∨ (Value.slice A (m.vars.length + 1) c).ownBlock = some i) (w'.setCell ⟨vB, 4, none⟩ (.slice A (m.vars.length + 1) c)) k s xs := fun {k s xs} h1 => by
    have h2 := h1.more (Q' := fun i => (i = vB ∨ m.vr.v.ownBlock = some i) ∨ (i = vB ∨ (Value.slice A (m.vars.length + 1) c).ownBlock = some i)) (fun i hi => by
      rcases hi with hi | hi | hi
      · exact .inl hi
      · exact .inl (.inl hi)
      · rcases hn with e | e
        · rw [e] at hi; exact .inl (.inr hi)
        · rw [e] at hi; injection hi with hi; exact .inr (by omega))
    exact (h2.keep hK (fun i hi => .inl (.inl hi))).sub (fun i hi => .inr hi)
  refine ⟨⟨h.ext.keeps hK (fun i hi => hi.elim (fun e => by rw [e]; exact h.lo) (h.rlo i)), h.lo, hB1.set_ 4 _, ?_, fun b hb => ?_, aux h.fs, aux h.bd, fun y hy => ?_⟩, hK⟩
  · have := ownsRow_setCell_other hown (a := ⟨vB, 4, none⟩) (own_blk hown hB1 (by decide)) (.slice A (m.vars.length + 1) c)
    simpa [vrsC_app, Sl.v] using this
  · have hb' : (Value.slice A (m.vars.length + 1) c).ownBlock = some b := hb
    rcases hn with e | e
    · rw [e] at hb'; exact h.rlo b hb'
    · rw [e] at hb'; injection hb' with hb'; have := h.ext.size; omega
  · rcases List.mem_append.1 hy with h1 | h1
    · exact ⟨aux (h.each y h1).nm, aux (h.each y h1).bd⟩
    · rw [List.mem_singleton] at h1; subst h1; exact ⟨aux hx.nm, aux hx.bd⟩
theorem infoVrA : (Tryz.prog.info? 58).map (fun i => (i.zero, i.size, i.bytes)) = some (some (.agg #[.slice none 0 0, .string ⟨#[]⟩, .string ⟨#[]⟩, .slice none 0 0]), 4, 80) := by kernel_rfl
/-- A string's bytes, in a row of their own. -/
theorem conv_new (w : World) (body : ByteArray) (b : Nat) (hb : b = w.heap.size) : ∃ (nz cap : Nat) (W' : World), body.size = nz ∧ (convert 9 23 (.string body)).run Tryz.prog w = .ok (.slice (some ⟨b, 0, none⟩) nz cap) W' ∧ Ext w W' ∧ RS (fun i => i < w.heap.size) W' 1 ⟨some ⟨b, 0, none⟩, nz, cap⟩ (bytC body) := by
  subst hb
  have hbs := run_bytes_of_string (P := Tryz.prog) w 9 23 5 body Tryz.underlying9 Tryz.underlying23 Tryz.underlying5
  have hcs := grownCap_ge w body.size 0 5
  generalize grownCap w body.size 0 5 = cap at *
  refine ⟨_, cap, _, rfl, hbs, ((Ext.refl w).alloc (.cells (bytesRow body cap) 5 ((bytesRow body cap).size, (bytesRow body cap).size + 1))).drew, ⟨⟨by rw [bytC_len]; simp, fun _ => ⟨_, _, rfl, fun j u hu => ?_⟩⟩, fun _ a ha hb => by simp only [Option.some.injEq] at ha; subst ha; simp at hb, hcs⟩⟩
  have hj : j < body.size := by
    have := (List.getElem?_eq_some_iff.1 hu).1
    rw [bytC_len] at this; exact this
  show (w.alloc _).cell? _ = _
  rw [Nat.zero_add, World.cell?_alloc_mark, bytesRow_at body cap j hj]
  unfold bytC at hu
  rw [List.getElem?_map, List.getElem?_eq_getElem (by simpa using hj)] at hu
  rw [← hu]; rfl
set_option maxHeartbeats 8000000 in
set_option maxRecDepth 100000 in
theorem law_page0 (body : ByteArray) (A : Option Addr) (n c : Nat) (fs : List Fd) (w : World) (hr : RdF w A n fs) (hn : n ≤ 1000) (hb : body.size ≤ 1048576) :
    Calls Tryz.prog 20 #[.string body, .slice A n c] w fun e w' => ∃ m : MV, e = .returned (.agg m.cells.toArray) ∧ m.ver = pageV body fs ∧ m.vr = sl0 ∧ m.At (fun i => i < w.heap.size) w' ∧ Ext w w' := by
  have HW := Lib.hid ((Ext.refl w).alloc (.cells #[.string ⟨#[]⟩, .int .i64 0, .slice none 0 0, .slice none 0 0, .slice none 0 0] 36))
  have HB := Lib.hid (Blk.new w 36 #[.string ⟨#[]⟩, .int .i64 0, .slice none 0 0, .slice none 0 0, .slice none 0 0])
  have hbs := fun w => run_bytes_of_string (P := Tryz.prog) w 9 23 5 body Tryz.underlying9 Tryz.underlying23 Tryz.underlying5
  go_enter Tryz.func20, Tryz.ntmps20
  go_wp2_with (at_builtin; refine wpList_app2 _ rfl (.tmp 6) (.tmp 7) 33 32 rfl w 51 51 _ 2 32 Tryz.underlying33 Tryz.underlying32 info_cln_F (by simp [Value.cells]) (by decide) _ 1 (fldCells [(x_et, x_q1)]) rfl ?qa A n c (fldCells fs) rfl (hr.ext (HW.out.alloc _)) (fldCells_one _) (HW.out.alloc _) (by omega) (by decide) ?qb)
  case qa =>
    rw [show w.heap.size + 1 = (w.alloc (.cells #[.string ⟨#[]⟩, .int .i64 0, .slice none 0 0, .slice none 0 0, .slice none 0 0] 36)).heap.size by simp]
    exact World.ownsRow_lit _ _ 1 (by simp) (by decide) rfl
  case qb =>
    intro A2 c2 w2 hown hb2 hle hg2
    have HBw := Lib.hid ((HB.out.alloc (.cells #[.string x_et, .string x_q1] 51)).grown hg2 (by simp [Value.ownBlock]))
    generalize hcap : grownCap w2 body.size 0 5 = cap at *
    have hcs : body.size ≤ cap := by rw [← hcap]; exact grownCap_ge _ _ _ _
    go_wp2_with (first | (refine wpList_storeB rfl 36 (.tmp 4) (.tmp 11) rfl rfl w.heap.size _ rfl rfl 36 _ (HBw.out.ext ((Ext.refl w2).alloc _).drew) infoVe rfl (by simp [Value.oneCell']) ?_; intro w9 hB9 hx9))
    have y0 : w9.cell? ⟨w.heap.size, 0, none⟩ = some (.string x_ad) := hB9.cell 0
    have y1 : w9.cell? ⟨w.heap.size, 1, none⟩ = some (.int .i64 200) := hB9.cell 1
    have y2 : w9.cell? ⟨w.heap.size, 2, none⟩ = some (.slice A2 (1 + n) c2) := hB9.cell 2
    have y3 : w9.cell? ⟨w.heap.size, 3, none⟩ = some (.slice (some ⟨w2.heap.size, 0, none⟩) body.size cap) := hB9.cell 3
    have y4 : w9.cell? ⟨w.heap.size, 4, none⟩ = some (.slice none 0 0) := hB9.cell 4
    refine bodyPost_ret (v := .agg #[.string x_ad, .int .i64 200, .slice A2 (1 + n) c2, .slice (some ⟨w2.heap.size, 0, none⟩) body.size cap, .slice none 0 0]) (by simp [results, Tryz.results20, go_sem, y0, y1, y2, y3, y4]) rfl ?_
    have hEb := ((Ext.refl w2).alloc (.cells (bytesRow body cap) 5 ((bytesRow body cap).size, (bytesRow body cap).size + 1))).drew
    have hRB : RS (fun i => i < w2.heap.size) ((w2.alloc (.cells (bytesRow body cap) 5 ((bytesRow body cap).size, (bytesRow body cap).size + 1))).drew) 1 ⟨some ⟨w2.heap.size, 0, none⟩, body.size, cap⟩ (bytC body) := ⟨⟨by rw [bytC_len]; simp, fun _ => ⟨_, _, rfl, fun j u hu => by
      have hj : j < body.size := by
        have := (List.getElem?_eq_some_iff.1 hu).1
        rw [bytC_len] at this; exact this
      show (w2.alloc _).cell? _ = _
      rw [Nat.zero_add, World.cell?_alloc_mark, bytesRow_at body cap j hj]
      unfold bytC at hu
      rw [List.getElem?_map, List.getElem?_eq_getElem (by simpa using hj)] at hu
      rw [← hu]; rfl⟩⟩, fun _ a ha hb => by simp only [Option.some.injEq] at ha; subst ha; simp at hb, hcs⟩
    generalize (w2.alloc (.cells (bytesRow body cap) 5 ((bytesRow body cap).size, (bytesRow body cap).size + 1))).drew = wB at *
    have KX : Keeps (fun i => i = w.heap.size) wB w9 := Keeps.grown (Keeps.refl _ wB) hx9 (fun b hb => .inl (by injection hb with hb; exact hb.symm))
    have ho9 := own_keepS (own_ext hown hEb) KX (own_ne (own_ext hown hEb) (HBw.out.ext hEb) (by decide))
    obtain ⟨s, hs, hsn, hr9⟩ := RS.own ho9
    have hlt : w.heap.size < w2.heap.size := HBw.out.lt
    refine ⟨⟨x_ad, 200, (x_et, x_q1) :: fs, body, [], s, ⟨some ⟨w2.heap.size, 0, none⟩, body.size, cap⟩, sl0⟩, by rw [hs]; rfl, rfl, rfl, ⟨hr9, ?_, RS.nil _ _ _, fun x hx => by cases hx⟩, (hb2.trans hEb).growB hx9 (Nat.le_refl _)⟩
    exact (hRB.keep KX (fun i hi => .inl (by show i < _; omega))).sub (fun i hi => by show i < _; omega)
end Go.Proofs.YtmckbcbdnckngaaGreatDoor

namespace Go.Proofs.YtmckbcbdnckngaaGreatDoor
open Go.RowKit

set_option maxHeartbeats 16000000 in
set_option maxRecDepth 100000 in
theorem var_walk (vs : List ByteArray) (A : Option Addr) (n c : Nat) (mine : ByteArray) (w : World) (hr : RdS w A n vs) (hz : ∀ s ∈ vs, s.size ≤ 140737488351232) (hm : mine.size ≤ 140737488351232) (hg : Gl w) (hh : GlH w) (hp : GlP w) :
    Calls Tryz.prog 6 #[.slice A n c, .string mine] w fun e w' => e = .returned (.bool true) ∧ Ext w w' := by
  have hvn := hr.lenS
  have HEg := Lib.hid (fun w' (hx : Ext w w') => (⟨hg.ext hx, hh.ext hx, hp.ext hx⟩ : Gl w' ∧ GlH w' ∧ GlP w'))
  clear hg hh hp
  by_cases hbig : 8 < n
  · have f1 : (8 : Int) < n := by omega
    go_enter Tryz.func6, Tryz.ntmps6
    go_wp2_with fail
    refine (law_awake _ (HEg.out _ (Ext.refl _)).1 (HEg.out _ (Ext.refl _)).2.1 (HEg.out _ (Ext.refl _)).2.2).mono ?_; rintro e w1 ⟨rfl, hb1⟩
    go_wp2_with fail
    go_ret
    exact ⟨rfl, hb1⟩
  have f1 : ¬ ((8 : Int) < n) := by omega
  obtain ⟨z, hzm⟩ : ∃ z, mine.size = z := ⟨_, rfl⟩
  by_cases hbig2 : 100 < z
  · have f2 : (100 : Int) < z := by omega
    go_enter Tryz.func6, Tryz.ntmps6
    go_wp2_with fail
    refine (law_awake _ (HEg.out _ (Ext.refl _)).1 (HEg.out _ (Ext.refl _)).2.1 (HEg.out _ (Ext.refl _)).2.2).mono ?_; rintro e w1 ⟨rfl, hb1⟩
    go_wp2_with fail
    go_ret
    exact ⟨rfl, hb1⟩
  have f2 : ¬ ((100 : Int) < z) := by omega
  go_enter Tryz.func6, Tryz.ntmps6
  go_wp2_with fail
  refine (law_awake _ (HEg.out _ (Ext.refl _)).1 (HEg.out _ (Ext.refl _)).2.1 (HEg.out _ (Ext.refl _)).2.2).mono ?_; rintro e w1 ⟨rfl, hb1⟩
  have HFv := Lib.hid (field_Value mine w1 (by omega))
  obtain ⟨ve, hve⟩ : ∃ k, valueE mine = k := ⟨_, rfl⟩
  rw [hve] at HFv
  go_wp2_with fail
  refine HFv.out.mono ?_; rintro e w2 ⟨rfl, hb2⟩
  clear HFv
  by_cases he : ve = 0
  rotate_left
  · rw [errV_pos he]
    go_wp2_with fail
    go_ret
    exact ⟨rfl, hb1.trans hb2⟩
  subst he
  rw [show errV 0 = .nilIface from rfl]
  by_cases hq : valueS mine = mine
  rotate_left
  · have hq1 : ((valueS mine).toList == mine.toList) = false := Bool.eq_false_iff.2 (fun e => hq (eqS_iff.1 e))
    go_wp2_with fail
    go_ret
    exact ⟨rfl, hb1.trans hb2⟩
  have hq1 : ((valueS mine).toList == mine.toList) = true := eqS_iff.2 hq
  have HE2 := Lib.hid (hb1.trans hb2)
  clear hb1 hb2 hq hve
  generalize valueS mine = vsm at *
  go_wp2_with fail
  refine (or_New _).mono ?_; rintro e w3 ⟨rfl, hO3, hb3⟩
  have HE3 := Lib.hid (HE2.out.trans hb3)
  go_wp2_with fail
  refine (law_page0 x_pl none 0 0 [] w3 (Rd.none_ _ _ _) (by decide) (by decide)).mono ?_; rintro e w4 ⟨m, rfl, hver, hvr, hAt, hb4⟩
  have HO := Lib.hid hO3
  have hp2 : w2.heap.size < w3.heap.size := hO3.low _ rfl
  have HP := Lib.hid HE2.out.size
  have hVB := Blk.new w4 36 #[.string m.addr, .int .i64 m.status, m.fs.v, m.bd.v, m.vr.v]
  have hX4 := (Ext.refl w4).alloc (.cells #[.string m.addr, .int .i64 m.status, m.fs.v, m.bd.v, m.vr.v] 36)
  have e4 : m.vars = [] := List.map_eq_nil_iff.1 (congrArg Ver.vars hver)
  have HVM := Lib.hid (show VaM w3 (w4.alloc (.cells #[.string m.addr, .int .i64 m.status, m.fs.v, m.bd.v, m.vr.v] 36)) w4.heap.size m from by
    refine ⟨hb4.trans hX4, hb4.size, hVB, ?_, fun b hb => (by rw [hvr] at hb; cases hb), ?_, ?_, fun x hx => (by rw [e4] at hx; cases hx)⟩
    · rw [e4, hvr]; exact World.ownsRow_nil _ _ _ _
    · exact (hAt.fs.more (fun i hi => by
        rcases hi with hi | hi
        · exact .inr (by omega)
        · rw [hvr] at hi; cases hi)).ext hX4
    · exact (hAt.bd.more (fun i hi => by
        rcases hi with hi | hi
        · exact .inr (by omega)
        · rw [hvr] at hi; cases hi)).ext hX4)
  clear hO3 hb3 hb4 hVB hX4 hAt hvr e4 HE2 hp2
  generalize w2.heap.size = p at *
  obtain ⟨vaddr, vstatus, f, vbody, vars, ⟨vfA, vfn, vfc⟩, ⟨vbA, vbn, vbc⟩, ⟨vA, vn, vc⟩⟩ := m
  have HI0 := Lib.hid (show ∃ m : MV, VaM w3 (w4.alloc (.cells #[.string vaddr, .int .i64 vstatus, .slice vfA vfn vfc, .slice vbA vbn vbc, .slice vA vn vc] 36)) w4.heap.size m ∧ m.ver = pgA (vrsA (vs.take 0)) from ⟨_, HVM.out, hver⟩)
  clear HVM hver
  simp only [MV.cells, Sl.v]
  go_wp2_with fail
  obtain ⟨vB, hvB⟩ : ∃ b, w4.heap.size = b := ⟨_, rfl⟩
  rw [hvB] at HI0 ⊢
  go_loopg [9, 10, 54] n (fun g wv tv i wr => ∃ (j : Nat) (m : MV), j ≤ n ∧ g = n - j ∧ i = .int .i64 (j : Nat) ∧ wv = .string (pickA (vrsA (vs.take j)) mine).1 ∧ tv = .string (pickA (vrsA (vs.take j)) mine).2 ∧ VaM w3 wr vB m ∧ m.ver = pgA (vrsA (vs.take j)) ∧ ∀ s ∈ vs.take j, s.size ≤ 100)
  case atStart =>
    obtain ⟨m, h1, h2⟩ := HI0.out
    exact ⟨0, m, Nat.zero_le _, rfl, rfl, rfl, rfl, h1, h2, fun s hs => by simp at hs⟩
  case round =>
    obtain ⟨j, m, hj, rfl, rfl, rfl, rfl, hI, hver, hsm⟩ := hrel
    have hE := HE3.out.trans hI.ext
    by_cases hlt : j < n
    · have hlt' : j < vs.length := by omega
      obtain ⟨ab, ao, rfl, hca⟩ := hr.atS hlt'
      have hcj := hE.cell hca
      have hsz := hz _ (List.getElem_mem hlt')
      have Htk := Lib.hid (List.take_succ_eq_append_getElem hlt')
      generalize vs[j] = s at *
      have HFs := Lib.hid (field_Value s wr (by omega))
      obtain ⟨ve, hve⟩ : ∃ k, valueE s = k := ⟨_, rfl⟩
      rw [hve] at HFs
      go_wp2_with fail
      refine HFs.out.mono ?_; rintro e w5 ⟨rfl, hb5⟩
      have hE5 := hE.trans hb5
      by_cases he : ve = 0
      rotate_left
      · rw [errV_pos he]
        go_wp2_with fail
        go_ret
        exact ⟨rfl, hE5⟩
      subst he
      rw [show errV 0 = .nilIface from rfl]
      by_cases hq : valueS s = s
      rotate_left
      · have hq1 : ((valueS s).toList == s.toList) = false := Bool.eq_false_iff.2 (fun e => hq (eqS_iff.1 e))
        go_wp2_with fail
        go_ret
        exact ⟨rfl, hE5⟩
      have hq1 : ((valueS s).toList == s.toList) = true := eqS_iff.2 hq
      obtain ⟨z2, hz2⟩ : ∃ z, s.size = z := ⟨_, rfl⟩
      by_cases hb100 : 100 < z2
      · have f3 : (100 : Int) < z2 := by omega
        go_wp2_with fail
        go_ret
        exact ⟨rfl, hE5⟩
      have f3 : ¬ ((100 : Int) < z2) := by omega
      have HB6 := Lib.hid (Rd.two w5 (.string x_ac) (.string s) 51 rfl)
      have hX6 := (Ext.refl w5).alloc (.cells #[.string x_ac, .string s] 51)
      have HI6 := Lib.hid (hI.ext_ (hb5.trans hX6))
      have HLo5 := Lib.hid (show ∀ i, (i = vB ∨ m.vr.v.ownBlock = some i) → i < w5.heap.size from fun i hi => hi.elim (fun e => by rw [e]; exact (hI.ext_ hb5).blk.lt) (fun e => ((hI.ext_ hb5).row.lt i e).2))
      have HDg := Lib.hid (fun w' => base_DigitsN (j : Int) w' (by omega) (by omega))
      have hz1 : (decV (j : Int)).size ≤ 20 := decV_size (by omega)
      have hz2 : ((⟨#[34, 118]⟩ : ByteArray) ++ decV (j : Int)).size ≤ 22 := by rw [ByteArray.size_append]; show 2 + _ ≤ _; omega
      have hz3 : (((⟨#[34, 118]⟩ : ByteArray) ++ decV (j : Int)) ++ ⟨#[34]⟩).size ≤ 23 := by rw [ByteArray.size_append]; show _ + 1 ≤ _; omega
      have Hq := Lib.hid hq
      have HSz := Lib.hid (show sumF [(x_ac, s)] ≤ 1048576 by rw [sumF_cons, sumF_nil, show x_ac.size = 6 from rfl]; simp only; omega)
      have HmL := Lib.hid (show m.vars.length ≤ 8 by have := congrArg (fun v : Ver => v.vars.length) hver; simp only [pgA, MV.ver, List.length_map, vrsA_len, List.length_take] at this; omega)
      clear hX6 hI hE hE5 hb5 hve hcj hca hq HFs
      go_wp2_with fail
      refine (HDg.out _).mono ?_; rintro e w7 ⟨rfl, hb7⟩
      have HB7 := Lib.hid (HB6.out.ext hb7)
      have HI7 := Lib.hid (HI6.out.ext_ hb7)
      have hlow7 : w5.heap.size < w7.heap.size := by have := hb7.size; simp at this; omega
      clear HB6 HI6 hb7
      go_upto_region 17 with fail
      go_cut [54] from 54 to 115 (fun i wx => i = .int .i64 (j : Nat) ∧ ∃ m2, VaM w3 wx vB m2 ∧ m2.ver = pgA (vrsA (vs.take (j + 1))) ∧ Rd wx 2 (some ⟨w5.heap.size, 0, none⟩) 1 [.string x_ac, .string s])
      case first =>
        have HS := Lib.hid (fun w' (hx : Ext w7 w') => (HI7.out.blk.ext hx).cell 4)
        have hmt : m.vr.v = m.vr.v := rfl
        obtain ⟨rv, hrv⟩ : ∃ v, m.vr.v = v := ⟨_, rfl⟩
        have HRv := Lib.hid hrv
        simp only [List.getElem?_toArray, List.getElem?_cons_succ, List.getElem?_cons_zero] at HS
        rw [hrv] at HS
        have hE := Ext.refl w7
        have hsb : ∀ w, (Op.stringOp .add ⟨#[98, 111, 100, 121]⟩ (decV (j : Int))).run Tryz.prog w = .ok (.string (⟨#[98, 111, 100, 121]⟩ ++ decV (j : Int))) w := fun w => run_string_add_sum w _ _ (by show 4 + (decV (j : Int)).size ≤ _; omega)
        have HLo := Lib.hid (show ∀ i, (i = vB ∨ m.vr.v.ownBlock = some i) → i < w7.heap.size from fun i hi => hi.elim (fun e => by rw [e]; exact HI7.out.blk.lt) (fun e => (HI7.out.row.lt i e).2))
        clear hmt hrv
        refine wp_region_U (S := (fun w' => w'.cell? ⟨vB, 4, none⟩ = some rv)) 15 (by kernel_rfl) ?_ (fun hHeld => ?_)
        · (try dsimp only); exact HS.out _ hE.drew
        refine wpAnyU_takeW (i := 0) (oi := { dst := some 83, op := _, type := _, pos := _, after := _, guard := _ }) (v := ?_) (by kernel_rfl) rfl (by kernel_rfl) (by kernel_rfl) (by kernel_rfl) (fun _ _ _ h => h) (Or.inl ⟨by rfl, ?_⟩) (by assumption) ?_
        rotate_left
        · (intro w hSw; (try dsimp only at hSw); go_simp; (try with_reducible rfl))
        (try simp only [Act.put, List.setIfInBounds_toArray, List.set_cons_zero, List.set_cons_succ])
        refine wpAnyU_take (i := 1) (oi := { dst := some 84, op := _, type := _, pos := _, after := _, guard := _ }) (v := ?_) [13, 14, 15] (by kernel_rfl) (by kernel_rfl) (by kernel_rfl) (by kernel_rfl) rfl (by kernel_rfl) (by kernel_rfl) (by kernel_rfl) (fun _ _ _ h => h) (Or.inl ⟨by rfl, ?_⟩) (by assumption) ?_
        rotate_left
        · (intro w hSw; (try dsimp only at hSw); go_simp; (try with_reducible rfl))
        (try simp only [Act.put, List.setIfInBounds_toArray, List.set_cons_zero, List.set_cons_succ])
        refine wpAnyU_takeW (i := 4) (oi := { dst := some 87, op := _, type := _, pos := _, after := _, guard := _ }) (v := ?_) (by kernel_rfl) rfl (by kernel_rfl) (by kernel_rfl) (by kernel_rfl) (fun _ _ _ h => h) (Or.inl ⟨by rfl, ?_⟩) (by assumption) ?_
        rotate_left
        · (intro w hSw; (try dsimp only at hSw); go_simp; (try with_reducible rfl))
        (try simp only [Act.put, List.setIfInBounds_toArray, List.set_cons_zero, List.set_cons_succ])
        refine wpAnyU_takeW (i := 6) (oi := { dst := some 89, op := _, type := _, pos := _, after := _, guard := _ }) (v := ?_) (by kernel_rfl) rfl (by kernel_rfl) (by kernel_rfl) (by kernel_rfl) (fun _ _ _ h => h) (Or.inl ⟨by rfl, ?_⟩) (by assumption) ?_
        rotate_left
        · (intro w hSw; (try dsimp only at hSw); go_simp; (try with_reducible rfl))
        (try simp only [Act.put, List.setIfInBounds_toArray, List.set_cons_zero, List.set_cons_succ])
        refine wpAnyU_takeW (i := 7) (oi := { dst := some 90, op := _, type := _, pos := _, after := _, guard := _ }) (v := ?_) (by kernel_rfl) rfl (by kernel_rfl) (by kernel_rfl) (by kernel_rfl) (fun _ _ _ h => h) (Or.inl ⟨by rfl, ?_⟩) (by assumption) ?_
        rotate_left
        · (intro w hSw; (try dsimp only at hSw); go_simp; (try with_reducible rfl))
        (try simp only [Act.put, List.setIfInBounds_toArray, List.set_cons_zero, List.set_cons_succ])
        refine wpAnyU_ready (rs := [2, 3]) (by kernel_rfl) (by simp) ?_
        refine AllReadyU.cons (o := { dst := some 85, op := _, type := _, pos := _, after := _, guard := _ }) rfl (fun K hK => ?_) (AllReadyU.cons (o := { dst := some 86, op := _, type := _, pos := _, after := _, guard := _ }) rfl (fun K hK => ?_) AllReadyU.nil)
        · go_simp
          have hXz := (Ext.refl w7).alloc (.cells #[.string ⟨#[97, 99, 99, 101, 112, 116]⟩] 9); have hNax := Rd.one w7 (.string ⟨#[97, 99, 99, 101, 112, 116]⟩) 9 (b := w7.heap.size) (by simp); have hNal : w7.heap.size ≤ w7.heap.size := (by have h9 := hE.size; (try simp at h9 ⊢); (try omega)); replace hE := hE.trans hXz; have hNa := hNax; clear hNax hXz
          try go_wp2_with fail
          refine hK.out _ _ ?_ (fun hHeld => ?_)
          · (try dsimp only); exact HS.out _ hE.drew
          clear hK K
          (try simp only [Act.put, List.setIfInBounds_toArray, List.set_cons_zero, List.set_cons_succ])
          refine wpAnyU_ready (rs := [3]) (by kernel_rfl) (by simp) ?_
          refine AllReadyU.cons (o := { dst := some 86, op := _, type := _, pos := _, after := _, guard := _ }) rfl (fun K hK => ?_) AllReadyU.nil
          go_simp
          have hXz := (Ext.refl (w7.alloc (.cells #[.string ⟨#[97, 99, 99, 101, 112, 116]⟩] 9))).alloc (.cells #[.string ⟨#[97, 99, 99, 101, 112, 116]⟩] 9); have hNbx := Rd.one (w7.alloc (.cells #[.string ⟨#[97, 99, 99, 101, 112, 116]⟩] 9)) (.string ⟨#[97, 99, 99, 101, 112, 116]⟩) 9 (b := (w7.heap.size + 1)) (by simp); have hNbl : w7.heap.size ≤ (w7.heap.size + 1) := (by have h9 := hE.size; (try simp at h9 ⊢); (try omega)); replace hNa := hNa.ext hXz; replace hE := hE.trans hXz; have hNb := hNbx; clear hNbx hXz
          try go_wp2_with fail
          refine hK.out _ _ ?_ (fun hHeld => ?_)
          · (try dsimp only); exact HS.out _ hE.drew
          clear hK K
          (try simp only [Act.put, List.setIfInBounds_toArray, List.set_cons_zero, List.set_cons_succ])
          refine wpAnyU_ready (rs := [5]) (by kernel_rfl) (by simp) ?_
          refine AllReadyU.cons (o := { dst := some 88, op := _, type := _, pos := _, after := _, guard := _ }) rfl (fun K hK => ?_) AllReadyU.nil
          go_simp
          refine (vr_Key (some ⟨(w7.heap.size + 1), 0, none⟩) 1 1 [x_ac] (some ⟨w5.heap.size, 0, none⟩) 1 1 [(x_ac, s)] ((w7.alloc (.cells #[.string ⟨#[97, 99, 99, 101, 112, 116]⟩] 9)).alloc (.cells #[.string ⟨#[97, 99, 99, 101, 112, 116]⟩] 9)).drew hNb.drew (HB7.out.ext hE.drew) (by decide) (by decide) (fun x hx => by rw [List.mem_singleton.1 hx]; decide) HSz.out).mono ?_; rintro e wK ⟨rfl, hbK⟩; replace hE := hE.drew.trans hbK; replace hNa := hNa.drew.ext hbK; clear hbK hNb; (try rw [show vkyS [x_ac] [(x_ac, s)] = keyA s from rfl])
          try go_wp2_with fail
          refine hK.out _ _ ?_ (fun hHeld => ?_)
          · (try dsimp only); exact HS.out _ hE
          clear hK K
          (try simp only [Act.put, List.setIfInBounds_toArray, List.set_cons_zero, List.set_cons_succ])
          refine wpAnyU_ready (rs := [8]) (by kernel_rfl) (by simp) ?_
          refine AllReadyU.cons (o := { dst := some 91, op := _, type := _, pos := _, after := _, guard := _ }) rfl (fun K hK => ?_) AllReadyU.nil
          go_simp
          refine (HDg.out _).mono ?_; rintro e wD ⟨rfl, hbD⟩; replace hE := hE.trans hbD; replace hNa := hNa.ext hbD; clear hbD
          try go_wp2_with fail
          refine hK.out _ _ ?_ (fun hHeld => ?_)
          · (try dsimp only); exact HS.out _ hE
          clear hK K
          (try simp only [Act.put, List.setIfInBounds_toArray, List.set_cons_zero, List.set_cons_succ])
          refine wpAnyU_takeW (i := 9) (oi := { dst := some 92, op := _, type := _, pos := _, after := _, guard := _ }) (v := ?_) (by kernel_rfl) rfl (by kernel_rfl) (by kernel_rfl) (by kernel_rfl) (fun _ _ _ h => h) (Or.inl ⟨by rfl, ?_⟩) (by assumption) ?_
          rotate_left
          · (intro w hSw; (try dsimp only at hSw); go_simp; (try with_reducible rfl))
          (try simp only [Act.put, List.setIfInBounds_toArray, List.set_cons_zero, List.set_cons_succ])
          refine wpAnyU_ready (rs := [10]) (by kernel_rfl) (by simp) ?_
          refine AllReadyU.cons (o := { dst := some 93, op := _, type := _, pos := _, after := _, guard := _ }) rfl (fun K hK => ?_) AllReadyU.nil
          obtain ⟨nz, cap, wB, hnz, hcv, hXB, hRB⟩ := conv_new wD (⟨#[98, 111, 100, 121]⟩ ++ decV (j : Int)) wD.heap.size (by simp); have hRBl : w7.heap.size ≤ wD.heap.size := hE.size; replace hE := hE.trans hXB; replace hNa := hNa.ext hXB
          go_simp
          try go_wp2_with fail
          refine hK.out _ _ ?_ (fun hHeld => ?_)
          · (try dsimp only); exact HS.out _ hE
          clear hK K
          (try simp only [Act.put, List.setIfInBounds_toArray, List.set_cons_zero, List.set_cons_succ])
          refine wpAnyU_takeW (i := 11) (oi := { dst := some 94, op := _, type := _, pos := _, after := _, guard := _ }) (v := ?_) (by kernel_rfl) rfl (by kernel_rfl) (by kernel_rfl) (by kernel_rfl) (fun _ _ _ h => h) (Or.inl ⟨by rfl, ?_⟩) (by assumption) ?_
          rotate_left
          · (intro w hSw; (try dsimp only at hSw); go_simp; (try with_reducible rfl))
          (try simp only [Act.put, List.setIfInBounds_toArray, List.set_cons_zero, List.set_cons_succ])
          refine wpAnyU_ready (rs := [12]) (by kernel_rfl) (by simp) ?_
          refine AllReadyU.cons (o := { dst := some 95, op := _, type := _, pos := _, after := _, guard := _ }) rfl (fun K hK => ?_) AllReadyU.nil
          go_simp
          have hXz := (Ext.refl wB).alloc (.cells #[.slice (some ⟨w7.heap.size, 0, none⟩) 1 1, .string (keyA s), .string (⟨#[34, 118]⟩ ++ decV (j : Int) ++ ⟨#[34]⟩), .slice (some ⟨wD.heap.size, 0, none⟩) nz cap] 58); have hXr := Rd.lit wB #[.slice (some ⟨w7.heap.size, 0, none⟩) 1 1, .string (keyA s), .string (⟨#[34, 118]⟩ ++ decV (j : Int) ++ ⟨#[34]⟩), .slice (some ⟨wD.heap.size, 0, none⟩) nz cap] 58 (b := wB.heap.size) (by simp) 4 1 rfl; replace hE := hE.trans hXz; replace hNa := hNa.ext hXz; replace hRB := hRB.ext hXz; clear hXz
          try go_wp2_with fail
          refine hK.out _ _ ?_ (fun hHeld => ?_)
          · (try dsimp only); exact HS.out _ hE
          clear hK K
          (try simp only [Act.put, List.setIfInBounds_toArray, List.set_cons_zero, List.set_cons_succ])
          refine wpAnyU_ready (rs := [13]) (by kernel_rfl) (by simp) ?_
          refine AllReadyU.cons (o := { dst := some 96, op := _, type := _, pos := _, after := _, guard := _ }) rfl (fun K hK => ?_) AllReadyU.nil
          refine step_appO _ rfl (.tmp 84) (.tmp 95) 34 rfl 58 _ 4 80 Tryz.underlying34 infoVrA (by simp [Value.cells]) (by decide) _ _ _ rfl (by rw [← HRv.out]; exact (HI7.out.ext_ hE).row) _ 1 1 (vrC (vrA j s, ⟨⟨some ⟨w7.heap.size, 0, none⟩, 1, 1⟩, ⟨some ⟨wD.heap.size, 0, none⟩, nz, cap⟩⟩)) rfl hXr (by intro u hu; simp [vrC] at hu; rcases hu with rfl | rfl | rfl | rfl <;> rfl) (by have := HmL.out; omega) (by decide) ?_; intro A6 c6 w6 hown6 hle6 hg6 hn6; have hOx := HI7.out.ext_ hE; rw [← HRv.out] at hg6 hn6; have hPb := hOx.blk.grown hg6 (Ne.symm (own_blk hOx.row hOx.blk (by decide))); have hK13 : w6.cell? ⟨vB, 4, none⟩ = some rv := (by rw [← HRv.out]; exact hPb.cell 4)
          refine hK.out _ _ ?_ (fun hHeld => ?_)
          · (try dsimp only); exact hK13
          clear hK K
          (try simp only [Act.put, List.setIfInBounds_toArray, List.set_cons_zero, List.set_cons_succ])
          refine wpAnyU_takeW (i := 14) (oi := { dst := some 97, op := _, type := _, pos := _, after := _, guard := _ }) (v := ?_) (by kernel_rfl) rfl (by kernel_rfl) (by kernel_rfl) (by kernel_rfl) (fun _ _ _ h => h) (Or.inl ⟨by rfl, ?_⟩) (by assumption) ?_
          rotate_left
          · (intro w hSw; (try dsimp only at hSw); go_simp; (try with_reducible rfl))
          (try simp only [Act.put, List.setIfInBounds_toArray, List.set_cons_zero, List.set_cons_succ])
          refine wpAnyU_ready (rs := [15]) (by kernel_rfl) (by simp) ?_
          refine AllReadyU.stop (o := { dst := none, op := _, type := _, pos := _, after := _, guard := _ }) rfl (by kernel_rfl) (fun K hK => ?_) AllReadyU.nil
          have fp := hPb.frozen 4; have kp := hK13
          go_simp
          try go_wp2_with fail
          refine hK.out _ _ ?_ (fun hHeld => ?_)
          · (try dsimp only); (try trivial)
          clear hK K
          (try simp only [Act.put, List.setIfInBounds_toArray, List.set_cons_zero, List.set_cons_succ])
          refine wpAnyH_done (by kernel_rfl) ?_ _
          clear kp fp
          obtain ⟨hV, hKv⟩ := (HI7.out.ext_ hE).add (x := (vrA j s, ⟨⟨some ⟨w7.heap.size, 0, none⟩, 1, 1⟩, ⟨some ⟨wD.heap.size, 0, none⟩, nz, cap⟩⟩)) hown6 hg6 hn6 ⟨⟨hNa, fun _ a ha hb => by simp only [Option.some.injEq] at ha; subst ha; have := HLo.out _ hb; simp only at this; omega, Nat.le_refl _⟩, hRB.sub (fun i hi => Nat.lt_of_lt_of_le (HLo.out i hi) hRBl)⟩
          go_wp2_with fail
          go_meet
          exact ⟨rfl, _, hV, by rw [Htk.out]; exact ver_add hver (by rw [List.length_take]; omega), (HB7.out.ext hE).keepS hKv (fun a ha hs => by injection ha with ha; subst ha; have := HLo5.out _ hs; simp only at this; omega)⟩
        · go_simp
          have hXz := (Ext.refl w7).alloc (.cells #[.string ⟨#[97, 99, 99, 101, 112, 116]⟩] 9); have hNbx := Rd.one w7 (.string ⟨#[97, 99, 99, 101, 112, 116]⟩) 9 (b := w7.heap.size) (by simp); have hNbl : w7.heap.size ≤ w7.heap.size := (by have h9 := hE.size; (try simp at h9 ⊢); (try omega)); replace hE := hE.trans hXz; have hNb := hNbx; clear hNbx hXz
          try go_wp2_with fail
          refine hK.out _ _ ?_ (fun hHeld => ?_)
          · (try dsimp only); exact HS.out _ hE.drew
          clear hK K
          (try simp only [Act.put, List.setIfInBounds_toArray, List.set_cons_zero, List.set_cons_succ])
          refine wpAnyU_ready (rs := [2, 5]) (by kernel_rfl) (by simp) ?_
          refine AllReadyU.cons (o := { dst := some 85, op := _, type := _, pos := _, after := _, guard := _ }) rfl (fun K hK => ?_) (AllReadyU.cons (o := { dst := some 88, op := _, type := _, pos := _, after := _, guard := _ }) rfl (fun K hK => ?_) AllReadyU.nil)
          · go_simp
            have hXz := (Ext.refl (w7.alloc (.cells #[.string ⟨#[97, 99, 99, 101, 112, 116]⟩] 9))).alloc (.cells #[.string ⟨#[97, 99, 99, 101, 112, 116]⟩] 9); have hNax := Rd.one (w7.alloc (.cells #[.string ⟨#[97, 99, 99, 101, 112, 116]⟩] 9)) (.string ⟨#[97, 99, 99, 101, 112, 116]⟩) 9 (b := (w7.heap.size + 1)) (by simp); have hNal : w7.heap.size ≤ (w7.heap.size + 1) := (by have h9 := hE.size; (try simp at h9 ⊢); (try omega)); replace hNb := hNb.ext hXz; replace hE := hE.trans hXz; have hNa := hNax; clear hNax hXz
            try go_wp2_with fail
            refine hK.out _ _ ?_ (fun hHeld => ?_)
            · (try dsimp only); exact HS.out _ hE.drew
            clear hK K
            (try simp only [Act.put, List.setIfInBounds_toArray, List.set_cons_zero, List.set_cons_succ])
            refine wpAnyU_ready (rs := [5]) (by kernel_rfl) (by simp) ?_
            refine AllReadyU.cons (o := { dst := some 88, op := _, type := _, pos := _, after := _, guard := _ }) rfl (fun K hK => ?_) AllReadyU.nil
            go_simp
            refine (vr_Key (some ⟨w7.heap.size, 0, none⟩) 1 1 [x_ac] (some ⟨w5.heap.size, 0, none⟩) 1 1 [(x_ac, s)] ((w7.alloc (.cells #[.string ⟨#[97, 99, 99, 101, 112, 116]⟩] 9)).alloc (.cells #[.string ⟨#[97, 99, 99, 101, 112, 116]⟩] 9)).drew hNb.drew (HB7.out.ext hE.drew) (by decide) (by decide) (fun x hx => by rw [List.mem_singleton.1 hx]; decide) HSz.out).mono ?_; rintro e wK ⟨rfl, hbK⟩; replace hE := hE.drew.trans hbK; replace hNa := hNa.drew.ext hbK; clear hbK hNb; (try rw [show vkyS [x_ac] [(x_ac, s)] = keyA s from rfl])
            try go_wp2_with fail
            refine hK.out _ _ ?_ (fun hHeld => ?_)
            · (try dsimp only); exact HS.out _ hE
            clear hK K
            (try simp only [Act.put, List.setIfInBounds_toArray, List.set_cons_zero, List.set_cons_succ])
            refine wpAnyU_ready (rs := [8]) (by kernel_rfl) (by simp) ?_
            refine AllReadyU.cons (o := { dst := some 91, op := _, type := _, pos := _, after := _, guard := _ }) rfl (fun K hK => ?_) AllReadyU.nil
            go_simp
            refine (HDg.out _).mono ?_; rintro e wD ⟨rfl, hbD⟩; replace hE := hE.trans hbD; replace hNa := hNa.ext hbD; clear hbD
            try go_wp2_with fail
            refine hK.out _ _ ?_ (fun hHeld => ?_)
            · (try dsimp only); exact HS.out _ hE
            clear hK K
            (try simp only [Act.put, List.setIfInBounds_toArray, List.set_cons_zero, List.set_cons_succ])
            refine wpAnyU_takeW (i := 9) (oi := { dst := some 92, op := _, type := _, pos := _, after := _, guard := _ }) (v := ?_) (by kernel_rfl) rfl (by kernel_rfl) (by kernel_rfl) (by kernel_rfl) (fun _ _ _ h => h) (Or.inl ⟨by rfl, ?_⟩) (by assumption) ?_
            rotate_left
            · (intro w hSw; (try dsimp only at hSw); go_simp; (try with_reducible rfl))
            (try simp only [Act.put, List.setIfInBounds_toArray, List.set_cons_zero, List.set_cons_succ])
            refine wpAnyU_ready (rs := [10]) (by kernel_rfl) (by simp) ?_
            refine AllReadyU.cons (o := { dst := some 93, op := _, type := _, pos := _, after := _, guard := _ }) rfl (fun K hK => ?_) AllReadyU.nil
            obtain ⟨nz, cap, wB, hnz, hcv, hXB, hRB⟩ := conv_new wD (⟨#[98, 111, 100, 121]⟩ ++ decV (j : Int)) wD.heap.size (by simp); have hRBl : w7.heap.size ≤ wD.heap.size := hE.size; replace hE := hE.trans hXB; replace hNa := hNa.ext hXB
            go_simp
            try go_wp2_with fail
            refine hK.out _ _ ?_ (fun hHeld => ?_)
            · (try dsimp only); exact HS.out _ hE
            clear hK K
            (try simp only [Act.put, List.setIfInBounds_toArray, List.set_cons_zero, List.set_cons_succ])
            refine wpAnyU_takeW (i := 11) (oi := { dst := some 94, op := _, type := _, pos := _, after := _, guard := _ }) (v := ?_) (by kernel_rfl) rfl (by kernel_rfl) (by kernel_rfl) (by kernel_rfl) (fun _ _ _ h => h) (Or.inl ⟨by rfl, ?_⟩) (by assumption) ?_
            rotate_left
            · (intro w hSw; (try dsimp only at hSw); go_simp; (try with_reducible rfl))
            (try simp only [Act.put, List.setIfInBounds_toArray, List.set_cons_zero, List.set_cons_succ])
            refine wpAnyU_ready (rs := [12]) (by kernel_rfl) (by simp) ?_
            refine AllReadyU.cons (o := { dst := some 95, op := _, type := _, pos := _, after := _, guard := _ }) rfl (fun K hK => ?_) AllReadyU.nil
            go_simp
            have hXz := (Ext.refl wB).alloc (.cells #[.slice (some ⟨(w7.heap.size + 1), 0, none⟩) 1 1, .string (keyA s), .string (⟨#[34, 118]⟩ ++ decV (j : Int) ++ ⟨#[34]⟩), .slice (some ⟨wD.heap.size, 0, none⟩) nz cap] 58); have hXr := Rd.lit wB #[.slice (some ⟨(w7.heap.size + 1), 0, none⟩) 1 1, .string (keyA s), .string (⟨#[34, 118]⟩ ++ decV (j : Int) ++ ⟨#[34]⟩), .slice (some ⟨wD.heap.size, 0, none⟩) nz cap] 58 (b := wB.heap.size) (by simp) 4 1 rfl; replace hE := hE.trans hXz; replace hNa := hNa.ext hXz; replace hRB := hRB.ext hXz; clear hXz
            try go_wp2_with fail
            refine hK.out _ _ ?_ (fun hHeld => ?_)
            · (try dsimp only); exact HS.out _ hE
            clear hK K
            (try simp only [Act.put, List.setIfInBounds_toArray, List.set_cons_zero, List.set_cons_succ])
            refine wpAnyU_ready (rs := [13]) (by kernel_rfl) (by simp) ?_
            refine AllReadyU.cons (o := { dst := some 96, op := _, type := _, pos := _, after := _, guard := _ }) rfl (fun K hK => ?_) AllReadyU.nil
            refine step_appO _ rfl (.tmp 84) (.tmp 95) 34 rfl 58 _ 4 80 Tryz.underlying34 infoVrA (by simp [Value.cells]) (by decide) _ _ _ rfl (by rw [← HRv.out]; exact (HI7.out.ext_ hE).row) _ 1 1 (vrC (vrA j s, ⟨⟨some ⟨(w7.heap.size + 1), 0, none⟩, 1, 1⟩, ⟨some ⟨wD.heap.size, 0, none⟩, nz, cap⟩⟩)) rfl hXr (by intro u hu; simp [vrC] at hu; rcases hu with rfl | rfl | rfl | rfl <;> rfl) (by have := HmL.out; omega) (by decide) ?_; intro A6 c6 w6 hown6 hle6 hg6 hn6; have hOx := HI7.out.ext_ hE; rw [← HRv.out] at hg6 hn6; have hPb := hOx.blk.grown hg6 (Ne.symm (own_blk hOx.row hOx.blk (by decide))); have hK13 : w6.cell? ⟨vB, 4, none⟩ = some rv := (by rw [← HRv.out]; exact hPb.cell 4)
            refine hK.out _ _ ?_ (fun hHeld => ?_)
            · (try dsimp only); exact hK13
            clear hK K
            (try simp only [Act.put, List.setIfInBounds_toArray, List.set_cons_zero, List.set_cons_succ])
            refine wpAnyU_takeW (i := 14) (oi := { dst := some 97, op := _, type := _, pos := _, after := _, guard := _ }) (v := ?_) (by kernel_rfl) rfl (by kernel_rfl) (by kernel_rfl) (by kernel_rfl) (fun _ _ _ h => h) (Or.inl ⟨by rfl, ?_⟩) (by assumption) ?_
            rotate_left
            · (intro w hSw; (try dsimp only at hSw); go_simp; (try with_reducible rfl))
            (try simp only [Act.put, List.setIfInBounds_toArray, List.set_cons_zero, List.set_cons_succ])
            refine wpAnyU_ready (rs := [15]) (by kernel_rfl) (by simp) ?_
            refine AllReadyU.stop (o := { dst := none, op := _, type := _, pos := _, after := _, guard := _ }) rfl (by kernel_rfl) (fun K hK => ?_) AllReadyU.nil
            have fp := hPb.frozen 4; have kp := hK13
            go_simp
            try go_wp2_with fail
            refine hK.out _ _ ?_ (fun hHeld => ?_)
            · (try dsimp only); (try trivial)
            clear hK K
            (try simp only [Act.put, List.setIfInBounds_toArray, List.set_cons_zero, List.set_cons_succ])
            refine wpAnyH_done (by kernel_rfl) ?_ _
            clear kp fp
            obtain ⟨hV, hKv⟩ := (HI7.out.ext_ hE).add (x := (vrA j s, ⟨⟨some ⟨(w7.heap.size + 1), 0, none⟩, 1, 1⟩, ⟨some ⟨wD.heap.size, 0, none⟩, nz, cap⟩⟩)) hown6 hg6 hn6 ⟨⟨hNa, fun _ a ha hb => by simp only [Option.some.injEq] at ha; subst ha; have := HLo.out _ hb; simp only at this; omega, Nat.le_refl _⟩, hRB.sub (fun i hi => Nat.lt_of_lt_of_le (HLo.out i hi) hRBl)⟩
            go_wp2_with fail
            go_meet
            exact ⟨rfl, _, hV, by rw [Htk.out]; exact ver_add hver (by rw [List.length_take]; omega), (HB7.out.ext hE).keepS hKv (fun a ha hs => by injection ha with ha; subst ha; have := HLo5.out _ hs; simp only at this; omega)⟩
          · go_simp
            refine (vr_Key (some ⟨w7.heap.size, 0, none⟩) 1 1 [x_ac] (some ⟨w5.heap.size, 0, none⟩) 1 1 [(x_ac, s)] (w7.alloc (.cells #[.string ⟨#[97, 99, 99, 101, 112, 116]⟩] 9)).drew hNb.drew (HB7.out.ext hE.drew) (by decide) (by decide) (fun x hx => by rw [List.mem_singleton.1 hx]; decide) HSz.out).mono ?_; rintro e wK ⟨rfl, hbK⟩; replace hE := hE.drew.trans hbK; clear hbK hNb; (try rw [show vkyS [x_ac] [(x_ac, s)] = keyA s from rfl])
            try go_wp2_with fail
            refine hK.out _ _ ?_ (fun hHeld => ?_)
            · (try dsimp only); exact HS.out _ hE
            clear hK K
            (try simp only [Act.put, List.setIfInBounds_toArray, List.set_cons_zero, List.set_cons_succ])
            refine wpAnyU_ready (rs := [2, 8]) (by kernel_rfl) (by simp) ?_
            refine AllReadyU.cons (o := { dst := some 85, op := _, type := _, pos := _, after := _, guard := _ }) rfl (fun K hK => ?_) (AllReadyU.cons (o := { dst := some 91, op := _, type := _, pos := _, after := _, guard := _ }) rfl (fun K hK => ?_) AllReadyU.nil)
            · go_simp
              have hXz := (Ext.refl wK).alloc (.cells #[.string ⟨#[97, 99, 99, 101, 112, 116]⟩] 9); have hNax := Rd.one wK (.string ⟨#[97, 99, 99, 101, 112, 116]⟩) 9 (b := wK.heap.size) (by simp); have hNal : w7.heap.size ≤ wK.heap.size := (by have h9 := hE.size; (try simp at h9 ⊢); (try omega)); replace hE := hE.trans hXz; have hNa := hNax; clear hNax hXz
              try go_wp2_with fail
              refine hK.out _ _ ?_ (fun hHeld => ?_)
              · (try dsimp only); exact HS.out _ hE
              clear hK K
              (try simp only [Act.put, List.setIfInBounds_toArray, List.set_cons_zero, List.set_cons_succ])
              refine wpAnyU_ready (rs := [8]) (by kernel_rfl) (by simp) ?_
              refine AllReadyU.cons (o := { dst := some 91, op := _, type := _, pos := _, after := _, guard := _ }) rfl (fun K hK => ?_) AllReadyU.nil
              go_simp
              refine (HDg.out _).mono ?_; rintro e wD ⟨rfl, hbD⟩; replace hE := hE.trans hbD; replace hNa := hNa.ext hbD; clear hbD
              try go_wp2_with fail
              refine hK.out _ _ ?_ (fun hHeld => ?_)
              · (try dsimp only); exact HS.out _ hE
              clear hK K
              (try simp only [Act.put, List.setIfInBounds_toArray, List.set_cons_zero, List.set_cons_succ])
              refine wpAnyU_takeW (i := 9) (oi := { dst := some 92, op := _, type := _, pos := _, after := _, guard := _ }) (v := ?_) (by kernel_rfl) rfl (by kernel_rfl) (by kernel_rfl) (by kernel_rfl) (fun _ _ _ h => h) (Or.inl ⟨by rfl, ?_⟩) (by assumption) ?_
              rotate_left
              · (intro w hSw; (try dsimp only at hSw); go_simp; (try with_reducible rfl))
              (try simp only [Act.put, List.setIfInBounds_toArray, List.set_cons_zero, List.set_cons_succ])
              refine wpAnyU_ready (rs := [10]) (by kernel_rfl) (by simp) ?_
              refine AllReadyU.cons (o := { dst := some 93, op := _, type := _, pos := _, after := _, guard := _ }) rfl (fun K hK => ?_) AllReadyU.nil
              obtain ⟨nz, cap, wB, hnz, hcv, hXB, hRB⟩ := conv_new wD (⟨#[98, 111, 100, 121]⟩ ++ decV (j : Int)) wD.heap.size (by simp); have hRBl : w7.heap.size ≤ wD.heap.size := hE.size; replace hE := hE.trans hXB; replace hNa := hNa.ext hXB
              go_simp
              try go_wp2_with fail
              refine hK.out _ _ ?_ (fun hHeld => ?_)
              · (try dsimp only); exact HS.out _ hE
              clear hK K
              (try simp only [Act.put, List.setIfInBounds_toArray, List.set_cons_zero, List.set_cons_succ])
              refine wpAnyU_takeW (i := 11) (oi := { dst := some 94, op := _, type := _, pos := _, after := _, guard := _ }) (v := ?_) (by kernel_rfl) rfl (by kernel_rfl) (by kernel_rfl) (by kernel_rfl) (fun _ _ _ h => h) (Or.inl ⟨by rfl, ?_⟩) (by assumption) ?_
              rotate_left
              · (intro w hSw; (try dsimp only at hSw); go_simp; (try with_reducible rfl))
              (try simp only [Act.put, List.setIfInBounds_toArray, List.set_cons_zero, List.set_cons_succ])
              refine wpAnyU_ready (rs := [12]) (by kernel_rfl) (by simp) ?_
              refine AllReadyU.cons (o := { dst := some 95, op := _, type := _, pos := _, after := _, guard := _ }) rfl (fun K hK => ?_) AllReadyU.nil
              go_simp
              have hXz := (Ext.refl wB).alloc (.cells #[.slice (some ⟨wK.heap.size, 0, none⟩) 1 1, .string (keyA s), .string (⟨#[34, 118]⟩ ++ decV (j : Int) ++ ⟨#[34]⟩), .slice (some ⟨wD.heap.size, 0, none⟩) nz cap] 58); have hXr := Rd.lit wB #[.slice (some ⟨wK.heap.size, 0, none⟩) 1 1, .string (keyA s), .string (⟨#[34, 118]⟩ ++ decV (j : Int) ++ ⟨#[34]⟩), .slice (some ⟨wD.heap.size, 0, none⟩) nz cap] 58 (b := wB.heap.size) (by simp) 4 1 rfl; replace hE := hE.trans hXz; replace hNa := hNa.ext hXz; replace hRB := hRB.ext hXz; clear hXz
              try go_wp2_with fail
              refine hK.out _ _ ?_ (fun hHeld => ?_)
              · (try dsimp only); exact HS.out _ hE
              clear hK K
              (try simp only [Act.put, List.setIfInBounds_toArray, List.set_cons_zero, List.set_cons_succ])
              refine wpAnyU_ready (rs := [13]) (by kernel_rfl) (by simp) ?_
              refine AllReadyU.cons (o := { dst := some 96, op := _, type := _, pos := _, after := _, guard := _ }) rfl (fun K hK => ?_) AllReadyU.nil
              refine step_appO _ rfl (.tmp 84) (.tmp 95) 34 rfl 58 _ 4 80 Tryz.underlying34 infoVrA (by simp [Value.cells]) (by decide) _ _ _ rfl (by rw [← HRv.out]; exact (HI7.out.ext_ hE).row) _ 1 1 (vrC (vrA j s, ⟨⟨some ⟨wK.heap.size, 0, none⟩, 1, 1⟩, ⟨some ⟨wD.heap.size, 0, none⟩, nz, cap⟩⟩)) rfl hXr (by intro u hu; simp [vrC] at hu; rcases hu with rfl | rfl | rfl | rfl <;> rfl) (by have := HmL.out; omega) (by decide) ?_; intro A6 c6 w6 hown6 hle6 hg6 hn6; have hOx := HI7.out.ext_ hE; rw [← HRv.out] at hg6 hn6; have hPb := hOx.blk.grown hg6 (Ne.symm (own_blk hOx.row hOx.blk (by decide))); have hK13 : w6.cell? ⟨vB, 4, none⟩ = some rv := (by rw [← HRv.out]; exact hPb.cell 4)
              refine hK.out _ _ ?_ (fun hHeld => ?_)
              · (try dsimp only); exact hK13
              clear hK K
              (try simp only [Act.put, List.setIfInBounds_toArray, List.set_cons_zero, List.set_cons_succ])
              refine wpAnyU_takeW (i := 14) (oi := { dst := some 97, op := _, type := _, pos := _, after := _, guard := _ }) (v := ?_) (by kernel_rfl) rfl (by kernel_rfl) (by kernel_rfl) (by kernel_rfl) (fun _ _ _ h => h) (Or.inl ⟨by rfl, ?_⟩) (by assumption) ?_
              rotate_left
              · (intro w hSw; (try dsimp only at hSw); go_simp; (try with_reducible rfl))
              (try simp only [Act.put, List.setIfInBounds_toArray, List.set_cons_zero, List.set_cons_succ])
              refine wpAnyU_ready (rs := [15]) (by kernel_rfl) (by simp) ?_
              refine AllReadyU.stop (o := { dst := none, op := _, type := _, pos := _, after := _, guard := _ }) rfl (by kernel_rfl) (fun K hK => ?_) AllReadyU.nil
              have fp := hPb.frozen 4; have kp := hK13
              go_simp
              try go_wp2_with fail
              refine hK.out _ _ ?_ (fun hHeld => ?_)
              · (try dsimp only); (try trivial)
              clear hK K
              (try simp only [Act.put, List.setIfInBounds_toArray, List.set_cons_zero, List.set_cons_succ])
              refine wpAnyH_done (by kernel_rfl) ?_ _
              clear kp fp
              obtain ⟨hV, hKv⟩ := (HI7.out.ext_ hE).add (x := (vrA j s, ⟨⟨some ⟨wK.heap.size, 0, none⟩, 1, 1⟩, ⟨some ⟨wD.heap.size, 0, none⟩, nz, cap⟩⟩)) hown6 hg6 hn6 ⟨⟨hNa, fun _ a ha hb => by simp only [Option.some.injEq] at ha; subst ha; have := HLo.out _ hb; simp only at this; omega, Nat.le_refl _⟩, hRB.sub (fun i hi => Nat.lt_of_lt_of_le (HLo.out i hi) hRBl)⟩
              go_wp2_with fail
              go_meet
              exact ⟨rfl, _, hV, by rw [Htk.out]; exact ver_add hver (by rw [List.length_take]; omega), (HB7.out.ext hE).keepS hKv (fun a ha hs => by injection ha with ha; subst ha; have := HLo5.out _ hs; simp only at this; omega)⟩
            · go_simp
              refine (HDg.out _).mono ?_; rintro e wD ⟨rfl, hbD⟩; replace hE := hE.trans hbD; clear hbD
              try go_wp2_with fail
              refine hK.out _ _ ?_ (fun hHeld => ?_)
              · (try dsimp only); exact HS.out _ hE
              clear hK K
              (try simp only [Act.put, List.setIfInBounds_toArray, List.set_cons_zero, List.set_cons_succ])
              refine wpAnyU_takeW (i := 9) (oi := { dst := some 92, op := _, type := _, pos := _, after := _, guard := _ }) (v := ?_) (by kernel_rfl) rfl (by kernel_rfl) (by kernel_rfl) (by kernel_rfl) (fun _ _ _ h => h) (Or.inl ⟨by rfl, ?_⟩) (by assumption) ?_
              rotate_left
              · (intro w hSw; (try dsimp only at hSw); go_simp; (try with_reducible rfl))
              (try simp only [Act.put, List.setIfInBounds_toArray, List.set_cons_zero, List.set_cons_succ])
              refine wpAnyU_ready (rs := [2, 10]) (by kernel_rfl) (by simp) ?_
              refine AllReadyU.cons (o := { dst := some 85, op := _, type := _, pos := _, after := _, guard := _ }) rfl (fun K hK => ?_) (AllReadyU.cons (o := { dst := some 93, op := _, type := _, pos := _, after := _, guard := _ }) rfl (fun K hK => ?_) AllReadyU.nil)
              · go_simp
                have hXz := (Ext.refl wD).alloc (.cells #[.string ⟨#[97, 99, 99, 101, 112, 116]⟩] 9); have hNax := Rd.one wD (.string ⟨#[97, 99, 99, 101, 112, 116]⟩) 9 (b := wD.heap.size) (by simp); have hNal : w7.heap.size ≤ wD.heap.size := (by have h9 := hE.size; (try simp at h9 ⊢); (try omega)); replace hE := hE.trans hXz; have hNa := hNax; clear hNax hXz
                try go_wp2_with fail
                refine hK.out _ _ ?_ (fun hHeld => ?_)
                · (try dsimp only); exact HS.out _ hE
                clear hK K
                (try simp only [Act.put, List.setIfInBounds_toArray, List.set_cons_zero, List.set_cons_succ])
                refine wpAnyU_ready (rs := [10]) (by kernel_rfl) (by simp) ?_
                refine AllReadyU.cons (o := { dst := some 93, op := _, type := _, pos := _, after := _, guard := _ }) rfl (fun K hK => ?_) AllReadyU.nil
                obtain ⟨nz, cap, wB, hnz, hcv, hXB, hRB⟩ := conv_new (wD.alloc (.cells #[.string ⟨#[97, 99, 99, 101, 112, 116]⟩] 9)) (⟨#[98, 111, 100, 121]⟩ ++ decV (j : Int)) (wD.heap.size + 1) (by simp); have hRBl : w7.heap.size ≤ (wD.alloc (.cells #[.string ⟨#[97, 99, 99, 101, 112, 116]⟩] 9)).heap.size := hE.size; replace hE := hE.trans hXB; replace hNa := hNa.ext hXB
                go_simp
                try go_wp2_with fail
                refine hK.out _ _ ?_ (fun hHeld => ?_)
                · (try dsimp only); exact HS.out _ hE
                clear hK K
                (try simp only [Act.put, List.setIfInBounds_toArray, List.set_cons_zero, List.set_cons_succ])
                refine wpAnyU_takeW (i := 11) (oi := { dst := some 94, op := _, type := _, pos := _, after := _, guard := _ }) (v := ?_) (by kernel_rfl) rfl (by kernel_rfl) (by kernel_rfl) (by kernel_rfl) (fun _ _ _ h => h) (Or.inl ⟨by rfl, ?_⟩) (by assumption) ?_
                rotate_left
                · (intro w hSw; (try dsimp only at hSw); go_simp; (try with_reducible rfl))
                (try simp only [Act.put, List.setIfInBounds_toArray, List.set_cons_zero, List.set_cons_succ])
                refine wpAnyU_ready (rs := [12]) (by kernel_rfl) (by simp) ?_
                refine AllReadyU.cons (o := { dst := some 95, op := _, type := _, pos := _, after := _, guard := _ }) rfl (fun K hK => ?_) AllReadyU.nil
                go_simp
                have hXz := (Ext.refl wB).alloc (.cells #[.slice (some ⟨wD.heap.size, 0, none⟩) 1 1, .string (keyA s), .string (⟨#[34, 118]⟩ ++ decV (j : Int) ++ ⟨#[34]⟩), .slice (some ⟨(wD.heap.size + 1), 0, none⟩) nz cap] 58); have hXr := Rd.lit wB #[.slice (some ⟨wD.heap.size, 0, none⟩) 1 1, .string (keyA s), .string (⟨#[34, 118]⟩ ++ decV (j : Int) ++ ⟨#[34]⟩), .slice (some ⟨(wD.heap.size + 1), 0, none⟩) nz cap] 58 (b := wB.heap.size) (by simp) 4 1 rfl; replace hE := hE.trans hXz; replace hNa := hNa.ext hXz; replace hRB := hRB.ext hXz; clear hXz
                try go_wp2_with fail
                refine hK.out _ _ ?_ (fun hHeld => ?_)
                · (try dsimp only); exact HS.out _ hE
                clear hK K
                (try simp only [Act.put, List.setIfInBounds_toArray, List.set_cons_zero, List.set_cons_succ])
                refine wpAnyU_ready (rs := [13]) (by kernel_rfl) (by simp) ?_
                refine AllReadyU.cons (o := { dst := some 96, op := _, type := _, pos := _, after := _, guard := _ }) rfl (fun K hK => ?_) AllReadyU.nil
                refine step_appO _ rfl (.tmp 84) (.tmp 95) 34 rfl 58 _ 4 80 Tryz.underlying34 infoVrA (by simp [Value.cells]) (by decide) _ _ _ rfl (by rw [← HRv.out]; exact (HI7.out.ext_ hE).row) _ 1 1 (vrC (vrA j s, ⟨⟨some ⟨wD.heap.size, 0, none⟩, 1, 1⟩, ⟨some ⟨(wD.heap.size + 1), 0, none⟩, nz, cap⟩⟩)) rfl hXr (by intro u hu; simp [vrC] at hu; rcases hu with rfl | rfl | rfl | rfl <;> rfl) (by have := HmL.out; omega) (by decide) ?_; intro A6 c6 w6 hown6 hle6 hg6 hn6; have hOx := HI7.out.ext_ hE; rw [← HRv.out] at hg6 hn6; have hPb := hOx.blk.grown hg6 (Ne.symm (own_blk hOx.row hOx.blk (by decide))); have hK13 : w6.cell? ⟨vB, 4, none⟩ = some rv := (by rw [← HRv.out]; exact hPb.cell 4)
                refine hK.out _ _ ?_ (fun hHeld => ?_)
                · (try dsimp only); exact hK13
                clear hK K
                (try simp only [Act.put, List.setIfInBounds_toArray, List.set_cons_zero, List.set_cons_succ])
                refine wpAnyU_takeW (i := 14) (oi := { dst := some 97, op := _, type := _, pos := _, after := _, guard := _ }) (v := ?_) (by kernel_rfl) rfl (by kernel_rfl) (by kernel_rfl) (by kernel_rfl) (fun _ _ _ h => h) (Or.inl ⟨by rfl, ?_⟩) (by assumption) ?_
                rotate_left
                · (intro w hSw; (try dsimp only at hSw); go_simp; (try with_reducible rfl))
                (try simp only [Act.put, List.setIfInBounds_toArray, List.set_cons_zero, List.set_cons_succ])
                refine wpAnyU_ready (rs := [15]) (by kernel_rfl) (by simp) ?_
                refine AllReadyU.stop (o := { dst := none, op := _, type := _, pos := _, after := _, guard := _ }) rfl (by kernel_rfl) (fun K hK => ?_) AllReadyU.nil
                have fp := hPb.frozen 4; have kp := hK13
                go_simp
                try go_wp2_with fail
                refine hK.out _ _ ?_ (fun hHeld => ?_)
                · (try dsimp only); (try trivial)
                clear hK K
                (try simp only [Act.put, List.setIfInBounds_toArray, List.set_cons_zero, List.set_cons_succ])
                refine wpAnyH_done (by kernel_rfl) ?_ _
                clear kp fp
                obtain ⟨hV, hKv⟩ := (HI7.out.ext_ hE).add (x := (vrA j s, ⟨⟨some ⟨wD.heap.size, 0, none⟩, 1, 1⟩, ⟨some ⟨(wD.heap.size + 1), 0, none⟩, nz, cap⟩⟩)) hown6 hg6 hn6 ⟨⟨hNa, fun _ a ha hb => by simp only [Option.some.injEq] at ha; subst ha; have := HLo.out _ hb; simp only at this; omega, Nat.le_refl _⟩, hRB.sub (fun i hi => Nat.lt_of_lt_of_le (HLo.out i hi) hRBl)⟩
                go_wp2_with fail
                go_meet
                exact ⟨rfl, _, hV, by rw [Htk.out]; exact ver_add hver (by rw [List.length_take]; omega), (HB7.out.ext hE).keepS hKv (fun a ha hs => by injection ha with ha; subst ha; have := HLo5.out _ hs; simp only at this; omega)⟩
              · obtain ⟨nz, cap, wB, hnz, hcv, hXB, hRB⟩ := conv_new wD (⟨#[98, 111, 100, 121]⟩ ++ decV (j : Int)) wD.heap.size (by simp); have hRBl : w7.heap.size ≤ wD.heap.size := hE.size; replace hE := hE.trans hXB
                go_simp
                try go_wp2_with fail
                refine hK.out _ _ ?_ (fun hHeld => ?_)
                · (try dsimp only); exact HS.out _ hE
                clear hK K
                (try simp only [Act.put, List.setIfInBounds_toArray, List.set_cons_zero, List.set_cons_succ])
                refine wpAnyU_ready (rs := [2]) (by kernel_rfl) (by simp) ?_
                refine AllReadyU.cons (o := { dst := some 85, op := _, type := _, pos := _, after := _, guard := _ }) rfl (fun K hK => ?_) AllReadyU.nil
                go_simp
                have hXz := (Ext.refl wB).alloc (.cells #[.string ⟨#[97, 99, 99, 101, 112, 116]⟩] 9); have hNax := Rd.one wB (.string ⟨#[97, 99, 99, 101, 112, 116]⟩) 9 (b := wB.heap.size) (by simp); have hNal : w7.heap.size ≤ wB.heap.size := (by have h9 := hE.size; (try simp at h9 ⊢); (try omega)); replace hRB := hRB.ext hXz; replace hE := hE.trans hXz; have hNa := hNax; clear hNax hXz
                try go_wp2_with fail
                refine hK.out _ _ ?_ (fun hHeld => ?_)
                · (try dsimp only); exact HS.out _ hE
                clear hK K
                (try simp only [Act.put, List.setIfInBounds_toArray, List.set_cons_zero, List.set_cons_succ])
                refine wpAnyU_takeW (i := 11) (oi := { dst := some 94, op := _, type := _, pos := _, after := _, guard := _ }) (v := ?_) (by kernel_rfl) rfl (by kernel_rfl) (by kernel_rfl) (by kernel_rfl) (fun _ _ _ h => h) (Or.inl ⟨by rfl, ?_⟩) (by assumption) ?_
                rotate_left
                · (intro w hSw; (try dsimp only at hSw); go_simp; (try with_reducible rfl))
                (try simp only [Act.put, List.setIfInBounds_toArray, List.set_cons_zero, List.set_cons_succ])
                refine wpAnyU_ready (rs := [12]) (by kernel_rfl) (by simp) ?_
                refine AllReadyU.cons (o := { dst := some 95, op := _, type := _, pos := _, after := _, guard := _ }) rfl (fun K hK => ?_) AllReadyU.nil
                go_simp
                have hXz := (Ext.refl (wB.alloc (.cells #[.string ⟨#[97, 99, 99, 101, 112, 116]⟩] 9))).alloc (.cells #[.slice (some ⟨wB.heap.size, 0, none⟩) 1 1, .string (keyA s), .string (⟨#[34, 118]⟩ ++ decV (j : Int) ++ ⟨#[34]⟩), .slice (some ⟨wD.heap.size, 0, none⟩) nz cap] 58); have hXr := Rd.lit (wB.alloc (.cells #[.string ⟨#[97, 99, 99, 101, 112, 116]⟩] 9)) #[.slice (some ⟨wB.heap.size, 0, none⟩) 1 1, .string (keyA s), .string (⟨#[34, 118]⟩ ++ decV (j : Int) ++ ⟨#[34]⟩), .slice (some ⟨wD.heap.size, 0, none⟩) nz cap] 58 (b := (wB.heap.size + 1)) (by simp) 4 1 rfl; replace hE := hE.trans hXz; replace hNa := hNa.ext hXz; replace hRB := hRB.ext hXz; clear hXz
                try go_wp2_with fail
                refine hK.out _ _ ?_ (fun hHeld => ?_)
                · (try dsimp only); exact HS.out _ hE
                clear hK K
                (try simp only [Act.put, List.setIfInBounds_toArray, List.set_cons_zero, List.set_cons_succ])
                refine wpAnyU_ready (rs := [13]) (by kernel_rfl) (by simp) ?_
                refine AllReadyU.cons (o := { dst := some 96, op := _, type := _, pos := _, after := _, guard := _ }) rfl (fun K hK => ?_) AllReadyU.nil
                refine step_appO _ rfl (.tmp 84) (.tmp 95) 34 rfl 58 _ 4 80 Tryz.underlying34 infoVrA (by simp [Value.cells]) (by decide) _ _ _ rfl (by rw [← HRv.out]; exact (HI7.out.ext_ hE).row) _ 1 1 (vrC (vrA j s, ⟨⟨some ⟨wB.heap.size, 0, none⟩, 1, 1⟩, ⟨some ⟨wD.heap.size, 0, none⟩, nz, cap⟩⟩)) rfl hXr (by intro u hu; simp [vrC] at hu; rcases hu with rfl | rfl | rfl | rfl <;> rfl) (by have := HmL.out; omega) (by decide) ?_; intro A6 c6 w6 hown6 hle6 hg6 hn6; have hOx := HI7.out.ext_ hE; rw [← HRv.out] at hg6 hn6; have hPb := hOx.blk.grown hg6 (Ne.symm (own_blk hOx.row hOx.blk (by decide))); have hK13 : w6.cell? ⟨vB, 4, none⟩ = some rv := (by rw [← HRv.out]; exact hPb.cell 4)
                refine hK.out _ _ ?_ (fun hHeld => ?_)
                · (try dsimp only); exact hK13
                clear hK K
                (try simp only [Act.put, List.setIfInBounds_toArray, List.set_cons_zero, List.set_cons_succ])
                refine wpAnyU_takeW (i := 14) (oi := { dst := some 97, op := _, type := _, pos := _, after := _, guard := _ }) (v := ?_) (by kernel_rfl) rfl (by kernel_rfl) (by kernel_rfl) (by kernel_rfl) (fun _ _ _ h => h) (Or.inl ⟨by rfl, ?_⟩) (by assumption) ?_
                rotate_left
                · (intro w hSw; (try dsimp only at hSw); go_simp; (try with_reducible rfl))
                (try simp only [Act.put, List.setIfInBounds_toArray, List.set_cons_zero, List.set_cons_succ])
                refine wpAnyU_ready (rs := [15]) (by kernel_rfl) (by simp) ?_
                refine AllReadyU.stop (o := { dst := none, op := _, type := _, pos := _, after := _, guard := _ }) rfl (by kernel_rfl) (fun K hK => ?_) AllReadyU.nil
                have fp := hPb.frozen 4; have kp := hK13
                go_simp
                try go_wp2_with fail
                refine hK.out _ _ ?_ (fun hHeld => ?_)
                · (try dsimp only); (try trivial)
                clear hK K
                (try simp only [Act.put, List.setIfInBounds_toArray, List.set_cons_zero, List.set_cons_succ])
                refine wpAnyH_done (by kernel_rfl) ?_ _
                clear kp fp
                obtain ⟨hV, hKv⟩ := (HI7.out.ext_ hE).add (x := (vrA j s, ⟨⟨some ⟨wB.heap.size, 0, none⟩, 1, 1⟩, ⟨some ⟨wD.heap.size, 0, none⟩, nz, cap⟩⟩)) hown6 hg6 hn6 ⟨⟨hNa, fun _ a ha hb => by simp only [Option.some.injEq] at ha; subst ha; have := HLo.out _ hb; simp only at this; omega, Nat.le_refl _⟩, hRB.sub (fun i hi => Nat.lt_of_lt_of_le (HLo.out i hi) hRBl)⟩
                go_wp2_with fail
                go_meet
                exact ⟨rfl, _, hV, by rw [Htk.out]; exact ver_add hver (by rw [List.length_take]; omega), (HB7.out.ext hE).keepS hKv (fun a ha hs => by injection ha with ha; subst ha; have := HLo5.out _ hs; simp only at this; omega)⟩
      case rest =>
        obtain ⟨rfl, m2, hV2, hver2, hB2⟩ := hcut
        have HV2 := Lib.hid hV2; have HVer2 := Lib.hid hver2; have HB2 := Lib.hid hB2
        have HSm := Lib.hid (show ∀ t ∈ vs.take (j + 1), t.size ≤ 100 from fun t ht => by
          rw [Htk.out] at ht
          rcases List.mem_append.1 ht with h | h
          · exact hsm t h
          · rw [List.mem_singleton.1 h]; omega)
        have Hpk := Lib.hid (show pickA (vrsA (vs.take (j + 1))) mine = if (pickA (vrsA (vs.take j)) mine).1 = x_pl ∧ keyA s = keyA mine then (x_bo ++ decV (j : Int), x_qv ++ decV (j : Int) ++ x_qq) else pickA (vrsA (vs.take j)) mine from by
          rw [Htk.out, vrsA_app, List.length_take, show min j vs.length = j by omega]
          exact pick_app _ (vrA j s) mine (fun y hy => by
            obtain ⟨i, t, -, -, rfl⟩ := vrsA_mem hy
            exact bo_ne i))
        have HSm2 := Lib.hid (show sumF [(x_ac, mine)] ≤ 1048576 by rw [sumF_cons, sumF_nil, show x_ac.size = 6 from rfl]; simp only; omega)
        clear hV2 hver2 hB2 HB7 HI7 HmL HLo5 hver hsm
        generalize pickA (vrsA (vs.take j)) mine = pk at *
        obtain ⟨pw, pt⟩ := pk
        simp only at Hpk ⊢
        by_cases hpl : pw = x_pl
        · have hqp : (pw.toList == [112, 108, 97, 105, 110]) = true := by rw [hpl]; decide +kernel
          have Hpl := Lib.hid hpl
          clear hpl
          have hXa := (Ext.refl wc).alloc (.cells #[.string ⟨#[97, 99, 99, 101, 112, 116]⟩] 9)
          have HK1 := Lib.hid (vr_Key (some ⟨wc.heap.size, 0, none⟩) 1 1 [x_ac] (some ⟨w5.heap.size, 0, none⟩) 1 1 [(x_ac, s)] _ (Rd.one wc (.string ⟨#[97, 99, 99, 101, 112, 116]⟩) 9 rfl) (HB2.out.ext hXa) (by decide) (by decide) (fun x hx => by rw [List.mem_singleton.1 hx]; decide) HSz.out)
          rw [show vkyS [x_ac] [(x_ac, s)] = keyA s from rfl] at HK1
          go_wp2_with fail
          refine HK1.out.mono ?_; rintro e w8 ⟨rfl, hb8⟩
          have hE8 := hXa.trans hb8
          have hXb := ((Ext.refl w8).alloc (.cells #[.string ⟨#[97, 99, 99, 101, 112, 116]⟩] 9)).alloc (.cells #[.string ⟨#[97, 99, 99, 101, 112, 116]⟩, .string mine] 51)
          have HK2 := Lib.hid (vr_Key (some ⟨w8.heap.size, 0, none⟩) 1 1 [x_ac] (some ⟨w8.heap.size + 1, 0, none⟩) 1 1 [(x_ac, mine)] _ ((Rd.one w8 (.string ⟨#[97, 99, 99, 101, 112, 116]⟩) 9 rfl).alloc (.cells #[.string ⟨#[97, 99, 99, 101, 112, 116]⟩, .string mine] 51)) (Rd.two (w8.alloc (.cells #[.string ⟨#[97, 99, 99, 101, 112, 116]⟩] 9)) (.string ⟨#[97, 99, 99, 101, 112, 116]⟩) (.string mine) 51 (b := w8.heap.size + 1) (by simp)) (by decide) (by decide) (fun x hx => by rw [List.mem_singleton.1 hx]; decide) HSm2.out)
          rw [show vkyS [x_ac] [(x_ac, mine)] = keyA mine from rfl] at HK2
          go_wp2_with fail
          refine HK2.out.mono ?_; rintro e w9 ⟨rfl, hb9⟩
          have HV9 := Lib.hid (HV2.out.ext_ (hE8.trans (hXb.trans hb9)))
          clear hXa hb8 hE8 hXb hb9 HK1 HK2
          by_cases hke : keyA s = keyA mine
          · have hqk : ((keyA s).toList == (keyA mine).toList) = true := eqS_iff.2 hke
            have hpk := Hpk.out
            rw [if_pos ⟨Hpl.out, hke⟩] at hpk
            go_wp2_with fail
            refine (HDg.out _).mono ?_; rintro e w10 ⟨rfl, hb10⟩
            go_wp2_with fail
            go_roundg (n - (j + 1))
            case measure => omega
            case rel => exact ⟨j + 1, m2, by omega, rfl, rfl, by rw [hpk]; rfl, by rw [hpk]; rfl, HV9.out.ext_ hb10, HVer2.out, HSm.out⟩
          · have hqk : ((keyA s).toList == (keyA mine).toList) = false := Bool.eq_false_iff.2 (fun e => hke (eqS_iff.1 e))
            have hpk := Hpk.out
            rw [if_neg (fun h => hke h.2)] at hpk
            go_wp2_with fail
            go_roundg (n - (j + 1))
            case measure => omega
            case rel => exact ⟨j + 1, m2, by omega, rfl, rfl, by rw [hpk], by rw [hpk], HV9.out, HVer2.out, HSm.out⟩
        · have hqp : (pw.toList == [112, 108, 97, 105, 110]) = false := Bool.eq_false_iff.2 (fun e => hpl (by
            have h2 : pw.toList = x_pl.toList := by rw [beq_iff_eq] at e; rw [e]; decide +kernel
            rw [ByteArray.toList_eq, ByteArray.toList_eq] at h2
            exact bytes_ext h2))
          have hpk := Hpk.out
          rw [if_neg (fun h => hpl h.1)] at hpk
          go_wp2_with fail
          go_roundg (n - (j + 1))
          case measure => omega
          case rel => exact ⟨j + 1, m2, by omega, rfl, rfl, by rw [hpk], by rw [hpk], HV2.out, HVer2.out, HSm.out⟩
    · have hjn : j = n := by omega
      subst hjn
      rw [List.take_of_length_le (by omega)] at hver ⊢
      have HVA := Lib.hid (vaS (vs := vs) mine)
      have HPb := Lib.hid (v_pub (vs := vs) (by omega))
      have HSz := Lib.hid (show SzV (pgA (vrsA vs)) from ⟨by show x_ad.size ≤ _; decide, by show 1 ≤ _; omega, by show sumF [(x_et, x_q1)] ≤ _; decide, by show x_pl.size ≤ _; decide, by show (vrsA vs).length ≤ _; rw [vrsA_len]; omega, fun x hx => by
        obtain ⟨i, t, hi, -, rfl⟩ := vrsA_mem hx
        have hd := decV_size (n := (i : Int)) (by omega)
        refine ⟨by show 1 ≤ _; omega, fun y hy => by rw [List.mem_singleton.1 hy]; decide, ?_, ?_⟩
        · show (x_qv ++ decV (i : Int) ++ x_qq).size ≤ _
          rw [ByteArray.size_append, ByteArray.size_append, show x_qv.size = 2 from rfl, show x_qq.size = 1 from rfl]; omega
        · show (x_bo ++ decV (i : Int)).size ≤ _
          rw [ByteArray.size_append, show x_bo.size = 4 from rfl]; omega⟩)
      have HPub := Lib.hid (pub_v (HO.out.ext hI.ext) hI.at_ hver HSz.out HPb.out (HEg.out _ hE).1)
      have HBk := Lib.hid hI.blk
      have HEr := Lib.hid hE
      clear HSz HPb hI hver hsm hE
      obtain ⟨⟨S1, F1, B1, o1⟩, ha1⟩ : ∃ X, answS (orgV (vrsA vs)) 3 (rqA mine) = X := ⟨_, rfl⟩
      obtain ⟨⟨S2, F2, B2, o2⟩, ha2⟩ : ∃ X, answS o1 3 rqG = X := ⟨_, rfl⟩
      obtain ⟨cs1, cb1, cg1, cs2, cb2, clg, cbr⟩ := HVA.out
      rw [ha1] at cs1 cg1 cb1 cs2 cb2 clg cbr
      simp only at cs1 cg1 cb1 cs2 cb2 clg cbr
      rw [ha2] at cs2 cb2
      simp only at cs2 cb2
      have HA1 := Lib.hid ha1; have HA2 := Lib.hid ha2; have HC := Lib.hid (⟨cs1, cg1, cb1, cs2, cb2⟩ : _ ∧ _ ∧ _ ∧ _ ∧ _); have HL := Lib.hid (⟨clg, cbr⟩ : _ ∧ _)
      have Hmz := Lib.hid (show mine.size ≤ 100 by omega)
      clear ha1 ha2 cs1 cg1 cb1 cs2 cb2 clg cbr HVA
      generalize pickA (vrsA vs) mine = pk at *
      have Hov := Lib.hid (show (orgV (vrsA vs)).br.length = 0 ∧ (orgV (vrsA vs)).lg.length = 0 from ⟨rfl, rfl⟩)
      generalize orgV (vrsA vs) = oV at *
      obtain ⟨pw, pt⟩ := pk
      simp only at HC ⊢
      go_wp2_with (first | (refine wpList_loadB rfl 36 (.tmp 8) rfl vB rfl 36 _ HBk.out _ Tryz.underlying36 infoVe ?_))
      refine HPub.out.mono ?_; rintro e w6 ⟨rfl, R6, ⟨M6, hO6⟩, hk6, hR6a, hR6b⟩
      have HE6 := Lib.hid (HEr.out.keeps hk6 (fun i hi => by rw [show i = p from hi]; exact HP.out))
      have HR6 := Lib.hid (fun i (hi : R6 i) => (hR6b i hi).elim (fun h => show w.heap.size ≤ i from by rw [show i = p from h]; exact HP.out) (fun h => by have := HEr.out.size; omega))
      have HB7 := Lib.hid (Rd.two w6 (.string ⟨#[97, 99, 99, 101, 112, 116]⟩) (.string mine) 51 rfl)
      have hX7 := (Ext.refl w6).alloc (.cells #[.string ⟨#[97, 99, 99, 101, 112, 116]⟩, .string mine] 51)
      have HE7 := Lib.hid (HE6.out.trans hX7)
      have HO7 := Lib.hid (hO6.ext hX7)
      clear hk6 hR6a hR6b hO6 HPub hX7 HBk HEr
      rw [show errV 0 = .nilIface from rfl]
      go_wp2_with fail
      generalize w6.alloc (.cells #[.string ⟨#[97, 99, 99, 101, 112, 116]⟩, .string mine] 51) = w7 at *
      refine (law_get x_ge _ 1 1 [(x_ac, mine)] w7 HB7.out (by decide)).mono ?_; rintro e w8 ⟨⟨kA, kn, kc⟩, rfl, hg8, hb8⟩
      have HE8 := Lib.hid (HE7.out.trans hb8)
      obtain ⟨hFz, hAn⟩ := ans_s (t := 3) (me := x_ge) (ta := x_sa) (HO7.out.ext hb8) hg8 (by have := Hmz.out; rw [sumF_cons, sumF_cons, sumF_nil, show x_ho.size = 4 from rfl, show x_ec.size = 11 from rfl, show x_ac.size = 6 from rfl]; simp only [List.length_cons, List.length_nil]; omega) (by decide) (by rw [Hov.out.1]; omega) (by rw [Hov.out.2]; omega) (HEg.out _ HE8.out) HA1.out
      have HAn := Lib.hid hAn; have HFz := Lib.hid hFz
      clear hAn hFz hg8 hb8
      simp only [Sl.v] at HAn ⊢
      go_wp2_with fail
      refine HAn.out.mono ?_; rintro e w9 ⟨⟨uA, un, uc⟩, ⟨tA, tn, tc⟩, rfl, R9, ⟨M9, hO9⟩, hs9, ht9, hk9, -, hR9b⟩
      have HE9 := Lib.hid (HE8.out.keeps hk9 HR6.out)
      have HR9 := Lib.hid (fun i (hi : R9 i) => (hR9b i hi).elim (HR6.out i) (fun h => by have := HE8.out.size; omega))
      have hXa := (Ext.refl w9).alloc (.cells #[.int .i64 S1, .slice uA un uc] 38)
      have hBa := Blk.new w9 38 #[.int .i64 S1, .slice uA un uc]
      have h1 : (w9.alloc (.cells #[.int .i64 S1, .slice uA un uc] 38)).cell? ⟨w9.heap.size, 1, none⟩ = some (.slice uA un uc) := hBa.cell 1
      have HBa := Lib.hid hBa; have HXa := Lib.hid hXa
      have Hna := Lib.hid (show ¬ R9 w9.heap.size from fun h => by have := hO9.low _ h; omega)
      have HT := Lib.hid (ht9.ext hXa); have HOa := Lib.hid (hO9.ext hXa)
      have HGt := Lib.hid (get_F x_et (by decide) (hs9.ext hXa) HFz.out)
      rw [HC.out.2.1, show getV (some pt) = .tuple #[.string pt, .bool true] from rfl] at HGt
      clear hk9 hR9b hO9 hs9 ht9 hXa hBa HAn
      simp only [Sl.v]
      go_wp2_with fail
      refine HGt.out.mono ?_; rintro e w10 ⟨rfl, hb10⟩
      have HXt := Lib.hid (HXa.out.trans hb10)
      clear h1
      go_wp2_with fail
      refine (law_get x_ge none 0 0 [] w10 (Rd.none_ _ _ _) (by decide)).mono ?_; rintro e w11 ⟨⟨lA, ln, lc⟩, rfl, hg11, hb11⟩
      have HE11 := Lib.hid (HE9.out.trans (HXt.out.trans hb11))
      have HBb := Lib.hid ((HBa.out.ext hb10).ext hb11)
      have HTb := Lib.hid ((HT.out.ext hb10).ext hb11)
      obtain ⟨-, hAn⟩ := ans_s (t := 3) (me := x_ge) (ta := x_sa) ((HOa.out.ext hb10).ext hb11) hg11 (by decide) (by decide) (by rw [HL.out.2]; omega) (by rw [HL.out.1]; omega) (HEg.out _ HE11.out) HA2.out
      have HAn := Lib.hid hAn
      clear hAn hg11 hb10 hb11
      simp only [Sl.v] at HAn ⊢
      go_wp2_with fail
      refine HAn.out.mono ?_; rintro e w12 ⟨⟨xA, xn, xc⟩, ⟨yA, yn, yc⟩, rfl, R12, -, -, ht12, hk12, -, -⟩
      have HE12 := Lib.hid (HE11.out.keeps hk12 HR9.out)
      have hXc := (Ext.refl w12).alloc (.cells #[.int .i64 S2, .slice xA xn xc] 38)
      have HE13 := Lib.hid (HE12.out.trans hXc)
      have h0 : (w12.alloc (.cells #[.int .i64 S2, .slice xA xn xc] 38)).cell? ⟨w9.heap.size, 0, none⟩ = some (.int .i64 S1) := ((HBb.out.keep hk12 Hna.out).ext hXc).cell 0
      have h2 : (w12.alloc (.cells #[.int .i64 S2, .slice xA xn xc] 38)).cell? ⟨w12.heap.size, 0, none⟩ = some (.int .i64 S2) := (Blk.new w12 38 #[.int .i64 S2, .slice xA xn xc]).cell 0
      have hc1 := conv_BE (c := tc) ((HTb.out.keep hk12 (fun i hi => .inl (.inr hi))).ext hXc).rd
      have hc2 := conv_BE (c := yc) (ht12.ext hXc).rd
      obtain ⟨rfl, -, rfl, rfl, rfl⟩ := HC.out
      have hqp : (x_pl.toList == [112, 108, 97, 105, 110]) = true := by decide +kernel
      simp only at hc1 hc2
      generalize x_pl = xp at *
      clear hk12 ht12 hXc
      simp only [Sl.v]
      go_wp2_with fail
      go_ret
      exact ⟨rfl, HE13.out⟩
end Go.Proofs.YtmckbcbdnckngaaGreatDoor
