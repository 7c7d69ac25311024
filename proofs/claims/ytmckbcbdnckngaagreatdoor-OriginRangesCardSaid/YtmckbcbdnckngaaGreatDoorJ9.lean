/- OriginWhole in plain words: the last body up to a time is what is answered. OriginRanges in plain words: a range of a page is read as it is written; what is answered. The walk of OriginRanges. -/
import Derived.Test.YtmckbcbdnckngaaGreatDoorJ8
set_option linter.unusedSimpArgs false
set_option linter.unusedVariables false
namespace Go.Proofs.YtmckbcbdnckngaaGreatDoor
open Go.RowKit

def verW (b : ByteArray) : Ver := ⟨x_ad, 200, [], b, []⟩
def vsW (L : List (Int × ByteArray)) : List (Int × Ver) := L.map fun x => (x.1, verW x.2)
def orgW (L : List (Int × ByteArray)) : Org := ⟨vsW L, [], []⟩
def lastW (L : List (Int × ByteArray)) (now : Int) : Option ByteArray := ((L.filter fun x => decide (x.1 ≤ now)).getLast?).map (·.2)
theorem lastW_app (L : List (Int × ByteArray)) (now t : Int) (b : ByteArray) : lastW (L ++ [(t, b)]) now = if t ≤ now then some b else lastW L now := by
  unfold lastW
  rw [List.filter_append]
  by_cases h : t ≤ now
  · rw [if_pos h, List.filter_cons_of_pos (by simpa using h)]; simp
  · rw [if_neg h, List.filter_cons_of_neg (by simpa using h)]; simp
theorem find_W (t : Int) : ∀ L : List (Int × ByteArray), (findS (vsW L) x_ad t = 0 ∧ lastW L t = none) ∨ ∃ n b p, findS (vsW L) x_ad t = n + 1 ∧ (vsW L)[n]? = some (p, verW b) ∧ lastW L t = some b
  | [] => .inl ⟨rfl, rfl⟩
  | x :: L => by
    have hx : ((verW x.2).addr == x_ad) = true := by kernel_rfl
    have e : findS (vsW (x :: L)) x_ad t = if findS (vsW L) x_ad t = 0 then (if ((verW x.2).addr == x_ad && decide (x.1 ≤ t)) = true then 1 else 0) else findS (vsW L) x_ad t + 1 := rfl
    rcases find_W t L with ⟨h1, h2⟩ | ⟨n, b, p, h1, h2, h3⟩
    · rw [e, if_pos h1]
      unfold lastW at h2
      have h4 : L.filter (fun x => decide (x.1 ≤ t)) = [] := by simpa using h2
      by_cases hc : x.1 ≤ t
      · rw [if_pos (by rw [hx]; simp [hc])]
        refine .inr ⟨0, x.2, x.1, rfl, rfl, ?_⟩
        unfold lastW
        rw [List.filter_cons_of_pos (by simpa using hc), h4]; rfl
      · rw [if_neg (by simp [hc])]
        refine .inl ⟨rfl, ?_⟩
        unfold lastW
        rw [List.filter_cons_of_neg (by simpa using hc), h4]; rfl
    · rw [e, if_neg (by omega), h1]
      refine .inr ⟨n + 1, b, p, rfl, h2, ?_⟩
      unfold lastW at h3 ⊢
      by_cases hc : x.1 ≤ t
      · rw [List.filter_cons_of_pos (by simpa using hc)]
        cases hq : L.filter (fun x => decide (x.1 ≤ t)) with
        | nil => rw [hq] at h3; cases h3
        | cons a l => rw [hq] at h3; simpa [List.getLast?_cons_cons] using h3
      · rw [List.filter_cons_of_neg (by simpa using hc)]; exact h3
theorem w_pub {L : List (Int × ByteArray)} {t : Int} {b : ByteArray} (h0 : 0 ≤ t) (h1 : t ≤ 100000) (hL : L.length ≤ 100) (ht : ∀ x ∈ L, x.1 ≤ t) (hb : b.size ≤ 2000) :
    pubS (orgW L) t (verW b) = (((L.length + 1 : Nat) : Int), 0, orgW (L ++ [(t, b)])) := by
  have hc : cl55 t = t := by unfold cl55; omega
  have hl : (vsW L).length = L.length := by unfold vsW; simp
  rw [pub_ok (o := orgW L) (t := t) (by unfold bigVr verW; simp; omega) (by show ¬ 4096 ≤ (vsW L).length; omega) (by kernel_rfl) (fun p hp => by
    have h2 := List.mem_of_getLast? hp
    obtain ⟨x, hx, rfl⟩ := List.mem_map.1 h2
    rw [hc]; have := ht x hx; show ¬ t < x.1; omega)]
  rw [hc]
  show _ = (((L.length + 1 : Nat) : Int), 0, (⟨vsW (L ++ [(t, b)]), [], []⟩ : Org))
  have hm : vsW (L ++ [(t, b)]) = vsW L ++ [(t, verW b)] := by unfold vsW; simp
  rw [hm]
  unfold orgW
  simp [hl]
structure WhS (L : List (Int × ByteArray)) (now : Int) : Prop where
  no : lastW L now = none → (answS (orgW L) now rqG).1 = 404 ∧ (answS (orgW L) now rqG).2.2.1 = ⟨#[]⟩
  so : ∀ b, lastW L now = some b → (answS (orgW L) now rqG).1 = 200 ∧ (answS (orgW L) now rqG).2.2.1 = b ∧ getO (answS (orgW L) now rqG).2.1 x_cl = some (decV b.size)
/-- A request for the address that reaches a version. -/
theorem dec_at {o : Org} {t : Int} {r : Rq} {n : Nat} {p : Int × Ver} (hb : o.br = []) (hm : (!(r.method.toList == [71, 69, 84]) && !(r.method.toList == [72, 69, 65, 68])) = false) (hh : allS r.fs x_ho = [x_ec]) (ht : r.target = x_sa) (hn : findS o.vs x_ad t = n + 1) (hp : o.vs[n]? = some p) :
    decS55 o t r = verS { ans0 with addr := x_ad, version := ((n + 1 : Nat) : Int) } p.2 r := by
  have e1 : adPS x_ec x_sa = some ⟨bL x_ec, bL x_sa, [], false⟩ := by kernel_rfl
  have e2 : ofL (adText ⟨bL x_ec, bL x_sa, [], false⟩) = x_ad := by kernel_rfl
  unfold decS55
  rw [hb, hm, hh, ht]
  simp only [List.any_nil, Bool.false_eq_true, if_false, e1, e2, hn]
  rw [show n + 1 - 1 = n by omega, hp]
  simp
theorem dec_no {o : Org} {t : Int} {r : Rq} (hb : o.br = []) (hm : (!(r.method.toList == [71, 69, 84]) && !(r.method.toList == [72, 69, 65, 68])) = false) (hh : allS r.fs x_ho = [x_ec]) (ht : r.target = x_sa) (hn : findS o.vs x_ad t = 0) :
    decS55 o t r = { ans0 with status := 404, addr := x_ad, fs := brief } := by
  have e1 : adPS x_ec x_sa = some ⟨bL x_ec, bL x_sa, [], false⟩ := by kernel_rfl
  have e2 : ofL (adText ⟨bL x_ec, bL x_sa, [], false⟩) = x_ad := by kernel_rfl
  unfold decS55
  rw [hb, hm, hh, ht]
  simp only [List.any_nil, Bool.false_eq_true, if_false, e1, e2, hn]
  split <;> simp
set_option maxRecDepth 100000 in
theorem whS (L : List (Int × ByteArray)) (now : Int) (h0 : 0 ≤ now) (h1 : now ≤ 100000) (hz : ∀ x ∈ L, x.2.size ≤ 2000) : WhS L now := by
  have hc : cl55 now = now := by unfold cl55; omega
  have hA := answ_eq (orgW L) now rqG
  rw [hc] at hA
  rcases find_W now L with ⟨q1, q2⟩ | ⟨n, b, p, q1, q2, q3⟩
  · rw [dec_no (o := orgW L) (r := rqG) rfl (by kernel_rfl) (by kernel_rfl) rfl q1] at hA
    rw [show ansF { ans0 with status := 404, addr := x_ad, fs := brief } now = [(x_cc, x_m1), (x_dt, fmtS (now / 1000)), (x_cl, decV 0)] by kernel_rfl] at hA
    refine ⟨fun _ => ?_, fun b hb => (by rw [q2] at hb; cases hb)⟩
    rw [hA]; exact ⟨rfl, by kernel_rfl⟩
  · rw [dec_at (o := orgW L) (r := rqG) rfl (by kernel_rfl) (by kernel_rfl) rfl q1 q2] at hA
    have hb : b.size ≤ 2000 := by
      unfold lastW at q3
      rw [Option.map_eq_some_iff] at q3
      obtain ⟨x, hx, rfl⟩ := q3
      exact hz x (List.mem_filter.1 (List.mem_of_getLast? hx)).1
    generalize (((n + 1 : Nat) : Int)) = N at hA
    rw [show ansF (verS { ans0 with addr := x_ad, version := N } (verW b) rqG) now = [(x_dt, fmtS (now / 1000)), (x_cl, decV b.size)] by kernel_rfl] at hA
    refine ⟨fun h => (by rw [q3] at h; cases h), fun b2 h2 => ?_⟩
    rw [q3] at h2; injection h2 with h2; subst h2
    rw [hA]; exact ⟨by kernel_rfl, by kernel_rfl, getO_one (by kernel_rfl)⟩
end Go.Proofs.YtmckbcbdnckngaaGreatDoor

namespace Go.Proofs.YtmckbcbdnckngaaGreatDoor
open Go.RowKit

def okR (c : UInt8) : Bool := digC c || c == 45
theorem okR_fin (c : UInt8) (h : okR c = true) : c.toNat ≠ 34 ∧ c.toNat ≠ 44 ∧ bl c = false ∧ ctlB c = false := by
  have h1 : c.toNat = 45 ∨ (48 ≤ c.toNat ∧ c.toNat ≤ 57) := by
    unfold okR digC at h
    rw [Bool.or_eq_true, Bool.and_eq_true, decide_eq_true_eq, decide_eq_true_eq, UInt8.le_iff_toNat_le, UInt8.le_iff_toNat_le, beq_iff_eq] at h
    rcases h with h | h
    · exact .inr h
    · exact .inl (by rw [h]; rfl)
  have h2 : ∀ k : Nat, c.toNat = k → c = UInt8.ofNat k := fun k e => by rw [← e]; simp
  have h3 : c.toNat = 45 ∨ c.toNat = 48 ∨ c.toNat = 49 ∨ c.toNat = 50 ∨ c.toNat = 51 ∨ c.toNat = 52 ∨ c.toNat = 53 ∨ c.toNat = 54 ∨ c.toNat = 55 ∨ c.toNat = 56 ∨ c.toNat = 57 := by omega
  rcases h3 with e | e | e | e | e | e | e | e | e | e | e <;> rw [h2 _ e] <;> decide
theorem digC_okR {c : UInt8} (h : digC c = true) : okR c = true := by unfold okR; rw [h]; rfl
theorem digC_45 {l : Bs} (h : l.all digC = true) : (45 : UInt8) ∉ l := fun hm => by
  have := List.all_eq_true.1 h _ hm
  revert this; decide
theorem fin_plain (s : ByteArray) (h : ∀ c ∈ s.data.toList, okR c = true) : ∀ n i, s.size - i ≤ n → fin s 44 i 0 false [] = some [trimF (s.extract 0 s.size)]
  | 0, i, hn => by rw [fin_end (by omega)]; rfl
  | n + 1, i, hn => by
    by_cases hi : i < s.size
    · have hc := okR_fin s[i] (h _ (by
        have : s[i] = s.data.toList[i]'(by simpa using hi) := by simp; rfl
        rw [this]; exact List.getElem_mem _))
      rw [fin_p hi (by omega) (by show ¬ (s[i].toNat : Int) = 44; omega)]
      exact fin_plain s h n (i + 1) (by omega)
    · rw [fin_end hi]; rfl
theorem trim_plain (s : ByteArray) (h : ∀ c ∈ s.data.toList, okR c = true) : trimF s = s := by
  have hb : ∀ i (hi : i < s.size), bl s[i] = false := fun i hi => (okR_fin s[i] (h _ (by
        have : s[i] = s.data.toList[i]'(by simpa using hi) := by simp; rfl
        rw [this]; exact List.getElem_mem _))).2.2.1
  exact trim_end (front_no fun h0 => hb 0 h0) fun j h0 => hb j (by omega)
theorem ex_all (s : ByteArray) : s.extract 0 s.size = s := by
  apply bytes_ext
  simp
theorem parts_plain (s : ByteArray) (h : ∀ c ∈ s.data.toList, okR c = true) : partsS s 44 = some [s] := by
  have hc : ctlS s = false := by
    unfold ctlS
    rw [List.any_eq_false]
    intro c hc
    rw [(okR_fin c (h c hc)).2.2.2]; simp
  rw [← parts_fin hc, fin_plain s h s.size 0 (by omega), ex_all, trim_plain s h]
theorem dec_fold : ∀ (n u : Nat), u ≤ n → (Lib.decDigits u).foldl (fun n c => 10 * n + ((c.toNat : Int) - 48)) (0 : Int) = u ∧ (Lib.decDigits u).all digC = true
  | 0, u, h => by obtain rfl : u = 0 := by omega
                  decide +kernel
  | n + 1, u, h => by
    by_cases hu : u < 10
    · rw [Lib.decDigits, dif_pos hu]
      have h1 : ∀ k : Fin 10, ([UInt8.ofNat (48 + k.val)] : Bs).foldl (fun n c => 10 * n + ((c.toNat : Int) - 48)) (0 : Int) = (k.val : Int) ∧ ([UInt8.ofNat (48 + k.val)] : Bs).all digC = true := by decide +kernel
      exact h1 ⟨u, hu⟩
    · rw [Lib.decDigits, dif_neg hu]
      obtain ⟨e1, e2⟩ := dec_fold n (u / 10) (by omega)
      have h1 : ∀ k : Fin 10, ((UInt8.ofNat (48 + k.val)).toNat : Int) - 48 = (k.val : Int) ∧ digC (UInt8.ofNat (48 + k.val)) = true := by decide +kernel
      obtain ⟨f1, f2⟩ := h1 ⟨u % 10, by omega⟩
      simp only at f1 f2
      refine ⟨?_, ?_⟩
      · rw [List.foldl_append, e1]
        simp only [List.foldl_cons, List.foldl_nil, f1]
        omega
      · rw [List.all_append, e2, Bool.true_and, List.all_cons, List.all_nil, Bool.and_true]; exact f2
theorem dec_len {u : Nat} (h : u < 10000) : 0 < (Lib.decDigits u).length ∧ (Lib.decDigits u).length ≤ 4 := by
  rw [Lib.decDigits_length]
  by_cases h1 : u < 10
  · rw [Lib.nDigits_small h1]; omega
  · by_cases h2 : u < 100
    · rw [Lib.nDigits_unique 1 u (by omega) (by omega)]; omega
    · by_cases h3 : u < 1000
      · rw [Lib.nDigits_unique 2 u (by omega) (by omega)]; omega
      · rw [Lib.nDigits_unique 3 u (by omega) (by omega)]; omega
theorem decV_data (u : Nat) : (decV (u : Int)).data.toList = Lib.decDigits u := by unfold decV; simp
theorem decV_sz {u : Nat} (h : u < 10000) : 0 < (decV (u : Int)).size ∧ (decV (u : Int)).size ≤ 4 := by
  have h1 := dec_len h
  rw [← decV_data, Array.length_toList] at h1
  exact h1
theorem nmb_dec {u : Nat} (h : u < 10000) : nmbV (decV (u : Int)) = u ∧ nmbE (decV (u : Int)) = 0 := by
  obtain ⟨e1, e2⟩ := dec_fold u u (Nat.le_refl _)
  obtain ⟨z1, z2⟩ := decV_sz h
  constructor
  · unfold nmbV
    rw [decV_data, e2, if_pos (by rw [Bool.true_and, Bool.and_eq_true, decide_eq_true_eq, decide_eq_true_eq]; omega), e1]
  · unfold nmbE
    rw [decV_data, e2, if_neg (by rw [Bool.not_true, Bool.false_or, beq_iff_eq]; omega), if_neg (by rw [decide_eq_true_eq]; omega)]
def rgv (a b : Nat) : ByteArray := decV (a : Int) ++ ⟨#[45]⟩ ++ decV (b : Int)
def rgz (a : Nat) : ByteArray := decV (a : Int) ++ ⟨#[45]⟩
theorem rgv_ok (a b : Nat) : ∀ c ∈ (rgv a b).data.toList, okR c = true := by
  intro c hc
  unfold rgv at hc
  rw [data_append, data_append, decV_data, decV_data, List.mem_append, List.mem_append] at hc
  rcases hc with (hc | hc) | hc
  · exact digC_okR (List.all_eq_true.1 (dec_fold a a (Nat.le_refl _)).2 _ hc)
  · rw [show (⟨#[45]⟩ : ByteArray).data.toList = [45] from rfl, List.mem_singleton] at hc; subst hc; rfl
  · exact digC_okR (List.all_eq_true.1 (dec_fold b b (Nat.le_refl _)).2 _ hc)
theorem rgz_ok (a : Nat) : ∀ c ∈ (rgz a).data.toList, okR c = true := by
  intro c hc
  unfold rgz at hc
  rw [data_append, decV_data, List.mem_append] at hc
  rcases hc with hc | hc
  · exact digC_okR (List.all_eq_true.1 (dec_fold a a (Nat.le_refl _)).2 _ hc)
  · rw [show (⟨#[45]⟩ : ByteArray).data.toList = [45] from rfl, List.mem_singleton] at hc; subst hc; rfl
theorem rest_app (x : ByteArray) : Lib.hasPrefix (byN ++ x).data.toList byN.data.toList = true ∧ rgRest (byN ++ x) = x := by
  have h1 : Lib.hasPrefix (byN ++ x).data.toList byN.data.toList = true := by
    rw [data_append]; unfold Lib.hasPrefix; simp
  refine ⟨h1, ?_⟩
  unfold rgRest Lib.trimPrefix
  rw [if_pos h1, data_append, List.drop_left]
theorem items_plain (s : ByteArray) (h : ∀ c ∈ s.data.toList, okR c = true) (h0 : 0 < s.size) : itemsS s = [s] := by
  unfold itemsS
  rw [parts_plain s h]
  show [s].filter full = _
  rw [List.filter_cons_of_pos (by unfold full; simpa using h0)]; rfl
theorem mk_data (x : ByteArray) : (⟨x.data.toList.toArray⟩ : ByteArray) = x := by apply bytes_ext; simp
theorem elR_rg2 {a b len : Nat} (h1 : a ≤ b) (h2 : b < len) (h3 : len ≤ 2000) : elR (rgv a b) len = some ((a : Int), (b : Int) + 1) := by
  have hc : cutL 45 (rgv a b).data.toList = ((decV (a : Int)).data.toList, (decV (b : Int)).data.toList, true) := by
    unfold rgv
    rw [data_append, data_append, List.append_assoc, show (⟨#[45]⟩ : ByteArray).data.toList ++ (decV (b : Int)).data.toList = 45 :: (decV (b : Int)).data.toList from rfl]
    exact cut_some _ (by rw [decV_data]; exact digC_45 (dec_fold a a (Nat.le_refl _)).2)
  unfold elR
  rw [hc]
  simp only [mk_data, Bool.not_true, Bool.false_eq_true, if_false]
  obtain ⟨a1, a2⟩ := nmb_dec (u := a) (by omega); obtain ⟨b1, b2⟩ := nmb_dec (u := b) (by omega)
  have a3 := (decV_sz (u := a) (by omega)).1
  have b3 := (decV_sz (u := b) (by omega)).1
  rw [if_neg (by rw [beq_iff_eq]; omega), a1, a2, b1, b2, if_neg (by simp; omega)]
  simp only [beq_self_eq_true, if_true, Option.some.injEq, Prod.mk.injEq, true_and]
  omega
theorem elR_rg1 {a len : Nat} (h3 : a ≤ 2000) : elR (rgz a) len = some ((a : Int), (len : Int)) := by
  have hc : cutL 45 (rgz a).data.toList = ((decV (a : Int)).data.toList, [], true) := by
    unfold rgz
    rw [data_append]
    exact cut_some _ (by rw [decV_data]; exact digC_45 (dec_fold a a (Nat.le_refl _)).2)
  unfold elR
  rw [hc]
  simp only [mk_data, Bool.not_true, Bool.false_eq_true, if_false]
  obtain ⟨a1, a2⟩ := nmb_dec (u := a) (by omega)
  have a3 := (decV_sz (u := a) (by omega)).1
  have e2 : nmbE (⟨([] : Bs).toArray⟩ : ByteArray) = 2 := rfl
  have e3 : (⟨([] : Bs).toArray⟩ : ByteArray).size = 0 := rfl
  rw [if_neg (by rw [beq_iff_eq]; omega), a1, a2, e2, if_neg (by rw [Bool.not_eq_true]; rfl)]
  rfl
theorem rgP_two {a b len : Nat} (h1 : a ≤ b) (h2 : b < len) (h3 : len ≤ 2000) : rgP (byN ++ rgv a b) len = (0, [((a : Int), (b : Int) + 1)]) := by
  obtain ⟨p1, p2⟩ := rest_app (rgv a b)
  have hz : 0 < (rgv a b).size := by unfold rgv; rw [ByteArray.size_append, ByteArray.size_append]; have := (decV_sz (u := a) (by omega)).1; omega
  have hi := items_plain _ (rgv_ok a b) hz
  rw [rgP_good p1 (by rw [p2, parts_plain _ (rgv_ok a b)]; rfl) (by rw [p2, hi]; simp), p2, hi]
  have hm : max 0 (len : Int) = (len : Nat) := by omega
  rw [hm]
  unfold elsR
  rw [elR_rg2 h1 h2 h3]
  simp only [elsR, Option.map_some]
  rw [if_pos (show (a : Int) < (b : Int) + 1 by omega)]
  rfl
theorem rgP_one {a len : Nat} (h : len ≤ a) (h3 : a ≤ 2000) : rgP (byN ++ rgz a) len = (1, []) := by
  obtain ⟨p1, p2⟩ := rest_app (rgz a)
  have hz : 0 < (rgz a).size := by unfold rgz; rw [ByteArray.size_append]; have := (decV_sz (u := a) (by omega)).1; omega
  have hi := items_plain _ (rgz_ok a) hz
  rw [rgP_good p1 (by rw [p2, parts_plain _ (rgz_ok a)]; rfl) (by rw [p2, hi]; simp), p2, hi]
  have hm : max 0 (len : Int) = (len : Nat) := by omega
  rw [hm]
  unfold elsR
  rw [elR_rg1 h3]
  have hlt : ¬ ((a : Int) < (len : Int)) := by omega
  simp only [elsR, Option.map_some]
  rw [if_neg hlt]
  rfl
def x_ir : ByteArray := ⟨#[105, 102, 45, 114, 97, 110, 103, 101]⟩
def x_q2 : ByteArray := ⟨#[34, 50, 34]⟩
def rqR (v q : ByteArray) : Rq := ⟨x_ge, x_sa, [(x_ho, x_ec), (x_rg, v), (x_ir, q)]⟩
def rq1 (v : ByteArray) : Rq := ⟨x_ge, x_sa, [(x_ho, x_ec), (x_rg, v)]⟩
def orgR (body : ByteArray) (lg : List Akd) : Org := ⟨[(0, pageV body [])], [], lg⟩
/-- The answer before its range is looked at. -/
def ansR (body : ByteArray) : Ans := { ans0 with status := 200, addr := x_ad, version := 1, fs := [(x_et, x_q1)], body := body, variant := 0 }
theorem r_ans {body : ByteArray} {lg : List Akd} {r : Rq} (hm : (!(r.method.toList == [71, 69, 84]) && !(r.method.toList == [72, 69, 65, 68])) = false) (hh : allS r.fs x_ho = [x_ec]) (ht : r.target = x_sa) (hev : evF r.method r.fs (stS [(x_et, x_q1)]) = 1) {a : Ans} (hp : partS (ansR body) r (stS [(x_et, x_q1)]) = a) :
    answS (orgR body lg) 5 r = (a.status, ansF a 5, ansB a r.method, orgR body (lg ++ [ansK a 5 r.method])) := by
  have hA := answ_eq (orgR body lg) 5 r
  rw [show cl55 5 = 5 from rfl, dec_at (o := orgR body lg) (n := 0) (p := (0, pageV body [])) rfl hm hh ht (by kernel_rfl) rfl] at hA
  rw [show verS { ans0 with addr := x_ad, version := ((0 + 1 : Nat) : Int) } (0, pageV body []).2 r = a from by
    rw [← hp]
    unfold verS
    simp only
    rw [if_neg (show ¬ ((pageV body []).status != 200) = true from (by decide : ¬ ((200 : Int) != 200) = true)), show (chS (pageV body []) r.fs).1 = [(x_et, x_q1)] from rfl, hev, if_neg (by decide), if_neg (by decide)]
    rfl] at hA
  exact hA
theorem pr_206 {a : Ans} {r : Rq} {s : St} {v text : ByteArray} {q : Int × Int} (h1 : allS r.fs x_rg = [v]) (h2 : (r.method.toList == [71, 69, 84]) = true) (h3 : urF r.method r.fs s = true) (h4 : rgP v a.body.size = (0, [q])) (h5 : crP q a.body.size = some text) :
    partS a r s = { a with status := 206, fs := setS x_cr text a.fs, body := a.body.extract q.1.toNat q.2.toNat, lo := q.1, hi := q.2, ranged := true } := by
  unfold partS
  rw [h1]
  simp only
  rw [h2, h3, if_neg (by decide), h4, if_neg (show ¬ ((0 : Nat) == 1) = true by decide)]
  simp only
  rw [h5]
theorem pr_416 {a : Ans} {r : Rq} {s : St} {v : ByteArray} {l : List (Int × Int)} (h1 : allS r.fs x_rg = [v]) (h2 : (r.method.toList == [71, 69, 84]) = true) (h3 : urF r.method r.fs s = true) (h4 : rgP v a.body.size = (1, l)) :
    partS a r s = { a with status := 416, fs := [(x_cr, ⟨#[98, 121, 116, 101, 115, 32, 42, 47]⟩ ++ decV a.body.size)], body := ⟨#[]⟩ } := by
  unfold partS
  rw [h1]
  simp only
  rw [h2, h3, if_neg (by decide), h4, if_pos (show ((1 : Nat) == 1) = true from rfl)]
theorem pr_no {a : Ans} {r : Rq} {s : St} {v : ByteArray} (h1 : allS r.fs x_rg = [v]) (h3 : urF r.method r.fs s = false) : partS a r s = a := by
  unfold partS
  rw [h1]
  simp only
  rw [h3, if_pos (by simp)]
def crT (a b len : Nat) : ByteArray := byS ++ rgv a b ++ ⟨#[47]⟩ ++ decV (len : Int)
theorem cr_two {a b len : Nat} (h1 : a ≤ b) (h2 : b < len) (h3 : len ≤ 2000) : crP ((a : Int), (b : Int) + 1) len = some (crT a b len) := by
  rw [crP_yes (by unfold rgProper; simp; omega) (by omega) (by omega)]
  unfold crT rgText rgv
  rw [show (b : Int) + 1 - 1 = (b : Int) by omega]
def ans6 (body : ByteArray) (a b : Nat) : Ans := { ansR body with status := 206, fs := [(x_et, x_q1), (x_cr, crT a b body.size)], body := body.extract a (b + 1), lo := (a : Int), hi := (b : Int) + 1, ranged := true }
/-- A range of the page, with its tag. -/
theorem r_206 {body : ByteArray} {lg : List Akd} {a b : Nat} (h1 : a ≤ b) (h2 : b < body.size) (h3 : body.size ≤ 2000) :
    ∃ F k, answS (orgR body lg) 5 (rqR (byN ++ rgv a b) x_q1) = (206, F, body.extract a (b + 1), orgR body (lg ++ [k])) ∧ getO F x_cr = some (crT a b body.size) := by
  have hp : partS (ansR body) (rqR (byN ++ rgv a b) x_q1) (stS [(x_et, x_q1)]) = ans6 body a b := by
    rw [pr_206 (a := ansR body) (r := rqR (byN ++ rgv a b) x_q1) (s := stS [(x_et, x_q1)]) (v := byN ++ rgv a b) (by kernel_rfl) (by kernel_rfl) (by kernel_rfl) (rgP_two h1 h2 h3) (cr_two h1 h2 h3)]
    show ({ ansR body with status := 206, fs := setS x_cr (crT a b body.size) [(x_et, x_q1)], body := body.extract ((a : Int)).toNat ((b : Int) + 1).toNat, lo := (a : Int), hi := (b : Int) + 1, ranged := true } : Ans) = _
    rw [show ((a : Int)).toNat = a by omega, show ((b : Int) + 1).toNat = b + 1 by omega, show setS x_cr (crT a b body.size) [(x_et, x_q1)] = [(x_et, x_q1), (x_cr, crT a b body.size)] by kernel_rfl]
    rfl
  exact ⟨ansF (ans6 body a b) 5, ansK (ans6 body a b) 5 x_ge, (r_ans (by kernel_rfl) (by kernel_rfl) rfl (by kernel_rfl) hp).trans (by kernel_rfl), getO_one (by kernel_rfl)⟩
/-- A range with another tag: the whole body. -/
theorem r_200 {body : ByteArray} {lg : List Akd} (v : ByteArray) : ∃ F k, answS (orgR body lg) 5 (rqR v x_q2) = (200, F, body, orgR body (lg ++ [k])) := by
  have hp := pr_no (a := ansR body) (r := rqR v x_q2) (s := stS [(x_et, x_q1)]) (v := v) (by kernel_rfl) (by kernel_rfl)
  exact ⟨ansF (ansR body) 5, ansK (ansR body) 5 x_ge, (r_ans (by kernel_rfl) (by kernel_rfl) rfl (by kernel_rfl) hp).trans (by kernel_rfl)⟩
def ans9 (body : ByteArray) : Ans := { ansR body with status := 416, fs := [(x_cr, ⟨#[98, 121, 116, 101, 115, 32, 42, 47]⟩ ++ decV body.size)], body := ⟨#[]⟩ }
/-- A range behind the end. -/
theorem r_416 {body : ByteArray} {lg : List Akd} (h3 : body.size ≤ 2000) : ∃ F k, answS (orgR body lg) 5 (rq1 (byN ++ rgz body.size)) = (416, F, ⟨#[]⟩, orgR body (lg ++ [k])) := by
  have hp : partS (ansR body) (rq1 (byN ++ rgz body.size)) (stS [(x_et, x_q1)]) = ans9 body := pr_416 (a := ansR body) (r := rq1 (byN ++ rgz body.size)) (s := stS [(x_et, x_q1)]) (v := byN ++ rgz body.size) (by kernel_rfl) (by kernel_rfl) (by kernel_rfl) (rgP_one (Nat.le_refl _) h3)
  exact ⟨ansF (ans9 body) 5, ansK (ans9 body) 5 x_ge, (r_ans (by kernel_rfl) (by kernel_rfl) rfl (by kernel_rfl) hp).trans (by kernel_rfl)⟩
/-- The law writes a range from left to right. -/
theorem rv_as (a b : Nat) : ((⟨#[98, 121, 116, 101, 115, 61]⟩ ++ decV (a : Int)) ++ ⟨#[45]⟩) ++ decV (b : Int) = byN ++ rgv a b := by
  apply bytes_ext
  unfold rgv byN
  simp
theorem rz_as (a : Nat) : (⟨#[98, 121, 116, 101, 115, 61]⟩ ++ decV (a : Int)) ++ ⟨#[45]⟩ = byN ++ rgz a := by
  apply bytes_ext
  unfold rgz byN
  simp
theorem rv_cut (a b : Nat) : (byN ++ rgv a b).extract 6 (byN ++ rgv a b).size = rgv a b := by
  apply bytes_ext
  rw [ByteArray.data_extract, Array.toList_extract, data_append]
  rw [ByteArray.size_append, show byN.size = 6 from rfl, List.extract_eq_take_drop, show (6 : Nat) = byN.data.toList.length from rfl, List.drop_left]
  exact List.take_of_length_le (by rw [Array.length_toList]; show (rgv a b).size ≤ _; omega)
end Go.Proofs.YtmckbcbdnckngaaGreatDoor

namespace Go.Proofs.YtmckbcbdnckngaaGreatDoor
open Go.RowKit

theorem bytC_ex (b : ByteArray) (a k : Nat) : (bytC b).take a ++ bytC (b.extract a (a + k)) = (bytC b).take (a + k) := by
  unfold bytC
  rw [ByteArray.data_extract, Array.toList_extract, List.extract_eq_take_drop, show a + k - a = k by omega, List.take_add, List.map_take, List.map_drop]
theorem info_U8 : (Tryz.prog.info? 5).map (fun i => (i.zero, i.size, i.bytes)) = some (some (.int .u8 0), 1, 1) := by kernel_rfl
/-- What the loop holds: the origin with the page, and the bytes so far in a row of the law's own. -/
structure RgI (K : Nat → Prop) (w wr : World) (p : Nat) (body : ByteArray) (a i : Nat) (ov : Value) : Prop where
  org : ∃ R Q M lg, OrgP wr p R Q (orgR body lg) M ∧ lg.length = i ∧ (∀ b, R b → w.heap.size ≤ b) ∧ (∀ b, ov.ownBlock = some b → ¬ R b ∧ Q b) ∧ ∀ b, K b → ¬ R b
  row : wr.ownsRow 0 5 1 ov a ((bytC body).take a)
  rlo : ∀ b, ov.ownBlock = some b → w.heap.size ≤ b
  ext : Ext w wr
theorem RgI.ext_ {w wr w' : World} {p : Nat} {body : ByteArray} {a i : Nat} {ov : Value} {K : Nat → Prop} (h : RgI K w wr p body a i ov) (hb : Ext wr w') : RgI K w w' p body a i ov := by
  obtain ⟨R, Q, M, lg, hO, h1, h2, h3⟩ := h.org
  exact ⟨⟨R, Q, M, lg, hO.ext hb, h1, h2, h3⟩, own_ext h.row hb, h.rlo, h.ext.trans hb⟩
theorem RgI.app {w wr w' : World} {p : Nat} {body : ByteArray} {a i k c : Nat} {ov : Value} {A : Option Addr} {K : Nat → Prop} (h : RgI K w wr p body a i ov) (hown : w'.ownsRow 0 5 1 (.slice A (a + k) c) (a + k) ((bytC body).take (a + k)))
    (hg : wr.grownBy w' ov.ownBlock) (hn : (Value.slice A (a + k) c).ownBlock = ov.ownBlock ∨ (Value.slice A (a + k) c).ownBlock = some wr.heap.size) : RgI K w w' p body (a + k) i (.slice A (a + k) c) := by
  obtain ⟨R, Q, M, lg, hO, h1, h2, h3, h4⟩ := h.org
  have hO2 := hO.more (Q' := fun b => Q b ∨ wr.heap.size ≤ b) (fun b hb => hb) (fun b hb => .inl (hO.rq b hb))
  have hK : Keeps (fun b => ov.ownBlock = some b) wr w' := Keeps.grown (Keeps.refl _ wr) hg (fun b hb => .inl hb)
  refine ⟨⟨R, _, M, lg, hO2.keeps hK (fun b hb => ⟨(h3 b hb).1, .inl (h3 b hb).2⟩), h1, h2, fun b hb => ?_, h4⟩, hown, fun b hb => ?_, h.ext.keeps hK (fun b hb => h.rlo b hb)⟩
  · rcases hn with e | e
    · rw [e] at hb; exact ⟨(h3 b hb).1, .inl (h3 b hb).2⟩
    · rw [e] at hb; injection hb with hb; subst hb
      exact ⟨fun hr => by have := hO.low _ hr; omega, .inr (Nat.le_refl _)⟩
  · rcases hn with e | e
    · rw [e] at hb; exact h.rlo b hb
    · rw [e] at hb; injection hb with hb; subst hb; exact h.ext.size
/-- A block just made is kept. -/
theorem RgI.mark {w wr : World} {p : Nat} {body : ByteArray} {a i : Nat} {ov : Value} {K : Nat → Prop} (h : RgI K w wr p body a i ov) (ob : Obj) : RgI (fun b => b = wr.heap.size) w (wr.alloc ob) p body a i ov := by
  obtain ⟨R, Q, M, lg, hO, h1, h2, h3, h4⟩ := h.org
  exact ⟨⟨R, Q, M, lg, hO.ext ((Ext.refl wr).alloc ob), h1, h2, h3, fun b hb hr => by have := hO.low _ hr; omega⟩, own_ext h.row ((Ext.refl wr).alloc ob), h.rlo, h.ext.trans ((Ext.refl wr).alloc ob)⟩
theorem RgI.ans {w wr : World} {p : Nat} {body : ByteArray} {a i : Nat} {ov : Value} {fs : List Fd} {s : Sl} {Qr : Nat → Prop} {K : Nat → Prop} (h : RgI K w wr p body a i ov) (hK : ∀ b, K b → b < wr.heap.size) (hr : RS Qr wr 2 s (fldCells fs)) (hz : sumF fs + 2 * fs.length ≤ 1048576) (hi : i ≤ 1000000) (hg : Gl wr ∧ GlH wr ∧ GlP wr) {S : Int} {B : ByteArray} {Pr : List Fd → Prop}
    (ha : ∀ lg, ∃ F k, answS (orgR body lg) 5 ⟨x_ge, x_sa, fs⟩ = (S, F, B, orgR body (lg ++ [k])) ∧ Pr F) :
    Calls Tryz.prog 15 #[.pointer (some ⟨p, 0, none⟩), .int .i64 5, .agg #[.string x_ge, .string x_sa, s.v]] wr fun e w' => ∃ s1 s2 : Sl, e = .returned (.tuple #[.agg #[.int .i64 S, s1.v], s2.v]) ∧ RgI K w w' p body a (i + 1) ov ∧ (∀ b t cs, K b → Blk wr b t cs → Blk w' b t cs) ∧
      RS (fun _ => False) w' 1 s2 (bytC B) ∧ ∃ F, RS (fun _ => False) w' 2 s1 (fldCells F) ∧ (F.length ≤ 131077 ∧ sumF F ≤ 400000) ∧ Pr F := by
  obtain ⟨R, Q, M, lg, hO, h1, h2, h3, h4⟩ := h.org
  obtain ⟨F, k, e1, e2⟩ := ha lg
  obtain ⟨hFz, hC⟩ := ans_s (t := 5) (me := x_ge) (ta := x_sa) hO hr hz (by decide) (by show 0 ≤ _; omega) (by show lg.length ≤ _; omega) hg e1
  refine hC.mono ?_
  rintro e w' ⟨s1, s2, rfl, R', ⟨M', hO'⟩, hs1, hs2, hk, hRa, hRb⟩
  refine ⟨s1, s2, rfl, ⟨⟨R', _, M', _, hO', by rw [List.length_append, h1]; rfl, fun b hb => (hRb b hb).elim (h2 b) (fun h9 => by have := h.ext.size; omega), fun b hb => ⟨fun hr' => (hRb b hr').elim (h3 b hb).1 (fun h9 => by have := (h.row.lt b hb).2; omega), .inl (h3 b hb).2⟩, fun b hb hr' => (hRb b hr').elim (h4 b hb) (fun h9 => by have := hK b hb; omega)⟩,
    own_keepS h.row hk (fun b hb => (h3 b hb).1), h.rlo, h.ext.keeps hk h2⟩, fun b t cs hb hB => hB.keep hk (h4 b hb), hs2.sub (fun _ hf => hf.elim), F, hs1.sub (fun _ hf => hf.elim), hFz, e2⟩
set_option maxHeartbeats 16000000 in
set_option maxRecDepth 100000 in
theorem ranges_walk (body cs : ByteArray) (A : Option Addr) (n c : Nat) (sc : Sl) (w : World) (hr : Rd w 1 A n (bytC body)) (hcs : RS (fun _ => False) w 1 sc (bytC cs)) (hg : Gl w) (hh : GlH w) (hp : GlP w) :
    Calls Tryz.prog 4 #[.slice A n c, sc.v] w fun e w' => e = .returned (.bool true) ∧ Ext w w' := by
  have hn : body.size = n := by have := hr.1; rw [bytC_len] at this; omega
  have HEg := Lib.hid (fun w' (hx : Ext w w') => (⟨hg.ext hx, hh.ext hx, hp.ext hx⟩ : Gl w' ∧ GlH w' ∧ GlP w'))
  clear hg hh hp
  obtain ⟨kA, kn, kc⟩ := sc
  have hkn : cs.size = kn := by have := hcs.len1; rw [bytC_len] at this; exact this
  simp only [Sl.v]
  by_cases hbig : 2000 < n
  · have f1 : (2000 : Int) < n := by omega
    go_enter Tryz.func4, Tryz.ntmps4
    go_wp2_with fail
    refine (law_awake _ (HEg.out _ (Ext.refl _)).1 (HEg.out _ (Ext.refl _)).2.1 (HEg.out _ (Ext.refl _)).2.2).mono ?_; rintro e w1 ⟨rfl, hb1⟩
    go_wp2_with fail
    go_ret
    exact ⟨rfl, hb1⟩
  have f1 : ¬ ((2000 : Int) < n) := by omega
  by_cases hbig2 : 30 < kn
  · have f2 : (30 : Int) < kn := by omega
    go_enter Tryz.func4, Tryz.ntmps4
    go_wp2_with fail
    refine (law_awake _ (HEg.out _ (Ext.refl _)).1 (HEg.out _ (Ext.refl _)).2.1 (HEg.out _ (Ext.refl _)).2.2).mono ?_; rintro e w1 ⟨rfl, hb1⟩
    go_wp2_with fail
    go_ret
    exact ⟨rfl, hb1⟩
  have f2 : ¬ ((30 : Int) < kn) := by omega
  have HPb := Lib.hid (show pubS org0 0 (pageV body []) = (((0 + 1 : Nat) : Int), 0, orgR body []) from pub_ok (o := org0) (t := 0) (by unfold bigVr pageV; simp; omega) (by decide) (by kernel_rfl) (fun p hp => by cases hp))
  have HSz := Lib.hid (show SzV (pageV body []) from ⟨by show x_ad.size ≤ _; decide, by show 1 ≤ _; omega, by show sumF [(x_et, x_q1)] ≤ _; decide, by show body.size ≤ _; omega, by show 0 ≤ _; omega, fun x hx => by cases hx⟩)
  go_enter Tryz.func4, Tryz.ntmps4
  go_wp2_with fail
  refine (law_awake _ (HEg.out _ (Ext.refl _)).1 (HEg.out _ (Ext.refl _)).2.1 (HEg.out _ (Ext.refl _)).2.2).mono ?_; rintro e w1 ⟨rfl, hb1⟩
  go_wp2_with fail
  refine (or_New _).mono ?_; rintro e w2 ⟨rfl, hO2, hb2⟩
  have HE2 := Lib.hid (hb1.trans hb2)
  have hcv := conv_BE (c := c) (hr.ext HE2.out)
  go_wp2_with fail
  refine (law_page body none 0 0 [] w2 (Rd.none_ _ _ _) (by decide) (by omega)).mono ?_; rintro e w3 ⟨m, rfl, hver, hAt, hb3⟩
  have HE3 := Lib.hid (HE2.out.trans hb3)
  have HPub := Lib.hid (pub_v (hO2.ext hb3) hAt hver HSz.out HPb.out (HEg.out _ HE3.out).1)
  have HW := Lib.hid hb1.size
  clear hO2 hAt hver hb2 hb3 hb1 hcv HSz HPb
  obtain ⟨vaddr, vstatus, f, vbody, vars, ⟨vfA, vfn, vfc⟩, ⟨vbA, vbn, vbc⟩, ⟨vA, vn, vc⟩⟩ := m
  simp only [MV.cells, Sl.v] at HPub ⊢
  generalize w1.heap.size = p at *
  go_wp2_with fail
  refine HPub.out.mono ?_; rintro e w4 ⟨rfl, R4, ⟨M4, hO4⟩, hk4, hR4a, hR4b⟩
  have HI4 := Lib.hid (show RgI (fun _ => False) w w4 p body 0 0 (.slice none 0 0) from ⟨⟨R4, _, M4, [], hO4, rfl, fun i hi => (hR4b i hi).elim (fun h => show w.heap.size ≤ i from by rw [show i = p from h]; exact HW.out) (fun h => by have := HE3.out.size; omega), fun b hb => (by cases hb), fun _ hf => hf.elim⟩, World.ownsRow_nil _ _ _ _, fun b hb => (by cases hb), HE3.out.keeps hk4 (fun i hi => by rw [show i = p from hi]; exact HW.out)⟩)
  clear hk4 hR4a hR4b hO4 HPub HE3 HE2
  rw [show errV 0 = .nilIface from rfl]
  go_wp2_with fail
  go_loopg [8, 9, 10] n (fun g ov av iv wr => ∃ (a i : Nat), a ≤ n ∧ i ≤ a ∧ g = n - a ∧ av = .int .i64 (a : Nat) ∧ iv = .int .i64 (i : Nat) ∧ RgI (fun _ => False) w wr p body a i ov)
  case atStart => exact ⟨0, 0, Nat.zero_le _, Nat.le_refl _, rfl, rfl, rfl, HI4.out⟩
  case round =>
    obtain ⟨a, i, ha, hia, rfl, rfl, rfl, hI⟩ := hrel
    by_cases hlt : a < n
    · have f3 : (a : Int) < n := by omega
      have HI := Lib.hid hI
      clear hI
      go_upto_if 56 with fail
      go_cut [11] from 43 to 117 (fun v wx => ∃ k : Nat, v = .int .i64 (k : Nat) ∧ 1 ≤ k ∧ a + k ≤ n ∧ wr = wx)
      case first =>
        by_cases hik : i < kn
        · have f4 : (i : Int) < kn := by omega
          obtain ⟨gb, go, hgA, hgc⟩ := hcs.rd.2 (by rw [bytC_len]; omega)
          simp only at hgA
          subst hgA
          have hlg : i < cs.data.toList.length := by rw [Array.length_toList]; show i < cs.size; omega
          have hcg := HI.out.ext.cell (hgc i (.int .u8 (cs.data.toList[i]).toNat) (by unfold bytC; rw [List.getElem?_map, List.getElem?_eq_getElem hlg]; rfl))
          have hz : (cs.data.toList[i]).toNat ≤ 255 := by have := (cs.data.toList[i]).toNat_lt; omega
          generalize (cs.data.toList[i]).toNat = z at *
          have q3 : IntKind.i64.wrap (z : Int) = (z : Int) := IntWalk.i64_in _ (by omega)
          have q4 : IntKind.i64.wrap ((z : Int) + 1) = (z : Int) + 1 := IntWalk.i64_in _ (by omega)
          go_wp2_with fail
          go_meet
          exact ⟨min (n - a) (z + 1), by congr 1; omega, by omega, by omega, rfl⟩
        · have f4 : ¬ ((i : Int) < kn) := by omega
          go_wp2_with fail
          go_meet
          exact ⟨n - a, by congr 1; omega, by omega, by omega, rfl⟩
      case rest =>
        obtain ⟨k, rfl, hk1, hk2, rfl⟩ := hcut
        obtain ⟨b, hb⟩ : ∃ b, a + k = b + 1 := ⟨a + k - 1, by omega⟩
        have HDa := Lib.hid (fun w' => base_DigitsN (a : Int) w' (by omega) (by omega))
        have HDb := Lib.hid (fun w' => base_DigitsN ((a : Int) + (k : Int) - 1) w' (by omega) (by omega))
        have hbk : (a : Int) + (k : Int) - 1 = (b : Int) := by omega
        have Hbk := Lib.hid hbk
        have hza := (decV_sz (u := a) (by omega)).2
        have hzb := (decV_sz (u := b) (by omega)).2
        have hz1 : ((⟨#[98, 121, 116, 101, 115, 61]⟩ : ByteArray) ++ decV (a : Int)).size ≤ 10 := by rw [ByteArray.size_append]; show 6 + _ ≤ _; omega
        have hz2 : (((⟨#[98, 121, 116, 101, 115, 61]⟩ : ByteArray) ++ decV (a : Int)) ++ ⟨#[45]⟩).size ≤ 11 := by rw [ByteArray.size_append]; show _ + 1 ≤ _; omega
        clear hbk
        go_wp2_with fail
        refine (HDa.out _).mono ?_; rintro e w5 ⟨rfl, hb5⟩
        have HI5 := Lib.hid (HI.out.ext_ hb5)
        clear hb5
        go_wp2_with fail
        refine (HDb.out _).mono ?_; rintro e w6 ⟨rfl, hb6⟩
        have HI6 := Lib.hid (HI5.out.ext_ hb6)
        clear hb6 HI5 HI
        rw [Hbk.out]
        have HV := Lib.hid (rv_as a b)
        go_upto_region 16 with fail
        rw [HV.out]
        have Hcut := Lib.hid (rv_cut a b)
        have hGz : (rgv a b).size ≤ 9 := by unfold rgv; rw [ByteArray.size_append, ByteArray.size_append]; show _ + 1 + _ ≤ _; omega
        have hVz : (byN ++ rgv a b).size = 6 + (rgv a b).size := by rw [ByteArray.size_append]; rfl
        have H206 := Lib.hid (fun lg => r_206 (body := body) (lg := lg) (a := a) (b := b) (by omega) (by omega) (by omega))
        have HT := Lib.hid (show crT a b body.size = ⟨#[98, 121, 116, 101, 115, 32]⟩ ++ rgv a b ++ ⟨#[47]⟩ ++ decV (n : Int) from by rw [hn]; rfl)
        clear hza hzb hz1 hz2 HDa HDb HV
        generalize byN ++ rgv a b = V at *
        generalize rgv a b = G at *
        have hdn := (decV_sz (u := n) (by omega)).2
        have hsl : ∀ w, (Instr.slice 9 (.string V) (some (.int .i64 6)) none none).run Tryz.prog w = .ok (.string G) w := fun w => by
          rw [run_slice_string_from_if w 9 V .i64 6 Tryz.underlying9, if_pos ⟨by decide, by omega⟩, show (6 : Int).toNat = 6 from rfl, Hcut.out]
        have hs1 : ∀ w, (Op.stringOp .add ⟨#[98, 121, 116, 101, 115, 32]⟩ G).run Tryz.prog w = .ok (.string (⟨#[98, 121, 116, 101, 115, 32]⟩ ++ G)) w := fun w => run_string_add_sum w _ _ (by show 6 + G.size ≤ _; omega)
        have hs2 : ∀ w, (Op.stringOp .add (⟨#[98, 121, 116, 101, 115, 32]⟩ ++ G) ⟨#[47]⟩).run Tryz.prog w = .ok (.string (⟨#[98, 121, 116, 101, 115, 32]⟩ ++ G ++ ⟨#[47]⟩)) w := fun w => run_string_add_sum w _ _ (by rw [ByteArray.size_append]; show 6 + G.size + 1 ≤ _; omega)
        have hs3 : ∀ w, (Op.stringOp .add (⟨#[98, 121, 116, 101, 115, 32]⟩ ++ G ++ ⟨#[47]⟩) (decV (n : Int))).run Tryz.prog w = .ok (.string (⟨#[98, 121, 116, 101, 115, 32]⟩ ++ G ++ ⟨#[47]⟩ ++ decV (n : Int))) w := fun w => run_string_add_sum w _ _ (by rw [ByteArray.size_append, ByteArray.size_append]; show 6 + G.size + 1 + _ ≤ _; omega)
        have Hs := Lib.hid (⟨hsl, hs1, hs2, hs3⟩ : _ ∧ _ ∧ _ ∧ _)
        have HVz := Lib.hid (show V.size ≤ 15 by omega)
        have HB7 := Lib.hid (Rd.lit w6 #[.string ⟨#[114, 97, 110, 103, 101]⟩, .string V, .string ⟨#[105, 102, 45, 114, 97, 110, 103, 101]⟩, .string ⟨#[34, 49, 34]⟩] 51 rfl 2 2 rfl)
        have HI7 := Lib.hid (HI6.out.ext_ ((Ext.refl w6).alloc (.cells #[.string ⟨#[114, 97, 110, 103, 101]⟩, .string V, .string ⟨#[105, 102, 45, 114, 97, 110, 103, 101]⟩, .string ⟨#[34, 49, 34]⟩] 51)))
        clear hsl hs1 hs2 hs3 hGz hVz hdn HI6 Hcut
        go_wp2_with fail
        generalize w6.alloc (.cells #[.string ⟨#[114, 97, 110, 103, 101]⟩, .string V, .string ⟨#[105, 102, 45, 114, 97, 110, 103, 101]⟩, .string ⟨#[34, 49, 34]⟩] 51) = w7 at *
        refine (law_get x_ge _ 2 2 [(x_rg, V), (x_ir, x_q1)] w7 HB7.out (by decide)).mono ?_; rintro e w8 ⟨⟨gA, gn, gc⟩, rfl, hg8, hb8⟩
        have HI8 := Lib.hid (HI7.out.ext_ hb8)
        have HAn := Lib.hid (HI8.out.ans (fun _ hf => hf.elim) hg8 (by have := HVz.out; rw [sumF_cons, sumF_cons, sumF_cons, sumF_nil, show x_ho.size = 4 from rfl, show x_ec.size = 11 from rfl, show x_rg.size = 5 from rfl, show x_ir.size = 8 from rfl, show x_q1.size = 3 from rfl]; simp only [List.length_cons, List.length_nil]; omega) (by omega) (HEg.out _ HI8.out.ext) (S := 206) (B := body.extract a (b + 1)) (Pr := fun F => getO F x_cr = some (crT a b body.size)) H206.out)
        clear hb8 hg8 HI7 HB7 H206
        simp only [Sl.v] at HAn ⊢
        go_wp2_with fail
        refine HAn.out.mono ?_; rintro e w9 ⟨⟨sA, sn, sc⟩, ⟨tA, tn, tc⟩, rfl, hI9, -, ht9, F9, hs9, hFz, hF9⟩
        simp only [Sl.v]
        have hX := (Ext.refl w9).alloc (.cells #[.int .i64 206, .slice sA sn sc] 38)
        have HBr := Lib.hid (Blk.new w9 38 #[.int .i64 206, .slice sA sn sc])
        have h1 : (w9.alloc (.cells #[.int .i64 206, .slice sA sn sc] 38)).cell? ⟨w9.heap.size, 1, none⟩ = some (.slice sA sn sc) := HBr.out.cell 1
        have HI9 := Lib.hid (hI9.ext_ hX); have HTb := Lib.hid (ht9.ext hX)
        have HGt := Lib.hid (get_F x_cr (by decide) (hs9.ext hX) hFz)
        rw [hF9, HT.out, show getV (some (⟨#[98, 121, 116, 101, 115, 32]⟩ ++ G ++ ⟨#[47]⟩ ++ decV (n : Int))) = .tuple #[.string (⟨#[98, 121, 116, 101, 115, 32]⟩ ++ G ++ ⟨#[47]⟩ ++ decV (n : Int)), .bool true] from rfl] at HGt
        clear hI9 ht9 hs9 hFz hF9 hX HAn HT
        go_wp2_with fail
        refine HGt.out.mono ?_; rintro e w10 ⟨rfl, hb10⟩
        have HI10 := Lib.hid (HI9.out.ext_ hb10); have HTc := Lib.hid (HTb.out.ext hb10)
        have HS := Lib.hid (fun w' (hx : Ext w10 w') => ((HBr.out.ext hb10).ext hx).cell 0)
        simp only [List.getElem?_toArray, List.getElem?_cons_zero] at HS
        clear h1 hb10 HGt HI9 HTb
        have Hkn := Lib.hid (show (k : Nat) = tn from by have := HTc.out.len1; rw [bytC_len, ByteArray.size_extract] at this; simp only at this; omega)
        obtain rfl := Hkn.out
        have HDn := Lib.hid (fun w' => base_DigitsN (n : Int) w' (by omega) (by omega))
        go_upto_region 18 with fail
        go_cut [111] from 43 to 117 (fun v wx => v = .bool false ∧ Ext w10 wx)
        case first =>
          obtain ⟨hsl, hs1, hs2, hs3⟩ := Hs.out
          have hE := (Ext.refl w10).drew
          refine wp_region_held_drew (S := (fun w' => w'.cell? ⟨w9.heap.size, 0, none⟩ = some (.int .i64 206))) (by kernel_rfl) ?_ (fun hHeld => ?_)
          · (try dsimp only); exact HS.out _ hE
          refine wpAnyH_take (i := 0) (oi := { dst := some 91, op := _, type := _, pos := _, after := _, guard := _ }) (v := ?_) rfl (by kernel_rfl) (by kernel_rfl) (by kernel_rfl) (fun _ _ _ h => h) (Or.inl ⟨by rfl, ?_⟩) (by assumption) ?_
          rotate_left
          · (intro w hSw; (try dsimp only at hSw); go_simp; (try with_reducible rfl))
          (try simp only [Act.put, List.setIfInBounds_toArray, List.set_cons_zero, List.set_cons_succ])
          refine wpAnyH_take (i := 1) (oi := { dst := some 92, op := _, type := _, pos := _, after := _, guard := _ }) (v := ?_) rfl (by kernel_rfl) (by kernel_rfl) (by kernel_rfl) (fun _ _ _ h => h) (Or.inl ⟨by rfl, ?_⟩) (by assumption) ?_
          rotate_left
          · (intro w hSw; (try dsimp only at hSw); go_simp; (try with_reducible rfl))
          (try simp only [Act.put, List.setIfInBounds_toArray, List.set_cons_zero, List.set_cons_succ])
          refine wpAnyH_take (i := 2) (oi := { dst := some 93, op := _, type := _, pos := _, after := _, guard := _ }) (v := ?_) rfl (by kernel_rfl) (by kernel_rfl) (by kernel_rfl) (fun _ _ _ h => h) (Or.inl ⟨by rfl, ?_⟩) (by assumption) ?_
          rotate_left
          · (intro w hSw; (try dsimp only at hSw); go_simp; (try with_reducible rfl))
          (try simp only [Act.put, List.setIfInBounds_toArray, List.set_cons_zero, List.set_cons_succ])
          refine wpAnyH_take (i := 3) (oi := { dst := some 94, op := _, type := _, pos := _, after := _, guard := _ }) (v := ?_) rfl (by kernel_rfl) (by kernel_rfl) (by kernel_rfl) (fun _ _ _ h => h) (Or.inl ⟨by rfl, ?_⟩) (by assumption) ?_
          rotate_left
          · (intro w hSw; (try dsimp only at hSw); go_simp; (try with_reducible rfl))
          (try simp only [Act.put, List.setIfInBounds_toArray, List.set_cons_zero, List.set_cons_succ])
          refine wpAnyH_take (i := 4) (oi := { dst := some 95, op := _, type := _, pos := _, after := _, guard := _ }) (v := ?_) rfl (by kernel_rfl) (by kernel_rfl) (by kernel_rfl) (fun _ _ _ h => h) (Or.inl ⟨by rfl, ?_⟩) (by assumption) ?_
          rotate_left
          · (intro w hSw; (try dsimp only at hSw); go_simp; (try with_reducible rfl))
          (try simp only [Act.put, List.setIfInBounds_toArray, List.set_cons_zero, List.set_cons_succ])
          refine wpAnyH_take (i := 5) (oi := { dst := some 96, op := _, type := _, pos := _, after := _, guard := _ }) (v := ?_) rfl (by kernel_rfl) (by kernel_rfl) (by kernel_rfl) (fun _ _ _ h => h) (Or.inl ⟨by rfl, ?_⟩) (by assumption) ?_
          rotate_left
          · (intro w hSw; (try dsimp only at hSw); go_simp; (try with_reducible rfl))
          (try simp only [Act.put, List.setIfInBounds_toArray, List.set_cons_zero, List.set_cons_succ])
          refine wpAnyH_take (i := 6) (oi := { dst := some 97, op := _, type := _, pos := _, after := _, guard := _ }) (v := ?_) rfl (by kernel_rfl) (by kernel_rfl) (by kernel_rfl) (fun _ _ _ h => h) (Or.inl ⟨by rfl, ?_⟩) (by assumption) ?_
          rotate_left
          · (intro w hSw; (try dsimp only at hSw); go_simp; (try with_reducible rfl))
          (try simp only [Act.put, List.setIfInBounds_toArray, List.set_cons_zero, List.set_cons_succ])
          refine wpAnyH_take (i := 7) (oi := { dst := some 98, op := _, type := _, pos := _, after := _, guard := _ }) (v := ?_) rfl (by kernel_rfl) (by kernel_rfl) (by kernel_rfl) (fun _ _ _ h => h) (Or.inl ⟨by rfl, ?_⟩) (by assumption) ?_
          rotate_left
          · (intro w hSw; (try dsimp only at hSw); go_simp; (try with_reducible rfl))
          (try simp only [Act.put, List.setIfInBounds_toArray, List.set_cons_zero, List.set_cons_succ])
          refine wpAnyH_take (i := 8) (oi := { dst := some 99, op := _, type := _, pos := _, after := _, guard := _ }) (v := ?_) rfl (by kernel_rfl) (by kernel_rfl) (by kernel_rfl) (fun _ _ _ h => h) (Or.inl ⟨by rfl, ?_⟩) (by assumption) ?_
          rotate_left
          · (intro w hSw; (try dsimp only at hSw); go_simp; (try with_reducible rfl))
          (try simp only [Act.put, List.setIfInBounds_toArray, List.set_cons_zero, List.set_cons_succ])
          refine wpAnyH_take (i := 9) (oi := { dst := some 100, op := _, type := _, pos := _, after := _, guard := _ }) (v := ?_) rfl (by kernel_rfl) (by kernel_rfl) (by kernel_rfl) (fun _ _ _ h => h) (Or.inl ⟨by rfl, ?_⟩) (by assumption) ?_
          rotate_left
          · (intro w hSw; (try dsimp only at hSw); go_simp; (try with_reducible rfl))
          (try simp only [Act.put, List.setIfInBounds_toArray, List.set_cons_zero, List.set_cons_succ])
          refine wpAnyH_take (i := 10) (oi := { dst := some 101, op := _, type := _, pos := _, after := _, guard := _ }) (v := ?_) rfl (by kernel_rfl) (by kernel_rfl) (by kernel_rfl) (fun _ _ _ h => h) (Or.inl ⟨by rfl, ?_⟩) (by assumption) ?_
          rotate_left
          · (intro w hSw; (try dsimp only at hSw); go_simp; (try with_reducible rfl))
          (try simp only [Act.put, List.setIfInBounds_toArray, List.set_cons_zero, List.set_cons_succ])
          refine wpAnyH_take (i := 11) (oi := { dst := some 102, op := _, type := _, pos := _, after := _, guard := _ }) (v := ?_) rfl (by kernel_rfl) (by kernel_rfl) (by kernel_rfl) (fun _ _ _ h => h) (Or.inl ⟨by rfl, ?_⟩) (by assumption) ?_
          rotate_left
          · (intro w hSw; (try dsimp only at hSw); go_simp; (try with_reducible rfl))
          (try simp only [Act.put, List.setIfInBounds_toArray, List.set_cons_zero, List.set_cons_succ])
          refine wpAnyH_take (i := 12) (oi := { dst := some 103, op := _, type := _, pos := _, after := _, guard := _ }) (v := ?_) rfl (by kernel_rfl) (by kernel_rfl) (by kernel_rfl) (fun _ _ _ h => h) (Or.inl ⟨by rfl, ?_⟩) (by assumption) ?_
          rotate_left
          · (intro w hSw; (try dsimp only at hSw); go_simp; (try with_reducible rfl))
          (try simp only [Act.put, List.setIfInBounds_toArray, List.set_cons_zero, List.set_cons_succ])
          refine wpAnyH_take (i := 13) (oi := { dst := some 104, op := _, type := _, pos := _, after := _, guard := _ }) (v := ?_) rfl (by kernel_rfl) (by kernel_rfl) (by kernel_rfl) (fun _ _ _ h => h) (Or.inl ⟨by rfl, ?_⟩) (by assumption) ?_
          rotate_left
          · (intro w hSw; (try dsimp only at hSw); go_simp; (try with_reducible rfl))
          (try simp only [Act.put, List.setIfInBounds_toArray, List.set_cons_zero, List.set_cons_succ])
          refine wpAnyH_take (i := 14) (oi := { dst := some 105, op := _, type := _, pos := _, after := _, guard := _ }) (v := ?_) rfl (by kernel_rfl) (by kernel_rfl) (by kernel_rfl) (fun _ _ _ h => h) (Or.inl ⟨by rfl, ?_⟩) (by assumption) ?_
          rotate_left
          · (intro w hSw; (try dsimp only at hSw); go_simp; (try with_reducible rfl))
          (try simp only [Act.put, List.setIfInBounds_toArray, List.set_cons_zero, List.set_cons_succ])
          refine wpAnyH_take (i := 15) (oi := { dst := some 106, op := _, type := _, pos := _, after := _, guard := _ }) (v := ?_) rfl (by kernel_rfl) (by kernel_rfl) (by kernel_rfl) (fun _ _ _ h => h) (Or.inl ⟨by rfl, ?_⟩) (by assumption) ?_
          rotate_left
          · (intro w hSw; (try dsimp only at hSw); go_simp; (try with_reducible rfl))
          (try simp only [Act.put, List.setIfInBounds_toArray, List.set_cons_zero, List.set_cons_succ])
          refine wpAnyH_take (i := 16) (oi := { dst := some 107, op := _, type := _, pos := _, after := _, guard := _ }) (v := ?_) rfl (by kernel_rfl) (by kernel_rfl) (by kernel_rfl) (fun _ _ _ h => h) (Or.inl ⟨by rfl, ?_⟩) (by assumption) ?_
          rotate_left
          · (intro w hSw; (try dsimp only at hSw); go_simp; (try with_reducible rfl))
          (try simp only [Act.put, List.setIfInBounds_toArray, List.set_cons_zero, List.set_cons_succ])
          refine wpAnyH_ready (rs := [17]) (by kernel_rfl) (by simp) ?_
          refine AllReadyH.cons (o := { dst := some 108, op := _, type := _, pos := _, after := _, guard := _ }) rfl (fun K hK => ?_) AllReadyH.nil
          go_simp
          refine (HDn.out _).mono ?_; rintro e wD ⟨rfl, hbD⟩; replace hE := hE.trans hbD
          try go_wp2_with fail
          refine hK.out _ _ ?_ (fun hHeld => ?_)
          · (try dsimp only); exact HS.out _ hE
          clear hK K
          (try simp only [Act.put, List.setIfInBounds_toArray, List.set_cons_zero, List.set_cons_succ])
          refine wpAnyH_take (i := 18) (oi := { dst := some 109, op := _, type := _, pos := _, after := _, guard := _ }) (v := ?_) rfl (by kernel_rfl) (by kernel_rfl) (by kernel_rfl) (fun _ _ _ h => h) (Or.inl ⟨by rfl, ?_⟩) (by assumption) ?_
          rotate_left
          · (intro w hSw; (try dsimp only at hSw); go_simp; (try with_reducible rfl))
          (try simp only [Act.put, List.setIfInBounds_toArray, List.set_cons_zero, List.set_cons_succ])
          refine wpAnyH_take (i := 19) (oi := { dst := some 110, op := _, type := _, pos := _, after := _, guard := _ }) (v := ?_) rfl (by kernel_rfl) (by kernel_rfl) (by kernel_rfl) (fun _ _ _ h => h) (Or.inl ⟨by rfl, ?_⟩) (by assumption) ?_
          rotate_left
          · (intro w hSw; (try dsimp only at hSw); go_simp; (try with_reducible rfl))
          (try simp only [Act.put, List.setIfInBounds_toArray, List.set_cons_zero, List.set_cons_succ])
          refine wpAnyH_take (i := 20) (oi := { dst := some 111, op := _, type := _, pos := _, after := _, guard := _ }) (v := ?_) rfl (by kernel_rfl) (by kernel_rfl) (by kernel_rfl) (fun _ _ _ h => h) (Or.inl ⟨by rfl, ?_⟩) (by assumption) ?_
          rotate_left
          · (intro w hSw; (try dsimp only at hSw); go_simp; (try with_reducible rfl))
          (try simp only [Act.put, List.setIfInBounds_toArray, List.set_cons_zero, List.set_cons_succ])
          refine wpAnyH_done (by kernel_rfl) ?_ _
          go_wp2_with fail
          go_meet
          exact ⟨rfl, hE⟩
        case rest =>
        obtain ⟨rfl, hXc⟩ := hcut
        have HI11 := Lib.hid (HI10.out.ext_ hXc); have HTd := Lib.hid (HTc.out.ext hXc)
        clear hXc HI10 HTc HS HBr
        have hex : (body.extract a (b + 1)).size = k := by rw [ByteArray.size_extract]; omega
        obtain ⟨tb, tof, htA, hcells⟩ := HTd.out.rd.2 (by rw [bytC_len]; omega)
        simp only at htA
        subst htA
        have HTl := Lib.hid (show (bytC (body.extract a (b + 1))).length = k * 1 by rw [bytC_len, hex]; omega)
        have HTk := Lib.hid (bytC_ex body a k)
        rw [show a + k = b + 1 by omega] at HTk
        have HCl := Lib.hid hcells
        clear hcells HTd hex Hs HDn HVz Hkn
        go_wp2_with (at_builtin; refine wpList_appO wc rfl (.tmp 112) (.tmp 113) 23 rfl 5 _ 1 1 Tryz.underlying23 info_U8 (by simp [Value.cells]) (by decide) _ a ((bytC body).take a) rfl HI11.out.row ⟨tb, tof, none⟩ k tc (bytC (body.extract a (b + 1))) rfl HTl.out (fun j u hu => by rw [add_plain]; exact HCl.out j u hu) (bytC_one _) (by omega) (by decide) ?_; intro A12 c12 w12 hown12 hle12 hg12 hn12)
        rw [HTk.out] at hown12
        have hab : a + k = b + 1 := by omega
        rw [hab] at hown12 hn12
        have HI12 := Lib.hid (show RgI (fun _ => False) w w12 p body (a + k) (i + 1) (.slice A12 (a + k) c12) from by
          have h9 := HI11.out
          exact h9.app (by rw [hab]; exact hown12) hg12 (by rw [hab]; exact hn12))
        clear hown12 hg12 hn12 HI11 HCl HTk hab
        go_wp2_with fail
        go_roundg (n - (a + k))
        case measure => omega
        case rel => exact ⟨a + k, i + 1, by omega, by omega, rfl, by congr 1, by congr 1, by have h9 := HI12.out; rw [show a + k = b + 1 by omega] at h9 ⊢; exact h9⟩
    · have han : a = n := by omega
      subst han
      have hfull : (bytC body).take a = bytC body := List.take_of_length_le (by rw [bytC_len]; omega)
      have HFl := Lib.hid hfull
      obtain ⟨oA, oc, rfl, -⟩ := own_shape hI.row
      have HI := Lib.hid hI
      clear hI hfull
      have HBa := Lib.hid (Rd.lit wr #[.string ⟨#[114, 97, 110, 103, 101]⟩, .string ⟨#[98, 121, 116, 101, 115, 61, 48, 45, 48]⟩, .string ⟨#[105, 102, 45, 114, 97, 110, 103, 101]⟩, .string ⟨#[34, 50, 34]⟩] 51 rfl 2 2 rfl)
      have HIa := Lib.hid (HI.out.ext_ ((Ext.refl wr).alloc (.cells #[.string ⟨#[114, 97, 110, 103, 101]⟩, .string ⟨#[98, 121, 116, 101, 115, 61, 48, 45, 48]⟩, .string ⟨#[105, 102, 45, 114, 97, 110, 103, 101]⟩, .string ⟨#[34, 50, 34]⟩] 51)))
      clear HI
      go_wp2_with fail
      generalize wr.alloc (.cells #[.string ⟨#[114, 97, 110, 103, 101]⟩, .string ⟨#[98, 121, 116, 101, 115, 61, 48, 45, 48]⟩, .string ⟨#[105, 102, 45, 114, 97, 110, 103, 101]⟩, .string ⟨#[34, 50, 34]⟩] 51) = w5 at *
      refine (law_get x_ge _ 2 2 [(x_rg, ⟨#[98, 121, 116, 101, 115, 61, 48, 45, 48]⟩), (x_ir, x_q2)] w5 HBa.out (by decide)).mono ?_; rintro e w6 ⟨⟨gA, gn, gc⟩, rfl, hg6, hb6⟩
      have HI6 := Lib.hid (HIa.out.ext_ hb6)
      have HAn := Lib.hid (HI6.out.ans (fun _ hf => hf.elim) hg6 (by decide) (by omega) (HEg.out _ HI6.out.ext) (S := 200) (B := body) (Pr := fun _ => True) (fun lg => by obtain ⟨F, k, h⟩ := r_200 (body := body) (lg := lg) ⟨#[98, 121, 116, 101, 115, 61, 48, 45, 48]⟩; exact ⟨F, k, h, trivial⟩))
      clear hb6 hg6 HIa HBa
      simp only [Sl.v] at HAn ⊢
      go_wp2_with fail
      refine HAn.out.mono ?_; rintro e w7 ⟨⟨sA, sn, sc⟩, ⟨tA, tn, tc⟩, rfl, hI7, -, ht7, -⟩
      simp only [Sl.v]
      have hX := (Ext.refl w7).alloc (.cells #[.int .i64 200, .slice sA sn sc] 38)
      have h0 : (w7.alloc (.cells #[.int .i64 200, .slice sA sn sc] 38)).cell? ⟨w7.heap.size, 0, none⟩ = some (.int .i64 200) := (Blk.new w7 38 #[.int .i64 200, .slice sA sn sc]).cell 0
      have HI8 := Lib.hid (hI7.mark (.cells #[.int .i64 200, .slice sA sn sc] 38)); have HT8 := Lib.hid (ht7.ext hX)
      have HBb := Lib.hid (Blk.new w7 38 #[.int .i64 200, .slice sA sn sc])
      have HBy := Lib.hid (base_Bytes tA tn tc A a c body body _ HT8.out.rd (hr.ext HI8.out.ext))
      rw [decide_eq_true rfl] at HBy
      have HLw := Lib.hid hI7.ext.size
      clear hI7 ht7 hX HAn
      go_wp2_with fail
      refine HBy.out.mono ?_; rintro e w8 ⟨rfl, rfl⟩
      clear HBy h0
      have HDn := Lib.hid (fun w' => base_DigitsN (a : Int) w' (by omega) (by omega))
      have hdn := (decV_sz (u := a) (by omega)).2
      have hz1 : ((⟨#[98, 121, 116, 101, 115, 61]⟩ : ByteArray) ++ decV (a : Int)).size ≤ 10 := by rw [ByteArray.size_append]; show 6 + _ ≤ _; omega
      go_wp2_with fail
      refine (HDn.out _).mono ?_; rintro e w9 ⟨rfl, hb9⟩
      have HI9 := Lib.hid (HI8.out.ext_ hb9)
      have HBc := Lib.hid (HBb.out.ext hb9)
      clear hb9 HI8 HT8 HBb
      have HV := Lib.hid (rz_as a)
      have Hvz := Lib.hid (show (byN ++ rgz a).size ≤ 15 by rw [ByteArray.size_append]; unfold rgz; rw [ByteArray.size_append]; show 6 + (_ + 1) ≤ _; omega)
      have H416 := Lib.hid (fun lg => r_416 (body := body) (lg := lg) (by omega))
      rw [hn] at H416
      go_wp2_with fail
      rw [HV.out]
      clear HV
      generalize byN ++ rgz a = V at *
      have HBd := Lib.hid (Rd.lit w9 #[.string ⟨#[114, 97, 110, 103, 101]⟩, .string V] 51 rfl 2 1 rfl)
      have hXd := (Ext.refl w9).alloc (.cells #[.string ⟨#[114, 97, 110, 103, 101]⟩, .string V] 51)
      have HId := Lib.hid (HI9.out.ext_ hXd); have HBe := Lib.hid (HBc.out.ext hXd)
      clear hXd HI9 HBc
      generalize w9.alloc (.cells #[.string ⟨#[114, 97, 110, 103, 101]⟩, .string V] 51) = w10 at *
      refine (law_get x_ge _ 1 1 [(x_rg, V)] w10 HBd.out (by decide)).mono ?_; rintro e w11 ⟨⟨lA, ln, lc⟩, rfl, hg11, hb11⟩
      have HI11 := Lib.hid (HId.out.ext_ hb11); have HBf := Lib.hid (HBe.out.ext hb11)
      have HAn := Lib.hid (HI11.out.ans (fun b hb => by rw [hb]; exact HBf.out.lt) hg11 (by have := Hvz.out; rw [sumF_cons, sumF_cons, sumF_nil, show x_ho.size = 4 from rfl, show x_ec.size = 11 from rfl, show x_rg.size = 5 from rfl]; simp only [List.length_cons, List.length_nil]; omega) (by omega) (HEg.out _ HI11.out.ext) (S := 416) (B := ⟨#[]⟩) (Pr := fun _ => True) (fun lg => by obtain ⟨F, k, h⟩ := H416.out lg; exact ⟨F, k, h, trivial⟩))
      clear hb11 hg11 HBe HBd
      simp only [Sl.v] at HAn ⊢
      go_wp2_with fail
      refine HAn.out.mono ?_; rintro e w12 ⟨⟨xA, xn, xc⟩, ⟨yA, yn, yc⟩, rfl, hI12, hKb, ht12, -⟩
      simp only [Sl.v]
      have HBg := Lib.hid (hKb _ _ _ rfl HBf.out)
      have hyn : (0 : Nat) = yn := by have := ht12.len1; rw [bytC_len] at this; exact this
      subst hyn
      have HI12 := Lib.hid hI12
      clear hI12 ht12 hKb HAn HBf HI11
      go_wp2_with (first | (refine wpList_storeB rfl 38 (.tmp 17) (.tmp 147) rfl rfl w7.heap.size _ rfl rfl 38 _ HBg.out infoRsp rfl (by simp [Value.oneCell']) ?_; intro w13 hB13 hx13))
      have h0 := hB13.cell 0
      have hr12 := HI12.out.row
      rw [HFl.out] at hr12
      have hK13 : Keeps (fun i => i = w7.heap.size) w12 w13 := Keeps.grown (Keeps.refl _ w12) hx13 (fun b hb => .inl (by injection hb with hb; exact hb.symm))
      have hr13 := Rd.of_own (own_keepS hr12 hK13 (own_ne hr12 HBg.out (by decide)))
      have hE13 := HI12.out.ext.keeps hK13 (fun i hi => by rw [hi]; exact HLw.out)
      have HBz := Lib.hid (base_Bytes oA a oc A a c body body w13 hr13 (hr.ext hE13))
      rw [decide_eq_true rfl] at HBz
      have HE13 := Lib.hid hE13
      clear hr12 hK13 hr13 hE13 HI12 HBg hB13 hx13
      go_wp2_with fail
      refine HBz.out.mono ?_; rintro e w14 ⟨rfl, rfl⟩
      go_wp2_with fail
      go_ret
      exact ⟨rfl, HE13.out⟩
end Go.Proofs.YtmckbcbdnckngaaGreatDoor
