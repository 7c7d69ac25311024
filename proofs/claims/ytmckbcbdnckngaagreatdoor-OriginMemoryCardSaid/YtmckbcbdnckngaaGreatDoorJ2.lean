/- The walks of strings.Split at one byte and of address.Host. The steps of a walk over a path or a query that is brought into canonical form. No program in sight. The walk of address.canonical. The walk of address.text; a slice of one's own cut short. The contract of strings.Join on a slice of strings that is read. The contract of strings.Join at a separator of one byte. The walks of quaysidelaw02.small, quaysidelaw02.Fields, quaysidebase.Texts. The walk of address.Parse. The walk of address.Parse. The walks of ranges.number, element, proper. Listed variables: from a row's condition to what the walks ask of them. No condition. The table of powers of ten and strconv.Itoa; the walks of ranges.proper, text, ContentRange, quaysidebase.Digits. A world with more memory, and with writes to some blocks alone. Plain facts on memory. The walks of validator.plain, quaysideref10.Right, ReadTag, Read. The walk of quaysidebase.Num: the number of an error. The walks of WriteTag, Write, the comparisons of tags, tag, same, quaysidebase.Is. Plain law of lists of tags: read tag by tag, or taken apart at the commas outside quotes, a list gives the same tags. No program in sight. -/
import Derived.Test.YtmckbcbdnckngaaGreatDoorJ1
import Derived.Test.YtmckbcbdnckngaaGreatDoorShelf
import Derived.Deep.QuietTactic
import Derived.BigQuiet
import Derived.Test.YtmckbcbdnckngaaGreatDoorRows
import Derived.OpenShut
import Derived.MakeChecks
import Derived.FnData
import Derived.Lib.LaidTab
import Derived.Lib.ItoaLen
set_option linter.unusedSimpArgs false
set_option linter.unusedVariables false
namespace Go.Proofs.YtmckbcbdnckngaaGreatDoor
open Go.RowKit

def bsL (s : ByteArray) : Bs := s.data.toList
def spS (c : UInt8) (s : ByteArray) : List ByteArray := Lib.splitB ⟨#[c]⟩ 0 (Lib.countB s ⟨#[c]⟩) s
theorem spS_data (c : UInt8) (s : ByteArray) : (spS c s).map (·.data.toList) = spL c (bsL s) := split_data c s
theorem spS_len (c : UInt8) (s : ByteArray) : (spS c s).length = Lib.countB s ⟨#[c]⟩ + 1 := Lib.splitB_all ⟨#[c]⟩ (Nat.le_refl 1) 0 _ s rfl
theorem spS_le (c : UInt8) (s : ByteArray) : (spS c s).length ≤ s.size + 1 := by
  rw [spS_len]
  have := Lib.countB_le ⟨#[c]⟩ (Nat.le_refl 1) s.size s (Nat.le_refl _)
  omega
theorem str_Split1 (c : UInt8) (s : ByteArray) (w : World) (hs : s.size ≤ 1048576) (hg : Gl w) :
    Calls Tryz.prog 68 #[.string s, .string ⟨#[c]⟩] w fun e w' => ∃ n, e = .returned (.slice (some ⟨w.heap.size, 0, none⟩) n n) ∧ RdS w' (some ⟨w.heap.size, 0, none⟩) n (spS c s) ∧ Ext w w' := by
  obtain ⟨m, hm⟩ := hg
  refine (Tryz.strings_Split s ⟨#[c]⟩ m w (by omega) hm (Nat.le_refl 1)).mono fun e w' hh => ?_
  obtain ⟨rfl, rfl⟩ := hh
  refine ⟨_, rfl, ?_, (Ext.refl w).alloc _⟩
  have := Rd.lit w ((spS c s).map Value.string).toArray 9 rfl 1 (Lib.countB s ⟨#[c]⟩ + 1) (by rw [← spS_len c s]; simp)
  rw [List.toList_toArray] at this
  exact this
def hV (o : Option Bs) : Value := match o with
  | some h => .tuple #[.string ⟨h.toArray⟩, .nilIface]
  | none => .tuple #[.string ⟨#[]⟩, errV 8]
theorem ret_v55 {a b : Value} (h : a = b) : Ending.returned a = .returned b := by rw [h]
theorem host_no {s : Bs} (h : (decide (s.length ≤ 100) && (spL 46 s).all labOk) = false) : hostL s = none := by unfold hostL; rw [h]; rfl
theorem host_long {s : Bs} (h : 100 < s.length) : hostL s = none := host_no (by rw [decide_eq_false (by omega)]; rfl)
theorem lab_at {c : UInt8} {s : ByteArray} {k : Nat} (hk : k < (spS c s).length) : bsL (spS c s)[k] ∈ spL c (bsL s) := by
  rw [← spS_data]
  exact List.mem_map.2 ⟨_, List.getElem_mem hk, rfl⟩
theorem host_bad {s : ByteArray} {k : Nat} (hk : k < (spS 46 s).length) (h : labOk (bsL (spS 46 s)[k]) = false) : hostL (bsL s) = none := by
  refine host_no ?_
  rw [Bool.and_eq_false_iff]
  refine .inr (Bool.eq_false_iff.2 fun e => ?_)
  have := List.all_eq_true.1 e _ (lab_at hk)
  rw [h] at this; cases this
theorem host_yes {s : ByteArray} (hl : s.size ≤ 100) (h : ∀ k (hk : k < (spS 46 s).length), labOk (bsL (spS 46 s)[k]) = true) : hostL (bsL s) = some (bsL (lowS s)) := by
  unfold hostL
  have h1 : (spL 46 (bsL s)).all labOk = true := by
    rw [← spS_data, List.all_eq_true]
    intro x hx
    obtain ⟨y, hy, rfl⟩ := List.mem_map.1 hx
    obtain ⟨k, hk, rfl⟩ := List.getElem_of_mem hy
    exact h k hk
  rw [h1, decide_eq_true (show (bsL s).length ≤ 100 by show s.data.toList.length ≤ 100; simpa using hl)]
  rfl
theorem lab_short {x : ByteArray} (h : x.size < 1) : labOk (bsL x) = false := by
  unfold labOk; rw [show (bsL x).length = x.size by show x.data.toList.length = _; simp, decide_eq_false (by omega)]; rfl
theorem lab_long {x : ByteArray} (h : 63 < x.size) : labOk (bsL x) = false := by
  unfold labOk; rw [show (bsL x).length = x.size by show x.data.toList.length = _; simp, decide_eq_false (show ¬ x.size ≤ 63 by omega)]; simp
theorem bs_head {x : ByteArray} (h : 0 < x.size) : (bsL x).head? = some (x[0]'h) := by
  show x.data.toList.head? = _
  rw [List.head?_eq_getElem?, List.getElem?_eq_getElem (by simpa using h)]; rfl
theorem bs_last {x : ByteArray} (h : 0 < x.size) : (bsL x).getLast? = some (x[x.size - 1]'(by omega)) := by
  show x.data.toList.getLast? = _
  rw [List.getLast?_eq_getElem?, List.getElem?_eq_getElem (by simp; omega)]
  simp; rfl
theorem c45 {c : UInt8} (h : (c.toNat : Int) = 45) : c = 45 := UInt8.toNat_inj.1 (by show c.toNat = 45; omega)
theorem lab_first {x : ByteArray} (h : 0 < x.size) (h0 : ((x[0]'h).toNat : Int) = 45) : labOk (bsL x) = false := by
  unfold labOk; rw [bs_head h, c45 h0]; simp
theorem lab_lastc {x : ByteArray} (h : 0 < x.size) (h0 : ((x[x.size - 1]'(by omega)).toNat : Int) = 45) : labOk (bsL x) = false := by
  unfold labOk; rw [bs_last h, c45 h0]; simp
theorem lab_sign {x : ByteArray} {i : Nat} (h : i < x.size) (h0 : labC x[i] = false) : labOk (bsL x) = false := by
  have : (bsL x).all labC = false := by
    rw [Bool.eq_false_iff]
    intro e
    have := List.all_eq_true.1 e x[i] (List.getElem_mem (show i < x.data.toList.length by simpa using h))
    rw [h0] at this; cases this
  unfold labOk; rw [this]; simp
theorem lab_good {x : ByteArray} (h1 : 1 ≤ x.size) (h2 : x.size ≤ 63) (h3 : ¬ ((x[0]'(by omega)).toNat : Int) = 45) (h4 : ¬ ((x[x.size - 1]'(by omega)).toNat : Int) = 45) (h5 : ∀ i (hi : i < x.size), labC x[i] = true) : labOk (bsL x) = true := by
  have hl : (bsL x).length = x.size := by show x.data.toList.length = _; simp
  unfold labOk
  rw [hl, decide_eq_true h1, decide_eq_true h2, bs_head (by omega), bs_last (by omega)]
  have h6 : (bsL x).all labC = true := by
    rw [List.all_eq_true]
    intro c hc
    obtain ⟨i, hi, rfl⟩ := List.getElem_of_mem hc
    exact h5 i (by rw [← hl]; exact hi)
  rw [h6]
  have e1 : (some (x[0]'(by omega)) != some (45 : UInt8)) = true := by
    rw [bne_iff_ne]; intro e; injection e with e; exact h3 (by rw [e]; rfl)
  have e2 : (some (x[x.size - 1]'(by omega)) != some (45 : UInt8)) = true := by
    rw [bne_iff_ne]; intro e; injection e with e; exact h4 (by rw [e]; rfl)
  rw [e1, e2]; rfl
set_option maxHeartbeats 8000000 in
set_option maxRecDepth 100000 in
theorem adr_Host (s : ByteArray) (w : World) (hs : s.size ≤ 1048576) (hg : Gl w) :
    Calls Tryz.prog 35 #[.string s] w fun e w' => e = .returned (hV (hostL (bsL s))) ∧ Ext w w' := by
  have HSp := Lib.hid (str_Split1 46 s w hs hg)
  have Hlong := Lib.hid (fun (h : 100 < s.size) => host_long (s := bsL s) (by show 100 < s.data.toList.length; simpa using h))
  have Hbad := Lib.hid (fun (k : Nat) (hk : k < (spS 46 s).length) h => host_bad hk h)
  have Hyes := Lib.hid (@host_yes s)
  have Hln := Lib.hid (spS_le 46 s)
  generalize hostL (bsL s) = R at *
  by_cases hlen : 100 < s.size
  · have HR := Lib.hid (show hV none = hV R by rw [Hlong.out hlen])
    go_enter Tryz.func35, Tryz.ntmps35
    go_wp2_with fail
    go_ret2
    exact ⟨ret_v55 HR.out, Ext.refl _⟩
  have Hyes := Lib.hid (fun h => Hyes.out (by omega) h)
  go_enter Tryz.func35, Tryz.ntmps35
  go_wp2_with fail
  refine HSp.out.mono ?_; rintro e w1 ⟨n1, rfl, hr1, hb1⟩
  have Hl1 := Lib.hid hr1.lenS
  have hn1 : n1 ≤ 1048577 := by have := Hl1.out; have := Hln.out; omega
  generalize spS 46 s = V at *
  generalize w.heap.size = b1 at *
  go_wp2_with fail
  go_loopw [18] (fun i wr => ∃ k, k ≤ n1 ∧ i = .int .i64 (k : Nat) ∧ (∀ j (hj : j < V.length), j < k → labOk (bsL V[j]) = true) ∧ Ext w1 wr) (fun i _ => n1 - (intOf i).toNat)
  case atStart => exact ⟨0, Nat.zero_le _, rfl, fun j _ h => by omega, Ext.refl _⟩
  case round =>
    obtain ⟨k, hk, rfl, hall, hbr⟩ := hrel
    have Hall := Lib.hid hall; clear hall
    by_cases hlt : k < n1
    · have hlt' : k < V.length := by have := Hl1.out; omega
      obtain ⟨b, o, hbo, hc0⟩ := (hr1.ext hbr).atS hlt'
      injection hbo with hbo
      injection hbo with e1 e2
      subst e1; subst e2
      rw [Nat.zero_add] at hc0
      have Hbd := Lib.hid (fun h => Hbad.out k hlt' h)
      have Hnx := Lib.hid (show labOk (bsL V[k]) = true → ∀ j (hj : j < V.length), j < k + 1 → labOk (bsL V[j]) = true from fun h j hj hjk => by
        rcases Nat.lt_or_ge j k with h2 | h2
        · exact Hall.out j hj h2
        · obtain rfl : j = k := by omega
          exact h)
      generalize V[k] = x at *
      have HV8 := Lib.hid (show Value.tuple #[.string ⟨#[]⟩, .iface 63 (.int .i64 8)] = hV none from rfl)
      by_cases q1 : x.size < 1
      · have HR := Lib.hid (Hbd.out (lab_short q1))
        clear Hbd Hnx
        go_wp2_with fail
        go_ret2
        exact ⟨ret_v55 (by rw [HR.out]; exact HV8.out), hb1.trans hbr⟩
      by_cases q2 : 63 < x.size
      · have HR := Lib.hid (Hbd.out (lab_long q2))
        clear Hbd Hnx
        go_wp2_with fail
        go_ret2
        exact ⟨ret_v55 (by rw [HR.out]; exact HV8.out), hb1.trans hbr⟩
      have hx0 : 0 < x.size := by omega
      cases q3 : (((x[0]'hx0).toNat : Int) == 45)
      rotate_left
      · have HR := Lib.hid (Hbd.out (lab_first hx0 (by simpa using q3)))
        clear Hbd Hnx
        go_wp2_with fail
        go_ret2
        exact ⟨ret_v55 (by rw [HR.out]; exact HV8.out), hb1.trans hbr⟩
      cases q4 : (((x[x.size - 1]'(by omega)).toNat : Int) == 45)
      rotate_left
      · have HR := Lib.hid (Hbd.out (lab_lastc hx0 (by simpa using q4)))
        clear Hbd Hnx
        go_wp2_with fail
        go_ret2
        exact ⟨ret_v55 (by rw [HR.out]; exact HV8.out), hb1.trans hbr⟩
      have Hgood := Lib.hid (fun h => lab_good (x := x) (by omega) (by omega) (by simpa using q3) (by simpa using q4) h)
      have Hsg := Lib.hid (fun i (hi : i < x.size) (h0 : labC x[i] = false) => Hbd.out (lab_sign hi h0))
      have Hxs := Lib.hid (show x.size ≤ 63 by omega)
      go_wp2_with fail
      clear q1 q2 q3 q4 Hbd
      go_loop [44] (fun i => ∃ j, j ≤ x.size ∧ i = .int .i64 (j : Nat) ∧ (∀ q (hq : q < x.size), q < j → labC x[q] = true)) (fun i => x.size - (intOf i).toNat)
      case atStart => exact ⟨0, Nat.zero_le _, rfl, fun q _ h => by omega⟩
      case round =>
        obtain ⟨j, hj, rfl, hsg⟩ := hrel
        have Hs := Lib.hid hsg; clear hsg
        by_cases hjt : j < x.size
        · have HA := Lib.hid (fun w => adr_alnum x[j] w)
          have Hbad2 := Lib.hid (Hsg.out j hjt)
          have Hnext := Lib.hid (show labC x[j] = true → ∀ q (hq : q < x.size), q < j + 1 → labC x[q] = true from fun h q hq hqj => by
            rcases Nat.lt_or_ge q j with h2 | h2
            · exact Hs.out q hq h2
            · obtain rfl : q = j := by omega
              exact h)
          have e45 := c8_eq x[j] 45
          have Hl := Lib.hid (show labC x[j] = (alnumC x[j] || ((x[j].toNat : Int) == 45)) by unfold labC; rw [e45]; rfl)
          clear e45
          generalize labC x[j] = lb at *
          generalize alnumC x[j] = al at *
          cases al
          · cases q5 : ((x[j].toNat : Int) == 45)
            · have HR := Lib.hid (Hbad2.out (by rw [Hl.out, q5]; rfl))
              clear Hbad2 Hnext
              go_wp2_with fail
              refine (HA.out _).mono ?_; rintro e w3 ⟨rfl, rfl⟩
              go_wp2_with fail
              go_ret2
              exact ⟨ret_v55 (by rw [HR.out]; exact HV8.out), hb1.trans hbr⟩
            · have Hn2 := Lib.hid (Hnext.out (by rw [Hl.out, q5]; rfl))
              clear Hbad2 Hnext
              go_wp2_with fail
              refine (HA.out _).mono ?_; rintro e w3 ⟨rfl, rfl⟩
              go_wp2_with fail
              go_round
              case rel => exact ⟨j + 1, by omega, by go_num, Hn2.out⟩
              case measure => simp [intOf]; omega
          · have Hn2 := Lib.hid (Hnext.out (by rw [Hl.out]; rfl))
            clear Hbad2 Hnext
            go_wp2_with fail
            refine (HA.out _).mono ?_; rintro e w3 ⟨rfl, rfl⟩
            go_wp2_with fail
            go_round
            case rel => exact ⟨j + 1, by omega, by go_num, Hn2.out⟩
            case measure => simp [intOf]; omega
        · obtain rfl : j = x.size := by omega
          have Hall2 := Lib.hid (Hnx.out (Hgood.out fun q hq => Hs.out q hq hq))
          clear Hs hjt
          go_wp2_with fail
          go_roundw
          case rel => exact ⟨k + 1, by omega, by go_num, Hall2.out, hbr⟩
          case measure => simp [intOf]; omega
    · obtain rfl : k = n1 := by omega
      have HR := Lib.hid (Hyes.out fun j hj => Hall.out j hj (by have := Hl1.out; omega))
      clear hlt hk Hall
      have hw1 := hb1.trans hbr
      have hbs := fun w => run_bytes_of_string (P := Tryz.prog) w 9 23 5 s Tryz.underlying9 Tryz.underlying23 Tryz.underlying5
      go_wp2_with fail
      clear hbs
      generalize hcap : grownCap wr s.size 0 5 = cap
      have hcs : s.size ≤ cap := by rw [← hcap]; exact grownCap_ge _ _ _ _
      clear hcap
      generalize wr = W4 at *
      go_loopw [65] (fun i wi => ∃ j : Nat, j ≤ s.size ∧ i = .int .i64 j ∧ Ext W4 wi ∧ (∀ q, q < s.size → wi.cell? ⟨W4.heap.size, q, none⟩ = some (.int .u8 (lowAt s j q))) ∧ (∀ q, q < s.size → wi.frozen? ⟨W4.heap.size, q, none⟩ = false)) (fun i _ => s.size - (intOf i).toNat)
      case atStart =>
        refine ⟨0, Nat.zero_le _, rfl, ((Ext.refl _).alloc _).drew, fun j hj => ?_, fun j hj => ?_⟩
        · show (W4.alloc _).cell? _ = _
          rw [World.cell?_alloc_mark, bytesRow_at s cap j hj, lowAt_zero s j hj]
          rfl
        · show (W4.alloc _).frozen? _ = _
          rw [World.frozen?_alloc_mark]
          have : j < (bytesRow s cap).size := by simp [bytesRow]; omega
          simp; omega
      case round =>
        obtain ⟨j, hj, rfl, hbi, hcell, hfr⟩ := hrel
        by_cases hjt : j < s.size
        · have hc := hcell j hjt
          have hf2 := hfr j hjt
          have Hcell := Lib.hid hcell; clear hcell
          have Hfr := Lib.hid hfr; clear hfr
          rw [lowAt_self] at hc
          by_cases hup : (65 : Int) ≤ (s.data[j].toNat : Int) ∧ (s.data[j].toNat : Int) ≤ 90
          · have hy := lowC_yes s.data[j] hup.1 hup.2
            have ha := low_step_yes (lt := hjt) Hcell.out Hfr.out hy
            obtain ⟨u1, u2⟩ := hup
            clear hy
            go_wp2
            go_roundw
            case rel => exact ⟨j + 1, by omega, by go_num, Ext.setCell hbi (p := ⟨W4.heap.size, j, none⟩) (Nat.le_refl _) _, ha.1, ha.2⟩
            case measure => simp [intOf]; omega
          · have hn := lowC_no s.data[j] hup
            have ha := low_step_no hjt Hcell.out hn
            clear hn
            go_wp2
            all_goals
              first
              | (exfalso; omega)
              | (go_roundw
                 case rel => exact ⟨j + 1, by omega, by go_num, hbi, ha, Hfr.out⟩
                 case measure => simp [intOf]; omega)
        · obtain rfl : j = s.size := by omega
          have hback := run_convert_bytes_back (P := Tryz.prog) wr 23 9 5 ⟨W4.heap.size, 0, none⟩ cap (lowL s.data.toList) Tryz.underlying23 Tryz.underlying5 Tryz.underlying9
            (fun q hq => by rw [add_plain, Nat.zero_add, hcell q (by simpa [lowL] using hq), lowAt_end s s.size q (by simpa [lowL] using hq) hq])
          rw [show (lowL s.data.toList).length = s.size by simp [lowL]] at hback
          clear hcell hfr
          go_wp2
          go_ret2
          exact ⟨ret_v55 (by rw [HR.out]; rfl), hw1.trans hbi⟩
end Go.Proofs.YtmckbcbdnckngaaGreatDoor

namespace Go.Proofs.YtmckbcbdnckngaaGreatDoor

/-- What is made so far, o, of the first i bytes: the rest of the way makes the whole. -/
def canAt (oth : UInt8 → Bool) (l : Bs) (i : Nat) (o : Bs) : Prop := canL oth l = (canL oth (l.drop i)).map (o ++ ·)
theorem canAt_zero (oth : UInt8 → Bool) (l : Bs) : canAt oth l 0 [] := by
  unfold canAt
  rw [List.drop_zero]
  cases canL oth l <;> simp
theorem canAt_end {oth : UInt8 → Bool} {l : Bs} {o : Bs} (h : canAt oth l l.length o) : canL oth l = some o := by
  unfold canAt at h
  rw [List.drop_length] at h
  rw [h]; simp [canL]
theorem drop_at {l : Bs} {i : Nat} (h : i < l.length) : l.drop i = l[i] :: l.drop (i + 1) := List.drop_eq_getElem_cons h
theorem can_c {oth : UInt8 → Bool} {c : UInt8} {r : Bs} (hc : c ≠ 37) : canL oth (c :: r) = if unresC c || oth c then (canL oth r).map (c :: ·) else none := by
  conv => lhs; unfold canL
  rw [if_pos hc]
theorem map_map_app {x : Option Bs} {o : Bs} {f : Bs → Bs} {q : Bs} (hf : ∀ r, o ++ f r = q ++ r) : (x.map f).map (o ++ ·) = x.map (q ++ ·) := by
  cases x with
  | none => rfl
  | some r => show some (o ++ f r) = some (q ++ r); rw [hf]
theorem can_plain {oth : UInt8 → Bool} {l : Bs} {i : Nat} {o : Bs} (h : canAt oth l i o) (hi : i < l.length) (hc : l[i] ≠ 37) (hu : (unresC l[i] || oth l[i]) = true) : canAt oth l (i + 1) (o ++ [l[i]]) := by
  unfold canAt at *
  rw [h, drop_at hi, can_c hc, hu, if_pos rfl]
  exact map_map_app fun r => by simp
theorem can_bad {oth : UInt8 → Bool} {l : Bs} {i : Nat} {o : Bs} (h : canAt oth l i o) (hi : i < l.length) (hc : l[i] ≠ 37) (hu : (unresC l[i] || oth l[i]) = false) : canL oth l = none := by
  unfold canAt at h
  rw [h, drop_at hi, can_c hc, hu]; rfl
theorem can_short {oth : UInt8 → Bool} {l : Bs} {i : Nat} {o : Bs} (h : canAt oth l i o) (hi : i < l.length) (hc : l[i] = 37) (h2 : l.length ≤ i + 2) : canL oth l = none := by
  unfold canAt at h
  rw [h, drop_at hi, hc]
  have hl : (l.drop (i + 1)).length ≤ 1 := by rw [List.length_drop]; omega
  match l.drop (i + 1), hl with
  | [], _ => rfl
  | [_], _ => rfl
theorem drop_three {l : Bs} {i : Nat} (h : i + 2 < l.length) : l.drop i = l[i] :: l[i + 1] :: l[i + 2] :: l.drop (i + 3) := by
  rw [drop_at (by omega), drop_at (show i + 1 < l.length by omega), drop_at (show i + 1 + 1 < l.length by omega)]
theorem can_pct {oth : UInt8 → Bool} {a b : UInt8} {r : Bs} : canL oth (37 :: a :: b :: r) =
    if hexV a < 0 || hexV b < 0 then none else if byteV a b < 32 || byteV a b == 127 then none
    else if unresC (byteV a b) then (canL oth r).map (byteV a b :: ·) else (canL oth r).map (fun o => 37 :: hexC (byteV a b >>> 4) :: hexC (byteV a b &&& 15) :: o) := by
  conv => lhs; unfold canL
  rw [if_neg (by simp)]
theorem can_hexbad {oth : UInt8 → Bool} {l : Bs} {i : Nat} {o : Bs} (h : canAt oth l i o) (hi : i + 2 < l.length) (hc : l[i] = 37) (hx : hexV l[i + 1] < 0 ∨ hexV l[i + 2] < 0) : canL oth l = none := by
  unfold canAt at h
  rw [h, drop_three hi, hc, can_pct, if_pos (by simpa using hx)]; rfl
theorem can_ctl {oth : UInt8 → Bool} {l : Bs} {i : Nat} {o : Bs} (h : canAt oth l i o) (hi : i + 2 < l.length) (hc : l[i] = 37) (hx : (byteV l[i + 1] l[i + 2] < 32 || byteV l[i + 1] l[i + 2] == 127) = true) : canL oth l = none := by
  unfold canAt at h
  rw [h, drop_three hi, hc, can_pct, if_pos hx]
  split <;> rfl
theorem can_un {oth : UInt8 → Bool} {l : Bs} {i : Nat} {o : Bs} (h : canAt oth l i o) (hi : i + 2 < l.length) (hc : l[i] = 37) (h1 : 0 ≤ hexV l[i + 1]) (h2 : 0 ≤ hexV l[i + 2]) (hx : (byteV l[i + 1] l[i + 2] < 32 || byteV l[i + 1] l[i + 2] == 127) = false) (hu : unresC (byteV l[i + 1] l[i + 2]) = true) :
    canAt oth l (i + 3) (o ++ [byteV l[i + 1] l[i + 2]]) := by
  unfold canAt at *
  rw [h, drop_three hi, hc, can_pct, if_neg (by simp; omega), hx, if_neg (by simp), hu, if_pos rfl]
  exact map_map_app fun r => by simp
theorem can_hex {oth : UInt8 → Bool} {l : Bs} {i : Nat} {o : Bs} (h : canAt oth l i o) (hi : i + 2 < l.length) (hc : l[i] = 37) (h1 : 0 ≤ hexV l[i + 1]) (h2 : 0 ≤ hexV l[i + 2]) (hx : (byteV l[i + 1] l[i + 2] < 32 || byteV l[i + 1] l[i + 2] == 127) = false) (hu : unresC (byteV l[i + 1] l[i + 2]) = false) :
    canAt oth l (i + 3) (o ++ [37, hexC (byteV l[i + 1] l[i + 2] >>> 4), hexC (byteV l[i + 1] l[i + 2] &&& 15)]) := by
  unfold canAt at *
  rw [h, drop_three hi, hc, can_pct, if_neg (by simp; omega), hx, if_neg (by simp), hu, if_neg (by simp)]
  exact map_map_app fun r => by simp
/-- The byte of two digits, as a number; and its digits. -/
theorem byteV_nat {a b : UInt8} (ha : 0 ≤ hexV a) (hb : 0 ≤ hexV b) : ((byteV a b).toNat : Int) = 16 * hexV a + hexV b := by
  have h : ∀ n : Fin 256, hexV (UInt8.ofFin n) ≤ 15 := by decide +kernel
  have h1 := h a.toFin; have h2 := h b.toFin
  simp only [UInt8.ofFin_toFin] at h1 h2
  unfold byteV
  rw [UInt8.toNat_ofNat']
  omega
def hexT : Bs := [48, 49, 50, 51, 52, 53, 54, 55, 56, 57, 65, 66, 67, 68, 69, 70]
theorem hexC_at : ∀ n : Nat, n < 16 → hexT[n]? = some (hexC (UInt8.ofNat n)) := by decide +kernel
theorem shr_nat (v : UInt8) : (v >>> 4).toNat = v.toNat / 16 := by
  have h : ∀ n : Fin 256, (UInt8.ofFin n >>> 4).toNat = (UInt8.ofFin n).toNat / 16 := by decide +kernel
  have := h v.toFin
  simpa using this
theorem and_nat (v : UInt8) : (v &&& 15).toNat = v.toNat % 16 := by
  have h : ∀ n : Fin 256, (UInt8.ofFin n &&& 15).toNat = (UInt8.ofFin n).toNat % 16 := by decide +kernel
  have := h v.toFin
  simpa using this
end Go.Proofs.YtmckbcbdnckngaaGreatDoor

namespace Go.Proofs.YtmckbcbdnckngaaGreatDoor
open Go.RowKit

def cnV (o : Option Bs) : Value := match o with
  | some l => .tuple #[.string ⟨l.toArray⟩, .bool true]
  | none => .tuple #[.string ⟨#[]⟩, .bool false]
def inB (t : ByteArray) (c : UInt8) : Bool := decide (c ∈ bsL t)
theorem ixb_iff (t : ByteArray) (c : UInt8) : decide (Lib.indexByte t.data.toList c < 0) = !inB t c := by
  unfold inB bsL
  by_cases h : c ∈ t.data.toList
  · obtain ⟨x, y, e, hx⟩ := List.eq_append_cons_of_mem h
    rw [decide_eq_true h, e, ixb_some y hx, decide_eq_false (by omega)]; rfl
  · rw [decide_eq_false h, ixb_none h]; rfl
theorem u8_back (x : UInt8) : ((x.toNat : Int)).toNat.toUInt8 = x := by simp
theorem hexV_le (c : UInt8) : hexV c ≤ 15 ∧ -1 ≤ hexV c := by
  have h : ∀ n : Fin 256, hexV (UInt8.ofFin n) ≤ 15 ∧ -1 ≤ hexV (UInt8.ofFin n) := by decide +kernel
  have := h c.toFin
  simpa using this
theorem c8_lt32 (c : UInt8) : decide (c < 32) = decide ((c.toNat : Int) < 32) := by
  congr 1; rw [UInt8.lt_iff_toNat_lt]; exact propext ⟨fun h => by have : c.toNat < 32 := h; omega, fun h => by show c.toNat < 32; omega⟩
theorem c37_ne {c : UInt8} (h : ((c.toNat : Int) == 37) = false) : c ≠ 37 := fun e => by rw [e] at h; revert h; decide
theorem c37_nat {c : UInt8} (h : (c.toNat : Int) = 37) : c.toNat = (37 : UInt8).toNat := by show c.toNat = 37; omega
theorem c37_eq {c : UInt8} (h : ((c.toNat : Int) == 37) = true) : c = 37 := UInt8.toNat_inj.1 (c37_nat (by simpa using h))
theorem hexhi (v : UInt8) : ∃ hb : (((v.toNat : Int) / 16).toNat) < (⟨#[48, 49, 50, 51, 52, 53, 54, 55, 56, 57, 65, 66, 67, 68, 69, 70]⟩ : ByteArray).size, (((⟨#[48, 49, 50, 51, 52, 53, 54, 55, 56, 57, 65, 66, 67, 68, 69, 70]⟩ : ByteArray)[((v.toNat : Int) / 16).toNat]'hb).toNat : Int) = ((hexC (v >>> 4)).toNat : Int) := by
  have h : ∀ n : Fin 256, ∃ hb : ((((UInt8.ofFin n).toNat : Int) / 16).toNat) < (⟨#[48, 49, 50, 51, 52, 53, 54, 55, 56, 57, 65, 66, 67, 68, 69, 70]⟩ : ByteArray).size, (((⟨#[48, 49, 50, 51, 52, 53, 54, 55, 56, 57, 65, 66, 67, 68, 69, 70]⟩ : ByteArray)[(((UInt8.ofFin n).toNat : Int) / 16).toNat]'hb).toNat : Int) = ((hexC ((UInt8.ofFin n) >>> 4)).toNat : Int) := by decide +kernel
  have := h v.toFin
  simpa only [UInt8.ofFin_toFin] using this
theorem hexhi_b (v : UInt8) : 0 ≤ (v.toNat : Int) / 16 ∧ (v.toNat : Int) / 16 < 16 := by have := v.toNat_lt; omega
theorem bits_lo (v : UInt8) : bits BinOp.and IntKind.u8 (v.toNat : Int) 15 = ((v.toNat % 16 : Nat) : Int) := by
  have h : ∀ n : Fin 256, bits BinOp.and IntKind.u8 ((UInt8.ofFin n).toNat : Int) 15 = (((UInt8.ofFin n).toNat % 16 : Nat) : Int) := by decide +kernel
  have := h v.toFin
  simpa only [UInt8.ofFin_toFin] using this
theorem hexlo (v : UInt8) : ∃ hb : ((bits BinOp.and IntKind.u8 (v.toNat : Int) 15).toNat) < (⟨#[48, 49, 50, 51, 52, 53, 54, 55, 56, 57, 65, 66, 67, 68, 69, 70]⟩ : ByteArray).size, (((⟨#[48, 49, 50, 51, 52, 53, 54, 55, 56, 57, 65, 66, 67, 68, 69, 70]⟩ : ByteArray)[(bits BinOp.and IntKind.u8 (v.toNat : Int) 15).toNat]'hb).toNat : Int) = ((hexC (v &&& 15)).toNat : Int) := by
  have h : ∀ n : Fin 256, ∃ hb : ((bits BinOp.and IntKind.u8 ((UInt8.ofFin n).toNat : Int) 15).toNat) < (⟨#[48, 49, 50, 51, 52, 53, 54, 55, 56, 57, 65, 66, 67, 68, 69, 70]⟩ : ByteArray).size, (((⟨#[48, 49, 50, 51, 52, 53, 54, 55, 56, 57, 65, 66, 67, 68, 69, 70]⟩ : ByteArray)[(bits BinOp.and IntKind.u8 ((UInt8.ofFin n).toNat : Int) 15).toNat]'hb).toNat : Int) = ((hexC ((UInt8.ofFin n) &&& 15)).toNat : Int) := by decide +kernel
  have := h v.toFin
  simpa only [UInt8.ofFin_toFin] using this
theorem hexlo_b (v : UInt8) : 0 ≤ bits BinOp.and IntKind.u8 (v.toNat : Int) 15 ∧ bits BinOp.and IntKind.u8 (v.toNat : Int) 15 < 16 := by rw [bits_lo]; omega
theorem rd3 {w0 w : World} (_ : Ext w0 w) (a b c : Value) (e : TypeId) : Rd (w.alloc (.cells #[a, b, c] e)) 1 (some ⟨w.heap.size, 0, none⟩) 3 [a, b, c] := Rd.lit w #[a, b, c] e rfl 1 3 rfl
set_option maxHeartbeats 16000000 in
set_option maxRecDepth 100000 in
theorem adr_canonical (s t : ByteArray) (w : World) (hs : s.size ≤ 1048576) :
    Calls Tryz.prog 105 #[.string s, .string t] w fun e w' => e = .returned (cnV (canL (inB t) (bsL s))) ∧ Ext w w' := by
  have Hl := Lib.hid (show (bsL s).length = s.size by show s.data.toList.length = _; simp)
  have Hpl := Lib.hid (fun (i : Nat) (o : Bs) (h : canAt (inB t) (bsL s) i o) (hi : i < s.size) (hc : s[i] ≠ 37) (hu : (unresC s[i] || inB t s[i]) = true) => show canAt (inB t) (bsL s) (i + 1) (o ++ [s[i]]) from can_plain h (by rw [Hl.out]; exact hi) hc hu)
  have Hbd := Lib.hid (fun (i : Nat) (o : Bs) (h : canAt (inB t) (bsL s) i o) (hi : i < s.size) (hc : s[i] ≠ 37) (hu : (unresC s[i] || inB t s[i]) = false) => can_bad h (by rw [Hl.out]; exact hi) hc hu)
  have Hsh := Lib.hid (fun (i : Nat) (o : Bs) (h : canAt (inB t) (bsL s) i o) (hi : i < s.size) (hc : s[i] = 37) (h2 : s.size ≤ i + 2) => can_short h (by rw [Hl.out]; exact hi) hc (by rw [Hl.out]; exact h2))
  have Hhx := Lib.hid (fun (i : Nat) (o : Bs) (h : canAt (inB t) (bsL s) i o) (hi : i + 2 < s.size) (hc : s[i]'(by omega) = 37) (hx : hexV (s[i + 1]'(by omega)) < 0 ∨ hexV (s[i + 2]'(by omega)) < 0) => can_hexbad h (by rw [Hl.out]; exact hi) hc hx)
  have Hct := Lib.hid (fun (i : Nat) (o : Bs) (h : canAt (inB t) (bsL s) i o) (hi : i + 2 < s.size) (hc : s[i]'(by omega) = 37) (hx : (byteV (s[i + 1]'(by omega)) (s[i + 2]'(by omega)) < 32 || byteV (s[i + 1]'(by omega)) (s[i + 2]'(by omega)) == 127) = true) => can_ctl h (by rw [Hl.out]; exact hi) hc hx)
  have Hun := Lib.hid (fun (i : Nat) (o : Bs) (h : canAt (inB t) (bsL s) i o) (hi : i + 2 < s.size) (hc : s[i]'(by omega) = 37) (h1 : 0 ≤ hexV (s[i + 1]'(by omega))) (h2 : 0 ≤ hexV (s[i + 2]'(by omega))) (hx : (byteV (s[i + 1]'(by omega)) (s[i + 2]'(by omega)) < 32 || byteV (s[i + 1]'(by omega)) (s[i + 2]'(by omega)) == 127) = false) (hu : unresC (byteV (s[i + 1]'(by omega)) (s[i + 2]'(by omega))) = true) => show canAt (inB t) (bsL s) (i + 3) (o ++ [byteV (s[i + 1]'(by omega)) (s[i + 2]'(by omega))]) from can_un h (by rw [Hl.out]; exact hi) hc h1 h2 hx hu)
  have Hhe := Lib.hid (fun (i : Nat) (o : Bs) (h : canAt (inB t) (bsL s) i o) (hi : i + 2 < s.size) (hc : s[i]'(by omega) = 37) (h1 : 0 ≤ hexV (s[i + 1]'(by omega))) (h2 : 0 ≤ hexV (s[i + 2]'(by omega))) (hx : (byteV (s[i + 1]'(by omega)) (s[i + 2]'(by omega)) < 32 || byteV (s[i + 1]'(by omega)) (s[i + 2]'(by omega)) == 127) = false) (hu : unresC (byteV (s[i + 1]'(by omega)) (s[i + 2]'(by omega))) = false) => show canAt (inB t) (bsL s) (i + 3) (o ++ [37, hexC (byteV (s[i + 1]'(by omega)) (s[i + 2]'(by omega)) >>> 4), hexC (byteV (s[i + 1]'(by omega)) (s[i + 2]'(by omega)) &&& 15)]) from can_hex h (by rw [Hl.out]; exact hi) hc h1 h2 hx hu)
  have Hen := Lib.hid (fun (o : Bs) (h : canAt (inB t) (bsL s) s.size o) => canAt_end (by rw [Hl.out]; exact h))
  have Hz := Lib.hid (canAt_zero (inB t) (bsL s))
  generalize canL (inB t) (bsL s) = Q at *
  have HN := Lib.hid (show Value.tuple #[.string ⟨#[]⟩, .bool false] = cnV none from rfl)
  go_enter Tryz.func105, Tryz.ntmps105
  go_wp2_with fail
  go_loopw [6, 7] (fun v i wr => ∃ k o A' c' m, k ≤ s.size ∧ i = .int .i64 (k : Nat) ∧ v = .slice A' m c' ∧ wr.ownsRow w.heap.size 5 1 (.slice A' m c') m (bcs o) ∧ m ≤ c' ∧ m ≤ k ∧ canAt (inB t) (bsL s) k o ∧ Ext w wr) (fun _ i _ => s.size - (intOf i).toNat)
  case atStart => exact ⟨0, [], none, 0, 0, Nat.zero_le _, rfl, rfl, World.ownsRow_nil _ _ _ _, Nat.le_refl _, Nat.le_refl _, Hz.out, Ext.refl _⟩
  case round =>
    obtain ⟨k, o, A', c', m, hk, rfl, rfl, hown, hmc, hmk, hat, hbr⟩ := hrel
    have Hat := Lib.hid hat; clear hat
    by_cases hlt : k < s.size
    · cases h37 : ((s[k].toNat : Int) == 37)
      · have hne := c37_ne h37
        have Hp := Lib.hid (Hpl.out k o Hat.out hlt hne)
        have Hb := Lib.hid (Hbd.out k o Hat.out hlt hne)
        have HU := Lib.hid (fun w => adr_unreserved s[k] w)
        have HI := Lib.hid (fun w => Tryz.strings_IndexByte t (s[k].toNat : Int) w)
        rw [u8_back] at HI
        have HJ := Lib.hid (ixb_iff t s[k])
        clear hne
        generalize unresC s[k] = un at *
        generalize inB t s[k] = ib at *
        generalize Lib.indexByte t.data.toList s[k] = ix at *
        cases un
        · cases ib
          · have HR := Lib.hid (Hb.out rfl)
            have hix : ix < 0 := of_decide_eq_true HJ.out
            clear Hp Hb
            go_wp2_with fail
            refine (HU.out _).mono ?_; rintro e w1 ⟨rfl, rfl⟩
            go_wp2_with fail
            refine (HI.out _).mono ?_; rintro e w2 ⟨rfl, rfl⟩
            go_wp2_with fail
            go_ret2
            exact ⟨ret_v55 (by rw [HR.out]; exact HN.out), hbr⟩
          · have HP := Lib.hid (Hp.out rfl)
            have hix : ¬ ix < 0 := of_decide_eq_false HJ.out
            clear Hp Hb
            go_wp2_with fail
            refine (HU.out _).mono ?_; rintro e w1 ⟨rfl, rfl⟩
            go_wp2_with fail
            refine (HI.out _).mono ?_; rintro e w2 ⟨rfl, rfl⟩
            go_wp2_with (first
              | (at_builtin; refine wpList_app _ rfl (.tmp 29) (.tmp 31) 23 rfl w 5 _ 1 1 Tryz.underlying23 infoU8 rfl (by decide) _ _ _ rfl (hown.alloc _) _ 1 1 [.int .u8 (s[k].toNat : Int)] rfl (Rd.one _ _ _ (by simp)) (by intro u hu; simp at hu; subst hu; rfl) (hbr.alloc _) (by omega) (by decide) ?_; intro A2 c2 w3 hown3 hb3 hle3))
            go_roundw
            case rel => exact ⟨k + 1, o ++ [s[k]], A2, c2, m + 1, by omega, by go_num, rfl, by rw [bcs_app]; exact hown3, hle3, by omega, HP.out, hb3⟩
            case measure => simp [intOf]; omega
        · have HP := Lib.hid (Hp.out rfl)
          clear Hp Hb
          go_wp2_with fail
          refine (HU.out _).mono ?_; rintro e w1 ⟨rfl, rfl⟩
          go_wp2_with (first
            | (at_builtin; refine wpList_app _ rfl (.tmp 29) (.tmp 31) 23 rfl w 5 _ 1 1 Tryz.underlying23 infoU8 rfl (by decide) _ _ _ rfl (hown.alloc _) _ 1 1 [.int .u8 (s[k].toNat : Int)] rfl (Rd.one _ _ _ (by simp)) (by intro u hu; simp at hu; subst hu; rfl) (hbr.alloc _) (by omega) (by decide) ?_; intro A2 c2 w3 hown3 hb3 hle3))
          go_roundw
          case rel => exact ⟨k + 1, o ++ [s[k]], A2, c2, m + 1, by omega, by go_num, rfl, by rw [bcs_app]; exact hown3, hle3, by omega, HP.out, hb3⟩
          case measure => simp [intOf]; omega
      · have heq := c37_eq h37
        by_cases hk2 : k + 2 < s.size
        rotate_left
        · have HR := Lib.hid (Hsh.out k o Hat.out hlt heq (by omega))
          clear heq
          go_wp2_with fail
          go_ret2
          exact ⟨ret_v55 (by rw [HR.out]; exact HN.out), hbr⟩
        have HD1 := Lib.hid (fun w => adr_digit (s[k + 1]'(by omega)) w)
        have HD2 := Lib.hid (fun w => adr_digit (s[k + 2]'(by omega)) w)
        have Hx := Lib.hid (Hhx.out k o Hat.out hk2 heq)
        have Hc := Lib.hid (Hct.out k o Hat.out hk2 heq)
        have Hu := Lib.hid (Hun.out k o Hat.out hk2 heq)
        have He := Lib.hid (Hhe.out k o Hat.out hk2 heq)
        have Hb1 := Lib.hid (hexV_le (s[k + 1]'(by omega))); have Hb2 := Lib.hid (hexV_le (s[k + 2]'(by omega)))
        have Hbv := Lib.hid (@byteV_nat (s[k + 1]'(by omega)) (s[k + 2]'(by omega)))
        clear heq
        generalize hexV (s[k + 1]'(by omega)) = ha at *
        generalize hexV (s[k + 2]'(by omega)) = hb at *
        generalize byteV (s[k + 1]'(by omega)) (s[k + 2]'(by omega)) = v at *
        by_cases ha0 : ha < 0
        · have HR := Lib.hid (Hx.out (.inl ha0))
          go_wp2_with fail
          refine (HD1.out _).mono ?_; rintro e w1 ⟨rfl, rfl⟩
          go_wp2_with fail
          go_ret2
          exact ⟨ret_v55 (by rw [HR.out]; exact HN.out), hbr⟩
        by_cases hb0 : hb < 0
        · have HR := Lib.hid (Hx.out (.inr hb0))
          go_wp2_with fail
          refine (HD1.out _).mono ?_; rintro e w1 ⟨rfl, rfl⟩
          go_wp2_with fail
          refine (HD2.out _).mono ?_; rintro e w2 ⟨rfl, rfl⟩
          go_wp2_with fail
          go_ret2
          exact ⟨ret_v55 (by rw [HR.out]; exact HN.out), hbr⟩
        have hsum := Hbv.out (by omega) (by omega)
        have hb1' := Hb1.out; have hb2' := Hb2.out
        have hwr : IntKind.u8.wrap (16 * ha + hb) = (v.toNat : Int) := by rw [IntWalk.u8_in _ (by omega)]; exact hsum.symm
        have hwi : IntKind.i64.wrap (16 * ha) = 16 * ha := IntWalk.i64_in _ (by omega)
        have hwi2 : IntKind.i64.wrap (16 * ha + hb) = 16 * ha + hb := IntWalk.i64_in _ (by omega)
        have Hu2 := Lib.hid (fun h1 h2 => Hu.out (by omega) (by omega) h1 h2)
        have He2 := Lib.hid (fun h1 h2 => He.out (by omega) (by omega) h1 h2)
        clear Hu He Hx hsum Hbv
        have c1 : k + 1 < s.size := by omega
        have hwk1 : IntKind.i64.wrap ((k : Int) + 1) = ((k + 1 : Nat) : Int) := by rw [IntWalk.i64_in _ (by omega)]; omega
        have hwk2 : IntKind.i64.wrap ((k : Int) + 2) = ((k + 2 : Nat) : Int) := by rw [IntWalk.i64_in _ (by omega)]; omega
        go_wp2_with fail
        refine (HD1.out _).mono ?_; rintro e w1 ⟨rfl, rfl⟩
        go_wp2_with fail
        refine (HD2.out _).mono ?_; rintro e w2 ⟨rfl, rfl⟩
        go_wp2_with fail
        refine wp_region_held_drew (S := (fun _ => True)) (by kernel_rfl) ?_ (fun hHeld => ?_)
        · (try dsimp only); (try trivial)
        refine wpAnyH_take (i := 0) (oi := { dst := some 54, op := _, type := _, pos := _, after := _, guard := _ }) (v := ?_) rfl (by kernel_rfl) (by kernel_rfl) (by kernel_rfl) (fun _ _ _ h => h) (Or.inl ⟨by rfl, ?_⟩) (by assumption) ?_
        rotate_left
        · (intro w hSw; (try dsimp only at hSw); go_simp; (try with_reducible rfl))
        (try simp only [Act.put, List.setIfInBounds_toArray, List.set_cons_zero, List.set_cons_succ])
        refine wpAnyH_take (i := 1) (oi := { dst := some 55, op := _, type := _, pos := _, after := _, guard := _ }) (v := ?_) rfl (by kernel_rfl) (by kernel_rfl) (by kernel_rfl) (fun _ _ _ h => h) (Or.inl ⟨by rfl, ?_⟩) (by assumption) ?_
        rotate_left
        · (intro w hSw; (try dsimp only at hSw); go_simp; (try with_reducible rfl))
        (try simp only [Act.put, List.setIfInBounds_toArray, List.set_cons_zero, List.set_cons_succ])
        refine wpAnyH_take (i := 2) (oi := { dst := some 56, op := _, type := _, pos := _, after := _, guard := _ }) (v := ?_) rfl (by kernel_rfl) (by kernel_rfl) (by kernel_rfl) (fun _ _ _ h => h) (Or.inl ⟨by rfl, ?_⟩) (by assumption) ?_
        rotate_left
        · (intro w hSw; (try dsimp only at hSw); go_simp; (try with_reducible rfl))
        (try simp only [Act.put, List.setIfInBounds_toArray, List.set_cons_zero, List.set_cons_succ])
        refine wpAnyH_take (i := 3) (oi := { dst := some 57, op := _, type := _, pos := _, after := _, guard := _ }) (v := ?_) rfl (by kernel_rfl) (by kernel_rfl) (by kernel_rfl) (fun _ _ _ h => h) (Or.inl ⟨by rfl, ?_⟩) (by assumption) ?_
        rotate_left
        · (intro w hSw; (try dsimp only at hSw); go_simp; (try with_reducible rfl))
        (try simp only [Act.put, List.setIfInBounds_toArray, List.set_cons_zero, List.set_cons_succ])
        refine wpAnyH_take (i := 6) (oi := { dst := some 60, op := _, type := _, pos := _, after := _, guard := _ }) (v := ?_) rfl (by kernel_rfl) (by kernel_rfl) (by kernel_rfl) (fun _ _ _ h => h) (Or.inl ⟨by rfl, ?_⟩) (by assumption) ?_
        rotate_left
        · (intro w hSw; (try dsimp only at hSw); go_simp; (try with_reducible rfl))
        (try simp only [Act.put, List.setIfInBounds_toArray, List.set_cons_zero, List.set_cons_succ])
        refine wpAnyH_take (i := 7) (oi := { dst := some 61, op := _, type := _, pos := _, after := _, guard := _ }) (v := ?_) rfl (by kernel_rfl) (by kernel_rfl) (by kernel_rfl) (fun _ _ _ h => h) (Or.inl ⟨by rfl, ?_⟩) (by assumption) ?_
        rotate_left
        · (intro w hSw; (try dsimp only at hSw); go_simp; (try with_reducible rfl))
        (try simp only [Act.put, List.setIfInBounds_toArray, List.set_cons_zero, List.set_cons_succ])
        refine wpAnyH_take (i := 8) (oi := { dst := some 62, op := _, type := _, pos := _, after := _, guard := _ }) (v := ?_) rfl (by kernel_rfl) (by kernel_rfl) (by kernel_rfl) (fun _ _ _ h => h) (Or.inl ⟨by rfl, ?_⟩) (by assumption) ?_
        rotate_left
        · (intro w hSw; (try dsimp only at hSw); go_simp; (try with_reducible rfl))
        (try simp only [Act.put, List.setIfInBounds_toArray, List.set_cons_zero, List.set_cons_succ])
        refine wpAnyH_take (i := 9) (oi := { dst := some 63, op := _, type := _, pos := _, after := _, guard := _ }) (v := ?_) rfl (by kernel_rfl) (by kernel_rfl) (by kernel_rfl) (fun _ _ _ h => h) (Or.inl ⟨by rfl, ?_⟩) (by assumption) ?_
        rotate_left
        · (intro w hSw; (try dsimp only at hSw); go_simp; (try with_reducible rfl))
        (try simp only [Act.put, List.setIfInBounds_toArray, List.set_cons_zero, List.set_cons_succ])
        refine wpAnyH_ready (rs := [4]) (by kernel_rfl) (by simp) ?_
        refine AllReadyH.cons (o := { dst := some 58, op := _, type := _, pos := _, after := _, guard := _ }) rfl (fun K hK => ?_) AllReadyH.nil
        go_simp
        refine (HD1.out _).mono ?_; rintro e w3 ⟨rfl, rfl⟩
        try go_wp2_with fail
        refine hK.out _ _ ?_ (fun hHeld => ?_)
        · (try dsimp only); (try trivial)
        clear hK K
        (try simp only [Act.put, List.setIfInBounds_toArray, List.set_cons_zero, List.set_cons_succ])
        refine wpAnyH_take (i := 5) (oi := { dst := some 59, op := _, type := _, pos := _, after := _, guard := _ }) (v := ?_) rfl (by kernel_rfl) (by kernel_rfl) (by kernel_rfl) (fun _ _ _ h => h) (Or.inl ⟨by rfl, ?_⟩) (by assumption) ?_
        rotate_left
        · (intro w hSw; (try dsimp only at hSw); go_simp; (try with_reducible rfl))
        (try simp only [Act.put, List.setIfInBounds_toArray, List.set_cons_zero, List.set_cons_succ])
        refine wpAnyH_ready (rs := [10]) (by kernel_rfl) (by simp) ?_
        refine AllReadyH.cons (o := { dst := some 64, op := _, type := _, pos := _, after := _, guard := _ }) rfl (fun K hK => ?_) AllReadyH.nil
        go_simp
        refine (HD2.out _).mono ?_; rintro e w4 ⟨rfl, rfl⟩
        try go_wp2_with fail
        refine hK.out _ _ ?_ (fun hHeld => ?_)
        · (try dsimp only); (try trivial)
        clear hK K
        (try simp only [Act.put, List.setIfInBounds_toArray, List.set_cons_zero, List.set_cons_succ])
        refine wpAnyH_take (i := 11) (oi := { dst := some 65, op := _, type := _, pos := _, after := _, guard := _ }) (v := ?_) rfl (by kernel_rfl) (by kernel_rfl) (by kernel_rfl) (fun _ _ _ h => h) (Or.inl ⟨by rfl, ?_⟩) (by assumption) ?_
        rotate_left
        · (intro w hSw; (try dsimp only at hSw); go_simp; (try with_reducible rfl))
        (try simp only [Act.put, List.setIfInBounds_toArray, List.set_cons_zero, List.set_cons_succ])
        refine wpAnyH_take (i := 12) (oi := { dst := some 66, op := _, type := _, pos := _, after := _, guard := _ }) (v := ?_) rfl (by kernel_rfl) (by kernel_rfl) (by kernel_rfl) (fun _ _ _ h => h) (Or.inl ⟨by rfl, ?_⟩) (by assumption) ?_
        rotate_left
        · (intro w hSw; (try dsimp only at hSw); go_simp; (try with_reducible rfl))
        (try simp only [Act.put, List.setIfInBounds_toArray, List.set_cons_zero, List.set_cons_succ])
        refine wpAnyH_take (i := 13) (oi := { dst := some 8, op := _, type := _, pos := _, after := _, guard := _ }) (v := ?_) rfl (by kernel_rfl) (by kernel_rfl) (by kernel_rfl) (fun _ _ _ h => h) (Or.inl ⟨by rfl, ?_⟩) (by assumption) ?_
        rotate_left
        · (intro w hSw; (try dsimp only at hSw); go_simp; (try with_reducible rfl))
        (try simp only [Act.put, List.setIfInBounds_toArray, List.set_cons_zero, List.set_cons_succ])
        refine wpAnyH_done (by kernel_rfl) ?_ _
        have hbr := hbr.drew
        clear HD1 HD2 hwr hwi hwi2
        by_cases hv32 : (v.toNat : Int) < 32
        · have HR := Lib.hid (Hc.out (by rw [c8_lt32, decide_eq_true hv32]; rfl))
          clear Hc Hu2 He2
          go_wp2_with fail
          go_ret2
          exact ⟨ret_v55 (by rw [HR.out]; exact HN.out), hbr⟩
        cases hv127 : ((v.toNat : Int) == 127)
        rotate_left
        · have HR := Lib.hid (Hc.out (by rw [show (v == (127 : UInt8)) = true from (c8_eq v 127).trans hv127]; simp))
          clear Hc Hu2 He2
          go_wp2_with fail
          go_ret2
          exact ⟨ret_v55 (by rw [HR.out]; exact HN.out), hbr⟩
        have hctl : (v < 32 || v == 127) = false := by rw [c8_lt32, decide_eq_false hv32, show (v == (127 : UInt8)) = false from (c8_eq v 127).trans hv127]; rfl
        have HU := Lib.hid (fun w => adr_unreserved v w)
        cases hun : unresC v
        rotate_left
        · have HP := Lib.hid (Hu2.out hctl hun)
          rw [hun] at HU
          clear Hc Hu2 He2 hctl hun
          go_wp2_with fail
          refine (HU.out _).mono ?_; rintro e w5 ⟨rfl, rfl⟩
          go_wp2_with (first
            | (at_builtin; refine wpList_app _ rfl (.tmp 77) (.tmp 79) 23 rfl w 5 _ 1 1 Tryz.underlying23 infoU8 rfl (by decide) _ _ _ rfl ((show World.ownsRow _ _ _ _ _ _ _ from hown).alloc _) _ 1 1 [.int .u8 (v.toNat : Int)] rfl (Rd.one _ _ _ (by simp)) (by intro u hu; simp at hu; subst hu; rfl) (hbr.alloc _) (by omega) (by decide) ?_; intro A2 c2 w3 hown3 hb3 hle3))
          go_roundw
          case rel => exact ⟨k + 3, o ++ [v], A2, c2, m + 1, by omega, by go_num, rfl, by rw [bcs_app]; exact hown3, hle3, by omega, HP.out, hb3⟩
          case measure => simp [intOf]; omega
        have HP := Lib.hid (He2.out hctl hun)
        rw [hun] at HU
        clear Hc Hu2 He2 hctl hun
        go_wp2_with fail
        refine (HU.out _).mono ?_; rintro e w5 ⟨rfl, rfl⟩
        go_wp2_with fail
        have hE := hbr.drew
        refine wp_region_held_drew (S := (fun _ => True)) (by kernel_rfl) ?_ (fun hHeld => ?_)
        · (try dsimp only); (try trivial)
        refine wpAnyH_take (i := 0) (oi := { dst := some 81, op := _, type := _, pos := _, after := _, guard := _ }) (v := ?_) rfl (by kernel_rfl) (by kernel_rfl) (by kernel_rfl) (fun _ _ _ h => h) (Or.inl ⟨by rfl, ?_⟩) (by assumption) ?_
        rotate_left
        · (intro w hSw; (try dsimp only at hSw); go_simp; (try with_reducible rfl))
        (try simp only [Act.put, List.setIfInBounds_toArray, List.set_cons_zero, List.set_cons_succ])
        refine wpAnyH_take (i := 1) (oi := { dst := some 82, op := _, type := _, pos := _, after := _, guard := _ }) (v := ?_) rfl (by kernel_rfl) (by kernel_rfl) (by kernel_rfl) (fun _ _ _ h => h) (Or.inl ⟨by rfl, ?_⟩) (by assumption) ?_
        rotate_left
        · (intro w hSw; (try dsimp only at hSw); go_simp; (try with_reducible rfl))
        (try simp only [Act.put, List.setIfInBounds_toArray, List.set_cons_zero, List.set_cons_succ])
        refine wpAnyH_take (i := 2) (oi := { dst := some 83, op := _, type := _, pos := _, after := _, guard := _ }) (v := ?_) rfl (by kernel_rfl) (by kernel_rfl) (by kernel_rfl) (fun _ _ _ h => h) (Or.inl ⟨by rfl, ?_⟩) (by assumption) ?_
        rotate_left
        · (intro w hSw; (try dsimp only at hSw); go_simp; (try with_reducible rfl))
        (try simp only [Act.put, List.setIfInBounds_toArray, List.set_cons_zero, List.set_cons_succ])
        refine wpAnyH_take (i := 3) (oi := { dst := some 84, op := _, type := _, pos := _, after := _, guard := _ }) (v := .int .u8 ((hexC (v >>> 4)).toNat : Int)) rfl (by kernel_rfl) (by kernel_rfl) (by kernel_rfl) (fun _ _ _ h => h) (Or.inl ⟨by rfl, ?_⟩) (by assumption) ?_
        · (intro w hSw; (try dsimp only at hSw); go_simp; rw [dif_pos (hexhi_b v)]; exact congrArg (fun z => Result.ok (Next.value (Value.int IntKind.u8 z)) w) (hexhi v).2)
        (try simp only [Act.put, List.setIfInBounds_toArray, List.set_cons_zero, List.set_cons_succ])
        refine wpAnyH_take (i := 4) (oi := { dst := some 85, op := _, type := _, pos := _, after := _, guard := _ }) (v := ?_) rfl (by kernel_rfl) (by kernel_rfl) (by kernel_rfl) (fun _ _ _ h => h) (Or.inl ⟨by rfl, ?_⟩) (by assumption) ?_
        rotate_left
        · (intro w hSw; (try dsimp only at hSw); go_simp; (try with_reducible rfl))
        (try simp only [Act.put, List.setIfInBounds_toArray, List.set_cons_zero, List.set_cons_succ])
        refine wpAnyH_take (i := 5) (oi := { dst := some 86, op := _, type := _, pos := _, after := _, guard := _ }) (v := ?_) rfl (by kernel_rfl) (by kernel_rfl) (by kernel_rfl) (fun _ _ _ h => h) (Or.inl ⟨by rfl, ?_⟩) (by assumption) ?_
        rotate_left
        · (intro w hSw; (try dsimp only at hSw); go_simp; (try with_reducible rfl))
        (try simp only [Act.put, List.setIfInBounds_toArray, List.set_cons_zero, List.set_cons_succ])
        refine wpAnyH_take (i := 6) (oi := { dst := some 87, op := _, type := _, pos := _, after := _, guard := _ }) (v := .int .u8 ((hexC (v &&& 15)).toNat : Int)) rfl (by kernel_rfl) (by kernel_rfl) (by kernel_rfl) (fun _ _ _ h => h) (Or.inl ⟨by rfl, ?_⟩) (by assumption) ?_
        · (intro w hSw; (try dsimp only at hSw); go_simp; rw [dif_pos (hexlo_b v)]; exact congrArg (fun z => Result.ok (Next.value (Value.int IntKind.u8 z)) w) (hexlo v).2)
        (try simp only [Act.put, List.setIfInBounds_toArray, List.set_cons_zero, List.set_cons_succ])
        refine wpAnyH_ready (rs := [7]) (by kernel_rfl) (by simp) ?_
        refine AllReadyH.cons (o := { dst := some 88, op := _, type := _, pos := _, after := _, guard := _ }) rfl (fun K hK => ?_) AllReadyH.nil
        have hr8 := rd3 hE (.int .u8 37) (.int .u8 ((hexC (v >>> 4)).toNat : Int)) (.int .u8 ((hexC (v &&& 15)).toNat : Int)) 5; replace hE := hE.alloc (.cells #[.int .u8 37, .int .u8 ((hexC (v >>> 4)).toNat : Int), .int .u8 ((hexC (v &&& 15)).toNat : Int)] 5)
        go_simp
        skip
        try go_wp2_with fail
        refine hK.out _ _ ?_ (fun hHeld => ?_)
        · (try dsimp only); (try trivial)
        clear hK K
        (try simp only [Act.put, List.setIfInBounds_toArray, List.set_cons_zero, List.set_cons_succ])
        refine wpAnyH_ready (rs := [8]) (by kernel_rfl) (by simp) ?_
        refine AllReadyH.cons (o := { dst := some 89, op := _, type := _, pos := _, after := _, guard := _ }) rfl (fun K hK => ?_) AllReadyH.nil
        refine step_app _ rfl (.tmp 81) (.tmp 88) 23 rfl w 5 _ 1 1 Tryz.underlying23 infoU8 rfl (by decide) _ _ _ rfl (World.ownsRow.alloc (show World.ownsRow _ _ _ _ _ _ _ from hown) _) _ 3 3 [.int .u8 37, .int .u8 ((hexC (v >>> 4)).toNat : Int), .int .u8 ((hexC (v &&& 15)).toNat : Int)] rfl hr8 (bcs_one [37, hexC (v >>> 4), hexC (v &&& 15)]) hE (by omega) (by decide) ?_; intro A2 c2 w3 hown3 hb3 hle3
        refine hK.out _ _ ?_ (fun hHeld => ?_)
        · (try dsimp only); (try trivial)
        clear hK K
        (try simp only [Act.put, List.setIfInBounds_toArray, List.set_cons_zero, List.set_cons_succ])
        refine wpAnyH_take (i := 9) (oi := { dst := some 6, op := _, type := _, pos := _, after := _, guard := _ }) (v := ?_) rfl (by kernel_rfl) (by kernel_rfl) (by kernel_rfl) (fun _ _ _ h => h) (Or.inl ⟨by rfl, ?_⟩) (by assumption) ?_
        rotate_left
        · (intro w hSw; (try dsimp only at hSw); go_simp; (try with_reducible rfl))
        (try simp only [Act.put, List.setIfInBounds_toArray, List.set_cons_zero, List.set_cons_succ])
        refine wpAnyH_done (by kernel_rfl) ?_ _
        go_wp2_with fail
        go_roundw
        case rel => exact ⟨k + 3, o ++ [37, hexC (v >>> 4), hexC (v &&& 15)], A2, c2, m + 3, by omega, by go_num, rfl, by rw [bcs_app]; exact hown3, hle3, by omega, HP.out, hb3⟩
        case measure => simp [intOf]; omega
    · obtain rfl : k = s.size := by omega
      have HR := Lib.hid (Hen.out o Hat.out)
      have hcv := conv_own (X := ⟨o.toArray⟩) (by rw [bcs_by]; exact hown)
      clear hlt hk hown
      go_wp2_with fail
      go_ret2
      exact ⟨ret_v55 (by rw [HR.out]; rfl), hbr⟩
end Go.Proofs.YtmckbcbdnckngaaGreatDoor

namespace Go.Proofs.YtmckbcbdnckngaaGreatDoor
open Go.RowKit

theorem own_shrink {w : World} {base e n c : Nat} {A : Option Addr} {xs : List Value} (h : w.ownsRow base e 1 (.slice A (n + 1) c) (n + 1) xs) : w.ownsRow base e 1 (.slice A n c) n xs.dropLast := by
  have hl := h.1
  refine ⟨by rw [List.length_dropLast]; omega, ?_⟩
  rcases h.2 with ⟨hv, h0⟩ | ⟨g, cap, cur, hv, hb, hg, hle, hm, hs, ht⟩
  · omega
  · obtain ⟨rfl, -, rfl⟩ := slice_inj hv
    refine .inr ⟨g, c, cur, rfl, hb, hg, by omega, hm, hs, ?_⟩
    rw [← ht, List.dropLast_eq_take, List.take_take]
    congr 1
    have : (cur.toList.take ((n + 1) * 1)).length = n + 1 := by rw [ht]; omega
    omega
/-- An address as a value. -/
def adrA (o : Option Adr) : Array Value := match o with
  | some a => #[.string ⟨a.host.toArray⟩, .string ⟨a.path.toArray⟩, .string ⟨a.query.toArray⟩, .bool a.has]
  | none => #[.string ⟨#[]⟩, .string ⟨#[]⟩, .string ⟨#[]⟩, .bool false]
theorem mk_app (a b : Bs) : (⟨(a ++ b).toArray⟩ : ByteArray) = ⟨a.toArray⟩ ++ ⟨b.toArray⟩ := by
  apply bytes_ext; rw [data_append]; (try simp)
set_option maxHeartbeats 4000000 in
set_option maxRecDepth 100000 in
theorem adr_text (h p q : ByteArray) (has : Bool) (w : World) (hs : h.size + p.size + q.size ≤ 100000000000000) :
    Calls Tryz.prog 98 #[.agg #[.string h, .string p, .string q, .bool has]] w fun e w' => e = .returned (.string (if has then h ++ p ++ ⟨#[63]⟩ ++ q else h ++ p)) ∧ Ext w w' := by
  have h1 : ∀ w, (Op.stringOp .add h p).run Tryz.prog w = .ok (.string (h ++ p)) w := fun w => run_string_add_sum w _ _ (by omega)
  have h2 : ∀ w, (Op.stringOp .add (h ++ p) ⟨#[63]⟩).run Tryz.prog w = .ok (.string (h ++ p ++ ⟨#[63]⟩)) w := fun w => run_string_add_sum w _ _ (by rw [ByteArray.size_append, show (⟨#[63]⟩ : ByteArray).size = 1 from rfl]; omega)
  have h3 : ∀ w, (Op.stringOp .add (h ++ p ++ ⟨#[63]⟩) q).run Tryz.prog w = .ok (.string (h ++ p ++ ⟨#[63]⟩ ++ q)) w := fun w => run_string_add_sum w _ _ (by rw [ByteArray.size_append, ByteArray.size_append, show (⟨#[63]⟩ : ByteArray).size = 1 from rfl]; omega)
  cases has
  · go_enter Tryz.func98, Tryz.ntmps98
    go_wp2_with fail
    go_ret
    exact ⟨rfl, (Ext.refl w).alloc _⟩
  · go_enter Tryz.func98, Tryz.ntmps98
    go_wp2_with fail
    go_ret
    exact ⟨rfl, (Ext.refl w).alloc _⟩
theorem text_eq (a : Adr) : (if a.has then (⟨a.host.toArray⟩ : ByteArray) ++ ⟨a.path.toArray⟩ ++ ⟨#[63]⟩ ++ ⟨a.query.toArray⟩ else ⟨a.host.toArray⟩ ++ ⟨a.path.toArray⟩) = ⟨(adText a).toArray⟩ := by
  unfold adText
  cases a.has
  · rw [if_neg (by simp), if_neg (by simp), mk_app]
  · rw [if_pos rfl, if_pos rfl, mk_app, mk_app, show (63 :: a.query : Bs) = [63] ++ a.query from rfl, mk_app]
    apply bytes_ext
    simp [data_append]
end Go.Proofs.YtmckbcbdnckngaaGreatDoor

namespace Go.Proofs.YtmckbcbdnckngaaGreatDoor
open Go.RowKit

theorem str_Join (A : Option Addr) (n c : Nat) (ss : List ByteArray) (w : World) (h : RdS w A n ss) (hc : n ≤ c) (hT : totS ss + 2 * n ≤ 70368744177664) :
    Calls Tryz.prog 51 #[.slice A n c, .string ⟨#[44, 32]⟩] w fun e w' => e = .returned (.string (joinS ss)) ∧ Ext w w' := by
  have hl := h.lenS
  by_cases h0 : 0 < n
  · obtain ⟨b, o, rfl, hcell⟩ := h.2 (by simp; omega)
    have hbk : b < w.heap.size := World.block_lt_of_cell? w _ (hcell 0 (.string (ss[0]'(by omega))) (by simp [List.getElem?_eq_getElem (show 0 < ss.length by omega)]))
    have hj := joinL_len ss
    subst hl
    exact (Tryz.strings_Join b o c ss ⟨#[44, 32]⟩ w (fun j x hx => hcell j _ (by simp [hx])) hbk (by omega) hc (by simp only []; omega)).mono fun e w' hh => ⟨hh.1, hh.2⟩
  · obtain rfl : n = 0 := by omega
    obtain rfl : ss = [] := List.eq_nil_of_length_eq_zero hl
    exact (Tryz.strings_Join_none A c ⟨#[44, 32]⟩ w).mono fun e w' hh => ⟨hh.1, by rw [hh.2]; exact Ext.refl _⟩
end Go.Proofs.YtmckbcbdnckngaaGreatDoor

namespace Go.Proofs.YtmckbcbdnckngaaGreatDoor
open Go.RowKit

theorem str_Join1 (A : Option Addr) (n c : Nat) (ss : List ByteArray) (s : UInt8) (w : World) (h : RdS w A n ss) (hc : n ≤ c) (hT : totS ss + n ≤ 70368744177664) :
    Calls Tryz.prog 51 #[.slice A n c, .string ⟨#[s]⟩] w fun e w' => e = .returned (.string (jnS s ss)) ∧ Ext w w' := by
  have hl := h.lenS
  have he : (⟨(Lib.join (ss.map (·.data.toList)) [s]).toArray⟩ : ByteArray) = jnS s ss := by rw [jn_join]; rfl
  by_cases h0 : 0 < n
  · obtain ⟨b, o, rfl, hcell⟩ := h.2 (by simp; omega)
    have hbk : b < w.heap.size := World.block_lt_of_cell? w _ (hcell 0 (.string (ss[0]'(by omega))) (by simp [List.getElem?_eq_getElem (show 0 < ss.length by omega)]))
    have hj := jnS_size s ss
    have hj2 : (Lib.join (ss.map (·.data.toList)) [s]).length ≤ totS ss + ss.length := by
      have : (jnS s ss).size = (Lib.join (ss.map (·.data.toList)) [s]).length := by rw [← he]; show (List.toArray _).size = _; simp
      omega
    subst hl
    rw [← he]
    exact (Tryz.strings_Join b o c ss ⟨#[s]⟩ w (fun j x hx => hcell j _ (by simp [hx])) hbk (by omega) hc (by simp only []; omega)).mono fun e w' hh => ⟨hh.1, hh.2⟩
  · obtain rfl : n = 0 := by omega
    obtain rfl : ss = [] := List.eq_nil_of_length_eq_zero hl
    exact (Tryz.strings_Join_none A c ⟨#[s]⟩ w).mono fun e w' hh => ⟨hh.1, by rw [hh.2]; exact Ext.refl _⟩
end Go.Proofs.YtmckbcbdnckngaaGreatDoor

namespace Go.Proofs.YtmckbcbdnckngaaGreatDoor
open Go.RowKit


theorem small_hi {fs : List Fd} (h : 70 < fs.length) : false = smallS fs := by unfold smallS; rw [decide_eq_false (by omega)]; simp
theorem small_lo {fs : List Fd} {b : Bool} (h : fs.length ≤ 70) (hb : decide ((sumF fs : Int) ≤ 6000) = b) : b = smallS fs := by
  unfold smallS; rw [decide_eq_true h, ← hb, Bool.true_and]; apply decide_eq_decide.2; omega

set_option maxHeartbeats 1000000 in
theorem base_Texts (A A2 : Option Addr) (n c n2 c2 : Nat) (xs ys : List ByteArray) (w : World) (hx : RdS w A n xs) (hy : RdS w A2 n2 ys) (hn : n ≤ 9223372036854775807) (hn2 : n2 ≤ 9223372036854775807) :
    Calls Tryz.prog 71 #[.slice A n c, .slice A2 n2 c2] w fun e w' => e = .returned (.bool (decide (xs = ys))) ∧ Ext w w' := by
  have hl := hx.lenS
  have hl2 := hy.lenS
  by_cases hnn : n = n2
  · subst hnn
    go_enter Tryz.func71, Tryz.ntmps71
    have Hl := Lib.hid hl; clear hl
    have Hl2 := Lib.hid hl2; clear hl2
    go_wp2_with fail
    go_loopw [13] (fun i wr => ∃ k, k ≤ n ∧ i = .int .i64 (k : Nat) ∧ xs.take k = ys.take k ∧ Ext w wr) (fun i _ => n - (intOf i).toNat)
    case atStart => exact ⟨0, Nat.zero_le _, rfl, rfl, Ext.refl _⟩
    case round =>
      obtain ⟨k, hk, rfl, heq, hbr⟩ := hrel
      have Heq := Lib.hid heq; clear heq
      by_cases hlt : k < n
      · have hlt1 : k < xs.length := by have := Hl.out; omega
        have hlt2 : k < ys.length := by have := Hl2.out; omega
        obtain ⟨b, o, rfl, hc0⟩ := (hx.ext hbr).atS hlt1
        obtain ⟨b2, o2, rfl, hc1⟩ := (hy.ext hbr).atS hlt2
        by_cases he : xs[k] = ys[k]
        · have Hst := Lib.hid (take_eq_step hlt1 hlt2 Heq.out he)
          have hd : (xs[k].toList == ys[k].toList) = true := eqS_iff.2 he
          clear he
          generalize xs[k] = x at *
          generalize ys[k] = y at *
          have hk2 : (k : Int) < (n : Int) := by omega
          go_wp2_with fail
          go_quiet (fail)
          go_wp2
          go_roundw
          case rel => exact ⟨k + 1, by omega, by go_num, Hst.out, hbr.drewN _⟩
          case measure => simp [intOf]; omega
        · have Hst := Lib.hid (ne_of_at hlt1 hlt2 he)
          have hd : (xs[k].toList == ys[k].toList) = false := by
            rw [Bool.eq_false_iff]; exact fun h => he (eqS_iff.1 h)
          clear he
          generalize xs[k] = x at *
          generalize ys[k] = y at *
          have hk2 : (k : Int) < (n : Int) := by omega
          go_wp2_with fail
          go_quiet (fail)
          go_wp2
          go_ret
          exact ⟨congrArg (fun x => Ending.returned (.bool x)) (decide_eq_false Hst.out).symm, hbr.drewN _⟩
      · obtain rfl : k = n := by omega
        have he : xs = ys := by
          have := Heq.out
          rwa [List.take_of_length_le (by have := Hl.out; omega), List.take_of_length_le (by have := Hl2.out; omega)] at this
        go_wp2
        go_ret
        exact ⟨congrArg (fun x => Ending.returned (.bool x)) (decide_eq_true he).symm, hbr⟩
  · have he : xs ≠ ys := by intro h; subst h; omega
    go_enter Tryz.func71, Tryz.ntmps71
    have Hl := Lib.hid hl; clear hl
    have Hl2 := Lib.hid hl2; clear hl2
    go_wp2
    go_ret
    exact ⟨congrArg (fun x => Ending.returned (.bool x)) (decide_eq_false he).symm, Ext.refl _⟩
end Go.Proofs.YtmckbcbdnckngaaGreatDoor

namespace Go.Proofs.YtmckbcbdnckngaaGreatDoor
open Go.RowKit

theorem inB_m1 : inB ⟨#[33, 36, 38, 39, 40, 41, 42, 43, 44, 59, 61, 58, 64, 47]⟩ = markC := by
  funext c
  have h : ∀ n : Fin 256, inB ⟨#[33, 36, 38, 39, 40, 41, 42, 43, 44, 59, 61, 58, 64, 47]⟩ (UInt8.ofFin n) = markC (UInt8.ofFin n) := by decide +kernel
  have := h c.toFin
  simpa only [UInt8.ofFin_toFin] using this
theorem inB_m2 : inB ⟨#[33, 36, 38, 39, 40, 41, 42, 43, 44, 59, 61, 58, 64, 47, 63]⟩ = markQ := by
  funext c
  have h : ∀ n : Fin 256, inB ⟨#[33, 36, 38, 39, 40, 41, 42, 43, 44, 59, 61, 58, 64, 47, 63]⟩ (UInt8.ofFin n) = markQ (UInt8.ofFin n) := by decide +kernel
  have := h c.toFin
  simpa only [UInt8.ofFin_toFin] using this
theorem can_len {oth : UInt8 → Bool} : ∀ (n : Nat) (l r : Bs), l.length ≤ n → canL oth l = some r → r.length ≤ l.length := by
  intro n
  induction n with
  | zero =>
    intro l r hl h
    match l, hl with
    | [], _ => unfold canL at h; injection h with h; subst h; exact Nat.le_refl _
  | succ n ih =>
    intro l r hl h
    match l, hl with
    | [], _ => unfold canL at h; injection h with h; subst h; exact Nat.le_refl _
    | c :: l, hl =>
      have hl' : l.length ≤ n := by simpa using hl
      unfold canL at h
      by_cases hc : c ≠ 37
      · rw [if_pos hc] at h
        split at h
        · cases hx : canL oth l with
          | none => rw [hx] at h; cases h
          | some q => rw [hx] at h; injection h with h; subst h; have := ih l q hl' hx; simp; omega
        · cases h
      · rw [if_neg hc] at h
        match l, hl' with
        | [], _ => cases h
        | [_], _ => cases h
        | a :: b :: q, hl' =>
          have hq : q.length ≤ n := by simp at hl'; omega
          dsimp only at h
          split at h
          · cases h
          · split at h
            · cases h
            · split at h
              · cases hx : canL oth q with
                | none => rw [hx] at h; cases h
                | some z => rw [hx] at h; injection h with h; subst h; have := ih q z hq hx; simp; omega
              · cases hx : canL oth q with
                | none => rw [hx] at h; cases h
                | some z => rw [hx] at h; injection h with h; subst h; have := ih q z hq hx; simp; omega
theorem can_slash {l p : Bs} (h : canL markC (47 :: l) = some p) : ∃ q, p = 47 :: q := by
  unfold canL at h
  rw [if_pos (by decide), if_pos (by decide)] at h
  cases hx : canL markC l with
  | none => rw [hx] at h; cases h
  | some q => rw [hx] at h; injection h with h; exact ⟨q, h.symm⟩
theorem sp_lens (c : UInt8) : ∀ (l : Bs), ∀ s ∈ spL c l, s.length ≤ l.length
  | [] => fun s hs => by simp [spL] at hs; subst hs; exact Nat.le_refl _
  | x :: l => fun s hs => by
    have ih := sp_lens c l
    unfold spL at hs
    by_cases hx : x = c
    · rw [if_pos hx] at hs
      rcases List.mem_cons.1 hs with rfl | hs
      · exact Nat.zero_le _
      · have := ih s hs; simp; omega
    · rw [if_neg hx] at hs
      cases hl : spL c l with
      | nil => exact absurd hl (sp_ne c l)
      | cons h t =>
        rw [hl] at hs
        rcases List.mem_cons.1 hs with rfl | hs
        · have := ih h (by rw [hl]; exact List.mem_cons_self ..); simp; omega
        · have := ih s (by rw [hl]; exact List.mem_cons_of_mem _ hs); simp; omega
theorem cut_lens (c : UInt8) : ∀ (l : Bs), (cutL c l).1.length + (cutL c l).2.1.length ≤ l.length
  | [] => Nat.le_refl _
  | x :: l => by
    have ih := cut_lens c l
    unfold cutL
    split
    · simp
    · simp only [List.length_cons]; omega
/-! What Parse says, step by step. -/
theorem adP_host {ho ta : Bs} (h : hostL ho = none) : adP ho ta = none := by unfold adP; rw [h]
theorem adP_slash {ho ta h : Bs} (h1 : hostL ho = some h) (h2 : (cutL 63 ta).1.head? ≠ some 47) : adP ho ta = none := by unfold adP; rw [h1]; exact if_pos h2
theorem adP_can {ho ta h : Bs} (h1 : hostL ho = some h) (h2 : canL markC (cutL 63 ta).1 = none ∨ canL markQ (cutL 63 ta).2.1 = none) : adP ho ta = none := by
  unfold adP; rw [h1]
  dsimp only
  split
  · rfl
  · rcases h2 with h2 | h2
    · rw [h2]
    · rw [h2]; cases canL markC (cutL 63 ta).1 <;> rfl
theorem adP_seg {ho ta h p q : Bs} (h1 : hostL ho = some h) (h2 : (cutL 63 ta).1.head? = some 47) (hp : canL markC (cutL 63 ta).1 = some (47 :: p)) (hq : canL markQ (cutL 63 ta).2.1 = some q) :
    adP ho ta = match segF [] (spL 47 p) with
      | none => none
      | some left => if (adText ⟨h, 47 :: jnL 47 left, q, (cutL 63 ta).2.2⟩).length ≤ 1024 then some ⟨h, 47 :: jnL 47 left, q, (cutL 63 ta).2.2⟩ else none := by
  unfold adP; rw [h1]
  dsimp only
  rw [if_neg (by rw [h2]; simp), hp, hq]
  rfl
/-! The segments, over byte strings. -/
def sgB (LB R : List ByteArray) : Option (List Bs) := segF (LB.map bsL) (R.map bsL)
def dotB : ByteArray := ⟨#[46]⟩
def dotsB : ByteArray := ⟨#[46, 46]⟩
theorem bs_inj {a b : ByteArray} (h : bsL a = bsL b) : a = b := bytes_ext h
theorem drop_empty {V : List ByteArray} {k : Nat} (hk : k < V.length) : ((V.drop (k + 1)).map bsL).isEmpty = decide (k + 1 = V.length) := by
  rw [List.isEmpty_map]
  by_cases hl : k + 1 = V.length
  · rw [decide_eq_true hl, List.isEmpty_iff, List.drop_eq_nil_iff]; omega
  · rw [decide_eq_false hl, Bool.eq_false_iff, ne_eq, List.isEmpty_iff, List.drop_eq_nil_iff]; omega
theorem sgB_dot {LB V : List ByteArray} {k : Nat} (hk : k < V.length) (h : V[k] = dotB) : sgB LB (V.drop k) = sgB (if k + 1 = V.length then LB ++ [⟨#[]⟩] else LB) (V.drop (k + 1)) := by
  unfold sgB
  rw [List.drop_eq_getElem_cons hk, List.map_cons, h]
  conv => lhs; unfold segF
  rw [if_pos (show bsL dotB = dotL from rfl), drop_empty hk]
  by_cases hl : k + 1 = V.length
  · rw [decide_eq_true hl, if_pos rfl, if_pos hl, List.map_append]; rfl
  · rw [decide_eq_false hl, if_neg (by simp), if_neg hl]
theorem sgB_dots0 {V : List ByteArray} {k : Nat} (hk : k < V.length) (h : V[k] = dotsB) : sgB [] (V.drop k) = none := by
  unfold sgB
  rw [List.drop_eq_getElem_cons hk, List.map_cons, h]
  unfold segF
  rw [if_neg (show ¬ bsL dotsB = dotL by decide), if_pos (show bsL dotsB = dotsL from rfl)]
  rfl
theorem sgB_dots {LB V : List ByteArray} {k : Nat} (hk : k < V.length) (h : V[k] = dotsB) (h0 : LB ≠ []) : sgB LB (V.drop k) = sgB (if k + 1 = V.length then LB.dropLast ++ [⟨#[]⟩] else LB.dropLast) (V.drop (k + 1)) := by
  unfold sgB
  rw [List.drop_eq_getElem_cons hk, List.map_cons, h]
  conv => lhs; unfold segF
  rw [if_neg (show ¬ bsL dotsB = dotL by decide), if_pos (show bsL dotsB = dotsL from rfl), drop_empty hk]
  have h1 : (LB.map bsL).isEmpty = false := by cases LB with | nil => exact absurd rfl h0 | cons a b => rfl
  rw [h1, if_neg (by simp), List.map_dropLast.symm]
  by_cases hl : k + 1 = V.length
  · rw [decide_eq_true hl, if_pos rfl, if_pos hl, List.map_append]; rfl
  · rw [decide_eq_false hl, if_neg (by simp), if_neg hl]
theorem sgB_plain {LB V : List ByteArray} {k : Nat} (hk : k < V.length) (h1 : V[k] ≠ dotB) (h2 : V[k] ≠ dotsB) : sgB LB (V.drop k) = sgB (LB ++ [V[k]]) (V.drop (k + 1)) := by
  unfold sgB
  rw [List.drop_eq_getElem_cons hk, List.map_cons]
  conv => lhs; unfold segF
  have e1 : ¬ bsL V[k] = dotL := fun e => h1 (bs_inj (b := dotB) e)
  have e2 : ¬ bsL V[k] = dotsL := fun e => h2 (bs_inj (b := dotsB) e)
  rw [if_neg e1, if_neg e2, List.map_append]; rfl
theorem sgB_end (LB : List ByteArray) : sgB LB [] = some (LB.map bsL) := rfl
end Go.Proofs.YtmckbcbdnckngaaGreatDoor

namespace Go.Proofs.YtmckbcbdnckngaaGreatDoor
open Go.RowKit

theorem host_len {s h : Bs} (e : hostL s = some h) : h.length ≤ 100 := by
  unfold hostL at e
  split at e
  · rename_i hc
    rw [Bool.and_eq_true, decide_eq_true_eq] at hc
    injection e with e
    subst e
    rw [List.length_map]; exact hc.1
  · cases e
theorem totS_le : ∀ (l : List ByteArray) (B : Nat), (∀ x ∈ l, x.size ≤ B) → totS l ≤ l.length * B
  | [], _, _ => by simp [totS]
  | x :: l, B, h => by
    have h1 := h x (List.mem_cons_self ..)
    have h2 := totS_le l B (fun y hy => h y (List.mem_cons_of_mem _ hy))
    have : totS (x :: l) = x.size + totS l := by simp [totS]
    rw [this, List.length_cons, Nat.succ_mul]; omega
theorem dotB_1 : (dotB.toList == [46]) = true := by decide +kernel
theorem dotB_2 : (dotB.toList == [46, 46]) = false := by decide +kernel
theorem dotsB_1 : (dotsB.toList == [46]) = false := by decide +kernel
theorem dotsB_2 : (dotsB.toList == [46, 46]) = true := by decide +kernel
theorem ne_dot {x : ByteArray} (h : x ≠ dotB) : (x.toList == [46]) = false := by
  rw [Bool.eq_false_iff]; intro e
  exact h (bytes_ext (by rw [beq_iff_eq, ByteArray.toList_eq] at e; exact e))
theorem ne_dots {x : ByteArray} (h : x ≠ dotsB) : (x.toList == [46, 46]) = false := by
  rw [Bool.eq_false_iff]; intro e
  exact h (bytes_ext (by rw [beq_iff_eq, ByteArray.toList_eq] at e; exact e))
theorem infoStr55 : (Tryz.prog.info? 9).map (fun i => (i.zero, i.size, i.bytes)) = some (some (.string ⟨#[]⟩), 1, 16) := by kernel_rfl
theorem infoAd : (Tryz.prog.info? 123).map (·.size) = some 4 := by kernel_rfl
set_option maxHeartbeats 16000000 in
set_option maxRecDepth 100000 in
theorem adr_Parse (ho ta : ByteArray) (w : World) (hh : ho.size ≤ 1048576) (ht : ta.size ≤ 1048576) (hg : Gl w) :
    Calls Tryz.prog 79 #[.string ho, .string ta] w fun e w' => (∃ n, e = .returned (.tuple #[.agg (adrA (adP (bsL ho) (bsL ta))), errV n]) ∧ n < 1000 ∧ (n = 0 ↔ (adP (bsL ho) (bsL ta)).isSome = true)) ∧ Ext w w' := by
  have HH := Lib.hid (fun w' (h : Ext w w') => adr_Host ho w' hh (hg.ext h))
  have HC := Lib.hid (fun w' (h : Ext w w') => show Calls Tryz.prog 104 #[.string ta, .string ⟨#[63]⟩] w' fun e w'' => e = .returned (.tuple #[.string ⟨(cutL 63 (bsL ta)).1.toArray⟩, .string ⟨(cutL 63 (bsL ta)).2.1.toArray⟩, .bool (cutL 63 (bsL ta)).2.2]) ∧ Ext w' w'' from by
    obtain ⟨m, hm⟩ := hg.ext h
    refine (Tryz.strings_Cut ta ⟨#[63]⟩ m w' (by omega) hm).mono fun e w'' hh2 => ?_
    obtain ⟨he, n, rfl⟩ := hh2
    refine ⟨?_, (Ext.refl w').drewN n⟩
    rw [he, show (⟨#[63]⟩ : ByteArray).data.toList = [63] from rfl, cut_one]; rfl)
  have Hcl := Lib.hid (cut_lens 63 (bsL ta))
  have Htl := Lib.hid (show (bsL ta).length ≤ 1048576 by show ta.data.toList.length ≤ _; simpa using ht)
  have Ehost := Lib.hid (fun h => adP_host (ho := bsL ho) (ta := bsL ta) h)
  have Eslash := Lib.hid (fun h h1 h2 => adP_slash (ho := bsL ho) (ta := bsL ta) (h := h) h1 h2)
  have Ecan := Lib.hid (fun h h1 h2 => adP_can (ho := bsL ho) (ta := bsL ta) (h := h) h1 h2)
  have Eseg := Lib.hid (fun h p q h1 h2 h3 h4 => adP_seg (ho := bsL ho) (ta := bsL ta) (h := h) (p := p) (q := q) h1 h2 h3 h4)
  generalize adP (bsL ho) (bsL ta) = R at *
  have hB := Blk.new w 123 #[.string ⟨#[]⟩, .string ⟨#[]⟩, .string ⟨#[]⟩, .bool false]
  have HW := Lib.hid ((Ext.refl w).alloc (.cells #[.string ⟨#[]⟩, .string ⟨#[]⟩, .string ⟨#[]⟩, .bool false] 123))
  have Hb0 := Lib.hid (Nat.le_refl w.heap.size)
  have HHo := Lib.hid (show hostL (bsL ho) = hostL (bsL ho) from rfl)
  go_enter Tryz.func79, Tryz.ntmps79
  go_wp2_with fail
  refine (HH.out _ HW.out).mono ?_; rintro e w1 ⟨rfl, hb1⟩
  have HB := Lib.hid (fun w' (h : Ext (w.alloc (.cells #[.string ⟨#[]⟩, .string ⟨#[]⟩, .string ⟨#[]⟩, .bool false] 123)) w') => hB.ext h)
  clear hB
  generalize w.alloc (.cells #[.string ⟨#[]⟩, .string ⟨#[]⟩, .string ⟨#[]⟩, .bool false] 123) = W0 at *
  generalize hbb : w.heap.size = b0 at *
  have Hb0 := Lib.hid (Nat.le_of_eq hbb)
  clear hbb
  have hE := hb1
  cases hho : hostL (bsL ho) with
  | none =>
    have HR := Lib.hid (Ehost.out hho)
    rw [show hV none = .tuple #[.string ⟨#[]⟩, .iface 63 (.int .i64 8)] from rfl]
    go_wp2_with (first | (refine wpList_storeB rfl 123 (.tmp 4) (.tmp 25) rfl rfl b0 _ rfl rfl 123 _ (HB.out _ hE) infoAd rfl (by simp [Value.oneCell']) ?_; intro w9 hB9 hx9))
    have y0 : w9.cell? ⟨b0, 0, none⟩ = some (.string ⟨#[]⟩) := hB9.cell 0
    have y1 : w9.cell? ⟨b0, 1, none⟩ = some (.string ⟨#[]⟩) := hB9.cell 1
    have y2 : w9.cell? ⟨b0, 2, none⟩ = some (.string ⟨#[]⟩) := hB9.cell 2
    have y3 : w9.cell? ⟨b0, 3, none⟩ = some (.bool false) := hB9.cell 3
    exact bodyPost_ret (v := .tuple #[.agg #[.string ⟨#[]⟩, .string ⟨#[]⟩, .string ⟨#[]⟩, .bool false], errV 8]) (by simp [results, Tryz.results79, go_sem, y0, y1, y2, y3, errV]) rfl ⟨⟨8, by rw [HR.out]; rfl, by decide, by rw [HR.out]; simp⟩, (HW.out.trans hE).growB hx9 Hb0.out⟩
  | some h =>
    rw [show hV (some h) = .tuple #[.string ⟨h.toArray⟩, .nilIface] from rfl]
    go_wp2_with fail
    refine (HC.out _ (HW.out.trans hE)).mono ?_; rintro e w2 ⟨rfl, hb2⟩
    replace hE := hE.trans hb2
    have Hhl := Lib.hid (host_len hho)
    have Eslash := Lib.hid (Eslash.out h hho); have Ecan := Lib.hid (Ecan.out h hho); have Eseg := Lib.hid (fun p q => Eseg.out h p q hho)
    clear hho hb1 hb2 Ehost
    generalize (cutL 63 (bsL ta)).2.2 = has at *
    generalize (cutL 63 (bsL ta)).2.1 = qr at *
    generalize (cutL 63 (bsL ta)).1 = pr at *
    cases pr with
    | nil =>
      have HR := Lib.hid (Eslash.out (by simp))
      have e0 : (⟨([] : Bs).toArray⟩ : ByteArray).toList = [] := by rw [ByteArray.toList_eq]
      have e1 : (⟨([] : Bs).toArray⟩ : ByteArray).toList.isEmpty = true := by rw [e0]; rfl
      clear Ecan Eseg Eslash
      go_wp2_with (first | (refine wpList_storeB rfl 123 (.tmp 4) (.tmp 40) rfl rfl b0 _ rfl rfl 123 _ (HB.out _ hE) infoAd rfl (by simp [Value.oneCell']) ?_; intro w9 hB9 hx9))
      have y0 : w9.cell? ⟨b0, 0, none⟩ = some (.string ⟨#[]⟩) := hB9.cell 0
      have y1 : w9.cell? ⟨b0, 1, none⟩ = some (.string ⟨#[]⟩) := hB9.cell 1
      have y2 : w9.cell? ⟨b0, 2, none⟩ = some (.string ⟨#[]⟩) := hB9.cell 2
      have y3 : w9.cell? ⟨b0, 3, none⟩ = some (.bool false) := hB9.cell 3
      exact bodyPost_ret (v := .tuple #[.agg #[.string ⟨#[]⟩, .string ⟨#[]⟩, .string ⟨#[]⟩, .bool false], errV 27]) (by simp [results, Tryz.results79, go_sem, y0, y1, y2, y3, errV]) rfl ⟨⟨27, by rw [HR.out]; rfl, by decide, by rw [HR.out]; simp⟩, (HW.out.trans hE).growB hx9 Hb0.out⟩
    | cons x xs =>
      obtain ⟨P, hP⟩ : ∃ P : ByteArray, (⟨(x :: xs).toArray⟩ : ByteArray) = P := ⟨_, rfl⟩
      have hPl : bsL P = x :: xs := by rw [← hP]; rfl
      have hPs : P.size = xs.length + 1 := by rw [← hP]; show (x :: xs).toArray.size = _; simp
      have hP0 : P[0]'(by omega) = x := by subst hP; rfl
      have hne1 : P.toList.isEmpty = false := by rw [ByteArray.toList_eq, show P.data.toList = x :: xs from hPl]; rfl
      have hne2 : (P.toList == []) = false := by rw [ByteArray.toList_eq, show P.data.toList = x :: xs from hPl]; rfl
      have hlen := Hcl.out
      have HPl := Lib.hid (⟨hPl, hPs⟩ : _ ∧ _)
      rw [hP]
      cases hx : (((P[0]'(by omega)).toNat : Int) == 47)
      · have HR := Lib.hid (Eslash.out (by
          intro e
          injection e with e
          rw [hP0, e] at hx
          revert hx; decide))
        clear Ecan Eseg Eslash hP hPl hP0
        go_wp2_with (first | (refine wpList_storeB rfl 123 (.tmp 4) (.tmp 40) rfl rfl b0 _ rfl rfl 123 _ (HB.out _ hE) infoAd rfl (by simp [Value.oneCell']) ?_; intro w9 hB9 hx9))
        have y0 : w9.cell? ⟨b0, 0, none⟩ = some (.string ⟨#[]⟩) := hB9.cell 0
        have y1 : w9.cell? ⟨b0, 1, none⟩ = some (.string ⟨#[]⟩) := hB9.cell 1
        have y2 : w9.cell? ⟨b0, 2, none⟩ = some (.string ⟨#[]⟩) := hB9.cell 2
        have y3 : w9.cell? ⟨b0, 3, none⟩ = some (.bool false) := hB9.cell 3
        exact bodyPost_ret (v := .tuple #[.agg #[.string ⟨#[]⟩, .string ⟨#[]⟩, .string ⟨#[]⟩, .bool false], errV 27]) (by simp [results, Tryz.results79, go_sem, y0, y1, y2, y3, errV]) rfl ⟨⟨27, by rw [HR.out]; rfl, by decide, by rw [HR.out]; simp⟩, (HW.out.trans hE).growB hx9 Hb0.out⟩
      have hx47 : x = 47 := by rw [← hP0]; exact UInt8.toNat_inj.1 (by have h : ((P[0]'(by omega)).toNat : Int) = 47 := by simpa using hx
                                                                       show (P[0]'(by omega)).toNat = 47; omega)
      have HC1 := Lib.hid (fun w => adr_canonical P ⟨#[33, 36, 38, 39, 40, 41, 42, 43, 44, 59, 61, 58, 64, 47]⟩ w (by have := Htl.out; simp only [List.length_cons] at hlen; omega))
      rw [inB_m1, hPl] at HC1
      obtain ⟨Qq, hQ⟩ : ∃ Qq : ByteArray, (⟨qr.toArray⟩ : ByteArray) = Qq := ⟨_, rfl⟩
      have hQl : bsL Qq = qr := by rw [← hQ]; rfl
      have hQs : Qq.size = qr.length := by rw [← hQ]; show qr.toArray.size = _; simp
      rw [hQ]
      have HC2 := Lib.hid (fun w => adr_canonical Qq ⟨#[33, 36, 38, 39, 40, 41, 42, 43, 44, 59, 61, 58, 64, 47, 63]⟩ w (by have := Htl.out; simp only [List.length_cons] at hlen; omega))
      rw [inB_m2, hQl] at HC2
      clear hP hQ hP0 Eslash
      subst hx47
      go_wp2_with fail
      refine (HC1.out _).mono ?_; rintro e w3 ⟨rfl, hb3⟩
      replace hE := hE.trans hb3
      clear hb3 hne1 hne2
      cases hcp : canL markC (47 :: xs) with
      | none =>
        have HR := Lib.hid (Ecan.out (.inl hcp))
        rw [show cnV none = .tuple #[.string ⟨#[]⟩, .bool false] from rfl]
        go_wp2_with fail
        refine (HC2.out _).mono ?_; rintro e w4 ⟨rfl, hb4⟩
        replace hE := hE.trans hb4
        clear Ecan Eseg
        cases canL markQ qr with
        | none =>
          rw [show cnV none = .tuple #[.string ⟨#[]⟩, .bool false] from rfl]
          go_wp2_with (first | (refine wpList_storeB rfl 123 (.tmp 4) (.tmp 58) rfl rfl b0 _ rfl rfl 123 _ (HB.out _ hE) infoAd rfl (by simp [Value.oneCell']) ?_; intro w9 hB9 hx9))
          have y0 : w9.cell? ⟨b0, 0, none⟩ = some (.string ⟨#[]⟩) := hB9.cell 0
          have y1 : w9.cell? ⟨b0, 1, none⟩ = some (.string ⟨#[]⟩) := hB9.cell 1
          have y2 : w9.cell? ⟨b0, 2, none⟩ = some (.string ⟨#[]⟩) := hB9.cell 2
          have y3 : w9.cell? ⟨b0, 3, none⟩ = some (.bool false) := hB9.cell 3
          exact bodyPost_ret (v := .tuple #[.agg #[.string ⟨#[]⟩, .string ⟨#[]⟩, .string ⟨#[]⟩, .bool false], errV 27]) (by simp [results, Tryz.results79, go_sem, y0, y1, y2, y3, errV]) rfl ⟨⟨27, by rw [HR.out]; rfl, by decide, by rw [HR.out]; simp⟩, (HW.out.trans hE).growB hx9 Hb0.out⟩
        | some q =>
          rw [show cnV (some q) = .tuple #[.string ⟨q.toArray⟩, .bool true] from rfl]
          go_wp2_with (first | (refine wpList_storeB rfl 123 (.tmp 4) (.tmp 58) rfl rfl b0 _ rfl rfl 123 _ (HB.out _ hE) infoAd rfl (by simp [Value.oneCell']) ?_; intro w9 hB9 hx9))
          have y0 : w9.cell? ⟨b0, 0, none⟩ = some (.string ⟨#[]⟩) := hB9.cell 0
          have y1 : w9.cell? ⟨b0, 1, none⟩ = some (.string ⟨#[]⟩) := hB9.cell 1
          have y2 : w9.cell? ⟨b0, 2, none⟩ = some (.string ⟨#[]⟩) := hB9.cell 2
          have y3 : w9.cell? ⟨b0, 3, none⟩ = some (.bool false) := hB9.cell 3
          exact bodyPost_ret (v := .tuple #[.agg #[.string ⟨#[]⟩, .string ⟨#[]⟩, .string ⟨#[]⟩, .bool false], errV 27]) (by simp [results, Tryz.results79, go_sem, y0, y1, y2, y3, errV]) rfl ⟨⟨27, by rw [HR.out]; rfl, by decide, by rw [HR.out]; simp⟩, (HW.out.trans hE).growB hx9 Hb0.out⟩
      | some p =>
        obtain ⟨p2, rfl⟩ := can_slash hcp
        rw [show cnV (some (47 :: p2)) = .tuple #[.string ⟨(47 :: p2 : Bs).toArray⟩, .bool true] from rfl]
        go_wp2_with fail
        refine (HC2.out _).mono ?_; rintro e w4 ⟨rfl, hb4⟩
        replace hE := hE.trans hb4
        clear hb4
        cases hcq : canL markQ qr with
        | none =>
          have HR := Lib.hid (Ecan.out (.inr hcq))
          rw [show cnV none = .tuple #[.string ⟨#[]⟩, .bool false] from rfl]
          clear Ecan Eseg
          go_wp2_with (first | (refine wpList_storeB rfl 123 (.tmp 4) (.tmp 58) rfl rfl b0 _ rfl rfl 123 _ (HB.out _ hE) infoAd rfl (by simp [Value.oneCell']) ?_; intro w9 hB9 hx9))
          have y0 : w9.cell? ⟨b0, 0, none⟩ = some (.string ⟨#[]⟩) := hB9.cell 0
          have y1 : w9.cell? ⟨b0, 1, none⟩ = some (.string ⟨#[]⟩) := hB9.cell 1
          have y2 : w9.cell? ⟨b0, 2, none⟩ = some (.string ⟨#[]⟩) := hB9.cell 2
          have y3 : w9.cell? ⟨b0, 3, none⟩ = some (.bool false) := hB9.cell 3
          exact bodyPost_ret (v := .tuple #[.agg #[.string ⟨#[]⟩, .string ⟨#[]⟩, .string ⟨#[]⟩, .bool false], errV 27]) (by simp [results, Tryz.results79, go_sem, y0, y1, y2, y3, errV]) rfl ⟨⟨27, by rw [HR.out]; rfl, by decide, by rw [HR.out]; simp⟩, (HW.out.trans hE).growB hx9 Hb0.out⟩
        | some q =>
          rw [show cnV (some q) = .tuple #[.string ⟨q.toArray⟩, .bool true] from rfl]
          have ER := Lib.hid (Eseg.out p2 q rfl hcp hcq)
          have HlenP := Lib.hid (can_len _ _ _ (Nat.le_refl _) hcp)
          have HlenQ := Lib.hid (can_len _ _ _ (Nat.le_refl _) hcq)
          have Hlen := Lib.hid hlen
          clear Ecan Eseg hcp hcq HC1 HC2 hx
          obtain ⟨PP, hPP⟩ : ∃ PP : ByteArray, (⟨(47 :: p2 : Bs).toArray⟩ : ByteArray) = PP := ⟨_, rfl⟩
          have hPPl : bsL PP = 47 :: p2 := by rw [← hPP]; rfl
          have hPPs : PP.size = p2.length + 1 := by rw [← hPP]; show (47 :: p2 : Bs).toArray.size = _; simp
          have hP1 : bsL (PP.extract 1 PP.size) = p2 := by
            show (PP.extract 1 PP.size).data.toList = p2
            rw [← ByteArray.toList_eq, Lib.extract_toList, show PP.data.toList = 47 :: p2 from hPPl, List.drop_succ_cons, List.drop_zero, hPPs, show p2.length + 1 - 1 = p2.length by omega, List.take_length]
          have hp2 : p2.length ≤ 1048576 := by have h1 := HlenP.out; have h2 := Hlen.out; have h3 := Htl.out; simp only [List.length_cons] at h1 h2; omega
          have hq2 : q.length ≤ 1048576 := by have h1 := HlenQ.out; have h2 := Hlen.out; have h3 := Htl.out; simp only [List.length_cons] at h2; omega
          have hP1s : (PP.extract 1 PP.size).size = p2.length := by rw [ByteArray.size_extract]; omega
          rw [hPP]
          have HSp := Lib.hid (fun w' (h : Ext w w') => str_Split1 47 (PP.extract 1 PP.size) w' (by omega) (hg.ext h))
          have HVd := Lib.hid (spS_data 47 (PP.extract 1 PP.size))
          have HVn := Lib.hid (spS_le 47 (PP.extract 1 PP.size))
          rw [hP1] at HVd
          have HP2 := Lib.hid (⟨hp2, hq2, hP1s⟩ : _ ∧ _ ∧ _)
          have h1PP : 1 ≤ PP.size := by omega
          clear hPP hPPl hP1 hP1s hPPs
          go_wp2_with fail
          refine (HSp.out _ (HW.out.trans hE)).mono ?_; rintro e w5 ⟨n5, rfl, hr5, hb5⟩
          replace hE := hE.trans hb5
          generalize spS 47 (PP.extract 1 PP.size) = V at *
          have Hl5 := Lib.hid hr5.lenS
          have hn5 : n5 ≤ 1048577 := by have := Hl5.out; have := HVn.out; have := HP2.out.2.2; omega
          have HVs := Lib.hid (show ∀ y ∈ V, y.size ≤ 1048576 from fun y hy => by
            have h1 := sp_lens 47 p2 (bsL y) (by rw [← HVd.out]; exact List.mem_map.2 ⟨y, hy, rfl⟩)
            have h2 : (bsL y).length = y.size := by show y.data.toList.length = _; simp
            omega)
          have HS0 := Lib.hid (show sgB [] V = segF [] (spL 47 p2) by unfold sgB; rw [show V.map bsL = spL 47 p2 from HVd.out]; rfl)
          have ER2 := Lib.hid (show R = match sgB [] V with
            | none => none
            | some left => if (adText ⟨h, 47 :: jnL 47 left, q, has⟩).length ≤ 1024 then some ⟨h, 47 :: jnL 47 left, q, has⟩ else none from by rw [HS0.out]; exact ER.out)
          clear ER HS0 HVd HVn HSp hb5
          generalize w4.heap.size = b5 at *
          go_wp2_with fail
          go_loopw [13, 65] (fun v i wr => ∃ k LB A' c' m, k ≤ n5 ∧ i = .int .i64 (k : Nat) ∧ v = .slice A' m c' ∧ wr.ownsRow w5.heap.size 9 1 (.slice A' m c') m (strCells LB) ∧ m ≤ c' ∧ m ≤ k ∧ (∀ y ∈ LB, y.size ≤ 1048576) ∧ sgB LB (V.drop k) = sgB [] V ∧ Ext w5 wr) (fun _ i _ => n5 - (intOf i).toNat)
          case atStart => exact ⟨0, [], none, 0, 0, Nat.zero_le _, rfl, rfl, World.ownsRow_nil _ _ _ _, Nat.le_refl _, Nat.le_refl _, (fun y hy => by cases hy), rfl, Ext.refl _⟩
          case round =>
            obtain ⟨k, LB, A', c', m, hk, rfl, rfl, hown, hmc, hmk, hsz, hsg, hbr⟩ := hrel
            have hml : LB.length = m := by have := hown.1; simpa [strCells] using this
            have Hsz := Lib.hid hsz; have Hsg := Lib.hid hsg; have Hml := Lib.hid hml
            clear hsz hsg hml
            by_cases hlt : k < n5
            · have hlt' : k < V.length := by have := Hl5.out; omega
              obtain ⟨b, o, hbo, hc0⟩ := (hr5.ext hbr).atS hlt'
              injection hbo with hbo
              injection hbo with e1 e2
              subst e1; subst e2
              rw [Nat.zero_add] at hc0
              have hvs := HVs.out V[k] (List.getElem_mem hlt')
              have Hdot := Lib.hid (fun (hx : V[k] = dotB) => (sgB_dot (LB := LB) hlt' hx).symm.trans Hsg.out)
              have Hdd0 := Lib.hid (fun (hx : V[k] = dotsB) (h0 : LB = []) => show sgB [] V = none by subst h0; exact Hsg.out.symm.trans (sgB_dots0 hlt' hx))
              have Hdd := Lib.hid (fun (hx : V[k] = dotsB) (h0 : LB ≠ []) => (sgB_dots (LB := LB) hlt' hx h0).symm.trans Hsg.out)
              have Hpl := Lib.hid (fun (h1 : V[k] ≠ dotB) (h2 : V[k] ≠ dotsB) => (sgB_plain (LB := LB) hlt' h1 h2).symm.trans Hsg.out)
              have Hl6 := Lib.hid (show k + 1 = V.length ↔ k + 1 = n5 by rw [Hl5.out])
              have hml := Hml.out
              clear Hsg
              generalize V[k] = x at *
              have hwn : IntKind.i64.wrap ((n5 : Int) - 1) = (n5 : Int) - 1 := IntWalk.i64_in _ (by omega)
              by_cases hx1 : x = dotB
              · subst hx1
                have hz1 := dotB_1; have hz2 := dotB_2
                have Hn := Lib.hid (Hdot.out rfl)
                clear Hdot Hdd0 Hdd Hpl
                by_cases hlast : k + 1 = n5
                · have hq : ((k : Int) == (n5 : Int) - 1) = true := by rw [beq_iff_eq]; omega
                  have Hn2 := Lib.hid (show sgB (LB ++ [⟨#[]⟩]) (V.drop (k + 1)) = sgB [] V by have := Hn.out; rw [if_pos (Hl6.out.2 hlast)] at this; exact this)
                  have Hlast := Lib.hid hlast; clear hlast
                  clear Hn
                  go_wp2_with (first
                    | (at_builtin; refine wpList_app _ rfl (.tmp 95) (.tmp 96) 53 rfl w5 9 _ 1 16 Tryz.underlying53 infoStr55 rfl (by decide) _ _ _ rfl (hown.alloc _) _ 1 1 [.string ⟨#[]⟩] rfl (Rd.one _ _ _ (by simp)) (by intro u hu; simp at hu; subst hu; rfl) (hbr.alloc _) (by omega) (by decide) ?_; intro A7 c7 w7 hown7 hb7 hle7))
                  refine ⟨?rel, ?measure⟩
                  case rel => exact ⟨k + 1, LB ++ [⟨#[]⟩], A7, c7, m + 1, by omega, by go_num, rfl, by rw [show strCells (LB ++ [⟨#[]⟩]) = strCells LB ++ [.string ⟨#[]⟩] by simp [strCells]]; exact hown7, hle7, by omega, (fun y hy => (List.mem_append.1 hy).elim (Hsz.out y) (fun h2 => by rw [List.mem_singleton] at h2; subst h2; exact Nat.zero_le _)), Hn2.out, hb7⟩
                  case measure => simp [intOf]; omega
                · have hq : ((k : Int) == (n5 : Int) - 1) = false := by rw [beq_eq_false_iff_ne]; omega
                  have Hn2 := Lib.hid (show sgB LB (V.drop (k + 1)) = sgB [] V by have := Hn.out; rw [if_neg (fun e => hlast (Hl6.out.1 e))] at this; exact this)
                  clear Hn
                  go_wp2_with fail
                  refine ⟨?rel, ?measure⟩
                  case rel => exact ⟨k + 1, LB, A', c', m, by omega, by go_num, rfl, hown, hmc, by omega, Hsz.out, Hn2.out, hbr⟩
                  case measure => simp [intOf]; omega
              by_cases hx2 : x = dotsB
              · subst hx2
                have hz1 := dotsB_1; have hz2 := dotsB_2
                by_cases h0 : LB = []
                · have HR := Lib.hid (show R = none by rw [ER2.out, Hdd0.out rfl h0])
                  have hm0 : m = 0 := by rw [← hml, h0]; rfl
                  subst hm0
                  have hE := hE.trans hbr
                  clear Hdot Hdd0 Hdd Hpl ER2 h0
                  go_wp2_with (first | (refine wpList_storeB rfl 123 (.tmp 4) (.tmp 83) rfl rfl b0 _ rfl rfl 123 _ (HB.out _ hE) infoAd rfl (by simp [Value.oneCell']) ?_; intro w9 hB9 hx9))
                  have y0 : w9.cell? ⟨b0, 0, none⟩ = some (.string ⟨#[]⟩) := hB9.cell 0
                  have y1 : w9.cell? ⟨b0, 1, none⟩ = some (.string ⟨#[]⟩) := hB9.cell 1
                  have y2 : w9.cell? ⟨b0, 2, none⟩ = some (.string ⟨#[]⟩) := hB9.cell 2
                  have y3 : w9.cell? ⟨b0, 3, none⟩ = some (.bool false) := hB9.cell 3
                  exact bodyPost_ret (v := .tuple #[.agg #[.string ⟨#[]⟩, .string ⟨#[]⟩, .string ⟨#[]⟩, .bool false], errV 27]) (by simp [results, Tryz.results79, go_sem, y0, y1, y2, y3, errV]) rfl ⟨⟨27, by rw [HR.out]; rfl, by decide, by rw [HR.out]; simp⟩, (HW.out.trans hE).growB hx9 Hb0.out⟩
                have Hn := Lib.hid (Hdd.out rfl h0)
                obtain ⟨m', rfl⟩ : ∃ m', m = m' + 1 := ⟨m - 1, by have : 0 < LB.length := List.length_pos_iff.2 h0; omega⟩
                have hsh := own_shrink hown
                rw [show (strCells LB).dropLast = strCells LB.dropLast by simp [strCells, List.map_dropLast]] at hsh
                obtain ⟨g, hA⟩ : ∃ g, A' = some ⟨g, 0, none⟩ := by
                  rcases hown.2 with ⟨_, h0'⟩ | ⟨g, _, _, hv, _⟩
                  · omega
                  · exact ⟨g, (slice_inj hv).1⟩
                subst hA
                have hwm : IntKind.i64.wrap (((m' + 1 : Nat) : Int) - 1) = (m' : Int) := by rw [IntWalk.i64_in _ (by omega)]; omega
                have Hsz2 := Lib.hid (show ∀ y ∈ LB.dropLast, y.size ≤ 1048576 from fun y hy => Hsz.out y (List.dropLast_subset _ hy))
                clear Hdot Hdd0 Hdd Hpl hown h0
                by_cases hlast : k + 1 = n5
                · have hq : ((k : Int) == (n5 : Int) - 1) = true := by rw [beq_iff_eq]; omega
                  have Hn2 := Lib.hid (show sgB (LB.dropLast ++ [⟨#[]⟩]) (V.drop (k + 1)) = sgB [] V by have := Hn.out; rw [if_pos (Hl6.out.2 hlast)] at this; exact this)
                  clear Hn hlast
                  go_wp2_with (first
                    | (at_builtin; refine wpList_app _ rfl (.tmp 95) (.tmp 96) 53 rfl w5 9 _ 1 16 Tryz.underlying53 infoStr55 rfl (by decide) _ _ _ rfl (hsh.alloc _) _ 1 1 [.string ⟨#[]⟩] rfl (Rd.one _ _ _ (by simp)) (by intro u hu; simp at hu; subst hu; rfl) (hbr.alloc _) (by omega) (by decide) ?_; intro A7 c7 w7 hown7 hb7 hle7))
                  refine ⟨?rel, ?measure⟩
                  case rel => exact ⟨k + 1, LB.dropLast ++ [⟨#[]⟩], A7, c7, m' + 1, by omega, by go_num, rfl, by rw [show strCells (LB.dropLast ++ [⟨#[]⟩]) = strCells LB.dropLast ++ [.string ⟨#[]⟩] by simp [strCells]]; exact hown7, hle7, by omega, (fun y hy => (List.mem_append.1 hy).elim (Hsz2.out y) (fun h2 => by rw [List.mem_singleton] at h2; subst h2; exact Nat.zero_le _)), Hn2.out, hb7⟩
                  case measure => simp [intOf]; omega
                · have hq : ((k : Int) == (n5 : Int) - 1) = false := by rw [beq_eq_false_iff_ne]; omega
                  have Hn2 := Lib.hid (show sgB LB.dropLast (V.drop (k + 1)) = sgB [] V by have := Hn.out; rw [if_neg (fun e => hlast (Hl6.out.1 e))] at this; exact this)
                  clear Hn
                  go_wp2_with fail
                  refine ⟨?rel, ?measure⟩
                  case rel => exact ⟨k + 1, LB.dropLast, some ⟨g, 0, none⟩, c', m', by omega, by go_num, rfl, hsh, by omega, by omega, Hsz2.out, Hn2.out, hbr⟩
                  case measure => simp [intOf]; omega
              have hz1 := ne_dot hx1; have hz2 := ne_dots hx2
              have Hn := Lib.hid (Hpl.out hx1 hx2)
              clear Hdot Hdd0 Hdd Hpl hx1 hx2
              go_wp2_with (first
                | (at_builtin; refine wpList_app _ rfl (.tmp 71) (.tmp 73) 53 rfl w5 9 _ 1 16 Tryz.underlying53 infoStr55 rfl (by decide) _ _ _ rfl (hown.alloc _) _ 1 1 [.string x] rfl (Rd.one _ _ _ (by simp)) (by intro u hu; simp at hu; subst hu; rfl) (hbr.alloc _) (by omega) (by decide) ?_; intro A7 c7 w7 hown7 hb7 hle7))
              refine ⟨?rel, ?measure⟩
              case rel => exact ⟨k + 1, LB ++ [x], A7, c7, m + 1, by omega, by go_num, rfl, by rw [show strCells (LB ++ [x]) = strCells LB ++ [.string x] by simp [strCells]]; exact hown7, hle7, by omega, (fun y hy => (List.mem_append.1 hy).elim (Hsz.out y) (fun h2 => by rw [List.mem_singleton] at h2; subst h2; exact hvs)), Hn.out, hb7⟩
              case measure => simp [intOf]; omega
            · obtain rfl : k = n5 := by omega
              have HsR := Lib.hid (show sgB [] V = some (LB.map bsL) by rw [← Hsg.out, List.drop_of_length_le (by have := Hl5.out; omega)]; rfl)
              obtain ⟨a, ha⟩ : ∃ a : Adr, (⟨h, 47 :: jnL 47 (LB.map bsL), q, has⟩ : Adr) = a := ⟨_, rfl⟩
              have HRa := Lib.hid (show R = if (adText a).length ≤ 1024 then some a else none by rw [ER2.out, HsR.out, ← ha])
              have htot := totS_le LB 1048576 Hsz.out
              have hml := Hml.out
              have hjs := jnS_size 47 LB
              have hmul : LB.length * 1048576 ≤ 1048577 * 1048576 := Nat.mul_le_mul_right _ (by omega)
              have HJ := Lib.hid (str_Join1 A' m c' LB 47 wr (by have := Rd.of_own hown; exact this) hmc (by omega))
              have hpath : (⟨#[47]⟩ : ByteArray) ++ jnS 47 LB = ⟨a.path.toArray⟩ := by
                rw [← ha]
                apply bytes_ext
                rw [data_append]
                show [47] ++ (jnL 47 (LB.map (·.data.toList))).toArray.toList = (47 :: jnL 47 (LB.map bsL) : Bs).toArray.toList
                simp; rfl
              have hadd : ∀ w, (Op.stringOp .add ⟨#[47]⟩ (jnS 47 LB)).run Tryz.prog w = .ok (.string ⟨a.path.toArray⟩) w := fun w => by
                rw [← hpath]
                exact run_string_add_sum w _ _ (by rw [show (⟨#[47]⟩ : ByteArray).size = 1 from rfl]; omega)
              have hps : (⟨a.path.toArray⟩ : ByteArray).size ≤ 2000000000000 := by
                rw [← hpath, ByteArray.size_append, show (⟨#[47]⟩ : ByteArray).size = 1 from rfl]; omega
              have hah : a.host = h := by rw [← ha]
              have haq : a.query = q := by rw [← ha]
              have has' : a.has = has := by rw [← ha]
              clear ha hpath
              subst hah; subst haq; subst has'
              have hhl := Hhl.out
              have HA := Lib.hid (fun w' => adr_text ⟨a.host.toArray⟩ ⟨a.path.toArray⟩ ⟨a.query.toArray⟩ a.has w' (by
                have h1 : (⟨a.host.toArray⟩ : ByteArray).size = a.host.length := by show (List.toArray _).size = _; simp
                have h2 : (⟨a.query.toArray⟩ : ByteArray).size = a.query.length := by show (List.toArray _).size = _; simp
                have h3 := HP2.out.2.1
                omega))
              rw [text_eq a] at HA
              obtain ⟨T, hT⟩ : ∃ T : ByteArray, (⟨(adText a).toArray⟩ : ByteArray) = T := ⟨_, rfl⟩
              have hTs : T.size = (adText a).length := by rw [← hT]; show (List.toArray _).size = _; simp
              rw [hT] at HA
              have HTs := Lib.hid hTs
              clear hT hTs hps htot hmul hjs hhl hml
              go_wp2_with fail
              refine HJ.out.mono ?_; rintro e w6 ⟨rfl, hb6⟩
              have hE := hE.trans (hbr.trans hb6)
              have HX := Lib.hid (Blk.new w6 123 #[.string ⟨a.host.toArray⟩, .string ⟨a.path.toArray⟩, .string ⟨a.query.toArray⟩, .bool a.has])
              go_wp2_with fail
              refine (HA.out _).mono ?_; rintro e w7 ⟨rfl, hb7⟩
              have hE := (hE.alloc (.cells #[.string ⟨a.host.toArray⟩, .string ⟨a.path.toArray⟩, .string ⟨a.query.toArray⟩, .bool a.has] 123)).trans hb7
              have x0 : w7.cell? ⟨w6.heap.size, 0, none⟩ = some (.string ⟨a.host.toArray⟩) := (HX.out.ext hb7).cell 0
              have x1 : w7.cell? ⟨w6.heap.size, 1, none⟩ = some (.string ⟨a.path.toArray⟩) := (HX.out.ext hb7).cell 1
              have x2 : w7.cell? ⟨w6.heap.size, 2, none⟩ = some (.string ⟨a.query.toArray⟩) := (HX.out.ext hb7).cell 2
              have x3 : w7.cell? ⟨w6.heap.size, 3, none⟩ = some (.bool a.has) := (HX.out.ext hb7).cell 3
              by_cases hlong : 1024 < T.size
              · have HR := Lib.hid (show R = none by rw [HRa.out, if_neg (by have := HTs.out; omega)])
                go_wp2_with (first | (refine wpList_storeB rfl 123 (.tmp 4) (.tmp 110) rfl rfl b0 _ rfl rfl 123 _ (HB.out _ hE) infoAd rfl (by simp [Value.oneCell']) ?_; intro w9 hB9 hx9))
                have y0 : w9.cell? ⟨b0, 0, none⟩ = some (.string ⟨#[]⟩) := hB9.cell 0
                have y1 : w9.cell? ⟨b0, 1, none⟩ = some (.string ⟨#[]⟩) := hB9.cell 1
                have y2 : w9.cell? ⟨b0, 2, none⟩ = some (.string ⟨#[]⟩) := hB9.cell 2
                have y3 : w9.cell? ⟨b0, 3, none⟩ = some (.bool false) := hB9.cell 3
                exact bodyPost_ret (v := .tuple #[.agg #[.string ⟨#[]⟩, .string ⟨#[]⟩, .string ⟨#[]⟩, .bool false], errV 5]) (by simp [results, Tryz.results79, go_sem, y0, y1, y2, y3, errV]) rfl ⟨⟨5, by rw [HR.out]; rfl, by decide, by rw [HR.out]; simp⟩, (HW.out.trans hE).growB hx9 Hb0.out⟩
              have HR := Lib.hid (show R = some a by rw [HRa.out, if_pos (by have := HTs.out; omega)])
              go_wp2_with (first | (refine wpList_storeB rfl 123 (.tmp 4) (.tmp 112) rfl rfl b0 _ rfl rfl 123 _ (HB.out _ hE) infoAd rfl (by simp [Value.oneCell']) ?_; intro w9 hB9 hx9))
              have y0 : w9.cell? ⟨b0, 0, none⟩ = some (.string ⟨a.host.toArray⟩) := hB9.cell 0
              have y1 : w9.cell? ⟨b0, 1, none⟩ = some (.string ⟨a.path.toArray⟩) := hB9.cell 1
              have y2 : w9.cell? ⟨b0, 2, none⟩ = some (.string ⟨a.query.toArray⟩) := hB9.cell 2
              have y3 : w9.cell? ⟨b0, 3, none⟩ = some (.bool a.has) := hB9.cell 3
              exact bodyPost_ret (v := .tuple #[.agg #[.string ⟨a.host.toArray⟩, .string ⟨a.path.toArray⟩, .string ⟨a.query.toArray⟩, .bool a.has], errV 0]) (by simp [results, Tryz.results79, go_sem, y0, y1, y2, y3, errV]) rfl ⟨⟨0, by rw [HR.out]; rfl, by decide, by rw [HR.out]; simp⟩, (HW.out.trans hE).growB hx9 Hb0.out⟩
end Go.Proofs.YtmckbcbdnckngaaGreatDoor

namespace Go.Proofs.YtmckbcbdnckngaaGreatDoor
open Go.RowKit

theorem infoRg : (Tryz.prog.info? 107).map (·.size) = some 2 := by kernel_rfl
theorem errV_eq0 (n : Nat) : n = 0 ∧ errV n = .nilIface ∨ n ≠ 0 ∧ errV n = .iface 63 (.int .i64 n) := by
  by_cases h : n = 0
  · exact .inl ⟨h, by subst h; rfl⟩
  · exact .inr ⟨h, by unfold errV; rw [if_neg h]⟩
set_option maxHeartbeats 4000000 in
theorem rg_number (s : ByteArray) (w : World) (hs : s.size ≤ 70368744177664) :
    Calls Tryz.prog 177 #[.string s] w fun e w' => e = .returned (.tuple #[.int .i64 (nmbV s), .bool (nmbE s == 0)]) ∧ Ext w w' := by
  have HS := Lib.hid (syn_Number s w hs)
  generalize nmbV s = V at *
  rcases errV_eq0 (nmbE s) with ⟨h0, h1⟩ | ⟨h0, h1⟩
  · rw [h1] at HS
    rw [h0]
    go_enter Tryz.func177, Tryz.ntmps177
    go_wp2_with fail
    refine HS.out.mono ?_; rintro e w1 ⟨rfl, hb1⟩
    go_wp2_with fail
    go_region
    go_wp2_with fail
    go_ret2
    exact ⟨rfl, hb1.drew⟩
  · rw [h1] at HS
    rw [show (nmbE s == 0) = false from beq_eq_false_iff_ne.2 h0]
    generalize nmbE s = E at *
    go_enter Tryz.func177, Tryz.ntmps177
    go_wp2_with fail
    refine HS.out.mono ?_; rintro e w1 ⟨rfl, hb1⟩
    go_wp2_with fail
    go_region
    go_wp2_with fail
    go_ret2
    exact ⟨rfl, hb1.drew⟩

theorem elR_cut {s : ByteArray} {len : Int} (h : (cutL 45 s.data.toList).2.2 = false) : elR s len = none := by unfold elR; rw [h]; rfl
theorem elR_suf {s : ByteArray} {len : Int} (h : (cutL 45 s.data.toList).2.2 = true) (ha : (cutL 45 s.data.toList).1 = []) : elR s len = if nmbE ⟨(cutL 45 s.data.toList).2.1.toArray⟩ == 0 then some (max 0 (len - nmbV ⟨(cutL 45 s.data.toList).2.1.toArray⟩), len) else none := by
  unfold elR; simp only [h, ha]; rfl
theorem elR_two {s : ByteArray} {len : Int} (h : (cutL 45 s.data.toList).2.2 = true) (ha : (cutL 45 s.data.toList).1 ≠ []) :
    elR s len = if nmbE ⟨(cutL 45 s.data.toList).1.toArray⟩ != 0 || ((⟨(cutL 45 s.data.toList).2.1.toArray⟩ : ByteArray).size != 0 && nmbE ⟨(cutL 45 s.data.toList).2.1.toArray⟩ != 0) || (nmbE ⟨(cutL 45 s.data.toList).2.1.toArray⟩ == 0 && decide (nmbV ⟨(cutL 45 s.data.toList).2.1.toArray⟩ < nmbV ⟨(cutL 45 s.data.toList).1.toArray⟩)) then none
      else some (nmbV ⟨(cutL 45 s.data.toList).1.toArray⟩, if nmbE ⟨(cutL 45 s.data.toList).2.1.toArray⟩ == 0 then min len (nmbV ⟨(cutL 45 s.data.toList).2.1.toArray⟩ + 1) else len) := by
  unfold elR
  have h0 : ((⟨(cutL 45 s.data.toList).1.toArray⟩ : ByteArray).size == 0) = false := by
    rw [beq_eq_false_iff_ne]; intro e; apply ha
    have : (cutL 45 s.data.toList).1.length = 0 := by rw [← e]; show _ = (List.toArray _).size; simp
    exact List.eq_nil_of_length_eq_zero this
  simp only [h, h0]; rfl
set_option maxHeartbeats 8000000 in
set_option maxRecDepth 100000 in
theorem rg_element (s : ByteArray) (len : Int) (w : World) (hs : s.size ≤ 1048576) (hl0 : 0 ≤ len) (hl1 : len ≤ 1099511627776) (hg : Gl w) :
    Calls Tryz.prog 154 #[.string s, .int .i64 len] w fun e w' => ∃ lo hi, e = .returned (.tuple #[.agg #[.int .i64 lo, .int .i64 hi], .bool (elR s len).isSome]) ∧ (∀ r, elR s len = some r → r = (lo, hi)) ∧ Ext w w' := by
  have HC := Lib.hid (fun w' (h : Ext w w') => show Calls Tryz.prog 104 #[.string s, .string ⟨#[45]⟩] w' fun e w'' => e = .returned (.tuple #[.string ⟨(cutL 45 s.data.toList).1.toArray⟩, .string ⟨(cutL 45 s.data.toList).2.1.toArray⟩, .bool (cutL 45 s.data.toList).2.2]) ∧ Ext w' w'' from by
    obtain ⟨m, hm⟩ := hg.ext h
    refine (Tryz.strings_Cut s ⟨#[45]⟩ m w' (by omega) hm).mono fun e w'' hh2 => ?_
    obtain ⟨he, n, rfl⟩ := hh2
    refine ⟨?_, (Ext.refl w').drewN n⟩
    rw [he, show (⟨#[45]⟩ : ByteArray).data.toList = [45] from rfl, cut_one])
  have Hcl := cut_lens 45 s.data.toList
  have hsl : s.data.toList.length = s.size := by rw [Array.length_toList]; rfl
  have Hno := Lib.hid (@elR_cut s len); have Hsuf := Lib.hid (@elR_suf s len); have Htwo := Lib.hid (@elR_two s len)
  have ha1 : (⟨(cutL 45 s.data.toList).1.toArray⟩ : ByteArray).size ≤ 1048576 := by show (List.toArray _).size ≤ _; simp; omega
  have hb1 : (⟨(cutL 45 s.data.toList).2.1.toArray⟩ : ByteArray).size ≤ 1048576 := by show (List.toArray _).size ≤ _; simp; omega
  have HNa := Lib.hid (fun w' => rg_number ⟨(cutL 45 s.data.toList).1.toArray⟩ w' (by omega))
  have HNb := Lib.hid (fun w' => rg_number ⟨(cutL 45 s.data.toList).2.1.toArray⟩ w' (by omega))
  have HVa := Lib.hid (nmb_ge ⟨(cutL 45 s.data.toList).1.toArray⟩); have HVb := Lib.hid (nmb_ge ⟨(cutL 45 s.data.toList).2.1.toArray⟩)
  have hP : ∀ l : Bs, (l = [] ∧ (⟨l.toArray⟩ : ByteArray).toList.isEmpty = true ∧ ((⟨l.toArray⟩ : ByteArray).toList == []) = true ∧ (⟨l.toArray⟩ : ByteArray).size = 0) ∨ (l ≠ [] ∧ (⟨l.toArray⟩ : ByteArray).toList.isEmpty = false ∧ ((⟨l.toArray⟩ : ByteArray).toList == []) = false ∧ (⟨l.toArray⟩ : ByteArray).size ≠ 0) := fun l => by
    cases l with
    | nil => exact .inl ⟨rfl, by rw [ByteArray.toList_eq]; rfl, by rw [ByteArray.toList_eq]; rfl, rfl⟩
    | cons x l => exact .inr ⟨by simp, by rw [ByteArray.toList_eq]; rfl, by rw [ByteArray.toList_eq]; rfl, by show (List.toArray (x :: l)).size ≠ 0; simp⟩
  have HPa := Lib.hid (hP (cutL 45 s.data.toList).1); have HPb := Lib.hid (hP (cutL 45 s.data.toList).2.1)
  have HEb := Lib.hid (show (cutL 45 s.data.toList).2.1 = [] → nmbE ⟨(cutL 45 s.data.toList).2.1.toArray⟩ ≠ 0 from fun h => by rw [h]; decide)
  clear hP Hcl hsl ha1 hb1
  generalize elR s len = R at *
  generalize nmbV ⟨(cutL 45 s.data.toList).1.toArray⟩ = va at *
  generalize nmbV ⟨(cutL 45 s.data.toList).2.1.toArray⟩ = vb at *
  generalize nmbE ⟨(cutL 45 s.data.toList).1.toArray⟩ = ea at *
  generalize nmbE ⟨(cutL 45 s.data.toList).2.1.toArray⟩ = eb at *
  generalize (cutL 45 s.data.toList).2.2 = ok at *
  generalize (cutL 45 s.data.toList).2.1 = lb at *
  generalize (cutL 45 s.data.toList).1 = la at *
  have hB := Blk.new w 107 #[.int .i64 0, .int .i64 0]
  have HW := Lib.hid ((Ext.refl w).alloc (.cells #[.int .i64 0, .int .i64 0] 107))
  go_enter Tryz.func154, Tryz.ntmps154
  go_wp2_with fail
  refine (HC.out _ HW.out).mono ?_; rintro e w1 ⟨rfl, hb1⟩
  have HB := Lib.hid (fun w' (h : Ext (w.alloc (.cells #[.int .i64 0, .int .i64 0] 107)) w') => hB.ext h)
  clear hB
  generalize w.alloc (.cells #[.int .i64 0, .int .i64 0] 107) = W0 at *
  generalize hbb : w.heap.size = b0 at *
  have Hb0 := Lib.hid (Nat.le_of_eq hbb)
  clear hbb
  have hE := hb1
  cases ok with
  | false =>
    have HR := Lib.hid (Hno.out (by trivial))
    clear Hsuf Htwo
    go_wp2_with (first | (refine wpList_storeB rfl 107 (.tmp 4) (.tmp 21) rfl rfl b0 _ rfl rfl 107 _ (HB.out _ hE) infoRg rfl (by simp [Value.oneCell']) ?_; intro w9 hB9 hx9))
    have y0 : w9.cell? ⟨b0, 0, none⟩ = some (.int .i64 0) := hB9.cell 0
    have y1 : w9.cell? ⟨b0, 1, none⟩ = some (.int .i64 0) := hB9.cell 1
    exact bodyPost_ret (v := .tuple #[.agg #[.int .i64 0, .int .i64 0], .bool false]) (by simp [results, Tryz.results154, go_sem, y0, y1]) rfl ⟨0, 0, (by rw [HR.out]; rfl), (by rw [HR.out]; intro r h; cases h), (HW.out.trans hE).growB hx9 Hb0.out⟩
  | true =>
    go_wp2_with fail
    refine (HNb.out _).mono ?_; rintro e w2 ⟨rfl, hb2⟩
    replace hE := hE.trans hb2
    rcases HPa.out with ⟨e0, e1, e2, -⟩ | ⟨e0, e1, e2, -⟩
    · have Hsuf := Lib.hid (Hsuf.out (by trivial) e0)
      clear Htwo Hno
      have hvb := HVb.out
      have hw8 : IntKind.i64.wrap (len - vb) = len - vb := IntWalk.i64_in _ (by omega)
      by_cases hz : eb = 0
      · subst hz
        have HR := Lib.hid (Hsuf.out)
        go_wp2_with (first | (refine wpList_storeB rfl 107 (.tmp 4) (.tmp 34) rfl rfl b0 _ rfl rfl 107 _ (HB.out _ hE) infoRg rfl (by simp [Value.oneCell']) ?_; intro w9 hB9 hx9))
        have y0 : w9.cell? ⟨b0, 0, none⟩ = some (.int .i64 (max 0 (len - vb))) := hB9.cell 0
        have y1 : w9.cell? ⟨b0, 1, none⟩ = some (.int .i64 len) := hB9.cell 1
        exact bodyPost_ret (v := .tuple #[.agg #[.int .i64 (max 0 (len - vb)), .int .i64 len], .bool (0 == 0)]) (by simp [results, Tryz.results154, go_sem, y0, y1]) rfl ⟨(max 0 (len - vb)), len, (by rw [HR.out]; rfl), (by rw [HR.out]; intro r h; injection h with h; exact h.symm), (HW.out.trans hE).growB hx9 Hb0.out⟩
      · rw [show (eb == 0) = false from beq_eq_false_iff_ne.2 hz] at Hsuf ⊢
        have HR := Lib.hid (Hsuf.out)
        go_wp2_with (first | (refine wpList_storeB rfl 107 (.tmp 4) (.tmp 34) rfl rfl b0 _ rfl rfl 107 _ (HB.out _ hE) infoRg rfl (by simp [Value.oneCell']) ?_; intro w9 hB9 hx9))
        have y0 : w9.cell? ⟨b0, 0, none⟩ = some (.int .i64 (max 0 (len - vb))) := hB9.cell 0
        have y1 : w9.cell? ⟨b0, 1, none⟩ = some (.int .i64 len) := hB9.cell 1
        exact bodyPost_ret (v := .tuple #[.agg #[.int .i64 (max 0 (len - vb)), .int .i64 len], .bool false]) (by simp [results, Tryz.results154, go_sem, y0, y1]) rfl ⟨(max 0 (len - vb)), len, (by rw [HR.out]; rfl), (by rw [HR.out]; intro r h; cases h), (HW.out.trans hE).growB hx9 Hb0.out⟩
    · have Htwo := Lib.hid (Htwo.out (by trivial) e0)
      clear Hsuf Hno HPa
      generalize (⟨la.toArray⟩ : ByteArray) = SA at *
      go_wp2_with fail
      refine (HNa.out _).mono ?_; rintro e w3 ⟨rfl, hb3⟩
      replace hE := hE.trans hb3
      by_cases hza : ea = 0
      rotate_left
      · have HR := Lib.hid (show R = none by rw [Htwo.out, if_pos (by simp [hza])])
        rw [show (ea == 0) = false from beq_eq_false_iff_ne.2 hza]
        go_wp2_with (first | (refine wpList_storeB rfl 107 (.tmp 4) (.tmp 59) rfl rfl b0 _ rfl rfl 107 _ (HB.out _ hE) infoRg rfl (by simp [Value.oneCell']) ?_; intro w9 hB9 hx9))
        have y0 : w9.cell? ⟨b0, 0, none⟩ = some (.int .i64 0) := hB9.cell 0
        have y1 : w9.cell? ⟨b0, 1, none⟩ = some (.int .i64 0) := hB9.cell 1
        exact bodyPost_ret (v := .tuple #[.agg #[.int .i64 0, .int .i64 0], .bool false]) (by simp [results, Tryz.results154, go_sem, y0, y1]) rfl ⟨0, 0, (by rw [HR.out]; rfl), (by rw [HR.out]; intro r h; cases h), (HW.out.trans hE).growB hx9 Hb0.out⟩
      · subst hza
        rw [show ((0 : Nat) == 0) = true from rfl]
        have HPb := HPb.out
        have HEb2 := HEb.out
        clear HEb
        generalize (⟨lb.toArray⟩ : ByteArray) = SB at *
        rcases HPb with ⟨f0, f1, f3, f2⟩ | ⟨f0, f1, f3, f2⟩
        · by_cases hzb : eb = 0
          · exact absurd hzb (HEb2 f0)
          · have HR := Lib.hid (show R = some (va, len) by rw [Htwo.out, if_neg (by simp [f2, hzb]), if_neg (by simpa using hzb)])
            rw [show (eb == 0) = false from beq_eq_false_iff_ne.2 hzb]
            go_wp2_with (first | (refine wpList_storeB rfl 107 (.tmp 4) (.tmp 67) rfl rfl b0 _ rfl rfl 107 _ (HB.out _ hE) infoRg rfl (by simp [Value.oneCell']) ?_; intro w9 hB9 hx9))
            have y0 : w9.cell? ⟨b0, 0, none⟩ = some (.int .i64 va) := hB9.cell 0
            have y1 : w9.cell? ⟨b0, 1, none⟩ = some (.int .i64 len) := hB9.cell 1
            exact bodyPost_ret (v := .tuple #[.agg #[.int .i64 va, .int .i64 len], .bool true]) (by simp [results, Tryz.results154, go_sem, y0, y1]) rfl ⟨va, len, (by rw [HR.out]; rfl), (by rw [HR.out]; intro r h; injection h with h; exact h.symm), (HW.out.trans hE).growB hx9 Hb0.out⟩
        · by_cases hzb : eb = 0
          · subst hzb
            rw [show ((0 : Nat) == 0) = true from rfl]
            have hvb := HVb.out
            have hw9 : IntKind.i64.wrap (vb + 1) = vb + 1 := IntWalk.i64_in _ (by omega)
            by_cases hlt : vb < va
            · have HR := Lib.hid (show R = none by rw [Htwo.out, if_pos (by simp [hlt])])
              go_wp2_with (first | (refine wpList_storeB rfl 107 (.tmp 4) (.tmp 59) rfl rfl b0 _ rfl rfl 107 _ (HB.out _ hE) infoRg rfl (by simp [Value.oneCell']) ?_; intro w9 hB9 hx9))
              have y0 : w9.cell? ⟨b0, 0, none⟩ = some (.int .i64 0) := hB9.cell 0
              have y1 : w9.cell? ⟨b0, 1, none⟩ = some (.int .i64 0) := hB9.cell 1
              exact bodyPost_ret (v := .tuple #[.agg #[.int .i64 0, .int .i64 0], .bool false]) (by simp [results, Tryz.results154, go_sem, y0, y1]) rfl ⟨0, 0, (by rw [HR.out]; rfl), (by rw [HR.out]; intro r h; cases h), (HW.out.trans hE).growB hx9 Hb0.out⟩
            · have HR := Lib.hid (show R = some (va, min len (vb + 1)) by rw [Htwo.out, if_neg (by simp; omega)]; rfl)
              go_wp2_with (first | (refine wpList_storeB rfl 107 (.tmp 4) (.tmp 67) rfl rfl b0 _ rfl rfl 107 _ (HB.out _ hE) infoRg rfl (by simp [Value.oneCell']) ?_; intro w9 hB9 hx9))
              have y0 : w9.cell? ⟨b0, 0, none⟩ = some (.int .i64 va) := hB9.cell 0
              have y1 : w9.cell? ⟨b0, 1, none⟩ = some (.int .i64 (min len (vb + 1))) := hB9.cell 1
              exact bodyPost_ret (v := .tuple #[.agg #[.int .i64 va, .int .i64 (min len (vb + 1))], .bool true]) (by simp [results, Tryz.results154, go_sem, y0, y1]) rfl ⟨va, (min len (vb + 1)), (by rw [HR.out]; rfl), (by rw [HR.out]; intro r h; injection h with h; exact h.symm), (HW.out.trans hE).growB hx9 Hb0.out⟩
          · have HR := Lib.hid (show R = none by rw [Htwo.out, if_pos (by simp [f2, hzb])])
            rw [show (eb == 0) = false from beq_eq_false_iff_ne.2 hzb]
            go_wp2_with (first | (refine wpList_storeB rfl 107 (.tmp 4) (.tmp 59) rfl rfl b0 _ rfl rfl 107 _ (HB.out _ hE) infoRg rfl (by simp [Value.oneCell']) ?_; intro w9 hB9 hx9))
            have y0 : w9.cell? ⟨b0, 0, none⟩ = some (.int .i64 0) := hB9.cell 0
            have y1 : w9.cell? ⟨b0, 1, none⟩ = some (.int .i64 0) := hB9.cell 1
            exact bodyPost_ret (v := .tuple #[.agg #[.int .i64 0, .int .i64 0], .bool false]) (by simp [results, Tryz.results154, go_sem, y0, y1]) rfl ⟨0, 0, (by rw [HR.out]; rfl), (by rw [HR.out]; intro r h; cases h), (HW.out.trans hE).growB hx9 Hb0.out⟩
end Go.Proofs.YtmckbcbdnckngaaGreatDoor

namespace Go.Proofs.YtmckbcbdnckngaaGreatDoor
open Go.RowKit Go.ChangeShapes

theorem laid_in {P : Program} {W : World} : ∀ {laid : List (String × DataW Unit)} {ps : List MemPlace}, DataW.LaidVars P W laid ps → ∀ x ∈ laid,
    ∃ g t cs fuel p, P.globalNamed x.1 = some g ∧ (P.globals[g]?).map (·.type) = some t ∧ W.var? P x.1 = some cs ∧ DataW.trod (fun _ => ()) P W 0 (fun _ => true) false fuel t cs.toList = some (x.2, p)
  | [], _, _, x, hx => by cases hx
  | (n, d) :: r, ps, h, x, hx => by
    obtain ⟨g, t, cs, fuel, p, q, h1, h2, h3, h4, h5, _⟩ := h
    rcases List.mem_cons.1 hx with rfl | hx
    · exact ⟨g, t, cs, fuel, p, h1, h2, h3, h4⟩
    · exact laid_in h5 x hx
theorem cells_arr {α : Type} {P : Program} {w : World} {base : Nat} {sp : Nat → Bool} {held : Bool} {fuel : Nat} {t e : TypeId} {n : Nat} {cs : List Value} {l : List α} {p : List MemPlace} (lit : α → DataW Unit) (cell : α → Value)
    (ht : P.underlying t = some (.array n e)) (hce : P.cellsOf e = 1) (hct : P.cellsOf t = n)
    (hone : ∀ m c a q, DataW.trod (fun _ => ()) P w base sp held m e [c] = some (lit a, q) → c = cell a)
    (h : DataW.trod (fun _ => ()) P w base sp held fuel t cs = some (.agg (l.map lit), p)) : cs = l.map cell := by
  obtain ⟨xs, m, rfl, hx, hlen, hxl, hg⟩ := DataW.trod_array ht h
  have hm : l.map lit = xs.map (·.1) := by
    have := congrArg Prod.fst hx
    simpa using this
  have hll : l.length = n := by
    have := congrArg List.length hm
    simp at this
    omega
  apply List.ext_getElem (by simp; omega)
  intro i h1 h2
  have hi : i < n := by omega
  have h3 := hg i hi
  rw [hce, Nat.mul_one] at h3
  have h4 : (cs.drop i).take 1 = [cs[i]] := by
    rw [List.drop_eq_getElem_cons h1]; rfl
  have hix : i < xs.length := by omega
  rw [h4, List.getElem?_eq_getElem hix] at h3
  have h5 : lit (l[i]'(by omega)) = (xs[i]).1 := by
    have := congrArg (·[i]?) hm
    simpa [hix, show i < l.length by omega] using this
  rw [List.getElem_map]
  refine hone m _ _ (xs[i]).2 ?_
  rw [h3, h5]
theorem tab_rd {α : Type} {P : Program} {W : World} {laid : List (String × DataW Unit)} {name : String} {g : Nat} {t e : TypeId} {n : Nat} {l : List α} (lit : α → DataW Unit) (cell : α → Value)
    (hp : (laid.all fun x => x.2.handleName?.isNone) = true) (h : laidMetH P laid W) (hin : (name, .agg (l.map lit)) ∈ laid) (hg : P.globalNamed name = some g) (hty : (P.globals[g]?).map (·.type) = some t)
    (ht : P.underlying t = some (.array n e)) (hce : P.cellsOf e = 1) (hct : P.cellsOf t = n)
    (hone : ∀ m c a q, DataW.trod (fun _ => ()) P W 0 (fun _ => true) false m e [c] = some (lit a, q) → c = cell a) (hl : l.length = n) : Rd W 1 (some ⟨g, 0, none⟩) n (l.map cell) := by
  rw [MakeChecks.laidMetH_plain _ _ _ hp] at h
  obtain ⟨ps, hv, _⟩ := h
  obtain ⟨g', t', cs, fuel, p, h1, h2, h3, h4⟩ := laid_in hv _ hin
  obtain rfl := Option.some.inj (hg.symm.trans h1)
  obtain rfl := Option.some.inj (hty.symm.trans h2)
  have hc := cells_arr lit cell ht hce hct hone h4
  refine ⟨by simp [hl], fun _ => ⟨g, 0, rfl, fun j u hu => ?_⟩⟩
  rw [Nat.zero_add, World.var?_cell hg h3 j, ← Array.getElem?_toList, hc]
  exact hu
theorem one_str {P : Program} {w : World} {base : Nat} {sp : Nat → Bool} {held : Bool} {e : TypeId} (he : P.underlying e = some .string) (m : Nat) (c : Value) (a : ByteArray) (q : List MemPlace)
    (h : DataW.trod (fun _ => ()) P w base sp held m e [c] = some (.lit (.string a.data.toList), q)) : c = .string a := by
  obtain ⟨s, h1, h2, _⟩ := DataW.trod_string he h
  simp only [List.cons.injEq, and_true] at h1
  simp only [Prod.mk.injEq, DataW.lit.injEq, Lit.string.injEq] at h2
  rw [h1, bytes_ext h2.1]
theorem one_int {P : Program} {w : World} {base : Nat} {sp : Nat → Bool} {held : Bool} {e : TypeId} {k : IntKind} (he : P.underlying e = some (.int k)) (m : Nat) (c : Value) (a : Int) (q : List MemPlace)
    (h : DataW.trod (fun _ => ()) P w base sp held m e [c] = some (.lit (.int k a), q)) : c = .int k a := by
  obtain ⟨s, h1, h2, _⟩ := DataW.trod_int he h
  simp only [List.cons.injEq, and_true] at h1
  simp only [Prod.mk.injEq, DataW.lit.injEq, Lit.int.injEq, true_and] at h2
  rw [h1, h2.1]
end Go.Proofs.YtmckbcbdnckngaaGreatDoor

namespace Go.Proofs.YtmckbcbdnckngaaGreatDoor
open Go.RowKit Go.ChangeShapes

open Go.RowKit Go.ChangeShapes

/-- The table of powers of ten stands. -/
abbrev GlP (w : World) : Prop := Lib.TabIs Tryz.prog w "internal/strconv.uint64pow10" .u64 Lib.pow10Tab
set_option maxRecDepth 100000 in
theorem glP_of {W : World} {laid : List (String × DataW Unit)} (hp : (laid.all fun x => x.2.handleName?.isNone) = true) (h : laidMetH Tryz.prog laid W)
    (h1 : ("internal/strconv.uint64pow10", Rows.laid_internal_strconv_uint64pow10) ∈ laid) : GlP W := by
  rw [MakeChecks.laidMetH_plain _ _ _ hp] at h
  obtain ⟨ps, hv, _⟩ := h
  obtain ⟨g, t, cs, fuel, p, e1, e2, e3, e4⟩ := laid_in hv _ h1
  have g0 : Tryz.prog.globalNamed "internal/strconv.uint64pow10" = some 3 := by kernel_rfl
  obtain rfl := Option.some.inj (g0.symm.trans e1)
  have t0 : (Tryz.prog.globals[3]?).map (·.type) = some 242 := by kernel_rfl
  obtain rfl := Option.some.inj (t0.symm.trans e2)
  have hc := Lib.cells_of_tab (k := .u64) (zs := Lib.pow10Tab) Tryz.underlying242 Tryz.underlying216 (by kernel_rfl) (by kernel_rfl) e4
  unfold GlP Lib.TabIs
  rw [e3]
  congr 1
  rw [← hc]
theorem GlP.ext {w w' : World} (h : GlP w) (hb : Ext w w') : GlP w' := by
  unfold GlP Lib.TabIs World.var? at *
  rw [show Tryz.prog.globalNamed "internal/strconv.uint64pow10" = some 3 by kernel_rfl] at *
  simp only [Option.bind_some] at *
  rcases Nat.lt_or_ge 3 w.heap.size with h' | h'
  · rw [hb.below.block _ h']; exact h
  · rw [Array.getElem?_eq_none h'] at h; cases h
/-- strconv.Itoa of a number that is not negative: its decimal digits. -/
theorem std_Itoa (n : Int) (h0 : 0 ≤ n) (h1 : n ≤ 9223372036854775807) (w : World) (hp : GlP w) :
    Calls Tryz.prog 48 #[.int .i64 n] w fun e w' => e = .returned (.string ⟨(Lib.decDigits n.toNat).toArray⟩) ∧ Ext w w' := by
  refine (Tryz.strconv_Itoa n (by omega) h1 w hp).mono ?_
  rintro e w' ⟨rfl, k, os, rfl⟩
  refine ⟨by rw [show Lib.itoa n = Lib.decDigits n.toNat from if_neg (by omega)], ?_⟩
  refine ⟨rfl, rfl, rfl, by show w.heap.size ≤ (w.heap ++ os).size; rw [Array.size_append]; omega, fun j hj => ?_⟩
  show (w.heap ++ os)[j]? = w.heap[j]?
  rw [Array.getElem?_append_left hj]

theorem sum_w {P : Program} (a b : ByteArray) (h : a.size + b.size ≤ 10000) : ∀ w, (Op.stringOp .add a b).run P w = .ok (.string (a ++ b)) w :=
  fun w => run_string_add_sum w a b (by omega)
theorem decV_size {n : Int} (h1 : n ≤ 9223372036854775807) : (decV n).size ≤ 20 := by
  have h : (decV n).size = (Lib.decDigits n.toNat).length := by show (List.toArray _).size = _; simp
  rw [h, Lib.decDigits_length]; exact Lib.nDigits_le20 _ (by omega)
set_option maxHeartbeats 4000000 in
theorem rg_proper (lo hi : Int) (w : World) :
    Calls Tryz.prog 155 #[.agg #[.int .i64 lo, .int .i64 hi]] w fun e w' => e = .returned (.bool (rgProper (lo, hi))) ∧ Ext w w' := by
  have hX := Blk.new w 107 #[.int .i64 lo, .int .i64 hi]
  have x0 : (w.alloc (.cells #[.int .i64 lo, .int .i64 hi] 107)).cell? ⟨w.heap.size, 0, none⟩ = some (.int .i64 lo) := hX.cell 0
  have x1 : (w.alloc (.cells #[.int .i64 lo, .int .i64 hi] 107)).cell? ⟨w.heap.size, 1, none⟩ = some (.int .i64 hi) := hX.cell 1
  have HR := Lib.hid (show rgProper (lo, hi) = (decide (0 ≤ lo) && decide (lo < hi) && decide (hi ≤ 999999999999999)) from rfl)
  generalize rgProper (lo, hi) = R at *
  clear hX
  by_cases h1 : 0 ≤ lo
  · by_cases h2 : lo < hi
    · by_cases h3 : hi ≤ 999999999999999
      · have HR := Lib.hid (show R = true by rw [HR.out]; simp [h1, h2, h3])
        go_enter Tryz.func155, Tryz.ntmps155
        go_wp2_with fail
        go_ret
        exact ⟨by rw [HR.out]; rfl, (Ext.refl w).alloc _⟩
      · have HR := Lib.hid (show R = false by rw [HR.out]; simp [h3])
        go_enter Tryz.func155, Tryz.ntmps155
        go_wp2_with fail
        go_ret
        exact ⟨by rw [HR.out]; rfl, (Ext.refl w).alloc _⟩
    · have HR := Lib.hid (show R = false by rw [HR.out]; simp [h2])
      go_enter Tryz.func155, Tryz.ntmps155
      go_wp2_with fail
      go_ret
      exact ⟨by rw [HR.out]; rfl, (Ext.refl w).alloc _⟩
  · have HR := Lib.hid (show R = false by rw [HR.out]; simp [h1])
    go_enter Tryz.func155, Tryz.ntmps155
    go_wp2_with fail
    go_ret
    exact ⟨by rw [HR.out]; rfl, (Ext.refl w).alloc _⟩
set_option maxHeartbeats 8000000 in
set_option maxRecDepth 100000 in
theorem rg_text (lo hi : Int) (w : World) (h0 : 0 ≤ lo) (h1 : lo < hi) (h2 : hi ≤ 1000000000000000) (hp : GlP w) :
    Calls Tryz.prog 156 #[.agg #[.int .i64 lo, .int .i64 hi]] w fun e w' => e = .returned (.string (rgText (lo, hi))) ∧ Ext w w' := by
  have HI1 := Lib.hid (fun w' (h : Ext w w') => show Calls Tryz.prog 48 #[.int .i64 lo] w' fun e w'' => e = .returned (.string (decV lo)) ∧ Ext w' w'' from std_Itoa lo (by omega) (by omega) w' (hp.ext h))
  have HI2 := Lib.hid (fun w' (h : Ext w w') => show Calls Tryz.prog 48 #[.int .i64 (hi - 1)] w' fun e w'' => e = .returned (.string (decV (hi - 1))) ∧ Ext w' w'' from std_Itoa (hi - 1) (by omega) (by omega) w' (hp.ext h))
  have z1 := decV_size (n := lo) (by omega); have z2 := decV_size (n := hi - 1) (by omega)
  have s1 := sum_w (P := Tryz.prog) (decV lo) ⟨#[45]⟩ (by rw [show (⟨#[45]⟩ : ByteArray).size = 1 from rfl]; omega)
  have s2 := sum_w (P := Tryz.prog) (decV lo ++ ⟨#[45]⟩) (decV (hi - 1)) (by rw [ByteArray.size_append, show (⟨#[45]⟩ : ByteArray).size = 1 from rfl]; omega)
  have HR := Lib.hid (show rgText (lo, hi) = decV lo ++ ⟨#[45]⟩ ++ decV (hi - 1) from rfl)
  have hw1 : IntKind.i64.wrap (hi - 1) = hi - 1 := IntWalk.i64_in _ (by omega)
  clear z1 z2
  generalize rgText (lo, hi) = T at *
  generalize decV lo = D1 at *
  generalize decV (hi - 1) = D2 at *
  have hX := Blk.new w 107 #[.int .i64 lo, .int .i64 hi]
  have HW := Lib.hid ((Ext.refl w).alloc (.cells #[.int .i64 lo, .int .i64 hi] 107))
  go_enter Tryz.func156, Tryz.ntmps156
  go_wp2_with fail
  have HS := Lib.hid (fun w' (h : Ext (w.alloc (.cells #[.int .i64 lo, .int .i64 hi] 107)) w') => (⟨(hX.ext h).cell 0, (hX.ext h).cell 1⟩ : w'.cell? ⟨w.heap.size, 0, none⟩ = some (.int .i64 lo) ∧ w'.cell? ⟨w.heap.size, 1, none⟩ = some (.int .i64 hi)))
  have hE := (Ext.refl (w.alloc (.cells #[.int .i64 lo, .int .i64 hi] 107))).drew
  clear hX
  generalize w.alloc (.cells #[.int .i64 lo, .int .i64 hi] 107) = W0 at *
  generalize w.heap.size = bX at *
  refine wp_region_held_drew (S := (fun w' => w'.cell? ⟨bX, 0, none⟩ = some (.int .i64 lo) ∧ w'.cell? ⟨bX, 1, none⟩ = some (.int .i64 hi))) (by kernel_rfl) ?_ (fun hHeld => ?_)
  · (try dsimp only); exact HS.out _ hE
  refine wpAnyH_take (i := 0) (oi := { dst := some 3, op := _, type := _, pos := _, after := _, guard := _ }) (v := ?_) rfl (by kernel_rfl) (by kernel_rfl) (by kernel_rfl) (fun _ _ _ h => h) (Or.inl ⟨by rfl, ?_⟩) (by assumption) ?_
  rotate_left
  · (intro w hSw; (try dsimp only at hSw); go_simp; (try with_reducible rfl))
  (try simp only [Act.put, List.setIfInBounds_toArray, List.set_cons_zero, List.set_cons_succ])
  refine wpAnyH_take (i := 1) (oi := { dst := some 4, op := _, type := _, pos := _, after := _, guard := _ }) (v := ?_) rfl (by kernel_rfl) (by kernel_rfl) (by kernel_rfl) (fun _ _ _ h => h) (Or.inl ⟨by rfl, ?_⟩) (by assumption) ?_
  rotate_left
  · (intro w hSw; (try dsimp only at hSw); go_simp; (try with_reducible rfl))
  (try simp only [Act.put, List.setIfInBounds_toArray, List.set_cons_zero, List.set_cons_succ])
  refine wpAnyH_take (i := 4) (oi := { dst := some 7, op := _, type := _, pos := _, after := _, guard := _ }) (v := ?_) rfl (by kernel_rfl) (by kernel_rfl) (by kernel_rfl) (fun _ _ _ h => h) (Or.inl ⟨by rfl, ?_⟩) (by assumption) ?_
  rotate_left
  · (intro w hSw; (try dsimp only at hSw); go_simp; (try with_reducible rfl))
  (try simp only [Act.put, List.setIfInBounds_toArray, List.set_cons_zero, List.set_cons_succ])
  refine wpAnyH_take (i := 5) (oi := { dst := some 8, op := _, type := _, pos := _, after := _, guard := _ }) (v := ?_) rfl (by kernel_rfl) (by kernel_rfl) (by kernel_rfl) (fun _ _ _ h => h) (Or.inl ⟨by rfl, ?_⟩) (by assumption) ?_
  rotate_left
  · (intro w hSw; (try dsimp only at hSw); go_simp; (try with_reducible rfl))
  (try simp only [Act.put, List.setIfInBounds_toArray, List.set_cons_zero, List.set_cons_succ])
  refine wpAnyH_take (i := 6) (oi := { dst := some 9, op := _, type := _, pos := _, after := _, guard := _ }) (v := ?_) rfl (by kernel_rfl) (by kernel_rfl) (by kernel_rfl) (fun _ _ _ h => h) (Or.inl ⟨by rfl, ?_⟩) (by assumption) ?_
  rotate_left
  · (intro w hSw; (try dsimp only at hSw); go_simp; (try with_reducible rfl))
  (try simp only [Act.put, List.setIfInBounds_toArray, List.set_cons_zero, List.set_cons_succ])
  refine wpAnyH_ready (rs := [2]) (by kernel_rfl) (by simp) ?_
  refine AllReadyH.cons (o := { dst := some 5, op := _, type := _, pos := _, after := _, guard := _ }) rfl (fun K hK => ?_) AllReadyH.nil
  go_simp
  refine (HI1.out _ (HW.out.trans hE)).mono ?_; rintro e w3 ⟨rfl, hb3⟩; replace hE := hE.trans hb3; clear hb3
  try go_wp2_with fail
  refine hK.out _ _ ?_ (fun hHeld => ?_)
  · (try dsimp only); exact HS.out _ hE
  clear hK K
  (try simp only [Act.put, List.setIfInBounds_toArray, List.set_cons_zero, List.set_cons_succ])
  refine wpAnyH_take (i := 3) (oi := { dst := some 6, op := _, type := _, pos := _, after := _, guard := _ }) (v := ?_) rfl (by kernel_rfl) (by kernel_rfl) (by kernel_rfl) (fun _ _ _ h => h) (Or.inl ⟨by rfl, ?_⟩) (by assumption) ?_
  rotate_left
  · (intro w hSw; (try dsimp only at hSw); go_simp; (try with_reducible rfl))
  (try simp only [Act.put, List.setIfInBounds_toArray, List.set_cons_zero, List.set_cons_succ])
  refine wpAnyH_ready (rs := [7]) (by kernel_rfl) (by simp) ?_
  refine AllReadyH.cons (o := { dst := some 10, op := _, type := _, pos := _, after := _, guard := _ }) rfl (fun K hK => ?_) AllReadyH.nil
  go_simp
  refine (HI2.out _ (HW.out.trans hE)).mono ?_; rintro e w3 ⟨rfl, hb3⟩; replace hE := hE.trans hb3; clear hb3
  try go_wp2_with fail
  refine hK.out _ _ ?_ (fun hHeld => ?_)
  · (try dsimp only); exact HS.out _ hE
  clear hK K
  (try simp only [Act.put, List.setIfInBounds_toArray, List.set_cons_zero, List.set_cons_succ])
  refine wpAnyH_take (i := 8) (oi := { dst := some 11, op := _, type := _, pos := _, after := _, guard := _ }) (v := ?_) rfl (by kernel_rfl) (by kernel_rfl) (by kernel_rfl) (fun _ _ _ h => h) (Or.inl ⟨by rfl, ?_⟩) (by assumption) ?_
  rotate_left
  · (intro w hSw; (try dsimp only at hSw); go_simp; (try with_reducible rfl))
  (try simp only [Act.put, List.setIfInBounds_toArray, List.set_cons_zero, List.set_cons_succ])
  refine wpAnyH_take (i := 9) (oi := { dst := some 2, op := _, type := _, pos := _, after := _, guard := _ }) (v := ?_) rfl (by kernel_rfl) (by kernel_rfl) (by kernel_rfl) (fun _ _ _ h => h) (Or.inl ⟨by rfl, ?_⟩) (by assumption) ?_
  rotate_left
  · (intro w hSw; (try dsimp only at hSw); go_simp; (try with_reducible rfl))
  (try simp only [Act.put, List.setIfInBounds_toArray, List.set_cons_zero, List.set_cons_succ])
  refine wpAnyH_done (by kernel_rfl) ?_ _
  go_wp2_with fail
  go_ret
  exact ⟨by rw [HR.out]; rfl, HW.out.trans hE⟩

theorem crP_no {lo hi len : Int} (h : (!rgProper (lo, hi) || decide (len < hi) || decide (999999999999999 < len)) = true) : crP (lo, hi) len = none := by
  unfold crP; rw [if_pos h]
theorem crP_yes {lo hi len : Int} (h1 : rgProper (lo, hi) = true) (h2 : ¬ len < hi) (h3 : ¬ 999999999999999 < len) : crP (lo, hi) len = some (byS ++ rgText (lo, hi) ++ ⟨#[47]⟩ ++ decV len) := by
  unfold crP; rw [if_neg (by simp [h1]; omega)]
def crV (o : Option ByteArray) : Value := .tuple #[.string (o.getD ⟨#[]⟩), errV (if o.isSome then 0 else 2)]
set_option maxHeartbeats 8000000 in
set_option maxRecDepth 100000 in
theorem rg_ContentRange (lo hi len : Int) (w : World) (hl : 0 ≤ len) (hp : GlP w) :
    Calls Tryz.prog 128 #[.agg #[.int .i64 lo, .int .i64 hi], .int .i64 len] w fun e w' => e = .returned (crV (crP (lo, hi) len)) ∧ Ext w w' := by
  have HP := Lib.hid (fun w' => rg_proper lo hi w')
  have HT := Lib.hid (fun w' (h : Ext w w') (hr : rgProper (lo, hi) = true) => rg_text lo hi w' (by unfold rgProper at hr; simp at hr; omega) (by unfold rgProper at hr; simp at hr; omega) (by unfold rgProper at hr; simp at hr; omega) (hp.ext h))
  have Hno := Lib.hid (@crP_no lo hi len); have Hyes := Lib.hid (@crP_yes lo hi len)
  have Hsz := Lib.hid (fun (hr : rgProper (lo, hi) = true) => show (rgText (lo, hi)).size ≤ 60 by
    unfold rgProper at hr; simp at hr
    unfold rgText
    rw [ByteArray.size_append, ByteArray.size_append, show (⟨#[45]⟩ : ByteArray).size = 1 from rfl]
    have z1 := decV_size (n := lo) (by omega); have z2 := decV_size (n := hi - 1) (by omega)
    simp only at *; omega)
  have HR := Lib.hid (show crP (lo, hi) len = crP (lo, hi) len from rfl)
  have HI := Lib.hid (fun w' (h : Ext w w') (h3 : ¬ 999999999999999 < len) => show Calls Tryz.prog 48 #[.int .i64 len] w' fun e w'' => e = .returned (.string (decV len)) ∧ Ext w' w'' from std_Itoa len (by omega) (by omega) w' (hp.ext h))
  have Z1 := Lib.hid (fun (h3 : ¬ 999999999999999 < len) => decV_size (n := len) (by omega))
  generalize crP (lo, hi) len = R at *
  generalize decV len = D at *
  generalize rgProper (lo, hi) = pr at *
  generalize rgText (lo, hi) = T at *
  have hX := Blk.new w 107 #[.int .i64 lo, .int .i64 hi]
  have HW := Lib.hid ((Ext.refl w).alloc (.cells #[.int .i64 lo, .int .i64 hi] 107))
  have HS := Lib.hid (fun w' (h : Ext (w.alloc (.cells #[.int .i64 lo, .int .i64 hi] 107)) w') => (⟨(hX.ext h).cell 0, (hX.ext h).cell 1⟩ : w'.cell? ⟨w.heap.size, 0, none⟩ = some (.int .i64 lo) ∧ w'.cell? ⟨w.heap.size, 1, none⟩ = some (.int .i64 hi)))
  clear hX
  obtain ⟨x0, x1⟩ := HS.out _ (Ext.refl _)
  go_enter Tryz.func128, Tryz.ntmps128
  go_wp2_with fail
  refine (HP.out _).mono ?_; rintro e w1 ⟨rfl, hb1⟩
  clear x0 x1
  obtain ⟨x0, x1⟩ := HS.out _ hb1
  have HE1 := Lib.hid (HW.out.trans hb1)
  cases pr with
  | false =>
    obtain rfl : R = none := Hno.out (by trivial)
    go_wp2_with fail
    go_ret2
    exact ⟨rfl, HE1.out⟩
  | true =>
    by_cases h2 : len < hi
    · obtain rfl : R = none := Hno.out (by simp [h2])
      go_wp2_with fail
      go_ret2
      exact ⟨rfl, HE1.out⟩
    · by_cases h3 : 999999999999999 < len
      · obtain rfl : R = none := Hno.out (by simp [h3])
        go_wp2_with fail
        go_ret2
        exact ⟨rfl, HE1.out⟩
      · obtain rfl : R = some (byS ++ T ++ ⟨#[47]⟩ ++ D) := Hyes.out (by trivial) (by omega) (by omega)
        have hz := Hsz.out (by trivial)
        have z1 := Z1.out (by omega)
        have s1 := sum_w (P := Tryz.prog) byS T (by rw [show byS.size = 6 from rfl]; omega)
        have s2 := sum_w (P := Tryz.prog) (byS ++ T) ⟨#[47]⟩ (by rw [ByteArray.size_append, show byS.size = 6 from rfl, show (⟨#[47]⟩ : ByteArray).size = 1 from rfl]; omega)
        have s3 := sum_w (P := Tryz.prog) (byS ++ T ++ ⟨#[47]⟩) D (by rw [ByteArray.size_append, ByteArray.size_append, show byS.size = 6 from rfl, show (⟨#[47]⟩ : ByteArray).size = 1 from rfl]; omega)
        unfold byS at s1 s2 s3
        clear hz z1
        go_wp2_with fail
        refine (HT.out _ HE1.out (by trivial)).mono ?_; rintro e w2 ⟨rfl, hb2⟩
        go_wp2_with fail
        refine (HI.out _ (HE1.out.trans hb2) (by omega)).mono ?_; rintro e w3 ⟨rfl, hb3⟩
        go_wp2_with fail
        go_ret2
        exact ⟨rfl, HE1.out.trans (hb2.trans hb3)⟩

theorem conv_1t (a : Int) (w : World) : (convert 23 9 (.slice (some ⟨w.heap.size, 0, none⟩) 1 1)).run Tryz.prog (w.alloc (.cells #[.int .u8 a] 5)) =
    .ok (.string ⟨#[UInt8.ofNat a.toNat]⟩) (w.alloc (.cells #[.int .u8 a] 5)) :=
  run_convert_bytes_arg (P := Tryz.prog) _ 23 5 Tryz.underlying23 Tryz.underlying5 w.heap.size 0 1 1 [a] rfl
    (fun i hi => by
      obtain rfl : i = 0 := by omega
      rw [World.cell?_alloc_mark]; rfl) 9 Tryz.underlying9
theorem decV_1 {n : Int} (h0 : 0 ≤ n) (h1 : n < 10) : decV n = ⟨#[UInt8.ofNat (48 + n).toNat]⟩ := by
  unfold decV
  rw [Lib.decDigits_one (by omega), show (48 + n).toNat = 48 + n.toNat by omega]
theorem decV_2 {n : Int} (h0 : 10 ≤ n) : decV n = decV (n / 10) ++ decV (n % 10) := by
  apply bytes_ext
  rw [data_append, decV_1 (n := n % 10) (by omega) (by omega)]
  show Lib.decDigits n.toNat = Lib.decDigits (n / 10).toNat ++ [UInt8.ofNat (48 + n % 10).toNat]
  rw [Lib.decDigits, dif_neg (by omega), show (48 + n % 10).toNat = 48 + n.toNat % 10 by omega, show (n / 10).toNat = n.toNat / 10 by omega]
set_option maxHeartbeats 4000000 in
theorem base_Digit (n : Int) (w : World) (h0 : 0 ≤ n) (h1 : n < 10) :
    Calls Tryz.prog 19 #[.int .i64 n] w fun e w' => e = .returned (.string (decV n)) ∧ Ext w w' := by
  have hc := conv_1t (48 + n)
  have HV := Lib.hid (decV_1 h0 h1)
  generalize decV n = D at *
  have hw2 : IntKind.i64.wrap (48 + n) = 48 + n := IntWalk.i64_in _ (by omega)
  have hw3 : IntKind.u8.wrap (48 + n) = 48 + n := IntWalk.u8_in _ (by omega)
  go_enter Tryz.func19, Tryz.ntmps19
  go_wp2_with fail
  go_ret
  exact ⟨by rw [HV.out]; rfl, (Ext.refl w).alloc _⟩
set_option maxHeartbeats 8000000 in
theorem base_Digits : ∀ (k : Nat) (n : Int) (w : World), 0 ≤ n → n < 10 ^ (k + 1) → n ≤ 9223372036854775807 →
    Calls Tryz.prog 19 #[.int .i64 n] w fun e w' => e = .returned (.string (decV n)) ∧ Ext w w'
  | 0, n, w, h0, h1, _ => base_Digit n w h0 (by simpa using h1)
  | k + 1, n, w, h0, h1, hb => by
    by_cases hn : n < 10
    · exact base_Digit n w h0 hn
    · have hq : n / 10 < 10 ^ (k + 1) := by
        have : (10 : Int) ^ (k + 1 + 1) = 10 ^ (k + 1) * 10 := Int.pow_succ ..
        omega
      have q1 : n.tdiv 10 = n / 10 := Int.tdiv_eq_ediv_of_nonneg h0
      have q2 : n.tmod 10 = n % 10 := Int.tmod_eq_emod_of_nonneg h0
      have hw1 : IntKind.i64.wrap (n / 10) = n / 10 := IntWalk.i64_in _ (by omega)
      have HA := Lib.hid (fun w' => base_Digits k (n / 10) w' (by omega) hq (by omega))
      have HB := Lib.hid (fun w' => base_Digit (n % 10) w' (by omega) (by omega))
      have HV := Lib.hid (decV_2 (n := n) (by omega))
      have s1 := sum_w (P := Tryz.prog) (decV (n / 10)) (decV (n % 10)) (by have := decV_size (n := n / 10) (by omega); have := decV_size (n := n % 10) (by omega); omega)
      generalize decV n = D at *
      generalize decV (n / 10) = D1 at *
      generalize decV (n % 10) = D2 at *
      clear hq h1
      go_enter Tryz.func19, Tryz.ntmps19
      go_wp2_with fail
      refine (HA.out _).mono ?_; rintro e w1 ⟨rfl, hb1⟩
      go_wp2_with fail
      refine (HB.out _).mono ?_; rintro e w2 ⟨rfl, hb2⟩
      go_wp2_with fail
      go_ret
      exact ⟨by rw [HV.out]; rfl, hb1.trans hb2⟩
theorem base_DigitsN (n : Int) (w : World) (h0 : 0 ≤ n) (h1 : n ≤ 1000000000000000000) : Calls Tryz.prog 19 #[.int .i64 n] w fun e w' => e = .returned (.string (decV n)) ∧ Ext w w' :=
  base_Digits 18 n w h0 (by omega) (by omega)
end Go.Proofs.YtmckbcbdnckngaaGreatDoor

namespace Go.Proofs.YtmckbcbdnckngaaGreatDoor
open Go.RowKit

/-- w' is w with more memory, and with writes to blocks of S alone. -/
structure Keeps (S : Nat → Prop) (w w' : World) : Prop where
  os : w'.os = w.os
  tape : w'.tape = w.tape
  output : w'.output = w.output
  size : w.heap.size ≤ w'.heap.size
  block : ∀ i, i < w.heap.size → ¬ S i → w'.heap[i]? = w.heap[i]?
section
variable {S : Nat → Prop} {w w' w'' : World}
theorem Keeps.of (h : Ext w w') : Keeps S w w' := ⟨h.below.os, h.below.tape, h.below.output, h.below.size, fun i hi _ => h.below.block i hi⟩
theorem Keeps.refl (S : Nat → Prop) (w : World) : Keeps S w w := Keeps.of (Ext.refl w)
theorem Keeps.trans (h : Keeps S w w') (k : Keeps S w' w'') : Keeps S w w'' :=
  ⟨k.os.trans h.os, k.tape.trans h.tape, k.output.trans h.output, Nat.le_trans h.size k.size, fun i hi hs => (k.block i (Nat.lt_of_lt_of_le hi h.size) hs).trans (h.block i hi hs)⟩
/-- The blocks that the second may write are those of the first, or were not there at first. -/
theorem Keeps.then {T : Nat → Prop} (h : Keeps S w w') (k : Keeps T w' w'') (hT : ∀ i, T i → S i ∨ w.heap.size ≤ i) : Keeps S w w'' :=
  ⟨k.os.trans h.os, k.tape.trans h.tape, k.output.trans h.output, Nat.le_trans h.size k.size, fun i hi hs =>
    (k.block i (Nat.lt_of_lt_of_le hi h.size) (fun ht => (hT i ht).elim hs (fun h2 => by omega))).trans (h.block i hi hs)⟩
theorem Keeps.set_ (h : Keeps S w w') {b : Nat} (hb : S b) (i : Nat) (u : Value) : Keeps S w (w'.setCell ⟨b, i, none⟩ u) :=
  h.trans ⟨rfl, rfl, rfl, by simp [World.setCell], fun k hk hne => heap_setCell_other _ _ _ _ (fun e => hne (by rw [e]; exact hb))⟩
theorem Keeps.grown (h : Keeps S w w') {row : Option Nat} (g : w'.grownBy w'' row) (hr : ∀ b, row = some b → S b ∨ w.heap.size ≤ b) : Keeps S w w'' :=
  ⟨g.os.trans h.os, g.tape.trans h.tape, g.output.trans h.output, Nat.le_trans h.size g.size, fun i hi hs =>
    (g.block i (Nat.lt_of_lt_of_le hi h.size) (fun e => (hr i e.symm).elim hs (fun h2 => by omega))).trans (h.block i hi hs)⟩
theorem Keeps.alloc (h : Keeps S w w') (o : Obj) : Keeps S w (w'.alloc o) := h.trans (Keeps.of ((Ext.refl w').alloc o))
theorem Keeps.cell (h : Keeps S w w') {p : Addr} {v : Value} (hc : w.cell? p = some v) (hs : ¬ S p.block) : w'.cell? p = some v :=
  (World.cell?_of_block (h.block _ (World.block_lt_of_cell? w _ hc) hs)).trans hc
theorem Rd.keepS {k n : Nat} {A : Option Addr} {xs : List Value} (h : Rd w k A n xs) (g : Keeps S w w') (hs : ∀ a, A = some a → ¬ S a.block) : Rd w' k A n xs := by
  refine ⟨h.1, fun hp => ?_⟩
  obtain ⟨b, o, e, hc⟩ := h.2 hp
  exact ⟨b, o, e, fun j u hu => g.cell (hc j u hu) (show ¬ S b from hs ⟨b, o, none⟩ e)⟩
theorem Blk.keep {g : Nat} {t : TypeId} {cs : Array Value} (h : Blk w g t cs) (k : Keeps S w w') (hs : ¬ S g) : Blk w' g t cs := (k.block g h.lt hs).trans h
/-- What lies below all that may be written is as it was. -/
theorem Ext.keeps {w0 : World} (h : Ext w0 w) (k : Keeps S w w') (hS : ∀ i, S i → w0.heap.size ≤ i) : Ext w0 w' :=
  ⟨k.os.trans h.below.os, k.tape.trans h.below.tape, k.output.trans h.below.output, Nat.le_trans h.below.size k.size, fun i hi =>
    (k.block i (Nat.lt_of_lt_of_le hi h.below.size) (fun hs => by have := hS i hs; omega)).trans (h.below.block i hi)⟩
end
end Go.Proofs.YtmckbcbdnckngaaGreatDoor

namespace Go.Proofs.YtmckbcbdnckngaaGreatDoor
open Go.RowKit

theorem any_step (p : UInt8 → Bool) {s : ByteArray} {k : Nat} (h : k < s.size) (h1 : (s.data.toList.take k).any p = false) (h2 : p s[k] = false) : (s.data.toList.take (k + 1)).any p = false := by
  rw [take_step _ k (by simpa using h), List.any_append, h1]
  have h2 : p s.data[k] = false := h2
  simpa using h2
theorem any_yes (p : UInt8 → Bool) {s : ByteArray} {k : Nat} (h : k < s.size) (h2 : p s[k] = true) : true = s.data.toList.any p := by
  have h2 : p s.data[k] = true := h2
  symm
  rw [List.any_eq_true]
  exact ⟨s.data[k], by simp, h2⟩
theorem any_end (p : UInt8 → Bool) {s : ByteArray} (h1 : (s.data.toList.take s.size).any p = false) : false = s.data.toList.any p := by
  rw [List.take_of_length_le (by simp)] at h1
  exact h1.symm
/-- May a sign not be in a tag? -/
def badT (c : UInt8) : Bool := decide ((c.toNat : Int) < 33) || ((c.toNat : Int) == 34) || ((c.toNat : Int) == 127)
theorem badT_yes {c : UInt8} (h : (c.toNat : Int) < 33 ∨ (c.toNat : Int) = 34 ∨ (c.toNat : Int) = 127) : badT c = true := by
  unfold badT; simp only [Bool.or_eq_true, decide_eq_true_eq, beq_iff_eq]; omega
theorem badT_no {c : UInt8} (h : ¬ ((c.toNat : Int) < 33 ∨ (c.toNat : Int) = 34 ∨ (c.toNat : Int) = 127)) : badT c = false := by
  rw [Bool.eq_false_iff]; unfold badT; simp only [ne_eq, Bool.or_eq_true, decide_eq_true_eq, beq_iff_eq]; omega
/-- May a string be the text of a tag? -/
def rightS (s : ByteArray) : Bool := !s.data.toList.any badT
def wkP (s : ByteArray) : Bool := Lib.hasPrefix s.data.toList [87, 47]
def wkR (s : ByteArray) : ByteArray := ⟨(Lib.trimPrefix s.data.toList [87, 47]).toArray⟩
/-- The text between quotes, if it is that of a tag. -/
def txtS (r : ByteArray) : Option ByteArray :=
  if h : r.size < 2 then none else if (r[0]'(by omega)) = 34 ∧ (r[r.size - 1]'(by omega)) = 34 ∧ rightS (r.extract 1 (r.size - 1)) = true then some (r.extract 1 (r.size - 1)) else none
theorem txt_short {r : ByteArray} (h : r.size < 2) : txtS r = none := by unfold txtS; rw [dif_pos h]
theorem txt_at {r : ByteArray} (h : ¬ r.size < 2) : txtS r = if (r[0]'(by omega)) = 34 ∧ (r[r.size - 1]'(by omega)) = 34 ∧ rightS (r.extract 1 (r.size - 1)) = true then some (r.extract 1 (r.size - 1)) else none := by unfold txtS; rw [dif_neg h]
theorem i34 {c : UInt8} (h : ¬ (c.toNat : Int) = 34) : ¬ c = 34 := fun e => h (by rw [e]; rfl)
theorem txt_no0 {r : ByteArray} (h : ¬ r.size < 2) (h0 : ¬ ((r[0]'(by omega)).toNat : Int) = 34) : txtS r = none := by rw [txt_at h, if_neg (fun e => i34 h0 e.1)]
theorem txt_no1 {r : ByteArray} (h : ¬ r.size < 2) (h0 : ¬ ((r[r.size - 1]'(by omega)).toNat : Int) = 34) : txtS r = none := by rw [txt_at h, if_neg (fun e => i34 h0 e.2.1)]
theorem txt_no2 {r : ByteArray} (h : ¬ r.size < 2) (h0 : rightS (r.extract 1 (r.size - 1)) = false) : txtS r = none := by rw [txt_at h, if_neg (fun e => by rw [h0] at e; exact absurd e.2.2 (by simp))]
theorem u8of {c : UInt8} (h : (c.toNat : Int) = 34) : c = 34 := UInt8.toNat_inj.1 (by show c.toNat = 34; omega)
theorem txt_yes {r : ByteArray} (h : ¬ r.size < 2) (h0 : ((r[0]'(by omega)).toNat : Int) = 34) (h1 : ((r[r.size - 1]'(by omega)).toNat : Int) = 34) (h2 : rightS (r.extract 1 (r.size - 1)) = true) : txtS r = some (r.extract 1 (r.size - 1)) := by
  rw [txt_at h, if_pos ⟨u8of h0, u8of h1, h2⟩]
/-- The tag of a text. -/
def tagS (s : ByteArray) : Option (Bool × ByteArray) := (txtS (wkR s)).map fun t => (wkP s, t)
theorem tag_none {s : ByteArray} (h : txtS (wkR s) = none) : tagS s = none := by unfold tagS; rw [h]; rfl
theorem tag_some {s t : ByteArray} (h : txtS (wkR s) = some t) : tagS s = some (wkP s, t) := by unfold tagS; rw [h]; rfl
def tagV (o : Option (Bool × ByteArray)) : Value := match o with | some t => .agg #[.bool t.1, .string t.2] | none => .agg #[.bool false, .string ⟨#[]⟩]
def tagE (o : Option (Bool × ByteArray)) : Nat := if o.isSome then 0 else 2
theorem wkR_size (s : ByteArray) : (wkR s).size ≤ s.size := by
  show (Lib.trimPrefix s.data.toList [87, 47]).toArray.size ≤ s.data.size
  unfold Lib.trimPrefix
  split
  · simp
  · simp


set_option maxHeartbeats 1000000 in
theorem val_plain (s : ByteArray) (w : World) (hs : s.size ≤ 4611686018427387904) :
    Calls Tryz.prog 160 #[.string s] w fun e w' => e = .returned (.bool (rightS s)) ∧ w' = w := by
  go_enter Tryz.func160, Tryz.ntmps160
  go_wp2_with fail
  go_loop [6] (fun i => ∃ k, k ≤ s.size ∧ i = .int .i64 (k : Nat) ∧ (s.data.toList.take k).any badT = false) (fun i => s.size - (intOf i).toNat)
  case atStart => exact ⟨0, Nat.zero_le _, rfl, rfl⟩
  case round =>
    obtain ⟨k, hk, rfl, hall⟩ := hrel
    by_cases hlt : k < s.size
    · have Hst := Lib.hid (any_step badT hlt hall); clear hall
      have Hyes := Lib.hid (any_yes badT hlt)
      have Hcy := Lib.hid (@badT_yes s[k])
      have Hcn := Lib.hid (@badT_no s[k])
      go_wp2_with fail
      all_goals first
        | (have hc := Hcn.out (by (try simp only [beq_iff_eq, beq_eq_false_iff_ne, ne_eq] at *); omega)
           go_round
           case rel => exact ⟨k + 1, by omega, by go_num, Hst.out hc⟩
           case measure => simp [intOf]; omega)
        | (have hc := Hcy.out (by (try simp only [beq_iff_eq] at *); omega)
           go_ret; exact ⟨congrArg (fun x => Ending.returned (.bool x)) (by unfold rightS; rw [← Hyes.out hc]; rfl), rfl⟩)
    · obtain rfl : k = s.size := by omega
      have He := Lib.hid (any_end badT hall); clear hall
      go_wp2_with fail
      all_goals (go_ret; exact ⟨congrArg (fun x => Ending.returned (.bool x)) (by unfold rightS; rw [← He.out]; rfl), rfl⟩)


set_option maxHeartbeats 1000000 in
set_option maxRecDepth 100000 in
theorem val_ReadTag (s : ByteArray) (w : World) (hs : s.size ≤ 1048576) :
    Calls Tryz.prog 135 #[.string s] w fun e w' => e = .returned (.tuple #[tagV (tagS s), errV (tagE (tagS s))]) ∧ Ext w w' := by
  have hrs := wkR_size s
  obtain ⟨R, hR0⟩ : ∃ R, wkR s = R := ⟨_, rfl⟩
  rw [hR0] at hrs
  have hR := Lib.hid hR0; clear hR0
  by_cases h2 : R.size < 2
  · have HN := Lib.hid (tag_none (s := s) (by rw [hR.out]; exact txt_short h2))
    go_enter Tryz.func135, Tryz.ntmps135
    go_wp2_with fail
    refine (Tryz.strings_CutPrefix s ⟨#[87, 47]⟩ _).mono ?_; rintro e w0 ⟨rfl, rfl⟩
    rw [show (⟨(Lib.trimPrefix s.data.toList (⟨#[87, 47]⟩ : ByteArray).data.toList).toArray⟩ : ByteArray) = R from hR.out, show Lib.hasPrefix s.data.toList (⟨#[87, 47]⟩ : ByteArray).data.toList = wkP s from rfl]
    go_wp2_with fail
    (exact bodyPost_ret (v := .tuple #[.agg #[.bool false, .string ⟨#[]⟩], .iface 63 (.int .i64 2)]) (by simp [results, Tryz.results135, go_sem]) rfl ⟨by rw [HN.out]; rfl, ((Ext.refl w).alloc _).alloc _⟩)
  by_cases h0 : ((R[0]'(by omega)).toNat : Int) = 34
  case neg =>
    have HN := Lib.hid (tag_none (s := s) (by rw [hR.out]; exact txt_no0 h2 h0))
    have hq0 : (((R[0]'(by omega)).toNat : Int) != 34) = true := by simp [h0]
    go_enter Tryz.func135, Tryz.ntmps135
    go_wp2_with fail
    refine (Tryz.strings_CutPrefix s ⟨#[87, 47]⟩ _).mono ?_; rintro e w0 ⟨rfl, rfl⟩
    rw [show (⟨(Lib.trimPrefix s.data.toList (⟨#[87, 47]⟩ : ByteArray).data.toList).toArray⟩ : ByteArray) = R from hR.out, show Lib.hasPrefix s.data.toList (⟨#[87, 47]⟩ : ByteArray).data.toList = wkP s from rfl]
    go_wp2_with fail
    (exact bodyPost_ret (v := .tuple #[.agg #[.bool false, .string ⟨#[]⟩], .iface 63 (.int .i64 2)]) (by simp [results, Tryz.results135, go_sem]) rfl ⟨by rw [HN.out]; rfl, ((Ext.refl w).alloc _).alloc _⟩)
  have hq0 : (((R[0]'(by omega)).toNat : Int) != 34) = false := by simp [h0]
  by_cases h1 : ((R[R.size - 1]'(by omega)).toNat : Int) = 34
  case neg =>
    have HN := Lib.hid (tag_none (s := s) (by rw [hR.out]; exact txt_no1 h2 h1))
    have hq1 : (((R[R.size - 1]'(by omega)).toNat : Int) != 34) = true := by simp [h1]
    go_enter Tryz.func135, Tryz.ntmps135
    go_wp2_with fail
    refine (Tryz.strings_CutPrefix s ⟨#[87, 47]⟩ _).mono ?_; rintro e w0 ⟨rfl, rfl⟩
    rw [show (⟨(Lib.trimPrefix s.data.toList (⟨#[87, 47]⟩ : ByteArray).data.toList).toArray⟩ : ByteArray) = R from hR.out, show Lib.hasPrefix s.data.toList (⟨#[87, 47]⟩ : ByteArray).data.toList = wkP s from rfl]
    go_wp2_with fail
    (exact bodyPost_ret (v := .tuple #[.agg #[.bool false, .string ⟨#[]⟩], .iface 63 (.int .i64 2)]) (by simp [results, Tryz.results135, go_sem]) rfl ⟨by rw [HN.out]; rfl, ((Ext.refl w).alloc _).alloc _⟩)
  have hq1 : (((R[R.size - 1]'(by omega)).toNat : Int) != 34) = false := by simp [h1]
  cases hr : rightS (R.extract 1 (R.size - 1))
  · have HN := Lib.hid (tag_none (s := s) (by rw [hR.out]; exact txt_no2 h2 hr))
    go_enter Tryz.func135, Tryz.ntmps135
    go_wp2_with fail
    refine (Tryz.strings_CutPrefix s ⟨#[87, 47]⟩ _).mono ?_; rintro e w0 ⟨rfl, rfl⟩
    rw [show (⟨(Lib.trimPrefix s.data.toList (⟨#[87, 47]⟩ : ByteArray).data.toList).toArray⟩ : ByteArray) = R from hR.out, show Lib.hasPrefix s.data.toList (⟨#[87, 47]⟩ : ByteArray).data.toList = wkP s from rfl]
    go_wp2_with fail
    refine (val_plain _ _ (by rw [ByteArray.size_extract]; omega)).mono ?_; rintro e w1 ⟨rfl, rfl⟩
    rw [hr]
    go_wp2_with fail
    (exact bodyPost_ret (v := .tuple #[.agg #[.bool false, .string ⟨#[]⟩], .iface 63 (.int .i64 2)]) (by simp [results, Tryz.results135, go_sem]) rfl ⟨by rw [HN.out]; rfl, ((Ext.refl w).alloc _).alloc _⟩)
  · have HY := Lib.hid (tag_some (s := s) (by rw [hR.out]; exact txt_yes h2 h0 h1 hr))
    go_enter Tryz.func135, Tryz.ntmps135
    go_wp2_with fail
    refine (Tryz.strings_CutPrefix s ⟨#[87, 47]⟩ _).mono ?_; rintro e w0 ⟨rfl, rfl⟩
    rw [show (⟨(Lib.trimPrefix s.data.toList (⟨#[87, 47]⟩ : ByteArray).data.toList).toArray⟩ : ByteArray) = R from hR.out, show Lib.hasPrefix s.data.toList (⟨#[87, 47]⟩ : ByteArray).data.toList = wkP s from rfl]
    go_wp2_with fail
    refine (val_plain _ _ (by rw [ByteArray.size_extract]; omega)).mono ?_; rintro e w1 ⟨rfl, rfl⟩
    rw [hr]
    go_wp2_with fail
    (exact bodyPost_ret (v := .tuple #[.agg #[.bool (wkP s), .string (R.extract 1 (R.size - 1))], .nilIface]) (by simp [results, Tryz.results135, go_sem]) rfl ⟨by rw [HY.out]; rfl, ((Ext.refl w).alloc _).alloc _⟩)


theorem wk_no {s : ByteArray} (h : wkP s = false) : wkR s = s ∧ (s.size < 2 ∨ (2 ≤ s.size ∧ ((s.extract 0 2).toList == [87, 47]) = false)) := by
  have hp : wkR s = s := by
    unfold wkR Lib.trimPrefix
    unfold wkP at h
    rw [h]; exact bytes_ext (by simp)
  refine ⟨hp, ?_⟩
  rcases Nat.lt_or_ge s.size 2 with h2 | h2
  · exact .inl h2
  · refine .inr ⟨h2, ?_⟩
    rw [ByteArray.toList_eq, ext_take]
    unfold wkP Lib.hasPrefix at h
    obtain ⟨⟨l⟩⟩ := s
    match l, h2 with
    | a :: b :: r, _ =>
      simp only [List.isPrefixOf, List.take_succ_cons, List.take_zero, Bool.and_true] at h ⊢
      rw [Bool.eq_false_iff] at h ⊢
      intro e
      rw [beq_iff_eq] at e
      injection e with e1 e2
      injection e2 with e2 _
      apply h
      rw [e1, e2]; rfl
theorem wk_yes {s : ByteArray} (h : wkP s = true) : 2 ≤ s.size ∧ ((s.extract 0 2).toList == [87, 47]) = true ∧ wkR s = s.extract 2 s.size := by
  unfold wkP Lib.hasPrefix at h
  have h2 := List.isPrefixOf_iff_prefix.1 h
  obtain ⟨t, ht⟩ := h2
  have hl := congrArg List.length ht
  simp only [List.length_append, List.length_cons, List.length_nil, Array.length_toList] at hl
  have hs2 : 2 ≤ s.size := by show 2 ≤ s.data.size; omega
  refine ⟨hs2, ?_, ?_⟩
  · rw [ByteArray.toList_eq, ext_take, ← ht]; rfl
  · unfold wkR Lib.trimPrefix Lib.hasPrefix
    rw [h]
    exact bytes_ext (by rw [ext_drop]; simp)


end Go.Proofs.YtmckbcbdnckngaaGreatDoor

namespace Go.Proofs.YtmckbcbdnckngaaGreatDoor
open Go.RowKit

theorem assert_num (v : Value) (w : World) : (Instr.typeAssert (.iface 63 v) 29 63 true).run Tryz.prog w = .ok (.tuple #[v, .bool true]) w := by
  simp [Instr.typeAssert, run_underlying Tryz.underlying63]

set_option maxHeartbeats 1000000 in
theorem base_Num (n : Nat) (hn : n < 1000) (w : World) :
    Calls Tryz.prog 26 #[errV n] w fun e w' => e = .returned (.int .i64 (n : Nat)) ∧ Ext w w' := by
  rcases Nat.eq_zero_or_pos n with h0 | h0
  · subst h0
    rw [show errV 0 = .nilIface from rfl]
    go_enter Tryz.func26, Tryz.ntmps26
    go_wp2_with fail
    go_ret
    exact ⟨rfl, Ext.refl _⟩
  · rw [show errV n = .iface 63 (.int .i64 n) by unfold errV; rw [if_neg (by omega)]]
    go_enter Tryz.func26, Tryz.ntmps26
    have ha := assert_num (.int .i64 n)
    go_wp2_with fail
    go_ret
    exact ⟨rfl, Ext.refl _⟩
end Go.Proofs.YtmckbcbdnckngaaGreatDoor

namespace Go.Proofs.YtmckbcbdnckngaaGreatDoor
open Go.RowKit

def qS : ByteArray := ⟨#[34]⟩
def wqS : ByteArray := ⟨#[87, 47, 34]⟩
/-- The text of a tag. -/
def wrS (wk : Bool) (t : ByteArray) : ByteArray := (if wk then wqS else qS) ++ t ++ qS
def wrO (wk : Bool) (t : ByteArray) : Option ByteArray := if rightS t then some (wrS wk t) else none
def eqT (a b : ByteArray) : Bool := a.toList == b.toList

set_option maxHeartbeats 1000000 in
theorem base_Is (n k : Nat) (hn : n < 1000) (hk : 0 < k) (hk2 : k < 1000) (w : World) :
    Calls Tryz.prog 23 #[errV n, .int .i64 (k : Nat)] w fun e w' => e = .returned (.bool (decide (n = k))) ∧ Ext w w' := by
  go_enter Tryz.func23, Tryz.ntmps23
  go_wp2_with fail
  refine (base_Num n hn _).mono ?_; rintro e w1 ⟨rfl, hb1⟩
  have hk0 : ((k : Int) != 0) = true := by rw [bne_iff_ne]; omega
  by_cases h : n = k
  · subst h
    go_wp2_with fail
    go_ret
    exact ⟨congrArg (fun x => Ending.returned (.bool x)) (by simp), hb1⟩
  · have hne : ((n : Int) == (k : Int)) = false := by rw [beq_eq_false_iff_ne]; omega
    go_wp2_with fail
    go_ret
    exact ⟨congrArg (fun x => Ending.returned (.bool x)) (by simp [h]), hb1⟩


set_option maxHeartbeats 1000000 in
theorem val_Strong (wa wb : Bool) (a b : ByteArray) (w : World) :
    Calls Tryz.prog 151 #[.agg #[.bool wa, .string a], .agg #[.bool wb, .string b]] w fun e w' => e = .returned (.bool (!wa && !wb && eqT a b)) ∧ Ext w w' := by
  have he := Lib.hid (show eqT a b = (a.toList == b.toList) from rfl)
  generalize eqT a b = q at *
  cases wa <;> cases wb <;> cases q
  all_goals
    have he2 := he.out.symm
    go_enter Tryz.func151, Tryz.ntmps151
    go_wp2_with fail
    go_ret
    exact ⟨rfl, ((Ext.refl w).alloc _).alloc _⟩


set_option maxHeartbeats 1000000 in
theorem val_Weak (wa wb : Bool) (a b : ByteArray) (w : World) :
    Calls Tryz.prog 164 #[.agg #[.bool wa, .string a], .agg #[.bool wb, .string b]] w fun e w' => e = .returned (.bool (eqT a b)) ∧ Ext w w' := by
  have he := Lib.hid (show eqT a b = (a.toList == b.toList) from rfl)
  generalize eqT a b = q at *
  cases wa <;> cases wb <;> cases q
  all_goals
    have he2 := he.out.symm
    go_enter Tryz.func164, Tryz.ntmps164
    go_wp2_with fail
    go_ret
    exact ⟨rfl, ((Ext.refl w).alloc _).alloc _⟩


def wrE (o : Option ByteArray) : Nat := if o.isSome then 0 else 2

end Go.Proofs.YtmckbcbdnckngaaGreatDoor

namespace Go.Proofs.YtmckbcbdnckngaaGreatDoor
open Go.RowKit

abbrev Tg := Bool × ByteArray
def trimQ (l : List UInt8) : ByteArray := ⟨(Lib.trimS l blank).toArray⟩
def mkB (l : List UInt8) : ByteArray := ⟨l.toArray⟩
theorem mkB_data (s : ByteArray) : mkB s.data.toList = s := bytes_ext (by simp [mkB])
def lefT (l : List UInt8) : List UInt8 := Lib.trimLeftS l blank
def twq (l : List UInt8) : List UInt8 := l.takeWhile (· != 34)
def dwq (l : List UInt8) : List UInt8 := (l.dropWhile (· != 34)).drop 1
/-- The list read tag by tag. -/
def rdL : Nat → List UInt8 → List Tg → Option (List Tg)
  | 0, _, _ => none
  | n + 1, l, out =>
    if l = [] then (if out = [] then none else some out)
    else if l.head? = some 44 then rdL n (lefT (l.drop 1)) out
    else if (twq l).length < l.length then
      (if (twq (dwq l)).length < (dwq l).length then
        match tagS (mkB (twq l ++ 34 :: (twq (dwq l) ++ [34]))) with
        | none => none
        | some t => (if (lefT (dwq (dwq l))) ≠ [] ∧ (lefT (dwq (dwq l))).head? ≠ some 44 then none else rdL n (lefT (dwq (dwq l))) (out ++ [t]))
      else none)
    else none
/-- A part more. -/
def addP (cur : List UInt8) (out : List Tg) : Option (List Tg) := if (trimQ cur).size = 0 then some out else (tagS (trimQ cur)).map fun t => out ++ [t]
def nq (c : UInt8) (q : Bool) : Bool := if c = 34 then !q else q
theorem nq_yes (q : Bool) : nq 34 q = !q := rfl
theorem nq_no {c : UInt8} {q : Bool} (h : c ≠ 34) : nq c q = q := by unfold nq; rw [if_neg h]
/-- The list taken apart at the commas outside quotes. -/
def rfL : List UInt8 → Bool → List UInt8 → List Tg → Option (List Tg)
  | [], _, cur, out => addP cur out
  | c :: l, q, cur, out =>
    if nq c q = true ∨ c ≠ 44 then rfL l (nq c q) (cur ++ [c]) out
    else match addP cur out with
      | none => none
      | some o => rfL l (nq c q) [] o
def finR (o : Option (List Tg)) : Option (List Tg) := match o with | none => none | some l => if l = [] then none else some l

theorem split34 (l : List UInt8) (h : (twq l).length < l.length) : l = twq l ++ 34 :: dwq l := by
  unfold twq dwq at *
  induction l with
  | nil => simp at h
  | cons c r ih =>
    by_cases hc : c = 34
    · subst hc; simp
    · simp only [List.takeWhile_cons, List.dropWhile_cons, bne_iff_ne, ne_eq, hc, not_false_eq_true, if_true, List.length_cons] at h ⊢
      rw [List.cons_append, ← ih (by omega)]
theorem tw_no (l : List UInt8) : ∀ c ∈ twq l, c ≠ 34 := fun c hc => by
  unfold twq at hc
  induction l with
  | nil => simp at hc
  | cons d r ih =>
    rw [List.takeWhile_cons] at hc
    split at hc
    · rcases List.mem_cons.1 hc with rfl | hc
      · rename_i h; simpa using h
      · exact ih hc
    · simp at hc
theorem tw_all (l : List UInt8) (h : ¬ (twq l).length < l.length) : ∀ c ∈ l, c ≠ 34 := by
  have hp : (twq l) <+: l := List.takeWhile_prefix _
  have : twq l = l := hp.eq_of_length (by have := hp.length_le; omega)
  rw [← this]; exact tw_no l

/-! Trimming. -/
theorem dwAll {p : UInt8 → Bool} {a : List UInt8} (b : List UInt8) (h : ∀ c ∈ a, p c = true) : (a ++ b).dropWhile p = b.dropWhile p := by
  induction a with
  | nil => rfl
  | cons x r ih =>
    rw [List.cons_append, List.dropWhile_cons, if_pos (h x (List.mem_cons_self ..)), ih (fun c hc => h c (List.mem_cons_of_mem _ hc))]
theorem dw_head {p : UInt8 → Bool} {a b : List UInt8} {c : UInt8} (ha : a.head? = some c) (hc : p c = false) : (a ++ b).dropWhile p = a ++ b := by
  cases a with
  | nil => cases ha
  | cons x r =>
    simp only [List.head?_cons, Option.some.injEq] at ha
    subst ha
    rw [List.cons_append, List.dropWhile_cons, if_neg (by simp [hc])]
theorem trimR_app {a b : List UInt8} {d : UInt8} (hd : a.getLast? = some d) (hb : bl d = false) : Lib.trimRightS (a ++ b) blank = a ++ Lib.trimRightS b blank := by
  unfold Lib.trimRightS
  rw [List.reverse_append, List.dropWhile_append]
  split
  · rename_i he
    have he2 : b.reverse.dropWhile (blank.contains ·) = [] := by simpa using he
    rw [he2]
    cases hr : a.reverse with
    | nil => rw [List.reverse_eq_nil_iff] at hr; subst hr; cases hd
    | cons x r =>
      have hx : x = d := by
        rw [List.getLast?_eq_head?_reverse, hr] at hd
        simpa using hd
      subst hx
      rw [List.dropWhile_cons, if_neg (by simpa [bl] using hb), ← hr, List.reverse_reverse]
      simp
  · rw [List.reverse_append, List.reverse_reverse]
theorem trim_app {a b : List UInt8} {c d : UInt8} (hc : a.head? = some c) (hcb : bl c = false) (hd : a.getLast? = some d) (hb : bl d = false) : Lib.trimS (a ++ b) blank = a ++ Lib.trimRightS b blank := by
  unfold Lib.trimS
  rw [trimR_app hd hb]
  exact dw_head hc hcb
theorem trimR_nil {b : List UInt8} (h : ∀ c ∈ b, bl c = true) : Lib.trimRightS b blank = [] := by
  unfold Lib.trimRightS
  have := dwAll (p := (blank.contains ·)) (a := b.reverse) [] (fun c hc => h c (List.mem_reverse.1 hc))
  rw [List.append_nil] at this
  rw [this]; rfl
theorem trim_cons {c : UInt8} (l : List UInt8) (h : bl c = true) : Lib.trimS (c :: l) blank = Lib.trimS l blank := trimL_cons c l h
theorem left_split (l : List UInt8) : ∃ bs, (∀ c ∈ bs, bl c = true) ∧ l = bs ++ lefT l ∧ (∀ c, (lefT l).head? = some c → bl c = false) := by
  unfold lefT Lib.trimLeftS
  induction l with
  | nil => exact ⟨[], by simp, rfl, by simp⟩
  | cons x r ih =>
    rw [List.dropWhile_cons]
    split
    · rename_i h
      obtain ⟨bs, h1, h2, h3⟩ := ih
      refine ⟨x :: bs, ?_, ?_, h3⟩
      · intro c hc
        rcases List.mem_cons.1 hc with rfl | hc
        · exact h
        · exact h1 c hc
      · rw [List.cons_append, ← h2]
    · rename_i h
      exact ⟨[], by simp, rfl, fun c hc => by
        simp only [List.head?_cons, Option.some.injEq] at hc
        subst hc
        simpa [bl] using h⟩
theorem lefT_len (l : List UInt8) : (lefT l).length ≤ l.length := by
  obtain ⟨bs, _, h, _⟩ := left_split l
  have := congrArg List.length h
  rw [List.length_append] at this
  omega

/-! What a tag's text is. -/
def pfx (w : Bool) : List UInt8 := if w then [87, 47] else []
theorem tag_form {y : ByteArray} {t : Tg} (h : tagS y = some t) : y.data.toList = pfx t.1 ++ 34 :: (t.2.data.toList ++ [34]) ∧ ∀ c ∈ t.2.data.toList, c ≠ 34 := by
  unfold tagS at h
  obtain ⟨x, hx, rfl⟩ := Option.map_eq_some_iff.1 h
  have hw : y.data.toList = pfx (wkP y) ++ (wkR y).data.toList := by
    unfold wkP wkR Lib.trimPrefix
    cases hp : Lib.hasPrefix y.data.toList [87, 47]
    · simp [pfx]
    · unfold Lib.hasPrefix at hp
      obtain ⟨u, hu⟩ := List.isPrefixOf_iff_prefix.1 hp
      rw [← hu]; simp [pfx]
  generalize wkR y = r at *
  unfold txtS at hx
  split at hx
  · cases hx
  · rename_i h2
    split at hx
    · rename_i h3
      obtain ⟨h4, h5, h6⟩ := h3
      injection hx with hx
      subst hx
      have hr : r.data.toList = 34 :: ((r.extract 1 (r.size - 1)).data.toList ++ [34]) := by
        have he : (r.extract 1 (r.size - 1)).data.toList = (r.data.toList.drop 1).take (r.size - 1 - 1) := by rw [← ByteArray.toList_eq, Lib.extract_toList]
        rw [he]
        clear he
        obtain ⟨⟨l⟩⟩ := r
        have h2' : ¬ l.length < 2 := h2
        have h4' : l[0]'(by omega) = 34 := h4
        have h5' : l[l.length - 1]'(by omega) = 34 := h5
        show l = 34 :: (_ ++ [34])
        rw [show (ByteArray.mk (Array.mk l)).size = l.length from rfl]
        match l, h2', h4', h5' with
        | a :: b :: m, _, h4', h5' =>
          simp only [List.getElem_cons_zero] at h4'
          subst h4'
          congr 1
          show b :: m = ((b :: m).take (m.length + 1 + 1 - 1 - 1)) ++ [34]
          have h7 : (b :: m).take (m.length + 1 + 1 - 1 - 1) ++ [(b :: m)[m.length]'(by simp)] = b :: m := by
            rw [show m.length + 1 + 1 - 1 - 1 = m.length by omega, ← List.take_succ_eq_append_getElem]
            exact List.take_of_length_le (by simp)
          have h8 : (b :: m)[m.length]'(by simp) = 34 := by
            have : ((34 : UInt8) :: b :: m)[((34 : UInt8) :: b :: m).length - 1]'(by simp) = (b :: m)[m.length]'(by simp) := by simp
            first | exact this.symm.trans h5' | simpa using h5'
          rw [h8] at h7
          exact h7.symm
      refine ⟨by rw [hw]; congr 1, ?_⟩
      intro c hc e
      subst e
      unfold rightS at h6
      rw [Bool.not_eq_true', List.any_eq_false] at h6
      exact h6 34 hc (by decide)
    · cases hx
theorem tag_no34 {y : ByteArray} (h : ∀ c ∈ y.data.toList, c ≠ 34) : tagS y = none := by
  cases ht : tagS y with
  | none => rfl
  | some t =>
    have := (tag_form ht).1
    exact absurd rfl (h 34 (by rw [this]; simp))
theorem app_inj {a b x y : List UInt8} (ha : ∀ c ∈ a, c ≠ 34) (hb : ∀ c ∈ b, c ≠ 34) (h : a ++ 34 :: x = b ++ 34 :: y) : a = b ∧ x = y := by
  induction a generalizing b with
  | nil =>
    cases b with
    | nil => simp at h; exact ⟨rfl, h⟩
    | cons d r => simp at h; exact absurd h.1.symm (hb d (List.mem_cons_self ..))
  | cons c a ih =>
    cases b with
    | nil => simp at h; exact absurd h.1 (ha c (List.mem_cons_self ..))
    | cons d r =>
      simp only [List.cons_append, List.cons.injEq] at h
      obtain ⟨h1, h2⟩ := ih (fun c hc => ha c (List.mem_cons_of_mem _ hc)) (fun c hc => hb c (List.mem_cons_of_mem _ hc)) h.2
      exact ⟨by rw [h.1, h1], h2⟩
theorem pfx_no (w : Bool) : ∀ c ∈ pfx w, c ≠ 34 ∧ c ≠ 44 := by cases w <;> decide
/-- A text that goes on behind its second quote is no tag. -/
theorem tag_more {pre mid x : List UInt8} (hp : ∀ c ∈ pre, c ≠ 34) (hm : ∀ c ∈ mid, c ≠ 34) (hx : x ≠ []) : tagS (mkB (pre ++ 34 :: (mid ++ 34 :: x))) = none := by
  cases ht : tagS (mkB (pre ++ 34 :: (mid ++ 34 :: x))) with
  | none => rfl
  | some t =>
    obtain ⟨h1, h2⟩ := tag_form ht
    have h3 : pre ++ 34 :: (mid ++ 34 :: x) = pfx t.1 ++ 34 :: (t.2.data.toList ++ 34 :: []) := by
      rw [← h1]; simp [mkB]
    obtain ⟨_, h4⟩ := app_inj hp (fun c hc => (pfx_no t.1 c hc).1) h3
    exact absurd (app_inj hm h2 h4).2 hx
theorem tag_one {pre x : List UInt8} (hp : ∀ c ∈ pre, c ≠ 34) (hx : ∀ c ∈ x, c ≠ 34) : tagS (mkB (pre ++ 34 :: x)) = none := by
  cases ht : tagS (mkB (pre ++ 34 :: x)) with
  | none => rfl
  | some t =>
    obtain ⟨h1, h2⟩ := tag_form ht
    have h3 : pre ++ 34 :: x = pfx t.1 ++ 34 :: (t.2.data.toList ++ 34 :: []) := by
      rw [← h1]; simp [mkB]
    obtain ⟨_, h4⟩ := app_inj hp (fun c hc => (pfx_no t.1 c hc).1) h3
    exact absurd rfl (hx 34 (by rw [h4]; simp))
theorem tag_pre {pre x : List UInt8} (hp : ∀ c ∈ pre, c ≠ 34) (h44 : 44 ∈ pre) : tagS (mkB (pre ++ 34 :: x)) = none := by
  cases ht : tagS (mkB (pre ++ 34 :: x)) with
  | none => rfl
  | some t =>
    obtain ⟨h1, h2⟩ := tag_form ht
    have h3 : pre ++ 34 :: x = pfx t.1 ++ 34 :: (t.2.data.toList ++ 34 :: []) := by
      rw [← h1]; simp [mkB]
    obtain ⟨h4, _⟩ := app_inj hp (fun c hc => (pfx_no t.1 c hc).1) h3
    rw [h4] at h44
    exact absurd rfl ((pfx_no t.1 44 h44).2)

/-! The parts. -/
theorem trimQ_nil : (trimQ []).size = 0 := by decide +kernel
theorem addP_nil (out : List Tg) : addP [] out = some out := by unfold addP; rw [if_pos trimQ_nil]
theorem addP_bl {c : UInt8} (cur : List UInt8) (out : List Tg) (h : bl c = true) : addP (c :: cur) out = addP cur out := by
  unfold addP trimQ; rw [trim_cons cur h]
theorem rf_bl {c : UInt8} (h : bl c = true) : ∀ (l : List UInt8) (q : Bool) (cur : List UInt8) (out : List Tg), rfL l q (c :: cur) out = rfL l q cur out
  | [], q, cur, out => addP_bl cur out h
  | d :: l, q, cur, out => by
    simp only [rfL]
    split
    · rw [List.cons_append]; exact rf_bl h l _ _ _
    · rw [addP_bl cur out h]
theorem rf_left (l : List UInt8) (out : List Tg) : rfL (lefT l) false [] out = rfL l false [] out := by
  obtain ⟨bs, h1, h2, _⟩ := left_split l
  have key : ∀ (bs x : List UInt8), (∀ c ∈ bs, bl c = true) → rfL (bs ++ x) false [] out = rfL x false [] out := by
    intro bs x
    induction bs with
    | nil => intro _; rfl
    | cons b r ih =>
      intro hb
      have hbb := hb b (List.mem_cons_self ..)
      have h34 : b ≠ 34 := fun e => by subst e; exact absurd hbb (by decide)
      have h44 : b ≠ 44 := fun e => by subst e; exact absurd hbb (by decide)
      rw [List.cons_append]
      simp only [rfL]
      rw [nq_no h34, if_pos (.inr h44), List.nil_append, rf_bl hbb, ih (fun c hc => hb c (List.mem_cons_of_mem _ hc))]
  rw [← key bs (lefT l) h1, ← h2]
theorem rf_part {p : List UInt8} (r : List UInt8) (out : List Tg) (hp : ∀ c ∈ p, c ≠ 34 ∧ c ≠ 44) : ∀ cur, rfL (p ++ r) false cur out = rfL r false (cur ++ p) out := by
  induction p with
  | nil => intro cur; simp
  | cons c p ih =>
    intro cur
    have hc := hp c (List.mem_cons_self ..)
    rw [List.cons_append]
    simp only [rfL]
    rw [nq_no hc.1, if_pos (.inr hc.2), ih (fun c hc => hp c (List.mem_cons_of_mem _ hc)), List.append_assoc]; rfl
theorem rf_quo {p : List UInt8} (r : List UInt8) (out : List Tg) (hp : ∀ c ∈ p, c ≠ 34) : ∀ cur, rfL (p ++ r) true cur out = rfL r true (cur ++ p) out := by
  induction p with
  | nil => intro cur; simp
  | cons c p ih =>
    intro cur
    have hc := hp c (List.mem_cons_self ..)
    rw [List.cons_append]
    simp only [rfL]
    rw [nq_no hc, if_pos (.inl rfl), ih (fun c hc => hp c (List.mem_cons_of_mem _ hc)), List.append_assoc]; rfl
theorem rf_34 (r : List UInt8) (q : Bool) (cur : List UInt8) (out : List Tg) : rfL (34 :: r) q cur out = rfL r (!q) (cur ++ [34]) out := by
  simp only [rfL]
  rw [nq_yes, if_pos (.inr (by decide))]
theorem rf_bad {out : List Tg} : ∀ (l : List UInt8) (q : Bool) (cur : List UInt8), (∀ x, addP (cur ++ x) out = none) → rfL l q cur out = none
  | [], q, cur, h => by have := h []; rwa [List.append_nil] at this
  | c :: l, q, cur, h => by
    simp only [rfL]
    split
    · exact rf_bad l _ _ (fun x => by rw [List.append_assoc]; exact h _)
    · have := h []
      rw [List.append_nil] at this
      rw [this]
theorem q_size {l : List UInt8} (h : Lib.trimS l blank ≠ []) : ¬ (trimQ l).size = 0 := by
  intro e
  apply h
  have : (Lib.trimS l blank).toArray.size = 0 := e
  simpa using this
theorem dwNil {p : UInt8 → Bool} : ∀ {l : List UInt8}, l.dropWhile p = [] → ∀ x ∈ l, p x = true
  | [], _, x, hx => by simp at hx
  | y :: l, h, x, hx => by
    rw [List.dropWhile_cons] at h
    split at h
    · rename_i hy
      rcases List.mem_cons.1 hx with rfl | hx
      · exact hy
      · exact dwNil h x hx
    · cases h
theorem last_snoc (l : List UInt8) (x : UInt8) : (l ++ [x]).getLast? = some x := by simp
theorem split44 : ∀ {l : List UInt8}, 44 ∈ l → ∃ a b, l = a ++ 44 :: b ∧ 44 ∉ a
  | [], h => by simp at h
  | x :: t, h => by
    by_cases hx : x = 44
    · subst hx; exact ⟨[], t, rfl, by simp⟩
    · obtain ⟨a, b, h1, h2⟩ := split44 (l := t) (by rcases List.mem_cons.1 h with h | h; exact absurd h.symm hx; exact h)
      refine ⟨x :: a, b, by rw [h1]; rfl, fun hm => ?_⟩
      rcases List.mem_cons.1 hm with h | h
      · exact hx h.symm
      · exact h2 h
theorem trim_ne {l : List UInt8} {c : UInt8} (hm : c ∈ l) (hb : bl c = false) : Lib.trimS l blank ≠ [] := by
  obtain ⟨a, b, rfl⟩ := List.append_of_mem hm
  intro h
  have h1 : Lib.trimRightS (a ++ c :: b) blank = (a ++ [c]) ++ Lib.trimRightS b blank := by
    rw [show a ++ c :: b = (a ++ [c]) ++ b by simp]
    exact trimR_app (d := c) (by simp) hb
  unfold Lib.trimS Lib.trimLeftS at h
  rw [h1] at h
  have := dwNil h c (by simp)
  exact absurd this (by simpa [bl] using hb)
theorem trim_sub {l : List UInt8} : ∀ c ∈ Lib.trimS l blank, c ∈ l := by
  intro c hc
  unfold Lib.trimS Lib.trimLeftS Lib.trimRightS at hc
  have h1 := List.dropWhile_sublist (fun x => blank.contains x) |>.subset hc
  have h2 := List.mem_reverse.1 h1
  exact List.mem_reverse.1 (List.dropWhile_sublist (fun x => blank.contains x) |>.subset h2)
theorem addP_no34 {cur : List UInt8} {c : UInt8} {out : List Tg} (hm : c ∈ cur) (hb : bl c = false) (h : ∀ d ∈ cur, d ≠ 34) : addP cur out = none := by
  unfold addP
  rw [if_neg (q_size (trim_ne hm hb)), tag_no34 (y := trimQ cur) (fun d hd => h d (trim_sub d (by simpa [trimQ] using hd)))]
  rfl

theorem rd_rf : ∀ (n : Nat) (l : List UInt8) (out : List Tg), l.length < n → (∀ c, l.head? = some c → bl c = false) → rdL n l out = finR (rfL l false [] out) := by
  intro n
  induction n with
  | zero => intro l out h; omega
  | succ n ih =>
    intro l out hn hh
    cases l with
    | nil =>
      rw [rdL, if_pos rfl, rfL, addP_nil]; rfl
    | cons c r =>
      have hcb := hh c rfl
      rw [rdL, if_neg (by simp)]
      by_cases h44 : c = 44
      · subst h44
        rw [if_pos (by rfl)]
        have hl := lefT_len r
        obtain ⟨_, _, _, h3⟩ := left_split r
        show rdL n (lefT r) out = _
        rw [ih _ _ (by simp at hn; omega) h3, rf_left]
        have : rfL (44 :: r) false [] out = rfL r false [] out := by
          simp only [rfL]
          rw [nq_no (by decide), if_neg (by simp), addP_nil]
        rw [this]
      · rw [if_neg (by simp only [List.head?_cons, Option.some.injEq]; exact h44)]
        -- the parts up to the first comma
        have nopart : ∀ p x, c :: r = p ++ x → (∀ d ∈ p, d ≠ 34 ∧ d ≠ 44) → p ≠ [] → (x = [] ∨ ∃ y, x = 44 :: y) → rfL (c :: r) false [] out = none := by
          intro p x he hp hpn hx
          have hcp : c ∈ p := by
            cases p with
            | nil => exact absurd rfl hpn
            | cons a b => simp only [List.cons_append, List.cons.injEq] at he; rw [he.1]; exact List.mem_cons_self ..
          have hbad : addP p out = none := addP_no34 hcp hcb (fun d hd => (hp d hd).1)
          rw [he, rf_part x out hp, List.nil_append]
          rcases hx with rfl | ⟨y, rfl⟩
          · exact hbad
          · simp only [rfL]
            rw [nq_no (by decide), if_neg (by simp), hbad]
        by_cases h1 : (twq (c :: r)).length < (c :: r).length
        · rw [if_pos h1]
          have hs1 := split34 _ h1
          have hn1 := tw_no (c :: r)
          generalize hpre : twq (c :: r) = pre at *
          generalize hr1 : dwq (c :: r) = r1 at *
          by_cases hp44 : 44 ∈ pre
          · -- a comma ahead of the first quote
            have hnone : rfL (c :: r) false [] out = none := by
              obtain ⟨a, b, hab, hna⟩ := split44 hp44
              refine nopart a (44 :: (b ++ 34 :: r1)) (by rw [hs1, hab]; simp) (fun d hd => ⟨hn1 d (by rw [hab]; exact List.mem_append_left _ hd), fun e => hna (by rw [← e]; exact hd)⟩) ?_ (.inr ⟨_, rfl⟩)
              rintro rfl
              rw [hab] at hs1
              simp only [List.nil_append, List.cons_append, List.cons.injEq] at hs1
              exact h44 hs1.1
            rw [hnone]
            split
            · rw [tag_pre hn1 hp44]; rfl
            · rfl
          · have hpp : ∀ d ∈ pre, d ≠ 34 ∧ d ≠ 44 := fun d hd => ⟨hn1 d hd, fun e => hp44 (by rw [← e]; exact hd)⟩
            have hrf1 : rfL (c :: r) false [] out = rfL r1 true (pre ++ [34]) out := by
              rw [hs1, rf_part _ out hpp, rf_34, List.nil_append]; rfl
            rw [hrf1]
            by_cases h2 : (twq r1).length < r1.length
            · rw [if_pos h2]
              have hs2 := split34 _ h2
              have hn2 := tw_no r1
              have hlen : r1.length ≤ r.length := by
                have := congrArg List.length hs1
                simp only [List.length_cons, List.length_append] at this; omega
              generalize hmid : twq r1 = mid at *
              generalize hr2 : dwq r1 = r2 at *
              have hlen2 : r2.length < r1.length := by
                have := congrArg List.length hs2
                simp only [List.length_cons, List.length_append] at this; omega
              have hrf2 : rfL r1 true (pre ++ [34]) out = rfL r2 false (pre ++ 34 :: (mid ++ [34])) out := by
                rw [hs2, rf_quo _ out hn2, rf_34]
                simp
              rw [hrf2]
              have hhead : (pre ++ 34 :: (mid ++ [34])).head? = some c := by
                cases pre with
                | nil => simp at hs1 ⊢; exact hs1.1.symm
                | cons a b => simp at hs1 ⊢; exact hs1.1.symm
              have hlast : (pre ++ 34 :: (mid ++ [34])).getLast? = some 34 := by
                have e : pre ++ 34 :: (mid ++ [34]) = (pre ++ 34 :: mid) ++ [34] := by simp
                rw [e]; exact last_snoc _ _
              obtain ⟨bs, hb1, hb2, hb3⟩ := left_split r2
              have hbp : ∀ d ∈ bs, d ≠ 34 ∧ d ≠ 44 := fun d hd => by
                have := hb1 d hd
                exact ⟨fun e => by subst e; exact absurd this (by decide), fun e => by subst e; exact absurd this (by decide)⟩
              have hrf3 : rfL r2 false (pre ++ 34 :: (mid ++ [34])) out = rfL (lefT r2) false ((pre ++ 34 :: (mid ++ [34])) ++ bs) out := by
                conv => lhs; rw [hb2]
                rw [rf_part _ out hbp]
              rw [hrf3]
              have htr : trimQ ((pre ++ 34 :: (mid ++ [34])) ++ bs) = mkB (pre ++ 34 :: (mid ++ [34])) := by
                unfold trimQ mkB
                rw [trim_app hhead hcb hlast (by decide), trimR_nil hb1, List.append_nil]
              have hadd : addP ((pre ++ 34 :: (mid ++ [34])) ++ bs) out = (tagS (mkB (pre ++ 34 :: (mid ++ [34])))).map fun t => out ++ [t] := by
                unfold addP
                rw [if_neg (q_size (trim_ne (c := c) (List.mem_append_left _ (List.mem_of_mem_head? hhead)) hcb)), htr]
              have hll := lefT_len r2
              cases hl2 : lefT r2 with
              | nil =>
                rw [rfL, hadd]
                cases tagS (mkB (pre ++ 34 :: (mid ++ [34]))) with
                | none => rfl
                | some t =>
                  simp only [Option.map_some, ne_eq, not_true_eq_false, false_and, if_false]
                  cases n with
                  | zero => simp at hn
                  | succ n => rw [rdL, if_pos rfl]; simp [finR]
              | cons d r3 =>
                have hdb := hb3 d (by rw [hl2]; rfl)
                by_cases hd44 : d = 44
                · subst hd44
                  have hrf4 : rfL (44 :: r3) false ((pre ++ 34 :: (mid ++ [34])) ++ bs) out = match addP ((pre ++ 34 :: (mid ++ [34])) ++ bs) out with | none => none | some o => rfL r3 false [] o := by
                    simp only [rfL]
                    rw [nq_no (by decide), if_neg (by simp)]
                  rw [hrf4, hadd]
                  cases tagS (mkB (pre ++ 34 :: (mid ++ [34]))) with
                  | none => rfl
                  | some t =>
                    simp only [Option.map_some]
                    rw [if_neg (by simp), ih _ _ (by rw [hl2] at hll; simp only [List.length_cons] at *; omega) (fun x hx => by simp at hx; subst hx; decide)]
                    have : rfL (44 :: r3) false [] (out ++ [t]) = rfL r3 false [] (out ++ [t]) := by
                      simp only [rfL]
                      rw [nq_no (by decide), if_neg (by simp), addP_nil]
                    rw [this]
                · have hbad : rfL (d :: r3) false ((pre ++ 34 :: (mid ++ [34])) ++ bs) out = none := by
                    have hstep : rfL (d :: r3) false ((pre ++ 34 :: (mid ++ [34])) ++ bs) out = rfL r3 (nq d false) ((pre ++ 34 :: (mid ++ [34])) ++ bs ++ [d]) out := by
                      simp only [rfL]
                      rw [if_pos (.inr hd44)]
                    rw [hstep]
                    refine rf_bad _ _ _ fun x => ?_
                    have htr2 : trimQ ((pre ++ 34 :: (mid ++ [34])) ++ bs ++ [d] ++ x) = mkB (pre ++ 34 :: (mid ++ 34 :: (bs ++ d :: Lib.trimRightS x blank))) := by
                      unfold trimQ mkB
                      rw [trim_app (c := c) (d := d) (by rw [List.append_assoc, List.head?_append, hhead]; rfl) hcb (last_snoc _ _) hdb]
                      simp
                    unfold addP
                    rw [if_neg (q_size (trim_ne (c := d) (by simp) hdb)), htr2, tag_more hn1 hn2 (by simp)]
                    rfl
                  rw [hbad]
                  cases tagS (mkB (pre ++ 34 :: (mid ++ [34]))) with
                  | none => rfl
                  | some t => simp only []; rw [if_pos ⟨by simp, by simp [hd44]⟩]; rfl
            · rw [if_neg h2]
              have hn2 := tw_all r1 h2
              have hrf2 : rfL r1 true (pre ++ [34]) out = addP ((pre ++ [34]) ++ r1) out := by
                have := rf_quo (p := r1) [] out hn2 (pre ++ [34])
                rw [List.append_nil] at this
                rw [this]; rfl
              rw [hrf2]
              have hhead : (pre ++ [34]).head? = some c := by
                cases pre with
                | nil => simp at hs1 ⊢; exact hs1.1.symm
                | cons a b => simp at hs1 ⊢; exact hs1.1.symm
              have htr : trimQ ((pre ++ [34]) ++ r1) = mkB (pre ++ 34 :: Lib.trimRightS r1 blank) := by
                unfold trimQ mkB
                rw [trim_app (d := 34) hhead hcb (by simp) (by decide)]
                simp
              have hsub : ∀ d ∈ Lib.trimRightS r1 blank, d ≠ 34 := fun d hd => hn2 d (by
                unfold Lib.trimRightS at hd
                exact List.mem_reverse.1 (List.dropWhile_sublist (fun x => blank.contains x) |>.subset (List.mem_reverse.1 hd)))
              unfold addP
              rw [if_neg (q_size (trim_ne (c := 34) (by simp) (by decide))), htr, tag_one hn1 hsub]
              rfl
        · rw [if_neg h1]
          have hn1 := tw_all _ h1
          -- no quote at all: the part ahead of the first comma is no tag
          have hnone : rfL (c :: r) false [] out = none := by
            refine nopart ((c :: r).takeWhile (· != 44)) ((c :: r).dropWhile (· != 44)) (List.takeWhile_append_dropWhile).symm (fun d hd => ⟨hn1 d (List.takeWhile_sublist _ |>.subset hd), ?_⟩) (by rw [List.takeWhile_cons, if_pos (by simpa using h44)]; simp) ?_
            · intro e
              have : ∀ (t : List UInt8), ∀ d ∈ t.takeWhile (· != 44), d ≠ 44 := by
                intro t
                induction t with
                | nil => simp
                | cons x t iht =>
                  rw [List.takeWhile_cons]
                  split
                  · rename_i hx
                    intro d hm
                    rcases List.mem_cons.1 hm with h | h
                    · subst h; simpa using hx
                    · exact iht d h
                  · simp
              exact this _ d hd e
            · cases hd : (c :: r).dropWhile (· != 44) with
              | nil => exact .inl rfl
              | cons x y =>
                right
                have := List.head?_dropWhile_not (fun z : UInt8 => z != 44) (c :: r)
                rw [hd] at this
                simp at this
                exact ⟨y, by rw [this]⟩
          rw [hnone]; rfl
end Go.Proofs.YtmckbcbdnckngaaGreatDoor
