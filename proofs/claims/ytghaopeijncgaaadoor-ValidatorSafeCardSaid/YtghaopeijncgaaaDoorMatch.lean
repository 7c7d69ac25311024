
/- The walk of validator.matches; validator.date and Evaluate at the fixed example; the law package's awake. -/
import Derived.Test.YtghaopeijncgaaaDoorRAll
import Derived.Test.YtghaopeijncgaaaDoorGet
import Derived.Test.YtghaopeijncgaaaDoorBlk
namespace Go.Proofs.YtghaopeijncgaaaDoor
open Go.RowKit

/-- The state of a resource. -/
structure St where
  ex : Bool
  ht : Bool
  hm : Bool
  tw : Bool
  tt : ByteArray
  md : Int
def stArr (s : St) : Array Value := #[.bool s.ex, .bool s.ht, .bool s.hm, .bool s.tw, .string s.tt, .int .i64 s.md]
/-- Does a tag match that of a state? -/
def mtT (st : St) (strong : Bool) (t : Tg) : Bool := st.ht && (if strong then (!t.1 && !st.tw && eqT t.2 st.tt) else eqT t.2 st.tt)
def matS (v : ByteArray) (st : St) (strong : Bool) : Bool := match tgO v with
  | none => false
  | some l => if isStar v then st.ex else l.any (mtT st strong)
theorem tgCells_at : ∀ (l : List Tg) (k : Nat) (h : k < l.length), (tgCells l)[k * 2]? = some (.bool l[k].1) ∧ (tgCells l)[k * 2 + 1]? = some (.string l[k].2)
  | x :: l, 0, _ => ⟨rfl, rfl⟩
  | x :: l, k + 1, h => by
    have := tgCells_at l k (by simpa using h)
    simp only [tgCells, List.flatMap_cons] at *
    rw [show (k + 1) * 2 = k * 2 + 2 by omega, show k * 2 + 2 + 1 = k * 2 + 1 + 2 by omega]
    simpa using this
theorem Rd.lenT {w : World} {A : Option Addr} {n : Nat} {ts : List Tg} (h : RdT w A n ts) : ts.length = n := by have := h.1; rw [tgCells_len] at this; omega
theorem Rd.atT {w : World} {A : Option Addr} {n : Nat} {ts : List Tg} (h : RdT w A n ts) {k : Nat} (hk : k < ts.length) :
    ∃ b o, A = some ⟨b, o, none⟩ ∧ w.cell? ⟨b, o + k * 2, none⟩ = some (.bool ts[k].1) ∧ w.cell? ⟨b, o + k * 2 + 1, none⟩ = some (.string ts[k].2) := by
  obtain ⟨b, o, e, hc⟩ := h.2 (by rw [tgCells_len]; omega)
  exact ⟨b, o, e, hc _ _ (tgCells_at _ _ hk).1, hc _ _ (tgCells_at _ _ hk).2⟩
theorem anyT_step {p : Tg → Bool} {l : List Tg} {k : Nat} (h : k < l.length) (h1 : (l.take k).any p = false) (h2 : p l[k] = false) : (l.take (k + 1)).any p = false := by
  rw [take_step l k h, List.any_append, h1]; simpa using h2
theorem anyT_yes {p : Tg → Bool} {l : List Tg} {k : Nat} (h : k < l.length) (h2 : p l[k] = true) : l.any p = true := by
  rw [List.any_eq_true]; exact ⟨l[k], List.getElem_mem h, h2⟩

set_option maxHeartbeats 2000000 in
set_option maxRecDepth 100000 in
theorem val_matches (v : ByteArray) (st : St) (strong : Bool) (w : World) (hs : v.size ≤ 1048576) :
    Calls Tryd.prog 43 #[.string v, .agg (stArr st), .bool strong] w fun e w' => e = .returned (.bool (matS v st strong)) ∧ Ext w w' := by
  have HB0 := Lib.hid (Blk.new w 61 (stArr st))
  have HE0 := Lib.hid ((Ext.refl w).alloc (.cells (stArr st) 61))
  go_enter Tryd.func43, Tryd.ntmps43
  go_wp2_with fail
  refine (val_ReadTags v _ hs).mono ?_; rintro e w1 ⟨A, n, c, rfl, hr, hc, hns, hb1⟩
  have HB1 := Lib.hid (HB0.out.ext hb1)
  have hE1 := HE0.out.trans hb1
  clear HB0 HE0
  have Hm := Lib.hid (show matS v st strong = match tgO v with | none => false | some l => if isStar v then st.ex else l.any (mtT st strong) from rfl)
  cases ho : tgO v with
  | none =>
    have HN := Lib.hid (show matS v st strong = false by rw [Hm.out, ho])
    rw [show errV (tgE none) = .iface 34 (.int .i64 2) from rfl]
    clear ho Hm
    go_wp2_with fail
    go_ret
    exact ⟨congrArg (fun x => Ending.returned (.bool x)) HN.out.symm, hE1⟩
  | some L =>
    rw [ho] at Hm hr
    rw [show errV (tgE (some L)) = .nilIface from rfl]
    clear ho
    simp only [Option.getD_some] at hr
    cases hst : isStar v
    · have HM := Lib.hid (show matS v st strong = L.any (mtT st strong) by rw [Hm.out, hst]; rfl)
      clear hst Hm
      have hl := hr.lenT
      have Hl := Lib.hid hl; clear hl
      go_wp2_with fail
      go_loopw [25] (fun i wr => ∃ k, k ≤ n ∧ i = .int .i64 (k : Nat) ∧ (L.take k).any (mtT st strong) = false ∧ Ext w1 wr) (fun i _ => n - (intOf i).toNat)
      case atStart => exact ⟨0, Nat.zero_le _, rfl, rfl, Ext.refl _⟩
      case round =>
        obtain ⟨k, hk, rfl, hall, hbr⟩ := hrel
        have Hall := Lib.hid hall; clear hall
        have hbw := hE1.trans hbr
        by_cases hlt : k < n
        · have hlt' : k < L.length := by have := Hl.out; omega
          obtain ⟨b, o, rfl, hc0, hc1⟩ := (hr.ext hbr).atT hlt'
          have Hst := Lib.hid (anyT_step (p := mtT st strong) hlt' Hall.out)
          have Hy := Lib.hid (anyT_yes (p := mtT st strong) hlt')
          have HB2 := HB1.out.ext hbr
          have hs1 : wr.cell? ⟨w.heap.size, 1, none⟩ = some (.bool st.ht) := HB2.cell 1
          have hs3 : wr.cell? ⟨w.heap.size, 3, none⟩ = some (.bool st.tw) := HB2.cell 3
          have hs4 : wr.cell? ⟨w.heap.size, 4, none⟩ = some (.string st.tt) := HB2.cell 4
          have hsz := HB2.lt
          have Hmt := Lib.hid (show mtT st strong L[k] = (st.ht && (if strong then (!L[k].1 && !st.tw && eqT L[k].2 st.tt) else eqT L[k].2 st.tt)) from rfl)
          generalize hbt : mtT st strong L[k] = bt at *
          clear hbt HB2
          generalize L[k].1 = kw at *
          generalize L[k].2 = kt at *
          generalize st.ht = ht at *
          generalize st.tw = tw at *
          generalize st.tt = tt at *
          cases ht
          · have Hf := Lib.hid (show bt = false from Hmt.out)
            go_wp2_with fail
            go_roundw
            case rel => exact ⟨k + 1, by omega, by go_num, Hst.out Hf.out, hbr.alloc _⟩
            case measure => simp [intOf]; omega
          · cases strong
            · go_wp2_with fail
              refine (val_Weak kw tw kt tt _).mono ?_; rintro e w3 ⟨rfl, hb3⟩
              have Hq := Lib.hid (show bt = eqT kt tt from Hmt.out)
              generalize eqT kt tt = q at *
              cases q
              · go_wp2_with fail
                go_roundw
                case rel => exact ⟨k + 1, by omega, by go_num, Hst.out Hq.out, (hbr.alloc _).trans hb3⟩
                case measure => simp [intOf]; omega
              · go_wp2_with fail
                go_ret
                exact ⟨congrArg (fun x => Ending.returned (.bool x)) (by rw [HM.out, Hy.out Hq.out]), (hbw.alloc _).trans hb3⟩
            · go_wp2_with fail
              refine (val_Strong kw tw kt tt _).mono ?_; rintro e w3 ⟨rfl, hb3⟩
              have Hq := Lib.hid (show bt = (!kw && !tw && eqT kt tt) from Hmt.out)
              generalize (!kw && !tw && eqT kt tt) = q at *
              cases q
              · go_wp2_with fail
                go_roundw
                case rel => exact ⟨k + 1, by omega, by go_num, Hst.out Hq.out, (hbr.alloc _).trans hb3⟩
                case measure => simp [intOf]; omega
              · go_wp2_with fail
                go_ret
                exact ⟨congrArg (fun x => Ending.returned (.bool x)) (by rw [HM.out, Hy.out Hq.out]), (hbw.alloc _).trans hb3⟩
        · have hk' : k = n := by omega
          have HF := Lib.hid (show matS v st strong = false by rw [HM.out, ← Hall.out, List.take_of_length_le (by have := Hl.out; omega)])
          go_wp2_with fail
          go_ret
          exact ⟨congrArg (fun x => Ending.returned (.bool x)) HF.out.symm, hbw⟩
    · have HM := Lib.hid (show matS v st strong = st.ex by rw [Hm.out, hst]; rfl)
      have hs0 : w1.cell? ⟨w.heap.size, 0, none⟩ = some (.bool st.ex) := HB1.out.cell 0
      clear hst Hm
      go_wp2_with fail
      go_ret
      exact ⟨congrArg (fun x => Ending.returned (.bool x)) HM.out.symm, hE1⟩

/-- A date field that is not there. -/
theorem val_date_none (A : Option Addr) (n c : Nat) (fs : List Fd) (name : ByteArray) (w : World) (hf : RdF w A n fs)
    (hn : n ≤ 1073741824) (hs : name.size ≤ 9223372036854775807) (hsz : Bsz 1048576 fs) (hT : sumF fs + 2 * n ≤ 70368744177664) (h0 : allS fs name = []) :
    Calls Tryd.prog 44 #[.slice A n c, .string name] w fun e w' => e = .returned (.tuple #[.int .i64 0, .bool false]) ∧ Ext w w' := by
  go_enter Tryd.func44, Tryd.ntmps44
  have H0 := Lib.hid h0; clear h0
  go_wp2_with fail
  refine (field_Get A n c fs name _ hf hn hs 1048576 (by decide) hsz hT).mono ?_; rintro e w1 ⟨rfl, hb1⟩
  rw [H0.out]
  rw [show joinS [] = ⟨#[]⟩ from rfl, show decide (0 < ([] : List ByteArray).length) = false from rfl]
  go_wp2_with fail
  go_ret2
  exact ⟨rfl, hb1⟩

def inmN : ByteArray := ⟨#[105, 102, 45, 110, 111, 110, 101, 45, 109, 97, 116, 99, 104]⟩
def waV : ByteArray := ⟨#[87, 47, 34, 97, 34]⟩
def awF : List Fd := [(inmN, waV)]
def awSt : St := ⟨true, true, false, false, ⟨#[97]⟩, 0⟩
def imN : ByteArray := ⟨#[105, 102, 45, 109, 97, 116, 99, 104]⟩
def iusN : ByteArray := ⟨#[105, 102, 45, 117, 110, 109, 111, 100, 105, 102, 105, 101, 100, 45, 115, 105, 110, 99, 101]⟩
theorem aw_im : allS awF imN = [] := by decide +kernel
theorem aw_ius : allS awF iusN = [] := by decide +kernel
theorem aw_inm : allS awF inmN = [waV] := by decide +kernel
theorem aw_mat : matS waV awSt false = true := by decide +kernel
theorem aw_tag : tagS waV = some (true, ⟨#[97]⟩) := by decide +kernel
theorem aw_bsz : Bsz 20 awF := by unfold Bsz; decide +kernel
theorem aw_sum : sumF awF = 18 := by decide +kernel

set_option maxHeartbeats 2000000 in
set_option maxRecDepth 100000 in
theorem eval_awake (A : Option Addr) (c : Nat) (w : World) (hf : RdF w A 1 awF) :
    Calls Tryd.prog 25 #[.string ⟨#[71, 69, 84]⟩, .slice A 1 c, .agg (stArr awSt)] w fun e w' => e = .returned (.int .i64 2) ∧ Ext w w' := by
  have hE0 := Lib.hid ((Ext.refl w).alloc (.cells (stArr awSt) 61))
  have hbz := aw_bsz.mono (show 20 ≤ 1048576 by decide)
  have HB := Lib.hid hbz; clear hbz
  go_enter Tryd.func25, Tryd.ntmps25
  unfold stArr awSt
  go_wp2_with fail
  refine (field_Get A 1 c awF imN _ (hf.ext hE0.out) (by decide) (by decide) 1048576 (by decide) HB.out (by rw [aw_sum]; decide)).mono ?_; rintro e w1 ⟨rfl, hb1⟩
  rw [aw_im]
  rw [show joinS [] = ⟨#[]⟩ from rfl, show decide (0 < ([] : List ByteArray).length) = false from rfl]
  have hB1 := Lib.hid ((Blk.new w 61 (stArr awSt)).ext hb1)
  have hE1 := hE0.out.trans hb1
  go_wp2_with fail
  refine (val_date_none A 1 c awF iusN _ (hf.ext hE1) (by decide) (by decide) HB.out (by rw [aw_sum]; decide) aw_ius).mono ?_; rintro e w2 ⟨rfl, hb2⟩
  have hE2 := hE1.trans hb2
  go_wp2_with fail
  refine (field_Get A 1 c awF inmN _ (hf.ext hE2) (by decide) (by decide) 1048576 (by decide) HB.out (by rw [aw_sum]; decide)).mono ?_; rintro e w3 ⟨rfl, hb3⟩
  rw [aw_inm]
  rw [joinS_one, show decide (0 < ([waV] : List ByteArray).length) = true from rfl]
  have hE3 := hE2.trans hb3
  have hB3 := (hB1.out.ext hb2).ext hb3
  have h0 : w3.cell? ⟨w.heap.size, 0, none⟩ = some (.bool true) := hB3.cell 0
  have h1 : w3.cell? ⟨w.heap.size, 1, none⟩ = some (.bool true) := hB3.cell 1
  have h2 : w3.cell? ⟨w.heap.size, 2, none⟩ = some (.bool false) := hB3.cell 2
  have h3 : w3.cell? ⟨w.heap.size, 3, none⟩ = some (.bool false) := hB3.cell 3
  have h4 : w3.cell? ⟨w.heap.size, 4, none⟩ = some (.string ⟨#[97]⟩) := hB3.cell 4
  have h5 : w3.cell? ⟨w.heap.size, 5, none⟩ = some (.int .i64 0) := hB3.cell 5
  go_wp2_with fail
  refine (val_matches waV awSt false _ (by decide)).mono ?_; rintro e w4 ⟨rfl, hb4⟩
  rw [aw_mat]
  go_wp2_with fail
  go_ret
  exact ⟨rfl, hE3.trans hb4⟩

set_option maxHeartbeats 2000000 in
set_option maxRecDepth 100000 in
theorem law_awake (w : World) : Calls Tryd.prog 11 #[] w fun e w' => e = .returned (.bool true) ∧ Ext w w' := by
  go_enter Tryd.func11, Tryd.ntmps11
  go_wp2_with fail
  refine (val_ReadTag waV _ (by decide)).mono ?_; rintro e w1 ⟨rfl, hb1⟩
  rw [aw_tag]
  rw [show tagV (some (true, (⟨#[97]⟩ : ByteArray))) = .agg #[.bool true, .string ⟨#[97]⟩] from rfl, show errV (tagE (some (true, (⟨#[97]⟩ : ByteArray)))) = .nilIface from rfl]
  go_wp2_with fail
  refine (eval_awake _ 1 _ (Rd.two _ _ _ _ (by simp))).mono ?_; rintro e w2 ⟨rfl, hb2⟩
  go_wp2_with fail
  go_ret
  exact ⟨rfl, ((((hb1.alloc _).alloc _)).alloc _).trans hb2⟩
end Go.Proofs.YtghaopeijncgaaaDoor
