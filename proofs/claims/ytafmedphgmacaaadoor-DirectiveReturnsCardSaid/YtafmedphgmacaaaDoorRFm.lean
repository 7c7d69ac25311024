
/- The walks of quaysideref11.digits and Format. -/
import Derived.Test.YtafmedphgmacaaaDoorMergeR
import Derived.Test.YtafmedphgmacaaaDoorPlF
import Derived.Test.YtafmedphgmacaaaDoorMem
import Derived.Test.YtafmedphgmacaaaDoorFlat
import Derived.Lib.ItoaLen
namespace Go.Proofs.YtafmedphgmacaaaDoor
open Go.RowKit

theorem ret_s {a b : ByteArray} (h : a = b) : Ending.returned (.string a) = .returned (.string b) := by rw [h]
theorem conv_1b (a : Int) (w : World) : (convert 64 9 (.slice (some ⟨w.heap.size, 0, none⟩) 1 1)).run Tryd.prog (w.alloc (.cells #[.int .u8 a] 5)) =
    .ok (.string ⟨#[UInt8.ofNat a.toNat]⟩) (w.alloc (.cells #[.int .u8 a] 5)) :=
  run_convert_bytes_arg (P := Tryd.prog) _ 64 5 Tryd.underlying64 Tryd.underlying5 w.heap.size 0 1 1 [a] rfl
    (fun i hi => by
      rw [World.cell?_alloc_mark]
      obtain rfl : i = 0 := by omega
      rfl) 9 Tryd.underlying9
def dgU (m : Nat) : UInt8 := UInt8.ofNat (48 + m % 10)
theorem conv_dig (m : Nat) (w : World) : (convert 64 9 (.slice (some ⟨w.heap.size, 0, none⟩) 1 1)).run Tryd.prog (w.alloc (.cells #[.int .u8 (48 + (m : Int) % 10)] 5)) =
    .ok (.string (mkS [dgU m])) (w.alloc (.cells #[.int .u8 (48 + (m : Int) % 10)] 5)) := by
  rw [conv_1b, show (48 + (m : Int) % 10).toNat = 48 + m % 10 by omega]; rfl
/-- What is left of a number, before the digits that are there. -/
def dgP (M m : Nat) (s : List UInt8) : Prop := (s = [] ∧ m = M) ∨ (s ≠ [] ∧ preD m ++ s = Lib.decDigits M)
theorem dgP_step {M m : Nat} {s : List UInt8} (h : dgP M m s) (hc : s = [] ∨ m ≠ 0) : dgP M (m / 10) (dgU m :: s) := by
  refine .inr ⟨by simp, ?_⟩
  rcases h with ⟨rfl, rfl⟩ | ⟨h1, h2⟩
  · exact (dec_pre m).symm
  · have hm : m ≠ 0 := hc.resolve_left h1
    rw [← h2, preD_pos hm, dec_pre m, List.append_assoc]; rfl
theorem dgP_end {M m : Nat} {s : List UInt8} (h : dgP M m s) (h1 : s ≠ []) (h2 : m = 0) : s = Lib.decDigits M := by
  rcases h with ⟨h, _⟩ | ⟨_, h⟩
  · exact absurd h h1
  · subst h2; exact h
theorem dgP_len {M m : Nat} {s : List UInt8} (h : dgP M m s) (hM : M ≤ 2147483647) : s.length ≤ 20 := by
  have := Lib.nDigits_le20 M (by omega)
  rw [← Lib.decDigits_length] at this
  rcases h with ⟨rfl, _⟩ | ⟨_, h⟩
  · simp
  · rw [← h, List.length_append] at this; omega
theorem dgP_le {M m : Nat} {s : List UInt8} (h : dgP M m s) (hm : m ≤ M) : m ≤ M := hm
theorem mkS_cons (c : UInt8) (s : List UInt8) : mkS [c] ++ mkS s = mkS (c :: s) := by
  apply bytes_ext; rw [data_append]; simp [mkS]
theorem mkS_no {c : UInt8} {s : List UInt8} : ¬ mkS (c :: s) = ⟨#[]⟩ := by
  intro h
  have := congrArg (fun x : ByteArray => x.data.size) h
  simp [mkS] at this
theorem sz2 (a b : ByteArray) : (a ++ b).size = a.size + b.size := ByteArray.size_append
theorem mkS_len (w : List UInt8) : (mkS w).size = w.length := by simp [mkS, ByteArray.size]
theorem sum_d {P : Program} (a b : ByteArray) (h : a.size + b.size ≤ 10000) : ∀ w, (Op.stringOp .add a b).run P w = .ok (.string (a ++ b)) w :=
  fun w => run_string_add_sum w a b (by omega)

set_option maxHeartbeats 4000000 in
set_option maxRecDepth 100000 in
theorem ref_digits (M : Nat) (w : World) (hM : M ≤ 2147483647) :
    Calls Tryd.prog 22 #[.int .i64 (M : Nat)] w fun e w' => e = .returned (.string (mkS (Lib.decDigits M))) ∧ Ext w w' := by
  go_enter Tryd.func22, Tryd.ntmps22
  go_wp2_with fail
  go_loopw [0, 3] (fun i v wr => ∃ m s, m ≤ M ∧ i = .int .i64 (m : Nat) ∧ v = .string (mkS s) ∧ dgP M m s ∧ Ext w wr) (fun i v _ => (intOf i).toNat + (match v with | .string b => if b.size = 0 then 1 else 0 | _ => 0))
  case atStart => exact ⟨M, [], Nat.le_refl _, rfl, rfl, .inl ⟨rfl, rfl⟩, Ext.refl _⟩
  case round =>
    obtain ⟨m, s, hm, rfl, rfl, hs, hbr⟩ := hrel
    have hln := dgP_len hs hM
    have hv := conv_dig m
    have hsum := sum_d (P := Tryd.prog) (mkS [dgU m]) (mkS s) (by rw [mkS_len, mkS_len]; simp only [List.length_cons, List.length_nil]; omega)
    clear hln
    cases s with
    | nil =>
      have HS := Lib.hid (dgP_step hs (.inl rfl))
      have h0 : (mkS []).toList.isEmpty = true := isE_yes rfl
      clear hs
      go_wp2_with fail
      go_roundw
      case rel => exact ⟨m / 10, [dgU m], by omega, by rw [show ((m / 10 : Nat) : Int) = (m : Int) / 10 by omega], by rw [mkS_cons], HS.out, hbr.alloc _⟩
      case measure => simp [intOf]; rw [if_neg (fun h => mkS_no h.1), if_pos (show mkS [] = ByteArray.empty from rfl)]; omega
    | cons c s =>
      have h0 : (mkS (c :: s)).toList.isEmpty = false := isE_no mkS_no
      by_cases hm0 : m = 0
      · subst hm0
        have HE := Lib.hid (dgP_end hs (by simp) rfl)
        clear hs
        go_wp2_with fail
        go_ret
        exact ⟨ret_s (by rw [HE.out]), hbr⟩
      · have HS := Lib.hid (dgP_step hs (.inr hm0))
        have hp : 0 < m := by omega
        clear hs
        go_wp2_with fail
        go_roundw
        case rel => exact ⟨m / 10, dgU m :: c :: s, by omega, by rw [show ((m / 10 : Nat) : Int) = (m : Int) / 10 by omega], by rw [mkS_cons], HS.out, hbr.alloc _⟩
        case measure => simp [intOf]; rw [if_neg (fun h => mkS_no h.1), if_neg (show ¬ mkS (c :: s) = ByteArray.empty from mkS_no)]; omega

theorem ref_digitsI (n : Int) (w : World) (h0 : 0 ≤ n) (h1 : n ≤ 2147483647) :
    Calls Tryd.prog 22 #[.int .i64 n] w fun e w' => e = .returned (.string (decS n)) ∧ Ext w w' := by
  obtain ⟨M, rfl⟩ := Int.eq_ofNat_of_zero_le h0
  exact ref_digits M w (by omega)

/-- A row's cells. -/
def rfC (p : List UInt8 × Bool × Int) : List Value := [.string ⟨p.1.toArray⟩, .bool p.2.1, .int .i64 p.2.2]
theorem rfC_len (p : List UInt8 × Bool × Int) : (rfC p).length = 3 := rfl
theorem Rd.atRf {w : World} {A : Option Addr} {n : Nat} {l : List (List UInt8 × Bool × Int)} (h : Rd w 3 A n (l.flatMap rfC)) {i : Nat} (hi : i < l.length) :
    ∃ b o, A = some ⟨b, o, none⟩ ∧ w.cell? ⟨b, o + i * 3, none⟩ = some (.string ⟨l[i].1.toArray⟩) ∧ w.cell? ⟨b, o + i * 3 + 1, none⟩ = some (.bool l[i].2.1) ∧ w.cell? ⟨b, o + i * 3 + 2, none⟩ = some (.int .i64 l[i].2.2) := by
  obtain ⟨b, o, e, hc⟩ := Rd.atM rfC_len h hi (by decide)
  exact ⟨b, o, e, hc 0 _ (by decide) rfl, by rw [Nat.add_assoc]; exact hc 1 _ (by decide) rfl, by rw [Nat.add_assoc]; exact hc 2 _ (by decide) rfl⟩
def rfE (l : List (List UInt8 × Bool × Int)) : List ByteArray := l.flatMap elR
theorem rfE_step {l : List (List UInt8 × Bool × Int)} {k : Nat} (h : k < l.length) : rfE (l.take (k + 1)) = rfE (l.take k) ++ elR l[k] := by
  unfold rfE; rw [take_step l k h, List.flatMap_append, List.flatMap_cons, List.flatMap_nil, List.append_nil]
theorem rfE_pl {d : D} (k : Nat) : ∀ x ∈ rfE ((rfL d).take k), plE x := by
  intro x hx
  obtain ⟨p, hp, hx⟩ := List.mem_flatMap.1 hx
  exact pl_R (rf_pl d p (List.mem_of_mem_take hp)).1 x hx
/-- What is written next to what is there. -/
def nxS (E : List ByteArray) : ByteArray := if E = [] then ⟨#[]⟩ else joinS E ++ ⟨#[44, 32]⟩
theorem nxS_join (E : List ByteArray) (x : ByteArray) : joinS (E ++ [x]) = nxS E ++ x := by
  unfold nxS
  by_cases h : E = []
  · subst h; rw [if_pos rfl, List.nil_append, join_one]
    apply bytes_ext; rw [data_append]; rfl
  · rw [if_neg h, join_snoc h]
theorem app3 (a b c d : ByteArray) : (a ++ b) ++ (c ++ d) = a ++ (b ++ c ++ d) := by
  apply bytes_ext; simp only [data_append, List.append_assoc]
theorem rf_flag (d : D) : ∀ p ∈ rfL d, p.2.1 = true → p.2.2 < 0 := by
  intro p hp
  simp only [rfL, List.mem_cons, List.not_mem_nil, or_false] at hp
  rcases hp with rfl | rfl | rfl | rfl | rfl | rfl | rfl | rfl | rfl | rfl | rfl | rfl <;> intro h <;> first | (show (-1 : Int) < 0; decide) | cases h
theorem nxS_nil : nxS [] = ⟨#[]⟩ := rfl
theorem nxS_some {E : List ByteArray} (h : E ≠ []) : nxS E = joinS E ++ ⟨#[44, 32]⟩ := if_neg h

set_option maxHeartbeats 16000000 in
set_option maxRecDepth 100000 in
theorem ref_Format (x : D) (w : World) : Calls Tryd.prog 13 #[.agg (dArr x)] w fun e w' => e = .returned (.string (fmtD x)) ∧ Ext w w' := by
  have hB0 := Blk.new w 23 (dArr x)
  have hE0 := (Ext.refl w).alloc (.cells (dArr x) 23)
  have HB0 := Lib.hid hB0; have HE0 := Lib.hid hE0
  clear hB0 hE0
  have HF := Lib.hid (show fmtD x = joinS (rfE (rfL (nmD x))) from fmt_ref x)
  have HT := Lib.hid (rf_top x)
  have HG := Lib.hid (rf_flag (nmD x))
  go_enter Tryd.func13, Tryd.ntmps13
  go_wp2_with (first
    | (refine wpList_loadB rfl 23 (.tmp 1) rfl w.heap.size rfl 23 _ HB0.out _ Tryd.underlying23 infoD ?_))
  refine (ref_Normal x _).mono ?_; rintro e w1 ⟨rfl, hb1⟩
  have HB1 := Lib.hid (HB0.out.ext hb1)
  have HE1 := Lib.hid (HE0.out.trans hb1)
  generalize nmD x = d at *
  clear hb1 HB0
  go_wp2_with (first
    | (refine wpList_storeB rfl 23 (.tmp 1) (.tmp 7) rfl rfl w.heap.size _ rfl rfl 23 _ HB1.out infoD rfl (dArr_one d) ?_; intro w2 hB2 hx2; have z0 := hB2.cell 0; have z1 := hB2.cell 1; have z2 := hB2.cell 2; have z3 := hB2.cell 3; have z4 := hB2.cell 4; have z5 := hB2.cell 5; have z6 := hB2.cell 6; have z7 := hB2.cell 7; have z8 := hB2.cell 8; have z9 := hB2.cell 9; have z10 := hB2.cell 10; have z11 := hB2.cell 11; simp only [dArr] at z0 z1 z2 z3 z4 z5 z6 z7 z8 z9 z10 z11))
  have hr : Rd (w2.alloc (.cells #[.string ⟨#[110, 111, 45, 115, 116, 111, 114, 101]⟩, .bool d.b0, .int .i64 (-1), .string ⟨#[110, 111, 45, 99, 97, 99, 104, 101]⟩, .bool d.b1, .int .i64 (-1), .string ⟨#[112, 114, 105, 118, 97, 116, 101]⟩, .bool d.b2, .int .i64 (-1), .string ⟨#[112, 117, 98, 108, 105, 99]⟩, .bool d.b3, .int .i64 (-1), .string ⟨#[109, 117, 115, 116, 45, 114, 101, 118, 97, 108, 105, 100, 97, 116, 101]⟩, .bool d.b4, .int .i64 (-1), .string ⟨#[111, 110, 108, 121, 45, 105, 102, 45, 99, 97, 99, 104, 101, 100]⟩, .bool d.b5, .int .i64 (-1), .string ⟨#[109, 97, 120, 45, 97, 103, 101]⟩, .bool false, .int .i64 d.n0, .string ⟨#[115, 45, 109, 97, 120, 97, 103, 101]⟩, .bool false, .int .i64 d.n1, .string ⟨#[115, 116, 97, 108, 101, 45, 119, 104, 105, 108, 101, 45, 114, 101, 118, 97, 108, 105, 100, 97, 116, 101]⟩, .bool false, .int .i64 d.n2, .string ⟨#[115, 116, 97, 108, 101, 45, 105, 102, 45, 101, 114, 114, 111, 114]⟩, .bool false, .int .i64 d.n3, .string ⟨#[109, 97, 120, 45, 115, 116, 97, 108, 101]⟩, .bool false, .int .i64 d.n4, .string ⟨#[109, 105, 110, 45, 102, 114, 101, 115, 104]⟩, .bool false, .int .i64 d.n5] 49)) 3 (some ⟨w2.heap.size, 0, none⟩) 12 ((rfL d).flatMap rfC) := Rd.lit w2 #[.string ⟨#[110, 111, 45, 115, 116, 111, 114, 101]⟩, .bool d.b0, .int .i64 (-1), .string ⟨#[110, 111, 45, 99, 97, 99, 104, 101]⟩, .bool d.b1, .int .i64 (-1), .string ⟨#[112, 114, 105, 118, 97, 116, 101]⟩, .bool d.b2, .int .i64 (-1), .string ⟨#[112, 117, 98, 108, 105, 99]⟩, .bool d.b3, .int .i64 (-1), .string ⟨#[109, 117, 115, 116, 45, 114, 101, 118, 97, 108, 105, 100, 97, 116, 101]⟩, .bool d.b4, .int .i64 (-1), .string ⟨#[111, 110, 108, 121, 45, 105, 102, 45, 99, 97, 99, 104, 101, 100]⟩, .bool d.b5, .int .i64 (-1), .string ⟨#[109, 97, 120, 45, 97, 103, 101]⟩, .bool false, .int .i64 d.n0, .string ⟨#[115, 45, 109, 97, 120, 97, 103, 101]⟩, .bool false, .int .i64 d.n1, .string ⟨#[115, 116, 97, 108, 101, 45, 119, 104, 105, 108, 101, 45, 114, 101, 118, 97, 108, 105, 100, 97, 116, 101]⟩, .bool false, .int .i64 d.n2, .string ⟨#[115, 116, 97, 108, 101, 45, 105, 102, 45, 101, 114, 114, 111, 114]⟩, .bool false, .int .i64 d.n3, .string ⟨#[109, 97, 120, 45, 115, 116, 97, 108, 101]⟩, .bool false, .int .i64 d.n4, .string ⟨#[109, 105, 110, 45, 102, 114, 101, 115, 104]⟩, .bool false, .int .i64 d.n5] 49 rfl 3 12 rfl
  have HE2 := Lib.hid (((HE1.out.growB hx2 (Nat.le_refl _)).alloc (.cells #[.string ⟨#[110, 111, 45, 115, 116, 111, 114, 101]⟩, .bool d.b0, .int .i64 (-1), .string ⟨#[110, 111, 45, 99, 97, 99, 104, 101]⟩, .bool d.b1, .int .i64 (-1), .string ⟨#[112, 114, 105, 118, 97, 116, 101]⟩, .bool d.b2, .int .i64 (-1), .string ⟨#[112, 117, 98, 108, 105, 99]⟩, .bool d.b3, .int .i64 (-1), .string ⟨#[109, 117, 115, 116, 45, 114, 101, 118, 97, 108, 105, 100, 97, 116, 101]⟩, .bool d.b4, .int .i64 (-1), .string ⟨#[111, 110, 108, 121, 45, 105, 102, 45, 99, 97, 99, 104, 101, 100]⟩, .bool d.b5, .int .i64 (-1), .string ⟨#[109, 97, 120, 45, 97, 103, 101]⟩, .bool false, .int .i64 d.n0, .string ⟨#[115, 45, 109, 97, 120, 97, 103, 101]⟩, .bool false, .int .i64 d.n1, .string ⟨#[115, 116, 97, 108, 101, 45, 119, 104, 105, 108, 101, 45, 114, 101, 118, 97, 108, 105, 100, 97, 116, 101]⟩, .bool false, .int .i64 d.n2, .string ⟨#[115, 116, 97, 108, 101, 45, 105, 102, 45, 101, 114, 114, 111, 114]⟩, .bool false, .int .i64 d.n3, .string ⟨#[109, 97, 120, 45, 115, 116, 97, 108, 101]⟩, .bool false, .int .i64 d.n4, .string ⟨#[109, 105, 110, 45, 102, 114, 101, 115, 104]⟩, .bool false, .int .i64 d.n5] 49)))
  clear hx2 hB2 z0 z1 z2 z3 z4 z5 z6 z7 z8 z9 z10 z11
  generalize (w2.alloc (.cells #[.string ⟨#[110, 111, 45, 115, 116, 111, 114, 101]⟩, .bool d.b0, .int .i64 (-1), .string ⟨#[110, 111, 45, 99, 97, 99, 104, 101]⟩, .bool d.b1, .int .i64 (-1), .string ⟨#[112, 114, 105, 118, 97, 116, 101]⟩, .bool d.b2, .int .i64 (-1), .string ⟨#[112, 117, 98, 108, 105, 99]⟩, .bool d.b3, .int .i64 (-1), .string ⟨#[109, 117, 115, 116, 45, 114, 101, 118, 97, 108, 105, 100, 97, 116, 101]⟩, .bool d.b4, .int .i64 (-1), .string ⟨#[111, 110, 108, 121, 45, 105, 102, 45, 99, 97, 99, 104, 101, 100]⟩, .bool d.b5, .int .i64 (-1), .string ⟨#[109, 97, 120, 45, 97, 103, 101]⟩, .bool false, .int .i64 d.n0, .string ⟨#[115, 45, 109, 97, 120, 97, 103, 101]⟩, .bool false, .int .i64 d.n1, .string ⟨#[115, 116, 97, 108, 101, 45, 119, 104, 105, 108, 101, 45, 114, 101, 118, 97, 108, 105, 100, 97, 116, 101]⟩, .bool false, .int .i64 d.n2, .string ⟨#[115, 116, 97, 108, 101, 45, 105, 102, 45, 101, 114, 114, 111, 114]⟩, .bool false, .int .i64 d.n3, .string ⟨#[109, 97, 120, 45, 115, 116, 97, 108, 101]⟩, .bool false, .int .i64 d.n4, .string ⟨#[109, 105, 110, 45, 102, 114, 101, 115, 104]⟩, .bool false, .int .i64 d.n5] 49)) = w4 at *
  generalize w2.heap.size = bN at *
  have HR := Lib.hid hr
  clear hr HB1 HE1 HE0
  go_loopw [3, 46] (fun v i wr => ∃ k, k ≤ 12 ∧ i = .int .i64 (k : Nat) ∧ v = .string (joinS (rfE ((rfL d).take k))) ∧ (joinS (rfE ((rfL d).take k))).size ≤ k * 100 ∧ Ext w4 wr) (fun _ i _ => 12 - (intOf i).toNat)
  case atStart => exact ⟨0, Nat.zero_le _, rfl, rfl, by show (joinS []).size ≤ 0 * 100; decide, Ext.refl _⟩
  case round =>
    rename_i wr
    obtain ⟨k, hk, rfl, rfl, hsz, hbr⟩ := hrel
    by_cases hlt : k < 12
    · have hlt' : k < (rfL d).length := hlt
      obtain ⟨b, o, hbo, hc0, hc1, hc2⟩ := (HR.out.ext hbr).atRf hlt'
      injection hbo with hbo
      injection hbo with e1 e2
      subst e1; subst e2
      rw [Nat.zero_add] at hc0 hc1 hc2
      have Hst := Lib.hid (rfE_step hlt')
      have Hpl := Lib.hid (rfE_pl (d := d) k)
      have Htp := Lib.hid (HT.out _ (List.getElem_mem hlt'))
      have Hw := Lib.hid (rf_pl d _ (List.getElem_mem hlt')).2
      have hmem := List.getElem_mem hlt'
      generalize hp : (rfL d)[k] = p at *
      clear hp
      obtain ⟨ww, bb, nn⟩ := p
      simp only at hc0 hc1 hc2
      have Hn := Lib.hid (show nn ≤ 2147483647 from Htp.out)
      have Hfl := Lib.hid (HG.out _ hmem)
      clear hmem
      generalize rfE ((rfL d).take k) = E at *
      cases bb
      · by_cases hneg : nn < 0
        · have Hx := Lib.hid (show elR (ww, false, nn) = [] from if_pos ⟨rfl, hneg⟩)
          go_wp2_with fail
          go_roundw
          case rel => exact ⟨k + 1, by omega, by go_num, by rw [Hst.out, Hx.out, List.append_nil], by rw [Hst.out, Hx.out, List.append_nil]; omega, hbr.alloc _⟩
          case measure => simp [intOf]; omega
        · have h0 : 0 ≤ nn := by omega
          by_cases hw : ww = wMS
          · subst hw
            replace hc0 : wr.cell? _ = some (.string ⟨#[109, 97, 120, 45, 115, 116, 97, 108, 101]⟩) := hc0
            by_cases hm : nn < 2147483647
            · have Hx := Lib.hid (show elR (wMS, false, nn) = [elV wMS nn] by unfold elR; rw [if_neg (fun h => hneg h.2), if_pos ⟨h0, .inr hm⟩])
              by_cases hE0 : E = []
              · subst hE0
                have hq : (⟨#[]⟩ : ByteArray).size ≤ k * 100 + 2 := by rw [show (⟨#[]⟩ : ByteArray).size = 0 from rfl]; omega
                have hww : (⟨#[109, 97, 120, 45, 115, 116, 97, 108, 101]⟩ : ByteArray).size ≤ 30 := by show (mkS wMS).size ≤ 30; rw [mkS_len]; exact Hw.out
                have hs1 := sz2 (⟨#[]⟩ : ByteArray) ⟨#[109, 97, 120, 45, 115, 116, 97, 108, 101]⟩
                have s1 := sum_d (P := Tryd.prog) (⟨#[]⟩ : ByteArray) ⟨#[109, 97, 120, 45, 115, 116, 97, 108, 101]⟩ (by omega)
                have hdd : (decS nn).size ≤ 20 := by unfold decS; rw [mkS_len, Lib.decDigits_length]; exact Lib.nDigits_le20 _ (by have := Hn.out; omega)
                have h61 : (⟨#[61]⟩ : ByteArray).size = 1 := rfl
                have hs2 := sz2 ⟨#[61]⟩ (decS nn)
                have hs3 := sz2 ((⟨#[]⟩ : ByteArray) ++ ⟨#[109, 97, 120, 45, 115, 116, 97, 108, 101]⟩) (⟨#[61]⟩ ++ decS nn)
                have s2 := sum_d (P := Tryd.prog) ⟨#[61]⟩ (decS nn) (by omega)
                have s3 := sum_d (P := Tryd.prog) ((⟨#[]⟩ : ByteArray) ++ ⟨#[109, 97, 120, 45, 115, 116, 97, 108, 101]⟩) (⟨#[61]⟩ ++ decS nn) (by omega)
                have HV := Lib.hid (show ((⟨#[]⟩ : ByteArray) ++ ⟨#[109, 97, 120, 45, 115, 116, 97, 108, 101]⟩) ++ (⟨#[61]⟩ ++ decS nn) = joinS (([] : List ByteArray) ++ elR (wMS, false, nn)) by rw [Hx.out, nxS_join, nxS_nil, app3]; rfl)
                have HZ := Lib.hid (show (joinS (([] : List ByteArray) ++ elR (wMS, false, nn))).size ≤ (k + 1) * 100 by rw [← HV.out]; omega)
                clear hww hq hs1 hdd h61 hs2 hs3
                rw [show joinS [] = ⟨#[]⟩ from rfl]
                go_wp2_with fail
                refine (ref_digitsI nn _ h0 Hn.out).mono ?_; rintro e w5 ⟨rfl, hb5⟩
                go_wp2_with fail
                go_roundw
                case rel => exact ⟨k + 1, by omega, by go_num, by rw [Hst.out, HV.out], by rw [Hst.out]; exact HZ.out, (hbr.alloc _).trans hb5⟩
                case measure => simp [intOf]; omega
              · have hO : (joinS E).toList.isEmpty = false := isE_no (join_full hE0 Hpl.out)
                have hO2 : ¬ (joinS E).toList = [] := fun h => by rw [h] at hO; cases hO
                have s0 := sum_d (P := Tryd.prog) (joinS E) ⟨#[44, 32]⟩ (by rw [show (⟨#[44, 32]⟩ : ByteArray).size = 2 from rfl]; omega)
                have hq : (joinS E ++ ⟨#[44, 32]⟩).size ≤ k * 100 + 2 := by rw [sz2, show (⟨#[44, 32]⟩ : ByteArray).size = 2 from rfl]; omega
                have hww : (⟨#[109, 97, 120, 45, 115, 116, 97, 108, 101]⟩ : ByteArray).size ≤ 30 := by show (mkS wMS).size ≤ 30; rw [mkS_len]; exact Hw.out
                have hs1 := sz2 (joinS E ++ ⟨#[44, 32]⟩) ⟨#[109, 97, 120, 45, 115, 116, 97, 108, 101]⟩
                have s1 := sum_d (P := Tryd.prog) (joinS E ++ ⟨#[44, 32]⟩) ⟨#[109, 97, 120, 45, 115, 116, 97, 108, 101]⟩ (by omega)
                have hdd : (decS nn).size ≤ 20 := by unfold decS; rw [mkS_len, Lib.decDigits_length]; exact Lib.nDigits_le20 _ (by have := Hn.out; omega)
                have h61 : (⟨#[61]⟩ : ByteArray).size = 1 := rfl
                have hs2 := sz2 ⟨#[61]⟩ (decS nn)
                have hs3 := sz2 ((joinS E ++ ⟨#[44, 32]⟩) ++ ⟨#[109, 97, 120, 45, 115, 116, 97, 108, 101]⟩) (⟨#[61]⟩ ++ decS nn)
                have s2 := sum_d (P := Tryd.prog) ⟨#[61]⟩ (decS nn) (by omega)
                have s3 := sum_d (P := Tryd.prog) ((joinS E ++ ⟨#[44, 32]⟩) ++ ⟨#[109, 97, 120, 45, 115, 116, 97, 108, 101]⟩) (⟨#[61]⟩ ++ decS nn) (by omega)
                have HV := Lib.hid (show ((joinS E ++ ⟨#[44, 32]⟩) ++ ⟨#[109, 97, 120, 45, 115, 116, 97, 108, 101]⟩) ++ (⟨#[61]⟩ ++ decS nn) = joinS (E ++ elR (wMS, false, nn)) by rw [Hx.out, nxS_join, nxS_some hE0, app3]; rfl)
                have HZ := Lib.hid (show (joinS (E ++ elR (wMS, false, nn))).size ≤ (k + 1) * 100 by rw [← HV.out]; omega)
                clear hww hq hs1 hdd h61 hs2 hs3
                go_wp2_with fail
                refine (ref_digitsI nn _ h0 Hn.out).mono ?_; rintro e w5 ⟨rfl, hb5⟩
                go_wp2_with fail
                go_roundw
                case rel => exact ⟨k + 1, by omega, by go_num, by rw [Hst.out, HV.out], by rw [Hst.out]; exact HZ.out, (hbr.alloc _).trans hb5⟩
                case measure => simp [intOf]; omega
            · have Hx := Lib.hid (show elR (wMS, false, nn) = [mkS wMS] by unfold elR; rw [if_neg (fun h => hneg h.2), if_neg (fun h => h.2.elim (fun h => h rfl) hm)])
              by_cases hE0 : E = []
              · subst hE0
                have hq : (⟨#[]⟩ : ByteArray).size ≤ k * 100 + 2 := by rw [show (⟨#[]⟩ : ByteArray).size = 0 from rfl]; omega
                have hww : (⟨#[109, 97, 120, 45, 115, 116, 97, 108, 101]⟩ : ByteArray).size ≤ 30 := by show (mkS wMS).size ≤ 30; rw [mkS_len]; exact Hw.out
                have hs1 := sz2 (⟨#[]⟩ : ByteArray) ⟨#[109, 97, 120, 45, 115, 116, 97, 108, 101]⟩
                have s1 := sum_d (P := Tryd.prog) (⟨#[]⟩ : ByteArray) ⟨#[109, 97, 120, 45, 115, 116, 97, 108, 101]⟩ (by omega)
                have HV := Lib.hid (show (⟨#[]⟩ : ByteArray) ++ ⟨#[109, 97, 120, 45, 115, 116, 97, 108, 101]⟩ = joinS (([] : List ByteArray) ++ elR (wMS, false, nn)) by rw [Hx.out, nxS_join, nxS_nil]; rfl)
                have HZ := Lib.hid (show (joinS (([] : List ByteArray) ++ elR (wMS, false, nn))).size ≤ (k + 1) * 100 by rw [← HV.out]; omega)
                clear hww hq hs1
                rw [show joinS [] = ⟨#[]⟩ from rfl]
                go_wp2_with fail
                go_roundw
                case rel => exact ⟨k + 1, by omega, by go_num, by rw [Hst.out, HV.out], by rw [Hst.out]; exact HZ.out, hbr.alloc _⟩
                case measure => simp [intOf]; omega
              · have hO : (joinS E).toList.isEmpty = false := isE_no (join_full hE0 Hpl.out)
                have hO2 : ¬ (joinS E).toList = [] := fun h => by rw [h] at hO; cases hO
                have s0 := sum_d (P := Tryd.prog) (joinS E) ⟨#[44, 32]⟩ (by rw [show (⟨#[44, 32]⟩ : ByteArray).size = 2 from rfl]; omega)
                have hq : (joinS E ++ ⟨#[44, 32]⟩).size ≤ k * 100 + 2 := by rw [sz2, show (⟨#[44, 32]⟩ : ByteArray).size = 2 from rfl]; omega
                have hww : (⟨#[109, 97, 120, 45, 115, 116, 97, 108, 101]⟩ : ByteArray).size ≤ 30 := by show (mkS wMS).size ≤ 30; rw [mkS_len]; exact Hw.out
                have hs1 := sz2 (joinS E ++ ⟨#[44, 32]⟩) ⟨#[109, 97, 120, 45, 115, 116, 97, 108, 101]⟩
                have s1 := sum_d (P := Tryd.prog) (joinS E ++ ⟨#[44, 32]⟩) ⟨#[109, 97, 120, 45, 115, 116, 97, 108, 101]⟩ (by omega)
                have HV := Lib.hid (show (joinS E ++ ⟨#[44, 32]⟩) ++ ⟨#[109, 97, 120, 45, 115, 116, 97, 108, 101]⟩ = joinS (E ++ elR (wMS, false, nn)) by rw [Hx.out, nxS_join, nxS_some hE0]; rfl)
                have HZ := Lib.hid (show (joinS (E ++ elR (wMS, false, nn))).size ≤ (k + 1) * 100 by rw [← HV.out]; omega)
                clear hww hq hs1
                go_wp2_with fail
                go_roundw
                case rel => exact ⟨k + 1, by omega, by go_num, by rw [Hst.out, HV.out], by rw [Hst.out]; exact HZ.out, hbr.alloc _⟩
                case measure => simp [intOf]; omega
          · have hv : ¬ (⟨ww.toArray⟩ : ByteArray) = ⟨#[109, 97, 120, 45, 115, 116, 97, 108, 101]⟩ := fun h => hw (by injection h with h; exact congrArg Array.toList h)
            have Hx := Lib.hid (show elR (ww, false, nn) = [elV ww nn] by unfold elR; rw [if_neg (fun h => hneg h.2), if_pos ⟨h0, .inl hw⟩])
            by_cases hE0 : E = []
            · subst hE0
              have hq : (⟨#[]⟩ : ByteArray).size ≤ k * 100 + 2 := by rw [show (⟨#[]⟩ : ByteArray).size = 0 from rfl]; omega
              have hww : (⟨ww.toArray⟩ : ByteArray).size ≤ 30 := by show (mkS ww).size ≤ 30; rw [mkS_len]; exact Hw.out
              have hs1 := sz2 (⟨#[]⟩ : ByteArray) ⟨ww.toArray⟩
              have s1 := sum_d (P := Tryd.prog) (⟨#[]⟩ : ByteArray) ⟨ww.toArray⟩ (by omega)
              have hdd : (decS nn).size ≤ 20 := by unfold decS; rw [mkS_len, Lib.decDigits_length]; exact Lib.nDigits_le20 _ (by have := Hn.out; omega)
              have h61 : (⟨#[61]⟩ : ByteArray).size = 1 := rfl
              have hs2 := sz2 ⟨#[61]⟩ (decS nn)
              have hs3 := sz2 ((⟨#[]⟩ : ByteArray) ++ ⟨ww.toArray⟩) (⟨#[61]⟩ ++ decS nn)
              have s2 := sum_d (P := Tryd.prog) ⟨#[61]⟩ (decS nn) (by omega)
              have s3 := sum_d (P := Tryd.prog) ((⟨#[]⟩ : ByteArray) ++ ⟨ww.toArray⟩) (⟨#[61]⟩ ++ decS nn) (by omega)
              have HV := Lib.hid (show ((⟨#[]⟩ : ByteArray) ++ ⟨ww.toArray⟩) ++ (⟨#[61]⟩ ++ decS nn) = joinS (([] : List ByteArray) ++ elR (ww, false, nn)) by rw [Hx.out, nxS_join, nxS_nil, app3]; rfl)
              have HZ := Lib.hid (show (joinS (([] : List ByteArray) ++ elR (ww, false, nn))).size ≤ (k + 1) * 100 by rw [← HV.out]; omega)
              clear hww hq hs1 hdd h61 hs2 hs3
              rw [show joinS [] = ⟨#[]⟩ from rfl]
              go_wp2_with fail
              refine (ref_digitsI nn _ h0 Hn.out).mono ?_; rintro e w5 ⟨rfl, hb5⟩
              go_wp2_with fail
              go_roundw
              case rel => exact ⟨k + 1, by omega, by go_num, by rw [Hst.out, HV.out], by rw [Hst.out]; exact HZ.out, (hbr.alloc _).trans hb5⟩
              case measure => simp [intOf]; omega
            · have hO : (joinS E).toList.isEmpty = false := isE_no (join_full hE0 Hpl.out)
              have hO2 : ¬ (joinS E).toList = [] := fun h => by rw [h] at hO; cases hO
              have s0 := sum_d (P := Tryd.prog) (joinS E) ⟨#[44, 32]⟩ (by rw [show (⟨#[44, 32]⟩ : ByteArray).size = 2 from rfl]; omega)
              have hq : (joinS E ++ ⟨#[44, 32]⟩).size ≤ k * 100 + 2 := by rw [sz2, show (⟨#[44, 32]⟩ : ByteArray).size = 2 from rfl]; omega
              have hww : (⟨ww.toArray⟩ : ByteArray).size ≤ 30 := by show (mkS ww).size ≤ 30; rw [mkS_len]; exact Hw.out
              have hs1 := sz2 (joinS E ++ ⟨#[44, 32]⟩) ⟨ww.toArray⟩
              have s1 := sum_d (P := Tryd.prog) (joinS E ++ ⟨#[44, 32]⟩) ⟨ww.toArray⟩ (by omega)
              have hdd : (decS nn).size ≤ 20 := by unfold decS; rw [mkS_len, Lib.decDigits_length]; exact Lib.nDigits_le20 _ (by have := Hn.out; omega)
              have h61 : (⟨#[61]⟩ : ByteArray).size = 1 := rfl
              have hs2 := sz2 ⟨#[61]⟩ (decS nn)
              have hs3 := sz2 ((joinS E ++ ⟨#[44, 32]⟩) ++ ⟨ww.toArray⟩) (⟨#[61]⟩ ++ decS nn)
              have s2 := sum_d (P := Tryd.prog) ⟨#[61]⟩ (decS nn) (by omega)
              have s3 := sum_d (P := Tryd.prog) ((joinS E ++ ⟨#[44, 32]⟩) ++ ⟨ww.toArray⟩) (⟨#[61]⟩ ++ decS nn) (by omega)
              have HV := Lib.hid (show ((joinS E ++ ⟨#[44, 32]⟩) ++ ⟨ww.toArray⟩) ++ (⟨#[61]⟩ ++ decS nn) = joinS (E ++ elR (ww, false, nn)) by rw [Hx.out, nxS_join, nxS_some hE0, app3]; rfl)
              have HZ := Lib.hid (show (joinS (E ++ elR (ww, false, nn))).size ≤ (k + 1) * 100 by rw [← HV.out]; omega)
              clear hww hq hs1 hdd h61 hs2 hs3
              go_wp2_with fail
              refine (ref_digitsI nn _ h0 Hn.out).mono ?_; rintro e w5 ⟨rfl, hb5⟩
              go_wp2_with fail
              go_roundw
              case rel => exact ⟨k + 1, by omega, by go_num, by rw [Hst.out, HV.out], by rw [Hst.out]; exact HZ.out, (hbr.alloc _).trans hb5⟩
              case measure => simp [intOf]; omega
      · have hneg : nn < 0 := Hfl.out rfl
        have Hx := Lib.hid (show elR (ww, true, nn) = [mkS ww] by unfold elR; rw [if_neg (fun h => by cases h.1), if_neg (fun h => by have := h.1; simp only at this; omega)])
        by_cases hE0 : E = []
        · subst hE0
          have hq : (⟨#[]⟩ : ByteArray).size ≤ k * 100 + 2 := by rw [show (⟨#[]⟩ : ByteArray).size = 0 from rfl]; omega
          have hww : (⟨ww.toArray⟩ : ByteArray).size ≤ 30 := by show (mkS ww).size ≤ 30; rw [mkS_len]; exact Hw.out
          have hs1 := sz2 (⟨#[]⟩ : ByteArray) ⟨ww.toArray⟩
          have s1 := sum_d (P := Tryd.prog) (⟨#[]⟩ : ByteArray) ⟨ww.toArray⟩ (by omega)
          have HV := Lib.hid (show (⟨#[]⟩ : ByteArray) ++ ⟨ww.toArray⟩ = joinS (([] : List ByteArray) ++ elR (ww, true, nn)) by rw [Hx.out, nxS_join, nxS_nil]; rfl)
          have HZ := Lib.hid (show (joinS (([] : List ByteArray) ++ elR (ww, true, nn))).size ≤ (k + 1) * 100 by rw [← HV.out]; omega)
          clear hww hq hs1
          rw [show joinS [] = ⟨#[]⟩ from rfl]
          go_wp2_with fail
          go_roundw
          case rel => exact ⟨k + 1, by omega, by go_num, by rw [Hst.out, HV.out], by rw [Hst.out]; exact HZ.out, hbr.alloc _⟩
          case measure => simp [intOf]; omega
        · have hO : (joinS E).toList.isEmpty = false := isE_no (join_full hE0 Hpl.out)
          have hO2 : ¬ (joinS E).toList = [] := fun h => by rw [h] at hO; cases hO
          have s0 := sum_d (P := Tryd.prog) (joinS E) ⟨#[44, 32]⟩ (by rw [show (⟨#[44, 32]⟩ : ByteArray).size = 2 from rfl]; omega)
          have hq : (joinS E ++ ⟨#[44, 32]⟩).size ≤ k * 100 + 2 := by rw [sz2, show (⟨#[44, 32]⟩ : ByteArray).size = 2 from rfl]; omega
          have hww : (⟨ww.toArray⟩ : ByteArray).size ≤ 30 := by show (mkS ww).size ≤ 30; rw [mkS_len]; exact Hw.out
          have hs1 := sz2 (joinS E ++ ⟨#[44, 32]⟩) ⟨ww.toArray⟩
          have s1 := sum_d (P := Tryd.prog) (joinS E ++ ⟨#[44, 32]⟩) ⟨ww.toArray⟩ (by omega)
          have HV := Lib.hid (show (joinS E ++ ⟨#[44, 32]⟩) ++ ⟨ww.toArray⟩ = joinS (E ++ elR (ww, true, nn)) by rw [Hx.out, nxS_join, nxS_some hE0]; rfl)
          have HZ := Lib.hid (show (joinS (E ++ elR (ww, true, nn))).size ≤ (k + 1) * 100 by rw [← HV.out]; omega)
          clear hww hq hs1
          go_wp2_with fail
          go_roundw
          case rel => exact ⟨k + 1, by omega, by go_num, by rw [Hst.out, HV.out], by rw [Hst.out]; exact HZ.out, hbr.alloc _⟩
          case measure => simp [intOf]; omega
    · obtain rfl : k = 12 := by omega
      rw [show (rfL d).take 12 = rfL d from rfl] at *
      go_wp2_with fail
      go_ret
      exact ⟨ret_s HF.out.symm, HE2.out.trans hbr⟩
end Go.Proofs.YtafmedphgmacaaaDoor
