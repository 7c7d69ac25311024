
/- The walks of the package quaysideref04: number, digits. -/
import Derived.Test.YtjacgdjnocpodaaGreatDoorRD1
namespace Go.Proofs.YtjacgdjnocpodaaGreatDoor
open Go.RowKit

def ndg (c : UInt8) : Bool := !dgB c
def numF (n : Int) : List UInt8 → Int
  | [] => n
  | c :: l => numF (10 * n + ((c.toNat : Int) - 48)) l
theorem numF_app : ∀ (l : List UInt8) (n : Int) (c : UInt8), numF n (l ++ [c]) = 10 * numF n l + ((c.toNat : Int) - 48)
  | [], _, _ => rfl
  | _ :: l, _, c => numF_app l _ c
theorem dgB_bd {c : UInt8} (h : dgB c = true) : 48 ≤ (c.toNat : Int) ∧ (c.toNat : Int) ≤ 57 := by
  simp only [dgB, Bool.not_eq_true', Bool.or_eq_false_iff, decide_eq_false_iff_not] at h
  omega
theorem numF_bd : ∀ (l : List UInt8) (n : Int), 0 ≤ n → l.any ndg = false → 0 ≤ numF n l ∧ numF n l < (n + 1) * 10 ^ l.length
  | [], n, h, _ => by simp [numF]; omega
  | c :: l, n, h, ha => by
    simp only [List.any_cons, Bool.or_eq_false_iff, ndg, Bool.not_eq_false'] at ha
    have hc := dgB_bd ha.1
    have := numF_bd l (10 * n + ((c.toNat : Int) - 48)) (by omega) ha.2
    refine ⟨this.1, Int.lt_of_lt_of_le this.2 ?_⟩
    rw [List.length_cons, Int.pow_succ, Int.mul_comm (10 ^ _) 10, ← Int.mul_assoc]
    exact Int.mul_le_mul_of_nonneg_right (by omega) (Int.pow_nonneg (by decide))
def numS (s : ByteArray) : Int := if s.data.toList.any ndg then -1 else numF 0 s.data.toList
theorem tk_step (s : ByteArray) {k : Nat} (h : k < s.size) : s.data.toList.take (k + 1) = s.data.toList.take k ++ [s[k]] := by
  rw [List.take_add_one, List.getElem?_eq_getElem (by simpa using h)]
  rfl
theorem ndg_any {s : ByteArray} {k : Nat} (h : k < s.size) (h2 : ndg s[k] = true) : s.data.toList.any ndg = true := by
  have h2 : ndg s.data[k] = true := h2
  rw [List.any_eq_true]
  exact ⟨s.data[k], by simp, h2⟩
set_option maxHeartbeats 1000000 in
theorem rd_number (s : ByteArray) (w : World) (hs : s.size ≤ 4) :
    Calls Tryz.prog 42 #[.string s] w fun e w' => e = .returned (.int .i64 (numS s)) ∧ w' = w := by
  have Hn0 := Lib.hid (show s.data.toList.any ndg = true → (-1 : Int) = numS s from fun h => by unfold numS; rw [if_pos h])
  have Hn1 := Lib.hid (show s.data.toList.any ndg = false → numF 0 s.data.toList = numS s from fun h => by unfold numS; rw [if_neg (by rw [h]; decide)])
  go_enter Tryz.func42, Tryz.ntmps42
  go_wp2_with fail
  go_loopw [3, 7] (fun n i wr => ∃ k : Nat, k ≤ s.size ∧ n = .int .i64 (numF 0 (s.data.toList.take k)) ∧ (s.data.toList.take k).any ndg = false ∧ i = .int .i64 (k : Nat) ∧ wr = w) (fun _ i _ => s.size - (intOf i).toNat)
  case atStart => exact ⟨0, by omega, rfl, rfl, rfl, rfl⟩
  case round =>
    obtain ⟨k, hk, hn, hall, rfl, rfl⟩ := hrel
    by_cases hlt : k < s.size
    · subst hn
      have hb := numF_bd _ 0 (by omega) hall
      have hp : (10 : Int) ^ (s.data.toList.take k).length ≤ 1000 := by
        rw [List.length_take, Nat.min_eq_left (by simp; omega)]
        have : k = 0 ∨ k = 1 ∨ k = 2 ∨ k = 3 := by omega
        rcases this with h | h | h | h <;> subst h <;> decide
      have hb0 := hb.1
      have hb1 : numF 0 (s.data.toList.take k) ≤ 1000 := by omega
      have Hst := Lib.hid (show ndg s[k] = false → (s.data.toList.take (k + 1)).any ndg = false ∧ numF 0 (s.data.toList.take (k + 1)) = 10 * numF 0 (s.data.toList.take k) + ((s[k].toNat : Int) - 48) from fun h => by
        rw [tk_step s hlt, numF_app, List.any_append, hall]
        exact ⟨by simpa using h, rfl⟩)
      have Hyes := Lib.hid (ndg_any hlt)
      clear hall hb hp
      generalize numF 0 (s.data.toList.take k) = n at *
      have hub := UInt8.toNat_lt s[k]
      by_cases a0 : (s[k].toNat : Int) < 48
      · have Hr := Lib.hid (Hn0.out (Hyes.out (by unfold ndg; rw [dgB_no (Or.inl a0)]; rfl)))
        go_wp2_with fail
        go_ret
        exact ⟨ret_i Hr.out, rfl⟩
      · by_cases a1 : 57 < (s[k].toNat : Int)
        · have Hr := Lib.hid (Hn0.out (Hyes.out (by unfold ndg; rw [dgB_no (Or.inr a1)]; rfl)))
          go_wp2_with fail
          go_ret
          exact ⟨ret_i Hr.out, rfl⟩
        · have Hr := Lib.hid (Hst.out (by unfold ndg; rw [dgB_yes a0 a1]; rfl))
          go_wp2_with fail
          go_roundw
          case rel => exact ⟨k + 1, by omega, by rw [Hr.out.2], Hr.out.1, by go_num, trivial⟩
          case measure => simp [intOf]; omega
    · obtain rfl : k = s.size := by omega
      rw [List.take_of_length_le (by simp)] at hall hn
      rw [Hn1.out hall] at hn
      subst hn
      clear hall
      go_wp2_with fail
      go_ret
      exact ⟨rfl, rfl⟩

def ndK (n : Int) : Nat → Int
  | 0 => n
  | k + 1 => ndK n k / 10
def ouK (n : Int) : Nat → ByteArray
  | 0 => ⟨#[]⟩
  | k + 1 => ⟨#[digU (ndK n k % 10)]⟩ ++ ouK n k
theorem ndK_bd {n : Int} (h0 : 0 ≤ n) (h1 : n ≤ 9999) : ∀ k, 0 ≤ ndK n k ∧ ndK n k ≤ 9999
  | 0 => ⟨h0, h1⟩
  | k + 1 => by
    have := ndK_bd h0 h1 k
    unfold ndK
    omega
theorem ouK_size (n : Int) : ∀ k, (ouK n k).size = k
  | 0 => rfl
  | k + 1 => by
    unfold ouK
    rw [ByteArray.size_append, ouK_size n k]
    show 1 + k = k + 1
    omega
theorem ouK_2 {n : Int} (h0 : 0 ≤ n) (h1 : n ≤ 99) : ouK n 2 = twoS n := by
  have h : n / 10 % 10 = n / 10 := by omega
  have e : ouK n 2 = ⟨#[digU (n / 10 % 10), digU (n % 10)]⟩ := rfl
  rw [e, h]
  rfl
theorem ouK_4 {n : Int} (h0 : 0 ≤ n) (h1 : n ≤ 9999) : ouK n 4 = twoS (n / 100) ++ twoS (n % 100) := by
  have e : ouK n 4 = ⟨#[digU (n / 10 / 10 / 10 % 10), digU (n / 10 / 10 % 10), digU (n / 10 % 10), digU (n % 10)]⟩ := rfl
  have f : twoS (n / 100) ++ twoS (n % 100) = ⟨#[digU (n / 100 / 10), digU (n / 100 % 10), digU (n % 100 / 10), digU (n % 100 % 10)]⟩ := rfl
  rw [e, f, show n / 10 / 10 / 10 % 10 = n / 100 / 10 by omega, show n / 10 / 10 % 10 = n / 100 % 10 by omega, show n / 10 % 10 = n % 100 / 10 by omega, show n % 10 = n % 100 % 10 by omega]
theorem conv_oneR (a : Int) (w : World) : (convert 80 9 (.slice (some ⟨w.heap.size, 0, none⟩) 1 1)).run Tryz.prog (w.alloc (.cells #[.int .u8 a] 5)) =
    .ok (.string ⟨#[UInt8.ofNat a.toNat]⟩) (w.alloc (.cells #[.int .u8 a] 5)) :=
  run_convert_bytes_arg (P := Tryz.prog) _ 80 5 Tryz.underlying80 Tryz.underlying5 w.heap.size 0 1 1 [a] rfl
    (fun i hi => by
      rw [World.cell?_alloc_mark]
      have : i = 0 := by omega
      subst this; rfl) 9 Tryz.underlying9
set_option maxHeartbeats 1000000 in
theorem rd_digits (n : Int) (m : Nat) (w : World) (h0 : 0 ≤ n) (h1 : n ≤ 9999) (hm : m ≤ 4) :
    Calls Tryz.prog 64 #[.int .i64 n, .int .i64 (m : Nat)] w fun e w' => e = .returned (.string (ouK n m)) ∧ Ext w w' := by
  have hcv := conv_oneR
  go_enter Tryz.func64, Tryz.ntmps64
  go_wp2_with fail
  go_loopw [0, 5, 7] (fun r o i wr => ∃ k : Nat, k ≤ m ∧ r = .int .i64 (ndK n k) ∧ o = .string (ouK n k) ∧ i = .int .i64 (k : Nat) ∧ Ext w wr) (fun _ _ i _ => m - (intOf i).toNat)
  case atStart => exact ⟨0, by omega, rfl, rfl, rfl, Ext.refl _⟩
  case round =>
    obtain ⟨k, hk, rfl, rfl, rfl, hE⟩ := hrel
    by_cases hlt : k < m
    · have hb := ndK_bd h0 h1 k
      obtain ⟨hs, -⟩ := sum_s ⟨#[digU (ndK n k % 10)]⟩ (ouK n k) (n := 1) rfl (ouK_size n k) (by omega)
      have Hd := Lib.hid (show ndK n (k + 1) = ndK n k / 10 from rfl)
      have Ho := Lib.hid (show ouK n (k + 1) = ⟨#[digU (ndK n k % 10)]⟩ ++ ouK n k from rfl)
      generalize ndK n k = r at *
      generalize ouK n k = o at *
      have hdu : UInt8.ofNat (48 + r % 10).toNat = digU (r % 10) := rfl
      go_wp2_with fail
      go_roundw
      case rel => exact ⟨k + 1, by omega, by rw [Hd.out], by rw [Ho.out], by go_num, hE.alloc _⟩
      case measure => simp [intOf]; omega
    · obtain rfl : k = m := by omega
      go_wp2_with fail
      go_ret
      exact ⟨rfl, hE⟩
end Go.Proofs.YtjacgdjnocpodaaGreatDoor
