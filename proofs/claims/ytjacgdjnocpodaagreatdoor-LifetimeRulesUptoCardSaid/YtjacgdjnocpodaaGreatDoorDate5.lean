
/- The text of a moment is read as that moment; what is read lies within its bounds. No program in sight. -/
import Derived.Test.YtjacgdjnocpodaaGreatDoorDate4
namespace Go.Proofs.YtjacgdjnocpodaaGreatDoor

theorem secN_bd {y c y' : Int} {m : Nat} {d h mi se : Int} (hb : ¬ (d < 0 ∨ c < 0 ∨ y' < 0 ∨ h < 0 ∨ 23 < h ∨ mi < 0 ∨ 59 < mi ∨ se < 0 ∨ 59 < se)) (hk : okD y m d) : 0 ≤ secN y m d h mi se ∧ secN y m d h mi se ≤ 253402300799 := by
  have := day_bd hk
  unfold secN
  omega
theorem dateP_bd {s : ByteArray} {n : Int} (h : dateP s = some n) : 0 ≤ n ∧ n ≤ 253402300799 := by
  unfold dateP at h
  split at h
  · unfold dateQ at h
    split at h
    · cases h
    · rename_i hb
      split at h
      · rename_i hk
        split at h
        · injection h with h
          rw [← h]
          exact secN_bd hb hk
        · cases h
      · cases h
  · cases h
theorem dateP_fmt {s : ByteArray} {n : Int} (h : dateP s = some n) : fmtS n = s := by
  unfold dateP at h
  split at h
  · unfold dateQ at h
    split at h
    · cases h
    · split at h
      · split at h
        · rename_i he
          injection h with h
          rw [← h]
          exact eqS_iff.1 he
        · cases h
      · cases h
  · cases h
theorem num_two {n : Int} (h0 : 0 ≤ n) (h1 : n ≤ 99) : num2 (twoS n) = n := by
  have : ∀ k : Fin 100, num2 (twoS (k.val : Int)) = (k.val : Int) := by decide +kernel
  have := this ⟨n.toNat, by omega⟩
  simp only at this
  rwa [show ((n.toNat : Nat) : Int) = n by omega] at this
theorem mo_moS {m : Nat} (h1 : 1 ≤ m) (h2 : m ≤ 12) : moA (moS m) 12 = m := by
  have : ∀ k : Fin 12, moA (moS (k.val + 1)) 12 = k.val + 1 := by decide +kernel
  have := this ⟨m - 1, by omega⟩
  simp only at this
  rwa [show m - 1 + 1 = m by omega] at this
theorem three {s : ByteArray} (h : s.size = 3) : ∃ a b c, s = ⟨#[a, b, c]⟩ := by
  obtain ⟨⟨l⟩⟩ := s
  have : l.length = 3 := h
  match l, this with
  | [a, b, c], _ => exact ⟨a, b, c, rfl⟩
theorem catS_list (a b c p q d e f r s t u v w x y z y' : UInt8) : (catS ⟨#[a, b, c]⟩ ⟨#[p, q]⟩ ⟨#[d, e, f]⟩ ⟨#[r, s]⟩ ⟨#[t, u]⟩ ⟨#[v, w]⟩ ⟨#[x, y]⟩ ⟨#[z, y']⟩).data.toList =
    [a, b, c, 44, 32, p, q, 32, d, e, f, 32, r, s, t, u, 32, v, w, 58, x, y, 58, z, y', 32, 71, 77, 84] := by
  unfold catS
  simp only [data_append]
  rfl
theorem ext_list {S : ByteArray} {l : List UInt8} (h : S.data.toList = l) (i j : Nat) : (S.extract i j).data.toList = (l.drop i).take (j - i) := by
  rw [← ByteArray.toList_eq, Lib.extract_toList, h]
theorem dateP_fmtS {n : Int} (h0 : 0 ≤ n) (h1 : n ≤ 253402300799) : dateP (fmtS n) = some n := by
  have hd0 : 0 ≤ n / 86400 := by omega
  have hd1 : n / 86400 ≤ 2932896 := by omega
  obtain ⟨hk, hday⟩ := date_ok hd0 hd1
  obtain ⟨y0, y1, m0, m1, d0, d1⟩ := id hk
  have hml := ml_bd (yOf (n / 86400)) (mOf (n / 86400))
  have hf : ∀ Y : ByteArray, Y = fmtS n → Y.size = 29 → num2 (Y.extract 5 7) = dOf (n / 86400) → num2 (Y.extract 12 14) = yOf (n / 86400) / 100 → num2 (Y.extract 14 16) = yOf (n / 86400) % 100 →
      num2 (Y.extract 17 19) = n % 86400 / 3600 → num2 (Y.extract 20 22) = n % 86400 / 60 % 60 → num2 (Y.extract 23 25) = n % 86400 % 60 → moA (Y.extract 8 11) 12 = mOf (n / 86400) → dateP Y = some n := by
    intro Y hY hs e1 e2 e3 e4 e5 e6 e7
    unfold dateP
    rw [if_pos hs, e1, e2, e3, e4, e5, e6, e7]
    unfold dateQ
    rw [if_neg (by omega), show 100 * (yOf (n / 86400) / 100) + yOf (n / 86400) % 100 = yOf (n / 86400) by omega, if_pos hk]
    have hsec : secN (yOf (n / 86400)) (mOf (n / 86400)) (dOf (n / 86400)) (n % 86400 / 3600) (n % 86400 / 60 % 60) (n % 86400 % 60) = n := by
      unfold secN; rw [hday]; omega
    rw [hsec, hY, if_pos (eqS_iff.2 rfl)]
  obtain ⟨a, b, c, hw⟩ := three (wdS_size (d := n / 86400))
  obtain ⟨d, e, f, hm⟩ := three (moS_size m0 m1)
  have key : fmtS n = catS ⟨#[a, b, c]⟩ (twoS (dOf (n / 86400))) ⟨#[d, e, f]⟩ (twoS (yOf (n / 86400) / 100)) (twoS (yOf (n / 86400) % 100)) (twoS (n % 86400 / 3600)) (twoS (n % 86400 / 60 % 60)) (twoS (n % 86400 % 60)) := by
    unfold fmtS; rw [hw, hm]
  have hl := catS_list a b c (digU (dOf (n / 86400) / 10)) (digU (dOf (n / 86400) % 10)) d e f (digU (yOf (n / 86400) / 100 / 10)) (digU (yOf (n / 86400) / 100 % 10)) (digU (yOf (n / 86400) % 100 / 10)) (digU (yOf (n / 86400) % 100 % 10))
    (digU (n % 86400 / 3600 / 10)) (digU (n % 86400 / 3600 % 10)) (digU (n % 86400 / 60 % 60 / 10)) (digU (n % 86400 / 60 % 60 % 10)) (digU (n % 86400 % 60 / 10)) (digU (n % 86400 % 60 % 10))
  unfold twoS at key
  rw [← key] at hl
  refine hf (fmtS n) rfl ?_ ?_ ?_ ?_ ?_ ?_ ?_ ?_
  · have := congrArg List.length hl
    simpa using this
  · rw [show (fmtS n).extract 5 7 = twoS (dOf (n / 86400)) from bytes_ext (by rw [ext_list hl]; rfl)]
    exact num_two (by omega) (by omega)
  · rw [show (fmtS n).extract 12 14 = twoS (yOf (n / 86400) / 100) from bytes_ext (by rw [ext_list hl]; rfl)]
    exact num_two (by omega) (by omega)
  · rw [show (fmtS n).extract 14 16 = twoS (yOf (n / 86400) % 100) from bytes_ext (by rw [ext_list hl]; rfl)]
    exact num_two (by omega) (by omega)
  · rw [show (fmtS n).extract 17 19 = twoS (n % 86400 / 3600) from bytes_ext (by rw [ext_list hl]; rfl)]
    exact num_two (by omega) (by omega)
  · rw [show (fmtS n).extract 20 22 = twoS (n % 86400 / 60 % 60) from bytes_ext (by rw [ext_list hl]; rfl)]
    exact num_two (by omega) (by omega)
  · rw [show (fmtS n).extract 23 25 = twoS (n % 86400 % 60) from bytes_ext (by rw [ext_list hl]; rfl)]
    exact num_two (by omega) (by omega)
  · rw [show (fmtS n).extract 8 11 = moS (mOf (n / 86400)) from bytes_ext (by rw [ext_list hl, hm]; rfl)]
    exact mo_moS m0 m1
end Go.Proofs.YtjacgdjnocpodaaGreatDoor
