
/- The walks of quaysideref11.number and directive.time: the time that an argument states, in plain words. -/
import Derived.Test.YtaebbnadmfbdjaaDoorUnq2
set_option linter.unusedSimpArgs false
set_option linter.unusedVariables false
namespace Go.Proofs.YtaebbnadmfbdjaaDoor
open Go.RowKit

/-- Begins a text with a quote? -/
def isQ (s : ByteArray) : Bool := s.data.toList.head? == some 34
/-- Is an argument, quoted or not, a number; and which. -/
def okQ (s : ByteArray) : Bool := if isQ s then (match unqS s with | some t => okN t | none => false) else okN s
def numQ (s : ByteArray) : Int := if isQ s then (match unqS s with | some t => numR t | none => 0) else numR s
/-- The time of an argument, or what stands for one that is malformed or missing. -/
def timeV (s : ByteArray) (there : Bool) (bad miss : Int) : Int := if there then (if okQ s then numQ s else bad) else miss

theorem isQ_yes {s : ByteArray} (h0 : 0 < s.size) (h : ((s[0]'h0).toNat : Int) = 34) : isQ s = true := by
  unfold isQ
  have e := u8_of 34 h
  obtain ⟨⟨l⟩⟩ := s
  cases l with
  | nil => exact absurd h0 (by decide)
  | cons c r =>
    have e2 : c = 34 := e
    subst e2; rfl
theorem isQ_no {s : ByteArray} (h0 : 0 < s.size) (h : ¬ ((s[0]'h0).toNat : Int) = 34) : isQ s = false := by
  unfold isQ
  obtain ⟨⟨l⟩⟩ := s
  cases l with
  | nil => rfl
  | cons c r =>
    have e2 : ¬ (c.toNat : Int) = 34 := h
    have e3 : c ≠ 34 := fun e => by subst e; exact e2 rfl
    simp [e3]
theorem isQ_nil {s : ByteArray} (h : s.size = 0) : isQ s = false := by
  obtain rfl := ByteArray.size_eq_zero_iff.1 h; rfl
theorem unq_size_go : ∀ (n : Nat) (s : ByteArray) (i : Nat) (out t : ByteArray), s.size - i ≤ n → out.size ≤ i → unqGo s i out = some t → t.size ≤ s.size := by
  intro n
  induction n with
  | zero => intro s i out t hn ho h; rw [unq_end (by omega)] at h; cases h
  | succ n ih =>
    intro s i out t hn ho h
    rw [unqGo] at h
    split at h
    · rename_i hlt
      split at h
      · split at h
        · cases h
        · injection h with h; subst h; omega
      · split at h
        · split at h
          · exact ih _ _ _ _ (by omega) (by rw [ByteArray.size_append, ByteArray.size_extract]; omega) h
          · cases h
        · exact ih _ _ _ _ (by omega) (by rw [ByteArray.size_append, ByteArray.size_extract]; omega) h
    · cases h
theorem unq_size {s t : ByteArray} (h : unqS s = some t) : t.size ≤ s.size := by
  unfold unqS at h
  split at h
  · cases h
  · split at h
    · cases h
    · split at h
      · exact unq_size_go _ _ _ _ _ (Nat.le_refl _) (by simp [ByteArray.size]) h
      · cases h
theorem numQ_no {s : ByteArray} (h : okQ s = false) : okN s = false → True := fun _ => trivial
theorem okQ_plain {s : ByteArray} (h : isQ s = false) : numQ s = numR s ∧ okQ s = okN s := by
  unfold numQ okQ; rw [h]; exact ⟨rfl, rfl⟩
theorem okQ_some {s t : ByteArray} (h : isQ s = true) (hu : unqS s = some t) : numQ s = numR t ∧ okQ s = okN t := by
  unfold numQ okQ; rw [h, hu]; exact ⟨rfl, rfl⟩
theorem okQ_none {s : ByteArray} (h : isQ s = true) (hu : unqS s = none) : numQ s = 0 ∧ okQ s = false := by
  unfold numQ okQ; rw [h, hu]; exact ⟨rfl, rfl⟩
theorem numV_range (l : List UInt8) (h : l.all digB = true) : 0 ≤ numV l ∧ numV l ≤ 2147483647 := by
  have key : ∀ (l : List UInt8) (z : Int), l.all digB = true → 0 ≤ z → z ≤ 2147483647 → 0 ≤ l.foldl (fun n c => min 2147483647 (10 * n + ((c.toNat : Int) - 48))) z ∧ l.foldl (fun n c => min 2147483647 (10 * n + ((c.toNat : Int) - 48))) z ≤ 2147483647 := by
    intro l
    induction l with
    | nil => intro z _ h0 h1; exact ⟨h0, h1⟩
    | cons c r ih =>
      intro z h h0 h1
      rw [List.all_cons, Bool.and_eq_true] at h
      have hc : 48 ≤ (c.toNat : Int) := by
        have := h.1
        unfold digB at this
        simp only [Bool.not_eq_true', Bool.or_eq_false_iff, decide_eq_false_iff_not] at this
        omega
      rw [List.foldl_cons]
      exact ih _ h.2 (by omega) (by omega)
  exact key l 0 h (by omega) (by omega)
theorem numR_range (s : ByteArray) : 0 ≤ numR s ∧ numR s ≤ 2147483647 := by
  unfold numR
  split
  · rename_i h; exact numV_range _ h
  · omega
theorem numQ_range (s : ByteArray) : 0 ≤ numQ s ∧ numQ s ≤ 2147483647 := by
  unfold numQ
  split
  · split
    · exact numR_range _
    · omega
  · exact numR_range _
theorem timeV_range (s : ByteArray) (th : Bool) {bad miss : Int} (h1 : 0 ≤ bad) (h2 : 0 ≤ miss) : 0 ≤ timeV s th bad miss := by
  unfold timeV
  split
  · split
    · exact (numQ_range s).1
    · exact h1
  · exact h2

set_option maxHeartbeats 2000000 in
set_option maxRecDepth 100000 in
theorem ref_number (s : ByteArray) (w : World) (hs : s.size ≤ 1048576) :
    Calls Tryd.prog 45 #[.string s] w fun e w' => e = .returned (.tuple #[.int .i64 (numQ s), .bool (okQ s)]) ∧ Ext w w' := by
  by_cases h0 : 0 < s.size
  · by_cases h34 : ((s[0]'h0).toNat : Int) = 34
    · have hq := isQ_yes h0 h34
      have hne : (s.toList.isEmpty) = false := isE_no (fun e => by subst e; exact absurd h0 (by decide))
      have Hu := Lib.hid (fun t => @unq_size s t)
      go_enter Tryd.func45, Tryd.ntmps45
      have Hq := Lib.hid hq; clear hq
      go_wp2_with fail
      refine (ref_Unquote s _ hs).mono ?_; rintro e w1 ⟨rfl, hbX⟩
      cases hu : unqS s with
      | none =>
        have Hn := Lib.hid (okQ_none Hq.out hu); clear hu
        simp only [Option.getD_none, Option.isSome_none]
        go_wp2_with fail
        go_ret2
        exact ⟨by rw [Hn.out.1, Hn.out.2]; rfl, hbX⟩
      | some X =>
        have HX := Lib.hid (okQ_some Hq.out hu)
        have hXs : X.size ≤ s.size := Hu.out X hu
        clear hu hne h34
        simp only [Option.getD_some, Option.isSome_some]
        go_wp2_with fail
        go_loopw [6, 25] (fun v i wr => ∃ k z, k ≤ X.size ∧ i = .int .i64 (k : Nat) ∧ v = .int .i64 z ∧ z = numV (X.data.toList.take k) ∧ 0 ≤ z ∧ z ≤ 2147483647 ∧ (X.data.toList.take k).all digB = true ∧ Ext w wr) (fun _ i _ => X.size - (intOf i).toNat)
        case atStart => exact ⟨0, 0, Nat.zero_le _, rfl, rfl, rfl, by omega, by omega, rfl, hbX⟩
        case round =>
          obtain ⟨k, z, hk, rfl, rfl, hz, hz0, hz1, hall, hbr⟩ := hrel
          have Hz := Lib.hid hz; clear hz
          by_cases hlt : k < X.size
          · have Hst := Lib.hid (numV_step hlt)
            have Hd := Lib.hid (dig_step hlt hall); clear hall
            have Hno := Lib.hid (@dig_no X k hlt)
            by_cases hd : (X[k].toNat : Int) < 48 ∨ 57 < (X[k].toNat : Int)
            · have Hn := Lib.hid (Hno.out (digB_no hd))
              go_wp2_with fail
              all_goals (go_ret2; exact ⟨by rw [HX.out.1, HX.out.2, Hn.out.1, Hn.out.2]; rfl, hbr⟩)
            · have h48 : ¬ (X[k].toNat : Int) < 48 := by omega
              have h57 : ¬ 57 < (X[k].toNat : Int) := by omega
              have Hd2 := Lib.hid (Hd.out (digB_yes h48 h57))
              clear hd
              go_wp2_with fail
              go_roundw
              case rel => exact ⟨k + 1, _, by omega, by go_num, rfl, by rw [Hst.out, ← Hz.out, Int.min_def, Int.min_def]; (try (split <;> split <;> omega)), by omega, by omega, Hd2.out, hbr⟩
              case measure => simp [intOf]; omega
          · obtain rfl : k = X.size := by omega
            have He := Lib.hid (dig_end hall); clear hall
            go_wp2_with fail
            go_ret2
            exact ⟨by rw [HX.out.1, HX.out.2, He.out.1, He.out.2, ← Hz.out]; first | rfl | (rw [hne]; rfl), hbr⟩
    · have hq := isQ_no h0 h34
      have hne : (s.toList.isEmpty) = false := isE_no (fun e => by subst e; exact absurd h0 (by decide))
      have HX := Lib.hid (okQ_plain hq); clear hq
      have hbX := Ext.refl w
      have hXs : s.size ≤ s.size := Nat.le_refl _
      go_enter Tryd.func45, Tryd.ntmps45
      go_wp2_with fail
      go_loopw [6, 25] (fun v i wr => ∃ k z, k ≤ s.size ∧ i = .int .i64 (k : Nat) ∧ v = .int .i64 z ∧ z = numV (s.data.toList.take k) ∧ 0 ≤ z ∧ z ≤ 2147483647 ∧ (s.data.toList.take k).all digB = true ∧ Ext w wr) (fun _ i _ => s.size - (intOf i).toNat)
      case atStart => exact ⟨0, 0, Nat.zero_le _, rfl, rfl, rfl, by omega, by omega, rfl, hbX⟩
      case round =>
        obtain ⟨k, z, hk, rfl, rfl, hz, hz0, hz1, hall, hbr⟩ := hrel
        have Hz := Lib.hid hz; clear hz
        by_cases hlt : k < s.size
        · have Hst := Lib.hid (numV_step hlt)
          have Hd := Lib.hid (dig_step hlt hall); clear hall
          have Hno := Lib.hid (@dig_no s k hlt)
          by_cases hd : (s[k].toNat : Int) < 48 ∨ 57 < (s[k].toNat : Int)
          · have Hn := Lib.hid (Hno.out (digB_no hd))
            go_wp2_with fail
            all_goals (go_ret2; exact ⟨by rw [HX.out.1, HX.out.2, Hn.out.1, Hn.out.2]; rfl, hbr⟩)
          · have h48 : ¬ (s[k].toNat : Int) < 48 := by omega
            have h57 : ¬ 57 < (s[k].toNat : Int) := by omega
            have Hd2 := Lib.hid (Hd.out (digB_yes h48 h57))
            clear hd
            go_wp2_with fail
            go_roundw
            case rel => exact ⟨k + 1, _, by omega, by go_num, rfl, by rw [Hst.out, ← Hz.out, Int.min_def, Int.min_def]; (try (split <;> split <;> omega)), by omega, by omega, Hd2.out, hbr⟩
            case measure => simp [intOf]; omega
        · obtain rfl : k = s.size := by omega
          have He := Lib.hid (dig_end hall); clear hall
          go_wp2_with fail
          go_ret2
          exact ⟨by rw [HX.out.1, HX.out.2, He.out.1, He.out.2, ← Hz.out]; first | rfl | (rw [hne]; rfl), hbr⟩
  · have hz0 : s.size = 0 := by omega
    have hne : s.toList.isEmpty = true := isE_yes (ByteArray.size_eq_zero_iff.1 hz0)
    have HX := Lib.hid (okQ_plain (isQ_nil hz0))
    have hbX := Ext.refl w
    have hXs : s.size ≤ s.size := Nat.le_refl _
    clear hz0
    go_enter Tryd.func45, Tryd.ntmps45
    go_wp2_with fail
    go_loopw [6, 25] (fun v i wr => ∃ k z, k ≤ s.size ∧ i = .int .i64 (k : Nat) ∧ v = .int .i64 z ∧ z = numV (s.data.toList.take k) ∧ 0 ≤ z ∧ z ≤ 2147483647 ∧ (s.data.toList.take k).all digB = true ∧ Ext w wr) (fun _ i _ => s.size - (intOf i).toNat)
    case atStart => exact ⟨0, 0, Nat.zero_le _, rfl, rfl, rfl, by omega, by omega, rfl, hbX⟩
    case round =>
      obtain ⟨k, z, hk, rfl, rfl, hz, hz0, hz1, hall, hbr⟩ := hrel
      have Hz := Lib.hid hz; clear hz
      by_cases hlt : k < s.size
      · have Hst := Lib.hid (numV_step hlt)
        have Hd := Lib.hid (dig_step hlt hall); clear hall
        have Hno := Lib.hid (@dig_no s k hlt)
        by_cases hd : (s[k].toNat : Int) < 48 ∨ 57 < (s[k].toNat : Int)
        · have Hn := Lib.hid (Hno.out (digB_no hd))
          go_wp2_with fail
          all_goals (go_ret2; exact ⟨by rw [HX.out.1, HX.out.2, Hn.out.1, Hn.out.2]; rfl, hbr⟩)
        · have h48 : ¬ (s[k].toNat : Int) < 48 := by omega
          have h57 : ¬ 57 < (s[k].toNat : Int) := by omega
          have Hd2 := Lib.hid (Hd.out (digB_yes h48 h57))
          clear hd
          go_wp2_with fail
          go_roundw
          case rel => exact ⟨k + 1, _, by omega, by go_num, rfl, by rw [Hst.out, ← Hz.out, Int.min_def, Int.min_def]; (try (split <;> split <;> omega)), by omega, by omega, Hd2.out, hbr⟩
          case measure => simp [intOf]; omega
      · obtain rfl : k = s.size := by omega
        have He := Lib.hid (dig_end hall); clear hall
        go_wp2_with fail
        go_ret2
        exact ⟨by rw [HX.out.1, HX.out.2, He.out.1, He.out.2, ← Hz.out]; first | rfl | (rw [hne]; rfl), hbr⟩

set_option maxHeartbeats 2000000 in
set_option maxRecDepth 100000 in
theorem dir_time (s : ByteArray) (th : Bool) (bad miss : Int) (w : World) (hs : s.size ≤ 1048576) :
    Calls Tryd.prog 43 #[.string s, .bool th, .int .i64 bad, .int .i64 miss] w fun e w' => e = .returned (.int .i64 (timeV s th bad miss)) ∧ Ext w w' := by
  cases th
  · go_enter Tryd.func43, Tryd.ntmps43
    go_wp2_with fail
    go_ret
    exact ⟨rfl, Ext.refl _⟩
  have hp : Lib.hasPrefix s.data.toList [34] = isQ s := by
    unfold Lib.hasPrefix isQ
    cases s.data.toList with
    | nil => rfl
    | cons c r =>
      by_cases h : c = 34
      · subst h; rfl
      · rw [List.head?_cons, show (some c == some (34 : UInt8)) = false from by rw [beq_eq_false_iff_ne]; intro e; exact h (Option.some.inj e)]
        simp only [List.isPrefixOf, Bool.and_true]
        rw [beq_eq_false_iff_ne]; exact fun e => h e.symm
  have Hp := Lib.hid hp; clear hp
  have Ht := Lib.hid (show timeV s true bad miss = if okQ s then numQ s else bad from rfl)
  have Hu := Lib.hid (fun t => @unq_size s t)
  go_enter Tryd.func43, Tryd.ntmps43
  go_wp2_with fail
  refine (Tryd.strings_HasPrefix s ⟨#[34]⟩ _).mono ?_; rintro e w1 ⟨rfl, hw1⟩
  have hb1 : Ext w w1 := by first | (subst hw1; exact Ext.refl _) | (obtain ⟨n, rfl⟩ := hw1; exact (Ext.refl _).drewN n)
  clear hw1
  rw [Hp.out]
  cases hq : isQ s
  · have HX := Lib.hid (okQ_plain hq); clear hq
    go_wp2_with fail
    refine (dir_number s _ (by omega)).mono ?_; rintro e w2 ⟨rfl, hb2⟩
    cases ho : okN s
    · have Hf := Lib.hid (show timeV s true bad miss = bad by rw [Ht.out, HX.out.2, ho]; rfl); clear ho
      go_wp2_with fail
      go_ret
      exact ⟨congrArg (fun x => Ending.returned (.int .i64 x)) Hf.out.symm, hb1.trans hb2⟩
    · have Hf := Lib.hid (show timeV s true bad miss = numR s by rw [Ht.out, HX.out.2, ho, HX.out.1]; rfl); clear ho
      go_wp2_with fail
      go_ret
      exact ⟨congrArg (fun x => Ending.returned (.int .i64 x)) Hf.out.symm, hb1.trans hb2⟩
  · have Hq := Lib.hid hq; clear hq
    go_wp2_with fail
    refine (syntax_Unquote s _ hs).mono ?_; rintro e w2 ⟨rfl, hb2⟩
    cases hu : unqS s with
    | none =>
      have Hn := Lib.hid (okQ_none Hq.out hu); clear hu
      have Hf := Lib.hid (show timeV s true bad miss = bad by rw [Ht.out, Hn.out.2]; rfl)
      rw [show uE none = 2 from rfl, show errV 2 = .iface 88 (.int .i64 2) from rfl]
      simp only [Option.getD_none]
      go_wp2_with fail
      go_ret
      exact ⟨congrArg (fun x => Ending.returned (.int .i64 x)) Hf.out.symm, hb1.trans hb2⟩
    | some X =>
      have HX := Lib.hid (okQ_some Hq.out hu)
      have hXs : X.size ≤ s.size := Hu.out X hu
      clear hu
      rw [show uE (some X) = 0 from rfl, show errV 0 = .nilIface from rfl]
      simp only [Option.getD_some]
      go_wp2_with fail
      refine (dir_number X _ (by omega)).mono ?_; rintro e w3 ⟨rfl, hb3⟩
      cases ho : okN X
      · have Hf := Lib.hid (show timeV s true bad miss = bad by rw [Ht.out, HX.out.2, ho]; rfl); clear ho
        go_wp2_with fail
        go_ret
        exact ⟨congrArg (fun x => Ending.returned (.int .i64 x)) Hf.out.symm, (hb1.trans hb2).trans hb3⟩
      · have Hf := Lib.hid (show timeV s true bad miss = numR X by rw [Ht.out, HX.out.2, ho, HX.out.1]; rfl); clear ho
        go_wp2_with fail
        go_ret
        exact ⟨congrArg (fun x => Ending.returned (.int .i64 x)) Hf.out.symm, (hb1.trans hb2).trans hb3⟩
end Go.Proofs.YtaebbnadmfbdjaaDoor
