
/- The walks of syntax.control, syntax.clean, syntax.parts, quaysideref01.Parts: a string taken apart at a sign that stands outside quotes. -/
import Derived.Test.YtaebbnadmfbdjaaDoorErr
import Derived.Test.YtaebbnadmfbdjaaDoorRef1
set_option linter.unusedSimpArgs false
set_option linter.unusedVariables false
namespace Go.Proofs.YtaebbnadmfbdjaaDoor
open Go.RowKit

/-- What the splitting gives from place i on, with a part begun at st, inside quotes or not, behind the parts out. -/
def fin (s : ByteArray) (sep : UInt8) (i st : Nat) (q : Bool) (out : List ByteArray) : Option (List ByteArray) :=
  if h : i < s.size then
    if q = true ∧ s[i] = 92 then fin s sep (i + 2) st q out
    else if s[i] = 34 then fin s sep (i + 1) st (!q) out
    else if q = false ∧ s[i] = sep then fin s sep (i + 1) (i + 1) q (out ++ [trimF (s.extract st i)])
    else fin s sep (i + 1) st q out
  else if q = true then none else some (out ++ [trimF (s.extract st s.size)])
termination_by s.size - i
def partsS (s : ByteArray) (sep : UInt8) : Option (List ByteArray) := if ctlS s = true then none else fin s sep 0 0 false []

section
variable {s : ByteArray} {sep : UInt8} {i st : Nat} {q : Bool} {out : List ByteArray}
theorem u8_of {c : UInt8} (d : UInt8) (h : (c.toNat : Int) = (d.toNat : Int)) : c = d := UInt8.toNat_inj.1 (by omega)
theorem fin_esc (h : i < s.size) (hc : (s[i].toNat : Int) = 92) : fin s sep i st true out = fin s sep (i + 2) st true out := by
  rw [fin, dif_pos h, if_pos ⟨rfl, u8_of 92 hc⟩]
theorem fin_quo (h : i < s.size) (hc : (s[i].toNat : Int) = 34) : fin s sep i st q out = fin s sep (i + 1) st (!q) out := by
  have e := u8_of 34 hc
  rw [fin, dif_pos h, if_neg (by rw [e]; intro hh; exact absurd hh.2 (by decide)), if_pos e]
theorem fin_sep (h : i < s.size) (h34 : ¬ (s[i].toNat : Int) = 34) (hc : (s[i].toNat : Int) = sep.toNat) : fin s sep i st false out = fin s sep (i + 1) (i + 1) false (out ++ [trimF (s.extract st i)]) := by
  rw [fin, dif_pos h, if_neg (by simp), if_neg (by intro e; rw [e] at h34; exact h34 rfl), if_pos ⟨rfl, u8_of sep hc⟩]
theorem fin_q (h : i < s.size) (h34 : ¬ (s[i].toNat : Int) = 34) (hc : ¬ (s[i].toNat : Int) = 92) : fin s sep i st true out = fin s sep (i + 1) st true out := by
  rw [fin, dif_pos h, if_neg (by rintro ⟨-, e⟩; rw [e] at hc; exact hc rfl), if_neg (by intro e; rw [e] at h34; exact h34 rfl), if_neg (by simp)]
theorem fin_p (h : i < s.size) (h34 : ¬ (s[i].toNat : Int) = 34) (hc : ¬ (s[i].toNat : Int) = sep.toNat) : fin s sep i st false out = fin s sep (i + 1) st false out := by
  rw [fin, dif_pos h, if_neg (by simp), if_neg (by intro e; rw [e] at h34; exact h34 rfl), if_neg (by rintro ⟨-, e⟩; rw [e] at hc; exact hc rfl)]
theorem fin_no (h : ¬ i < s.size) : fin s sep i st true out = none := by rw [fin, dif_neg h, if_pos rfl]
theorem fin_end (h : ¬ i < s.size) : fin s sep i st false out = some (out ++ [trimF (s.extract st s.size)]) := by rw [fin, dif_neg h, if_neg (by simp)]
theorem part_size (a b : Nat) : (trimF (s.extract a b)).size ≤ s.size := by
  have h1 := trimF_size (s.extract a b)
  rw [ByteArray.size_extract] at h1
  omega
theorem fin_all : ∀ (n i st : Nat) (q : Bool) (out l : List ByteArray), s.size - i ≤ n → (∀ x ∈ out, x.size ≤ s.size) → fin s sep i st q out = some l →
    (∀ x ∈ l, x.size ≤ s.size) ∧ l.length ≤ out.length + (s.size - i) + 1 := by
  intro n
  induction n with
  | zero =>
    intro i st q out l hn ho h
    rw [fin, dif_neg (by omega)] at h
    split at h
    · cases h
    · injection h with h; subst h
      refine ⟨fun x hx => ?_, by simp⟩
      rcases List.mem_append.1 hx with hx | hx
      · exact ho x hx
      · simp only [List.mem_singleton] at hx; subst hx; exact part_size _ _
  | succ n ih =>
    intro i st q out l hn ho h
    rw [fin] at h
    split at h
    · split at h
      · obtain ⟨a, b⟩ := ih _ _ _ _ _ (by omega) ho h; exact ⟨a, by omega⟩
      · split at h
        · obtain ⟨a, b⟩ := ih _ _ _ _ _ (by omega) ho h; exact ⟨a, by omega⟩
        · split at h
          · obtain ⟨a, b⟩ := ih _ _ _ _ _ (by omega) (fun x hx => by
              rcases List.mem_append.1 hx with hx | hx
              · exact ho x hx
              · simp only [List.mem_singleton] at hx; subst hx; exact part_size _ _) h
            exact ⟨a, by simp at b; omega⟩
          · obtain ⟨a, b⟩ := ih _ _ _ _ _ (by omega) ho h; exact ⟨a, by omega⟩
    · split at h
      · cases h
      · injection h with h; subst h
        refine ⟨fun x hx => ?_, by simp⟩
        rcases List.mem_append.1 hx with hx | hx
        · exact ho x hx
        · simp only [List.mem_singleton] at hx; subst hx; exact part_size _ _
end
theorem parts_all {s : ByteArray} {sep : UInt8} : (∀ x ∈ (partsS s sep).getD [], x.size ≤ s.size) ∧ ((partsS s sep).getD []).length ≤ s.size + 1 := by
  unfold partsS
  split
  · exact ⟨by simp, by simp⟩
  · cases h : fin s sep 0 0 false [] with
    | none => exact ⟨by simp, by simp⟩
    | some l =>
      obtain ⟨a, b⟩ := fin_all s.size 0 0 false [] l (by omega) (by simp) h
      exact ⟨a, by simpa using b⟩
def pE (o : Option (List ByteArray)) : Nat := if o.isSome then 0 else 2
theorem parts_ctl {s : ByteArray} {sep : UInt8} (h : ctlS s = true) : partsS s sep = none := by unfold partsS; rw [if_pos h]
theorem parts_fin {s : ByteArray} {sep : UInt8} (h : ctlS s = false) : fin s sep 0 0 false [] = partsS s sep := by unfold partsS; rw [if_neg (by simp [h])]

set_option maxHeartbeats 1000000 in
theorem syntax_control (c : UInt8) (w : World) :
    Calls Tryd.prog 63 #[.int .u8 (c.toNat : Int)] w fun e w' => e = .returned (.bool (ctlB c)) ∧ Ext w w' := by
  go_enter Tryd.func63, Tryd.ntmps63
  have Hcy := Lib.hid (@ctlB_yes c)
  have Hcn := Lib.hid (@ctlB_no c)
  go_wp2_with fail
  all_goals
    go_ret
    refine ⟨congrArg (fun x => Ending.returned (.bool x)) ?_, Ext.refl _⟩
    by_cases hh : ((c.toNat : Int) < 32 ∧ ¬ (c.toNat : Int) = 9) ∨ (c.toNat : Int) = 127
    · rw [Hcy.out hh]; (try simp); (try omega)
    · rw [Hcn.out hh]; (try simp); (try omega)

set_option maxHeartbeats 1000000 in
theorem syntax_clean (s : ByteArray) (w : World) (hs : s.size ≤ 4611686018427387904) :
    Calls Tryd.prog 53 #[.string s] w fun e w' => e = .returned (.bool (!ctlS s)) ∧ Ext w w' := by
  go_enter Tryd.func53, Tryd.ntmps53
  go_wp2_with fail
  go_loopw [6] (fun i wr => ∃ k, k ≤ s.size ∧ i = .int .i64 (k : Nat) ∧ (s.data.toList.take k).any ctlB = false ∧ Ext w wr) (fun i _ => s.size - (intOf i).toNat)
  case atStart => exact ⟨0, Nat.zero_le _, rfl, rfl, Ext.refl _⟩
  case round =>
    obtain ⟨k, hk, rfl, hall, hbr⟩ := hrel
    by_cases hlt : k < s.size
    · have Hst := Lib.hid (ctl_step hlt hall); clear hall
      have Hyes := Lib.hid (ctl_yes hlt)
      have Hc := Lib.hid (syntax_control s.data[k])
      go_wp2_with fail
      refine (Hc.out _).mono ?_; rintro e w2 ⟨rfl, hb2⟩
      have e1 : ctlB s.data[k] = ctlB s[k] := rfl
      rw [e1]
      clear e1
      generalize ctlB s[k] = b at *
      cases b
      · go_wp2_with fail
        go_roundw
        case rel => exact ⟨k + 1, by omega, by go_num, Hst.out trivial, hbr.trans hb2⟩
        case measure => simp [intOf]; omega
      · go_wp2_with fail
        go_ret
        exact ⟨congrArg (fun x => Ending.returned (.bool x)) (by rw [← Hyes.out trivial]; rfl), hbr.trans hb2⟩
    · obtain rfl : k = s.size := by omega
      have He := Lib.hid (ctl_end hall); clear hall
      go_wp2_with fail
      go_ret
      exact ⟨congrArg (fun x => Ending.returned (.bool x)) (by rw [← He.out]; rfl), hbr⟩

set_option maxHeartbeats 2000000 in
theorem syntax_parts (s : ByteArray) (sep : UInt8) (w : World) (hs : s.size ≤ 1048576) :
    Calls Tryd.prog 40 #[.string s, .int .u8 (sep.toNat : Int)] w fun e w' => ∃ A n c, e = .returned (.tuple #[.slice A n c, errV (pE (partsS s sep))]) ∧
      RdS w' A n ((partsS s sep).getD []) ∧ n ≤ c ∧ Ext w w' := by
  go_enter Tryd.func40, Tryd.ntmps40
  go_wp2_with fail
  refine (syntax_clean s _ (by omega)).mono ?_; rintro e w1 ⟨rfl, hb1⟩
  cases hct : ctlS s
  · have HP := Lib.hid (parts_fin (sep := sep) hct); clear hct
    go_wp2_with fail
    go_loopw [6, 7, 8, 9] (fun v a q i wr => ∃ k j b m A' c' OUT, i = .int .i64 (k : Nat) ∧ a = .int .i64 (j : Nat) ∧ q = .bool b ∧ v = .slice A' m c' ∧ wr.ownsRow w1.heap.size 9 1 (.slice A' m c') m (strCells OUT) ∧ m ≤ c' ∧ m ≤ k ∧ j ≤ k ∧ j ≤ s.size ∧ k ≤ s.size + 1 ∧ fin s sep k j b OUT = partsS s sep ∧ Ext w1 wr) (fun _ _ _ i _ => s.size + 1 - (intOf i).toNat)
    case atStart => exact ⟨0, 0, false, 0, none, 0, [], rfl, rfl, rfl, rfl, World.ownsRow_nil _ _ _ _, Nat.le_refl _, Nat.le_refl _, Nat.le_refl _, by omega, by omega, HP.out, Ext.refl _⟩
    case round =>
      obtain ⟨k, j, b, m, A', c', OUT, rfl, rfl, rfl, rfl, hown, hmc, hmk, hjk, hjs, hks, hfin, hbr⟩ := hrel
      by_cases hlt : k < s.size
      · cases b
        · by_cases h34 : (s[k].toNat : Int) = 34
          · have HF := Lib.hid ((fin_quo (q := false) hlt h34).symm.trans hfin); clear hfin
            go_wp2_with fail
            go_roundw
            case rel => exact ⟨k + 1, j, true, m, A', c', OUT, by go_num, rfl, rfl, rfl, hown, hmc, by omega, by omega, hjs, by omega, HF.out, hbr⟩
            case measure => simp [intOf]; omega
          · by_cases hsp : (s[k].toNat : Int) = sep.toNat
            · have HF := Lib.hid ((fin_sep hlt h34 hsp).symm.trans hfin); clear hfin
              go_wp2_with fail
              refine (strings_Trim_blank _ _ (by rw [ByteArray.size_extract]; omega)).mono ?_; rintro e w2 ⟨rfl, hb2⟩
              have hps := part_size (s := s) j k
              generalize trimF (s.extract j k) = T at *
              go_wp2_with (first
                | (at_builtin; refine wpList_app _ rfl (.tmp 47) (.tmp 53) 22 rfl w1 9 _ 1 16 Tryd.underlying22 infoStr rfl (by decide) _ _ _ rfl ((own_ext hown hb2).alloc _) _ 1 1 [.string T] rfl (Rd.one _ _ _ (by simp)) (strCells_one [T]) ((hbr.trans hb2).alloc _) (by omega) (by decide) ?_; intro A2 c2 w3 hown3 hb3 hle3))
              go_roundw
              case rel => exact ⟨k + 1, k + 1, false, m + 1, A2, c2, OUT ++ [T], by go_num, by go_num, rfl, rfl, by simpa using hown3, hle3, by omega, by omega, by omega, by omega, HF.out, hb3⟩
              case measure => simp [intOf]; omega
            · have HF := Lib.hid ((fin_p hlt h34 hsp).symm.trans hfin); clear hfin
              go_wp2_with fail
              go_roundw
              case rel => exact ⟨k + 1, j, false, m, A', c', OUT, by go_num, rfl, rfl, rfl, hown, hmc, by omega, by omega, hjs, by omega, HF.out, hbr⟩
              case measure => simp [intOf]; omega
        · by_cases h92 : (s[k].toNat : Int) = 92
          · have HF := Lib.hid ((fin_esc hlt h92).symm.trans hfin); clear hfin
            go_wp2_with fail
            go_roundw
            case rel => exact ⟨k + 2, j, true, m, A', c', OUT, by go_num, rfl, rfl, rfl, hown, hmc, by omega, by omega, hjs, by omega, HF.out, hbr⟩
            case measure => simp [intOf]; omega
          · by_cases h34 : (s[k].toNat : Int) = 34
            · have HF := Lib.hid ((fin_quo (q := true) hlt h34).symm.trans hfin); clear hfin
              go_wp2_with fail
              go_roundw
              case rel => exact ⟨k + 1, j, false, m, A', c', OUT, by go_num, rfl, rfl, rfl, hown, hmc, by omega, by omega, hjs, by omega, HF.out, hbr⟩
              case measure => simp [intOf]; omega
            · have HF := Lib.hid ((fin_q hlt h34 h92).symm.trans hfin); clear hfin
              go_wp2_with fail
              go_roundw
              case rel => exact ⟨k + 1, j, true, m, A', c', OUT, by go_num, rfl, rfl, rfl, hown, hmc, by omega, by omega, hjs, by omega, HF.out, hbr⟩
              case measure => simp [intOf]; omega
      · cases b
        · have HF := Lib.hid ((fin_end hlt).symm.trans hfin); clear hfin
          go_wp2_with fail
          refine (strings_Trim_blank _ _ (by rw [ByteArray.size_extract]; omega)).mono ?_; rintro e w2 ⟨rfl, hb2⟩
          generalize trimF (s.extract j s.size) = T at *
          go_wp2_with (first
            | (at_builtin; refine wpList_app _ rfl (.tmp 59) (.tmp 64) 22 rfl w1 9 _ 1 16 Tryd.underlying22 infoStr rfl (by decide) _ _ _ rfl ((own_ext hown hb2).alloc _) _ 1 1 [.string T] rfl (Rd.one _ _ _ (by simp)) (strCells_one [T]) ((hbr.trans hb2).alloc _) (by omega) (by decide) ?_; intro A2 c2 w3 hown3 hb3 hle3))
          go_ret2
          refine ⟨_, _, _, by rw [← HF.out]; rfl, ?_, hle3, hb1.trans hb3⟩
          rw [← HF.out]
          have := Rd.of_own hown3
          simpa [RdS, strCells] using this
        · have HF := Lib.hid ((fin_no hlt).symm.trans hfin); clear hfin
          go_wp2_with fail
          go_ret2
          refine ⟨none, 0, 0, by rw [← HF.out]; rfl, ?_, Nat.le_refl _, hb1.trans hbr⟩
          rw [← HF.out]
          exact Rd.none_ _ _ _
  · have HP := Lib.hid (parts_ctl (sep := sep) hct); clear hct
    go_wp2_with fail
    go_ret2
    refine ⟨none, 0, 0, by rw [HP.out]; rfl, ?_, Nat.le_refl _, hb1⟩
    rw [HP.out]
    exact Rd.none_ _ _ _

set_option maxHeartbeats 2000000 in
theorem ref_Parts (s : ByteArray) (sep : UInt8) (w : World) (hs : s.size ≤ 1048576) :
    Calls Tryd.prog 31 #[.string s, .int .u8 (sep.toNat : Int)] w fun e w' => ∃ A n c, e = .returned (.tuple #[.slice A n c, .bool (partsS s sep).isSome]) ∧
      RdS w' A n ((partsS s sep).getD []) ∧ n ≤ c ∧ Ext w w' := by
  go_enter Tryd.func31, Tryd.ntmps31
  go_wp2_with fail
  go_loopw [6, 7, 8, 9] (fun v a q i wr => ∃ k j b m A' c' OUT, i = .int .i64 (k : Nat) ∧ a = .int .i64 (j : Nat) ∧ q = .bool b ∧ v = .slice A' m c' ∧ wr.ownsRow w.heap.size 9 1 (.slice A' m c') m (strCells OUT) ∧ m ≤ c' ∧ m ≤ k ∧ j ≤ k ∧ j ≤ s.size ∧ k ≤ s.size ∧ fin s sep k j b OUT = fin s sep 0 0 false [] ∧ Ext w wr) (fun _ _ _ i _ => s.size + 1 - (intOf i).toNat)
  case atStart => exact ⟨0, 0, false, 0, none, 0, [], rfl, rfl, rfl, rfl, World.ownsRow_nil _ _ _ _, Nat.le_refl _, Nat.le_refl _, Nat.le_refl _, by omega, by omega, rfl, Ext.refl _⟩
  case round =>
    obtain ⟨k, j, b, m, A', c', OUT, rfl, rfl, rfl, rfl, hown, hmc, hmk, hjk, hjs, hks, hfin, hbr⟩ := hrel
    by_cases hlt : k < s.size
    · cases b
      · by_cases h34 : (s[k].toNat : Int) = 34
        · have HF := Lib.hid ((fin_quo (q := false) hlt h34).symm.trans hfin); clear hfin
          go_wp2_with fail
          go_roundw
          case rel => exact ⟨k + 1, j, true, m, A', c', OUT, by go_num, rfl, rfl, rfl, hown, hmc, by omega, by omega, hjs, by omega, HF.out, hbr⟩
          case measure => simp [intOf]; omega
        · by_cases hsp : (s[k].toNat : Int) = sep.toNat
          · have HF := Lib.hid ((fin_sep hlt h34 hsp).symm.trans hfin); clear hfin
            go_wp2_with fail
            refine (ref_Trim _ _ (by rw [ByteArray.size_extract]; omega)).mono ?_; rintro e w2 ⟨rfl, hb2⟩
            generalize trimF (s.extract j k) = T at *
            go_wp2_with (first
              | (at_builtin; refine wpList_app _ rfl (.tmp 45) (.tmp 51) 22 rfl w 9 _ 1 16 Tryd.underlying22 infoStr rfl (by decide) _ _ _ rfl ((own_ext hown hb2).alloc _) _ 1 1 [.string T] rfl (Rd.one _ _ _ (by simp)) (strCells_one [T]) ((hbr.trans hb2).alloc _) (by omega) (by decide) ?_; intro A2 c2 w3 hown3 hb3 hle3))
            go_roundw
            case rel => exact ⟨k + 1, k + 1, false, m + 1, A2, c2, OUT ++ [T], by go_num, by go_num, rfl, rfl, by simpa using hown3, hle3, by omega, by omega, by omega, by omega, HF.out, hb3⟩
            case measure => simp [intOf]; omega
          · have HF := Lib.hid ((fin_p hlt h34 hsp).symm.trans hfin); clear hfin
            go_wp2_with fail
            go_roundw
            case rel => exact ⟨k + 1, j, false, m, A', c', OUT, by go_num, rfl, rfl, rfl, hown, hmc, by omega, by omega, hjs, by omega, HF.out, hbr⟩
            case measure => simp [intOf]; omega
      · by_cases h92 : (s[k].toNat : Int) = 92
        · have HF := Lib.hid ((fin_esc hlt h92).symm.trans hfin); clear hfin
          by_cases hend : k + 1 = s.size
          · have HN := Lib.hid ((fin_no (s := s) (sep := sep) (i := k + 2) (st := j) (out := OUT) (by omega)).symm.trans HF.out)
            have hend' : (k : Int) + 1 = (s.size : Int) := by omega
            go_wp2_with fail
            go_ret2
            have hp : partsS s sep = none := by unfold partsS; rw [← HN.out]; simp
            refine ⟨none, 0, 0, by rw [hp]; rfl, ?_, Nat.le_refl _, hbr⟩
            rw [hp]
            exact Rd.none_ _ _ _
          · have hend' : ¬ (k : Int) + 1 = (s.size : Int) := by omega
            go_wp2_with fail
            go_roundw
            case rel => exact ⟨k + 2, j, true, m, A', c', OUT, by go_num, rfl, rfl, rfl, hown, hmc, by omega, by omega, hjs, by omega, HF.out, hbr⟩
            case measure => simp [intOf]; omega
        · by_cases h34 : (s[k].toNat : Int) = 34
          · have HF := Lib.hid ((fin_quo (q := true) hlt h34).symm.trans hfin); clear hfin
            go_wp2_with fail
            go_roundw
            case rel => exact ⟨k + 1, j, false, m, A', c', OUT, by go_num, rfl, rfl, rfl, hown, hmc, by omega, by omega, hjs, by omega, HF.out, hbr⟩
            case measure => simp [intOf]; omega
          · have HF := Lib.hid ((fin_q hlt h34 h92).symm.trans hfin); clear hfin
            go_wp2_with fail
            go_roundw
            case rel => exact ⟨k + 1, j, true, m, A', c', OUT, by go_num, rfl, rfl, rfl, hown, hmc, by omega, by omega, hjs, by omega, HF.out, hbr⟩
            case measure => simp [intOf]; omega
    · cases b
      · have HF := Lib.hid ((fin_end hlt).symm.trans hfin); clear hfin
        go_wp2_with fail
        refine (ref_Control s _ (by omega)).mono ?_; rintro e w2 ⟨rfl, hb2⟩
        cases hct : ctlS s
        · have HP := Lib.hid (parts_fin (sep := sep) hct); clear hct
          go_wp2_with fail
          refine (ref_Trim _ _ (by rw [ByteArray.size_extract]; omega)).mono ?_; rintro e w4 ⟨rfl, hb4⟩
          generalize trimF (s.extract j s.size) = T at *
          go_wp2_with (first
            | (at_builtin; refine wpList_app _ rfl (.tmp 62) (.tmp 67) 22 rfl w 9 _ 1 16 Tryd.underlying22 infoStr rfl (by decide) _ _ _ rfl ((own_ext (own_ext hown hb2) hb4).alloc _) _ 1 1 [.string T] rfl (Rd.one _ _ _ (by simp)) (strCells_one [T]) (((hbr.trans hb2).trans hb4).alloc _) (by omega) (by decide) ?_; intro A2 c2 w3 hown3 hb3 hle3))
          go_ret2
          have hp : partsS s sep = some (OUT ++ [T]) := by rw [← HP.out, ← HF.out]
          refine ⟨_, _, _, by rw [hp]; rfl, ?_, hle3, hb3⟩
          rw [hp]
          have := Rd.of_own hown3
          simpa [RdS, strCells] using this
        · have HP := Lib.hid (parts_ctl (sep := sep) hct); clear hct
          go_wp2_with fail
          go_ret2
          refine ⟨none, 0, 0, by rw [HP.out]; rfl, ?_, Nat.le_refl _, hbr.trans hb2⟩
          rw [HP.out]
          exact Rd.none_ _ _ _
      · have HN := Lib.hid ((fin_no hlt).symm.trans hfin); clear hfin
        go_wp2_with fail
        go_ret2
        have hp : partsS s sep = none := by unfold partsS; rw [← HN.out]; simp
        refine ⟨none, 0, 0, by rw [hp]; rfl, ?_, Nat.le_refl _, hbr⟩
        rw [hp]
        exact Rd.none_ _ _ _
end Go.Proofs.YtaebbnadmfbdjaaDoor
