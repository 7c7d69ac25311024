/- Walks of functions that the proof needs, and plain laws on what they compute. No condition beyond those that each one states. -/
import Derived.Test.YtmckbcbdnckngaaGreatDoorJ2
import Derived.Lib.LazyBuf
import Derived.Deep.LoopGhost
import Derived.Deep.DeepCutAuto
import Derived.Deep.RegionHeld3
import Derived.OneCell
import Derived.Lib.OwnKind
import Derived.Deep.RegionHeld
set_option maxHeartbeats 32000000
set_option maxRecDepth 100000
set_option linter.unusedSimpArgs false
set_option linter.unusedVariables false
namespace Go.Proofs.YtmckbcbdnckngaaGreatDoor
open Go.RowKit

def nameE (s : ByteArray) : Nat := if tokS s then (if s.size > 64 then 5 else 0) else 8
def nameS (s : ByteArray) : ByteArray := if nameE s = 0 then lowS s else ⟨#[]⟩
def valueE (s : ByteArray) : Nat := if ctlS s then 2 else (if (trimF s).size > 2048 then 5 else 0)
def valueS (s : ByteArray) : ByteArray := if valueE s = 0 then trimF s else ⟨#[]⟩
theorem name_no {s : ByteArray} (h : tokS s = false) : nameE s = 8 ∧ nameS s = ⟨#[]⟩ := by
 have : nameE s = 8 := by unfold nameE; rw [h]; rfl
 exact ⟨this, by unfold nameS; rw [this]; rfl⟩
theorem name_big {s : ByteArray} (h : tokS s = true) (h2 : s.size > 64) : nameE s = 5 ∧ nameS s = ⟨#[]⟩ := by
 have : nameE s = 5 := by unfold nameE; rw [if_pos h, if_pos h2]
 exact ⟨this, by unfold nameS; rw [this]; rfl⟩
theorem name_ok {s : ByteArray} (h : tokS s = true) (h2 : ¬ s.size > 64) : nameE s = 0 ∧ nameS s = lowS s := by
 have : nameE s = 0 := by unfold nameE; rw [if_pos h, if_neg h2]
 exact ⟨this, by unfold nameS; rw [this]; rfl⟩
theorem value_no {s : ByteArray} (h : ctlS s = true) : valueE s = 2 ∧ valueS s = ⟨#[]⟩ := by
 have : valueE s = 2 := by unfold valueE; rw [h]; rfl
 exact ⟨this, by unfold valueS; rw [this]; rfl⟩
theorem value_big {s : ByteArray} (h : ctlS s = false) (h2 : (trimF s).size > 2048) : valueE s = 5 ∧ valueS s = ⟨#[]⟩ := by
 have : valueE s = 5 := by unfold valueE; rw [if_neg (by simp [h]), if_pos h2]
 exact ⟨this, by unfold valueS; rw [this]; rfl⟩
theorem value_ok {s : ByteArray} (h : ctlS s = false) (h2 : ¬ (trimF s).size > 2048) : valueE s = 0 ∧ valueS s = trimF s := by
 have : valueE s = 0 := by unfold valueE; rw [if_neg (by simp [h]), if_neg h2]
 exact ⟨this, by unfold valueS; rw [this]; rfl⟩
theorem fin2 {w w' : World} {a b : ByteArray} {n m : Nat} {f : Nat → Value} (h : n = m ∧ a = b) (he : Ext w w') :
  (Ending.returned (.tuple #[.string b, f m]) : Ending) = .returned (.tuple #[.string a, f n]) ∧ Ext w w' := by
 obtain ⟨rfl, rfl⟩ := h; exact ⟨rfl, he⟩

theorem field_Name (s : ByteArray) (w : World) (hs : s.size ≤ 4611686018427387904) :
  Calls Tryz.prog 59 #[.string s] w fun e w' => e = .returned (.tuple #[.string (nameS s), errV (nameE s)]) ∧ Ext w w' := by
 go_enter Tryz.func59, Tryz.ntmps59
 go_wp2_with fail
 refine (syntax_Token s _ hs).mono ?_; rintro e w1 ⟨rfl, hb1⟩
 have hno := zi (@name_no s); have hbig := zi (@name_big s); have hok := zi (@name_ok s)
 generalize tokS s = b at *
 cases b
 ·go_wp2_with fail
  go_ret2
  exact fin2 (f := errV) (hno.out trivial) hb1
 ·by_cases h64 : s.size > 64
  ·go_wp2_with fail
   go_ret2
   exact fin2 (f := errV) (hbig.out trivial h64) hb1
  ·go_wp2_with fail
   refine (field_lower s _ (by omega)).mono ?_; rintro e w2 ⟨rfl, hb2⟩
   go_wp2_with fail
   go_ret2
   exact fin2 (f := errV) (hok.out trivial h64) (hb1.trans hb2)

theorem field_Value (s : ByteArray) (w : World) (hs : s.size ≤ 4611686018427387904) :
  Calls Tryz.prog 21 #[.string s] w fun e w' => e = .returned (.tuple #[.string (valueS s), errV (valueE s)]) ∧ Ext w w' := by
 go_enter Tryz.func21, Tryz.ntmps21
 go_wp2_with fail
 refine (field_control s _ hs).mono ?_; rintro e w1 ⟨rfl, hb1⟩
 have hno := zi (@value_no s); have hbig := zi (@value_big s); have hok := zi (@value_ok s)
 generalize ctlS s = b at *
 cases b
 ·go_wp2_with fail
  refine (strings_Trim_blank s _ (by omega)).mono ?_; rintro e w2 ⟨rfl, hb2⟩
  have htl := trimF_size s
  generalize trimF s = T at *
  by_cases h64 : T.size > 2048
  ·go_wp2_with fail
   go_ret2
   exact fin2 (f := errV) (hbig.out trivial h64) (hb1.trans hb2)
  ·go_wp2_with fail
   go_ret2
   exact fin2 (f := errV) (hok.out trivial h64) (hb1.trans hb2)
 ·go_wp2_with fail
  go_ret2
  exact fin2 (f := errV) (hno.out trivial) hb1

end Go.Proofs.YtmckbcbdnckngaaGreatDoor

namespace Go.Proofs.YtmckbcbdnckngaaGreatDoor
open Go.RowKit

def chk (f : Fd) : Nat :=
 if nameE f.1 ≠ 0 then nameE f.1 else if nameS f.1 ≠ f.1 then 8 else if valueE f.2 ≠ 0 then valueE f.2 else if valueS f.2 ≠ f.2 then 2 else 0
def chkL : List Fd → Nat
 | [] => 0
 | f :: r => if chk f ≠ 0 then chk f else chkL r
def chkS (fs : List Fd) : Nat := if fs.length > 64 then 5 else chkL fs
theorem chkL_app : ∀ (l r : List Fd), chkL l = 0 → chkL (l ++ r) = chkL r
 | [], r, _ => rfl
 | f :: l, r, h => by
  unfold chkL at h
  split at h
  ·exact absurd h (by assumption)
  ·rename_i hf
   rw [List.cons_append, chkL, if_neg hf]; exact chkL_app l r h
theorem chk_step {fs : List Fd} {k : Nat} (h : k < fs.length) (h1 : chkL (fs.take k) = 0) (h2 : chk fs[k] = 0) : chkL (fs.take (k + 1)) = 0 := by
 rw [take_step fs k h, chkL_app _ _ h1]; simp [chkL, h2]
theorem chk_yes {fs : List Fd} {k : Nat} (h : k < fs.length) (hl : fs.length ≤ 64) (h1 : chkL (fs.take k) = 0) (h2 : chk fs[k] ≠ 0) : chk fs[k] = chkS fs := by
 have e : fs = fs.take k ++ fs[k] :: fs.drop (k + 1) := by simp
 unfold chkS
 rw [if_neg (by omega)]
 conv => rhs; rw [e]
 rw [chkL_app _ _ h1, chkL, if_pos h2]
theorem chk_end {fs : List Fd} (hl : fs.length ≤ 64) (h1 : chkL (fs.take fs.length) = 0) : 0 = chkS fs := by
 rw [List.take_of_length_le (Nat.le_refl _)] at h1
 unfold chkS
 rw [if_neg (by omega), h1]
theorem chk_many {fs : List Fd} (hl : 64 < fs.length) : 5 = chkS fs := by unfold chkS; rw [if_pos hl]
theorem errV_pos {n : Nat} (h : n ≠ 0) : errV n = .iface 63 (.int .i64 n) := by unfold errV; rw [if_neg h]
theorem neqS_no {a b : ByteArray} (h : a = b) : (a.toList == b.toList) = true := eqS_iff.2 h
theorem neqS_yes {a b : ByteArray} (h : a ≠ b) : (a.toList == b.toList) = false := by
 rw [← Bool.not_eq_true, eqS_iff]; exact h

theorem field_check (a b : ByteArray) (w : World) (ha : a.size ≤ 4611686018427387904) (hbs : b.size ≤ 4611686018427387904) :
  Calls Tryz.prog 61 #[.agg #[.string a, .string b]] w fun e w' => e = .returned (errV (chk (a, b))) ∧ Ext w w' := by
 have hcA : (w.alloc (.cells #[.string a, .string b] 51)).cell? ⟨w.heap.size, 0, none⟩ = some (.string a) := by rw [World.cell?_alloc_mark]; rfl
 have hcB : (w.alloc (.cells #[.string a, .string b] 51)).cell? ⟨w.heap.size, 1, none⟩ = some (.string b) := by rw [World.cell?_alloc_mark]; rfl
 have hb0 : Ext w (w.alloc (.cells #[.string a, .string b] 51)) := (Ext.refl w).alloc _
 go_enter Tryz.func61, Tryz.ntmps61
 go_wp2_with fail
 generalize w.alloc (.cells #[.string a, .string b] 51) = w0 at *
 generalize w.heap.size = BB at *
 refine (field_Name a _ ha).mono ?_; rintro e w1 ⟨rfl, hb1⟩
 have hcA1 := hb1.cell hcA; have hcB1 := hb1.cell hcB
 have hbe1 := hb0.trans hb1
 by_cases hn : nameE a = 0
 ·have Hn := zi hn
  rw [hn, show errV 0 = .nilIface from rfl]
  by_cases hns : nameS a = a
  ·have Hns := zi hns
   have hq := neqS_no hns
   go_wp2_with fail
   refine (field_Value b _ hbs).mono ?_; rintro e w2 ⟨rfl, hb2⟩
   have hcB2 := hb2.cell hcB1
   by_cases hv : valueE b = 0
   ·have Hv := zi hv
    rw [hv, show errV 0 = .nilIface from rfl]
    by_cases hvs : valueS b = b
    ·have Hvs := zi hvs
     have hq2 := neqS_no hvs
     go_wp2_with fail
     go_ret
     refine ⟨congrArg Ending.returned ?_, hbe1.trans hb2⟩
     unfold chk; rw [if_neg (by simp [Hn.out]), if_neg (by simp [Hns.out]), if_neg (by simp [Hv.out]), if_neg (by simp [Hvs.out])]; rfl
    ·have Hvs := zi hvs
     have hq2 := neqS_yes hvs
     go_wp2_with fail
     go_ret
     refine ⟨congrArg Ending.returned ?_, hbe1.trans hb2⟩
     unfold chk; rw [if_neg (by simp [Hn.out]), if_neg (by simp [Hns.out]), if_neg (by simp [Hv.out]), if_pos Hvs.out]; rfl
   ·have Hv := zi hv
    rw [errV_pos hv]
    go_wp2_with fail
    go_ret
    refine ⟨congrArg Ending.returned ?_, hbe1.trans hb2⟩
    unfold chk; rw [if_neg (by simp [Hn.out]), if_neg (by simp [Hns.out]), if_pos Hv.out, errV_pos Hv.out]; rfl
  ·have Hns := zi hns
   have hq := neqS_yes hns
   go_wp2_with fail
   go_ret
   refine ⟨congrArg Ending.returned ?_, hbe1⟩
   unfold chk; rw [if_neg (by simp [Hn.out]), if_pos Hns.out]; rfl
 ·have Hn := zi hn
  rw [errV_pos hn]
  go_wp2_with fail
  go_ret
  refine ⟨congrArg Ending.returned ?_, hbe1⟩
  unfold chk; rw [if_pos Hn.out, errV_pos Hn.out]; rfl

theorem field_Check (A : Option Addr) (n c : Nat) (fs : List Fd) (w : World) (hf : RdF w A n fs) (hn : n ≤ 9223372036854775807) (hsz : Bsz 4611686018427387904 fs) :
  Calls Tryz.prog 29 #[.slice A n c] w fun e w' => e = .returned (errV (chkS fs)) ∧ Ext w w' := by
 have hl := hf.lenF
 go_enter Tryz.func29, Tryz.ntmps29
 have Hl := zi hl; clear hl
 by_cases h64 : n > 64
 ·have Hm := zi (chk_many (fs := fs) (by have := Hl.out; omega))
  go_wp2_with fail
  go_ret
  exact ⟨by rw [← Hm.out]; rfl, Ext.refl _⟩
 ·go_wp2_with fail
  have H64 := zi (show fs.length ≤ 64 by have := Hl.out; omega)
  go_loopw [12] (fun i wr => ∃ k, k ≤ n ∧ i = .int .i64 (k : Nat) ∧ chkL (fs.take k) = 0 ∧ Ext w wr) (fun i _ => n - (intOf i).toNat)
  case atStart => exact ⟨0, Nat.zero_le _, rfl, rfl, Ext.refl _⟩
  case round =>
   obtain ⟨k, hk, rfl, hall, hbr⟩ := hrel
   by_cases hlt : k < n
   ·have hlt' : k < fs.length := by have := Hl.out; omega
    obtain ⟨b, o, rfl, hc0, hc1⟩ := (hf.ext hbr).atF hlt'
    have Hst := zi (chk_step hlt' hall)
    have Hy := zi (chk_yes hlt' H64.out hall); clear hall
    obtain ⟨hz1, hz2⟩ := hsz.at_ hlt'
    have Hc := zi (fun w => field_check fs[k].1 fs[k].2 w hz1 hz2)
    go_wp2_with fail
    refine (Hc.out _).mono ?_; rintro e w2 ⟨rfl, hb2⟩
    have hb2 := hbr.trans (((Ext.refl wr).alloc _).trans hb2)
    by_cases hz : chk fs[k] = 0
    ·have Hz := zi hz
     rw [show chk (fs[k].1, fs[k].2) = 0 from hz, show errV 0 = .nilIface from rfl]
     clear hz
     go_wp2_with fail
     go_roundw
     case rel => exact ⟨k + 1, by omega, by go_num, Hst.out Hz.out, hb2⟩
     case measure => simp [intOf]; omega
    ·have Hz := zi hz
     rw [show errV (chk (fs[k].1, fs[k].2)) = _ from errV_pos hz]
     clear hz
     go_wp2_with fail
     go_ret
     exact ⟨congrArg Ending.returned (by rw [← Hy.out Hz.out, errV_pos Hz.out]; rfl), hb2⟩
   ·obtain rfl : k = n := by omega
    have He := zi (chk_end H64.out (by rw [Hl.out]; exact hall)); clear hall
    go_wp2_with fail
    go_ret
    exact ⟨congrArg Ending.returned (by rw [← He.out]; rfl), hbr⟩

end Go.Proofs.YtmckbcbdnckngaaGreatDoor

namespace Go.Proofs.YtmckbcbdnckngaaGreatDoor
open Go.RowKit

theorem field_Remove (A : Option Addr) (n c : Nat) (fs : List Fd) (name : ByteArray) (w : World) (hf : RdF w A n fs)
  (hn : n ≤ 1073741824) (hs : name.size ≤ 9223372036854775807) (hsz : Bsz 4611686018427387904 fs) :
  Calls Tryz.prog 31 #[.slice A n c, .string name] w fun e w' => ∃ A' n' c', e = .returned (.slice A' n' c') ∧ RdF w' A' n' (remS fs name) ∧ n' ≤ c' ∧ Ext w w' ∧ w'.ownsRow w.heap.size 51 2 (.slice A' n' c') n' (fldCells (remS fs name)) := by
 have hl := hf.lenF
 go_enter Tryz.func31, Tryz.ntmps31
 have Hl := zi hl; clear hl
 go_wp2_with fail
 refine (field_lower _ _ (by assumption)).mono ?_; rintro e w1 ⟨rfl, hb1⟩
 go_wp2_with fail
 go_loopw [5, 12] (fun v i wr => ∃ k m A' c', k ≤ n ∧ i = .int .i64 (k : Nat) ∧ v = .slice A' m c' ∧ wr.ownsRow w1.heap.size 51 2 (.slice A' m c') m (fldCells (remS (fs.take k) name)) ∧ m ≤ c' ∧ Ext w1 wr) (fun _ i _ => n - (intOf i).toNat)
 case atStart => exact ⟨0, 0, none, 0, Nat.zero_le _, rfl, rfl, World.ownsRow_nil _ _ _ _, Nat.le_refl _, Ext.refl _⟩
 case round =>
  obtain ⟨k, m, A', c', hk, rfl, rfl, hown, hmc, hbr⟩ := hrel
  by_cases hlt : k < n
  ·have hlt' : k < fs.length := by have := Hl.out; omega
   obtain ⟨b, o, rfl, hc0, hc1⟩ := (hf.ext (hb1.trans hbr)).atF hlt'
   have hbd := (hsz.at_ hlt').1
   have hm1 := hown.1
   rw [fldCells_len] at hm1
   have hmk := remS_len fs name k
   have hmk2 : m ≤ k := by omega
   have Hm := zi hm1; clear hm1 hmk
   by_cases hy : isN name fs[k] = true
   ·have Hst := zi (remS_drop hlt' hy)
    unfold isN at hy
    have hy2 : ((lowS fs[k].1).toList != (lowS name).toList) = false := by simp [bne, hy]
    generalize fs[k].1 = nm at *
    generalize fs[k].2 = vl at *
    go_wp2_with (first
     | (go_at_call 65; refine (field_lower _ _ (by omega)).mono ?_; rintro e w2 ⟨rfl, hb2⟩; have hc2 := hb2.cells; have hz2 := hb2.size))
    go_roundw
    case rel => exact ⟨k + 1, m, A', c', by omega, by go_num, rfl, by rw [Hst.out]; exact own_ext (hown.alloc _) hb2, hmc, (hbr.alloc _).trans hb2⟩
    case measure => simp [intOf]; omega
   ·have hy : isN name fs[k] = false := by simpa using hy
    have Hst := zi (remS_keep hlt' hy)
    unfold isN at hy
    have hy2 : ((lowS fs[k].1).toList != (lowS name).toList) = true := by simp [bne, hy]
    generalize hx : fs[k] = x at *
    obtain ⟨nm, vl⟩ := x
    clear hx
    simp only at hy hy2 hbd hc0 hc1
    go_wp2_with (first
     | (go_at_call 65; refine (field_lower _ _ (by omega)).mono ?_; rintro e w2 ⟨rfl, hb2⟩; have hc2 := hb2.cells; have hz2 := hb2.size)
     | (at_builtin; refine wpList_app _ rfl (.tmp 21) (.tmp 23) 33 rfl w1 51 _ 2 32 Tryz.underlying33 infoFld rfl (by decide) _ _ _ rfl ((own_ext (hown.alloc _) hb2).alloc _) _ 1 1 (fldCells [(nm, vl)]) rfl (Rd.two _ _ _ _ (by simp)) (fldCells_one _) (((hbr.alloc _).trans hb2).alloc _) (by omega) (by decide) ?_; intro A2 c2 w3 hown3 hb3 hle3))
    go_roundw
    case rel => exact ⟨k + 1, m + 1, A2, c2, by omega, by go_num, rfl, by rw [Hst.out, fldCells_app]; exact hown3, hle3, hb3⟩
    case measure => simp [intOf]; omega
  ·obtain rfl : k = n := by omega
   have he : fs.take k = fs := List.take_of_length_le (by have := Hl.out; omega)
   rw [he] at hown
   go_wp2
   go_ret
   exact ⟨_, _, _, rfl, Rd.of_own hown, hmc, hb1.trans hbr, own_base hown hb1.size⟩

end Go.Proofs.YtmckbcbdnckngaaGreatDoor

namespace Go.Proofs.YtmckbcbdnckngaaGreatDoor
open Go.RowKit

theorem field_Set (A : Option Addr) (n c : Nat) (fs : List Fd) (name value : ByteArray) (w : World) (hf : RdF w A n fs)
  (hn : n ≤ 1073741824) (hs : name.size ≤ 9223372036854775807) (hsz : Bsz 4611686018427387904 fs) :
  Calls Tryz.prog 47 #[.slice A n c, .string name, .string value] w fun e w' => ∃ A' n' c', e = .returned (.slice A' n' c') ∧ RdF w' A' n' (setS name value fs) ∧ n' ≤ c' ∧ Ext w w' ∧ w'.ownsRow w.heap.size 51 2 (.slice A' n' c') n' (fldCells (setS name value fs)) := by
 have hl := hf.lenF
 go_enter Tryz.func47, Tryz.ntmps47
 have Hl := zi hl; clear hl
 go_wp2_with fail
 refine (field_lower _ _ (by assumption)).mono ?_; rintro e w1 ⟨rfl, hb1⟩
 go_wp2_with fail
 go_loopg [7, 8, 15] n (fun g v d i wr => ∃ k m A' c', k ≤ n ∧ g = n - k ∧ i = .int .i64 (k : Nat) ∧ d = .bool (hasTo fs name k) ∧ v = .slice A' m c' ∧ wr.ownsRow w1.heap.size 51 2 (.slice A' m c') m (fldCells (setTo fs name value k)) ∧ m ≤ c' ∧ Ext w1 wr)
 case atStart => exact ⟨0, 0, none, 0, Nat.zero_le _, rfl, rfl, rfl, rfl, World.ownsRow_nil _ _ _ _, Nat.le_refl _, Ext.refl _⟩
 case round =>
  obtain ⟨k, m, A', c', hk, rfl, rfl, rfl, rfl, hown, hmc, hbr⟩ := hrel
  have hm1 := hown.1
  rw [fldCells_len] at hm1
  have hmk := setTo_len fs name value k
  have hmk2 : m ≤ k + 1 := by omega
  have Hm := zi hm1; clear hm1 hmk
  by_cases hlt : k < n
  ·have hlt' : k < fs.length := by have := Hl.out; omega
   obtain ⟨b, o, rfl, hc0, hc1⟩ := (hf.ext (hb1.trans hbr)).atF hlt'
   have hbd := (hsz.at_ hlt').1
   have Hhas := zi (hasTo_step (name := name) hlt')
   by_cases hy : isN name fs[k] = true
   ·have HY := zi hy
    unfold isN at hy
    have hy2 : ((lowS fs[k].1).toList != (lowS name).toList) = false := by simp [bne, hy]
    cases hd : hasTo fs name k
    ·have Hst := zi (setTo_new (value := value) hlt' HY.out hd)
     have Hd := zi hd; clear hd
     generalize hx : fs[k] = x at *
     obtain ⟨nm, vl⟩ := x
     clear hx
     simp only at hy hy2 hbd hc0 hc1
     go_wp2_with (first
      | (go_at_call 65; refine (field_lower _ _ (by omega)).mono ?_; rintro e w2 ⟨rfl, hb2⟩; have hc2 := hb2.cells; have hz2 := hb2.size)
      | (at_builtin; refine wpList_app _ rfl (.tmp 32) (.tmp 36) 33 rfl w1 51 _ 2 32 Tryz.underlying33 infoFld rfl (by decide) _ _ _ rfl ((own_ext (hown.alloc _) hb2).alloc _) _ 1 1 (fldCells [(lowS name, value)]) rfl (Rd.two _ _ _ _ (by simp)) (fldCells_one _) (((hbr.alloc _).trans hb2).alloc _) (by omega) (by decide) ?_; intro A2 c2 w3 hown3 hb3 hle3))
     go_roundg (n - (k + 1))
     case measure => omega
     case rel => exact ⟨k + 1, m + 1, A2, c2, by omega, rfl, by go_num, by rw [Hhas.out, HY.out, Bool.or_true], rfl, by rw [Hst.out, fldCells_app]; exact hown3, hle3, hb3⟩
    ·have Hst := zi (setTo_skip (value := value) hlt' HY.out hd)
     have Hd := zi hd; clear hd
     generalize hx : fs[k] = x at *
     obtain ⟨nm, vl⟩ := x
     clear hx
     simp only at hy hy2 hbd hc0 hc1
     go_wp2_with (first
      | (go_at_call 65; refine (field_lower _ _ (by omega)).mono ?_; rintro e w2 ⟨rfl, hb2⟩; have hc2 := hb2.cells; have hz2 := hb2.size))
     go_roundg (n - (k + 1))
     case measure => omega
     case rel => exact ⟨k + 1, m, A', c', by omega, rfl, by go_num, by rw [Hhas.out, HY.out, Bool.or_true], rfl, by rw [Hst.out]; exact own_ext (hown.alloc _) hb2, hmc, (hbr.alloc _).trans hb2⟩
   ·have hy : isN name fs[k] = false := by simpa using hy
    have HY := zi hy
    have Hst := zi (setTo_keep (value := value) hlt' hy)
    unfold isN at hy
    have hy2 : ((lowS fs[k].1).toList != (lowS name).toList) = true := by simp [bne, hy]
    generalize hx : fs[k] = x at *
    obtain ⟨nm, vl⟩ := x
    clear hx
    simp only at hy hy2 hbd hc0 hc1
    generalize hhd : hasTo fs name k = hd at *
    have Hhd := zi hhd; clear hhd
    go_wp2_with (first
     | (go_at_call 65; refine (field_lower _ _ (by omega)).mono ?_; rintro e w2 ⟨rfl, hb2⟩; have hc2 := hb2.cells; have hz2 := hb2.size)
     | (at_builtin; refine wpList_app _ rfl (.tmp 25) (.tmp 27) 33 rfl w1 51 _ 2 32 Tryz.underlying33 infoFld rfl (by decide) _ _ _ rfl ((own_ext (hown.alloc _) hb2).alloc _) _ 1 1 (fldCells [(nm, vl)]) rfl (Rd.two _ _ _ _ (by simp)) (fldCells_one _) (((hbr.alloc _).trans hb2).alloc _) (by omega) (by decide) ?_; intro A2 c2 w3 hown3 hb3 hle3))
    go_roundg (n - (k + 1))
    case measure => omega
    case rel => exact ⟨k + 1, m + 1, A2, c2, by omega, rfl, by go_num, by rw [Hhas.out, HY.out, Bool.or_false], rfl, by rw [Hst.out, fldCells_app]; exact hown3, hle3, hb3⟩
  ·obtain rfl : k = n := by omega
   have hl := Hl.out
   cases hd : hasTo fs name k
   ·have Hst := zi (setTo_end_no (fs := fs) (name := name) (value := value) (by rw [hl]; exact hd))
    have hone := fldCells_one [(lowS name, value)]
    clear hl
    go_wp2_with (first
     | (at_builtin; refine wpList_app _ rfl (.tmp 41) (.tmp 45) 33 rfl w1 51 _ 2 32 Tryz.underlying33 infoFld rfl (by decide) _ _ _ rfl (hown.alloc _) _ 1 1 (fldCells [(lowS name, value)]) rfl (Rd.two _ _ _ _ (by simp)) hone (hbr.alloc _) (by omega) (by decide) ?_; intro A2 c2 w3 hown3 hb3 hle3))
    go_ret
    rw [← fldCells_app, ← Hl.out, Hst.out] at hown3
    exact ⟨_, _, _, rfl, Rd.of_own hown3, hle3, hb1.trans hb3, own_base hown3 hb1.size⟩
   ·have Hst := zi (setTo_end_yes (fs := fs) (name := name) (value := value) (by rw [hl]; exact hd))
    clear hl
    go_wp2
    go_ret
    rw [← Hl.out, Hst.out] at hown
    exact ⟨_, _, _, rfl, Rd.of_own hown, hmc, hb1.trans hbr, own_base hown hb1.size⟩
end Go.Proofs.YtmckbcbdnckngaaGreatDoor

namespace Go.Proofs.YtmckbcbdnckngaaGreatDoor

structure Vr where
 names : List ByteArray
 key : ByteArray
 tag : ByteArray
 body : ByteArray
structure Ver where
 addr : ByteArray
 status : Int
 fs : List Fd
 body : ByteArray
 vars : List Vr
structure Rq where
 method : ByteArray
 target : ByteArray
 fs : List Fd
structure Akd where
 at_ : Int
 status : Int
 version : Int
 variant : Int
 addr : ByteArray
 lo : Int
 hi : Int
structure Org where
 vs : List (Int × Ver)
 br : List (Int × Int)
 lg : List Akd
def org0 : Org := ⟨[], [], []⟩
def cl55 (t : Int) : Int := max 0 (min t 1099511627776)
def bL (s : ByteArray) : Bs := s.data.toList
def ofL (l : Bs) : ByteArray := ⟨l.toArray⟩
def adPS (host target : ByteArray) : Option Adr := adP (bL host) (bL target)
def rdAd (s : ByteArray) : Option Adr :=
 if (47 : UInt8) ∈ bL s then
  match adP (cutL 47 (bL s)).1 (47 :: (cutL 47 (bL s)).2.1) with
  | some a => if adText a = bL s then some a else none
  | none => none
 else none
def x_et : ByteArray := ⟨#[101, 116, 97, 103]⟩
def x_lm : ByteArray := ⟨#[108, 97, 115, 116, 45, 109, 111, 100, 105, 102, 105, 101, 100]⟩
def x_dt : ByteArray := ⟨#[100, 97, 116, 101]⟩
def x_ag : ByteArray := ⟨#[97, 103, 101]⟩
def x_cl : ByteArray := ⟨#[99, 111, 110, 116, 101, 110, 116, 45, 108, 101, 110, 103, 116, 104]⟩
def x_cr : ByteArray := ⟨#[99, 111, 110, 116, 101, 110, 116, 45, 114, 97, 110, 103, 101]⟩
def x_te : ByteArray := ⟨#[116, 114, 97, 110, 115, 102, 101, 114, 45, 101, 110, 99, 111, 100, 105, 110, 103]⟩
def x_co : ByteArray := ⟨#[99, 111, 110, 110, 101, 99, 116, 105, 111, 110]⟩
def x_cc : ByteArray := ⟨#[99, 97, 99, 104, 101, 45, 99, 111, 110, 116, 114, 111, 108]⟩
def x_m1 : ByteArray := ⟨#[109, 97, 120, 45, 97, 103, 101, 61, 49]⟩
def x_ho : ByteArray := ⟨#[104, 111, 115, 116]⟩
def x_rg : ByteArray := ⟨#[114, 97, 110, 103, 101]⟩
def x_ex : ByteArray := ⟨#[101, 120, 112, 105, 114, 101, 115]⟩
def x_sk : ByteArray := ⟨#[115, 117, 114, 114, 111, 103, 97, 116, 101, 45, 107, 101, 121]⟩
def x_va : ByteArray := ⟨#[118, 97, 114, 121]⟩
def sixN : List ByteArray := [x_dt, x_ag, x_cl, x_cr, x_te, x_co]
def keptN : List ByteArray := [x_cc, x_et, x_ex, x_lm, x_sk, x_va]
def brief : List Fd := [(x_cc, x_m1)]
def bigVr (v : Ver) : Bool := decide (65536 < v.body.size) || decide (8 < v.vars.length) || v.vars.any fun x => decide (65536 < x.body.size)
def nameOk (n : ByteArray) : Bool := nameE n == 0 && nameS n == n
def okVr (v : Ver) : Bool :=
 (rdAd v.addr).isSome && decide (200 ≤ v.status) && decide (v.status ≤ 599) && chkS v.fs == 0 && sixN.all (fun n => (allS v.fs n).isEmpty) && v.vars.all fun x => x.names.all nameOk
def pubS (o : Org) (t : Int) (v : Ver) : Int × Nat × Org :=
 if bigVr v || decide (4096 ≤ o.vs.length) then (0, 5, o)
 else if !okVr v then (0, 2, o)
 else match o.vs.getLast? with
  | some p => if cl55 t < p.1 then (0, 7, o) else (o.vs.length + 1, 0, { o with vs := o.vs ++ [(cl55 t, v)] })
  | none => (o.vs.length + 1, 0, { o with vs := o.vs ++ [(cl55 t, v)] })
def findS : List (Int × Ver) → ByteArray → Int → Nat
 | [], _, _ => 0
 | p :: l, text, t => if findS l text t = 0 then (if p.2.addr == text && decide (p.1 ≤ t) then 1 else 0) else findS l text t + 1
def chsS (v : Ver) (fs : List Fd) : Nat → List Vr → List Fd × ByteArray × Nat
 | _, [] => (v.fs, v.body, 0)
 | k, x :: l => if vkyS x.names fs == x.key then ((if x.tag.size == 0 then remS v.fs x_et else setS x_et x.tag v.fs), x.body, k + 1) else chsS v fs (k + 1) l
def chS (v : Ver) (fs : List Fd) : List Fd × ByteArray × Nat := chsS v fs 0 v.vars
def stS (fs : List Fd) : St :=
 let t := (getO fs x_et).bind tagS
 let m := (getO fs x_lm).bind dateP
 { ex := true, ht := t.isSome, hm := m.isSome, tw := (t.getD (false, ⟨#[]⟩)).1, tt := (t.getD (false, ⟨#[]⟩)).2, md := m.getD 0 }
def kptS (fs : List Fd) : List Fd := fs.filter fun f => keptN.any (· == f.1)
structure Ans where
 status : Int
 version : Int
 variant : Int
 addr : ByteArray
 fs : List Fd
 body : ByteArray
 lo : Int
 hi : Int
 ranged : Bool
def ans0 : Ans := ⟨0, 0, 0, ⟨#[]⟩, [], ⟨#[]⟩, 0, 0, false⟩
def partS (a : Ans) (r : Rq) (s : St) : Ans :=
 match allS r.fs x_rg with
 | [v] =>
  if !(r.method.toList == [71, 69, 84]) || !urF r.method r.fs s then a
  else if (rgP v a.body.size).1 == 1 then { a with status := 416, fs := [(x_cr, ⟨#[98, 121, 116, 101, 115, 32, 42, 47]⟩ ++ decV a.body.size)], body := ⟨#[]⟩ }
  else match rgP v a.body.size with
   | (0, [q]) => match crP q a.body.size with
    | some text => { a with status := 206, fs := setS x_cr text a.fs, body := a.body.extract q.1.toNat q.2.toNat, lo := q.1, hi := q.2, ranged := true }
    | none => a
   | _ => a
 | _ => a
def verS (a : Ans) (v : Ver) (r : Rq) : Ans :=
 let c := chS v r.fs
 let a1 := { a with status := v.status, fs := c.1, body := c.2.1, variant := c.2.2 }
 if v.status != 200 then a1
 else
  let e := evF r.method r.fs (stS c.1)
  if e == 2 then { a1 with status := 304, fs := kptS c.1, body := ⟨#[]⟩ }
  else if e == 3 then { a1 with status := 412, fs := [], body := ⟨#[]⟩ }
  else partS a1 r (stS c.1)
def decS55 (o : Org) (t : Int) (r : Rq) : Ans :=
 if o.br.any (fun b => decide (b.1 ≤ t) && decide (t < b.2)) then { ans0 with status := 503 }
 else if !(r.method.toList == [71, 69, 84]) && !(r.method.toList == [72, 69, 65, 68]) then { ans0 with status := 405 }
 else match allS r.fs x_ho with
  | [h] => match adPS h r.target with
   | none => { ans0 with status := 400 }
   | some a =>
    let text := ofL (adText a)
    let n := findS o.vs text t
    match o.vs[n - 1]? with
    | some p => if n = 0 then { ans0 with status := 404, addr := text, fs := brief } else verS { ans0 with addr := text, version := n } p.2 r
    | none => { ans0 with status := 404, addr := text, fs := brief }
  | _ => { ans0 with status := 400 }
def answS (o : Org) (t : Int) (r : Rq) : Int × List Fd × ByteArray × Org :=
 let a := decS55 o (cl55 t) r
 let f := setS x_dt (fmtS (cl55 t / 1000)) a.fs
 let empty := a.status == 204 || a.status == 304
 let f2 := if empty then f else setS x_cl (decV a.body.size) f
 let body := if empty || r.method.toList == [72, 69, 65, 68] then ⟨#[]⟩ else a.body
 let k : Akd := ⟨cl55 t, a.status, a.version, a.variant, a.addr, if a.status == 206 then a.lo else 0, if a.status == 206 then a.hi else body.size⟩
 (a.status, f2, body, { o with lg := o.lg ++ [k] })
end Go.Proofs.YtmckbcbdnckngaaGreatDoor

namespace Go.Proofs.YtmckbcbdnckngaaGreatDoor
open Go.RowKit

structure Sl where
 A : Option Addr
 n : Nat
 c : Nat
def Sl.v (s : Sl) : Value := .slice s.A s.n s.c
def sl0 : Sl := ⟨none, 0, 0⟩
def bytC (b : ByteArray) : List Value := b.data.toList.map fun c => .int .u8 c.toNat
theorem bytC_len (b : ByteArray) : (bytC b).length = b.size := by unfold bytC; rw [List.length_map, Array.length_toList]; rfl
theorem bytC_one (b : ByteArray) : ∀ u ∈ bytC b, u.oneCell' = true := by
 intro u hu
 obtain ⟨c, _, rfl⟩ := List.mem_map.1 hu
 rfl
structure RS (Q : Nat → Prop) (w : World) (k : Nat) (s : Sl) (xs : List Value) : Prop where
 rd : Rd w k s.A s.n xs
 out : 0 < xs.length → ∀ a, s.A = some a → ¬ Q a.block
 cap : s.n ≤ s.c
section
variable {Q Q' R R' : Nat → Prop} {w w' : World} {k : Nat} {s : Sl} {xs : List Value}
theorem RS.sub (h : RS Q w k s xs) (hq : ∀ i, Q' i → Q i) : RS Q' w k s xs := ⟨h.rd, fun h1 a ha hb => h.out h1 a ha (hq _ hb), h.cap⟩
theorem RS.lt (h : RS Q w k s xs) (h1 : 0 < xs.length) : ∀ a, s.A = some a → a.block < w.heap.size := by
 intro a ha
 obtain ⟨b, o, e, hc⟩ := h.rd.2 h1
 rw [ha] at e; injection e with e; subst e
 exact World.block_lt_of_cell? w _ (hc 0 _ (List.getElem?_eq_getElem h1))
theorem RS.ext (h : RS Q w k s xs) (hb : Ext w w') : RS Q w' k s xs := ⟨h.rd.ext hb, h.out, h.cap⟩
theorem RS.keep (h : RS Q w k s xs) (hk : Keeps R w w') (hR : ∀ i, R i → Q i ∨ w.heap.size ≤ i) : RS Q w' k s xs := by
 rcases Nat.eq_zero_or_pos xs.length with h0 | h0
 ·refine ⟨⟨h.rd.1, fun h1 => absurd h1 (by omega)⟩, fun h1 => absurd h1 (by omega), h.cap⟩
 ·exact ⟨h.rd.keepS hk (fun a ha hr => (hR _ hr).elim (h.out h0 a ha) (fun h2 => by have := h.lt h0 a ha; omega)), h.out, h.cap⟩
theorem RS.more (h : RS Q w k s xs) (hq : ∀ i, Q' i → Q i ∨ w.heap.size ≤ i) : RS Q' w k s xs :=
 ⟨h.rd, fun h1 a ha hb => (hq _ hb).elim (h.out h1 a ha) (fun h2 => by have := h.lt h1 a ha; omega), h.cap⟩
theorem RS.nil (Q : Nat → Prop) (w : World) (k : Nat) : RS Q w k sl0 [] := ⟨Rd.none_ _ _ _, fun h => absurd h (by simp), Nat.le_refl _⟩
theorem RS.len1 (h : RS Q w 1 s xs) : xs.length = s.n := by rw [h.rd.1, Nat.mul_one]
theorem RS.own {base n : Nat} {e : TypeId} {v : Value} (h : w.ownsRow base e k v n xs) : ∃ s : Sl, v = s.v ∧ s.n = n ∧ RS (fun i => i < base) w k s xs := by
 obtain ⟨A, c, rfl, hle⟩ := own_shape h
 refine ⟨⟨A, n, c⟩, rfl, rfl, Rd.of_own h, fun h1 a ha hb => ?_, hle⟩
 have := (h.lt a.block (by simp only at ha; subst ha; rfl)).1
 omega
end
structure VrM where
 nm : Sl
 bd : Sl
structure MV where
 addr : ByteArray
 status : Int
 f : List Fd
 body : ByteArray
 vars : List (Vr × VrM)
 fs : Sl
 bd : Sl
 vr : Sl
def MV.ver (m : MV) : Ver := ⟨m.addr, m.status, m.f, m.body, m.vars.map (·.1)⟩
def vrC (x : Vr × VrM) : List Value := [x.2.nm.v, .string x.1.key, .string x.1.tag, x.2.bd.v]
def vrsC (l : List (Vr × VrM)) : List Value := l.flatMap vrC
def MV.cells (m : MV) : List Value := [.string m.addr, .int .i64 m.status, m.fs.v, m.bd.v, m.vr.v]
structure VrAt (Q : Nat → Prop) (w : World) (x : Vr × VrM) : Prop where
 nm : RS Q w 1 x.2.nm (strCells x.1.names)
 bd : RS Q w 1 x.2.bd (bytC x.1.body)
structure MV.At (Q : Nat → Prop) (w : World) (m : MV) : Prop where
 fs : RS Q w 2 m.fs (fldCells m.f)
 bd : RS Q w 1 m.bd (bytC m.body)
 vr : RS Q w 4 m.vr (vrsC m.vars)
 each : ∀ x ∈ m.vars, VrAt Q w x
section
variable {Q Q' R R' : Nat → Prop} {w w' : World} {m : MV}
theorem MV.At.ext (h : m.At Q w) (hb : Ext w w') : m.At Q w' := ⟨h.fs.ext hb, h.bd.ext hb, h.vr.ext hb, fun x hx => ⟨(h.each x hx).nm.ext hb, (h.each x hx).bd.ext hb⟩⟩
theorem MV.At.keep (h : m.At Q w) (hk : Keeps R w w') (hR : ∀ i, R i → Q i ∨ w.heap.size ≤ i) : m.At Q w' :=
 ⟨h.fs.keep hk hR, h.bd.keep hk hR, h.vr.keep hk hR, fun x hx => ⟨(h.each x hx).nm.keep hk hR, (h.each x hx).bd.keep hk hR⟩⟩
theorem MV.At.more (h : m.At Q w) (hq : ∀ i, Q' i → Q i ∨ w.heap.size ≤ i) : m.At Q' w :=
 ⟨h.fs.more hq, h.bd.more hq, h.vr.more hq, fun x hx => ⟨(h.each x hx).nm.more hq, (h.each x hx).bd.more hq⟩⟩
theorem vrsC_len (l : List (Vr × VrM)) : (vrsC l).length = l.length * 4 := by
 induction l with
 | nil => rfl
 | cons x l ih => simp only [vrsC, List.flatMap_cons, List.length_append, List.length_cons, vrC, List.length_nil] at *; omega
theorem MV.At.vlen (h : m.At Q w) : m.vars.length = m.vr.n := by have := h.vr.rd.1; rw [vrsC_len] at this; omega
theorem flat_at {α : Type} (f : α → List Value) (k : Nat) (hf : ∀ x, (f x).length = k) : ∀ (l : List α) (i j : Nat) (hi : i < l.length) (_ : j < k), (l.flatMap f)[i * k + j]? = (f l[i])[j]?
 | x :: l, 0, j, _, hj => by
  rw [List.flatMap_cons, Nat.zero_mul, Nat.zero_add, List.getElem?_append_left (by rw [hf]; exact hj)]; rfl
 | x :: l, i + 1, j, hi, hj => by
  rw [List.flatMap_cons, Nat.succ_mul, show i * k + k + j = k + (i * k + j) by omega, List.getElem?_append_right (by rw [hf]; omega), hf, show k + (i * k + j) - k = i * k + j by omega]
  exact flat_at f k hf l i j (by simpa using hi) hj
theorem MV.At.var (h : m.At Q w) {i : Nat} (hi : i < m.vars.length) : ∃ b o, m.vr.A = some ⟨b, o, none⟩ ∧ w.cell? ⟨b, o + i * 4, none⟩ = some m.vars[i].2.nm.v ∧ w.cell? ⟨b, o + i * 4 + 1, none⟩ = some (.string m.vars[i].1.key) ∧ w.cell? ⟨b, o + i * 4 + 2, none⟩ = some (.string m.vars[i].1.tag) ∧ w.cell? ⟨b, o + i * 4 + 3, none⟩ = some m.vars[i].2.bd.v := by
 obtain ⟨b, o, e, hc⟩ := h.vr.rd.2 (by rw [vrsC_len]; omega)
 refine ⟨b, o, e, ?_, ?_, ?_, ?_⟩
 ·exact hc (i * 4 + 0) _ (by unfold vrsC; rw [flat_at vrC 4 (fun _ => rfl) _ _ _ hi (by decide)]; rfl)
 ·rw [Nat.add_assoc]; exact hc (i * 4 + 1) _ (by unfold vrsC; rw [flat_at vrC 4 (fun _ => rfl) _ _ _ hi (by decide)]; rfl)
 ·rw [Nat.add_assoc]; exact hc (i * 4 + 2) _ (by unfold vrsC; rw [flat_at vrC 4 (fun _ => rfl) _ _ _ hi (by decide)]; rfl)
 ·rw [Nat.add_assoc]; exact hc (i * 4 + 3) _ (by unfold vrsC; rw [flat_at vrC 4 (fun _ => rfl) _ _ _ hi (by decide)]; rfl)
end
structure OM where
 vs : Sl
 br : Sl
 lg : Sl
 mv : List (Int × MV)
def pubC (x : Int × MV) : List Value := .int .i64 x.1 :: x.2.cells
def spnC (x : Int × Int) : List Value := [.int .i64 x.1, .int .i64 x.2]
def akdC (k : Akd) : List Value := [.int .i64 k.at_, .int .i64 k.status, .int .i64 k.version, .int .i64 k.variant, .string k.addr, .int .i64 k.lo, .int .i64 k.hi]
structure VerB (v : Ver) : Prop where
 addr : v.addr.size ≤ 1048576
 status : 0 ≤ v.status ∧ v.status ≤ 1000
 fs : v.fs.length ≤ 131072 ∧ sumF v.fs ≤ 131072
 body : v.body.size ≤ 1048576
 vars : v.vars.length ≤ 8
 each : ∀ x ∈ v.vars, x.names.length ≤ 1048576 ∧ (∀ n ∈ x.names, n.size ≤ 1048576) ∧ x.tag.size ≤ 131072 ∧ x.body.size ≤ 1048576
structure OrgP (w : World) (p : Nat) (R Q : Nat → Prop) (o : Org) (M : OM) : Prop where
 blk : Blk w p 100 #[M.vs.v, M.br.v, M.lg.v]
 vs : w.ownsRow 0 103 6 M.vs.v o.vs.length (M.mv.flatMap pubC)
 br : w.ownsRow 0 140 2 M.br.v o.br.length (o.br.flatMap spnC)
 lg : w.ownsRow 0 109 7 M.lg.v o.lg.length (o.lg.flatMap akdC)
 ver : M.mv.map (fun x => (x.1, x.2.ver)) = o.vs
 mem : ∀ x ∈ M.mv, x.2.At Q w
 rp : R p
 rv : ∀ b, M.vs.v.ownBlock = some b → R b
 rb : ∀ b, M.br.v.ownBlock = some b → R b
 rl : ∀ b, M.lg.v.ownBlock = some b → R b
 low : ∀ b, R b → b < w.heap.size
 rq : ∀ b, R b → Q b
 few : o.vs.length ≤ 4096
 bd : ∀ x ∈ o.vs, VerB x.2 ∧ 0 ≤ x.1 ∧ x.1 ≤ 1099511627776
section
variable {Q Q' R R' : Nat → Prop} {w w' : World} {p : Nat} {o : Org} {M : OM}
theorem OrgP.ext (h : OrgP w p R Q o M) (hb : Ext w w') : OrgP w' p R Q o M :=
 ⟨h.blk.ext hb, own_ext h.vs hb, own_ext h.br hb, own_ext h.lg hb, h.ver, fun x hx => (h.mem x hx).ext hb, h.rp, h.rv, h.rb, h.rl, fun b hr => Nat.lt_of_lt_of_le (h.low b hr) hb.size, h.rq, h.few, h.bd⟩
theorem OrgP.more (h : OrgP w p R Q o M) (hq : ∀ i, Q' i → Q i ∨ w.heap.size ≤ i) (hr : ∀ b, R b → Q' b) : OrgP w p R Q' o M :=
 { h with mem := fun x hx => (h.mem x hx).more hq, rq := hr }
theorem OrgP.new (w : World) : OrgP (w.alloc (.cells #[.slice none 0 0, .slice none 0 0, .slice none 0 0] 100)) w.heap.size (fun i => i = w.heap.size) (fun _ => True) org0 ⟨sl0, sl0, sl0, []⟩ where
 blk := Blk.new w _ _
 vs := World.ownsRow_nil _ _ _ _
 br := World.ownsRow_nil _ _ _ _
 lg := World.ownsRow_nil _ _ _ _
 ver := rfl
 mem := fun x hx => by cases hx
 rp := rfl
 rv := fun b hb => by cases hb
 rb := fun b hb => by cases hb
 rl := fun b hb => by cases hb
 low := fun b hb => (show b = w.heap.size from hb) ▸ (Blk.new w _ _).lt
 rq := fun _ _ => trivial
 few := Nat.zero_le _
 bd := fun x hx => by cases hx
theorem own_apart {e e' : TypeId} {k k' n n' : Nat} {v v' : Value} {xs xs' : List Value} (h : w.ownsRow 0 e k v n xs) (h' : w.ownsRow 0 e' k' v' n' xs') (he : e ≠ e') : v.ownBlock = none ∨ v.ownBlock ≠ v'.ownBlock := by
 cases hv : v.ownBlock with
 | none => exact .inl rfl
 | some g =>
  refine .inr fun e2 => ?_
  obtain ⟨c, fz, h1⟩ := Lib.ownsRow_kind h g hv
  obtain ⟨c', fz', h2⟩ := Lib.ownsRow_kind h' g e2.symm
  rw [h1] at h2
  injection h2 with h2
  injection h2 with _ h2
  exact he h2
theorem own_blk {e t : TypeId} {k n g : Nat} {v : Value} {xs : List Value} {cs : Array Value} (h : w.ownsRow 0 e k v n xs) (hb : Blk w g t cs) (he : t ≠ e) : v.ownBlock ≠ some g := by
 intro hv
 obtain ⟨c, fz, h1⟩ := Lib.ownsRow_kind h g hv
 unfold Blk at hb
 rw [h1] at hb
 injection hb with hb
 injection hb with _ hb
 exact he hb.symm
def Rplus (R : Nat → Prop) (v : Value) : Nat → Prop := fun b => R b ∨ v.ownBlock = some b
theorem grown_keeps {v v2 : Value} (g : w.grownBy w' v.ownBlock) (hR : ∀ b, v.ownBlock = some b → R b) : Keeps R w w' := Keeps.grown (Keeps.refl R w) g (fun b hb => .inl (hR b hb))
theorem OrgP.addV (h : OrgP w p R Q o M) {A : Option Addr} {c : Nat} {x : Int × MV} (hown : w'.ownsRow 0 103 6 (.slice A (o.vs.length + 1) c) (o.vs.length + 1) (M.mv.flatMap pubC ++ pubC x))
  (hg : w.grownBy w' M.vs.v.ownBlock) (hn : (Value.slice A (o.vs.length + 1) c).ownBlock = M.vs.v.ownBlock ∨ (Value.slice A (o.vs.length + 1) c).ownBlock = some w.heap.size)
  (hx : x.2.At Q w) (hfew : o.vs.length + 1 ≤ 4096) (hbd : VerB x.2.ver ∧ 0 ≤ x.1 ∧ x.1 ≤ 1099511627776) :
  OrgP (w'.setCell ⟨p, 0, none⟩ (.slice A (o.vs.length + 1) c)) p (Rplus R (.slice A (o.vs.length + 1) c)) (fun i => (Q i ∧ i < w.heap.size) ∨ i = w.heap.size) { o with vs := o.vs ++ [(x.1, x.2.ver)] } { M with vs := ⟨A, o.vs.length + 1, c⟩, mv := M.mv ++ [x] }
  ∧ Keeps R w (w'.setCell ⟨p, 0, none⟩ (.slice A (o.vs.length + 1) c)) := by
 have hK : Keeps R w (w'.setCell ⟨p, 0, none⟩ (.slice A (o.vs.length + 1) c)) := (grown_keeps (v2 := .nilIface) hg h.rv).set_ h.rp 0 _
 have hpb : M.vs.v.ownBlock ≠ some p := own_blk h.vs h.blk (by decide)
 have hB1 : Blk w' p 100 #[M.vs.v, M.br.v, M.lg.v] := h.blk.grown hg (Ne.symm hpb)
 have hpn : (Value.slice A (o.vs.length + 1) c).ownBlock ≠ some p := by
  rcases hn with e | e <;> rw [e]
  ·exact hpb
  ·intro e2; injection e2 with e2; have := h.low p h.rp; omega
 have hlt : ∀ b, (Value.slice A (o.vs.length + 1) c).ownBlock = some b → b < w'.heap.size := fun b hb => (hown.lt b hb).2
 refine ⟨⟨hB1.set_ 0 _, ?_, ?_, ?_, ?_, ?_, .inl h.rp, fun b hb => .inr hb, fun b hb => .inl (h.rb b hb), fun b hb => .inl (h.rl b hb), ?_, ?_, ?_, ?_⟩, hK⟩
 ·have := ownsRow_setCell_other hown (a := ⟨p, 0, none⟩) hpn (.slice A (o.vs.length + 1) c)
  simpa [List.flatMap_append, Sl.v] using this
 ·exact ownsRow_setCell_other (h.br.kept hg (own_apart h.br h.vs (by decide))) (a := ⟨p, 0, none⟩) (own_blk (h.br.kept hg (own_apart h.br h.vs (by decide))) hB1 (by decide)) _
 ·exact ownsRow_setCell_other (h.lg.kept hg (own_apart h.lg h.vs (by decide))) (a := ⟨p, 0, none⟩) (own_blk (h.lg.kept hg (own_apart h.lg h.vs (by decide))) hB1 (by decide)) _
 ·simp [h.ver]
 ·intro y hy
  have hy2 : y.2.At Q w ∧ y.2.At (fun i => i = w.heap.size) w := by
   rcases List.mem_append.1 hy with h1 | h1
   ·exact ⟨h.mem y h1, (h.mem y h1).more (fun i hi => .inr (by omega))⟩
   ·rw [List.mem_singleton] at h1; subst h1; exact ⟨hx, hx.more (fun i hi => .inr (by omega))⟩
  have hy3 : y.2.At (fun i => (Q i ∧ i < w.heap.size) ∨ i = w.heap.size) w := by
   have aux : ∀ {k s xs}, RS Q w k s xs → RS (fun i => (Q i ∧ i < w.heap.size) ∨ i = w.heap.size) w k s xs := fun h1 => ⟨h1.rd, fun h0 a ha hb => by
    rcases hb with hb | hb
    ·exact h1.out h0 a ha hb.1
    ·have := h1.lt h0 a ha; omega, h1.cap⟩
   exact ⟨aux hy2.1.fs, aux hy2.1.bd, aux hy2.1.vr, fun z hz => ⟨aux (hy2.1.each z hz).nm, aux (hy2.1.each z hz).bd⟩⟩
  exact hy3.keep hK (fun i hi => .inl (.inl ⟨h.rq i hi, h.low i hi⟩))
 ·intro b hb
  rcases hb with hb | hb
  ·exact Nat.lt_of_lt_of_le (h.low b hb) hK.size
  ·have := hlt b hb; simpa [World.setCell] using this
 ·intro b hb
  rcases hb with hb | hb
  ·exact .inl ⟨h.rq b hb, h.low b hb⟩
  ·rcases hn with e | e
   ·rw [e] at hb; exact .inl ⟨h.rq b (h.rv b hb), h.low b (h.rv b hb)⟩
   ·rw [e] at hb; injection hb with hb; exact .inr hb.symm
 ·simpa using hfew
 ·intro y hy
  rcases List.mem_append.1 hy with h1 | h1
  ·exact h.bd y h1
  ·rw [List.mem_singleton] at h1; subst h1; exact hbd
theorem OrgP.addB (h : OrgP w p R Q o M) {A : Option Addr} {c : Nat} {x : Int × Int} (hown : w'.ownsRow 0 140 2 (.slice A (o.br.length + 1) c) (o.br.length + 1) (o.br.flatMap spnC ++ spnC x))
  (hg : w.grownBy w' M.br.v.ownBlock) (hn : (Value.slice A (o.br.length + 1) c).ownBlock = M.br.v.ownBlock ∨ (Value.slice A (o.br.length + 1) c).ownBlock = some w.heap.size) :
  OrgP (w'.setCell ⟨p, 1, none⟩ (.slice A (o.br.length + 1) c)) p (Rplus R (.slice A (o.br.length + 1) c)) (fun i => Q i ∨ i = w.heap.size) { o with br := o.br ++ [x] } { M with br := ⟨A, o.br.length + 1, c⟩ }
  ∧ Keeps R w (w'.setCell ⟨p, 1, none⟩ (.slice A (o.br.length + 1) c)) := by
 have hK : Keeps R w (w'.setCell ⟨p, 1, none⟩ (.slice A (o.br.length + 1) c)) := (grown_keeps (v2 := .nilIface) hg h.rb).set_ h.rp 1 _
 have hpb : M.br.v.ownBlock ≠ some p := own_blk h.br h.blk (by decide)
 have hB1 : Blk w' p 100 #[M.vs.v, M.br.v, M.lg.v] := h.blk.grown hg (Ne.symm hpb)
 have hpn : (Value.slice A (o.br.length + 1) c).ownBlock ≠ some p := by
  rcases hn with e | e <;> rw [e]
  ·exact hpb
  ·intro e2; injection e2 with e2; have := h.low p h.rp; omega
 refine ⟨⟨hB1.set_ 1 _, ?_, ?_, ?_, h.ver, ?_, .inl h.rp, fun b hb => .inl (h.rv b hb), fun b hb => .inr hb, fun b hb => .inl (h.rl b hb), ?_, ?_, h.few, h.bd⟩, hK⟩
 ·exact ownsRow_setCell_other (h.vs.kept hg (own_apart h.vs h.br (by decide))) (a := ⟨p, 1, none⟩) (own_blk (h.vs.kept hg (own_apart h.vs h.br (by decide))) hB1 (by decide)) _
 ·have := ownsRow_setCell_other hown (a := ⟨p, 1, none⟩) hpn (.slice A (o.br.length + 1) c)
  simpa [List.flatMap_append, Sl.v] using this
 ·exact ownsRow_setCell_other (h.lg.kept hg (own_apart h.lg h.br (by decide))) (a := ⟨p, 1, none⟩) (own_blk (h.lg.kept hg (own_apart h.lg h.br (by decide))) hB1 (by decide)) _
 ·intro y hy
  exact ((h.mem y hy).more (Q' := fun i => Q i ∨ i = w.heap.size) (fun i hi => hi.imp id (fun e => by omega))).keep hK (fun i hi => .inl (.inl (h.rq i hi)))
 ·intro b hb
  rcases hb with hb | hb
  ·exact Nat.lt_of_lt_of_le (h.low b hb) hK.size
  ·have := (hown.lt b hb).2; simpa [World.setCell] using this
 ·intro b hb
  rcases hb with hb | hb
  ·exact .inl (h.rq b hb)
  ·rcases hn with e | e
   ·rw [e] at hb; exact .inl (h.rq b (h.rb b hb))
   ·rw [e] at hb; injection hb with hb; exact .inr hb.symm
theorem OrgP.addL (h : OrgP w p R Q o M) {A : Option Addr} {c : Nat} {x : Akd} (hown : w'.ownsRow 0 109 7 (.slice A (o.lg.length + 1) c) (o.lg.length + 1) (o.lg.flatMap akdC ++ akdC x))
  (hg : w.grownBy w' M.lg.v.ownBlock) (hn : (Value.slice A (o.lg.length + 1) c).ownBlock = M.lg.v.ownBlock ∨ (Value.slice A (o.lg.length + 1) c).ownBlock = some w.heap.size) :
  OrgP (w'.setCell ⟨p, 2, none⟩ (.slice A (o.lg.length + 1) c)) p (Rplus R (.slice A (o.lg.length + 1) c)) (fun i => Q i ∨ i = w.heap.size) { o with lg := o.lg ++ [x] } { M with lg := ⟨A, o.lg.length + 1, c⟩ }
  ∧ Keeps R w (w'.setCell ⟨p, 2, none⟩ (.slice A (o.lg.length + 1) c)) := by
 have hK : Keeps R w (w'.setCell ⟨p, 2, none⟩ (.slice A (o.lg.length + 1) c)) := (grown_keeps (v2 := .nilIface) hg h.rl).set_ h.rp 2 _
 have hpb : M.lg.v.ownBlock ≠ some p := own_blk h.lg h.blk (by decide)
 have hB1 : Blk w' p 100 #[M.vs.v, M.br.v, M.lg.v] := h.blk.grown hg (Ne.symm hpb)
 have hpn : (Value.slice A (o.lg.length + 1) c).ownBlock ≠ some p := by
  rcases hn with e | e <;> rw [e]
  ·exact hpb
  ·intro e2; injection e2 with e2; have := h.low p h.rp; omega
 refine ⟨⟨hB1.set_ 2 _, ?_, ?_, ?_, h.ver, ?_, .inl h.rp, fun b hb => .inl (h.rv b hb), fun b hb => .inl (h.rb b hb), fun b hb => .inr hb, ?_, ?_, h.few, h.bd⟩, hK⟩
 ·exact ownsRow_setCell_other (h.vs.kept hg (own_apart h.vs h.lg (by decide))) (a := ⟨p, 2, none⟩) (own_blk (h.vs.kept hg (own_apart h.vs h.lg (by decide))) hB1 (by decide)) _
 ·exact ownsRow_setCell_other (h.br.kept hg (own_apart h.br h.lg (by decide))) (a := ⟨p, 2, none⟩) (own_blk (h.br.kept hg (own_apart h.br h.lg (by decide))) hB1 (by decide)) _
 ·have := ownsRow_setCell_other hown (a := ⟨p, 2, none⟩) hpn (.slice A (o.lg.length + 1) c)
  simpa [List.flatMap_append, Sl.v] using this
 ·intro y hy
  exact ((h.mem y hy).more (Q' := fun i => Q i ∨ i = w.heap.size) (fun i hi => hi.imp id (fun e => by omega))).keep hK (fun i hi => .inl (.inl (h.rq i hi)))
 ·intro b hb
  rcases hb with hb | hb
  ·exact Nat.lt_of_lt_of_le (h.low b hb) hK.size
  ·have := (hown.lt b hb).2; simpa [World.setCell] using this
 ·intro b hb
  rcases hb with hb | hb
  ·exact .inl (h.rq b hb)
  ·rcases hn with e | e
   ·rw [e] at hb; exact .inl (h.rq b (h.rl b hb))
   ·rw [e] at hb; injection hb with hb; exact .inr hb.symm
end
end Go.Proofs.YtmckbcbdnckngaaGreatDoor

namespace Go.Proofs.YtmckbcbdnckngaaGreatDoor
open Go.RowKit

theorem pubC_one (l : List (Int × MV)) : ∀ u ∈ l.flatMap pubC, u.oneCell' = true := by
 intro u hu
 obtain ⟨x, _, hx⟩ := List.mem_flatMap.1 hu
 simp only [pubC, MV.cells, List.mem_cons, List.not_mem_nil, or_false] at hx
 rcases hx with rfl | rfl | rfl | rfl | rfl | rfl <;> rfl
theorem vrsC_one (l : List (Vr × VrM)) : ∀ u ∈ vrsC l, u.oneCell' = true := by
 intro u hu
 obtain ⟨x, _, hx⟩ := List.mem_flatMap.1 hu
 simp only [vrC, List.mem_cons, List.not_mem_nil, or_false] at hx
 rcases hx with rfl | rfl | rfl | rfl <;> rfl
theorem akdC_one (l : List Akd) : ∀ u ∈ l.flatMap akdC, u.oneCell' = true := by
 intro u hu
 obtain ⟨x, _, hx⟩ := List.mem_flatMap.1 hu
 simp only [akdC, List.mem_cons, List.not_mem_nil, or_false] at hx
 rcases hx with rfl | rfl | rfl | rfl | rfl | rfl | rfl <;> rfl

theorem info_cln_F : (Tryz.prog.info? 51).map (fun i => (i.zero, i.size, i.bytes)) = some (some (.agg #[.string ⟨#[]⟩, .string ⟨#[]⟩]), 2, 32) := by kernel_rfl
theorem cln_F (s : Sl) (xs : List Value) (w : World) (h : Rd w 2 s.A s.n xs) (h1 : ∀ u ∈ xs, u.oneCell' = true) (hb : s.n * 32 ≤ 140737488355328) :
  Calls Tryz.prog 74 #[s.v] w fun e w' => ∃ s' : Sl, e = .returned s'.v ∧ s'.n = s.n ∧ RS (fun i => i < w.heap.size) w' 2 s' xs ∧ Ext w w' ∧ w'.ownsRow w.heap.size 51 2 s'.v s.n xs := by
 obtain ⟨A, n, c⟩ := s
 simp only [Sl.v] at *
 have q22 : ∀ (w : World) (a : Option Addr) (n c n' c' : Nat), (binOp .eql 33 (.slice a n c) (.slice none n' c')).run Tryz.prog w = .ok (.bool a.isNone) w := fun w a n c n' c' => Lib.run_eql_slice_nil w _ _ a n c n' c' Tryz.underlying33
 cases A with
 | none =>
  have hx : xs = [] := by
   rcases Nat.eq_zero_or_pos xs.length with h0 | h0
   ·exact List.eq_nil_of_length_eq_zero h0
   ·obtain ⟨b, o, e, _⟩ := h.2 h0; cases e
  subst hx
  have hn : n = 0 := by have := h.1; simp at this; omega
  subst hn
  go_enter Tryz.func74, Tryz.ntmps74
  go_wp2_with fail
  go_ret
  exact ⟨sl0, rfl, rfl, RS.nil _ _ _, Ext.refl _, World.ownsRow_nil _ _ _ _⟩
 | some a =>
  have Hh := zi h
  clear h
  go_enter Tryz.func74, Tryz.ntmps74
  go_wp2_with (at_builtin; refine wpList_app _ rfl _ _ 33 rfl w 51 _ 2 32 Tryz.underlying33 info_cln_F (by simp [Value.cells]) (by decide) _ _ _ rfl (World.ownsRow_made w #[] 0 (Nat.le_refl _) (Nat.zero_le _) (by simp)) (some a) n c xs rfl (Hh.out.ext ((Ext.refl w).alloc _)) h1 ((Ext.refl w).alloc _) (by rw [Nat.zero_add]; exact hb) (by decide) ?_; intro A2 c2 w2 hown hb2 hle)
  go_ret
  have ho : w2.ownsRow w.heap.size 51 2 (.slice A2 n c2) n xs := by simpa using hown
  refine ⟨⟨A2, n, c2⟩, by simp [Sl.v], rfl, ⟨Rd.of_own ho, fun h1 a ha hb => ?_, by simpa using hle⟩, hb2, ho⟩
  have := (ho.lt a.block (by simp only at ha; subst ha; rfl)).1
  omega

theorem info_cln_B : (Tryz.prog.info? 5).map (fun i => (i.zero, i.size, i.bytes)) = some (some (.int .u8 0), 1, 1) := by kernel_rfl
theorem cln_B (s : Sl) (xs : List Value) (w : World) (h : Rd w 1 s.A s.n xs) (h1 : ∀ u ∈ xs, u.oneCell' = true) (hb : s.n * 1 ≤ 140737488355328) :
  Calls Tryz.prog 49 #[s.v] w fun e w' => ∃ s' : Sl, e = .returned s'.v ∧ s'.n = s.n ∧ RS (fun i => i < w.heap.size) w' 1 s' xs ∧ Ext w w' ∧ w'.ownsRow w.heap.size 5 1 s'.v s.n xs := by
 obtain ⟨A, n, c⟩ := s
 simp only [Sl.v] at *
 have q22 : ∀ (w : World) (a : Option Addr) (n c n' c' : Nat), (binOp .eql 23 (.slice a n c) (.slice none n' c')).run Tryz.prog w = .ok (.bool a.isNone) w := fun w a n c n' c' => Lib.run_eql_slice_nil w _ _ a n c n' c' Tryz.underlying23
 cases A with
 | none =>
  have hx : xs = [] := by
   rcases Nat.eq_zero_or_pos xs.length with h0 | h0
   ·exact List.eq_nil_of_length_eq_zero h0
   ·obtain ⟨b, o, e, _⟩ := h.2 h0; cases e
  subst hx
  have hn : n = 0 := by have := h.1; simp at this; omega
  subst hn
  go_enter Tryz.func49, Tryz.ntmps49
  go_wp2_with fail
  go_ret
  exact ⟨sl0, rfl, rfl, RS.nil _ _ _, Ext.refl _, World.ownsRow_nil _ _ _ _⟩
 | some a =>
  have Hh := zi h
  clear h
  go_enter Tryz.func49, Tryz.ntmps49
  go_wp2_with (at_builtin; refine wpList_app _ rfl _ _ 23 rfl w 5 _ 1 1 Tryz.underlying23 info_cln_B (by simp [Value.cells]) (by decide) _ _ _ rfl (World.ownsRow_made w #[] 0 (Nat.le_refl _) (Nat.zero_le _) (by simp)) (some a) n c xs rfl (Hh.out.ext ((Ext.refl w).alloc _)) h1 ((Ext.refl w).alloc _) (by rw [Nat.zero_add]; exact hb) (by decide) ?_; intro A2 c2 w2 hown hb2 hle)
  go_ret
  have ho : w2.ownsRow w.heap.size 5 1 (.slice A2 n c2) n xs := by simpa using hown
  refine ⟨⟨A2, n, c2⟩, by simp [Sl.v], rfl, ⟨Rd.of_own ho, fun h1 a ha hb => ?_, by simpa using hle⟩, hb2, ho⟩
  have := (ho.lt a.block (by simp only at ha; subst ha; rfl)).1
  omega

theorem info_cln_V : (Tryz.prog.info? 58).map (fun i => (i.zero, i.size, i.bytes)) = some (some (.agg #[.slice none 0 0, .string ⟨#[]⟩, .string ⟨#[]⟩, .slice none 0 0]), 4, 80) := by kernel_rfl
theorem cln_V (s : Sl) (xs : List Value) (w : World) (h : Rd w 4 s.A s.n xs) (h1 : ∀ u ∈ xs, u.oneCell' = true) (hb : s.n * 80 ≤ 140737488355328) :
  Calls Tryz.prog 75 #[s.v] w fun e w' => ∃ s' : Sl, e = .returned s'.v ∧ s'.n = s.n ∧ RS (fun i => i < w.heap.size) w' 4 s' xs ∧ Ext w w' ∧ w'.ownsRow w.heap.size 58 4 s'.v s.n xs := by
 obtain ⟨A, n, c⟩ := s
 simp only [Sl.v] at *
 have q22 : ∀ (w : World) (a : Option Addr) (n c n' c' : Nat), (binOp .eql 34 (.slice a n c) (.slice none n' c')).run Tryz.prog w = .ok (.bool a.isNone) w := fun w a n c n' c' => Lib.run_eql_slice_nil w _ _ a n c n' c' Tryz.underlying34
 cases A with
 | none =>
  have hx : xs = [] := by
   rcases Nat.eq_zero_or_pos xs.length with h0 | h0
   ·exact List.eq_nil_of_length_eq_zero h0
   ·obtain ⟨b, o, e, _⟩ := h.2 h0; cases e
  subst hx
  have hn : n = 0 := by have := h.1; simp at this; omega
  subst hn
  go_enter Tryz.func75, Tryz.ntmps75
  go_wp2_with fail
  go_ret
  exact ⟨sl0, rfl, rfl, RS.nil _ _ _, Ext.refl _, World.ownsRow_nil _ _ _ _⟩
 | some a =>
  have Hh := zi h
  clear h
  go_enter Tryz.func75, Tryz.ntmps75
  go_wp2_with (at_builtin; refine wpList_app _ rfl _ _ 34 rfl w 58 _ 4 80 Tryz.underlying34 info_cln_V (by simp [Value.cells]) (by decide) _ _ _ rfl (World.ownsRow_made w #[] 0 (Nat.le_refl _) (Nat.zero_le _) (by simp)) (some a) n c xs rfl (Hh.out.ext ((Ext.refl w).alloc _)) h1 ((Ext.refl w).alloc _) (by rw [Nat.zero_add]; exact hb) (by decide) ?_; intro A2 c2 w2 hown hb2 hle)
  go_ret
  have ho : w2.ownsRow w.heap.size 58 4 (.slice A2 n c2) n xs := by simpa using hown
  refine ⟨⟨A2, n, c2⟩, by simp [Sl.v], rfl, ⟨Rd.of_own ho, fun h1 a ha hb => ?_, by simpa using hle⟩, hb2, ho⟩
  have := (ho.lt a.block (by simp only at ha; subst ha; rfl)).1
  omega

theorem info_cln_S : (Tryz.prog.info? 9).map (fun i => (i.zero, i.size, i.bytes)) = some (some (.string ⟨#[]⟩), 1, 16) := by kernel_rfl
theorem cln_S (s : Sl) (xs : List Value) (w : World) (h : Rd w 1 s.A s.n xs) (h1 : ∀ u ∈ xs, u.oneCell' = true) (hb : s.n * 16 ≤ 140737488355328) :
  Calls Tryz.prog 76 #[s.v] w fun e w' => ∃ s' : Sl, e = .returned s'.v ∧ s'.n = s.n ∧ RS (fun i => i < w.heap.size) w' 1 s' xs ∧ Ext w w' ∧ w'.ownsRow w.heap.size 9 1 s'.v s.n xs := by
 obtain ⟨A, n, c⟩ := s
 simp only [Sl.v] at *
 have q22 : ∀ (w : World) (a : Option Addr) (n c n' c' : Nat), (binOp .eql 53 (.slice a n c) (.slice none n' c')).run Tryz.prog w = .ok (.bool a.isNone) w := fun w a n c n' c' => Lib.run_eql_slice_nil w _ _ a n c n' c' Tryz.underlying53
 cases A with
 | none =>
  have hx : xs = [] := by
   rcases Nat.eq_zero_or_pos xs.length with h0 | h0
   ·exact List.eq_nil_of_length_eq_zero h0
   ·obtain ⟨b, o, e, _⟩ := h.2 h0; cases e
  subst hx
  have hn : n = 0 := by have := h.1; simp at this; omega
  subst hn
  go_enter Tryz.func76, Tryz.ntmps76
  go_wp2_with fail
  go_ret
  exact ⟨sl0, rfl, rfl, RS.nil _ _ _, Ext.refl _, World.ownsRow_nil _ _ _ _⟩
 | some a =>
  have Hh := zi h
  clear h
  go_enter Tryz.func76, Tryz.ntmps76
  go_wp2_with (at_builtin; refine wpList_app _ rfl _ _ 53 rfl w 9 _ 1 16 Tryz.underlying53 info_cln_S (by simp [Value.cells]) (by decide) _ _ _ rfl (World.ownsRow_made w #[] 0 (Nat.le_refl _) (Nat.zero_le _) (by simp)) (some a) n c xs rfl (Hh.out.ext ((Ext.refl w).alloc _)) h1 ((Ext.refl w).alloc _) (by rw [Nat.zero_add]; exact hb) (by decide) ?_; intro A2 c2 w2 hown hb2 hle)
  go_ret
  have ho : w2.ownsRow w.heap.size 9 1 (.slice A2 n c2) n xs := by simpa using hown
  refine ⟨⟨A2, n, c2⟩, by simp [Sl.v], rfl, ⟨Rd.of_own ho, fun h1 a ha hb => ?_, by simpa using hle⟩, hb2, ho⟩
  have := (ho.lt a.block (by simp only at ha; subst ha; rfl)).1
  omega

theorem info_cln_K : (Tryz.prog.info? 109).map (fun i => (i.zero, i.size, i.bytes)) = some (some (.agg #[.int .i64 0, .int .i64 0, .int .i64 0, .int .i64 0, .string ⟨#[]⟩, .int .i64 0, .int .i64 0]), 7, 64) := by kernel_rfl
end Go.Proofs.YtmckbcbdnckngaaGreatDoor

namespace Go.Proofs.YtmckbcbdnckngaaGreatDoor
open Go.RowKit

theorem rgP_bad {v : ByteArray} {len : Int} (h : Lib.hasPrefix v.data.toList byN.data.toList = false ∨ pE (partsS (rgRest v) 44) ≠ 0 ∨ (itemsS (rgRest v)) = []) : rgP v len = (2, []) := by
 unfold rgP
 rw [if_pos]
 rcases h with h | h | h
 ·simp [h]
 ·unfold pE at h
  cases hp : (partsS (rgRest v) 44).isSome
  ·simp
  ·rw [hp] at h; simp at h
 ·simp [h]
theorem rgP_good {v : ByteArray} {len : Int} (h1 : Lib.hasPrefix v.data.toList byN.data.toList = true) (h2 : pE (partsS (rgRest v) 44) = 0) (h3 : (itemsS (rgRest v)) ≠ []) : rgP v len =
  match elsR (max 0 len) (itemsS (rgRest v)) with
  | none => (2, [])
  | some o => if decide (8 < (itemsS (rgRest v)).length) then (5, []) else if o.isEmpty then (1, []) else (0, o) := by
 unfold pE at h2
 have h2 : (partsS (rgRest v) 44).isSome = true := by
  cases hp : (partsS (rgRest v) 44).isSome
  ·rw [hp] at h2; simp at h2
  ·rfl
 have h3 : (itemsS (rgRest v)).isEmpty = false := by
  cases hi : itemsS (rgRest v) with
  | nil => exact absurd hi h3
  | cons => rfl
 unfold rgP
 rw [if_neg (by simp only [h1, h2, h3]; decide)]
 try rfl
theorem els_none {len : Int} {L : List ByteArray} {k : Nat} (h : k < L.length) {O : List (Int × Int)} (e : elR L[k] len = none) : ((elsR len (L.drop k)).map (O ++ ·)) = none := by
 rw [List.drop_eq_getElem_cons h]; unfold elsR; rw [e]; rfl
theorem els_some {len : Int} {L : List ByteArray} {k : Nat} (h : k < L.length) {O : List (Int × Int)} {r : Int × Int} (e : elR L[k] len = some r) :
  ((elsR len (L.drop k)).map (O ++ ·)) = (elsR len (L.drop (k + 1))).map ((if r.1 < r.2 then O ++ [r] else O) ++ ·) := by
 rw [List.drop_eq_getElem_cons h]
 conv => lhs; unfold elsR
 rw [e]
 simp only [Option.map_map]
 congr 1
 funext o
 simp only [Function.comp]
 split <;> simp
theorem spn_one (l : List (Int × Int)) : ∀ u ∈ l.flatMap spnC, u.oneCell' = true := by
 intro u hu
 obtain ⟨x, _, hx⟩ := List.mem_flatMap.1 hu
 simp only [spnC, List.mem_cons, List.not_mem_nil, or_false] at hx
 rcases hx with rfl | rfl <;> rfl
theorem spnC_len (l : List (Int × Int)) : (l.flatMap spnC).length = l.length * 2 := by
 induction l with
 | nil => rfl
 | cons x l ih => rw [List.flatMap_cons, List.length_append, ih]; simp [spnC]; omega
theorem infoRg2 : (Tryz.prog.info? 107).map (fun i => (i.zero, i.size, i.bytes)) = some (some (.agg #[.int .i64 0, .int .i64 0]), 2, 16) := by kernel_rfl
theorem rg_Parse (v : ByteArray) (len : Int) (w : World) (hs : v.size ≤ 1048576) (hl0 : 0 ≤ len) (hl1 : len ≤ 1099511627776) (hg : Gl w) :
  Calls Tryz.prog 127 #[.string v, .int .i64 len] w fun e w' => ∃ s : Sl, e = .returned (.tuple #[s.v, errV (rgP v len).1]) ∧ RS (fun i => i < w.heap.size) w' 2 s ((rgP v len).2.flatMap spnC) ∧ Ext w w' := by
 have hrs : (rgRest v).size ≤ 1048576 := by
  show (List.toArray (Lib.trimPrefix v.data.toList byN.data.toList)).size ≤ _
  have : v.data.toList.length = v.size := by rw [Array.length_toList]; rfl
  rw [List.size_toArray]
  unfold Lib.trimPrefix
  split
  ·rw [List.length_drop]; omega
  ·omega
 have HL := zi (fun w' => syntax_List (rgRest v) w' hrs)
 have Hit := zi (@items_all (rgRest v))
 have Hbad := zi (@rgP_bad v len); have Hgood := zi (@rgP_good v len)
 have HCP := zi (fun w' => Tryz.strings_CutPrefix v byN w')
 rw [show (⟨(Lib.trimPrefix v.data.toList byN.data.toList).toArray⟩ : ByteArray) = rgRest v from rfl] at HCP
 have Hrs := zi hrs
 clear hrs
 generalize rgP v len = R at *
 generalize Lib.hasPrefix v.data.toList byN.data.toList = ok at *
 generalize hL : itemsS (rgRest v) = L at *
 generalize pE (partsS (rgRest v) 44) = pe at *
 generalize rgRest v = rest at *
 clear hL
 have hmx : max 0 len = len := by omega
 rw [hmx] at Hgood
 go_enter Tryz.func127, Tryz.ntmps127
 go_wp2_with fail
 refine (HCP.out _).mono ?_; rintro e w1 ⟨rfl, rfl⟩
 go_wp2_with fail
 refine (HL.out _).mono ?_; rintro e w2 ⟨A, n, c, rfl, hrd, hnc, hb2, -⟩
 have hLn := hrd.lenS
 have BAD : ∀ (P : Prop), P → P := fun _ h => h
 cases ok with
 | false =>
  obtain rfl : R = (2, []) := Hbad.out (.inl rfl)
  go_wp2_with fail
  go_ret2
  exact ⟨sl0, rfl, RS.nil _ _ _, hb2⟩
 | true =>
  rcases errV_eq0 pe with ⟨h0, h1⟩ | ⟨h0, h1⟩
  rotate_left
  ·obtain rfl : R = (2, []) := Hbad.out (.inr (.inl h0))
   rw [h1]
   go_wp2_with fail
   go_ret2
   exact ⟨sl0, rfl, RS.nil _ _ _, hb2⟩
  ·rw [h1]
   subst h0
   by_cases hn0 : n = 0
   ·have hLe : L = [] := List.eq_nil_of_length_eq_zero (by omega)
    obtain rfl : R = (2, []) := Hbad.out (.inr (.inr hLe))
    subst hn0
    go_wp2_with fail
    go_ret2
    exact ⟨sl0, rfl, RS.nil _ _ _, hb2⟩
   ·have hLne : L ≠ [] := by intro h; rw [h] at hLn; simp at hLn; omega
    have HR := zi (Hgood.out (by trivial) (by trivial) hLne)
    have hq0 : ((n : Int) == 0) = false := by rw [beq_eq_false_iff_ne]; omega
    clear Hbad Hgood HL HCP BAD
    have hnb : n ≤ 1048577 := by have h1 := Hit.out.2; have h2 := Hrs.out; omega
    have Hh2 := zi hb2
    have HLn := zi hLn
    clear hLn hb2
    go_wp2_with fail
    go_loopw [10, 41] (fun out i wr => ∃ k m A' c' O, k ≤ n ∧ i = .int .i64 (k : Nat) ∧ out = .slice A' m c' ∧ wr.ownsRow w2.heap.size 107 2 (.slice A' m c') m (O.flatMap spnC) ∧ m ≤ c' ∧ m ≤ k ∧ (elsR len (L.drop k)).map (O ++ ·) = elsR len L ∧ Ext w2 wr) (fun _ i _ => n - (intOf i).toNat)
    case atStart => exact ⟨0, 0, none, 0, [], Nat.zero_le _, rfl, rfl, World.ownsRow_nil _ _ _ _, Nat.le_refl _, Nat.le_refl _, by simp, Ext.refl _⟩
    case round =>
     obtain ⟨k, m, A', c', O, hk, rfl, rfl, hown, hmc, hmk, hel, hbr⟩ := hrel
     have Hel := zi hel
     clear hel
     by_cases hlt : k < n
     ·have hlt' : k < L.length := by have := HLn.out; omega
      obtain ⟨b, o, rfl, hc0⟩ := (hrd.ext hbr).atS hlt'
      have hks := (Hit.out.1) L[k] (List.getElem_mem hlt')
      have hgr := hg.ext (Hh2.out.trans hbr)
      have HE := zi (rg_element L[k] len wr (by have := Hrs.out; omega) hl0 hl1 hgr)
      have Hno := zi (fun e => (Hel.out.symm.trans (els_none (O := O) hlt' e)))
      have Hso := zi (fun r e => (Hel.out.symm.trans (els_some (O := O) (r := r) hlt' e)))
      clear hgr hks
      generalize L[k] = x at *
      go_wp2_with fail
      refine HE.out.mono ?_; rintro e w3 ⟨lo, hi, rfl, hr, hb3⟩
      cases hel : elR x len with
      | none =>
       have hels := Hno.out hel
       rw [hels] at HR
       obtain rfl : R = (2, []) := HR.out
       go_wp2_with fail
       go_ret2
       exact ⟨sl0, rfl, RS.nil _ _ _, (Hh2.out.trans (hbr.trans hb3)).alloc _⟩
      | some r =>
       obtain rfl := hr r hel
       have hels := Hso.out _ hel
       have HX := zi (Blk.new w3 107 #[.int .i64 lo, .int .i64 hi])
       have x0 : (w3.alloc (.cells #[.int .i64 lo, .int .i64 hi] 107)).cell? ⟨w3.heap.size, 0, none⟩ = some (.int .i64 lo) := HX.out.cell 0
       have x1 : (w3.alloc (.cells #[.int .i64 lo, .int .i64 hi] 107)).cell? ⟨w3.heap.size, 1, none⟩ = some (.int .i64 hi) := HX.out.cell 1
       have hE5 := (hbr.trans hb3).alloc (.cells #[.int .i64 lo, .int .i64 hi] 107)
       have hown5 := own_ext (own_ext hown hb3) ((Ext.refl w3).alloc (.cells #[.int .i64 lo, .int .i64 hi] 107))
       by_cases hlh : lo < hi
       ·have Hels := zi (show elsR len L = (elsR len (L.drop (k + 1))).map ((O ++ [(lo, hi)]) ++ ·) by rw [hels, if_pos (show (lo, hi).1 < (lo, hi).2 from hlh)])
        clear hels Hno Hso
        go_wp2_with (at_builtin; refine wpList_app _ rfl _ _ 199 rfl w2 107 _ 2 16 Tryz.underlying199 infoRg2 (by simp [Value.cells]) (by decide) _ _ _ rfl (hown5.alloc _) _ 1 1 [.int .i64 lo, .int .i64 hi] rfl (Rd.two _ _ _ _ (by simp)) (spn_one [(lo, hi)]) (hE5.alloc _) (by omega) (by decide) ?_; intro A7 c7 w7 hown7 hb7 hle7)
        refine ⟨?rel, ?measure⟩
        case rel => exact ⟨k + 1, m + 1, A7, c7, O ++ [(lo, hi)], by omega, by go_num, rfl, by rw [List.flatMap_append]; exact hown7, hle7, by omega, Hels.out.symm, hb7⟩
        case measure => simp [intOf]; omega
       ·have Hels := zi (show elsR len L = (elsR len (L.drop (k + 1))).map (O ++ ·) by rw [hels, if_neg (show ¬ (lo, hi).1 < (lo, hi).2 from hlh)])
        clear hels Hno Hso
        go_wp2_with fail
        refine ⟨?rel, ?measure⟩
        case rel => exact ⟨k + 1, m, A', c', O, by omega, by go_num, rfl, hown5, hmc, by omega, Hels.out.symm, hE5⟩
        case measure => simp [intOf]; omega
     ·obtain rfl : k = n := by omega
      have hels : elsR len L = some O := by rw [← Hel.out, List.drop_of_length_le (by have := HLn.out; omega)]; simp [elsR]
      rw [hels] at HR
      have HRd := zi (hown)
      have hOm : O.length = m := by
       have := hown.1
       rw [spnC_len] at this
       omega
      by_cases h8 : 8 < k
      ·obtain rfl : R = (5, []) := by rw [HR.out]; simp only; rw [if_pos (by rw [HLn.out]; simpa using h8)]
       go_wp2_with fail
       go_ret2
       exact ⟨sl0, rfl, RS.nil _ _ _, Hh2.out.trans hbr⟩
      ·by_cases hm0 : m = 0
       ·have hO : O = [] := List.eq_nil_of_length_eq_zero (by omega)
        obtain rfl : R = (1, []) := by rw [HR.out]; simp only; rw [if_neg (by rw [HLn.out]; simpa using h8), hO]; rfl
        subst hm0
        go_wp2_with fail
        go_ret2
        exact ⟨sl0, rfl, RS.nil _ _ _, Hh2.out.trans hbr⟩
       ·have hO : O.isEmpty = false := by
         cases hO : O with
         | nil => rw [hO] at hOm; simp at hOm; omega
         | cons => rfl
        obtain rfl : R = (0, O) := by rw [HR.out]; simp only; rw [if_neg (by rw [HLn.out]; simpa using h8), hO]; rfl
        have hqm : ((m : Int) == 0) = false := by rw [beq_eq_false_iff_ne]; omega
        go_wp2_with fail
        go_ret2
        refine ⟨⟨A', m, c'⟩, rfl, ⟨Rd.of_own HRd.out, fun h1 a ha hb => ?_, hmc⟩, Hh2.out.trans hbr⟩
        have h1 := (HRd.out.lt a.block (by simp only at ha; subst ha; rfl)).1
        have h2 := Hh2.out.size
        omega
end Go.Proofs.YtmckbcbdnckngaaGreatDoor

namespace Go.Proofs.YtmckbcbdnckngaaGreatDoor
open Go.RowKit

theorem or_clip (t : Int) (w : World) : Calls Tryz.prog 40 #[.int .i64 t] w fun e w' => e = .returned (.int .i64 (cl55 t)) ∧ w' = w := by
 have HR := zi (show cl55 t = max 0 (min t 1099511627776) from rfl)
 generalize cl55 t = R at *
 go_enter Tryz.func40, Tryz.ntmps40
 go_wp2_with fail
 go_ret
 exact ⟨by rw [HR.out]; rfl, rfl⟩
def bigX (x : Vr) : Bool := decide (65536 < x.body.size)
theorem or_large1 (x : Vr × VrM) (w : World) (hn : x.2.bd.n = x.1.body.size) :
  Calls Tryz.prog 73 #[.agg (vrC x).toArray] w fun e w' => e = .returned (.bool (bigX x.1)) ∧ Ext w w' := by
 obtain ⟨⟨names, key, tag, body⟩, ⟨⟨nA, nn, nc⟩, ⟨bA, bn, bc⟩⟩⟩ := x
 simp only [vrC, Sl.v] at *
 subst hn
 have HR := zi (show bigX ⟨names, key, tag, body⟩ = decide (65536 < body.size) from rfl)
 generalize bigX ⟨names, key, tag, body⟩ = R at *
 have hX := Blk.new w 58 #[.slice nA nn nc, .string key, .string tag, .slice bA body.size bc]
 have x3 : (w.alloc (.cells #[.slice nA nn nc, .string key, .string tag, .slice bA body.size bc] 58)).cell? ⟨w.heap.size, 3, none⟩ = some (.slice bA body.size bc) := hX.cell 3
 clear hX
 go_enter Tryz.func73, Tryz.ntmps73
 go_wp2_with fail
 go_ret
 refine ⟨?_, (Ext.refl w).alloc _⟩
 rw [HR.out]
 by_cases h : 65536 < body.size
 ·simp [h]; omega
 ·simp [h]; omega

theorem vrI_at {w : World} {A : Option Addr} {n : Nat} {l : List (Vr × VrM)} (h : Rd w 4 A n (l.flatMap vrC)) {i : Nat} (hi : i < l.length) : ∃ b o, A = some ⟨b, o, none⟩ ∧ w.cell? ⟨b, o + i * 4, none⟩ = some (l[i].2.nm.v) ∧ w.cell? ⟨b, o + i * 4 + 1, none⟩ = some (.string l[i].1.key) ∧ w.cell? ⟨b, o + i * 4 + 2, none⟩ = some (.string l[i].1.tag) ∧ w.cell? ⟨b, o + i * 4 + 3, none⟩ = some (l[i].2.bd.v) := by
 obtain ⟨b, o, e, hc⟩ := h.2 (by
  have : (l.flatMap vrC).length = l.length * 4 := by
   clear h hi
   induction l with
   | nil => rfl
   | cons x l ih => rw [List.flatMap_cons, List.length_append, ih, List.length_cons, show (vrC x).length = 4 from rfl]; omega
  omega)
 refine ⟨b, o, e, ?_, ?_, ?_, ?_⟩
 ·exact hc (i * 4 + 0) _ (by rw [flat_at vrC 4 (fun _ => rfl) _ _ _ hi (by decide)]; rfl)
 ·rw [Nat.add_assoc]; exact hc (i * 4 + 1) _ (by rw [flat_at vrC 4 (fun _ => rfl) _ _ _ hi (by decide)]; rfl)
 ·rw [Nat.add_assoc]; exact hc (i * 4 + 2) _ (by rw [flat_at vrC 4 (fun _ => rfl) _ _ _ hi (by decide)]; rfl)
 ·rw [Nat.add_assoc]; exact hc (i * 4 + 3) _ (by rw [flat_at vrC 4 (fun _ => rfl) _ _ _ hi (by decide)]; rfl)
theorem vrI_len {w : World} {A : Option Addr} {n : Nat} {l : List (Vr × VrM)} (h : Rd w 4 A n (l.flatMap vrC)) : l.length = n := by
 have : (l.flatMap vrC).length = l.length * 4 := by
  clear h
  induction l with
  | nil => rfl
  | cons x l ih => rw [List.flatMap_cons, List.length_append, ih, List.length_cons, show (vrC x).length = 4 from rfl]; omega
 have := h.1
 omega
theorem vrI_idx (A : Option Addr) (n c : Nat) (l : List (Vr × VrM)) (p : Vr × VrM → Bool)  (w : World) (hd : Rd w 4 A n (l.flatMap vrC)) (hn : n ≤ 9223372036854775807)
  (HP : ∀ x ∈ l, ∀ W, Ext w W → Calls Tryz.prog 73 (#[.agg (vrC x).toArray] ++ #[]) W fun e w' => e = .returned (.bool (p x)) ∧ Ext W w') :
  Calls Tryz.prog 102 #[.slice A n c, .func (.func 73) #[] #[]] w fun e w' => ∃ r : Int, e = .returned (.int .i64 r) ∧ decide (0 ≤ r) = l.any p ∧ Ext w w' := by
 have hl := vrI_len hd
 have eg : ∀ args w, (callFunc 73 args).run Tryz.prog w = .ok (.enter 73 args) w := enters_of Tryz.func73 (by kernel_rfl) rfl
 go_enter Tryz.func102, Tryz.ntmps102
 go_wp2_with fail
 go_loopw [5, 8] (fun _ i wr => ∃ k : Nat, k ≤ n ∧ i = .int .i64 (k : Nat) ∧ (l.take k).any p = false ∧ Ext w wr) (fun _ i _ => n - (intOf i).toNat)
 case atStart => exact ⟨0, Nat.zero_le _, rfl, rfl, Ext.refl _⟩
 case round =>
  obtain ⟨k, hk, rfl, hany, hbr⟩ := hrel
  by_cases hlt : k < n
  ·have hlt' : k < l.length := by omega
   obtain ⟨b, o, rfl, hc0, hc1, hc2, hc3⟩ := vrI_at (hd.ext hbr) hlt'
   have hcall := HP l[k] (List.getElem_mem hlt') wr hbr
   have Hany := zi (show (l.take (k + 1)).any p = p l[k] by rw [take_step l k hlt', List.any_append, hany]; simp)
   have Hmem := zi (show p l[k] = true → l.any p = true from fun h => List.any_eq_true.2 ⟨_, List.getElem_mem hlt', h⟩)
   have Hl := zi hl
   clear hl hany hd HP
   generalize l[k] = x at *
   obtain ⟨⟨names, key, tag, body⟩, ⟨⟨nA, nn, nc⟩, ⟨bA, bn, bc⟩⟩⟩ := x
   simp only [vrC, Sl.v] at *
   cases hq : p _ with
   | true =>
    rw [hq] at hcall
    have HM := zi (Hmem.out hq)
    clear Hany Hmem
    go_wp2_with (go_at_fn 73; refine hcall.mono ?_; rintro e w3 ⟨rfl, hb3⟩)
    go_ret
    exact ⟨_, rfl, by rw [HM.out]; simp, hbr.trans hb3⟩
   | false =>
    rw [hq] at hcall
    have HA := zi (Hany.out.trans hq)
    clear Hany Hmem
    go_wp2_with (go_at_fn 73; refine hcall.mono ?_; rintro e w3 ⟨rfl, hb3⟩)
    go_roundw
    case rel => exact ⟨k + 1, by omega, by go_num, HA.out, hbr.trans hb3⟩
    case measure => simp [intOf]; omega
  ·obtain rfl : k = n := by omega
   go_wp2_with fail
   go_ret
   exact ⟨_, rfl, by rw [List.take_of_length_le (by omega)] at hany; rw [hany]; rfl, hbr⟩
theorem vrI_any (A : Option Addr) (n c : Nat) (l : List (Vr × VrM)) (p : Vr × VrM → Bool)  (w : World) (hd : Rd w 4 A n (l.flatMap vrC)) (hn : n ≤ 9223372036854775807)
  (HP : ∀ x ∈ l, ∀ W, Ext w W → Calls Tryz.prog 73 (#[.agg (vrC x).toArray] ++ #[]) W fun e w' => e = .returned (.bool (p x)) ∧ Ext W w') :
  Calls Tryz.prog 72 #[.slice A n c, .func (.func 73) #[] #[]] w fun e w' => e = .returned (.bool (l.any p)) ∧ Ext w w' := by
 have HI := zi (vrI_idx A n c l p w hd hn HP)
 clear HP hd
 generalize l.any p = R at *
 go_enter Tryz.func72, Tryz.ntmps72
 go_wp2_with fail
 refine HI.out.mono ?_; rintro e w1 ⟨r, rfl, hr, hb1⟩
 subst hr
 go_wp2_with fail
 go_ret
 exact ⟨rfl, hb1⟩

theorem spI_at {w : World} {A : Option Addr} {n : Nat} {l : List (Int × Int)} (h : Rd w 2 A n (l.flatMap spnC)) {i : Nat} (hi : i < l.length) : ∃ b o, A = some ⟨b, o, none⟩ ∧ w.cell? ⟨b, o + i * 2, none⟩ = some (.int .i64 l[i].1) ∧ w.cell? ⟨b, o + i * 2 + 1, none⟩ = some (.int .i64 l[i].2) := by
 obtain ⟨b, o, e, hc⟩ := h.2 (by
  have : (l.flatMap spnC).length = l.length * 2 := by
   clear h hi
   induction l with
   | nil => rfl
   | cons x l ih => rw [List.flatMap_cons, List.length_append, ih, List.length_cons, show (spnC x).length = 2 from rfl]; omega
  omega)
 refine ⟨b, o, e, ?_, ?_⟩
 ·exact hc (i * 2 + 0) _ (by rw [flat_at spnC 2 (fun _ => rfl) _ _ _ hi (by decide)]; rfl)
 ·rw [Nat.add_assoc]; exact hc (i * 2 + 1) _ (by rw [flat_at spnC 2 (fun _ => rfl) _ _ _ hi (by decide)]; rfl)
theorem spI_len {w : World} {A : Option Addr} {n : Nat} {l : List (Int × Int)} (h : Rd w 2 A n (l.flatMap spnC)) : l.length = n := by
 have : (l.flatMap spnC).length = l.length * 2 := by
  clear h
  induction l with
  | nil => rfl
  | cons x l ih => rw [List.flatMap_cons, List.length_append, ih, List.length_cons, show (spnC x).length = 2 from rfl]; omega
 have := h.1
 omega
theorem spI_idx (A : Option Addr) (n c : Nat) (l : List (Int × Int)) (p : Int × Int → Bool) (B : Nat) (w : World) (hd : Rd w 2 A n (l.flatMap spnC)) (hn : n ≤ 9223372036854775807)
  (HP : ∀ x ∈ l, ∀ W, Ext w W → Calls Tryz.prog 78 (#[.agg (spnC x).toArray] ++ #[.pointer (some ⟨B, 0, none⟩)]) W fun e w' => e = .returned (.bool (p x)) ∧ Ext W w') :
  Calls Tryz.prog 103 #[.slice A n c, .func (.func 78) #[] #[.pointer (some ⟨B, 0, none⟩)]] w fun e w' => ∃ r : Int, e = .returned (.int .i64 r) ∧ decide (0 ≤ r) = l.any p ∧ Ext w w' := by
 have hl := spI_len hd
 have eg : ∀ args w, (callFunc 78 args).run Tryz.prog w = .ok (.enter 78 args) w := enters_of Tryz.func78 (by kernel_rfl) rfl
 go_enter Tryz.func103, Tryz.ntmps103
 go_wp2_with fail
 go_loopw [5, 8] (fun _ i wr => ∃ k : Nat, k ≤ n ∧ i = .int .i64 (k : Nat) ∧ (l.take k).any p = false ∧ Ext w wr) (fun _ i _ => n - (intOf i).toNat)
 case atStart => exact ⟨0, Nat.zero_le _, rfl, rfl, Ext.refl _⟩
 case round =>
  obtain ⟨k, hk, rfl, hany, hbr⟩ := hrel
  by_cases hlt : k < n
  ·have hlt' : k < l.length := by omega
   obtain ⟨b, o, rfl, hc0, hc1⟩ := spI_at (hd.ext hbr) hlt'
   have hcall := HP l[k] (List.getElem_mem hlt') wr hbr
   have Hany := zi (show (l.take (k + 1)).any p = p l[k] by rw [take_step l k hlt', List.any_append, hany]; simp)
   have Hmem := zi (show p l[k] = true → l.any p = true from fun h => List.any_eq_true.2 ⟨_, List.getElem_mem hlt', h⟩)
   have Hl := zi hl
   clear hl hany hd HP
   generalize l[k] = x at *
   obtain ⟨x1, x2⟩ := x
   simp only [spnC, Sl.v] at *
   cases hq : p _ with
   | true =>
    rw [hq] at hcall
    have HM := zi (Hmem.out hq)
    clear Hany Hmem
    go_wp2_with (go_at_fn 78; refine hcall.mono ?_; rintro e w3 ⟨rfl, hb3⟩)
    go_ret
    exact ⟨_, rfl, by rw [HM.out]; simp, hbr.trans hb3⟩
   | false =>
    rw [hq] at hcall
    have HA := zi (Hany.out.trans hq)
    clear Hany Hmem
    go_wp2_with (go_at_fn 78; refine hcall.mono ?_; rintro e w3 ⟨rfl, hb3⟩)
    go_roundw
    case rel => exact ⟨k + 1, by omega, by go_num, HA.out, hbr.trans hb3⟩
    case measure => simp [intOf]; omega
  ·obtain rfl : k = n := by omega
   go_wp2_with fail
   go_ret
   exact ⟨_, rfl, by rw [List.take_of_length_le (by omega)] at hany; rw [hany]; rfl, hbr⟩
theorem spI_any (A : Option Addr) (n c : Nat) (l : List (Int × Int)) (p : Int × Int → Bool) (B : Nat) (w : World) (hd : Rd w 2 A n (l.flatMap spnC)) (hn : n ≤ 9223372036854775807)
  (HP : ∀ x ∈ l, ∀ W, Ext w W → Calls Tryz.prog 78 (#[.agg (spnC x).toArray] ++ #[.pointer (some ⟨B, 0, none⟩)]) W fun e w' => e = .returned (.bool (p x)) ∧ Ext W w') :
  Calls Tryz.prog 77 #[.slice A n c, .func (.func 78) #[] #[.pointer (some ⟨B, 0, none⟩)]] w fun e w' => e = .returned (.bool (l.any p)) ∧ Ext w w' := by
 have HI := zi (spI_idx A n c l p B w hd hn HP)
 clear HP hd
 generalize l.any p = R at *
 go_enter Tryz.func77, Tryz.ntmps77
 go_wp2_with fail
 refine HI.out.mono ?_; rintro e w1 ⟨r, rfl, hr, hb1⟩
 subst hr
 go_wp2_with fail
 go_ret
 exact ⟨rfl, hb1⟩
end Go.Proofs.YtmckbcbdnckngaaGreatDoor

namespace Go.Proofs.YtmckbcbdnckngaaGreatDoor
open Go.RowKit

theorem ad_again {host target : Bs} {a : Adr} (h : adP host target = some a) : (a.has = true ∨ a.query = []) ∧ adP a.host (adTarget a) = some a := by
 have hv := ad_valid h
 unfold adOk at hv
 rw [Bool.and_eq_true] at hv
 obtain ⟨h1, h2⟩ := hv
 refine ⟨?_, ?_⟩
 ·rw [Bool.or_eq_true] at h1
  rcases h1 with h1 | h1
  ·exact .inl h1
  ·exact .inr (by simpa using h1)
 ·cases hb : adP a.host (adTarget a) with
  | none => rw [hb] at h2; cases h2
  | some b =>
   rw [hb] at h2
   simp only [Bool.and_eq_true, beq_iff_eq] at h2
   obtain ⟨⟨⟨e1, e2⟩, e3⟩, e4⟩ := h2
   cases a; cases b
   simp only at e1 e2 e3 e4
   subst e1; subst e2; subst e3; subst e4; rfl
theorem sz_arr (l : Bs) : (⟨l.toArray⟩ : ByteArray).size = l.length := by show (List.toArray _).size = _; simp
theorem bs_arr (l : Bs) : bsL ⟨l.toArray⟩ = l := rfl
theorem adr_Valid (a : Adr) (w : World) (hok : (a.has = true ∨ a.query = []) ∧ adP a.host (adTarget a) = some a) (hs : a.host.length ≤ 1048576) (hp : a.path.length + a.query.length ≤ 1048000) (hg : Gl w) :
    Calls Tryz.prog 58 #[.agg #[.string ⟨a.host.toArray⟩, .string ⟨a.path.toArray⟩, .string ⟨a.query.toArray⟩, .bool a.has]] w fun e w' => e = .returned (.bool true) ∧ Ext w w' := by
  obtain ⟨hq, hP⟩ := hok
  have HE0 := zi ((Ext.refl w).alloc (.cells #[.string ⟨a.host.toArray⟩, .string ⟨a.path.toArray⟩, .string ⟨a.query.toArray⟩, .bool a.has] 123))
  have HB := zi (Blk.new w 123 #[.string ⟨a.host.toArray⟩, .string ⟨a.path.toArray⟩, .string ⟨a.query.toArray⟩, .bool a.has])
  have hps := sz_arr a.path; have hqs := sz_arr a.query; have hhs := sz_arr a.host
  cases hb : a.has
  · have hq0 : a.query = [] := by rcases hq with h | h; · rw [h] at hb; cases hb
                                  · exact h
    have HP := zi (fun w' (h : Ext w w') => adr_Parse ⟨a.host.toArray⟩ ⟨a.path.toArray⟩ w' (by omega) (by omega) (hg.ext h))
    rw [bs_arr, bs_arr, show adP a.host a.path = some a from (by have h2 : adTarget a = a.path := (by unfold adTarget; rw [hb]; rfl); rw [h2] at hP; exact hP), show adrA (some a) = #[.string ⟨a.host.toArray⟩, .string ⟨a.path.toArray⟩, .string ⟨a.query.toArray⟩, .bool a.has] from rfl, hb] at HP
    rw [hb] at HE0 HB
    have e0 : (⟨a.query.toArray⟩ : ByteArray).toList = [] := by rw [hq0, ByteArray.toList_eq]
    have e1 : (⟨a.query.toArray⟩ : ByteArray).toList.isEmpty = true := by rw [e0]; rfl
    clear hP hq hq0 hps hqs hhs
    generalize (⟨a.host.toArray⟩ : ByteArray) = h at *
    generalize (⟨a.path.toArray⟩ : ByteArray) = p at *
    generalize (⟨a.query.toArray⟩ : ByteArray) = q at *
    go_enter Tryz.func58, Tryz.ntmps58
    go_wp2_with fail
    refine (HP.out _ HE0.out).mono ?_; rintro e w1 ⟨⟨n, rfl, hn, hi⟩, hb1⟩
    obtain rfl : n = 0 := hi.2 rfl
    clear hn hi
    rw [show errV 0 = .nilIface from rfl]
    have HX := zi (Blk.new w1 123 #[.string h, .string p, .string q, .bool false])
    have hB1 := (HB.out.ext hb1).alloc (.cells #[.string h, .string p, .string q, .bool false] 123)
    have b0 : (w1.alloc (.cells #[.string h, .string p, .string q, .bool false] 123)).cell? ⟨w.heap.size, 0, none⟩ = some (.string h) := hB1.cell 0
    have b1 : (w1.alloc (.cells #[.string h, .string p, .string q, .bool false] 123)).cell? ⟨w.heap.size, 1, none⟩ = some (.string p) := hB1.cell 1
    have b2 : (w1.alloc (.cells #[.string h, .string p, .string q, .bool false] 123)).cell? ⟨w.heap.size, 2, none⟩ = some (.string q) := hB1.cell 2
    have b3 : (w1.alloc (.cells #[.string h, .string p, .string q, .bool false] 123)).cell? ⟨w.heap.size, 3, none⟩ = some (.bool false) := hB1.cell 3
    have s1 : (h.toList == h.toList) = true := by simp
    have s2 : (p.toList == p.toList) = true := by simp
    have s3 : (q.toList == q.toList) = true := by simp
    have l0 : w1.cell? ⟨w.heap.size, 0, none⟩ = some (.string h) := (HB.out.ext hb1).cell 0
    have l1 : w1.cell? ⟨w.heap.size, 1, none⟩ = some (.string p) := (HB.out.ext hb1).cell 1
    have l2 : w1.cell? ⟨w.heap.size, 2, none⟩ = some (.string q) := (HB.out.ext hb1).cell 2
    have l3 : w1.cell? ⟨w.heap.size, 3, none⟩ = some (.bool false) := (HB.out.ext hb1).cell 3
    have hlt := HB.out.lt
    have hsz1 := hb1.size
    clear hB1
    go_wp2_with fail
    go_ret
    exact ⟨rfl, (HE0.out.trans hb1).alloc _⟩
  · have htg : bsL ((⟨a.path.toArray⟩ : ByteArray) ++ (⟨#[63]⟩ ++ ⟨a.query.toArray⟩)) = adTarget a := by
      unfold adTarget; rw [hb, if_pos rfl]
      show (_ ++ _ : ByteArray).data.toList = _
      rw [data_append, data_append]; rfl
    have HP := zi (fun w' (h : Ext w w') => adr_Parse ⟨a.host.toArray⟩ ((⟨a.path.toArray⟩ : ByteArray) ++ (⟨#[63]⟩ ++ ⟨a.query.toArray⟩)) w' (by omega) (by rw [ByteArray.size_append, ByteArray.size_append, show (⟨#[63]⟩ : ByteArray).size = 1 from rfl]; omega) (hg.ext h))
    rw [bs_arr, htg, hP, show adrA (some a) = #[.string ⟨a.host.toArray⟩, .string ⟨a.path.toArray⟩, .string ⟨a.query.toArray⟩, .bool a.has] from rfl, hb] at HP
    have h1 : ∀ w, (Op.stringOp .add ⟨#[63]⟩ (⟨a.query.toArray⟩ : ByteArray)).run Tryz.prog w = .ok (.string (⟨#[63]⟩ ++ ⟨a.query.toArray⟩)) w := fun w => run_string_add_sum w _ _ (by rw [show (⟨#[63]⟩ : ByteArray).size = 1 from rfl]; omega)
    have h2 : ∀ w, (Op.stringOp .add (⟨a.path.toArray⟩ : ByteArray) (⟨#[63]⟩ ++ ⟨a.query.toArray⟩)).run Tryz.prog w = .ok (.string ((⟨a.path.toArray⟩ : ByteArray) ++ (⟨#[63]⟩ ++ ⟨a.query.toArray⟩))) w := fun w => run_string_add_sum w _ _ (by rw [ByteArray.size_append, show (⟨#[63]⟩ : ByteArray).size = 1 from rfl]; omega)
    rw [hb] at HE0 HB
    clear hP hq htg hps hqs hhs
    generalize (⟨a.host.toArray⟩ : ByteArray) = h at *
    generalize (⟨a.path.toArray⟩ : ByteArray) = p at *
    generalize (⟨a.query.toArray⟩ : ByteArray) = q at *
    go_enter Tryz.func58, Tryz.ntmps58
    go_wp2_with fail
    refine (HP.out _ HE0.out).mono ?_; rintro e w1 ⟨⟨n, rfl, hn, hi⟩, hb1⟩
    obtain rfl : n = 0 := hi.2 rfl
    clear hn hi
    rw [show errV 0 = .nilIface from rfl]
    have HX := zi (Blk.new w1 123 #[.string h, .string p, .string q, .bool true])
    have hB1 := (HB.out.ext hb1).alloc (.cells #[.string h, .string p, .string q, .bool true] 123)
    have b0 : (w1.alloc (.cells #[.string h, .string p, .string q, .bool true] 123)).cell? ⟨w.heap.size, 0, none⟩ = some (.string h) := hB1.cell 0
    have b1 : (w1.alloc (.cells #[.string h, .string p, .string q, .bool true] 123)).cell? ⟨w.heap.size, 1, none⟩ = some (.string p) := hB1.cell 1
    have b2 : (w1.alloc (.cells #[.string h, .string p, .string q, .bool true] 123)).cell? ⟨w.heap.size, 2, none⟩ = some (.string q) := hB1.cell 2
    have b3 : (w1.alloc (.cells #[.string h, .string p, .string q, .bool true] 123)).cell? ⟨w.heap.size, 3, none⟩ = some (.bool true) := hB1.cell 3
    have s1 : (h.toList == h.toList) = true := by simp
    have s2 : (p.toList == p.toList) = true := by simp
    have s3 : (q.toList == q.toList) = true := by simp
    have l0 : w1.cell? ⟨w.heap.size, 0, none⟩ = some (.string h) := (HB.out.ext hb1).cell 0
    have l1 : w1.cell? ⟨w.heap.size, 1, none⟩ = some (.string p) := (HB.out.ext hb1).cell 1
    have l2 : w1.cell? ⟨w.heap.size, 2, none⟩ = some (.string q) := (HB.out.ext hb1).cell 2
    have l3 : w1.cell? ⟨w.heap.size, 3, none⟩ = some (.bool true) := (HB.out.ext hb1).cell 3
    have hlt := HB.out.lt
    have hsz1 := hb1.size
    clear hB1
    go_wp2_with fail
    go_ret
    exact ⟨rfl, (HE0.out.trans hb1).alloc _⟩
theorem adr_Format (a : Adr) (w : World) (hok : (a.has = true ∨ a.query = []) ∧ adP a.host (adTarget a) = some a) (hs : a.host.length ≤ 1048576) (hp : a.path.length + a.query.length ≤ 1048000) (hg : Gl w) :
  Calls Tryz.prog 80 #[.agg #[.string ⟨a.host.toArray⟩, .string ⟨a.path.toArray⟩, .string ⟨a.query.toArray⟩, .bool a.has]] w fun e w' => e = .returned (.tuple #[.string ⟨(adText a).toArray⟩, .nilIface]) ∧ Ext w w' := by
 have HV := zi (fun w' (h : Ext w w') => adr_Valid a w' hok hs hp (hg.ext h))
 have HT := zi (fun w' => adr_text ⟨a.host.toArray⟩ ⟨a.path.toArray⟩ ⟨a.query.toArray⟩ a.has w' (by rw [sz_arr, sz_arr, sz_arr]; omega))
 rw [text_eq a] at HT
 have HE0 := zi ((Ext.refl w).alloc (.cells #[.string ⟨a.host.toArray⟩, .string ⟨a.path.toArray⟩, .string ⟨a.query.toArray⟩, .bool a.has] 123))
 have HB := zi (Blk.new w 123 #[.string ⟨a.host.toArray⟩, .string ⟨a.path.toArray⟩, .string ⟨a.query.toArray⟩, .bool a.has])
 generalize (⟨(adText a).toArray⟩ : ByteArray) = T at *
 generalize (⟨a.host.toArray⟩ : ByteArray) = h at *
 generalize (⟨a.path.toArray⟩ : ByteArray) = p at *
 generalize (⟨a.query.toArray⟩ : ByteArray) = q at *
 generalize a.has = has at *
 go_enter Tryz.func80, Tryz.ntmps80
 go_wp2_with fail
 refine (HV.out _ HE0.out).mono ?_; rintro e w1 ⟨rfl, hb1⟩
 have l0 : w1.cell? ⟨w.heap.size, 0, none⟩ = some (.string h) := (HB.out.ext hb1).cell 0
 have l1 : w1.cell? ⟨w.heap.size, 1, none⟩ = some (.string p) := (HB.out.ext hb1).cell 1
 have l2 : w1.cell? ⟨w.heap.size, 2, none⟩ = some (.string q) := (HB.out.ext hb1).cell 2
 have l3 : w1.cell? ⟨w.heap.size, 3, none⟩ = some (.bool has) := (HB.out.ext hb1).cell 3
 go_wp2_with fail
 refine (HT.out _).mono ?_; rintro e w2 ⟨rfl, hb2⟩
 go_wp2_with fail
 go_ret2
 exact ⟨rfl, HE0.out.trans (hb1.trans hb2)⟩
end Go.Proofs.YtmckbcbdnckngaaGreatDoor

namespace Go.Proofs.YtmckbcbdnckngaaGreatDoor
open Go.RowKit

def rdE (s : ByteArray) : Nat := if (rdAd s).isSome then 0 else 2
theorem rd_no {s : ByteArray} (h : (47 : UInt8) ∉ bsL s) : rdAd s = none := by unfold rdAd; rw [show bL s = bsL s from rfl, if_neg h]
theorem rd_at {s : ByteArray} {x y : Bs} (h : bsL s = x ++ 47 :: y) (hx : (47 : UInt8) ∉ x) : rdAd s = match adP x (47 :: y) with
  | some a => if adText a = bsL s then some a else none
  | none => none := by
 unfold rdAd
 rw [show bL s = bsL s from rfl, if_pos (by rw [h]; simp), h, cut_some y hx]
 try rfl
theorem adr_parts {a : Adr} : adrA (some a) = #[.string ⟨a.host.toArray⟩, .string ⟨a.path.toArray⟩, .string ⟨a.query.toArray⟩, .bool a.has] := rfl
theorem ad_sizes {ho ta : Bs} {a : Adr} (h : adP ho ta = some a) : (adText a).length ≤ 1024 ∧ a.host.length ≤ 1024 ∧ a.path.length ≤ 1024 ∧ a.query.length ≤ 1024 := by
 have h1 : (adText a).length ≤ 1024 := by
  unfold adP at h
  repeat' (split at h)
  all_goals first | (injection h with h; subst h; assumption) | (exact absurd h (fun e => by cases e))
 have h2 := (ad_again h).1
 unfold adText at h1
 refine ⟨by unfold adText; exact h1, ?_⟩
 split at h1
 ·simp only [List.length_append, List.length_cons] at h1
  exact ⟨by omega, by omega, by omega⟩
 ·rename_i hh
  rcases h2 with h2 | h2
  ·exact absurd h2 hh
  ·rw [h2]; simp only [List.length_append] at h1
   exact ⟨by omega, by omega, by simp⟩
theorem adr_q {a : Adr} {q1 q2 q3 : ByteArray} {q4 : Bool} (h : adrA (some a) = #[.string q1, .string q2, .string q3, .bool q4]) : q1 = ⟨a.host.toArray⟩ ∧ q2 = ⟨a.path.toArray⟩ ∧ q3 = ⟨a.query.toArray⟩ ∧ q4 = a.has := by
 rw [adr_parts] at h
 simp only [Array.mk.injEq, List.cons.injEq, Value.string.injEq, Value.bool.injEq, and_true] at h
 exact ⟨h.1.symm, h.2.1.symm, h.2.2.1.symm, h.2.2.2.symm⟩
theorem adr_Read (s : ByteArray) (w : World) (hs : s.size ≤ 1048576) (hg : Gl w) :
  Calls Tryz.prog 57 #[.string s] w fun e w' => e = .returned (.tuple #[.agg (adrA (rdAd s)), errV (rdE s)]) ∧ Ext w w' := by
 have HRn := zi (@rd_no s); have HRa := zi (fun x y h hx => @rd_at s x y h hx)
 have HRe := zi (show rdE s = if (rdAd s).isSome then 0 else 2 from rfl)
 generalize rdE s = RE at *
 generalize rdAd s = RA at *
 have hB := Blk.new w 123 #[.string ⟨#[]⟩, .string ⟨#[]⟩, .string ⟨#[]⟩, .bool false]
 have HW := zi ((Ext.refl w).alloc (.cells #[.string ⟨#[]⟩, .string ⟨#[]⟩, .string ⟨#[]⟩, .bool false] 123))
 have Hb0 := zi (Nat.le_refl w.heap.size)
 go_enter Tryz.func57, Tryz.ntmps57
 go_wp2_with fail
 refine (Tryz.strings_IndexByte s 47 _).mono ?_; rintro e w1 ⟨rfl, rfl⟩
 rw [show ((47 : Int).toNat.toUInt8) = 47 from rfl]
 have HB := zi (fun w' (h : Ext (w.alloc (.cells #[.string ⟨#[]⟩, .string ⟨#[]⟩, .string ⟨#[]⟩, .bool false] 123)) w') => hB.ext h)
 have hE := Ext.refl (w.alloc (.cells #[.string ⟨#[]⟩, .string ⟨#[]⟩, .string ⟨#[]⟩, .bool false] 123))
 generalize w.alloc (.cells #[.string ⟨#[]⟩, .string ⟨#[]⟩, .string ⟨#[]⟩, .bool false] 123) = W0 at *
 generalize hbb : w.heap.size = b0 at *
 have Hb0 := zi (Nat.le_of_eq hbb)
 clear hbb hB
 by_cases hm : (47 : UInt8) ∈ bsL s
 rotate_left
 ·obtain rfl := HRn.out hm
  obtain rfl : RE = 2 := HRe.out
  rw [show Lib.indexByte s.data.toList 47 = -1 from ixb_none hm]
  go_wp2_with (first | (refine wpList_storeB rfl 123 (.tmp 2) (.tmp 11) rfl rfl b0 _ rfl rfl 123 _ (HB.out _ hE) infoAd rfl (by simp [Value.oneCell']) ?_; intro w9 hB9 hx9))
  have y0 : w9.cell? ⟨b0, 0, none⟩ = some (.string ⟨#[]⟩) := hB9.cell 0
  have y1 : w9.cell? ⟨b0, 1, none⟩ = some (.string ⟨#[]⟩) := hB9.cell 1
  have y2 : w9.cell? ⟨b0, 2, none⟩ = some (.string ⟨#[]⟩) := hB9.cell 2
  have y3 : w9.cell? ⟨b0, 3, none⟩ = some (.bool false) := hB9.cell 3
  exact bodyPost_ret (v := .tuple #[.agg #[.string ⟨#[]⟩, .string ⟨#[]⟩, .string ⟨#[]⟩, .bool false], errV 2]) (by simp [results, Tryz.results57, go_sem, y0, y1, y2, y3, errV]) rfl ⟨rfl, (HW.out.trans hE).growB hx9 Hb0.out⟩
 ·obtain ⟨x, y, hxy, hx⟩ := List.eq_append_cons_of_mem hm
  have hls : x.length + y.length + 1 = s.size := by
   have h1 := congrArg List.length hxy
   rw [List.length_append, List.length_cons, show (bsL s).length = s.size by show s.data.toList.length = _; simp] at h1
   omega
  rw [show Lib.indexByte s.data.toList 47 = (x.length : Nat) by rw [show s.data.toList = bsL s from rfl, hxy]; exact ixb_some y hx]
  have h0 : bsL (s.extract 0 x.length) = x := by
   show (s.extract 0 x.length).data.toList = _
   rw [← ByteArray.toList_eq, Lib.extract_toList, show s.data.toList = x ++ 47 :: y from hxy]; simp
  have h1 : bsL (s.extract x.length s.size) = 47 :: y := by
   show (s.extract x.length s.size).data.toList = _
   rw [← ByteArray.toList_eq, Lib.extract_toList, show s.data.toList = x ++ 47 :: y from hxy, List.drop_left]
   exact List.take_of_length_le (by simp; omega)
  have HP := zi (fun w' (h : Ext w w') => adr_Parse (s.extract 0 x.length) (s.extract x.length s.size) w' (by rw [ByteArray.size_extract]; omega) (by rw [ByteArray.size_extract]; omega) (hg.ext h))
  rw [h0, h1] at HP
  have HRA := zi (HRa.out x y hxy hx)
  have Hsz := zi (fun a h => @ad_sizes x (47 :: y) a h)
  have hxl : x.length ≤ s.size := by omega
  clear HRa HRn hm hxy hx h0 h1
  generalize adP x (47 :: y) = P at *
  generalize x.length = k at *
  obtain ⟨q1, q2, q3, q4, hq⟩ : ∃ q1 q2 q3 q4, adrA P = #[.string q1, .string q2, .string q3, .bool q4] := by
   cases P with
   | none => exact ⟨_, _, _, _, rfl⟩
   | some a => exact ⟨_, _, _, _, rfl⟩
  rw [hq] at HP
  have Hq := zi hq
  clear hq
  go_wp2_with fail
  have hE := hE.drew
  refine wp_region_held_drew (S := (fun _ => True)) (by kernel_rfl) ?_ (fun hHeld => ?_)
  ·(try dsimp only); (try trivial)
  refine zH (v := ?_) 0 (some 14) rfl ?_ ?_; rotate_left
  ·(intro w hSw; (try dsimp only at hSw); go_simp; (try with_reducible rfl))
  try simp only [zP]
  refine zH (v := ?_) 1 (some 15) rfl ?_ ?_; rotate_left
  ·(intro w hSw; (try dsimp only at hSw); go_simp; (try with_reducible rfl))
  try simp only [zP]
  refine zH (v := ?_) 2 (some 16) rfl ?_ ?_; rotate_left
  ·(intro w hSw; (try dsimp only at hSw); go_simp; (try with_reducible rfl))
  try simp only [zP]
  refine zH (v := ?_) 3 (some 17) rfl ?_ ?_; rotate_left
  ·(intro w hSw; (try dsimp only at hSw); go_simp; (try with_reducible rfl))
  try simp only [zP]
  refine zH (v := ?_) 4 (some 18) rfl ?_ ?_; rotate_left
  ·(intro w hSw; (try dsimp only at hSw); go_simp; (try with_reducible rfl))
  try simp only [zP]
  refine zH (v := ?_) 5 (some 19) rfl ?_ ?_; rotate_left
  ·(intro w hSw; (try dsimp only at hSw); go_simp; (try with_reducible rfl))
  try simp only [zP]
  refine wpAnyH_ready (rs := [6, 10]) (by kernel_rfl) (by simp) ?_
  refine AllReadyH.cons (o := ⟨some 20, _, _, _, _, _⟩) rfl (fun K hK => ?_) (AllReadyH.cons (o := ⟨some 5, _, _, _, _, _⟩) rfl (fun K hK => ?_) AllReadyH.nil)
  ·go_simp
   refine (HP.out _ (HW.out.trans hE)).mono ?_; rintro e w3 ⟨⟨n3, rfl, hn3, hi3⟩, hb3⟩; replace hE := hE.trans hb3
   try go_wp2_with fail
   refine hK.out _ _ ?_ (fun hHeld => ?_)
   ·(try dsimp only); (try trivial)
   clear hK K
   try simp only [zP]
   refine zH (v := ?_) 7 (some 13) rfl ?_ ?_; rotate_left
   ·(intro w hSw; (try dsimp only at hSw); go_simp; (try with_reducible rfl))
   try simp only [zP]
   refine zH (v := ?_) 8 (some 21) rfl ?_ ?_; rotate_left
   ·(intro w hSw; (try dsimp only at hSw); go_simp; (try with_reducible rfl))
   try simp only [zP]
   refine zH (v := ?_) 9 (some 22) rfl ?_ ?_; rotate_left
   ·(intro w hSw; (try dsimp only at hSw); go_simp; (try with_reducible rfl))
   try simp only [zP]
   refine wpAnyH_ready (rs := [10]) (by kernel_rfl) (by simp) ?_
   refine AllReadyH.cons (o := ⟨some 5, _, _, _, _, _⟩) rfl (fun K hK => ?_) AllReadyH.nil
   go_simp
   try go_wp2_with fail
   refine hK.out _ _ ?_ (fun hHeld => ?_)
   ·(try dsimp only); (try trivial)
   clear hK K
   try simp only [zP]
   refine wpAnyH_ready (rs := [11]) (by kernel_rfl) (by simp) ?_
   refine AllReadyH.cons (o := ⟨none, _, _, _, _, _⟩) rfl (fun K hK => ?_) AllReadyH.nil
   go_simp
   try go_wp2_with fail
   refine hK.out _ _ ?_ (fun hHeld => ?_)
   ·(try dsimp only); (try trivial)
   clear hK K
   try simp only [zP]
   refine zH (v := ?_) 12 (some 6) rfl ?_ ?_; rotate_left
   ·(intro w hSw; (try dsimp only at hSw); go_simp; (try with_reducible rfl))
   try simp only [zP]
   refine wpAnyH_done (by kernel_rfl) ?_ _
   have HX := zi (Blk.new w3 123 #[.string q1, .string q2, .string q3, .bool q4])
   replace hE := hE.alloc (.cells #[.string q1, .string q2, .string q3, .bool q4] 123)
   generalize w3.alloc (.cells #[.string q1, .string q2, .string q3, .bool q4] 123) = wx at *
   generalize w3.heap.size = bx at *
   rcases errV_eq0 n3 with ⟨h0, h1⟩ | ⟨h0, h1⟩
   rotate_left
   ·rw [h1]
    have hPn : P = none := by cases P with | none => rfl | some a => exact absurd (hi3.2 rfl) h0
    obtain rfl : RA = none := by rw [HRA.out, hPn]
    obtain rfl : RE = 2 := HRe.out
    go_wp2_with (first | (refine wpList_storeB rfl 123 (.tmp 2) (.tmp 31) rfl rfl b0 _ rfl rfl 123 _ (HB.out _ hE) infoAd rfl (by simp [Value.oneCell']) ?_; intro w9 hB9 hx9))
    have y0 : w9.cell? ⟨b0, 0, none⟩ = some (.string ⟨#[]⟩) := hB9.cell 0
    have y1 : w9.cell? ⟨b0, 1, none⟩ = some (.string ⟨#[]⟩) := hB9.cell 1
    have y2 : w9.cell? ⟨b0, 2, none⟩ = some (.string ⟨#[]⟩) := hB9.cell 2
    have y3 : w9.cell? ⟨b0, 3, none⟩ = some (.bool false) := hB9.cell 3
    exact bodyPost_ret (v := .tuple #[.agg #[.string ⟨#[]⟩, .string ⟨#[]⟩, .string ⟨#[]⟩, .bool false], errV 2]) (by simp [results, Tryz.results57, go_sem, y0, y1, y2, y3, errV]) rfl ⟨rfl, (HW.out.trans hE).growB hx9 Hb0.out⟩
   ·rw [h1]
    obtain ⟨a, ha⟩ := Option.isSome_iff_exists.1 (hi3.1 h0)
    have HRA := zi (show RA = if adText a = bsL s then some a else none by rw [HRA.out, ha])
    have hs4 := Hsz.out a ha
    obtain ⟨e1, e2, e3, e4⟩ := adr_q (ha ▸ Hq.out)
    have z1 := sz_arr a.host; have z2 := sz_arr a.path; have z3 := sz_arr a.query
    rw [← e1] at z1; rw [← e2] at z2; rw [← e3] at z3
    have HT := zi (fun w' => adr_text q1 q2 q3 q4 w' (by omega))
    rw [show (if q4 then q1 ++ q2 ++ ⟨#[63]⟩ ++ q3 else q1 ++ q2) = (⟨(adText a).toArray⟩ : ByteArray) by rw [e1, e2, e3, e4, text_eq a]] at HT
    have hXq := HX.out
    have x0 : wx.cell? ⟨bx, 0, none⟩ = some (.string q1) := hXq.cell 0
    have x1 : wx.cell? ⟨bx, 1, none⟩ = some (.string q2) := hXq.cell 1
    have x2 : wx.cell? ⟨bx, 2, none⟩ = some (.string q3) := hXq.cell 2
    have x3 : wx.cell? ⟨bx, 3, none⟩ = some (.bool q4) := hXq.cell 3
    clear hXq z1 z2 z3 e1 e2 e3 e4 hs4
    go_wp2_with fail
    refine (HT.out _).mono ?_; rintro e w4 ⟨rfl, hb4⟩
    replace hE := hE.trans hb4
    clear x0 x1 x2 x3
    by_cases hz : adText a = bsL s
    rotate_left
    ·have hq : ((⟨(adText a).toArray⟩ : ByteArray).toList == s.toList) = false := by rw [ByteArray.toList_eq, ByteArray.toList_eq]; exact beq_eq_false_iff_ne.2 hz
     obtain rfl : RA = none := by rw [HRA.out, if_neg hz]
     obtain rfl : RE = 2 := HRe.out
     generalize (⟨(adText a).toArray⟩ : ByteArray) = T at *
     go_wp2_with (first | (refine wpList_storeB rfl 123 (.tmp 2) (.tmp 31) rfl rfl b0 _ rfl rfl 123 _ (HB.out _ hE) infoAd rfl (by simp [Value.oneCell']) ?_; intro w9 hB9 hx9))
     have y0 : w9.cell? ⟨b0, 0, none⟩ = some (.string ⟨#[]⟩) := hB9.cell 0
     have y1 : w9.cell? ⟨b0, 1, none⟩ = some (.string ⟨#[]⟩) := hB9.cell 1
     have y2 : w9.cell? ⟨b0, 2, none⟩ = some (.string ⟨#[]⟩) := hB9.cell 2
     have y3 : w9.cell? ⟨b0, 3, none⟩ = some (.bool false) := hB9.cell 3
     exact bodyPost_ret (v := .tuple #[.agg #[.string ⟨#[]⟩, .string ⟨#[]⟩, .string ⟨#[]⟩, .bool false], errV 2]) (by simp [results, Tryz.results57, go_sem, y0, y1, y2, y3, errV]) rfl ⟨rfl, (HW.out.trans hE).growB hx9 Hb0.out⟩
    ·have hq : ((⟨(adText a).toArray⟩ : ByteArray).toList == s.toList) = true := by rw [ByteArray.toList_eq, ByteArray.toList_eq]; exact beq_iff_eq.2 hz
     obtain rfl : RA = some a := by rw [HRA.out, if_pos hz]
     obtain rfl : RE = 0 := HRe.out
     have HqA := zi (ha ▸ Hq.out : adrA (some a) = #[.string q1, .string q2, .string q3, .bool q4])
     generalize (⟨(adText a).toArray⟩ : ByteArray) = T at *
     have hXq := HX.out.ext hb4
     have x0 : w4.cell? ⟨bx, 0, none⟩ = some (.string q1) := hXq.cell 0
     have x1 : w4.cell? ⟨bx, 1, none⟩ = some (.string q2) := hXq.cell 1
     have x2 : w4.cell? ⟨bx, 2, none⟩ = some (.string q3) := hXq.cell 2
     have x3 : w4.cell? ⟨bx, 3, none⟩ = some (.bool q4) := hXq.cell 3
     clear hXq
     go_wp2_with (first | (refine wpList_storeB rfl 123 (.tmp 2) (.tmp 33) rfl rfl b0 _ rfl rfl 123 _ (HB.out _ hE) infoAd rfl (by simp [Value.oneCell']) ?_; intro w9 hB9 hx9))
     have y0 : w9.cell? ⟨b0, 0, none⟩ = some (.string q1) := hB9.cell 0
     have y1 : w9.cell? ⟨b0, 1, none⟩ = some (.string q2) := hB9.cell 1
     have y2 : w9.cell? ⟨b0, 2, none⟩ = some (.string q3) := hB9.cell 2
     have y3 : w9.cell? ⟨b0, 3, none⟩ = some (.bool q4) := hB9.cell 3
     exact bodyPost_ret (v := .tuple #[.agg #[.string q1, .string q2, .string q3, .bool q4], errV 0]) (by simp [results, Tryz.results57, go_sem, y0, y1, y2, y3, errV]) rfl ⟨by rw [HqA.out], (HW.out.trans hE).growB hx9 Hb0.out⟩
  ·go_simp
   try go_wp2_with fail
   refine hK.out _ _ ?_ (fun hHeld => ?_)
   ·(try dsimp only); (try trivial)
   clear hK K
   try simp only [zP]
   refine wpAnyH_ready (rs := [6]) (by kernel_rfl) (by simp) ?_
   refine AllReadyH.cons (o := ⟨some 20, _, _, _, _, _⟩) rfl (fun K hK => ?_) AllReadyH.nil
   go_simp
   have HX5 := zi (Blk.new W0.drew 123 #[.string ⟨#[]⟩, .string ⟨#[]⟩, .string ⟨#[]⟩, .bool false]); have hE5 := hE.alloc (.cells #[.string ⟨#[]⟩, .string ⟨#[]⟩, .string ⟨#[]⟩, .bool false] 123); refine (HP.out _ (HW.out.trans hE5)).mono ?_; rintro e w3 ⟨⟨n3, rfl, hn3, hi3⟩, hb3⟩; have HX3 := zi (HX5.out.ext hb3); replace hE := hE5.trans hb3
   try go_wp2_with fail
   refine hK.out _ _ ?_ (fun hHeld => ?_)
   ·(try dsimp only); (try trivial)
   clear hK K
   try simp only [zP]
   refine zH (v := ?_) 7 (some 13) rfl ?_ ?_; rotate_left
   ·(intro w hSw; (try dsimp only at hSw); go_simp; (try with_reducible rfl))
   try simp only [zP]
   refine zH (v := ?_) 8 (some 21) rfl ?_ ?_; rotate_left
   ·(intro w hSw; (try dsimp only at hSw); go_simp; (try with_reducible rfl))
   try simp only [zP]
   refine zH (v := ?_) 9 (some 22) rfl ?_ ?_; rotate_left
   ·(intro w hSw; (try dsimp only at hSw); go_simp; (try with_reducible rfl))
   try simp only [zP]
   refine wpAnyH_ready (rs := [11]) (by kernel_rfl) (by simp) ?_
   refine AllReadyH.cons (o := ⟨none, _, _, _, _, _⟩) rfl (fun K hK => ?_) AllReadyH.nil
   have c0 : w3.cell? ⟨W0.heap.size, 0, none⟩ = some (.string ⟨#[]⟩) := HX3.out.cell 0; have f0 : w3.frozen? ⟨W0.heap.size, 0, none⟩ = false := HX3.out.frozen 0; have c1 : w3.cell? ⟨W0.heap.size, 1, none⟩ = some (.string ⟨#[]⟩) := HX3.out.cell 1; have f1 : w3.frozen? ⟨W0.heap.size, 1, none⟩ = false := HX3.out.frozen 1; have c2 : w3.cell? ⟨W0.heap.size, 2, none⟩ = some (.string ⟨#[]⟩) := HX3.out.cell 2; have f2 : w3.frozen? ⟨W0.heap.size, 2, none⟩ = false := HX3.out.frozen 2; have c3 : w3.cell? ⟨W0.heap.size, 3, none⟩ = some (.bool false) := HX3.out.cell 3; have f3 : w3.frozen? ⟨W0.heap.size, 3, none⟩ = false := HX3.out.frozen 3
   go_simp
   try go_wp2_with fail
   refine hK.out _ _ ?_ (fun hHeld => ?_)
   ·(try dsimp only); (try trivial)
   clear hK K
   try simp only [zP]
   refine zH (v := ?_) 12 (some 6) rfl ?_ ?_; rotate_left
   ·(intro w hSw; (try dsimp only at hSw); go_simp; (try with_reducible rfl))
   try simp only [zP]
   refine wpAnyH_done (by kernel_rfl) ?_ _
   have HX := zi (show Blk ((((w3.setCell ⟨W0.heap.size, 0, none⟩ (.string q1)).setCell ⟨W0.heap.size, 1, none⟩ (.string q2)).setCell ⟨W0.heap.size, 2, none⟩ (.string q3)).setCell ⟨W0.heap.size, 3, none⟩ (.bool q4)) W0.heap.size 123 #[.string q1, .string q2, .string q3, .bool q4] from (((HX3.out.set_ 0 (.string q1)).set_ 1 (.string q2)).set_ 2 (.string q3)).set_ 3 (.bool q4))
   replace hE := (((hE.setCell (p := ⟨W0.heap.size, 0, none⟩) (Nat.le_refl _) (.string q1)).setCell (p := ⟨W0.heap.size, 1, none⟩) (Nat.le_refl _) (.string q2)).setCell (p := ⟨W0.heap.size, 2, none⟩) (Nat.le_refl _) (.string q3)).setCell (p := ⟨W0.heap.size, 3, none⟩) (Nat.le_refl _) (.bool q4)
   clear c0 c1 c2 c3 f0 f1 f2 f3
   generalize (((w3.setCell ⟨W0.heap.size, 0, none⟩ (.string q1)).setCell ⟨W0.heap.size, 1, none⟩ (.string q2)).setCell ⟨W0.heap.size, 2, none⟩ (.string q3)).setCell ⟨W0.heap.size, 3, none⟩ (.bool q4) = wx at *
   generalize hbx : W0.heap.size = bx at *
   rcases errV_eq0 n3 with ⟨h0, h1⟩ | ⟨h0, h1⟩
   rotate_left
   ·rw [h1]
    have hPn : P = none := by cases P with | none => rfl | some a => exact absurd (hi3.2 rfl) h0
    obtain rfl : RA = none := by rw [HRA.out, hPn]
    obtain rfl : RE = 2 := HRe.out
    go_wp2_with (first | (refine wpList_storeB rfl 123 (.tmp 2) (.tmp 31) rfl rfl b0 _ rfl rfl 123 _ (HB.out _ hE) infoAd rfl (by simp [Value.oneCell']) ?_; intro w9 hB9 hx9))
    have y0 : w9.cell? ⟨b0, 0, none⟩ = some (.string ⟨#[]⟩) := hB9.cell 0
    have y1 : w9.cell? ⟨b0, 1, none⟩ = some (.string ⟨#[]⟩) := hB9.cell 1
    have y2 : w9.cell? ⟨b0, 2, none⟩ = some (.string ⟨#[]⟩) := hB9.cell 2
    have y3 : w9.cell? ⟨b0, 3, none⟩ = some (.bool false) := hB9.cell 3
    exact bodyPost_ret (v := .tuple #[.agg #[.string ⟨#[]⟩, .string ⟨#[]⟩, .string ⟨#[]⟩, .bool false], errV 2]) (by simp [results, Tryz.results57, go_sem, y0, y1, y2, y3, errV]) rfl ⟨rfl, (HW.out.trans hE).growB hx9 Hb0.out⟩
   ·rw [h1]
    obtain ⟨a, ha⟩ := Option.isSome_iff_exists.1 (hi3.1 h0)
    have HRA := zi (show RA = if adText a = bsL s then some a else none by rw [HRA.out, ha])
    have hs4 := Hsz.out a ha
    obtain ⟨e1, e2, e3, e4⟩ := adr_q (ha ▸ Hq.out)
    have z1 := sz_arr a.host; have z2 := sz_arr a.path; have z3 := sz_arr a.query
    rw [← e1] at z1; rw [← e2] at z2; rw [← e3] at z3
    have HT := zi (fun w' => adr_text q1 q2 q3 q4 w' (by omega))
    rw [show (if q4 then q1 ++ q2 ++ ⟨#[63]⟩ ++ q3 else q1 ++ q2) = (⟨(adText a).toArray⟩ : ByteArray) by rw [e1, e2, e3, e4, text_eq a]] at HT
    have hXq := HX.out
    have x0 : wx.cell? ⟨bx, 0, none⟩ = some (.string q1) := hXq.cell 0
    have x1 : wx.cell? ⟨bx, 1, none⟩ = some (.string q2) := hXq.cell 1
    have x2 : wx.cell? ⟨bx, 2, none⟩ = some (.string q3) := hXq.cell 2
    have x3 : wx.cell? ⟨bx, 3, none⟩ = some (.bool q4) := hXq.cell 3
    clear hXq z1 z2 z3 e1 e2 e3 e4 hs4
    go_wp2_with fail
    refine (HT.out _).mono ?_; rintro e w4 ⟨rfl, hb4⟩
    replace hE := hE.trans hb4
    clear x0 x1 x2 x3
    by_cases hz : adText a = bsL s
    rotate_left
    ·have hq : ((⟨(adText a).toArray⟩ : ByteArray).toList == s.toList) = false := by rw [ByteArray.toList_eq, ByteArray.toList_eq]; exact beq_eq_false_iff_ne.2 hz
     obtain rfl : RA = none := by rw [HRA.out, if_neg hz]
     obtain rfl : RE = 2 := HRe.out
     generalize (⟨(adText a).toArray⟩ : ByteArray) = T at *
     go_wp2_with (first | (refine wpList_storeB rfl 123 (.tmp 2) (.tmp 31) rfl rfl b0 _ rfl rfl 123 _ (HB.out _ hE) infoAd rfl (by simp [Value.oneCell']) ?_; intro w9 hB9 hx9))
     have y0 : w9.cell? ⟨b0, 0, none⟩ = some (.string ⟨#[]⟩) := hB9.cell 0
     have y1 : w9.cell? ⟨b0, 1, none⟩ = some (.string ⟨#[]⟩) := hB9.cell 1
     have y2 : w9.cell? ⟨b0, 2, none⟩ = some (.string ⟨#[]⟩) := hB9.cell 2
     have y3 : w9.cell? ⟨b0, 3, none⟩ = some (.bool false) := hB9.cell 3
     exact bodyPost_ret (v := .tuple #[.agg #[.string ⟨#[]⟩, .string ⟨#[]⟩, .string ⟨#[]⟩, .bool false], errV 2]) (by simp [results, Tryz.results57, go_sem, y0, y1, y2, y3, errV]) rfl ⟨rfl, (HW.out.trans hE).growB hx9 Hb0.out⟩
    ·have hq : ((⟨(adText a).toArray⟩ : ByteArray).toList == s.toList) = true := by rw [ByteArray.toList_eq, ByteArray.toList_eq]; exact beq_iff_eq.2 hz
     obtain rfl : RA = some a := by rw [HRA.out, if_pos hz]
     obtain rfl : RE = 0 := HRe.out
     have HqA := zi (ha ▸ Hq.out : adrA (some a) = #[.string q1, .string q2, .string q3, .bool q4])
     generalize (⟨(adText a).toArray⟩ : ByteArray) = T at *
     have hXq := HX.out.ext hb4
     have x0 : w4.cell? ⟨bx, 0, none⟩ = some (.string q1) := hXq.cell 0
     have x1 : w4.cell? ⟨bx, 1, none⟩ = some (.string q2) := hXq.cell 1
     have x2 : w4.cell? ⟨bx, 2, none⟩ = some (.string q3) := hXq.cell 2
     have x3 : w4.cell? ⟨bx, 3, none⟩ = some (.bool q4) := hXq.cell 3
     clear hXq
     go_wp2_with (first | (refine wpList_storeB rfl 123 (.tmp 2) (.tmp 33) rfl rfl b0 _ rfl rfl 123 _ (HB.out _ hE) infoAd rfl (by simp [Value.oneCell']) ?_; intro w9 hB9 hx9))
     have y0 : w9.cell? ⟨b0, 0, none⟩ = some (.string q1) := hB9.cell 0
     have y1 : w9.cell? ⟨b0, 1, none⟩ = some (.string q2) := hB9.cell 1
     have y2 : w9.cell? ⟨b0, 2, none⟩ = some (.string q3) := hB9.cell 2
     have y3 : w9.cell? ⟨b0, 3, none⟩ = some (.bool q4) := hB9.cell 3
     exact bodyPost_ret (v := .tuple #[.agg #[.string q1, .string q2, .string q3, .bool q4], errV 0]) (by simp [results, Tryz.results57, go_sem, y0, y1, y2, y3, errV]) rfl ⟨by rw [HqA.out], (HW.out.trans hE).growB hx9 Hb0.out⟩
end Go.Proofs.YtmckbcbdnckngaaGreatDoor

namespace Go.Proofs.YtmckbcbdnckngaaGreatDoor
open Go.RowKit

theorem bigVr_eq (m : MV) : bigVr m.ver = (decide (65536 < m.body.size) || decide (8 < m.vars.length) || m.vars.any fun x => bigX x.1) := by
 unfold bigVr MV.ver bigX
 simp only [List.length_map, List.any_map]
 rfl
theorem or_large (Q : Nat → Prop) (m : MV) (w : World) (h : m.At Q w) (hb : m.body.size ≤ 1099511627776) (hv : m.vars.length ≤ 1099511627776) :
  Calls Tryz.prog 41 #[.agg m.cells.toArray] w fun e w' => e = .returned (.bool (bigVr m.ver)) ∧ Ext w w' := by
 have hbl : m.body.size = m.bd.n := by have := h.bd.len1; rw [bytC_len] at this; exact this
 have hvl := h.vlen
 have HA := zi (fun w' (hx : Ext w w') => vrI_any m.vr.A m.vr.n m.vr.c m.vars (fun x => bigX x.1) w' (h.vr.ext hx).rd (by omega) (fun x hx2 W hW => or_large1 x W (by have := ((h.each x hx2).bd).len1; rw [bytC_len] at this; exact this.symm)))
 have HR := zi (bigVr_eq m)
 have Hvl := zi hvl
 generalize (m.vars.any fun x => bigX x.1) = av at *
 generalize bigVr m.ver = R at *
 rw [hbl] at hb HR
 rw [hvl] at hv HR
 clear h hbl hvl
 obtain ⟨addr, status, f, body, vars, ⟨fA, fn, fc⟩, ⟨bA, bn, bc⟩, ⟨vA, vn, vc⟩⟩ := m
 simp only [MV.cells, Sl.v] at *
 clear Hvl
 have HX := zi (Blk.new w 36 #[.string addr, .int .i64 status, .slice fA fn fc, .slice bA bn bc, .slice vA vn vc])
 have HW := zi ((Ext.refl w).alloc (.cells #[.string addr, .int .i64 status, .slice fA fn fc, .slice bA bn bc, .slice vA vn vc] 36))
 have x3 : (w.alloc (.cells #[.string addr, .int .i64 status, .slice fA fn fc, .slice bA bn bc, .slice vA vn vc] 36)).cell? ⟨w.heap.size, 3, none⟩ = some (.slice bA bn bc) := HX.out.cell 3
 have x4 : (w.alloc (.cells #[.string addr, .int .i64 status, .slice fA fn fc, .slice bA bn bc, .slice vA vn vc] 36)).cell? ⟨w.heap.size, 4, none⟩ = some (.slice vA vn vc) := HX.out.cell 4
 by_cases h1 : 65536 < bn
 ·obtain rfl : R = true := by rw [HR.out]; simp [h1]
  have h1' : (65536 : Int) < bn := by omega
  go_enter Tryz.func41, Tryz.ntmps41
  go_wp2_with fail
  go_ret
  exact ⟨rfl, HW.out⟩
 ·by_cases h2 : 8 < vn
  ·obtain rfl : R = true := by rw [HR.out]; simp [h2]
   have h1' : ¬ (65536 : Int) < bn := by omega
   have h2' : (8 : Int) < vn := by omega
   go_enter Tryz.func41, Tryz.ntmps41
   go_wp2_with fail
   go_ret
   exact ⟨rfl, HW.out⟩
  ·obtain rfl : R = av := by rw [HR.out]; simp [h1, h2]
   have h1' : ¬ (65536 : Int) < bn := by omega
   have h2' : ¬ (8 : Int) < vn := by omega
   go_enter Tryz.func41, Tryz.ntmps41
   go_wp2_with fail
   refine (HA.out _ HW.out).mono ?_; rintro e w1 ⟨rfl, hb1⟩
   go_wp2_with fail
   go_ret
   exact ⟨rfl, HW.out.trans hb1⟩
def inSp (t : Int) (b : Int × Int) : Bool := decide (b.1 ≤ t) && decide (t < b.2)
theorem or_choose1 (x : Int × Int) (t : Int) (B : Nat) (w : World) (ht : w.cell? ⟨B, 0, none⟩ = some (.int .i64 t)) :
  Calls Tryz.prog 78 (#[.agg (spnC x).toArray] ++ #[.pointer (some ⟨B, 0, none⟩)]) w fun e w' => e = .returned (.bool (inSp t x)) ∧ Ext w w' := by
 obtain ⟨x1, x2⟩ := x
 simp only [spnC] at *
 have HR := zi (show inSp t (x1, x2) = (decide (x1 ≤ t) && decide (t < x2)) from rfl)
 generalize inSp t (x1, x2) = R at *
 have hX := Blk.new w 140 #[.int .i64 x1, .int .i64 x2]
 have c0 : (w.alloc (.cells #[.int .i64 x1, .int .i64 x2] 140)).cell? ⟨w.heap.size, 0, none⟩ = some (.int .i64 x1) := hX.cell 0
 have c1 : (w.alloc (.cells #[.int .i64 x1, .int .i64 x2] 140)).cell? ⟨w.heap.size, 1, none⟩ = some (.int .i64 x2) := hX.cell 1
 have c2 : (w.alloc (.cells #[.int .i64 x1, .int .i64 x2] 140)).cell? ⟨B, 0, none⟩ = some (.int .i64 t) := ((Ext.refl w).alloc _).cell ht
 clear hX
 show Calls Tryz.prog 78 #[.agg #[.int .i64 x1, .int .i64 x2], .pointer (some ⟨B, 0, none⟩)] w _
 by_cases h1 : x1 ≤ t
 ·by_cases h2 : t < x2
  ·obtain rfl : R = true := by rw [HR.out]; simp [h1, h2]
   go_enter Tryz.func78, Tryz.ntmps78
   go_wp2_with fail
   go_ret
   exact ⟨rfl, (Ext.refl w).alloc _⟩
  ·obtain rfl : R = false := by rw [HR.out]; simp [h2]
   go_enter Tryz.func78, Tryz.ntmps78
   go_wp2_with fail
   go_ret
   exact ⟨rfl, (Ext.refl w).alloc _⟩
 ·obtain rfl : R = false := by rw [HR.out]; simp [h1]
  go_enter Tryz.func78, Tryz.ntmps78
  go_wp2_with fail
  go_ret
  exact ⟨rfl, (Ext.refl w).alloc _⟩

theorem bszF : ∀ (fs : List Fd), Bsz (sumF fs) fs
 | [] => fun f hf => by cases hf
 | x :: l => fun f hf => by
  have hs : sumF (x :: l) = x.1.size + x.2.size + sumF l := by simp [sumF]
  rcases List.mem_cons.1 hf with rfl | hf
  ·omega
  ·have := bszF l f hf
   omega
theorem beqB {a b : ByteArray} : (a == b) = decide (a = b) := by
 rw [Bool.eq_iff_iff, decide_eq_true_eq]
 cases a; cases b
 show ((_ : Array UInt8) == _) = true ↔ _
 rw [beq_iff_eq]
 constructor
 ·intro h; subst h; rfl
 ·intro h; injection h
def okNames (x : Vr) : Bool := x.names.all nameOk
theorem okVr_eq (m : MV) : okVr m.ver = ((rdAd m.addr).isSome && decide (200 ≤ m.status) && decide (m.status ≤ 599) && chkS m.f == 0 && sixN.all (fun n => (allS m.f n).isEmpty) && m.vars.all fun x => okNames x.1) := by
 unfold okVr MV.ver okNames
 simp only [List.all_map]
 rfl
theorem all_step {α : Type} {l : List α} {p : α → Bool} {k : Nat} (h : k < l.length) (ha : (l.take k).all p = true) : (l.take (k + 1)).all p = p l[k] := by
 rw [take_step l k h, List.all_append, ha]; simp
theorem all_no {α : Type} {l : List α} {p : α → Bool} {k : Nat} (h : k < l.length) (ha : p l[k] = false) : l.all p = false :=
 List.all_eq_false.2 ⟨_, List.getElem_mem h, by rw [ha]; simp⟩
theorem isEmp {l : List ByteArray} : (decide (0 < l.length)) = !l.isEmpty := by cases l <;> simp
theorem or_valid (Q : Nat → Prop) (m : MV) (w : World) (h : m.At Q w) (ha : m.addr.size ≤ 1048576) (hf : m.f.length ≤ 1048576) (hT : sumF m.f ≤ 1048576) (hv : m.vars.length ≤ 1048576)
  (hx : ∀ x ∈ m.vars, x.1.names.length ≤ 1048576 ∧ ∀ n ∈ x.1.names, n.size ≤ 1048576) (hg : Gl w) :
  Calls Tryz.prog 42 #[.agg m.cells.toArray] w fun e w' => e = .returned (.bool (okVr m.ver)) ∧ Ext w w' := by
 have hfl := h.fs.rd.lenF
 have hvl := h.vlen
 have hbz := bszF m.f
 have HRd := zi (fun w' (hh : Ext w w') => adr_Read m.addr w' ha (hg.ext hh))
 have HCk := zi (fun w' (hh : Ext w w') => field_Check m.fs.A m.fs.n m.fs.c m.f w' (h.fs.rd.ext hh) (by omega) (fun f hf => ⟨by have := (hbz f hf).1; omega, by have := (hbz f hf).2; omega⟩))
 have HGt := zi (fun w' nm (hh : Ext w w') (hn : nm.size ≤ 100) => field_Get m.fs.A m.fs.n m.fs.c m.f nm w' (h.fs.rd.ext hh) (by omega) (by omega) 1048576 (by omega) (fun f hf => ⟨by have := (hbz f hf).1; omega, by have := (hbz f hf).2; omega⟩) (by omega))
 have HAt := zi h
 have HR := zi (okVr_eq m)
 have Hx := zi hx
 have Hvl := zi hvl
 have HRE := zi (show rdE m.addr = if (rdAd m.addr).isSome then 0 else 2 from rfl)
 generalize okVr m.ver = R at *
 clear hfl hbz h hx ha hf hT
 obtain ⟨addr, status, f, body, vars, ⟨fA, fn, fc⟩, ⟨bA, bn, bc⟩, ⟨vA, vn, vc⟩⟩ := m
 simp only [MV.cells, Sl.v] at *
 have hvn : vn ≤ 1048576 := by omega
 clear hv hvl
 generalize chkS f = ck at *
 generalize hra : adrA (rdAd addr) = ra at *
 obtain ⟨q1, q2, q3, q4, hq⟩ : ∃ q1 q2 q3 q4, ra = #[.string q1, .string q2, .string q3, .bool q4] := by
  subst hra
  cases rdAd addr with
  | none => exact ⟨_, _, _, _, rfl⟩
  | some a => exact ⟨_, _, _, _, rfl⟩
 subst hq
 clear hra
 generalize (rdAd addr).isSome = ok at *
 generalize rdE addr = re at *
 have HX := zi (Blk.new w 36 #[.string addr, .int .i64 status, .slice fA fn fc, .slice bA bn bc, .slice vA vn vc])
 have HW := zi ((Ext.refl w).alloc (.cells #[.string addr, .int .i64 status, .slice fA fn fc, .slice bA bn bc, .slice vA vn vc] 36))
 have HS := zi (fun w' (hh : Ext (w.alloc (.cells #[.string addr, .int .i64 status, .slice fA fn fc, .slice bA bn bc, .slice vA vn vc] 36)) w') => (⟨(HX.out.ext hh).cell 0, (HX.out.ext hh).cell 1, (HX.out.ext hh).cell 2, (HX.out.ext hh).cell 3, (HX.out.ext hh).cell 4⟩ : w'.cell? ⟨w.heap.size, 0, none⟩ = some (.string addr) ∧ w'.cell? ⟨w.heap.size, 1, none⟩ = some (.int .i64 status) ∧ w'.cell? ⟨w.heap.size, 2, none⟩ = some (.slice fA fn fc) ∧ w'.cell? ⟨w.heap.size, 3, none⟩ = some (.slice bA bn bc) ∧ w'.cell? ⟨w.heap.size, 4, none⟩ = some (.slice vA vn vc)))
 obtain ⟨x0, x1, x2, x3, x4⟩ := HS.out _ (Ext.refl _)
 go_enter Tryz.func42, Tryz.ntmps42
 go_wp2_with fail
 refine (HRd.out _ HW.out).mono ?_; rintro e w1 ⟨rfl, hb1⟩
 clear x0 x1 x2 x3 x4
 generalize w.alloc (.cells #[.string addr, .int .i64 status, .slice fA fn fc, .slice bA bn bc, .slice vA vn vc] 36) = Wb at *
 have hE := hb1.alloc (.cells #[.string q1, .string q2, .string q3, .bool q4] 123)
 obtain ⟨x0, x1, x2, x3, x4⟩ := HS.out _ hE
 rcases errV_eq0 re with ⟨h0, h1⟩ | ⟨h0, h1⟩
 rotate_left
 ·obtain rfl : R = false := by
   have : ok = false := by cases hok : ok with | false => rfl | true => rw [hok] at HRE; exact absurd HRE.out h0
   rw [HR.out, this]; simp
  rw [h1]
  go_wp2_with fail
  go_ret
  exact ⟨rfl, HW.out.trans hE⟩
 rw [h1]
 have hok : ok = true := by
  cases hok : ok with
  | true => rfl
  | false => rw [hok, h0] at HRE; exact absurd HRE.out (by simp)
 subst hok
 by_cases h2 : status < 200
 ·obtain rfl : R = false := by rw [HR.out]; simp; intros; omega
  go_wp2_with fail
  go_ret
  exact ⟨rfl, HW.out.trans hE⟩
 by_cases h3 : 599 < status
 ·obtain rfl : R = false := by rw [HR.out]; simp; intros; omega
  go_wp2_with fail
  go_ret
  exact ⟨rfl, HW.out.trans hE⟩
 go_wp2_with fail
 refine (HCk.out _ (HW.out.trans hE)).mono ?_; rintro e w2 ⟨rfl, hb2⟩
 clear x0 x1 x2 x3 x4
 replace hE := hE.trans hb2
 rcases errV_eq0 ck with ⟨h4, h5⟩ | ⟨h4, h5⟩
 rotate_left
 ·obtain rfl : R = false := by rw [HR.out]; simp [h4]
  rw [h5]
  go_wp2_with fail
  go_ret
  exact ⟨rfl, HW.out.trans hE⟩
 rw [h5]
 have HR1 := zi (show R = (sixN.all (fun n => (allS f n).isEmpty) && vars.all fun x => okNames x.1) by
  rw [HR.out, h4]; simp only [Bool.true_and, decide_eq_true (show 200 ≤ status by omega), decide_eq_true (show status ≤ 599 by omega)]; rfl)
 clear HRd HCk h0 h1 h4 h5 hb1 hb2 HRE
 go_wp2_with fail
 have hNm : RdS (w2.alloc (.cells #[.string ⟨#[100, 97, 116, 101]⟩, .string ⟨#[97, 103, 101]⟩, .string ⟨#[99, 111, 110, 116, 101, 110, 116, 45, 108, 101, 110, 103, 116, 104]⟩, .string ⟨#[99, 111, 110, 116, 101, 110, 116, 45, 114, 97, 110, 103, 101]⟩, .string ⟨#[116, 114, 97, 110, 115, 102, 101, 114, 45, 101, 110, 99, 111, 100, 105, 110, 103]⟩, .string ⟨#[99, 111, 110, 110, 101, 99, 116, 105, 111, 110]⟩] 9)) (some ⟨w2.heap.size, 0, none⟩) 6 sixN := Rd.lit w2 #[.string ⟨#[100, 97, 116, 101]⟩, .string ⟨#[97, 103, 101]⟩, .string ⟨#[99, 111, 110, 116, 101, 110, 116, 45, 108, 101, 110, 103, 116, 104]⟩, .string ⟨#[99, 111, 110, 116, 101, 110, 116, 45, 114, 97, 110, 103, 101]⟩, .string ⟨#[116, 114, 97, 110, 115, 102, 101, 114, 45, 101, 110, 99, 111, 100, 105, 110, 103]⟩, .string ⟨#[99, 111, 110, 110, 101, 99, 116, 105, 111, 110]⟩] 9 rfl 1 6 rfl
 replace hE := hE.alloc (.cells #[.string ⟨#[100, 97, 116, 101]⟩, .string ⟨#[97, 103, 101]⟩, .string ⟨#[99, 111, 110, 116, 101, 110, 116, 45, 108, 101, 110, 103, 116, 104]⟩, .string ⟨#[99, 111, 110, 116, 101, 110, 116, 45, 114, 97, 110, 103, 101]⟩, .string ⟨#[116, 114, 97, 110, 115, 102, 101, 114, 45, 101, 110, 99, 111, 100, 105, 110, 103]⟩, .string ⟨#[99, 111, 110, 110, 101, 99, 116, 105, 111, 110]⟩] 9)
 generalize w2.alloc (.cells #[.string ⟨#[100, 97, 116, 101]⟩, .string ⟨#[97, 103, 101]⟩, .string ⟨#[99, 111, 110, 116, 101, 110, 116, 45, 108, 101, 110, 103, 116, 104]⟩, .string ⟨#[99, 111, 110, 116, 101, 110, 116, 45, 114, 97, 110, 103, 101]⟩, .string ⟨#[116, 114, 97, 110, 115, 102, 101, 114, 45, 101, 110, 99, 111, 100, 105, 110, 103]⟩, .string ⟨#[99, 111, 110, 110, 101, 99, 116, 105, 111, 110]⟩] 9) = w4 at *
 generalize w2.heap.size = bN at *
 have hE4 := zi hE
 clear hE
 go_loopw [41] (fun i wr => ∃ k : Nat, k ≤ 6 ∧ i = .int .i64 (k : Nat) ∧ (sixN.take k).all (fun n => (allS f n).isEmpty) = true ∧ Ext w4 wr) (fun i _ => 6 - (intOf i).toNat)
 case atStart => exact ⟨0, by omega, rfl, rfl, Ext.refl _⟩
 case round =>
  obtain ⟨k, hk, rfl, hall, hbr⟩ := hrel
  by_cases hlt : k < 6
  ·have hlt' : k < sixN.length := hlt
   obtain ⟨b, o, hbo, hc0⟩ := (hNm.ext hbr).atS hlt'
   injection hbo with hbo
   injection hbo with e1 e2
   subst e1; subst e2
   rw [Nat.zero_add] at hc0
   have Hst := zi (all_step hlt' hall)
   have Hno := zi (@all_no _ sixN (fun n => (allS f n).isEmpty) k hlt')
   have Hsz := zi (show (sixN[k]).size ≤ 100 from (show ∀ x ∈ sixN, x.size ≤ 100 by decide +kernel) _ (List.getElem_mem hlt'))
   clear hall
   generalize sixN[k] = nm at *
   obtain ⟨x0, x1, x2, x3, x4⟩ := HS.out _ (hE4.out.trans hbr)
   have HG2 := zi (HGt.out wr nm (HW.out.trans (hE4.out.trans hbr)) Hsz.out)
   rw [isEmp] at HG2
   generalize joinS (allS f nm) = jv at *
   cases hem : (allS f nm).isEmpty
   ·rw [hem] at HG2
    obtain rfl : R = false := by rw [HR1.out, Hno.out hem]; rfl
    go_wp2_with fail
    refine HG2.out.mono ?_; rintro e w5 ⟨rfl, hb5⟩
    go_wp2_with fail
    go_ret
    exact ⟨rfl, HW.out.trans (hE4.out.trans (hbr.trans hb5))⟩
   ·rw [hem] at HG2
    go_wp2_with fail
    refine HG2.out.mono ?_; rintro e w5 ⟨rfl, hb5⟩
    go_wp2_with fail
    first | go_roundw | refine ⟨?rel, ?measure⟩
    case rel => exact ⟨k + 1, by omega, by go_num, Hst.out.trans hem, hbr.trans hb5⟩
    case measure => simp [intOf]; omega
  ·obtain rfl : k = 6 := by omega
   have HR2 := zi (show R = vars.all fun x => okNames x.1 by rw [HR1.out, show sixN.all (fun n => (allS f n).isEmpty) = true from hall]; rfl)
   replace hE4 := zi (hE4.out.trans hbr)
   obtain ⟨x0, x1, x2, x3, x4⟩ := HS.out _ hE4.out
   clear hall hNm HGt hbr hlt
   go_wp2_with fail
   clear x0 x1 x2 x3 x4
   go_loopw [57] (fun i wi => ∃ k : Nat, k ≤ vn ∧ i = .int .i64 (k : Nat) ∧ (vars.take k).all (fun x => okNames x.1) = true ∧ Ext Wb wi) (fun i _ => vn - (intOf i).toNat)
   case atStart => exact ⟨0, by omega, rfl, rfl, hE4.out⟩
   case round =>
    obtain ⟨k, hk, rfl, hall, hbi⟩ := hrel
    by_cases hlt : k < vn
    ·have hlt' : k < vars.length := by have := Hvl.out; omega
     obtain ⟨b, o, hbo, c0, c1, c2, c3⟩ := (HAt.out.ext (HW.out.trans hbi)).var hlt'
     simp only at hbo
     subst hbo
     have Hst := zi (all_step hlt' hall)
     have Hno := zi (@all_no _ vars (fun x => okNames x.1) k hlt')
     have hxk := Hx.out _ (List.getElem_mem hlt')
     have HVr := zi ((HAt.out.each _ (List.getElem_mem hlt')).nm.rd)
     clear hall
     generalize vars[k] = x at *
     obtain ⟨⟨names, key, tag, xb⟩, ⟨⟨nA, nn, nc⟩, ⟨dA, dn, dc⟩⟩⟩ := x
     simp only [Sl.v] at *
     obtain ⟨hx1, hx2⟩ := hxk
     have hnn : names.length = nn := HVr.out.lenS
     have hnn2 : nn ≤ 1048576 := by omega
     have Hnn := zi hnn
     have Hx2 := zi hx2
     clear hnn hx1 hx2
     have HXv := zi (Blk.new wr 58 #[.slice nA nn nc, .string key, .string tag, .slice dA dn dc])
     have v0 : (wr.alloc (.cells #[.slice nA nn nc, .string key, .string tag, .slice dA dn dc] 58)).cell? ⟨wr.heap.size, 0, none⟩ = some (.slice nA nn nc) := HXv.out.cell 0
     replace hbi := hbi.alloc (.cells #[.slice nA nn nc, .string key, .string tag, .slice dA dn dc] 58)
     go_wp2_with fail
     clear v0 c0 c1 c2 c3
     generalize wr.alloc (.cells #[.slice nA nn nc, .string key, .string tag, .slice dA dn dc] 58) = wv at *
     go_loopw [64] (fun i wj => ∃ j : Nat, j ≤ nn ∧ i = .int .i64 (j : Nat) ∧ (names.take j).all nameOk = true ∧ Ext Wb wj) (fun i _ => nn - (intOf i).toNat)
     case atStart => exact ⟨0, by omega, rfl, rfl, hbi⟩
     case round =>
      obtain ⟨j, hj, rfl, halj, hbj⟩ := hrel
      by_cases hjt : j < nn
      ·have hjt' : j < names.length := by have := Hnn.out; omega
       obtain ⟨b2, o2, rfl, hd0⟩ := (HVr.out.ext (HW.out.trans hbj)).atS hjt'
       have Hsj := zi (all_step hjt' halj)
       have Hnj := zi (@all_no _ names nameOk j hjt')
       have hzj := Hx2.out _ (List.getElem_mem hjt')
       generalize names[j] = nm at *
       have HN := zi (field_Name nm wr (by omega))
       have HnO := zi (show nameOk nm = (nameE nm == 0 && nameS nm == nm) from rfl)
       generalize nameOk nm = nk at *
       rcases errV_eq0 (nameE nm) with ⟨h0, h1⟩ | ⟨h0, h1⟩
       rotate_left
       ·rw [h1] at HN
        obtain rfl : nk = false := by rw [HnO.out]; simp [h0]
        obtain rfl : R = false := by rw [HR2.out]; exact Hno.out (Hnj.out (by trivial))
        generalize nameS nm = ns at *
        generalize nameE nm = ne at *
        go_wp2_with fail
        refine HN.out.mono ?_; rintro e w6 ⟨rfl, hb6⟩
        go_wp2_with fail
        go_ret
        exact ⟨rfl, HW.out.trans (hbj.trans hb6)⟩
       ·rw [h1] at HN
        rw [h0] at HnO
        generalize nameS nm = ns at *
        by_cases hns : ns = nm
        ·have hq : (ns.toList == nm.toList) = true := eqS_iff.2 hns
         obtain rfl : nk = true := by rw [HnO.out, hns, beqB]; simp
         clear hns
         go_wp2_with fail
         refine HN.out.mono ?_; rintro e w6 ⟨rfl, hb6⟩
         go_wp2_with fail
         first | go_roundw | refine ⟨?rel, ?measure⟩
         case rel => exact ⟨_, _, _, _, _, _, _, _, _, _, _, _, _, _, _, _, _, _, _, _, _, ⟨j + 1, by omega, by go_num, Hsj.out, hbj.trans hb6⟩, rfl⟩
         case measure => simp [intOf]; omega
        ·have hq : (ns.toList == nm.toList) = false := Bool.eq_false_iff.2 (fun e => hns (eqS_iff.1 e))
         obtain rfl : nk = false := by rw [HnO.out, beqB]; simp [hns]
         obtain rfl : R = false := by rw [HR2.out]; exact Hno.out (Hnj.out (by trivial))
         clear hns
         go_wp2_with fail
         refine HN.out.mono ?_; rintro e w6 ⟨rfl, hb6⟩
         go_wp2_with fail
         go_ret
         exact ⟨rfl, HW.out.trans (hbj.trans hb6)⟩
      ·obtain rfl : j = nn := by omega
       have HA := zi (show okNames ⟨names, key, tag, xb⟩ = true by rw [List.take_of_length_le (by have := Hnn.out; omega)] at halj; exact halj)
       clear halj hjt
       go_wp2_with fail
       first | go_roundw | refine ⟨?rel, ?measure⟩
       case rel => exact ⟨k + 1, by omega, by go_num, Hst.out.trans HA.out, hbj⟩
       case measure => simp [intOf]; omega
    ·obtain rfl : k = vn := by omega
     obtain rfl : R = true := by
      rw [HR2.out]
      rw [List.take_of_length_le (by have := Hvl.out; omega)] at hall; exact hall
     go_wp2_with fail
     go_ret
     exact ⟨rfl, HW.out.trans hbi⟩
end Go.Proofs.YtmckbcbdnckngaaGreatDoor

namespace Go.Proofs.YtmckbcbdnckngaaGreatDoor
open Go

section
variable {P : Program} {ops : Array Oper} {Q : Exit → Act → World → Prop} {md : Region.Mode} {S : World → Prop} {s : Nat}

def wpAnyU (P : Program) (md : Region.Mode) (ops : Array Oper) (Q : Exit → Act → World → Prop) (S : World → Prop) (s : Nat) : Nat → Array Bool → Act → World → Prop
 | 0, listed, a, w => Region.ready md ops listed = [] ∧ Q .normal a w
 | fuel + 1, listed, a, w =>
  (Region.ready md ops listed = [] → Q .normal a w) ∧
  ∀ i ∈ Region.ready md ops listed, wpOp P ops Q i (fun a' w' => ((listed.setIfInBounds i true).getD s true = false → S w') ∧ wpAnyU P md ops Q S s fuel (listed.setIfInBounds i true) a' w') a w
theorem wpAny_of_U : ∀ (fuel : Nat) (listed : Array Bool) (a : Act) (w : World), wpAnyU P md ops Q S s fuel listed a w → wpAny P md ops Q fuel listed a w
 | 0, _, _, _, h => h
 | fuel + 1, _, _, _, h => ⟨h.1, fun i hi => wpOp_mono (fun a' w' h' => wpAny_of_U fuel _ a' w' h'.2) (h.2 i hi)⟩
theorem listed_stays {listed : Array Bool} {i : Nat} (h : listed.getD s true = true) : (listed.setIfInBounds i true).getD s true = true := by
 by_cases hi : i = s
 ·subst hi
  simp [Array.getD]
 ·rw [getD_set_ne true hi]; exact h
theorem wpAnyU_after : ∀ (fuel : Nat) (listed : Array Bool) (a : Act) (w : World), listed.getD s true = true → wpAnyH P md ops Q (fun _ => True) fuel listed a w → wpAnyU P md ops Q S s fuel listed a w
 | 0, _, _, _, _, h => h
 | fuel + 1, listed, _, _, hs, h => ⟨h.1, fun i hi => wpOp_mono (fun a' w' h' => ⟨(fun e => by rw [listed_stays hs] at e; cases e), wpAnyU_after fuel _ a' w' (listed_stays hs) h'.2⟩) (h.2 i hi)⟩
def depB (md : Region.Mode) (ops : Array Oper) (i : Nat) (D : List Nat) : Bool :=
 D.all fun d => match ops[d]? with
  | some o => o.after.any fun e => Region.binds md e && (e.on == i || D.contains e.on)
  | none => false
def unB (listed : Array Bool) (D : List Nat) : Bool := D.all fun d => !listed.getD d true
theorem dep_notready {listed : Array Bool} {i : Nat} {D : List Nat} (hd : depB md ops i D = true) (hu : unB listed D = true) (hi : listed.getD i true = false) {j : Nat} (hj : j ∈ Region.ready md ops listed) : j ∉ D := by
 intro hjD
 have h1 := List.all_eq_true.1 hd j hjD
 obtain ⟨_, oj, hoj, hall⟩ := mem_ready.1 hj
 rw [hoj] at h1
 obtain ⟨e, he, hb⟩ := Array.any_eq_true'.1 h1
 simp only [Bool.and_eq_true, Bool.or_eq_true, beq_iff_eq, List.contains_eq_mem, decide_eq_true_eq] at hb
 have h2 := hall e he hb.1
 have h3 : listed.getD e.on true = false := by
  rcases hb.2 with h | h
  ·rw [h]; exact hi
  ·simpa using List.all_eq_true.1 hu _ h
 rw [Array.getD_eq_getD_getElem?] at h2 h3
 rcases Nat.lt_or_ge e.on listed.size with hl | hl
 ·rw [Array.getElem?_eq_getElem hl] at h2 h3
  simp at h2 h3
  rw [h2] at h3; cases h3
 ·rw [Array.getElem?_eq_none hl] at h3
  simp at h3
theorem un_set {listed : Array Bool} {D : List Nat} (hu : unB listed D = true) {j : Nat} (hj : j ∉ D) : unB (listed.setIfInBounds j true) D = true := by
 unfold unB at *
 rw [List.all_eq_true] at *
 intro d hd
 have hne : j ≠ d := fun e => hj (e ▸ hd)
 rw [getD_set_ne true hne]
 exact hu d hd
theorem wpAnyU_first {i : Nat} {oi : Oper} {v : Value} (D : List Nat) (hsD : s ∈ D) (hiD : i ∉ D) (hd : depB md ops i D = true) (hi : ops[i]? = some oi)
  (hsel : ∀ (j : Nat) (o : Oper) cs b, ops[j]? = some o → o.op ≠ .select cs b)
  (hQ : ∀ c a w, Q (.panic c) (a.put oi.dst v) w → Q (.panic c) a w) :
  ∀ (fuel : Nat) (listed : Array Bool) (a : Act) (w : World),
   (∀ j oj, ops[j]? = some oj → j ≠ i → listed.getD j true = false → (∀ e ∈ oj.after, Region.binds md e = true → e.on ≠ i) → oi.apart ops oj = true) →
   i ∈ Region.ready md ops listed → unB listed D = true → YieldsIf P ops S oi v a → S w →
   wpAnyU P md ops Q S s fuel (listed.setIfInBounds i true) (a.put oi.dst v) w → wpAnyU P md ops Q S s (fuel + 1) listed a w := by
 intro fuel
 induction fuel with
 | zero =>
  intro listed a w _ hr hu hy hS H
  refine ⟨fun h => (by rw [h] at hr; cases hr), fun j hj => ?_⟩
  by_cases hji : j = i
  ·subst hji; exact hy.wpOp hi hS ⟨fun _ => hS, H⟩
  ·have := ready_mono hj hji
   rw [H.1] at this
   cases this
 | succ fuel ih =>
  intro listed a w hfree hr hu hy hS H
  refine ⟨fun h => (by rw [h] at hr; cases hr), fun j hj => ?_⟩
  by_cases hji : j = i
  ·subst hji; exact hy.wpOp hi hS ⟨fun _ => hS, H⟩
  ·have hun := (mem_ready.1 hr).1
   have h1 := H.2 j (ready_mono hj hji)
   obtain ⟨hjun, oj, hoj, hall⟩ := mem_ready.1 hj
   have hnot : ∀ e ∈ oj.after, Region.binds md e = true → e.on ≠ i := fun e he hb heq => by
    have h1 := hall e he hb
    rw [heq] at h1
    rcases Nat.lt_or_ge i listed.size with h' | h'
    ·simp [h'] at hun h1; rw [hun] at h1; cases h1
    ·simp [Array.getElem?_eq_none h'] at h1
   have hjD := dep_notready hd hu hun hj
   have h2 := wpOp_putIf hoj (hfree j oj hoj hji hjun hnot) (fun cs b => hsel i oi cs b hi) (fun cs b => hsel j oj cs b hoj) hQ hy h1
   have hfree' : ∀ k ok, ops[k]? = some ok → k ≠ i → (listed.setIfInBounds j true).getD k true = false →
     (∀ e ∈ ok.after, Region.binds md e = true → e.on ≠ i) → oi.apart ops ok = true := fun k ok hk hki hun hno => by
    refine hfree k ok hk hki ?_ hno
    by_cases hjk : j = k
    ·subst hjk; exact hjun
    ·rw [getD_set_ne true hjk] at hun; exact hun
   have hsu : (listed.setIfInBounds j true).getD s true = false := by
    have := List.all_eq_true.1 (un_set hu hjD) s hsD
    simpa using this
   have hsu2 : ((listed.setIfInBounds i true).setIfInBounds j true).getD s true = false := by
    have := List.all_eq_true.1 (un_set (un_set hu hiD) hjD) s hsD
    simpa using this
   refine wpOp_mono (fun a' w' h3 => ⟨fun _ => h3.2.1 hsu2, ih (listed.setIfInBounds j true) a' w' hfree' (ready_mono hr (Ne.symm hji)) (un_set hu hjD) h3.1 (h3.2.1 hsu2) ?_⟩) h2
   rw [Array.setIfInBounds_comm _ _ hji]
   exact h3.2.2
theorem wpAnyU_take {i : Nat} {oi : Oper} {v : Value} {fuel : Nat} {listed : Array Bool} {a : Act} {w : World} (D : List Nat) (hsD : D.contains s = true) (hiD : D.contains i = false) (hd : depB md ops i D = true) (hu : unB listed D = true)
  (hi : ops[i]? = some oi)
  (hs : Region.noSelect ops = true) (hf : Region.free md ops listed i = true) (hr : (Region.ready md ops listed).contains i = true)
  (hQ : ∀ c a w, Q (.panic c) (a.put oi.dst v) w → Q (.panic c) a w) (hy : YieldsIf P ops S oi v a) (hS : S w)
  (h : wpAnyU P md ops Q S s fuel (listed.setIfInBounds i true) (a.put oi.dst v) w) : wpAnyU P md ops Q S s (fuel + 1) listed a w :=
 wpAnyU_first D (by simpa using hsD) (by simpa using hiD) hd hi (Region.noSelect_spec hs) hQ fuel listed a w (Region.free_spec hi hf) (by simpa using hr) hu hy hS h
theorem wpAnyU_firstW {i : Nat} {oi : Oper} {v : Value} (his : i ≠ s) (hi : ops[i]? = some oi)
  (hsel : ∀ (j : Nat) (o : Oper) cs b, ops[j]? = some o → o.op ≠ .select cs b)
  (hQ : ∀ c a w, Q (.panic c) (a.put oi.dst v) w → Q (.panic c) a w) :
  ∀ (fuel : Nat) (listed : Array Bool) (a : Act) (w : World),
   (∀ j oj, ops[j]? = some oj → j ≠ i → listed.getD j true = false → (∀ e ∈ oj.after, Region.binds md e = true → e.on ≠ i) → oi.apart ops oj = true) →
   i ∈ Region.ready md ops listed → YieldsIf P ops (fun _ => True) oi v a → (listed.getD s true = false → S w) →
   wpAnyU P md ops Q S s fuel (listed.setIfInBounds i true) (a.put oi.dst v) w → wpAnyU P md ops Q S s (fuel + 1) listed a w := by
 intro fuel
 induction fuel with
 | zero =>
  intro listed a w _ hr hy hS H
  refine ⟨fun h => (by rw [h] at hr; cases hr), fun j hj => ?_⟩
  by_cases hji : j = i
  ·subst hji; exact hy.wpOp hi trivial ⟨fun e => hS (by rwa [getD_set_ne true his] at e), H⟩
  ·have := ready_mono hj hji
   rw [H.1] at this
   cases this
 | succ fuel ih =>
  intro listed a w hfree hr hy hS H
  refine ⟨fun h => (by rw [h] at hr; cases hr), fun j hj => ?_⟩
  by_cases hji : j = i
  ·subst hji; exact hy.wpOp hi trivial ⟨fun e => hS (by rwa [getD_set_ne true his] at e), H⟩
  ·have hun := (mem_ready.1 hr).1
   have h1 := H.2 j (ready_mono hj hji)
   obtain ⟨hjun, oj, hoj, hall⟩ := mem_ready.1 hj
   have hnot : ∀ e ∈ oj.after, Region.binds md e = true → e.on ≠ i := fun e he hb heq => by
    have h1 := hall e he hb
    rw [heq] at h1
    rcases Nat.lt_or_ge i listed.size with h' | h'
    ·simp [h'] at hun h1; rw [hun] at h1; cases h1
    ·simp [Array.getElem?_eq_none h'] at h1
   have h2 := wpOp_putIf hoj (hfree j oj hoj hji hjun hnot) (fun cs b => hsel i oi cs b hi) (fun cs b => hsel j oj cs b hoj) hQ hy h1
   have hfree' : ∀ k ok, ops[k]? = some ok → k ≠ i → (listed.setIfInBounds j true).getD k true = false →
     (∀ e ∈ ok.after, Region.binds md e = true → e.on ≠ i) → oi.apart ops ok = true := fun k ok hk hki hun hno => by
    refine hfree k ok hk hki ?_ hno
    by_cases hjk : j = k
    ·subst hjk; exact hjun
    ·rw [getD_set_ne true hjk] at hun; exact hun
   have hcomm : (listed.setIfInBounds i true).setIfInBounds j true = (listed.setIfInBounds j true).setIfInBounds i true := Array.setIfInBounds_comm _ _ (Ne.symm hji)
   have hsS : (listed.setIfInBounds j true).getD s true = false → ((listed.setIfInBounds i true).setIfInBounds j true).getD s true = false := fun e => by
    rw [hcomm, getD_set_ne true his]; exact e
   refine wpOp_mono (fun a' w' h3 => ⟨fun e => h3.2.1 (hsS e), ih (listed.setIfInBounds j true) a' w' hfree' (ready_mono hr (Ne.symm hji)) h3.1 (fun e => h3.2.1 (hsS e)) ?_⟩) h2
   rw [Array.setIfInBounds_comm _ _ hji]
   exact h3.2.2
theorem wpAnyU_takeW {i : Nat} {oi : Oper} {v : Value} {fuel : Nat} {listed : Array Bool} {a : Act} {w : World} (his : (i == s) = false)
  (hi : ops[i]? = some oi)
  (hs : Region.noSelect ops = true) (hf : Region.free md ops listed i = true) (hr : (Region.ready md ops listed).contains i = true)
  (hQ : ∀ c a w, Q (.panic c) (a.put oi.dst v) w → Q (.panic c) a w) (hy : YieldsIf P ops (fun _ => True) oi v a) (hS : S w)
  (h : wpAnyU P md ops Q S s fuel (listed.setIfInBounds i true) (a.put oi.dst v) w) : wpAnyU P md ops Q S s (fuel + 1) listed a w :=
 wpAnyU_firstW (by simpa using his) hi (Region.noSelect_spec hs) hQ fuel listed a w (Region.free_spec hi hf) (by simpa using hr) hy (fun _ => hS) h
def AllReadyU (P : Program) (md : Region.Mode) (ops : Array Oper) (Q : Exit → Act → World → Prop) (S : World → Prop) (s : Nat) (fuel : Nat) (listed : Array Bool) (a : Act) (w : World) (rs : List Nat) : Prop :=
 ∀ i ∈ rs, wpOp P ops Q i (fun a' w' => ((listed.setIfInBounds i true).getD s true = false → S w') ∧ wpAnyU P md ops Q S s fuel (listed.setIfInBounds i true) a' w') a w
theorem AllReadyU.nil {fuel : Nat} {listed : Array Bool} {a : Act} {w : World} : AllReadyU P md ops Q S s fuel listed a w [] := fun _ h => by cases h
theorem AllReadyU.cons {fuel : Nat} {listed : Array Bool} {a : Act} {w : World} {i : Nat} {o : Oper} {rs : List Nat} (ho : ops[i]? = some o)
  (h : ∀ K' : Act → World → Prop, Shut (∀ a w, S w → (S w → wpAnyU P md ops Q S s fuel (listed.setIfInBounds i true) a w) → K' a w) → if Region.wanted o (yielded ops a.tmps) = true then Oper.wp P o a w K' Q else K' (a.put o.dst undef) w)
  (hs : AllReadyU P md ops Q S s fuel listed a w rs) : AllReadyU P md ops Q S s fuel listed a w (i :: rs) := fun j hj => by
 rcases List.mem_cons.1 hj with rfl | hj
 ·exact wpOp_step ho (fun K' hK => h K' (fun a w hS hW => hK a w ⟨fun _ => hS, hW hS⟩))
 ·exact hs j hj
theorem AllReadyU.stop {fuel : Nat} {listed : Array Bool} {a : Act} {w : World} {o : Oper} {rs : List Nat} (ho : ops[s]? = some o) (hl : (listed.setIfInBounds s true).getD s true = true)
  (h : ∀ K' : Act → World → Prop, Shut (∀ a w, True → (True → wpAnyH P md ops Q (fun _ => True) fuel (listed.setIfInBounds s true) a w) → K' a w) → if Region.wanted o (yielded ops a.tmps) = true then Oper.wp P o a w K' Q else K' (a.put o.dst undef) w)
  (hs : AllReadyU P md ops Q S s fuel listed a w rs) : AllReadyU P md ops Q S s fuel listed a w (s :: rs) := fun j hj => by
 rcases List.mem_cons.1 hj with rfl | hj
 ·exact wpOp_step ho (fun K' hK => h K' (fun a w _ hW => hK a w ⟨(fun e => by rw [hl] at e; cases e), wpAnyU_after _ _ _ _ hl (hW trivial)⟩))
 ·exact hs j hj
theorem wpAnyU_ready {rs : List Nat} {fuel : Nat} {listed : Array Bool} {a : Act} {w : World} (hr : Region.ready md ops listed = rs) (hne : rs ≠ [])
  (h : AllReadyU P md ops Q S s fuel listed a w rs) : wpAnyU P md ops Q S s (fuel + 1) listed a w :=
 ⟨fun h0 => absurd (hr ▸ h0) hne, hr ▸ h⟩
theorem wp_region_U {id : Nat} {a : Act} {w : World} (s : Nat) (hm : P.follows .mixedOrders = true) (hS : S w.drew)
  (h : S w.drew → wpAnyU P .any ops Q S s ops.size (Array.replicate ops.size false) a w.drew) : (Code.region id ops true).wp P Q a w :=
 wp_region_any hm (wpAny_of_U _ _ _ _ (h hS))
end

/-! Whole structs loaded and stored inside such a region. -/
section
variable {P : Program} {ops : Array Oper} {o : Oper} {a : Act} {w : World} {K : Act → World → Prop} {Q : Exit → Act → World → Prop} {E : Prop}
theorem step_storeB (hgd : o.guard = none) (ty : TypeId) (x y : Operand) (ho : o.op = .store ty x y)
  (hd : o.dst = none) (g : Nat) (cells : Array Value) (hx : a.eval x = .pointer (some ⟨g, 0, none⟩)) (hy : a.eval y = .agg cells)
  (t : TypeId) (old : Array Value) (hg : Blk w g t old) (hi : (P.info? ty).map (·.size) = some cells.size)
  (hold : old.size = cells.size) (h1 : cells.all (·.oneCell') = true)
  (h : ∀ w', Blk w' g t cells → ExtB g w w' → K a w') : if Region.wanted o (yielded ops a.tmps) = true then Oper.wp P o a w K Q else E := by
 rw [if_pos (by simp [Region.wanted, hgd])]
 refine wp_store_row ty x y ho g cells hx hy t old hg hi hold h1 ?_
 rw [hd]
 exact h _ (setRow_heap w g old cells t (0, 0) hg) ⟨rfl, rfl, rfl, by simp, fun k _ hne => setRow_other w g k cells (fun e => hne (by rw [e]))⟩
end
end Go.Proofs.YtmckbcbdnckngaaGreatDoor

namespace Go.Proofs.YtmckbcbdnckngaaGreatDoor
open Go.RowKit

theorem infoVe : (Tryz.prog.info? 36).map (·.size) = some 5 := by kernel_rfl
theorem fdCells_one (l : List Fd) : ∀ u ∈ fldCells l, u.oneCell' = true := fldCells_one l
theorem vrs_set : ∀ (l : List (Vr × VrM)) (k : Nat) (h : k < l.length) (y : VrM), vrsC (l.set k (l[k].1, y)) = ((vrsC l).set (k * 4) y.nm.v).set (k * 4 + 3) y.bd.v
 | x :: l, 0, _, y => by simp [vrsC, vrC]
 | x :: l, k + 1, h, y => by
  have := vrs_set l k (by simpa using h) y
  simp only [vrsC, List.set_cons_succ, List.flatMap_cons, List.getElem_cons_succ] at *
  rw [this, show (k + 1) * 4 = (vrC x).length + k * 4 by simp [vrC]; omega, List.set_append_right _ _ (by omega), show (vrC x).length + k * 4 + 3 = (vrC x).length + (k * 4 + 3) by omega, List.set_append_right _ _ (by omega)]
  simp
theorem drop_head {α : Type} {l v : List α} {k : Nat} (h : l.drop k = v.drop k) (hk : k < l.length) (hv : k < v.length) : l[k] = v[k] ∧ l.drop (k + 1) = v.drop (k + 1) := by
 rw [List.drop_eq_getElem_cons hk, List.drop_eq_getElem_cons hv] at h
 injection h with h1 h2
 exact ⟨h1, h2⟩
theorem set_take {α : Type} {l : List α} {k : Nat} (hk : k < l.length) (y : α) : (l.set k y).take (k + 1) = l.take k ++ [y] := by
 rw [List.take_succ_eq_append_getElem (by simpa using hk), List.getElem_set_self, List.take_set_of_le (Nat.le_refl _)]
theorem set_fst {α β : Type} {l : List (α × β)} {k : Nat} (hk : k < l.length) (y : β) : (l.set k (l[k].1, y)).map (·.1) = l.map (·.1) := by
 apply List.ext_getElem?
 intro j
 rw [List.getElem?_map, List.getElem?_map]
 by_cases h : k = j
 ·subst h; rw [List.getElem?_set_self hk, List.getElem?_eq_getElem hk]; rfl
 ·rw [List.getElem?_set_ne h]
theorem own_keepS {S : Nat → Prop} {w w' : World} {B k n : Nat} {e : TypeId} {v : Value} {xs : List Value} (h : w.ownsRow B e k v n xs) (hK : Keeps S w w') (hS : ∀ b, v.ownBlock = some b → ¬ S b) : w'.ownsRow B e k v n xs := by
 refine ⟨h.1, ?_⟩
 rcases h.2 with hn | ⟨g, cap, cur, rfl, hbb, hgg, rest⟩
 ·exact .inl hn
 ·refine .inr ⟨g, cap, cur, rfl, hbb, ?_, rest⟩
  rw [hK.block g (Array.getElem?_eq_some_iff.1 hgg).1 (hS g rfl)]
  exact hgg
theorem own_ne {w : World} {B k n g : Nat} {e t : TypeId} {v : Value} {xs : List Value} {cs : Array Value} (h : w.ownsRow B e k v n xs) (hb : Blk w g t cs) (he : t ≠ e) : ∀ b, v.ownBlock = some b → ¬ b = g := by
 rintro b hv rfl
 obtain ⟨c, fz, h1⟩ := Lib.ownsRow_kind h b hv
 unfold Blk at hb
 rw [h1] at hb
 injection hb with hb
 injection hb with _ hb
 exact he hb.symm
theorem or_clone (Q : Nat → Prop) (m : MV) (w : World) (h : m.At Q w) (hfn : m.f.length ≤ 1048576) (hbn : m.body.size ≤ 1099511627776) (hvn : m.vars.length ≤ 1048576)
  (hx : ∀ x ∈ m.vars, x.1.names.length ≤ 1048576 ∧ x.1.body.size ≤ 1099511627776) :
  Calls Tryz.prog 43 #[.agg m.cells.toArray] w fun e w' => ∃ m' : MV, e = .returned (.agg m'.cells.toArray) ∧ m'.ver = m.ver ∧ m'.At (fun i => i < w.heap.size) w' ∧ Ext w w' := by
 have hfl := h.fs.rd.lenF
 have hvl := h.vlen
 have hbl : m.body.size = m.bd.n := by have := h.bd.len1; rw [bytC_len] at this; exact this
 have HF := zi (fun w' (hh : Ext w w') => cln_F m.fs (fldCells m.f) w' (h.fs.rd.ext hh) (fdCells_one _) (by omega))
 have HB := zi (fun w' (hh : Ext w w') => cln_B m.bd (bytC m.body) w' (h.bd.rd.ext hh) (bytC_one _) (by omega))
 have HV := zi (fun w' (hh : Ext w w') => cln_V m.vr (vrsC m.vars) w' (h.vr.rd.ext hh) (vrsC_one _) (by omega))
 have Hv := zi (h.each); have Hvl := zi hvl; have Hx := zi hx
 have hvn2 : m.vr.n ≤ 1048576 := by omega
 clear h hfl hbl hvl hx hfn hbn hvn
 obtain ⟨addr, status, f, body, vars, ⟨fA, fn, fc⟩, ⟨bA, bn, bc⟩, ⟨vA, vn, vc⟩⟩ := m
 simp only [MV.cells, Sl.v] at *
 have hHX := zi ((Blk.new w 36 #[.string addr, .int .i64 status, .slice fA fn fc, .slice bA bn bc, .slice vA vn vc]).alloc (.cells #[.string ⟨#[]⟩, .int .i64 0, .slice none 0 0, .slice none 0 0, .slice none 0 0] 36))
 have hHY := zi (Blk.new (w.alloc (.cells #[.string addr, .int .i64 status, .slice fA fn fc, .slice bA bn bc, .slice vA vn vc] 36)) 36 #[.string ⟨#[]⟩, .int .i64 0, .slice none 0 0, .slice none 0 0, .slice none 0 0])
 have hHW := zi (((Ext.refl w).alloc (.cells #[.string addr, .int .i64 status, .slice fA fn fc, .slice bA bn bc, .slice vA vn vc] 36)).alloc (.cells #[.string ⟨#[]⟩, .int .i64 0, .slice none 0 0, .slice none 0 0, .slice none 0 0] 36))
 go_enter Tryz.func43, Tryz.ntmps43
 go_wp2_with fail
 have hsz1 : (w.alloc (.cells #[.string addr, .int .i64 status, .slice fA fn fc, .slice bA bn bc, .slice vA vn vc] 36)).heap.size = w.heap.size + 1 := by simp
 have hsz2 : ((w.alloc (.cells #[.string addr, .int .i64 status, .slice fA fn fc, .slice bA bn bc, .slice vA vn vc] 36)).alloc (.cells #[.string ⟨#[]⟩, .int .i64 0, .slice none 0 0, .slice none 0 0, .slice none 0 0] 36)).heap.size = w.heap.size + 2 := by simp
 rw [hsz1] at hHY
 (try rw [hsz1])
 generalize ((w.alloc (.cells #[.string addr, .int .i64 status, .slice fA fn fc, .slice bA bn bc, .slice vA vn vc] 36)).alloc (.cells #[.string ⟨#[]⟩, .int .i64 0, .slice none 0 0, .slice none 0 0, .slice none 0 0] 36)) = W0 at *
 clear hsz1
 generalize hb1 : w.heap.size = b1 at *
 have HW := hHW; have HX := hHX; have HY := hHY
 have hE := (Ext.refl W0).drew
 have HS := zi (fun w' (hh : Ext W0 w') => (⟨(HX.out.ext hh).cell 2, (HX.out.ext hh).cell 3, (HX.out.ext hh).cell 4⟩ : w'.cell? ⟨b1, 2, none⟩ = some (.slice fA fn fc) ∧ w'.cell? ⟨b1, 3, none⟩ = some (.slice bA bn bc) ∧ w'.cell? ⟨b1, 4, none⟩ = some (.slice vA vn vc)))
 refine wp_region_U (S := (fun w' => w'.cell? ⟨b1, 2, none⟩ = some (.slice fA fn fc) ∧ w'.cell? ⟨b1, 3, none⟩ = some (.slice bA bn bc) ∧ w'.cell? ⟨b1, 4, none⟩ = some (.slice vA vn vc))) 10 (by kernel_rfl) ?_ (fun hHeld => ?_)
 ·(try dsimp only); exact HS.out _ hE
 refine wpAnyU_takeW (i := 0) (oi := ⟨some 5, _, _, _, _, _⟩) (v := ?_) (by kernel_rfl) rfl (by kernel_rfl) (by kernel_rfl) (by kernel_rfl) (fun _ _ _ h => h) (Or.inl ⟨by rfl, ?_⟩) (by assumption) ?_
 rotate_left
 ·(intro w hSw; (try dsimp only at hSw); go_simp; (try with_reducible rfl))
 try simp only [zP]
 refine wpAnyU_take (i := 1) (oi := ⟨some 6, _, _, _, _, _⟩) (v := ?_) [2, 5, 8, 9, 10, 11, 12, 13, 14] (by kernel_rfl) (by kernel_rfl) (by kernel_rfl) (by kernel_rfl) rfl (by kernel_rfl) (by kernel_rfl) (by kernel_rfl) (fun _ _ _ h => h) (Or.inl ⟨by rfl, ?_⟩) (by assumption) ?_
 rotate_left
 ·(intro w hSw; (try dsimp only at hSw); go_simp; (try with_reducible rfl))
 try simp only [zP]
 refine wpAnyU_takeW (i := 3) (oi := ⟨some 8, _, _, _, _, _⟩) (v := ?_) (by kernel_rfl) rfl (by kernel_rfl) (by kernel_rfl) (by kernel_rfl) (fun _ _ _ h => h) (Or.inl ⟨by rfl, ?_⟩) (by assumption) ?_
 rotate_left
 ·(intro w hSw; (try dsimp only at hSw); go_simp; (try with_reducible rfl))
 try simp only [zP]
 refine wpAnyU_take (i := 4) (oi := ⟨some 9, _, _, _, _, _⟩) (v := ?_) [5, 8, 9, 10, 11, 12, 13, 14] (by kernel_rfl) (by kernel_rfl) (by kernel_rfl) (by kernel_rfl) rfl (by kernel_rfl) (by kernel_rfl) (by kernel_rfl) (fun _ _ _ h => h) (Or.inl ⟨by rfl, ?_⟩) (by assumption) ?_
 rotate_left
 ·(intro w hSw; (try dsimp only at hSw); go_simp; (try with_reducible rfl))
 try simp only [zP]
 refine wpAnyU_takeW (i := 6) (oi := ⟨some 11, _, _, _, _, _⟩) (v := ?_) (by kernel_rfl) rfl (by kernel_rfl) (by kernel_rfl) (by kernel_rfl) (fun _ _ _ h => h) (Or.inl ⟨by rfl, ?_⟩) (by assumption) ?_
 rotate_left
 ·(intro w hSw; (try dsimp only at hSw); go_simp; (try with_reducible rfl))
 try simp only [zP]
 refine wpAnyU_take (i := 7) (oi := ⟨some 12, _, _, _, _, _⟩) (v := ?_) [8, 9, 10, 11, 12, 13, 14] (by kernel_rfl) (by kernel_rfl) (by kernel_rfl) (by kernel_rfl) rfl (by kernel_rfl) (by kernel_rfl) (by kernel_rfl) (fun _ _ _ h => h) (Or.inl ⟨by rfl, ?_⟩) (by assumption) ?_
 rotate_left
 ·(intro w hSw; (try dsimp only at hSw); go_simp; (try with_reducible rfl))
 try simp only [zP]
 refine wpAnyU_ready (rs := [2]) (by kernel_rfl) (by simp) ?_
 refine AllReadyU.cons (o := ⟨some 7, _, _, _, _, _⟩) rfl (fun K hK => ?_) AllReadyU.nil
 go_simp
 refine (HF.out _ (HW.out.trans hE)).mono ?_; rintro e w3 ⟨⟨fA2, fn2, fc2⟩, rfl, hn3, hr3, hb3, -⟩; have Hr3 := zi hr3; have Hw3 := zi hE; replace hE := hE.trans hb3; have HE3 := zi hE; clear hr3 hb3; (simp only [Sl.v] at *); replace hn3 := Eq.symm hn3; subst hn3
 try go_wp2_with fail
 refine hK.out _ _ ?_ (fun hHeld => ?_)
 ·(try dsimp only); exact HS.out _ hE
 clear hK K
 try simp only [zP]
 refine wpAnyU_takeW (i := 9) (oi := ⟨some 14, _, _, _, _, _⟩) (v := ?_) (by kernel_rfl) rfl (by kernel_rfl) (by kernel_rfl) (by kernel_rfl) (fun _ _ _ h => h) (Or.inl ⟨by rfl, ?_⟩) (by assumption) ?_
 rotate_left
 ·(intro w hSw; (try dsimp only at hSw); go_simp; (try with_reducible rfl))
 try simp only [zP]
 refine wpAnyU_ready (rs := [5]) (by kernel_rfl) (by simp) ?_
 refine AllReadyU.cons (o := ⟨some 10, _, _, _, _, _⟩) rfl (fun K hK => ?_) AllReadyU.nil
 go_simp
 refine (HB.out _ (HW.out.trans hE)).mono ?_; rintro e w4 ⟨⟨bA2, bn2, bc2⟩, rfl, hn4, hr4, hb4, -⟩; have Hr4 := zi hr4; have Hb4 := zi hb4; replace hE := hE.trans hb4; have HE4 := zi hE; clear hr4 hb4; (simp only [Sl.v] at *); replace hn4 := Eq.symm hn4; subst hn4
 try go_wp2_with fail
 refine hK.out _ _ ?_ (fun hHeld => ?_)
 ·(try dsimp only); exact HS.out _ hE
 clear hK K
 try simp only [zP]
 refine wpAnyU_ready (rs := [8]) (by kernel_rfl) (by simp) ?_
 refine AllReadyU.cons (o := ⟨some 13, _, _, _, _, _⟩) rfl (fun K hK => ?_) AllReadyU.nil
 go_simp
 refine (HV.out _ (HW.out.trans hE)).mono ?_; rintro e w5 ⟨⟨vA2, vn2, vc2⟩, rfl, hn5, hr5, hb5, ho5⟩; have Hr5 := zi hr5; have Ho5 := zi ho5; have Hb5 := zi hb5; replace hE := hE.trans hb5; have HE5 := zi hE; clear hr5 hb5 ho5; (simp only [Sl.v] at *); replace hn5 := Eq.symm hn5; subst hn5
 try go_wp2_with fail
 refine hK.out _ _ ?_ (fun hHeld => ?_)
 ·(try dsimp only); exact HS.out _ hE
 clear hK K
 try simp only [zP]
 refine wpAnyU_ready (rs := [10]) (by kernel_rfl) (by simp) ?_
 refine AllReadyU.stop (o := ⟨none, _, _, _, _, _⟩) rfl (by kernel_rfl) (fun K hK => ?_) AllReadyU.nil
 have hX5 := HX.out.ext hE; have k2 : w5.cell? ⟨b1, 2, none⟩ = some (.slice fA fn fc) := hX5.cell 2; have f2 : w5.frozen? ⟨b1, 2, none⟩ = false := hX5.frozen 2; have k3 : w5.cell? ⟨b1, 3, none⟩ = some (.slice bA bn bc) := hX5.cell 3; have f3 : w5.frozen? ⟨b1, 3, none⟩ = false := hX5.frozen 3; have k4 : w5.cell? ⟨b1, 4, none⟩ = some (.slice vA vn vc) := hX5.cell 4; have f4 : w5.frozen? ⟨b1, 4, none⟩ = false := hX5.frozen 4; clear hX5
 go_simp
 try go_wp2_with fail
 refine hK.out _ _ ?_ (fun hHeld => ?_)
 ·(try dsimp only); (try trivial)
 clear hK K
 try simp only [zP]
 refine zH (v := ?_) 11 (some 15) rfl ?_ ?_; rotate_left
 ·(intro w hSw; (try dsimp only at hSw); go_simp; (try with_reducible rfl))
 try simp only [zP]
 refine wpAnyH_ready (rs := [12]) (by kernel_rfl) (by simp) ?_
 refine AllReadyH.cons (o := ⟨none, _, _, _, _, _⟩) rfl (fun K hK => ?_) AllReadyH.nil
 go_simp
 try go_wp2_with fail
 refine hK.out _ _ ?_ (fun hHeld => ?_)
 ·(try dsimp only); (try trivial)
 clear hK K
 try simp only [zP]
 refine zH (v := ?_) 13 (some 16) rfl ?_ ?_; rotate_left
 ·(intro w hSw; (try dsimp only at hSw); go_simp; (try with_reducible rfl))
 try simp only [zP]
 refine wpAnyH_ready (rs := [14]) (by kernel_rfl) (by simp) ?_
 refine AllReadyH.cons (o := ⟨none, _, _, _, _, _⟩) rfl (fun K hK => ?_) AllReadyH.nil
 go_simp
 try go_wp2_with fail
 refine hK.out _ _ ?_ (fun hHeld => ?_)
 ·(try dsimp only); (try trivial)
 clear hK K
 try simp only [zP]
 refine wpAnyH_done (by kernel_rfl) ?_ _
 have HX6 := zi (show Blk (((w5.setCell ⟨b1, 2, none⟩ (.slice fA2 fn fc2)).setCell ⟨b1, 3, none⟩ (.slice bA2 bn bc2)).setCell ⟨b1, 4, none⟩ (.slice vA2 vn vc2)) b1 36 #[.string addr, .int .i64 status, .slice fA2 fn fc2, .slice bA2 bn bc2, .slice vA2 vn vc2] from (((HX.out.ext hE).set_ 2 _).set_ 3 _).set_ 4 _)
 have HK6 := zi ((((Keeps.refl (fun i => i = b1) w5).set_ (b := b1) rfl 2 (.slice fA2 fn fc2)).set_ (b := b1) rfl 3 (.slice bA2 bn bc2)).set_ (b := b1) rfl 4 (.slice vA2 vn vc2))
 clear k2 k3 k4 f2 f3 f4
 have hsz6 : (((w5.setCell ⟨b1, 2, none⟩ (.slice fA2 fn fc2)).setCell ⟨b1, 3, none⟩ (.slice bA2 bn bc2)).setCell ⟨b1, 4, none⟩ (.slice vA2 vn vc2)).heap.size = w5.heap.size := by simp [World.setCell]
 generalize ((w5.setCell ⟨b1, 2, none⟩ (.slice fA2 fn fc2)).setCell ⟨b1, 3, none⟩ (.slice bA2 bn bc2)).setCell ⟨b1, 4, none⟩ (.slice vA2 vn vc2) = w6 at *
 have HK6 := HK6; have HX6 := HX6
 have hb1lt : b1 + 1 < w5.heap.size := by have h1 := HE5.out.size; omega
 -- what is behind the clones
 have Ho6 := zi (own_keepS Ho5.out HK6.out (own_ne Ho5.out (HX.out.ext HE5.out) (by decide)))
 have HE6 := zi (show Ext w w6 from (HW.out.trans HE5.out).keeps HK6.out (fun i hi => by rw [hi, hb1]; exact Nat.le_refl _))
 obtain ⟨c0, c1, c2, c3, c4⟩ := (⟨HX6.out.cell 0, HX6.out.cell 1, HX6.out.cell 2, HX6.out.cell 3, HX6.out.cell 4⟩ : w6.cell? ⟨b1, 0, none⟩ = some (.string addr) ∧ w6.cell? ⟨b1, 1, none⟩ = some (.int .i64 status) ∧ w6.cell? ⟨b1, 2, none⟩ = some (.slice fA2 fn fc2) ∧ w6.cell? ⟨b1, 3, none⟩ = some (.slice bA2 bn bc2) ∧ w6.cell? ⟨b1, 4, none⟩ = some (.slice vA2 vn vc2))
 go_wp2_with fail
 clear c0 c1 c2 c3 c4
 have Hsz6 := zi hsz6; have HB1 := zi hb1; have Hsz2 := zi hsz2; have Hb1lt := zi hb1lt
 clear hsz6 hsz2 hb1lt hb1 HF HB HV hE HS
 have Hglt := zi (fun b hb => Ho5.out.lt b hb)
 go_loopw [20] (fun i wr => ∃ (k : Nat) (l : List (Vr × VrM)), k ≤ vn ∧ i = .int .i64 (k : Nat) ∧ l.length = vn ∧ l.map (·.1) = vars.map (·.1) ∧ l.drop k = vars.drop k ∧ (∀ x ∈ l.take k, VrAt (fun i => i < w5.heap.size) wr x) ∧ wr.ownsRow w4.heap.size 58 4 (.slice vA2 vn vc2) vn (vrsC l) ∧ Keeps (fun b => (Value.slice vA2 vn vc2).ownBlock = some b) w6 wr) (fun i _ => vn - (intOf i).toNat)
 case atStart => exact ⟨0, vars, Nat.zero_le _, rfl, Hvl.out, rfl, rfl, (fun x hx => by simp at hx), Ho6.out, Keeps.refl _ _⟩
 case round =>
  obtain ⟨k, l, hk, rfl, hll, hlm, hld, hat, hown, hK⟩ := hrel
  have hXr := zi (HX6.out.keep hK (fun hb => own_ne Ho6.out HX6.out (by decide) b1 hb rfl))
  have Hwr := zi (show Ext w wr from HE6.out.keeps hK (fun i hi => by have h1 := (Hglt.out i hi).1; have h2 := HE4.out.size; have h3 := Hsz2.out; have h4 := HB1.out; omega))
  have x4 : wr.cell? ⟨b1, 4, none⟩ = some (.slice vA2 vn vc2) := hXr.out.cell 4
  by_cases hlt : k < vn
  ·have hlk : k < l.length := by omega
   have hvk : k < vars.length := by have := Hvl.out; omega
   obtain ⟨e1, e2⟩ := drop_head hld hlk hvk
   have HST := zi (fun y => vrs_set l k hlk y); have HTK := zi (fun y => set_take hlk y); have HFS := zi (fun (y : VrM) => set_fst hlk y)
   have HDR := zi (fun y => show (l.set k y).drop (k + 1) = vars.drop (k + 1) from by rw [List.drop_set_of_lt (by omega)]; exact e2)
   have HLN := zi (fun y => show (l.set k y).length = vn from by rw [List.length_set]; exact hll)
   obtain ⟨g, hA⟩ : ∃ g, vA2 = some ⟨g, 0, none⟩ := by
    rcases hown.2 with ⟨_, h0⟩ | ⟨g, _, _, hv, _⟩
    ·omega
    ·exact ⟨g, (slice_inj hv).1⟩
   subst hA
   obtain ⟨b, o, hbo, d0, d1, d2, d3⟩ := vrI_at (Rd.of_own hown) hlk
   injection hbo with hbo
   injection hbo with e3 e4
   subst e3; subst e4
   simp only [Nat.zero_add] at d0 d1 d2 d3
   rw [e1] at d0 d1 d2 d3 HST HFS
   have HVk := zi (Hv.out _ (List.getElem_mem hvk)); have hxk := Hx.out _ (List.getElem_mem hvk)
   have Hown := zi hown; have Hat := zi hat; have HKr := zi hK; have Hlm := zi hlm
   clear hown hat hK hlm hld e1 e2 hlk hll
   generalize vars[k] = x at *
   obtain ⟨⟨names, key, tag, xb⟩, ⟨⟨nA, nn, nc⟩, ⟨dA, dn, dc⟩⟩⟩ := x
   simp only [Sl.v] at d0 d1 d2 d3
   have hnn : names.length = nn := HVk.out.nm.rd.lenS
   have hdn : xb.size = dn := by have := HVk.out.bd.len1; rw [bytC_len] at this; exact this
   have HCS := zi (fun w' (hh : Ext wr w') => cln_S ⟨nA, nn, nc⟩ (strCells names) w' (HVk.out.nm.rd.ext (Hwr.out.trans hh)) (strCells_one _) (by have := hxk.1; simp only at *; omega))
   have HCB := zi (fun w' (hh : Ext wr w') => cln_B ⟨dA, dn, dc⟩ (bytC xb) w' (HVk.out.bd.rd.ext (Hwr.out.trans hh)) (bytC_one _) (by have := hxk.2; simp only at *; omega))
   clear hnn hdn hxk
   simp only [Sl.v] at HCS HCB
   go_wp2_with fail
   have hE := (Ext.refl wr).drew
   have HS := zi (fun w' (hh : Ext wr w') => (⟨hh.cell d0, hh.cell d3⟩ : w'.cell? ⟨g, k * 4, none⟩ = some (.slice nA nn nc) ∧ w'.cell? ⟨g, k * 4 + 3, none⟩ = some (.slice dA dn dc)))
   refine wp_region_U (S := (fun w' => w'.cell? ⟨g, k * 4, none⟩ = some (.slice nA nn nc) ∧ w'.cell? ⟨g, k * 4 + 3, none⟩ = some (.slice dA dn dc))) 14 (by kernel_rfl) ?_ (fun hHeld => ?_)
   ·(try dsimp only); exact HS.out _ hE
   refine wpAnyU_takeW (i := 0) (oi := ⟨some 27, _, _, _, _, _⟩) (v := ?_) (by kernel_rfl) rfl (by kernel_rfl) (by kernel_rfl) (by kernel_rfl) (fun _ _ _ h => h) (Or.inl ⟨by rfl, ?_⟩) (by assumption) ?_
   rotate_left
   ·(intro w hSw; (try dsimp only at hSw); go_simp; (try with_reducible rfl))
   try simp only [zP]
   refine wpAnyU_takeW (i := 1) (oi := ⟨some 28, _, _, _, _, _⟩) (v := ?_) (by kernel_rfl) rfl (by kernel_rfl) (by kernel_rfl) (by kernel_rfl) (fun _ _ _ h => h) (Or.inl ⟨by rfl, ?_⟩) (by assumption) ?_
   rotate_left
   ·(intro w hSw; (try dsimp only at hSw); go_simp; (try with_reducible rfl))
   try simp only [zP]
   refine wpAnyU_takeW (i := 2) (oi := ⟨some 29, _, _, _, _, _⟩) (v := ?_) (by kernel_rfl) rfl (by kernel_rfl) (by kernel_rfl) (by kernel_rfl) (fun _ _ _ h => h) (Or.inl ⟨by rfl, ?_⟩) (by assumption) ?_
   rotate_left
   ·(intro w hSw; (try dsimp only at hSw); go_simp; (try with_reducible rfl))
   try simp only [zP]
   refine wpAnyU_takeW (i := 3) (oi := ⟨some 30, _, _, _, _, _⟩) (v := ?_) (by kernel_rfl) rfl (by kernel_rfl) (by kernel_rfl) (by kernel_rfl) (fun _ _ _ h => h) (Or.inl ⟨by rfl, ?_⟩) (by assumption) ?_
   rotate_left
   ·(intro w hSw; (try dsimp only at hSw); go_simp; (try with_reducible rfl))
   try simp only [zP]
   refine wpAnyU_takeW (i := 4) (oi := ⟨some 31, _, _, _, _, _⟩) (v := ?_) (by kernel_rfl) rfl (by kernel_rfl) (by kernel_rfl) (by kernel_rfl) (fun _ _ _ h => h) (Or.inl ⟨by rfl, ?_⟩) (by assumption) ?_
   rotate_left
   ·(intro w hSw; (try dsimp only at hSw); go_simp; (try with_reducible rfl))
   try simp only [zP]
   refine wpAnyU_take (i := 5) (oi := ⟨some 32, _, _, _, _, _⟩) (v := ?_) [6, 11, 12, 13, 14, 15, 16, 17] (by kernel_rfl) (by kernel_rfl) (by kernel_rfl) (by kernel_rfl) rfl (by kernel_rfl) (by kernel_rfl) (by kernel_rfl) (fun _ _ _ h => h) (Or.inl ⟨by rfl, ?_⟩) (by assumption) ?_
   rotate_left
   ·(intro w hSw; (try dsimp only at hSw); go_simp; (try with_reducible rfl))
   try simp only [zP]
   refine wpAnyU_takeW (i := 7) (oi := ⟨some 34, _, _, _, _, _⟩) (v := ?_) (by kernel_rfl) rfl (by kernel_rfl) (by kernel_rfl) (by kernel_rfl) (fun _ _ _ h => h) (Or.inl ⟨by rfl, ?_⟩) (by assumption) ?_
   rotate_left
   ·(intro w hSw; (try dsimp only at hSw); go_simp; (try with_reducible rfl))
   try simp only [zP]
   refine wpAnyU_takeW (i := 8) (oi := ⟨some 35, _, _, _, _, _⟩) (v := ?_) (by kernel_rfl) rfl (by kernel_rfl) (by kernel_rfl) (by kernel_rfl) (fun _ _ _ h => h) (Or.inl ⟨by rfl, ?_⟩) (by assumption) ?_
   rotate_left
   ·(intro w hSw; (try dsimp only at hSw); go_simp; (try with_reducible rfl))
   try simp only [zP]
   refine wpAnyU_takeW (i := 9) (oi := ⟨some 36, _, _, _, _, _⟩) (v := ?_) (by kernel_rfl) rfl (by kernel_rfl) (by kernel_rfl) (by kernel_rfl) (fun _ _ _ h => h) (Or.inl ⟨by rfl, ?_⟩) (by assumption) ?_
   rotate_left
   ·(intro w hSw; (try dsimp only at hSw); go_simp; (try with_reducible rfl))
   try simp only [zP]
   refine wpAnyU_take (i := 10) (oi := ⟨some 37, _, _, _, _, _⟩) (v := ?_) [11, 12, 13, 14, 15, 16, 17] (by kernel_rfl) (by kernel_rfl) (by kernel_rfl) (by kernel_rfl) rfl (by kernel_rfl) (by kernel_rfl) (by kernel_rfl) (fun _ _ _ h => h) (Or.inl ⟨by rfl, ?_⟩) (by assumption) ?_
   rotate_left
   ·(intro w hSw; (try dsimp only at hSw); go_simp; (try with_reducible rfl))
   try simp only [zP]
   refine wpAnyU_ready (rs := [6]) (by kernel_rfl) (by simp) ?_
   refine AllReadyU.cons (o := ⟨some 33, _, _, _, _, _⟩) rfl (fun K hK => ?_) AllReadyU.nil
   go_simp
   refine (HCS.out _ hE).mono ?_; rintro e w7 ⟨⟨nA2, nn2, nc2⟩, rfl, hn7, hr7, hb7, -⟩; have Hr7 := zi hr7; replace hE := hE.trans hb7; have HE7 := zi hE; clear hr7 hb7; (simp only [Sl.v] at *); replace hn7 := Eq.symm hn7; subst hn7
   try go_wp2_with fail
   refine hK.out _ _ ?_ (fun hHeld => ?_)
   ·(try dsimp only); exact HS.out _ hE
   clear hK K
   try simp only [zP]
   refine wpAnyU_ready (rs := [11]) (by kernel_rfl) (by simp) ?_
   refine AllReadyU.cons (o := ⟨some 38, _, _, _, _, _⟩) rfl (fun K hK => ?_) AllReadyU.nil
   go_simp
   refine (HCB.out _ hE).mono ?_; rintro e w8 ⟨⟨dA2, dn2, dc2⟩, rfl, hn8, hr8, hb8, -⟩; have Hr8 := zi hr8; have Hb8 := zi hb8; replace hE := hE.trans hb8; have HE8 := zi hE; clear hr8 hb8; (simp only [Sl.v] at *); replace hn8 := Eq.symm hn8; subst hn8
   try go_wp2_with fail
   refine hK.out _ _ ?_ (fun hHeld => ?_)
   ·(try dsimp only); exact HS.out _ hE
   clear hK K
   try simp only [zP]
   refine wpAnyU_takeW (i := 12) (oi := ⟨some 39, _, _, _, _, _⟩) (v := ?_) (by kernel_rfl) rfl (by kernel_rfl) (by kernel_rfl) (by kernel_rfl) (fun _ _ _ h => h) (Or.inl ⟨by rfl, ?_⟩) (by assumption) ?_
   rotate_left
   ·(intro w hSw; (try dsimp only at hSw); go_simp; (try with_reducible rfl))
   try simp only [zP]
   refine wpAnyU_takeW (i := 13) (oi := ⟨some 40, _, _, _, _, _⟩) (v := ?_) (by kernel_rfl) rfl (by kernel_rfl) (by kernel_rfl) (by kernel_rfl) (fun _ _ _ h => h) (Or.inl ⟨by rfl, ?_⟩) (by assumption) ?_
   rotate_left
   ·(intro w hSw; (try dsimp only at hSw); go_simp; (try with_reducible rfl))
   try simp only [zP]
   refine wpAnyU_ready (rs := [14]) (by kernel_rfl) (by simp) ?_
   refine AllReadyU.stop (o := ⟨none, _, _, _, _, _⟩) rfl (by kernel_rfl) (fun K hK => ?_) AllReadyU.nil
   have k0 := hE.cell d0; have k3 := hE.cell d3; have f0 : w8.frozen? ⟨g, k * 4, none⟩ = false := (own_ext Hown.out hE).frozenAt _; have f3 : w8.frozen? ⟨g, k * 4 + 3, none⟩ = false := (own_ext Hown.out hE).frozenAt _
   go_simp
   try go_wp2_with fail
   refine hK.out _ _ ?_ (fun hHeld => ?_)
   ·(try dsimp only); (try trivial)
   clear hK K
   try simp only [zP]
   refine zH (v := ?_) 15 (some 41) rfl ?_ ?_; rotate_left
   ·(intro w hSw; (try dsimp only at hSw); go_simp; (try with_reducible rfl))
   try simp only [zP]
   refine zH (v := ?_) 16 (some 42) rfl ?_ ?_; rotate_left
   ·(intro w hSw; (try dsimp only at hSw); go_simp; (try with_reducible rfl))
   try simp only [zP]
   refine wpAnyH_ready (rs := [17]) (by kernel_rfl) (by simp) ?_
   refine AllReadyH.cons (o := ⟨none, _, _, _, _, _⟩) rfl (fun K hK => ?_) AllReadyH.nil
   go_simp
   try go_wp2_with fail
   refine hK.out _ _ ?_ (fun hHeld => ?_)
   ·(try dsimp only); (try trivial)
   clear hK K
   try simp only [zP]
   refine wpAnyH_done (by kernel_rfl) ?_ _
   have hG := Hglt.out g rfl
   have hwr5 : w5.heap.size ≤ wr.heap.size := by have h1 := HKr.out.size; have h2 := Hsz6.out; omega
   have Hown8 := zi (own_ext Hown.out HE8.out)
   have Hst1 := zi (Hown8.out.stored (k * 4) (.slice nA2 nn nc2))
   have Hst2 := zi (Hst1.out.1.stored (k * 4 + 3) (.slice dA2 dn dc2))
   have HKs := zi (((Keeps.refl (fun b => b = g) w8).set_ (b := g) rfl (k * 4) (.slice nA2 nn nc2)).set_ (b := g) rfl (k * 4 + 3) (.slice dA2 dn dc2))
   generalize ((w8.setCell ⟨g, k * 4, none⟩ (.slice nA2 nn nc2)).setCell ⟨g, k * 4 + 3, none⟩ (.slice dA2 dn dc2)) = w9 at *
   have hk8 : ∀ i, i = g → (fun i => i < w5.heap.size) i ∨ w8.heap.size ≤ i := fun i hi => .inl (by rw [hi]; exact hG.2)
   clear d0 d1 d2 d3
   go_wp2_with fail
   first | go_roundw | refine ⟨?rel, ?measure⟩
   case rel =>
    refine ⟨k + 1, l.set k (⟨names, key, tag, xb⟩, ⟨⟨nA2, nn, nc2⟩, ⟨dA2, dn, dc2⟩⟩), by omega, by go_num, HLN.out _, ?_, HDR.out _, ?_, ?_, ?_⟩
    ·exact (HFS.out _).trans Hlm.out
    ·intro x hx
     rw [HTK.out] at hx
     rcases List.mem_append.1 hx with hx | hx
     ·have h1 := Hat.out x hx
      exact ⟨(h1.nm.ext HE8.out).keep HKs.out hk8, (h1.bd.ext HE8.out).keep HKs.out hk8⟩
     ·rw [List.mem_singleton] at hx
      subst hx
      have q1 := Hr7.out.sub (Q' := fun i => i < w5.heap.size) (fun i hi => by show i < wr.heap.size; omega)
      have q2 := Hr8.out.sub (Q' := fun i => i < w5.heap.size) (fun i hi => by have := HE7.out.size; show i < w7.heap.size; omega)
      exact ⟨(q1.ext Hb8.out).keep HKs.out hk8, q2.keep HKs.out hk8⟩
    ·rw [HST.out]; exact Hst2.out.1
    ·exact (HKr.out.trans (Keeps.of HE8.out)).then HKs.out (fun i hi => .inl (by rw [hi]; rfl))
   case measure => simp [intOf]; omega
  ·obtain rfl : k = vn := by omega
   have hlA : ∀ x ∈ l, VrAt (fun i => i < w5.heap.size) wr x := by rw [List.take_of_length_le (by omega)] at hat; exact hat
   have HlA := zi hlA; have Hlm := zi hlm; have Hown := zi hown; have HKr := zi hK
   have HYr := zi ((((HY.out.ext HE5.out).keep HK6.out (by omega)).keep hK (fun hb => own_ne Ho5.out (HY.out.ext HE5.out) (by decide) _ hb rfl)))
   have x0 : wr.cell? ⟨b1, 0, none⟩ = some (.string addr) := hXr.out.cell 0
   have x1 : wr.cell? ⟨b1, 1, none⟩ = some (.int .i64 status) := hXr.out.cell 1
   have x2 : wr.cell? ⟨b1, 2, none⟩ = some (.slice fA2 fn fc2) := hXr.out.cell 2
   have x3 : wr.cell? ⟨b1, 3, none⟩ = some (.slice bA2 bn bc2) := hXr.out.cell 3
   clear hlA hlm hown hK hat hld
   go_wp2_with (first | (refine wpList_storeB rfl 36 (.tmp 2) (.tmp 44) rfl rfl (b1 + 1) _ rfl rfl 36 _ HYr.out infoVe rfl (by simp [Value.oneCell']) ?_; intro w9 hB9 hx9))
   have y0 : w9.cell? ⟨b1 + 1, 0, none⟩ = some (.string addr) := hB9.cell 0
   have y1 : w9.cell? ⟨b1 + 1, 1, none⟩ = some (.int .i64 status) := hB9.cell 1
   have y2 : w9.cell? ⟨b1 + 1, 2, none⟩ = some (.slice fA2 fn fc2) := hB9.cell 2
   have y3 : w9.cell? ⟨b1 + 1, 3, none⟩ = some (.slice bA2 bn bc2) := hB9.cell 3
   have y4 : w9.cell? ⟨b1 + 1, 4, none⟩ = some (.slice vA2 k vc2) := hB9.cell 4
   refine bodyPost_ret (v := .agg #[.string addr, .int .i64 status, .slice fA2 fn fc2, .slice bA2 bn bc2, .slice vA2 k vc2]) (by simp [results, Tryz.results43, go_sem, y0, y1, y2, y3, y4]) rfl ?_
   have hs2 := Hsz2.out; have hB := HB1.out
   have KX : Keeps (fun i => i = b1 + 1) wr w9 := Keeps.grown (Keeps.refl _ wr) hx9 (fun b hb => .inl (by injection hb with hb; exact hb.symm))
   have KA : Keeps (fun i => i = b1 ∨ i = b1 + 1 ∨ (Value.slice vA2 k vc2).ownBlock = some i) w5 w9 :=
    (((Keeps.refl _ w5).then HK6.out (fun i hi => .inl (.inl hi))).then HKr.out (fun i hi => .inl (.inr (.inr hi)))).then KX (fun i hi => .inl (.inr (.inl hi)))
   have hQ : ∀ i, (i = b1 ∨ i = b1 + 1 ∨ (Value.slice vA2 k vc2).ownBlock = some i) → (i < W0.heap.size ∨ w4.heap.size ≤ i) := fun i hi => by
    rcases hi with hi | hi | hi
    ·left; omega
    ·left; omega
    ·right; exact (Ho5.out.lt i hi).1
   refine ⟨⟨addr, status, f, body, l, ⟨fA2, fn, fc2⟩, ⟨bA2, bn, bc2⟩, ⟨vA2, k, vc2⟩⟩, rfl, by unfold MV.ver; simp only; rw [Hlm.out], ⟨?_, ?_, ?_, ?_⟩, ?_⟩
   ·exact ((((Hr3.out.ext Hb4.out).more (Q' := fun i => i < W0.heap.size ∨ w4.heap.size ≤ i) (fun i hi => hi)).ext Hb5.out).keep KA (fun i hi => .inl (hQ i hi))).sub (fun i hi => .inl (by omega))
   ·have hw3 := HE3.out.size
    exact (((Hr4.out.more (Q' := fun i => i < W0.heap.size ∨ w4.heap.size ≤ i) (fun i hi => hi.imp (fun h => by show i < w3.heap.size; omega) id)).ext Hb5.out).keep KA (fun i hi => .inl (hQ i hi))).sub (fun i hi => .inl (by omega))
   ·have ho9 := own_keepS Hown.out KX (own_ne Hown.out HYr.out (by decide))
    obtain ⟨s, hs, hsn, hr⟩ := RS.own ho9
    have hs' : s = ⟨vA2, k, vc2⟩ := by
     obtain ⟨a1, a2, a3⟩ := s
     simp only [Sl.v, Value.slice.injEq] at hs
     obtain ⟨rfl, rfl, rfl⟩ := hs
     rfl
    subst hs'
    exact hr.sub (fun i hi => by have := HE4.out.size; show i < w4.heap.size; omega)
   ·intro x hx
    have h1 := HlA.out x hx
    have h5 := Hb1lt.out
    have hR : ∀ i, i = b1 + 1 → (fun i => i < w5.heap.size) i ∨ wr.heap.size ≤ i := fun i hi => .inl (by show i < w5.heap.size; omega)
    exact ⟨(h1.nm.keep KX hR).sub (fun i hi => by show i < w5.heap.size; omega), (h1.bd.keep KX hR).sub (fun i hi => by show i < w5.heap.size; omega)⟩
   ·exact (HW.out.trans HE5.out).keeps KA (fun i hi => by
     rcases hi with hi | hi | hi
     ·omega
     ·omega
     ·have h1 := (Ho5.out.lt i hi).1; have h2 := HE4.out.size; omega)
end Go.Proofs.YtmckbcbdnckngaaGreatDoor

namespace Go.Proofs.YtmckbcbdnckngaaGreatDoor
open Go.RowKit

theorem infoPub : (Tryz.prog.info? 103).map (fun i => (i.zero, i.size, i.bytes)) = some (some (.agg #[.int .i64 0, .string ⟨#[]⟩, .int .i64 0, .slice none 0 0, .slice none 0 0, .slice none 0 0]), 6, 104) := by kernel_rfl
theorem step_appO {P : Program} (w : World) {ops : Array Oper} {o : Oper} {a : Act} {K : Act → World → Prop} {Q : Exit → Act → World → Prop} {E : Prop} (hgd : o.guard = none) (s x : Operand) (t : TypeId)
  (ho : o.op = .call { callee := .builtin .append, args := #[s, x], argTypes := #[t, t] })
  (e : TypeId) (z : Value) (size bytes : Nat) (ht : P.underlying t = some (.slice e))
  (hinfo : (P.info? e).map (fun i => (i.zero, i.size, i.bytes)) = some (some z, size, bytes)) (hzs : z.cells.size = size) (hsz : 0 < size)
  (v : Value) (n : Nat) (xs : List Value) (hs : a.eval s = v) (hown : w.ownsRow 0 e size v n xs)
  (b c m : Nat) (news : List Value) (hx : a.eval x = .slice (some ⟨b, 0, none⟩) m c) (hr : Rd w size (some ⟨b, 0, none⟩) m news) (h1 : ∀ u ∈ news, u.oneCell' = true)
  (hbytes : (n + m) * bytes ≤ 140737488355328) (hby0 : 0 < bytes)
  (h : ∀ A' c' w', w'.ownsRow 0 e size (.slice A' (n + m) c') (n + m) (xs ++ news) → n + m ≤ c' → w.grownBy w' v.ownBlock → ((Value.slice A' (n + m) c').ownBlock = v.ownBlock ∨ (Value.slice A' (n + m) c').ownBlock = some w.heap.size) → K (a.put o.dst (.slice A' (n + m) c')) w') :
  if Region.wanted o (yielded ops a.tmps) = true then Oper.wp P o a w K Q else E := by
 rw [if_pos (by simp [Region.wanted, hgd])]
 have h63 : n + m ≤ maxLen := by
  have : (n + m) * 1 ≤ (n + m) * bytes := Nat.mul_le_mul_left _ hby0
  simp only [maxLen]; omega
 obtain ⟨i, hi, hz, hsize, hby⟩ := info_parts hinfo
 obtain ⟨v', w', hrun, h2, h3, _, h5⟩ := run_append_own_at (P := P) w 0 t o.type e i z size bytes ht hi hz hsize hby hzs hsz v n xs hown ⟨b, 0, none⟩ m c news hr.1 (fun j u hu => by
  obtain ⟨b', o', e', hc⟩ := hr.2 (Nat.lt_of_le_of_lt (Nat.zero_le _) (List.getElem?_eq_some_iff.1 hu).1)
  injection e' with e'
  injection e' with e1 e2
  subst e1; subst e2
  rw [add_plain]; exact hc j u hu) h1 h63 hbytes (Nat.zero_le _)
 obtain ⟨A', c', rfl, hle⟩ := own_shape h2
 unfold Oper.wp execOp
 simp only [ho, resolve, invoke, builtin, Sem.run_bind, Sem.run_pure, Result.andThen_ok, List.map_toArray, List.map_cons, List.map_nil, hs, hx, hrun]
 exact h A' c' w' h2 hle h3 h5
section
variable {o : Org} {t : Int} {v : Ver}
theorem pub_big (h : bigVr v = true) : pubS o t v = (0, 5, o) := by unfold pubS; rw [if_pos (by simp [h])]
theorem pub_full (h : 4096 ≤ o.vs.length) : pubS o t v = (0, 5, o) := by unfold pubS; rw [if_pos (by simp [h])]
theorem pub_form (h1 : bigVr v = false) (h2 : ¬ 4096 ≤ o.vs.length) (h3 : okVr v = false) : pubS o t v = (0, 2, o) := by unfold pubS; rw [if_neg (by simp [h1]; omega), if_pos (by simp [h3])]
theorem pub_ord {p : Int × Ver} (h1 : bigVr v = false) (h2 : ¬ 4096 ≤ o.vs.length) (h3 : okVr v = true) (h4 : o.vs.getLast? = some p) (h5 : cl55 t < p.1) : pubS o t v = (0, 7, o) := by
 unfold pubS; rw [if_neg (by simp [h1]; omega), if_neg (by simp [h3]), h4]; simp only; rw [if_pos h5]
theorem pub_ok (h1 : bigVr v = false) (h2 : ¬ 4096 ≤ o.vs.length) (h3 : okVr v = true) (h4 : ∀ p, o.vs.getLast? = some p → ¬ cl55 t < p.1) : pubS o t v = (((o.vs.length + 1 : Nat) : Int), 0, { o with vs := o.vs ++ [(cl55 t, v)] }) := by
 unfold pubS; rw [if_neg (by simp [h1]; omega), if_neg (by simp [h3])]
 cases h : o.vs.getLast? with
 | none => rfl
 | some p => simp only; rw [if_neg (h4 p h)]; rfl
end
theorem MV.At.sub {Q Q' : Nat → Prop} {w : World} {m : MV} (h : m.At Q w) (hq : ∀ i, Q' i → Q i) : m.At Q' w := h.more (fun i hi => .inl (hq i hi))
theorem pubC_len (l : List (Int × MV)) : (l.flatMap pubC).length = l.length * 6 := by
 induction l with
 | nil => rfl
 | cons x l ih => rw [List.flatMap_cons, List.length_append, ih]; simp [pubC, MV.cells]; omega
theorem OrgP.at_ {w : World} {p : Nat} {R Q : Nat → Prop} {o : Org} {M : OM} (h : OrgP w p R Q o M) {i : Nat} (hi : i < M.mv.length) : ∃ g, M.vs.A = some ⟨g, 0, none⟩ ∧
  w.cell? ⟨g, i * 6, none⟩ = some (.int .i64 M.mv[i].1) ∧ w.cell? ⟨g, i * 6 + 1, none⟩ = some (.string M.mv[i].2.addr) ∧ w.cell? ⟨g, i * 6 + 2, none⟩ = some (.int .i64 M.mv[i].2.status) ∧
  w.cell? ⟨g, i * 6 + 3, none⟩ = some M.mv[i].2.fs.v ∧ w.cell? ⟨g, i * 6 + 4, none⟩ = some M.mv[i].2.bd.v ∧ w.cell? ⟨g, i * 6 + 5, none⟩ = some M.mv[i].2.vr.v := by
 have hv := h.vs
 have hl := hv.1
 rw [pubC_len] at hl
 have hn : M.mv.length = o.vs.length := by omega
 obtain ⟨g, hA⟩ : ∃ g, M.vs.A = some ⟨g, 0, none⟩ := by
  rcases hv.2 with ⟨_, h0⟩ | ⟨g, _, _, e, _⟩
  ·omega
  ·exact ⟨g, (slice_inj e).1⟩
 have hvn : M.vs.v = .slice (some ⟨g, 0, none⟩) o.vs.length M.vs.c := by
  rcases hv.2 with ⟨_, h0⟩ | ⟨g', _, _, e, _⟩
  ·omega
  ·rw [e]
   unfold Sl.v at e
   injection e with e1 e2 e3
   rw [hA] at e1; injection e1 with e1; injection e1 with e1; subst e1; subst e3; rfl
 rw [hvn] at hv
 have hc : ∀ j (_ : j < 6), w.cell? ⟨g, i * 6 + j, none⟩ = (pubC M.mv[i])[j]? := fun j hj => by
  rw [hv.cellAt (i * 6 + j) (by omega)]
  exact flat_at pubC 6 (fun _ => rfl) _ _ _ hi hj
 exact ⟨g, hA, hc 0 (by decide), hc 1 (by decide), hc 2 (by decide), hc 3 (by decide), hc 4 (by decide), hc 5 (by decide)⟩
theorem OrgP.vsn {w : World} {p : Nat} {R Q : Nat → Prop} {o : Org} {M : OM} (h : OrgP w p R Q o M) : M.vs.n = o.vs.length ∧ M.mv.length = o.vs.length := by
 have hl := h.vs.1
 rw [pubC_len] at hl
 refine ⟨?_, by omega⟩
 rcases h.vs.2 with ⟨e, h0⟩ | ⟨g', _, _, e, _⟩
 ·unfold Sl.v at e; injection e with _ e2 _; omega
 ·unfold Sl.v at e; injection e with _ e2 _
theorem or_Publish (Q R Qm : Nat → Prop) (p : Nat) (o : Org) (M : OM) (t : Int) (m : MV) (w : World) (hO : OrgP w p R Q o M) (hm : m.At Qm w) (ha : m.addr.size ≤ 1048576) (hf : m.f.length ≤ 131072) (hT : sumF m.f ≤ 131072)
  (hbn : m.body.size ≤ 1099511627776) (hv : m.vars.length ≤ 1048576)
  (hx : ∀ x ∈ m.vars, x.1.names.length ≤ 1048576 ∧ (∀ n ∈ x.1.names, n.size ≤ 1048576) ∧ x.1.tag.size ≤ 131072 ∧ x.1.body.size ≤ 1099511627776) (hg : Gl w) :
  Calls Tryz.prog 14 #[.pointer (some ⟨p, 0, none⟩), .int .i64 t, .agg m.cells.toArray] w fun e w' => e = .returned (.tuple #[.int .i64 (pubS o t m.ver).1, errV (pubS o t m.ver).2.1]) ∧
   ∃ R', (∃ M', OrgP w' p R' (fun i => (Q i ∧ i < w.heap.size) ∨ R' i) (pubS o t m.ver).2.2 M') ∧ Keeps R w w' ∧ (∀ i, R i → R' i) ∧ (∀ i, R' i → R i ∨ w.heap.size ≤ i) := by
 have HL := zi (fun w' (h : Ext w w') => or_large Qm m w' (hm.ext h) hbn (by omega))
 have HV := zi (fun w' (h : Ext w w') => or_valid Qm m w' (hm.ext h) ha (by omega) (by omega) hv (fun x h2 => ⟨(hx x h2).1, (hx x h2).2.1⟩) (hg.ext h))
 have HC := zi (fun w' (h : Ext w w') => or_clone Qm m w' (hm.ext h) (by omega) hbn hv (fun x h2 => ⟨(hx x h2).1, (hx x h2).2.2.2⟩))
 have HBd := zi (fun (h1 : bigVr m.ver = false) (h2 : okVr m.ver = true) => show VerB m.ver from by
  rw [bigVr_eq] at h1; rw [okVr_eq] at h2
  simp only [Bool.or_eq_false_iff, decide_eq_false_iff_not, Bool.and_eq_true, decide_eq_true_eq] at h1 h2
  refine ⟨ha, ⟨by show 0 ≤ m.status; omega, by show m.status ≤ 1000; omega⟩, ⟨hf, hT⟩, by show m.body.size ≤ _; omega, by show (m.vars.map (·.1)).length ≤ _; rw [List.length_map]; omega, ?_⟩
  intro x hx2
  obtain ⟨y, hy, rfl⟩ := List.mem_map.1 hx2
  obtain ⟨q1, q2, q3, q4⟩ := hx y hy
  refine ⟨q1, q2, q3, ?_⟩
  have := List.any_eq_false.1 h1.2 y hy
  unfold bigX at this
  simp at this; omega)
 have Hbig := zi (@pub_big o t m.ver); have Hfull := zi (@pub_full o t m.ver); have Hform := zi (@pub_form o t m.ver)
 have Hord := zi (fun q => @pub_ord o t m.ver q); have Hok := zi (@pub_ok o t m.ver)
 have HO := zi hO
 have HN := zi hO.vsn
 have hfew := hO.few
 have Hct := zi (show 0 ≤ cl55 t ∧ cl55 t ≤ 1099511627776 by unfold cl55; omega)
 have HCl := zi (fun w' => or_clip t w')
 obtain ⟨⟨vsA, vsn, vsc⟩, br, lg, mv⟩ := M
 obtain ⟨n, hn⟩ : ∃ n, o.vs.length = n := ⟨_, rfl⟩
 have hvn : n = vsn := (HN.out.1.trans hn).symm
 subst hvn
 have HP0 := zi (fun w' (h : Ext w w') => (show w'.cell? ⟨p, 0, none⟩ = some (.slice vsA n vsc) from (HO.out.blk.ext h).cell 0))
 rw [hn] at hfew
 have Hn := zi hn
 rw [hn] at Hfull Hform Hord Hok
 clear hm ha hf hT hbn hv hx hg hO hn
 generalize hP : pubS o t m.ver = PR at *
 generalize hBg : bigVr m.ver = bg at *
 generalize hOv : okVr m.ver = ov at *
 generalize cl55 t = ct at *
 obtain ⟨addr, status, f, body, vars, ⟨fA, fn, fc⟩, ⟨bA, bn, bc⟩, ⟨vA, vn, vc⟩⟩ := m
 simp only [MV.cells, Sl.v] at *
 clear hP hBg hOv
 have HX := zi (Blk.new w 36 #[.string addr, .int .i64 status, .slice fA fn fc, .slice bA bn bc, .slice vA vn vc])
 have HW := zi ((Ext.refl w).alloc (.cells #[.string addr, .int .i64 status, .slice fA fn fc, .slice bA bn bc, .slice vA vn vc] 36))
 have hE := Ext.refl (w.alloc (.cells #[.string addr, .int .i64 status, .slice fA fn fc, .slice bA bn bc, .slice vA vn vc] 36))
 go_enter Tryz.func14, Tryz.ntmps14
 go_wp2_with fail
 refine (HCl.out _).mono ?_; rintro e w1 ⟨rfl, rfl⟩
 generalize hWb : w.alloc (.cells #[.string addr, .int .i64 status, .slice fA fn fc, .slice bA bn bc, .slice vA vn vc] 36) = Wb at *
 clear hWb
 have HS := zi (fun w' (hh : Ext Wb w') => (⟨(HX.out.ext hh).cell 0, (HX.out.ext hh).cell 1, (HX.out.ext hh).cell 2, (HX.out.ext hh).cell 3, (HX.out.ext hh).cell 4⟩ : w'.cell? ⟨w.heap.size, 0, none⟩ = some (.string addr) ∧ w'.cell? ⟨w.heap.size, 1, none⟩ = some (.int .i64 status) ∧ w'.cell? ⟨w.heap.size, 2, none⟩ = some (.slice fA fn fc) ∧ w'.cell? ⟨w.heap.size, 3, none⟩ = some (.slice bA bn bc) ∧ w'.cell? ⟨w.heap.size, 4, none⟩ = some (.slice vA vn vc)))
 obtain ⟨x0, x1, x2, x3, x4⟩ := HS.out _ hE
 go_wp2_with fail
 refine (HL.out _ HW.out).mono ?_; rintro e w2 ⟨rfl, hb2⟩
 clear x0 x1 x2 x3 x4
 replace hE := hE.trans hb2
 cases bg with
 | true =>
  obtain rfl : PR = (0, 5, o) := Hbig.out (by trivial)
  go_wp2_with fail
  go_ret2
  exact ⟨rfl, R, ⟨⟨⟨vsA, n, vsc⟩, br, lg, mv⟩, (HO.out.ext (HW.out.trans hE)).more (fun i hi => .inl (hi.elim (fun h => h.1) (HO.out.rq i))) (fun b hb => .inr hb)⟩, Keeps.of (HW.out.trans hE), fun _ h => h, fun _ h => .inl h⟩
 | false =>
  have p0 := HP0.out _ (HW.out.trans hE)
  by_cases h4 : 4096 ≤ n
  ·obtain rfl : PR = (0, 5, o) := Hfull.out h4
   have h4' : (4096 : Int) ≤ n := by omega
   go_wp2_with fail
   go_ret2
   exact ⟨rfl, R, ⟨⟨⟨vsA, n, vsc⟩, br, lg, mv⟩, (HO.out.ext (HW.out.trans hE)).more (fun i hi => .inl (hi.elim (fun h => h.1) (HO.out.rq i))) (fun b hb => .inr hb)⟩, Keeps.of (HW.out.trans hE), fun _ h => h, fun _ h => .inl h⟩
  ·have h4' : ¬ (4096 : Int) ≤ n := by omega
   obtain ⟨x0, x1, x2, x3, x4⟩ := HS.out _ hE
   go_wp2_with fail
   refine (HV.out _ (HW.out.trans hE)).mono ?_; rintro e w3 ⟨rfl, hb3⟩
   clear x0 x1 x2 x3 x4 p0
   replace hE := hE.trans hb3
   cases ov with
   | false =>
    obtain rfl : PR = (0, 2, o) := Hform.out (by trivial) h4 (by trivial)
    go_wp2_with fail
    go_ret2
    exact ⟨rfl, R, ⟨⟨⟨vsA, n, vsc⟩, br, lg, mv⟩, (HO.out.ext (HW.out.trans hE)).more (fun i hi => .inl (hi.elim (fun h => h.1) (HO.out.rq i))) (fun b hb => .inr hb)⟩, Keeps.of (HW.out.trans hE), fun _ h => h, fun _ h => .inl h⟩
   | true =>
    go_wp2_with fail
    replace hE := hE.drew
    rcases Nat.eq_zero_or_pos n with hn0 | hn0
    ·subst hn0
     have Hpr := zi (Hok.out (by trivial) h4 (by trivial) (fun q hq => by rw [List.getLast?_eq_none_iff.2 (List.eq_nil_of_length_eq_zero Hn.out)] at hq; cases hq))
     refine wp_region_held_drew (S := (fun w' => w'.cell? ⟨p, 0, none⟩ = some (.slice vsA 0 vsc))) (by kernel_rfl) ?_ (fun hHeld => ?_)
     ·(try dsimp only); exact HP0.out _ (HW.out.trans hE)
     refine zH (v := ?_) 0 (some 32) rfl ?_ ?_; rotate_left
     ·(intro w hSw; (try dsimp only at hSw); go_simp; (try with_reducible rfl))
     try simp only [zP]
     refine zH (v := ?_) 1 (some 33) rfl ?_ ?_; rotate_left
     ·(intro w hSw; (try dsimp only at hSw); go_simp; (try with_reducible rfl))
     try simp only [zP]
     refine zH (v := ?_) 2 (some 34) rfl ?_ ?_; rotate_left
     ·(intro w hSw; (try dsimp only at hSw); go_simp; (try with_reducible rfl))
     try simp only [zP]
     refine zH (v := ?_) 3 (some 35) rfl ?_ ?_; rotate_left
     ·(intro w hSw; (try dsimp only at hSw); go_simp; (try with_reducible rfl))
     try simp only [zP]
     refine zH (v := ?_) 4 (some 36) rfl ?_ ?_; rotate_left
     ·(intro w hSw; (try dsimp only at hSw); go_simp; (try with_reducible rfl))
     try simp only [zP]
     refine zH (v := ?_) 5 (some 37) rfl ?_ ?_; rotate_left
     ·(intro w hSw; (try dsimp only at hSw); go_simp; (try with_reducible rfl))
     try simp only [zP]
     refine zH (v := ?_) 6 (some 38) rfl ?_ ?_; rotate_left
     ·(intro w hSw; (try dsimp only at hSw); go_simp; (try with_reducible rfl))
     try simp only [zP]
     refine wpAnyH_take (i := 7) (oi := ⟨some 39, _, _, _, _, _⟩) (v := undef) rfl (by kernel_rfl) (by kernel_rfl) (by kernel_rfl) (fun _ _ _ h => h) (Or.inr ⟨by rfl, rfl⟩) (by assumption) ?_
     try simp only [zP]
     refine wpAnyH_take (i := 8) (oi := ⟨some 40, _, _, _, _, _⟩) (v := undef) rfl (by kernel_rfl) (by kernel_rfl) (by kernel_rfl) (fun _ _ _ h => h) (Or.inr ⟨by rfl, rfl⟩) (by assumption) ?_
     try simp only [zP]
     refine wpAnyH_take (i := 9) (oi := ⟨some 41, _, _, _, _, _⟩) (v := undef) rfl (by kernel_rfl) (by kernel_rfl) (by kernel_rfl) (fun _ _ _ h => h) (Or.inr ⟨by rfl, rfl⟩) (by assumption) ?_
     try simp only [zP]
     refine wpAnyH_take (i := 10) (oi := ⟨some 42, _, _, _, _, _⟩) (v := undef) rfl (by kernel_rfl) (by kernel_rfl) (by kernel_rfl) (fun _ _ _ h => h) (Or.inr ⟨by rfl, rfl⟩) (by assumption) ?_
     try simp only [zP]
     refine wpAnyH_take (i := 11) (oi := ⟨some 43, _, _, _, _, _⟩) (v := undef) rfl (by kernel_rfl) (by kernel_rfl) (by kernel_rfl) (fun _ _ _ h => h) (Or.inr ⟨by rfl, rfl⟩) (by assumption) ?_
     try simp only [zP]
     refine wpAnyH_take (i := 12) (oi := ⟨some 44, _, _, _, _, _⟩) (v := undef) rfl (by kernel_rfl) (by kernel_rfl) (by kernel_rfl) (fun _ _ _ h => h) (Or.inr ⟨by rfl, rfl⟩) (by assumption) ?_
     try simp only [zP]
     refine wpAnyH_take (i := 13) (oi := ⟨some 45, _, _, _, _, _⟩) (v := undef) rfl (by kernel_rfl) (by kernel_rfl) (by kernel_rfl) (fun _ _ _ h => h) (Or.inr ⟨by rfl, rfl⟩) (by assumption) ?_
     try simp only [zP]
     refine wpAnyH_take (i := 14) (oi := ⟨some 46, _, _, _, _, _⟩) (v := undef) rfl (by kernel_rfl) (by kernel_rfl) (by kernel_rfl) (fun _ _ _ h => h) (Or.inr ⟨by rfl, rfl⟩) (by assumption) ?_
     try simp only [zP]
     refine wpAnyH_take (i := 15) (oi := ⟨some 47, _, _, _, _, _⟩) (v := undef) rfl (by kernel_rfl) (by kernel_rfl) (by kernel_rfl) (fun _ _ _ h => h) (Or.inr ⟨by rfl, rfl⟩) (by assumption) ?_
     try simp only [zP]
     refine wpAnyH_take (i := 16) (oi := ⟨some 48, _, _, _, _, _⟩) (v := undef) rfl (by kernel_rfl) (by kernel_rfl) (by kernel_rfl) (fun _ _ _ h => h) (Or.inr ⟨by rfl, rfl⟩) (by assumption) ?_
     try simp only [zP]
     refine wpAnyH_take (i := 17) (oi := ⟨some 49, _, _, _, _, _⟩) (v := undef) rfl (by kernel_rfl) (by kernel_rfl) (by kernel_rfl) (fun _ _ _ h => h) (Or.inr ⟨by rfl, rfl⟩) (by assumption) ?_
     try simp only [zP]
     refine wpAnyH_take (i := 18) (oi := ⟨some 50, _, _, _, _, _⟩) (v := undef) rfl (by kernel_rfl) (by kernel_rfl) (by kernel_rfl) (fun _ _ _ h => h) (Or.inr ⟨by rfl, rfl⟩) (by assumption) ?_
     try simp only [zP]
     refine wpAnyH_take (i := 19) (oi := ⟨some 51, _, _, _, _, _⟩) (v := undef) rfl (by kernel_rfl) (by kernel_rfl) (by kernel_rfl) (fun _ _ _ h => h) (Or.inr ⟨by rfl, rfl⟩) (by assumption) ?_
     try simp only [zP]
     refine wpAnyH_take (i := 20) (oi := ⟨some 52, _, _, _, _, _⟩) (v := undef) rfl (by kernel_rfl) (by kernel_rfl) (by kernel_rfl) (fun _ _ _ h => h) (Or.inr ⟨by rfl, rfl⟩) (by assumption) ?_
     try simp only [zP]
     refine wpAnyH_take (i := 21) (oi := ⟨some 53, _, _, _, _, _⟩) (v := undef) rfl (by kernel_rfl) (by kernel_rfl) (by kernel_rfl) (fun _ _ _ h => h) (Or.inr ⟨by rfl, rfl⟩) (by assumption) ?_
     try simp only [zP]
     refine zH (v := ?_) 22 (some 54) rfl ?_ ?_; rotate_left
     ·(intro w hSw; (try dsimp only at hSw); go_simp; (try with_reducible rfl))
     try simp only [zP]
     refine zH (v := ?_) 23 (some 31) rfl ?_ ?_; rotate_left
     ·(intro w hSw; (try dsimp only at hSw); go_simp; (try with_reducible rfl))
     try simp only [zP]
     refine wpAnyH_done (by kernel_rfl) ?_ _
     go_wp2_with fail
     replace hE := hE.drew
     refine wp_region_U (S := (fun w' => w'.cell? ⟨p, 0, none⟩ = some (.slice vsA 0 vsc) ∧ w'.cell? ⟨w.heap.size, 0, none⟩ = some (.string addr) ∧ w'.cell? ⟨w.heap.size, 1, none⟩ = some (.int .i64 status) ∧ w'.cell? ⟨w.heap.size, 2, none⟩ = some (.slice fA fn fc) ∧ w'.cell? ⟨w.heap.size, 3, none⟩ = some (.slice bA bn bc) ∧ w'.cell? ⟨w.heap.size, 4, none⟩ = some (.slice vA vn vc))) 10 (by kernel_rfl) ?_ (fun hHeld => ?_)
     ·(try dsimp only); exact ⟨HP0.out _ (HW.out.trans hE), HS.out _ hE⟩
     refine wpAnyU_takeW (i := 0) (oi := ⟨some 56, _, _, _, _, _⟩) (v := ?_) (by kernel_rfl) rfl (by kernel_rfl) (by kernel_rfl) (by kernel_rfl) (fun _ _ _ h => h) (Or.inl ⟨by rfl, ?_⟩) (by assumption) ?_
     rotate_left
     ·(intro w hSw; (try dsimp only at hSw); go_simp; (try with_reducible rfl))
     try simp only [zP]
     refine wpAnyU_takeW (i := 1) (oi := ⟨some 57, _, _, _, _, _⟩) (v := ?_) (by kernel_rfl) rfl (by kernel_rfl) (by kernel_rfl) (by kernel_rfl) (fun _ _ _ h => h) (Or.inl ⟨by rfl, ?_⟩) (by assumption) ?_
     rotate_left
     ·(intro w hSw; (try dsimp only at hSw); go_simp; (try with_reducible rfl))
     try simp only [zP]
     refine wpAnyU_takeW (i := 2) (oi := ⟨some 58, _, _, _, _, _⟩) (v := ?_) (by kernel_rfl) rfl (by kernel_rfl) (by kernel_rfl) (by kernel_rfl) (fun _ _ _ h => h) (Or.inl ⟨by rfl, ?_⟩) (by assumption) ?_
     rotate_left
     ·(intro w hSw; (try dsimp only at hSw); go_simp; (try with_reducible rfl))
     try simp only [zP]
     refine wpAnyU_takeW (i := 3) (oi := ⟨some 59, _, _, _, _, _⟩) (v := ?_) (by kernel_rfl) rfl (by kernel_rfl) (by kernel_rfl) (by kernel_rfl) (fun _ _ _ h => h) (Or.inl ⟨by rfl, ?_⟩) (by assumption) ?_
     rotate_left
     ·(intro w hSw; (try dsimp only at hSw); go_simp; (try with_reducible rfl))
     try simp only [zP]
     refine wpAnyU_take (i := 4) (oi := ⟨some 60, _, _, _, _, _⟩) (v := ?_) [10, 11, 12, 13] (by kernel_rfl) (by kernel_rfl) (by kernel_rfl) (by kernel_rfl) rfl (by kernel_rfl) (by kernel_rfl) (by kernel_rfl) (fun _ _ _ h => h) (Or.inl ⟨by rfl, ?_⟩) (by assumption) ?_
     rotate_left
     ·(intro w hSw; (try dsimp only at hSw); go_simp; (try with_reducible rfl))
     try simp only [zP]
     refine wpAnyU_takeW (i := 5) (oi := ⟨some 61, _, _, _, _, _⟩) (v := ?_) (by kernel_rfl) rfl (by kernel_rfl) (by kernel_rfl) (by kernel_rfl) (fun _ _ _ h => h) (Or.inl ⟨by rfl, ?_⟩) (by assumption) ?_
     rotate_left
     ·(intro w hSw; (try dsimp only at hSw); go_simp; (try with_reducible rfl))
     try simp only [zP]
     refine wpAnyU_take (i := 6) (oi := ⟨some 62, _, _, _, _, _⟩) (v := ?_) [7, 8, 9, 10, 11, 12, 13] (by kernel_rfl) (by kernel_rfl) (by kernel_rfl) (by kernel_rfl) rfl (by kernel_rfl) (by kernel_rfl) (by kernel_rfl) (fun _ _ _ h => h) (Or.inl ⟨by rfl, ?_⟩) (by assumption) ?_
     rotate_left
     ·(intro w hSw; (try dsimp only at hSw); go_simp; (try with_reducible rfl))
     try simp only [zP]
     refine wpAnyU_ready (rs := [7]) (by kernel_rfl) (by simp) ?_
     refine AllReadyU.cons (o := ⟨some 63, _, _, _, _, _⟩) rfl (fun K hK => ?_) AllReadyU.nil
     go_simp
     have HEc := zi hE; refine (HC.out _ (HW.out.trans hE)).mono ?_; rintro e w5 ⟨⟨addr2, status2, f2, body2, vars2, ⟨fA2, fn2, fc2⟩, ⟨bA2, bn2, bc2⟩, ⟨vA2, vn2, vc2⟩⟩, rfl, hver, hAt, hb5⟩; have Hver := zi hver; have HAt := zi hAt; replace hE := hE.trans hb5; have HE5 := zi hE; clear hver hAt hb5; (simp only [MV.cells, Sl.v])
     try go_wp2_with fail
     refine hK.out _ _ ?_ (fun hHeld => ?_)
     ·(try dsimp only); exact ⟨HP0.out _ (HW.out.trans hE), HS.out _ hE⟩
     clear hK K
     try simp only [zP]
     refine wpAnyU_takeW (i := 8) (oi := ⟨some 64, _, _, _, _, _⟩) (v := ?_) (by kernel_rfl) rfl (by kernel_rfl) (by kernel_rfl) (by kernel_rfl) (fun _ _ _ h => h) (Or.inl ⟨by rfl, ?_⟩) (by assumption) ?_
     rotate_left
     ·(intro w hSw; (try dsimp only at hSw); go_simp; (try with_reducible rfl))
     try simp only [zP]
     refine wpAnyU_ready (rs := [9]) (by kernel_rfl) (by simp) ?_
     refine AllReadyU.cons (o := ⟨some 65, _, _, _, _, _⟩) rfl (fun K hK => ?_) AllReadyU.nil
     go_simp
     replace hE := hE.alloc (.cells #[.int .i64 ct, .string addr2, .int .i64 status2, .slice fA2 fn2 fc2, .slice bA2 bn2 bc2, .slice vA2 vn2 vc2] 103); have HEa := zi hE
     try go_wp2_with fail
     refine hK.out _ _ ?_ (fun hHeld => ?_)
     ·(try dsimp only); exact ⟨HP0.out _ (HW.out.trans hE), HS.out _ hE⟩
     clear hK K
     try simp only [zP]
     refine wpAnyU_ready (rs := [10]) (by kernel_rfl) (by simp) ?_
     refine AllReadyU.stop (o := ⟨some 66, _, _, _, _, _⟩) rfl (by kernel_rfl) (fun K hK => ?_) AllReadyU.nil
     refine step_appO _ rfl (.tmp 60) (.tmp 65) 97 rfl 103 _ 6 104 Tryz.underlying97 infoPub (by simp [Value.cells]) (by decide) _ _ _ rfl (own_ext HO.out.vs (HW.out.trans hE)) _ 1 1 (pubC (ct, ⟨addr2, status2, f2, body2, vars2, ⟨fA2, fn2, fc2⟩, ⟨bA2, bn2, bc2⟩, ⟨vA2, vn2, vc2⟩⟩)) rfl (Rd.lit _ _ _ rfl 6 1 rfl) (by have := pubC_one [(ct, ⟨addr2, status2, f2, body2, vars2, ⟨fA2, fn2, fc2⟩, ⟨bA2, bn2, bc2⟩, ⟨vA2, vn2, vc2⟩⟩)]; simpa using this) (by rw [Hn.out]; omega) (by decide) ?_; intro A6 c6 w6 hown6 hle6 hg6 hn6
     refine hK.out _ _ ?_ (fun hHeld => ?_)
     ·(try dsimp only); (try trivial)
     clear hK K
     try simp only [zP]
     refine zH (v := ?_) 11 (some 67) rfl ?_ ?_; rotate_left
     ·(intro w hSw; (try dsimp only at hSw); go_simp; (try with_reducible rfl))
     try simp only [zP]
     refine zH (v := ?_) 12 (some 68) rfl ?_ ?_; rotate_left
     ·(intro w hSw; (try dsimp only at hSw); go_simp; (try with_reducible rfl))
     try simp only [zP]
     refine wpAnyH_ready (rs := [13]) (by kernel_rfl) (by simp) ?_
     refine AllReadyH.cons (o := ⟨none, _, _, _, _, _⟩) rfl (fun K hK => ?_) AllReadyH.nil
     have hOx := HO.out.ext (HW.out.trans hE); have hPb := hOx.blk.grown hg6 (Ne.symm (own_blk hOx.vs hOx.blk (by decide))); have kp := hPb.cell 0; have fp := hPb.frozen 0; clear hOx hPb; (simp only [Sl.v] at kp)
     go_simp
     try go_wp2_with fail
     refine hK.out _ _ ?_ (fun hHeld => ?_)
     ·(try dsimp only); (try trivial)
     clear hK K
     try simp only [zP]
     refine wpAnyH_done (by kernel_rfl) ?_ _
     clear kp fp
     have hOa := (HO.out.ext (HW.out.trans hE)).more (Q' := fun i => Q i ∧ i < w.heap.size) (fun i hi => .inl hi.1) (fun b hb => ⟨HO.out.rq b hb, HO.out.low b hb⟩)
     have hwe := (HW.out.trans hE).size
     obtain ⟨hO2, hK2⟩ := hOa.addV (x := (ct, ⟨addr2, status2, f2, body2, vars2, ⟨fA2, fn2, fc2⟩, ⟨bA2, bn2, bc2⟩, ⟨vA2, vn2, vc2⟩⟩)) hown6 hg6 hn6 ((HAt.out.sub (fun i hi => Nat.lt_of_lt_of_le hi.2 (HW.out.trans HEc.out).size)).ext ((Ext.refl _).alloc _)) (by rw [Hn.out]; omega) ⟨by rw [Hver.out]; exact HBd.out (by trivial) (by trivial), Hct.out⟩
     have HO2 := zi hO2; have HK2 := zi ((Keeps.of (HW.out.trans hE)).trans hK2)
     have q0 : (w6.setCell ⟨p, 0, none⟩ (.slice A6 (o.vs.length + 1) c6)).cell? ⟨p, 0, none⟩ = some (.slice A6 (o.vs.length + 1) c6) := hO2.blk.cell 0
     have Hn6 := zi hn6
     clear hO2 hK2 hOa hn6 hown6 hg6
     generalize (w6.setCell ⟨p, 0, none⟩ (.slice A6 (o.vs.length + 1) c6)) = wF at *
     obtain rfl := Hpr.out
     go_wp2_with fail
     go_ret2
     refine ⟨by (try simp only [Hn.out]); rfl, Rplus R (.slice A6 (o.vs.length + 1) c6), ⟨⟨⟨A6, o.vs.length + 1, c6⟩, br, lg, mv ++ [(ct, ⟨addr2, status2, f2, body2, vars2, ⟨fA2, fn2, fc2⟩, ⟨bA2, bn2, bc2⟩, ⟨vA2, vn2, vc2⟩⟩)]⟩, ?_⟩, HK2.out, fun _ h => .inl h, fun i hi => ?_⟩
     ·have h9 := HO2.out.more (Q' := fun i => (Q i ∧ i < w.heap.size) ∨ Rplus R (.slice A6 (o.vs.length + 1) c6) i) (fun i hi => .inl (hi.elim (fun h => .inl ⟨h, Nat.lt_of_lt_of_le h.2 hwe⟩) (fun h => HO2.out.rq i h))) (fun b hb => .inr hb)
      rw [Hver.out] at h9
      exact h9
     ·rcases hi with hi | hi
      ·exact .inl hi
      ·rcases Hn6.out with e | e
       ·rw [e] at hi; exact .inl (HO.out.rv i hi)
       ·rw [e] at hi; injection hi with hi; exact .inr (by omega)
    ·obtain ⟨k, rfl⟩ : ∃ k, n = k + 1 := ⟨n - 1, by omega⟩
     have hkm : k < mv.length := by have h1 : mv.length = o.vs.length := HN.out.2; have := Hn.out; omega
     obtain ⟨g, hA, d0, -⟩ := HO.out.at_ hkm
     simp only at hA d0
     subst hA
     have hkv : k < o.vs.length := by have := Hn.out; omega
     have Hlast := zi (show o.vs.getLast? = some o.vs[k] by rw [List.getLast?_eq_getElem?, Hn.out]; exact List.getElem?_eq_getElem hkv)
     have hmk : mv[k].1 = o.vs[k].1 := by
      have h1 : (mv.map (fun x => (x.1, x.2.ver)))[k]? = o.vs[k]? := congrArg (·[k]?) HO.out.ver
      rw [List.getElem?_map, List.getElem?_eq_getElem hkm, List.getElem?_eq_getElem hkv] at h1
      simp only [Option.map_some, Option.some.injEq] at h1
      exact congrArg Prod.fst h1
     rw [hmk] at d0
     have HD0 := zi (fun w' (h : Ext w w') => h.cell d0)
     have Hord := zi (fun h => Hord.out _ (by trivial) h4 (by trivial) Hlast.out h)
     have Hok := zi (fun h => Hok.out (by trivial) h4 (by trivial) (fun q hq => by rw [Hlast.out] at hq; injection hq with hq; subst hq; exact h))
     clear hmk d0 hkm Hlast
     generalize o.vs[k].1 = tl at *
     have hwm : IntKind.i64.wrap (((k + 1 : Nat) : Int) - 1) = (k : Int) := by rw [IntWalk.i64_in _ (by omega)]; omega
     have hwk : IntKind.i64.wrap (k : Int) = (k : Int) := IntWalk.i64_in _ (by omega)
     have hk1 : (k : Int) < (k : Int) + 1 := by omega
     clear hkv
     by_cases hlt : ct < tl
     ·obtain rfl : PR = (0, 7, o) := Hord.out hlt
      refine wp_region_held_drew (S := (fun w' => w'.cell? ⟨p, 0, none⟩ = some (.slice (some ⟨g, 0, none⟩) (k + 1) vsc) ∧ w'.cell? ⟨g, k * 6, none⟩ = some (.int .i64 tl))) (by kernel_rfl) ?_ (fun hHeld => ?_)
      ·(try dsimp only); exact ⟨HP0.out _ (HW.out.trans hE), HD0.out _ (HW.out.trans hE)⟩
      refine zH (v := ?_) 0 (some 32) rfl ?_ ?_; rotate_left
      ·(intro w hSw; (try dsimp only at hSw); go_simp; (try with_reducible rfl))
      try simp only [zP]
      refine zH (v := ?_) 1 (some 33) rfl ?_ ?_; rotate_left
      ·(intro w hSw; (try dsimp only at hSw); go_simp; (try with_reducible rfl))
      try simp only [zP]
      refine zH (v := ?_) 2 (some 34) rfl ?_ ?_; rotate_left
      ·(intro w hSw; (try dsimp only at hSw); go_simp; (try with_reducible rfl))
      try simp only [zP]
      refine zH (v := ?_) 3 (some 35) rfl ?_ ?_; rotate_left
      ·(intro w hSw; (try dsimp only at hSw); go_simp; (try with_reducible rfl))
      try simp only [zP]
      refine zH (v := ?_) 4 (some 36) rfl ?_ ?_; rotate_left
      ·(intro w hSw; (try dsimp only at hSw); go_simp; (try with_reducible rfl))
      try simp only [zP]
      refine zH (v := ?_) 5 (some 37) rfl ?_ ?_; rotate_left
      ·(intro w hSw; (try dsimp only at hSw); go_simp; (try with_reducible rfl))
      try simp only [zP]
      refine zH (v := ?_) 6 (some 38) rfl ?_ ?_; rotate_left
      ·(intro w hSw; (try dsimp only at hSw); go_simp; (try with_reducible rfl))
      try simp only [zP]
      refine zH (v := ?_) 7 (some 39) rfl ?_ ?_; rotate_left
      ·(intro w hSw; (try dsimp only at hSw); go_simp; (try with_reducible rfl))
      try simp only [zP]
      refine zH (v := ?_) 8 (some 40) rfl ?_ ?_; rotate_left
      ·(intro w hSw; (try dsimp only at hSw); go_simp; (try with_reducible rfl))
      try simp only [zP]
      refine zH (v := ?_) 9 (some 41) rfl ?_ ?_; rotate_left
      ·(intro w hSw; (try dsimp only at hSw); go_simp; (try with_reducible rfl))
      try simp only [zP]
      refine zH (v := ?_) 10 (some 42) rfl ?_ ?_; rotate_left
      ·(intro w hSw; (try dsimp only at hSw); go_simp; (try with_reducible rfl))
      try simp only [zP]
      refine zH (v := ?_) 11 (some 43) rfl ?_ ?_; rotate_left
      ·(intro w hSw; (try dsimp only at hSw); go_simp; (try with_reducible rfl))
      try simp only [zP]
      refine zH (v := ?_) 12 (some 44) rfl ?_ ?_; rotate_left
      ·(intro w hSw; (try dsimp only at hSw); go_simp; (try with_reducible rfl))
      try simp only [zP]
      refine zH (v := ?_) 13 (some 45) rfl ?_ ?_; rotate_left
      ·(intro w hSw; (try dsimp only at hSw); go_simp; (try with_reducible rfl))
      try simp only [zP]
      refine zH (v := ?_) 14 (some 46) rfl ?_ ?_; rotate_left
      ·(intro w hSw; (try dsimp only at hSw); go_simp; (try with_reducible rfl))
      try simp only [zP]
      refine zH (v := ?_) 15 (some 47) rfl ?_ ?_; rotate_left
      ·(intro w hSw; (try dsimp only at hSw); go_simp; (try with_reducible rfl))
      try simp only [zP]
      refine zH (v := ?_) 16 (some 48) rfl ?_ ?_; rotate_left
      ·(intro w hSw; (try dsimp only at hSw); go_simp; (try with_reducible rfl))
      try simp only [zP]
      refine zH (v := ?_) 17 (some 49) rfl ?_ ?_; rotate_left
      ·(intro w hSw; (try dsimp only at hSw); go_simp; (try with_reducible rfl))
      try simp only [zP]
      refine zH (v := ?_) 18 (some 50) rfl ?_ ?_; rotate_left
      ·(intro w hSw; (try dsimp only at hSw); go_simp; (try with_reducible rfl))
      try simp only [zP]
      refine zH (v := ?_) 19 (some 51) rfl ?_ ?_; rotate_left
      ·(intro w hSw; (try dsimp only at hSw); go_simp; (try with_reducible rfl))
      try simp only [zP]
      refine zH (v := ?_) 20 (some 52) rfl ?_ ?_; rotate_left
      ·(intro w hSw; (try dsimp only at hSw); go_simp; (try with_reducible rfl))
      try simp only [zP]
      refine zH (v := ?_) 21 (some 53) rfl ?_ ?_; rotate_left
      ·(intro w hSw; (try dsimp only at hSw); go_simp; (try with_reducible rfl))
      try simp only [zP]
      refine zH (v := ?_) 22 (some 54) rfl ?_ ?_; rotate_left
      ·(intro w hSw; (try dsimp only at hSw); go_simp; (try with_reducible rfl))
      try simp only [zP]
      refine zH (v := ?_) 23 (some 31) rfl ?_ ?_; rotate_left
      ·(intro w hSw; (try dsimp only at hSw); go_simp; (try with_reducible rfl))
      try simp only [zP]
      refine wpAnyH_done (by kernel_rfl) ?_ _
      go_wp2_with fail
      go_ret2
      exact ⟨rfl, R, ⟨⟨⟨some ⟨g, 0, none⟩, k + 1, vsc⟩, br, lg, mv⟩, (HO.out.ext (HW.out.trans hE)).more (fun i hi => .inl (hi.elim (fun h => h.1) (HO.out.rq i))) (fun b hb => .inr hb)⟩, Keeps.of (HW.out.trans hE), fun _ h => h, fun _ h => .inl h⟩
     ·have Hpr := zi (Hok.out (by omega))
      refine wp_region_held_drew (S := (fun w' => w'.cell? ⟨p, 0, none⟩ = some (.slice (some ⟨g, 0, none⟩) (k + 1) vsc) ∧ w'.cell? ⟨g, k * 6, none⟩ = some (.int .i64 tl))) (by kernel_rfl) ?_ (fun hHeld => ?_)
      ·(try dsimp only); exact ⟨HP0.out _ (HW.out.trans hE), HD0.out _ (HW.out.trans hE)⟩
      refine zH (v := ?_) 0 (some 32) rfl ?_ ?_; rotate_left
      ·(intro w hSw; (try dsimp only at hSw); go_simp; (try with_reducible rfl))
      try simp only [zP]
      refine zH (v := ?_) 1 (some 33) rfl ?_ ?_; rotate_left
      ·(intro w hSw; (try dsimp only at hSw); go_simp; (try with_reducible rfl))
      try simp only [zP]
      refine zH (v := ?_) 2 (some 34) rfl ?_ ?_; rotate_left
      ·(intro w hSw; (try dsimp only at hSw); go_simp; (try with_reducible rfl))
      try simp only [zP]
      refine zH (v := ?_) 3 (some 35) rfl ?_ ?_; rotate_left
      ·(intro w hSw; (try dsimp only at hSw); go_simp; (try with_reducible rfl))
      try simp only [zP]
      refine zH (v := ?_) 4 (some 36) rfl ?_ ?_; rotate_left
      ·(intro w hSw; (try dsimp only at hSw); go_simp; (try with_reducible rfl))
      try simp only [zP]
      refine zH (v := ?_) 5 (some 37) rfl ?_ ?_; rotate_left
      ·(intro w hSw; (try dsimp only at hSw); go_simp; (try with_reducible rfl))
      try simp only [zP]
      refine zH (v := ?_) 6 (some 38) rfl ?_ ?_; rotate_left
      ·(intro w hSw; (try dsimp only at hSw); go_simp; (try with_reducible rfl))
      try simp only [zP]
      refine zH (v := ?_) 7 (some 39) rfl ?_ ?_; rotate_left
      ·(intro w hSw; (try dsimp only at hSw); go_simp; (try with_reducible rfl))
      try simp only [zP]
      refine zH (v := ?_) 8 (some 40) rfl ?_ ?_; rotate_left
      ·(intro w hSw; (try dsimp only at hSw); go_simp; (try with_reducible rfl))
      try simp only [zP]
      refine zH (v := ?_) 9 (some 41) rfl ?_ ?_; rotate_left
      ·(intro w hSw; (try dsimp only at hSw); go_simp; (try with_reducible rfl))
      try simp only [zP]
      refine zH (v := ?_) 10 (some 42) rfl ?_ ?_; rotate_left
      ·(intro w hSw; (try dsimp only at hSw); go_simp; (try with_reducible rfl))
      try simp only [zP]
      refine zH (v := ?_) 11 (some 43) rfl ?_ ?_; rotate_left
      ·(intro w hSw; (try dsimp only at hSw); go_simp; (try with_reducible rfl))
      try simp only [zP]
      refine zH (v := ?_) 12 (some 44) rfl ?_ ?_; rotate_left
      ·(intro w hSw; (try dsimp only at hSw); go_simp; (try with_reducible rfl))
      try simp only [zP]
      refine zH (v := ?_) 13 (some 45) rfl ?_ ?_; rotate_left
      ·(intro w hSw; (try dsimp only at hSw); go_simp; (try with_reducible rfl))
      try simp only [zP]
      refine zH (v := ?_) 14 (some 46) rfl ?_ ?_; rotate_left
      ·(intro w hSw; (try dsimp only at hSw); go_simp; (try with_reducible rfl))
      try simp only [zP]
      refine zH (v := ?_) 15 (some 47) rfl ?_ ?_; rotate_left
      ·(intro w hSw; (try dsimp only at hSw); go_simp; (try with_reducible rfl))
      try simp only [zP]
      refine zH (v := ?_) 16 (some 48) rfl ?_ ?_; rotate_left
      ·(intro w hSw; (try dsimp only at hSw); go_simp; (try with_reducible rfl))
      try simp only [zP]
      refine zH (v := ?_) 17 (some 49) rfl ?_ ?_; rotate_left
      ·(intro w hSw; (try dsimp only at hSw); go_simp; (try with_reducible rfl))
      try simp only [zP]
      refine zH (v := ?_) 18 (some 50) rfl ?_ ?_; rotate_left
      ·(intro w hSw; (try dsimp only at hSw); go_simp; (try with_reducible rfl))
      try simp only [zP]
      refine zH (v := ?_) 19 (some 51) rfl ?_ ?_; rotate_left
      ·(intro w hSw; (try dsimp only at hSw); go_simp; (try with_reducible rfl))
      try simp only [zP]
      refine zH (v := ?_) 20 (some 52) rfl ?_ ?_; rotate_left
      ·(intro w hSw; (try dsimp only at hSw); go_simp; (try with_reducible rfl))
      try simp only [zP]
      refine zH (v := ?_) 21 (some 53) rfl ?_ ?_; rotate_left
      ·(intro w hSw; (try dsimp only at hSw); go_simp; (try with_reducible rfl))
      try simp only [zP]
      refine zH (v := ?_) 22 (some 54) rfl ?_ ?_; rotate_left
      ·(intro w hSw; (try dsimp only at hSw); go_simp; (try with_reducible rfl))
      try simp only [zP]
      refine zH (v := ?_) 23 (some 31) rfl ?_ ?_; rotate_left
      ·(intro w hSw; (try dsimp only at hSw); go_simp; (try with_reducible rfl))
      try simp only [zP]
      refine wpAnyH_done (by kernel_rfl) ?_ _
      go_wp2_with fail
      replace hE := hE.drew
      refine wp_region_U (S := (fun w' => w'.cell? ⟨p, 0, none⟩ = some (.slice (some ⟨g, 0, none⟩) (k + 1) vsc) ∧ w'.cell? ⟨w.heap.size, 0, none⟩ = some (.string addr) ∧ w'.cell? ⟨w.heap.size, 1, none⟩ = some (.int .i64 status) ∧ w'.cell? ⟨w.heap.size, 2, none⟩ = some (.slice fA fn fc) ∧ w'.cell? ⟨w.heap.size, 3, none⟩ = some (.slice bA bn bc) ∧ w'.cell? ⟨w.heap.size, 4, none⟩ = some (.slice vA vn vc))) 10 (by kernel_rfl) ?_ (fun hHeld => ?_)
      ·(try dsimp only); exact ⟨HP0.out _ (HW.out.trans hE), HS.out _ hE⟩
      refine wpAnyU_takeW (i := 0) (oi := ⟨some 56, _, _, _, _, _⟩) (v := ?_) (by kernel_rfl) rfl (by kernel_rfl) (by kernel_rfl) (by kernel_rfl) (fun _ _ _ h => h) (Or.inl ⟨by rfl, ?_⟩) (by assumption) ?_
      rotate_left
      ·(intro w hSw; (try dsimp only at hSw); go_simp; (try with_reducible rfl))
      try simp only [zP]
      refine wpAnyU_takeW (i := 1) (oi := ⟨some 57, _, _, _, _, _⟩) (v := ?_) (by kernel_rfl) rfl (by kernel_rfl) (by kernel_rfl) (by kernel_rfl) (fun _ _ _ h => h) (Or.inl ⟨by rfl, ?_⟩) (by assumption) ?_
      rotate_left
      ·(intro w hSw; (try dsimp only at hSw); go_simp; (try with_reducible rfl))
      try simp only [zP]
      refine wpAnyU_takeW (i := 2) (oi := ⟨some 58, _, _, _, _, _⟩) (v := ?_) (by kernel_rfl) rfl (by kernel_rfl) (by kernel_rfl) (by kernel_rfl) (fun _ _ _ h => h) (Or.inl ⟨by rfl, ?_⟩) (by assumption) ?_
      rotate_left
      ·(intro w hSw; (try dsimp only at hSw); go_simp; (try with_reducible rfl))
      try simp only [zP]
      refine wpAnyU_takeW (i := 3) (oi := ⟨some 59, _, _, _, _, _⟩) (v := ?_) (by kernel_rfl) rfl (by kernel_rfl) (by kernel_rfl) (by kernel_rfl) (fun _ _ _ h => h) (Or.inl ⟨by rfl, ?_⟩) (by assumption) ?_
      rotate_left
      ·(intro w hSw; (try dsimp only at hSw); go_simp; (try with_reducible rfl))
      try simp only [zP]
      refine wpAnyU_take (i := 4) (oi := ⟨some 60, _, _, _, _, _⟩) (v := ?_) [10, 11, 12, 13] (by kernel_rfl) (by kernel_rfl) (by kernel_rfl) (by kernel_rfl) rfl (by kernel_rfl) (by kernel_rfl) (by kernel_rfl) (fun _ _ _ h => h) (Or.inl ⟨by rfl, ?_⟩) (by assumption) ?_
      rotate_left
      ·(intro w hSw; (try dsimp only at hSw); go_simp; (try with_reducible rfl))
      try simp only [zP]
      refine wpAnyU_takeW (i := 5) (oi := ⟨some 61, _, _, _, _, _⟩) (v := ?_) (by kernel_rfl) rfl (by kernel_rfl) (by kernel_rfl) (by kernel_rfl) (fun _ _ _ h => h) (Or.inl ⟨by rfl, ?_⟩) (by assumption) ?_
      rotate_left
      ·(intro w hSw; (try dsimp only at hSw); go_simp; (try with_reducible rfl))
      try simp only [zP]
      refine wpAnyU_take (i := 6) (oi := ⟨some 62, _, _, _, _, _⟩) (v := ?_) [7, 8, 9, 10, 11, 12, 13] (by kernel_rfl) (by kernel_rfl) (by kernel_rfl) (by kernel_rfl) rfl (by kernel_rfl) (by kernel_rfl) (by kernel_rfl) (fun _ _ _ h => h) (Or.inl ⟨by rfl, ?_⟩) (by assumption) ?_
      rotate_left
      ·(intro w hSw; (try dsimp only at hSw); go_simp; (try with_reducible rfl))
      try simp only [zP]
      refine wpAnyU_ready (rs := [7]) (by kernel_rfl) (by simp) ?_
      refine AllReadyU.cons (o := ⟨some 63, _, _, _, _, _⟩) rfl (fun K hK => ?_) AllReadyU.nil
      go_simp
      have HEc := zi hE; refine (HC.out _ (HW.out.trans hE)).mono ?_; rintro e w5 ⟨⟨addr2, status2, f2, body2, vars2, ⟨fA2, fn2, fc2⟩, ⟨bA2, bn2, bc2⟩, ⟨vA2, vn2, vc2⟩⟩, rfl, hver, hAt, hb5⟩; have Hver := zi hver; have HAt := zi hAt; replace hE := hE.trans hb5; have HE5 := zi hE; clear hver hAt hb5; (simp only [MV.cells, Sl.v])
      try go_wp2_with fail
      refine hK.out _ _ ?_ (fun hHeld => ?_)
      ·(try dsimp only); exact ⟨HP0.out _ (HW.out.trans hE), HS.out _ hE⟩
      clear hK K
      try simp only [zP]
      refine wpAnyU_takeW (i := 8) (oi := ⟨some 64, _, _, _, _, _⟩) (v := ?_) (by kernel_rfl) rfl (by kernel_rfl) (by kernel_rfl) (by kernel_rfl) (fun _ _ _ h => h) (Or.inl ⟨by rfl, ?_⟩) (by assumption) ?_
      rotate_left
      ·(intro w hSw; (try dsimp only at hSw); go_simp; (try with_reducible rfl))
      try simp only [zP]
      refine wpAnyU_ready (rs := [9]) (by kernel_rfl) (by simp) ?_
      refine AllReadyU.cons (o := ⟨some 65, _, _, _, _, _⟩) rfl (fun K hK => ?_) AllReadyU.nil
      go_simp
      replace hE := hE.alloc (.cells #[.int .i64 ct, .string addr2, .int .i64 status2, .slice fA2 fn2 fc2, .slice bA2 bn2 bc2, .slice vA2 vn2 vc2] 103); have HEa := zi hE
      try go_wp2_with fail
      refine hK.out _ _ ?_ (fun hHeld => ?_)
      ·(try dsimp only); exact ⟨HP0.out _ (HW.out.trans hE), HS.out _ hE⟩
      clear hK K
      try simp only [zP]
      refine wpAnyU_ready (rs := [10]) (by kernel_rfl) (by simp) ?_
      refine AllReadyU.stop (o := ⟨some 66, _, _, _, _, _⟩) rfl (by kernel_rfl) (fun K hK => ?_) AllReadyU.nil
      refine step_appO _ rfl (.tmp 60) (.tmp 65) 97 rfl 103 _ 6 104 Tryz.underlying97 infoPub (by simp [Value.cells]) (by decide) _ _ _ rfl (own_ext HO.out.vs (HW.out.trans hE)) _ 1 1 (pubC (ct, ⟨addr2, status2, f2, body2, vars2, ⟨fA2, fn2, fc2⟩, ⟨bA2, bn2, bc2⟩, ⟨vA2, vn2, vc2⟩⟩)) rfl (Rd.lit _ _ _ rfl 6 1 rfl) (by have := pubC_one [(ct, ⟨addr2, status2, f2, body2, vars2, ⟨fA2, fn2, fc2⟩, ⟨bA2, bn2, bc2⟩, ⟨vA2, vn2, vc2⟩⟩)]; simpa using this) (by rw [Hn.out]; omega) (by decide) ?_; intro A6 c6 w6 hown6 hle6 hg6 hn6
      refine hK.out _ _ ?_ (fun hHeld => ?_)
      ·(try dsimp only); (try trivial)
      clear hK K
      try simp only [zP]
      refine zH (v := ?_) 11 (some 67) rfl ?_ ?_; rotate_left
      ·(intro w hSw; (try dsimp only at hSw); go_simp; (try with_reducible rfl))
      try simp only [zP]
      refine zH (v := ?_) 12 (some 68) rfl ?_ ?_; rotate_left
      ·(intro w hSw; (try dsimp only at hSw); go_simp; (try with_reducible rfl))
      try simp only [zP]
      refine wpAnyH_ready (rs := [13]) (by kernel_rfl) (by simp) ?_
      refine AllReadyH.cons (o := ⟨none, _, _, _, _, _⟩) rfl (fun K hK => ?_) AllReadyH.nil
      have hOx := HO.out.ext (HW.out.trans hE); have hPb := hOx.blk.grown hg6 (Ne.symm (own_blk hOx.vs hOx.blk (by decide))); have kp := hPb.cell 0; have fp := hPb.frozen 0; clear hOx hPb; (simp only [Sl.v] at kp)
      go_simp
      try go_wp2_with fail
      refine hK.out _ _ ?_ (fun hHeld => ?_)
      ·(try dsimp only); (try trivial)
      clear hK K
      try simp only [zP]
      refine wpAnyH_done (by kernel_rfl) ?_ _
      clear kp fp
      have hOa := (HO.out.ext (HW.out.trans hE)).more (Q' := fun i => Q i ∧ i < w.heap.size) (fun i hi => .inl hi.1) (fun b hb => ⟨HO.out.rq b hb, HO.out.low b hb⟩)
      have hwe := (HW.out.trans hE).size
      obtain ⟨hO2, hK2⟩ := hOa.addV (x := (ct, ⟨addr2, status2, f2, body2, vars2, ⟨fA2, fn2, fc2⟩, ⟨bA2, bn2, bc2⟩, ⟨vA2, vn2, vc2⟩⟩)) hown6 hg6 hn6 ((HAt.out.sub (fun i hi => Nat.lt_of_lt_of_le hi.2 (HW.out.trans HEc.out).size)).ext ((Ext.refl _).alloc _)) (by rw [Hn.out]; omega) ⟨by rw [Hver.out]; exact HBd.out (by trivial) (by trivial), Hct.out⟩
      have HO2 := zi hO2; have HK2 := zi ((Keeps.of (HW.out.trans hE)).trans hK2)
      have q0 : (w6.setCell ⟨p, 0, none⟩ (.slice A6 (o.vs.length + 1) c6)).cell? ⟨p, 0, none⟩ = some (.slice A6 (o.vs.length + 1) c6) := hO2.blk.cell 0
      have Hn6 := zi hn6
      clear hO2 hK2 hOa hn6 hown6 hg6
      generalize (w6.setCell ⟨p, 0, none⟩ (.slice A6 (o.vs.length + 1) c6)) = wF at *
      obtain rfl := Hpr.out
      go_wp2_with fail
      go_ret2
      refine ⟨by (try simp only [Hn.out]); rfl, Rplus R (.slice A6 (o.vs.length + 1) c6), ⟨⟨⟨A6, o.vs.length + 1, c6⟩, br, lg, mv ++ [(ct, ⟨addr2, status2, f2, body2, vars2, ⟨fA2, fn2, fc2⟩, ⟨bA2, bn2, bc2⟩, ⟨vA2, vn2, vc2⟩⟩)]⟩, ?_⟩, HK2.out, fun _ h => .inl h, fun i hi => ?_⟩
      ·have h9 := HO2.out.more (Q' := fun i => (Q i ∧ i < w.heap.size) ∨ Rplus R (.slice A6 (o.vs.length + 1) c6) i) (fun i hi => .inl (hi.elim (fun h => .inl ⟨h, Nat.lt_of_lt_of_le h.2 hwe⟩) (fun h => HO2.out.rq i h))) (fun b hb => .inr hb)
       rw [Hver.out] at h9
       exact h9
      ·rcases hi with hi | hi
       ·exact .inl hi
       ·rcases Hn6.out with e | e
        ·rw [e] at hi; exact .inl (HO.out.rv i hi)
        ·rw [e] at hi; injection hi with hi; exact .inr (by omega)
end Go.Proofs.YtmckbcbdnckngaaGreatDoor
