/- What the functions of storable and quaysideref15 compute, in plain words, and their laws. No program in sight. The walks of lifetime.date and negative. The walks of lifetime.expires, Cacheable, guess, Explicit, Of, Allowance. The walks of storable.has, tag, modified, star. The walk of storable.Of. The walks of quaysidelaw15.large and loud. A region that draws its order, with loads that all come ahead of a store: what is to hold until that store has come up. Plain facts on regions, no program in sight. The walks of quaysidelaw15.of and awake. What the laws on a request and a response share. The walks of the package quaysideref04's small functions: leap, length, Day, Date, Weekday, number, digits. The walks of the package quaysideref04: number, digits. The walks of the package quaysideref04: Format, Parse. The walk of quaysideref04.Parse: it agrees with httpdate.Parse. The walk of quaysideref14.Date. The walks of quaysideref15.tag, Tag, Validator, star. The walks of the law package's large and awake; of quaysideref14.Directives, Allowance; of LifetimeAllowances, LifetimeBounds, LifetimeStrict. -/
import Derived.Test.YtphgaommokgfcaaGreatDoorJ3
import Derived.Deep.RegionHeld
set_option linter.unusedSimpArgs false
set_option linter.unusedVariables false
namespace Go.Proofs.YtphgaommokgfcaaGreatDoor

def etN : ByteArray := ⟨#[101, 116, 97, 103]⟩
def vaN : ByteArray := ⟨#[118, 97, 114, 121]⟩
def scN : ByteArray := ⟨#[115, 101, 116, 45, 99, 111, 111, 107, 105, 101]⟩
def auN : ByteArray := ⟨#[97, 117, 116, 104, 111, 114, 105, 122, 97, 116, 105, 111, 110]⟩
def clN : ByteArray := ⟨#[99, 111, 110, 116, 101, 110, 116, 45, 108, 101, 110, 103, 116, 104]⟩
def ceN : ByteArray := ⟨#[99, 111, 110, 116, 101, 110, 116, 45, 101, 110, 99, 111, 100, 105, 110, 103]⟩
def crN : ByteArray := ⟨#[99, 111, 110, 116, 101, 110, 116, 45, 114, 97, 110, 103, 101]⟩
def starC : ByteArray := ⟨#[42]⟩
def oneT : List ByteArray → Option (Bool × ByteArray)
  | [v] => tagS v
  | _ => none
/-- The entity tag, if there is exactly one that is right. -/
def tgF (fs : List Fd) : Option (Bool × ByteArray) := oneT (allS fs etN)
def stE (v : ByteArray) : Bool := !(partsS v 44).isSome || hasS (itemsS v) starC
/-- Does a field vary list everything, or is one malformed? -/
def stF (fs : List Fd) : Bool := (allS fs vaN).any stE
def okSt (st : Int) (resp : List Fd) : Bool := !(decide (st < 200) || decide (599 < st) || st == 206 || st == 304 || (!cacS st && !xplS resp))
def alF (d : D) : Bool := d.b3 || d.b4 || decide (0 ≤ d.n1)
def vlF (fs : List Fd) : Bool := (tgF fs).isSome || (dateS fs lmN).isSome
/-- The first reason why a response may not be stored. -/
def rsS (g : Bool) (req : List Fd) (st : Int) (resp : List Fd) : Int :=
  if !g then 1
  else if !okSt st resp then 2
  else if (ccD resp).b0 || (ccD req).b0 then 3
  else if (ccD resp).b2 then 4
  else if hasF resp scN then 5
  else if stF resp then 6
  else if hasF req auN && !alF (ccD resp) then 7
  else if (ofS st resp).2 == 5 && !vlF resp then 8 else 0
def isG (m : ByteArray) : Bool := m.toList == [71, 69, 84]

theorem rs_range (g : Bool) (req : List Fd) (st : Int) (resp : List Fd) : 0 ≤ rsS g req st resp ∧ rsS g req st resp ≤ 8 := by
  unfold rsS; (repeat' split) <;> omega
/-- What is refused by an earlier reason is neither stored, nor short, nor a matter of authorization. -/
theorem rs_early {g : Bool} {req : List Fd} {st : Int} {resp : List Fd} (h : (ccD resp).b0 = true ∨ (ccD resp).b2 = true ∨ hasF resp scN = true ∨ stF resp = true) :
    rsS g req st resp ≠ 0 ∧ rsS g req st resp ≠ 8 ∧ rsS g req st resp ≠ 7 := by
  unfold rsS
  generalize okSt st resp = O
  generalize (ccD resp).b0 = a at *
  generalize (ccD resp).b2 = b at *
  generalize hasF resp scN = c at *
  generalize stF resp = d at *
  generalize (hasF req auN && !alF (ccD resp)) = e
  generalize ((ofS st resp).2 == 5 && !vlF resp) = f
  generalize (ccD req).b0 = k
  cases g <;> cases O <;> cases a <;> cases b <;> cases c <;> cases d <;> cases e <;> cases f <;> cases k <;> simp_all
/-! Fields that depend on the values of names alone. -/
theorem hasF_eq {fs gs : List Fd} (h : ∀ m, allS fs m = allS gs m) (m : ByteArray) : hasF fs m = hasF gs m := by unfold hasF; rw [h]
theorem ccD_eq {fs gs : List Fd} (h : ∀ m, allS fs m = allS gs m) : ccD fs = ccD gs := by unfold ccD; rw [h]
theorem date_eq {fs gs : List Fd} (h : ∀ m, allS fs m = allS gs m) (m : ByteArray) : dateS fs m = dateS gs m := by unfold dateS; rw [h]
theorem xpl_eq {fs gs : List Fd} (h : ∀ m, allS fs m = allS gs m) : xplS fs = xplS gs := by unfold xplS; rw [ccD_eq h, hasF_eq h]
theorem of_eq {fs gs : List Fd} (h : ∀ m, allS fs m = allS gs m) (st : Int) : ofS st fs = ofS st gs := by
  unfold ofS exS gsS
  rw [ccD_eq h, hasF_eq h, date_eq h, date_eq h, date_eq h]
theorem tg_eq {fs gs : List Fd} (h : ∀ m, allS fs m = allS gs m) : tgF fs = tgF gs := by unfold tgF; rw [h]
theorem rs_eq {fs gs rq rq' : List Fd} (h : ∀ m, allS fs m = allS gs m) (h' : ∀ m, allS rq m = allS rq' m) (g : Bool) (st : Int) : rsS g rq st fs = rsS g rq' st gs := by
  unfold rsS okSt stF vlF
  rw [ccD_eq h, ccD_eq h', hasF_eq h, hasF_eq h', xpl_eq h, of_eq h, tg_eq h, date_eq h, h]
/-! Names in upper case. -/
def upC (c : UInt8) : UInt8 := if 97 ≤ c && c ≤ 122 then c - 32 else c
def upS (s : ByteArray) : ByteArray := ⟨(s.data.toList.map upC).toArray⟩
theorem low_up (c : UInt8) : lowC (upC (lowC c)) = lowC c := by
  have h : ∀ n : Fin 256, lowC (upC (lowC (UInt8.ofFin n))) = lowC (UInt8.ofFin n) := by decide +kernel
  have := h c.toFin
  simpa using this
theorem lowS_up (s : ByteArray) : lowS (upS (lowS s)) = lowS s := by
  apply bytes_ext
  unfold lowS upS lowL
  simp only [List.map_map]
  exact List.map_congr_left fun c _ => low_up c
def loudS (fs : List Fd) : List Fd := fs.map fun f => (upS (lowS f.1), f.2)
theorem all_loud (fs : List Fd) (m : ByteArray) : allS (loudS fs) m = allS fs m := by
  induction fs with
  | nil => rfl
  | cons f fs ih =>
    show allS ((upS (lowS f.1), f.2) :: loudS fs) m = _
    rw [allS_cons, allS_cons, ih]
    congr 1
    have : isN m (upS (lowS f.1), f.2) = isN m f := by unfold isN; rw [show (upS (lowS f.1), f.2).1 = upS (lowS f.1) from rfl, lowS_up]
    rw [this]
theorem rs_loud (g : Bool) (rq : List Fd) (st : Int) (fs : List Fd) : rsS g (loudS rq) st (loudS fs) = rsS g rq st fs := rs_eq (all_loud fs) (all_loud rq) g st
/-! Authorization. -/
theorem d_au_cc : lowS auN ≠ lowS ccN := by decide +kernel
theorem low_au : lowS auN = auN := by decide +kernel
theorem au_cc (rq : List Fd) (v : ByteArray) : ccD (rq ++ [(auN, v)]) = ccD rq := by
  unfold ccD
  have := allS_add_other rq v d_au_cc
  rw [low_au] at this
  rw [this]
theorem has_add (fs : List Fd) (n v : ByteArray) (hl : lowS n = n) : hasF (fs ++ [(n, v)]) n = true := by
  unfold hasF
  have := allS_add_same fs n v
  rw [hl] at this
  rw [this]; simp
theorem has_rem (fs : List Fd) (n : ByteArray) : hasF (remS fs n) n = false := by unfold hasF; rw [allS_rem_same]; rfl
theorem rs_auth (g : Bool) (rq : List Fd) (v : ByteArray) (st : Int) (rp : List Fd) (h0 : hasF rq auN = false) :
    rsS g (rq ++ [(auN, v)]) st rp = rsS g rq st rp ∨ (rsS g (rq ++ [(auN, v)]) st rp = 7 ∧ (rsS g rq st rp = 0 ∨ rsS g rq st rp = 8)) := by
  unfold rsS
  rw [au_cc, has_add rq auN v low_au, h0]
  generalize okSt st rp = O
  generalize ((ccD rp).b0 || (ccD rq).b0) = a
  generalize (ccD rp).b2 = b
  generalize hasF rp scN = c
  generalize stF rp = d
  generalize alF (ccD rp) = e
  generalize ((ofS st rp).2 == 5 && !vlF rp) = f
  cases g <;> cases O <;> cases a <;> cases b <;> cases c <;> cases d <;> cases e <;> cases f <;> simp
theorem rs_allowed (g : Bool) (rq : List Fd) (v : ByteArray) (st : Int) (rp : List Fd) (h0 : hasF rq auN = false) (h1 : alF (ccD rp) = true) :
    rsS g (rq ++ [(auN, v)]) st rp = rsS g rq st rp ∧ rsS g (rq ++ [(auN, v)]) st rp ≠ 7 := by
  unfold rsS
  rw [au_cc, has_add rq auN v low_au, h0, h1]
  generalize okSt st rp = O
  generalize ((ccD rp).b0 || (ccD rq).b0) = a
  generalize (ccD rp).b2 = b
  generalize hasF rp scN = c
  generalize stF rp = d
  generalize ((ofS st rp).2 == 5 && !vlF rp) = f
  cases g <;> cases O <;> cases a <;> cases b <;> cases c <;> cases d <;> cases f <;> simp
def puW : ByteArray := ⟨#[112, 117, 98, 108, 105, 99]⟩
def s9W : ByteArray := ⟨#[115, 45, 109, 97, 120, 97, 103, 101, 61, 57]⟩
theorem cc_more (fs : List Fd) (v : ByteArray) : ccD (fs ++ [(ccN, v)]) = stepV (ccD fs) v := by
  have := ccD_add fs v
  rw [low_cc] at this
  exact this
theorem step_pu (d : D) : stepV d puW = { d with b3 := true } := by
  rw [stepV_one (by decide +kernel) (by decide +kernel)]
  unfold stepD; rw [show kindE (lowS (eqName puW)) = 3 by decide +kernel]; rfl
theorem step_s9 (d : D) : stepV d s9W = { d with n1 := lst d.n1 9 } := by
  rw [stepV_one (by decide +kernel) (by decide +kernel)]
  unfold stepD; rw [show kindE (lowS (eqName s9W)) = 8 by decide +kernel, show timeV (argE s9W) (thE s9W) 0 0 = 9 by decide +kernel]; rfl
theorem al_words (fs : List Fd) : alF (ccD (fs ++ [(ccN, puW)])) = true ∧ alF (ccD (fs ++ [(ccN, mrW)])) = true ∧ alF (ccD (fs ++ [(ccN, s9W)])) = true ∧ alF (ccD (fs ++ [(ccN, prW)])) = true := by
  rw [cc_more, cc_more, cc_more, cc_more, step_pu, step_mr, step_s9, step_pr]
  refine ⟨by simp [alF], by simp [alF], ?_, by simp [alF]⟩
  have : 0 ≤ lst (ccD fs).n1 9 := by unfold lst; split <;> (try split) <;> omega
  simp [alF, this]
/-! What forbids. -/
def nsW : ByteArray := ⟨#[110, 111, 45, 115, 116, 111, 114, 101]⟩
def pxW : ByteArray := ⟨#[112, 114, 105, 118, 97, 116, 101, 61, 34, 120, 34]⟩
def abW : ByteArray := ⟨#[97, 61, 98]⟩
def asW : ByteArray := ⟨#[97, 99, 99, 101, 112, 116, 44, 32, 42]⟩
def opW : ByteArray := ⟨#[34, 111, 112, 101, 110]⟩
theorem step_ns (d : D) : stepV d nsW = { d with b0 := true } := by
  rw [stepV_one (by decide +kernel) (by decide +kernel)]
  unfold stepD; rw [show kindE (lowS (eqName nsW)) = 0 by decide +kernel]; rfl
theorem step_px (d : D) : stepV d pxW = { d with b2 := true } := by
  rw [stepV_one (by decide +kernel) (by decide +kernel)]
  unfold stepD; rw [show kindE (lowS (eqName pxW)) = 2 by decide +kernel]; rfl
theorem low_va : lowS vaN = vaN := by decide +kernel
theorem low_sc : lowS scN = scN := by decide +kernel
theorem st_more (fs : List Fd) (v : ByteArray) (h : stE v = true) : stF (fs ++ [(vaN, v)]) = true := by
  unfold stF
  have := allS_add_same fs vaN v
  rw [low_va] at this
  rw [this, List.any_append]
  simp [h]
theorem forbids (fs : List Fd) : ∀ x ∈ [(ccN, nsW), (ccN, pxW), (scN, abW), (vaN, asW), (vaN, opW)],
    (ccD (fs ++ [x])).b0 = true ∨ (ccD (fs ++ [x])).b2 = true ∨ hasF (fs ++ [x]) scN = true ∨ stF (fs ++ [x]) = true := by
  intro x hx
  simp only [List.mem_cons, List.not_mem_nil, or_false] at hx
  rcases hx with h | h | h | h | h <;> subst h
  · left; rw [cc_more, step_ns]
  · right; left; rw [cc_more, step_px]
  · right; right; left; exact has_add fs scN abW low_sc
  · right; right; right; exact st_more fs asW (by decide +kernel)
  · right; right; right; exact st_more fs opW (by decide +kernel)
/-! Update. -/
def updN (fresh : List Fd) : List Fd := remS (remS (remS (stripS fresh) clN) ceN) crN
def tgEq : Option (Bool × ByteArray) → Option (Bool × ByteArray) → Bool
  | some x, some y => eqT x.2 y.2
  | _, _ => false
def cflS (st fr : List Fd) : Bool := hasF st etN && hasF fr etN && !decide (allS st etN = allS fr etN) && !tgEq (tgF st) (tgF fr)
def outS (st fr : List Fd) : List Fd := (st.filter fun x => !hasF (updN fr) x.1) ++ updN fr
def updS (st fr : List Fd) : Option (List Fd) := if cflS st fr then none else some (outS st fr)
theorem has_nil {fs : List Fd} {m : ByteArray} : hasF fs m = false ↔ allS fs m = [] := by
  unfold hasF
  cases allS fs m <;> simp
theorem all_filter {fs : List Fd} {m : ByteArray} (p : Fd → Bool) (h : allS fs m = []) : allS (fs.filter p) m = [] := by
  unfold allS at *
  rw [List.map_eq_nil_iff, List.filter_eq_nil_iff] at *
  intro f hf
  exact h f (List.mem_filter.1 hf).1
theorem all_const {fs : List Fd} {m : ByteArray} (p : Fd → Bool) (c : Bool) (h : ∀ f, isN m f = true → p f = c) : allS (fs.filter p) m = if c then allS fs m else [] := by
  unfold allS
  rw [List.filter_filter]
  cases c
  · rw [show (fs.filter fun f => isN m f && p f) = [] from List.filter_eq_nil_iff.2 fun f _ => by
      cases hm : isN m f
      · simp
      · rw [h f hm]; simp]
    rfl
  · rw [show (fs.filter fun f => isN m f && p f) = fs.filter (isN m) from List.filter_congr fun f _ => by
      cases hm : isN m f
      · simp
      · rw [h f hm]; simp]
    rfl
theorem has_key {fs : List Fd} {m : ByteArray} {f : Fd} (h : isN m f = true) : hasF fs f.1 = hasF fs m := by
  unfold hasF; rw [allS_key (isN_iff.1 h)]
theorem out_keep {st fr : List Fd} {m : ByteArray} (h : allS (updN fr) m = []) : allS (outS st fr) m = allS st m := by
  unfold outS
  rw [allS_app, h, List.append_nil, all_const _ true (fun f hm => by rw [has_key hm, has_nil.2 h]; rfl)]
  rfl
theorem out_gone {st fr : List Fd} {m : ByteArray} (h : allS (updN fr) m ≠ []) : allS (outS st fr) m = allS (updN fr) m := by
  have h1 : hasF (updN fr) m = true := by
    cases hc : hasF (updN fr) m
    · exact absurd (has_nil.1 hc) h
    · rfl
  unfold outS
  rw [allS_app, all_const _ false (fun f hm => by rw [has_key hm, h1]; rfl)]
  rfl
theorem upd_no {fr : List Fd} {m : ByteArray} (h : hasF fr m = false) : allS (updN fr) m = [] := by
  unfold updN remS stripS
  exact all_filter _ (all_filter _ (all_filter _ (all_filter _ (has_nil.1 h))))
theorem upd_three (fr : List Fd) : allS (updN fr) clN = [] ∧ allS (updN fr) ceN = [] ∧ allS (updN fr) crN = [] := by
  refine ⟨?_, ?_, ?_⟩
  · unfold updN; exact all_filter _ (all_filter _ (allS_rem_same _ _))
  · unfold updN; exact all_filter _ (allS_rem_same _ _)
  · unfold updN; exact allS_rem_same _ _
theorem keep_other {st fr : List Fd} {m : ByteArray} (h : hasF fr m = false) : allS (outS st fr) m = allS st m := out_keep (upd_no h)
theorem upd_et (fr : List Fd) : allS (updN fr) etN = [] ∨ allS (updN fr) etN = allS fr etN := by
  unfold updN
  rw [allS_rem_other _ (show lowS crN ≠ lowS etN by decide +kernel), allS_rem_other _ (show lowS ceN ≠ lowS etN by decide +kernel), allS_rem_other _ (show lowS clN ≠ lowS etN by decide +kernel)]
  unfold stripS
  rw [all_const _ (!hasS (namesL (allS fr connS)) (lowS etN)) (fun f hm => by rw [isN_iff.1 hm])]
  cases hasS (namesL (allS fr connS)) (lowS etN)
  · exact .inr rfl
  · exact .inl rfl
theorem out_two (st fr : List Fd) : outS (outS st fr) fr = outS st fr := by
  have h1 : (updN fr).filter (fun x => !hasF (updN fr) x.1) = [] := List.filter_eq_nil_iff.2 fun x hx => by
    have : hasF (updN fr) x.1 = true := by
      unfold hasF
      refine decide_eq_true (List.length_pos_iff.2 fun e => ?_)
      unfold allS at e
      rw [List.map_eq_nil_iff, List.filter_eq_nil_iff] at e
      exact e x hx (isN_iff.2 rfl)
    rw [this]; decide
  have h2 : outS (outS st fr) fr = ((outS st fr).filter fun x => !hasF (updN fr) x.1) ++ updN fr := rfl
  rw [h2]
  show (((st.filter fun x => !hasF (updN fr) x.1) ++ updN fr).filter fun x => !hasF (updN fr) x.1) ++ updN fr = _
  rw [List.filter_append, h1, List.append_nil, List.filter_filter]
  simp only [Bool.and_self]
  rfl
theorem upd_again {st fr : List Fd} (h : cflS st fr = false) : updS (outS st fr) fr = some (outS st fr) := by
  have h1 : cflS (outS st fr) fr = false := by
    rcases upd_et fr with he | he
    · have := out_keep (st := st) he
      unfold cflS hasF tgF at *
      rw [this]; exact h
    · by_cases hn : allS (updN fr) etN = []
      · have := out_keep (st := st) hn
        unfold cflS hasF tgF at *
        rw [this]; exact h
      · have := out_gone (st := st) hn
        unfold cflS
        rw [this, he, decide_eq_true (show allS fr etN = allS fr etN from rfl)]
        simp
  unfold updS
  rw [h1, out_two]; rfl
/-! Tags of two texts. -/
theorem d_et : lowS etN = etN := by decide +kernel
theorem tg_one (v : ByteArray) (fs : List Fd) (h : hasF fs etN = false) : allS (fs ++ [(etN, v)]) etN = [v] := by
  have := allS_add_same fs etN v
  rw [d_et] at this
  rw [this, has_nil.1 h]; rfl
theorem mix_one {fs : List Fd} {a b v0 v1 : ByteArray} {w0 w1 : Bool} (h : hasF fs etN = false) (h0 : tagS v0 = some (w0, a)) (h1 : tagS v1 = some (w1, b)) :
    cflS (fs ++ [(etN, v0)]) [(etN, v1)] = !decide (a = b) := by
  have e0 := tg_one v0 fs h
  have e1 := tg_one v1 [] rfl
  rw [List.nil_append] at e1
  unfold cflS tgF hasF
  rw [e0, e1]
  show (true && true && !decide ([v0] = [v1]) && !tgEq (tagS v0) (tagS v1)) = _
  rw [h0, h1]
  show (true && true && !decide ([v0] = [v1]) && !(a.toList == b.toList)) = _
  by_cases hab : a = b
  · subst hab; simp
  · have hv : v0 ≠ v1 := fun e => by
      subst e
      rw [h0] at h1
      injection h1 with h1
      injection h1 with _ h2
      exact hab h2
    rw [eqS_no hab, decide_eq_false hab, decide_eq_false (fun e => hv (by injection e))]
    rfl
theorem mix_none {fs : List Fd} (v : ByteArray) (h : hasF fs etN = false) : cflS fs [(etN, v)] = false := by
  unfold cflS; rw [h]; rfl
end Go.Proofs.YtphgaommokgfcaaGreatDoor

namespace Go.Proofs.YtphgaommokgfcaaGreatDoor
open Go.RowKit

set_option maxHeartbeats 2000000 in
set_option maxRecDepth 100000 in
theorem life_date (A : Option Addr) (n c : Nat) (fs : List Fd) (name : ByteArray) (w : World) (hf : RdF w A n fs)
    (hn : n ≤ 1073741824) (hs : name.size ≤ 9223372036854775807) (hsz : Bsz 1048576 fs) (hg : GlH w) :
    Calls Tryz.prog 69 #[.slice A n c, .string name] w fun e w' => e = .returned (dtV (dateS fs name)) ∧ Ext w w' := by
  have HA := Lib.hid (field_All A n c fs name w hf hn hs (fun f hf => Nat.le_trans (hsz f hf).1 (by decide)))
  have hv := bsz_vals (name := name) hsz
  have Hd := Lib.hid (show dateS fs name = oneP (allS fs name) from rfl)
  generalize dateS fs name = D at *
  generalize allS fs name = L at *
  have Hv := Lib.hid hv
  clear hv
  go_enter Tryz.func69, Tryz.ntmps69
  go_wp2_with fail
  refine HA.out.mono ?_; rintro e w1 ⟨A1, n1, c1, rfl, hr1, hc1, hb1⟩
  have hl1 := hr1.lenS
  by_cases h1 : n1 = 1
  · subst h1
    match L, hl1 with
    | [v], _ =>
    obtain ⟨b, o, rfl, hc⟩ := hr1.atS (k := 0) Nat.one_pos
    rw [Nat.add_zero] at hc
    have hc : w1.cell? ⟨b, o, none⟩ = some (.string v) := hc
    have HD := Lib.hid (show D = dateP v from Hd.out)
    have Hvs := Lib.hid (Hv.out v (List.mem_cons_self ..))
    have hP := http_Parse v
    generalize dateP v = P at *
    have HP := Lib.hid hP; clear hP hl1
    go_wp2_with fail
    refine (HP.out _ (by have := Hvs.out; omega) (hg.ext hb1)).mono ?_; rintro e w2 ⟨rfl, hb2⟩
    cases P with
    | none =>
      have HD := Lib.hid (show Value.tuple #[.int .i64 0, .bool false] = dtV D by rw [HD.out]; rfl)
      rw [show dpV none = .tuple #[.int .i64 0, .iface 66 (.int .i64 2)] from rfl]
      go_wp2_with fail
      go_region
      all_goals (try go_wp2_with fail)
      all_goals
        go_ret2
        exact ⟨ret_v HD.out, (hb1.trans hb2).drew⟩
    | some k =>
      have HD := Lib.hid (show Value.tuple #[.int .i64 k, .bool true] = dtV D by rw [HD.out]; rfl)
      rw [show dpV (some k) = .tuple #[.int .i64 k, .nilIface] from rfl]
      go_wp2_with fail
      go_region
      all_goals (try go_wp2_with fail)
      all_goals
        go_ret2
        exact ⟨ret_v HD.out, (hb1.trans hb2).drew⟩
  · have hz : ((n1 : Int) != 1) = true := by simp; omega
    have HD := Lib.hid (show Value.tuple #[.int .i64 0, .bool false] = dtV D by rw [Hd.out, oneP_no (by omega)]; rfl)
    clear hl1 h1
    go_wp2_with fail
    go_ret2
    exact ⟨ret_v HD.out, hb1⟩

theorem dtV_some (k : Int) : dtV (some k) = .tuple #[.int .i64 k, .bool true] := rfl
theorem dtV_none : dtV none = .tuple #[.int .i64 0, .bool false] := rfl

/-! Statuses. -/
theorem ret_b {a b : Bool} (h : a = b) : Ending.returned (.bool a) = .returned (.bool b) := by rw [h]
theorem i_ne {a b : Int} (h : a ≠ b) : (a == b) = false := by rw [beq_eq_false_iff_ne]; exact h
set_option maxHeartbeats 2000000 in
set_option maxRecDepth 100000 in
theorem life_negative (st : Int) (w : World) :
    Calls Tryz.prog 53 #[.int .i64 st] w fun e w' => e = .returned (.bool (negS st)) ∧ w' = w := by
  have Hn := Lib.hid (show negS st = (st == 404 || st == 405 || st == 410 || st == 414 || st == 501) from rfl)
  generalize negS st = N at *
  cases h1 : (st == 404)
  rotate_left
  · have HL := Lib.hid (show true = N by rw [Hn.out, h1]; rfl)
    go_enter Tryz.func53, Tryz.ntmps53
    go_wp2_with fail
    go_ret
    exact ⟨ret_b HL.out, rfl⟩
  cases h2 : (st == 405)
  rotate_left
  · have HL := Lib.hid (show true = N by rw [Hn.out, h1, h2]; rfl)
    go_enter Tryz.func53, Tryz.ntmps53
    go_wp2_with fail
    go_ret
    exact ⟨ret_b HL.out, rfl⟩
  cases h3 : (st == 410)
  rotate_left
  · have HL := Lib.hid (show true = N by rw [Hn.out, h1, h2, h3]; rfl)
    go_enter Tryz.func53, Tryz.ntmps53
    go_wp2_with fail
    go_ret
    exact ⟨ret_b HL.out, rfl⟩
  cases h4 : (st == 414)
  rotate_left
  · have HL := Lib.hid (show true = N by rw [Hn.out, h1, h2, h3, h4]; rfl)
    go_enter Tryz.func53, Tryz.ntmps53
    go_wp2_with fail
    go_ret
    exact ⟨ret_b HL.out, rfl⟩
  cases h5 : (st == 501)
  rotate_left
  · have HL := Lib.hid (show true = N by rw [Hn.out, h1, h2, h3, h4, h5]; rfl)
    go_enter Tryz.func53, Tryz.ntmps53
    go_wp2_with fail
    go_ret
    exact ⟨ret_b HL.out, rfl⟩
  · have HL := Lib.hid (show false = N by rw [Hn.out, h1, h2, h3, h4, h5]; rfl)
    go_enter Tryz.func53, Tryz.ntmps53
    go_wp2_with fail
    go_ret
    exact ⟨ret_b HL.out, rfl⟩
end Go.Proofs.YtphgaommokgfcaaGreatDoor

namespace Go.Proofs.YtphgaommokgfcaaGreatDoor
open Go.RowKit

theorem ret_p {a b : Int × Int} (h : a = b) : Ending.returned (pairV a) = .returned (pairV b) := by rw [h]
def gE : Option Int → Int × Int
  | some n => (n, 4)
  | none => (0, 5)
theorem pair_mk (a b : Int) : Value.tuple #[.int .i64 a, .int .i64 b] = pairV (a, b) := rfl

set_option maxHeartbeats 4000000 in
set_option maxRecDepth 100000 in
theorem life_Cacheable (st : Int) (w : World) :
    Calls Tryz.prog 35 #[.int .i64 st] w fun e w' => e = .returned (.bool (cacS st)) ∧ w' = w := by
  have HN := Lib.hid (life_negative st)
  have Hc := Lib.hid (show cacS st = ((st == 200 || (st == 203 || (st == 204 || (st == 206 || (st == 300 || (st == 301 || (st == 308 || false))))))) || negS st) from by unfold cacS cacL; rfl)
  generalize cacS st = C at *
  generalize negS st = N at *
  cases h0 : (st == 200)
  rotate_left
  · have HL := Lib.hid (show true = C by rw [Hc.out, h0]; rfl)
    go_enter Tryz.func35, Tryz.ntmps35
    go_wp2_with fail
    go_ret
    exact ⟨ret_b HL.out, rfl⟩
  cases h1 : (st == 203)
  rotate_left
  · have HL := Lib.hid (show true = C by rw [Hc.out, h0, h1]; rfl)
    go_enter Tryz.func35, Tryz.ntmps35
    go_wp2_with fail
    go_ret
    exact ⟨ret_b HL.out, rfl⟩
  cases h2 : (st == 204)
  rotate_left
  · have HL := Lib.hid (show true = C by rw [Hc.out, h0, h1, h2]; rfl)
    go_enter Tryz.func35, Tryz.ntmps35
    go_wp2_with fail
    go_ret
    exact ⟨ret_b HL.out, rfl⟩
  cases h3 : (st == 206)
  rotate_left
  · have HL := Lib.hid (show true = C by rw [Hc.out, h0, h1, h2, h3]; rfl)
    go_enter Tryz.func35, Tryz.ntmps35
    go_wp2_with fail
    go_ret
    exact ⟨ret_b HL.out, rfl⟩
  cases h4 : (st == 300)
  rotate_left
  · have HL := Lib.hid (show true = C by rw [Hc.out, h0, h1, h2, h3, h4]; rfl)
    go_enter Tryz.func35, Tryz.ntmps35
    go_wp2_with fail
    go_ret
    exact ⟨ret_b HL.out, rfl⟩
  cases h5 : (st == 301)
  rotate_left
  · have HL := Lib.hid (show true = C by rw [Hc.out, h0, h1, h2, h3, h4, h5]; rfl)
    go_enter Tryz.func35, Tryz.ntmps35
    go_wp2_with fail
    go_ret
    exact ⟨ret_b HL.out, rfl⟩
  cases h6 : (st == 308)
  rotate_left
  · have HL := Lib.hid (show true = C by rw [Hc.out, h0, h1, h2, h3, h4, h5, h6]; rfl)
    go_enter Tryz.func35, Tryz.ntmps35
    go_wp2_with fail
    go_ret
    exact ⟨ret_b HL.out, rfl⟩
  have HL := Lib.hid (show N = C by rw [Hc.out, h0, h1, h2, h3, h4, h5, h6]; rfl)
  go_enter Tryz.func35, Tryz.ntmps35
  go_wp2_with fail
  refine (HN.out _).mono ?_; rintro e w1 ⟨rfl, rfl⟩
  go_wp2_with fail
  go_ret
  exact ⟨ret_b HL.out, rfl⟩

set_option maxHeartbeats 4000000 in
set_option maxRecDepth 100000 in
theorem life_expires (A : Option Addr) (n c : Nat) (fs : List Fd) (w : World) (hf : RdF w A n fs) (hn : n ≤ 1073741824) (hsz : Bsz 1048576 fs) (hg : GlH w) :
    Calls Tryz.prog 51 #[.slice A n c] w fun e w' => e = .returned (.int .i64 (exS fs)) ∧ Ext w w' := by
  have D1 := Lib.hid (fun w' (h : Ext w w') => life_date A n c fs dateN w' (hf.ext h) hn (by decide) hsz (hg.ext h))
  have D2 := Lib.hid (fun w' (h : Ext w w') => life_date A n c fs expN w' (hf.ext h) hn (by decide) hsz (hg.ext h))
  have He := Lib.hid (show exS fs = exO (dateS fs dateN) (dateS fs expN) from rfl)
  have b1 := fun k (h : dateS fs dateN = some k) => dateS_bd h
  have b2 := fun k (h : dateS fs expN = some k) => dateS_bd h
  generalize exS fs = E at *
  generalize dateS fs dateN = o1 at *
  generalize dateS fs expN = o2 at *
  have B1 := Lib.hid b1; have B2 := Lib.hid b2; clear b1 b2
  go_enter Tryz.func51, Tryz.ntmps51
  go_wp2_with fail
  refine (D1.out _ (Ext.refl _)).mono ?_; rintro e w1 ⟨rfl, hb1⟩
  cases o1 with
  | none =>
    have HL := Lib.hid (show 0 = E from He.out.symm)
    rw [dtV_none]
    go_wp2_with fail
    refine (D2.out _ hb1).mono ?_; rintro e w2 ⟨rfl, hb2⟩
    unfold dtV
    go_wp2_with fail
    go_ret
    exact ⟨ret_i HL.out, hb1.trans hb2⟩
  | some a =>
    rw [dtV_some]
    go_wp2_with fail
    refine (D2.out _ hb1).mono ?_; rintro e w2 ⟨rfl, hb2⟩
    cases o2 with
    | none =>
      have HL := Lib.hid (show 0 = E from He.out.symm)
      rw [dtV_none]
      go_wp2_with fail
      go_ret
      exact ⟨ret_i HL.out, hb1.trans hb2⟩
    | some b =>
      have HL := Lib.hid (show 1000 * max 0 (b - a) = E from He.out.symm)
      obtain ⟨a0, a1⟩ := B1.out _ rfl
      obtain ⟨c0, c1⟩ := B2.out _ rfl
      have m0 : 0 ≤ max 0 (b - a) := by omega
      have m1 : max 0 (b - a) ≤ 253402300799 := by omega
      have m2 : 0 ≤ max 0 (b - a) * 1000 := by omega
      have m3 : max 0 (b - a) * 1000 ≤ 253402300799000 := by omega
      rw [dtV_some]
      go_wp2_with fail
      go_ret
      exact ⟨ret_i (by rw [← HL.out]; first | rfl | omega), hb1.trans hb2⟩

set_option maxHeartbeats 8000000 in
set_option maxRecDepth 100000 in
theorem life_guess (st : Int) (A : Option Addr) (n c : Nat) (fs : List Fd) (w : World) (hf : RdF w A n fs) (hn : n ≤ 1073741824) (hsz : Bsz 1048576 fs) (hg : GlH w) :
    Calls Tryz.prog 52 #[.int .i64 st, .slice A n c] w fun e w' => e = .returned (dtV (gsS st fs)) ∧ Ext w w' := by
  have D1 := Lib.hid (fun w' (h : Ext w w') => life_date A n c fs dateN w' (hf.ext h) hn (by decide) hsz (hg.ext h))
  have D2 := Lib.hid (fun w' (h : Ext w w') => life_date A n c fs lmN w' (hf.ext h) hn (by decide) hsz (hg.ext h))
  have HC := Lib.hid (life_Cacheable st)
  have HN := Lib.hid (life_negative st)
  have b1 := fun k (h : dateS fs dateN = some k) => dateS_bd h
  have b2 := fun k (h : dateS fs lmN = some k) => dateS_bd h
  have He := Lib.hid (show gsS st fs = match dateS fs dateN, dateS fs lmN with
    | some x, some y => if cacS st && decide (y < x) then some (min (if negS st then 10000 else 86400000) (1000 * (x - y) / 10)) else none
    | _, _ => none from rfl)
  generalize gsS st fs = G at *
  generalize dateS fs dateN = o1 at *
  generalize dateS fs lmN = o2 at *
  generalize cacS st = C at *
  generalize negS st = N at *
  have B1 := Lib.hid b1; have B2 := Lib.hid b2; clear b1 b2
  go_enter Tryz.func52, Tryz.ntmps52
  go_wp2_with fail
  refine (D1.out _ (Ext.refl _)).mono ?_; rintro e w1 ⟨rfl, hb1⟩
  cases o1 with
  | none =>
    have HL := Lib.hid (show dtV none = dtV G by rw [He.out])
    rw [dtV_none]
    go_wp2_with fail
    refine (D2.out _ hb1).mono ?_; rintro e w2 ⟨rfl, hb2⟩
    unfold dtV
    go_wp2_with fail
    refine (HC.out _).mono ?_; rintro e w3 ⟨rfl, rfl⟩
    cases C
    all_goals
      go_wp2_with fail
      go_ret2
      exact ⟨ret_v HL.out, hb1.trans hb2⟩
  | some a =>
    rw [dtV_some]
    go_wp2_with fail
    refine (D2.out _ hb1).mono ?_; rintro e w2 ⟨rfl, hb2⟩
    cases o2 with
    | none =>
      have HL := Lib.hid (show dtV none = dtV G by rw [He.out])
      rw [dtV_none]
      go_wp2_with fail
      refine (HC.out _).mono ?_; rintro e w3 ⟨rfl, rfl⟩
      cases C
      all_goals
        go_wp2_with fail
        go_ret2
        exact ⟨ret_v HL.out, hb1.trans hb2⟩
    | some b =>
      obtain ⟨a0, a1⟩ := B1.out _ rfl
      obtain ⟨c0, c1⟩ := B2.out _ rfl
      have hG := He.out
      simp only [] at hG
      rw [dtV_some]
      go_wp2_with fail
      refine (HC.out _).mono ?_; rintro e w3 ⟨rfl, rfl⟩
      cases C
      · have HL := Lib.hid (show dtV none = dtV G by rw [hG]; rfl)
        clear hG
        go_wp2_with fail
        go_ret2
        exact ⟨ret_v HL.out, hb1.trans hb2⟩
      by_cases hlt : b < a
      rotate_left
      · have HL := Lib.hid (show dtV none = dtV G by rw [hG, decide_eq_false hlt]; rfl)
        clear hG
        go_wp2_with fail
        go_ret2
        exact ⟨ret_v HL.out, hb1.trans hb2⟩
      · have HL := Lib.hid (show dtV (some (min (if N then 10000 else 86400000) (1000 * (a - b) / 10))) = dtV G by rw [hG, decide_eq_true hlt]; rfl)
        clear hG
        have hge : ¬ a ≤ b := by omega
        have q1 : ((a - b) * 1000).tdiv 10 = 1000 * (a - b) / 10 := by rw [Int.tdiv_eq_ediv_of_nonneg (by omega)]; omega
        have q0 : 0 ≤ 1000 * (a - b) / 10 := by omega
        have q2 : 1000 * (a - b) / 10 ≤ 25340230079900 := by omega
        have q3 : 0 ≤ (a - b) * 1000 := by omega
        have q4 : (a - b) * 1000 ≤ 253402300799000 := by omega
        have q5 : (a - b) * 1000 / 10 = 1000 * (a - b) / 10 := by omega
        go_wp2_with fail
        refine (HN.out _).mono ?_; rintro e w4 ⟨rfl, rfl⟩
        cases N
        all_goals
          go_wp2_with fail
          go_ret2
          exact ⟨ret_v (by rw [← HL.out]; first | rfl | (refine congrArg (fun x => Value.tuple #[.int .i64 x, .bool true]) ?_; simp only [Option.getD_some, Bool.false_eq_true, if_false, if_true]; omega)), hb1.trans hb2⟩

set_option maxHeartbeats 8000000 in
set_option maxRecDepth 100000 in
theorem life_Explicit (A : Option Addr) (n c : Nat) (fs : List Fd) (w : World) (hf : RdF w A n fs) (hn : n ≤ 1073741824) (hsz : Bsz 1048576 fs) (hg : GlH w) (hT : sumF fs + 2 * n ≤ 70368744177664) (hgl : Gl w) :
    Calls Tryz.prog 36 #[.slice A n c] w fun e w' => e = .returned (.bool (xplS fs)) ∧ Ext w w' := by
  have HP := Lib.hid (show Calls Tryz.prog 33 #[.slice A n c] w fun e w' => e = .returned (.agg (dArr (ccD fs))) ∧ Ext w w' from dir_Parse A n c fs w hf hn hsz hgl)
  have HG := Lib.hid (fun w' (h : Ext w w') => field_GetO A n c fs expN w' (hf.ext h) hn (by decide) hsz hT)
  have He := Lib.hid (show xplS fs = (decide (0 ≤ (ccD fs).n1) || decide (0 ≤ (ccD fs).n0) || (getO fs expN).isSome) from by rw [getO_some]; rfl)
  have hbd := ccD_bd fs
  generalize xplS fs = E at *
  generalize ccD fs = D at *
  generalize getO fs expN = o1 at *
  obtain ⟨⟨_, _⟩, ⟨_, _⟩, _, _, _, _⟩ := hbd
  go_enter Tryz.func36, Tryz.ntmps36
  go_wp2_with fail
  refine HP.out.mono ?_; rintro e w1 ⟨rfl, hb1⟩
  by_cases g1 : 0 ≤ D.n1
  · have HL := Lib.hid (show true = E by rw [He.out, decide_eq_true g1]; rfl)
    go_wp2_with (first | (refine wpList_storeB rfl 72 (.tmp 3) (.tmp 7) rfl rfl w1.heap.size _ rfl rfl 72 _ (Blk.new w1 _ _) infoDp rfl (dArr_one D) ?_; intro wd hBd hxd; have d1 : wd.cell? ⟨w1.heap.size, 1, none⟩ = some (.bool D.b1) := hBd.cell 1; have d4 : wd.cell? ⟨w1.heap.size, 4, none⟩ = some (.bool D.b4) := hBd.cell 4; have d6 : wd.cell? ⟨w1.heap.size, 6, none⟩ = some (.int .i64 D.n0) := hBd.cell 6; have d7 : wd.cell? ⟨w1.heap.size, 7, none⟩ = some (.int .i64 D.n1) := hBd.cell 7; have d8 : wd.cell? ⟨w1.heap.size, 8, none⟩ = some (.int .i64 D.n2) := hBd.cell 8; have d9 : wd.cell? ⟨w1.heap.size, 9, none⟩ = some (.int .i64 D.n3) := hBd.cell 9))
    have hE2 := (hb1.alloc (.cells (dArr zeroD) 72)).growB hxd hb1.size
    refine (HG.out _ hE2).mono ?_; rintro e w3 ⟨rfl, hb3⟩
    have d6 := hb3.cell d6
    have d7 := hb3.cell d7
    unfold getV
    go_wp2_with fail
    go_ret
    exact ⟨ret_b HL.out, hE2.trans hb3⟩
  have Hg1 := Lib.hid (decide_eq_false g1)
  have z1 := decide_eq_false g1
  by_cases g0 : 0 ≤ D.n0
  · have HL := Lib.hid (show true = E by rw [He.out, Hg1.out, decide_eq_true g0]; rfl)
    go_wp2_with (first | (refine wpList_storeB rfl 72 (.tmp 3) (.tmp 7) rfl rfl w1.heap.size _ rfl rfl 72 _ (Blk.new w1 _ _) infoDp rfl (dArr_one D) ?_; intro wd hBd hxd; have d1 : wd.cell? ⟨w1.heap.size, 1, none⟩ = some (.bool D.b1) := hBd.cell 1; have d4 : wd.cell? ⟨w1.heap.size, 4, none⟩ = some (.bool D.b4) := hBd.cell 4; have d6 : wd.cell? ⟨w1.heap.size, 6, none⟩ = some (.int .i64 D.n0) := hBd.cell 6; have d7 : wd.cell? ⟨w1.heap.size, 7, none⟩ = some (.int .i64 D.n1) := hBd.cell 7; have d8 : wd.cell? ⟨w1.heap.size, 8, none⟩ = some (.int .i64 D.n2) := hBd.cell 8; have d9 : wd.cell? ⟨w1.heap.size, 9, none⟩ = some (.int .i64 D.n3) := hBd.cell 9))
    have hE2 := (hb1.alloc (.cells (dArr zeroD) 72)).growB hxd hb1.size
    refine (HG.out _ hE2).mono ?_; rintro e w3 ⟨rfl, hb3⟩
    have d6 := hb3.cell d6
    have d7 := hb3.cell d7
    unfold getV
    go_wp2_with fail
    go_ret
    exact ⟨ret_b HL.out, hE2.trans hb3⟩
  · have HL := Lib.hid (show o1.isSome = E by rw [He.out, Hg1.out, decide_eq_false g0]; rfl)
    have z0 := decide_eq_false g0
    go_wp2_with (first | (refine wpList_storeB rfl 72 (.tmp 3) (.tmp 7) rfl rfl w1.heap.size _ rfl rfl 72 _ (Blk.new w1 _ _) infoDp rfl (dArr_one D) ?_; intro wd hBd hxd; have d1 : wd.cell? ⟨w1.heap.size, 1, none⟩ = some (.bool D.b1) := hBd.cell 1; have d4 : wd.cell? ⟨w1.heap.size, 4, none⟩ = some (.bool D.b4) := hBd.cell 4; have d6 : wd.cell? ⟨w1.heap.size, 6, none⟩ = some (.int .i64 D.n0) := hBd.cell 6; have d7 : wd.cell? ⟨w1.heap.size, 7, none⟩ = some (.int .i64 D.n1) := hBd.cell 7; have d8 : wd.cell? ⟨w1.heap.size, 8, none⟩ = some (.int .i64 D.n2) := hBd.cell 8; have d9 : wd.cell? ⟨w1.heap.size, 9, none⟩ = some (.int .i64 D.n3) := hBd.cell 9))
    have hE2 := (hb1.alloc (.cells (dArr zeroD) 72)).growB hxd hb1.size
    refine (HG.out _ hE2).mono ?_; rintro e w3 ⟨rfl, hb3⟩
    have d6 := hb3.cell d6
    have d7 := hb3.cell d7
    unfold getV
    go_wp2_with fail
    go_ret
    exact ⟨ret_b HL.out, hE2.trans hb3⟩

set_option maxHeartbeats 8000000 in
set_option maxRecDepth 100000 in
theorem life_Of (st : Int) (A : Option Addr) (n c : Nat) (fs : List Fd) (w : World) (hf : RdF w A n fs) (hn : n ≤ 1073741824) (hsz : Bsz 1048576 fs) (hg : GlH w) (hT : sumF fs + 2 * n ≤ 70368744177664) (hgl : Gl w) :
    Calls Tryz.prog 34 #[.int .i64 st, .slice A n c] w fun e w' => e = .returned (pairV (ofS st fs)) ∧ Ext w w' := by
  have HP := Lib.hid (show Calls Tryz.prog 33 #[.slice A n c] w fun e w' => e = .returned (.agg (dArr (ccD fs))) ∧ Ext w w' from dir_Parse A n c fs w hf hn hsz hgl)
  have HX := Lib.hid (fun w' (h : Ext w w') => life_Explicit A n c fs w' (hf.ext h) hn hsz (hg.ext h) hT (hgl.ext h))
  have HE := Lib.hid (fun w' (h : Ext w w') => life_expires A n c fs w' (hf.ext h) hn hsz (hg.ext h))
  have HU := Lib.hid (fun w' (h : Ext w w') => life_guess st A n c fs w' (hf.ext h) hn hsz (hg.ext h))
  have Ho := Lib.hid (show ofS st fs = if 0 ≤ (ccD fs).n1 then ((1000 * (ccD fs).n1, 1) : Int × Int) else if 0 ≤ (ccD fs).n0 then (1000 * (ccD fs).n0, 2) else if hasF fs expN then (exS fs, 3) else gE (gsS st fs) from rfl)
  have hx := show xplS fs = (decide (0 ≤ (ccD fs).n1) || decide (0 ≤ (ccD fs).n0) || hasF fs expN) from rfl
  have hbd := ccD_bd fs
  generalize ofS st fs = O at *
  generalize exS fs = EX at *
  generalize gsS st fs = GS at *
  generalize xplS fs = X at *
  generalize hasF fs expN = hh at *
  generalize ccD fs = D at *
  have Hx := Lib.hid hx; clear hx
  obtain ⟨⟨u1, u2⟩, ⟨u3, u4⟩, _, _, _, _⟩ := hbd
  have hE1 : ∀ w1 wd, Ext w w1 → ExtB w1.heap.size (w1.alloc (.cells (dArr zeroD) 72)) wd → Ext w wd := fun w1 wd h k => (h.alloc _).growB k h.size
  have HE1 := Lib.hid hE1; clear hE1
  go_enter Tryz.func34, Tryz.ntmps34
  go_wp2_with fail
  refine HP.out.mono ?_; rintro e w1 ⟨rfl, hb1⟩
  by_cases g1 : 0 ≤ D.n1
  · have HL := Lib.hid (show Value.tuple #[.int .i64 (D.n1 * 1000), .int .i64 (1)] = pairV O by rw [Ho.out, if_pos g1, Int.mul_comm D.n1]; rfl)
    have m2 : 0 ≤ D.n1 * 1000 := by omega
    have m3 : D.n1 * 1000 ≤ 2147483647000 := by omega
    go_wp2_with (first | (refine wpList_storeB rfl 72 (.tmp 6) (.tmp 10) rfl rfl w1.heap.size _ rfl rfl 72 _ (Blk.new w1 _ _) infoDp rfl (dArr_one D) ?_; intro wd hBd hxd; have d1 : wd.cell? ⟨w1.heap.size, 1, none⟩ = some (.bool D.b1) := hBd.cell 1; have d4 : wd.cell? ⟨w1.heap.size, 4, none⟩ = some (.bool D.b4) := hBd.cell 4; have d6 : wd.cell? ⟨w1.heap.size, 6, none⟩ = some (.int .i64 D.n0) := hBd.cell 6; have d7 : wd.cell? ⟨w1.heap.size, 7, none⟩ = some (.int .i64 D.n1) := hBd.cell 7; have d8 : wd.cell? ⟨w1.heap.size, 8, none⟩ = some (.int .i64 D.n2) := hBd.cell 8; have d9 : wd.cell? ⟨w1.heap.size, 9, none⟩ = some (.int .i64 D.n3) := hBd.cell 9))
    go_ret2
    exact ⟨ret_v HL.out, HE1.out _ _ hb1 hxd⟩
  by_cases g0 : 0 ≤ D.n0
  · have HL := Lib.hid (show Value.tuple #[.int .i64 (D.n0 * 1000), .int .i64 (2)] = pairV O by rw [Ho.out, if_neg g1, if_pos g0, Int.mul_comm D.n0]; rfl)
    have m2 : 0 ≤ D.n0 * 1000 := by omega
    have m3 : D.n0 * 1000 ≤ 2147483647000 := by omega
    go_wp2_with (first | (refine wpList_storeB rfl 72 (.tmp 6) (.tmp 10) rfl rfl w1.heap.size _ rfl rfl 72 _ (Blk.new w1 _ _) infoDp rfl (dArr_one D) ?_; intro wd hBd hxd; have d1 : wd.cell? ⟨w1.heap.size, 1, none⟩ = some (.bool D.b1) := hBd.cell 1; have d4 : wd.cell? ⟨w1.heap.size, 4, none⟩ = some (.bool D.b4) := hBd.cell 4; have d6 : wd.cell? ⟨w1.heap.size, 6, none⟩ = some (.int .i64 D.n0) := hBd.cell 6; have d7 : wd.cell? ⟨w1.heap.size, 7, none⟩ = some (.int .i64 D.n1) := hBd.cell 7; have d8 : wd.cell? ⟨w1.heap.size, 8, none⟩ = some (.int .i64 D.n2) := hBd.cell 8; have d9 : wd.cell? ⟨w1.heap.size, 9, none⟩ = some (.int .i64 D.n3) := hBd.cell 9))
    go_ret2
    exact ⟨ret_v HL.out, HE1.out _ _ hb1 hxd⟩
  have hX : X = hh := by rw [Hx.out, decide_eq_false g1, decide_eq_false g0]; rfl
  subst hX
  have HO := Lib.hid (show O = if X then ((EX, 3) : Int × Int) else gE GS by rw [Ho.out, if_neg g1, if_neg g0])
  clear Ho
  go_wp2_with (first | (refine wpList_storeB rfl 72 (.tmp 6) (.tmp 10) rfl rfl w1.heap.size _ rfl rfl 72 _ (Blk.new w1 _ _) infoDp rfl (dArr_one D) ?_; intro wd hBd hxd; have d1 : wd.cell? ⟨w1.heap.size, 1, none⟩ = some (.bool D.b1) := hBd.cell 1; have d4 : wd.cell? ⟨w1.heap.size, 4, none⟩ = some (.bool D.b4) := hBd.cell 4; have d6 : wd.cell? ⟨w1.heap.size, 6, none⟩ = some (.int .i64 D.n0) := hBd.cell 6; have d7 : wd.cell? ⟨w1.heap.size, 7, none⟩ = some (.int .i64 D.n1) := hBd.cell 7; have d8 : wd.cell? ⟨w1.heap.size, 8, none⟩ = some (.int .i64 D.n2) := hBd.cell 8; have d9 : wd.cell? ⟨w1.heap.size, 9, none⟩ = some (.int .i64 D.n3) := hBd.cell 9))
  have hE2 := HE1.out _ _ hb1 hxd
  refine (HX.out _ hE2).mono ?_; rintro e w3 ⟨rfl, hb3⟩
  have hE3 := hE2.trans hb3
  cases X
  · go_wp2_with fail
    refine (HU.out _ hE3).mono ?_; rintro e w4 ⟨rfl, hb4⟩
    cases GS with
    | none =>
      have HL := Lib.hid (show Value.tuple #[.int .i64 (0), .int .i64 (5)] = pairV O by rw [HO.out]; rfl)
      rw [dtV_none]
      go_wp2_with fail
      go_ret2
      exact ⟨ret_v HL.out, hE3.trans hb4⟩
    | some k =>
      have HL := Lib.hid (show Value.tuple #[.int .i64 (k), .int .i64 (4)] = pairV O by rw [HO.out]; rfl)
      rw [dtV_some]
      go_wp2_with fail
      go_ret2
      exact ⟨ret_v HL.out, hE3.trans hb4⟩
  · have HL := Lib.hid (show Value.tuple #[.int .i64 (EX), .int .i64 (3)] = pairV O by rw [HO.out]; rfl)
    go_wp2_with fail
    refine (HE.out _ hE3).mono ?_; rintro e w4 ⟨rfl, hb4⟩
    go_wp2_with fail
    go_ret2
    exact ⟨ret_v HL.out, hE3.trans hb4⟩

end Go.Proofs.YtphgaommokgfcaaGreatDoor

namespace Go.Proofs.YtphgaommokgfcaaGreatDoor
open Go.RowKit

theorem len_all {w : World} {A : Option Addr} {n : Nat} {fs : List Fd} (hf : RdF w A n fs) (m : ByteArray) : (allS fs m).length ≤ n := by
  have := allS_len fs m n
  rw [List.take_of_length_le (by rw [hf.lenF]; exact Nat.le_refl _)] at this
  exact this
set_option maxHeartbeats 2000000 in
set_option maxRecDepth 100000 in
theorem sto_has (A : Option Addr) (n c : Nat) (fs : List Fd) (name : ByteArray) (w : World) (hf : RdF w A n fs)
    (hn : n ≤ 1073741824) (hs : name.size ≤ 9223372036854775807) (hsz : Bsz 1048576 fs) :
    Calls Tryz.prog 24 #[.slice A n c, .string name] w fun e w' => e = .returned (.bool (hasF fs name)) ∧ Ext w w' := by
  have HA := Lib.hid (field_All A n c fs name w hf hn hs (fun f hf => Nat.le_trans (hsz f hf).1 (by decide)))
  have hln := len_all hf name
  have Hh := Lib.hid (show hasF fs name = decide (0 < (allS fs name).length) from rfl)
  generalize hasF fs name = H at *
  generalize allS fs name = L at *
  go_enter Tryz.func24, Tryz.ntmps24
  go_wp2_with fail
  refine HA.out.mono ?_; rintro e w1 ⟨A1, n1, c1, rfl, hr1, hc1, hb1⟩
  have hl1 := hr1.lenS
  clear hr1
  by_cases hp : 0 < n1
  · have HL := Lib.hid (show true = H by rw [Hh.out, decide_eq_true (by omega)])
    have hn1 : n1 ≤ 1073741824 := by omega
    clear hl1 hln Hh
    go_wp2_with fail
    go_ret
    exact ⟨ret_b (by rw [← HL.out]), hb1⟩
  · have HL := Lib.hid (show false = H by rw [Hh.out, decide_eq_false (by omega)])
    obtain rfl : n1 = 0 := by omega
    clear hl1 hln Hh hp
    go_wp2_with fail
    go_ret
    exact ⟨ret_b (by rw [← HL.out]), hb1⟩

theorem oneT_no {l : List ByteArray} (h : l.length ≠ 1) : oneT l = none := by
  match l, h with
  | [], _ => rfl
  | [_], h => exact absurd rfl h
  | _ :: _ :: _, _ => rfl
set_option maxHeartbeats 2000000 in
set_option maxRecDepth 100000 in
theorem sto_tag (A : Option Addr) (n c : Nat) (fs : List Fd) (w : World) (hf : RdF w A n fs) (hn : n ≤ 1073741824) (hsz : Bsz 1048576 fs) :
    Calls Tryz.prog 27 #[.slice A n c] w fun e w' => e = .returned (.tuple #[tagV (tgF fs), .bool (tgF fs).isSome]) ∧ Ext w w' := by
  have HA := Lib.hid (fun w' (h : Ext w w') => field_All A n c fs etN w' (hf.ext h) hn (by decide) (fun f hf => Nat.le_trans (hsz f hf).1 (by decide)))
  have Hv := Lib.hid (bsz_vals (name := etN) hsz)
  have Hd := Lib.hid (show tgF fs = oneT (allS fs etN) from rfl)
  generalize tgF fs = D at *
  generalize allS fs etN = L at *
  have HZ := Lib.hid (Blk.new w 62 #[.bool false, .string ⟨#[]⟩])
  go_enter Tryz.func27, Tryz.ntmps27
  go_wp2_with fail
  refine (HA.out _ ((Ext.refl w).alloc (.cells #[.bool false, .string ⟨#[]⟩] 62))).mono ?_; rintro e w1 ⟨A1, n1, c1, rfl, hr1, hc1, hb1⟩
  have hl1 := hr1.lenS
  have HE1 := Lib.hid (((Ext.refl w).alloc (.cells #[.bool false, .string ⟨#[]⟩] 62)).trans hb1)
  have HZ1 := Lib.hid (HZ.out.ext hb1)
  clear HZ
  by_cases h1 : n1 = 1
  · subst h1
    match L, hl1 with
    | [v], _ =>
    obtain ⟨b, o, rfl, hc⟩ := hr1.atS (k := 0) Nat.one_pos
    rw [Nat.add_zero] at hc
    have hc : w1.cell? ⟨b, o, none⟩ = some (.string v) := hc
    have HD := Lib.hid (show D = tagS v from Hd.out)
    have Hvs := Lib.hid (Hv.out v (List.mem_cons_self ..))
    have hP := val_ReadTag v
    generalize tagS v = P at *
    have HP := Lib.hid hP; clear hP hl1
    go_wp2_with fail
    refine (HP.out _ Hvs.out).mono ?_; rintro e w2 ⟨rfl, hb2⟩
    have hE2 := HE1.out.trans hb2
    have HZ2 := Lib.hid (HZ1.out.ext hb2)
    cases P with
    | none =>
      have HD := Lib.hid (show Value.tuple #[.agg #[.bool false, .string ⟨#[]⟩], .bool false] = .tuple #[tagV D, .bool D.isSome] by rw [HD.out]; rfl)
      rw [show tagV none = .agg #[.bool false, .string ⟨#[]⟩] from rfl, show errV (tagE none) = .iface 66 (.int .i64 2) from rfl]
      go_wp2_with fail
      have HZ3 := Lib.hid (HZ2.out.alloc (.cells #[.bool false, .string ⟨#[]⟩] 62))
      have HN3 := Lib.hid (Blk.new w2 62 #[.bool false, .string ⟨#[]⟩])
      have hE3 := (hE2.alloc (.cells #[.bool false, .string ⟨#[]⟩] 62))
      generalize w2.alloc (.cells #[.bool false, .string ⟨#[]⟩] 62) = w3 at *
      generalize w2.heap.size = b2 at *
      have hle : w.heap.size ≤ w.heap.size := Nat.le_refl _
      generalize hb0 : w.heap.size = b0 at *
      have z0 : w3.cell? ⟨b0, 0, none⟩ = some (.bool false) := HZ3.out.cell 0
      have z1 : w3.cell? ⟨b0, 1, none⟩ = some (.string ⟨#[]⟩) := HZ3.out.cell 1
      have z2 : w3.frozen? ⟨b0, 0, none⟩ = false := HZ3.out.frozen 0
      have z3 : w3.frozen? ⟨b0, 1, none⟩ = false := HZ3.out.frozen 1
      have x0 : w3.cell? ⟨b2, 0, none⟩ = some (.bool false) := HN3.out.cell 0
      have x1 : w3.cell? ⟨b2, 1, none⟩ = some (.string ⟨#[]⟩) := HN3.out.cell 1
      have hY := (HZ3.out.set_ 0 (.bool false)).set_ 1 (.string ⟨#[]⟩)
      have hX := ((ExtB.refl b0 w3).set_ 0 (.bool false)).set_ 1 (.string ⟨#[]⟩)
      have y0 : ((w3.setCell ⟨b0, 0, none⟩ (.bool false)).setCell ⟨b0, 1, none⟩ (.string ⟨#[]⟩)).drew.cell? ⟨b0, 0, none⟩ = some (.bool false) := hY.cell 0
      have y1 : ((w3.setCell ⟨b0, 0, none⟩ (.bool false)).setCell ⟨b0, 1, none⟩ (.string ⟨#[]⟩)).drew.cell? ⟨b0, 1, none⟩ = some (.string ⟨#[]⟩) := hY.cell 1
      have HX := Lib.hid (hE3.growB hX (by omega)).drew
      clear hY hX hb0 hle
      go_region
      all_goals (try go_wp2_with fail)
      all_goals
        exact bodyPost_ret (v := .tuple #[.agg #[.bool false, .string ⟨#[]⟩], .bool false]) (by simp [results, Tryz.results27, go_sem, y0, y1]) rfl ⟨ret_v HD.out, HX.out⟩
    | some t =>
      obtain ⟨t1, t2⟩ := t
      have HD := Lib.hid (show Value.tuple #[.agg #[.bool t1, .string t2], .bool true] = .tuple #[tagV D, .bool D.isSome] by rw [HD.out]; rfl)
      rw [show tagV (some (t1, t2)) = .agg #[.bool t1, .string t2] from rfl, show errV (tagE (some (t1, t2))) = .nilIface from rfl]
      go_wp2_with fail
      have HZ3 := Lib.hid (HZ2.out.alloc (.cells #[.bool t1, .string t2] 62))
      have HN3 := Lib.hid (Blk.new w2 62 #[.bool t1, .string t2])
      have hE3 := (hE2.alloc (.cells #[.bool t1, .string t2] 62))
      generalize w2.alloc (.cells #[.bool t1, .string t2] 62) = w3 at *
      generalize w2.heap.size = b2 at *
      have hle : w.heap.size ≤ w.heap.size := Nat.le_refl _
      generalize hb0 : w.heap.size = b0 at *
      have z0 : w3.cell? ⟨b0, 0, none⟩ = some (.bool false) := HZ3.out.cell 0
      have z1 : w3.cell? ⟨b0, 1, none⟩ = some (.string ⟨#[]⟩) := HZ3.out.cell 1
      have z2 : w3.frozen? ⟨b0, 0, none⟩ = false := HZ3.out.frozen 0
      have z3 : w3.frozen? ⟨b0, 1, none⟩ = false := HZ3.out.frozen 1
      have x0 : w3.cell? ⟨b2, 0, none⟩ = some (.bool t1) := HN3.out.cell 0
      have x1 : w3.cell? ⟨b2, 1, none⟩ = some (.string t2) := HN3.out.cell 1
      have hY := (HZ3.out.set_ 0 (.bool t1)).set_ 1 (.string t2)
      have hX := ((ExtB.refl b0 w3).set_ 0 (.bool t1)).set_ 1 (.string t2)
      have y0 : ((w3.setCell ⟨b0, 0, none⟩ (.bool t1)).setCell ⟨b0, 1, none⟩ (.string t2)).drew.cell? ⟨b0, 0, none⟩ = some (.bool t1) := hY.cell 0
      have y1 : ((w3.setCell ⟨b0, 0, none⟩ (.bool t1)).setCell ⟨b0, 1, none⟩ (.string t2)).drew.cell? ⟨b0, 1, none⟩ = some (.string t2) := hY.cell 1
      have HX := Lib.hid (hE3.growB hX (by omega)).drew
      clear hY hX hb0 hle
      go_region
      all_goals (try go_wp2_with fail)
      all_goals
        exact bodyPost_ret (v := .tuple #[.agg #[.bool t1, .string t2], .bool true]) (by simp [results, Tryz.results27, go_sem, y0, y1]) rfl ⟨ret_v HD.out, HX.out⟩
  · have hz : ((n1 : Int) != 1) = true := by simp; omega
    have HD := Lib.hid (show Value.tuple #[.agg #[.bool false, .string ⟨#[]⟩], .bool false] = .tuple #[tagV D, .bool D.isSome] by rw [Hd.out, oneT_no (by omega)]; rfl)
    clear hl1 h1
    have z0 : w1.cell? ⟨w.heap.size, 0, none⟩ = some (.bool false) := HZ1.out.cell 0
    have z1 : w1.cell? ⟨w.heap.size, 1, none⟩ = some (.string ⟨#[]⟩) := HZ1.out.cell 1
    have z2 : w1.frozen? ⟨w.heap.size, 0, none⟩ = false := HZ1.out.frozen 0
    have z3 : w1.frozen? ⟨w.heap.size, 1, none⟩ = false := HZ1.out.frozen 1
    have hY := (HZ1.out.set_ 0 (.bool false)).set_ 1 (.string ⟨#[]⟩)
    have hX := ((ExtB.refl w.heap.size w1).set_ 0 (.bool false)).set_ 1 (.string ⟨#[]⟩)
    have y0 : ((w1.setCell ⟨w.heap.size, 0, none⟩ (.bool false)).setCell ⟨w.heap.size, 1, none⟩ (.string ⟨#[]⟩)).cell? ⟨w.heap.size, 0, none⟩ = some (.bool false) := hY.cell 0
    have y1 : ((w1.setCell ⟨w.heap.size, 0, none⟩ (.bool false)).setCell ⟨w.heap.size, 1, none⟩ (.string ⟨#[]⟩)).cell? ⟨w.heap.size, 1, none⟩ = some (.string ⟨#[]⟩) := hY.cell 1
    have HX := Lib.hid (HE1.out.growB hX (Nat.le_refl _))
    clear hY hX
    go_wp2_with fail
    exact bodyPost_ret (v := .tuple #[.agg #[.bool false, .string ⟨#[]⟩], .bool false]) (by simp [results, Tryz.results27, go_sem, y0, y1]) rfl ⟨ret_v HD.out, HX.out⟩

set_option maxHeartbeats 2000000 in
set_option maxRecDepth 100000 in
theorem sto_modified (A : Option Addr) (n c : Nat) (fs : List Fd) (w : World) (hf : RdF w A n fs) (hn : n ≤ 1073741824) (hsz : Bsz 1048576 fs) (hg : GlH w) :
    Calls Tryz.prog 38 #[.slice A n c] w fun e w' => e = .returned (.bool (dateS fs lmN).isSome) ∧ Ext w w' := by
  have HA := Lib.hid (field_All A n c fs lmN w hf hn (by decide) (fun f hf => Nat.le_trans (hsz f hf).1 (by decide)))
  have Hv := Lib.hid (bsz_vals (name := lmN) hsz)
  have Hd := Lib.hid (show dateS fs lmN = oneP (allS fs lmN) from rfl)
  generalize dateS fs lmN = D at *
  generalize allS fs lmN = L at *
  go_enter Tryz.func38, Tryz.ntmps38
  go_wp2_with fail
  refine HA.out.mono ?_; rintro e w1 ⟨A1, n1, c1, rfl, hr1, hc1, hb1⟩
  have hl1 := hr1.lenS
  by_cases h1 : n1 = 1
  · subst h1
    match L, hl1 with
    | [v], _ =>
    obtain ⟨b, o, rfl, hc⟩ := hr1.atS (k := 0) Nat.one_pos
    rw [Nat.add_zero] at hc
    have hc : w1.cell? ⟨b, o, none⟩ = some (.string v) := hc
    have HD := Lib.hid (show D = dateP v from Hd.out)
    have Hvs := Lib.hid (Hv.out v (List.mem_cons_self ..))
    have hP := http_Parse v
    generalize dateP v = P at *
    have HP := Lib.hid hP; clear hP hl1
    go_wp2_with fail
    refine (HP.out _ (by have := Hvs.out; omega) (hg.ext hb1)).mono ?_; rintro e w2 ⟨rfl, hb2⟩
    cases P with
    | none =>
      have HD := Lib.hid (show false = D.isSome by rw [HD.out]; rfl)
      rw [show dpV none = .tuple #[.int .i64 0, .iface 66 (.int .i64 2)] from rfl]
      go_wp2_with fail
      go_ret
      exact ⟨ret_b HD.out, hb1.trans hb2⟩
    | some k =>
      have HD := Lib.hid (show true = D.isSome by rw [HD.out]; rfl)
      rw [show dpV (some k) = .tuple #[.int .i64 k, .nilIface] from rfl]
      go_wp2_with fail
      go_ret
      exact ⟨ret_b HD.out, hb1.trans hb2⟩
  · have hz : ((n1 : Int) != 1) = true := by simp; omega
    have HD := Lib.hid (show false = D.isSome by rw [Hd.out, oneP_no (by omega)]; rfl)
    clear hl1 h1
    go_wp2_with fail
    go_ret
    exact ⟨ret_b HD.out, hb1⟩

theorem any_none {V : List ByteArray} {k : Nat} (hk : k < V.length) (h : (V.take k).any stE = false) (hx : stE V[k] = false) : (V.take (k + 1)).any stE = false := by
  rw [take_step V k hk, List.any_append, h]; simp [hx]
theorem any_some {V : List ByteArray} {k : Nat} (hk : k < V.length) (hx : stE V[k] = true) : true = V.any stE :=
  (List.any_eq_true.2 ⟨V[k], List.getElem_mem hk, hx⟩).symm
theorem stE_no {v : ByteArray} (h : partsS v 44 = none) : stE v = true := by unfold stE; rw [h]; rfl
theorem stE_yes {v : ByteArray} {P : List ByteArray} (h : partsS v 44 = some P) : stE v = hasS (itemsS v) starC := by unfold stE; rw [h]; rfl
set_option maxHeartbeats 2000000 in
set_option maxRecDepth 100000 in
theorem sto_star (A : Option Addr) (n c : Nat) (fs : List Fd) (w : World) (hf : RdF w A n fs) (hn : n ≤ 1073741824) (hsz : Bsz 1048576 fs) :
    Calls Tryz.prog 37 #[.slice A n c] w fun e w' => e = .returned (.bool (stF fs)) ∧ Ext w w' := by
  have HA := Lib.hid (field_All A n c fs vaN w hf hn (by decide) (fun f hf => Nat.le_trans (hsz f hf).1 (by decide)))
  have Hv := Lib.hid (bsz_vals (name := vaN) hsz)
  have Hln := Lib.hid (len_all hf vaN)
  have Hd := Lib.hid (show stF fs = (allS fs vaN).any stE from rfl)
  generalize stF fs = S at *
  generalize allS fs vaN = V at *
  go_enter Tryz.func37, Tryz.ntmps37
  go_wp2_with fail
  refine HA.out.mono ?_; rintro e w1 ⟨A1, n1, c1, rfl, hr1, hc1, hb1⟩
  have Hl1 := Lib.hid hr1.lenS
  have hn1 : n1 ≤ 1073741824 := by have := Hl1.out; have := Hln.out; omega
  go_wp2_with fail
  go_loopw [10] (fun i wr => ∃ k, k ≤ n1 ∧ i = .int .i64 (k : Nat) ∧ (V.take k).any stE = false ∧ Ext w1 wr) (fun i _ => n1 - (intOf i).toNat)
  case atStart => exact ⟨0, Nat.zero_le _, rfl, rfl, Ext.refl _⟩
  case round =>
    obtain ⟨k, hk, rfl, hall, hbr⟩ := hrel
    have Hall := Lib.hid hall; clear hall
    by_cases hlt : k < n1
    · have hlt' : k < V.length := by have := Hl1.out; omega
      obtain ⟨b, o, rfl, hc0⟩ := (hr1.ext hbr).atS hlt'
      have Hvs := Lib.hid (Hv.out V[k] (List.getElem_mem hlt'))
      have Hy := Lib.hid (fun h => Hd.out.trans (any_some hlt' h).symm)
      have Hz := Lib.hid (fun h => any_none hlt' Hall.out h)
      have Hno := Lib.hid (@stE_no V[k])
      have Hye := Lib.hid (fun P => @stE_yes V[k] P)
      generalize V[k] = x at *
      generalize stE x = X at *
      go_wp2_with fail
      refine (syntax_List x _ Hvs.out).mono ?_; rintro e w4 ⟨A4, n4, c4, rfl, hr4, hc4, hb4, hown4⟩
      clear hown4
      cases hp : partsS x 44 with
      | none =>
        have HS := Lib.hid (Hy.out (Hno.out hp)).symm; clear hp
        rw [show pE none = 2 from rfl, show errV 2 = .iface 66 (.int .i64 2) from rfl]
        go_wp2_with fail
        go_ret
        exact ⟨ret_b HS.out, hb1.trans (hbr.trans hb4)⟩
      | some P =>
        have HX := Lib.hid (Hye.out P hp); clear hp
        rw [show pE (some P) = 0 from rfl, show errV 0 = .nilIface from rfl]
        have hil := (items_all (s := x)).2
        have hl4 := hr4.lenS
        have Hv2 := Lib.hid (show n4 ≤ 9223372036854775807 by have := Hvs.out; omega)
        clear hil hl4
        generalize itemsS x = I at *
        have HC := Lib.hid (str_Contains A4 n4 c4 I starC _ hr4 Hv2.out)
        generalize hasS I starC = q at *
        have HX2 := Lib.hid HX.out
        clear HX
        cases q
        · have Hz2 := Lib.hid (Hz.out HX2.out)
          clear Hz Hy HX2
          go_wp2_with fail
          refine HC.out.mono ?_; rintro e w5 ⟨rfl, hb5⟩
          go_wp2_with fail
          go_roundw
          case rel => exact ⟨k + 1, by omega, by go_num, Hz2.out, hbr.trans (hb4.trans hb5)⟩
          case measure => simp [intOf]; omega
        · have HS := Lib.hid (Hy.out HX2.out).symm
          clear Hz Hy HX2
          go_wp2_with fail
          refine HC.out.mono ?_; rintro e w5 ⟨rfl, hb5⟩
          go_wp2_with fail
          go_ret
          exact ⟨ret_b HS.out, hb1.trans (hbr.trans (hb4.trans hb5))⟩
    · obtain rfl : k = n1 := by omega
      have he : V.take k = V := List.take_of_length_le (by have := Hl1.out; omega)
      have HS := Lib.hid (show false = S by rw [Hd.out, ← he]; exact Hall.out.symm)
      clear he hlt
      go_wp2_with fail
      go_ret
      exact ⟨ret_b HS.out, hb1.trans hbr⟩
end Go.Proofs.YtphgaommokgfcaaGreatDoor

namespace Go.Proofs.YtphgaommokgfcaaGreatDoor
open Go.RowKit

theorem tagV_shape (o : Option (Bool × ByteArray)) : ∃ a b, tagV o = .agg #[.bool a, .string b] := by
  cases o with
  | none => exact ⟨_, _, rfl⟩
  | some t => exact ⟨_, _, rfl⟩
theorem fld15_b0 (D : D) (w : World) : (Instr.field 72 (.agg (dArr D)) 0).run Tryz.prog w = .ok (.bool D.b0) w := by kernel_rfl
set_option maxHeartbeats 16000000 in
set_option maxRecDepth 100000 in
theorem sto_Of (me : ByteArray) (Aq : Option Addr) (nq cq : Nat) (rq : List Fd) (st : Int) (Ar : Option Addr) (nr cr : Nat) (rp : List Fd) (w : World) (hfq : RdF w Aq nq rq) (hfr : RdF w Ar nr rp) (hnq : nq ≤ 1073741824) (hnr : nr ≤ 1073741824) (hszq : Bsz 1048576 rq) (hszr : Bsz 1048576 rp) (hg : GlH w) (hT : sumF rp + 2 * nr ≤ 70368744177664) (hgl : Gl w) :
    Calls Tryz.prog 14 #[.string me, .slice Aq nq cq, .int .i64 st, .slice Ar nr cr] w fun e w' => e = .returned (.int .i64 (rsS (isG me) rq st rp)) ∧ Ext w w' := by
  have HP := Lib.hid (show Calls Tryz.prog 33 #[.slice Ar nr cr] w fun e w' => e = .returned (.agg (dArr (ccD rp))) ∧ Ext w w' from dir_Parse Ar nr cr rp w hfr hnr hszr hgl)
  have HQ := Lib.hid (fun w' (h : Ext w w') => show Calls Tryz.prog 33 #[.slice Aq nq cq] w' fun e w'' => e = .returned (.agg (dArr (ccD rq))) ∧ Ext w' w'' from dir_Parse Aq nq cq rq w' (hfq.ext h) hnq hszq (hgl.ext h))
  have HO := Lib.hid (fun w' (h : Ext w w') => life_Of st Ar nr cr rp w' (hfr.ext h) hnr hszr (hg.ext h) hT (hgl.ext h))
  have HTg := Lib.hid (fun w' (h : Ext w w') => sto_tag Ar nr cr rp w' (hfr.ext h) hnr hszr)
  have HC := Lib.hid (life_Cacheable st)
  have HX := Lib.hid (fun w' (h : Ext w w') => life_Explicit Ar nr cr rp w' (hfr.ext h) hnr hszr (hg.ext h) hT (hgl.ext h))
  have HS := Lib.hid (fun w' (h : Ext w w') => sto_has Ar nr cr rp scN w' (hfr.ext h) hnr (by decide) hszr)
  have HV := Lib.hid (fun w' (h : Ext w w') => sto_star Ar nr cr rp w' (hfr.ext h) hnr hszr)
  have HA := Lib.hid (fun w' (h : Ext w w') => sto_has Aq nq cq rq auN w' (hfq.ext h) hnq (by decide) hszq)
  have HM := Lib.hid (fun w' (h : Ext w w') => sto_modified Ar nr cr rp w' (hfr.ext h) hnr hszr (hg.ext h))
  have Hr := Lib.hid (show rsS (isG me) rq st rp = if !isG me then 1 else if !(!(decide (st < 200) || decide (599 < st) || st == 206 || st == 304 || (!cacS st && !xplS rp))) then 2
    else if (ccD rp).b0 || (ccD rq).b0 then 3 else if (ccD rp).b2 then 4 else if hasF rp scN then 5 else if stF rp then 6
    else if hasF rq auN && !((ccD rp).b3 || (ccD rp).b4 || decide (0 ≤ (ccD rp).n1)) then 7
    else if (ofS st rp).2 == 5 && !((tgF rp).isSome || (dateS rp lmN).isSome) then 8 else 0 from rfl)
  have hgg : (me.toList == [71, 69, 84]) = isG me := rfl
  obtain ⟨ta, tb, hta⟩ := tagV_shape (tgF rp)
  rw [hta] at HTg
  generalize rsS (isG me) rq st rp = R at *
  generalize isG me = G at *
  generalize ccD rp = D at *
  generalize ccD rq = Q at *
  generalize ofS st rp = K at *
  generalize (tgF rp).isSome = ts at *
  generalize (dateS rp lmN).isSome = M at *
  generalize cacS st = C at *
  generalize xplS rp = X at *
  generalize hasF rp scN = sc at *
  generalize stF rp = sf at *
  generalize hasF rq auN = au at *
  obtain ⟨k1, k2⟩ := K
  have HGG := Lib.hid hgg
  clear hgg hta
  have hq0 : ∀ w, (Instr.field 72 (.agg (dArr Q)) 0).run Tryz.prog w = .ok (.bool Q.b0) w := fun w => fld15_b0 Q w
  have hE1 : ∀ w1 wd, Ext w w1 → ExtB w1.heap.size (w1.alloc (.cells (dArr zeroD) 72)) wd → Ext w wd := fun w1 wd h k => (h.alloc _).growB k h.size
  have HE1 := Lib.hid hE1; clear hE1
  go_enter Tryz.func14, Tryz.ntmps14
  go_wp2_with fail
  refine HP.out.mono ?_; rintro e w1 ⟨rfl, hb1⟩
  go_wp2_with (first | (refine wpList_storeB rfl 72 (.tmp 9) (.tmp 15) rfl rfl w1.heap.size _ rfl rfl 72 _ (Blk.new w1 _ _) infoDp rfl (dArr_one D) ?_; intro wd hBd hxd))
  have h2 := HE1.out _ _ hb1 hxd
  have d0 : wd.cell? ⟨w1.heap.size, 0, none⟩ = some (.bool D.b0) := hBd.cell 0
  have d2 : wd.cell? ⟨w1.heap.size, 2, none⟩ = some (.bool D.b2) := hBd.cell 2
  have d3 : wd.cell? ⟨w1.heap.size, 3, none⟩ = some (.bool D.b3) := hBd.cell 3
  have d4 : wd.cell? ⟨w1.heap.size, 4, none⟩ = some (.bool D.b4) := hBd.cell 4
  have d7 : wd.cell? ⟨w1.heap.size, 7, none⟩ = some (.int .i64 D.n1) := hBd.cell 7
  clear hBd hxd
  generalize w1.heap.size = bd at *
  refine (HO.out _ h2).mono ?_; rintro e w3 ⟨rfl, hb3⟩
  have h3 := h2.trans hb3
  replace d0 := hb3.cell d0; replace d2 := hb3.cell d2; replace d3 := hb3.cell d3; replace d4 := hb3.cell d4; replace d7 := hb3.cell d7
  clear hb3 h2 hb1
  rw [show pairV (k1, k2) = .tuple #[.int .i64 k1, .int .i64 k2] from rfl]
  go_wp2_with fail
  refine (HTg.out _ h3).mono ?_; rintro e w4 ⟨rfl, hb4⟩
  have h4 := h3.trans hb4
  replace d0 := hb4.cell d0; replace d2 := hb4.cell d2; replace d3 := hb4.cell d3; replace d4 := hb4.cell d4; replace d7 := hb4.cell d7
  have h4 := h4.alloc (.cells #[.bool ta, .string tb] 62)
  replace d0 := ((Ext.refl w4).alloc (.cells #[.bool ta, .string tb] 62)).cell d0; replace d2 := ((Ext.refl w4).alloc (.cells #[.bool ta, .string tb] 62)).cell d2; replace d3 := ((Ext.refl w4).alloc (.cells #[.bool ta, .string tb] 62)).cell d3; replace d4 := ((Ext.refl w4).alloc (.cells #[.bool ta, .string tb] 62)).cell d4; replace d7 := ((Ext.refl w4).alloc (.cells #[.bool ta, .string tb] 62)).cell d7
  clear hb4 h3
  cases G
  · skip
    have hme : (me.toList == [71, 69, 84]) = false := HGG.out
    have HL := Lib.hid (show (1 : Int) = R by rw [Hr.out]; simp [])
    clear Hr
    go_wp2_with fail
    go_ret
    exact ⟨ret_i HL.out, h4⟩
  have hme : (me.toList == [71, 69, 84]) = true := HGG.out
  by_cases s0 : st < 200
  · skip
    have HL := Lib.hid (show (2 : Int) = R by rw [Hr.out]; simp [s0])
    clear Hr
    go_wp2_with fail
    go_ret
    exact ⟨ret_i HL.out, h4⟩
  by_cases s1 : 599 < st
  · skip
    have HL := Lib.hid (show (2 : Int) = R by rw [Hr.out]; simp [s0, s1])
    clear Hr
    go_wp2_with fail
    go_ret
    exact ⟨ret_i HL.out, h4⟩
  cases s2 : (st == 206)
  rotate_left
  · skip
    have HL := Lib.hid (show (2 : Int) = R by rw [Hr.out]; simp [s0, s1, s2])
    clear Hr
    go_wp2_with fail
    go_ret
    exact ⟨ret_i HL.out, h4⟩
  cases s3 : (st == 304)
  rotate_left
  · skip
    have HL := Lib.hid (show (2 : Int) = R by rw [Hr.out]; simp [s0, s1, s2, s3])
    clear Hr
    go_wp2_with fail
    go_ret
    exact ⟨ret_i HL.out, h4⟩
  go_wp2_with fail
  refine (HC.out _).mono ?_; rintro e w5 ⟨rfl, rfl⟩
  cases C
  rotate_left
  · skip
    cases h0 : D.b0
    rotate_left
    · skip
      have HL := Lib.hid (show (3 : Int) = R by rw [Hr.out]; simp [s0, s1, s2, s3, h0])
      clear Hr
      go_wp2_with fail
      go_ret
      exact ⟨ret_i HL.out, h4⟩
    rw [h0] at d0
    go_wp2_with fail
    refine (HQ.out _ h4).mono ?_; rintro e w20 ⟨rfl, hb20⟩
    have h20 := h4.trans hb20
    replace d0 := hb20.cell d0; replace d2 := hb20.cell d2; replace d3 := hb20.cell d3; replace d4 := hb20.cell d4; replace d7 := hb20.cell d7; clear hb20
    cases hq : Q.b0
    rotate_left
    · skip
      rw [hq] at hq0
      have HL := Lib.hid (show (3 : Int) = R by rw [Hr.out]; simp [s0, s1, s2, s3, h0, hq])
      clear Hr
      go_wp2_with fail
      go_ret
      exact ⟨ret_i HL.out, h20⟩
    rw [hq] at hq0
    cases hd2 : D.b2
    rotate_left
    · skip
      rw [hd2] at d2
      have HL := Lib.hid (show (4 : Int) = R by rw [Hr.out]; simp [s0, s1, s2, s3, h0, hq, hd2])
      clear Hr
      go_wp2_with fail
      go_ret
      exact ⟨ret_i HL.out, h20⟩
    rw [hd2] at d2
    go_wp2_with fail
    refine (HS.out _ h20).mono ?_; rintro e w21 ⟨rfl, hb21⟩
    have h21 := h20.trans hb21
    replace d0 := hb21.cell d0; replace d2 := hb21.cell d2; replace d3 := hb21.cell d3; replace d4 := hb21.cell d4; replace d7 := hb21.cell d7; clear hb21
    cases sc
    rotate_left
    · skip
      have HL := Lib.hid (show (5 : Int) = R by rw [Hr.out]; simp [s0, s1, s2, s3, h0, hq, hd2])
      clear Hr
      go_wp2_with fail
      go_ret
      exact ⟨ret_i HL.out, h21⟩
    go_wp2_with fail
    refine (HV.out _ h21).mono ?_; rintro e w22 ⟨rfl, hb22⟩
    have h22 := h21.trans hb22
    replace d0 := hb22.cell d0; replace d2 := hb22.cell d2; replace d3 := hb22.cell d3; replace d4 := hb22.cell d4; replace d7 := hb22.cell d7; clear hb22
    cases sf
    rotate_left
    · skip
      have HL := Lib.hid (show (6 : Int) = R by rw [Hr.out]; simp [s0, s1, s2, s3, h0, hq, hd2])
      clear Hr
      go_wp2_with fail
      go_ret
      exact ⟨ret_i HL.out, h22⟩
    go_wp2_with fail
    refine (HA.out _ h22).mono ?_; rintro e w23 ⟨rfl, hb23⟩
    have h23 := h22.trans hb23
    replace d0 := hb23.cell d0; replace d2 := hb23.cell d2; replace d3 := hb23.cell d3; replace d4 := hb23.cell d4; replace d7 := hb23.cell d7; clear hb23
    have hal : (au && !(D.b3 || D.b4 || decide (0 ≤ D.n1))) = true → au = true ∧ D.b3 = false ∧ D.b4 = false ∧ D.n1 < 0 := by intro h; simp at h; exact ⟨h.1, h.2.1.1, h.2.1.2, by omega⟩
    cases au
    · skip
      cases hk : (k2 == 5)
      · skip
        have HL := Lib.hid (show (0 : Int) = R by rw [Hr.out]; simp [s0, s1, s2, s3, h0, hq, hd2, hk])
        clear Hr
        go_wp2_with fail
        go_ret
        exact ⟨ret_i HL.out, h23⟩
      cases ts
      rotate_left
      · skip
        have HL := Lib.hid (show (0 : Int) = R by rw [Hr.out]; simp [s0, s1, s2, s3, h0, hq, hd2, hk])
        clear Hr
        go_wp2_with fail
        go_ret
        exact ⟨ret_i HL.out, h23⟩
      have hk5 : k2 = 5 := by simpa using hk
      go_wp2_with fail
      refine (HM.out _ h23).mono ?_; rintro e w30 ⟨rfl, hb30⟩
      have h30 := h23.trans hb30
      replace d0 := hb30.cell d0; replace d2 := hb30.cell d2; replace d3 := hb30.cell d3; replace d4 := hb30.cell d4; replace d7 := hb30.cell d7; clear hb30
      cases M
      · skip
        have HL := Lib.hid (show (8 : Int) = R by rw [Hr.out]; simp [s0, s1, s2, s3, h0, hq, hd2, hk])
        clear Hr
        go_wp2_with fail
        go_ret
        exact ⟨ret_i HL.out, h30⟩
      · skip
        have HL := Lib.hid (show (0 : Int) = R by rw [Hr.out]; simp [s0, s1, s2, s3, h0, hq, hd2, hk])
        clear Hr
        go_wp2_with fail
        go_ret
        exact ⟨ret_i HL.out, h30⟩
    cases h3 : D.b3
    rotate_left
    · skip
      rw [h3] at d3
      cases hk : (k2 == 5)
      · skip
        have HL := Lib.hid (show (0 : Int) = R by rw [Hr.out]; simp [s0, s1, s2, s3, h0, hq, hd2, h3, hk])
        clear Hr
        go_wp2_with fail
        go_ret
        exact ⟨ret_i HL.out, h23⟩
      cases ts
      rotate_left
      · skip
        have HL := Lib.hid (show (0 : Int) = R by rw [Hr.out]; simp [s0, s1, s2, s3, h0, hq, hd2, h3, hk])
        clear Hr
        go_wp2_with fail
        go_ret
        exact ⟨ret_i HL.out, h23⟩
      have hk5 : k2 = 5 := by simpa using hk
      go_wp2_with fail
      refine (HM.out _ h23).mono ?_; rintro e w30 ⟨rfl, hb30⟩
      have h30 := h23.trans hb30
      replace d0 := hb30.cell d0; replace d2 := hb30.cell d2; replace d3 := hb30.cell d3; replace d4 := hb30.cell d4; replace d7 := hb30.cell d7; clear hb30
      cases M
      · skip
        have HL := Lib.hid (show (8 : Int) = R by rw [Hr.out]; simp [s0, s1, s2, s3, h0, hq, hd2, h3, hk])
        clear Hr
        go_wp2_with fail
        go_ret
        exact ⟨ret_i HL.out, h30⟩
      · skip
        have HL := Lib.hid (show (0 : Int) = R by rw [Hr.out]; simp [s0, s1, s2, s3, h0, hq, hd2, h3, hk])
        clear Hr
        go_wp2_with fail
        go_ret
        exact ⟨ret_i HL.out, h30⟩
    rw [h3] at d3
    cases hd4 : D.b4
    rotate_left
    · skip
      rw [hd4] at d4
      cases hk : (k2 == 5)
      · skip
        have HL := Lib.hid (show (0 : Int) = R by rw [Hr.out]; simp [s0, s1, s2, s3, h0, hq, hd2, h3, hd4, hk])
        clear Hr
        go_wp2_with fail
        go_ret
        exact ⟨ret_i HL.out, h23⟩
      cases ts
      rotate_left
      · skip
        have HL := Lib.hid (show (0 : Int) = R by rw [Hr.out]; simp [s0, s1, s2, s3, h0, hq, hd2, h3, hd4, hk])
        clear Hr
        go_wp2_with fail
        go_ret
        exact ⟨ret_i HL.out, h23⟩
      have hk5 : k2 = 5 := by simpa using hk
      go_wp2_with fail
      refine (HM.out _ h23).mono ?_; rintro e w30 ⟨rfl, hb30⟩
      have h30 := h23.trans hb30
      replace d0 := hb30.cell d0; replace d2 := hb30.cell d2; replace d3 := hb30.cell d3; replace d4 := hb30.cell d4; replace d7 := hb30.cell d7; clear hb30
      cases M
      · skip
        have HL := Lib.hid (show (8 : Int) = R by rw [Hr.out]; simp [s0, s1, s2, s3, h0, hq, hd2, h3, hd4, hk])
        clear Hr
        go_wp2_with fail
        go_ret
        exact ⟨ret_i HL.out, h30⟩
      · skip
        have HL := Lib.hid (show (0 : Int) = R by rw [Hr.out]; simp [s0, s1, s2, s3, h0, hq, hd2, h3, hd4, hk])
        clear Hr
        go_wp2_with fail
        go_ret
        exact ⟨ret_i HL.out, h30⟩
    rw [hd4] at d4
    by_cases hn1 : D.n1 < 0
    rotate_left
    · skip
      have hn2 : 0 ≤ D.n1 := by omega
      cases hk : (k2 == 5)
      · skip
        have HL := Lib.hid (show (0 : Int) = R by rw [Hr.out]; simp [s0, s1, s2, s3, h0, hq, hd2, h3, hd4, hn2, hk])
        clear Hr
        go_wp2_with fail
        go_ret
        exact ⟨ret_i HL.out, h23⟩
      cases ts
      rotate_left
      · skip
        have HL := Lib.hid (show (0 : Int) = R by rw [Hr.out]; simp [s0, s1, s2, s3, h0, hq, hd2, h3, hd4, hn2, hk])
        clear Hr
        go_wp2_with fail
        go_ret
        exact ⟨ret_i HL.out, h23⟩
      have hk5 : k2 = 5 := by simpa using hk
      go_wp2_with fail
      refine (HM.out _ h23).mono ?_; rintro e w30 ⟨rfl, hb30⟩
      have h30 := h23.trans hb30
      replace d0 := hb30.cell d0; replace d2 := hb30.cell d2; replace d3 := hb30.cell d3; replace d4 := hb30.cell d4; replace d7 := hb30.cell d7; clear hb30
      cases M
      · skip
        have HL := Lib.hid (show (8 : Int) = R by rw [Hr.out]; simp [s0, s1, s2, s3, h0, hq, hd2, h3, hd4, hn2, hk])
        clear Hr
        go_wp2_with fail
        go_ret
        exact ⟨ret_i HL.out, h30⟩
      · skip
        have HL := Lib.hid (show (0 : Int) = R by rw [Hr.out]; simp [s0, s1, s2, s3, h0, hq, hd2, h3, hd4, hn2, hk])
        clear Hr
        go_wp2_with fail
        go_ret
        exact ⟨ret_i HL.out, h30⟩
    have hn2 : ¬ 0 ≤ D.n1 := by omega
    have HL := Lib.hid (show (7 : Int) = R by rw [Hr.out]; simp [s0, s1, s2, s3, h0, hq, hd2, h3, hd4, hn2])
    clear Hr
    go_wp2_with fail
    go_ret
    exact ⟨ret_i HL.out, h23⟩
  go_wp2_with fail
  refine (HX.out _ h4).mono ?_; rintro e w6 ⟨rfl, hb6⟩
  have h6 := h4.trans hb6
  replace d0 := hb6.cell d0; replace d2 := hb6.cell d2; replace d3 := hb6.cell d3; replace d4 := hb6.cell d4; replace d7 := hb6.cell d7; clear hb6
  cases X
  · skip
    have HL := Lib.hid (show (2 : Int) = R by rw [Hr.out]; simp [s0, s1, s2, s3])
    clear Hr
    go_wp2_with fail
    go_ret
    exact ⟨ret_i HL.out, h6⟩
  · skip
    cases h0 : D.b0
    rotate_left
    · skip
      have HL := Lib.hid (show (3 : Int) = R by rw [Hr.out]; simp [s0, s1, s2, s3, h0])
      clear Hr
      go_wp2_with fail
      go_ret
      exact ⟨ret_i HL.out, h6⟩
    rw [h0] at d0
    go_wp2_with fail
    refine (HQ.out _ h6).mono ?_; rintro e w20 ⟨rfl, hb20⟩
    have h20 := h6.trans hb20
    replace d0 := hb20.cell d0; replace d2 := hb20.cell d2; replace d3 := hb20.cell d3; replace d4 := hb20.cell d4; replace d7 := hb20.cell d7; clear hb20
    cases hq : Q.b0
    rotate_left
    · skip
      rw [hq] at hq0
      have HL := Lib.hid (show (3 : Int) = R by rw [Hr.out]; simp [s0, s1, s2, s3, h0, hq])
      clear Hr
      go_wp2_with fail
      go_ret
      exact ⟨ret_i HL.out, h20⟩
    rw [hq] at hq0
    cases hd2 : D.b2
    rotate_left
    · skip
      rw [hd2] at d2
      have HL := Lib.hid (show (4 : Int) = R by rw [Hr.out]; simp [s0, s1, s2, s3, h0, hq, hd2])
      clear Hr
      go_wp2_with fail
      go_ret
      exact ⟨ret_i HL.out, h20⟩
    rw [hd2] at d2
    go_wp2_with fail
    refine (HS.out _ h20).mono ?_; rintro e w21 ⟨rfl, hb21⟩
    have h21 := h20.trans hb21
    replace d0 := hb21.cell d0; replace d2 := hb21.cell d2; replace d3 := hb21.cell d3; replace d4 := hb21.cell d4; replace d7 := hb21.cell d7; clear hb21
    cases sc
    rotate_left
    · skip
      have HL := Lib.hid (show (5 : Int) = R by rw [Hr.out]; simp [s0, s1, s2, s3, h0, hq, hd2])
      clear Hr
      go_wp2_with fail
      go_ret
      exact ⟨ret_i HL.out, h21⟩
    go_wp2_with fail
    refine (HV.out _ h21).mono ?_; rintro e w22 ⟨rfl, hb22⟩
    have h22 := h21.trans hb22
    replace d0 := hb22.cell d0; replace d2 := hb22.cell d2; replace d3 := hb22.cell d3; replace d4 := hb22.cell d4; replace d7 := hb22.cell d7; clear hb22
    cases sf
    rotate_left
    · skip
      have HL := Lib.hid (show (6 : Int) = R by rw [Hr.out]; simp [s0, s1, s2, s3, h0, hq, hd2])
      clear Hr
      go_wp2_with fail
      go_ret
      exact ⟨ret_i HL.out, h22⟩
    go_wp2_with fail
    refine (HA.out _ h22).mono ?_; rintro e w23 ⟨rfl, hb23⟩
    have h23 := h22.trans hb23
    replace d0 := hb23.cell d0; replace d2 := hb23.cell d2; replace d3 := hb23.cell d3; replace d4 := hb23.cell d4; replace d7 := hb23.cell d7; clear hb23
    have hal : (au && !(D.b3 || D.b4 || decide (0 ≤ D.n1))) = true → au = true ∧ D.b3 = false ∧ D.b4 = false ∧ D.n1 < 0 := by intro h; simp at h; exact ⟨h.1, h.2.1.1, h.2.1.2, by omega⟩
    cases au
    · skip
      cases hk : (k2 == 5)
      · skip
        have HL := Lib.hid (show (0 : Int) = R by rw [Hr.out]; simp [s0, s1, s2, s3, h0, hq, hd2, hk])
        clear Hr
        go_wp2_with fail
        go_ret
        exact ⟨ret_i HL.out, h23⟩
      cases ts
      rotate_left
      · skip
        have HL := Lib.hid (show (0 : Int) = R by rw [Hr.out]; simp [s0, s1, s2, s3, h0, hq, hd2, hk])
        clear Hr
        go_wp2_with fail
        go_ret
        exact ⟨ret_i HL.out, h23⟩
      have hk5 : k2 = 5 := by simpa using hk
      go_wp2_with fail
      refine (HM.out _ h23).mono ?_; rintro e w30 ⟨rfl, hb30⟩
      have h30 := h23.trans hb30
      replace d0 := hb30.cell d0; replace d2 := hb30.cell d2; replace d3 := hb30.cell d3; replace d4 := hb30.cell d4; replace d7 := hb30.cell d7; clear hb30
      cases M
      · skip
        have HL := Lib.hid (show (8 : Int) = R by rw [Hr.out]; simp [s0, s1, s2, s3, h0, hq, hd2, hk])
        clear Hr
        go_wp2_with fail
        go_ret
        exact ⟨ret_i HL.out, h30⟩
      · skip
        have HL := Lib.hid (show (0 : Int) = R by rw [Hr.out]; simp [s0, s1, s2, s3, h0, hq, hd2, hk])
        clear Hr
        go_wp2_with fail
        go_ret
        exact ⟨ret_i HL.out, h30⟩
    cases h3 : D.b3
    rotate_left
    · skip
      rw [h3] at d3
      cases hk : (k2 == 5)
      · skip
        have HL := Lib.hid (show (0 : Int) = R by rw [Hr.out]; simp [s0, s1, s2, s3, h0, hq, hd2, h3, hk])
        clear Hr
        go_wp2_with fail
        go_ret
        exact ⟨ret_i HL.out, h23⟩
      cases ts
      rotate_left
      · skip
        have HL := Lib.hid (show (0 : Int) = R by rw [Hr.out]; simp [s0, s1, s2, s3, h0, hq, hd2, h3, hk])
        clear Hr
        go_wp2_with fail
        go_ret
        exact ⟨ret_i HL.out, h23⟩
      have hk5 : k2 = 5 := by simpa using hk
      go_wp2_with fail
      refine (HM.out _ h23).mono ?_; rintro e w30 ⟨rfl, hb30⟩
      have h30 := h23.trans hb30
      replace d0 := hb30.cell d0; replace d2 := hb30.cell d2; replace d3 := hb30.cell d3; replace d4 := hb30.cell d4; replace d7 := hb30.cell d7; clear hb30
      cases M
      · skip
        have HL := Lib.hid (show (8 : Int) = R by rw [Hr.out]; simp [s0, s1, s2, s3, h0, hq, hd2, h3, hk])
        clear Hr
        go_wp2_with fail
        go_ret
        exact ⟨ret_i HL.out, h30⟩
      · skip
        have HL := Lib.hid (show (0 : Int) = R by rw [Hr.out]; simp [s0, s1, s2, s3, h0, hq, hd2, h3, hk])
        clear Hr
        go_wp2_with fail
        go_ret
        exact ⟨ret_i HL.out, h30⟩
    rw [h3] at d3
    cases hd4 : D.b4
    rotate_left
    · skip
      rw [hd4] at d4
      cases hk : (k2 == 5)
      · skip
        have HL := Lib.hid (show (0 : Int) = R by rw [Hr.out]; simp [s0, s1, s2, s3, h0, hq, hd2, h3, hd4, hk])
        clear Hr
        go_wp2_with fail
        go_ret
        exact ⟨ret_i HL.out, h23⟩
      cases ts
      rotate_left
      · skip
        have HL := Lib.hid (show (0 : Int) = R by rw [Hr.out]; simp [s0, s1, s2, s3, h0, hq, hd2, h3, hd4, hk])
        clear Hr
        go_wp2_with fail
        go_ret
        exact ⟨ret_i HL.out, h23⟩
      have hk5 : k2 = 5 := by simpa using hk
      go_wp2_with fail
      refine (HM.out _ h23).mono ?_; rintro e w30 ⟨rfl, hb30⟩
      have h30 := h23.trans hb30
      replace d0 := hb30.cell d0; replace d2 := hb30.cell d2; replace d3 := hb30.cell d3; replace d4 := hb30.cell d4; replace d7 := hb30.cell d7; clear hb30
      cases M
      · skip
        have HL := Lib.hid (show (8 : Int) = R by rw [Hr.out]; simp [s0, s1, s2, s3, h0, hq, hd2, h3, hd4, hk])
        clear Hr
        go_wp2_with fail
        go_ret
        exact ⟨ret_i HL.out, h30⟩
      · skip
        have HL := Lib.hid (show (0 : Int) = R by rw [Hr.out]; simp [s0, s1, s2, s3, h0, hq, hd2, h3, hd4, hk])
        clear Hr
        go_wp2_with fail
        go_ret
        exact ⟨ret_i HL.out, h30⟩
    rw [hd4] at d4
    by_cases hn1 : D.n1 < 0
    rotate_left
    · skip
      have hn2 : 0 ≤ D.n1 := by omega
      cases hk : (k2 == 5)
      · skip
        have HL := Lib.hid (show (0 : Int) = R by rw [Hr.out]; simp [s0, s1, s2, s3, h0, hq, hd2, h3, hd4, hn2, hk])
        clear Hr
        go_wp2_with fail
        go_ret
        exact ⟨ret_i HL.out, h23⟩
      cases ts
      rotate_left
      · skip
        have HL := Lib.hid (show (0 : Int) = R by rw [Hr.out]; simp [s0, s1, s2, s3, h0, hq, hd2, h3, hd4, hn2, hk])
        clear Hr
        go_wp2_with fail
        go_ret
        exact ⟨ret_i HL.out, h23⟩
      have hk5 : k2 = 5 := by simpa using hk
      go_wp2_with fail
      refine (HM.out _ h23).mono ?_; rintro e w30 ⟨rfl, hb30⟩
      have h30 := h23.trans hb30
      replace d0 := hb30.cell d0; replace d2 := hb30.cell d2; replace d3 := hb30.cell d3; replace d4 := hb30.cell d4; replace d7 := hb30.cell d7; clear hb30
      cases M
      · skip
        have HL := Lib.hid (show (8 : Int) = R by rw [Hr.out]; simp [s0, s1, s2, s3, h0, hq, hd2, h3, hd4, hn2, hk])
        clear Hr
        go_wp2_with fail
        go_ret
        exact ⟨ret_i HL.out, h30⟩
      · skip
        have HL := Lib.hid (show (0 : Int) = R by rw [Hr.out]; simp [s0, s1, s2, s3, h0, hq, hd2, h3, hd4, hn2, hk])
        clear Hr
        go_wp2_with fail
        go_ret
        exact ⟨ret_i HL.out, h30⟩
    have hn2 : ¬ 0 ≤ D.n1 := by omega
    have HL := Lib.hid (show (7 : Int) = R by rw [Hr.out]; simp [s0, s1, s2, s3, h0, hq, hd2, h3, hd4, hn2])
    clear Hr
    go_wp2_with fail
    go_ret
    exact ⟨ret_i HL.out, h23⟩
end Go.Proofs.YtphgaommokgfcaaGreatDoor

namespace Go.Proofs.YtphgaommokgfcaaGreatDoor
open Go.RowKit

/-! Lists of lists of fields. -/
abbrev Sl := (Option Addr × Nat × Nat) × List Fd
def slV (t : Sl) : Value := .slice t.1.1 t.1.2.1 t.1.2.2
def one15 (t : Sl) : Nat := 2 * t.2.length + sumF t.2
def tot15 (Ls : List Sl) : Nat := (Ls.map one15).sum
theorem tot15_step {Ls : List Sl} {k : Nat} (h : k < Ls.length) : tot15 (Ls.take (k + 1)) = tot15 (Ls.take k) + one15 Ls[k] := by
  unfold tot15; rw [take_step Ls k h, List.map_append, List.sum_append]; simp
theorem tot15_le {Ls : List Sl} {k : Nat} (h : k < Ls.length) : tot15 (Ls.take k) + one15 Ls[k] ≤ tot15 Ls := by
  rw [← tot15_step h]
  have : tot15 Ls = tot15 (Ls.take (k + 1)) + tot15 (Ls.drop (k + 1)) := by
    conv => lhs; rw [← List.take_append_drop (k + 1) Ls]
    unfold tot15; rw [List.map_append, List.sum_append]
  omega
theorem Rd.atSl {w : World} {A : Option Addr} {n : Nat} {Ls : List Sl} (h : Rd w 1 A n (Ls.map slV)) {k : Nat} (hk : k < Ls.length) :
    ∃ b o, A = some ⟨b, o, none⟩ ∧ w.cell? ⟨b, o + k, none⟩ = some (slV Ls[k]) := by
  have hn : Ls.length = n := by have := h.1; simp at this; exact this
  obtain ⟨b, o, e, hc⟩ := h.2 (by simp; omega)
  exact ⟨b, o, e, hc k _ (by rw [List.getElem?_map, List.getElem?_eq_getElem hk]; rfl)⟩
theorem bsz_of_sumF15 : ∀ (fs : List Fd), Bsz (sumF fs) fs
  | [] => fun f hf => by cases hf
  | x :: l => fun f hf => by
    have hs : sumF (x :: l) = x.1.size + x.2.size + sumF l := by simp [sumF]
    rcases List.mem_cons.1 hf with rfl | hf
    · omega
    · have := bsz_of_sumF15 l f hf
      omega
theorem sumF_app15 (fs gs : List Fd) : sumF (fs ++ gs) = sumF fs + sumF gs := by simp [sumF]
set_option maxHeartbeats 4000000 in
set_option maxRecDepth 100000 in
theorem law15_large (A : Option Addr) (n c : Nat) (Ls : List Sl) (w : World) (hr : Rd w 1 A n (Ls.map slV)) (hL : ∀ t ∈ Ls, RdF w t.1.1 t.1.2.1 t.2) (hb : tot15 Ls ≤ 8388608) (hn : n ≤ 1048576) :
    Calls Tryz.prog 5 #[.slice A n c] w fun e w' => e = .returned (.bool (decide (4000 < tot15 Ls))) ∧ Ext w w' := by
  have hl : Ls.length = n := by have := hr.1; simp at this; exact this
  have Hl := Lib.hid hl; clear hl
  go_enter Tryz.func5, Tryz.ntmps5
  go_wp2_with fail
  go_loopw [3, 10] (fun v i wr => ∃ k z, k ≤ n ∧ i = .int .i64 (k : Nat) ∧ v = .int .i64 (z : Nat) ∧ z = tot15 (Ls.take k) ∧ z ≤ 8388608 ∧ Ext w wr) (fun _ i _ => n - (intOf i).toNat)
  case atStart => exact ⟨0, 0, Nat.zero_le _, rfl, rfl, rfl, by omega, Ext.refl _⟩
  case round =>
    obtain ⟨k, z, hk, rfl, rfl, hz, hz2, hbr⟩ := hrel
    have Hz := Lib.hid hz; clear hz
    by_cases hlt : k < n
    · have hlt' : k < Ls.length := by have := Hl.out; omega
      obtain ⟨b, o, rfl, hc0⟩ := (hr.ext hbr).atSl hlt'
      have Hst := Lib.hid (tot15_step hlt')
      have Hm := Lib.hid (show z + one15 Ls[k] ≤ 8388608 by rw [Hz.out]; exact Nat.le_trans (tot15_le hlt') hb)
      have HF := Lib.hid (hL _ (List.getElem_mem hlt'))
      generalize Ls[k] = x at *
      obtain ⟨⟨A2, n2, c2⟩, fs⟩ := x
      replace hc0 : wr.cell? ⟨b, o + k, none⟩ = some (.slice A2 n2 c2) := hc0
      have hF : RdF w A2 n2 fs := HF.out
      have hl2 := hF.lenF
      have Hl2 := Lib.hid hl2
      have Hm2 : z + (2 * fs.length + sumF fs) ≤ 8388608 := Hm.out
      have hm2 := Lib.hid Hm2
      have hn2 : n2 ≤ 8388608 := by omega
      have hsz := bsz_of_sumF15 fs
      clear hl2 Hm2 Hm HF
      have Hst2 := Lib.hid (show tot15 (Ls.take (k + 1)) = z + (2 * fs.length + sumF fs) from by rw [Hst.out, ← Hz.out]; rfl)
      clear Hst
      go_wp2_with fail
      obtain ⟨wq, hwq⟩ : ∃ wq : World, wq = wr := ⟨_, rfl⟩
      clear hwq
      go_loopw [3, 16] (fun v i wi => ∃ j y, j ≤ n2 ∧ i = .int .i64 (j : Nat) ∧ v = .int .i64 (y : Nat) ∧ y = z + 2 * j + sumF (fs.take j) ∧ y ≤ 8388608 ∧ Ext w wi) (fun _ i _ => n2 - (intOf i).toNat)
      case atStart => exact ⟨0, z, Nat.zero_le _, rfl, rfl, by simp [sumF], by omega, hbr⟩
      case round =>
        obtain ⟨j, y, hj, rfl, rfl, hy, hy2, hbi⟩ := hrel
        have Hy := Lib.hid hy; clear hy
        by_cases hjt : j < n2
        · have hjt' : j < fs.length := by have := Hl2.out; omega
          obtain ⟨b2, o2, rfl, hd0, hd1⟩ := (hF.ext hbi).atF hjt'
          have hm : sumF (fs.take j) + (fs[j].1.size + fs[j].2.size) ≤ sumF fs := by
            rw [← sumF_step hjt']
            have := sumF_app15 (fs.take (j + 1)) (fs.drop (j + 1))
            rw [List.take_append_drop] at this
            omega
          have Hst := Lib.hid (sumF_step hjt')
          have Hy3 := Lib.hid (show y + (2 + fs[j].1.size + fs[j].2.size) ≤ 8388608 by have := Hy.out; have := hm2.out; have := Hl2.out; omega)
          have h1 : fs[j].1.size ≤ 8388608 := by have := Hy3.out; omega
          have h2 : fs[j].2.size ≤ 8388608 := by have := Hy3.out; omega
          clear hm
          generalize fs[j].1 = nm at *
          generalize fs[j].2 = vl at *
          go_wp2_with fail
          go_roundw
          case rel => exact ⟨j + 1, y + (2 + nm.size + vl.size), by omega, by go_num, by go_num, by rw [Hst.out, Hy.out]; omega, Hy3.out, hbi.alloc _⟩
          case measure => simp [intOf]; omega
        · obtain rfl : j = n2 := by omega
          have He := Lib.hid (show y = tot15 (Ls.take (k + 1)) by rw [Hst2.out, Hy.out, List.take_of_length_le (by have := Hl2.out; omega), ← Hl2.out]; omega)
          clear Hy hjt
          go_wp2_with fail
          go_roundw
          case rel => exact ⟨k + 1, y, by omega, by go_num, rfl, He.out, hy2, hbi⟩
          case measure => simp [intOf]; omega
    · obtain rfl : k = n := by omega
      have He := Lib.hid (show decide (4000 < tot15 Ls) = decide (4000 < z) by rw [Hz.out, List.take_of_length_le (by have := Hl.out; omega)])
      go_wp2_with fail
      go_ret
      exact ⟨congrArg (fun x => Ending.returned (.bool x)) (by rw [He.out]; (try simp); (try omega)), hbr⟩

/-! Names in upper case. -/
def mapAt (f : UInt8 → UInt8) (s : ByteArray) (k j : Nat) : Int := if j < k then (f (s.data.toList.getD j 0)).toNat else (s.data.toList.getD j 0).toNat
theorem mapAt_zero (f : UInt8 → UInt8) (s : ByteArray) (j : Nat) (h : j < s.data.toList.length) : mapAt f s 0 j = (s.data.toList[j].toNat : Int) := by
  simp [mapAt, List.getD_eq_getElem?_getD, List.getElem?_eq_getElem h]
theorem mapAt_self (f : UInt8 → UInt8) (s : ByteArray) (k : Nat) : mapAt f s k k = (s.data.toList.getD k 0).toNat := by simp [mapAt]
theorem mapAt_same (f : UInt8 → UInt8) (s : ByteArray) (k j : Nat) (h : j ≠ k) : mapAt f s (k + 1) j = mapAt f s k j := by
  unfold mapAt
  by_cases h1 : j < k
  · rw [if_pos h1, if_pos (by omega)]
  · rw [if_neg h1, if_neg (by omega)]
theorem mapAt_next (f : UInt8 → UInt8) (s : ByteArray) (k : Nat) : mapAt f s (k + 1) k = (f (s.data.toList.getD k 0)).toNat := by simp [mapAt]
theorem mapAt_end (f : UInt8 → UInt8) (s : ByteArray) (k j : Nat) (h : j < k) (hj : j < (s.data.toList.map f).length) : mapAt f s k j = ((s.data.toList.map f)[j].toNat : Int) := by
  have hj' : j < s.data.toList.length := by simpa using hj
  rw [mapAt, if_pos h, List.getD_eq_getElem?_getD, List.getElem?_eq_getElem hj']
  simp
theorem map_step_yes {f : UInt8 → UInt8} {s : ByteArray} {k B : Nat} {wr : World} {v : Int} (lt : k < s.size) (hc : ∀ j, j < s.size → wr.cell? ⟨B, j, none⟩ = some (.int .u8 (mapAt f s k j)))
    (hf : ∀ j, j < s.size → wr.frozen? ⟨B, j, none⟩ = false) (hy : ((f s.data[k]).toNat : Int) = v) :
    (∀ j, j < s.size → (wr.setCell ⟨B, k, none⟩ (.int .u8 v)).cell? ⟨B, j, none⟩ = some (.int .u8 (mapAt f s (k + 1) j))) ∧
    (∀ j, j < s.size → (wr.setCell ⟨B, k, none⟩ (.int .u8 v)).frozen? ⟨B, j, none⟩ = false) := by
  refine ⟨fun j hj => ?_, fun j hj => by rw [World.frozen?_setCell]; exact hf j hj⟩
  by_cases hjk : j = k
  · subst hjk
    rw [World.cell?_setCell_same _ _ _ (hc j hj), mapAt_next, List.getD_eq_getElem?_getD, List.getElem?_eq_getElem (show j < s.data.toList.length from hj)]
    simp only [Option.getD_some, Array.getElem_toList]
    rw [hy]
  · rw [World.cell?_setCell_other _ _ _ _ (by intro e; injection e with _ e; exact hjk e.symm), hc j hj, mapAt_same f s k j hjk]
theorem map_step_no {f : UInt8 → UInt8} {s : ByteArray} {k B : Nat} {wr : World} (lt : k < s.size) (hc : ∀ j, j < s.size → wr.cell? ⟨B, j, none⟩ = some (.int .u8 (mapAt f s k j)))
    (hn : f s.data[k] = s.data[k]) : ∀ j, j < s.size → wr.cell? ⟨B, j, none⟩ = some (.int .u8 (mapAt f s (k + 1) j)) := by
  intro j hj
  by_cases hjk : j = k
  · subst hjk
    rw [hc j hj, mapAt_next, mapAt_self, List.getD_eq_getElem?_getD, List.getElem?_eq_getElem (show j < s.data.toList.length from hj)]
    simp only [Option.getD_some, Array.getElem_toList]
    rw [hn]
  · rw [hc j hj, mapAt_same f s k j hjk]
theorem upC_yes (c : UInt8) (h1 : (97 : Int) ≤ c.toNat) (h2 : (c.toNat : Int) ≤ 122) : ((upC c).toNat : Int) = c.toNat - 32 := by
  have h : (97 ≤ c && c ≤ 122) = true := by simp [UInt8.le_iff_toNat_le]; omega
  rw [upC, if_pos h, UInt8.toNat_sub]
  simp
  omega
theorem upC_no (c : UInt8) (h : ¬ ((97 : Int) ≤ c.toNat ∧ (c.toNat : Int) ≤ 122)) : upC c = c := by
  have h : ¬ (97 ≤ c && c ≤ 122) = true := by simp [UInt8.le_iff_toNat_le]; omega
  rw [upC, if_neg h]
theorem own_lo {w : World} {base e k n m c : Nat} {A : Option Addr} {xs : List Value} (h : w.ownsRow base e k (.slice A n c) m xs) : ∀ a, A = some a → base ≤ a.block := by
  intro a ha
  rcases h.2 with ⟨hv, _⟩ | ⟨g, cap, cur, hv, hb, _⟩
  · injection hv with h1; rw [ha] at h1; cases h1
  · injection hv with h1; rw [ha] at h1; injection h1 with h1; rw [h1]; exact hb
theorem loud_step {fs : List Fd} {k : Nat} (h : k < fs.length) : loudS (fs.take (k + 1)) = loudS (fs.take k) ++ [(upS (lowS fs[k].1), fs[k].2)] := by
  unfold loudS; rw [take_step fs k h, List.map_append]; rfl
end Go.Proofs.YtphgaommokgfcaaGreatDoor

namespace Go.Proofs.YtphgaommokgfcaaGreatDoor
open Go

section
variable {P : Program} {ops : Array Oper} {Q : Exit → Act → World → Prop} {md : Region.Mode} {S : World → Prop} {s : Nat}

/-- Whatever order is picked from here on; until number s has come up, S holds behind every operation. -/
def wpAnyU (P : Program) (md : Region.Mode) (ops : Array Oper) (Q : Exit → Act → World → Prop) (S : World → Prop) (s : Nat) : Nat → Array Bool → Act → World → Prop
  | 0, listed, a, w => Region.ready md ops listed = [] ∧ Q .normal a w
  | fuel + 1, listed, a, w =>
    (Region.ready md ops listed = [] → Q .normal a w) ∧
    ∀ i ∈ Region.ready md ops listed, wpOp P ops Q i (fun a' w' => ((listed.setIfInBounds i true).getD s true = false → S w') ∧ wpAnyU P md ops Q S s fuel (listed.setIfInBounds i true) a' w') a w
theorem wpAny_of_U : ∀ (fuel : Nat) (listed : Array Bool) (a : Act) (w : World), wpAnyU P md ops Q S s fuel listed a w → wpAny P md ops Q fuel listed a w
  | 0, _, _, _, h => h
  | fuel + 1, _, _, _, h => ⟨h.1, fun i hi => wpOp_mono (fun a' w' h' => wpAny_of_U fuel _ a' w' h'.2) (h.2 i hi)⟩
theorem listed_stays {listed : Array Bool} {i : Nat} (h : listed.getD s true = true) : (listed.setIfInBounds i true).getD s true = true := by
  by_cases hi : i = s
  · subst hi
    simp [Array.getD]
  · rw [getD_set_ne true hi]; exact h
/-- Behind number s nothing more is asked. -/
theorem wpAnyU_after : ∀ (fuel : Nat) (listed : Array Bool) (a : Act) (w : World), listed.getD s true = true → wpAnyH P md ops Q (fun _ => True) fuel listed a w → wpAnyU P md ops Q S s fuel listed a w
  | 0, _, _, _, _, h => h
  | fuel + 1, listed, _, _, hs, h => ⟨h.1, fun i hi => wpOp_mono (fun a' w' h' => ⟨(fun e => by rw [listed_stays hs] at e; cases e), wpAnyU_after fuel _ a' w' (listed_stays hs) h'.2⟩) (h.2 i hi)⟩
/-- Each of D waits for i or for another one of D. -/
def depB (md : Region.Mode) (ops : Array Oper) (i : Nat) (D : List Nat) : Bool :=
  D.all fun d => match ops[d]? with
    | some o => o.after.any fun e => Region.binds md e && (e.on == i || D.contains e.on)
    | none => false
def unB (listed : Array Bool) (D : List Nat) : Bool := D.all fun d => !listed.getD d true
theorem dep_notready {listed : Array Bool} {i : Nat} {D : List Nat} (hd : depB md ops i D = true) (hu : unB listed D = true) (hi : listed.getD i true = false) {j : Nat} (hj : j ∈ Region.ready md ops listed) : j ∉ D := by
  intro hjD
  have h1 := List.all_eq_true.1 hd j hjD
  obtain ⟨_, oj, hoj, hall⟩ := mem_ready.1 hj
  rw [hoj] at h1
  obtain ⟨e, he, hb⟩ := Array.any_eq_true'.1 h1
  simp only [Bool.and_eq_true, Bool.or_eq_true, beq_iff_eq, List.contains_eq_mem, decide_eq_true_eq] at hb
  have h2 := hall e he hb.1
  have h3 : listed.getD e.on true = false := by
    rcases hb.2 with h | h
    · rw [h]; exact hi
    · simpa using List.all_eq_true.1 hu _ h
  rw [Array.getD_eq_getD_getElem?] at h2 h3
  rcases Nat.lt_or_ge e.on listed.size with hl | hl
  · rw [Array.getElem?_eq_getElem hl] at h2 h3
    simp at h2 h3
    rw [h2] at h3; cases h3
  · rw [Array.getElem?_eq_none hl] at h3
    simp at h3
theorem un_set {listed : Array Bool} {D : List Nat} (hu : unB listed D = true) {j : Nat} (hj : j ∉ D) : unB (listed.setIfInBounds j true) D = true := by
  unfold unB at *
  rw [List.all_eq_true] at *
  intro d hd
  have hne : j ≠ d := fun e => hj (e ▸ hd)
  rw [getD_set_ne true hne]
  exact hu d hd
theorem wpAnyU_first {i : Nat} {oi : Oper} {v : Value} (D : List Nat) (hsD : s ∈ D) (hiD : i ∉ D) (hd : depB md ops i D = true) (hi : ops[i]? = some oi)
    (hsel : ∀ (j : Nat) (o : Oper) cs b, ops[j]? = some o → o.op ≠ .select cs b)
    (hQ : ∀ c a w, Q (.panic c) (a.put oi.dst v) w → Q (.panic c) a w) :
    ∀ (fuel : Nat) (listed : Array Bool) (a : Act) (w : World),
      (∀ j oj, ops[j]? = some oj → j ≠ i → listed.getD j true = false → (∀ e ∈ oj.after, Region.binds md e = true → e.on ≠ i) → oi.apart ops oj = true) →
      i ∈ Region.ready md ops listed → unB listed D = true → YieldsIf P ops S oi v a → S w →
      wpAnyU P md ops Q S s fuel (listed.setIfInBounds i true) (a.put oi.dst v) w → wpAnyU P md ops Q S s (fuel + 1) listed a w := by
  intro fuel
  induction fuel with
  | zero =>
    intro listed a w _ hr hu hy hS H
    refine ⟨fun h => (by rw [h] at hr; cases hr), fun j hj => ?_⟩
    by_cases hji : j = i
    · subst hji; exact hy.wpOp hi hS ⟨fun _ => hS, H⟩
    · have := ready_mono hj hji
      rw [H.1] at this
      cases this
  | succ fuel ih =>
    intro listed a w hfree hr hu hy hS H
    refine ⟨fun h => (by rw [h] at hr; cases hr), fun j hj => ?_⟩
    by_cases hji : j = i
    · subst hji; exact hy.wpOp hi hS ⟨fun _ => hS, H⟩
    · have hun := (mem_ready.1 hr).1
      have h1 := H.2 j (ready_mono hj hji)
      obtain ⟨hjun, oj, hoj, hall⟩ := mem_ready.1 hj
      have hnot : ∀ e ∈ oj.after, Region.binds md e = true → e.on ≠ i := fun e he hb heq => by
        have h1 := hall e he hb
        rw [heq] at h1
        rcases Nat.lt_or_ge i listed.size with h' | h'
        · simp [h'] at hun h1; rw [hun] at h1; cases h1
        · simp [Array.getElem?_eq_none h'] at h1
      have hjD := dep_notready hd hu hun hj
      have h2 := wpOp_putIf hoj (hfree j oj hoj hji hjun hnot) (fun cs b => hsel i oi cs b hi) (fun cs b => hsel j oj cs b hoj) hQ hy h1
      have hfree' : ∀ k ok, ops[k]? = some ok → k ≠ i → (listed.setIfInBounds j true).getD k true = false →
          (∀ e ∈ ok.after, Region.binds md e = true → e.on ≠ i) → oi.apart ops ok = true := fun k ok hk hki hun hno => by
        refine hfree k ok hk hki ?_ hno
        by_cases hjk : j = k
        · subst hjk; exact hjun
        · rw [getD_set_ne true hjk] at hun; exact hun
      have hsu : (listed.setIfInBounds j true).getD s true = false := by
        have := List.all_eq_true.1 (un_set hu hjD) s hsD
        simpa using this
      have hsu2 : ((listed.setIfInBounds i true).setIfInBounds j true).getD s true = false := by
        have := List.all_eq_true.1 (un_set (un_set hu hiD) hjD) s hsD
        simpa using this
      refine wpOp_mono (fun a' w' h3 => ⟨fun _ => h3.2.1 hsu2, ih (listed.setIfInBounds j true) a' w' hfree' (ready_mono hr (Ne.symm hji)) (un_set hu hjD) h3.1 (h3.2.1 hsu2) ?_⟩) h2
      rw [Array.setIfInBounds_comm _ _ hji]
      exact h3.2.2
theorem wpAnyU_take {i : Nat} {oi : Oper} {v : Value} {fuel : Nat} {listed : Array Bool} {a : Act} {w : World} (D : List Nat) (hsD : D.contains s = true) (hiD : D.contains i = false) (hd : depB md ops i D = true) (hu : unB listed D = true)
    (hi : ops[i]? = some oi)
    (hs : Region.noSelect ops = true) (hf : Region.free md ops listed i = true) (hr : (Region.ready md ops listed).contains i = true)
    (hQ : ∀ c a w, Q (.panic c) (a.put oi.dst v) w → Q (.panic c) a w) (hy : YieldsIf P ops S oi v a) (hS : S w)
    (h : wpAnyU P md ops Q S s fuel (listed.setIfInBounds i true) (a.put oi.dst v) w) : wpAnyU P md ops Q S s (fuel + 1) listed a w :=
  wpAnyU_first D (by simpa using hsD) (by simpa using hiD) hd hi (Region.noSelect_spec hs) hQ fuel listed a w (Region.free_spec hi hf) (by simpa using hr) hu hy hS h
theorem wpAnyU_firstW {i : Nat} {oi : Oper} {v : Value} (his : i ≠ s) (hi : ops[i]? = some oi)
    (hsel : ∀ (j : Nat) (o : Oper) cs b, ops[j]? = some o → o.op ≠ .select cs b)
    (hQ : ∀ c a w, Q (.panic c) (a.put oi.dst v) w → Q (.panic c) a w) :
    ∀ (fuel : Nat) (listed : Array Bool) (a : Act) (w : World),
      (∀ j oj, ops[j]? = some oj → j ≠ i → listed.getD j true = false → (∀ e ∈ oj.after, Region.binds md e = true → e.on ≠ i) → oi.apart ops oj = true) →
      i ∈ Region.ready md ops listed → YieldsIf P ops (fun _ => True) oi v a → (listed.getD s true = false → S w) →
      wpAnyU P md ops Q S s fuel (listed.setIfInBounds i true) (a.put oi.dst v) w → wpAnyU P md ops Q S s (fuel + 1) listed a w := by
  intro fuel
  induction fuel with
  | zero =>
    intro listed a w _ hr hy hS H
    refine ⟨fun h => (by rw [h] at hr; cases hr), fun j hj => ?_⟩
    by_cases hji : j = i
    · subst hji; exact hy.wpOp hi trivial ⟨fun e => hS (by rwa [getD_set_ne true his] at e), H⟩
    · have := ready_mono hj hji
      rw [H.1] at this
      cases this
  | succ fuel ih =>
    intro listed a w hfree hr hy hS H
    refine ⟨fun h => (by rw [h] at hr; cases hr), fun j hj => ?_⟩
    by_cases hji : j = i
    · subst hji; exact hy.wpOp hi trivial ⟨fun e => hS (by rwa [getD_set_ne true his] at e), H⟩
    · have hun := (mem_ready.1 hr).1
      have h1 := H.2 j (ready_mono hj hji)
      obtain ⟨hjun, oj, hoj, hall⟩ := mem_ready.1 hj
      have hnot : ∀ e ∈ oj.after, Region.binds md e = true → e.on ≠ i := fun e he hb heq => by
        have h1 := hall e he hb
        rw [heq] at h1
        rcases Nat.lt_or_ge i listed.size with h' | h'
        · simp [h'] at hun h1; rw [hun] at h1; cases h1
        · simp [Array.getElem?_eq_none h'] at h1
      have h2 := wpOp_putIf hoj (hfree j oj hoj hji hjun hnot) (fun cs b => hsel i oi cs b hi) (fun cs b => hsel j oj cs b hoj) hQ hy h1
      have hfree' : ∀ k ok, ops[k]? = some ok → k ≠ i → (listed.setIfInBounds j true).getD k true = false →
          (∀ e ∈ ok.after, Region.binds md e = true → e.on ≠ i) → oi.apart ops ok = true := fun k ok hk hki hun hno => by
        refine hfree k ok hk hki ?_ hno
        by_cases hjk : j = k
        · subst hjk; exact hjun
        · rw [getD_set_ne true hjk] at hun; exact hun
      have hcomm : (listed.setIfInBounds i true).setIfInBounds j true = (listed.setIfInBounds j true).setIfInBounds i true := Array.setIfInBounds_comm _ _ (Ne.symm hji)
      have hsS : (listed.setIfInBounds j true).getD s true = false → ((listed.setIfInBounds i true).setIfInBounds j true).getD s true = false := fun e => by
        rw [hcomm, getD_set_ne true his]; exact e
      refine wpOp_mono (fun a' w' h3 => ⟨fun e => h3.2.1 (hsS e), ih (listed.setIfInBounds j true) a' w' hfree' (ready_mono hr (Ne.symm hji)) h3.1 (fun e => h3.2.1 (hsS e)) ?_⟩) h2
      rw [Array.setIfInBounds_comm _ _ hji]
      exact h3.2.2
/-- What yields in whatever world is taken first, wherever it stands. -/
theorem wpAnyU_takeW {i : Nat} {oi : Oper} {v : Value} {fuel : Nat} {listed : Array Bool} {a : Act} {w : World} (his : (i == s) = false)
    (hi : ops[i]? = some oi)
    (hs : Region.noSelect ops = true) (hf : Region.free md ops listed i = true) (hr : (Region.ready md ops listed).contains i = true)
    (hQ : ∀ c a w, Q (.panic c) (a.put oi.dst v) w → Q (.panic c) a w) (hy : YieldsIf P ops (fun _ => True) oi v a) (hS : S w)
    (h : wpAnyU P md ops Q S s fuel (listed.setIfInBounds i true) (a.put oi.dst v) w) : wpAnyU P md ops Q S s (fuel + 1) listed a w :=
  wpAnyU_firstW (by simpa using his) hi (Region.noSelect_spec hs) hQ fuel listed a w (Region.free_spec hi hf) (by simpa using hr) hy (fun _ => hS) h
def AllReadyU (P : Program) (md : Region.Mode) (ops : Array Oper) (Q : Exit → Act → World → Prop) (S : World → Prop) (s : Nat) (fuel : Nat) (listed : Array Bool) (a : Act) (w : World) (rs : List Nat) : Prop :=
  ∀ i ∈ rs, wpOp P ops Q i (fun a' w' => ((listed.setIfInBounds i true).getD s true = false → S w') ∧ wpAnyU P md ops Q S s fuel (listed.setIfInBounds i true) a' w') a w
theorem AllReadyU.nil {fuel : Nat} {listed : Array Bool} {a : Act} {w : World} : AllReadyU P md ops Q S s fuel listed a w [] := fun _ h => by cases h
/-- Ahead of number s: S is shown, and handed on. -/
theorem AllReadyU.cons {fuel : Nat} {listed : Array Bool} {a : Act} {w : World} {i : Nat} {o : Oper} {rs : List Nat} (ho : ops[i]? = some o)
    (h : ∀ K' : Act → World → Prop, Shut (∀ a w, S w → (S w → wpAnyU P md ops Q S s fuel (listed.setIfInBounds i true) a w) → K' a w) → if Region.wanted o (yielded ops a.tmps) = true then Oper.wp P o a w K' Q else K' (a.put o.dst undef) w)
    (hs : AllReadyU P md ops Q S s fuel listed a w rs) : AllReadyU P md ops Q S s fuel listed a w (i :: rs) := fun j hj => by
  rcases List.mem_cons.1 hj with rfl | hj
  · exact wpOp_step ho (fun K' hK => h K' (fun a w hS hW => hK a w ⟨fun _ => hS, hW hS⟩))
  · exact hs j hj
/-- At number s itself: nothing is shown, and nothing more is asked behind it. -/
theorem AllReadyU.stop {fuel : Nat} {listed : Array Bool} {a : Act} {w : World} {o : Oper} {rs : List Nat} (ho : ops[s]? = some o) (hl : (listed.setIfInBounds s true).getD s true = true)
    (h : ∀ K' : Act → World → Prop, Shut (∀ a w, True → (True → wpAnyH P md ops Q (fun _ => True) fuel (listed.setIfInBounds s true) a w) → K' a w) → if Region.wanted o (yielded ops a.tmps) = true then Oper.wp P o a w K' Q else K' (a.put o.dst undef) w)
    (hs : AllReadyU P md ops Q S s fuel listed a w rs) : AllReadyU P md ops Q S s fuel listed a w (s :: rs) := fun j hj => by
  rcases List.mem_cons.1 hj with rfl | hj
  · exact wpOp_step ho (fun K' hK => h K' (fun a w _ hW => hK a w ⟨(fun e => by rw [hl] at e; cases e), wpAnyU_after _ _ _ _ hl (hW trivial)⟩))
  · exact hs j hj
theorem wpAnyU_ready {rs : List Nat} {fuel : Nat} {listed : Array Bool} {a : Act} {w : World} (hr : Region.ready md ops listed = rs) (hne : rs ≠ [])
    (h : AllReadyU P md ops Q S s fuel listed a w rs) : wpAnyU P md ops Q S s (fuel + 1) listed a w :=
  ⟨fun h0 => absurd (hr ▸ h0) hne, hr ▸ h⟩
theorem wp_region_U {id : Nat} {a : Act} {w : World} (s : Nat) (hm : P.follows .mixedOrders = true) (hS : S w.drew)
    (h : S w.drew → wpAnyU P .any ops Q S s ops.size (Array.replicate ops.size false) a w.drew) : (Code.region id ops true).wp P Q a w :=
  wp_region_any hm (wpAny_of_U _ _ _ _ (h hS))
end

/-! Whole structs loaded and stored inside such a region. -/
section
variable {P : Program} {ops : Array Oper} {o : Oper} {a : Act} {w : World} {K : Act → World → Prop} {Q : Exit → Act → World → Prop} {E : Prop}
theorem step_loadB (hgd : o.guard = none) (ty : TypeId) (x : Operand) (ho : o.op = .load ty x)
    (g : Nat) (hx : a.eval x = .pointer (some ⟨g, 0, none⟩)) (t : TypeId) (cs : Array Value) (hg : Blk w g t cs) (fs : Array Field)
    (hu : P.underlying ty = some (.struct fs)) (hi : (P.info? ty).map (·.size) = some cs.size)
    (h : K (a.put o.dst (.agg cs)) w) : if Region.wanted o (yielded ops a.tmps) = true then Oper.wp P o a w K Q else E := by
  rw [if_pos (by simp [Region.wanted, hgd])]
  exact wp_load_row ty x ho g hx t cs (0, 0) _ hg hu rfl hi h
theorem step_storeB (hgd : o.guard = none) (ty : TypeId) (x y : Operand) (ho : o.op = .store ty x y)
    (hd : o.dst = none) (g : Nat) (cells : Array Value) (hx : a.eval x = .pointer (some ⟨g, 0, none⟩)) (hy : a.eval y = .agg cells)
    (t : TypeId) (old : Array Value) (hg : Blk w g t old) (hi : (P.info? ty).map (·.size) = some cells.size)
    (hold : old.size = cells.size) (h1 : cells.all (·.oneCell') = true)
    (h : ∀ w', Blk w' g t cells → ExtB g w w' → K a w') : if Region.wanted o (yielded ops a.tmps) = true then Oper.wp P o a w K Q else E := by
  rw [if_pos (by simp [Region.wanted, hgd])]
  refine wp_store_row ty x y ho g cells hx hy t old hg hi hold h1 ?_
  rw [hd]
  exact h _ (setRow_heap w g old cells t (0, 0) hg) ⟨rfl, rfl, rfl, by simp, fun k _ hne => setRow_other w g k cells (fun e => hne (by rw [e]))⟩
/-- A whole struct, loaded ahead of all else. -/
theorem yield_loadB {S : World → Prop} (hgd : o.guard = none) (ty : TypeId) (x : Operand) (ho : o.op = .load ty x)
    (g : Nat) (hx : a.eval x = .pointer (some ⟨g, 0, none⟩)) (t : TypeId) (cs : Array Value) (hg : ∀ w, S w → Blk w g t cs) (fs : Array Field)
    (hu : P.underlying ty = some (.struct fs)) (hi : (P.info? ty).map (·.size) = some cs.size) : YieldsIf P ops S o (.agg cs) a := by
  refine .inl ⟨by simp [Region.wanted, hgd], fun w hS => ?_⟩
  unfold execOp
  simp only [ho, hx, Instr.loadAt, Instr.sureAddr, Sem.run_bind, Sem.run_pure, Result.andThen_ok, run_loadVar_row w g t ty cs (0, 0) _ (hg w hS) hu rfl hi]
end
end Go.Proofs.YtphgaommokgfcaaGreatDoor

namespace Go.Proofs.YtphgaommokgfcaaGreatDoor
open Go.RowKit

set_option maxHeartbeats 8000000 in
set_option maxRecDepth 100000 in
theorem law15_of (me : ByteArray) (Aq : Option Addr) (nq cq : Nat) (rq : List Fd) (Ar : Option Addr) (nr cr : Nat) (rp : List Fd) (st : Int) (w : World) (hfq : RdF w Aq nq rq) (hfr : RdF w Ar nr rp) (hnq : nq ≤ 1073741824) (hnr : nr ≤ 1073741824) (hszq : Bsz 1048576 rq) (hszr : Bsz 1048576 rp) (hg : GlH w) (hT : sumF rp + 2 * nr ≤ 70368744177664) (hgl : Gl w) :
    Calls Tryz.prog 7 #[.agg #[.string me, .slice Aq nq cq, .slice Ar nr cr, .int .i64 st]] w fun e w' => e = .returned (.int .i64 (rsS (isG me) rq st rp)) ∧ Ext w w' := by
  have hEa := (Ext.refl w).alloc (.cells #[.string me, .slice Aq nq cq, .slice Ar nr cr, .int .i64 st] 24)
  have HFq := Lib.hid (fun w' (h : Ext (w.alloc (.cells #[.string me, .slice Aq nq cq, .slice Ar nr cr, .int .i64 st] 24)) w') => law_Fields Aq nq cq rq w' ((hfq.ext hEa).ext h) hnq)
  have HFr := Lib.hid (fun w' (h : Ext (w.alloc (.cells #[.string me, .slice Aq nq cq, .slice Ar nr cr, .int .i64 st] 24)) w') => law_Fields Ar nr cr rp w' ((hfr.ext hEa).ext h) hnr)
  have HB := Lib.hid (Blk.new w 24 #[.string me, .slice Aq nq cq, .slice Ar nr cr, .int .i64 st])
  have HG := Lib.hid (⟨hg.ext hEa, hgl.ext hEa⟩ : _ ∧ _)
  have HE := Lib.hid hEa
  clear hEa hg hgl hfq hfr
  go_enter Tryz.func7, Tryz.ntmps7
  go_wp2_with fail
  generalize w.alloc (.cells #[.string me, .slice Aq nq cq, .slice Ar nr cr, .int .i64 st] 24) = W0 at *
  have HC := Lib.hid (show ∀ w', Ext W0 w' → (w'.cell? ⟨w.heap.size, 0, none⟩ = some (.string me) ∧ w'.cell? ⟨w.heap.size, 1, none⟩ = some (.slice Aq nq cq) ∧ w'.cell? ⟨w.heap.size, 2, none⟩ = some (.slice Ar nr cr) ∧ w'.cell? ⟨w.heap.size, 3, none⟩ = some (.int .i64 st)) from fun w' h => ⟨(HB.out.ext h).cell 0, (HB.out.ext h).cell 1, (HB.out.ext h).cell 2, (HB.out.ext h).cell 3⟩)
  have hE := (Ext.refl W0).drew
  refine wp_region_held_drew (S := (fun w' => w'.cell? ⟨w.heap.size, 0, none⟩ = some (.string me) ∧ w'.cell? ⟨w.heap.size, 1, none⟩ = some (.slice Aq nq cq) ∧ w'.cell? ⟨w.heap.size, 2, none⟩ = some (.slice Ar nr cr) ∧ w'.cell? ⟨w.heap.size, 3, none⟩ = some (.int .i64 st))) (by kernel_rfl) ?_ (fun hHeld => ?_)
  · (try dsimp only); exact HC.out _ hE
  refine wpAnyH_take (i := 0) (oi := { dst := some 3, op := _, type := _, pos := _, after := _, guard := _ }) (v := ?_) rfl (by kernel_rfl) (by kernel_rfl) (by kernel_rfl) (fun _ _ _ h => h) (Or.inl ⟨by rfl, ?_⟩) (by assumption) ?_
  rotate_left
  · (intro w hSw; (try dsimp only at hSw); go_simp; (try with_reducible rfl))
  (try simp only [Act.put, List.setIfInBounds_toArray, List.set_cons_zero, List.set_cons_succ])
  refine wpAnyH_take (i := 1) (oi := { dst := some 4, op := _, type := _, pos := _, after := _, guard := _ }) (v := ?_) rfl (by kernel_rfl) (by kernel_rfl) (by kernel_rfl) (fun _ _ _ h => h) (Or.inl ⟨by rfl, ?_⟩) (by assumption) ?_
  rotate_left
  · (intro w hSw; (try dsimp only at hSw); go_simp; (try with_reducible rfl))
  (try simp only [Act.put, List.setIfInBounds_toArray, List.set_cons_zero, List.set_cons_succ])
  refine wpAnyH_take (i := 2) (oi := { dst := some 5, op := _, type := _, pos := _, after := _, guard := _ }) (v := ?_) rfl (by kernel_rfl) (by kernel_rfl) (by kernel_rfl) (fun _ _ _ h => h) (Or.inl ⟨by rfl, ?_⟩) (by assumption) ?_
  rotate_left
  · (intro w hSw; (try dsimp only at hSw); go_simp; (try with_reducible rfl))
  (try simp only [Act.put, List.setIfInBounds_toArray, List.set_cons_zero, List.set_cons_succ])
  refine wpAnyH_take (i := 3) (oi := { dst := some 6, op := _, type := _, pos := _, after := _, guard := _ }) (v := ?_) rfl (by kernel_rfl) (by kernel_rfl) (by kernel_rfl) (fun _ _ _ h => h) (Or.inl ⟨by rfl, ?_⟩) (by assumption) ?_
  rotate_left
  · (intro w hSw; (try dsimp only at hSw); go_simp; (try with_reducible rfl))
  (try simp only [Act.put, List.setIfInBounds_toArray, List.set_cons_zero, List.set_cons_succ])
  refine wpAnyH_take (i := 5) (oi := { dst := some 8, op := _, type := _, pos := _, after := _, guard := _ }) (v := ?_) rfl (by kernel_rfl) (by kernel_rfl) (by kernel_rfl) (fun _ _ _ h => h) (Or.inl ⟨by rfl, ?_⟩) (by assumption) ?_
  rotate_left
  · (intro w hSw; (try dsimp only at hSw); go_simp; (try with_reducible rfl))
  (try simp only [Act.put, List.setIfInBounds_toArray, List.set_cons_zero, List.set_cons_succ])
  refine wpAnyH_take (i := 6) (oi := { dst := some 9, op := _, type := _, pos := _, after := _, guard := _ }) (v := ?_) rfl (by kernel_rfl) (by kernel_rfl) (by kernel_rfl) (fun _ _ _ h => h) (Or.inl ⟨by rfl, ?_⟩) (by assumption) ?_
  rotate_left
  · (intro w hSw; (try dsimp only at hSw); go_simp; (try with_reducible rfl))
  (try simp only [Act.put, List.setIfInBounds_toArray, List.set_cons_zero, List.set_cons_succ])
  refine wpAnyH_take (i := 7) (oi := { dst := some 10, op := _, type := _, pos := _, after := _, guard := _ }) (v := ?_) rfl (by kernel_rfl) (by kernel_rfl) (by kernel_rfl) (fun _ _ _ h => h) (Or.inl ⟨by rfl, ?_⟩) (by assumption) ?_
  rotate_left
  · (intro w hSw; (try dsimp only at hSw); go_simp; (try with_reducible rfl))
  (try simp only [Act.put, List.setIfInBounds_toArray, List.set_cons_zero, List.set_cons_succ])
  refine wpAnyH_take (i := 8) (oi := { dst := some 11, op := _, type := _, pos := _, after := _, guard := _ }) (v := ?_) rfl (by kernel_rfl) (by kernel_rfl) (by kernel_rfl) (fun _ _ _ h => h) (Or.inl ⟨by rfl, ?_⟩) (by assumption) ?_
  rotate_left
  · (intro w hSw; (try dsimp only at hSw); go_simp; (try with_reducible rfl))
  (try simp only [Act.put, List.setIfInBounds_toArray, List.set_cons_zero, List.set_cons_succ])
  refine wpAnyH_ready (rs := [4]) (by kernel_rfl) (by simp) ?_
  refine AllReadyH.cons (o := { dst := some 7, op := _, type := _, pos := _, after := _, guard := _ }) rfl (fun K hK => ?_) AllReadyH.nil
  go_simp
  refine (HFq.out _ hE).mono ?_; rintro e w1 ⟨A2, c2, rfl, hf2, hk2, hb1, hown2⟩; clear hown2; have hE := hE.trans hb1; clear hb1
  try go_wp2_with fail
  refine hK.out _ _ ?_ (fun hHeld => ?_)
  · (try dsimp only); exact HC.out _ hE
  clear hK K
  (try simp only [Act.put, List.setIfInBounds_toArray, List.set_cons_zero, List.set_cons_succ])
  refine wpAnyH_ready (rs := [9]) (by kernel_rfl) (by simp) ?_
  refine AllReadyH.cons (o := { dst := some 12, op := _, type := _, pos := _, after := _, guard := _ }) rfl (fun K hK => ?_) AllReadyH.nil
  go_simp
  refine (HFr.out _ hE).mono ?_; rintro e w2 ⟨A3, c3, rfl, hf3, hk3, hb2, hown3⟩; clear hown3; have hE := hE.trans hb2; have hf2 := hf2.ext hb2; clear hb2
  try go_wp2_with fail
  refine hK.out _ _ ?_ (fun hHeld => ?_)
  · (try dsimp only); exact HC.out _ hE
  clear hK K
  (try simp only [Act.put, List.setIfInBounds_toArray, List.set_cons_zero, List.set_cons_succ])
  refine wpAnyH_ready (rs := [10]) (by kernel_rfl) (by simp) ?_
  refine AllReadyH.cons (o := { dst := some 13, op := _, type := _, pos := _, after := _, guard := _ }) rfl (fun K hK => ?_) AllReadyH.nil
  go_simp
  refine (sto_Of me A2 nq c2 rq st A3 nr c3 rp _ hf2 hf3 hnq hnr hszq hszr (HG.out.1.ext hE) hT (HG.out.2.ext hE)).mono ?_; rintro e w3 ⟨rfl, hb3⟩; have hE := hE.trans hb3; clear hb3
  try go_wp2_with fail
  refine hK.out _ _ ?_ (fun hHeld => ?_)
  · (try dsimp only); exact HC.out _ hE
  clear hK K
  (try simp only [Act.put, List.setIfInBounds_toArray, List.set_cons_zero, List.set_cons_succ])
  refine wpAnyH_take (i := 11) (oi := { dst := some 2, op := _, type := _, pos := _, after := _, guard := _ }) (v := ?_) rfl (by kernel_rfl) (by kernel_rfl) (by kernel_rfl) (fun _ _ _ h => h) (Or.inl ⟨by rfl, ?_⟩) (by assumption) ?_
  rotate_left
  · (intro w hSw; (try dsimp only at hSw); go_simp; (try with_reducible rfl))
  (try simp only [Act.put, List.setIfInBounds_toArray, List.set_cons_zero, List.set_cons_succ])
  refine wpAnyH_done (by kernel_rfl) ?_ _
  go_wp2_with fail
  go_ret
  exact ⟨rfl, HE.out.trans hE⟩

def aw15 : List Fd := [(ccN, ⟨#[109, 97, 120, 45, 97, 103, 101, 61, 53]⟩)]
theorem aw15_1 : rsS (isG ⟨#[71, 69, 84]⟩) [] 200 aw15 = 0 := by decide +kernel
theorem aw15_2 : rsS (isG ⟨#[71, 69, 84]⟩) [] 200 [] = 8 := by decide +kernel
theorem aw15_sum : sumF aw15 = 22 := by decide +kernel
theorem rdF_nil (w : World) (c : Option Addr) : RdF w c 0 [] := ⟨rfl, fun h => absurd h (by simp [fldCells])⟩
set_option maxHeartbeats 4000000 in
set_option maxRecDepth 100000 in
theorem law15_awake (w : World) (hg : GlH w) (hgl : Gl w) : Calls Tryz.prog 6 #[] w fun e w' => e = .returned (.bool true) ∧ Ext w w' := by
  have hE0 := (Ext.refl w).alloc (.cells (fldCells aw15).toArray 45)
  have hr : RdF (w.alloc (.cells (fldCells aw15).toArray 45)) (some ⟨w.heap.size, 0, none⟩) 1 aw15 := Rd.lit w _ _ rfl 2 1 rfl
  have HJ1 := Lib.hid (by
    have h := sto_Of ⟨#[71, 69, 84]⟩ none 0 0 [] 200 (some ⟨w.heap.size, 0, none⟩) 1 1 aw15 _ (rdF_nil _ _) hr (by decide) (by decide) (fun _ h => by cases h) ((bsz_of_sumF15 _).mono (by rw [aw15_sum]; decide)) (hg.ext hE0) (by rw [aw15_sum]; decide) (hgl.ext hE0)
    rw [aw15_1] at h; exact h)
  have HJ2 := Lib.hid (fun w' (h : Ext (w.alloc (.cells (fldCells aw15).toArray 45)) w') => by
    have h := sto_Of ⟨#[71, 69, 84]⟩ none 0 0 [] 200 none 0 0 [] w' (rdF_nil _ _) (rdF_nil _ _) (by decide) (by decide) (fun _ h => by cases h) (fun _ h => by cases h) ((hg.ext hE0).ext h) (by decide) ((hgl.ext hE0).ext h)
    rw [aw15_2] at h; exact h)
  have HE := Lib.hid hE0
  clear hr hE0
  go_enter Tryz.func6, Tryz.ntmps6
  go_wp2_with fail
  refine HJ1.out.mono ?_; rintro e w1 ⟨rfl, hb1⟩
  go_wp2_with fail
  refine (HJ2.out _ hb1).mono ?_; rintro e w2 ⟨rfl, hb2⟩
  go_wp2_with fail
  go_ret
  exact ⟨rfl, HE.out.trans (hb1.trans hb2)⟩
end Go.Proofs.YtphgaommokgfcaaGreatDoor

namespace Go.Proofs.YtphgaommokgfcaaGreatDoor
open Go.RowKit

theorem tot15_two (Aq : Option Addr) (nq cq : Nat) (rq : List Fd) (Ar : Option Addr) (nr cr : Nat) (rp : List Fd) : tot15 [((Aq, nq, cq), rq), ((Ar, nr, cr), rp)] = 2 * rq.length + sumF rq + (2 * rp.length + sumF rp) := by
  simp [tot15, one15]
theorem large_two (Aq : Option Addr) (nq cq : Nat) (rq : List Fd) (Ar : Option Addr) (nr cr : Nat) (rp : List Fd) (w : World) (hfq : RdF w Aq nq rq) (hfr : RdF w Ar nr rp) (hbq : rq.length + sumF rq ≤ 1048576) (hbr : rp.length + sumF rp ≤ 1048576) (b : Nat) (hb : b = w.heap.size) :
    Calls Tryz.prog 5 #[.slice (some ⟨b, 0, none⟩) 2 2] (w.alloc (.cells #[.slice Aq nq cq, .slice Ar nr cr] 22)) fun e w' => e = .returned (.bool (decide (4000 < tot15 [((Aq, nq, cq), rq), ((Ar, nr, cr), rp)]))) ∧ Ext w w' := by
  subst hb
  have hE := (Ext.refl w).alloc (.cells #[.slice Aq nq cq, .slice Ar nr cr] 22)
  have hr : Rd (w.alloc (.cells #[.slice Aq nq cq, .slice Ar nr cr] 22)) 1 (some ⟨w.heap.size, 0, none⟩) 2 (([((Aq, nq, cq), rq), ((Ar, nr, cr), rp)] : List Sl).map slV) := Rd.lit w #[.slice Aq nq cq, .slice Ar nr cr] 22 rfl 1 2 rfl
  refine (law15_large _ 2 2 [((Aq, nq, cq), rq), ((Ar, nr, cr), rp)] _ hr ?_ (by rw [tot15_two]; omega) (by decide)).mono ?_
  · intro t ht
    simp only [List.mem_cons, List.not_mem_nil, or_false] at ht
    rcases ht with rfl | rfl
    · exact hfq.ext hE
    · exact hfr.ext hE
  · rintro e w1 ⟨rfl, h⟩
    exact ⟨rfl, hE.trans h⟩
theorem large_no {Aq : Option Addr} {nq cq : Nat} {rq : List Fd} {Ar : Option Addr} {nr cr : Nat} {rp : List Fd} {w : World} (hfq : RdF w Aq nq rq) (hfr : RdF w Ar nr rp) (h : decide (4000 < tot15 [((Aq, nq, cq), rq), ((Ar, nr, cr), rp)]) = false) :
    nq ≤ 2000 ∧ nr ≤ 2000 ∧ sumF rq + 2 * nq ≤ 4000 ∧ sumF rp + 2 * nr ≤ 4000 ∧ Bsz 4000 rq ∧ Bsz 4000 rp := by
  have h1 := of_decide_eq_false h
  rw [tot15_two] at h1
  have h2 := hfq.lenF
  have h3 := hfr.lenF
  exact ⟨by omega, by omega, by omega, by omega, (bsz_of_sumF15 rq).mono (by omega), (bsz_of_sumF15 rp).mono (by omega)⟩
theorem own_made15 {w0 w : World} {e : TypeId} (h : Ext w0 w) : (w.alloc (.cells #[] e)).ownsRow w0.heap.size e 2 (.slice (some ⟨w.heap.size, 0, none⟩) 0 0) 0 [] :=
  own_base (World.ownsRow_made w #[] 0 (Nat.le_refl _) (by simp [maxLen]) rfl) h.size
theorem rd_one15 {w0 w : World} {e : TypeId} {a b : ByteArray} (_ : Ext w0 w) : RdF (w.alloc (.cells #[.string a, .string b] e)) (some ⟨w.heap.size, 0, none⟩) 1 [(a, b)] := Rd.two _ _ _ _ rfl
theorem bsz_add {B : Nat} {fs : List Fd} {a b : ByteArray} (h : Bsz B fs) (ha : a.size ≤ B) (hb : b.size ≤ B) : Bsz B (fs ++ [(a, b)]) := by
  intro f hf
  rcases List.mem_append.1 hf with h1 | h1
  · exact h f h1
  · rw [List.mem_singleton] at h1; subst h1; exact ⟨ha, hb⟩
theorem own_far15 {w : World} {base e k n c : Nat} {A : Option Addr} {xs : List Value} (h : w.ownsRow base e k (.slice A n c) n xs) : ∀ a, A = some a → base ≤ a.block := own_far h
theorem step_appG {P : Program} (w : World) {ops : Array Oper} {o : Oper} {a : Act} {K : Act → World → Prop} {Q : Exit → Act → World → Prop} {E : Prop} (hgd : o.guard = none) (s x : Operand) (t : TypeId)
    (ho : o.op = .call { callee := .builtin .append, args := #[s, x], argTypes := #[t, t] })
    (w0 : World) (e : TypeId) (z : Value) (size bytes : Nat) (ht : P.underlying t = some (.slice e))
    (hinfo : (P.info? e).map (fun i => (i.zero, i.size, i.bytes)) = some (some z, size, bytes)) (hzs : z.cells.size = size) (hsz : 0 < size)
    (v : Value) (n : Nat) (xs : List Value) (hs : a.eval s = v) (hown : w.ownsRow w0.heap.size e size v n xs)
    (A : Option Addr) (m c : Nat) (news : List Value) (hx : a.eval x = .slice A m c) (hr : Rd w size A m news) (h1 : ∀ u ∈ news, u.oneCell' = true)
    (hb : Ext w0 w) (hbytes : (n + m) * bytes ≤ 140737488355328) (hby0 : 0 < bytes)
    (h : ∀ A' c' w', w'.ownsRow w0.heap.size e size (.slice A' (n + m) c') (n + m) (xs ++ news) → Ext w0 w' → n + m ≤ c' → w.grownBy w' v.ownBlock → K (a.put o.dst (.slice A' (n + m) c')) w') :
    if Region.wanted o (yielded ops a.tmps) = true then Oper.wp P o a w K Q else E := by
  rw [if_pos (by simp [Region.wanted, hgd])]
  have h63 : n + m ≤ maxLen := by
    have : (n + m) * 1 ≤ (n + m) * bytes := Nat.mul_le_mul_left _ hby0
    simp only [maxLen]; omega
  obtain ⟨v', w', hrun, h2, h3⟩ := run_app (P := P) w w0.heap.size t o.type e z size bytes ht hinfo hzs hsz v n xs hown A m c news hr h1 h63 hbytes hb.size
  obtain ⟨A', c', rfl, hle⟩ := own_shape h2
  unfold Oper.wp execOp
  simp only [ho, resolve, invoke, builtin, Sem.run_bind, Sem.run_pure, Result.andThen_ok, List.map_toArray, List.map_cons, List.map_nil, hs, hx, hrun]
  exact h A' c' w' h2 (hb.grown h3 (fun k hk => (hown.lt k hk).1)) hle h3
end Go.Proofs.YtphgaommokgfcaaGreatDoor

namespace Go.Proofs.YtphgaommokgfcaaGreatDoor
open Go.RowKit

set_option maxHeartbeats 1000000 in
theorem rd_leap (y : Int) (w : World) (h0 : 0 ≤ y) (h1 : y ≤ 1000000) :
    Calls Tryz.prog 98 #[.int .i64 y] w fun e w' => e = .returned (.int .i64 (lp y)) ∧ w' = w := by
  have Hl := Lib.hid (show lpB y = ((y % 4 == 0 && y % 100 != 0) || y % 400 == 0) from rfl)
  have Hp := Lib.hid (show lp y = if lpB y then 1 else 0 from rfl)
  generalize lp y = p at *
  generalize lpB y = b at *
  cases h4 : (y % 4 == 0) <;> cases h100 : (y % 100 == 0) <;> cases h400 : (y % 400 == 0)
  all_goals
    have hn : (y % 100 != 0) = !(y % 100 == 0) := rfl
    rw [h100] at hn
    rw [h4, hn, h400] at Hl
    simp only [Bool.not_false, Bool.not_true] at hn
    go_enter Tryz.func98, Tryz.ntmps98
    go_wp2_with fail
    go_ret
    exact ⟨ret_i (by rw [Hp.out, Hl.out]; rfl), rfl⟩

set_option maxHeartbeats 1000000 in
theorem rd_length (y : Int) (m : Nat) (w : World) (h0 : 0 ≤ y) (h1 : y ≤ 1000000) (hm1 : m ≤ 1000) :
    Calls Tryz.prog 97 #[.int .i64 y, .int .i64 (m : Nat)] w fun e w' => e = .returned (.int .i64 (ml y m)) ∧ w' = w := by
  have hlp := lp_01 y
  by_cases h2 : m = 2
  · have Hv := Lib.hid (show 28 + lp y = ml y m by rw [h2]; rfl)
    subst h2
    go_enter Tryz.func97, Tryz.ntmps97
    go_wp2_with fail
    refine (rd_leap y _ h0 h1).mono ?_; rintro e w1 ⟨rfl, rfl⟩
    go_wp2_with fail
    go_ret
    exact ⟨ret_i Hv.out, rfl⟩
  · by_cases h4 : m = 4 ∨ m = 6 ∨ m = 9 ∨ m = 11
    · have Hv := Lib.hid (show (30 : Int) = ml y m by unfold ml; rw [if_neg (by omega), if_pos (by omega)])
      generalize ml y m = r at *
      rcases h4 with h | h | h | h
      all_goals
        subst h
        go_enter Tryz.func97, Tryz.ntmps97
        go_wp2_with fail
        go_ret
        exact ⟨ret_i Hv.out, rfl⟩
    · have Hv := Lib.hid (show (31 : Int) = ml y m by unfold ml; rw [if_neg (by omega), if_neg (by omega)])
      generalize ml y m = r at *
      have z2 : ((m : Int) == 2) = false := by rw [beq_eq_false_iff_ne]; omega
      have z4 : ((m : Int) == 4) = false := by rw [beq_eq_false_iff_ne]; omega
      have z6 : ((m : Int) == 6) = false := by rw [beq_eq_false_iff_ne]; omega
      have z9 : ((m : Int) == 9) = false := by rw [beq_eq_false_iff_ne]; omega
      have z11 : ((m : Int) == 11) = false := by rw [beq_eq_false_iff_ne]; omega
      clear h4 h2
      go_enter Tryz.func97, Tryz.ntmps97
      go_wp2_with fail
      go_ret
      exact ⟨ret_i Hv.out, rfl⟩

def day2V (y : Int) (m : Nat) (d : Int) : Value := if okD y m d then .tuple #[.int .i64 (dayN y m d), .bool true] else .tuple #[.int .i64 0, .bool false]
theorem day2V_yes {y : Int} {m : Nat} {d : Int} (h : okD y m d) : day2V y m d = .tuple #[.int .i64 (dayN y m d), .bool true] := if_pos h
theorem day2V_no {y : Int} {m : Nat} {d : Int} (h : ¬ okD y m d) : day2V y m d = .tuple #[.int .i64 0, .bool false] := if_neg h

set_option maxHeartbeats 1000000 in
theorem rd_Day (y : Int) (m : Nat) (d : Int) (w : World) (h0 : -1 ≤ y) (h1 : y ≤ 9999) (hm : m ≤ 13) (hd0 : -1 ≤ d) (hd1 : d ≤ 99) :
    Calls Tryz.prog 76 #[.int .i64 y, .int .i64 (m : Nat), .int .i64 d] w fun e w' => e = .returned (day2V y m d) ∧ w' = w := by
  have Hno := Lib.hid (@day2V_no y m d)
  have Hyes := Lib.hid (@day2V_yes y m d)
  by_cases a1 : y < 1970
  · have Hn := Lib.hid (Hno.out (fun h => by have := h.1; omega))
    go_enter Tryz.func76, Tryz.ntmps76
    go_wp2_with fail
    all_goals (go_ret2; exact ⟨ret_v Hn.out.symm, rfl⟩)
  have hle : ¬ (9999 : Int) < y := by omega
  by_cases a2 : m < 1
  · have Hn := Lib.hid (Hno.out (fun h => by have := h.2.2.1; omega))
    obtain rfl : m = 0 := by omega
    go_enter Tryz.func76, Tryz.ntmps76
    go_wp2_with fail
    all_goals (go_ret2; exact ⟨ret_v Hn.out.symm, rfl⟩)
  have hm1 : ¬ (m : Int) < 1 := by omega
  by_cases a5 : 12 < m
  · have Hn := Lib.hid (Hno.out (fun h => by have := h.2.2.2.1; omega))
    obtain rfl : m = 13 := by omega
    go_enter Tryz.func76, Tryz.ntmps76
    go_wp2_with fail
    all_goals (go_ret2; exact ⟨ret_v Hn.out.symm, rfl⟩)
  have hm2 : ¬ (12 : Int) < (m : Int) := by omega
  by_cases a3 : d < 1
  · have Hn := Lib.hid (Hno.out (fun h => by have := h.2.2.2.2.1; omega))
    go_enter Tryz.func76, Tryz.ntmps76
    go_wp2_with fail
    all_goals (go_ret2; exact ⟨ret_v Hn.out.symm, rfl⟩)
  have hmo := Lib.hid (rd_length y m w (by omega) (by omega) (by omega))
  have hml := ml_bd y m
  by_cases a4 : ml y m < d
  · have Hn := Lib.hid (Hno.out (fun h => by have := h.2.2.2.2.2; omega))
    go_enter Tryz.func76, Tryz.ntmps76
    go_wp2_with fail
    refine hmo.out.mono ?_; rintro e w1 ⟨rfl, rfl⟩
    go_wp2_with fail
    all_goals (go_ret2; exact ⟨ret_v Hn.out.symm, rfl⟩)
  · have Hn := Lib.hid (Hyes.out ⟨by omega, by omega, by omega, by omega, by omega, by omega⟩)
    have hbb := bef_bd (y := y) (by omega) (by omega)
    go_enter Tryz.func76, Tryz.ntmps76
    go_wp2_with fail
    refine hmo.out.mono ?_; rintro e w1 ⟨rfl, rfl⟩
    go_wp2_with fail
    go_loopw [8, 9] (fun n i wr => ∃ z : Int, 1970 ≤ z ∧ z ≤ y ∧ n = .int .i64 (d - 1 + bef z) ∧ i = .int .i64 z ∧ wr = w1) (fun _ i _ => (y - intOf i).toNat)
    case atStart => exact ⟨1970, Int.le_refl _, by omega, by rw [bef_1970, Int.add_zero], rfl, rfl⟩
    case round =>
      obtain ⟨z, hz0, hz1, rfl, rfl, rfl⟩ := hrel
      have hbz := bef_bd (y := z) hz0 (by omega)
      by_cases hlt : z < y
      · have Hbs := Lib.hid (bef_succ z (by omega))
        have hlp := lp_01 z
        go_wp2_with fail
        refine (rd_leap z _ (by omega) (by omega)).mono ?_; rintro e w3 ⟨rfl, rfl⟩
        go_wp2_with fail
        go_roundw
        case rel => exact ⟨z + 1, by omega, by omega, by rw [Hbs.out]; go_num, by go_num, trivial⟩
        case measure => simp [intOf]; omega
      · obtain rfl : z = y := by omega
        go_wp2_with fail
        go_loopw [8, 10] (fun n i wr' => ∃ k : Nat, 1 ≤ k ∧ k ≤ m ∧ n = .int .i64 (d - 1 + bef z + cum z k) ∧ i = .int .i64 (k : Nat) ∧ wr' = wr) (fun _ i _ => m - (intOf i).toNat)
        case atStart => exact ⟨1, Nat.le_refl _, by omega, by rw [cum_1, Int.add_zero], rfl, rfl⟩
        case round =>
          obtain ⟨k, hk1, hk, rfl, rfl, rfl⟩ := hrel
          have hcb := cum_bd z hk1 (by omega)
          by_cases hlt : k < m
          · have Hcs := Lib.hid (cum_succ z k (by omega))
            have hmb := ml_bd z k
            go_wp2_with fail
            refine (rd_length z k _ (by omega) (by omega) (by omega)).mono ?_; rintro e w3 ⟨rfl, rfl⟩
            go_wp2_with fail
            go_roundw
            case rel => exact ⟨k + 1, by omega, by omega, by rw [Hcs.out]; go_num, by go_num, trivial⟩
            case measure => simp [intOf]; omega
          · obtain rfl : k = m := by omega
            have Hz := Lib.hid (show Value.tuple #[.int .i64 (d - 1 + bef z + cum z k), .bool true] = day2V z k d by rw [Hn.out]; unfold dayN; rw [show d - 1 + bef z + cum z k = bef z + cum z k + d - 1 by omega])
            go_wp2_with fail
            go_ret2
            exact ⟨ret_v Hz.out, rfl⟩

def date3V (d : Int) : Value := .tuple #[.int .i64 (yOf d), .int .i64 (mOf d : Nat), .int .i64 (dOf d)]
theorem date3V_of {d y : Int} {m : Nat} {r : Int} (h0 : 0 ≤ d) (h1 : d ≤ 2932896) (hk : okD y m r) (he : dayN y m r = d) : date3V d = .tuple #[.int .i64 y, .int .i64 (m : Nat), .int .i64 r] := by
  obtain ⟨a, b⟩ := date_ok h0 h1
  obtain ⟨e1, e2, e3⟩ := day_one hk a (he.trans b.symm)
  unfold date3V
  rw [← e1, ← e2, ← e3]

set_option maxHeartbeats 1000000 in
theorem rd_Date (d : Int) (w : World) (h0 : 0 ≤ d) (h1 : d ≤ 2932896) :
    Calls Tryz.prog 99 #[.int .i64 d] w fun e w' => e = .returned (date3V d) ∧ w' = w := by
  have Hd := Lib.hid (fun y m r => @date3V_of d y m r)
  go_enter Tryz.func99, Tryz.ntmps99
  go_wp2_with fail
  go_loopw [0, 5] (fun r y wr => ∃ z : Int, 1970 ≤ z ∧ z ≤ 9999 ∧ 0 ≤ d - bef z ∧ r = .int .i64 (d - bef z) ∧ y = .int .i64 z ∧ wr = w) (fun _ y _ => (9999 - intOf y).toNat)
  case atStart => exact ⟨1970, by omega, by omega, by rw [bef_1970]; omega, by rw [bef_1970, Int.sub_zero], rfl, rfl⟩
  case round =>
    obtain ⟨z, hz0, hz1, hzb, rfl, rfl, rfl⟩ := hrel
    have hbz := bef_bd hz0 (by omega)
    have Hbs := Lib.hid (bef_succ z (by omega))
    have hlp := lp_01 z
    by_cases hc : 365 + lp z ≤ d - bef z
    · have hz9 : z < 9999 := by
        by_cases hz9 : z < 9999
        · exact hz9
        · obtain rfl : z = 9999 := by omega
          have a := Hbs.out
          have b : bef (9999 + 1) = 2932897 := bef_10000
          omega
      go_wp2_with fail
      refine (rd_leap z _ (by omega) (by omega)).mono ?_; rintro e w1 ⟨rfl, rfl⟩
      go_wp2_with fail
      refine (rd_leap z _ (by omega) (by omega)).mono ?_; rintro e w2 ⟨rfl, rfl⟩
      go_wp2_with fail
      go_roundw
      case rel => exact ⟨z + 1, by omega, by omega, by rw [Hbs.out]; omega, by rw [Hbs.out]; go_num, by go_num, trivial⟩
      case measure => simp [intOf]; omega
    · go_wp2_with fail
      refine (rd_leap z _ (by omega) (by omega)).mono ?_; rintro e w1 ⟨rfl, rfl⟩
      go_wp2_with fail
      go_loopw [0, 6] (fun r m wr' => ∃ k : Nat, 1 ≤ k ∧ k ≤ 12 ∧ r = .int .i64 (d - bef z - cum z k) ∧ 0 ≤ d - bef z - cum z k ∧ m = .int .i64 (k : Nat) ∧ wr' = w1) (fun _ m _ => 12 - (intOf m).toNat)
      case atStart => exact ⟨1, Nat.le_refl _, by omega, by rw [cum_1, Int.sub_zero], by rw [cum_1]; omega, rfl, rfl⟩
      case round =>
        obtain ⟨k, hk1, hk, rfl, hr0, rfl, rfl⟩ := hrel
        have hcb := cum_bd z hk1 (by omega)
        have hmb := ml_bd z k
        have Hcs := Lib.hid (cum_succ z k (by omega))
        by_cases hge : ml z k ≤ d - bef z - cum z k
        · have hk12 : k < 12 := by
            by_cases h12 : k < 12
            · exact h12
            · obtain rfl : k = 12 := by omega
              have a := Hcs.out
              have b := cum_13 z
              have e : cum z (12 + 1) = cum z 13 := rfl
              omega
          go_wp2_with fail
          refine (rd_length z k _ (by omega) (by omega) (by omega)).mono ?_; rintro e w3 ⟨rfl, rfl⟩
          go_wp2_with fail
          refine (rd_length z k _ (by omega) (by omega) (by omega)).mono ?_; rintro e w4 ⟨rfl, rfl⟩
          go_wp2_with fail
          go_roundw
          case rel => exact ⟨k + 1, by omega, by omega, by rw [Hcs.out]; go_num, by rw [Hcs.out]; omega, by go_num, trivial⟩
          case measure => simp [intOf]; omega
        · have He := Lib.hid (Hd.out z k (d - bef z - cum z k + 1) h0 h1 ⟨hz0, hz1, hk1, hk, by omega, by omega⟩ (by unfold dayN; omega))
          go_wp2_with fail
          refine (rd_length z k _ (by omega) (by omega) (by omega)).mono ?_; rintro e w3 ⟨rfl, rfl⟩
          go_wp2_with fail
          go_ret3
          exact ⟨ret_v He.out.symm, rfl⟩

set_option maxHeartbeats 1000000 in
theorem rd_Weekday (d : Int) (w : World) (h0 : 0 ≤ d) (h1 : d ≤ 1000000000) :
    Calls Tryz.prog 100 #[.int .i64 d] w fun e w' => e = .returned (.int .i64 (wkN d)) ∧ w' = w := by
  go_enter Tryz.func100, Tryz.ntmps100
  go_wp2_with fail
  go_ret
  exact ⟨ret_i (by unfold wkN; omega), rfl⟩
end Go.Proofs.YtphgaommokgfcaaGreatDoor

namespace Go.Proofs.YtphgaommokgfcaaGreatDoor
open Go.RowKit

def ndg (c : UInt8) : Bool := !dgB c
def numF (n : Int) : List UInt8 → Int
  | [] => n
  | c :: l => numF (10 * n + ((c.toNat : Int) - 48)) l
theorem numF_app : ∀ (l : List UInt8) (n : Int) (c : UInt8), numF n (l ++ [c]) = 10 * numF n l + ((c.toNat : Int) - 48)
  | [], _, _ => rfl
  | _ :: l, _, c => numF_app l _ c
theorem dgB_bd {c : UInt8} (h : dgB c = true) : 48 ≤ (c.toNat : Int) ∧ (c.toNat : Int) ≤ 57 := by
  simp only [dgB, Bool.not_eq_true', Bool.or_eq_false_iff, decide_eq_false_iff_not] at h
  omega
theorem numF_bd : ∀ (l : List UInt8) (n : Int), 0 ≤ n → l.any ndg = false → 0 ≤ numF n l ∧ numF n l < (n + 1) * 10 ^ l.length
  | [], n, h, _ => by simp [numF]; omega
  | c :: l, n, h, ha => by
    simp only [List.any_cons, Bool.or_eq_false_iff, ndg, Bool.not_eq_false'] at ha
    have hc := dgB_bd ha.1
    have := numF_bd l (10 * n + ((c.toNat : Int) - 48)) (by omega) ha.2
    refine ⟨this.1, Int.lt_of_lt_of_le this.2 ?_⟩
    rw [List.length_cons, Int.pow_succ, Int.mul_comm (10 ^ _) 10, ← Int.mul_assoc]
    exact Int.mul_le_mul_of_nonneg_right (by omega) (Int.pow_nonneg (by decide))
def numS (s : ByteArray) : Int := if s.data.toList.any ndg then -1 else numF 0 s.data.toList
theorem tk_step (s : ByteArray) {k : Nat} (h : k < s.size) : s.data.toList.take (k + 1) = s.data.toList.take k ++ [s[k]] := by
  rw [List.take_add_one, List.getElem?_eq_getElem (by simpa using h)]
  rfl
theorem ndg_any {s : ByteArray} {k : Nat} (h : k < s.size) (h2 : ndg s[k] = true) : s.data.toList.any ndg = true := by
  have h2 : ndg s.data[k] = true := h2
  rw [List.any_eq_true]
  exact ⟨s.data[k], by simp, h2⟩
set_option maxHeartbeats 1000000 in
theorem rd_number (s : ByteArray) (w : World) (hs : s.size ≤ 4) :
    Calls Tryz.prog 77 #[.string s] w fun e w' => e = .returned (.int .i64 (numS s)) ∧ w' = w := by
  have Hn0 := Lib.hid (show s.data.toList.any ndg = true → (-1 : Int) = numS s from fun h => by unfold numS; rw [if_pos h])
  have Hn1 := Lib.hid (show s.data.toList.any ndg = false → numF 0 s.data.toList = numS s from fun h => by unfold numS; rw [if_neg (by rw [h]; decide)])
  go_enter Tryz.func77, Tryz.ntmps77
  go_wp2_with fail
  go_loopw [3, 7] (fun n i wr => ∃ k : Nat, k ≤ s.size ∧ n = .int .i64 (numF 0 (s.data.toList.take k)) ∧ (s.data.toList.take k).any ndg = false ∧ i = .int .i64 (k : Nat) ∧ wr = w) (fun _ i _ => s.size - (intOf i).toNat)
  case atStart => exact ⟨0, by omega, rfl, rfl, rfl, rfl⟩
  case round =>
    obtain ⟨k, hk, hn, hall, rfl, rfl⟩ := hrel
    by_cases hlt : k < s.size
    · subst hn
      have hb := numF_bd _ 0 (by omega) hall
      have hp : (10 : Int) ^ (s.data.toList.take k).length ≤ 1000 := by
        rw [List.length_take, Nat.min_eq_left (by simp; omega)]
        have : k = 0 ∨ k = 1 ∨ k = 2 ∨ k = 3 := by omega
        rcases this with h | h | h | h <;> subst h <;> decide
      have hb0 := hb.1
      have hb1 : numF 0 (s.data.toList.take k) ≤ 1000 := by omega
      have Hst := Lib.hid (show ndg s[k] = false → (s.data.toList.take (k + 1)).any ndg = false ∧ numF 0 (s.data.toList.take (k + 1)) = 10 * numF 0 (s.data.toList.take k) + ((s[k].toNat : Int) - 48) from fun h => by
        rw [tk_step s hlt, numF_app, List.any_append, hall]
        exact ⟨by simpa using h, rfl⟩)
      have Hyes := Lib.hid (ndg_any hlt)
      clear hall hb hp
      generalize numF 0 (s.data.toList.take k) = n at *
      have hub := UInt8.toNat_lt s[k]
      by_cases a0 : (s[k].toNat : Int) < 48
      · have Hr := Lib.hid (Hn0.out (Hyes.out (by unfold ndg; rw [dgB_no (Or.inl a0)]; rfl)))
        go_wp2_with fail
        go_ret
        exact ⟨ret_i Hr.out, rfl⟩
      · by_cases a1 : 57 < (s[k].toNat : Int)
        · have Hr := Lib.hid (Hn0.out (Hyes.out (by unfold ndg; rw [dgB_no (Or.inr a1)]; rfl)))
          go_wp2_with fail
          go_ret
          exact ⟨ret_i Hr.out, rfl⟩
        · have Hr := Lib.hid (Hst.out (by unfold ndg; rw [dgB_yes a0 a1]; rfl))
          go_wp2_with fail
          go_roundw
          case rel => exact ⟨k + 1, by omega, by rw [Hr.out.2], Hr.out.1, by go_num, trivial⟩
          case measure => simp [intOf]; omega
    · obtain rfl : k = s.size := by omega
      rw [List.take_of_length_le (by simp)] at hall hn
      rw [Hn1.out hall] at hn
      subst hn
      clear hall
      go_wp2_with fail
      go_ret
      exact ⟨rfl, rfl⟩

def ndK (n : Int) : Nat → Int
  | 0 => n
  | k + 1 => ndK n k / 10
def ouK (n : Int) : Nat → ByteArray
  | 0 => ⟨#[]⟩
  | k + 1 => ⟨#[digU (ndK n k % 10)]⟩ ++ ouK n k
theorem ndK_bd {n : Int} (h0 : 0 ≤ n) (h1 : n ≤ 9999) : ∀ k, 0 ≤ ndK n k ∧ ndK n k ≤ 9999
  | 0 => ⟨h0, h1⟩
  | k + 1 => by
    have := ndK_bd h0 h1 k
    unfold ndK
    omega
theorem ouK_size (n : Int) : ∀ k, (ouK n k).size = k
  | 0 => rfl
  | k + 1 => by
    unfold ouK
    rw [ByteArray.size_append, ouK_size n k]
    show 1 + k = k + 1
    omega
theorem ouK_2 {n : Int} (h0 : 0 ≤ n) (h1 : n ≤ 99) : ouK n 2 = twoS n := by
  have h : n / 10 % 10 = n / 10 := by omega
  have e : ouK n 2 = ⟨#[digU (n / 10 % 10), digU (n % 10)]⟩ := rfl
  rw [e, h]
  rfl
theorem ouK_4 {n : Int} (h0 : 0 ≤ n) (h1 : n ≤ 9999) : ouK n 4 = twoS (n / 100) ++ twoS (n % 100) := by
  have e : ouK n 4 = ⟨#[digU (n / 10 / 10 / 10 % 10), digU (n / 10 / 10 % 10), digU (n / 10 % 10), digU (n % 10)]⟩ := rfl
  have f : twoS (n / 100) ++ twoS (n % 100) = ⟨#[digU (n / 100 / 10), digU (n / 100 % 10), digU (n % 100 / 10), digU (n % 100 % 10)]⟩ := rfl
  rw [e, f, show n / 10 / 10 / 10 % 10 = n / 100 / 10 by omega, show n / 10 / 10 % 10 = n / 100 % 10 by omega, show n / 10 % 10 = n % 100 / 10 by omega, show n % 10 = n % 100 % 10 by omega]
theorem conv_oneR (a : Int) (w : World) : (convert 102 9 (.slice (some ⟨w.heap.size, 0, none⟩) 1 1)).run Tryz.prog (w.alloc (.cells #[.int .u8 a] 5)) =
    .ok (.string ⟨#[UInt8.ofNat a.toNat]⟩) (w.alloc (.cells #[.int .u8 a] 5)) :=
  run_convert_bytes_arg (P := Tryz.prog) _ 102 5 Tryz.underlying102 Tryz.underlying5 w.heap.size 0 1 1 [a] rfl
    (fun i hi => by
      rw [World.cell?_alloc_mark]
      have : i = 0 := by omega
      subst this; rfl) 9 Tryz.underlying9
set_option maxHeartbeats 1000000 in
theorem rd_digits (n : Int) (m : Nat) (w : World) (h0 : 0 ≤ n) (h1 : n ≤ 9999) (hm : m ≤ 4) :
    Calls Tryz.prog 101 #[.int .i64 n, .int .i64 (m : Nat)] w fun e w' => e = .returned (.string (ouK n m)) ∧ Ext w w' := by
  have hcv := conv_oneR
  go_enter Tryz.func101, Tryz.ntmps101
  go_wp2_with fail
  go_loopw [0, 5, 7] (fun r o i wr => ∃ k : Nat, k ≤ m ∧ r = .int .i64 (ndK n k) ∧ o = .string (ouK n k) ∧ i = .int .i64 (k : Nat) ∧ Ext w wr) (fun _ _ i _ => m - (intOf i).toNat)
  case atStart => exact ⟨0, by omega, rfl, rfl, rfl, Ext.refl _⟩
  case round =>
    obtain ⟨k, hk, rfl, rfl, rfl, hE⟩ := hrel
    by_cases hlt : k < m
    · have hb := ndK_bd h0 h1 k
      obtain ⟨hs, -⟩ := sum_s ⟨#[digU (ndK n k % 10)]⟩ (ouK n k) (n := 1) rfl (ouK_size n k) (by omega)
      have Hd := Lib.hid (show ndK n (k + 1) = ndK n k / 10 from rfl)
      have Ho := Lib.hid (show ouK n (k + 1) = ⟨#[digU (ndK n k % 10)]⟩ ++ ouK n k from rfl)
      generalize ndK n k = r at *
      generalize ouK n k = o at *
      have hdu : UInt8.ofNat (48 + r % 10).toNat = digU (r % 10) := rfl
      go_wp2_with fail
      go_roundw
      case rel => exact ⟨k + 1, by omega, by rw [Hd.out], by rw [Ho.out], by go_num, hE.alloc _⟩
      case measure => simp [intOf]; omega
    · obtain rfl : k = m := by omega
      go_wp2_with fail
      go_ret
      exact ⟨rfl, hE⟩
end Go.Proofs.YtphgaommokgfcaaGreatDoor

namespace Go.Proofs.YtphgaommokgfcaaGreatDoor
open Go.RowKit

def wdT : ByteArray := ⟨#[83, 117, 110, 77, 111, 110, 84, 117, 101, 87, 101, 100, 84, 104, 117, 70, 114, 105, 83, 97, 116]⟩
def moT : ByteArray := ⟨#[74, 97, 110, 70, 101, 98, 77, 97, 114, 65, 112, 114, 77, 97, 121, 74, 117, 110, 74, 117, 108, 65, 117, 103, 83, 101, 112, 79, 99, 116, 78, 111, 118, 68, 101, 99]⟩
theorem wdT_at (d : Int) : wdT.extract (3 * wkN d).toNat (3 * wkN d + 3).toNat = wdS d := by
  have hb := wkN_bd d
  unfold wdS
  generalize wkN d = k at *
  have : k = 0 ∨ k = 1 ∨ k = 2 ∨ k = 3 ∨ k = 4 ∨ k = 5 ∨ k = 6 := by omega
  rcases this with h | h | h | h | h | h | h <;> subst h <;> decide
theorem moT_at {m : Nat} (h1 : 1 ≤ m) (h2 : m ≤ 12) : moT.extract (3 * (m : Int) - 3).toNat (3 * (m : Int)).toNat = moS m := by
  have : m = 1 ∨ m = 2 ∨ m = 3 ∨ m = 4 ∨ m = 5 ∨ m = 6 ∨ m = 7 ∨ m = 8 ∨ m = 9 ∨ m = 10 ∨ m = 11 ∨ m = 12 := by omega
  rcases this with h | h | h | h | h | h | h | h | h | h | h | h <;> subst h <;> decide
theorem dig_at (n m : Int) (w : World) (h : n = m) (h0 : 0 ≤ m) (h1 : m ≤ 99) :
    Calls Tryz.prog 101 #[.int .i64 n, .int .i64 2] w fun e w' => e = .returned (.string (twoS m)) ∧ Ext w w' := by
  subst h
  have := rd_digits n 2 w h0 (by omega) (by decide)
  rwa [ouK_2 h0 h1] at this

set_option maxHeartbeats 4000000 in
set_option maxRecDepth 100000 in
theorem rd_Format (n : Int) (w : World) (h0 : 0 ≤ n) (h1 : n ≤ 253402300799) :
    Calls Tryz.prog 78 #[.int .i64 n] w fun e w' => e = .returned (.string (fmtS n)) ∧ Ext w w' := by
  have hd0 : 0 ≤ n / 86400 := by omega
  have hd1 : n / 86400 ≤ 2932896 := by omega
  obtain ⟨⟨y0, y1, m0, m1, c0, c1⟩, -⟩ := date_ok hd0 hd1
  have hml := ml_bd (yOf (n / 86400)) (mOf (n / 86400))
  have hwk := wkN_bd (n / 86400)
  have hxw := wdT_at (n / 86400)
  have hxm := moT_at m0 m1
  have hy4 := fun w => rd_digits (yOf (n / 86400)) 4 w (by omega) (by omega) (by decide)
  rw [ouK_4 (by omega) (by omega)] at hy4
  obtain ⟨F, hF⟩ : ∃ F, fmtS n = F := ⟨_, rfl⟩
  rw [hF]
  unfold fmtS catS at hF
  have hws : (wdS (n / 86400)).size = 3 := wdS_size
  have hms := moS_size m0 m1
  have hDate := rd_Date (n / 86400) w hd0 hd1
  have hWk := rd_Weekday (n / 86400)
  unfold date3V at hDate
  generalize hdd : n / 86400 = dd at *
  generalize hrr : n % 86400 = rr at *
  have hr0 : 0 ≤ rr := by omega
  have hr1 : rr < 86400 := by omega
  generalize mOf dd = mm at *
  generalize yOf dd = yy at *
  generalize dOf dd = ee at *
  generalize wdS dd = ws at *
  generalize moS mm = ms at *
  generalize wkN dd = wk at *
  have hf4 : (twoS (yy / 100) ++ twoS (yy % 100)).size = 4 := rfl
  have Hf := Lib.hid (show ws ++ ⟨#[44, 32]⟩ ++ twoS ee ++ ⟨#[32]⟩ ++ ms ++ ⟨#[32]⟩ ++ (twoS (yy / 100) ++ twoS (yy % 100)) ++ ⟨#[32]⟩ ++ (twoS (rr / 3600) ++ ⟨#[58]⟩ ++ twoS (rr / 60 % 60) ++ ⟨#[58]⟩ ++ twoS (rr % 60)) ++ ⟨#[32, 71, 77, 84]⟩ = F by
    rw [← hF]; simp only [ByteArray.append_assoc])
  clear hF
  generalize twoS (yy / 100) ++ twoS (yy % 100) = y4 at *
  obtain ⟨r1, x1⟩ := sum_s (twoS (rr / 3600)) ⟨#[58]⟩ (twoS_size _) rfl (by decide)
  obtain ⟨r2, x2⟩ := sum_s _ (twoS (rr / 60 % 60)) x1 (twoS_size _) (by decide)
  obtain ⟨r3, x3⟩ := sum_s _ ⟨#[58]⟩ x2 rfl (by decide)
  obtain ⟨r4, x4⟩ := sum_s _ (twoS (rr % 60)) x3 (twoS_size _) (by decide)
  obtain ⟨s1, z1⟩ := sum_s ws ⟨#[44, 32]⟩ hws rfl (by decide)
  obtain ⟨s2, z2⟩ := sum_s _ (twoS ee) z1 (twoS_size _) (by decide)
  obtain ⟨s3, z3⟩ := sum_s _ ⟨#[32]⟩ z2 rfl (by decide)
  obtain ⟨s4, z4⟩ := sum_s _ ms z3 hms (by decide)
  obtain ⟨s5, z5⟩ := sum_s _ ⟨#[32]⟩ z4 rfl (by decide)
  obtain ⟨s6, z6⟩ := sum_s _ y4 z5 hf4 (by decide)
  obtain ⟨s7, z7⟩ := sum_s _ ⟨#[32]⟩ z6 rfl (by decide)
  obtain ⟨s8, z8⟩ := sum_s _ _ z7 x4 (by decide)
  obtain ⟨s9, z9⟩ := sum_s _ ⟨#[32, 71, 77, 84]⟩ z8 rfl (by decide)
  clear x1 x2 x3 x4 z1 z2 z3 z4 z5 z6 z7 z8 z9
  have Hw := Lib.hid hWk; clear hWk
  have HD := Lib.hid hDate; clear hDate
  have HY := Lib.hid hy4; clear hy4
  have q3 : rr.tdiv 3600 = rr / 3600 := Int.tdiv_eq_ediv_of_nonneg (by omega)
  have q4 : rr.tdiv 60 = rr / 60 := Int.tdiv_eq_ediv_of_nonneg (by omega)
  have q5 : (rr / 60).tmod 60 = rr / 60 % 60 := Int.tmod_eq_emod_of_nonneg (by omega)
  have q6 : rr.tmod 60 = rr % 60 := Int.tmod_eq_emod_of_nonneg (by omega)
  have k3 : IntKind.i64.wrap (rr / 3600) = rr / 3600 := IntWalk.i64_in _ (by omega)
  have k4 : IntKind.i64.wrap (rr / 60) = rr / 60 := IntWalk.i64_in _ (by omega)
  have b3 : 0 ≤ rr / 3600 ∧ rr / 3600 ≤ 99 := by omega
  have b4 : 0 ≤ rr / 60 % 60 ∧ rr / 60 % 60 ≤ 99 := by omega
  have b5 : 0 ≤ rr % 60 ∧ rr % 60 ≤ 99 := by omega
  have b0 : 0 ≤ ee ∧ ee ≤ 99 := by omega
  go_enter Tryz.func78, Tryz.ntmps78
  go_wp2_with fail
  refine HD.out.mono ?_; rintro e w1 ⟨rfl, rfl⟩
  go_wp2_with fail
  refine (Hw.out _ hd0 (by omega)).mono ?_; rintro e w2 ⟨rfl, rfl⟩
  go_wp2_with fail
  refine (dig_at _ (rr / 3600) _ (by first | rfl | exact k3 | exact q3 | (rw [q3]; exact k3)) b3.1 b3.2).mono ?_; rintro e w3 ⟨rfl, hb3⟩
  go_wp2_with fail
  refine (dig_at _ (rr / 60 % 60) _ (by first | rfl | (rw [k4]; exact q5) | exact q5) b4.1 b4.2).mono ?_; rintro e w4 ⟨rfl, hb4⟩
  go_wp2_with fail
  refine (dig_at _ (rr % 60) _ (by first | rfl | exact q6) b5.1 b5.2).mono ?_; rintro e w5 ⟨rfl, hb5⟩
  go_wp2_with fail
  have hE := ((hb3.trans hb4).trans hb5).drew
  have p1 : IntKind.i64.wrap (3 * wk) = 3 * wk := IntWalk.i64_in _ (by omega)
  have p2 : IntKind.i64.wrap (3 * wk + 3) = 3 * wk + 3 := IntWalk.i64_in _ (by omega)
  have p3 : IntKind.i64.wrap (3 * (mm : Int)) = 3 * (mm : Int) := IntWalk.i64_in _ (by omega)
  have p4 : IntKind.i64.wrap (3 * (mm : Int) - 3) = 3 * (mm : Int) - 3 := IntWalk.i64_in _ (by omega)
  have o1 : (0 : Int) ≤ 3 * wk := by omega
  have o2 : (0 : Int) ≤ 3 * wk + 3 := by omega
  have o3 : 3 * wk ≤ 3 * wk + 3 := by omega
  have o4 : 3 * wk + 3 ≤ 21 := by omega
  have o5 : (0 : Int) ≤ 3 * (mm : Int) - 3 := by omega
  have o6 : (0 : Int) ≤ 3 * (mm : Int) := by omega
  have o7 : 3 * (mm : Int) - 3 ≤ 3 * (mm : Int) := by omega
  have o8 : 3 * (mm : Int) ≤ 36 := by omega
  unfold wdT at hxw
  unfold moT at hxm
  have o9 : (3 : Int) ≤ 3 * (mm : Int) := by omega
  have o10 : (1 : Int) ≤ (mm : Int) := by omega
  have o11 : (mm : Int) ≤ 12 := by omega
  refine wp_region_held_drew (S := (fun _ => True)) (by kernel_rfl) ?_ (fun hHeld => ?_)
  · (try dsimp only); (try trivial)
  refine wpAnyH_take (i := 0) (oi := { dst := some 36, op := _, type := _, pos := _, after := _, guard := _ }) (v := ?_) rfl (by kernel_rfl) (by kernel_rfl) (by kernel_rfl) (fun _ _ _ h => h) (Or.inl ⟨by rfl, ?_⟩) (by assumption) ?_
  rotate_left
  · (intro w hSw; (try dsimp only at hSw); go_simp; (try with_reducible rfl))
  (try simp only [Act.put, List.setIfInBounds_toArray, List.set_cons_zero, List.set_cons_succ])
  refine wpAnyH_take (i := 1) (oi := { dst := some 37, op := _, type := _, pos := _, after := _, guard := _ }) (v := ?_) rfl (by kernel_rfl) (by kernel_rfl) (by kernel_rfl) (fun _ _ _ h => h) (Or.inl ⟨by rfl, ?_⟩) (by assumption) ?_
  rotate_left
  · (intro w hSw; (try dsimp only at hSw); go_simp; (try with_reducible rfl))
  (try simp only [Act.put, List.setIfInBounds_toArray, List.set_cons_zero, List.set_cons_succ])
  refine wpAnyH_take (i := 2) (oi := { dst := some 38, op := _, type := _, pos := _, after := _, guard := _ }) (v := ?_) rfl (by kernel_rfl) (by kernel_rfl) (by kernel_rfl) (fun _ _ _ h => h) (Or.inl ⟨by rfl, ?_⟩) (by assumption) ?_
  rotate_left
  · (intro w hSw; (try dsimp only at hSw); go_simp; (try with_reducible rfl))
  (try simp only [Act.put, List.setIfInBounds_toArray, List.set_cons_zero, List.set_cons_succ])
  refine wpAnyH_take (i := 3) (oi := { dst := some 39, op := _, type := _, pos := _, after := _, guard := _ }) (v := ?_) rfl (by kernel_rfl) (by kernel_rfl) (by kernel_rfl) (fun _ _ _ h => h) (Or.inl ⟨by rfl, ?_⟩) (by assumption) ?_
  rotate_left
  · (intro w hSw; (try dsimp only at hSw); go_simp; (try with_reducible rfl))
  (try simp only [Act.put, List.setIfInBounds_toArray, List.set_cons_zero, List.set_cons_succ])
  refine wpAnyH_take (i := 4) (oi := { dst := some 40, op := _, type := _, pos := _, after := _, guard := _ }) (v := ?_) rfl (by kernel_rfl) (by kernel_rfl) (by kernel_rfl) (fun _ _ _ h => h) (Or.inl ⟨by rfl, ?_⟩) (by assumption) ?_
  rotate_left
  · (intro w hSw; (try dsimp only at hSw); go_simp; (try with_reducible rfl))
  (try simp only [Act.put, List.setIfInBounds_toArray, List.set_cons_zero, List.set_cons_succ])
  refine wpAnyH_take (i := 5) (oi := { dst := some 41, op := _, type := _, pos := _, after := _, guard := _ }) (v := ?_) rfl (by kernel_rfl) (by kernel_rfl) (by kernel_rfl) (fun _ _ _ h => h) (Or.inl ⟨by rfl, ?_⟩) (by assumption) ?_
  rotate_left
  · (intro w hSw; (try dsimp only at hSw); go_simp; (try with_reducible rfl))
  (try simp only [Act.put, List.setIfInBounds_toArray, List.set_cons_zero, List.set_cons_succ])
  refine wpAnyH_take (i := 6) (oi := { dst := some 42, op := _, type := _, pos := _, after := _, guard := _ }) (v := ?_) rfl (by kernel_rfl) (by kernel_rfl) (by kernel_rfl) (fun _ _ _ h => h) (Or.inl ⟨by rfl, ?_⟩) (by assumption) ?_
  rotate_left
  · (intro w hSw; (try dsimp only at hSw); go_simp; (try with_reducible rfl))
  (try simp only [Act.put, List.setIfInBounds_toArray, List.set_cons_zero, List.set_cons_succ])
  refine wpAnyH_take (i := 7) (oi := { dst := some 43, op := _, type := _, pos := _, after := _, guard := _ }) (v := ?_) rfl (by kernel_rfl) (by kernel_rfl) (by kernel_rfl) (fun _ _ _ h => h) (Or.inl ⟨by rfl, ?_⟩) (by assumption) ?_
  rotate_left
  · (intro w hSw; (try dsimp only at hSw); go_simp; (try with_reducible rfl))
  (try simp only [Act.put, List.setIfInBounds_toArray, List.set_cons_zero, List.set_cons_succ])
  refine wpAnyH_take (i := 11) (oi := { dst := some 47, op := _, type := _, pos := _, after := _, guard := _ }) (v := ?_) rfl (by kernel_rfl) (by kernel_rfl) (by kernel_rfl) (fun _ _ _ h => h) (Or.inl ⟨by rfl, ?_⟩) (by assumption) ?_
  rotate_left
  · (intro w hSw; (try dsimp only at hSw); go_simp; (try with_reducible rfl))
  (try simp only [Act.put, List.setIfInBounds_toArray, List.set_cons_zero, List.set_cons_succ])
  refine wpAnyH_take (i := 12) (oi := { dst := some 48, op := _, type := _, pos := _, after := _, guard := _ }) (v := ?_) rfl (by kernel_rfl) (by kernel_rfl) (by kernel_rfl) (fun _ _ _ h => h) (Or.inl ⟨by rfl, ?_⟩) (by assumption) ?_
  rotate_left
  · (intro w hSw; (try dsimp only at hSw); go_simp; (try with_reducible rfl))
  (try simp only [Act.put, List.setIfInBounds_toArray, List.set_cons_zero, List.set_cons_succ])
  refine wpAnyH_take (i := 13) (oi := { dst := some 49, op := _, type := _, pos := _, after := _, guard := _ }) (v := ?_) rfl (by kernel_rfl) (by kernel_rfl) (by kernel_rfl) (fun _ _ _ h => h) (Or.inl ⟨by rfl, ?_⟩) (by assumption) ?_
  rotate_left
  · (intro w hSw; (try dsimp only at hSw); go_simp; (try with_reducible rfl))
  (try simp only [Act.put, List.setIfInBounds_toArray, List.set_cons_zero, List.set_cons_succ])
  refine wpAnyH_take (i := 14) (oi := { dst := some 50, op := _, type := _, pos := _, after := _, guard := _ }) (v := ?_) rfl (by kernel_rfl) (by kernel_rfl) (by kernel_rfl) (fun _ _ _ h => h) (Or.inl ⟨by rfl, ?_⟩) (by assumption) ?_
  rotate_left
  · (intro w hSw; (try dsimp only at hSw); go_simp; (try with_reducible rfl))
  (try simp only [Act.put, List.setIfInBounds_toArray, List.set_cons_zero, List.set_cons_succ])
  refine wpAnyH_take (i := 15) (oi := { dst := some 51, op := _, type := _, pos := _, after := _, guard := _ }) (v := ?_) rfl (by kernel_rfl) (by kernel_rfl) (by kernel_rfl) (fun _ _ _ h => h) (Or.inl ⟨by rfl, ?_⟩) (by assumption) ?_
  rotate_left
  · (intro w hSw; (try dsimp only at hSw); go_simp; (try with_reducible rfl))
  (try simp only [Act.put, List.setIfInBounds_toArray, List.set_cons_zero, List.set_cons_succ])
  refine wpAnyH_take (i := 16) (oi := { dst := some 52, op := _, type := _, pos := _, after := _, guard := _ }) (v := ?_) rfl (by kernel_rfl) (by kernel_rfl) (by kernel_rfl) (fun _ _ _ h => h) (Or.inl ⟨by rfl, ?_⟩) (by assumption) ?_
  rotate_left
  · (intro w hSw; (try dsimp only at hSw); go_simp; (try with_reducible rfl))
  (try simp only [Act.put, List.setIfInBounds_toArray, List.set_cons_zero, List.set_cons_succ])
  refine wpAnyH_take (i := 19) (oi := { dst := some 55, op := _, type := _, pos := _, after := _, guard := _ }) (v := ?_) rfl (by kernel_rfl) (by kernel_rfl) (by kernel_rfl) (fun _ _ _ h => h) (Or.inl ⟨by rfl, ?_⟩) (by assumption) ?_
  rotate_left
  · (intro w hSw; (try dsimp only at hSw); go_simp; (try with_reducible rfl))
  (try simp only [Act.put, List.setIfInBounds_toArray, List.set_cons_zero, List.set_cons_succ])
  refine wpAnyH_take (i := 23) (oi := { dst := some 59, op := _, type := _, pos := _, after := _, guard := _ }) (v := ?_) rfl (by kernel_rfl) (by kernel_rfl) (by kernel_rfl) (fun _ _ _ h => h) (Or.inl ⟨by rfl, ?_⟩) (by assumption) ?_
  rotate_left
  · (intro w hSw; (try dsimp only at hSw); go_simp; (try with_reducible rfl))
  (try simp only [Act.put, List.setIfInBounds_toArray, List.set_cons_zero, List.set_cons_succ])
  refine wpAnyH_ready (rs := [8]) (by kernel_rfl) (by simp) ?_
  refine AllReadyH.cons (o := { dst := some 44, op := _, type := _, pos := _, after := _, guard := _ }) rfl (fun K hK => ?_) AllReadyH.nil
  go_simp
  refine (dig_at _ (ee) _ (by rfl) b0.1 b0.2).mono ?_; rintro e w6 ⟨rfl, hb6⟩; replace hE := hE.trans hb6; clear hb6
  try go_wp2_with fail
  refine hK.out _ _ ?_ (fun hHeld => ?_)
  · (try dsimp only); (try trivial)
  clear hK K
  (try simp only [Act.put, List.setIfInBounds_toArray, List.set_cons_zero, List.set_cons_succ])
  refine wpAnyH_take (i := 9) (oi := { dst := some 45, op := _, type := _, pos := _, after := _, guard := _ }) (v := ?_) rfl (by kernel_rfl) (by kernel_rfl) (by kernel_rfl) (fun _ _ _ h => h) (Or.inl ⟨by rfl, ?_⟩) (by assumption) ?_
  rotate_left
  · (intro w hSw; (try dsimp only at hSw); go_simp; (try with_reducible rfl))
  (try simp only [Act.put, List.setIfInBounds_toArray, List.set_cons_zero, List.set_cons_succ])
  refine wpAnyH_take (i := 10) (oi := { dst := some 46, op := _, type := _, pos := _, after := _, guard := _ }) (v := ?_) rfl (by kernel_rfl) (by kernel_rfl) (by kernel_rfl) (fun _ _ _ h => h) (Or.inl ⟨by rfl, ?_⟩) (by assumption) ?_
  rotate_left
  · (intro w hSw; (try dsimp only at hSw); go_simp; (try with_reducible rfl))
  (try simp only [Act.put, List.setIfInBounds_toArray, List.set_cons_zero, List.set_cons_succ])
  refine wpAnyH_take (i := 17) (oi := { dst := some 53, op := _, type := _, pos := _, after := _, guard := _ }) (v := ?_) rfl (by kernel_rfl) (by kernel_rfl) (by kernel_rfl) (fun _ _ _ h => h) (Or.inl ⟨by rfl, ?_⟩) (by assumption) ?_
  rotate_left
  · (intro w hSw; (try dsimp only at hSw); go_simp; (try with_reducible rfl))
  (try simp only [Act.put, List.setIfInBounds_toArray, List.set_cons_zero, List.set_cons_succ])
  refine wpAnyH_take (i := 18) (oi := { dst := some 54, op := _, type := _, pos := _, after := _, guard := _ }) (v := ?_) rfl (by kernel_rfl) (by kernel_rfl) (by kernel_rfl) (fun _ _ _ h => h) (Or.inl ⟨by rfl, ?_⟩) (by assumption) ?_
  rotate_left
  · (intro w hSw; (try dsimp only at hSw); go_simp; (try with_reducible rfl))
  (try simp only [Act.put, List.setIfInBounds_toArray, List.set_cons_zero, List.set_cons_succ])
  refine wpAnyH_ready (rs := [20]) (by kernel_rfl) (by simp) ?_
  refine AllReadyH.cons (o := { dst := some 56, op := _, type := _, pos := _, after := _, guard := _ }) rfl (fun K hK => ?_) AllReadyH.nil
  go_simp
  refine (HY.out _).mono ?_; rintro e w7 ⟨rfl, hb7⟩; replace hE := hE.trans hb7; clear hb7
  try go_wp2_with fail
  refine hK.out _ _ ?_ (fun hHeld => ?_)
  · (try dsimp only); (try trivial)
  clear hK K
  (try simp only [Act.put, List.setIfInBounds_toArray, List.set_cons_zero, List.set_cons_succ])
  refine wpAnyH_take (i := 21) (oi := { dst := some 57, op := _, type := _, pos := _, after := _, guard := _ }) (v := ?_) rfl (by kernel_rfl) (by kernel_rfl) (by kernel_rfl) (fun _ _ _ h => h) (Or.inl ⟨by rfl, ?_⟩) (by assumption) ?_
  rotate_left
  · (intro w hSw; (try dsimp only at hSw); go_simp; (try with_reducible rfl))
  (try simp only [Act.put, List.setIfInBounds_toArray, List.set_cons_zero, List.set_cons_succ])
  refine wpAnyH_take (i := 22) (oi := { dst := some 58, op := _, type := _, pos := _, after := _, guard := _ }) (v := ?_) rfl (by kernel_rfl) (by kernel_rfl) (by kernel_rfl) (fun _ _ _ h => h) (Or.inl ⟨by rfl, ?_⟩) (by assumption) ?_
  rotate_left
  · (intro w hSw; (try dsimp only at hSw); go_simp; (try with_reducible rfl))
  (try simp only [Act.put, List.setIfInBounds_toArray, List.set_cons_zero, List.set_cons_succ])
  refine wpAnyH_take (i := 24) (oi := { dst := some 60, op := _, type := _, pos := _, after := _, guard := _ }) (v := ?_) rfl (by kernel_rfl) (by kernel_rfl) (by kernel_rfl) (fun _ _ _ h => h) (Or.inl ⟨by rfl, ?_⟩) (by assumption) ?_
  rotate_left
  · (intro w hSw; (try dsimp only at hSw); go_simp; (try with_reducible rfl))
  (try simp only [Act.put, List.setIfInBounds_toArray, List.set_cons_zero, List.set_cons_succ])
  refine wpAnyH_take (i := 25) (oi := { dst := some 61, op := _, type := _, pos := _, after := _, guard := _ }) (v := ?_) rfl (by kernel_rfl) (by kernel_rfl) (by kernel_rfl) (fun _ _ _ h => h) (Or.inl ⟨by rfl, ?_⟩) (by assumption) ?_
  rotate_left
  · (intro w hSw; (try dsimp only at hSw); go_simp; (try with_reducible rfl))
  (try simp only [Act.put, List.setIfInBounds_toArray, List.set_cons_zero, List.set_cons_succ])
  refine wpAnyH_take (i := 26) (oi := { dst := some 2, op := _, type := _, pos := _, after := _, guard := _ }) (v := ?_) rfl (by kernel_rfl) (by kernel_rfl) (by kernel_rfl) (fun _ _ _ h => h) (Or.inl ⟨by rfl, ?_⟩) (by assumption) ?_
  rotate_left
  · (intro w hSw; (try dsimp only at hSw); go_simp; (try with_reducible rfl))
  (try simp only [Act.put, List.setIfInBounds_toArray, List.set_cons_zero, List.set_cons_succ])
  refine wpAnyH_done (by kernel_rfl) ?_ _
  go_wp2_with fail
  go_ret
  exact ⟨ret_v (congrArg Value.string Hf.out), hE⟩
end Go.Proofs.YtphgaommokgfcaaGreatDoor

namespace Go.Proofs.YtphgaommokgfcaaGreatDoor
open Go.RowKit

/-- r is the first month whose name t is, or 13. -/
def MF (t : ByteArray) (r : Nat) : Prop := 1 ≤ r ∧ r ≤ 13 ∧ (∀ j, 1 ≤ j → j < r → ((moS j).toList == t.toList) = false) ∧ (r < 13 → ((moS r).toList == t.toList) = true)
theorem moA_hit (t : ByteArray) : ∀ k, 0 < moA t k → t.toList = (moS (moA t k)).toList
  | 0, h => absurd h (by unfold moA; decide)
  | k + 1, h => by
    cases he : (t.toList == (moS (k + 1)).toList)
    · rw [moA_no he] at h ⊢
      exact moA_hit t k h
    · rw [moA_yes he]
      exact eq_of_beq he
theorem moA_pos (t : ByteArray) : ∀ k j, 1 ≤ j → j ≤ k → t.toList = (moS j).toList → 0 < moA t k
  | 0, j, h1, h2, _ => by omega
  | k + 1, j, h1, h2, h => by
    cases he : (t.toList == (moS (k + 1)).toList)
    · rw [moA_no he]
      by_cases hj : j = k + 1
      · subst hj; rw [h, beq_self_eq_true] at he; exact absurd he (by decide)
      · exact moA_pos t k j h1 (by omega) h
    · rw [moA_yes he]; omega
theorem moS_inj {a b : Nat} (ha : 1 ≤ a ∧ a ≤ 12) (hb : 1 ≤ b ∧ b ≤ 12) (h : (moS a).toList = (moS b).toList) : a = b := by
  have key : ∀ i < 12, ∀ j < 12, moS (i + 1) = moS (j + 1) → i = j := by decide
  have h' : moS a = moS b := by
    have e : ∀ x : ByteArray, x = ⟨x.toList.toArray⟩ := fun x => by rw [ByteArray.toList_eq]
    rw [e (moS a), e (moS b), h]
  have := key (a - 1) (by omega) (b - 1) (by omega) (by rw [show a - 1 + 1 = a by omega, show b - 1 + 1 = b by omega]; exact h')
  omega
theorem MF_moA {t : ByteArray} {r : Nat} (h : MF t r) : (r ≤ 12 ∧ moA t 12 = r) ∨ (r = 13 ∧ moA t 12 = 0) := by
  obtain ⟨h1, h2, h3, h4⟩ := h
  have hle := moA_le t 12
  by_cases hr : r < 13
  · left
    have e := eq_of_beq (h4 hr)
    have hp := moA_pos t 12 r h1 (by omega) e.symm
    have hh := moA_hit t 12 hp
    exact ⟨by omega, (moS_inj ⟨by omega, by omega⟩ ⟨by omega, hle⟩ (e.trans hh)).symm⟩
  · right
    refine ⟨by omega, ?_⟩
    by_cases hz : moA t 12 = 0
    · exact hz
    · have hh := moA_hit t 12 (by omega)
      have := h3 (moA t 12) (by omega) (by omega)
      rw [hh, beq_self_eq_true] at this
      exact absurd this (by decide)
theorem num2_list {s : ByteArray} {a b : UInt8} (h : s.data.toList = [a, b]) : num2 s = if dgB a && dgB b then 10 * ((a.toNat : Int) - 48) + ((b.toNat : Int) - 48) else -1 := by
  have : s = ⟨#[a, b]⟩ := by
    cases s with | mk d => cases d with | mk l => simp only at h; subst h; rfl
  subst this
  rfl
theorem numS_2 {s : ByteArray} (h : s.size = 2) : numS s = num2 s := by
  obtain ⟨a, b, hl⟩ : ∃ a b, s.data.toList = [a, b] := by
    have : s.data.toList.length = 2 := by simpa using h
    match s.data.toList, this with
    | [a, b], _ => exact ⟨a, b, rfl⟩
  rw [num2_list hl]
  unfold numS
  rw [hl]
  simp only [List.any_cons, List.any_nil, Bool.or_false, ndg, numF]
  cases dgB a <;> cases dgB b <;> simp
theorem dig2_bd {a b : UInt8} (h : (dgB a && dgB b) = true) : 0 ≤ 10 * ((a.toNat : Int) - 48) + ((b.toNat : Int) - 48) := by
  rw [Bool.and_eq_true] at h
  have := dgB_bd h.1
  have := dgB_bd h.2
  omega
theorem numS_4 {s t u v : ByteArray} (h : s.size = 4) (ht : t.data.toList = s.data.toList) (hu : u.data.toList = s.data.toList.take 2) (hv : v.data.toList = s.data.toList.drop 2) :
    (numS t = -1 ∧ (num2 u < 0 ∨ num2 v < 0)) ∨ (numS t = 100 * num2 u + num2 v ∧ 0 ≤ num2 u ∧ 0 ≤ num2 v) := by
  obtain ⟨a, b, c, d, hl⟩ : ∃ a b c d, s.data.toList = [a, b, c, d] := by
    have : s.data.toList.length = 4 := by simpa using h
    match s.data.toList, this with
    | [a, b, c, d], _ => exact ⟨a, b, c, d, rfl⟩
  rw [hl] at ht hu hv
  have hu : u.data.toList = [a, b] := hu
  have hv : v.data.toList = [c, d] := hv
  rw [num2_list hu, num2_list hv]
  unfold numS
  rw [ht]
  cases h1 : (dgB a && dgB b)
  · left
    refine ⟨?_, Or.inl (by rw [if_neg (by decide)]; decide)⟩
    rw [if_pos]
    simp only [List.any_cons, List.any_nil, Bool.or_false, ndg]
    revert h1
    cases dgB a <;> cases dgB b <;> simp
  · cases h2 : (dgB c && dgB d)
    · left
      refine ⟨?_, Or.inr (by rw [if_neg (by decide)]; decide)⟩
      rw [if_pos]
      simp only [List.any_cons, List.any_nil, Bool.or_false, ndg]
      revert h2
      cases dgB c <;> cases dgB d <;> simp
    · right
      refine ⟨?_, dig2_bd h1, dig2_bd h2⟩
      rw [Bool.and_eq_true] at h1 h2
      rw [if_neg (by simp only [List.any_cons, List.any_nil, Bool.or_false, ndg]; rw [h1.1, h1.2, h2.1, h2.2]; decide), if_pos rfl, if_pos rfl]
      unfold numF numF numF numF numF
      omega
theorem ext_listR (s : ByteArray) (i j : Nat) : (s.extract i j).data.toList = (s.data.toList.take j).drop i := by
  rw [ByteArray.data_extract, Array.toList_extract, List.extract_eq_drop_take']

/-- What the reference makes of the parts. -/
def dateW (s : ByteArray) (y d h mi se : Int) (m : Nat) : Option Int :=
  if okD y m d ∧ ¬ (h < 0 ∨ 23 < h ∨ mi < 0 ∨ 59 < mi ∨ se < 0 ∨ 59 < se) then (if ((fmtS (secN y m d h mi se)).toList == s.toList) then some (secN y m d h mi se) else none) else none
theorem dateP_ref {s : ByteArray} (h29 : s.size = 29) {r : Nat} (hr : MF (s.extract 8 11) r) :
    dateP s = dateW s (numS (s.extract 12 16)) (numS (s.extract 5 7)) (numS (s.extract 17 19)) (numS (s.extract 20 22)) (numS (s.extract 23 25)) r := by
  have hsz : ∀ i j, (s.extract i j).size = min j 29 - i := fun i j => by rw [ByteArray.size_extract, h29]
  rw [numS_2 (hsz 5 7), numS_2 (hsz 17 19), numS_2 (hsz 20 22), numS_2 (hsz 23 25)]
  have hl : s.data.toList.length = 29 := by simpa using h29
  have h4 := numS_4 (s := s.extract 12 16) (t := s.extract 12 16) (u := s.extract 12 14) (v := s.extract 14 16) (hsz 12 16) rfl
    (by rw [ext_listR, ext_listR, List.take_drop, List.take_take]; rfl)
    (by rw [ext_listR, ext_listR, List.drop_drop])
  unfold dateP
  rw [if_pos h29]
  generalize num2 (s.extract 5 7) = d at *
  generalize num2 (s.extract 12 14) = c at *
  generalize num2 (s.extract 14 16) = y at *
  generalize num2 (s.extract 17 19) = h at *
  generalize num2 (s.extract 20 22) = mi at *
  generalize num2 (s.extract 23 25) = se at *
  generalize numS (s.extract 12 16) = y4 at *
  have hm := MF_moA hr
  generalize moA (s.extract 8 11) 12 = m at *
  unfold dateQ dateW
  rcases h4 with ⟨e1, e2⟩ | ⟨e1, e2, e3⟩
  · rw [if_pos (by omega), if_neg]
    rintro ⟨hk, -⟩
    have := hk.1
    omega
  · rw [← e1]
    rcases hm with ⟨m1, m2⟩ | ⟨m1, m2⟩
    · rw [m2]
      by_cases hk : okD y4 r d
      · have hd : 1 ≤ d := hk.2.2.2.2.1
        rw [if_pos hk]
        by_cases hb : h < 0 ∨ 23 < h ∨ mi < 0 ∨ 59 < mi ∨ se < 0 ∨ 59 < se
        · rw [if_pos (by omega)]
          exact (if_neg (fun e => e.2 hb)).symm
        · rw [if_neg (by omega)]
          exact (if_pos ⟨hk, hb⟩).symm
      · rw [if_neg hk, ite_self]
        exact (if_neg (fun e => hk e.1)).symm
    · have n1 : ¬ okD y4 m d := fun e => by have := e.2.2.1; omega
      have n2 : ¬ okD y4 r d := fun e => by have := e.2.2.2.1; omega
      rw [if_neg n1, ite_self]
      exact (if_neg (fun e => n2 e.1)).symm
theorem numS_bd {s : ByteArray} (h : s.size ≤ 4) : -1 ≤ numS s ∧ numS s ≤ 9999 := by
  unfold numS
  split
  · omega
  · rename_i hn
    have hb := numF_bd s.data.toList 0 (by omega) (by simpa using hn)
    have hl : s.data.toList.length = s.size := by simp
    rw [hl] at hb
    have : s.size = 0 ∨ s.size = 1 ∨ s.size = 2 ∨ s.size = 3 ∨ s.size = 4 := by omega
    rcases this with h | h | h | h | h <;> rw [h] at hb <;> simp at hb <;> omega
theorem dateW_bad {s : ByteArray} {y d h mi se : Int} {m : Nat} (hb : h < 0 ∨ 23 < h ∨ mi < 0 ∨ 59 < mi ∨ se < 0 ∨ 59 < se) : dateW s y d h mi se m = none := if_neg (fun e => e.2 hb)
theorem dateW_day {s : ByteArray} {y d h mi se : Int} {m : Nat} (hb : ¬ okD y m d) : dateW s y d h mi se m = none := if_neg (fun e => hb e.1)
theorem dateW_ok {s : ByteArray} {y d h mi se : Int} {m : Nat} (hk : okD y m d) (hb : ¬ (h < 0 ∨ 23 < h ∨ mi < 0 ∨ 59 < mi ∨ se < 0 ∨ 59 < se)) : dateW s y d h mi se m = if ((fmtS (secN y m d h mi se)).toList == s.toList) then some (secN y m d h mi se) else none := if_pos ⟨hk, hb⟩
/-- What the reference's Parse returns: a number that counts only beside true. -/
def Pd2 (o : Option Int) (e : Ending) : Prop := ∃ n : Int, e = .returned (.tuple #[.int .i64 n, .bool o.isSome]) ∧ ∀ k, o = some k → n = k
theorem Pd2.no {o : Option Int} (h : o = none) {n : Int} {b : Bool} (hb : b = false) : Pd2 o (.returned (.tuple #[.int .i64 n, .bool b])) := by
  subst h; subst hb; exact ⟨n, rfl, fun k e => by cases e⟩
theorem Pd2.yes {o : Option Int} {n : Int} {b : Bool} (h : o = if b then some n else none) : Pd2 o (.returned (.tuple #[.int .i64 n, .bool b])) := by
  subst h
  refine ⟨n, by cases b <;> rfl, fun k e => ?_⟩
  cases b
  · cases e
  · injection e
set_option maxHeartbeats 4000000 in
set_option maxRecDepth 100000 in
theorem rd_Parse (s : ByteArray) (w : World) (_hs : s.size ≤ 140737488351232) :
    Calls Tryz.prog 58 #[.string s] w fun e w' => Pd2 (dateP s) e ∧ Ext w w' := by
  by_cases h29 : s.size = 29
  rotate_left
  · have Hn := Lib.hid (show dateP s = none from if_neg h29)
    have hz : ((s.size : Int) == 29) = false := by rw [beq_eq_false_iff_ne]; omega
    go_enter Tryz.func58, Tryz.ntmps58
    go_wp2_with fail
    all_goals (go_ret2; exact ⟨Pd2.no Hn.out rfl, Ext.refl _⟩)
  have HR := Lib.hid (fun r => dateP_ref h29 (r := r))
  obtain ⟨O, hO⟩ : ∃ O, dateP s = O := ⟨_, rfl⟩
  rw [hO]
  rw [hO] at HR; clear hO
  have hsz : ∀ i j, (s.extract i j).size = min j 29 - i := fun i j => by rw [ByteArray.size_extract, h29]
  obtain ⟨T1, hx1⟩ : ∃ T, s.extract 5 7 = T := ⟨_, rfl⟩
  obtain ⟨T2, hx2⟩ : ∃ T, s.extract 12 16 = T := ⟨_, rfl⟩
  obtain ⟨T4, hx4⟩ : ∃ T, s.extract 17 19 = T := ⟨_, rfl⟩
  obtain ⟨T5, hx5⟩ : ∃ T, s.extract 20 22 = T := ⟨_, rfl⟩
  obtain ⟨T6, hx6⟩ : ∃ T, s.extract 23 25 = T := ⟨_, rfl⟩
  obtain ⟨T7, hx7⟩ : ∃ T, s.extract 8 11 = T := ⟨_, rfl⟩
  have e1 : T1.size ≤ 4 := by rw [← hx1, hsz]; decide
  have e2 : T2.size ≤ 4 := by rw [← hx2, hsz]; decide
  have e4 : T4.size ≤ 4 := by rw [← hx4, hsz]; decide
  have e5 : T5.size ≤ 4 := by rw [← hx5, hsz]; decide
  have e6 : T6.size ≤ 4 := by rw [← hx6, hsz]; decide
  rw [hx1, hx2, hx4, hx5, hx6, hx7] at HR
  have N1 := Lib.hid (fun w => rd_number T1 w e1)
  have N2 := Lib.hid (fun w => rd_number T2 w e2)
  have N4 := Lib.hid (fun w => rd_number T4 w e4)
  have N5 := Lib.hid (fun w => rd_number T5 w e5)
  have N6 := Lib.hid (fun w => rd_number T6 w e6)
  have B1 : -1 ≤ numS T1 ∧ numS T1 ≤ 99 := by
    rw [numS_2 (by rw [← hx1, hsz]; decide)]; exact num2_bd T1
  have B2 := numS_bd e2
  have B4 : -1 ≤ numS T4 ∧ numS T4 ≤ 99 := by
    rw [numS_2 (by rw [← hx4, hsz]; decide)]; exact num2_bd T4
  have B5 : -1 ≤ numS T5 ∧ numS T5 ≤ 99 := by
    rw [numS_2 (by rw [← hx5, hsz]; decide)]; exact num2_bd T5
  have B6 : -1 ≤ numS T6 ∧ numS T6 ≤ 99 := by
    rw [numS_2 (by rw [← hx6, hsz]; decide)]; exact num2_bd T6
  clear hsz e1 e2 e4 e5 e6
  generalize numS T1 = d at *
  generalize numS T2 = y at *
  generalize numS T4 = h at *
  generalize numS T5 = mi at *
  generalize numS T6 = se at *
  go_enter Tryz.func58, Tryz.ntmps58
  go_wp2_with fail
  go_loopw [4] (fun m wr => ∃ k : Nat, 1 ≤ k ∧ k ≤ 13 ∧ m = .int .i64 (k : Nat) ∧ (∀ j, 1 ≤ j → j < k → ((moS j).toList == T7.toList) = false) ∧ Ext w wr) (fun m _ => 13 - (intOf m).toNat)
  case atStart => exact ⟨1, by omega, by omega, rfl, fun j h1 h2 => by omega, Ext.refl _⟩
  case round =>
    obtain ⟨k, hk1, hk, rfl, hall, hE⟩ := hrel
    have Hall := Lib.hid hall; clear hall
    by_cases hlt : k < 13
    · have hxm := moT_at hk1 (by omega)
      have Hst := Lib.hid (show ((moS k).toList == T7.toList) = false → ∀ j, 1 ≤ j → j < k + 1 → ((moS j).toList == T7.toList) = false from fun he j h1 h2 => by
        by_cases hj : j = k
        · rw [hj]; exact he
        · exact Hall.out j h1 (by omega))
      have Hmf := Lib.hid (show ((moS k).toList == T7.toList) = true → MF T7 k from fun he => ⟨hk1, hk, Hall.out, fun _ => he⟩)
      unfold moT at hxm
      generalize moS k = t at *
      have p3 : IntKind.i64.wrap (3 * (k : Int)) = 3 * (k : Int) := IntWalk.i64_in _ (by omega)
      have p4 : IntKind.i64.wrap (3 * (k : Int) - 3) = 3 * (k : Int) - 3 := IntWalk.i64_in _ (by omega)
      have o5 : (0 : Int) ≤ 3 * (k : Int) - 3 := by omega
      have o6 : (0 : Int) ≤ 3 * (k : Int) := by omega
      have o7 : 3 * (k : Int) - 3 ≤ 3 * (k : Int) := by omega
      have o8 : 3 * (k : Int) ≤ 36 := by omega
      have hlt' : (k : Int) < 13 := by omega
      cases he : (t.toList == T7.toList)
      · have Hst := Lib.hid (Hst.out he)
        go_wp2_with fail
        go_region
        all_goals (try go_wp2_with fail)
        all_goals
          go_roundw
          case rel => exact ⟨k + 1, by omega, by omega, by go_num, Hst.out, hE.drew⟩
          case measure => simp [intOf]; omega
      · have HR := Lib.hid (HR.out k (Hmf.out he))
        have hE := hE.drew
        go_wp2_with fail
        go_region
        have hdy := fun w => rd_Day y k d w (by omega) (by omega) (by omega) (by omega) (by omega)
        by_cases hok : okD y k d
        rotate_left
        · have Hn := Lib.hid (HR.out.trans (dateW_day hok))
          simp only [day2V_no hok] at hdy
          have Hd := Lib.hid hdy; clear hdy hok
          go_wp2_with fail
          have hE := hE.drew
          go_region_held3 (fun _ => True) (trivial)
            (first
              | (go_at_call_of 77 T2; refine (N2.out _).mono ?_; rintro e w2 ⟨rfl, rfl⟩)
              | (go_at_call_of 77 T1; refine (N1.out _).mono ?_; rintro e w2 ⟨rfl, rfl⟩)
              | (go_at_call 76; refine (Hd.out _).mono ?_; rintro e w2 ⟨rfl, rfl⟩))
          go_wp2_with fail
          have hE := hE.drew
          go_region_held3 (fun _ => True) (trivial)
            (first
              | (go_at_call_of 77 T4; refine (N4.out _).mono ?_; rintro e w2 ⟨rfl, rfl⟩)
              | (go_at_call_of 77 T5; refine (N5.out _).mono ?_; rintro e w2 ⟨rfl, rfl⟩)
              | (go_at_call_of 77 T6; refine (N6.out _).mono ?_; rintro e w2 ⟨rfl, rfl⟩))
          go_wp2_with fail
          all_goals (go_ret2; exact ⟨Pd2.no Hn.out rfl, hE⟩)
        simp only [day2V_yes hok] at hdy
        have Hd := Lib.hid hdy; clear hdy
        obtain ⟨e0, e1⟩ := day_bd hok
        have Hok := Lib.hid hok; clear hok
        have Hsec := Lib.hid (show secN y k d h mi se = 86400 * dayN y k d + 3600 * h + 60 * mi + se from rfl)
        generalize dayN y k d = D at *
        go_wp2_with fail
        have hE := hE.drew
        go_region_held3 (fun _ => True) (trivial)
          (first
            | (go_at_call_of 77 T2; refine (N2.out _).mono ?_; rintro e w2 ⟨rfl, rfl⟩)
            | (go_at_call_of 77 T1; refine (N1.out _).mono ?_; rintro e w2 ⟨rfl, rfl⟩)
            | (go_at_call 76; refine (Hd.out _).mono ?_; rintro e w2 ⟨rfl, rfl⟩))
        go_wp2_with fail
        have hE := hE.drew
        go_region_held3 (fun _ => True) (trivial)
          (first
            | (go_at_call_of 77 T4; refine (N4.out _).mono ?_; rintro e w2 ⟨rfl, rfl⟩)
            | (go_at_call_of 77 T5; refine (N5.out _).mono ?_; rintro e w2 ⟨rfl, rfl⟩)
            | (go_at_call_of 77 T6; refine (N6.out _).mono ?_; rintro e w2 ⟨rfl, rfl⟩))
        by_cases a0 : h < 0
        · have Hn := Lib.hid (HR.out.trans (dateW_bad (by omega)))
          go_wp2_with fail
          all_goals (go_ret2; exact ⟨Pd2.no Hn.out rfl, hE⟩)
        by_cases a1 : 23 < h
        · have Hn := Lib.hid (HR.out.trans (dateW_bad (by omega)))
          go_wp2_with fail
          all_goals (go_ret2; exact ⟨Pd2.no Hn.out rfl, hE⟩)
        by_cases a2 : mi < 0
        · have Hn := Lib.hid (HR.out.trans (dateW_bad (by omega)))
          go_wp2_with fail
          all_goals (go_ret2; exact ⟨Pd2.no Hn.out rfl, hE⟩)
        by_cases a3 : 59 < mi
        · have Hn := Lib.hid (HR.out.trans (dateW_bad (by omega)))
          go_wp2_with fail
          all_goals (go_ret2; exact ⟨Pd2.no Hn.out rfl, hE⟩)
        by_cases a4 : se < 0
        · have Hn := Lib.hid (HR.out.trans (dateW_bad (by omega)))
          go_wp2_with fail
          all_goals (go_ret2; exact ⟨Pd2.no Hn.out rfl, hE⟩)
        by_cases a5 : 59 < se
        · have Hn := Lib.hid (HR.out.trans (dateW_bad (by omega)))
          go_wp2_with fail
          all_goals (go_ret2; exact ⟨Pd2.no Hn.out rfl, hE⟩)
        have Hn := Lib.hid (HR.out.trans (dateW_ok Hok.out (by omega)))
        rw [Hsec.out] at Hn
        have hfm := Lib.hid (fun w => rd_Format (86400 * D + 3600 * h + 60 * mi + se) w (by omega) (by omega))
        cases hq : ((fmtS (86400 * D + 3600 * h + 60 * mi + se)).toList == s.toList)
        all_goals
          rw [hq] at Hn
          go_wp2_with fail
          refine (hfm.out _).mono ?_; rintro e w4 ⟨rfl, hb4⟩
          go_wp2_with fail
          all_goals (go_ret2; exact ⟨Pd2.yes Hn.out, hE.trans hb4⟩)
    · obtain rfl : k = 13 := by omega
      have HR := Lib.hid (HR.out 13 ⟨by omega, by omega, Hall.out, fun e => absurd e (by decide)⟩)
      have hE := hE.drew
      go_wp2_with fail
      go_region
      have Hn := Lib.hid (HR.out.trans (dateW_day (fun e => by have := e.2.2.2.1; omega)))
      have hdy := fun w => rd_Day y 13 d w (by omega) (by omega) (by omega) (by omega) (by omega)
      simp only [day2V_no (fun e : okD y 13 d => by have := e.2.2.2.1; omega)] at hdy
      have Hd := Lib.hid hdy; clear hdy
      go_wp2_with fail
      have hE := hE.drew
      go_region_held3 (fun _ => True) (trivial)
        (first
          | (go_at_call_of 77 T2; refine (N2.out _).mono ?_; rintro e w2 ⟨rfl, rfl⟩)
          | (go_at_call_of 77 T1; refine (N1.out _).mono ?_; rintro e w2 ⟨rfl, rfl⟩)
          | (go_at_call 76; refine (Hd.out _).mono ?_; rintro e w2 ⟨rfl, rfl⟩))
      go_wp2_with fail
      have hE := hE.drew
      go_region_held3 (fun _ => True) (trivial)
        (first
          | (go_at_call_of 77 T4; refine (N4.out _).mono ?_; rintro e w2 ⟨rfl, rfl⟩)
          | (go_at_call_of 77 T5; refine (N5.out _).mono ?_; rintro e w2 ⟨rfl, rfl⟩)
          | (go_at_call_of 77 T6; refine (N6.out _).mono ?_; rintro e w2 ⟨rfl, rfl⟩))
      go_wp2_with fail
      all_goals (go_ret2; exact ⟨Pd2.no Hn.out rfl, hE⟩)
end Go.Proofs.YtphgaommokgfcaaGreatDoor

namespace Go.Proofs.YtphgaommokgfcaaGreatDoor
open Go.RowKit

set_option maxHeartbeats 2000000 in
set_option maxRecDepth 100000 in
theorem ref_Date (A : Option Addr) (n c : Nat) (fs : List Fd) (name : ByteArray) (w : World) (hf : RdF w A n fs)
    (hn : n ≤ 1073741824) (hs : name.size ≤ 4611686018427387904) (hsz : Bsz 1048576 fs) :
    Calls Tryz.prog 40 #[.slice A n c, .string name] w fun e w' => Pd2 (dateS fs name) e ∧ Ext w w' := by
  have HA := Lib.hid (ref_All A n c fs name w hf hn hs (fun f hf => Nat.le_trans (hsz f hf).1 (by decide)))
  have hv := bsz_vals (name := name) hsz
  have Hd := Lib.hid (show dateS fs name = oneP (allS fs name) from rfl)
  generalize dateS fs name = D at *
  generalize allS fs name = L at *
  have Hv := Lib.hid hv
  clear hv
  go_enter Tryz.func40, Tryz.ntmps40
  go_wp2_with fail
  refine HA.out.mono ?_; rintro e w1 ⟨A1, n1, c1, rfl, hr1, hc1, hb1⟩
  have hl1 := hr1.lenS
  by_cases h1 : n1 = 1
  · subst h1
    match L, hl1 with
    | [v], _ =>
    obtain ⟨b, o, rfl, hc⟩ := hr1.atS (k := 0) Nat.one_pos
    rw [Nat.add_zero] at hc
    have hc : w1.cell? ⟨b, o, none⟩ = some (.string v) := hc
    have HD := Lib.hid (show D = dateP v from Hd.out)
    have Hvs := Lib.hid (Hv.out v (List.mem_cons_self ..))
    have hP := rd_Parse v
    generalize dateP v = P at *
    have HP := Lib.hid hP; clear hP hl1
    go_wp2_with fail
    refine (HP.out _ (by have := Hvs.out; omega)).mono ?_; rintro e w2 ⟨⟨k, rfl, hk⟩, hb2⟩
    have Hk := Lib.hid hk; clear hk
    go_wp2_with fail
    go_ret2
    exact ⟨⟨k, by rw [HD.out]; rfl, fun j hj => Hk.out j (by rw [← HD.out]; exact hj)⟩, hb1.trans hb2⟩
  · have hz : ((n1 : Int) != 1) = true := by simp; omega
    have HD := Lib.hid (show D = none by rw [Hd.out, oneP_no (by omega)])
    clear hl1 h1
    go_wp2_with fail
    go_ret2
    exact ⟨Pd2.no HD.out rfl, hb1⟩
end Go.Proofs.YtphgaommokgfcaaGreatDoor

namespace Go.Proofs.YtphgaommokgfcaaGreatDoor
open Go.RowKit

/-- A text that may be none. -/
def rtV (o : Option ByteArray) : Value := match o with | some t => .tuple #[.string t, .bool true] | none => .tuple #[.string ⟨#[]⟩, .bool false]
theorem tag_snd (s : ByteArray) : (tagS s).map (·.2) = txtS (wkR s) := by
  unfold tagS; cases txtS (wkR s) <;> rfl

set_option maxHeartbeats 4000000 in
set_option maxRecDepth 100000 in
theorem ref15_tag (s : ByteArray) (w : World) (hs : s.size ≤ 1048576) :
    Calls Tryz.prog 48 #[.string s] w fun e w' => e = .returned (rtV (txtS (wkR s))) ∧ Ext w w' := by
  have hrs := wkR_size s
  have HO := Lib.hid (show txtS (wkR s) = txtS (wkR s) from rfl)
  obtain ⟨O, hO⟩ : ∃ O, txtS (wkR s) = O := ⟨_, rfl⟩
  rw [hO]
  clear HO
  have HO := Lib.hid hO.symm
  clear hO
  cases hw : wkP s
  · obtain ⟨hp1, hp2⟩ := wk_no hw
    have hR := Lib.hid hp1
    clear hw hp1
    rcases hp2 with hp2 | ⟨hp3, hp2⟩
    · have h2 := hp2
      have HN := Lib.hid (show rtV none = rtV O by rw [HO.out, hR.out, txt_short h2])
      clear hp2
      go_enter Tryz.func48, Tryz.ntmps48
      go_wp2_with fail
      go_ret2
      exact ⟨ret_v HN.out, Ext.refl _⟩
    · skip
      have h2 : ¬ s.size < 2 := by omega
      by_cases h0 : ((s[0]'(by omega)).toNat : Int) = 34
      case neg =>
        have HN := Lib.hid (show rtV none = rtV O by rw [HO.out, hR.out, txt_no0 h2 h0])
        have hq0 : (((s[0]'(by omega)).toNat : Int) != 34) = true := by simp [h0]
        go_enter Tryz.func48, Tryz.ntmps48
        go_wp2_with fail
        go_ret2
        exact ⟨ret_v HN.out, Ext.refl _⟩
      have hq0 : (((s[0]'(by omega)).toNat : Int) != 34) = false := by simp [h0]
      by_cases h1 : ((s[s.size - 1]'(by omega)).toNat : Int) = 34
      case neg =>
        have HN := Lib.hid (show rtV none = rtV O by rw [HO.out, hR.out, txt_no1 h2 h1])
        have hq1 : (((s[s.size - 1]'(by omega)).toNat : Int) != 34) = true := by simp [h1]
        go_enter Tryz.func48, Tryz.ntmps48
        go_wp2_with fail
        go_ret2
        exact ⟨ret_v HN.out, Ext.refl _⟩
      have hq1 : (((s[s.size - 1]'(by omega)).toNat : Int) != 34) = false := by simp [h1]
      have HY := Lib.hid (fun hr => show rtV (some (s.extract 1 (s.size - 1))) = rtV O by rw [HO.out, hR.out, txt_yes h2 h0 h1 hr])
      have HN := Lib.hid (fun hr => show rtV none = rtV O by rw [HO.out, hR.out, txt_no2 h2 hr])
      go_enter Tryz.func48, Tryz.ntmps48
      go_wp2_with fail
      have hTs : (s.extract 1 (s.size - 1)).size ≤ 1048576 := by rw [ByteArray.size_extract]; omega
      have hTe : (s.extract 1 (s.size - 1)).size = s.size - 1 - 1 := by rw [ByteArray.size_extract]; omega
      generalize s.extract 1 (s.size - 1) = T at *
      generalize s.size - 1 - 1 = tn at *
      subst hTe
      go_loop [38] (fun i => ∃ k, k ≤ T.size ∧ i = .int .i64 (k : Nat) ∧ (T.data.toList.take k).any badT = false) (fun i => T.size - (intOf i).toNat)
      case atStart => exact ⟨0, Nat.zero_le _, rfl, rfl⟩
      case round =>
        obtain ⟨k, hk, rfl, hall⟩ := hrel
        by_cases hlt : k < T.size
        · have Hst := Lib.hid (any_step badT hlt hall); clear hall
          have Hyes := Lib.hid (any_yes badT hlt)
          have Hcy := Lib.hid (@badT_yes T[k])
          have Hcn := Lib.hid (@badT_no T[k])
          go_wp2_with fail
          all_goals first
            | (have hc := Hcn.out (by (try simp only [beq_iff_eq, beq_eq_false_iff_ne, ne_eq] at *); omega)
               go_round
               case rel => exact ⟨k + 1, by omega, by go_num, Hst.out hc⟩
               case measure => simp [intOf]; omega)
            | (have hc := Hcy.out (by (try simp only [beq_iff_eq] at *); omega)
               go_ret2; exact ⟨ret_v (HN.out (by unfold rightS; rw [← Hyes.out hc]; rfl)), Ext.refl _⟩)
        · obtain rfl : k = T.size := by omega
          have He := Lib.hid (any_end badT hall); clear hall
          go_wp2_with fail
          go_ret2
          exact ⟨ret_v (HY.out (by unfold rightS; rw [← He.out]; rfl)), Ext.refl _⟩
  · obtain ⟨hp3, hp2, hp4⟩ := wk_yes hw
    obtain ⟨R, hR0⟩ : ∃ R, wkR s = R := ⟨_, rfl⟩
    have hRs : s.extract 2 s.size = R := hp4.symm.trans hR0
    rw [hR0] at hrs
    have hR := Lib.hid hR0; clear hR0
    clear hw hp4
    by_cases h2 : R.size < 2
    · have HN := Lib.hid (show rtV none = rtV O by rw [HO.out, hR.out, txt_short h2])
      go_enter Tryz.func48, Tryz.ntmps48
      go_wp2_with fail
      go_ret2
      exact ⟨ret_v HN.out, Ext.refl _⟩
    by_cases h0 : ((R[0]'(by omega)).toNat : Int) = 34
    case neg =>
      have HN := Lib.hid (show rtV none = rtV O by rw [HO.out, hR.out, txt_no0 h2 h0])
      have hq0 : (((R[0]'(by omega)).toNat : Int) != 34) = true := by simp [h0]
      go_enter Tryz.func48, Tryz.ntmps48
      go_wp2_with fail
      go_ret2
      exact ⟨ret_v HN.out, Ext.refl _⟩
    have hq0 : (((R[0]'(by omega)).toNat : Int) != 34) = false := by simp [h0]
    by_cases h1 : ((R[R.size - 1]'(by omega)).toNat : Int) = 34
    case neg =>
      have HN := Lib.hid (show rtV none = rtV O by rw [HO.out, hR.out, txt_no1 h2 h1])
      have hq1 : (((R[R.size - 1]'(by omega)).toNat : Int) != 34) = true := by simp [h1]
      go_enter Tryz.func48, Tryz.ntmps48
      go_wp2_with fail
      go_ret2
      exact ⟨ret_v HN.out, Ext.refl _⟩
    have hq1 : (((R[R.size - 1]'(by omega)).toNat : Int) != 34) = false := by simp [h1]
    have HY := Lib.hid (fun hr => show rtV (some (R.extract 1 (R.size - 1))) = rtV O by rw [HO.out, hR.out, txt_yes h2 h0 h1 hr])
    have HN := Lib.hid (fun hr => show rtV none = rtV O by rw [HO.out, hR.out, txt_no2 h2 hr])
    go_enter Tryz.func48, Tryz.ntmps48
    go_wp2_with fail
    have hTs : (R.extract 1 (R.size - 1)).size ≤ 1048576 := by rw [ByteArray.size_extract]; omega
    have hTe : (R.extract 1 (R.size - 1)).size = R.size - 1 - 1 := by rw [ByteArray.size_extract]; omega
    generalize R.extract 1 (R.size - 1) = T at *
    generalize R.size - 1 - 1 = tn at *
    subst hTe
    go_loop [38] (fun i => ∃ k, k ≤ T.size ∧ i = .int .i64 (k : Nat) ∧ (T.data.toList.take k).any badT = false) (fun i => T.size - (intOf i).toNat)
    case atStart => exact ⟨0, Nat.zero_le _, rfl, rfl⟩
    case round =>
      obtain ⟨k, hk, rfl, hall⟩ := hrel
      by_cases hlt : k < T.size
      · have Hst := Lib.hid (any_step badT hlt hall); clear hall
        have Hyes := Lib.hid (any_yes badT hlt)
        have Hcy := Lib.hid (@badT_yes T[k])
        have Hcn := Lib.hid (@badT_no T[k])
        go_wp2_with fail
        all_goals first
          | (have hc := Hcn.out (by (try simp only [beq_iff_eq, beq_eq_false_iff_ne, ne_eq] at *); omega)
             go_round
             case rel => exact ⟨k + 1, by omega, by go_num, Hst.out hc⟩
             case measure => simp [intOf]; omega)
          | (have hc := Hcy.out (by (try simp only [beq_iff_eq] at *); omega)
             go_ret2; exact ⟨ret_v (HN.out (by unfold rightS; rw [← Hyes.out hc]; rfl)), Ext.refl _⟩)
      · obtain rfl : k = T.size := by omega
        have He := Lib.hid (any_end badT hall); clear hall
        go_wp2_with fail
        go_ret2
        exact ⟨ret_v (HY.out (by unfold rightS; rw [← He.out]; rfl)), Ext.refl _⟩

theorem oneT_no' {l : List ByteArray} (h : l.length ≠ 1) : oneT l = none := by
  match l, h with
  | [], _ => rfl
  | [_], h => exact absurd rfl h
  | _ :: _ :: _, _ => rfl
theorem len_all' {w : World} {A : Option Addr} {n : Nat} {fs : List Fd} (hf : RdF w A n fs) (m : ByteArray) : (allS fs m).length ≤ n := by
  have := allS_len fs m n
  rw [List.take_of_length_le (by rw [hf.lenF]; exact Nat.le_refl _)] at this
  exact this
set_option maxHeartbeats 2000000 in
set_option maxRecDepth 100000 in
theorem ref15_Tag (A : Option Addr) (n c : Nat) (fs : List Fd) (w : World) (hf : RdF w A n fs) (hn : n ≤ 1073741824) (hsz : Bsz 1048576 fs) :
    Calls Tryz.prog 30 #[.slice A n c] w fun e w' => e = .returned (rtV ((tgF fs).map (·.2))) ∧ Ext w w' := by
  have HA := Lib.hid (ref_All A n c fs etN w hf hn (by decide) (fun f hf => Nat.le_trans (hsz f hf).1 (by decide)))
  have Hv := Lib.hid (bsz_vals (name := etN) hsz)
  have Hd := Lib.hid (show tgF fs = oneT (allS fs etN) from rfl)
  generalize tgF fs = D at *
  generalize allS fs etN = L at *
  go_enter Tryz.func30, Tryz.ntmps30
  go_wp2_with fail
  refine HA.out.mono ?_; rintro e w1 ⟨A1, n1, c1, rfl, hr1, hc1, hb1⟩
  have hl1 := hr1.lenS
  by_cases h1 : n1 = 1
  · subst h1
    match L, hl1 with
    | [v], _ =>
    obtain ⟨b, o, rfl, hc⟩ := hr1.atS (k := 0) Nat.one_pos
    rw [Nat.add_zero] at hc
    have hc : w1.cell? ⟨b, o, none⟩ = some (.string v) := hc
    have HD := Lib.hid (show txtS (wkR v) = D.map (·.2) by rw [← tag_snd, Hd.out]; rfl)
    have Hvs := Lib.hid (Hv.out v (List.mem_cons_self ..))
    have hP := ref15_tag v
    generalize txtS (wkR v) = P at *
    have HP := Lib.hid hP; clear hP hl1
    go_wp2_with fail
    refine (HP.out _ Hvs.out).mono ?_; rintro e w2 ⟨rfl, hb2⟩
    cases P with
    | none =>
      have HD := Lib.hid (show rtV none = rtV (D.map (·.2)) by rw [← HD.out])
      rw [show rtV none = .tuple #[.string ⟨#[]⟩, .bool false] from rfl]
      go_wp2_with fail
      go_ret2
      exact ⟨ret_v HD.out, hb1.trans hb2⟩
    | some t =>
      have HD := Lib.hid (show rtV (some t) = rtV (D.map (·.2)) by rw [← HD.out])
      rw [show rtV (some t) = .tuple #[.string t, .bool true] from rfl]
      go_wp2_with fail
      go_ret2
      exact ⟨ret_v HD.out, hb1.trans hb2⟩
  · have hz : ((n1 : Int) != 1) = true := by simp; omega
    have HD := Lib.hid (show rtV none = rtV (D.map (·.2)) by rw [Hd.out, oneT_no' (by omega)]; rfl)
    clear hl1 h1
    go_wp2_with fail
    go_ret2
    exact ⟨ret_v HD.out, hb1⟩

set_option maxHeartbeats 2000000 in
set_option maxRecDepth 100000 in
theorem ref15_Validator (A : Option Addr) (n c : Nat) (fs : List Fd) (w : World) (hf : RdF w A n fs) (hn : n ≤ 1073741824) (hsz : Bsz 1048576 fs) :
    Calls Tryz.prog 21 #[.slice A n c] w fun e w' => e = .returned (.bool (vlF fs)) ∧ Ext w w' := by
  have HT := Lib.hid (ref15_Tag A n c fs w hf hn hsz)
  have HD := Lib.hid (fun w' (h : Ext w w') => ref_Date A n c fs lmN w' (hf.ext h) hn (by decide) hsz)
  have Hv := Lib.hid (show vlF fs = ((tgF fs).isSome || (dateS fs lmN).isSome) from rfl)
  generalize vlF fs = V at *
  generalize tgF fs = T at *
  generalize dateS fs lmN = D at *
  go_enter Tryz.func21, Tryz.ntmps21
  go_wp2_with fail
  refine HT.out.mono ?_; rintro e w1 ⟨rfl, hb1⟩
  cases T with
  | none =>
    rw [show rtV ((none : Option (Bool × ByteArray)).map (·.2)) = .tuple #[.string ⟨#[]⟩, .bool false] from rfl]
    go_wp2_with fail
    refine (HD.out _ hb1).mono ?_; rintro e w2 ⟨⟨k, rfl, hk⟩, hb2⟩
    have HL := Lib.hid (show D.isSome = V by rw [Hv.out]; rfl)
    clear hk
    cases hD : D.isSome
    all_goals
      rw [hD] at HL
      go_wp2_with fail
      go_ret
      exact ⟨ret_b HL.out, hb1.trans hb2⟩
  | some t =>
    rw [show rtV ((some t).map (·.2)) = .tuple #[.string t.2, .bool true] from rfl]
    go_wp2_with fail
    refine (HD.out _ hb1).mono ?_; rintro e w2 ⟨⟨k, rfl, hk⟩, hb2⟩
    have HL := Lib.hid (show true = V by rw [Hv.out]; rfl)
    clear hk
    go_wp2_with fail
    go_ret
    exact ⟨ret_b HL.out, hb1.trans hb2⟩

theorem any_none' {V : List ByteArray} {k : Nat} (hk : k < V.length) (h : (V.take k).any stE = false) (hx : stE V[k] = false) : (V.take (k + 1)).any stE = false := by
  rw [take_step V k hk, List.any_append, h]; simp [hx]
theorem any_some' {V : List ByteArray} {k : Nat} (hk : k < V.length) (hx : stE V[k] = true) : true = V.any stE :=
  (List.any_eq_true.2 ⟨V[k], List.getElem_mem hk, hx⟩).symm
theorem stE_no' {v : ByteArray} (h : partsS v 44 = none) : stE v = true := by unfold stE; rw [h]; rfl
theorem stE_yes' {v : ByteArray} {P : List ByteArray} (h : partsS v 44 = some P) : stE v = hasS (itemsS v) starC := by unfold stE; rw [h]; rfl
set_option maxHeartbeats 2000000 in
set_option maxRecDepth 100000 in
theorem ref15_star (A : Option Addr) (n c : Nat) (fs : List Fd) (w : World) (hf : RdF w A n fs) (hn : n ≤ 1073741824) (hsz : Bsz 1048576 fs) :
    Calls Tryz.prog 20 #[.slice A n c] w fun e w' => e = .returned (.bool (stF fs)) ∧ Ext w w' := by
  have HA := Lib.hid (ref_All A n c fs vaN w hf hn (by decide) (fun f hf => Nat.le_trans (hsz f hf).1 (by decide)))
  have Hv := Lib.hid (bsz_vals (name := vaN) hsz)
  have Hln := Lib.hid (len_all' hf vaN)
  have Hd := Lib.hid (show stF fs = (allS fs vaN).any stE from rfl)
  generalize stF fs = S at *
  generalize allS fs vaN = V at *
  go_enter Tryz.func20, Tryz.ntmps20
  go_wp2_with fail
  refine HA.out.mono ?_; rintro e w1 ⟨A1, n1, c1, rfl, hr1, hc1, hb1⟩
  have Hl1 := Lib.hid hr1.lenS
  have hn1 : n1 ≤ 1073741824 := by have := Hl1.out; have := Hln.out; omega
  go_wp2_with fail
  go_loopw [12] (fun i wr => ∃ k, k ≤ n1 ∧ i = .int .i64 (k : Nat) ∧ (V.take k).any stE = false ∧ Ext w1 wr) (fun i _ => n1 - (intOf i).toNat)
  case atStart => exact ⟨0, Nat.zero_le _, rfl, rfl, Ext.refl _⟩
  case round =>
    obtain ⟨k, hk, rfl, hall, hbr⟩ := hrel
    have Hall := Lib.hid hall; clear hall
    by_cases hlt : k < n1
    · have hlt' : k < V.length := by have := Hl1.out; omega
      obtain ⟨b, o, rfl, hc0⟩ := (hr1.ext hbr).atS hlt'
      have Hvs := Lib.hid (Hv.out V[k] (List.getElem_mem hlt'))
      have Hy := Lib.hid (fun h => Hd.out.trans (any_some' hlt' h).symm)
      have Hz := Lib.hid (fun h => any_none' hlt' Hall.out h)
      have Hno := Lib.hid (@stE_no' V[k])
      have Hye := Lib.hid (fun P => @stE_yes' V[k] P)
      generalize V[k] = x at *
      generalize stE x = X at *
      go_wp2_with fail
      refine (ref_List x _ Hvs.out).mono ?_; rintro e w4 ⟨A4, n4, c4, rfl, hr4, hc4, hb4⟩
      cases hp : partsS x 44 with
      | none =>
        have HS := Lib.hid (Hy.out (Hno.out hp)).symm; clear hp
        rw [show (none : Option (List ByteArray)).isSome = false from rfl]
        go_wp2_with fail
        go_ret
        exact ⟨ret_b HS.out, hb1.trans (hbr.trans hb4)⟩
      | some P =>
        have HX := Lib.hid (Hye.out P hp); clear hp
        rw [show (some P).isSome = true from rfl]
        have hil := (items_all (s := x)).2
        have hl4 := hr4.lenS
        have hv2 : n4 ≤ 1048577 := by have := Hvs.out; omega
        have Hl4 := Lib.hid hl4
        clear hil hl4
        generalize itemsS x = I at *
        have Hy2 := Lib.hid (fun (h : starC ∈ I) => (Hy.out (HX.out.trans (hasS_iff.2 h))).symm)
        have Hz2 := Lib.hid (fun (h : starC ∉ I) => Hz.out (HX.out.trans (Bool.eq_false_iff.2 fun e => h (hasS_iff.1 e))))
        clear HX Hy Hz
        go_wp2_with fail
        obtain ⟨wq, hwq⟩ : ∃ wq : World, wq = wr := ⟨_, rfl⟩
        go_loopw [25] (fun i wi => ∃ j, j ≤ n4 ∧ i = .int .i64 (j : Nat) ∧ starC ∉ I.take j ∧ Ext w4 wi) (fun i _ => n4 - (intOf i).toNat)
        case atStart => exact ⟨0, Nat.zero_le _, rfl, by simp, Ext.refl _⟩
        case round =>
          obtain ⟨j, hj, rfl, hno, hbi⟩ := hrel
          have Hno2 := Lib.hid hno; clear hno
          by_cases hjt : j < n4
          · have hjt' : j < I.length := by have := Hl4.out; omega
            obtain ⟨b2, o2, rfl, hd0⟩ := (hr4.ext hbi).atS hjt'
            by_cases hx : I[j] = starC
            · have HS := Lib.hid (Hy2.out (hx ▸ List.getElem_mem hjt'))
              rw [hx] at hd0
              have hz : (starC.toList == [42]) = true := by decide +kernel
              clear hx
              go_wp2_with fail
              go_ret
              exact ⟨ret_b HS.out, hb1.trans (hbr.trans (hb4.trans hbi))⟩
            · have Hn3 := Lib.hid (show starC ∉ I.take (j + 1) by rw [take_step I j hjt']; simp only [List.mem_append, List.mem_singleton, not_or]; exact ⟨Hno2.out, fun e => hx e.symm⟩)
              have hz : (I[j].toList == [42]) = false := (by have h := eqS_no (b := starC) hx; rw [show starC.toList = [42] from by decide +kernel] at h; exact h)
              generalize I[j] = y at *
              clear hx
              go_wp2_with fail
              go_roundw
              case rel => exact ⟨j + 1, by omega, by go_num, Hn3.out, hbi⟩
              case measure => simp [intOf]; omega
          · obtain rfl : j = n4 := by omega
            have HZ := Lib.hid (Hz2.out (by have := Hno2.out; rw [List.take_of_length_le (by have := Hl4.out; omega)] at this; exact this))
            clear hjt Hno2
            go_wp2_with fail
            go_roundw
            case rel => exact ⟨k + 1, by omega, by go_num, HZ.out, hbr.trans (hb4.trans hbi)⟩
            case measure => simp [intOf]; omega
    · obtain rfl : k = n1 := by omega
      have he : V.take k = V := List.take_of_length_le (by have := Hl1.out; omega)
      have HS := Lib.hid (show false = S by rw [Hd.out, ← he]; exact Hall.out.symm)
      clear he hlt
      go_wp2_with fail
      go_ret
      exact ⟨ret_b HS.out, hb1.trans hbr⟩
end Go.Proofs.YtphgaommokgfcaaGreatDoor

namespace Go.Proofs.YtphgaommokgfcaaGreatDoor
open Go.RowKit

theorem bsz14_of_sumF : ∀ (fs : List Fd), Bsz (sumF fs) fs
  | [] => fun f hf => by cases hf
  | x :: l => fun f hf => by
    have hs : sumF (x :: l) = x.1.size + x.2.size + sumF l := by simp [sumF]
    rcases List.mem_cons.1 hf with rfl | hf
    · omega
    · have := bsz14_of_sumF l f hf
      omega
theorem sumF_app14 (fs gs : List Fd) : sumF (fs ++ gs) = sumF fs + sumF gs := by simp [sumF]
/-- Are there more bytes than the statements use? -/
def lg14 (fs : List Fd) : Bool := decide (4000 < 2 * fs.length + sumF fs)
def aw14 : List Fd := [(ccN, ⟨#[109, 97, 120, 45, 97, 103, 101, 61, 54, 48, 44, 32, 115, 45, 109, 97, 120, 97, 103, 101, 61, 49, 48]⟩)]
theorem aw14_of : ofS 200 aw14 = (10000, 1) := by decide +kernel
theorem aw14_sum : sumF aw14 = 36 := by decide +kernel
theorem lg_no14 {fs : List Fd} (h : lg14 fs = false) : 2 * fs.length + sumF fs ≤ 4000 := by
  unfold lg14 at h
  have := of_decide_eq_false h
  omega

def wdL4 : List ByteArray := [mrW, ncW, smW, prW]
theorem strict_all (fs : List Fd) {k : Nat} (h : k < 4) : alwS (fs ++ [(lowS ccN, wdL4[k]'h)]) = (0, 0) := by
  have : k = 0 ∨ k = 1 ∨ k = 2 ∨ k = 3 := by omega
  rcases this with rfl | rfl | rfl | rfl
  · exact strict_mr fs
  · exact strict_nc fs
  · exact strict_sm fs
  · exact strict_pr fs
theorem wd_small {k : Nat} (h : k < 4) : (wdL4[k]'h).size ≤ 100 := by
  have : k = 0 ∨ k = 1 ∨ k = 2 ∨ k = 3 := by omega
  rcases this with rfl | rfl | rfl | rfl
  · show mrW.size ≤ 100; decide
  · show ncW.size ≤ 100; decide
  · show smW.size ≤ 100; decide
  · show prW.size ≤ 100; decide
end Go.Proofs.YtphgaommokgfcaaGreatDoor
