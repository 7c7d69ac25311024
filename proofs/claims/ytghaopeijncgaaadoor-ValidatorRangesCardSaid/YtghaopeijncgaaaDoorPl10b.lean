
/- Plain laws of ValidatorPrecedence, ValidatorSafe, ValidatorRanges: what Evaluate and UseRange say of lists that Set, Add, Remove have changed. No program in sight. -/
import Derived.Test.YtghaopeijncgaaaDoorEv4
import Derived.Test.YtghaopeijncgaaaDoorPlain3
import Derived.Test.YtghaopeijncgaaaDoorL10a
namespace Go.Proofs.YtghaopeijncgaaaDoor

theorem getO_one {fs : List Fd} {o v : ByteArray} (h : allS fs o = [v]) : getO fs o = some v := by
  unfold getO; rw [h, joinS_one]; rfl
theorem getO_nil {fs : List Fd} {o : ByteArray} (h : allS fs o = []) : getO fs o = none := by unfold getO; rw [h]; rfl
theorem getO_eq {fs gs : List Fd} {o : ByteArray} (h : allS fs o = allS gs o) : getO fs o = getO gs o := by unfold getO; rw [h]
theorem dateF_eq {fs gs : List Fd} {o : ByteArray} (h : allS fs o = allS gs o) : dateF fs o = dateF gs o := by unfold dateF; rw [getO_eq h]
theorem dateF_nil {fs : List Fd} {o : ByteArray} (h : allS fs o = []) : dateF fs o = none := by unfold dateF; rw [getO_nil h]; rfl

theorem low_im : lowS imN = imN := by decide +kernel
theorem low_ius : lowS iusN = iusN := by decide +kernel
theorem low_inm : lowS inmN = inmN := by decide +kernel
theorem low_ims : lowS imsN = imsN := by decide +kernel
theorem d_im_ius : lowS iusN ≠ lowS imN := by decide +kernel
theorem d_im_inm : lowS imN ≠ lowS inmN := by decide +kernel
theorem d_im_ims : lowS imN ≠ lowS imsN := by decide +kernel
theorem d_inm_ius : lowS inmN ≠ lowS iusN := by decide +kernel
theorem d_inm_ims : lowS inmN ≠ lowS imsN := by decide +kernel
theorem d_ius_ims : lowS iusN ≠ lowS imsN := by decide +kernel

theorem sumF_cons (f : Fd) (fs : List Fd) : sumF (f :: fs) = f.1.size + f.2.size + sumF fs := by simp [sumF]
theorem sumF_nil : sumF [] = 0 := rfl
theorem sumF_app (fs gs : List Fd) : sumF (fs ++ gs) = sumF fs + sumF gs := by simp [sumF]
theorem sumF_rem (name : ByteArray) : ∀ fs : List Fd, sumF (remS fs name) ≤ sumF fs
  | [] => Nat.le_refl _
  | f :: r => by
    have := sumF_rem name r
    unfold remS at *
    rw [List.filter_cons]
    split
    · rw [sumF_cons, sumF_cons]; omega
    · rw [sumF_cons]; omega
theorem sumF_set (name value : ByteArray) : ∀ fs : List Fd, sumF (setS name value fs) ≤ sumF fs + name.size + value.size
  | [] => by rw [setS, sumF_cons, sumF_nil]; simp only [lowS_size]; omega
  | f :: r => by
    unfold setS
    split
    · have := sumF_rem name r
      rw [sumF_cons, sumF_cons]; simp only [lowS_size]; omega
    · have := sumF_set name value r
      rw [sumF_cons, sumF_cons]; omega
theorem bsz_of_sum : ∀ (fs : List Fd), Bsz (sumF fs) fs
  | [] => fun f hf => by cases hf
  | x :: l => fun f hf => by
    have hs := sumF_cons x l
    rcases List.mem_cons.1 hf with rfl | hf
    · omega
    · have := bsz_of_sum l f hf
      omega

/-- Beside if-match, if-unmodified-since changes nothing. -/
theorem prec_im (m : ByteArray) (fs : List Fd) (st : St) (tags date : ByteArray) : evF m (setS iusN date (setS imN tags fs)) st = evF m (setS imN tags fs) st := by
  have h1 : allS (setS iusN date (setS imN tags fs)) imN = [tags] := by rw [allS_set_other _ d_im_ius, allS_set_same]
  have h2 : allS (setS imN tags fs) imN = [tags] := allS_set_same _ _ _
  unfold evF evS
  rw [getO_one h1, getO_one h2, getO_eq (allS_set_other date d_inm_ius.symm (setS imN tags fs)), dateF_eq (allS_set_other date d_ius_ims (setS imN tags fs))]
  rfl
/-- Beside if-none-match, if-modified-since changes nothing. -/
theorem prec_inm (m : ByteArray) (fs : List Fd) (st : St) (tags date : ByteArray) : evF m (setS imsN date (setS inmN tags fs)) st = evF m (setS inmN tags fs) st := by
  have h1 : allS (setS imsN date (setS inmN tags fs)) inmN = [tags] := by rw [allS_set_other _ d_inm_ims.symm, allS_set_same]
  have h2 : allS (setS inmN tags fs) inmN = [tags] := allS_set_same _ _ _
  unfold evF evS
  rw [getO_one h1, getO_one h2, getO_eq (allS_set_other date d_im_ims.symm (setS inmN tags fs)), dateF_eq (allS_set_other date d_ius_ims.symm (setS inmN tags fs))]
  rfl

theorem evF_range (m : ByteArray) (fs : List Fd) (st : St) : (evF m fs st = 1 ∨ evF m fs st = 2 ∨ evF m fs st = 3) ∧ (evF m fs st = 2 → isR m = true) := by
  unfold evF evS
  generalize evA _ _ _ = a
  generalize norm st = s
  cases a
  · simp only [Bool.false_eq_true, if_false]
    unfold evB
    cases getO fs inmN with
    | some v =>
      show ((if matS v s false = true then _ else _) = _ ∨ (if matS v s false = true then _ else _) = _ ∨ (if matS v s false = true then _ else _) = _) ∧ ((if matS v s false = true then _ else _) = _ → _)
      generalize matS v s false = b
      cases b <;> cases isR m <;> simp
    | none =>
      cases dateF fs imsN with
      | none => simp
      | some n => cases isR m <;> cases s.hm <;> by_cases h : s.md ≤ n <;> simp [h]
  · simp
/-- Without conditions. -/
def bareF (fs : List Fd) : Prop := allS fs imN = [] ∧ allS fs inmN = [] ∧ allS fs imsN = [] ∧ allS fs iusN = []
def bareS (fs : List Fd) : List Fd := remS (remS (remS (remS fs imN) inmN) imsN) iusN
theorem bare_ok (fs : List Fd) : bareF (bareS fs) := by
  unfold bareS
  refine ⟨?_, ?_, ?_, allS_rem_same _ _⟩
  · rw [allS_rem_other _ d_im_ius, allS_rem_other _ d_im_ims.symm, allS_rem_other _ d_im_inm.symm, allS_rem_same]
  · rw [allS_rem_other _ d_inm_ius.symm, allS_rem_other _ d_inm_ims.symm, allS_rem_same]
  · rw [allS_rem_other _ d_ius_ims, allS_rem_same]
theorem evF_bare (m : ByteArray) {fs : List Fd} (st : St) (h : bareF fs) : evF m fs st = 1 := by
  obtain ⟨h1, h2, h3, h4⟩ := h
  unfold evF evS
  rw [getO_nil h1, dateF_nil h4, getO_nil h2, dateF_nil h3]
  rfl
def starV : ByteArray := ⟨#[42]⟩
def starB : ByteArray := ⟨#[32, 42, 32]⟩
theorem mat_star (st : St) (b : Bool) : matS starV st b = st.ex := by
  unfold matS
  rw [show tgO starV = some [] by decide +kernel, show isStar starV = true by decide +kernel]; rfl
theorem mat_starB (st : St) (b : Bool) : matS starB st b = st.ex := by
  unfold matS
  rw [show tgO starB = some [] by decide +kernel, show isStar starB = true by decide +kernel]; rfl
theorem evF_im (m : ByteArray) {fs : List Fd} (st : St) (h : bareF fs) : evF m (fs ++ [(lowS imN, starV)]) st = if st.ex then 1 else 3 := by
  obtain ⟨h1, h2, h3, h4⟩ := h
  unfold evF evS
  rw [getO_one (v := starV) (by rw [allS_add_same, h1]; rfl), getO_nil (by rw [allS_add_other _ _ d_im_inm, h2]), dateF_nil (by rw [allS_add_other _ _ d_im_ius.symm, h4]), dateF_nil (by rw [allS_add_other _ _ d_im_ims, h3])]
  simp only [evA, mat_star, evB, norm]
  cases st.ex <;> rfl
theorem evF_inm (m : ByteArray) {fs : List Fd} (st : St) (h : bareF fs) : evF m (fs ++ [(lowS inmN, starB)]) st = if st.ex then (if isR m then 2 else 3) else 1 := by
  obtain ⟨h1, h2, h3, h4⟩ := h
  unfold evF evS
  rw [getO_one (v := starB) (fs := fs ++ [(lowS inmN, starB)]) (o := inmN) (by rw [allS_add_same, h2]; rfl), getO_nil (o := imN) (by rw [allS_add_other _ _ d_im_inm.symm, h1]), dateF_nil (by rw [allS_add_other _ _ d_inm_ius, h4]), dateF_nil (by rw [allS_add_other _ _ d_inm_ims, h3])]
  simp only [evA, mat_starB, evB, norm]
  cases st.ex <;> simp
theorem remS_len' (fs : List Fd) (name : ByteArray) : (remS fs name).length ≤ fs.length := remS_le fs name
theorem bare_bd (fs : List Fd) : (bareS fs).length ≤ fs.length ∧ sumF (bareS fs) ≤ sumF fs := by
  unfold bareS
  have a1 := remS_le fs imN
  have a2 := remS_le (remS fs imN) inmN
  have a3 := remS_le (remS (remS fs imN) inmN) imsN
  have a4 := remS_le (remS (remS (remS fs imN) inmN) imsN) iusN
  have b1 := sumF_rem imN fs
  have b2 := sumF_rem inmN (remS fs imN)
  have b3 := sumF_rem imsN (remS (remS fs imN) inmN)
  have b4 := sumF_rem iusN (remS (remS (remS fs imN) inmN) imsN)
  omega

theorem dateP_fmt {s : ByteArray} {n : Int} (h : dateP s = some n) : fmtS n = s := by
  unfold dateP at h
  split at h
  · unfold dateQ at h
    split at h
    · cases h
    · split at h
      · split at h
        · rename_i he
          injection h with h
          rw [← h]
          exact eqS_iff.1 he
        · cases h
      · cases h
  · cases h
def getM : ByteArray := ⟨#[71, 69, 84]⟩
def headM : ByteArray := ⟨#[72, 69, 65, 68]⟩
def ifrN : ByteArray := ⟨#[73, 102, 45, 82, 97, 110, 103, 101]⟩
def wsP : ByteArray := ⟨#[87, 47]⟩
def d37 : ByteArray := ⟨#[83, 117, 110, 44, 32, 48, 54, 32, 78, 111, 118, 32, 49, 57, 57, 52, 32, 48, 56, 58, 52, 57, 58, 51, 55, 32, 71, 77, 84]⟩
def d38 : ByteArray := ⟨#[83, 117, 110, 44, 32, 48, 54, 32, 78, 111, 118, 32, 49, 57, 57, 52, 32, 48, 56, 58, 52, 57, 58, 51, 56, 32, 71, 77, 84]⟩
def stR (tw : Bool) (tt : ByteArray) : St := ⟨true, true, true, tw, tt, 784111777⟩
theorem all_ifr (v : ByteArray) : allS [(ifrN, v)] irN = [v] := by
  unfold allS
  rw [List.filter_cons, if_pos (show isN irN (ifrN, v) = true by show ((lowS ifrN).toList == (lowS irN).toList) = true; decide +kernel)]; rfl
theorem ur_one (v : ByteArray) (st : St) : urF getM [(ifrN, v)] st = urV v st := by
  unfold urF
  rw [getO_one (all_ifr v), show (getM.toList == [71, 69, 84]) = true by decide +kernel]; rfl
theorem ur_text {tw : Bool} {tt W : ByteArray} (h : wrO tw tt = some W) : urV W (stR tw tt) = !tw := by
  unfold urV
  rw [wr_back h]
  simp only [stR, eqT]
  cases tw <;> simp
theorem wr_shape {tw : Bool} {tt W : ByteArray} (h : wrO tw tt = some W) : W = wrS tw tt ∧ rightS tt = true := by
  unfold wrO at h
  split at h
  · rename_i hr
    injection h with h
    exact ⟨h.symm, hr⟩
  · cases h
theorem fmt_now : fmtS 784111777 = d37 := by decide +kernel
theorem ur_weak {tw : Bool} {tt W : ByteArray} (h : wrO tw tt = some W) : urV (wsP ++ W) (stR tw tt) = false := by
  obtain ⟨rfl, hr⟩ := wr_shape h
  cases tw
  · have hw : wsP ++ wrS false tt = wrS true tt := by
      apply bytes_ext
      unfold wrS
      simp only [data_append]
      rfl
    have hb : wrO true tt = some (wrS true tt) := by unfold wrO; rw [if_pos hr]
    unfold urV
    rw [hw, wr_back hb]
    rfl
  · have hl : (wsP ++ wrS true tt).data.toList = 87 :: 47 :: 87 :: 47 :: 34 :: (tt.data.toList ++ [34]) := by unfold wrS; rw [data_append, data_append, data_append]; rfl
    have ht : tagS (wsP ++ wrS true tt) = none := by
      refine tag_none ?_
      have hp : Lib.hasPrefix (87 :: 47 :: 87 :: 47 :: 34 :: (tt.data.toList ++ [34])) [87, 47] = true := by simp [Lib.hasPrefix, List.isPrefixOf]
      have hk : (wkR (wsP ++ wrS true tt)).data.toList = 87 :: 47 :: 34 :: (tt.data.toList ++ [34]) := by
        unfold wkR Lib.trimPrefix
        rw [hl, hp]
        rfl
      have hsz : (wkR (wsP ++ wrS true tt)).size = tt.size + 4 := by
        have := congrArg List.length hk
        simp only [Array.length_toList, List.length_cons, List.length_append, List.length_nil] at this
        show (wkR (wsP ++ wrS true tt)).data.size = _
        rw [this]; show tt.data.size + _ + 1 + 1 + 1 = tt.data.size + 4; omega
      refine txt_no0 (by omega) ?_
      have h1 : (wkR (wsP ++ wrS true tt)).data.toList[0]'(by rw [hk]; simp) = 87 := by simp only [hk]; rfl
      rw [show (wkR (wsP ++ wrS true tt))[0]'(by omega) = 87 from h1]
      decide
    unfold urV
    rw [ht]
    simp only []
    cases hd : dateP (wsP ++ wrS true tt) with
    | none => rfl
    | some n =>
      simp only [stR, Bool.true_and]
      rw [beq_eq_false_iff_ne]
      rintro rfl
      have := dateP_fmt hd
      rw [fmt_now] at this
      have := congrArg (fun x => x.data.toList.head?) this
      simp only [hl] at this
      rw [show d37.data.toList.head? = some 83 from rfl, List.head?_cons] at this
      exact absurd this (by decide)
theorem tag_d37 : tagS d37 = none := by decide +kernel
theorem tag_d38 : tagS d38 = none := by decide +kernel
theorem date_d37 : dateP d37 = some 784111777 := by decide +kernel
theorem date_d38 : dateP d38 = some 784111778 := by decide +kernel
theorem ur_d37 (tw : Bool) (tt : ByteArray) : urV d37 (stR tw tt) = true := by
  unfold urV; rw [tag_d37]; simp only []; rw [date_d37]; rfl
theorem ur_d38 (tw : Bool) (tt : ByteArray) : urV d38 (stR tw tt) = false := by
  unfold urV; rw [tag_d38]; simp only []; rw [date_d38]; rfl
theorem ur_other {tw : Bool} {tt other W : ByteArray} (h : wrO false other = some W) (hne : other ≠ tt) : urV W (stR tw tt) = false := by
  unfold urV
  rw [wr_back h]
  simp only [stR, eqT]
  rw [eqS_no hne]
  simp
theorem ur_head (fs : List Fd) (st : St) : urF headM fs st = false := by
  unfold urF; rw [show (headM.toList == [71, 69, 84]) = false by decide +kernel]; rfl
theorem ur_nil (st : St) : urF getM [] st = true := by
  unfold urF; rw [show (getM.toList == [71, 69, 84]) = true by decide +kernel]; rfl
end Go.Proofs.YtghaopeijncgaaaDoor
