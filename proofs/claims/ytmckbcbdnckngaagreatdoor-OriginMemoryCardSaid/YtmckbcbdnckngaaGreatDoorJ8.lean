/- The sizes of the fields of an answer: the lengths of its texts. Arguments of the laws on the origin, opened: slices of any elements; bytes, rows of bytes. Plain facts on readings. -/
import Derived.Test.YtmckbcbdnckngaaGreatDoorJ7
import Derived.Lib.SmallJoins
set_option linter.unusedSimpArgs false
set_option linter.unusedVariables false
namespace Go.Proofs.YtmckbcbdnckngaaGreatDoor
open Go.RowKit

theorem sumF_fil (p : Fd → Bool) : ∀ fs : List Fd, sumF (fs.filter p) ≤ sumF fs
  | [] => Nat.le_refl _
  | f :: r => by
    have := sumF_fil p r
    rw [List.filter_cons]
    split
    · rw [sumF_cons, sumF_cons]; omega
    · rw [sumF_cons]; omega
theorem AZ_part {a : Ans} {r : Rq} {s : St} (h1 : sumF a.fs ≤ 393216) (h3 : a.body.size ≤ 1048576) : sumF (partS a r s).fs ≤ 393400 := by
  have h0 : sumF a.fs ≤ 393400 := by omega
  unfold partS
  split
  · split
    · exact h0
    · split
      · have z := decV_size (n := (a.body.size : Int)) (by omega)
        simp only
        rw [sumF_cons, sumF_nil]
        simp only [ByteArray.size_append, show x_cr.size = 13 from rfl, show (⟨#[98, 121, 116, 101, 115, 32, 42, 47]⟩ : ByteArray).size = 8 from rfl]
        omega
      · split
        · split
          · rename_i text ht
            have z := crP_size ht
            have := sumF_set x_cr text a.fs
            simp only [show x_cr.size = 13 from rfl] at this ⊢
            omega
          · exact h0
        · exact h0
  · exact h0
theorem AZ_ver {a : Ans} {v : Ver} {r : Rq} (hB : VerB v) : sumF (verS a v r).fs ≤ 393400 := by
  obtain ⟨c1, c2, c3⟩ := chs_bd v r.fs 0 hB.body hB.fs.1 hB.fs.2 0 v.vars (fun x hx => ⟨(hB.each x hx).2.2.1, (hB.each x hx).2.2.2⟩)
  unfold verS
  simp only
  split
  · show sumF (chsS v r.fs 0 v.vars).1 ≤ _; omega
  · split
    · exact Nat.le_trans (sumF_fil _ _) (by show sumF (chsS v r.fs 0 v.vars).1 ≤ _; omega)
    · split
      · exact Nat.zero_le _
      · exact AZ_part c2 c3
theorem AZ_dec {o : Org} {t : Int} {r : Rq} (h : ∀ x ∈ o.vs, VerB x.2) : sumF (decS55 o t r).fs ≤ 393400 := by
  have hb : sumF brief ≤ 393400 := by decide
  unfold decS55
  split
  · exact Nat.zero_le _
  · split
    · exact Nat.zero_le _
    · split
      · split
        · exact Nat.zero_le _
        · simp only
          split
          · rename_i p hp
            split
            · exact hb
            · exact AZ_ver (h p (List.mem_of_getElem? hp))
          · exact hb
      · exact Nat.zero_le _
theorem ans_sz {o : Org} {t : Int} {r : Rq} (h : ∀ x ∈ o.vs, VerB x.2) : (answS o t r).2.1.length ≤ 131077 ∧ sumF (answS o t r).2.1 ≤ 400000 := by
  have h1 := AB_dec (o := o) (t := cl55 t) (r := r) h
  have h2 := AZ_dec (o := o) (t := cl55 t) (r := r) h
  have hc : 0 ≤ cl55 t ∧ cl55 t ≤ 1099511627776 := by unfold cl55; omega
  have hd := fmtS_len (n := cl55 t / 1000) (by omega) (by omega)
  have hl := h1.len; have hbd := h1.bdy
  rw [answ_eq]
  simp only
  unfold ansF
  generalize decS55 o (cl55 t) r = A at *
  generalize fmtS (cl55 t / 1000) = d at *
  have z := decV_size (n := (A.body.size : Int)) (by omega)
  have e1 := setS_len x_dt d A.fs
  have e2 := setS_len x_cl (decV A.body.size) (setS x_dt d A.fs)
  have e3 := sumF_set x_dt d A.fs
  have e4 := sumF_set x_cl (decV A.body.size) (setS x_dt d A.fs)
  simp only [show x_dt.size = 4 from rfl, show x_cl.size = 14 from rfl] at e3 e4
  have hd4 : (setS x_dt d A.fs).length ≤ 131076 := by omega
  have hd5 : (setS x_cl (decV A.body.size) (setS x_dt d A.fs)).length ≤ 131077 := by omega
  split
  · exact ⟨by omega, by omega⟩
  · exact ⟨hd5, by omega⟩
/-- The answer to a request that law_get has made, with the sizes of its fields. -/
theorem ans_s {Q R : Nat → Prop} {p : Nat} {o : Org} {M : OM} {t : Int} {me ta : ByteArray} {fs : List Fd} {s : Sl} {w : World} {Qr : Nat → Prop} (hO : OrgP w p R Q o M) (hr : RS Qr w 2 s (fldCells fs)) (hz : sumF fs + 2 * fs.length ≤ 1048576) (htz : ta.size ≤ 1048576)
    (hbr : o.br.length ≤ 1000000) (hlg : o.lg.length ≤ 1000000) (hg : Gl w ∧ GlH w ∧ GlP w) {S : Int} {F : List Fd} {B : ByteArray} {o2 : Org} (ha : answS o t ⟨me, ta, fs⟩ = (S, F, B, o2)) :
    (F.length ≤ 131077 ∧ sumF F ≤ 400000) ∧ Calls Tryz.prog 15 #[.pointer (some ⟨p, 0, none⟩), .int .i64 t, .agg #[.string me, .string ta, s.v]] w fun e w' => ∃ s1 s2 : Sl, e = .returned (.tuple #[.agg #[.int .i64 S, s1.v], s2.v]) ∧
      ∃ R', (∃ M', OrgP w' p R' (fun i => Q i ∨ w.heap.size ≤ i) o2 M') ∧ RS (fun i => i < w.heap.size ∨ R' i) w' 2 s1 (fldCells F) ∧ RS (fun i => i < w.heap.size ∨ R' i) w' 1 s2 (bytC B) ∧
        Keeps R w w' ∧ (∀ i, R i → R' i) ∧ (∀ i, R' i → R i ∨ w.heap.size ≤ i) := by
  have h1 := ans_sz (o := o) (t := t) (r := ⟨me, ta, fs⟩) (fun x hx => (hO.bd x hx).1)
  rw [ha] at h1
  exact ⟨h1, ans_v hO hr hz htz hbr hlg hg ha⟩
/-- field.Get on the fields of an answer. -/
theorem get_F {s : Sl} {F : List Fd} {Q : Nat → Prop} {w : World} (name : ByteArray) (hn : name.size ≤ 1000) (h : RS Q w 2 s (fldCells F)) (hz : F.length ≤ 131077 ∧ sumF F ≤ 400000) :
    Calls Tryz.prog 17 #[.slice s.A s.n s.c, .string name] w fun e w' => e = .returned (getV (getO F name)) ∧ Ext w w' :=
  field_GetO s.A s.n s.c F name w h.rd (by have h1 := h.rd.lenF; omega) (by omega) (fun f hf => by have h1 := bszF F f hf; exact ⟨by omega, by omega⟩) (by have h1 := h.rd.lenF; omega)
end Go.Proofs.YtmckbcbdnckngaaGreatDoor

namespace Go.Proofs.YtmckbcbdnckngaaGreatDoor
open Go.ChangeShapes Go.WideShapes Go.RowKit Go.Deep Go.Joins
section
variable {H : Type} {enc : TypeId × Value → H} {P : Program} {w : World} {base : Nat} {spare : Nat → Bool} {held : Bool}

/-- A slice, opened, where each element reads as some a of α. -/
theorem open_slT {α : Type} [Inhabited α] {t e : TypeId} (ht : P.underlying t = some (.slice e)) {k : Nat} (hk : P.cellsOf e = k) (hk0 : 0 < k) (f : α → List Value) (hfl : ∀ a, (f a).length = k) (Pr : α → DataW H → Prop)
    (hel : ∀ fuel cs x, DataW.trod enc P w base spare held fuel e cs = some x → ∃ a, cs = f a ∧ Pr a x.1) {fuel : Nat} {cs : List Value} {x : DataW H × List MemPlace} (h : DataW.trod enc P w base spare held fuel t cs = some x) :
    ∃ (A : Option Addr) (n c : Nat) (L : List (α × DataW H)), cs = [.slice A n c] ∧ Rd w k A n ((L.map (·.1)).flatMap f) ∧ n ≤ maxLen ∧ n ≤ c ∧ L.length = n ∧ (∀ y ∈ L, Pr y.1 y.2) ∧ Rows.uptoBulkAll (L.map (·.2)) + 1 ≤ Rows.uptoBulk x.1 ∧
      (∀ B, (∀ z ∈ x.1.weights P t, z ≤ B) → ∀ y ∈ L, ∀ z ∈ y.2.weights P e, z ≤ B) := by
  rcases open_slice ht h with ⟨hcs, rfl⟩ | ⟨a, len, cap, m, q, D, Pl, hcs, hb, hl, hm, hmm, rfl, hi⟩
  · exact ⟨none, 0, 0, [], hcs, Rd.none_ _ _ _, Nat.zero_le _, Nat.le_refl _, rfl, fun y hy => (by cases hy), by simp [Rows.uptoBulkAll, Rows.uptoBulk], fun B _ y hy => (by cases hy)⟩
  · rw [hk] at hi
    have hnm : len ≤ m := by rw [hmm]; split <;> omega
    obtain ⟨F, hF⟩ := choose_lt (α := α) (n := m) (p := fun i a' => (∀ j u, (f a')[j]? = some u → w.cell? ((a.add (i * k)).add j) = some u) ∧ Pr a' (D i)) (fun i him => by
      obtain ⟨cs', h1, h2⟩ := hi i him
      obtain ⟨_, hlen, hat⟩ := World.cells?_some h1
      obtain ⟨a', rfl, hd⟩ := hel _ _ _ h2
      refine ⟨a', fun j u hu => ?_, hd⟩
      have hj : j < k := by
        have := (List.getElem?_eq_some_iff.1 hu).1
        rw [hfl] at this; exact this
      have := hat j hj
      rw [this, hu])
    have hlen : ((List.range len).map fun i => (F i, D i)).length = len := by simp
    have hmp : ((List.range len).map fun i => (F i, D i)).map (·.1) = (List.range len).map F := by simp [Function.comp_def]
    have hfl2 : (((List.range len).map F).flatMap f).length = len * k := by
      have : ∀ l : List α, (l.flatMap f).length = l.length * k := by
        intro l
        induction l with
        | nil => simp
        | cons x l ih => rw [List.flatMap_cons, List.length_append, ih, hfl, List.length_cons, Nat.succ_mul]; omega
      rw [this]; simp
    refine ⟨some a, len, cap, (List.range len).map fun i => (F i, D i), hcs, ⟨by rw [hmp, hfl2], fun hpos => ?_⟩, by omega, hl, hlen, fun y hy => ?_, ?_, fun B hB y hy => ?_⟩
    · rw [hmp] at hpos ⊢
      have hn0 : 0 < len := by rw [hfl2] at hpos; exact Nat.pos_of_mul_pos_right hpos
      have h00 : (f (F 0))[0]? = some ((f (F 0))[0]'(by rw [hfl]; exact hk0)) := List.getElem?_eq_getElem _
      obtain ⟨b, o, sp⟩ := a
      have hsp : sp = none := by simpa [Addr.add] using World.cell?_spot ((hF 0 (by omega)).1 0 _ h00)
      subst hsp
      refine ⟨b, o, rfl, fun j u hj => ?_⟩
      have hjl : j < len * k := by
        have := (List.getElem?_eq_some_iff.1 hj).1
        rw [hfl2] at this; exact this
      have hq : j / k < len := (Nat.div_lt_iff_lt_mul hk0).2 hjl
      have hjd : j = j / k * k + j % k := by rw [Nat.mul_comm]; exact (Nat.div_add_mod j k).symm
      have hfa := flat_at f k hfl ((List.range len).map F) (j / k) (j % k) (by simpa using hq) (Nat.mod_lt _ hk0)
      rw [← hjd] at hfa
      rw [hfa] at hj
      simp only [List.getElem_map, List.getElem_range] at hj
      have := (hF (j / k) (by omega)).1 (j % k) u hj
      rw [Go.Deep.add_add, ← hjd, add_plain] at this
      exact this
    · simp only [List.mem_map, List.mem_range] at hy
      obtain ⟨i, hin, rfl⟩ := hy
      exact (hF i (by omega)).2
    · rw [show ((List.range len).map fun i => (F i, D i)).map (·.2) = (List.range len).map D by simp [Function.comp_def]]
      simp only [Rows.uptoBulk]
      omega
    · simp only [List.mem_map, List.mem_range] at hy
      obtain ⟨i, hin, rfl⟩ := hy
      intro z hz
      refine hB z ?_
      simp only [DataW.weights, ht, List.mem_cons, List.mem_append]
      exact Or.inr (Or.inl (weightsAll_mem (i := i) (by simp [hin]) hz))
theorem flat_one {α : Type} (g : α → Value) (l : List α) : l.flatMap (fun a => [g a]) = l.map g := by
  induction l with
  | nil => rfl
  | cons x l ih => rw [List.flatMap_cons, ih]; rfl
theorem u8_of_wf {x : Int} (h : (Lit.int .u8 x).wf = true) : 0 ≤ x ∧ x ≤ 255 := by
  simp [Lit.wf] at h
  have e1 : IntKind.u8.min = 0 := rfl
  have e2 : IntKind.u8.max = 255 := rfl
  omega
theorem u8_byte {x : Int} (h : (Lit.int .u8 x).wf = true) : ∃ c : UInt8, x = (c.toNat : Nat) := by
  obtain ⟨h0, h1⟩ := u8_of_wf h
  refine ⟨UInt8.ofNat x.toNat, ?_⟩
  rw [UInt8.toNat_ofNat']
  omega
theorem bulk_ge {l : List (DataW H)} : l.length ≤ Rows.uptoBulkAll l := by
  induction l with
  | nil => simp
  | cons x l ih =>
    have : 1 ≤ Rows.uptoBulk x := by
      cases x with
      | lit v => cases v <;> simp [Rows.uptoBulk]
      | _ => simp [Rows.uptoBulk]
    simp only [Rows.uptoBulkAll, List.length_cons]; omega
theorem bulk_mem {d : DataW H} : ∀ {l : List (DataW H)}, d ∈ l → Rows.uptoBulk d ≤ Rows.uptoBulkAll l
  | x :: l, h => by
    simp only [Rows.uptoBulkAll]
    rcases List.mem_cons.1 h with rfl | h
    · omega
    · have := bulk_mem h; omega
/-- A row of bytes, opened. -/
theorem open_bytT {t e : TypeId} (ht : P.underlying t = some (.slice e)) (he : P.underlying e = some (.int .u8)) (hk : P.cellsOf e = 1) {fuel : Nat} {cs : List Value} {x : DataW H × List MemPlace} (h : DataW.trod enc P w base spare held fuel t cs = some x) :
    ∃ (b : ByteArray) (s : Sl), cs = [s.v] ∧ RS (fun _ => False) w 1 s (bytC b) ∧ s.n ≤ maxLen ∧ b.size + 1 ≤ Rows.uptoBulk x.1 := by
  obtain ⟨A, n, c, L, hcs, hr, hm, hc, hl, -, hb, -⟩ := open_slT (α := UInt8) ht hk (by decide) (fun c => [.int .u8 c.toNat]) (fun _ => rfl) (fun _ _ => True) (fun fuel cs x hx => by
    obtain ⟨v, e0, d0, f0⟩ := DataW.trod_int he hx
    obtain ⟨c, rfl⟩ := u8_byte f0
    exact ⟨c, e0, trivial⟩) h
  have hz : L.length ≤ Rows.uptoBulkAll (L.map (·.2)) := by simpa using bulk_ge (l := L.map (·.2))
  refine ⟨⟨(L.map (·.1)).toArray⟩, ⟨A, n, c⟩, hcs, ⟨?_, fun _ _ _ hf => hf, hc⟩, hm, ?_⟩
  · rw [flat_one] at hr; exact hr
  · show (L.map (·.1)).toArray.size + 1 ≤ _
    simp; omega
theorem open_byt {t e : TypeId} {v : Value} {d : DataW H} {p : List MemPlace} {r : Reach} {b0 : Nat} (ht : P.underlying t = some (.slice e)) (he : P.underlying e = some (.int .u8)) (hk : P.cellsOf e = 1) (hv : Value.okWide P w r b0 t v) (h : DataW.Trod enc P w base spare held t v d p) :
    ∃ (b : ByteArray) (s : Sl), v = s.v ∧ RS (fun _ => False) w 1 s (bytC b) ∧ s.n ≤ maxLen ∧ b.size + 1 ≤ Rows.uptoBulk d := by
  obtain ⟨a, n, c, rfl⟩ := okWide_slice ht hv
  obtain ⟨fuel, hf⟩ := h
  obtain ⟨b, s, e1, e2, e3, e4⟩ := open_bytT ht he hk hf
  simp only [Value.cells, List.cons.injEq, and_true] at e1
  exact ⟨b, s, e1, e2, e3, e4⟩
/-- A row of rows of bytes, opened. -/
theorem open_byts {t q e : TypeId} {v : Value} {d : DataW H} {p : List MemPlace} {r : Reach} {b0 : Nat} (ht : P.underlying t = some (.slice q)) (hq : P.underlying q = some (.slice e)) (hkq : P.cellsOf q = 1) (he : P.underlying e = some (.int .u8)) (hk : P.cellsOf e = 1) (hv : Value.okWide P w r b0 t v) (h : DataW.Trod enc P w base spare held t v d p) :
    ∃ (L : List (ByteArray × Sl)) (A : Option Addr) (n c : Nat), v = .slice A n c ∧ Rd w 1 A n (L.map fun y => y.2.v) ∧ n ≤ maxLen ∧ n ≤ c ∧ L.length = n ∧ ∀ y ∈ L, RS (fun _ => False) w 1 y.2 (bytC y.1) ∧ y.2.n ≤ maxLen := by
  obtain ⟨a, n, c, rfl⟩ := okWide_slice ht hv
  obtain ⟨fuel, hf⟩ := h
  haveI : Inhabited (ByteArray × Sl) := ⟨(⟨#[]⟩, sl0)⟩
  obtain ⟨A, n', c', L, hcs, hr, hm, hc, hl, hy, -, -⟩ := open_slT (α := ByteArray × Sl) ht hkq (by decide) (fun y => [y.2.v]) (fun _ => rfl) (fun y _ => RS (fun _ => False) w 1 y.2 (bytC y.1) ∧ y.2.n ≤ maxLen) (fun fuel cs x hx => by
    obtain ⟨b, s, e1, e2, e3, -⟩ := open_bytT hq he hk hx
    exact ⟨(b, s), e1, e2, e3⟩) hf
  simp only [Value.cells, List.cons.injEq, and_true] at hcs
  rw [flat_one] at hr
  refine ⟨L.map (·.1), A, n', c', hcs, hr, hm, hc, by simpa using hl, fun y h2 => ?_⟩
  obtain ⟨z, hz, rfl⟩ := List.mem_map.1 h2
  exact hy z hz
/-- A slice of strings, opened, with the weight of each. -/
theorem open_strW {t e : TypeId} {v : Value} {d : DataW H} {p : List MemPlace} {r : Reach} {b0 : Nat} (ht : P.underlying t = some (.slice e)) (he : P.underlying e = some .string) (hk : P.cellsOf e = 1) (hv : Value.okWide P w r b0 t v) (h : DataW.Trod enc P w base spare held t v d p) :
    ∃ (L : List ByteArray) (A : Option Addr) (n c : Nat), v = .slice A n c ∧ RdS w A n L ∧ n ≤ maxLen ∧ n ≤ c ∧ (∀ B, (∀ x ∈ d.weights P t, x ≤ B) → ∀ s ∈ L, s.size ≤ B) := by
  obtain ⟨a, n, c, rfl⟩ := okWide_slice ht hv
  obtain ⟨fuel, hf⟩ := h
  obtain ⟨A, n', c', L, hcs, hr, hm, hc, hl, hy, -, hw⟩ := open_slT (α := ByteArray) ht hk (by decide) (fun y => [.string y]) (fun _ => rfl) (fun y d' => d' = .lit (.string y.data.toList)) (fun fuel cs x hx => by
    obtain ⟨b, e1, rfl, e3⟩ := DataW.trod_string he hx
    exact ⟨b, e1, rfl⟩) hf
  simp only [Value.cells, List.cons.injEq, and_true] at hcs
  rw [flat_one] at hr
  refine ⟨L.map (·.1), A, n', c', hcs, hr, hm, hc, fun B hB s hs => ?_⟩
  obtain ⟨z, hz, rfl⟩ := List.mem_map.1 hs
  have h1 := hw B hB z hz z.1.size (by rw [hy z hz]; simp [DataW.weights])
  exact h1
end
end Go.Proofs.YtmckbcbdnckngaaGreatDoor
