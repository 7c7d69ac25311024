/- The walks of origin.New, and of the law's page and get. The walk of the law's awake. What the laws on the origin share: strings of bytes, quaysidebase.Bytes. Arguments opened: a slice of pairs of strings, a slice of strings, as lists. Plain facts on readings. Arguments opened, with their bulk: a slice of strings, a slice of pairs of strings; the witness of a row that lists variables. Plain facts on readings. An argument opened: two numbers. Plain facts on readings. Listed variables: httpdate's tables out of a row's condition. No condition. The library's own variable that every call of the package needs, out of a world's shape. -/
import Derived.Test.YtmckbcbdnckngaaGreatDoorJ6
import Derived.ProofKit
import Derived.SizedLaws
import Derived.Deep.Slices
import Derived.Deep.Fields
import Derived.ChangeSame
import Derived.ShutString
import Derived.OpenShut
import Derived.Test.YtmckbcbdnckngaaGreatDoorRows
import Derived.SliceStrings
import Derived.Lay
import Derived.LaidOnce
import Derived.LaidMore
import Derived.Deep.DeepHandedRow
set_option linter.unusedSimpArgs false
set_option linter.unusedVariables false
namespace Go.Proofs.YtmckbcbdnckngaaGreatDoor
open Go.RowKit

theorem or_New (w : World) : Calls Tryz.prog 13 #[] w fun e w' => e = .returned (.pointer (some ⟨w.heap.size, 0, none⟩)) ∧ OrgP w' w.heap.size (fun i => i = w.heap.size) (fun _ => True) org0 ⟨sl0, sl0, sl0, []⟩ ∧ Ext w w' := by
  go_enter Tryz.func13, Tryz.ntmps13
  go_wp2_with fail
  go_ret
  exact ⟨rfl, OrgP.new w, (Ext.refl w).alloc _⟩

theorem app_types {P : Program} {t t2 e e2 ty : TypeId} {i : TypeInfo} (h : P.underlying t = some (.slice e)) (h2 : P.underlying t2 = some (.slice e2)) (hi : P.info? e = some i) (A : Option Addr) (n c : Nat) (x : Value) (w : World) :
    (Builtin.append_ #[t, t2] ty #[.slice A n c, x]).run P w = (Builtin.append_ #[t, t] ty #[.slice A n c, x]).run P w := by
  unfold Builtin.append_
  simp [run_underlying h, run_underlying h2, sizeOf, typeInfo, hi]
/-- Append where the second slice has another type's name. -/
theorem wpList_app2 {P : Program} (w : World) {ops : Array Oper} {rest : List Oper} {o : Oper} {a : Act} {Q : Exit → Act → World → Prop} (hgd : o.guard = none) (s x : Operand) (t t2 : TypeId)
    (ho : o.op = .call { callee := .builtin .append, args := #[s, x], argTypes := #[t, t2] })
    (w0 : World) (e e2 : TypeId) (z : Value) (size bytes : Nat) (ht : P.underlying t = some (.slice e)) (ht2 : P.underlying t2 = some (.slice e2))
    (hinfo : (P.info? e).map (fun i => (i.zero, i.size, i.bytes)) = some (some z, size, bytes)) (hzs : z.cells.size = size) (hsz : 0 < size)
    (v : Value) (n : Nat) (xs : List Value) (hs : a.eval s = v) (hown : w.ownsRow w0.heap.size e size v n xs)
    (A : Option Addr) (m c : Nat) (news : List Value) (hx : a.eval x = .slice A m c) (hr : Rd w size A m news) (h1 : ∀ u ∈ news, u.oneCell' = true)
    (hb : Ext w0 w) (hbytes : (n + m) * bytes ≤ 140737488355328) (hby0 : 0 < bytes)
    (h : ∀ A' c' w', w'.ownsRow w0.heap.size e size (.slice A' (n + m) c') (n + m) (xs ++ news) → Ext w0 w' → n + m ≤ c' → w.grownBy w' v.ownBlock → wpList P ops Q rest (a.put o.dst (.slice A' (n + m) c')) w') : wpList P ops Q (o :: rest) a w := by
  have h63 : n + m ≤ maxLen := by
    have : (n + m) * 1 ≤ (n + m) * bytes := Nat.mul_le_mul_left _ hby0
    simp only [maxLen]; omega
  obtain ⟨v', w', hrun, h2, h3⟩ := run_app (P := P) w w0.heap.size t o.type e z size bytes ht hinfo hzs hsz v n xs hown A m c news hr h1 h63 hbytes hb.size
  obtain ⟨A', c', rfl, hle⟩ := own_shape h2
  obtain ⟨i, hi, -, -, -⟩ := info_parts hinfo
  obtain ⟨A0, c0, rfl, -⟩ := own_shape hown
  rw [← app_types ht ht2 hi] at hrun
  refine wpList_plain hgd fun K hK => ?_
  unfold Oper.wp execOp
  simp only [ho, resolve, invoke, builtin, Sem.run_bind, Sem.run_pure, Result.andThen_ok, List.map_toArray, List.map_cons, List.map_nil, hs, hx, hrun]
  exact hK _ _ (h A' c' w' h2 (hb.grown h3 (fun k hk => (hown.lt k hk).1)) hle h3)
theorem infoRq : (Tryz.prog.info? 42).map (·.size) = some 3 := by kernel_rfl
def x_ad : ByteArray := ⟨#[101, 120, 97, 109, 112, 108, 101, 46, 99, 111, 109, 47, 97]⟩
def x_q1 : ByteArray := ⟨#[34, 49, 34]⟩
def x_ec : ByteArray := ⟨#[101, 120, 97, 109, 112, 108, 101, 46, 99, 111, 109]⟩
def x_sa : ByteArray := ⟨#[47, 97]⟩
def pageV (body : ByteArray) (more : List Fd) : Ver := ⟨x_ad, 200, (x_et, x_q1) :: more, body, []⟩
set_option maxHeartbeats 8000000 in
set_option maxRecDepth 100000 in
theorem law_get (me : ByteArray) (A : Option Addr) (n c : Nat) (fs : List Fd) (w : World) (hr : RdF w A n fs) (hn : n ≤ 1000) :
    Calls Tryz.prog 16 #[.string me, .slice A n c] w fun e w' => ∃ s : Sl, e = .returned (.agg #[.string me, .string x_sa, s.v]) ∧ RS (fun i => i < w.heap.size) w' 2 s (fldCells ((x_ho, x_ec) :: fs)) ∧ Ext w w' := by
  have HW := Lib.hid ((Ext.refl w).alloc (.cells #[.string ⟨#[]⟩, .string ⟨#[]⟩, .slice none 0 0] 42))
  have HB := Lib.hid (Blk.new w 42 #[.string ⟨#[]⟩, .string ⟨#[]⟩, .slice none 0 0])
  go_enter Tryz.func16, Tryz.ntmps16
  go_wp2_with (at_builtin; refine wpList_app2 _ rfl (.tmp 7) (.tmp 8) 33 32 rfl w 51 51 _ 2 32 Tryz.underlying33 Tryz.underlying32 info_cln_F (by simp [Value.cells]) (by decide) _ 1 (fldCells [(x_ho, x_ec)]) rfl ?qa A n c (fldCells fs) rfl (hr.ext (HW.out.alloc _)) (fldCells_one _) (HW.out.alloc _) (by omega) (by decide) ?qb)
  case qa =>
    rw [show w.heap.size + 1 = (w.alloc (.cells #[.string ⟨#[]⟩, .string ⟨#[]⟩, .slice none 0 0] 42)).heap.size by simp]
    exact World.ownsRow_lit _ _ 1 (by simp) (by decide) rfl
  case qb =>
    intro A2 c2 w2 hown hb2 hle hg2
    have HBw := Lib.hid ((HB.out.alloc (.cells #[.string x_ho, .string x_ec] 51)).grown hg2 (by simp [Value.ownBlock]))
    go_wp2_with (first | (refine wpList_storeB rfl 42 (.tmp 4) (.tmp 10) rfl rfl w.heap.size _ rfl rfl 42 _ HBw.out infoRq rfl (by simp [Value.oneCell']) ?_; intro w9 hB9 hx9))
    have y0 : w9.cell? ⟨w.heap.size, 0, none⟩ = some (.string me) := hB9.cell 0
    have y1 : w9.cell? ⟨w.heap.size, 1, none⟩ = some (.string x_sa) := hB9.cell 1
    have y2 : w9.cell? ⟨w.heap.size, 2, none⟩ = some (.slice A2 (1 + n) c2) := hB9.cell 2
    refine bodyPost_ret (v := .agg #[.string me, .string x_sa, .slice A2 (1 + n) c2]) (by simp [results, Tryz.results16, go_sem, y0, y1, y2]) rfl ?_
    have KX : Keeps (fun i => i = w.heap.size) w2 w9 := Keeps.grown (Keeps.refl _ w2) hx9 (fun b hb => .inl (by injection hb with hb; exact hb.symm))
    have ho9 := own_keepS hown KX (own_ne hown HBw.out (by decide))
    obtain ⟨s, hs, hsn, hr9⟩ := RS.own ho9
    exact ⟨s, by rw [← hs], hr9, hb2.growB hx9 (Nat.le_refl _)⟩

set_option maxHeartbeats 8000000 in
set_option maxRecDepth 100000 in
theorem law_page (body : ByteArray) (A : Option Addr) (n c : Nat) (fs : List Fd) (w : World) (hr : RdF w A n fs) (hn : n ≤ 1000) (hb : body.size ≤ 1048576) :
    Calls Tryz.prog 20 #[.string body, .slice A n c] w fun e w' => ∃ m : MV, e = .returned (.agg m.cells.toArray) ∧ m.ver = pageV body fs ∧ m.At (fun i => i < w.heap.size) w' ∧ Ext w w' := by
  have HW := Lib.hid ((Ext.refl w).alloc (.cells #[.string ⟨#[]⟩, .int .i64 0, .slice none 0 0, .slice none 0 0, .slice none 0 0] 36))
  have HB := Lib.hid (Blk.new w 36 #[.string ⟨#[]⟩, .int .i64 0, .slice none 0 0, .slice none 0 0, .slice none 0 0])
  have hbs := fun w => run_bytes_of_string (P := Tryz.prog) w 9 23 5 body Tryz.underlying9 Tryz.underlying23 Tryz.underlying5
  go_enter Tryz.func20, Tryz.ntmps20
  go_wp2_with (at_builtin; refine wpList_app2 _ rfl (.tmp 6) (.tmp 7) 33 32 rfl w 51 51 _ 2 32 Tryz.underlying33 Tryz.underlying32 info_cln_F (by simp [Value.cells]) (by decide) _ 1 (fldCells [(x_et, x_q1)]) rfl ?qa A n c (fldCells fs) rfl (hr.ext (HW.out.alloc _)) (fldCells_one _) (HW.out.alloc _) (by omega) (by decide) ?qb)
  case qa =>
    rw [show w.heap.size + 1 = (w.alloc (.cells #[.string ⟨#[]⟩, .int .i64 0, .slice none 0 0, .slice none 0 0, .slice none 0 0] 36)).heap.size by simp]
    exact World.ownsRow_lit _ _ 1 (by simp) (by decide) rfl
  case qb =>
    intro A2 c2 w2 hown hb2 hle hg2
    have HBw := Lib.hid ((HB.out.alloc (.cells #[.string x_et, .string x_q1] 51)).grown hg2 (by simp [Value.ownBlock]))
    generalize hcap : grownCap w2 body.size 0 5 = cap at *
    have hcs : body.size ≤ cap := by rw [← hcap]; exact grownCap_ge _ _ _ _
    go_wp2_with (first | (refine wpList_storeB rfl 36 (.tmp 4) (.tmp 11) rfl rfl w.heap.size _ rfl rfl 36 _ (HBw.out.ext ((Ext.refl w2).alloc _).drew) infoVe rfl (by simp [Value.oneCell']) ?_; intro w9 hB9 hx9))
    have y0 : w9.cell? ⟨w.heap.size, 0, none⟩ = some (.string x_ad) := hB9.cell 0
    have y1 : w9.cell? ⟨w.heap.size, 1, none⟩ = some (.int .i64 200) := hB9.cell 1
    have y2 : w9.cell? ⟨w.heap.size, 2, none⟩ = some (.slice A2 (1 + n) c2) := hB9.cell 2
    have y3 : w9.cell? ⟨w.heap.size, 3, none⟩ = some (.slice (some ⟨w2.heap.size, 0, none⟩) body.size cap) := hB9.cell 3
    have y4 : w9.cell? ⟨w.heap.size, 4, none⟩ = some (.slice none 0 0) := hB9.cell 4
    refine bodyPost_ret (v := .agg #[.string x_ad, .int .i64 200, .slice A2 (1 + n) c2, .slice (some ⟨w2.heap.size, 0, none⟩) body.size cap, .slice none 0 0]) (by simp [results, Tryz.results20, go_sem, y0, y1, y2, y3, y4]) rfl ?_
    have hEb := ((Ext.refl w2).alloc (.cells (bytesRow body cap) 5 ((bytesRow body cap).size, (bytesRow body cap).size + 1))).drew
    have hRB : RS (fun i => i < w2.heap.size) ((w2.alloc (.cells (bytesRow body cap) 5 ((bytesRow body cap).size, (bytesRow body cap).size + 1))).drew) 1 ⟨some ⟨w2.heap.size, 0, none⟩, body.size, cap⟩ (bytC body) := ⟨⟨by rw [bytC_len]; simp, fun _ => ⟨_, _, rfl, fun j u hu => by
      have hj : j < body.size := by
        have := (List.getElem?_eq_some_iff.1 hu).1
        rw [bytC_len] at this; exact this
      show (w2.alloc _).cell? _ = _
      rw [Nat.zero_add, World.cell?_alloc_mark, bytesRow_at body cap j hj]
      unfold bytC at hu
      rw [List.getElem?_map, List.getElem?_eq_getElem (by simpa using hj)] at hu
      rw [← hu]; rfl⟩⟩, fun _ a ha hb => by simp only [Option.some.injEq] at ha; subst ha; simp at hb, hcs⟩
    generalize (w2.alloc (.cells (bytesRow body cap) 5 ((bytesRow body cap).size, (bytesRow body cap).size + 1))).drew = wB at *
    have KX : Keeps (fun i => i = w.heap.size) wB w9 := Keeps.grown (Keeps.refl _ wB) hx9 (fun b hb => .inl (by injection hb with hb; exact hb.symm))
    have ho9 := own_keepS (own_ext hown hEb) KX (own_ne (own_ext hown hEb) (HBw.out.ext hEb) (by decide))
    obtain ⟨s, hs, hsn, hr9⟩ := RS.own ho9
    have hlt : w.heap.size < w2.heap.size := HBw.out.lt
    refine ⟨⟨x_ad, 200, (x_et, x_q1) :: fs, body, [], s, ⟨some ⟨w2.heap.size, 0, none⟩, body.size, cap⟩, sl0⟩, by rw [hs]; rfl, rfl, ⟨hr9, ?_, RS.nil _ _ _, fun x hx => by cases hx⟩, (hb2.trans hEb).growB hx9 (Nat.le_refl _)⟩
    exact (hRB.keep KX (fun i hi => .inl (by show i < _; omega))).sub (fun i hi => by show i < _; omega)
end Go.Proofs.YtmckbcbdnckngaaGreatDoor

namespace Go.Proofs.YtmckbcbdnckngaaGreatDoor
open Go.RowKit

theorem conv_B {w : World} {A : Option Addr} {n c : Nat} {b : ByteArray} (h : Rd w 1 A n (bytC b)) (hb : 0 < b.size) : (convert 23 9 (.slice A n c)).run Tryz.prog w = .ok (.string b) w := by
  obtain ⟨g, o, rfl, hc⟩ := h.2 (by rw [bytC_len]; exact hb)
  have hn : n = b.size := by have := h.1; rw [bytC_len] at this; omega
  subst hn
  rw [run_convert_bytes_arg (P := Tryz.prog) w 23 5 Tryz.underlying23 Tryz.underlying5 g o b.size c (b.data.toList.map fun x => (x.toNat : Int)) (by simp) (fun i hi => by
    have h1 := hc i (.int .u8 (b.data.toList[i]'(by simpa using hi)).toNat) (by unfold bytC; rw [List.getElem?_map, List.getElem?_eq_getElem (by simpa using hi)]; rfl)
    rw [h1]
    simp [List.getD, List.getElem?_map, List.getElem?_eq_getElem (show i < b.data.toList.length by simpa using hi)]
    try rfl) 9 Tryz.underlying9]
  congr 2
  apply bytes_ext
  unfold strOfNums
  have e : ((fun n : Int => UInt8.ofNat n.toNat) ∘ fun x : UInt8 => (x.toNat : Int)) = id := by funext x; simp
  simp only [List.map_map, e, List.map_id]
def x_he : ByteArray := ⟨#[104, 101, 108, 108, 111]⟩
def x_ge : ByteArray := ⟨#[71, 69, 84]⟩
def rqG : Rq := ⟨x_ge, x_sa, [(x_ho, x_ec)]⟩
def orgA : Org := ⟨[(10, pageV x_he [])], [], []⟩
theorem aw_pub : pubS org0 10 (pageV x_he []) = (((0 + 1 : Nat) : Int), 0, orgA) :=
  pub_ok (o := org0) (t := 10) (by decide +kernel) (by decide) (by decide +kernel) (fun p hp => by cases hp)
theorem aw_9 : (answS orgA 9 rqG).1 = 404 := by decide +kernel
theorem aw_10 : (answS (answS orgA 9 rqG).2.2.2 10 rqG).1 = 200 ∧ (answS (answS orgA 9 rqG).2.2.2 10 rqG).2.2.1 = x_he := by decide +kernel
theorem aw_lg : (answS orgA 9 rqG).2.2.2.lg.length = 1 ∧ (answS orgA 9 rqG).2.2.2.br.length = 0 := by decide +kernel
set_option maxHeartbeats 8000000 in
set_option maxRecDepth 100000 in
theorem law_awake (w : World) (hg : Gl w) (hh : GlH w) (hp : GlP w) : Calls Tryz.prog 12 #[] w fun e w' => e = .returned (.bool true) ∧ Ext w w' := by
  have HEg := Lib.hid (fun w' (hx : Ext w w') => (⟨hg.ext hx, hh.ext hx, hp.ext hx⟩ : Gl w' ∧ GlH w' ∧ GlP w'))
  clear hg hh hp
  go_enter Tryz.func12, Tryz.ntmps12
  go_wp2_with fail
  refine (or_New _).mono ?_; rintro e w1 ⟨rfl, hO1, hb1⟩
  go_wp2_with fail
  refine (law_page x_he none 0 0 [] w1 (Rd.none_ _ _ _) (by decide) (by decide)).mono ?_; rintro e w2 ⟨m, rfl, hver, hAt, hb2⟩
  have e1 : m.addr = x_ad := congrArg Ver.addr hver
  have e2 : m.f = [(x_et, x_q1)] := congrArg Ver.fs hver
  have e3 : m.body = x_he := congrArg Ver.body hver
  have e4 : m.vars = [] := List.map_eq_nil_iff.1 (congrArg Ver.vars hver)
  have HPub := Lib.hid (or_Publish (fun _ => True) (fun i => i = w.heap.size) (fun i => i < w1.heap.size) w.heap.size org0 ⟨sl0, sl0, sl0, []⟩ 10 m w2 (hO1.ext hb2) hAt (by rw [e1]; decide) (by rw [e2]; decide) (by rw [e2]; decide) (by rw [e3]; decide) (by rw [e4]; decide) (by rw [e4]; intro x hx; cases hx) (HEg.out _ (hb1.trans hb2)).1)
  rw [hver, aw_pub] at HPub
  have HE2 := Lib.hid (hb1.trans hb2)
  clear hO1 hAt hver e1 e2 e3 e4 hb1 hb2
  obtain ⟨vaddr, vstatus, f, vbody, vars, ⟨vfA, vfn, vfc⟩, ⟨vbA, vbn, vbc⟩, ⟨vA, vn, vc⟩⟩ := m
  simp only [MV.cells, Sl.v] at HPub ⊢
  go_wp2_with fail
  refine HPub.out.mono ?_; rintro e w3 ⟨rfl, R3, ⟨M3, hO3⟩, hk3, hR3a, hR3b⟩
  have HE3 := Lib.hid (HE2.out.keeps hk3 (fun i hi => by rw [show i = w.heap.size from hi]; exact Nat.le_refl _))
  have HR3 := Lib.hid (fun i (hi : R3 i) => (hR3b i hi).elim (fun h => show w.heap.size ≤ i from by rw [show i = w.heap.size from h]; exact Nat.le_refl _) (fun h => by have := HE2.out.size; omega))
  have HO3 := Lib.hid hO3
  clear hk3 hR3a hR3b hO3 HPub HE2
  rw [show errV 0 = .nilIface from rfl]
  go_wp2_with fail
  refine (law_get x_ge none 0 0 [] w3 (Rd.none_ _ _ _) (by decide)).mono ?_; rintro e w4 ⟨⟨gA, gn, gc⟩, rfl, hg4, hb4⟩
  have hgn : gn = 1 := by have := hg4.rd.lenF; simp at this; omega
  subst hgn
  have HE4 := Lib.hid (HE3.out.trans hb4)
  have HAn := Lib.hid (or_Answer _ R3 w.heap.size orgA M3 9 rqG gA 1 gc w4 (HO3.out.ext hb4) hg4.rd hg4.cap (by decide) (by decide) (by decide) (by decide) (HEg.out _ HE4.out).1 (HEg.out _ HE4.out).2.1 (HEg.out _ HE4.out).2.2)
  rw [aw_9] at HAn
  have A10 := Lib.hid aw_10; have ALg := Lib.hid aw_lg
  simp only [Sl.v] at HAn ⊢
  generalize (answS orgA 9 rqG).2.2.2 = o2 at *
  clear hg4 hb4
  go_wp2_with fail
  refine HAn.out.mono ?_; rintro e w5 ⟨⟨sA, sn, sc⟩, ⟨tA, tn, tc⟩, rfl, R5, ⟨M5, hO5⟩, -, -, hk5, -, hR5b⟩
  have HE5 := Lib.hid (HE4.out.keeps hk5 HR3.out)
  have HR5 := Lib.hid (fun i (hi : R5 i) => (hR5b i hi).elim (HR3.out i) (fun h => by have := HE4.out.size; omega))
  have HO5 := Lib.hid hO5
  have HB5 := Lib.hid (Blk.new w5 38 #[.int .i64 404, .slice sA sn sc])
  have HE6 := Lib.hid (HE5.out.alloc (.cells #[.int .i64 404, .slice sA sn sc] 38))
  have HO6 := Lib.hid (hO5.ext ((Ext.refl w5).alloc (.cells #[.int .i64 404, .slice sA sn sc] 38)))
  have Hn5 := Lib.hid (show ¬ R5 w5.heap.size from fun h => by have := hO5.low _ h; omega)
  clear hk5 hR5b hO5 HAn
  simp only [Sl.v]
  go_wp2_with fail
  generalize w5.alloc (.cells #[.int .i64 404, .slice sA sn sc] 38) = w6 at *
  refine (law_get x_ge none 0 0 [] w6 (Rd.none_ _ _ _) (by decide)).mono ?_; rintro e w7 ⟨⟨kA, kn, kc⟩, rfl, hg7, hb7⟩
  have hkn : kn = 1 := by have := hg7.rd.lenF; simp at this; omega
  subst hkn
  have HE7 := Lib.hid (HE6.out.trans hb7)
  have HAn := Lib.hid (or_Answer _ R5 w.heap.size o2 M5 10 rqG kA 1 kc w7 (HO6.out.ext hb7) hg7.rd hg7.cap (by decide) (by decide) (by rw [ALg.out.2]; decide) (by rw [ALg.out.1]; decide) (HEg.out _ HE7.out).1 (HEg.out _ HE7.out).2.1 (HEg.out _ HE7.out).2.2)
  rw [A10.out.1, A10.out.2] at HAn
  have HB7 := Lib.hid (HB5.out.ext hb7)
  simp only [Sl.v] at HAn ⊢
  clear hg7 hb7
  go_wp2_with fail
  refine HAn.out.mono ?_; rintro e w8 ⟨⟨uA, un, uc⟩, ⟨vA2, vn2, vc2⟩, rfl, R8, -, -, ht8, hk8, -, -⟩
  have HE8 := Lib.hid (HE7.out.keeps hk8 HR5.out)
  have hB8 := (HB7.out.keep hk8 Hn5.out).alloc (.cells #[.int .i64 200, .slice uA un uc] 38)
  have z0 : (w8.alloc (.cells #[.int .i64 200, .slice uA un uc] 38)).cell? ⟨w5.heap.size, 0, none⟩ = some (.int .i64 404) := hB8.cell 0
  have z1 : (w8.alloc (.cells #[.int .i64 200, .slice uA un uc] 38)).cell? ⟨w8.heap.size, 0, none⟩ = some (.int .i64 200) := (Blk.new w8 38 #[.int .i64 200, .slice uA un uc]).cell 0
  have hcv := conv_B (c := vc2) (ht8.rd.ext ((Ext.refl w8).alloc (.cells #[.int .i64 200, .slice uA un uc] 38))) (by decide)
  simp only at hcv
  have hq : (x_he.toList == [104, 101, 108, 108, 111]) = true := by decide +kernel
  generalize x_he = xh at *
  clear hB8 ht8 hk8
  simp only [Sl.v]
  go_wp2_with fail
  go_ret
  exact ⟨rfl, HE8.out.alloc _⟩
end Go.Proofs.YtmckbcbdnckngaaGreatDoor

namespace Go.Proofs.YtmckbcbdnckngaaGreatDoor
open Go.RowKit

theorem conv_BE {w : World} {A : Option Addr} {n c : Nat} {b : ByteArray} (h : Rd w 1 A n (bytC b)) : (convert 23 9 (.slice A n c)).run Tryz.prog w = .ok (.string b) w := by
  rcases Nat.eq_zero_or_pos b.size with h0 | h0
  · have hn : n = 0 := by have := h.1; rw [bytC_len] at this; omega
    subst hn
    obtain rfl : b = ⟨#[]⟩ := ByteArray.size_eq_zero_iff.1 h0
    rw [run_convert_bytes_string w 23 9 5 A 0 c Tryz.underlying23 Tryz.underlying5 Tryz.underlying9]
    cases A <;> simp [Conv.bytesToString] <;> rfl
  · exact conv_B h h0
set_option maxHeartbeats 4000000 in
theorem base_Bytes (A : Option Addr) (n c : Nat) (B : Option Addr) (m d : Nat) (x y : ByteArray) (w : World) (hx : Rd w 1 A n (bytC x)) (hy : Rd w 1 B m (bytC y)) :
    Calls Tryz.prog 18 #[.slice A n c, .slice B m d] w fun e w' => e = .returned (.bool (decide (x = y))) ∧ w' = w := by
  have h1 := conv_BE (c := c) hx
  have h2 := conv_BE (c := d) hy
  have he : (x.toList == y.toList) = decide (x = y) := by
    by_cases h : x = y
    · rw [decide_eq_true h, eqS_iff.2 h]
    · rw [decide_eq_false h, Bool.eq_false_iff]; exact fun e => h (eqS_iff.1 e)
  generalize decide (x = y) = z at *
  go_enter Tryz.func18, Tryz.ntmps18
  go_wp2_with fail
  go_ret
  exact ⟨rfl, rfl⟩
/-- The sizes that Publish's walk asks for. -/
def SzV (v : Ver) : Prop := v.addr.size ≤ 1048576 ∧ v.fs.length ≤ 131072 ∧ sumF v.fs ≤ 131072 ∧ v.body.size ≤ 1099511627776 ∧ v.vars.length ≤ 1048576 ∧ ∀ x ∈ v.vars, x.names.length ≤ 1048576 ∧ (∀ n ∈ x.names, n.size ≤ 1048576) ∧ x.tag.size ≤ 131072 ∧ x.body.size ≤ 1099511627776
theorem pub_v {Q R Qm : Nat → Prop} {p : Nat} {o : Org} {M : OM} {t : Int} {m : MV} {w : World} (hO : OrgP w p R Q o M) (hm : m.At Qm w) {v : Ver} (hv : m.ver = v) (hs : SzV v) {x : Int} {k : Nat} {o2 : Org} (hp : pubS o t v = (x, k, o2)) (hg : Gl w) :
    Calls Tryz.prog 14 #[.pointer (some ⟨p, 0, none⟩), .int .i64 t, .agg m.cells.toArray] w fun e w' => e = .returned (.tuple #[.int .i64 x, errV k]) ∧
      ∃ R', (∃ M', OrgP w' p R' (fun i => (Q i ∧ i < w.heap.size) ∨ R' i) o2 M') ∧ Keeps R w w' ∧ (∀ i, R i → R' i) ∧ (∀ i, R' i → R i ∨ w.heap.size ≤ i) := by
  subst hv
  obtain ⟨q1, q2, q3, q4, q5, q6⟩ := hs
  have := or_Publish Q R Qm p o M t m w hO hm q1 q2 q3 q4 (by rw [show m.ver.vars = m.vars.map (·.1) from rfl, List.length_map] at q5; exact q5) (fun y hy => q6 y.1 (List.mem_map.2 ⟨y, hy, rfl⟩)) hg
  rw [hp] at this
  exact this
/-- The answer to a request that law_get has made. -/
theorem ans_v {Q R : Nat → Prop} {p : Nat} {o : Org} {M : OM} {t : Int} {me ta : ByteArray} {fs : List Fd} {s : Sl} {w : World} {Qr : Nat → Prop} (hO : OrgP w p R Q o M) (hr : RS Qr w 2 s (fldCells fs)) (hz : sumF fs + 2 * fs.length ≤ 1048576) (htz : ta.size ≤ 1048576)
    (hbr : o.br.length ≤ 1000000) (hlg : o.lg.length ≤ 1000000) (hg : Gl w ∧ GlH w ∧ GlP w) {S : Int} {F : List Fd} {B : ByteArray} {o2 : Org} (ha : answS o t ⟨me, ta, fs⟩ = (S, F, B, o2)) :
    Calls Tryz.prog 15 #[.pointer (some ⟨p, 0, none⟩), .int .i64 t, .agg #[.string me, .string ta, s.v]] w fun e w' => ∃ s1 s2 : Sl, e = .returned (.tuple #[.agg #[.int .i64 S, s1.v], s2.v]) ∧
      ∃ R', (∃ M', OrgP w' p R' (fun i => Q i ∨ w.heap.size ≤ i) o2 M') ∧ RS (fun i => i < w.heap.size ∨ R' i) w' 2 s1 (fldCells F) ∧ RS (fun i => i < w.heap.size ∨ R' i) w' 1 s2 (bytC B) ∧
        Keeps R w w' ∧ (∀ i, R i → R' i) ∧ (∀ i, R' i → R i ∨ w.heap.size ≤ i) := by
  have hl := hr.rd.lenF
  have := or_Answer Q R p o M t ⟨me, ta, fs⟩ s.A s.n s.c w hO hr.rd hr.cap (by show sumF fs + 2 * s.n ≤ _; omega) htz hbr hlg hg.1 hg.2.1 hg.2.2
  rw [ha] at this
  exact this
end Go.Proofs.YtmckbcbdnckngaaGreatDoor

namespace Go.Proofs.YtmckbcbdnckngaaGreatDoor
open Go.ChangeShapes Go.WideShapes Go.Deep Go.RowKit

/-- Type e is a struct of two strings. -/
def TwoStr (P : Program) (e S : TypeId) : Prop := ∃ f0 f1, P.underlying e = some (.struct #[f0, f1]) ∧ f0.type = S ∧ f1.type = S ∧ f0.offset = 0 ∧ f1.offset = 1 ∧ P.underlying S = some .string ∧ P.cellsOf S = 1 ∧ P.cellsOf e = 2

section
variable {H : Type} {enc : TypeId × Value → H} {P : Program} {w : World} {base : Nat} {spare : Nat → Bool} {held : Bool}

theorem trod_twoStr {e S : TypeId} {fuel : Nat} {cs : List Value} {x : DataW H × List MemPlace} (he : TwoStr P e S) (h : DataW.trod enc P w base spare held fuel e cs = some x) :
    ∃ a b : ByteArray, cs = [.string a, .string b] ∧ x.1 = .agg [.lit (.string a.data.toList), .lit (.string b.data.toList)] ∧ a.size ≤ maxLen ∧ b.size ≤ maxLen := by
  obtain ⟨f0, f1, hu, t0, t1, o0, o1, hS, hc, hce⟩ := he
  obtain ⟨y0, y1, n, rfl, hl, h0, h1⟩ := trod_struct2 hu h
  rw [t0, o0, hc] at h0
  rw [t1, o1, hc] at h1
  rw [hce] at hl
  match cs, hl with
  | [c0, c1], _ =>
    simp only [List.drop_zero, List.take_succ_cons, List.take_zero] at h0
    simp only [List.drop_succ_cons, List.drop_zero, List.take_succ_cons, List.take_zero] at h1
    obtain ⟨a, ha, rfl, ha2⟩ := DataW.trod_string hS h0
    obtain ⟨b, hb, rfl, hb2⟩ := DataW.trod_string hS h1
    simp only [List.cons.injEq, and_true] at ha hb
    subst ha; subst hb
    exact ⟨a, b, rfl, rfl, ha2, hb2⟩

theorem sz_data (a : ByteArray) : a.data.toList.length = a.size := by rw [Array.length_toList]; rfl

theorem weightsAll_mem {e : TypeId} {n : Nat} : ∀ {l : List (DataW H)} {i : Nat} {d : DataW H}, l[i]? = some d → n ∈ d.weights P e → n ∈ DataW.weightsAll P e l
  | d0 :: l, 0, d, hd, hn => by
    simp only [List.getElem?_cons_zero, Option.some.injEq] at hd
    subst hd
    simp only [DataW.weightsAll, List.mem_append]
    exact Or.inl hn
  | d0 :: l, i + 1, d, hd, hn => by
    simp only [List.getElem?_cons_succ] at hd
    simp only [DataW.weightsAll, List.mem_append]
    exact Or.inr (weightsAll_mem hd hn)
  | [], _, _, hd, _ => by simp at hd

/-- A slice of pairs of strings, opened. -/
theorem open_flds {t e S : TypeId} {A : Option Addr} {n c : Nat} {d : DataW H} {p : List MemPlace} (ht : P.underlying t = some (.slice e)) (he : TwoStr P e S)
    (h : DataW.Trod enc P w base spare held t (.slice A n c) d p) :
    ∃ L : List Fd, RdF w A n L ∧ n ≤ maxLen ∧ n ≤ c ∧ (∀ B, (∀ x ∈ d.weights P t, x ≤ B) → Bsz B L ∧ n * P.bytesOf e ≤ B) := by
  obtain ⟨fuel, hf⟩ := h
  have hf' : DataW.trod enc P w base spare held fuel t [.slice A n c] = some (d, p) := by simpa [Value.cells] using hf
  rcases open_slice ht hf' with ⟨hcs, hx⟩ | ⟨a, len, cap, m, k, D, Pl, hcs, hb, hl, hm, hmm, hx, hi⟩
  · simp only [List.cons.injEq, Value.slice.injEq, and_true] at hcs
    obtain ⟨rfl, rfl, rfl⟩ := hcs
    exact ⟨[], Rd.none_ _ _ _, by simp [maxLen], Nat.le_refl _, fun B _ => ⟨by intro f hf; simp at hf, by simp⟩⟩
  · simp only [List.cons.injEq, Value.slice.injEq, and_true] at hcs
    obtain ⟨rfl, rfl, rfl⟩ := hcs
    obtain ⟨f0, f1, hu, t0, t1, o0, o1, hS, hc, hce⟩ := id he
    rw [hce] at hi
    have hnm : n ≤ m := by rw [hmm]; split <;> omega
    obtain ⟨F, hF⟩ := choose_lt (α := Fd) (n := m) (p := fun i f => w.cell? (a.add (i * 2)) = some (.string f.1) ∧ w.cell? (a.add (i * 2 + 1)) = some (.string f.2) ∧ D i = .agg [.lit (.string f.1.data.toList), .lit (.string f.2.data.toList)]) (fun i him => by
      obtain ⟨cs', h1, h2⟩ := hi i him
      obtain ⟨_, _, hat⟩ := World.cells?_some h1
      obtain ⟨u, v, rfl, hd, _, _⟩ := trod_twoStr he h2
      have c0 := hat 0 (by omega)
      have c1 := hat 1 (by omega)
      rw [Go.Deep.add_add] at c0 c1
      exact ⟨(u, v), by simpa using c0, by simpa using c1, hd⟩)
    have hlen : ((List.range n).map F).length = n := by simp
    refine ⟨(List.range n).map F, ⟨by rw [fldCells_len, hlen], fun hpos => ?_⟩, by omega, hl, fun B hB => ⟨fun f hf => ?_, ?_⟩⟩
    · have hn0 : 0 < n := by rw [fldCells_len, hlen] at hpos; omega
      obtain ⟨b, o, sp⟩ := a
      have hsp : sp = none := by simpa [Addr.add] using World.cell?_spot (hF 0 (by omega)).1
      subst hsp
      refine ⟨b, o, rfl, fun j u hj => ?_⟩
      have hjl : j < n * 2 := by
        have := (List.getElem?_eq_some_iff.1 hj).1
        rw [fldCells_len, hlen] at this; exact this
      have hlt : j / 2 < ((List.range n).map F).length := by rw [hlen]; omega
      have hcells := hF (j / 2) (by omega)
      rw [add_plain, add_plain] at hcells
      have hFe : ((List.range n).map F)[j / 2] = F (j / 2) := by simp
      rcases Nat.mod_two_eq_zero_or_one j with h0 | h1
      · have e : j = j / 2 * 2 := by omega
        rw [e, fldCells_at0 _ _ hlt, hFe] at hj
        rw [e, ← hj]
        have e2 : j / 2 * 2 / 2 = j / 2 := by omega
        exact hcells.1
      · have e : j = j / 2 * 2 + 1 := by omega
        rw [e, fldCells_at1 _ _ hlt, hFe] at hj
        rw [e, ← hj]
        exact hcells.2.1
    · simp only [List.mem_map, List.mem_range] at hf
      obtain ⟨i, hin, rfl⟩ := hf
      have hd := (hF i (by omega)).2.2
      have hx1 : d = DataW.slice ((List.range n).map D) ((List.range (m - n)).map fun j => D (n + j)) := congrArg Prod.fst hx
      have hw : ∀ x ∈ (D i).weights P e, x ≤ B := fun x hxm => hB x (by
        rw [hx1]
        simp only [DataW.weights, ht, List.mem_cons, List.mem_append]
        exact Or.inr (Or.inl (weightsAll_mem (i := i) (by simp [hin]) hxm)))
      rw [hd] at hw
      simp only [DataW.weights, hu, DataW.weightsEach, List.map_cons, List.map_nil] at hw
      simp only [List.append_nil, List.mem_append, List.mem_singleton] at hw
      exact ⟨by rw [← sz_data]; exact hw _ (Or.inl rfl), by rw [← sz_data]; exact hw _ (Or.inr rfl)⟩
    · have hx1 : d = DataW.slice ((List.range n).map D) ((List.range (m - n)).map fun j => D (n + j)) := congrArg Prod.fst hx
      have := hB ((((List.range n).map D).length + ((List.range (m - n)).map fun j => D (n + j)).length) * P.bytesOf e) (by
        rw [hx1]
        simp [DataW.weights, ht])
      simp only [List.length_map, List.length_range] at this
      exact Nat.le_trans (Nat.mul_le_mul_right _ (by omega)) this
end

/-- An array of two strings by value, opened. -/
theorem open_arr2 {H : Type} {enc : TypeId × Value → H} {P : Program} {w : World} {base : Nat} {spare : Nat → Bool} {held : Bool} {t S : TypeId} {v : Value} {d : DataW H} {p : List MemPlace} {r : Reach} {b0 : Nat}
    (ht : P.underlying t = some (.array 2 S)) (hS : P.underlying S = some .string) (hc : P.cellsOf S = 1) (hct : P.cellsOf t = 2) (hv : Value.okWide P w r b0 t v) (h : DataW.Trod enc P w base spare held t v d p) :
    ∃ a b : ByteArray, v = .agg #[.string a, .string b] ∧ (∀ B, (∀ x ∈ d.weights P t, x ≤ B) → a.size ≤ B ∧ b.size ≤ B) := by
  simp only [Value.okWide, ht] at hv
  obtain ⟨cs, rfl, hsz, _⟩ := hv
  rw [hct] at hsz
  obtain ⟨fuel, hf⟩ := h
  obtain ⟨xs, m, _, hx, _, hlen, hg⟩ := DataW.trod_array ht hf
  obtain ⟨l⟩ := cs
  match l, hsz with
  | [c0, c1], _ =>
    match xs, hlen with
    | [y0, y1], _ =>
      have g0 := hg 0 (by omega)
      have g1 := hg 1 (by omega)
      simp only [Value.cells, hc, Nat.zero_mul, List.drop_zero, List.take_succ_cons, List.take_zero, List.getElem?_cons_zero] at g0
      simp only [Value.cells, hc, Nat.one_mul, List.drop_succ_cons, List.drop_zero, List.take_succ_cons, List.take_zero, List.getElem?_cons_succ, List.getElem?_cons_zero] at g1
      obtain ⟨a, ha, ha1, _⟩ := DataW.trod_string hS g0
      obtain ⟨b, hb, hb1, _⟩ := DataW.trod_string hS g1
      simp only [List.cons.injEq, and_true] at ha hb
      subst ha; subst hb; subst ha1; subst hb1
      refine ⟨a, b, rfl, fun B hB => ?_⟩
      have hd := congrArg Prod.fst hx
      simp only [List.map_cons, List.map_nil] at hd
      rw [hd] at hB
      simp only [DataW.weights, ht, DataW.weightsAll, List.append_nil, List.mem_append, List.mem_singleton] at hB
      exact ⟨by rw [← sz_data]; exact hB _ (Or.inl rfl), by rw [← sz_data]; exact hB _ (Or.inr rfl)⟩

/-- What one argument weighs, out of what all do. -/
theorem weights_one {H : Type} {P : Program} {ts : List TypeId} {ds : List (DataW H)} (h : (DataW.weightsEach P ts ds).all (· ≤ reachBytes) = true) {j : Nat} {t : TypeId} {d : DataW H}
    (ht : ts[j]? = some t) (hd : ds[j]? = some d) : ∀ x ∈ d.weights P t, x ≤ 140737488351232 := fun x hx => by
  have := List.all_eq_true.1 h _ (DataW.weights_mem_each ht hd x hx)
  exact of_decide_eq_true this
end Go.Proofs.YtmckbcbdnckngaaGreatDoor

namespace Go.Proofs.YtmckbcbdnckngaaGreatDoor
open Go.ChangeShapes Go.WideShapes Go.Deep Go.RowKit

theorem bulk_app {H : Type} (l r : List (DataW H)) : Rows.uptoBulkAll (l ++ r) = Rows.uptoBulkAll l + Rows.uptoBulkAll r := by
  induction l with
  | nil => simp [Rows.uptoBulkAll]
  | cons x l ih => simp only [List.cons_append, Rows.uptoBulkAll, ih]; omega
theorem bulk_strs {H : Type} (l : List ByteArray) : Rows.uptoBulkAll (H := H) (l.map fun s => DataW.lit (.string s.data.toList)) = l.length + totS l := by
  induction l with
  | nil => rfl
  | cons x l ih =>
    simp only [List.map_cons, Rows.uptoBulkAll, ih, Rows.uptoBulk, List.length_cons, totS, List.sum_cons, Array.length_toList]
    show x.size + 1 + _ = _
    omega
theorem bulk_flds {H : Type} (l : List Fd) : Rows.uptoBulkAll (H := H) (l.map fun f => DataW.agg [.lit (.string f.1.data.toList), .lit (.string f.2.data.toList)]) = 3 * l.length + sumF l := by
  induction l with
  | nil => rfl
  | cons x l ih =>
    simp only [List.map_cons, Rows.uptoBulkAll, ih, Rows.uptoBulk, List.length_cons, sumF, List.sum_cons, Array.length_toList]
    show (x.1.size + 1) + ((x.2.size + 1) + 0) + 1 + _ = _
    omega
/-- The bound of an Upto statement. -/
theorem bulk_of {H : Type} {l : List (DataW H)} (hk : Rows.uptoSmall H l = true) : Rows.uptoBulkAll l ≤ 1048576 := of_decide_eq_true hk

section
variable {H : Type} {enc : TypeId × Value → H} {P : Program} {w : World} {base : Nat} {spare : Nat → Bool} {held : Bool}
/-- A slice of strings, opened. -/
theorem open_strsL {t e : TypeId} {A : Option Addr} {n c : Nat} {d : DataW H} {p : List MemPlace} (ht : P.underlying t = some (.slice e)) (he : P.underlying e = some .string) (hce : P.cellsOf e = 1)
    (h : DataW.Trod enc P w base spare held t (.slice A n c) d p) :
    ∃ L : List ByteArray, RdS w A n L ∧ n ≤ maxLen ∧ n ≤ c ∧ L.length + totS L + 1 ≤ Rows.uptoBulk d := by
  obtain ⟨fuel, hf⟩ := h
  have hf' : DataW.trod enc P w base spare held fuel t [.slice A n c] = some (d, p) := by simpa [Value.cells] using hf
  rcases open_strings ht he hce hf' with ⟨hcs, hx⟩ | ⟨a, len, cap, ss, hcs, hb, hl, hm, hlen, hx, hi⟩
  · simp only [List.cons.injEq, Value.slice.injEq, and_true] at hcs
    obtain ⟨rfl, rfl, rfl⟩ := hcs
    obtain rfl : d = .nil := congrArg Prod.fst hx
    exact ⟨[], Rd.none_ _ _ _, by simp [maxLen], Nat.le_refl _, by simp [totS, Rows.uptoBulk]⟩
  · simp only [List.cons.injEq, Value.slice.injEq, and_true] at hcs
    obtain ⟨rfl, rfl, rfl⟩ := hcs
    have hnl : n ≤ ss.length := by rw [hlen]; split <;> omega
    have htl : (ss.take n).length = n := by rw [List.length_take]; omega
    refine ⟨ss.take n, ⟨by simp; omega, fun hpos => ?_⟩, by omega, hl, ?_⟩
    · obtain ⟨b, o, sp⟩ := a
      have h0 : 0 < ss.length := by
        rw [List.length_map, htl] at hpos; omega
      have hc0 := hi.1 0 h0
      have hsp : sp = none := by simpa [Addr.add] using World.cell?_spot hc0
      subst hsp
      refine ⟨b, o, rfl, fun j u hu => ?_⟩
      rw [List.getElem?_map, List.getElem?_take] at hu
      split at hu
      · rename_i hjn
        obtain ⟨s, hs, rfl⟩ := Option.map_eq_some_iff.1 hu
        obtain ⟨hjl, he⟩ := List.getElem?_eq_some_iff.1 hs
        have := hi.1 j hjl
        rw [add_plain, List.getD_eq_getElem?_getD, hs] at this
        exact this
      · simp at hu
    · obtain rfl : d = _ := congrArg Prod.fst hx
      simp only [Rows.uptoBulk]
      have := bulk_strs (H := H) (ss.take n)
      unfold strs
      omega
end

/-- THERE IS AN INPUT THAT FITS: a row that lists variables. -/
theorem witU {H : Type} {enc : TypeId × Value → H} {C : Checked} {os : Os} {f : FuncId} {fn : Func} {s : OpenSpec} {conds : List PathCond} {apart : Bool} {laid : List (String × DataW Unit)} (args : Array Value)
    (hv : ((World.laidAll C.prog os laid).forCall (fun _ _ => 0) ⟨#[], args, []⟩).variablesZipB C.prog = true)
    (hr : (((World.laidAll C.prog os laid).forCall (fun _ _ => 0) ⟨#[], args, []⟩).heap.toList.drop C.prog.globals.size).take ((begin C.prog (fun _ _ => 0) default).world.heap.size - C.prog.globals.size) =
      (begin C.prog (fun _ _ => 0) default).world.heap.toList.drop C.prog.globals.size)
    (hok : Input.okWideB C.prog ((World.laidAll C.prog os laid).forCall (fun _ _ => 0) ⟨#[], args, []⟩) f ⟨#[], args, []⟩ = true)
    (hrow : s.preRow enc C.prog fn conds apart laid ((World.laidAll C.prog os laid).forCall (fun _ _ => 0) ⟨#[], args, []⟩).memory args) :
    ∃ (w : World) (tape : Tape) (i : Input), w.os = os ∧ (w.forCall tape i).Shaped C.prog ∧ i.vars = [] ∧ Input.okWide C.prog (w.forCall tape i) .any w.heap.size f i ∧
      s.preRow enc C.prog fn conds apart laid (w.forCall tape i).memory i.args ∧ ({} : Assume).holds C.prog (lone (Frame.enter C.prog f i.args .normal) [] (w.forCall tape i)) :=
  ⟨World.laidAll C.prog os laid, fun _ _ => 0, ⟨#[], args, []⟩, World.laidAll_os _ _ _, World.shaped_of_ZipB hv hr, (Input.okWide_of_okWideB (base := 0) hok).1, (Input.okWide_of_okWideB hok).2, hrow, by
    simp only [Assume.holds]
    exact ⟨by simp, by simp, fun _ => Modest.zero, by simp, by simp⟩⟩
end Go.Proofs.YtmckbcbdnckngaaGreatDoor

namespace Go.Proofs.YtmckbcbdnckngaaGreatDoor
open Go.ChangeShapes Go.WideShapes Go.RowKit Go.Deep
theorem open_arr2i {H : Type} {enc : TypeId × Value → H} {P : Program} {w : World} {base : Nat} {spare : Nat → Bool} {held : Bool} {t S : TypeId} {k : IntKind} {v : Value} {d : DataW H} {p : List MemPlace} {r : Reach} {b0 : Nat}
    (ht : P.underlying t = some (.array 2 S)) (hS : P.underlying S = some (.int k)) (hc : P.cellsOf S = 1) (hct : P.cellsOf t = 2) (hv : Value.okWide P w r b0 t v) (h : DataW.Trod enc P w base spare held t v d p) :
    ∃ a b : Int, v = .agg #[.int k a, .int k b] ∧ (Lit.int k a).wf = true ∧ (Lit.int k b).wf = true := by
  simp only [Value.okWide, ht] at hv
  obtain ⟨cs, rfl, hsz, _⟩ := hv
  rw [hct] at hsz
  obtain ⟨fuel, hf⟩ := h
  obtain ⟨xs, m, _, hx, _, hlen, hg⟩ := DataW.trod_array ht hf
  obtain ⟨l⟩ := cs
  match l, hsz with
  | [c0, c1], _ =>
    match xs, hlen with
    | [y0, y1], _ =>
      have g0 := hg 0 (by omega)
      have g1 := hg 1 (by omega)
      simp only [Value.cells, hc, Nat.zero_mul, List.drop_zero, List.take_succ_cons, List.take_zero, List.getElem?_cons_zero] at g0
      simp only [Value.cells, hc, Nat.one_mul, List.drop_succ_cons, List.drop_zero, List.take_succ_cons, List.take_zero, List.getElem?_cons_succ, List.getElem?_cons_zero] at g1
      obtain ⟨a, ha, _, hwa⟩ := DataW.trod_int hS g0
      obtain ⟨b, hb, _, hwb⟩ := DataW.trod_int hS g1
      simp only [List.cons.injEq, and_true] at ha hb
      subst ha; subst hb
      exact ⟨a, b, rfl, hwa, hwb⟩
end Go.Proofs.YtmckbcbdnckngaaGreatDoor

namespace Go.Proofs.YtmckbcbdnckngaaGreatDoor
open Go.RowKit Go.ChangeShapes

set_option maxRecDepth 100000 in
/-- The three tables of httpdate, out of a row's condition. -/
theorem glH_of {W : World} {laid : List (String × DataW Unit)} (hp : (laid.all fun x => x.2.handleName?.isNone) = true) (h : laidMetH Tryz.prog laid W)
    (h1 : ("quayside/httpdate.months", Rows.laid_quayside_httpdate_months) ∈ laid) (h2 : ("quayside/httpdate.weekdays", Rows.laid_quayside_httpdate_weekdays) ∈ laid) (h3 : ("quayside/httpdate.lengths", Rows.laid_quayside_httpdate_lengths) ∈ laid) : GlH W :=
  ⟨tab_rd (l := moL) (fun s => .lit (.string s.data.toList)) Value.string hp h h1 (by kernel_rfl) (by kernel_rfl) Tryz.underlying157 (by kernel_rfl) (by kernel_rfl) (one_str Tryz.underlying9) rfl,
   tab_rd (l := wdL) (fun s => .lit (.string s.data.toList)) Value.string hp h h2 (by kernel_rfl) (by kernel_rfl) Tryz.underlying156 (by kernel_rfl) (by kernel_rfl) (one_str Tryz.underlying9) rfl,
   tab_rd (l := leL) (fun z => .lit (.int .i64 z)) (Value.int .i64) hp h h3 (by kernel_rfl) (by kernel_rfl) Tryz.underlying214 (by kernel_rfl) (by kernel_rfl) (one_int Tryz.underlying3) rfl⟩
end Go.Proofs.YtmckbcbdnckngaaGreatDoor

namespace Go.Proofs.YtmckbcbdnckngaaGreatDoor
open Go.RowKit

theorem gl_of {w : World} (h : w.ShapedOpen Tryz.prog) : Gl w :=
  Go.Proofs.cell_of_shapedOpen_int (zero := #[.int .i64 0]) (t := 3) h (of_decide_eq_true (by kernel_rfl)) (by kernel_rfl) rfl (by kernel_rfl) (by kernel_rfl) Tryz.underlying3
theorem u8_wf {x : Int} (h : (Lit.int .u8 x).wf = true) : 0 ≤ x ∧ x ≤ 255 := by
  simp [Lit.wf] at h
  have e1 : IntKind.u8.min = 0 := rfl
  have e2 : IntKind.u8.max = 255 := rfl
  omega
end Go.Proofs.YtmckbcbdnckngaaGreatDoor
