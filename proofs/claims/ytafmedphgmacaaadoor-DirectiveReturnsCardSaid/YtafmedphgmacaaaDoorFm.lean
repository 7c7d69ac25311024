
/- The walk of directive.Format. -/
import Derived.Test.YtafmedphgmacaaaDoorNorm
import Derived.Test.YtafmedphgmacaaaDoorFmt
import Derived.Test.YtafmedphgmacaaaDoorFlat
import Derived.Test.YtafmedphgmacaaaDoorPow
import Derived.Test.YtafmedphgmacaaaDoorAllO
import Derived.Test.YtafmedphgmacaaaDoorMem
import Derived.Test.YtafmedphgmacaaaDoorJoin
import Derived.Lib.ItoaLen
namespace Go.Proofs.YtafmedphgmacaaaDoor
open Go.RowKit

/-- The flags, the times, with their names. -/
def flL (d : D) : List (Bool × List UInt8) := [(d.b0, wNS), (d.b1, wNC), (d.b2, wPR), (d.b3, wPU), (d.b4, wMR), (d.b5, wOC)]
def tmL (d : D) : List (Int × List UInt8) := [(d.n0, wMA), (d.n1, wSM), (d.n2, wWR), (d.n3, wIE), (d.n4, wMS), (d.n5, wMF)]
def flE (l : List (Bool × List UInt8)) : List ByteArray := l.flatMap fun p => elB p.1 p.2
def tmE (l : List (Int × List UInt8)) : List ByteArray := l.flatMap fun p => elT p.2 p.1
theorem el_split (d : D) : elD d = flE (flL d) ++ tmE (tmL d) := by
  simp [elD, flE, tmE, flL, tmL, List.append_assoc]
theorem flE_step {l : List (Bool × List UInt8)} {k : Nat} (h : k < l.length) : flE (l.take (k + 1)) = flE (l.take k) ++ elB l[k].1 l[k].2 := by
  unfold flE; rw [take_step l k h, List.flatMap_append, List.flatMap_cons, List.flatMap_nil, List.append_nil]
theorem tmE_step {l : List (Int × List UInt8)} {k : Nat} (h : k < l.length) : tmE (l.take (k + 1)) = tmE (l.take k) ++ elT l[k].2 l[k].1 := by
  unfold tmE; rw [take_step l k h, List.flatMap_append, List.flatMap_cons, List.flatMap_nil, List.append_nil]
theorem elB_len (b : Bool) (w : List UInt8) : (elB b w).length ≤ 1 := by unfold elB; split <;> simp
theorem elT_len (n : Int) (w : List UInt8) : (elT w n).length ≤ 1 := by unfold elT; split <;> (try split) <;> simp
theorem flE_len (l : List (Bool × List UInt8)) : (flE l).length ≤ l.length := by
  induction l with
  | nil => simp [flE]
  | cons x l ih => have := elB_len x.1 x.2; simp only [flE, List.flatMap_cons, List.length_append, List.length_cons] at *; omega
theorem tmE_len (l : List (Int × List UInt8)) : (tmE l).length ≤ l.length := by
  induction l with
  | nil => simp [tmE]
  | cons x l ih => have := elT_len x.1 x.2; simp only [tmE, List.flatMap_cons, List.length_append, List.length_cons] at *; omega
theorem totS_app (a b : List ByteArray) : totS (a ++ b) = totS a + totS b := by unfold totS; rw [List.map_append, List.sum_append]
theorem mkS_size (w : List UInt8) : (mkS w).size = w.length := by simp [mkS, ByteArray.size]
theorem dec_size {n : Int} (h : n ≤ 2147483647) : (decS n).size ≤ 20 := by
  unfold decS
  rw [mkS_size, Lib.decDigits_length]
  exact Lib.nDigits_le20 _ (by omega)
theorem elB_tot (b : Bool) {w : List UInt8} (hw : w.length ≤ 30) : totS (elB b w) ≤ 100 := by
  unfold elB; split
  · simp only [totS, List.map_cons, List.map_nil, List.sum_cons, List.sum_nil, mkS_size]; omega
  · simp [totS]
theorem elT_tot {n : Int} {w : List UInt8} (hw : w.length ≤ 30) (hn : n ≤ 2147483647) : totS (elT w n) ≤ 100 := by
  have := dec_size hn
  unfold elT; split
  · simp [totS]
  · split
    · simp only [totS, List.map_cons, List.map_nil, List.sum_cons, List.sum_nil, mkS_size]; omega
    · simp only [totS, List.map_cons, List.map_nil, List.sum_cons, List.sum_nil]
      unfold elV
      rw [ByteArray.size_append, ByteArray.size_append, mkS_size, show (⟨#[61]⟩ : ByteArray).size = 1 from rfl]
      omega
theorem flE_tot : ∀ (l : List (Bool × List UInt8)), (∀ p ∈ l, p.2.length ≤ 30) → totS (flE l) ≤ l.length * 100
  | [], _ => by simp [flE, totS]
  | x :: l, h => by
    have h1 := elB_tot x.1 (h x (List.mem_cons_self ..))
    have h2 := flE_tot l fun p hp => h p (List.mem_cons_of_mem _ hp)
    rw [show flE (x :: l) = elB x.1 x.2 ++ flE l from rfl, totS_app, List.length_cons]
    omega
theorem tmE_tot : ∀ (l : List (Int × List UInt8)), (∀ p ∈ l, p.2.length ≤ 30) → (∀ p ∈ l, p.1 ≤ 2147483647) → totS (tmE l) ≤ l.length * 100
  | [], _, _ => by simp [tmE, totS]
  | x :: l, h, h' => by
    have h1 := elT_tot (h x (List.mem_cons_self ..)) (h' x (List.mem_cons_self ..))
    have h2 := tmE_tot l (fun p hp => h p (List.mem_cons_of_mem _ hp)) fun p hp => h' p (List.mem_cons_of_mem _ hp)
    rw [show tmE (x :: l) = elT x.2 x.1 ++ tmE l from rfl, totS_app, List.length_cons]
    omega
theorem fl_short (d : D) : ∀ p ∈ flL d, p.2.length ≤ 30 := by
  intro p hp
  simp only [flL, List.mem_cons, List.not_mem_nil, or_false] at hp
  rcases hp with rfl | rfl | rfl | rfl | rfl | rfl <;> dsimp only <;> decide
theorem tm_short (d : D) : ∀ p ∈ tmL d, p.2.length ≤ 30 := by
  intro p hp
  simp only [tmL, List.mem_cons, List.not_mem_nil, or_false] at hp
  rcases hp with rfl | rfl | rfl | rfl | rfl | rfl <;> dsimp only <;> decide
theorem sum_c {P : Program} (a b : ByteArray) (h : a.size + b.size ≤ 100) : ∀ w, (Op.stringOp .add a b).run P w = .ok (.string (a ++ b)) w :=
  fun w => run_string_add_sum w a b (by omega)
theorem cells_two {w w' : World} {row : Option Nat} {b : Nat} {u v : Value} (h : w.cell? ⟨b, 0, none⟩ = some u ∧ w.cell? ⟨b, 1, none⟩ = some v) (hg : w.grownBy w' row) (hne : some b ≠ row) :
    w'.cell? ⟨b, 0, none⟩ = some u ∧ w'.cell? ⟨b, 1, none⟩ = some v := by
  have hb := World.block_lt_of_cell? w _ h.1
  exact ⟨(World.cell?_of_block (hg.block b hb hne)).trans h.1, (World.cell?_of_block (hg.block b hb hne)).trans h.2⟩
theorem step_appAt {P : Program} (w : World) {ops : Array Oper} {o : Oper} {a : Act} {K : Act → World → Prop} {Q : Exit → Act → World → Prop} {E : Prop} (hgd : o.guard = none) (s x : Operand) (t : TypeId)
    (ho : o.op = .call { callee := .builtin .append, args := #[s, x], argTypes := #[t, t] })
    (w0 : World) (e : TypeId) (z : Value) (size bytes : Nat) (ht : P.underlying t = some (.slice e))
    (hinfo : (P.info? e).map (fun i => (i.zero, i.size, i.bytes)) = some (some z, size, bytes)) (hzs : z.cells.size = size) (hsz : 0 < size)
    (v : Value) (n : Nat) (xs : List Value) (hs : a.eval s = v) (hown : w.ownsRow w0.heap.size e size v n xs)
    (ad : Addr) (m c : Nat) (news : List Value) (hx : a.eval x = .slice (some ad) m c) (hl : news.length = m * size) (hnews : ∀ j u, news[j]? = some u → w.cell? (ad.add j) = some u) (h1 : ∀ u ∈ news, u.oneCell' = true)
    (hb : Ext w0 w) (hbytes : (n + m) * bytes ≤ 140737488355328) (hby0 : 0 < bytes)
    (h : ∀ A' c' w', w'.ownsRow w0.heap.size e size (.slice A' (n + m) c') (n + m) (xs ++ news) → Ext w0 w' → n + m ≤ c' → w.grownBy w' v.ownBlock → ((Value.slice A' (n + m) c').ownBlock = v.ownBlock ∨ (Value.slice A' (n + m) c').ownBlock = some w.heap.size) → K (a.put o.dst (.slice A' (n + m) c')) w') :
    if Region.wanted o (yielded ops a.tmps) = true then Oper.wp P o a w K Q else E := by
  rw [if_pos (by simp [Region.wanted, hgd])]
  have h63 : n + m ≤ maxLen := by
    have : (n + m) * 1 ≤ (n + m) * bytes := Nat.mul_le_mul_left _ hby0
    simp only [maxLen]; omega
  obtain ⟨i, hi, hz, hsize, hby⟩ := info_parts hinfo
  obtain ⟨v', w', hrun, h2, h3, _, h5⟩ := run_append_own_at (P := P) w w0.heap.size t o.type e i z size bytes ht hi hz hsize hby hzs hsz v n xs hown ad m c news hl hnews h1 h63 hbytes hb.size
  obtain ⟨A', c', rfl, hle⟩ := own_shape h2
  unfold Oper.wp execOp
  simp only [ho, resolve, invoke, builtin, Sem.run_bind, Sem.run_pure, Result.andThen_ok, List.map_toArray, List.map_cons, List.map_nil, hs, hx, hrun]
  exact h A' c' w' h2 (hb.grown h3 (fun k hk => (hown.lt k hk).1)) hle h3 h5

set_option maxHeartbeats 8000000 in
set_option maxRecDepth 100000 in
theorem dir_Format (x : D) (w : World) (hp : GlP w) : Calls Tryd.prog 12 #[.agg (dArr x)] w fun e w' => e = .returned (.string (fmtD x)) ∧ Ext w w' := by
  have hB0 := Blk.new w 26 (dArr x)
  have hE0 := (Ext.refl w).alloc (.cells (dArr x) 26)
  have HB0 := Lib.hid hB0; have HE0 := Lib.hid hE0; have HP := Lib.hid hp
  have HF := Lib.hid (show fmtD x = joinS (flE (flL (nmD x)) ++ tmE (tmL (nmD x))) by unfold fmtD; rw [el_split])
  clear hB0 hE0 hp
  have HN := Lib.hid (show ∀ p ∈ tmL (nmD x), p.1 ≤ 2147483647 by
    intro p hp
    simp only [tmL, List.mem_cons, List.not_mem_nil, or_false] at hp
    rcases hp with rfl | rfl | rfl | rfl | rfl | rfl <;> simp only [nmD, nmT] <;> omega)
  have HT1 := Lib.hid (flE_tot _ (fl_short (nmD x)))
  have HT2 := Lib.hid (tmE_tot _ (tm_short (nmD x)) HN.out)
  have HW := Lib.hid (tm_short (nmD x))
  go_enter Tryd.func12, Tryd.ntmps12
  go_wp2_with (first
    | (refine wpList_loadB rfl 26 (.tmp 1) rfl w.heap.size rfl 26 _ HB0.out _ Tryd.underlying26 infoDp ?_))
  refine (dir_normal x _).mono ?_; rintro e w1 ⟨rfl, hb1⟩
  have HB1 := Lib.hid (HB0.out.ext hb1)
  have HE1 := Lib.hid (HE0.out.trans hb1)
  generalize nmD x = d at *
  clear hb1 HB0
  go_wp2_with (first
    | (refine wpList_storeB rfl 26 (.tmp 1) (.tmp 9) rfl rfl w.heap.size _ rfl rfl 26 _ HB1.out infoDp rfl (dArr_one d) ?_; intro w2 hB2 hx2; have z0 := hB2.cell 0; have z1 := hB2.cell 1; have z2 := hB2.cell 2; have z3 := hB2.cell 3; have z4 := hB2.cell 4; have z5 := hB2.cell 5; simp only [dArr] at z0 z1 z2 z3 z4 z5))
  have hr : Rd (w2.alloc (.cells #[.bool d.b0, .string ⟨#[110, 111, 45, 115, 116, 111, 114, 101]⟩, .bool d.b1, .string ⟨#[110, 111, 45, 99, 97, 99, 104, 101]⟩, .bool d.b2, .string ⟨#[112, 114, 105, 118, 97, 116, 101]⟩, .bool d.b3, .string ⟨#[112, 117, 98, 108, 105, 99]⟩, .bool d.b4, .string ⟨#[109, 117, 115, 116, 45, 114, 101, 118, 97, 108, 105, 100, 97, 116, 101]⟩, .bool d.b5, .string ⟨#[111, 110, 108, 121, 45, 105, 102, 45, 99, 97, 99, 104, 101, 100]⟩] 43)) 2 (some ⟨w2.heap.size, 0, none⟩) 6 ((flL d).flatMap flC) := Rd.lit w2 #[.bool d.b0, .string ⟨#[110, 111, 45, 115, 116, 111, 114, 101]⟩, .bool d.b1, .string ⟨#[110, 111, 45, 99, 97, 99, 104, 101]⟩, .bool d.b2, .string ⟨#[112, 114, 105, 118, 97, 116, 101]⟩, .bool d.b3, .string ⟨#[112, 117, 98, 108, 105, 99]⟩, .bool d.b4, .string ⟨#[109, 117, 115, 116, 45, 114, 101, 118, 97, 108, 105, 100, 97, 116, 101]⟩, .bool d.b5, .string ⟨#[111, 110, 108, 121, 45, 105, 102, 45, 99, 97, 99, 104, 101, 100]⟩] 43 rfl 2 6 rfl
  have HE2 := Lib.hid (((HE1.out.growB hx2 (Nat.le_refl _)).alloc (.cells #[.bool d.b0, .string ⟨#[110, 111, 45, 115, 116, 111, 114, 101]⟩, .bool d.b1, .string ⟨#[110, 111, 45, 99, 97, 99, 104, 101]⟩, .bool d.b2, .string ⟨#[112, 114, 105, 118, 97, 116, 101]⟩, .bool d.b3, .string ⟨#[112, 117, 98, 108, 105, 99]⟩, .bool d.b4, .string ⟨#[109, 117, 115, 116, 45, 114, 101, 118, 97, 108, 105, 100, 97, 116, 101]⟩, .bool d.b5, .string ⟨#[111, 110, 108, 121, 45, 105, 102, 45, 99, 97, 99, 104, 101, 100]⟩] 43)))
  have HB2 := Lib.hid (hB2.alloc (.cells #[.bool d.b0, .string ⟨#[110, 111, 45, 115, 116, 111, 114, 101]⟩, .bool d.b1, .string ⟨#[110, 111, 45, 99, 97, 99, 104, 101]⟩, .bool d.b2, .string ⟨#[112, 114, 105, 118, 97, 116, 101]⟩, .bool d.b3, .string ⟨#[112, 117, 98, 108, 105, 99]⟩, .bool d.b4, .string ⟨#[109, 117, 115, 116, 45, 114, 101, 118, 97, 108, 105, 100, 97, 116, 101]⟩, .bool d.b5, .string ⟨#[111, 110, 108, 121, 45, 105, 102, 45, 99, 97, 99, 104, 101, 100]⟩] 43))
  clear hx2 hB2 z0 z1 z2 z3 z4 z5
  generalize (w2.alloc (.cells #[.bool d.b0, .string ⟨#[110, 111, 45, 115, 116, 111, 114, 101]⟩, .bool d.b1, .string ⟨#[110, 111, 45, 99, 97, 99, 104, 101]⟩, .bool d.b2, .string ⟨#[112, 114, 105, 118, 97, 116, 101]⟩, .bool d.b3, .string ⟨#[112, 117, 98, 108, 105, 99]⟩, .bool d.b4, .string ⟨#[109, 117, 115, 116, 45, 114, 101, 118, 97, 108, 105, 100, 97, 116, 101]⟩, .bool d.b5, .string ⟨#[111, 110, 108, 121, 45, 105, 102, 45, 99, 97, 99, 104, 101, 100]⟩] 43)) = w4 at *
  generalize w2.heap.size = bN at *
  have HR := Lib.hid hr
  clear hr HB1 HE1 HE0
  go_loopw [3, 30] (fun v i wr => ∃ k p A' c', k ≤ 6 ∧ p ≤ k ∧ i = .int .i64 (k : Nat) ∧ v = .slice A' p c' ∧ wr.ownsRow w4.heap.size 9 1 (.slice A' p c') p (strCells (flE ((flL d).take k))) ∧ p ≤ c' ∧ Ext w4 wr) (fun _ i _ => 6 - (intOf i).toNat)
  case atStart => exact ⟨0, 0, none, 0, Nat.zero_le _, Nat.le_refl _, rfl, rfl, World.ownsRow_nil _ _ _ _, Nat.le_refl _, Ext.refl _⟩
  case round =>
    rename_i wr
    obtain ⟨k, p, A', c', hk, hpk, rfl, rfl, hown, hpc, hbr⟩ := hrel
    by_cases hlt : k < 6
    · have hlt' : k < (flL d).length := hlt
      obtain ⟨b, o, hbo, hc0, hc1⟩ := (HR.out.ext hbr).atFl hlt'
      injection hbo with hbo
      injection hbo with e1 e2
      subst e1; subst e2
      rw [Nat.zero_add] at hc0 hc1
      have Hst := Lib.hid (flE_step hlt')
      generalize (flL d)[k].1 = bb at *
      generalize (flL d)[k].2 = ww at *
      cases bb
      · go_wp2_with fail
        go_roundw
        case rel => exact ⟨k + 1, p, A', c', by omega, by omega, by go_num, rfl, by rw [Hst.out, show elB false ww = [] from rfl, List.append_nil]; exact hown.alloc _, hpc, hbr.alloc _⟩
        case measure => simp [intOf]; omega
      · go_wp2_with (first
          | (at_builtin; refine wpList_app _ rfl (.tmp 36) (.tmp 39) 39 rfl w4 9 _ 1 16 Tryd.underlying39 infoStr rfl (by decide) _ _ _ rfl ((hown.alloc _).alloc _) _ 1 1 [.string ⟨ww.toArray⟩] rfl (Rd.one _ _ _ (by simp)) (strCells_one [⟨ww.toArray⟩]) ((hbr.alloc _).alloc _) (by omega) (by decide) ?_; intro A2 c2 w3 hown3 hb3 hle3))
        go_roundw
        case rel => exact ⟨k + 1, p + 1, A2, c2, by omega, by omega, by go_num, rfl, by rw [Hst.out, show elB true ww = [⟨ww.toArray⟩] from rfl]; unfold strCells; rw [List.map_append]; exact hown3, hle3, hb3⟩
        case measure => simp [intOf]; omega
    · obtain rfl : k = 6 := by omega
      rw [show (flL d).take 6 = flL d from rfl] at hown
      have hd := HB2.out.ext hbr
      have z0 := hd.cell 6; have z1 := hd.cell 7; have z2 := hd.cell 8; have z3 := hd.cell 9; have z4 := hd.cell 10; have z5 := hd.cell 11
      simp only [dArr] at z0 z1 z2 z3 z4 z5
      clear hd hlt
      go_wp2_with fail
      have hr2 := Blk.new wr 45 #[.int .i64 d.n0, .string ⟨#[109, 97, 120, 45, 97, 103, 101]⟩, .int .i64 d.n1, .string ⟨#[115, 45, 109, 97, 120, 97, 103, 101]⟩, .int .i64 d.n2, .string ⟨#[115, 116, 97, 108, 101, 45, 119, 104, 105, 108, 101, 45, 114, 101, 118, 97, 108, 105, 100, 97, 116, 101]⟩, .int .i64 d.n3, .string ⟨#[115, 116, 97, 108, 101, 45, 105, 102, 45, 101, 114, 114, 111, 114]⟩, .int .i64 d.n4, .string ⟨#[109, 97, 120, 45, 115, 116, 97, 108, 101]⟩, .int .i64 d.n5, .string ⟨#[109, 105, 110, 45, 102, 114, 101, 115, 104]⟩]
      have hne : (Value.slice A' p c').ownBlock ≠ some wr.heap.size := fun e => by have := (hown.lt _ e).2; omega
      have hown6 := hown.alloc (.cells #[.int .i64 d.n0, .string ⟨#[109, 97, 120, 45, 97, 103, 101]⟩, .int .i64 d.n1, .string ⟨#[115, 45, 109, 97, 120, 97, 103, 101]⟩, .int .i64 d.n2, .string ⟨#[115, 116, 97, 108, 101, 45, 119, 104, 105, 108, 101, 45, 114, 101, 118, 97, 108, 105, 100, 97, 116, 101]⟩, .int .i64 d.n3, .string ⟨#[115, 116, 97, 108, 101, 45, 105, 102, 45, 101, 114, 114, 111, 114]⟩, .int .i64 d.n4, .string ⟨#[109, 97, 120, 45, 115, 116, 97, 108, 101]⟩, .int .i64 d.n5, .string ⟨#[109, 105, 110, 45, 102, 114, 101, 115, 104]⟩] 45)
      have hE6 := hbr.alloc (.cells #[.int .i64 d.n0, .string ⟨#[109, 97, 120, 45, 97, 103, 101]⟩, .int .i64 d.n1, .string ⟨#[115, 45, 109, 97, 120, 97, 103, 101]⟩, .int .i64 d.n2, .string ⟨#[115, 116, 97, 108, 101, 45, 119, 104, 105, 108, 101, 45, 114, 101, 118, 97, 108, 105, 100, 97, 116, 101]⟩, .int .i64 d.n3, .string ⟨#[115, 116, 97, 108, 101, 45, 105, 102, 45, 101, 114, 114, 111, 114]⟩, .int .i64 d.n4, .string ⟨#[109, 97, 120, 45, 115, 116, 97, 108, 101]⟩, .int .i64 d.n5, .string ⟨#[109, 105, 110, 45, 102, 114, 101, 115, 104]⟩] 45)
      clear hown hbr z0 z1 z2 z3 z4 z5
      generalize (wr.alloc (.cells #[.int .i64 d.n0, .string ⟨#[109, 97, 120, 45, 97, 103, 101]⟩, .int .i64 d.n1, .string ⟨#[115, 45, 109, 97, 120, 97, 103, 101]⟩, .int .i64 d.n2, .string ⟨#[115, 116, 97, 108, 101, 45, 119, 104, 105, 108, 101, 45, 114, 101, 118, 97, 108, 105, 100, 97, 116, 101]⟩, .int .i64 d.n3, .string ⟨#[115, 116, 97, 108, 101, 45, 105, 102, 45, 101, 114, 114, 111, 114]⟩, .int .i64 d.n4, .string ⟨#[109, 97, 120, 45, 115, 116, 97, 108, 101]⟩, .int .i64 d.n5, .string ⟨#[109, 105, 110, 45, 102, 114, 101, 115, 104]⟩] 45)) = w6 at *
      generalize wr.heap.size = bM at *
      generalize flE (flL d) = E1 at *
      have HR2 := Lib.hid hr2; have HO6 := Lib.hid hown6; have HE6 := Lib.hid hE6; have HPC := Lib.hid hpc; have HNE := Lib.hid hne
      clear hr2 hown6 hE6 hpc hne HR
      go_loopw [3, 62] (fun v i wr => ∃ k q A' c', k ≤ 6 ∧ q ≤ 6 + k ∧ i = .int .i64 (k : Nat) ∧ v = .slice A' q c' ∧ wr.ownsRow w4.heap.size 9 1 (.slice A' q c') q (strCells (E1 ++ tmE ((tmL d).take k))) ∧ q ≤ c' ∧ Ext w4 wr ∧ Blk wr bM 45 #[.int .i64 d.n0, .string ⟨#[109, 97, 120, 45, 97, 103, 101]⟩, .int .i64 d.n1, .string ⟨#[115, 45, 109, 97, 120, 97, 103, 101]⟩, .int .i64 d.n2, .string ⟨#[115, 116, 97, 108, 101, 45, 119, 104, 105, 108, 101, 45, 114, 101, 118, 97, 108, 105, 100, 97, 116, 101]⟩, .int .i64 d.n3, .string ⟨#[115, 116, 97, 108, 101, 45, 105, 102, 45, 101, 114, 114, 111, 114]⟩, .int .i64 d.n4, .string ⟨#[109, 97, 120, 45, 115, 116, 97, 108, 101]⟩, .int .i64 d.n5, .string ⟨#[109, 105, 110, 45, 102, 114, 101, 115, 104]⟩] ∧ (Value.slice A' q c').ownBlock ≠ some bM) (fun _ i _ => 6 - (intOf i).toNat)
      case atStart => exact ⟨0, p, A', c', Nat.zero_le _, by omega, rfl, rfl, by rw [show tmE ((tmL d).take 0) = [] from rfl, List.append_nil]; exact HO6.out, HPC.out, HE6.out, HR2.out, HNE.out⟩
      case round =>
        obtain ⟨k, q, A2, c2, hk2, hq, rfl, rfl, hown, hqc, hbr, hbk, hnb⟩ := hrel
        by_cases hlt : k < 6
        · have hlt' : k < (tmL d).length := hlt
          obtain ⟨b, o, hbo, hc0, hc1⟩ := (Rd.of_blk (k := 2) (n := 6) hbk rfl : Rd _ 2 (some ⟨bM, 0, none⟩) 6 ((tmL d).flatMap tmC)).atTm hlt'
          injection hbo with hbo
          injection hbo with e1 e2
          subst e1; subst e2
          rw [Nat.zero_add] at hc0 hc1
          have Hst := Lib.hid (tmE_step hlt')
          have Hn := Lib.hid (HN.out _ (List.getElem_mem hlt'))
          have Hw := Lib.hid (HW.out _ (List.getElem_mem hlt'))
          generalize (tmL d)[k].1 = nn at *
          generalize (tmL d)[k].2 = ww at *
          by_cases hneg : nn < 0
          · have He := Lib.hid (show elT ww nn = [] from if_pos hneg)
            go_wp2_with fail
            go_roundw
            case rel => exact ⟨k + 1, q, A2, c2, by omega, by omega, by go_num, rfl, by rw [Hst.out, He.out, List.append_nil]; exact hown.alloc _, hqc, hbr.alloc _, hbk.alloc _, hnb⟩
            case measure => simp [intOf]; omega
          · by_cases hms : ww = wMS ∧ nn = 2147483647
            · obtain ⟨rfl, rfl⟩ := hms
              go_wp2_with (first
                | (at_builtin; refine wpList_appAt _ rfl (.tmp 89) (.tmp 92) 39 rfl w4 9 _ 1 16 Tryd.underlying39 infoStr rfl (by decide) _ _ _ rfl ((hown.alloc _).alloc _) ⟨wr.heap.size + 1, 0, none⟩ 1 1 [.string ⟨#[109, 97, 120, 45, 115, 116, 97, 108, 101]⟩] rfl rfl (by have := cell_one_new (wr.alloc (.cells #[.int .i64 2147483647, .string ⟨#[109, 97, 120, 45, 115, 116, 97, 108, 101]⟩] 45)) (.string ⟨#[109, 97, 120, 45, 115, 116, 97, 108, 101]⟩) 9; rw [World.size_alloc] at this; exact this) (strCells_one [⟨#[109, 97, 120, 45, 115, 116, 97, 108, 101]⟩]) ((hbr.alloc _).alloc _) (by omega) (by decide) ?_; intro A3 c3 w7 hown3 hb3 hle3 hg3 ho3))
              go_roundw
              case rel =>
                refine ⟨.slice A3 (q + 1) c3, .pointer (some ⟨wr.heap.size, 0, none⟩), .int .i64 ((k : Int) + 1), ⟨k + 1, by omega, q + 1, by omega, by go_num, A3, c3, rfl, ?_, hle3, ((hbk.alloc _).alloc _).grown hg3 (fun e => hnb e.symm), ?_⟩, rfl, rfl, rfl⟩
                · rw [Hst.out, show elT wMS 2147483647 = [mkS wMS] from rfl]
                  have h := hown3
                  simp only [strCells, List.map_append, List.append_assoc, List.map_cons, List.map_nil] at h ⊢
                  exact h
                · rcases ho3 with h | h
                  · rw [h]; exact hnb
                  · rw [h]
                    intro e
                    injection e with e
                    have := hbk.lt
                    simp at e
                    omega
              case measure => simp [intOf]; omega
            · have He := Lib.hid (show elT ww nn = [elV ww nn] by unfold elT; rw [if_neg hneg, if_neg hms])
              have hq : (ww = wMS ∧ ¬ nn = 2147483647) ∨ ¬ ww = wMS := by
                by_cases hw : ww = wMS
                · exact .inl ⟨hw, fun h => hms ⟨hw, h⟩⟩
                · exact .inr hw
              clear hms
              rcases hq with ⟨hw, hn7⟩ | hw
              · subst hw
                have hc1 : wr.cell? _ = some (.string ⟨#[109, 97, 120, 45, 115, 116, 97, 108, 101]⟩) := hc1
                go_wp2_with fail
                have hE := (Ext.refl (wr.alloc (.cells #[.int .i64 nn, .string ⟨#[109, 97, 120, 45, 115, 116, 97, 108, 101]⟩] 45))).drew
                have HK := Lib.hid (show ∀ w', Ext (wr.alloc (.cells #[.int .i64 nn, .string ⟨#[109, 97, 120, 45, 115, 116, 97, 108, 101]⟩] 45)) w' → (w'.cell? ⟨wr.heap.size, 0, none⟩ = some (.int .i64 nn) ∧ w'.cell? ⟨wr.heap.size, 1, none⟩ = some (.string ⟨#[109, 97, 120, 45, 115, 116, 97, 108, 101]⟩)) from fun w' h => ⟨h.cell ((Blk.new wr 45 #[.int .i64 nn, .string ⟨#[109, 97, 120, 45, 115, 116, 97, 108, 101]⟩]).cell 0), h.cell ((Blk.new wr 45 #[.int .i64 nn, .string ⟨#[109, 97, 120, 45, 115, 116, 97, 108, 101]⟩]).cell 1)⟩)
                have hd := dec_size Hn.out
                have s1 := sum_c (P := Tryd.prog) ⟨#[109, 97, 120, 45, 115, 116, 97, 108, 101]⟩ ⟨#[61]⟩ (by have hw := Hw.out; show (mkS wMS).size + 1 ≤ 100; rw [mkS_size]; omega)
                have s2 := sum_c (P := Tryd.prog) (⟨#[109, 97, 120, 45, 115, 116, 97, 108, 101]⟩ ++ ⟨#[61]⟩) ⟨(Lib.decDigits nn.toNat).toArray⟩ (by have hw := Hw.out; show (mkS wMS ++ ⟨#[61]⟩).size + (decS nn).size ≤ 100; rw [ByteArray.size_append, mkS_size, show (⟨#[61]⟩ : ByteArray).size = 1 from rfl]; omega)
                clear hd
                refine wp_region_held_drew (S := (fun w' => w'.cell? ⟨wr.heap.size, 0, none⟩ = some (.int .i64 nn) ∧ w'.cell? ⟨wr.heap.size, 1, none⟩ = some (.string ⟨#[109, 97, 120, 45, 115, 116, 97, 108, 101]⟩))) (by kernel_rfl) ?_ (fun hHeld => ?_)
                · (try dsimp only); exact HK.out _ hE
                refine wpAnyH_take (i := 0) (oi := { dst := some 66, op := _, type := _, pos := _, after := _, guard := _ }) (v := ?_) rfl (by kernel_rfl) (by kernel_rfl) (by kernel_rfl) (fun _ _ _ h => h) (Or.inl ⟨by rfl, ?_⟩) (by assumption) ?_
                rotate_left
                · (intro w hSw; (try dsimp only at hSw); go_simp; (try with_reducible rfl))
                (try simp only [Act.put, List.setIfInBounds_toArray, List.set_cons_zero, List.set_cons_succ])
                refine wpAnyH_take (i := 1) (oi := { dst := some 67, op := _, type := _, pos := _, after := _, guard := _ }) (v := ?_) rfl (by kernel_rfl) (by kernel_rfl) (by kernel_rfl) (fun _ _ _ h => h) (Or.inl ⟨by rfl, ?_⟩) (by assumption) ?_
                rotate_left
                · (intro w hSw; (try dsimp only at hSw); go_simp; (try with_reducible rfl))
                (try simp only [Act.put, List.setIfInBounds_toArray, List.set_cons_zero, List.set_cons_succ])
                refine wpAnyH_take (i := 2) (oi := { dst := some 68, op := _, type := _, pos := _, after := _, guard := _ }) (v := ?_) rfl (by kernel_rfl) (by kernel_rfl) (by kernel_rfl) (fun _ _ _ h => h) (Or.inl ⟨by rfl, ?_⟩) (by assumption) ?_
                rotate_left
                · (intro w hSw; (try dsimp only at hSw); go_simp; (try with_reducible rfl))
                (try simp only [Act.put, List.setIfInBounds_toArray, List.set_cons_zero, List.set_cons_succ])
                refine wpAnyH_take (i := 3) (oi := { dst := some 69, op := _, type := _, pos := _, after := _, guard := _ }) (v := ?_) rfl (by kernel_rfl) (by kernel_rfl) (by kernel_rfl) (fun _ _ _ h => h) (Or.inl ⟨by rfl, ?_⟩) (by assumption) ?_
                rotate_left
                · (intro w hSw; (try dsimp only at hSw); go_simp; (try with_reducible rfl))
                (try simp only [Act.put, List.setIfInBounds_toArray, List.set_cons_zero, List.set_cons_succ])
                refine wpAnyH_take (i := 4) (oi := { dst := some 70, op := _, type := _, pos := _, after := _, guard := _ }) (v := ?_) rfl (by kernel_rfl) (by kernel_rfl) (by kernel_rfl) (fun _ _ _ h => h) (Or.inl ⟨by rfl, ?_⟩) (by assumption) ?_
                rotate_left
                · (intro w hSw; (try dsimp only at hSw); go_simp; (try with_reducible rfl))
                (try simp only [Act.put, List.setIfInBounds_toArray, List.set_cons_zero, List.set_cons_succ])
                refine wpAnyH_take (i := 5) (oi := { dst := some 71, op := _, type := _, pos := _, after := _, guard := _ }) (v := ?_) rfl (by kernel_rfl) (by kernel_rfl) (by kernel_rfl) (fun _ _ _ h => h) (Or.inl ⟨by rfl, ?_⟩) (by assumption) ?_
                rotate_left
                · (intro w hSw; (try dsimp only at hSw); go_simp; (try with_reducible rfl))
                (try simp only [Act.put, List.setIfInBounds_toArray, List.set_cons_zero, List.set_cons_succ])
                refine wpAnyH_ready (rs := [6]) (by kernel_rfl) (by simp) ?_
                refine AllReadyH.cons (o := { dst := some 72, op := _, type := _, pos := _, after := _, guard := _ }) rfl (fun K hK => ?_) AllReadyH.nil
                go_simp
                refine (std_Itoa nn (by omega) (by have := Hn.out; omega) _ (HP.out.ext (((HE2.out.trans hbr).alloc _).trans hE))).mono ?_; rintro e w1' ⟨rfl, hb1⟩; replace hE := hE.trans hb1; clear hb1
                try go_wp2_with fail
                refine hK.out _ _ ?_ (fun hHeld => ?_)
                · (try dsimp only); exact HK.out _ hE
                clear hK K
                (try simp only [Act.put, List.setIfInBounds_toArray, List.set_cons_zero, List.set_cons_succ])
                refine wpAnyH_take (i := 7) (oi := { dst := some 73, op := _, type := _, pos := _, after := _, guard := _ }) (v := ?_) rfl (by kernel_rfl) (by kernel_rfl) (by kernel_rfl) (fun _ _ _ h => h) (Or.inl ⟨by rfl, ?_⟩) (by assumption) ?_
                rotate_left
                · (intro w hSw; (try dsimp only at hSw); go_simp; (try with_reducible rfl))
                (try simp only [Act.put, List.setIfInBounds_toArray, List.set_cons_zero, List.set_cons_succ])
                refine wpAnyH_ready (rs := [8]) (by kernel_rfl) (by simp) ?_
                refine AllReadyH.cons (o := { dst := some 74, op := _, type := _, pos := _, after := _, guard := _ }) rfl (fun K hK => ?_) AllReadyH.nil
                go_simp
                try go_wp2_with fail
                refine hK.out _ _ ?_ (fun hHeld => ?_)
                · (try dsimp only); exact HK.out _ (hE.alloc _)
                clear hK K
                (try simp only [Act.put, List.setIfInBounds_toArray, List.set_cons_zero, List.set_cons_succ])
                refine wpAnyH_ready (rs := [9]) (by kernel_rfl) (by simp) ?_
                refine AllReadyH.cons (o := { dst := some 75, op := _, type := _, pos := _, after := _, guard := _ }) rfl (fun K hK => ?_) AllReadyH.nil
                refine step_appAt _ rfl (.tmp 66) (.tmp 74) 39 rfl w4 9 _ 1 16 Tryd.underlying39 infoStr rfl (by decide) _ _ _ rfl (own_ext (hown.alloc _) (hE.alloc _)) ⟨w1'.heap.size, 0, none⟩ 1 1 [.string (elV wMS nn)] rfl rfl (cell_one_new w1' (.string (elV wMS nn)) 9) (strCells_one [elV wMS nn]) ((hbr.alloc _).trans (hE.alloc _)) (by omega) (by decide) ?_; intro A3 c3 w7 hown9 hb9 hle9 hg9 ho9
                refine hK.out _ _ ?_ (fun hHeld => ?_)
                · (try dsimp only); exact cells_two (HK.out _ (hE.alloc _)) hg9 (fun e => by have := (hown.lt _ e.symm).2; omega)
                clear hK K
                (try simp only [Act.put, List.setIfInBounds_toArray, List.set_cons_zero, List.set_cons_succ])
                refine wpAnyH_take (i := 10) (oi := { dst := some 3, op := _, type := _, pos := _, after := _, guard := _ }) (v := ?_) rfl (by kernel_rfl) (by kernel_rfl) (by kernel_rfl) (fun _ _ _ h => h) (Or.inl ⟨by rfl, ?_⟩) (by assumption) ?_
                rotate_left
                · (intro w hSw; (try dsimp only at hSw); go_simp; (try with_reducible rfl))
                (try simp only [Act.put, List.setIfInBounds_toArray, List.set_cons_zero, List.set_cons_succ])
                refine wpAnyH_done (by kernel_rfl) ?_ _
                go_wp2_with fail
                go_roundw
                case rel =>
                  refine ⟨.slice A3 (q + 1) c3, .pointer (some ⟨wr.heap.size, 0, none⟩), .int .i64 ((k : Int) + 1), ?_⟩
                  repeat apply Exists.intro
                  refine ⟨⟨k + 1, q + 1, A3, c3, by omega, by omega, by go_num, rfl, ?_, hle9, hb9, ((hbk.alloc _).ext (hE.alloc _)).grown hg9 (fun e => hnb e.symm), ?_⟩, ?_⟩
                  rotate_left 2
                  · first | rfl | exact ⟨rfl, rfl⟩ | exact ⟨rfl, rfl, rfl⟩
                  · rw [Hst.out, He.out]
                    have h := hown9
                    simp only [strCells, List.map_append, List.append_assoc, List.map_cons, List.map_nil] at h ⊢
                    exact h
                  · rcases ho9 with h | h
                    · rw [h]; exact hnb
                    · rw [h]
                      intro e
                      injection e with e
                      have h1 := hbk.lt
                      have h2 := (hE.alloc (.cells #[.string (elV wMS nn)] 9)).size
                      have h3 := World.size_alloc wr (.cells #[.int .i64 nn, .string ⟨#[109, 97, 120, 45, 115, 116, 97, 108, 101]⟩] 45)
                      have h4 : (w1'.alloc (.cells #[.string (elV wMS nn)] 9)).heap.size = bM := e
                      omega
                case measure => simp [intOf]; omega
              · have hv : ¬ (⟨ww.toArray⟩ : ByteArray) = ⟨#[109, 97, 120, 45, 115, 116, 97, 108, 101]⟩ := fun h => hw (by injection h with h; exact congrArg Array.toList h)
                go_wp2_with fail
                have hE := (Ext.refl (wr.alloc (.cells #[.int .i64 nn, .string ⟨ww.toArray⟩] 45))).drew
                have HK := Lib.hid (show ∀ w', Ext (wr.alloc (.cells #[.int .i64 nn, .string ⟨ww.toArray⟩] 45)) w' → (w'.cell? ⟨wr.heap.size, 0, none⟩ = some (.int .i64 nn) ∧ w'.cell? ⟨wr.heap.size, 1, none⟩ = some (.string ⟨ww.toArray⟩)) from fun w' h => ⟨h.cell ((Blk.new wr 45 #[.int .i64 nn, .string ⟨ww.toArray⟩]).cell 0), h.cell ((Blk.new wr 45 #[.int .i64 nn, .string ⟨ww.toArray⟩]).cell 1)⟩)
                have hd := dec_size Hn.out
                have s1 := sum_c (P := Tryd.prog) ⟨ww.toArray⟩ ⟨#[61]⟩ (by have hw := Hw.out; show (mkS ww).size + 1 ≤ 100; rw [mkS_size]; omega)
                have s2 := sum_c (P := Tryd.prog) (⟨ww.toArray⟩ ++ ⟨#[61]⟩) ⟨(Lib.decDigits nn.toNat).toArray⟩ (by have hw := Hw.out; show (mkS ww ++ ⟨#[61]⟩).size + (decS nn).size ≤ 100; rw [ByteArray.size_append, mkS_size, show (⟨#[61]⟩ : ByteArray).size = 1 from rfl]; omega)
                clear hd
                refine wp_region_held_drew (S := (fun w' => w'.cell? ⟨wr.heap.size, 0, none⟩ = some (.int .i64 nn) ∧ w'.cell? ⟨wr.heap.size, 1, none⟩ = some (.string ⟨ww.toArray⟩))) (by kernel_rfl) ?_ (fun hHeld => ?_)
                · (try dsimp only); exact HK.out _ hE
                refine wpAnyH_take (i := 0) (oi := { dst := some 66, op := _, type := _, pos := _, after := _, guard := _ }) (v := ?_) rfl (by kernel_rfl) (by kernel_rfl) (by kernel_rfl) (fun _ _ _ h => h) (Or.inl ⟨by rfl, ?_⟩) (by assumption) ?_
                rotate_left
                · (intro w hSw; (try dsimp only at hSw); go_simp; (try with_reducible rfl))
                (try simp only [Act.put, List.setIfInBounds_toArray, List.set_cons_zero, List.set_cons_succ])
                refine wpAnyH_take (i := 1) (oi := { dst := some 67, op := _, type := _, pos := _, after := _, guard := _ }) (v := ?_) rfl (by kernel_rfl) (by kernel_rfl) (by kernel_rfl) (fun _ _ _ h => h) (Or.inl ⟨by rfl, ?_⟩) (by assumption) ?_
                rotate_left
                · (intro w hSw; (try dsimp only at hSw); go_simp; (try with_reducible rfl))
                (try simp only [Act.put, List.setIfInBounds_toArray, List.set_cons_zero, List.set_cons_succ])
                refine wpAnyH_take (i := 2) (oi := { dst := some 68, op := _, type := _, pos := _, after := _, guard := _ }) (v := ?_) rfl (by kernel_rfl) (by kernel_rfl) (by kernel_rfl) (fun _ _ _ h => h) (Or.inl ⟨by rfl, ?_⟩) (by assumption) ?_
                rotate_left
                · (intro w hSw; (try dsimp only at hSw); go_simp; (try with_reducible rfl))
                (try simp only [Act.put, List.setIfInBounds_toArray, List.set_cons_zero, List.set_cons_succ])
                refine wpAnyH_take (i := 3) (oi := { dst := some 69, op := _, type := _, pos := _, after := _, guard := _ }) (v := ?_) rfl (by kernel_rfl) (by kernel_rfl) (by kernel_rfl) (fun _ _ _ h => h) (Or.inl ⟨by rfl, ?_⟩) (by assumption) ?_
                rotate_left
                · (intro w hSw; (try dsimp only at hSw); go_simp; (try with_reducible rfl))
                (try simp only [Act.put, List.setIfInBounds_toArray, List.set_cons_zero, List.set_cons_succ])
                refine wpAnyH_take (i := 4) (oi := { dst := some 70, op := _, type := _, pos := _, after := _, guard := _ }) (v := ?_) rfl (by kernel_rfl) (by kernel_rfl) (by kernel_rfl) (fun _ _ _ h => h) (Or.inl ⟨by rfl, ?_⟩) (by assumption) ?_
                rotate_left
                · (intro w hSw; (try dsimp only at hSw); go_simp; (try with_reducible rfl))
                (try simp only [Act.put, List.setIfInBounds_toArray, List.set_cons_zero, List.set_cons_succ])
                refine wpAnyH_take (i := 5) (oi := { dst := some 71, op := _, type := _, pos := _, after := _, guard := _ }) (v := ?_) rfl (by kernel_rfl) (by kernel_rfl) (by kernel_rfl) (fun _ _ _ h => h) (Or.inl ⟨by rfl, ?_⟩) (by assumption) ?_
                rotate_left
                · (intro w hSw; (try dsimp only at hSw); go_simp; (try with_reducible rfl))
                (try simp only [Act.put, List.setIfInBounds_toArray, List.set_cons_zero, List.set_cons_succ])
                refine wpAnyH_ready (rs := [6]) (by kernel_rfl) (by simp) ?_
                refine AllReadyH.cons (o := { dst := some 72, op := _, type := _, pos := _, after := _, guard := _ }) rfl (fun K hK => ?_) AllReadyH.nil
                go_simp
                refine (std_Itoa nn (by omega) (by have := Hn.out; omega) _ (HP.out.ext (((HE2.out.trans hbr).alloc _).trans hE))).mono ?_; rintro e w1' ⟨rfl, hb1⟩; replace hE := hE.trans hb1; clear hb1
                try go_wp2_with fail
                refine hK.out _ _ ?_ (fun hHeld => ?_)
                · (try dsimp only); exact HK.out _ hE
                clear hK K
                (try simp only [Act.put, List.setIfInBounds_toArray, List.set_cons_zero, List.set_cons_succ])
                refine wpAnyH_take (i := 7) (oi := { dst := some 73, op := _, type := _, pos := _, after := _, guard := _ }) (v := ?_) rfl (by kernel_rfl) (by kernel_rfl) (by kernel_rfl) (fun _ _ _ h => h) (Or.inl ⟨by rfl, ?_⟩) (by assumption) ?_
                rotate_left
                · (intro w hSw; (try dsimp only at hSw); go_simp; (try with_reducible rfl))
                (try simp only [Act.put, List.setIfInBounds_toArray, List.set_cons_zero, List.set_cons_succ])
                refine wpAnyH_ready (rs := [8]) (by kernel_rfl) (by simp) ?_
                refine AllReadyH.cons (o := { dst := some 74, op := _, type := _, pos := _, after := _, guard := _ }) rfl (fun K hK => ?_) AllReadyH.nil
                go_simp
                try go_wp2_with fail
                refine hK.out _ _ ?_ (fun hHeld => ?_)
                · (try dsimp only); exact HK.out _ (hE.alloc _)
                clear hK K
                (try simp only [Act.put, List.setIfInBounds_toArray, List.set_cons_zero, List.set_cons_succ])
                refine wpAnyH_ready (rs := [9]) (by kernel_rfl) (by simp) ?_
                refine AllReadyH.cons (o := { dst := some 75, op := _, type := _, pos := _, after := _, guard := _ }) rfl (fun K hK => ?_) AllReadyH.nil
                refine step_appAt _ rfl (.tmp 66) (.tmp 74) 39 rfl w4 9 _ 1 16 Tryd.underlying39 infoStr rfl (by decide) _ _ _ rfl (own_ext (hown.alloc _) (hE.alloc _)) ⟨w1'.heap.size, 0, none⟩ 1 1 [.string (elV ww nn)] rfl rfl (cell_one_new w1' (.string (elV ww nn)) 9) (strCells_one [elV ww nn]) ((hbr.alloc _).trans (hE.alloc _)) (by omega) (by decide) ?_; intro A3 c3 w7 hown9 hb9 hle9 hg9 ho9
                refine hK.out _ _ ?_ (fun hHeld => ?_)
                · (try dsimp only); exact cells_two (HK.out _ (hE.alloc _)) hg9 (fun e => by have := (hown.lt _ e.symm).2; omega)
                clear hK K
                (try simp only [Act.put, List.setIfInBounds_toArray, List.set_cons_zero, List.set_cons_succ])
                refine wpAnyH_take (i := 10) (oi := { dst := some 3, op := _, type := _, pos := _, after := _, guard := _ }) (v := ?_) rfl (by kernel_rfl) (by kernel_rfl) (by kernel_rfl) (fun _ _ _ h => h) (Or.inl ⟨by rfl, ?_⟩) (by assumption) ?_
                rotate_left
                · (intro w hSw; (try dsimp only at hSw); go_simp; (try with_reducible rfl))
                (try simp only [Act.put, List.setIfInBounds_toArray, List.set_cons_zero, List.set_cons_succ])
                refine wpAnyH_done (by kernel_rfl) ?_ _
                go_wp2_with fail
                go_roundw
                case rel =>
                  refine ⟨.slice A3 (q + 1) c3, .pointer (some ⟨wr.heap.size, 0, none⟩), .int .i64 ((k : Int) + 1), ?_⟩
                  repeat apply Exists.intro
                  refine ⟨⟨k + 1, q + 1, A3, c3, by omega, by omega, by go_num, rfl, ?_, hle9, hb9, ((hbk.alloc _).ext (hE.alloc _)).grown hg9 (fun e => hnb e.symm), ?_⟩, ?_⟩
                  rotate_left 2
                  · first | rfl | exact ⟨rfl, rfl⟩ | exact ⟨rfl, rfl, rfl⟩
                  · rw [Hst.out, He.out]
                    have h := hown9
                    simp only [strCells, List.map_append, List.append_assoc, List.map_cons, List.map_nil] at h ⊢
                    exact h
                  · rcases ho9 with h | h
                    · rw [h]; exact hnb
                    · rw [h]
                      intro e
                      injection e with e
                      have h1 := hbk.lt
                      have h2 := (hE.alloc (.cells #[.string (elV ww nn)] 9)).size
                      have h3 := World.size_alloc wr (.cells #[.int .i64 nn, .string ⟨ww.toArray⟩] 45)
                      have h4 : (w1'.alloc (.cells #[.string (elV ww nn)] 9)).heap.size = bM := e
                      omega
                case measure => simp [intOf]; omega
        · obtain rfl : k = 6 := by omega
          rw [show (tmL d).take 6 = tmL d from rfl] at hown
          have hT1 := HT1.out
          have hT2 := HT2.out
          go_wp2_with fail
          refine (str_Join A2 q c2 (E1 ++ tmE (tmL d)) _ (Rd.of_own hown) hqc ?_).mono ?_
          · rw [totS_app]
            have h6 : (flL d).length = 6 := rfl
            have h7 : (tmL d).length = 6 := rfl
            omega
          rintro e w9 ⟨rfl, hb9⟩
          go_wp2_with fail
          go_ret
          exact ⟨congrArg (fun x => Ending.returned (.string x)) HF.out.symm, (HE2.out.trans hbr).trans hb9⟩
end Go.Proofs.YtafmedphgmacaaaDoor
