/- OriginLimits: plain facts on zero bytes and zero variants. -/
import Derived.Test.YtmckbcbdnckngaaGreatDoorJ7
set_option linter.unusedSimpArgs false
set_option linter.unusedVariables false
namespace Go.Proofs.YtmckbcbdnckngaaGreatDoor
open Go.RowKit

def zB (n : Nat) : ByteArray := ⟨Array.replicate n 0⟩
theorem zB_size (n : Nat) : (zB n).size = n := by show (Array.replicate n 0).size = n; simp
theorem zB_cells (n : Nat) : bytC (zB n) = List.replicate n (.int .u8 0) := by
  unfold bytC zB
  rw [Array.toList_replicate, List.map_replicate]; rfl
def zV : Vr × VrM := (⟨[], ⟨#[]⟩, ⟨#[]⟩, ⟨#[]⟩⟩, ⟨sl0, sl0⟩)
theorem zV_cells (k : Nat) : (madeCells #[.slice none 0 0, .string ⟨#[]⟩, .string ⟨#[]⟩, .slice none 0 0] (k * 4)).toList = vrsC (List.replicate k zV) := by
  apply List.ext_getElem?
  intro j
  by_cases hj : j < k * 4
  · have hr : (vrsC (List.replicate k zV))[j]? = (vrC zV)[j % 4]? := by
      have h1 := flat_at vrC 4 (fun _ => rfl) (List.replicate k zV) (j / 4) (j % 4) (by rw [List.length_replicate]; omega) (by omega)
      rw [show j / 4 * 4 + j % 4 = j by omega, List.getElem_replicate] at h1
      exact h1
    rw [hr]
    have h4 : j % 4 = 0 ∨ j % 4 = 1 ∨ j % 4 = 2 ∨ j % 4 = 3 := by omega
    rcases h4 with h | h | h | h <;> simp [madeCells, hj, h, vrC, zV, Sl.v, sl0]
  · rw [List.getElem?_eq_none (by simp [madeCells]; omega), List.getElem?_eq_none (by rw [vrsC_len, List.length_replicate]; omega)]
/-- All versions of an origin have the time 1. -/
def at1 (o : Org) : Prop := (∀ p, o.vs.getLast? = some p → p.1 = 1) ∧ o.br = []
theorem pub_at1 {o : Org} {v : Ver} (h : at1 o) (hl : o.vs.length < 4096) (hv : okVr v = true) :
    (pubS o 1 v).2.1 = (if bigVr v then 5 else 0) ∧ at1 (pubS o 1 v).2.2 ∧ (pubS o 1 v).2.2.vs.length ≤ o.vs.length + 1 := by
  cases hb : bigVr v with
  | true => rw [pub_big hb]; exact ⟨rfl, h, by simp⟩
  | false =>
    rw [pub_ok (o := o) (t := 1) hb (by omega) hv (fun p hp => by rw [h.1 p hp]; decide)]
    refine ⟨rfl, ⟨fun p hp => ?_, h.2⟩, by simp⟩
    simp at hp
    rw [← hp]; rfl
theorem at1_0 : at1 org0 := ⟨fun p hp => (by cases hp), rfl⟩
def pgV (body : ByteArray) (vars : List Vr) : Ver := ⟨x_ad, 200, [], body, vars⟩
theorem ok_pg (body : ByteArray) (vars : List Vr) (h : ∀ x ∈ vars, x.names = []) : okVr (pgV body vars) = true := by
  have h1 : okVr (pgV ⟨#[]⟩ []) = true := by decide +kernel
  have h2 : (vars.all fun x => x.names.all nameOk) = true := List.all_eq_true.2 (fun x hx => by rw [h x hx]; rfl)
  unfold okVr pgV at *
  simp only [List.all_nil, Bool.and_true] at h1
  simp only [h2, Bool.and_true]
  exact h1
theorem big_b (n : Nat) : bigVr (pgV (zB n) []) = decide (65536 < n) := by
  unfold bigVr pgV; simp [zB_size]
theorem big_v {k : Nat} : bigVr (pgV ⟨#[]⟩ (List.replicate k zV.1)) = decide (8 < k) := by
  unfold bigVr pgV
  simp only [List.length_replicate]
  have : ((List.replicate k zV.1).any fun x => decide (65536 < x.body.size)) = false := by
    rw [List.any_eq_false]; intro x hx; rw [List.eq_of_mem_replicate hx]; decide
  rw [this]
  show (false || decide (8 < k) || false) = _
  simp
theorem big_x (n : Nat) : bigVr (pgV ⟨#[]⟩ [⟨[], ⟨#[]⟩, ⟨#[]⟩, zB n⟩]) = decide (65536 < n) := by
  show (decide (65536 < 0) || decide (8 < 1) || (decide (65536 < (zB n).size) || false)) = _
  rw [zB_size]; simp
theorem made_B (n : Nat) : (madeCells (Value.int .u8 0).cells (n * 1)).toList = bytC (zB n) := by
  rw [Nat.mul_one, zB_cells]; exact toList_madeCells_one _ n
theorem Rd.of_blk {w : World} {b : Nat} {t : TypeId} {cs : Array Value} (h : Blk w b t cs) (k n : Nat) (hs : cs.size = n * k) : Rd w k (some ⟨b, 0, none⟩) n cs.toList :=
  ⟨by simp [hs], fun _ => ⟨b, 0, rfl, fun j u hu => by rw [Nat.zero_add, h.cell j, ← Array.getElem?_toList]; exact hu⟩⟩

/-- A version in memory, in its block. -/
def LP (W : World) (p : Nat) (v : Ver) : Prop := ∃ m : MV, Blk W p 36 m.cells.toArray ∧ m.ver = v ∧ m.At (fun _ => False) W
/-- The origin at p, of versions at the time 1. -/
def PG (W w : World) (p j : Nat) : Prop := ∃ o R Q M, OrgP w p R Q o M ∧ at1 o ∧ o.vs.length ≤ j ∧ Ext W w ∧ ∀ i, R i → W.heap.size ≤ i
/-- Sizes. -/
def SmV (v : Ver) : Prop := v.addr.size ≤ 1048576 ∧ v.fs = [] ∧ v.body.size ≤ 1099511627776 ∧ v.vars.length ≤ 1048576 ∧ (∀ x ∈ v.vars, x.names = [] ∧ x.tag.size ≤ 131072 ∧ x.body.size ≤ 1099511627776) ∧ okVr v = true
theorem PG.ext {W w : World} {p j : Nat} (h : PG W w p j) : Ext W w := by
  obtain ⟨o, R, Q, M, hO, h1, hl, hE, hR⟩ := h
  exact hE
theorem lim_pub (W w : World) (p j : Nat) (v : Ver) (m : MV) (hP : PG W w p j) (hj : j ≤ 100) (hs : SmV v) (hv : m.ver = v) (hAt : m.At (fun _ => False) W) (hg : Gl w) :
    Calls Tryz.prog 14 #[.pointer (some ⟨p, 0, none⟩), .int .i64 1, .agg m.cells.toArray] w fun e w' => (∃ x : Int, e = .returned (.tuple #[.int .i64 x, errV (if bigVr v then 5 else 0)])) ∧ PG W w' p (j + 1) := by
  obtain ⟨o, R, Q, M, hO, h1, hl, hE, hR⟩ := hP
  subst hv
  obtain ⟨q1, q2, q3, q4, q5, q6⟩ := hs
  have q4' : m.vars.length ≤ 1048576 := by rw [show m.ver.vars = m.vars.map (·.1) from rfl, List.length_map] at q4; exact q4
  have q2' : m.f = [] := q2
  refine (or_Publish Q R (fun _ => False) p o M 1 m w hO (hAt.ext hE) q1 (by rw [q2']; decide) (by rw [q2']; decide) q3 q4' (fun x hx => ?_) hg).mono ?_
  · have h3 := q5 x.1 (List.mem_map.2 ⟨x, hx, rfl⟩)
    rw [h3.1]
    exact ⟨by decide, fun n hn => (by cases hn), h3.2.1, h3.2.2⟩
  · rintro e w2 ⟨rfl, R', ⟨M', hO'⟩, hk, hRa, hRb⟩
    have hp := pub_at1 (v := m.ver) h1 (by omega) q6
    refine ⟨⟨_, by rw [hp.1]⟩, _, R', _, M', hO', hp.2.1, by have := hp.2.2; omega, hE.keeps hk hR, fun i hi => ?_⟩
    rcases hRb i hi with h | h
    · exact hR i h
    · have := hE.size; omega
set_option maxHeartbeats 16000000 in
set_option maxRecDepth 100000 in
theorem limits_walk (a b : Nat) (w : World) (ha : a < 256) (hb : b < 256) (hg : Gl w) (hh : GlH w) (hp : GlP w) :
    Calls Tryz.prog 7 #[.agg #[.int .u8 a, .int .u8 b]] w fun e w' => e = .returned (.bool true) ∧ Ext w w' := by
  have HEg := Lib.hid (fun w' (hx : Ext w w') => (⟨hg.ext hx, hh.ext hx, hp.ext hx⟩ : Gl w' ∧ GlH w' ∧ GlP w'))
  clear hg hh hp
  obtain ⟨i8, hi8, hz8, hs8, hy8⟩ := info_parts info_cln_B
  obtain ⟨iV, hiV, hzV, hsV, hyV⟩ := info_parts info_cln_V
  have H8 := Lib.hid (⟨hi8, hz8, hs8, hy8⟩ : _ ∧ _ ∧ _ ∧ _); have HV := Lib.hid (⟨hiV, hzV, hsV, hyV⟩ : _ ∧ _ ∧ _ ∧ _)
  clear hi8 hz8 hs8 hy8 hiV hzV hsV hyV
  have HB := Lib.hid (Blk.new w 60 #[.int .u8 a, .int .u8 b])
  have HE0 := Lib.hid ((Ext.refl w).alloc (.cells #[.int .u8 a, .int .u8 b] 60))
  obtain ⟨n, hn⟩ : ∃ n : Nat, 65534 + a % 5 = n := ⟨_, rfl⟩
  obtain ⟨k, hk⟩ : ∃ k : Nat, 6 + b % 5 = k := ⟨_, rfl⟩
  go_enter Tryz.func7, Tryz.ntmps7
  go_wp2_with fail
  refine (law_awake _ (HEg.out _ HE0.out).1 (HEg.out _ HE0.out).2.1 (HEg.out _ HE0.out).2.2).mono ?_; rintro e w1 ⟨rfl, hb1⟩
  have HE1 := Lib.hid (HE0.out.trans hb1)
  have HS := Lib.hid (fun w' (hx : Ext w1 w') => (⟨((HB.out.ext hb1).ext hx).cell 0, ((HB.out.ext hb1).ext hx).cell 1⟩ : w'.cell? ⟨w.heap.size, 0, none⟩ = some (.int .u8 a) ∧ w'.cell? ⟨w.heap.size, 1, none⟩ = some (.int .u8 b)))
  have q1 : IntKind.i64.wrap (a : Int) = (a : Int) := IntWalk.i64_in _ (by omega)
  have q2 : IntKind.i64.wrap (b : Int) = (b : Int) := IntWalk.i64_in _ (by omega)
  have q3 : ((a : Int)).tmod 5 = ((a % 5 : Nat) : Int) := by rw [Int.tmod_eq_emod_of_nonneg (by omega)]; rfl
  have q4 : ((b : Int)).tmod 5 = ((b % 5 : Nat) : Int) := by rw [Int.tmod_eq_emod_of_nonneg (by omega)]; rfl
  have q5 : IntKind.i64.wrap (65534 + ((a % 5 : Nat) : Int)) = ((65534 + a % 5 : Nat) : Int) := by rw [IntWalk.i64_in _ (by omega)]; omega
  have q6 : IntKind.i64.wrap (6 + ((b % 5 : Nat) : Int)) = ((6 + b % 5 : Nat) : Int) := by rw [IntWalk.i64_in _ (by omega)]; omega
  rw [hn] at q5
  rw [hk] at q6
  have Hn := Lib.hid hn; have Hk := Lib.hid hk
  clear hn hk hb1
  generalize ((a % 5 : Nat) : Int) = am at *
  generalize ((b % 5 : Nat) : Int) = bm at *
  go_wp2_with fail
  have hL := (Ext.refl w1).drew
  refine wp_region_held_drew (S := (fun w' => w'.cell? ⟨w.heap.size, 0, none⟩ = some (.int .u8 a) ∧ w'.cell? ⟨w.heap.size, 1, none⟩ = some (.int .u8 b))) (by kernel_rfl) ?_ (fun hHeld => ?_)
  · (try dsimp only); exact HS.out _ hL
  refine wpAnyH_take (i := 0) (oi := { dst := some 20, op := _, type := _, pos := _, after := _, guard := _ }) (v := ?_) rfl (by kernel_rfl) (by kernel_rfl) (by kernel_rfl) (fun _ _ _ h => h) (Or.inl ⟨by rfl, ?_⟩) (by assumption) ?_
  rotate_left
  · (intro w hSw; (try dsimp only at hSw); go_simp; (try with_reducible rfl))
  (try simp only [Act.put, List.setIfInBounds_toArray, List.set_cons_zero, List.set_cons_succ])
  refine wpAnyH_take (i := 1) (oi := { dst := some 21, op := _, type := _, pos := _, after := _, guard := _ }) (v := ?_) rfl (by kernel_rfl) (by kernel_rfl) (by kernel_rfl) (fun _ _ _ h => h) (Or.inl ⟨by rfl, ?_⟩) (by assumption) ?_
  rotate_left
  · (intro w hSw; (try dsimp only at hSw); go_simp; (try with_reducible rfl))
  (try simp only [Act.put, List.setIfInBounds_toArray, List.set_cons_zero, List.set_cons_succ])
  refine wpAnyH_take (i := 2) (oi := { dst := some 22, op := _, type := _, pos := _, after := _, guard := _ }) (v := ?_) rfl (by kernel_rfl) (by kernel_rfl) (by kernel_rfl) (fun _ _ _ h => h) (Or.inl ⟨by rfl, ?_⟩) (by assumption) ?_
  rotate_left
  · (intro w hSw; (try dsimp only at hSw); go_simp; (try with_reducible rfl))
  (try simp only [Act.put, List.setIfInBounds_toArray, List.set_cons_zero, List.set_cons_succ])
  refine wpAnyH_take (i := 3) (oi := { dst := some 23, op := _, type := _, pos := _, after := _, guard := _ }) (v := ?_) rfl (by kernel_rfl) (by kernel_rfl) (by kernel_rfl) (fun _ _ _ h => h) (Or.inl ⟨by rfl, ?_⟩) (by assumption) ?_
  rotate_left
  · (intro w hSw; (try dsimp only at hSw); go_simp; (try with_reducible rfl))
  (try simp only [Act.put, List.setIfInBounds_toArray, List.set_cons_zero, List.set_cons_succ])
  refine wpAnyH_take (i := 4) (oi := { dst := some 24, op := _, type := _, pos := _, after := _, guard := _ }) (v := ?_) rfl (by kernel_rfl) (by kernel_rfl) (by kernel_rfl) (fun _ _ _ h => h) (Or.inl ⟨by rfl, ?_⟩) (by assumption) ?_
  rotate_left
  · (intro w hSw; (try dsimp only at hSw); go_simp; (try with_reducible rfl))
  (try simp only [Act.put, List.setIfInBounds_toArray, List.set_cons_zero, List.set_cons_succ])
  refine wpAnyH_take (i := 5) (oi := { dst := some 25, op := _, type := _, pos := _, after := _, guard := _ }) (v := ?_) rfl (by kernel_rfl) (by kernel_rfl) (by kernel_rfl) (fun _ _ _ h => h) (Or.inl ⟨by rfl, ?_⟩) (by assumption) ?_
  rotate_left
  · (intro w hSw; (try dsimp only at hSw); go_simp; (try with_reducible rfl))
  (try simp only [Act.put, List.setIfInBounds_toArray, List.set_cons_zero, List.set_cons_succ])
  refine wpAnyH_take (i := 6) (oi := { dst := some 26, op := _, type := _, pos := _, after := _, guard := _ }) (v := ?_) rfl (by kernel_rfl) (by kernel_rfl) (by kernel_rfl) (fun _ _ _ h => h) (Or.inl ⟨by rfl, ?_⟩) (by assumption) ?_
  rotate_left
  · (intro w hSw; (try dsimp only at hSw); go_simp; (try with_reducible rfl))
  (try simp only [Act.put, List.setIfInBounds_toArray, List.set_cons_zero, List.set_cons_succ])
  refine wpAnyH_take (i := 7) (oi := { dst := some 27, op := _, type := _, pos := _, after := _, guard := _ }) (v := ?_) rfl (by kernel_rfl) (by kernel_rfl) (by kernel_rfl) (fun _ _ _ h => h) (Or.inl ⟨by rfl, ?_⟩) (by assumption) ?_
  rotate_left
  · (intro w hSw; (try dsimp only at hSw); go_simp; (try with_reducible rfl))
  (try simp only [Act.put, List.setIfInBounds_toArray, List.set_cons_zero, List.set_cons_succ])
  refine wpAnyH_take (i := 8) (oi := { dst := some 28, op := _, type := _, pos := _, after := _, guard := _ }) (v := ?_) rfl (by kernel_rfl) (by kernel_rfl) (by kernel_rfl) (fun _ _ _ h => h) (Or.inl ⟨by rfl, ?_⟩) (by assumption) ?_
  rotate_left
  · (intro w hSw; (try dsimp only at hSw); go_simp; (try with_reducible rfl))
  (try simp only [Act.put, List.setIfInBounds_toArray, List.set_cons_zero, List.set_cons_succ])
  refine wpAnyH_take (i := 9) (oi := { dst := some 29, op := _, type := _, pos := _, after := _, guard := _ }) (v := ?_) rfl (by kernel_rfl) (by kernel_rfl) (by kernel_rfl) (fun _ _ _ h => h) (Or.inl ⟨by rfl, ?_⟩) (by assumption) ?_
  rotate_left
  · (intro w hSw; (try dsimp only at hSw); go_simp; (try with_reducible rfl))
  (try simp only [Act.put, List.setIfInBounds_toArray, List.set_cons_zero, List.set_cons_succ])
  refine wpAnyH_take (i := 10) (oi := { dst := some 3, op := _, type := _, pos := _, after := _, guard := _ }) (v := ?_) rfl (by kernel_rfl) (by kernel_rfl) (by kernel_rfl) (fun _ _ _ h => h) (Or.inl ⟨by rfl, ?_⟩) (by assumption) ?_
  rotate_left
  · (intro w hSw; (try dsimp only at hSw); go_simp; (try with_reducible rfl))
  (try simp only [Act.put, List.setIfInBounds_toArray, List.set_cons_zero, List.set_cons_succ])
  refine wpAnyH_take (i := 11) (oi := { dst := some 4, op := _, type := _, pos := _, after := _, guard := _ }) (v := ?_) rfl (by kernel_rfl) (by kernel_rfl) (by kernel_rfl) (fun _ _ _ h => h) (Or.inl ⟨by rfl, ?_⟩) (by assumption) ?_
  rotate_left
  · (intro w hSw; (try dsimp only at hSw); go_simp; (try with_reducible rfl))
  (try simp only [Act.put, List.setIfInBounds_toArray, List.set_cons_zero, List.set_cons_succ])
  refine wpAnyH_done (by kernel_rfl) ?_ _
  have hn2 : n ≤ 65538 := by have := Hn.out; omega
  have hk2 : k ≤ 10 := by have := Hk.out; omega
  have hk3 : 6 ≤ k := by have := Hk.out; omega
  go_wp2_with (first
    | (refine wpList_make_full _ rfl (.tmp 30) (.tmp 30) 23 rfl 0 5 i8 (.int .u8 0) 1 Tryz.underlying23 H8.out.1 H8.out.2.1 H8.out.2.2.1 .i64 .i64 _ _ n rfl rfl rfl rfl (by rw [H8.out.2.2.2]; omega) (by simp only [maxLen]; omega) (Nat.zero_le _) ?_
       intro w3 hown3 hg3
       rw [made_B] at hown3
       have hE3 := hL.grown hg3 (by simp)
       have HV1 := Lib.hid (Blk.new w3 36 #[.string x_ad, .int .i64 200, .slice none 0 0, .slice (some ⟨w1.drew.heap.size, 0, none⟩) n n, .slice none 0 0])
       have HE3 := Lib.hid ((HE1.out.trans hE3).alloc (.cells #[.string x_ad, .int .i64 200, .slice none 0 0, .slice (some ⟨w1.drew.heap.size, 0, none⟩) n n, .slice none 0 0] 36))
       have HA1 := Lib.hid ((⟨⟨x_ad, 200, [], zB n, [], sl0, ⟨some ⟨w1.drew.heap.size, 0, none⟩, n, n⟩, sl0⟩, rfl, rfl, ⟨RS.nil _ _ _, ⟨Rd.of_own hown3, fun _ _ _ h => h, Nat.le_refl _⟩, RS.nil _ _ _, fun x hx => by cases hx⟩⟩ : ∃ m : MV, m.cells.toArray = #[.string x_ad, .int .i64 200, .slice none 0 0, .slice (some ⟨w1.drew.heap.size, 0, none⟩) n n, .slice none 0 0] ∧ m.ver = pgV (zB n) [] ∧ m.At (fun _ => False) w3))
       clear hown3 hE3 hg3)
    | (refine wpList_make_full _ rfl (.tmp 33) (.tmp 33) 34 rfl 0 58 iV (.agg #[.slice none 0 0, .string ⟨#[]⟩, .string ⟨#[]⟩, .slice none 0 0]) 4 Tryz.underlying34 HV.out.1 HV.out.2.1 HV.out.2.2.1 .i64 .i64 _ _ k rfl rfl rfl rfl (by rw [HV.out.2.2.2]; omega) (by simp only [maxLen]; omega) (Nat.zero_le _) ?_
       intro w5 hown5 hg5)
    | (refine wpList_make_full _ rfl (.tmp 36) (.tmp 36) 23 rfl 0 5 i8 (.int .u8 0) 1 Tryz.underlying23 H8.out.1 H8.out.2.1 H8.out.2.2.1 .i64 .i64 _ _ n rfl rfl rfl rfl (by rw [H8.out.2.2.2]; omega) (by simp only [maxLen]; omega) (Nat.zero_le _) ?_
       intro w7 hown7 hg7))
  have hE5 := HE3.out.grown hg5 (by simp)
  have HV2 := Lib.hid (Blk.new w5 36 #[.string x_ad, .int .i64 200, .slice none 0 0, .slice none 0 0, .slice (some ⟨w3.heap.size + 1, 0, none⟩) k k])
  have hW3 := (Ext.refl w3).alloc (.cells #[.string x_ad, .int .i64 200, .slice none 0 0, .slice (some ⟨w1.heap.size, 0, none⟩) n n, .slice none 0 0] 36)
  have hX3 := hW3.grown hg5 (by simp)
  have hW5 := (Ext.refl w5).alloc (.cells #[.string x_ad, .int .i64 200, .slice none 0 0, .slice none 0 0, .slice (some ⟨w3.heap.size + 1, 0, none⟩) k k] 36)
  have hX5 := hW5.grown hg7 (by simp)
  have hW7 := (Ext.refl w7).alloc (.cells #[.slice none 0 0, .string ⟨#[]⟩, .string ⟨#[]⟩, .slice (some ⟨w5.heap.size + 1, 0, none⟩) n n] 58)
  have hB7 := Blk.new w7 58 #[.slice none 0 0, .string ⟨#[]⟩, .string ⟨#[]⟩, .slice (some ⟨w5.heap.size + 1, 0, none⟩) n n]
  have hX7 := hW7.alloc (.cells #[.string x_ad, .int .i64 200, .slice none 0 0, .slice none 0 0, .slice (some ⟨w7.heap.size, 0, none⟩) 1 1] 36)
  have hB8 := Blk.new (w7.alloc (.cells #[.slice none 0 0, .string ⟨#[]⟩, .string ⟨#[]⟩, .slice (some ⟨w5.heap.size + 1, 0, none⟩) n n] 58)) 36 #[.string x_ad, .int .i64 200, .slice none 0 0, .slice none 0 0, .slice (some ⟨w7.heap.size, 0, none⟩) 1 1]
  rw [show (w7.alloc (.cells #[.slice none 0 0, .string ⟨#[]⟩, .string ⟨#[]⟩, .slice (some ⟨w5.heap.size + 1, 0, none⟩) n n] 58)).heap.size = w7.heap.size + 1 by simp] at hB8
  have hB7b := hB7.alloc (.cells #[.string x_ad, .int .i64 200, .slice none 0 0, .slice none 0 0, .slice (some ⟨w7.heap.size, 0, none⟩) 1 1] 36)
  have HEW := Lib.hid ((hE5.trans hX5).trans hX7)
  rw [show (w5.alloc (.cells #[.string ⟨#[101, 120, 97, 109, 112, 108, 101, 46, 99, 111, 109, 47, 97]⟩, .int .i64 200, .slice none 0 0, .slice none 0 0, .slice (some ⟨w3.heap.size + 1, 0, none⟩) k k] 36)).heap.size = w5.heap.size + 1 by simp, made_B] at hown7
  rw [show (w3.alloc (.cells #[.string ⟨#[101, 120, 97, 109, 112, 108, 101, 46, 99, 111, 109, 47, 97]⟩, .int .i64 200, .slice none 0 0, .slice (some ⟨w1.heap.size, 0, none⟩) n n, .slice none 0 0] 36)).heap.size = w3.heap.size + 1 by simp] at hown5
  have hown5b : w5.ownsRow 0 58 4 (.slice (some ⟨w3.heap.size + 1, 0, none⟩) k k) k (vrsC (List.replicate k zV)) := by rw [← zV_cells]; exact hown5
  have HP1 : LP ((w7.alloc (.cells #[.slice none 0 0, .string ⟨#[]⟩, .string ⟨#[]⟩, .slice (some ⟨w5.heap.size + 1, 0, none⟩) n n] 58)).alloc (.cells #[.string x_ad, .int .i64 200, .slice none 0 0, .slice none 0 0, .slice (some ⟨w7.heap.size, 0, none⟩) 1 1] 36)) w3.heap.size (pgV (zB n) []) := by
    obtain ⟨m, q1, q2, q3⟩ := HA1.out
    refine ⟨m, ?_, q2, q3.ext (hX3.trans (hX5.trans hX7))⟩
    rw [q1]
    exact ((HV1.out.grown hg5 (by simp)).ext (hX5.trans hX7))
  have HP2 : LP ((w7.alloc (.cells #[.slice none 0 0, .string ⟨#[]⟩, .string ⟨#[]⟩, .slice (some ⟨w5.heap.size + 1, 0, none⟩) n n] 58)).alloc (.cells #[.string x_ad, .int .i64 200, .slice none 0 0, .slice none 0 0, .slice (some ⟨w7.heap.size, 0, none⟩) 1 1] 36)) w5.heap.size (pgV ⟨#[]⟩ (List.replicate k zV.1)) := by
    refine ⟨⟨x_ad, 200, [], ⟨#[]⟩, List.replicate k zV, sl0, sl0, ⟨some ⟨w3.heap.size + 1, 0, none⟩, k, k⟩⟩, (HV2.out.grown hg7 (by simp)).ext hX7, by unfold MV.ver pgV; simp only [List.map_replicate], ⟨RS.nil _ _ _, RS.nil _ _ _, (⟨Rd.of_own hown5b, fun _ _ _ h => h, Nat.le_refl _⟩ : RS (fun _ => False) w5 4 ⟨some ⟨w3.heap.size + 1, 0, none⟩, k, k⟩ (vrsC (List.replicate k zV))).ext (hX5.trans hX7), fun x hx => ?_⟩⟩
    rw [List.eq_of_mem_replicate hx]
    exact ⟨RS.nil _ _ _, RS.nil _ _ _⟩
  have HP3 : LP ((w7.alloc (.cells #[.slice none 0 0, .string ⟨#[]⟩, .string ⟨#[]⟩, .slice (some ⟨w5.heap.size + 1, 0, none⟩) n n] 58)).alloc (.cells #[.string x_ad, .int .i64 200, .slice none 0 0, .slice none 0 0, .slice (some ⟨w7.heap.size, 0, none⟩) 1 1] 36)) (w7.heap.size + 1) (pgV ⟨#[]⟩ [⟨[], ⟨#[]⟩, ⟨#[]⟩, zB n⟩]) := by
    refine ⟨⟨x_ad, 200, [], ⟨#[]⟩, [(⟨[], ⟨#[]⟩, ⟨#[]⟩, zB n⟩, ⟨sl0, ⟨some ⟨w5.heap.size + 1, 0, none⟩, n, n⟩⟩)], sl0, sl0, ⟨some ⟨w7.heap.size, 0, none⟩, 1, 1⟩⟩, hB8, rfl, ⟨RS.nil _ _ _, RS.nil _ _ _, ⟨Rd.of_blk hB7b 4 1 rfl, fun _ _ _ h => h, Nat.le_refl _⟩, fun x hx => ?_⟩⟩
    rw [List.mem_singleton.1 hx]
    exact ⟨RS.nil _ _ _, (⟨Rd.of_own hown7, fun _ _ _ h => h, Nat.le_refl _⟩ : RS (fun _ => False) w7 1 ⟨some ⟨w5.heap.size + 1, 0, none⟩, n, n⟩ (bytC (zB n))).ext hX7⟩
  replace HP1 := Lib.hid HP1
  replace HP2 := Lib.hid HP2
  replace HP3 := Lib.hid HP3
  clear HA1 HV1 HV2 hB7 hB8 hB7b hX7 hW7 hX5 hW5 hX3 hW3 hown7 hown5 hown5b hg5 hg7 hE5 HE3 hL HS H8 HV
  unfold x_ad at HP1 HP2 HP3 HEW
  generalize (w7.alloc (.cells #[.slice none 0 0, .string ⟨#[]⟩, .string ⟨#[]⟩, .slice (some ⟨w5.heap.size + 1, 0, none⟩) n n] 58)).alloc (.cells #[.string ⟨#[101, 120, 97, 109, 112, 108, 101, 46, 99, 111, 109, 47, 97]⟩, .int .i64 200, .slice none 0 0, .slice none 0 0, .slice (some ⟨w7.heap.size, 0, none⟩) 1 1] 36) = W at *
  generalize w3.heap.size = p1 at *
  generalize w5.heap.size = p2 at *
  generalize w7.heap.size + 1 = p3 at *
  have SM1 : SmV (pgV (zB n) []) := ⟨by show x_ad.size ≤ _; decide, rfl, by show (zB n).size ≤ _; rw [zB_size]; omega, by show 0 ≤ _; omega, fun x hx => (by cases hx), ok_pg _ _ (fun x hx => by cases hx)⟩
  have SM2 : SmV (pgV ⟨#[]⟩ (List.replicate k zV.1)) := ⟨by show x_ad.size ≤ _; decide, rfl, by show (0 : Nat) ≤ _; omega, by show (List.replicate k zV.1).length ≤ _; rw [List.length_replicate]; omega, fun x hx => by rw [List.eq_of_mem_replicate hx]; exact ⟨rfl, by decide, by decide⟩, ok_pg _ _ (fun x hx => by rw [List.eq_of_mem_replicate hx]; rfl)⟩
  have SM3 : SmV (pgV ⟨#[]⟩ [⟨[], ⟨#[]⟩, ⟨#[]⟩, zB n⟩]) := ⟨by show x_ad.size ≤ _; decide, rfl, by show (0 : Nat) ≤ _; omega, by show 1 ≤ _; omega, fun x hx => by rw [List.mem_singleton.1 hx]; exact ⟨rfl, by show (0 : Nat) ≤ _; omega, by show (zB n).size ≤ _; rw [zB_size]; omega⟩, ok_pg _ _ (fun x hx => by rw [List.mem_singleton.1 hx])⟩
  have BG1 := big_b n
  have BG2 := big_v (k := k)
  have BG3 := big_x n
  generalize pgV (zB n) [] = v1 at *
  generalize pgV ⟨#[]⟩ (List.replicate k zV.1) = v2 at *
  generalize pgV ⟨#[]⟩ [⟨[], ⟨#[]⟩, ⟨#[]⟩, zB n⟩] = v3 at *
  refine (or_New _).mono ?_; rintro e wp0 ⟨rfl, hO, hbN⟩
  have HPG0 := Lib.hid (show PG W wp0 W.heap.size 0 from ⟨_, _, _, _, hO, at1_0, Nat.le_refl _, hbN, fun i hi => by rw [show i = W.heap.size from hi]; exact Nat.le_refl _⟩)
  clear hO hbN
  obtain ⟨m1, hb1, hv1, ha1⟩ := HP1.out
  have Hb1 := Lib.hid (hb1.ext HPG0.out.ext)
  have HPub1 := Lib.hid (lim_pub W wp0 W.heap.size 0 _ m1 HPG0.out (by omega) SM1 hv1 ha1 (HEg.out _ (HEW.out.trans HPG0.out.ext)).1)
  rw [BG1] at HPub1
  obtain ⟨e1, HC1⟩ : ∃ x : Nat, Hid (x = if decide (65536 < n) = true then 5 else 0) := ⟨_, Lib.hid rfl⟩
  rw [← HC1.out] at HPub1
  clear hb1 hv1 ha1 HP1
  go_wp2_with (first | (refine wpList_loadB rfl 36 (.tmp 5) rfl p1 rfl 36 _ Hb1.out _ Tryz.underlying36 infoVe ?_))
  refine HPub1.out.mono ?_; rintro e wp1 ⟨⟨xp1, rfl⟩, hPG1⟩
  have HPG1 := Lib.hid hPG1
  clear hPG1 HPG0 HPub1 Hb1
  obtain ⟨m2, hb2, hv2, ha2⟩ := HP2.out
  have Hb2 := Lib.hid (hb2.ext HPG1.out.ext)
  have HPub2 := Lib.hid (lim_pub W wp1 W.heap.size 1 _ m2 HPG1.out (by omega) SM2 hv2 ha2 (HEg.out _ (HEW.out.trans HPG1.out.ext)).1)
  rw [BG2] at HPub2
  obtain ⟨e2, HC2⟩ : ∃ x : Nat, Hid (x = if decide (8 < k) = true then 5 else 0) := ⟨_, Lib.hid rfl⟩
  rw [← HC2.out] at HPub2
  clear hb2 hv2 ha2 HP2
  go_wp2_with (first | (refine wpList_loadB rfl 36 (.tmp 6) rfl p2 rfl 36 _ Hb2.out _ Tryz.underlying36 infoVe ?_))
  refine HPub2.out.mono ?_; rintro e wp2 ⟨⟨xp2, rfl⟩, hPG2⟩
  have HPG2 := Lib.hid hPG2
  clear hPG2 HPG1 HPub2 Hb2
  obtain ⟨m3, hb3, hv3, ha3⟩ := HP3.out
  have Hb3 := Lib.hid (hb3.ext HPG2.out.ext)
  have HPub3 := Lib.hid (lim_pub W wp2 W.heap.size 2 _ m3 HPG2.out (by omega) SM3 hv3 ha3 (HEg.out _ (HEW.out.trans HPG2.out.ext)).1)
  rw [BG3] at HPub3
  obtain ⟨e3, HC3⟩ : ∃ x : Nat, Hid (x = if decide (65536 < n) = true then 5 else 0) := ⟨_, Lib.hid rfl⟩
  rw [← HC3.out] at HPub3
  clear hb3 hv3 ha3 HP3
  go_wp2_with (first | (refine wpList_loadB rfl 36 (.tmp 7) rfl p3 rfl 36 _ Hb3.out _ Tryz.underlying36 infoVe ?_))
  refine HPub3.out.mono ?_; rintro e wp3 ⟨⟨xp3, rfl⟩, hPG3⟩
  have HPG3 := Lib.hid hPG3
  clear hPG3 HPG2 HPub3 Hb3
  have HE9 := Lib.hid (HEW.out.trans HPG3.out.ext)
  clear HPG3 HEW BG1 BG2 BG3 SM1 SM2 SM3
  generalize wp3 = w9 at *
  clear Hn Hk
  have z5 : errV 5 = .iface 63 (.int .i64 5) := rfl
  have z0 : errV 0 = .nilIface := rfl
  have c1 : (n ≤ 65536 ∧ e1 = 0 ∧ e3 = 0) ∨ (65536 < n ∧ e1 = 5 ∧ e3 = 5) := by have h1 := HC1.out; have h3 := HC3.out; by_cases h : 65536 < n <;> simp [h] at h1 h3 ⊢ <;> omega
  have c2 : (k ≤ 8 ∧ e2 = 0) ∨ (8 < k ∧ e2 = 5) := by have h1 := HC2.out; by_cases h : 8 < k <;> simp [h] at h1 ⊢ <;> omega
  clear HC1 HC2 HC3
  obtain ⟨X, HX⟩ : ∃ X : Array Value, Hid (X = #[errV e1, errV e2, errV e3]) := ⟨_, Lib.hid rfl⟩
  have HB9 := Lib.hid (Blk.new w9 29 #[errV e1, errV e2, errV e3])
  have HEL := Lib.hid (HE9.out.alloc (.cells #[errV e1, errV e2, errV e3] 29))
  rw [← HX.out] at HB9
  clear HE9
  rcases c1 with ⟨d1, rfl, rfl⟩ | ⟨d1, rfl, rfl⟩ <;> rcases c2 with ⟨d2, rfl⟩ | ⟨d2, rfl⟩ <;> simp only [z0, z5] at HX HEL ⊢
  all_goals
    have l1 := HX.out
    first | have f1 : (n : Int) ≤ 65536 := by omega | have f1 : ¬ ((n : Int) ≤ 65536) := by omega
    first | have f2 : (k : Int) ≤ 8 := by omega | have f2 : ¬ ((k : Int) ≤ 8) := by omega
    go_wp2_with fail
    go_loopg [65] 3 (fun g i wr => ∃ j : Nat, j ≤ 3 ∧ g = 3 - j ∧ i = .int .i64 (j : Nat) ∧ Ext w wr ∧ Blk wr w9.heap.size 29 X)
    case atStart => exact ⟨0, Nat.zero_le _, rfl, rfl, HEL.out, by rw [HX.out] at HB9 ⊢; exact HB9.out⟩
    case round =>
      obtain ⟨j, hj, rfl, rfl, hx, hB⟩ := hrel
      have hj4 : j = 0 ∨ j = 1 ∨ j = 2 ∨ j = 3 := by omega
      rcases hj4 with rfl | rfl | rfl | rfl
      · have hc := hB.cell 0
        rw [l1] at hc
        simp at hc
        first
          | (go_wp2_with fail
             refine (base_Is 5 5 (by decide) (by decide) (by decide) _).mono ?_; rintro e wq ⟨rfl, hbq⟩
             go_wp2_with fail
             go_roundg (2)
             case measure => omega
             case rel => exact ⟨1, by omega, rfl, by go_num, hx.trans hbq, hB.ext hbq⟩)
          | (go_wp2_with fail
             go_roundg (2)
             case measure => omega
             case rel => exact ⟨1, by omega, rfl, by go_num, hx, hB⟩)
      · have hc := hB.cell 1
        rw [l1] at hc
        simp at hc
        first
          | (go_wp2_with fail
             refine (base_Is 5 5 (by decide) (by decide) (by decide) _).mono ?_; rintro e wq ⟨rfl, hbq⟩
             go_wp2_with fail
             go_roundg (1)
             case measure => omega
             case rel => exact ⟨2, by omega, rfl, by go_num, hx.trans hbq, hB.ext hbq⟩)
          | (go_wp2_with fail
             go_roundg (1)
             case measure => omega
             case rel => exact ⟨2, by omega, rfl, by go_num, hx, hB⟩)
      · have hc := hB.cell 2
        rw [l1] at hc
        simp at hc
        first
          | (go_wp2_with fail
             refine (base_Is 5 5 (by decide) (by decide) (by decide) _).mono ?_; rintro e wq ⟨rfl, hbq⟩
             go_wp2_with fail
             go_roundg (0)
             case measure => omega
             case rel => exact ⟨3, by omega, rfl, by go_num, hx.trans hbq, hB.ext hbq⟩)
          | (go_wp2_with fail
             go_roundg (0)
             case measure => omega
             case rel => exact ⟨3, by omega, rfl, by go_num, hx, hB⟩)
      · go_wp2_with fail
        go_ret
        exact ⟨rfl, hx⟩
theorem limits_walkI (x y : Int) (w : World) (hx : 0 ≤ x ∧ x ≤ 255) (hy : 0 ≤ y ∧ y ≤ 255) (hg : Gl w) (hh : GlH w) (hp : GlP w) :
    Calls Tryz.prog 7 #[.agg #[.int .u8 x, .int .u8 y]] w fun e w' => e = .returned (.bool true) ∧ Ext w w' := by
  obtain ⟨a, rfl⟩ := Int.eq_ofNat_of_zero_le hx.1
  obtain ⟨b, rfl⟩ := Int.eq_ofNat_of_zero_le hy.1
  exact limits_walk a b w (by omega) (by omega) hg hh hp
end Go.Proofs.YtmckbcbdnckngaaGreatDoor
