/- Walks of functions that the proof needs, and plain laws on what they compute. No condition beyond those that each one states. -/
import Derived.Test.YtmckbcbdnckngaaGreatDoorJ1
import Derived.Test.YtmckbcbdnckngaaGreatDoorRows
import Derived.OpenShut
import Derived.MakeChecks
import Derived.FnData
import Derived.Lib.LaidTab
import Derived.Lib.ItoaLen
import Derived.Test.YtmckbcbdnckngaaGreatDoorShelf
import Derived.Deep.RegionHeld3
import Derived.IntWalk
import Derived.Deep.DeepCutAuto
import Derived.Lib.IndexAny
set_option maxHeartbeats 32000000
set_option maxRecDepth 100000
set_option linter.unusedSimpArgs false
set_option linter.unusedVariables false
namespace Go.Proofs.YtmckbcbdnckngaaGreatDoor
open Go.RowKit

theorem host_len {s h : Bs} (e : hostL s = some h) : h.length ≤ 100 := by
 unfold hostL at e
 split at e
 ·rename_i hc
  rw [Bool.and_eq_true, decide_eq_true_eq] at hc
  injection e with e
  subst e
  rw [List.length_map]; exact hc.1
 ·cases e
theorem totS_le : ∀ (l : List ByteArray) (B : Nat), (∀ x ∈ l, x.size ≤ B) → totS l ≤ l.length * B
 | [], _, _ => by simp [totS]
 | x :: l, B, h => by
  have h1 := h x (List.mem_cons_self ..)
  have h2 := totS_le l B (fun y hy => h y (List.mem_cons_of_mem _ hy))
  have : totS (x :: l) = x.size + totS l := by simp [totS]
  rw [this, List.length_cons, Nat.succ_mul]; omega
theorem dotB_1 : (dotB.toList == [46]) = true := by decide +kernel
theorem dotB_2 : (dotB.toList == [46, 46]) = false := by decide +kernel
theorem dotsB_1 : (dotsB.toList == [46]) = false := by decide +kernel
theorem dotsB_2 : (dotsB.toList == [46, 46]) = true := by decide +kernel
theorem ne_dot {x : ByteArray} (h : x ≠ dotB) : (x.toList == [46]) = false := by
 rw [Bool.eq_false_iff]; intro e
 exact h (bytes_ext (by rw [beq_iff_eq, ByteArray.toList_eq] at e; exact e))
theorem ne_dots {x : ByteArray} (h : x ≠ dotsB) : (x.toList == [46, 46]) = false := by
 rw [Bool.eq_false_iff]; intro e
 exact h (bytes_ext (by rw [beq_iff_eq, ByteArray.toList_eq] at e; exact e))
theorem infoStr55 : (Tryz.prog.info? 9).map (fun i => (i.zero, i.size, i.bytes)) = some (some (.string ⟨#[]⟩), 1, 16) := by kernel_rfl
theorem infoAd : (Tryz.prog.info? 123).map (·.size) = some 4 := by kernel_rfl
theorem adr_Parse (ho ta : ByteArray) (w : World) (hh : ho.size ≤ 1048576) (ht : ta.size ≤ 1048576) (hg : Gl w) :
    Calls Tryz.prog 79 #[.string ho, .string ta] w fun e w' => (∃ n, e = .returned (.tuple #[.agg (adrA (adP (bsL ho) (bsL ta))), errV n]) ∧ n < 1000 ∧ (n = 0 ↔ (adP (bsL ho) (bsL ta)).isSome = true)) ∧ Ext w w' := by
  have HH := zi (fun w' (h : Ext w w') => adr_Host ho w' hh (hg.ext h))
  have HC := zi (fun w' (h : Ext w w') => show Calls Tryz.prog 104 #[.string ta, .string ⟨#[63]⟩] w' fun e w'' => e = .returned (.tuple #[.string ⟨(cutL 63 (bsL ta)).1.toArray⟩, .string ⟨(cutL 63 (bsL ta)).2.1.toArray⟩, .bool (cutL 63 (bsL ta)).2.2]) ∧ Ext w' w'' from by
    obtain ⟨m, hm⟩ := hg.ext h
    refine (Tryz.strings_Cut ta ⟨#[63]⟩ m w' (by omega) hm).mono fun e w'' hh2 => ?_
    obtain ⟨he, n, rfl⟩ := hh2
    refine ⟨?_, (Ext.refl w').drewN n⟩
    rw [he, show (⟨#[63]⟩ : ByteArray).data.toList = [63] from rfl, cut_one]; rfl)
  have Hcl := zi (cut_lens 63 (bsL ta))
  have Htl := zi (show (bsL ta).length ≤ 1048576 by show ta.data.toList.length ≤ _; simpa using ht)
  have Ehost := zi (fun h => adP_host (ho := bsL ho) (ta := bsL ta) h)
  have Eslash := zi (fun h h1 h2 => adP_slash (ho := bsL ho) (ta := bsL ta) (h := h) h1 h2)
  have Ecan := zi (fun h h1 h2 => adP_can (ho := bsL ho) (ta := bsL ta) (h := h) h1 h2)
  have Eseg := zi (fun h p q h1 h2 h3 h4 => adP_seg (ho := bsL ho) (ta := bsL ta) (h := h) (p := p) (q := q) h1 h2 h3 h4)
  generalize adP (bsL ho) (bsL ta) = R at *
  have hB := Blk.new w 123 #[.string ⟨#[]⟩, .string ⟨#[]⟩, .string ⟨#[]⟩, .bool false]
  have HW := zi ((Ext.refl w).alloc (.cells #[.string ⟨#[]⟩, .string ⟨#[]⟩, .string ⟨#[]⟩, .bool false] 123))
  have Hb0 := zi (Nat.le_refl w.heap.size)
  have HHo := zi (show hostL (bsL ho) = hostL (bsL ho) from rfl)
  go_enter Tryz.func79, Tryz.ntmps79
  go_wp2_with fail
  refine (HH.out _ HW.out).mono ?_; rintro e w1 ⟨rfl, hb1⟩
  have HB := zi (fun w' (h : Ext (w.alloc (.cells #[.string ⟨#[]⟩, .string ⟨#[]⟩, .string ⟨#[]⟩, .bool false] 123)) w') => hB.ext h)
  clear hB
  generalize w.alloc (.cells #[.string ⟨#[]⟩, .string ⟨#[]⟩, .string ⟨#[]⟩, .bool false] 123) = W0 at *
  generalize hbb : w.heap.size = b0 at *
  have Hb0 := zi (Nat.le_of_eq hbb)
  clear hbb
  have hE := hb1
  cases hho : hostL (bsL ho) with
  | none =>
    have HR := zi (Ehost.out hho)
    rw [show hV none = .tuple #[.string ⟨#[]⟩, .iface 63 (.int .i64 8)] from rfl]
    go_wp2_with (first | (refine wpList_storeB rfl 123 (.tmp 4) (.tmp 25) rfl rfl b0 _ rfl rfl 123 _ (HB.out _ hE) infoAd rfl (by simp [Value.oneCell']) ?_; intro w9 hB9 hx9))
    have y0 : w9.cell? ⟨b0, 0, none⟩ = some (.string ⟨#[]⟩) := hB9.cell 0
    have y1 : w9.cell? ⟨b0, 1, none⟩ = some (.string ⟨#[]⟩) := hB9.cell 1
    have y2 : w9.cell? ⟨b0, 2, none⟩ = some (.string ⟨#[]⟩) := hB9.cell 2
    have y3 : w9.cell? ⟨b0, 3, none⟩ = some (.bool false) := hB9.cell 3
    exact bodyPost_ret (v := .tuple #[.agg #[.string ⟨#[]⟩, .string ⟨#[]⟩, .string ⟨#[]⟩, .bool false], errV 8]) (by simp [results, Tryz.results79, go_sem, y0, y1, y2, y3, errV]) rfl ⟨⟨8, by rw [HR.out]; rfl, by decide, by rw [HR.out]; simp⟩, (HW.out.trans hE).growB hx9 Hb0.out⟩
  | some h =>
    rw [show hV (some h) = .tuple #[.string ⟨h.toArray⟩, .nilIface] from rfl]
    go_wp2_with fail
    refine (HC.out _ (HW.out.trans hE)).mono ?_; rintro e w2 ⟨rfl, hb2⟩
    replace hE := hE.trans hb2
    have Hhl := zi (host_len hho)
    have Eslash := zi (Eslash.out h hho); have Ecan := zi (Ecan.out h hho); have Eseg := zi (fun p q => Eseg.out h p q hho)
    clear hho hb1 hb2 Ehost
    generalize (cutL 63 (bsL ta)).2.2 = has at *
    generalize (cutL 63 (bsL ta)).2.1 = qr at *
    generalize (cutL 63 (bsL ta)).1 = pr at *
    cases pr with
    | nil =>
      have HR := zi (Eslash.out (by simp))
      have e0 : (⟨([] : Bs).toArray⟩ : ByteArray).toList = [] := by rw [ByteArray.toList_eq]
      have e1 : (⟨([] : Bs).toArray⟩ : ByteArray).toList.isEmpty = true := by rw [e0]; rfl
      clear Ecan Eseg Eslash
      go_wp2_with (first | (refine wpList_storeB rfl 123 (.tmp 4) (.tmp 40) rfl rfl b0 _ rfl rfl 123 _ (HB.out _ hE) infoAd rfl (by simp [Value.oneCell']) ?_; intro w9 hB9 hx9))
      have y0 : w9.cell? ⟨b0, 0, none⟩ = some (.string ⟨#[]⟩) := hB9.cell 0
      have y1 : w9.cell? ⟨b0, 1, none⟩ = some (.string ⟨#[]⟩) := hB9.cell 1
      have y2 : w9.cell? ⟨b0, 2, none⟩ = some (.string ⟨#[]⟩) := hB9.cell 2
      have y3 : w9.cell? ⟨b0, 3, none⟩ = some (.bool false) := hB9.cell 3
      exact bodyPost_ret (v := .tuple #[.agg #[.string ⟨#[]⟩, .string ⟨#[]⟩, .string ⟨#[]⟩, .bool false], errV 27]) (by simp [results, Tryz.results79, go_sem, y0, y1, y2, y3, errV]) rfl ⟨⟨27, by rw [HR.out]; rfl, by decide, by rw [HR.out]; simp⟩, (HW.out.trans hE).growB hx9 Hb0.out⟩
    | cons x xs =>
      obtain ⟨P, hP⟩ : ∃ P : ByteArray, (⟨(x :: xs).toArray⟩ : ByteArray) = P := ⟨_, rfl⟩
      have hPl : bsL P = x :: xs := by rw [← hP]; rfl
      have hPs : P.size = xs.length + 1 := by rw [← hP]; show (x :: xs).toArray.size = _; simp
      have hP0 : P[0]'(by omega) = x := by subst hP; rfl
      have hne1 : P.toList.isEmpty = false := by rw [ByteArray.toList_eq, show P.data.toList = x :: xs from hPl]; rfl
      have hne2 : (P.toList == []) = false := by rw [ByteArray.toList_eq, show P.data.toList = x :: xs from hPl]; rfl
      have hlen := Hcl.out
      have HPl := zi (⟨hPl, hPs⟩ : _ ∧ _)
      rw [hP]
      cases hx : (((P[0]'(by omega)).toNat : Int) == 47)
      · have HR := zi (Eslash.out (by
          intro e
          injection e with e
          rw [hP0, e] at hx
          revert hx; decide))
        clear Ecan Eseg Eslash hP hPl hP0
        go_wp2_with (first | (refine wpList_storeB rfl 123 (.tmp 4) (.tmp 40) rfl rfl b0 _ rfl rfl 123 _ (HB.out _ hE) infoAd rfl (by simp [Value.oneCell']) ?_; intro w9 hB9 hx9))
        have y0 : w9.cell? ⟨b0, 0, none⟩ = some (.string ⟨#[]⟩) := hB9.cell 0
        have y1 : w9.cell? ⟨b0, 1, none⟩ = some (.string ⟨#[]⟩) := hB9.cell 1
        have y2 : w9.cell? ⟨b0, 2, none⟩ = some (.string ⟨#[]⟩) := hB9.cell 2
        have y3 : w9.cell? ⟨b0, 3, none⟩ = some (.bool false) := hB9.cell 3
        exact bodyPost_ret (v := .tuple #[.agg #[.string ⟨#[]⟩, .string ⟨#[]⟩, .string ⟨#[]⟩, .bool false], errV 27]) (by simp [results, Tryz.results79, go_sem, y0, y1, y2, y3, errV]) rfl ⟨⟨27, by rw [HR.out]; rfl, by decide, by rw [HR.out]; simp⟩, (HW.out.trans hE).growB hx9 Hb0.out⟩
      have hx47 : x = 47 := by rw [← hP0]; exact UInt8.toNat_inj.1 (by have h : ((P[0]'(by omega)).toNat : Int) = 47 := by simpa using hx
                                                                       show (P[0]'(by omega)).toNat = 47; omega)
      have HC1 := zi (fun w => adr_canonical P ⟨#[33, 36, 38, 39, 40, 41, 42, 43, 44, 59, 61, 58, 64, 47]⟩ w (by have := Htl.out; simp only [List.length_cons] at hlen; omega))
      rw [inB_m1, hPl] at HC1
      obtain ⟨Qq, hQ⟩ : ∃ Qq : ByteArray, (⟨qr.toArray⟩ : ByteArray) = Qq := ⟨_, rfl⟩
      have hQl : bsL Qq = qr := by rw [← hQ]; rfl
      have hQs : Qq.size = qr.length := by rw [← hQ]; show qr.toArray.size = _; simp
      rw [hQ]
      have HC2 := zi (fun w => adr_canonical Qq ⟨#[33, 36, 38, 39, 40, 41, 42, 43, 44, 59, 61, 58, 64, 47, 63]⟩ w (by have := Htl.out; simp only [List.length_cons] at hlen; omega))
      rw [inB_m2, hQl] at HC2
      clear hP hQ hP0 Eslash
      subst hx47
      go_wp2_with fail
      refine (HC1.out _).mono ?_; rintro e w3 ⟨rfl, hb3⟩
      replace hE := hE.trans hb3
      clear hb3 hne1 hne2
      cases hcp : canL markC (47 :: xs) with
      | none =>
        have HR := zi (Ecan.out (.inl hcp))
        rw [show cnV none = .tuple #[.string ⟨#[]⟩, .bool false] from rfl]
        go_wp2_with fail
        refine (HC2.out _).mono ?_; rintro e w4 ⟨rfl, hb4⟩
        replace hE := hE.trans hb4
        clear Ecan Eseg
        cases canL markQ qr with
        | none =>
          rw [show cnV none = .tuple #[.string ⟨#[]⟩, .bool false] from rfl]
          go_wp2_with (first | (refine wpList_storeB rfl 123 (.tmp 4) (.tmp 58) rfl rfl b0 _ rfl rfl 123 _ (HB.out _ hE) infoAd rfl (by simp [Value.oneCell']) ?_; intro w9 hB9 hx9))
          have y0 : w9.cell? ⟨b0, 0, none⟩ = some (.string ⟨#[]⟩) := hB9.cell 0
          have y1 : w9.cell? ⟨b0, 1, none⟩ = some (.string ⟨#[]⟩) := hB9.cell 1
          have y2 : w9.cell? ⟨b0, 2, none⟩ = some (.string ⟨#[]⟩) := hB9.cell 2
          have y3 : w9.cell? ⟨b0, 3, none⟩ = some (.bool false) := hB9.cell 3
          exact bodyPost_ret (v := .tuple #[.agg #[.string ⟨#[]⟩, .string ⟨#[]⟩, .string ⟨#[]⟩, .bool false], errV 27]) (by simp [results, Tryz.results79, go_sem, y0, y1, y2, y3, errV]) rfl ⟨⟨27, by rw [HR.out]; rfl, by decide, by rw [HR.out]; simp⟩, (HW.out.trans hE).growB hx9 Hb0.out⟩
        | some q =>
          rw [show cnV (some q) = .tuple #[.string ⟨q.toArray⟩, .bool true] from rfl]
          go_wp2_with (first | (refine wpList_storeB rfl 123 (.tmp 4) (.tmp 58) rfl rfl b0 _ rfl rfl 123 _ (HB.out _ hE) infoAd rfl (by simp [Value.oneCell']) ?_; intro w9 hB9 hx9))
          have y0 : w9.cell? ⟨b0, 0, none⟩ = some (.string ⟨#[]⟩) := hB9.cell 0
          have y1 : w9.cell? ⟨b0, 1, none⟩ = some (.string ⟨#[]⟩) := hB9.cell 1
          have y2 : w9.cell? ⟨b0, 2, none⟩ = some (.string ⟨#[]⟩) := hB9.cell 2
          have y3 : w9.cell? ⟨b0, 3, none⟩ = some (.bool false) := hB9.cell 3
          exact bodyPost_ret (v := .tuple #[.agg #[.string ⟨#[]⟩, .string ⟨#[]⟩, .string ⟨#[]⟩, .bool false], errV 27]) (by simp [results, Tryz.results79, go_sem, y0, y1, y2, y3, errV]) rfl ⟨⟨27, by rw [HR.out]; rfl, by decide, by rw [HR.out]; simp⟩, (HW.out.trans hE).growB hx9 Hb0.out⟩
      | some p =>
        obtain ⟨p2, rfl⟩ := can_slash hcp
        rw [show cnV (some (47 :: p2)) = .tuple #[.string ⟨(47 :: p2 : Bs).toArray⟩, .bool true] from rfl]
        go_wp2_with fail
        refine (HC2.out _).mono ?_; rintro e w4 ⟨rfl, hb4⟩
        replace hE := hE.trans hb4
        clear hb4
        cases hcq : canL markQ qr with
        | none =>
          have HR := zi (Ecan.out (.inr hcq))
          rw [show cnV none = .tuple #[.string ⟨#[]⟩, .bool false] from rfl]
          clear Ecan Eseg
          go_wp2_with (first | (refine wpList_storeB rfl 123 (.tmp 4) (.tmp 58) rfl rfl b0 _ rfl rfl 123 _ (HB.out _ hE) infoAd rfl (by simp [Value.oneCell']) ?_; intro w9 hB9 hx9))
          have y0 : w9.cell? ⟨b0, 0, none⟩ = some (.string ⟨#[]⟩) := hB9.cell 0
          have y1 : w9.cell? ⟨b0, 1, none⟩ = some (.string ⟨#[]⟩) := hB9.cell 1
          have y2 : w9.cell? ⟨b0, 2, none⟩ = some (.string ⟨#[]⟩) := hB9.cell 2
          have y3 : w9.cell? ⟨b0, 3, none⟩ = some (.bool false) := hB9.cell 3
          exact bodyPost_ret (v := .tuple #[.agg #[.string ⟨#[]⟩, .string ⟨#[]⟩, .string ⟨#[]⟩, .bool false], errV 27]) (by simp [results, Tryz.results79, go_sem, y0, y1, y2, y3, errV]) rfl ⟨⟨27, by rw [HR.out]; rfl, by decide, by rw [HR.out]; simp⟩, (HW.out.trans hE).growB hx9 Hb0.out⟩
        | some q =>
          rw [show cnV (some q) = .tuple #[.string ⟨q.toArray⟩, .bool true] from rfl]
          have ER := zi (Eseg.out p2 q rfl hcp hcq)
          have HlenP := zi (can_len _ _ _ (Nat.le_refl _) hcp)
          have HlenQ := zi (can_len _ _ _ (Nat.le_refl _) hcq)
          have Hlen := zi hlen
          clear Ecan Eseg hcp hcq HC1 HC2 hx
          obtain ⟨PP, hPP⟩ : ∃ PP : ByteArray, (⟨(47 :: p2 : Bs).toArray⟩ : ByteArray) = PP := ⟨_, rfl⟩
          have hPPl : bsL PP = 47 :: p2 := by rw [← hPP]; rfl
          have hPPs : PP.size = p2.length + 1 := by rw [← hPP]; show (47 :: p2 : Bs).toArray.size = _; simp
          have hP1 : bsL (PP.extract 1 PP.size) = p2 := by
            show (PP.extract 1 PP.size).data.toList = p2
            rw [← ByteArray.toList_eq, Lib.extract_toList, show PP.data.toList = 47 :: p2 from hPPl, List.drop_succ_cons, List.drop_zero, hPPs, show p2.length + 1 - 1 = p2.length by omega, List.take_length]
          have hp2 : p2.length ≤ 1048576 := by have h1 := HlenP.out; have h2 := Hlen.out; have h3 := Htl.out; simp only [List.length_cons] at h1 h2; omega
          have hq2 : q.length ≤ 1048576 := by have h1 := HlenQ.out; have h2 := Hlen.out; have h3 := Htl.out; simp only [List.length_cons] at h2; omega
          have hP1s : (PP.extract 1 PP.size).size = p2.length := by rw [ByteArray.size_extract]; omega
          rw [hPP]
          have HSp := zi (fun w' (h : Ext w w') => str_Split1 47 (PP.extract 1 PP.size) w' (by omega) (hg.ext h))
          have HVd := zi (spS_data 47 (PP.extract 1 PP.size))
          have HVn := zi (spS_le 47 (PP.extract 1 PP.size))
          rw [hP1] at HVd
          have HP2 := zi (⟨hp2, hq2, hP1s⟩ : _ ∧ _ ∧ _)
          have h1PP : 1 ≤ PP.size := by omega
          clear hPP hPPl hP1 hP1s hPPs
          go_wp2_with fail
          refine (HSp.out _ (HW.out.trans hE)).mono ?_; rintro e w5 ⟨n5, rfl, hr5, hb5⟩
          replace hE := hE.trans hb5
          generalize spS 47 (PP.extract 1 PP.size) = V at *
          have Hl5 := zi hr5.lenS
          have hn5 : n5 ≤ 1048577 := by have := Hl5.out; have := HVn.out; have := HP2.out.2.2; omega
          have HVs := zi (show ∀ y ∈ V, y.size ≤ 1048576 from fun y hy => by
            have h1 := sp_lens 47 p2 (bsL y) (by rw [← HVd.out]; exact List.mem_map.2 ⟨y, hy, rfl⟩)
            have h2 : (bsL y).length = y.size := by show y.data.toList.length = _; simp
            omega)
          have HS0 := zi (show sgB [] V = segF [] (spL 47 p2) by unfold sgB; rw [show V.map bsL = spL 47 p2 from HVd.out]; rfl)
          have ER2 := zi (show R = match sgB [] V with
            | none => none
            | some left => if (adText ⟨h, 47 :: jnL 47 left, q, has⟩).length ≤ 1024 then some ⟨h, 47 :: jnL 47 left, q, has⟩ else none from by rw [HS0.out]; exact ER.out)
          clear ER HS0 HVd HVn HSp hb5
          generalize w4.heap.size = b5 at *
          go_wp2_with fail
          go_loopw [13, 65] (fun v i wr => ∃ k LB A' c' m, k ≤ n5 ∧ i = .int .i64 (k : Nat) ∧ v = .slice A' m c' ∧ wr.ownsRow w5.heap.size 9 1 (.slice A' m c') m (strCells LB) ∧ m ≤ c' ∧ m ≤ k ∧ (∀ y ∈ LB, y.size ≤ 1048576) ∧ sgB LB (V.drop k) = sgB [] V ∧ Ext w5 wr) (fun _ i _ => n5 - (intOf i).toNat)
          case atStart => exact ⟨0, [], none, 0, 0, Nat.zero_le _, rfl, rfl, World.ownsRow_nil _ _ _ _, Nat.le_refl _, Nat.le_refl _, (fun y hy => by cases hy), rfl, Ext.refl _⟩
          case round =>
            obtain ⟨k, LB, A', c', m, hk, rfl, rfl, hown, hmc, hmk, hsz, hsg, hbr⟩ := hrel
            have hml : LB.length = m := by have := hown.1; simpa [strCells] using this
            have Hsz := zi hsz; have Hsg := zi hsg; have Hml := zi hml
            clear hsz hsg hml
            by_cases hlt : k < n5
            · have hlt' : k < V.length := by have := Hl5.out; omega
              obtain ⟨b, o, hbo, hc0⟩ := (hr5.ext hbr).atS hlt'
              injection hbo with hbo
              injection hbo with e1 e2
              subst e1; subst e2
              rw [Nat.zero_add] at hc0
              have hvs := HVs.out V[k] (List.getElem_mem hlt')
              have Hdot := zi (fun (hx : V[k] = dotB) => (sgB_dot (LB := LB) hlt' hx).symm.trans Hsg.out)
              have Hdd0 := zi (fun (hx : V[k] = dotsB) (h0 : LB = []) => show sgB [] V = none by subst h0; exact Hsg.out.symm.trans (sgB_dots0 hlt' hx))
              have Hdd := zi (fun (hx : V[k] = dotsB) (h0 : LB ≠ []) => (sgB_dots (LB := LB) hlt' hx h0).symm.trans Hsg.out)
              have Hpl := zi (fun (h1 : V[k] ≠ dotB) (h2 : V[k] ≠ dotsB) => (sgB_plain (LB := LB) hlt' h1 h2).symm.trans Hsg.out)
              have Hl6 := zi (show k + 1 = V.length ↔ k + 1 = n5 by rw [Hl5.out])
              have hml := Hml.out
              clear Hsg
              generalize V[k] = x at *
              have hwn : IntKind.i64.wrap ((n5 : Int) - 1) = (n5 : Int) - 1 := IntWalk.i64_in _ (by omega)
              by_cases hx1 : x = dotB
              · subst hx1
                have hz1 := dotB_1; have hz2 := dotB_2
                have Hn := zi (Hdot.out rfl)
                clear Hdot Hdd0 Hdd Hpl
                by_cases hlast : k + 1 = n5
                · have hq : ((k : Int) == (n5 : Int) - 1) = true := by rw [beq_iff_eq]; omega
                  have Hn2 := zi (show sgB (LB ++ [⟨#[]⟩]) (V.drop (k + 1)) = sgB [] V by have := Hn.out; rw [if_pos (Hl6.out.2 hlast)] at this; exact this)
                  have Hlast := zi hlast; clear hlast
                  clear Hn
                  go_wp2_with (first
                    | (at_builtin; refine wpList_app _ rfl (.tmp 95) (.tmp 96) 53 rfl w5 9 _ 1 16 Tryz.underlying53 infoStr55 rfl (by decide) _ _ _ rfl (hown.alloc _) _ 1 1 [.string ⟨#[]⟩] rfl (Rd.one _ _ _ (by simp)) (by intro u hu; simp at hu; subst hu; rfl) (hbr.alloc _) (by omega) (by decide) ?_; intro A7 c7 w7 hown7 hb7 hle7))
                  refine ⟨?rel, ?measure⟩
                  case rel => exact ⟨k + 1, LB ++ [⟨#[]⟩], A7, c7, m + 1, by omega, by go_num, rfl, by rw [show strCells (LB ++ [⟨#[]⟩]) = strCells LB ++ [.string ⟨#[]⟩] by simp [strCells]]; exact hown7, hle7, by omega, (fun y hy => (List.mem_append.1 hy).elim (Hsz.out y) (fun h2 => by rw [List.mem_singleton] at h2; subst h2; exact Nat.zero_le _)), Hn2.out, hb7⟩
                  case measure => simp [intOf]; omega
                · have hq : ((k : Int) == (n5 : Int) - 1) = false := by rw [beq_eq_false_iff_ne]; omega
                  have Hn2 := zi (show sgB LB (V.drop (k + 1)) = sgB [] V by have := Hn.out; rw [if_neg (fun e => hlast (Hl6.out.1 e))] at this; exact this)
                  clear Hn
                  go_wp2_with fail
                  refine ⟨?rel, ?measure⟩
                  case rel => exact ⟨k + 1, LB, A', c', m, by omega, by go_num, rfl, hown, hmc, by omega, Hsz.out, Hn2.out, hbr⟩
                  case measure => simp [intOf]; omega
              by_cases hx2 : x = dotsB
              · subst hx2
                have hz1 := dotsB_1; have hz2 := dotsB_2
                by_cases h0 : LB = []
                · have HR := zi (show R = none by rw [ER2.out, Hdd0.out rfl h0])
                  have hm0 : m = 0 := by rw [← hml, h0]; rfl
                  subst hm0
                  have hE := hE.trans hbr
                  clear Hdot Hdd0 Hdd Hpl ER2 h0
                  go_wp2_with (first | (refine wpList_storeB rfl 123 (.tmp 4) (.tmp 83) rfl rfl b0 _ rfl rfl 123 _ (HB.out _ hE) infoAd rfl (by simp [Value.oneCell']) ?_; intro w9 hB9 hx9))
                  have y0 : w9.cell? ⟨b0, 0, none⟩ = some (.string ⟨#[]⟩) := hB9.cell 0
                  have y1 : w9.cell? ⟨b0, 1, none⟩ = some (.string ⟨#[]⟩) := hB9.cell 1
                  have y2 : w9.cell? ⟨b0, 2, none⟩ = some (.string ⟨#[]⟩) := hB9.cell 2
                  have y3 : w9.cell? ⟨b0, 3, none⟩ = some (.bool false) := hB9.cell 3
                  exact bodyPost_ret (v := .tuple #[.agg #[.string ⟨#[]⟩, .string ⟨#[]⟩, .string ⟨#[]⟩, .bool false], errV 27]) (by simp [results, Tryz.results79, go_sem, y0, y1, y2, y3, errV]) rfl ⟨⟨27, by rw [HR.out]; rfl, by decide, by rw [HR.out]; simp⟩, (HW.out.trans hE).growB hx9 Hb0.out⟩
                have Hn := zi (Hdd.out rfl h0)
                obtain ⟨m', rfl⟩ : ∃ m', m = m' + 1 := ⟨m - 1, by have : 0 < LB.length := List.length_pos_iff.2 h0; omega⟩
                have hsh := own_shrink hown
                rw [show (strCells LB).dropLast = strCells LB.dropLast by simp [strCells, List.map_dropLast]] at hsh
                obtain ⟨g, hA⟩ : ∃ g, A' = some ⟨g, 0, none⟩ := by
                  rcases hown.2 with ⟨_, h0'⟩ | ⟨g, _, _, hv, _⟩
                  · omega
                  · exact ⟨g, (slice_inj hv).1⟩
                subst hA
                have hwm : IntKind.i64.wrap (((m' + 1 : Nat) : Int) - 1) = (m' : Int) := by rw [IntWalk.i64_in _ (by omega)]; omega
                have Hsz2 := zi (show ∀ y ∈ LB.dropLast, y.size ≤ 1048576 from fun y hy => Hsz.out y (List.dropLast_subset _ hy))
                clear Hdot Hdd0 Hdd Hpl hown h0
                by_cases hlast : k + 1 = n5
                · have hq : ((k : Int) == (n5 : Int) - 1) = true := by rw [beq_iff_eq]; omega
                  have Hn2 := zi (show sgB (LB.dropLast ++ [⟨#[]⟩]) (V.drop (k + 1)) = sgB [] V by have := Hn.out; rw [if_pos (Hl6.out.2 hlast)] at this; exact this)
                  clear Hn hlast
                  go_wp2_with (first
                    | (at_builtin; refine wpList_app _ rfl (.tmp 95) (.tmp 96) 53 rfl w5 9 _ 1 16 Tryz.underlying53 infoStr55 rfl (by decide) _ _ _ rfl (hsh.alloc _) _ 1 1 [.string ⟨#[]⟩] rfl (Rd.one _ _ _ (by simp)) (by intro u hu; simp at hu; subst hu; rfl) (hbr.alloc _) (by omega) (by decide) ?_; intro A7 c7 w7 hown7 hb7 hle7))
                  refine ⟨?rel, ?measure⟩
                  case rel => exact ⟨k + 1, LB.dropLast ++ [⟨#[]⟩], A7, c7, m' + 1, by omega, by go_num, rfl, by rw [show strCells (LB.dropLast ++ [⟨#[]⟩]) = strCells LB.dropLast ++ [.string ⟨#[]⟩] by simp [strCells]]; exact hown7, hle7, by omega, (fun y hy => (List.mem_append.1 hy).elim (Hsz2.out y) (fun h2 => by rw [List.mem_singleton] at h2; subst h2; exact Nat.zero_le _)), Hn2.out, hb7⟩
                  case measure => simp [intOf]; omega
                · have hq : ((k : Int) == (n5 : Int) - 1) = false := by rw [beq_eq_false_iff_ne]; omega
                  have Hn2 := zi (show sgB LB.dropLast (V.drop (k + 1)) = sgB [] V by have := Hn.out; rw [if_neg (fun e => hlast (Hl6.out.1 e))] at this; exact this)
                  clear Hn
                  go_wp2_with fail
                  refine ⟨?rel, ?measure⟩
                  case rel => exact ⟨k + 1, LB.dropLast, some ⟨g, 0, none⟩, c', m', by omega, by go_num, rfl, hsh, by omega, by omega, Hsz2.out, Hn2.out, hbr⟩
                  case measure => simp [intOf]; omega
              have hz1 := ne_dot hx1; have hz2 := ne_dots hx2
              have Hn := zi (Hpl.out hx1 hx2)
              clear Hdot Hdd0 Hdd Hpl hx1 hx2
              go_wp2_with (first
                | (at_builtin; refine wpList_app _ rfl (.tmp 71) (.tmp 73) 53 rfl w5 9 _ 1 16 Tryz.underlying53 infoStr55 rfl (by decide) _ _ _ rfl (hown.alloc _) _ 1 1 [.string x] rfl (Rd.one _ _ _ (by simp)) (by intro u hu; simp at hu; subst hu; rfl) (hbr.alloc _) (by omega) (by decide) ?_; intro A7 c7 w7 hown7 hb7 hle7))
              refine ⟨?rel, ?measure⟩
              case rel => exact ⟨k + 1, LB ++ [x], A7, c7, m + 1, by omega, by go_num, rfl, by rw [show strCells (LB ++ [x]) = strCells LB ++ [.string x] by simp [strCells]]; exact hown7, hle7, by omega, (fun y hy => (List.mem_append.1 hy).elim (Hsz.out y) (fun h2 => by rw [List.mem_singleton] at h2; subst h2; exact hvs)), Hn.out, hb7⟩
              case measure => simp [intOf]; omega
            · obtain rfl : k = n5 := by omega
              have HsR := zi (show sgB [] V = some (LB.map bsL) by rw [← Hsg.out, List.drop_of_length_le (by have := Hl5.out; omega)]; rfl)
              obtain ⟨a, ha⟩ : ∃ a : Adr, (⟨h, 47 :: jnL 47 (LB.map bsL), q, has⟩ : Adr) = a := ⟨_, rfl⟩
              have HRa := zi (show R = if (adText a).length ≤ 1024 then some a else none by rw [ER2.out, HsR.out, ← ha])
              have htot := totS_le LB 1048576 Hsz.out
              have hml := Hml.out
              have hjs := jnS_size 47 LB
              have hmul : LB.length * 1048576 ≤ 1048577 * 1048576 := Nat.mul_le_mul_right _ (by omega)
              have HJ := zi (str_Join1 A' m c' LB 47 wr (by have := Rd.of_own hown; exact this) hmc (by omega))
              have hpath : (⟨#[47]⟩ : ByteArray) ++ jnS 47 LB = ⟨a.path.toArray⟩ := by
                rw [← ha]
                apply bytes_ext
                rw [data_append]
                show [47] ++ (jnL 47 (LB.map (·.data.toList))).toArray.toList = (47 :: jnL 47 (LB.map bsL) : Bs).toArray.toList
                simp; rfl
              have hadd : ∀ w, (Op.stringOp .add ⟨#[47]⟩ (jnS 47 LB)).run Tryz.prog w = .ok (.string ⟨a.path.toArray⟩) w := fun w => by
                rw [← hpath]
                exact run_string_add_sum w _ _ (by rw [show (⟨#[47]⟩ : ByteArray).size = 1 from rfl]; omega)
              have hps : (⟨a.path.toArray⟩ : ByteArray).size ≤ 2000000000000 := by
                rw [← hpath, ByteArray.size_append, show (⟨#[47]⟩ : ByteArray).size = 1 from rfl]; omega
              have hah : a.host = h := by rw [← ha]
              have haq : a.query = q := by rw [← ha]
              have has' : a.has = has := by rw [← ha]
              clear ha hpath
              subst hah; subst haq; subst has'
              have hhl := Hhl.out
              have HA := zi (fun w' => adr_text ⟨a.host.toArray⟩ ⟨a.path.toArray⟩ ⟨a.query.toArray⟩ a.has w' (by
                have h1 : (⟨a.host.toArray⟩ : ByteArray).size = a.host.length := by show (List.toArray _).size = _; simp
                have h2 : (⟨a.query.toArray⟩ : ByteArray).size = a.query.length := by show (List.toArray _).size = _; simp
                have h3 := HP2.out.2.1
                omega))
              rw [text_eq a] at HA
              obtain ⟨T, hT⟩ : ∃ T : ByteArray, (⟨(adText a).toArray⟩ : ByteArray) = T := ⟨_, rfl⟩
              have hTs : T.size = (adText a).length := by rw [← hT]; show (List.toArray _).size = _; simp
              rw [hT] at HA
              have HTs := zi hTs
              clear hT hTs hps htot hmul hjs hhl hml
              go_wp2_with fail
              refine HJ.out.mono ?_; rintro e w6 ⟨rfl, hb6⟩
              have hE := hE.trans (hbr.trans hb6)
              have HX := zi (Blk.new w6 123 #[.string ⟨a.host.toArray⟩, .string ⟨a.path.toArray⟩, .string ⟨a.query.toArray⟩, .bool a.has])
              go_wp2_with fail
              refine (HA.out _).mono ?_; rintro e w7 ⟨rfl, hb7⟩
              have hE := (hE.alloc (.cells #[.string ⟨a.host.toArray⟩, .string ⟨a.path.toArray⟩, .string ⟨a.query.toArray⟩, .bool a.has] 123)).trans hb7
              have x0 : w7.cell? ⟨w6.heap.size, 0, none⟩ = some (.string ⟨a.host.toArray⟩) := (HX.out.ext hb7).cell 0
              have x1 : w7.cell? ⟨w6.heap.size, 1, none⟩ = some (.string ⟨a.path.toArray⟩) := (HX.out.ext hb7).cell 1
              have x2 : w7.cell? ⟨w6.heap.size, 2, none⟩ = some (.string ⟨a.query.toArray⟩) := (HX.out.ext hb7).cell 2
              have x3 : w7.cell? ⟨w6.heap.size, 3, none⟩ = some (.bool a.has) := (HX.out.ext hb7).cell 3
              by_cases hlong : 1024 < T.size
              · have HR := zi (show R = none by rw [HRa.out, if_neg (by have := HTs.out; omega)])
                go_wp2_with (first | (refine wpList_storeB rfl 123 (.tmp 4) (.tmp 110) rfl rfl b0 _ rfl rfl 123 _ (HB.out _ hE) infoAd rfl (by simp [Value.oneCell']) ?_; intro w9 hB9 hx9))
                have y0 : w9.cell? ⟨b0, 0, none⟩ = some (.string ⟨#[]⟩) := hB9.cell 0
                have y1 : w9.cell? ⟨b0, 1, none⟩ = some (.string ⟨#[]⟩) := hB9.cell 1
                have y2 : w9.cell? ⟨b0, 2, none⟩ = some (.string ⟨#[]⟩) := hB9.cell 2
                have y3 : w9.cell? ⟨b0, 3, none⟩ = some (.bool false) := hB9.cell 3
                exact bodyPost_ret (v := .tuple #[.agg #[.string ⟨#[]⟩, .string ⟨#[]⟩, .string ⟨#[]⟩, .bool false], errV 5]) (by simp [results, Tryz.results79, go_sem, y0, y1, y2, y3, errV]) rfl ⟨⟨5, by rw [HR.out]; rfl, by decide, by rw [HR.out]; simp⟩, (HW.out.trans hE).growB hx9 Hb0.out⟩
              have HR := zi (show R = some a by rw [HRa.out, if_pos (by have := HTs.out; omega)])
              go_wp2_with (first | (refine wpList_storeB rfl 123 (.tmp 4) (.tmp 112) rfl rfl b0 _ rfl rfl 123 _ (HB.out _ hE) infoAd rfl (by simp [Value.oneCell']) ?_; intro w9 hB9 hx9))
              have y0 : w9.cell? ⟨b0, 0, none⟩ = some (.string ⟨a.host.toArray⟩) := hB9.cell 0
              have y1 : w9.cell? ⟨b0, 1, none⟩ = some (.string ⟨a.path.toArray⟩) := hB9.cell 1
              have y2 : w9.cell? ⟨b0, 2, none⟩ = some (.string ⟨a.query.toArray⟩) := hB9.cell 2
              have y3 : w9.cell? ⟨b0, 3, none⟩ = some (.bool a.has) := hB9.cell 3
              exact bodyPost_ret (v := .tuple #[.agg #[.string ⟨a.host.toArray⟩, .string ⟨a.path.toArray⟩, .string ⟨a.query.toArray⟩, .bool a.has], errV 0]) (by simp [results, Tryz.results79, go_sem, y0, y1, y2, y3, errV]) rfl ⟨⟨0, by rw [HR.out]; rfl, by decide, by rw [HR.out]; simp⟩, (HW.out.trans hE).growB hx9 Hb0.out⟩
end Go.Proofs.YtmckbcbdnckngaaGreatDoor

namespace Go.Proofs.YtmckbcbdnckngaaGreatDoor
open Go.RowKit

theorem infoRg : (Tryz.prog.info? 107).map (·.size) = some 2 := by kernel_rfl
theorem errV_eq0 (n : Nat) : n = 0 ∧ errV n = .nilIface ∨ n ≠ 0 ∧ errV n = .iface 63 (.int .i64 n) := by
 by_cases h : n = 0
 ·exact .inl ⟨h, by subst h; rfl⟩
 ·exact .inr ⟨h, by unfold errV; rw [if_neg h]⟩
theorem rg_number (s : ByteArray) (w : World) (hs : s.size ≤ 70368744177664) :
  Calls Tryz.prog 177 #[.string s] w fun e w' => e = .returned (.tuple #[.int .i64 (nmbV s), .bool (nmbE s == 0)]) ∧ Ext w w' := by
 have HS := zi (syn_Number s w hs)
 generalize nmbV s = V at *
 rcases errV_eq0 (nmbE s) with ⟨h0, h1⟩ | ⟨h0, h1⟩
 ·rw [h1] at HS
  rw [h0]
  go_enter Tryz.func177, Tryz.ntmps177
  go_wp2_with fail
  refine HS.out.mono ?_; rintro e w1 ⟨rfl, hb1⟩
  go_wp2_with fail
  go_region
  go_wp2_with fail
  go_ret2
  exact ⟨rfl, hb1.drew⟩
 ·rw [h1] at HS
  rw [show (nmbE s == 0) = false from beq_eq_false_iff_ne.2 h0]
  generalize nmbE s = E at *
  go_enter Tryz.func177, Tryz.ntmps177
  go_wp2_with fail
  refine HS.out.mono ?_; rintro e w1 ⟨rfl, hb1⟩
  go_wp2_with fail
  go_region
  go_wp2_with fail
  go_ret2
  exact ⟨rfl, hb1.drew⟩

theorem elR_cut {s : ByteArray} {len : Int} (h : (cutL 45 s.data.toList).2.2 = false) : elR s len = none := by unfold elR; rw [h]; rfl
theorem elR_suf {s : ByteArray} {len : Int} (h : (cutL 45 s.data.toList).2.2 = true) (ha : (cutL 45 s.data.toList).1 = []) : elR s len = if nmbE ⟨(cutL 45 s.data.toList).2.1.toArray⟩ == 0 then some (max 0 (len - nmbV ⟨(cutL 45 s.data.toList).2.1.toArray⟩), len) else none := by
 unfold elR; simp only [h, ha]; rfl
theorem elR_two {s : ByteArray} {len : Int} (h : (cutL 45 s.data.toList).2.2 = true) (ha : (cutL 45 s.data.toList).1 ≠ []) :
  elR s len = if nmbE ⟨(cutL 45 s.data.toList).1.toArray⟩ != 0 || ((⟨(cutL 45 s.data.toList).2.1.toArray⟩ : ByteArray).size != 0 && nmbE ⟨(cutL 45 s.data.toList).2.1.toArray⟩ != 0) || (nmbE ⟨(cutL 45 s.data.toList).2.1.toArray⟩ == 0 && decide (nmbV ⟨(cutL 45 s.data.toList).2.1.toArray⟩ < nmbV ⟨(cutL 45 s.data.toList).1.toArray⟩)) then none
   else some (nmbV ⟨(cutL 45 s.data.toList).1.toArray⟩, if nmbE ⟨(cutL 45 s.data.toList).2.1.toArray⟩ == 0 then min len (nmbV ⟨(cutL 45 s.data.toList).2.1.toArray⟩ + 1) else len) := by
 unfold elR
 have h0 : ((⟨(cutL 45 s.data.toList).1.toArray⟩ : ByteArray).size == 0) = false := by
  rw [beq_eq_false_iff_ne]; intro e; apply ha
  have : (cutL 45 s.data.toList).1.length = 0 := by rw [← e]; show _ = (List.toArray _).size; simp
  exact List.eq_nil_of_length_eq_zero this
 simp only [h, h0]; rfl
theorem rg_element (s : ByteArray) (len : Int) (w : World) (hs : s.size ≤ 1048576) (hl0 : 0 ≤ len) (hl1 : len ≤ 1099511627776) (hg : Gl w) :
  Calls Tryz.prog 154 #[.string s, .int .i64 len] w fun e w' => ∃ lo hi, e = .returned (.tuple #[.agg #[.int .i64 lo, .int .i64 hi], .bool (elR s len).isSome]) ∧ (∀ r, elR s len = some r → r = (lo, hi)) ∧ Ext w w' := by
 have HC := zi (fun w' (h : Ext w w') => show Calls Tryz.prog 104 #[.string s, .string ⟨#[45]⟩] w' fun e w'' => e = .returned (.tuple #[.string ⟨(cutL 45 s.data.toList).1.toArray⟩, .string ⟨(cutL 45 s.data.toList).2.1.toArray⟩, .bool (cutL 45 s.data.toList).2.2]) ∧ Ext w' w'' from by
  obtain ⟨m, hm⟩ := hg.ext h
  refine (Tryz.strings_Cut s ⟨#[45]⟩ m w' (by omega) hm).mono fun e w'' hh2 => ?_
  obtain ⟨he, n, rfl⟩ := hh2
  refine ⟨?_, (Ext.refl w').drewN n⟩
  rw [he, show (⟨#[45]⟩ : ByteArray).data.toList = [45] from rfl, cut_one])
 have Hcl := cut_lens 45 s.data.toList
 have hsl : s.data.toList.length = s.size := by rw [Array.length_toList]; rfl
 have Hno := zi (@elR_cut s len); have Hsuf := zi (@elR_suf s len); have Htwo := zi (@elR_two s len)
 have ha1 : (⟨(cutL 45 s.data.toList).1.toArray⟩ : ByteArray).size ≤ 1048576 := by show (List.toArray _).size ≤ _; simp; omega
 have hb1 : (⟨(cutL 45 s.data.toList).2.1.toArray⟩ : ByteArray).size ≤ 1048576 := by show (List.toArray _).size ≤ _; simp; omega
 have HNa := zi (fun w' => rg_number ⟨(cutL 45 s.data.toList).1.toArray⟩ w' (by omega))
 have HNb := zi (fun w' => rg_number ⟨(cutL 45 s.data.toList).2.1.toArray⟩ w' (by omega))
 have HVa := zi (nmb_ge ⟨(cutL 45 s.data.toList).1.toArray⟩); have HVb := zi (nmb_ge ⟨(cutL 45 s.data.toList).2.1.toArray⟩)
 have hP : ∀ l : Bs, (l = [] ∧ (⟨l.toArray⟩ : ByteArray).toList.isEmpty = true ∧ ((⟨l.toArray⟩ : ByteArray).toList == []) = true ∧ (⟨l.toArray⟩ : ByteArray).size = 0) ∨ (l ≠ [] ∧ (⟨l.toArray⟩ : ByteArray).toList.isEmpty = false ∧ ((⟨l.toArray⟩ : ByteArray).toList == []) = false ∧ (⟨l.toArray⟩ : ByteArray).size ≠ 0) := fun l => by
  cases l with
  | nil => exact .inl ⟨rfl, by rw [ByteArray.toList_eq]; rfl, by rw [ByteArray.toList_eq]; rfl, rfl⟩
  | cons x l => exact .inr ⟨by simp, by rw [ByteArray.toList_eq]; rfl, by rw [ByteArray.toList_eq]; rfl, by show (List.toArray (x :: l)).size ≠ 0; simp⟩
 have HPa := zi (hP (cutL 45 s.data.toList).1); have HPb := zi (hP (cutL 45 s.data.toList).2.1)
 have HEb := zi (show (cutL 45 s.data.toList).2.1 = [] → nmbE ⟨(cutL 45 s.data.toList).2.1.toArray⟩ ≠ 0 from fun h => by rw [h]; decide)
 clear hP Hcl hsl ha1 hb1
 generalize elR s len = R at *
 generalize nmbV ⟨(cutL 45 s.data.toList).1.toArray⟩ = va at *
 generalize nmbV ⟨(cutL 45 s.data.toList).2.1.toArray⟩ = vb at *
 generalize nmbE ⟨(cutL 45 s.data.toList).1.toArray⟩ = ea at *
 generalize nmbE ⟨(cutL 45 s.data.toList).2.1.toArray⟩ = eb at *
 generalize (cutL 45 s.data.toList).2.2 = ok at *
 generalize (cutL 45 s.data.toList).2.1 = lb at *
 generalize (cutL 45 s.data.toList).1 = la at *
 have hB := Blk.new w 107 #[.int .i64 0, .int .i64 0]
 have HW := zi ((Ext.refl w).alloc (.cells #[.int .i64 0, .int .i64 0] 107))
 go_enter Tryz.func154, Tryz.ntmps154
 go_wp2_with fail
 refine (HC.out _ HW.out).mono ?_; rintro e w1 ⟨rfl, hb1⟩
 have HB := zi (fun w' (h : Ext (w.alloc (.cells #[.int .i64 0, .int .i64 0] 107)) w') => hB.ext h)
 clear hB
 generalize w.alloc (.cells #[.int .i64 0, .int .i64 0] 107) = W0 at *
 generalize hbb : w.heap.size = b0 at *
 have Hb0 := zi (Nat.le_of_eq hbb)
 clear hbb
 have hE := hb1
 cases ok with
 | false =>
  have HR := zi (Hno.out (by trivial))
  clear Hsuf Htwo
  go_wp2_with (first | (refine wpList_storeB rfl 107 (.tmp 4) (.tmp 21) rfl rfl b0 _ rfl rfl 107 _ (HB.out _ hE) infoRg rfl (by simp [Value.oneCell']) ?_; intro w9 hB9 hx9))
  have y0 : w9.cell? ⟨b0, 0, none⟩ = some (.int .i64 0) := hB9.cell 0
  have y1 : w9.cell? ⟨b0, 1, none⟩ = some (.int .i64 0) := hB9.cell 1
  exact bodyPost_ret (v := .tuple #[.agg #[.int .i64 0, .int .i64 0], .bool false]) (by simp [results, Tryz.results154, go_sem, y0, y1]) rfl ⟨0, 0, (by rw [HR.out]; rfl), (by rw [HR.out]; intro r h; cases h), (HW.out.trans hE).growB hx9 Hb0.out⟩
 | true =>
  go_wp2_with fail
  refine (HNb.out _).mono ?_; rintro e w2 ⟨rfl, hb2⟩
  replace hE := hE.trans hb2
  rcases HPa.out with ⟨e0, e1, e2, -⟩ | ⟨e0, e1, e2, -⟩
  ·have Hsuf := zi (Hsuf.out (by trivial) e0)
   clear Htwo Hno
   have hvb := HVb.out
   have hw8 : IntKind.i64.wrap (len - vb) = len - vb := IntWalk.i64_in _ (by omega)
   by_cases hz : eb = 0
   ·subst hz
    have HR := zi (Hsuf.out)
    go_wp2_with (first | (refine wpList_storeB rfl 107 (.tmp 4) (.tmp 34) rfl rfl b0 _ rfl rfl 107 _ (HB.out _ hE) infoRg rfl (by simp [Value.oneCell']) ?_; intro w9 hB9 hx9))
    have y0 : w9.cell? ⟨b0, 0, none⟩ = some (.int .i64 (max 0 (len - vb))) := hB9.cell 0
    have y1 : w9.cell? ⟨b0, 1, none⟩ = some (.int .i64 len) := hB9.cell 1
    exact bodyPost_ret (v := .tuple #[.agg #[.int .i64 (max 0 (len - vb)), .int .i64 len], .bool (0 == 0)]) (by simp [results, Tryz.results154, go_sem, y0, y1]) rfl ⟨(max 0 (len - vb)), len, (by rw [HR.out]; rfl), (by rw [HR.out]; intro r h; injection h with h; exact h.symm), (HW.out.trans hE).growB hx9 Hb0.out⟩
   ·rw [show (eb == 0) = false from beq_eq_false_iff_ne.2 hz] at Hsuf ⊢
    have HR := zi (Hsuf.out)
    go_wp2_with (first | (refine wpList_storeB rfl 107 (.tmp 4) (.tmp 34) rfl rfl b0 _ rfl rfl 107 _ (HB.out _ hE) infoRg rfl (by simp [Value.oneCell']) ?_; intro w9 hB9 hx9))
    have y0 : w9.cell? ⟨b0, 0, none⟩ = some (.int .i64 (max 0 (len - vb))) := hB9.cell 0
    have y1 : w9.cell? ⟨b0, 1, none⟩ = some (.int .i64 len) := hB9.cell 1
    exact bodyPost_ret (v := .tuple #[.agg #[.int .i64 (max 0 (len - vb)), .int .i64 len], .bool false]) (by simp [results, Tryz.results154, go_sem, y0, y1]) rfl ⟨(max 0 (len - vb)), len, (by rw [HR.out]; rfl), (by rw [HR.out]; intro r h; cases h), (HW.out.trans hE).growB hx9 Hb0.out⟩
  ·have Htwo := zi (Htwo.out (by trivial) e0)
   clear Hsuf Hno HPa
   generalize (⟨la.toArray⟩ : ByteArray) = SA at *
   go_wp2_with fail
   refine (HNa.out _).mono ?_; rintro e w3 ⟨rfl, hb3⟩
   replace hE := hE.trans hb3
   by_cases hza : ea = 0
   rotate_left
   ·have HR := zi (show R = none by rw [Htwo.out, if_pos (by simp [hza])])
    rw [show (ea == 0) = false from beq_eq_false_iff_ne.2 hza]
    go_wp2_with (first | (refine wpList_storeB rfl 107 (.tmp 4) (.tmp 59) rfl rfl b0 _ rfl rfl 107 _ (HB.out _ hE) infoRg rfl (by simp [Value.oneCell']) ?_; intro w9 hB9 hx9))
    have y0 : w9.cell? ⟨b0, 0, none⟩ = some (.int .i64 0) := hB9.cell 0
    have y1 : w9.cell? ⟨b0, 1, none⟩ = some (.int .i64 0) := hB9.cell 1
    exact bodyPost_ret (v := .tuple #[.agg #[.int .i64 0, .int .i64 0], .bool false]) (by simp [results, Tryz.results154, go_sem, y0, y1]) rfl ⟨0, 0, (by rw [HR.out]; rfl), (by rw [HR.out]; intro r h; cases h), (HW.out.trans hE).growB hx9 Hb0.out⟩
   ·subst hza
    rw [show ((0 : Nat) == 0) = true from rfl]
    have HPb := HPb.out
    have HEb2 := HEb.out
    clear HEb
    generalize (⟨lb.toArray⟩ : ByteArray) = SB at *
    rcases HPb with ⟨f0, f1, f3, f2⟩ | ⟨f0, f1, f3, f2⟩
    ·by_cases hzb : eb = 0
     ·exact absurd hzb (HEb2 f0)
     ·have HR := zi (show R = some (va, len) by rw [Htwo.out, if_neg (by simp [f2, hzb]), if_neg (by simpa using hzb)])
      rw [show (eb == 0) = false from beq_eq_false_iff_ne.2 hzb]
      go_wp2_with (first | (refine wpList_storeB rfl 107 (.tmp 4) (.tmp 67) rfl rfl b0 _ rfl rfl 107 _ (HB.out _ hE) infoRg rfl (by simp [Value.oneCell']) ?_; intro w9 hB9 hx9))
      have y0 : w9.cell? ⟨b0, 0, none⟩ = some (.int .i64 va) := hB9.cell 0
      have y1 : w9.cell? ⟨b0, 1, none⟩ = some (.int .i64 len) := hB9.cell 1
      exact bodyPost_ret (v := .tuple #[.agg #[.int .i64 va, .int .i64 len], .bool true]) (by simp [results, Tryz.results154, go_sem, y0, y1]) rfl ⟨va, len, (by rw [HR.out]; rfl), (by rw [HR.out]; intro r h; injection h with h; exact h.symm), (HW.out.trans hE).growB hx9 Hb0.out⟩
    ·by_cases hzb : eb = 0
     ·subst hzb
      rw [show ((0 : Nat) == 0) = true from rfl]
      have hvb := HVb.out
      have hw9 : IntKind.i64.wrap (vb + 1) = vb + 1 := IntWalk.i64_in _ (by omega)
      by_cases hlt : vb < va
      ·have HR := zi (show R = none by rw [Htwo.out, if_pos (by simp [hlt])])
       go_wp2_with (first | (refine wpList_storeB rfl 107 (.tmp 4) (.tmp 59) rfl rfl b0 _ rfl rfl 107 _ (HB.out _ hE) infoRg rfl (by simp [Value.oneCell']) ?_; intro w9 hB9 hx9))
       have y0 : w9.cell? ⟨b0, 0, none⟩ = some (.int .i64 0) := hB9.cell 0
       have y1 : w9.cell? ⟨b0, 1, none⟩ = some (.int .i64 0) := hB9.cell 1
       exact bodyPost_ret (v := .tuple #[.agg #[.int .i64 0, .int .i64 0], .bool false]) (by simp [results, Tryz.results154, go_sem, y0, y1]) rfl ⟨0, 0, (by rw [HR.out]; rfl), (by rw [HR.out]; intro r h; cases h), (HW.out.trans hE).growB hx9 Hb0.out⟩
      ·have HR := zi (show R = some (va, min len (vb + 1)) by rw [Htwo.out, if_neg (by simp; omega)]; rfl)
       go_wp2_with (first | (refine wpList_storeB rfl 107 (.tmp 4) (.tmp 67) rfl rfl b0 _ rfl rfl 107 _ (HB.out _ hE) infoRg rfl (by simp [Value.oneCell']) ?_; intro w9 hB9 hx9))
       have y0 : w9.cell? ⟨b0, 0, none⟩ = some (.int .i64 va) := hB9.cell 0
       have y1 : w9.cell? ⟨b0, 1, none⟩ = some (.int .i64 (min len (vb + 1))) := hB9.cell 1
       exact bodyPost_ret (v := .tuple #[.agg #[.int .i64 va, .int .i64 (min len (vb + 1))], .bool true]) (by simp [results, Tryz.results154, go_sem, y0, y1]) rfl ⟨va, (min len (vb + 1)), (by rw [HR.out]; rfl), (by rw [HR.out]; intro r h; injection h with h; exact h.symm), (HW.out.trans hE).growB hx9 Hb0.out⟩
     ·have HR := zi (show R = none by rw [Htwo.out, if_pos (by simp [f2, hzb])])
      rw [show (eb == 0) = false from beq_eq_false_iff_ne.2 hzb]
      go_wp2_with (first | (refine wpList_storeB rfl 107 (.tmp 4) (.tmp 59) rfl rfl b0 _ rfl rfl 107 _ (HB.out _ hE) infoRg rfl (by simp [Value.oneCell']) ?_; intro w9 hB9 hx9))
      have y0 : w9.cell? ⟨b0, 0, none⟩ = some (.int .i64 0) := hB9.cell 0
      have y1 : w9.cell? ⟨b0, 1, none⟩ = some (.int .i64 0) := hB9.cell 1
      exact bodyPost_ret (v := .tuple #[.agg #[.int .i64 0, .int .i64 0], .bool false]) (by simp [results, Tryz.results154, go_sem, y0, y1]) rfl ⟨0, 0, (by rw [HR.out]; rfl), (by rw [HR.out]; intro r h; cases h), (HW.out.trans hE).growB hx9 Hb0.out⟩
end Go.Proofs.YtmckbcbdnckngaaGreatDoor

namespace Go.Proofs.YtmckbcbdnckngaaGreatDoor
open Go.RowKit Go.ChangeShapes

theorem laid_in {P : Program} {W : World} : ∀ {laid : List (String × DataW Unit)} {ps : List MemPlace}, DataW.LaidVars P W laid ps → ∀ x ∈ laid,
  ∃ g t cs fuel p, P.globalNamed x.1 = some g ∧ (P.globals[g]?).map (·.type) = some t ∧ W.var? P x.1 = some cs ∧ DataW.trod (fun _ => ()) P W 0 (fun _ => true) false fuel t cs.toList = some (x.2, p)
 | [], _, _, x, hx => by cases hx
 | (n, d) :: r, ps, h, x, hx => by
  obtain ⟨g, t, cs, fuel, p, q, h1, h2, h3, h4, h5, _⟩ := h
  rcases List.mem_cons.1 hx with rfl | hx
  ·exact ⟨g, t, cs, fuel, p, h1, h2, h3, h4⟩
  ·exact laid_in h5 x hx
theorem cells_arr {α : Type} {P : Program} {w : World} {base : Nat} {sp : Nat → Bool} {held : Bool} {fuel : Nat} {t e : TypeId} {n : Nat} {cs : List Value} {l : List α} {p : List MemPlace} (lit : α → DataW Unit) (cell : α → Value)
  (ht : P.underlying t = some (.array n e)) (hce : P.cellsOf e = 1) (hct : P.cellsOf t = n)
  (hone : ∀ m c a q, DataW.trod (fun _ => ()) P w base sp held m e [c] = some (lit a, q) → c = cell a)
  (h : DataW.trod (fun _ => ()) P w base sp held fuel t cs = some (.agg (l.map lit), p)) : cs = l.map cell := by
 obtain ⟨xs, m, rfl, hx, hlen, hxl, hg⟩ := DataW.trod_array ht h
 have hm : l.map lit = xs.map (·.1) := by
  have := congrArg Prod.fst hx
  simpa using this
 have hll : l.length = n := by
  have := congrArg List.length hm
  simp at this
  omega
 apply List.ext_getElem (by simp; omega)
 intro i h1 h2
 have hi : i < n := by omega
 have h3 := hg i hi
 rw [hce, Nat.mul_one] at h3
 have h4 : (cs.drop i).take 1 = [cs[i]] := by
  rw [List.drop_eq_getElem_cons h1]; rfl
 have hix : i < xs.length := by omega
 rw [h4, List.getElem?_eq_getElem hix] at h3
 have h5 : lit (l[i]'(by omega)) = (xs[i]).1 := by
  have := congrArg (·[i]?) hm
  simpa [hix, show i < l.length by omega] using this
 rw [List.getElem_map]
 refine hone m _ _ (xs[i]).2 ?_
 rw [h3, h5]
theorem tab_rd {α : Type} {P : Program} {W : World} {laid : List (String × DataW Unit)} {name : String} {g : Nat} {t e : TypeId} {n : Nat} {l : List α} (lit : α → DataW Unit) (cell : α → Value)
  (hp : (laid.all fun x => x.2.handleName?.isNone) = true) (h : laidMetH P laid W) (hin : (name, .agg (l.map lit)) ∈ laid) (hg : P.globalNamed name = some g) (hty : (P.globals[g]?).map (·.type) = some t)
  (ht : P.underlying t = some (.array n e)) (hce : P.cellsOf e = 1) (hct : P.cellsOf t = n)
  (hone : ∀ m c a q, DataW.trod (fun _ => ()) P W 0 (fun _ => true) false m e [c] = some (lit a, q) → c = cell a) (hl : l.length = n) : Rd W 1 (some ⟨g, 0, none⟩) n (l.map cell) := by
 rw [MakeChecks.laidMetH_plain _ _ _ hp] at h
 obtain ⟨ps, hv, _⟩ := h
 obtain ⟨g', t', cs, fuel, p, h1, h2, h3, h4⟩ := laid_in hv _ hin
 obtain rfl := Option.some.inj (hg.symm.trans h1)
 obtain rfl := Option.some.inj (hty.symm.trans h2)
 have hc := cells_arr lit cell ht hce hct hone h4
 refine ⟨by simp [hl], fun _ => ⟨g, 0, rfl, fun j u hu => ?_⟩⟩
 rw [Nat.zero_add, World.var?_cell hg h3 j, ← Array.getElem?_toList, hc]
 exact hu
theorem one_str {P : Program} {w : World} {base : Nat} {sp : Nat → Bool} {held : Bool} {e : TypeId} (he : P.underlying e = some .string) (m : Nat) (c : Value) (a : ByteArray) (q : List MemPlace)
  (h : DataW.trod (fun _ => ()) P w base sp held m e [c] = some (.lit (.string a.data.toList), q)) : c = .string a := by
 obtain ⟨s, h1, h2, _⟩ := DataW.trod_string he h
 simp only [List.cons.injEq, and_true] at h1
 simp only [Prod.mk.injEq, DataW.lit.injEq, Lit.string.injEq] at h2
 rw [h1, bytes_ext h2.1]
theorem one_int {P : Program} {w : World} {base : Nat} {sp : Nat → Bool} {held : Bool} {e : TypeId} {k : IntKind} (he : P.underlying e = some (.int k)) (m : Nat) (c : Value) (a : Int) (q : List MemPlace)
  (h : DataW.trod (fun _ => ()) P w base sp held m e [c] = some (.lit (.int k a), q)) : c = .int k a := by
 obtain ⟨s, h1, h2, _⟩ := DataW.trod_int he h
 simp only [List.cons.injEq, and_true] at h1
 simp only [Prod.mk.injEq, DataW.lit.injEq, Lit.int.injEq, true_and] at h2
 rw [h1, h2.1]
end Go.Proofs.YtmckbcbdnckngaaGreatDoor

namespace Go.Proofs.YtmckbcbdnckngaaGreatDoor
open Go.RowKit Go.ChangeShapes

open Go.RowKit Go.ChangeShapes

abbrev GlP (w : World) : Prop := Lib.TabIs Tryz.prog w "internal/strconv.uint64pow10" .u64 Lib.pow10Tab
theorem glP_of {W : World} {laid : List (String × DataW Unit)} (hp : (laid.all fun x => x.2.handleName?.isNone) = true) (h : laidMetH Tryz.prog laid W)
  (h1 : ("internal/strconv.uint64pow10", Rows.laid_internal_strconv_uint64pow10) ∈ laid) : GlP W := by
 rw [MakeChecks.laidMetH_plain _ _ _ hp] at h
 obtain ⟨ps, hv, _⟩ := h
 obtain ⟨g, t, cs, fuel, p, e1, e2, e3, e4⟩ := laid_in hv _ h1
 have g0 : Tryz.prog.globalNamed "internal/strconv.uint64pow10" = some 3 := by kernel_rfl
 obtain rfl := Option.some.inj (g0.symm.trans e1)
 have t0 : (Tryz.prog.globals[3]?).map (·.type) = some 242 := by kernel_rfl
 obtain rfl := Option.some.inj (t0.symm.trans e2)
 have hc := Lib.cells_of_tab (k := .u64) (zs := Lib.pow10Tab) Tryz.underlying242 Tryz.underlying216 (by kernel_rfl) (by kernel_rfl) e4
 unfold GlP Lib.TabIs
 rw [e3]
 congr 1
 rw [← hc]
theorem GlP.ext {w w' : World} (h : GlP w) (hb : Ext w w') : GlP w' := by
 unfold GlP Lib.TabIs World.var? at *
 rw [show Tryz.prog.globalNamed "internal/strconv.uint64pow10" = some 3 by kernel_rfl] at *
 simp only [Option.bind_some] at *
 rcases Nat.lt_or_ge 3 w.heap.size with h' | h'
 ·rw [hb.below.block _ h']; exact h
 ·rw [Array.getElem?_eq_none h'] at h; cases h
theorem std_Itoa (n : Int) (h0 : 0 ≤ n) (h1 : n ≤ 9223372036854775807) (w : World) (hp : GlP w) :
  Calls Tryz.prog 48 #[.int .i64 n] w fun e w' => e = .returned (.string ⟨(Lib.decDigits n.toNat).toArray⟩) ∧ Ext w w' := by
 refine (Tryz.strconv_Itoa n (by omega) h1 w hp).mono ?_
 rintro e w' ⟨rfl, k, os, rfl⟩
 refine ⟨by rw [show Lib.itoa n = Lib.decDigits n.toNat from if_neg (by omega)], ?_⟩
 refine ⟨rfl, rfl, rfl, by show w.heap.size ≤ (w.heap ++ os).size; rw [Array.size_append]; omega, fun j hj => ?_⟩
 show (w.heap ++ os)[j]? = w.heap[j]?
 rw [Array.getElem?_append_left hj]

theorem sum_w {P : Program} (a b : ByteArray) (h : a.size + b.size ≤ 10000) : ∀ w, (Op.stringOp .add a b).run P w = .ok (.string (a ++ b)) w :=
 fun w => run_string_add_sum w a b (by omega)
theorem decV_size {n : Int} (h1 : n ≤ 9223372036854775807) : (decV n).size ≤ 20 := by
 have h : (decV n).size = (Lib.decDigits n.toNat).length := by show (List.toArray _).size = _; simp
 rw [h, Lib.decDigits_length]; exact Lib.nDigits_le20 _ (by omega)
theorem rg_proper (lo hi : Int) (w : World) :
  Calls Tryz.prog 155 #[.agg #[.int .i64 lo, .int .i64 hi]] w fun e w' => e = .returned (.bool (rgProper (lo, hi))) ∧ Ext w w' := by
 have hX := Blk.new w 107 #[.int .i64 lo, .int .i64 hi]
 have x0 : (w.alloc (.cells #[.int .i64 lo, .int .i64 hi] 107)).cell? ⟨w.heap.size, 0, none⟩ = some (.int .i64 lo) := hX.cell 0
 have x1 : (w.alloc (.cells #[.int .i64 lo, .int .i64 hi] 107)).cell? ⟨w.heap.size, 1, none⟩ = some (.int .i64 hi) := hX.cell 1
 have HR := zi (show rgProper (lo, hi) = (decide (0 ≤ lo) && decide (lo < hi) && decide (hi ≤ 999999999999999)) from rfl)
 generalize rgProper (lo, hi) = R at *
 clear hX
 by_cases h1 : 0 ≤ lo
 ·by_cases h2 : lo < hi
  ·by_cases h3 : hi ≤ 999999999999999
   ·have HR := zi (show R = true by rw [HR.out]; simp [h1, h2, h3])
    go_enter Tryz.func155, Tryz.ntmps155
    go_wp2_with fail
    go_ret
    exact ⟨by rw [HR.out]; rfl, (Ext.refl w).alloc _⟩
   ·have HR := zi (show R = false by rw [HR.out]; simp [h3])
    go_enter Tryz.func155, Tryz.ntmps155
    go_wp2_with fail
    go_ret
    exact ⟨by rw [HR.out]; rfl, (Ext.refl w).alloc _⟩
  ·have HR := zi (show R = false by rw [HR.out]; simp [h2])
   go_enter Tryz.func155, Tryz.ntmps155
   go_wp2_with fail
   go_ret
   exact ⟨by rw [HR.out]; rfl, (Ext.refl w).alloc _⟩
 ·have HR := zi (show R = false by rw [HR.out]; simp [h1])
  go_enter Tryz.func155, Tryz.ntmps155
  go_wp2_with fail
  go_ret
  exact ⟨by rw [HR.out]; rfl, (Ext.refl w).alloc _⟩
theorem rg_text (lo hi : Int) (w : World) (h0 : 0 ≤ lo) (h1 : lo < hi) (h2 : hi ≤ 1000000000000000) (hp : GlP w) :
  Calls Tryz.prog 156 #[.agg #[.int .i64 lo, .int .i64 hi]] w fun e w' => e = .returned (.string (rgText (lo, hi))) ∧ Ext w w' := by
 have HI1 := zi (fun w' (h : Ext w w') => show Calls Tryz.prog 48 #[.int .i64 lo] w' fun e w'' => e = .returned (.string (decV lo)) ∧ Ext w' w'' from std_Itoa lo (by omega) (by omega) w' (hp.ext h))
 have HI2 := zi (fun w' (h : Ext w w') => show Calls Tryz.prog 48 #[.int .i64 (hi - 1)] w' fun e w'' => e = .returned (.string (decV (hi - 1))) ∧ Ext w' w'' from std_Itoa (hi - 1) (by omega) (by omega) w' (hp.ext h))
 have z1 := decV_size (n := lo) (by omega); have z2 := decV_size (n := hi - 1) (by omega)
 have s1 := sum_w (P := Tryz.prog) (decV lo) ⟨#[45]⟩ (by rw [show (⟨#[45]⟩ : ByteArray).size = 1 from rfl]; omega)
 have s2 := sum_w (P := Tryz.prog) (decV lo ++ ⟨#[45]⟩) (decV (hi - 1)) (by rw [ByteArray.size_append, show (⟨#[45]⟩ : ByteArray).size = 1 from rfl]; omega)
 have HR := zi (show rgText (lo, hi) = decV lo ++ ⟨#[45]⟩ ++ decV (hi - 1) from rfl)
 have hw1 : IntKind.i64.wrap (hi - 1) = hi - 1 := IntWalk.i64_in _ (by omega)
 clear z1 z2
 generalize rgText (lo, hi) = T at *
 generalize decV lo = D1 at *
 generalize decV (hi - 1) = D2 at *
 have hX := Blk.new w 107 #[.int .i64 lo, .int .i64 hi]
 have HW := zi ((Ext.refl w).alloc (.cells #[.int .i64 lo, .int .i64 hi] 107))
 go_enter Tryz.func156, Tryz.ntmps156
 go_wp2_with fail
 have HS := zi (fun w' (h : Ext (w.alloc (.cells #[.int .i64 lo, .int .i64 hi] 107)) w') => (⟨(hX.ext h).cell 0, (hX.ext h).cell 1⟩ : w'.cell? ⟨w.heap.size, 0, none⟩ = some (.int .i64 lo) ∧ w'.cell? ⟨w.heap.size, 1, none⟩ = some (.int .i64 hi)))
 have hE := (Ext.refl (w.alloc (.cells #[.int .i64 lo, .int .i64 hi] 107))).drew
 clear hX
 generalize w.alloc (.cells #[.int .i64 lo, .int .i64 hi] 107) = W0 at *
 generalize w.heap.size = bX at *
 refine wp_region_held_drew (S := (fun w' => w'.cell? ⟨bX, 0, none⟩ = some (.int .i64 lo) ∧ w'.cell? ⟨bX, 1, none⟩ = some (.int .i64 hi))) (by kernel_rfl) ?_ (fun hHeld => ?_)
 ·(try dsimp only); exact HS.out _ hE
 refine zH (v := ?_) 0 (some 3) rfl ?_ ?_; rotate_left
 ·(intro w hSw; (try dsimp only at hSw); go_simp; (try with_reducible rfl))
 try simp only [zP]
 refine zH (v := ?_) 1 (some 4) rfl ?_ ?_; rotate_left
 ·(intro w hSw; (try dsimp only at hSw); go_simp; (try with_reducible rfl))
 try simp only [zP]
 refine zH (v := ?_) 4 (some 7) rfl ?_ ?_; rotate_left
 ·(intro w hSw; (try dsimp only at hSw); go_simp; (try with_reducible rfl))
 try simp only [zP]
 refine zH (v := ?_) 5 (some 8) rfl ?_ ?_; rotate_left
 ·(intro w hSw; (try dsimp only at hSw); go_simp; (try with_reducible rfl))
 try simp only [zP]
 refine zH (v := ?_) 6 (some 9) rfl ?_ ?_; rotate_left
 ·(intro w hSw; (try dsimp only at hSw); go_simp; (try with_reducible rfl))
 try simp only [zP]
 refine wpAnyH_ready (rs := [2]) (by kernel_rfl) (by simp) ?_
 refine AllReadyH.cons (o := ⟨some 5, _, _, _, _, _⟩) rfl (fun K hK => ?_) AllReadyH.nil
 go_simp
 refine (HI1.out _ (HW.out.trans hE)).mono ?_; rintro e w3 ⟨rfl, hb3⟩; replace hE := hE.trans hb3; clear hb3
 try go_wp2_with fail
 refine hK.out _ _ ?_ (fun hHeld => ?_)
 ·(try dsimp only); exact HS.out _ hE
 clear hK K
 try simp only [zP]
 refine zH (v := ?_) 3 (some 6) rfl ?_ ?_; rotate_left
 ·(intro w hSw; (try dsimp only at hSw); go_simp; (try with_reducible rfl))
 try simp only [zP]
 refine wpAnyH_ready (rs := [7]) (by kernel_rfl) (by simp) ?_
 refine AllReadyH.cons (o := ⟨some 10, _, _, _, _, _⟩) rfl (fun K hK => ?_) AllReadyH.nil
 go_simp
 refine (HI2.out _ (HW.out.trans hE)).mono ?_; rintro e w3 ⟨rfl, hb3⟩; replace hE := hE.trans hb3; clear hb3
 try go_wp2_with fail
 refine hK.out _ _ ?_ (fun hHeld => ?_)
 ·(try dsimp only); exact HS.out _ hE
 clear hK K
 try simp only [zP]
 refine zH (v := ?_) 8 (some 11) rfl ?_ ?_; rotate_left
 ·(intro w hSw; (try dsimp only at hSw); go_simp; (try with_reducible rfl))
 try simp only [zP]
 refine zH (v := ?_) 9 (some 2) rfl ?_ ?_; rotate_left
 ·(intro w hSw; (try dsimp only at hSw); go_simp; (try with_reducible rfl))
 try simp only [zP]
 refine wpAnyH_done (by kernel_rfl) ?_ _
 go_wp2_with fail
 go_ret
 exact ⟨by rw [HR.out]; rfl, HW.out.trans hE⟩

theorem crP_no {lo hi len : Int} (h : (!rgProper (lo, hi) || decide (len < hi) || decide (999999999999999 < len)) = true) : crP (lo, hi) len = none := by
 unfold crP; rw [if_pos h]
theorem crP_yes {lo hi len : Int} (h1 : rgProper (lo, hi) = true) (h2 : ¬ len < hi) (h3 : ¬ 999999999999999 < len) : crP (lo, hi) len = some (byS ++ rgText (lo, hi) ++ ⟨#[47]⟩ ++ decV len) := by
 unfold crP; rw [if_neg (by simp [h1]; omega)]
def crV (o : Option ByteArray) : Value := .tuple #[.string (o.getD ⟨#[]⟩), errV (if o.isSome then 0 else 2)]
theorem rg_ContentRange (lo hi len : Int) (w : World) (hl : 0 ≤ len) (hp : GlP w) :
  Calls Tryz.prog 128 #[.agg #[.int .i64 lo, .int .i64 hi], .int .i64 len] w fun e w' => e = .returned (crV (crP (lo, hi) len)) ∧ Ext w w' := by
 have HP := zi (fun w' => rg_proper lo hi w')
 have HT := zi (fun w' (h : Ext w w') (hr : rgProper (lo, hi) = true) => rg_text lo hi w' (by unfold rgProper at hr; simp at hr; omega) (by unfold rgProper at hr; simp at hr; omega) (by unfold rgProper at hr; simp at hr; omega) (hp.ext h))
 have Hno := zi (@crP_no lo hi len); have Hyes := zi (@crP_yes lo hi len)
 have Hsz := zi (fun (hr : rgProper (lo, hi) = true) => show (rgText (lo, hi)).size ≤ 60 by
  unfold rgProper at hr; simp at hr
  unfold rgText
  rw [ByteArray.size_append, ByteArray.size_append, show (⟨#[45]⟩ : ByteArray).size = 1 from rfl]
  have z1 := decV_size (n := lo) (by omega); have z2 := decV_size (n := hi - 1) (by omega)
  simp only at *; omega)
 have HR := zi (show crP (lo, hi) len = crP (lo, hi) len from rfl)
 have HI := zi (fun w' (h : Ext w w') (h3 : ¬ 999999999999999 < len) => show Calls Tryz.prog 48 #[.int .i64 len] w' fun e w'' => e = .returned (.string (decV len)) ∧ Ext w' w'' from std_Itoa len (by omega) (by omega) w' (hp.ext h))
 have Z1 := zi (fun (h3 : ¬ 999999999999999 < len) => decV_size (n := len) (by omega))
 generalize crP (lo, hi) len = R at *
 generalize decV len = D at *
 generalize rgProper (lo, hi) = pr at *
 generalize rgText (lo, hi) = T at *
 have hX := Blk.new w 107 #[.int .i64 lo, .int .i64 hi]
 have HW := zi ((Ext.refl w).alloc (.cells #[.int .i64 lo, .int .i64 hi] 107))
 have HS := zi (fun w' (h : Ext (w.alloc (.cells #[.int .i64 lo, .int .i64 hi] 107)) w') => (⟨(hX.ext h).cell 0, (hX.ext h).cell 1⟩ : w'.cell? ⟨w.heap.size, 0, none⟩ = some (.int .i64 lo) ∧ w'.cell? ⟨w.heap.size, 1, none⟩ = some (.int .i64 hi)))
 clear hX
 obtain ⟨x0, x1⟩ := HS.out _ (Ext.refl _)
 go_enter Tryz.func128, Tryz.ntmps128
 go_wp2_with fail
 refine (HP.out _).mono ?_; rintro e w1 ⟨rfl, hb1⟩
 clear x0 x1
 obtain ⟨x0, x1⟩ := HS.out _ hb1
 have HE1 := zi (HW.out.trans hb1)
 cases pr with
 | false =>
  obtain rfl : R = none := Hno.out (by trivial)
  go_wp2_with fail
  go_ret2
  exact ⟨rfl, HE1.out⟩
 | true =>
  by_cases h2 : len < hi
  ·obtain rfl : R = none := Hno.out (by simp [h2])
   go_wp2_with fail
   go_ret2
   exact ⟨rfl, HE1.out⟩
  ·by_cases h3 : 999999999999999 < len
   ·obtain rfl : R = none := Hno.out (by simp [h3])
    go_wp2_with fail
    go_ret2
    exact ⟨rfl, HE1.out⟩
   ·obtain rfl : R = some (byS ++ T ++ ⟨#[47]⟩ ++ D) := Hyes.out (by trivial) (by omega) (by omega)
    have hz := Hsz.out (by trivial)
    have z1 := Z1.out (by omega)
    have s1 := sum_w (P := Tryz.prog) byS T (by rw [show byS.size = 6 from rfl]; omega)
    have s2 := sum_w (P := Tryz.prog) (byS ++ T) ⟨#[47]⟩ (by rw [ByteArray.size_append, show byS.size = 6 from rfl, show (⟨#[47]⟩ : ByteArray).size = 1 from rfl]; omega)
    have s3 := sum_w (P := Tryz.prog) (byS ++ T ++ ⟨#[47]⟩) D (by rw [ByteArray.size_append, ByteArray.size_append, show byS.size = 6 from rfl, show (⟨#[47]⟩ : ByteArray).size = 1 from rfl]; omega)
    unfold byS at s1 s2 s3
    clear hz z1
    go_wp2_with fail
    refine (HT.out _ HE1.out (by trivial)).mono ?_; rintro e w2 ⟨rfl, hb2⟩
    go_wp2_with fail
    refine (HI.out _ (HE1.out.trans hb2) (by omega)).mono ?_; rintro e w3 ⟨rfl, hb3⟩
    go_wp2_with fail
    go_ret2
    exact ⟨rfl, HE1.out.trans (hb2.trans hb3)⟩

theorem conv_1t (a : Int) (w : World) : (convert 23 9 (.slice (some ⟨w.heap.size, 0, none⟩) 1 1)).run Tryz.prog (w.alloc (.cells #[.int .u8 a] 5)) =
  .ok (.string ⟨#[UInt8.ofNat a.toNat]⟩) (w.alloc (.cells #[.int .u8 a] 5)) :=
 run_convert_bytes_arg (P := Tryz.prog) _ 23 5 Tryz.underlying23 Tryz.underlying5 w.heap.size 0 1 1 [a] rfl
  (fun i hi => by
   obtain rfl : i = 0 := by omega
   rw [World.cell?_alloc_mark]; rfl) 9 Tryz.underlying9
theorem decV_1 {n : Int} (h0 : 0 ≤ n) (h1 : n < 10) : decV n = ⟨#[UInt8.ofNat (48 + n).toNat]⟩ := by
 unfold decV
 rw [Lib.decDigits_one (by omega), show (48 + n).toNat = 48 + n.toNat by omega]
theorem decV_2 {n : Int} (h0 : 10 ≤ n) : decV n = decV (n / 10) ++ decV (n % 10) := by
 apply bytes_ext
 rw [data_append, decV_1 (n := n % 10) (by omega) (by omega)]
 show Lib.decDigits n.toNat = Lib.decDigits (n / 10).toNat ++ [UInt8.ofNat (48 + n % 10).toNat]
 rw [Lib.decDigits, dif_neg (by omega), show (48 + n % 10).toNat = 48 + n.toNat % 10 by omega, show (n / 10).toNat = n.toNat / 10 by omega]
theorem base_Digit (n : Int) (w : World) (h0 : 0 ≤ n) (h1 : n < 10) :
  Calls Tryz.prog 19 #[.int .i64 n] w fun e w' => e = .returned (.string (decV n)) ∧ Ext w w' := by
 have hc := conv_1t (48 + n)
 have HV := zi (decV_1 h0 h1)
 generalize decV n = D at *
 have hw2 : IntKind.i64.wrap (48 + n) = 48 + n := IntWalk.i64_in _ (by omega)
 have hw3 : IntKind.u8.wrap (48 + n) = 48 + n := IntWalk.u8_in _ (by omega)
 go_enter Tryz.func19, Tryz.ntmps19
 go_wp2_with fail
 go_ret
 exact ⟨by rw [HV.out]; rfl, (Ext.refl w).alloc _⟩
theorem base_Digits : ∀ (k : Nat) (n : Int) (w : World), 0 ≤ n → n < 10 ^ (k + 1) → n ≤ 9223372036854775807 →
  Calls Tryz.prog 19 #[.int .i64 n] w fun e w' => e = .returned (.string (decV n)) ∧ Ext w w'
 | 0, n, w, h0, h1, _ => base_Digit n w h0 (by simpa using h1)
 | k + 1, n, w, h0, h1, hb => by
  by_cases hn : n < 10
  ·exact base_Digit n w h0 hn
  ·have hq : n / 10 < 10 ^ (k + 1) := by
    have : (10 : Int) ^ (k + 1 + 1) = 10 ^ (k + 1) * 10 := Int.pow_succ ..
    omega
   have q1 : n.tdiv 10 = n / 10 := Int.tdiv_eq_ediv_of_nonneg h0
   have q2 : n.tmod 10 = n % 10 := Int.tmod_eq_emod_of_nonneg h0
   have hw1 : IntKind.i64.wrap (n / 10) = n / 10 := IntWalk.i64_in _ (by omega)
   have HA := zi (fun w' => base_Digits k (n / 10) w' (by omega) hq (by omega))
   have HB := zi (fun w' => base_Digit (n % 10) w' (by omega) (by omega))
   have HV := zi (decV_2 (n := n) (by omega))
   have s1 := sum_w (P := Tryz.prog) (decV (n / 10)) (decV (n % 10)) (by have := decV_size (n := n / 10) (by omega); have := decV_size (n := n % 10) (by omega); omega)
   generalize decV n = D at *
   generalize decV (n / 10) = D1 at *
   generalize decV (n % 10) = D2 at *
   clear hq h1
   go_enter Tryz.func19, Tryz.ntmps19
   go_wp2_with fail
   refine (HA.out _).mono ?_; rintro e w1 ⟨rfl, hb1⟩
   go_wp2_with fail
   refine (HB.out _).mono ?_; rintro e w2 ⟨rfl, hb2⟩
   go_wp2_with fail
   go_ret
   exact ⟨by rw [HV.out]; rfl, hb1.trans hb2⟩
theorem base_DigitsN (n : Int) (w : World) (h0 : 0 ≤ n) (h1 : n ≤ 1000000000000000000) : Calls Tryz.prog 19 #[.int .i64 n] w fun e w' => e = .returned (.string (decV n)) ∧ Ext w w' :=
 base_Digits 18 n w h0 (by omega) (by omega)
end Go.Proofs.YtmckbcbdnckngaaGreatDoor

namespace Go.Proofs.YtmckbcbdnckngaaGreatDoor
open Go.RowKit

structure Keeps (S : Nat → Prop) (w w' : World) : Prop where
 os : w'.os = w.os
 tape : w'.tape = w.tape
 output : w'.output = w.output
 size : w.heap.size ≤ w'.heap.size
 block : ∀ i, i < w.heap.size → ¬ S i → w'.heap[i]? = w.heap[i]?
section
variable {S : Nat → Prop} {w w' w'' : World}
theorem Keeps.of (h : Ext w w') : Keeps S w w' := ⟨h.below.os, h.below.tape, h.below.output, h.below.size, fun i hi _ => h.below.block i hi⟩
theorem Keeps.refl (S : Nat → Prop) (w : World) : Keeps S w w := Keeps.of (Ext.refl w)
theorem Keeps.trans (h : Keeps S w w') (k : Keeps S w' w'') : Keeps S w w'' :=
 ⟨k.os.trans h.os, k.tape.trans h.tape, k.output.trans h.output, Nat.le_trans h.size k.size, fun i hi hs => (k.block i (Nat.lt_of_lt_of_le hi h.size) hs).trans (h.block i hi hs)⟩
theorem Keeps.then {T : Nat → Prop} (h : Keeps S w w') (k : Keeps T w' w'') (hT : ∀ i, T i → S i ∨ w.heap.size ≤ i) : Keeps S w w'' :=
 ⟨k.os.trans h.os, k.tape.trans h.tape, k.output.trans h.output, Nat.le_trans h.size k.size, fun i hi hs =>
  (k.block i (Nat.lt_of_lt_of_le hi h.size) (fun ht => (hT i ht).elim hs (fun h2 => by omega))).trans (h.block i hi hs)⟩
theorem Keeps.set_ (h : Keeps S w w') {b : Nat} (hb : S b) (i : Nat) (u : Value) : Keeps S w (w'.setCell ⟨b, i, none⟩ u) :=
 h.trans ⟨rfl, rfl, rfl, by simp [World.setCell], fun k hk hne => heap_setCell_other _ _ _ _ (fun e => hne (by rw [e]; exact hb))⟩
theorem Keeps.grown (h : Keeps S w w') {row : Option Nat} (g : w'.grownBy w'' row) (hr : ∀ b, row = some b → S b ∨ w.heap.size ≤ b) : Keeps S w w'' :=
 ⟨g.os.trans h.os, g.tape.trans h.tape, g.output.trans h.output, Nat.le_trans h.size g.size, fun i hi hs =>
  (g.block i (Nat.lt_of_lt_of_le hi h.size) (fun e => (hr i e.symm).elim hs (fun h2 => by omega))).trans (h.block i hi hs)⟩
theorem Keeps.alloc (h : Keeps S w w') (o : Obj) : Keeps S w (w'.alloc o) := h.trans (Keeps.of ((Ext.refl w').alloc o))
theorem Keeps.cell (h : Keeps S w w') {p : Addr} {v : Value} (hc : w.cell? p = some v) (hs : ¬ S p.block) : w'.cell? p = some v :=
 (World.cell?_of_block (h.block _ (World.block_lt_of_cell? w _ hc) hs)).trans hc
theorem Rd.keepS {k n : Nat} {A : Option Addr} {xs : List Value} (h : Rd w k A n xs) (g : Keeps S w w') (hs : ∀ a, A = some a → ¬ S a.block) : Rd w' k A n xs := by
 refine ⟨h.1, fun hp => ?_⟩
 obtain ⟨b, o, e, hc⟩ := h.2 hp
 exact ⟨b, o, e, fun j u hu => g.cell (hc j u hu) (show ¬ S b from hs ⟨b, o, none⟩ e)⟩
theorem Blk.keep {g : Nat} {t : TypeId} {cs : Array Value} (h : Blk w g t cs) (k : Keeps S w w') (hs : ¬ S g) : Blk w' g t cs := (k.block g h.lt hs).trans h
theorem Ext.keeps {w0 : World} (h : Ext w0 w) (k : Keeps S w w') (hS : ∀ i, S i → w0.heap.size ≤ i) : Ext w0 w' :=
 ⟨k.os.trans h.below.os, k.tape.trans h.below.tape, k.output.trans h.below.output, Nat.le_trans h.below.size k.size, fun i hi =>
  (k.block i (Nat.lt_of_lt_of_le hi h.below.size) (fun hs => by have := hS i hs; omega)).trans (h.below.block i hi)⟩
end
end Go.Proofs.YtmckbcbdnckngaaGreatDoor

namespace Go.Proofs.YtmckbcbdnckngaaGreatDoor
open Go.RowKit

theorem any_step (p : UInt8 → Bool) {s : ByteArray} {k : Nat} (h : k < s.size) (h1 : (s.data.toList.take k).any p = false) (h2 : p s[k] = false) : (s.data.toList.take (k + 1)).any p = false := by
 rw [take_step _ k (by simpa using h), List.any_append, h1]
 have h2 : p s.data[k] = false := h2
 simpa using h2
theorem any_yes (p : UInt8 → Bool) {s : ByteArray} {k : Nat} (h : k < s.size) (h2 : p s[k] = true) : true = s.data.toList.any p := by
 have h2 : p s.data[k] = true := h2
 symm
 rw [List.any_eq_true]
 exact ⟨s.data[k], by simp, h2⟩
theorem any_end (p : UInt8 → Bool) {s : ByteArray} (h1 : (s.data.toList.take s.size).any p = false) : false = s.data.toList.any p := by
 rw [List.take_of_length_le (by simp)] at h1
 exact h1.symm
def badT (c : UInt8) : Bool := decide ((c.toNat : Int) < 33) || ((c.toNat : Int) == 34) || ((c.toNat : Int) == 127)
theorem badT_yes {c : UInt8} (h : (c.toNat : Int) < 33 ∨ (c.toNat : Int) = 34 ∨ (c.toNat : Int) = 127) : badT c = true := by
 unfold badT; simp only [Bool.or_eq_true, decide_eq_true_eq, beq_iff_eq]; omega
theorem badT_no {c : UInt8} (h : ¬ ((c.toNat : Int) < 33 ∨ (c.toNat : Int) = 34 ∨ (c.toNat : Int) = 127)) : badT c = false := by
 rw [Bool.eq_false_iff]; unfold badT; simp only [ne_eq, Bool.or_eq_true, decide_eq_true_eq, beq_iff_eq]; omega
def rightS (s : ByteArray) : Bool := !s.data.toList.any badT
def wkP (s : ByteArray) : Bool := Lib.hasPrefix s.data.toList [87, 47]
def wkR (s : ByteArray) : ByteArray := ⟨(Lib.trimPrefix s.data.toList [87, 47]).toArray⟩
def txtS (r : ByteArray) : Option ByteArray :=
 if h : r.size < 2 then none else if (r[0]'(by omega)) = 34 ∧ (r[r.size - 1]'(by omega)) = 34 ∧ rightS (r.extract 1 (r.size - 1)) = true then some (r.extract 1 (r.size - 1)) else none
theorem txt_short {r : ByteArray} (h : r.size < 2) : txtS r = none := by unfold txtS; rw [dif_pos h]
theorem txt_at {r : ByteArray} (h : ¬ r.size < 2) : txtS r = if (r[0]'(by omega)) = 34 ∧ (r[r.size - 1]'(by omega)) = 34 ∧ rightS (r.extract 1 (r.size - 1)) = true then some (r.extract 1 (r.size - 1)) else none := by unfold txtS; rw [dif_neg h]
theorem i34 {c : UInt8} (h : ¬ (c.toNat : Int) = 34) : ¬ c = 34 := fun e => h (by rw [e]; rfl)
theorem txt_no0 {r : ByteArray} (h : ¬ r.size < 2) (h0 : ¬ ((r[0]'(by omega)).toNat : Int) = 34) : txtS r = none := by rw [txt_at h, if_neg (fun e => i34 h0 e.1)]
theorem txt_no1 {r : ByteArray} (h : ¬ r.size < 2) (h0 : ¬ ((r[r.size - 1]'(by omega)).toNat : Int) = 34) : txtS r = none := by rw [txt_at h, if_neg (fun e => i34 h0 e.2.1)]
theorem txt_no2 {r : ByteArray} (h : ¬ r.size < 2) (h0 : rightS (r.extract 1 (r.size - 1)) = false) : txtS r = none := by rw [txt_at h, if_neg (fun e => by rw [h0] at e; exact absurd e.2.2 (by simp))]
theorem u8of {c : UInt8} (h : (c.toNat : Int) = 34) : c = 34 := UInt8.toNat_inj.1 (by show c.toNat = 34; omega)
theorem txt_yes {r : ByteArray} (h : ¬ r.size < 2) (h0 : ((r[0]'(by omega)).toNat : Int) = 34) (h1 : ((r[r.size - 1]'(by omega)).toNat : Int) = 34) (h2 : rightS (r.extract 1 (r.size - 1)) = true) : txtS r = some (r.extract 1 (r.size - 1)) := by
 rw [txt_at h, if_pos ⟨u8of h0, u8of h1, h2⟩]
def tagS (s : ByteArray) : Option (Bool × ByteArray) := (txtS (wkR s)).map fun t => (wkP s, t)
theorem tag_none {s : ByteArray} (h : txtS (wkR s) = none) : tagS s = none := by unfold tagS; rw [h]; rfl
theorem tag_some {s t : ByteArray} (h : txtS (wkR s) = some t) : tagS s = some (wkP s, t) := by unfold tagS; rw [h]; rfl
def tagV (o : Option (Bool × ByteArray)) : Value := match o with | some t => .agg #[.bool t.1, .string t.2] | none => .agg #[.bool false, .string ⟨#[]⟩]
def tagE (o : Option (Bool × ByteArray)) : Nat := if o.isSome then 0 else 2
theorem wkR_size (s : ByteArray) : (wkR s).size ≤ s.size := by
 show (Lib.trimPrefix s.data.toList [87, 47]).toArray.size ≤ s.data.size
 unfold Lib.trimPrefix
 split
 ·simp
 ·simp


theorem val_plain (s : ByteArray) (w : World) (hs : s.size ≤ 4611686018427387904) :
    Calls Tryz.prog 160 #[.string s] w fun e w' => e = .returned (.bool (rightS s)) ∧ w' = w := by
  go_enter Tryz.func160, Tryz.ntmps160
  go_wp2_with fail
  go_loop [6] (fun i => ∃ k, k ≤ s.size ∧ i = .int .i64 (k : Nat) ∧ (s.data.toList.take k).any badT = false) (fun i => s.size - (intOf i).toNat)
  case atStart => exact ⟨0, Nat.zero_le _, rfl, rfl⟩
  case round =>
    obtain ⟨k, hk, rfl, hall⟩ := hrel
    by_cases hlt : k < s.size
    · have Hst := zi (any_step badT hlt hall); clear hall
      have Hyes := zi (any_yes badT hlt)
      have Hcy := zi (@badT_yes s[k])
      have Hcn := zi (@badT_no s[k])
      go_wp2_with fail
      all_goals first
        | (have hc := Hcn.out (by (try simp only [beq_iff_eq, beq_eq_false_iff_ne, ne_eq] at *); omega)
           go_round
           case rel => exact ⟨k + 1, by omega, by go_num, Hst.out hc⟩
           case measure => simp [intOf]; omega)
        | (have hc := Hcy.out (by (try simp only [beq_iff_eq] at *); omega)
           go_ret; exact ⟨congrArg (fun x => Ending.returned (.bool x)) (by unfold rightS; rw [← Hyes.out hc]; rfl), rfl⟩)
    · obtain rfl : k = s.size := by omega
      have He := zi (any_end badT hall); clear hall
      go_wp2_with fail
      all_goals (go_ret; exact ⟨congrArg (fun x => Ending.returned (.bool x)) (by unfold rightS; rw [← He.out]; rfl), rfl⟩)


theorem val_ReadTag (s : ByteArray) (w : World) (hs : s.size ≤ 1048576) :
  Calls Tryz.prog 135 #[.string s] w fun e w' => e = .returned (.tuple #[tagV (tagS s), errV (tagE (tagS s))]) ∧ Ext w w' := by
 have hrs := wkR_size s
 obtain ⟨R, hR0⟩ : ∃ R, wkR s = R := ⟨_, rfl⟩
 rw [hR0] at hrs
 have hR := zi hR0; clear hR0
 by_cases h2 : R.size < 2
 ·have HN := zi (tag_none (s := s) (by rw [hR.out]; exact txt_short h2))
  go_enter Tryz.func135, Tryz.ntmps135
  go_wp2_with fail
  refine (Tryz.strings_CutPrefix s ⟨#[87, 47]⟩ _).mono ?_; rintro e w0 ⟨rfl, rfl⟩
  rw [show (⟨(Lib.trimPrefix s.data.toList (⟨#[87, 47]⟩ : ByteArray).data.toList).toArray⟩ : ByteArray) = R from hR.out, show Lib.hasPrefix s.data.toList (⟨#[87, 47]⟩ : ByteArray).data.toList = wkP s from rfl]
  go_wp2_with fail
  (exact bodyPost_ret (v := .tuple #[.agg #[.bool false, .string ⟨#[]⟩], .iface 63 (.int .i64 2)]) (by simp [results, Tryz.results135, go_sem]) rfl ⟨by rw [HN.out]; rfl, ((Ext.refl w).alloc _).alloc _⟩)
 by_cases h0 : ((R[0]'(by omega)).toNat : Int) = 34
 case neg =>
  have HN := zi (tag_none (s := s) (by rw [hR.out]; exact txt_no0 h2 h0))
  have hq0 : (((R[0]'(by omega)).toNat : Int) != 34) = true := by simp [h0]
  go_enter Tryz.func135, Tryz.ntmps135
  go_wp2_with fail
  refine (Tryz.strings_CutPrefix s ⟨#[87, 47]⟩ _).mono ?_; rintro e w0 ⟨rfl, rfl⟩
  rw [show (⟨(Lib.trimPrefix s.data.toList (⟨#[87, 47]⟩ : ByteArray).data.toList).toArray⟩ : ByteArray) = R from hR.out, show Lib.hasPrefix s.data.toList (⟨#[87, 47]⟩ : ByteArray).data.toList = wkP s from rfl]
  go_wp2_with fail
  (exact bodyPost_ret (v := .tuple #[.agg #[.bool false, .string ⟨#[]⟩], .iface 63 (.int .i64 2)]) (by simp [results, Tryz.results135, go_sem]) rfl ⟨by rw [HN.out]; rfl, ((Ext.refl w).alloc _).alloc _⟩)
 have hq0 : (((R[0]'(by omega)).toNat : Int) != 34) = false := by simp [h0]
 by_cases h1 : ((R[R.size - 1]'(by omega)).toNat : Int) = 34
 case neg =>
  have HN := zi (tag_none (s := s) (by rw [hR.out]; exact txt_no1 h2 h1))
  have hq1 : (((R[R.size - 1]'(by omega)).toNat : Int) != 34) = true := by simp [h1]
  go_enter Tryz.func135, Tryz.ntmps135
  go_wp2_with fail
  refine (Tryz.strings_CutPrefix s ⟨#[87, 47]⟩ _).mono ?_; rintro e w0 ⟨rfl, rfl⟩
  rw [show (⟨(Lib.trimPrefix s.data.toList (⟨#[87, 47]⟩ : ByteArray).data.toList).toArray⟩ : ByteArray) = R from hR.out, show Lib.hasPrefix s.data.toList (⟨#[87, 47]⟩ : ByteArray).data.toList = wkP s from rfl]
  go_wp2_with fail
  (exact bodyPost_ret (v := .tuple #[.agg #[.bool false, .string ⟨#[]⟩], .iface 63 (.int .i64 2)]) (by simp [results, Tryz.results135, go_sem]) rfl ⟨by rw [HN.out]; rfl, ((Ext.refl w).alloc _).alloc _⟩)
 have hq1 : (((R[R.size - 1]'(by omega)).toNat : Int) != 34) = false := by simp [h1]
 cases hr : rightS (R.extract 1 (R.size - 1))
 ·have HN := zi (tag_none (s := s) (by rw [hR.out]; exact txt_no2 h2 hr))
  go_enter Tryz.func135, Tryz.ntmps135
  go_wp2_with fail
  refine (Tryz.strings_CutPrefix s ⟨#[87, 47]⟩ _).mono ?_; rintro e w0 ⟨rfl, rfl⟩
  rw [show (⟨(Lib.trimPrefix s.data.toList (⟨#[87, 47]⟩ : ByteArray).data.toList).toArray⟩ : ByteArray) = R from hR.out, show Lib.hasPrefix s.data.toList (⟨#[87, 47]⟩ : ByteArray).data.toList = wkP s from rfl]
  go_wp2_with fail
  refine (val_plain _ _ (by rw [ByteArray.size_extract]; omega)).mono ?_; rintro e w1 ⟨rfl, rfl⟩
  rw [hr]
  go_wp2_with fail
  (exact bodyPost_ret (v := .tuple #[.agg #[.bool false, .string ⟨#[]⟩], .iface 63 (.int .i64 2)]) (by simp [results, Tryz.results135, go_sem]) rfl ⟨by rw [HN.out]; rfl, ((Ext.refl w).alloc _).alloc _⟩)
 ·have HY := zi (tag_some (s := s) (by rw [hR.out]; exact txt_yes h2 h0 h1 hr))
  go_enter Tryz.func135, Tryz.ntmps135
  go_wp2_with fail
  refine (Tryz.strings_CutPrefix s ⟨#[87, 47]⟩ _).mono ?_; rintro e w0 ⟨rfl, rfl⟩
  rw [show (⟨(Lib.trimPrefix s.data.toList (⟨#[87, 47]⟩ : ByteArray).data.toList).toArray⟩ : ByteArray) = R from hR.out, show Lib.hasPrefix s.data.toList (⟨#[87, 47]⟩ : ByteArray).data.toList = wkP s from rfl]
  go_wp2_with fail
  refine (val_plain _ _ (by rw [ByteArray.size_extract]; omega)).mono ?_; rintro e w1 ⟨rfl, rfl⟩
  rw [hr]
  go_wp2_with fail
  (exact bodyPost_ret (v := .tuple #[.agg #[.bool (wkP s), .string (R.extract 1 (R.size - 1))], .nilIface]) (by simp [results, Tryz.results135, go_sem]) rfl ⟨by rw [HY.out]; rfl, ((Ext.refl w).alloc _).alloc _⟩)


end Go.Proofs.YtmckbcbdnckngaaGreatDoor

namespace Go.Proofs.YtmckbcbdnckngaaGreatDoor
open Go.RowKit

theorem assert_num (v : Value) (w : World) : (Instr.typeAssert (.iface 63 v) 29 63 true).run Tryz.prog w = .ok (.tuple #[v, .bool true]) w := by
 simp [Instr.typeAssert, run_underlying Tryz.underlying63]

theorem base_Num (n : Nat) (hn : n < 1000) (w : World) :
  Calls Tryz.prog 26 #[errV n] w fun e w' => e = .returned (.int .i64 (n : Nat)) ∧ Ext w w' := by
 rcases Nat.eq_zero_or_pos n with h0 | h0
 ·subst h0
  rw [show errV 0 = .nilIface from rfl]
  go_enter Tryz.func26, Tryz.ntmps26
  go_wp2_with fail
  go_ret
  exact ⟨rfl, Ext.refl _⟩
 ·rw [show errV n = .iface 63 (.int .i64 n) by unfold errV; rw [if_neg (by omega)]]
  go_enter Tryz.func26, Tryz.ntmps26
  have ha := assert_num (.int .i64 n)
  go_wp2_with fail
  go_ret
  exact ⟨rfl, Ext.refl _⟩
end Go.Proofs.YtmckbcbdnckngaaGreatDoor

namespace Go.Proofs.YtmckbcbdnckngaaGreatDoor
open Go.RowKit

def eqT (a b : ByteArray) : Bool := a.toList == b.toList

theorem base_Is (n k : Nat) (hn : n < 1000) (hk : 0 < k) (hk2 : k < 1000) (w : World) :
  Calls Tryz.prog 23 #[errV n, .int .i64 (k : Nat)] w fun e w' => e = .returned (.bool (decide (n = k))) ∧ Ext w w' := by
 go_enter Tryz.func23, Tryz.ntmps23
 go_wp2_with fail
 refine (base_Num n hn _).mono ?_; rintro e w1 ⟨rfl, hb1⟩
 have hk0 : ((k : Int) != 0) = true := by rw [bne_iff_ne]; omega
 by_cases h : n = k
 ·subst h
  go_wp2_with fail
  go_ret
  exact ⟨congrArg (fun x => Ending.returned (.bool x)) (by simp), hb1⟩
 ·have hne : ((n : Int) == (k : Int)) = false := by rw [beq_eq_false_iff_ne]; omega
  go_wp2_with fail
  go_ret
  exact ⟨congrArg (fun x => Ending.returned (.bool x)) (by simp [h]), hb1⟩


theorem val_Strong (wa wb : Bool) (a b : ByteArray) (w : World) :
  Calls Tryz.prog 151 #[.agg #[.bool wa, .string a], .agg #[.bool wb, .string b]] w fun e w' => e = .returned (.bool (!wa && !wb && eqT a b)) ∧ Ext w w' := by
 have he := zi (show eqT a b = (a.toList == b.toList) from rfl)
 generalize eqT a b = q at *
 cases wa <;> cases wb <;> cases q
 all_goals
  have he2 := he.out.symm
  go_enter Tryz.func151, Tryz.ntmps151
  go_wp2_with fail
  go_ret
  exact ⟨rfl, ((Ext.refl w).alloc _).alloc _⟩


theorem val_Weak (wa wb : Bool) (a b : ByteArray) (w : World) :
  Calls Tryz.prog 164 #[.agg #[.bool wa, .string a], .agg #[.bool wb, .string b]] w fun e w' => e = .returned (.bool (eqT a b)) ∧ Ext w w' := by
 have he := zi (show eqT a b = (a.toList == b.toList) from rfl)
 generalize eqT a b = q at *
 cases wa <;> cases wb <;> cases q
 all_goals
  have he2 := he.out.symm
  go_enter Tryz.func164, Tryz.ntmps164
  go_wp2_with fail
  go_ret
  exact ⟨rfl, ((Ext.refl w).alloc _).alloc _⟩


end Go.Proofs.YtmckbcbdnckngaaGreatDoor

namespace Go.Proofs.YtmckbcbdnckngaaGreatDoor
open Go.RowKit

abbrev Tg := Bool × ByteArray
def mkB (l : List UInt8) : ByteArray := ⟨l.toArray⟩
def lefT (l : List UInt8) : List UInt8 := Lib.trimLeftS l blank
def twq (l : List UInt8) : List UInt8 := l.takeWhile (· != 34)
def dwq (l : List UInt8) : List UInt8 := (l.dropWhile (· != 34)).drop 1
def rdL : Nat → List UInt8 → List Tg → Option (List Tg)
 | 0, _, _ => none
 | n + 1, l, out =>
  if l = [] then (if out = [] then none else some out)
  else if l.head? = some 44 then rdL n (lefT (l.drop 1)) out
  else if (twq l).length < l.length then
   (if (twq (dwq l)).length < (dwq l).length then
    match tagS (mkB (twq l ++ 34 :: (twq (dwq l) ++ [34]))) with
    | none => none
    | some t => (if (lefT (dwq (dwq l))) ≠ [] ∧ (lefT (dwq (dwq l))).head? ≠ some 44 then none else rdL n (lefT (dwq (dwq l))) (out ++ [t]))
   else none)
  else none
theorem split34 (l : List UInt8) (h : (twq l).length < l.length) : l = twq l ++ 34 :: dwq l := by
 unfold twq dwq at *
 induction l with
 | nil => simp at h
 | cons c r ih =>
  by_cases hc : c = 34
  ·subst hc; simp
  ·simp only [List.takeWhile_cons, List.dropWhile_cons, bne_iff_ne, ne_eq, hc, not_false_eq_true, if_true, List.length_cons] at h ⊢
   rw [List.cons_append, ← ih (by omega)]
/-! Trimming. -/
theorem left_split (l : List UInt8) : ∃ bs, (∀ c ∈ bs, bl c = true) ∧ l = bs ++ lefT l ∧ (∀ c, (lefT l).head? = some c → bl c = false) := by
 unfold lefT Lib.trimLeftS
 induction l with
 | nil => exact ⟨[], by simp, rfl, by simp⟩
 | cons x r ih =>
  rw [List.dropWhile_cons]
  split
  ·rename_i h
   obtain ⟨bs, h1, h2, h3⟩ := ih
   refine ⟨x :: bs, ?_, ?_, h3⟩
   ·intro c hc
    rcases List.mem_cons.1 hc with rfl | hc
    ·exact h
    ·exact h1 c hc
   ·rw [List.cons_append, ← h2]
  ·rename_i h
   exact ⟨[], by simp, rfl, fun c hc => by
    simp only [List.head?_cons, Option.some.injEq] at hc
    subst hc
    simpa [bl] using h⟩
theorem lefT_len (l : List UInt8) : (lefT l).length ≤ l.length := by
 obtain ⟨bs, _, h, _⟩ := left_split l
 have := congrArg List.length h
 rw [List.length_append] at this
 omega

/-! What a tag's text is. -/
/-! The parts. -/
end Go.Proofs.YtmckbcbdnckngaaGreatDoor

namespace Go.Proofs.YtmckbcbdnckngaaGreatDoor
open Go.RowKit

theorem idxB (l : List UInt8) : Lib.indexByte l 34 = if (twq l).length < l.length then ((twq l).length : Int) else -1 := by
 unfold twq
 induction l with
 | nil => rfl
 | cons x r ih =>
  unfold Lib.indexByte
  by_cases h : x = 34
  ·subst h; simp
  ·rw [if_neg (by simpa using h)]
   have ht : (x :: r).takeWhile (· != 34) = x :: r.takeWhile (· != 34) := by simp [h]
   rw [ht]
   simp only [List.length_cons]
   by_cases h2 : (r.takeWhile (· != 34)).length < r.length
   ·rw [if_pos h2] at ih
    rw [ih, if_neg (by rw [beq_iff_eq]; omega), if_pos (by omega)]; omega
   ·rw [if_neg h2] at ih
    rw [ih, if_pos (by decide), if_neg (by omega)]
theorem q1 {l : List UInt8} (h : (twq l).length < l.length) : dwq l = l.drop ((twq l).length + 1) := by
 have hs := split34 l h
 generalize twq l = a at *
 generalize dwq l = b at *
 rw [hs]
 rw [show a ++ 34 :: b = (a ++ [34]) ++ b by simp, List.drop_append_of_le_length (by simp), List.drop_of_length_le (by simp)]; rfl
theorem q2 {l : List UInt8} (h : (twq l).length < l.length) (h2 : (twq (dwq l)).length < (dwq l).length) : l.take ((twq l).length + (twq (dwq l)).length + 2) = twq l ++ 34 :: (twq (dwq l) ++ [34]) := by
 have hs := split34 l h
 have hs2 := split34 _ h2
 generalize twq l = a at *
 generalize dwq l = b at *
 generalize twq b = m at *
 generalize dwq b = t at *
 rw [hs, hs2, show a ++ 34 :: (m ++ 34 :: t) = (a ++ 34 :: (m ++ [34])) ++ t by simp]
 rw [List.take_append_of_le_length (by simp; omega), List.take_of_length_le (by simp; omega)]
theorem q3 {l : List UInt8} (h : (twq l).length < l.length) (h2 : (twq (dwq l)).length < (dwq l).length) : dwq (dwq l) = l.drop ((twq l).length + (twq (dwq l)).length + 2) := by
 rw [q1 h2]
 generalize (twq (dwq l)).length = g at *
 rw [q1 h, List.drop_drop]
 congr 1; omega
theorem q4 {l : List UInt8} (h : (twq l).length < l.length) (h2 : (twq (dwq l)).length < (dwq l).length) : (twq l).length + (twq (dwq l)).length + 2 ≤ l.length := by
 have h3 := congrArg List.length (q1 h)
 rw [List.length_drop] at h3
 omega

section
variable {n : Nat} {X : ByteArray} {out : List Tg}
theorem X_ne (h : 0 < X.size) : X.data.toList ≠ [] := by
 intro e
 have h1 : X.data.toList.length = X.size := by simp
 rw [e, List.length_nil] at h1
 omega
theorem X_head (h : 0 < X.size) : X.data.toList.head? = some X[0] := by
 obtain ⟨⟨l⟩⟩ := X
 cases l with
 | nil => exact absurd h (by decide)
 | cons c r => rfl
theorem rd_comma (h : 0 < X.size) (hc : (X[0].toNat : Int) = 44) : rdL (n + 1) X.data.toList out = rdL n (lefT (X.extract 1 X.size).data.toList) out := by
 rw [rdL, if_neg (X_ne h), if_pos (by rw [X_head h, u8c hc]), ext_drop]
where u8c {c : UInt8} (h : (c.toNat : Int) = 44) : c = 44 := UInt8.toNat_inj.1 (by show c.toNat = 44; omega)
theorem not44 {c : UInt8} (hc : ¬ (c.toNat : Int) = 44) : c ≠ 44 := fun e => hc (by rw [e]; rfl)
theorem rd_step (h : 0 < X.size) (hc : ¬ (X[0].toNat : Int) = 44) : rdL (n + 1) X.data.toList out =
  if (twq X.data.toList).length < X.data.toList.length then
   (if (twq (dwq X.data.toList)).length < (dwq X.data.toList).length then
    match tagS (mkB (twq X.data.toList ++ 34 :: (twq (dwq X.data.toList) ++ [34]))) with
    | none => none
    | some t => (if (lefT (dwq (dwq X.data.toList))) ≠ [] ∧ (lefT (dwq (dwq X.data.toList))).head? ≠ some 44 then none else rdL n (lefT (dwq (dwq X.data.toList))) (out ++ [t]))
   else none)
  else none := by
 rw [rdL, if_neg (X_ne h), if_neg (by rw [X_head h]; intro e; injection e with e; exact not44 hc e)]
 try rfl
end

def tgCells (l : List Tg) : List Value := l.flatMap fun t => [.bool t.1, .string t.2]
theorem tgCells_len (l : List Tg) : (tgCells l).length = l.length * 2 := by
 induction l with
 | nil => rfl
 | cons x l ih => simp only [tgCells, List.flatMap_cons, List.length_append, List.length_cons, List.length_nil] at *; omega
theorem tgCells_one (l : List Tg) : ∀ u ∈ tgCells l, u.oneCell' = true := by
 intro u hu
 obtain ⟨t, _, ht⟩ := List.mem_flatMap.1 hu
 simp only [List.mem_cons, List.not_mem_nil, or_false] at ht
 rcases ht with rfl | rfl <;> rfl
theorem tgCells_app (l m : List Tg) : tgCells (l ++ m) = tgCells l ++ tgCells m := by simp [tgCells]
abbrev RdT (w : World) (A : Option Addr) (n : Nat) (ts : List Tg) : Prop := Rd w 2 A n (tgCells ts)
def isStar (s : ByteArray) : Bool := (trimF s).toList == [42]
def tgO (s : ByteArray) : Option (List Tg) := if isStar s then some [] else rdL ((trimF s).size + 1) (trimF s).data.toList []
def tgE (o : Option (List Tg)) : Nat := if o.isSome then 0 else 2
theorem infoTg : (Tryz.prog.info? 185).map (fun i => (i.zero, i.size, i.bytes)) = some (some (.agg #[.bool false, .string ⟨#[]⟩]), 2, 24) := by kernel_rfl
theorem isE_no' {x : ByteArray} (h : 0 < x.size) : x.toList.isEmpty = false := by
 rw [Bool.eq_false_iff, ByteArray.toList_eq]
 intro he
 have := congrArg List.length (List.isEmpty_iff.1 he)
 rw [List.length_nil] at this
 have h1 : x.data.toList.length = x.size := by simp
 omega
theorem TrimLeft_blank (s : ByteArray) (w : World) :
  Calls Tryz.prog 179 #[.string s, .string ⟨#[32, 9]⟩] w fun e w' => e = .returned (.string (mkB (lefT s.data.toList))) ∧ Ext w w' :=
 Any.strings_TrimLeft_laid Tryz.lays161 (by kernel_rfl) s ⟨#[32, 9]⟩ w (by decide) (ascii_of_all (by decide))
theorem mkB_size (l : List UInt8) : (mkB l).size = l.length := by simp [mkB, ByteArray.size]
theorem mkB_list (l : List UInt8) : (mkB l).data.toList = l := by simp [mkB]

theorem val_ReadTags (s : ByteArray) (w : World) (hs : s.size ≤ 1048576) :
  Calls Tryz.prog 163 #[.string s] w fun e w' => ∃ A n c, e = .returned (.tuple #[.slice A n c, .bool (isStar s), errV (tgE (tgO s))]) ∧
   RdT w' A n ((tgO s).getD []) ∧ n ≤ c ∧ n ≤ s.size ∧ Ext w w' := by
 have hts := trimF_size s
 go_enter Tryz.func163, Tryz.ntmps163
 go_wp2_with fail
 refine (strings_Trim_blank s _ (by omega)).mono ?_; rintro e w1 ⟨rfl, hb1⟩
 have Hst := zi (show isStar s = ((trimF s).toList == [42]) from rfl)
 have Ho := zi (show tgO s = if isStar s then some [] else rdL ((trimF s).size + 1) (trimF s).data.toList [] from rfl)
 generalize trimF s = T at *
 cases hst : isStar s
 ·rw [hst] at Hst Ho
  have hq := Hst.out.symm
  have HO := zi (show rdL (T.size + 1) T.data.toList [] = tgO s by rw [Ho.out]; rfl)
  have Hs := zi hst; clear hst Hst Ho
  go_wp2_with fail
  go_loopw [0, 2] (fun x v wr => ∃ X OUT m A' c' N, x = .string X ∧ v = .slice A' m c' ∧ wr.ownsRow w1.heap.size 185 2 (.slice A' m c') m (tgCells OUT) ∧ m ≤ c' ∧ m + X.size ≤ T.size ∧ X.size < N ∧ rdL N X.data.toList OUT = tgO s ∧ Ext w1 wr) (fun x _ _ => lenOf' x)
  case atStart => exact ⟨T, [], 0, none, 0, T.size + 1, rfl, rfl, World.ownsRow_nil _ _ _ _, Nat.le_refl _, by omega, by omega, HO.out, Ext.refl _⟩
  case round =>
   obtain ⟨X, OUT, m, A', c', N, rfl, rfl, hown, hmc, hmX, hXN, hrd, hbr⟩ := hrel
   have Hrd := zi hrd; clear hrd
   have hm1 := hown.1
   rw [tgCells_len] at hm1
   have Hm := zi (show OUT.length = m by omega); clear hm1
   obtain ⟨n, rfl⟩ : ∃ n, N = n + 1 := ⟨N - 1, by omega⟩
   rcases Nat.eq_zero_or_pos X.size with h0 | h0
   ·obtain rfl := ByteArray.size_eq_zero_iff.1 h0
    have Hend := zi (show (if OUT = [] then none else some OUT) = tgO s from Hrd.out)
    by_cases hm0 : m = 0
    ·have HN := zi (show tgO s = none by rw [← Hend.out, if_pos (List.eq_nil_of_length_eq_zero (by rw [Hm.out]; exact hm0))])
     have hz : ((m : Int) == 0) = true := by rw [beq_iff_eq]; omega
     clear hm0
     go_wp2_with fail
     go_ret3
     exact ⟨none, 0, 0, by rw [Hs.out, HN.out]; rfl, by rw [HN.out]; exact Rd.none_ _ _ _, Nat.le_refl _, Nat.zero_le _, hb1.trans hbr⟩
    ·have HY := zi (show tgO s = some OUT by rw [← Hend.out, if_neg (by intro e; rw [e] at Hm; exact hm0 Hm.out.symm)])
     have hz : ((m : Int) == 0) = false := by rw [beq_eq_false_iff_ne]; omega
     go_wp2_with fail
     go_ret3
     exact ⟨_, _, _, by rw [Hs.out, HY.out]; rfl, by rw [HY.out]; exact Rd.of_own hown, hmc, by omega, hb1.trans hbr⟩
   ·have hne : X.toList.isEmpty = false := isE_no' h0
    by_cases h44 : (X[0].toNat : Int) = 44
    ·have HF := zi ((rd_comma (n := n) (out := OUT) h0 h44).symm.trans Hrd.out); clear Hrd
     go_wp2_with fail
     refine (TrimLeft_blank _ _).mono ?_; rintro e w2 ⟨rfl, hb2⟩
     have hl := lefT_len (X.extract 1 X.size).data.toList
     have hxs : (X.extract 1 X.size).data.toList.length = X.size - 1 := by rw [ext_drop, List.length_drop]; simp
     have hY := mkB_size (lefT (X.extract 1 X.size).data.toList)
     have hYl := zi (mkB_list (lefT (X.extract 1 X.size).data.toList))
     rw [hxs] at hl
     clear hxs
     generalize hg : mkB (lefT (X.extract 1 X.size).data.toList) = Y at *
     clear hg
     go_wp2_with fail
     go_roundw
     case rel => exact ⟨Y, OUT, m, A', c', n, rfl, rfl, own_ext hown hb2, hmc, by omega, by omega, by rw [hYl.out]; exact HF.out, hbr.trans hb2⟩
     case measure => show Y.size < X.size; omega
    ·have HF := zi ((rd_step (n := n) (out := OUT) h0 h44).symm.trans Hrd.out); clear Hrd
     have hn44 : ((X[0].toNat : Int) == 44) = false := by rw [beq_eq_false_iff_ne]; exact h44
     have hi1 := zi (idxB X.data.toList)
     have hXl : X.data.toList.length = X.size := by simp
     by_cases hf : (twq X.data.toList).length < X.data.toList.length
     ·have hi1' := hi1.out.trans (if_pos hf)
      have Hi1 := zi hi1'; clear hi1' hi1
      have hq1 := zi (show (X.extract ((twq X.data.toList).length + 1) X.size).data.toList = dwq X.data.toList by rw [ext_drop]; exact (q1 hf).symm)
      by_cases hg : (twq (dwq X.data.toList)).length < (dwq X.data.toList).length
      ·have hq4 := q4 hf hg
       have Hi2 := zi ((idxB (dwq X.data.toList)).trans (if_pos hg))
       have Hq2 := zi (show X.extract 0 ((twq X.data.toList).length + (twq (dwq X.data.toList)).length + 2) = mkB (twq X.data.toList ++ 34 :: (twq (dwq X.data.toList) ++ [34])) from bytes_ext (by rw [ext_take, mkB_list]; exact q2 hf hg))
       have Hq3 := zi (show (X.extract ((twq X.data.toList).length + (twq (dwq X.data.toList)).length + 2) X.size).data.toList = dwq (dwq X.data.toList) by rw [ext_drop]; exact (q3 hf hg).symm)
       have HF2 := zi (by have h := HF.out; rwa [if_pos hf, if_pos hg] at h); clear HF
       generalize mkB (twq X.data.toList ++ 34 :: (twq (dwq X.data.toList) ++ [34])) = Z at *
       have Hdd := zi (lefT_len (dwq (dwq X.data.toList)))
       have Hdl := zi (show (dwq (dwq X.data.toList)).length + ((twq X.data.toList).length + (twq (dwq X.data.toList)).length + 2) = X.size by
        have := congrArg List.length (q3 hf hg)
        rw [List.length_drop] at this; omega)
       rw [hXl] at hq4
       generalize dwq (dwq X.data.toList) = D2 at *
       generalize (twq X.data.toList).length = f at *
       generalize hD : dwq X.data.toList = D1 at *
       generalize (twq D1).length = g at *
       clear hf hg hD hXl
       go_wp2_with fail
       refine (Tryz.strings_IndexByte X 34 _).mono ?_; rintro e w2 ⟨rfl, rfl⟩
       rw [show Lib.indexByte X.data.toList ((34 : Int).toNat.toUInt8) = (f : Int) from Hi1.out]
       go_wp2_with fail
       refine (Tryz.strings_IndexByte _ 34 _).mono ?_; rintro e w3 ⟨rfl, rfl⟩
       rw [show Lib.indexByte (X.extract (f + 1) X.size).data.toList ((34 : Int).toNat.toUInt8) = (g : Int) by rw [hq1.out]; exact Hi2.out]
       go_wp2_with fail
       refine (val_ReadTag _ _ (by rw [ByteArray.size_extract]; omega)).mono ?_; rintro e w4 ⟨rfl, hb4⟩
       rw [Hq2.out]
       cases ht : tagS Z with
       | none =>
        have HN := zi (show tgO s = none by have h := HF2.out; rw [ht] at h; exact h.symm); clear ht HF2
        rw [show tagV none = .agg #[.bool false, .string ⟨#[]⟩] from rfl, show errV (tagE none) = .iface 63 (.int .i64 2) from rfl]
        go_wp2_with fail
        go_ret3
        exact ⟨none, 0, 0, by rw [Hs.out, HN.out]; rfl, by rw [HN.out]; exact Rd.none_ _ _ _, Nat.le_refl _, Nat.zero_le _, hb1.trans ((hbr.trans hb4).alloc _)⟩
       | some t =>
        obtain ⟨tw, tt⟩ := t
        have HF3 := zi (by have h := HF2.out; rw [ht] at h; exact h); clear ht HF2
        rw [show tagV (some (tw, tt)) = .agg #[.bool tw, .string tt] from rfl, show errV (tagE (some (tw, tt))) = .nilIface from rfl]
        have hown4 := (own_ext hown hb4).alloc (.cells #[.bool tw, .string tt] 185)
        have hbr4 := (hbr.trans hb4).alloc (.cells #[.bool tw, .string tt] 185)
        go_wp2_with (first
         | (at_builtin; refine wpList_app _ rfl (.tmp 49) (.tmp 51) 234 rfl w1 185 _ 2 24 Tryz.underlying234 infoTg rfl (by decide) _ _ _ rfl (hown4.alloc _) _ 1 1 (tgCells [(tw, tt)]) rfl (Rd.two _ _ _ _ (by simp)) (tgCells_one _) (hbr4.alloc _) (by omega) (by decide) ?_; intro A5 c5 w5 hown5 hb5 hle5))
        refine (TrimLeft_blank _ _).mono ?_; rintro e w6 ⟨rfl, hb6⟩
        rw [Hq3.out]
        have hY := mkB_size (lefT D2)
        have hYl := zi (mkB_list (lefT D2))
        have hYz : (lefT D2).length + 2 ≤ X.size := by have h1 := Hdd.out; have h2 := Hdl.out; omega
        rw [← hY] at hYz
        generalize hg : mkB (lefT D2) = Y at *
        clear hg hY
        have hown6 := own_ext hown5 hb6
        have hb16 := hb5.trans hb6
        rcases Nat.eq_zero_or_pos Y.size with hy0 | hy0
        ·have hye : Y.toList.isEmpty = true := by rw [ByteArray.toList_eq]; obtain rfl := ByteArray.size_eq_zero_iff.1 hy0; rfl
         have hyl : lefT D2 = [] := by rw [← hYl.out]; obtain rfl := ByteArray.size_eq_zero_iff.1 hy0; rfl
         have HF4 := zi (by have h := HF3.out; rwa [if_neg (by rw [hyl]; simp)] at h); clear HF3
         go_wp2_with fail
         go_roundw
         case rel => exact ⟨Y, OUT ++ [(tw, tt)], m + 1, A5, c5, n, rfl, rfl, by rw [tgCells_app]; exact hown6, hle5, by omega, by omega, by rw [hYl.out]; exact HF4.out, hb16⟩
         case measure => show Y.size < X.size; omega
        ·have hye := isE_no' hy0
         have hhd := X_head hy0
         rw [hYl.out] at hhd
         by_cases hy44 : (Y[0].toNat : Int) = 44
         ·have hyb : ((Y[0].toNat : Int) != 44) = false := by simp [hy44]
          have HF4 := zi (by have h := HF3.out; rwa [if_neg (by rw [hhd]; intro e; exact e.2 (congrArg some (UInt8.toNat_inj.1 (by show Y[0].toNat = 44; omega))))] at h); clear HF3
          clear hhd
          go_wp2_with fail
          go_roundw
          case rel => exact ⟨Y, OUT ++ [(tw, tt)], m + 1, A5, c5, n, rfl, rfl, by rw [tgCells_app]; exact hown6, hle5, by omega, by omega, by rw [hYl.out]; exact HF4.out, hb16⟩
          case measure => show Y.size < X.size; omega
         ·have hyb : ((Y[0].toNat : Int) != 44) = true := by simp [hy44]
          have HN := zi (show tgO s = none by
           have h := HF3.out
           rw [if_pos ⟨(fun e => by rw [e] at hhd; cases hhd), (by rw [hhd]; intro e; injection e with e; exact not44 hy44 e)⟩] at h
           exact h.symm)
          clear hhd HF3
          go_wp2_with fail
          go_ret3
          exact ⟨none, 0, 0, by rw [Hs.out, HN.out]; rfl, by rw [HN.out]; exact Rd.none_ _ _ _, Nat.le_refl _, Nat.zero_le _, hb1.trans hb16⟩
      ·have HN := zi (show tgO s = none by rw [← HF.out, if_pos hf, if_neg hg])
       have Hi2 := zi ((idxB (dwq X.data.toList)).trans (if_neg hg))
       rw [hXl] at hf
       generalize (twq X.data.toList).length = f at *
       clear hg HF hXl
       go_wp2_with fail
       refine (Tryz.strings_IndexByte X 34 _).mono ?_; rintro e w2 ⟨rfl, rfl⟩
       rw [show Lib.indexByte X.data.toList ((34 : Int).toNat.toUInt8) = (f : Int) from Hi1.out]
       go_wp2_with fail
       refine (Tryz.strings_IndexByte _ 34 _).mono ?_; rintro e w3 ⟨rfl, rfl⟩
       rw [show Lib.indexByte (X.extract (f + 1) X.size).data.toList ((34 : Int).toNat.toUInt8) = -1 by rw [hq1.out]; exact Hi2.out]
       go_wp2_with fail
       go_ret3
       exact ⟨none, 0, 0, by rw [Hs.out, HN.out]; rfl, by rw [HN.out]; exact Rd.none_ _ _ _, Nat.le_refl _, Nat.zero_le _, hb1.trans hbr⟩
     ·have HN := zi (show tgO s = none by rw [← HF.out, if_neg hf])
      have Hi1 := zi (hi1.out.trans (if_neg hf))
      clear hf HF hXl
      go_wp2_with fail
      refine (Tryz.strings_IndexByte X 34 _).mono ?_; rintro e w2 ⟨rfl, rfl⟩
      rw [show Lib.indexByte X.data.toList ((34 : Int).toNat.toUInt8) = -1 from Hi1.out]
      go_wp2_with fail
      go_ret3
      exact ⟨none, 0, 0, by rw [Hs.out, HN.out]; rfl, by rw [HN.out]; exact Rd.none_ _ _ _, Nat.le_refl _, Nat.zero_le _, hb1.trans hbr⟩
 ·rw [hst] at Hst Ho
  have hq := Hst.out.symm
  have Hs := zi hst; clear hst Hst
  go_wp2_with fail
  go_ret3
  exact ⟨none, 0, 0, by rw [Hs.out, Ho.out]; rfl, by rw [Ho.out]; exact Rd.none_ _ _ _, Nat.le_refl _, Nat.zero_le _, hb1⟩
end Go.Proofs.YtmckbcbdnckngaaGreatDoor

namespace Go.Proofs.YtmckbcbdnckngaaGreatDoor
open Go.RowKit

section
variable {s : ByteArray} {k j : Nat} {b : Bool} {OUT : List Tg}
end
end Go.Proofs.YtmckbcbdnckngaaGreatDoor

namespace Go.Proofs.YtmckbcbdnckngaaGreatDoor
open Go.RowKit

theorem field_Get (A : Option Addr) (n c : Nat) (fs : List Fd) (name : ByteArray) (w : World) (hf : RdF w A n fs)
  (hn : n ≤ 1073741824) (hs : name.size ≤ 9223372036854775807) (B : Nat) (hB : B ≤ 140737488355328) (hsz : Bsz B fs) (hT : sumF fs + 2 * n ≤ 70368744177664) :
  Calls Tryz.prog 17 #[.slice A n c, .string name] w fun e w' => e = .returned (.tuple #[.string (joinS (allS fs name)), .bool (decide (0 < (allS fs name).length))]) ∧ Ext w w' := by
 have hl := hf.lenF
 have hta := totS_all fs name
 rw [hl] at hta
 have hal : (allS fs name).length ≤ n := by have := allS_len fs name n; rwa [List.take_of_length_le (by omega)] at this
 have Hl := zi hl; clear hl
 go_enter Tryz.func17, Tryz.ntmps17
 go_wp2_with fail
 refine (field_All _ _ _ _ _ _ hf hn hs (fun f hff => by have := (hsz f hff).1; omega)).mono ?_
 rintro e w1 ⟨A', n', c', rfl, hr, hc, hb1⟩
 have hl2 := hr.lenS
 rw [← hl2] at hc hr
 obtain rfl := hl2
 generalize hss : allS fs name = ss at *
 have Hss := zi hss; clear hss
 go_wp2_with fail
 refine (str_Join _ _ _ _ _ hr hc (by omega)).mono ?_
 rintro e w2 ⟨rfl, hb2⟩
 go_wp2_with fail
 go_ret2
 obtain rfl := Hss.out
 exact ⟨by simp, hb1.trans hb2⟩

end Go.Proofs.YtmckbcbdnckngaaGreatDoor

namespace Go.Proofs.YtmckbcbdnckngaaGreatDoor
open Go.RowKit

structure St where
 ex : Bool
 ht : Bool
 hm : Bool
 tw : Bool
 tt : ByteArray
 md : Int
def stArr (s : St) : Array Value := #[.bool s.ex, .bool s.ht, .bool s.hm, .bool s.tw, .string s.tt, .int .i64 s.md]
def mtT (st : St) (strong : Bool) (t : Tg) : Bool := st.ht && (if strong then (!t.1 && !st.tw && eqT t.2 st.tt) else eqT t.2 st.tt)
def matS (v : ByteArray) (st : St) (strong : Bool) : Bool := match tgO v with
 | none => false
 | some l => if isStar v then st.ex else l.any (mtT st strong)
theorem tgCells_at : ∀ (l : List Tg) (k : Nat) (h : k < l.length), (tgCells l)[k * 2]? = some (.bool l[k].1) ∧ (tgCells l)[k * 2 + 1]? = some (.string l[k].2)
 | x :: l, 0, _ => ⟨rfl, rfl⟩
 | x :: l, k + 1, h => by
  have := tgCells_at l k (by simpa using h)
  simp only [tgCells, List.flatMap_cons] at *
  rw [show (k + 1) * 2 = k * 2 + 2 by omega, show k * 2 + 2 + 1 = k * 2 + 1 + 2 by omega]
  simpa using this
theorem Rd.lenT {w : World} {A : Option Addr} {n : Nat} {ts : List Tg} (h : RdT w A n ts) : ts.length = n := by have := h.1; rw [tgCells_len] at this; omega
theorem Rd.atT {w : World} {A : Option Addr} {n : Nat} {ts : List Tg} (h : RdT w A n ts) {k : Nat} (hk : k < ts.length) :
  ∃ b o, A = some ⟨b, o, none⟩ ∧ w.cell? ⟨b, o + k * 2, none⟩ = some (.bool ts[k].1) ∧ w.cell? ⟨b, o + k * 2 + 1, none⟩ = some (.string ts[k].2) := by
 obtain ⟨b, o, e, hc⟩ := h.2 (by rw [tgCells_len]; omega)
 exact ⟨b, o, e, hc _ _ (tgCells_at _ _ hk).1, hc _ _ (tgCells_at _ _ hk).2⟩
theorem anyT_step {p : Tg → Bool} {l : List Tg} {k : Nat} (h : k < l.length) (h1 : (l.take k).any p = false) (h2 : p l[k] = false) : (l.take (k + 1)).any p = false := by
 rw [take_step l k h, List.any_append, h1]; simpa using h2
theorem anyT_yes {p : Tg → Bool} {l : List Tg} {k : Nat} (h : k < l.length) (h2 : p l[k] = true) : l.any p = true := by
 rw [List.any_eq_true]; exact ⟨l[k], List.getElem_mem h, h2⟩

theorem val_matches (v : ByteArray) (st : St) (strong : Bool) (w : World) (hs : v.size ≤ 1048576) :
  Calls Tryz.prog 137 #[.string v, .agg (stArr st), .bool strong] w fun e w' => e = .returned (.bool (matS v st strong)) ∧ Ext w w' := by
 have HB0 := zi (Blk.new w 187 (stArr st))
 have HE0 := zi ((Ext.refl w).alloc (.cells (stArr st) 187))
 go_enter Tryz.func137, Tryz.ntmps137
 go_wp2_with fail
 refine (val_ReadTags v _ hs).mono ?_; rintro e w1 ⟨A, n, c, rfl, hr, hc, hns, hb1⟩
 have HB1 := zi (HB0.out.ext hb1)
 have hE1 := HE0.out.trans hb1
 clear HB0 HE0
 have Hm := zi (show matS v st strong = match tgO v with | none => false | some l => if isStar v then st.ex else l.any (mtT st strong) from rfl)
 cases ho : tgO v with
 | none =>
  have HN := zi (show matS v st strong = false by rw [Hm.out, ho])
  rw [show errV (tgE none) = .iface 63 (.int .i64 2) from rfl]
  clear ho Hm
  go_wp2_with fail
  go_ret
  exact ⟨congrArg (fun x => Ending.returned (.bool x)) HN.out.symm, hE1⟩
 | some L =>
  rw [ho] at Hm hr
  rw [show errV (tgE (some L)) = .nilIface from rfl]
  clear ho
  simp only [Option.getD_some] at hr
  cases hst : isStar v
  ·have HM := zi (show matS v st strong = L.any (mtT st strong) by rw [Hm.out, hst]; rfl)
   clear hst Hm
   have hl := hr.lenT
   have Hl := zi hl; clear hl
   go_wp2_with fail
   go_loopw [25] (fun i wr => ∃ k, k ≤ n ∧ i = .int .i64 (k : Nat) ∧ (L.take k).any (mtT st strong) = false ∧ Ext w1 wr) (fun i _ => n - (intOf i).toNat)
   case atStart => exact ⟨0, Nat.zero_le _, rfl, rfl, Ext.refl _⟩
   case round =>
    obtain ⟨k, hk, rfl, hall, hbr⟩ := hrel
    have Hall := zi hall; clear hall
    have hbw := hE1.trans hbr
    by_cases hlt : k < n
    ·have hlt' : k < L.length := by have := Hl.out; omega
     obtain ⟨b, o, rfl, hc0, hc1⟩ := (hr.ext hbr).atT hlt'
     have Hst := zi (anyT_step (p := mtT st strong) hlt' Hall.out)
     have Hy := zi (anyT_yes (p := mtT st strong) hlt')
     have HB2 := HB1.out.ext hbr
     have hs1 : wr.cell? ⟨w.heap.size, 1, none⟩ = some (.bool st.ht) := HB2.cell 1
     have hs3 : wr.cell? ⟨w.heap.size, 3, none⟩ = some (.bool st.tw) := HB2.cell 3
     have hs4 : wr.cell? ⟨w.heap.size, 4, none⟩ = some (.string st.tt) := HB2.cell 4
     have hsz := HB2.lt
     have Hmt := zi (show mtT st strong L[k] = (st.ht && (if strong then (!L[k].1 && !st.tw && eqT L[k].2 st.tt) else eqT L[k].2 st.tt)) from rfl)
     generalize hbt : mtT st strong L[k] = bt at *
     clear hbt HB2
     generalize L[k].1 = kw at *
     generalize L[k].2 = kt at *
     generalize st.ht = ht at *
     generalize st.tw = tw at *
     generalize st.tt = tt at *
     cases ht
     ·have Hf := zi (show bt = false from Hmt.out)
      go_wp2_with fail
      go_roundw
      case rel => exact ⟨k + 1, by omega, by go_num, Hst.out Hf.out, hbr.alloc _⟩
      case measure => simp [intOf]; omega
     ·cases strong
      ·go_wp2_with fail
       refine (val_Weak kw tw kt tt _).mono ?_; rintro e w3 ⟨rfl, hb3⟩
       have Hq := zi (show bt = eqT kt tt from Hmt.out)
       generalize eqT kt tt = q at *
       cases q
       ·go_wp2_with fail
        go_roundw
        case rel => exact ⟨k + 1, by omega, by go_num, Hst.out Hq.out, (hbr.alloc _).trans hb3⟩
        case measure => simp [intOf]; omega
       ·go_wp2_with fail
        go_ret
        exact ⟨congrArg (fun x => Ending.returned (.bool x)) (by rw [HM.out, Hy.out Hq.out]), (hbw.alloc _).trans hb3⟩
      ·go_wp2_with fail
       refine (val_Strong kw tw kt tt _).mono ?_; rintro e w3 ⟨rfl, hb3⟩
       have Hq := zi (show bt = (!kw && !tw && eqT kt tt) from Hmt.out)
       generalize (!kw && !tw && eqT kt tt) = q at *
       cases q
       ·go_wp2_with fail
        go_roundw
        case rel => exact ⟨k + 1, by omega, by go_num, Hst.out Hq.out, (hbr.alloc _).trans hb3⟩
        case measure => simp [intOf]; omega
       ·go_wp2_with fail
        go_ret
        exact ⟨congrArg (fun x => Ending.returned (.bool x)) (by rw [HM.out, Hy.out Hq.out]), (hbw.alloc _).trans hb3⟩
    ·have hk' : k = n := by omega
     have HF := zi (show matS v st strong = false by rw [HM.out, ← Hall.out, List.take_of_length_le (by have := Hl.out; omega)])
     go_wp2_with fail
     go_ret
     exact ⟨congrArg (fun x => Ending.returned (.bool x)) HF.out.symm, hbw⟩
  ·have HM := zi (show matS v st strong = st.ex by rw [Hm.out, hst]; rfl)
   have hs0 : w1.cell? ⟨w.heap.size, 0, none⟩ = some (.bool st.ex) := HB1.out.cell 0
   clear hst Hm
   go_wp2_with fail
   go_ret
   exact ⟨congrArg (fun x => Ending.returned (.bool x)) HM.out.symm, hE1⟩

def inmN : ByteArray := ⟨#[105, 102, 45, 110, 111, 110, 101, 45, 109, 97, 116, 99, 104]⟩
def imN : ByteArray := ⟨#[105, 102, 45, 109, 97, 116, 99, 104]⟩
def iusN : ByteArray := ⟨#[105, 102, 45, 117, 110, 109, 111, 100, 105, 102, 105, 101, 100, 45, 115, 105, 110, 99, 101]⟩
end Go.Proofs.YtmckbcbdnckngaaGreatDoor

namespace Go.Proofs.YtmckbcbdnckngaaGreatDoor
def lpB (y : Int) : Bool := (y % 4 == 0 && y % 100 != 0) || y % 400 == 0
def lp (y : Int) : Int := if lpB y then 1 else 0
def bef (y : Int) : Int := 365 * (y - 1970) + (y - 1) / 4 - (y - 1) / 100 + (y - 1) / 400 - 477
theorem lp_cases (y : Int) : (lp y = 1 ∧ ((y % 4 = 0 ∧ y % 100 ≠ 0) ∨ y % 400 = 0)) ∨ (lp y = 0 ∧ ¬ ((y % 4 = 0 ∧ y % 100 ≠ 0) ∨ y % 400 = 0)) := by
 unfold lp
 by_cases h : lpB y = true
 ·left
  refine ⟨by rw [if_pos h], ?_⟩
  unfold lpB at h
  simpa using h
 ·right
  refine ⟨by rw [if_neg h], ?_⟩
  unfold lpB at h
  simpa using h
theorem bef_succ (y : Int) (_ : 1 ≤ y) : bef (y + 1) = bef y + 365 + lp y := by
 unfold bef
 rcases lp_cases y with ⟨h1, h2⟩ | ⟨h1, h2⟩
 ·rw [h1]; omega
 ·rw [h1]; omega
theorem bef_1970 : bef 1970 = 0 := by decide
theorem bef_mono {a b : Int} (_ : 1 ≤ a) (h : a ≤ b) : bef a + 365 * (b - a) ≤ bef b := by unfold bef; omega
theorem lp_01 (y : Int) : 0 ≤ lp y ∧ lp y ≤ 1 := by rcases lp_cases y with h | h <;> omega
def ml (y m : Int) : Int := if m = 2 then 28 + lp y else if m = 4 ∨ m = 6 ∨ m = 9 ∨ m = 11 then 30 else 31
theorem ml_bd (y m : Int) : 28 ≤ ml y m ∧ ml y m ≤ 31 := by
 have := lp_01 y
 unfold ml; split
 ·omega
 ·split <;> omega
def cum (y : Int) : Nat → Int
 | 0 => 0
 | n + 1 => cum y n + (if n = 0 then 0 else ml y n)
theorem cum_1 (y : Int) : cum y 1 = 0 := rfl
theorem cum_succ (y : Int) (n : Nat) (h : 0 < n) : cum y (n + 1) = cum y n + ml y n := by
 show cum y n + _ = _
 rw [if_neg (by omega)]
theorem cum_13 (y : Int) : cum y 13 = 365 + lp y := by
 simp only [cum, ml]
 simp
 omega
theorem cum_mono (y : Int) {a b : Nat} (h : a ≤ b) : cum y a ≤ cum y b := by
  induction b with
  | zero => have : a = 0 := by omega
            subst this; exact Int.le_refl _
  | succ b ih =>
    by_cases hb : a = b + 1
    · subst hb; exact Int.le_refl _
    · have h1 := ih (by omega)
      have h2 := ml_bd y b
      show cum y a ≤ cum y b + _
      split <;> omega
def dayN (y : Int) (m : Nat) (d : Int) : Int := bef y + cum y m + d - 1
def okD (y : Int) (m : Nat) (d : Int) : Prop := 1970 ≤ y ∧ y ≤ 9999 ∧ 1 ≤ m ∧ m ≤ 12 ∧ 1 ≤ d ∧ d ≤ ml y m
theorem day_range {y : Int} {m : Nat} {d : Int} (h : okD y m d) : bef y ≤ dayN y m d ∧ dayN y m d < bef (y + 1) := by
 obtain ⟨h1, h2, h3, h4, h5, h6⟩ := h
 have a := cum_mono y h3
 rw [cum_1] at a
 have b := cum_mono y (show m + 1 ≤ 13 by omega)
 rw [cum_13, cum_succ y m (by omega)] at b
 have c := bef_succ y (by omega)
 unfold dayN
 omega
theorem day_one {y y' : Int} {m m' : Nat} {d d' : Int} (h : okD y m d) (h' : okD y' m' d') (he : dayN y m d = dayN y' m' d') : y = y' ∧ m = m' ∧ d = d' := by
 have r := day_range h
 have r' := day_range h'
 obtain ⟨h1, h2, h3, h4, h5, h6⟩ := h
 obtain ⟨k1, k2, k3, k4, k5, k6⟩ := h'
 have hy : y = y' := by
  rcases Int.lt_trichotomy y y' with hl | hl | hl
  ·have := bef_mono (a := y + 1) (b := y') (by omega) (by omega); omega
  ·exact hl
  ·have := bef_mono (a := y' + 1) (b := y) (by omega) (by omega); omega
 subst hy
 have hm : m = m' := by
  unfold dayN at he
  rcases Nat.lt_trichotomy m m' with hl | hl | hl
  ·have := cum_mono y (show m + 1 ≤ m' by omega)
   rw [cum_succ y m (by omega)] at this; omega
  ·exact hl
  ·have := cum_mono y (show m' + 1 ≤ m by omega)
   rw [cum_succ y m' (by omega)] at this; omega
 subst hm
 unfold dayN at he
 exact ⟨rfl, rfl, by omega⟩
theorem bef_guess (d : Int) (h : 0 ≤ d) (h2 : d ≤ 2932896) : bef (1970 + d / 366) ≤ d ∧ 1970 + d / 366 ≤ 9983 := by unfold bef; omega
theorem bef_10000 : bef 10000 = 2932897 := by decide
theorem day_bd {y : Int} {m : Nat} {d : Int} (h : okD y m d) : 0 ≤ dayN y m d ∧ dayN y m d ≤ 2932896 := by
 have r := day_range h
 have a := bef_mono (a := 1970) (b := y) (by omega) h.1
 have b := bef_mono (a := y + 1) (b := 10000) (by have := h.1; omega) (by have := h.2.1; omega)
 rw [bef_1970] at a
 rw [bef_10000] at b
 have := h.1; have := h.2.1
 omega
def yGo : Nat → Int → Int → Int
 | 0, y, _ => y
 | n + 1, y, d => if d < bef (y + 1) then y else yGo n (y + 1) d
def yOf (d : Int) : Int := yGo 8030 1970 d
def mGo : Nat → Int → Nat → Int → Nat
 | 0, _, m, _ => m
 | n + 1, y, m, r => if r < cum y (m + 1) then m else mGo n y (m + 1) r
def mOf (d : Int) : Nat := mGo 11 (yOf d) 1 (d - bef (yOf d))
def dOf (d : Int) : Int := d - bef (yOf d) - cum (yOf d) (mOf d) + 1
theorem yGo_ok : ∀ (n : Nat) (y d : Int), 1970 ≤ y → bef y ≤ d → d < bef (y + n) → bef (yGo n y d) ≤ d ∧ d < bef (yGo n y d + 1) ∧ 1970 ≤ yGo n y d ∧ yGo n y d < y + n
 | 0, y, d, h0, h1, h2 => by simp at h2; omega
 | n + 1, y, d, h0, h1, h2 => by
  unfold yGo
  split
  ·rename_i h; exact ⟨h1, h, h0, by omega⟩
  ·rename_i h
   have := yGo_ok n (y + 1) d (by omega) (by omega) (by rw [show y + 1 + (n : Int) = y + ((n + 1 : Nat) : Int) by omega]; exact h2)
   exact ⟨this.1, this.2.1, this.2.2.1, by omega⟩
theorem mGo_ok : ∀ (n : Nat) (y : Int) (m : Nat) (r : Int), 1 ≤ m → cum y m ≤ r → r < cum y (m + n + 1) → cum y (mGo n y m r) ≤ r ∧ r < cum y (mGo n y m r + 1) ∧ 1 ≤ mGo n y m r ∧ mGo n y m r ≤ m + n
 | 0, y, m, r, h0, h1, h2 => ⟨h1, h2, h0, Nat.le_refl _⟩
 | n + 1, y, m, r, h0, h1, h2 => by
  unfold mGo
  split
  ·rename_i h; exact ⟨h1, h, h0, by omega⟩
  ·rename_i h
   have := mGo_ok n y (m + 1) r (by omega) (by omega) (by rw [show m + 1 + n + 1 = m + (n + 1) + 1 by omega]; exact h2)
   exact ⟨this.1, this.2.1, this.2.2.1, by omega⟩
theorem date_ok {d : Int} (h0 : 0 ≤ d) (h1 : d ≤ 2932896) : okD (yOf d) (mOf d) (dOf d) ∧ dayN (yOf d) (mOf d) (dOf d) = d := by
 obtain ⟨a1, a2, a3, a4⟩ := yGo_ok 8030 1970 d (Int.le_refl _) (by rw [bef_1970]; exact h0) (by rw [show (1970 : Int) + ((8030 : Nat) : Int) = 10000 by decide, bef_10000]; omega)
 have hy : yGo 8030 1970 d = yOf d := rfl
 rw [hy] at a1 a2 a3 a4
 have hs := bef_succ (yOf d) (by omega)
 obtain ⟨b1, b2, b3, b4⟩ := mGo_ok 11 (yOf d) 1 (d - bef (yOf d)) (Nat.le_refl _) (by rw [cum_1]; omega) (by rw [show 1 + 11 + 1 = 13 from rfl, cum_13]; omega)
 have hm : mGo 11 (yOf d) 1 (d - bef (yOf d)) = mOf d := rfl
 rw [hm] at b1 b2 b3 b4
 rw [cum_succ _ _ (by omega)] at b2
 refine ⟨⟨a3, by omega, b3, by omega, ?_, ?_⟩, ?_⟩
 ·unfold dOf; omega
 ·unfold dOf; omega
 ·unfold dayN dOf; omega
end Go.Proofs.YtmckbcbdnckngaaGreatDoor

namespace Go.Proofs.YtmckbcbdnckngaaGreatDoor
open Go.RowKit

def moL : List ByteArray := [⟨#[74, 97, 110]⟩, ⟨#[70, 101, 98]⟩, ⟨#[77, 97, 114]⟩, ⟨#[65, 112, 114]⟩, ⟨#[77, 97, 121]⟩, ⟨#[74, 117, 110]⟩, ⟨#[74, 117, 108]⟩, ⟨#[65, 117, 103]⟩, ⟨#[83, 101, 112]⟩, ⟨#[79, 99, 116]⟩, ⟨#[78, 111, 118]⟩, ⟨#[68, 101, 99]⟩]
def wdL : List ByteArray := [⟨#[83, 117, 110]⟩, ⟨#[77, 111, 110]⟩, ⟨#[84, 117, 101]⟩, ⟨#[87, 101, 100]⟩, ⟨#[84, 104, 117]⟩, ⟨#[70, 114, 105]⟩, ⟨#[83, 97, 116]⟩]
def leL : List Int := [31, 28, 31, 30, 31, 30, 31, 31, 30, 31, 30, 31]
def GlH (w : World) : Prop := RdS w (some ⟨1, 0, none⟩) 12 moL ∧ RdS w (some ⟨0, 0, none⟩) 7 wdL ∧ Rd w 1 (some ⟨2, 0, none⟩) 12 (leL.map (Value.int .i64))
theorem GlH.ext {w w' : World} (h : GlH w) (hb : Ext w w') : GlH w' := ⟨h.1.ext hb, h.2.1.ext hb, h.2.2.ext hb⟩
theorem GlH.len {w : World} (h : GlH w) {k : Nat} (hk : k < 12) : w.cell? ⟨2, k, none⟩ = some (.int .i64 (leL[k]'(by simpa [leL] using hk))) := by
 obtain ⟨b, o, e, hc⟩ := h.2.2.2 (by decide)
 injection e with e; injection e with e1 e2
 subst e1; subst e2
 have := hc k _ (by rw [List.getElem?_map, List.getElem?_eq_getElem (by simpa [leL] using hk)]; rfl)
 rwa [Nat.zero_add] at this
theorem GlH.mon {w : World} (h : GlH w) {k : Nat} (hk : k < 12) : w.cell? ⟨1, k, none⟩ = some (.string (moL[k]'(by simpa [moL] using hk))) := by
 obtain ⟨b, o, e, hc⟩ := h.1.atS (k := k) (by simpa [moL] using hk)
 injection e with e; injection e with e1 e2
 subst e1; subst e2
 rwa [Nat.zero_add] at hc
theorem GlH.wkd {w : World} (h : GlH w) {k : Nat} (hk : k < 7) : w.cell? ⟨0, k, none⟩ = some (.string (wdL[k]'(by simpa [wdL] using hk))) := by
 obtain ⟨b, o, e, hc⟩ := h.2.1.atS (k := k) (by simpa [wdL] using hk)
 injection e with e; injection e with e1 e2
 subst e1; subst e2
 rwa [Nat.zero_add] at hc
theorem ret_i {k : IntKind} {a b : Int} (h : a = b) : Ending.returned (.int k a) = .returned (.int k b) := by rw [h]
theorem leL_ml (y : Int) {m : Nat} (h1 : 1 ≤ m) (h2 : m ≤ 12) (h3 : m ≠ 2) : leL[m - 1]'(by show m - 1 < 12; omega) = ml y m := by
 have : m = 1 ∨ m = 3 ∨ m = 4 ∨ m = 5 ∨ m = 6 ∨ m = 7 ∨ m = 8 ∨ m = 9 ∨ m = 10 ∨ m = 11 ∨ m = 12 := by omega
 rcases this with h | h | h | h | h | h | h | h | h | h | h <;> subst h <;> rfl
theorem ml_2 (y : Int) : ml y 2 = 28 + lp y := rfl

theorem http_leap (y : Int) (w : World) (h0 : 0 ≤ y) (h1 : y ≤ 1000000) :
  Calls Tryz.prog 140 #[.int .i64 y] w fun e w' => e = .returned (.bool (lpB y)) ∧ w' = w := by
 have Hl := zi (show lpB y = ((y % 4 == 0 && y % 100 != 0) || y % 400 == 0) from rfl)
 generalize lpB y = b at *
 cases h4 : (y % 4 == 0) <;> cases h100 : (y % 100 == 0) <;> cases h400 : (y % 400 == 0)
 all_goals
  have hn : (y % 100 != 0) = !(y % 100 == 0) := rfl
  rw [h100] at hn
  rw [h4, hn, h400] at Hl
  simp only [Bool.not_false, Bool.not_true] at hn
  go_enter Tryz.func140, Tryz.ntmps140
  go_wp2_with fail
  go_ret
  exact ⟨congrArg (fun x => Ending.returned (.bool x)) (by rw [Hl.out]; rfl), rfl⟩

theorem http_month (y : Int) (m : Nat) (w : World) (h0 : 0 ≤ y) (h1 : y ≤ 1000000) (hm1 : 1 ≤ m) (hm2 : m ≤ 12) (hg : GlH w) :
  Calls Tryz.prog 112 #[.int .i64 y, .int .i64 (m : Nat)] w fun e w' => e = .returned (.int .i64 (ml y m)) ∧ w' = w := by
 by_cases h2 : m = 2
 ·subst h2
  have hc := hg.len (k := 1) (by decide)
  have Hc := zi hc; clear hc
  go_enter Tryz.func112, Tryz.ntmps112
  go_wp2_with fail
  refine (http_leap y _ h0 h1).mono ?_; rintro e w1 ⟨rfl, rfl⟩
  cases hl : lpB y
  ·have Hv := zi (show (28 : Int) = ml y 2 by rw [ml_2]; unfold lp; rw [hl]; rfl)
   have hc : w1.cell? ⟨2, 1, none⟩ = some (.int .i64 28) := Hc.out
   go_wp2_with fail
   go_ret
   exact ⟨ret_i Hv.out, rfl⟩
  ·have Hv := zi (show (29 : Int) = ml y 2 by rw [ml_2]; unfold lp; rw [hl]; rfl)
   go_wp2_with fail
   go_ret
   exact ⟨ret_i Hv.out, rfl⟩
 ·have hc := hg.len (k := m - 1) (by omega)
  have Hv := zi (leL_ml y hm1 hm2 h2)
  have hz : ((m : Int) == 2) = false := by rw [beq_eq_false_iff_ne]; omega
  generalize leL[m - 1]'(by show m - 1 < 12; omega) = L at *
  have hi : ((m : Int) - 1).toNat = m - 1 := by omega
  clear h2
  go_enter Tryz.func112, Tryz.ntmps112
  go_wp2_with fail
  go_ret
  exact ⟨ret_i Hv.out, rfl⟩

theorem http_before (y : Int) (w : World) (h0 : 1970 ≤ y) (h1 : y ≤ 1000000) :
  Calls Tryz.prog 111 #[.int .i64 y] w fun e w' => e = .returned (.int .i64 (bef y)) ∧ w' = w := by
 go_enter Tryz.func111, Tryz.ntmps111
 go_wp2_with fail
 go_ret
 exact ⟨ret_i (by unfold bef; rfl), rfl⟩

def wkN (d : Int) : Int := ((d % 7 + 4) % 7 + 7) % 7
theorem wkN_bd (d : Int) : 0 ≤ wkN d ∧ wkN d < 7 := by unfold wkN; omega
theorem http_Weekday (d : Int) (w : World) (h0 : 0 ≤ d) (h1 : d ≤ 1000000000) :
  Calls Tryz.prog 83 #[.int .i64 d] w fun e w' => e = .returned (.int .i64 (wkN d)) ∧ w' = w := by
 go_enter Tryz.func83, Tryz.ntmps83
 go_wp2_with fail
 go_ret
 exact ⟨ret_i (by unfold wkN; omega), rfl⟩

def digU (n : Int) : UInt8 := UInt8.ofNat (48 + n).toNat
def twoS (n : Int) : ByteArray := ⟨#[digU (n / 10), digU (n % 10)]⟩
theorem conv_two (a b : Int) (w : World) : (convert 23 9 (.slice (some ⟨w.heap.size, 0, none⟩) 2 2)).run Tryz.prog (w.alloc (.cells #[.int .u8 a, .int .u8 b] 5)) =
  .ok (.string ⟨#[UInt8.ofNat a.toNat, UInt8.ofNat b.toNat]⟩) (w.alloc (.cells #[.int .u8 a, .int .u8 b] 5)) :=
 run_convert_bytes_arg (P := Tryz.prog) _ 23 5 Tryz.underlying23 Tryz.underlying5 w.heap.size 0 2 2 [a, b] rfl
  (fun i hi => by
   rw [World.cell?_alloc_mark]
   have : i = 0 ∨ i = 1 := by omega
   rcases this with rfl | rfl <;> rfl) 9 Tryz.underlying9
theorem http_two (n : Int) (w : World) (h0 : 0 ≤ n) (h1 : n ≤ 99) :
  Calls Tryz.prog 84 #[.int .i64 n] w fun e w' => e = .returned (.string (twoS n)) ∧ Ext w w' := by
 have hcv := conv_two
 go_enter Tryz.func84, Tryz.ntmps84
 go_wp2_with fail
 go_ret
 exact ⟨congrArg (fun x => Ending.returned (.string x)) (by unfold twoS digU; rfl), (Ext.refl w).alloc _⟩

def dgB (c : UInt8) : Bool := !(decide ((c.toNat : Int) < 48) || decide (57 < (c.toNat : Int)))
def num2 (s : ByteArray) : Int := if h : s.size = 2 then (if dgB s[0] && dgB s[1] then 10 * ((s[0].toNat : Int) - 48) + ((s[1].toNat : Int) - 48) else -1) else -1
theorem dgB_yes {c : UInt8} (h1 : ¬ (c.toNat : Int) < 48) (h2 : ¬ 57 < (c.toNat : Int)) : dgB c = true := by
 unfold dgB; rw [decide_eq_false h1, decide_eq_false h2]; rfl
theorem dgB_no {c : UInt8} (h : (c.toNat : Int) < 48 ∨ 57 < (c.toNat : Int)) : dgB c = false := by
 unfold dgB; rcases h with h | h
 ·rw [decide_eq_true h]; rfl
 ·rw [decide_eq_true h, Bool.or_true]; rfl
theorem num2_yes {s : ByteArray} (hs : s.size = 2) (h0 : dgB s[0] = true) (h1 : dgB s[1] = true) : num2 s = 10 * ((s[0].toNat : Int) - 48) + ((s[1].toNat : Int) - 48) := by
 unfold num2; rw [dif_pos hs, h0, h1]; rfl
theorem num2_no {s : ByteArray} (hs : s.size = 2) (h : dgB s[0] = false ∨ dgB s[1] = false) : num2 s = -1 := by
 unfold num2; rw [dif_pos hs, if_neg]
 rcases h with h | h <;> rw [h] <;> simp
theorem num2_bd (s : ByteArray) : -1 ≤ num2 s ∧ num2 s ≤ 99 := by
 unfold num2
 split
 ·split
  ·rename_i h
   simp only [dgB, Bool.and_eq_true, Bool.not_eq_true', Bool.or_eq_false_iff, decide_eq_false_iff_not] at h
   omega
  ·omega
 ·omega
end Go.Proofs.YtmckbcbdnckngaaGreatDoor

namespace Go.Proofs.YtmckbcbdnckngaaGreatDoor
open Go.RowKit

instance (y : Int) (m : Nat) (d : Int) : Decidable (okD y m d) := by unfold okD; infer_instance
def dayV (y : Int) (m : Nat) (d : Int) : Value := if okD y m d then .tuple #[.int .i64 (dayN y m d), .nilIface] else .tuple #[.int .i64 0, errV 1]
theorem dayV_yes {y : Int} {m : Nat} {d : Int} (h : okD y m d) : dayV y m d = .tuple #[.int .i64 (dayN y m d), .nilIface] := if_pos h
theorem dayV_no {y : Int} {m : Nat} {d : Int} (h : ¬ okD y m d) : dayV y m d = .tuple #[.int .i64 0, errV 1] := if_neg h
theorem ret_v {a b : Value} (h : a = b) : Ending.returned a = .returned b := by rw [h]
theorem bef_bd {y : Int} (h0 : 1970 ≤ y) (h1 : y ≤ 10000) : 0 ≤ bef y ∧ bef y ≤ 2932897 := by
 have a := bef_mono (a := 1970) (b := y) (by omega) h0
 have b := bef_mono (a := y) (b := 10000) (by omega) h1
 rw [bef_1970] at a
 rw [bef_10000] at b
 omega
theorem cum_bd (y : Int) {m : Nat} (h0 : 1 ≤ m) (h1 : m ≤ 13) : 0 ≤ cum y m ∧ cum y m ≤ 366 := by
 have a := cum_mono y h0
 have b := cum_mono y h1
 rw [cum_1] at a
 rw [cum_13] at b
 have := lp_01 y
 omega

theorem http_number (s : ByteArray) (w : World) (hs : s.size = 2) :
  Calls Tryz.prog 161 #[.string s] w fun e w' => e = .returned (.int .i64 (num2 s)) ∧ Ext w w' := by
 have hlt0 : 0 < s.size := by omega
 have hlt1 : 1 < s.size := by omega
 have Hno := zi (@num2_no s hs)
 have Hyes := zi (@num2_yes s hs)
 have hub0 := UInt8.toNat_lt s[0]
 have hub1 := UInt8.toNat_lt s[1]
 by_cases hd : ((s[0].toNat : Int) < 48 ∨ 57 < (s[0].toNat : Int)) ∨ ((s[1].toNat : Int) < 48 ∨ 57 < (s[1].toNat : Int))
 ·have Hn := zi (Hno.out (hd.imp dgB_no dgB_no))
  go_enter Tryz.func161, Tryz.ntmps161
  by_cases a0 : (s[0].toNat : Int) < 48
  ·clear hd
   go_wp2_with fail
   all_goals (go_ret; exact ⟨ret_i Hn.out.symm, Ext.refl _⟩)
  ·by_cases a1 : 57 < (s[0].toNat : Int)
   ·clear hd
    go_wp2_with fail
    all_goals (go_ret; exact ⟨ret_i Hn.out.symm, Ext.refl _⟩)
   ·by_cases a2 : (s[1].toNat : Int) < 48
    ·clear hd
     go_wp2_with fail
     all_goals (go_ret; exact ⟨ret_i Hn.out.symm, Ext.refl _⟩)
    ·have a3 : 57 < (s[1].toNat : Int) := by omega
     clear hd
     go_wp2_with fail
     all_goals (go_ret; exact ⟨ret_i Hn.out.symm, Ext.refl _⟩)
 ·have a0 : ¬ (s[0].toNat : Int) < 48 := by omega
  have a1 : ¬ 57 < (s[0].toNat : Int) := by omega
  have a2 : ¬ (s[1].toNat : Int) < 48 := by omega
  have a3 : ¬ 57 < (s[1].toNat : Int) := by omega
  have Hn := zi (Hyes.out (dgB_yes a0 a1) (dgB_yes a2 a3))
  clear hd
  go_enter Tryz.func161, Tryz.ntmps161
  go_wp2_with fail
  go_region
  all_goals (try go_wp2_with fail)
  all_goals (go_ret; exact ⟨ret_i Hn.out.symm, (Ext.refl _).drew⟩)

theorem http_Day (y : Int) (m : Nat) (d : Int) (w : World) (h0 : 0 ≤ y) (h1 : y ≤ 9999) (hm : m ≤ 12) (hd0 : -1 ≤ d) (hd1 : d ≤ 99) (hg : GlH w) :
  Calls Tryz.prog 162 #[.int .i64 y, .int .i64 (m : Nat), .int .i64 d] w fun e w' => e = .returned (dayV y m d) ∧ w' = w := by
 have Hno := zi (@dayV_no y m d)
 have Hyes := zi (@dayV_yes y m d)
 by_cases a1 : y < 1970
 ·have Hn := zi (Hno.out (fun h => by have := h.1; omega))
  go_enter Tryz.func162, Tryz.ntmps162
  go_wp2_with fail
  all_goals (go_ret2; exact ⟨ret_v Hn.out.symm, rfl⟩)
 by_cases a2 : m < 1
 ·have Hn := zi (Hno.out (fun h => by have := h.2.2.1; omega))
  obtain rfl : m = 0 := by omega
  have hle : ¬ (9999 : Int) < y := by omega
  go_enter Tryz.func162, Tryz.ntmps162
  go_wp2_with fail
  all_goals (go_ret2; exact ⟨ret_v Hn.out.symm, rfl⟩)
 by_cases a3 : d < 1
 ·have Hn := zi (Hno.out (fun h => by have := h.2.2.2.2.1; omega))
  have hle : ¬ (9999 : Int) < y := by omega
  have hm1 : ¬ (m : Int) < 1 := by omega
  have hm2 : ¬ (12 : Int) < (m : Int) := by omega
  go_enter Tryz.func162, Tryz.ntmps162
  go_wp2_with fail
  all_goals (go_ret2; exact ⟨ret_v Hn.out.symm, rfl⟩)
 have hle : ¬ (9999 : Int) < y := by omega
 have hm1 : ¬ (m : Int) < 1 := by omega
 have hm2 : ¬ (12 : Int) < (m : Int) := by omega
 have hmo := zi (http_month y m w h0 (by omega) (by omega) hm hg)
 have hml := ml_bd y m
 by_cases a4 : ml y m < d
 ·have Hn := zi (Hno.out (fun h => by have := h.2.2.2.2.2; omega))
  go_enter Tryz.func162, Tryz.ntmps162
  go_wp2_with fail
  refine hmo.out.mono ?_; rintro e w1 ⟨rfl, rfl⟩
  go_wp2_with fail
  all_goals (go_ret2; exact ⟨ret_v Hn.out.symm, rfl⟩)
 ·have Hn := zi (Hyes.out ⟨by omega, by omega, by omega, hm, by omega, by omega⟩)
  have hbb := bef_bd (y := y) (by omega) (by omega)
  go_enter Tryz.func162, Tryz.ntmps162
  go_wp2_with fail
  refine hmo.out.mono ?_; rintro e w1 ⟨rfl, rfl⟩
  go_wp2_with fail
  refine (http_before y _ (by omega) (by omega)).mono ?_; rintro e w2 ⟨rfl, rfl⟩
  go_wp2_with fail
  go_loopw [8, 9] (fun n i wr => ∃ k : Nat, 1 ≤ k ∧ k ≤ m ∧ n = .int .i64 (bef y + d - 1 + cum y k) ∧ i = .int .i64 (k : Nat) ∧ wr = w2) (fun _ i _ => m - (intOf i).toNat)
  case atStart => exact ⟨1, Nat.le_refl _, by omega, by rw [cum_1, Int.add_zero], rfl, rfl⟩
  case round =>
   obtain ⟨k, hk1, hk, rfl, rfl, rfl⟩ := hrel
   have hcb := cum_bd y hk1 (by omega)
   by_cases hlt : k < m
   ·have Hcs := zi (cum_succ y k (by omega))
    have hmb := ml_bd y k
    go_wp2_with fail
    refine (http_month y k _ h0 (by omega) hk1 (by omega) hg).mono ?_; rintro e w3 ⟨rfl, rfl⟩
    go_wp2_with fail
    go_roundw
    case rel => exact ⟨k + 1, by omega, by omega, by rw [Hcs.out]; go_num, by go_num, trivial⟩
    case measure => simp [intOf]; omega
   ·obtain rfl : k = m := by omega
    have Hz := zi (show Value.tuple #[.int .i64 (bef y + d - 1 + cum y k), .nilIface] = dayV y k d by rw [Hn.out]; unfold dayN; rw [show bef y + d - 1 + cum y k = bef y + cum y k + d - 1 by omega])
    go_wp2_with fail
    go_ret2
    exact ⟨ret_v Hz.out, rfl⟩

theorem results_tmp4 {fn : Func} {t u v x : Tmp} (h : fn.results = #[.tmp t, .tmp u, .tmp v, .tmp x]) (tmps : Array Value) (P : Program) (w : World) :
  (results fn tmps).run P w = .ok (.tuple #[tmps.getD t undef, tmps.getD u undef, tmps.getD v undef, tmps.getD x undef]) w := by
 simp [results, h]
def dateV (d : Int) : Value := .tuple #[.int .i64 (yOf d), .int .i64 (mOf d : Nat), .int .i64 (dOf d), .nilIface]
theorem dateV_of {d y : Int} {m : Nat} {r : Int} (h0 : 0 ≤ d) (h1 : d ≤ 2932896) (hk : okD y m r) (he : dayN y m r = d) : dateV d = .tuple #[.int .i64 y, .int .i64 (m : Nat), .int .i64 r, .nilIface] := by
 obtain ⟨a, b⟩ := date_ok h0 h1
 obtain ⟨e1, e2, e3⟩ := day_one hk a (he.trans b.symm)
 unfold dateV
 rw [← e1, ← e2, ← e3]

theorem http_Date (d : Int) (w : World) (h0 : 0 ≤ d) (h1 : d ≤ 2932896) (hg : GlH w) :
  Calls Tryz.prog 82 #[.int .i64 d] w fun e w' => e = .returned (dateV d) ∧ w' = w := by
 have Hd := zi (fun y m r => @dateV_of d y m r)
 obtain ⟨hg1, hg2⟩ := bef_guess d h0 h1
 have Hg := zi hg1; clear hg1
 go_enter Tryz.func82, Tryz.ntmps82
 go_wp2_with fail
 go_loopw [2] (fun y wr => ∃ z : Int, 1970 ≤ z ∧ z ≤ 9999 ∧ bef z ≤ d ∧ y = .int .i64 z ∧ wr = w) (fun y _ => (9999 - intOf y).toNat)
 case atStart => exact ⟨1970 + d / 366, by omega, by omega, Hg.out, rfl, rfl⟩
 case round =>
  obtain ⟨z, hz0, hz1, hzb, rfl, rfl⟩ := hrel
  have Hzb := zi hzb
  have hbz := bef_bd hz0 (by omega)
  have hbs := bef_bd (y := z + 1) (by omega) (by omega)
  by_cases hc : z < 9999 ∧ bef (z + 1) ≤ d
  ·obtain ⟨hc1, hc2⟩ := hc
   go_wp2_with fail
   refine (http_before (z + 1) _ (by omega) (by omega)).mono ?_; rintro e w1 ⟨rfl, rfl⟩
   go_wp2_with fail
   go_roundw
   case rel => exact ⟨z + 1, by omega, by omega, hc2, by go_num, trivial⟩
   case measure => simp [intOf]; omega
  ·have hnx : d < bef (z + 1) := by
    by_cases hz9 : z < 9999
    ·omega
    ·obtain rfl : z = 9999 := by omega
     have : bef (9999 + 1) = 2932897 := bef_10000
     omega
   have Hnx := zi hnx
   have hbsu := zi (bef_succ z (by omega))
   by_cases hz9 : z < 9999
   rotate_left
   ·clear hc
    go_wp2_with fail
    refine (http_before z _ (by omega) (by omega)).mono ?_; rintro e w2 ⟨rfl, rfl⟩
    go_wp2_with fail
    go_loopw [0, 3] (fun r m wr => ∃ k : Nat, 1 ≤ k ∧ k ≤ 12 ∧ r = .int .i64 (d - bef z - cum z k) ∧ 0 ≤ d - bef z - cum z k ∧ m = .int .i64 (k : Nat) ∧ wr = w2) (fun _ m _ => 12 - (intOf m).toNat)
    case atStart => exact ⟨1, Nat.le_refl _, by omega, by rw [cum_1, Int.sub_zero], by rw [cum_1]; omega, rfl, rfl⟩
    case round =>
     obtain ⟨k, hk1, hk, rfl, hr0, rfl, rfl⟩ := hrel
     have hcb := cum_bd z hk1 (by omega)
     have hmb := ml_bd z k
     have Hcs := zi (cum_succ z k (by omega))
     have hlp := lp_01 z
     by_cases hge : ml z k ≤ d - bef z - cum z k
     ·have hk12 : k < 12 := by
       by_cases h12 : k < 12
       ·exact h12
       ·obtain rfl : k = 12 := by omega
        have a := Hcs.out
        have b := cum_13 z
        have c := hbsu.out
        have e : cum z (12 + 1) = cum z 13 := rfl
        omega
      go_wp2_with fail
      refine (http_month z k _ (by omega) (by omega) hk1 hk hg).mono ?_; rintro e w3 ⟨rfl, rfl⟩
      go_wp2_with fail
      refine (http_month z k _ (by omega) (by omega) hk1 hk hg).mono ?_; rintro e w4 ⟨rfl, rfl⟩
      go_wp2_with fail
      go_roundw
      case rel => exact ⟨k + 1, by omega, by omega, by rw [Hcs.out]; go_num, by rw [Hcs.out]; omega, by go_num, trivial⟩
      case measure => simp [intOf]; omega
     ·have He := zi (Hd.out z k (d - bef z - cum z k + 1) h0 h1 ⟨hz0, hz1, hk1, hk, by omega, by omega⟩ (by unfold dayN; omega))
      go_wp2_with fail
      refine (http_month z k _ (by omega) (by omega) hk1 hk hg).mono ?_; rintro e w3 ⟨rfl, rfl⟩
      go_wp2_with fail
      (try simp only [Exit.inBlock, Exit.then]); refine bodyPost_ret (results_tmp4 rfl _ _ _) rfl ?_
      exact ⟨ret_v He.out.symm, rfl⟩
   ·clear hc
    go_wp2_with fail
    refine (http_before (z + 1) _ (by omega) (by omega)).mono ?_; rintro e w1 ⟨rfl, rfl⟩
    go_wp2_with fail
    refine (http_before z _ (by omega) (by omega)).mono ?_; rintro e w2 ⟨rfl, rfl⟩
    go_wp2_with fail
    go_loopw [0, 3] (fun r m wr => ∃ k : Nat, 1 ≤ k ∧ k ≤ 12 ∧ r = .int .i64 (d - bef z - cum z k) ∧ 0 ≤ d - bef z - cum z k ∧ m = .int .i64 (k : Nat) ∧ wr = w2) (fun _ m _ => 12 - (intOf m).toNat)
    case atStart => exact ⟨1, Nat.le_refl _, by omega, by rw [cum_1, Int.sub_zero], by rw [cum_1]; omega, rfl, rfl⟩
    case round =>
     obtain ⟨k, hk1, hk, rfl, hr0, rfl, rfl⟩ := hrel
     have hcb := cum_bd z hk1 (by omega)
     have hmb := ml_bd z k
     have Hcs := zi (cum_succ z k (by omega))
     have hlp := lp_01 z
     by_cases hge : ml z k ≤ d - bef z - cum z k
     ·have hk12 : k < 12 := by
       by_cases h12 : k < 12
       ·exact h12
       ·obtain rfl : k = 12 := by omega
        have a := Hcs.out
        have b := cum_13 z
        have c := hbsu.out
        have e : cum z (12 + 1) = cum z 13 := rfl
        omega
      go_wp2_with fail
      refine (http_month z k _ (by omega) (by omega) hk1 hk hg).mono ?_; rintro e w3 ⟨rfl, rfl⟩
      go_wp2_with fail
      refine (http_month z k _ (by omega) (by omega) hk1 hk hg).mono ?_; rintro e w4 ⟨rfl, rfl⟩
      go_wp2_with fail
      go_roundw
      case rel => exact ⟨k + 1, by omega, by omega, by rw [Hcs.out]; go_num, by rw [Hcs.out]; omega, by go_num, trivial⟩
      case measure => simp [intOf]; omega
     ·have He := zi (Hd.out z k (d - bef z - cum z k + 1) h0 h1 ⟨hz0, hz1, hk1, hk, by omega, by omega⟩ (by unfold dayN; omega))
      go_wp2_with fail
      refine (http_month z k _ (by omega) (by omega) hk1 hk hg).mono ?_; rintro e w3 ⟨rfl, rfl⟩
      go_wp2_with fail
      (try simp only [Exit.inBlock, Exit.then]); refine bodyPost_ret (results_tmp4 rfl _ _ _) rfl ?_
      exact ⟨ret_v He.out.symm, rfl⟩
end Go.Proofs.YtmckbcbdnckngaaGreatDoor

namespace Go.Proofs.YtmckbcbdnckngaaGreatDoor
open Go.RowKit

def catS (wd t1 mo t2 t3 t4 t5 t6 : ByteArray) : ByteArray :=
 wd ++ ⟨#[44, 32]⟩ ++ t1 ++ ⟨#[32]⟩ ++ mo ++ ⟨#[32]⟩ ++ t2 ++ t3 ++ ⟨#[32]⟩ ++ t4 ++ ⟨#[58]⟩ ++ t5 ++ ⟨#[58]⟩ ++ t6 ++ ⟨#[32, 71, 77, 84]⟩
def wdS (d : Int) : ByteArray := wdL.getD (wkN d).toNat ⟨#[]⟩
def moS (m : Nat) : ByteArray := moL.getD (m - 1) ⟨#[]⟩
def fmtS (n : Int) : ByteArray := catS (wdS (n / 86400)) (twoS (dOf (n / 86400))) (moS (mOf (n / 86400))) (twoS (yOf (n / 86400) / 100)) (twoS (yOf (n / 86400) % 100)) (twoS (n % 86400 / 3600)) (twoS (n % 86400 / 60 % 60)) (twoS (n % 86400 % 60))
theorem wdS_size {d : Int} : (wdS d).size = 3 := by
 have := wkN_bd d
 unfold wdS
 have h : (wkN d).toNat < 7 := by omega
 generalize (wkN d).toNat = k at *
 have : k = 0 ∨ k = 1 ∨ k = 2 ∨ k = 3 ∨ k = 4 ∨ k = 5 ∨ k = 6 := by omega
 rcases this with h | h | h | h | h | h | h <;> subst h <;> rfl
theorem moS_size {m : Nat} (h1 : 1 ≤ m) (h2 : m ≤ 12) : (moS m).size = 3 := by
 have : m = 1 ∨ m = 2 ∨ m = 3 ∨ m = 4 ∨ m = 5 ∨ m = 6 ∨ m = 7 ∨ m = 8 ∨ m = 9 ∨ m = 10 ∨ m = 11 ∨ m = 12 := by omega
 rcases this with h | h | h | h | h | h | h | h | h | h | h | h <;> subst h <;> rfl
theorem twoS_size (n : Int) : (twoS n).size = 2 := rfl
theorem GlH.monS {w : World} (h : GlH w) {m : Nat} (h1 : 1 ≤ m) (h2 : m ≤ 12) : w.cell? ⟨1, m - 1, none⟩ = some (.string (moS m)) := by
 have := h.mon (k := m - 1) (by omega)
 unfold moS
 rw [List.getD_eq_getElem?_getD, List.getElem?_eq_getElem (by show m - 1 < 12; omega)]
 exact this
theorem GlH.wkdS {w : World} (h : GlH w) (d : Int) : w.cell? ⟨0, (wkN d).toNat, none⟩ = some (.string (wdS d)) := by
 have hb := wkN_bd d
 have := h.wkd (k := (wkN d).toNat) (by omega)
 unfold wdS
 rw [List.getD_eq_getElem?_getD, List.getElem?_eq_getElem (by show (wkN d).toNat < 7; omega)]
 exact this
theorem two_at (n m : Int) (w : World) (h : n = m) (h0 : 0 ≤ m) (h1 : m ≤ 99) :
  Calls Tryz.prog 84 #[.int .i64 n] w fun e w' => e = .returned (.string (twoS m)) ∧ Ext w w' := by subst h; exact http_two n w h0 h1
theorem sum_s (a b : ByteArray) {n k : Nat} (ha : a.size = n) (hb : b.size = k) (hk : n + k ≤ 100) : (∀ w, (Op.stringOp .add a b).run Tryz.prog w = .ok (.string (a ++ b)) w) ∧ (a ++ b).size = n + k :=
 ⟨fun w => run_string_add_sum w a b (by omega), by rw [ByteArray.size_append, ha, hb]⟩

theorem http_Format (n : Int) (w : World) (h0 : 0 ≤ n) (h1 : n ≤ 253402300799) (hg : GlH w) :
  Calls Tryz.prog 45 #[.int .i64 n] w fun e w' => e = .returned (.tuple #[.string (fmtS n), .nilIface]) ∧ Ext w w' := by
 have hd0 : 0 ≤ n / 86400 := by omega
 have hd1 : n / 86400 ≤ 2932896 := by omega
 obtain ⟨⟨y0, y1, m0, m1, c0, c1⟩, -⟩ := date_ok hd0 hd1
 have hml := ml_bd (yOf (n / 86400)) (mOf (n / 86400))
 have hwk := wkN_bd (n / 86400)
 have hcw := hg.wkdS (n / 86400)
 have hcm := hg.monS m0 m1
 obtain ⟨F, hF⟩ : ∃ F, fmtS n = F := ⟨_, rfl⟩
 rw [hF]
 unfold fmtS catS at hF
 have Hf := zi hF; clear hF
 have hws : (wdS (n / 86400)).size = 3 := wdS_size
 have hms := moS_size m0 m1
 have hDate := http_Date (n / 86400) w hd0 hd1 hg
 have hWk := http_Weekday (n / 86400)
 unfold dateV at hDate
 generalize hdd : n / 86400 = dd at *
 generalize hrr : n % 86400 = rr at *
 have hr0 : 0 ≤ rr := by omega
 have hr1 : rr < 86400 := by omega
 generalize mOf dd = mm at *
 generalize yOf dd = yy at *
 generalize dOf dd = ee at *
 generalize wdS dd = ws at *
 generalize moS mm = ms at *
 generalize wkN dd = wk at *
 obtain ⟨s1, z1⟩ := sum_s ws ⟨#[44, 32]⟩ hws rfl (by decide)
 obtain ⟨s2, z2⟩ := sum_s _ (twoS ee) z1 (twoS_size _) (by decide)
 obtain ⟨s3, z3⟩ := sum_s _ ⟨#[32]⟩ z2 rfl (by decide)
 obtain ⟨s4, z4⟩ := sum_s _ ms z3 hms (by decide)
 obtain ⟨s5, z5⟩ := sum_s _ ⟨#[32]⟩ z4 rfl (by decide)
 obtain ⟨s6, z6⟩ := sum_s _ (twoS (yy / 100)) z5 (twoS_size _) (by decide)
 obtain ⟨s7, z7⟩ := sum_s _ (twoS (yy % 100)) z6 (twoS_size _) (by decide)
 obtain ⟨s8, z8⟩ := sum_s _ ⟨#[32]⟩ z7 rfl (by decide)
 obtain ⟨s9, z9⟩ := sum_s _ (twoS (rr / 3600)) z8 (twoS_size _) (by decide)
 obtain ⟨s10, z10⟩ := sum_s _ ⟨#[58]⟩ z9 rfl (by decide)
 obtain ⟨s11, z11⟩ := sum_s _ (twoS (rr / 60 % 60)) z10 (twoS_size _) (by decide)
 obtain ⟨s12, z12⟩ := sum_s _ ⟨#[58]⟩ z11 rfl (by decide)
 obtain ⟨s13, z13⟩ := sum_s _ (twoS (rr % 60)) z12 (twoS_size _) (by decide)
 obtain ⟨s14, z14⟩ := sum_s _ ⟨#[32, 71, 77, 84]⟩ z13 rfl (by decide)
 clear z1 z2 z3 z4 z5 z6 z7 z8 z9 z10 z11 z12 z13 z14
 have Hw := zi hWk; clear hWk
 have HD := zi hDate; clear hDate
 go_enter Tryz.func45, Tryz.ntmps45
 go_wp2_with fail
 refine HD.out.mono ?_; rintro e w1 ⟨rfl, rfl⟩
 go_wp2_with fail
 have hE := (Ext.refl w1).drew
 have j0 : (0 : Int) ≤ (mm : Int) - 1 := by omega
 have j1 : (mm : Int) - 1 < 12 := by omega
 have j2 : (mm : Int) - 1 ≤ 9223372036854775807 := by omega
 have jw : IntKind.i64.wrap ((mm : Int) - 1) = (mm : Int) - 1 := IntWalk.i64_in _ (by omega)
 have hi := show ((mm : Int) - 1).toNat = mm - 1 by omega
 have q1 : yy.tdiv 100 = yy / 100 := Int.tdiv_eq_ediv_of_nonneg (by omega)
 have q2 : yy.tmod 100 = yy % 100 := Int.tmod_eq_emod_of_nonneg (by omega)
 have q3 : rr.tdiv 3600 = rr / 3600 := Int.tdiv_eq_ediv_of_nonneg (by omega)
 have q4 : rr.tdiv 60 = rr / 60 := Int.tdiv_eq_ediv_of_nonneg (by omega)
 have q5 : (rr / 60).tmod 60 = rr / 60 % 60 := Int.tmod_eq_emod_of_nonneg (by omega)
 have q6 : rr.tmod 60 = rr % 60 := Int.tmod_eq_emod_of_nonneg (by omega)
 have k1 : IntKind.i64.wrap (yy / 100) = yy / 100 := IntWalk.i64_in _ (by omega)
 have k3 : IntKind.i64.wrap (rr / 3600) = rr / 3600 := IntWalk.i64_in _ (by omega)
 have k4 : IntKind.i64.wrap (rr / 60) = rr / 60 := IntWalk.i64_in _ (by omega)
 have b1 : 0 ≤ yy / 100 ∧ yy / 100 ≤ 99 := by omega
 have b2 : 0 ≤ yy % 100 ∧ yy % 100 ≤ 99 := by omega
 have b3 : 0 ≤ rr / 3600 ∧ rr / 3600 ≤ 99 := by omega
 have b4 : 0 ≤ rr / 60 % 60 ∧ rr / 60 % 60 ≤ 99 := by omega
 have b5 : 0 ≤ rr % 60 ∧ rr % 60 ≤ 99 := by omega
 have b0 : 0 ≤ ee ∧ ee ≤ 99 := by omega
 have HK := zi (show ∀ w', Ext w1 w' → (w'.cell? ⟨0, wk.toNat, none⟩ = some (.string ws) ∧ w'.cell? ⟨1, mm - 1, none⟩ = some (.string ms)) from fun w' h => ⟨h.cell hcw, h.cell hcm⟩)
 have j3 : (1 : Int) ≤ (mm : Int) := by omega
 have j4 : (mm : Int) < 13 := by omega
 have j5 : (mm : Int) ≤ 12 := by omega
 refine wp_region_held_drew (S := (fun w' => w'.cell? ⟨0, wk.toNat, none⟩ = some (.string ws) ∧ w'.cell? ⟨1, mm - 1, none⟩ = some (.string ms))) (by kernel_rfl) ?_ (fun hHeld => ?_)
 ·(try dsimp only); exact HK.out _ hE
 refine zH (v := ?_) 0 (some 31) rfl ?_ ?_; rotate_left
 ·(intro w hSw; (try dsimp only at hSw); go_simp; (try with_reducible rfl))
 try simp only [zP]
 refine zH (v := ?_) 5 (some 36) rfl ?_ ?_; rotate_left
 ·(intro w hSw; (try dsimp only at hSw); go_simp; (try with_reducible rfl))
 try simp only [zP]
 refine zH (v := ?_) 9 (some 40) rfl ?_ ?_; rotate_left
 ·(intro w hSw; (try dsimp only at hSw); go_simp; (try with_reducible rfl))
 try simp only [zP]
 refine zH (v := ?_) 10 (some 41) rfl ?_ ?_; rotate_left
 ·(intro w hSw; (try dsimp only at hSw); go_simp; (try with_reducible rfl))
 try simp only [zP]
 refine zH (v := ?_) 11 (some 42) rfl ?_ ?_; rotate_left
 ·(intro w hSw; (try dsimp only at hSw); go_simp; (try with_reducible rfl))
 try simp only [zP]
 refine zH (v := ?_) 12 (some 43) rfl ?_ ?_; rotate_left
 ·(intro w hSw; (try dsimp only at hSw); go_simp; (try with_reducible rfl))
 try simp only [zP]
 refine zH (v := ?_) 15 (some 46) rfl ?_ ?_; rotate_left
 ·(intro w hSw; (try dsimp only at hSw); go_simp; (try with_reducible rfl))
 try simp only [zP]
 refine zH (v := ?_) 16 (some 47) rfl ?_ ?_; rotate_left
 ·(intro w hSw; (try dsimp only at hSw); go_simp; (try with_reducible rfl))
 try simp only [zP]
 refine zH (v := ?_) 19 (some 50) rfl ?_ ?_; rotate_left
 ·(intro w hSw; (try dsimp only at hSw); go_simp; (try with_reducible rfl))
 try simp only [zP]
 refine zH (v := ?_) 20 (some 51) rfl ?_ ?_; rotate_left
 ·(intro w hSw; (try dsimp only at hSw); go_simp; (try with_reducible rfl))
 try simp only [zP]
 refine zH (v := ?_) 24 (some 55) rfl ?_ ?_; rotate_left
 ·(intro w hSw; (try dsimp only at hSw); go_simp; (try with_reducible rfl))
 try simp only [zP]
 refine zH (v := ?_) 25 (some 56) rfl ?_ ?_; rotate_left
 ·(intro w hSw; (try dsimp only at hSw); go_simp; (try with_reducible rfl))
 try simp only [zP]
 refine zH (v := ?_) 29 (some 60) rfl ?_ ?_; rotate_left
 ·(intro w hSw; (try dsimp only at hSw); go_simp; (try with_reducible rfl))
 try simp only [zP]
 refine zH (v := ?_) 30 (some 61) rfl ?_ ?_; rotate_left
 ·(intro w hSw; (try dsimp only at hSw); go_simp; (try with_reducible rfl))
 try simp only [zP]
 refine zH (v := ?_) 31 (some 62) rfl ?_ ?_; rotate_left
 ·(intro w hSw; (try dsimp only at hSw); go_simp; (try with_reducible rfl))
 try simp only [zP]
 refine zH (v := ?_) 35 (some 66) rfl ?_ ?_; rotate_left
 ·(intro w hSw; (try dsimp only at hSw); go_simp; (try with_reducible rfl))
 try simp only [zP]
 refine zH (v := ?_) 36 (some 67) rfl ?_ ?_; rotate_left
 ·(intro w hSw; (try dsimp only at hSw); go_simp; (try with_reducible rfl))
 try simp only [zP]
 refine wpAnyH_ready (rs := [1]) (by kernel_rfl) (by simp) ?_
 refine AllReadyH.cons (o := ⟨some 32, _, _, _, _, _⟩) rfl (fun K hK => ?_) AllReadyH.nil
 go_simp
 refine (Hw.out _ hd0 (by omega)).mono ?_; rintro e w2 ⟨rfl, rfl⟩
 try go_wp2_with fail
 refine hK.out _ _ ?_ (fun hHeld => ?_)
 ·(try dsimp only); exact HK.out _ hE
 clear hK K
 try simp only [zP]
 refine zH (v := ?_) 2 (some 33) rfl ?_ ?_; rotate_left
 ·(intro w hSw; (try dsimp only at hSw); go_simp; (try with_reducible rfl))
 try simp only [zP]
 refine zH (v := ?_) 3 (some 34) rfl ?_ ?_; rotate_left
 ·(intro w hSw; (try dsimp only at hSw); go_simp; (try with_reducible rfl))
 try simp only [zP]
 refine zH (v := ?_) 4 (some 35) rfl ?_ ?_; rotate_left
 ·(intro w hSw; (try dsimp only at hSw); go_simp; (try with_reducible rfl))
 try simp only [zP]
 refine wpAnyH_ready (rs := [6]) (by kernel_rfl) (by simp) ?_
 refine AllReadyH.cons (o := ⟨some 37, _, _, _, _, _⟩) rfl (fun K hK => ?_) AllReadyH.nil
 go_simp
 refine (two_at _ (ee) _ (by rfl) b0.1 b0.2).mono ?_; rintro e w3 ⟨rfl, hb3⟩; replace hE := hE.trans hb3; clear hb3
 try go_wp2_with fail
 refine hK.out _ _ ?_ (fun hHeld => ?_)
 ·(try dsimp only); exact HK.out _ hE
 clear hK K
 try simp only [zP]
 refine zH (v := ?_) 7 (some 38) rfl ?_ ?_; rotate_left
 ·(intro w hSw; (try dsimp only at hSw); go_simp; (try with_reducible rfl))
 try simp only [zP]
 refine zH (v := ?_) 8 (some 39) rfl ?_ ?_; rotate_left
 ·(intro w hSw; (try dsimp only at hSw); go_simp; (try with_reducible rfl))
 try simp only [zP]
 refine zH (v := ?_) 13 (some 44) rfl ?_ ?_; rotate_left
 ·(intro w hSw; (try dsimp only at hSw); go_simp; (try with_reducible rfl))
 try simp only [zP]
 refine zH (v := ?_) 14 (some 45) rfl ?_ ?_; rotate_left
 ·(intro w hSw; (try dsimp only at hSw); go_simp; (try with_reducible rfl))
 try simp only [zP]
 refine wpAnyH_ready (rs := [17]) (by kernel_rfl) (by simp) ?_
 refine AllReadyH.cons (o := ⟨some 48, _, _, _, _, _⟩) rfl (fun K hK => ?_) AllReadyH.nil
 go_simp
 refine (two_at _ (yy / 100) _ (by first | exact k1 | exact q1 | rfl | (rw [q1]; exact k1)) b1.1 b1.2).mono ?_; rintro e w3 ⟨rfl, hb3⟩; replace hE := hE.trans hb3; clear hb3
 try go_wp2_with fail
 refine hK.out _ _ ?_ (fun hHeld => ?_)
 ·(try dsimp only); exact HK.out _ hE
 clear hK K
 try simp only [zP]
 refine zH (v := ?_) 18 (some 49) rfl ?_ ?_; rotate_left
 ·(intro w hSw; (try dsimp only at hSw); go_simp; (try with_reducible rfl))
 try simp only [zP]
 refine wpAnyH_ready (rs := [21]) (by kernel_rfl) (by simp) ?_
 refine AllReadyH.cons (o := ⟨some 52, _, _, _, _, _⟩) rfl (fun K hK => ?_) AllReadyH.nil
 go_simp
 refine (two_at _ (yy % 100) _ (by first | exact q2 | rfl) b2.1 b2.2).mono ?_; rintro e w3 ⟨rfl, hb3⟩; replace hE := hE.trans hb3; clear hb3
 try go_wp2_with fail
 refine hK.out _ _ ?_ (fun hHeld => ?_)
 ·(try dsimp only); exact HK.out _ hE
 clear hK K
 try simp only [zP]
 refine zH (v := ?_) 22 (some 53) rfl ?_ ?_; rotate_left
 ·(intro w hSw; (try dsimp only at hSw); go_simp; (try with_reducible rfl))
 try simp only [zP]
 refine zH (v := ?_) 23 (some 54) rfl ?_ ?_; rotate_left
 ·(intro w hSw; (try dsimp only at hSw); go_simp; (try with_reducible rfl))
 try simp only [zP]
 refine wpAnyH_ready (rs := [26]) (by kernel_rfl) (by simp) ?_
 refine AllReadyH.cons (o := ⟨some 57, _, _, _, _, _⟩) rfl (fun K hK => ?_) AllReadyH.nil
 go_simp
 refine (two_at _ (rr / 3600) _ (by first | exact k3 | exact q3 | rfl | (rw [q3]; exact k3)) b3.1 b3.2).mono ?_; rintro e w3 ⟨rfl, hb3⟩; replace hE := hE.trans hb3; clear hb3
 try go_wp2_with fail
 refine hK.out _ _ ?_ (fun hHeld => ?_)
 ·(try dsimp only); exact HK.out _ hE
 clear hK K
 try simp only [zP]
 refine zH (v := ?_) 27 (some 58) rfl ?_ ?_; rotate_left
 ·(intro w hSw; (try dsimp only at hSw); go_simp; (try with_reducible rfl))
 try simp only [zP]
 refine zH (v := ?_) 28 (some 59) rfl ?_ ?_; rotate_left
 ·(intro w hSw; (try dsimp only at hSw); go_simp; (try with_reducible rfl))
 try simp only [zP]
 refine wpAnyH_ready (rs := [32]) (by kernel_rfl) (by simp) ?_
 refine AllReadyH.cons (o := ⟨some 63, _, _, _, _, _⟩) rfl (fun K hK => ?_) AllReadyH.nil
 go_simp
 refine (two_at _ (rr / 60 % 60) _ (by first | (rw [k4]; exact q5) | exact q5 | rfl) b4.1 b4.2).mono ?_; rintro e w3 ⟨rfl, hb3⟩; replace hE := hE.trans hb3; clear hb3
 try go_wp2_with fail
 refine hK.out _ _ ?_ (fun hHeld => ?_)
 ·(try dsimp only); exact HK.out _ hE
 clear hK K
 try simp only [zP]
 refine zH (v := ?_) 33 (some 64) rfl ?_ ?_; rotate_left
 ·(intro w hSw; (try dsimp only at hSw); go_simp; (try with_reducible rfl))
 try simp only [zP]
 refine zH (v := ?_) 34 (some 65) rfl ?_ ?_; rotate_left
 ·(intro w hSw; (try dsimp only at hSw); go_simp; (try with_reducible rfl))
 try simp only [zP]
 refine wpAnyH_ready (rs := [37]) (by kernel_rfl) (by simp) ?_
 refine AllReadyH.cons (o := ⟨some 68, _, _, _, _, _⟩) rfl (fun K hK => ?_) AllReadyH.nil
 go_simp
 refine (two_at _ (rr % 60) _ (by first | exact q6 | rfl) b5.1 b5.2).mono ?_; rintro e w3 ⟨rfl, hb3⟩; replace hE := hE.trans hb3; clear hb3
 try go_wp2_with fail
 refine hK.out _ _ ?_ (fun hHeld => ?_)
 ·(try dsimp only); exact HK.out _ hE
 clear hK K
 try simp only [zP]
 refine zH (v := ?_) 38 (some 69) rfl ?_ ?_; rotate_left
 ·(intro w hSw; (try dsimp only at hSw); go_simp; (try with_reducible rfl))
 try simp only [zP]
 refine zH (v := ?_) 39 (some 70) rfl ?_ ?_; rotate_left
 ·(intro w hSw; (try dsimp only at hSw); go_simp; (try with_reducible rfl))
 try simp only [zP]
 refine zH (v := ?_) 40 (some 2) rfl ?_ ?_; rotate_left
 ·(intro w hSw; (try dsimp only at hSw); go_simp; (try with_reducible rfl))
 try simp only [zP]
 refine zH (v := ?_) 41 (some 3) rfl ?_ ?_; rotate_left
 ·(intro w hSw; (try dsimp only at hSw); go_simp; (try with_reducible rfl))
 try simp only [zP]
 refine wpAnyH_done (by kernel_rfl) ?_ _
 go_wp2_with fail
 go_ret2
 exact ⟨ret_v (congrArg (fun x => Value.tuple #[.string x, .nilIface]) Hf.out), hE⟩
end Go.Proofs.YtmckbcbdnckngaaGreatDoor

namespace Go.Proofs.YtmckbcbdnckngaaGreatDoor
open Go.RowKit

def moA (t : ByteArray) : Nat → Nat
 | 0 => 0
 | k + 1 => if (t.toList == (moS (k + 1)).toList) then k + 1 else moA t k
theorem moA_yes {t : ByteArray} {k : Nat} (h : (t.toList == (moS (k + 1)).toList) = true) : moA t (k + 1) = k + 1 := if_pos h
theorem moA_no {t : ByteArray} {k : Nat} (h : (t.toList == (moS (k + 1)).toList) = false) : moA t (k + 1) = moA t k := if_neg (by rw [h]; decide)
theorem moA_le (t : ByteArray) : ∀ k, moA t k ≤ k
 | 0 => Nat.le_refl _
 | k + 1 => by
  unfold moA
  have := moA_le t k
  split <;> omega
def secN (y : Int) (m : Nat) (d h mi se : Int) : Int := 86400 * dayN y m d + 3600 * h + 60 * mi + se
def dateQ (s : ByteArray) (d c y h mi se : Int) (m : Nat) : Option Int :=
 if d < 0 ∨ c < 0 ∨ y < 0 ∨ h < 0 ∨ 23 < h ∨ mi < 0 ∨ 59 < mi ∨ se < 0 ∨ 59 < se then none
 else if okD (100 * c + y) m d then (if ((fmtS (secN (100 * c + y) m d h mi se)).toList == s.toList) then some (secN (100 * c + y) m d h mi se) else none) else none
def dateP (s : ByteArray) : Option Int :=
 if s.size = 29 then dateQ s (num2 (s.extract 5 7)) (num2 (s.extract 12 14)) (num2 (s.extract 14 16)) (num2 (s.extract 17 19)) (num2 (s.extract 20 22)) (num2 (s.extract 23 25)) (moA (s.extract 8 11) 12) else none
def dpV : Option Int → Value
 | some n => .tuple #[.int .i64 n, .nilIface]
 | none => .tuple #[.int .i64 0, errV 2]
theorem dateQ_bad {s : ByteArray} {d c y h mi se : Int} {m : Nat} (hb : d < 0 ∨ c < 0 ∨ y < 0 ∨ h < 0 ∨ 23 < h ∨ mi < 0 ∨ 59 < mi ∨ se < 0 ∨ 59 < se) : dpV (dateQ s d c y h mi se m) = .tuple #[.int .i64 0, errV 2] := by unfold dateQ; rw [if_pos hb]; rfl
theorem dateQ_day {s : ByteArray} {d c y h mi se : Int} {m : Nat} (hd : ¬ okD (100 * c + y) m d) : dpV (dateQ s d c y h mi se m) = .tuple #[.int .i64 0, errV 2] := by unfold dateQ; rw [if_neg hd]; split <;> rfl
theorem dateQ_txt {s : ByteArray} {d c y h mi se : Int} {m : Nat} (hd : ((fmtS (secN (100 * c + y) m d h mi se)).toList == s.toList) = false) : dpV (dateQ s d c y h mi se m) = .tuple #[.int .i64 0, errV 2] := by unfold dateQ; rw [hd]; split <;> (try split) <;> rfl
theorem dateQ_yes {s : ByteArray} {d c y h mi se : Int} {m : Nat} (hb : ¬ (d < 0 ∨ c < 0 ∨ y < 0 ∨ h < 0 ∨ 23 < h ∨ mi < 0 ∨ 59 < mi ∨ se < 0 ∨ 59 < se)) (hk : okD (100 * c + y) m d)
  (hd : ((fmtS (secN (100 * c + y) m d h mi se)).toList == s.toList) = true) : dpV (dateQ s d c y h mi se m) = .tuple #[.int .i64 (secN (100 * c + y) m d h mi se), .nilIface] := by unfold dateQ; rw [if_neg hb, if_pos hk, hd]; rfl
def moV : Array Value := #[.string (moS 1), .string (moS 2), .string (moS 3), .string (moS 4), .string (moS 5), .string (moS 6), .string (moS 7), .string (moS 8), .string (moS 9), .string (moS 10), .string (moS 11), .string (moS 12)]
theorem mo_index (k : Nat) (hk : k < 12) (w : World) : (Instr.index 157 (.agg moV) (.int .i64 (k : Nat))).run Tryz.prog w = .ok (.string (moS (k + 1))) w := by
 have : k = 0 ∨ k = 1 ∨ k = 2 ∨ k = 3 ∨ k = 4 ∨ k = 5 ∨ k = 6 ∨ k = 7 ∨ k = 8 ∨ k = 9 ∨ k = 10 ∨ k = 11 := by omega
 rcases this with h | h | h | h | h | h | h | h | h | h | h | h <;> subst h <;> rfl
theorem http_Parse (s : ByteArray) (w : World) (_hs : s.size ≤ 140737488351232) (hg : GlH w) :
  Calls Tryz.prog 136 #[.string s] w fun e w' => e = .returned (dpV (dateP s)) ∧ Ext w w' := by
 by_cases h29 : s.size = 29
 rotate_left
 ·have Hn := zi (show Value.tuple #[.int .i64 0, errV 2] = dpV (dateP s) by unfold dateP; rw [if_neg h29]; rfl)
  have hz : ((s.size : Int) == 29) = false := by rw [beq_eq_false_iff_ne]; omega
  go_enter Tryz.func136, Tryz.ntmps136
  go_wp2_with fail
  all_goals (go_ret2; exact ⟨ret_v Hn.out, Ext.refl _⟩)
 have Hp : dateP s = dateQ s (num2 (s.extract 5 7)) (num2 (s.extract 12 14)) (num2 (s.extract 14 16)) (num2 (s.extract 17 19)) (num2 (s.extract 20 22)) (num2 (s.extract 23 25)) (moA (s.extract 8 11) 12) := if_pos h29
 rw [Hp]; clear Hp
 obtain ⟨T1, hx1⟩ : ∃ T, s.extract 5 7 = T := ⟨_, rfl⟩
 obtain ⟨T2, hx2⟩ : ∃ T, s.extract 12 14 = T := ⟨_, rfl⟩
 obtain ⟨T3, hx3⟩ : ∃ T, s.extract 14 16 = T := ⟨_, rfl⟩
 obtain ⟨T4, hx4⟩ : ∃ T, s.extract 17 19 = T := ⟨_, rfl⟩
 obtain ⟨T5, hx5⟩ : ∃ T, s.extract 20 22 = T := ⟨_, rfl⟩
 obtain ⟨T6, hx6⟩ : ∃ T, s.extract 23 25 = T := ⟨_, rfl⟩
 obtain ⟨T7, hx7⟩ : ∃ T, s.extract 8 11 = T := ⟨_, rfl⟩
 obtain ⟨m, hM⟩ : ∃ m, moA T7 12 = m := ⟨_, rfl⟩
 have hm12 : m ≤ 12 := by rw [← hM]; exact moA_le T7 12
 rw [hx1, hx2, hx3, hx4, hx5, hx6, hx7, hM]
 have N1 := zi (fun w => http_number T1 w (by rw [← hx1, ByteArray.size_extract]; omega))
 have B1 := num2_bd T1
 generalize num2 T1 = d at *
 have N2 := zi (fun w => http_number T2 w (by rw [← hx2, ByteArray.size_extract]; omega))
 have B2 := num2_bd T2
 generalize num2 T2 = c at *
 have N3 := zi (fun w => http_number T3 w (by rw [← hx3, ByteArray.size_extract]; omega))
 have B3 := num2_bd T3
 generalize num2 T3 = y at *
 have N4 := zi (fun w => http_number T4 w (by rw [← hx4, ByteArray.size_extract]; omega))
 have B4 := num2_bd T4
 generalize num2 T4 = h at *
 have N5 := zi (fun w => http_number T5 w (by rw [← hx5, ByteArray.size_extract]; omega))
 have B5 := num2_bd T5
 generalize num2 T5 = mi at *
 have N6 := zi (fun w => http_number T6 w (by rw [← hx6, ByteArray.size_extract]; omega))
 have B6 := num2_bd T6
 generalize num2 T6 = se at *
 have Hbad := zi (fun m => @dateQ_bad s d c y h mi se m)
 have Hday := zi (fun m => @dateQ_day s d c y h mi se m)
 have Htxt := zi (fun m => @dateQ_txt s d c y h mi se m)
 have Hyes := zi (fun m => @dateQ_yes s d c y h mi se m)
 go_enter Tryz.func136, Tryz.ntmps136
 go_wp2_with fail
 have hE := (Ext.refl w).drew
 go_region_held3 (fun _ => True) (trivial)
  (first
   | (go_at_call_of 161 T1; refine (N1.out _).mono ?_; rintro e w2 ⟨rfl, hb2⟩; have hE := hE.trans hb2)
   | (go_at_call_of 161 T2; refine (N2.out _).mono ?_; rintro e w2 ⟨rfl, hb2⟩; have hE := hE.trans hb2)
   | (go_at_call_of 161 T3; refine (N3.out _).mono ?_; rintro e w2 ⟨rfl, hb2⟩; have hE := hE.trans hb2))
 go_wp2_with fail
 have hE := hE.drew
 go_region_held3 (fun _ => True) (trivial)
  (first
   | (go_at_call_of 161 T4; refine (N4.out _).mono ?_; rintro e w2 ⟨rfl, hb2⟩; have hE := hE.trans hb2)
   | (go_at_call_of 161 T5; refine (N5.out _).mono ?_; rintro e w2 ⟨rfl, hb2⟩; have hE := hE.trans hb2)
   | (go_at_call_of 161 T6; refine (N6.out _).mono ?_; rintro e w2 ⟨rfl, hb2⟩; have hE := hE.trans hb2))
 have hg' := hg.ext hE
 have c1 := hg'.monS (m := 1) (by decide) (by decide)
 have c2 := hg'.monS (m := 2) (by decide) (by decide)
 have c3 := hg'.monS (m := 3) (by decide) (by decide)
 have c4 := hg'.monS (m := 4) (by decide) (by decide)
 have c5 := hg'.monS (m := 5) (by decide) (by decide)
 have c6 := hg'.monS (m := 6) (by decide) (by decide)
 have c7 := hg'.monS (m := 7) (by decide) (by decide)
 have c8 := hg'.monS (m := 8) (by decide) (by decide)
 have c9 := hg'.monS (m := 9) (by decide) (by decide)
 have c10 := hg'.monS (m := 10) (by decide) (by decide)
 have c11 := hg'.monS (m := 11) (by decide) (by decide)
 have c12 := hg'.monS (m := 12) (by decide) (by decide)
 simp only [Nat.reduceSub] at c1 c2 c3 c4 c5 c6 c7 c8 c9 c10 c11 c12
 go_wp2_with fail
 have HM := zi hM; clear hM
 clear c1 c2 c3 c4 c5 c6 c7 c8 c9 c10 c11 c12
 go_loopw [10, 41] (fun m i wr => ∃ k : Nat, k ≤ 12 ∧ m = .int .i64 (moA T7 k : Nat) ∧ i = .int .i64 (k : Nat) ∧ wr = w2) (fun _ i _ => 12 - (intOf i).toNat)
 case atStart => exact ⟨0, by omega, rfl, rfl, rfl⟩
 case round =>
  obtain ⟨k, hk, hmk, rfl, rfl⟩ := hrel
  by_cases hlt : k < 12
  ·subst hmk
   have hix := mo_index k hlt
   unfold moV at hix
   generalize ht : moS (k + 1) = t at *
   cases he : (T7.toList == t.toList)
   ·have Hm := zi (show moA T7 (k + 1) = moA T7 k from moA_no (by rw [ht]; exact he))
    go_wp2_with fail
    go_roundw
    case rel => exact ⟨k + 1, by omega, by rw [Hm.out], by go_num, trivial⟩
    case measure => simp [intOf]; omega
   ·have Hm := zi (show moA T7 (k + 1) = k + 1 from moA_yes (by rw [ht]; exact he))
    go_wp2_with fail
    go_roundw
    case rel => exact ⟨k + 1, by omega, by rw [Hm.out]; go_num, by go_num, trivial⟩
    case measure => simp [intOf]; omega
  ·obtain rfl : k = 12 := by omega
   rw [HM.out] at hmk
   subst hmk
   have Hbad := zi (Hbad.out m)
   have Hday := zi (Hday.out m)
   have Htxt := zi (Htxt.out m)
   have Hyes := zi (Hyes.out m)
   by_cases a0 : d < 0
   ·have Hn := zi (Hbad.out (by omega))
    go_wp2_with fail
    all_goals (go_ret2; exact ⟨ret_v Hn.out.symm, hE⟩)
   by_cases a1 : c < 0
   ·have Hn := zi (Hbad.out (by omega))
    go_wp2_with fail
    all_goals (go_ret2; exact ⟨ret_v Hn.out.symm, hE⟩)
   by_cases a2 : y < 0
   ·have Hn := zi (Hbad.out (by omega))
    go_wp2_with fail
    all_goals (go_ret2; exact ⟨ret_v Hn.out.symm, hE⟩)
   by_cases a3 : h < 0
   ·have Hn := zi (Hbad.out (by omega))
    go_wp2_with fail
    all_goals (go_ret2; exact ⟨ret_v Hn.out.symm, hE⟩)
   by_cases a4 : 23 < h
   ·have Hn := zi (Hbad.out (by omega))
    go_wp2_with fail
    all_goals (go_ret2; exact ⟨ret_v Hn.out.symm, hE⟩)
   by_cases a5 : mi < 0
   ·have Hn := zi (Hbad.out (by omega))
    go_wp2_with fail
    all_goals (go_ret2; exact ⟨ret_v Hn.out.symm, hE⟩)
   by_cases a6 : 59 < mi
   ·have Hn := zi (Hbad.out (by omega))
    go_wp2_with fail
    all_goals (go_ret2; exact ⟨ret_v Hn.out.symm, hE⟩)
   by_cases a7 : se < 0
   ·have Hn := zi (Hbad.out (by omega))
    go_wp2_with fail
    all_goals (go_ret2; exact ⟨ret_v Hn.out.symm, hE⟩)
   by_cases a8 : 59 < se
   ·have Hn := zi (Hbad.out (by omega))
    go_wp2_with fail
    all_goals (go_ret2; exact ⟨ret_v Hn.out.symm, hE⟩)
   have Hok := zi (show ¬ (d < 0 ∨ c < 0 ∨ y < 0 ∨ h < 0 ∨ 23 < h ∨ mi < 0 ∨ 59 < mi ∨ se < 0 ∨ 59 < se) by omega)
   have hdy := http_Day (100 * c + y) m d _ (by omega) (by omega) hm12 (by omega) (by omega) hg'
   by_cases hok : okD (100 * c + y) m d
   rotate_left
   ·have Hn := zi (Hday.out hok)
    rw [dayV_no hok, show errV 1 = .iface 63 (.int .i64 1) from rfl] at hdy
    have Hd := zi hdy; clear hdy hok
    go_wp2_with fail
    refine Hd.out.mono ?_; rintro e w3 ⟨rfl, rfl⟩
    go_wp2_with fail
    all_goals (go_ret2; exact ⟨ret_v Hn.out.symm, hE⟩)
   rw [dayV_yes hok] at hdy
   have Hd := zi hdy; clear hdy
   obtain ⟨e0, e1⟩ := day_bd hok
   have Hyes := zi (Hyes.out Hok.out hok)
   unfold secN at Htxt Hyes
   clear hok
   generalize dayN (100 * c + y) m d = D at *
   have hfm := zi (fun w => http_Format (86400 * D + 3600 * h + 60 * mi + se) w (by omega) (by omega))
   cases hq : ((fmtS (86400 * D + 3600 * h + 60 * mi + se)).toList == s.toList)
   ·have Hn := zi (Htxt.out hq)
    go_wp2_with fail
    refine Hd.out.mono ?_; rintro e w3 ⟨rfl, rfl⟩
    go_wp2_with fail
    refine (hfm.out _ hg').mono ?_; rintro e w4 ⟨rfl, hb4⟩
    go_wp2_with fail
    all_goals (go_ret2; exact ⟨ret_v Hn.out.symm, hE.trans hb4⟩)
   ·have Hn := zi (Hyes.out hq)
    go_wp2_with fail
    refine Hd.out.mono ?_; rintro e w3 ⟨rfl, rfl⟩
    go_wp2_with fail
    refine (hfm.out _ hg').mono ?_; rintro e w4 ⟨rfl, hb4⟩
    go_wp2_with fail
    all_goals (go_ret2; exact ⟨ret_v Hn.out.symm, hE.trans hb4⟩)
end Go.Proofs.YtmckbcbdnckngaaGreatDoor

namespace Go.Proofs.YtmckbcbdnckngaaGreatDoor
open Go.RowKit

def getO (fs : List Fd) (name : ByteArray) : Option ByteArray := if 0 < (allS fs name).length then some (joinS (allS fs name)) else none
def getV (o : Option ByteArray) : Value := .tuple #[.string (o.getD ⟨#[]⟩), .bool o.isSome]
theorem getV_get (fs : List Fd) (name : ByteArray) : Value.tuple #[.string (joinS (allS fs name)), .bool (decide (0 < (allS fs name).length))] = getV (getO fs name) := by
 unfold getO
 cases h : allS fs name with
 | nil => rfl
 | cons a l =>
  rw [if_pos (by simp)]
  simp [getV]
def dateF (fs : List Fd) (name : ByteArray) : Option Int := (getO fs name).bind dateP
def dtV (o : Option Int) : Value := .tuple #[.int .i64 (o.getD 0), .bool o.isSome]
theorem getO_size {fs : List Fd} {name v : ByteArray} (h : getO fs name = some v) {n : Nat} (hn : fs.length = n)  : v.size ≤ sumF fs + 2 * n := by
 unfold getO at h
 split at h
 ·injection h with h
  subst h
  have a := joinS_size (allS fs name)
  have b := totS_all fs name
  have c := allS_len fs name n
  rw [List.take_of_length_le (by omega)] at c
  omega
 ·cases h
theorem field_GetO (A : Option Addr) (n c : Nat) (fs : List Fd) (name : ByteArray) (w : World) (hf : RdF w A n fs)
  (hn : n ≤ 1073741824) (hs : name.size ≤ 9223372036854775807) (hsz : Bsz 1048576 fs) (hT : sumF fs + 2 * n ≤ 70368744177664) :
  Calls Tryz.prog 17 #[.slice A n c, .string name] w fun e w' => e = .returned (getV (getO fs name)) ∧ Ext w w' := by
 rw [← getV_get]
 exact field_Get A n c fs name w hf hn hs 1048576 (by decide) hsz hT
theorem val_date (A : Option Addr) (n c : Nat) (fs : List Fd) (name : ByteArray) (w : World) (hf : RdF w A n fs)
  (hn : n ≤ 1073741824) (hs : name.size ≤ 9223372036854775807) (hsz : Bsz 1048576 fs) (hT : sumF fs + 2 * n ≤ 70368744177664) (hg : GlH w) :
  Calls Tryz.prog 138 #[.slice A n c, .string name] w fun e w' => e = .returned (dtV (dateF fs name)) ∧ Ext w w' := by
 have hG := field_GetO A n c fs name w hf hn hs hsz hT
 have Hv := zi (fun v h => Nat.le_trans (@getO_size fs name v h n hf.lenF) (show sumF fs + 2 * n ≤ 140737488351232 by omega))
 have Hd := zi (show dateF fs name = (getO fs name).bind dateP from rfl)
 generalize dateF fs name = D at *
 generalize getO fs name = o at *
 have HG := zi hG; clear hG
 go_enter Tryz.func138, Tryz.ntmps138
 go_wp2_with fail
 refine HG.out.mono ?_; rintro e w1 ⟨rfl, hb1⟩
 cases o with
 | none =>
  have HD := zi (show Value.tuple #[.int .i64 0, .bool false] = dtV D by rw [Hd.out]; rfl)
  rw [show getV none = .tuple #[.string ⟨#[]⟩, .bool false] from rfl]
  go_wp2_with fail
  go_ret2
  exact ⟨ret_v HD.out, hb1⟩
 | some v =>
  rw [show getV (some v) = .tuple #[.string v, .bool true] from rfl]
  have hP := http_Parse v
  have HD := zi (show D = dateP v from Hd.out)
  generalize dateP v = P at *
  have HP := zi hP; clear hP
  go_wp2_with fail
  refine (HP.out _ (Hv.out _ rfl) (hg.ext hb1)).mono ?_; rintro e w2 ⟨rfl, hb2⟩
  cases P with
  | none =>
   have HD := zi (show Value.tuple #[.int .i64 0, .bool false] = dtV D by rw [HD.out]; rfl)
   rw [show dpV none = .tuple #[.int .i64 0, .iface 63 (.int .i64 2)] from rfl]
   go_wp2_with fail
   go_region
   all_goals (try go_wp2_with fail)
   all_goals
    go_ret2
    exact ⟨ret_v HD.out, (hb1.trans hb2).drew⟩
  | some k =>
   have HD := zi (show Value.tuple #[.int .i64 k, .bool true] = dtV D by rw [HD.out]; rfl)
   rw [show dpV (some k) = .tuple #[.int .i64 k, .nilIface] from rfl]
   go_wp2_with fail
   go_region
   all_goals (try go_wp2_with fail)
   all_goals
    go_ret2
    exact ⟨ret_v HD.out, (hb1.trans hb2).drew⟩

def norm (s : St) : St := { s with ht := s.ht && s.ex, hm := s.hm && s.ex }
def isR (m : ByteArray) : Bool := (m.toList == [71, 69, 84]) || (m.toList == [72, 69, 65, 68])
def evA (im : Option ByteArray) (ius : Option Int) (s : St) : Bool := match im with
 | some v => !matS v s true
 | none => match ius with
  | some n => s.hm && decide (n < s.md)
  | none => false
def evB (rd : Bool) (inm : Option ByteArray) (ims : Option Int) (s : St) : Int := match inm with
 | some v => if matS v s false then (if rd then 2 else 3) else 1
 | none => match ims with
  | some n => if rd && s.hm && decide (s.md ≤ n) then 2 else 1
  | none => 1
def evS (rd : Bool) (im : Option ByteArray) (ius : Option Int) (inm : Option ByteArray) (ims : Option Int) (s : St) : Int := if evA im ius s then 3 else evB rd inm ims s
def imsN : ByteArray := ⟨#[105, 102, 45, 109, 111, 100, 105, 102, 105, 101, 100, 45, 115, 105, 110, 99, 101]⟩
def evF (m : ByteArray) (fs : List Fd) (s : St) : Int := evS (isR m) (getO fs imN) (dateF fs iusN) (getO fs inmN) (dateF fs imsN) (norm s)

theorem val_Evaluate (m : ByteArray) (A : Option Addr) (n c : Nat) (fs : List Fd) (st : St) (w : World) (hf : RdF w A n fs)
  (hn : n ≤ 1073741824) (hsz : Bsz 1048576 fs) (hT : sumF fs + 2 * n ≤ 70368744177664) (hT2 : sumF fs + 2 * n ≤ 1048576) (hg : GlH w) :
  Calls Tryz.prog 108 #[.string m, .slice A n c, .agg (stArr st)] w fun e w' => e = .returned (.int .i64 (evF m fs st)) ∧ Ext w w' := by
 have G1 := zi (fun w' (h : Ext w w') => field_GetO A n c fs imN w' (hf.ext h) hn (by decide) hsz hT)
 have D2 := zi (fun w' (h : Ext w w') => val_date A n c fs iusN w' (hf.ext h) hn (by decide) hsz hT (hg.ext h))
 have G3 := zi (fun w' (h : Ext w w') => field_GetO A n c fs inmN w' (hf.ext h) hn (by decide) hsz hT)
 have D4 := zi (fun w' (h : Ext w w') => val_date A n c fs imsN w' (hf.ext h) hn (by decide) hsz hT (hg.ext h))
 obtain ⟨R, hR⟩ : ∃ R, evF m fs st = R := ⟨_, rfl⟩
 rw [hR]
 unfold evF at hR
 have V1 := zi (fun v h => Nat.le_trans (@getO_size fs imN v h n hf.lenF) hT2)
 have V3 := zi (fun v h => Nat.le_trans (@getO_size fs inmN v h n hf.lenF) hT2)
 generalize dateF fs iusN = o2 at *
 generalize dateF fs imsN = o4 at *
 generalize getO fs imN = o1 at *
 generalize getO fs inmN = o3 at *
 have HI := zi (show isR m = ((m.toList == [71, 69, 84]) || (m.toList == [72, 69, 65, 68])) from rfl)
 generalize isR m = rd at *
 have HR := zi hR; clear hR
 have HB0 := zi (Blk.new w 187 (stArr st))
 have HE0 := zi ((Ext.refl w).alloc (.cells (stArr st) 187))
 go_enter Tryz.func108, Tryz.ntmps108
 go_upto_region 1 with fail
 go_cut [5] (fun x wx => x = .pointer (some ⟨w.heap.size, 0, none⟩) ∧ Blk wx w.heap.size 187 (stArr (norm st)) ∧ Ext w wx)
 case first =>
  obtain ⟨ex, ht, hm, tw, tt, md⟩ := st
  have HBo := HB0.out
  have HEo := HE0.out
  have c0 : (w.alloc (.cells (stArr ⟨ex, ht, hm, tw, tt, md⟩) 187)).cell? ⟨w.heap.size, 0, none⟩ = some (.bool ex) := HBo.cell 0
  have c1 : (w.alloc (.cells (stArr ⟨ex, ht, hm, tw, tt, md⟩) 187)).cell? ⟨w.heap.size, 1, none⟩ = some (.bool ht) := HBo.cell 1
  have c2 : (w.alloc (.cells (stArr ⟨ex, ht, hm, tw, tt, md⟩) 187)).cell? ⟨w.heap.size, 2, none⟩ = some (.bool hm) := HBo.cell 2
  cases ht <;> cases hm
  all_goals
   go_wp2_with fail
   go_meet
   exact ⟨rfl, Blk.new w _ _, (Ext.refl w).alloc _⟩
 case rest =>
  obtain ⟨rfl, hB, hE⟩ := hcut
  obtain ⟨S, hS⟩ : ∃ S, norm st = S := ⟨_, rfl⟩
  rw [hS] at hB HR
  clear hS HB0 HE0
  obtain ⟨ex, ht, hm, tw, tt, md⟩ := S
  have HA1 := zi (show evA o1 o2 ⟨ex, ht, hm, tw, tt, md⟩ = true → 3 = R from fun h => by rw [← HR.out]; unfold evS; rw [if_pos h])
  have HA0 := zi (show evA o1 o2 ⟨ex, ht, hm, tw, tt, md⟩ = false → evB rd o3 o4 ⟨ex, ht, hm, tw, tt, md⟩ = R from fun h => by rw [← HR.out]; unfold evS; rw [if_neg (by rw [h]; decide)])
  clear HR
  have HC := zi (show ∀ w', Ext wc w' → w'.cell? ⟨w.heap.size, 0, none⟩ = some (.bool ex) ∧ w'.cell? ⟨w.heap.size, 1, none⟩ = some (.bool ht) ∧ w'.cell? ⟨w.heap.size, 2, none⟩ = some (.bool hm) ∧ w'.cell? ⟨w.heap.size, 3, none⟩ = some (.bool tw) ∧ w'.cell? ⟨w.heap.size, 4, none⟩ = some (.string tt) ∧ w'.cell? ⟨w.heap.size, 5, none⟩ = some (.int .i64 md) from fun w' h => ⟨(hB.ext h).cell 0, (hB.ext h).cell 1, (hB.ext h).cell 2, (hB.ext h).cell 3, (hB.ext h).cell 4, (hB.ext h).cell 5⟩)
  clear hB
  have hE1 := Ext.refl wc
  have hi1 : (m.toList == [71, 69, 84]) = true ∨ (m.toList == [71, 69, 84]) = false := by cases (m.toList == [71, 69, 84]) <;> simp
  have hi2 : (m.toList == [72, 69, 65, 68]) = true ∨ (m.toList == [72, 69, 65, 68]) = false := by cases (m.toList == [72, 69, 65, 68]) <;> simp
  go_upto_region 2 with fail
  go_cut [7] (fun x wx => x = .bool rd ∧ wx = wc)
  case first =>
   have HI2 := HI.out
   rcases hi1 with h1 | h1 <;> rcases hi2 with h2 | h2
   all_goals
    rw [h1, h2] at HI2
    subst HI2
    go_wp2_with fail
    go_meet
    exact ⟨rfl, rfl⟩
  case rest =>
   obtain ⟨rfl, rfl⟩ := hcut
   clear hi1 hi2 HI
   go_wp2_with fail
   refine (G1.out _ hE).mono ?_; rintro e w2 ⟨rfl, hb2⟩
   cases o1 with
   | none =>
    rw [show getV none = .tuple #[.string ⟨#[]⟩, .bool false] from rfl]
    go_wp2_with fail
    refine (D2.out _ (hE.trans hb2)).mono ?_; rintro e w3 ⟨rfl, hb3⟩
    have hEa := hb2.trans hb3
    obtain ⟨d0, d1, d2, d3, d4, d5⟩ := HC.out _ hEa
    cases o2 with
    | none =>
     rw [show dtV none = .tuple #[.int .i64 0, .bool false] from rfl]
     have HV := zi (HA0.out rfl)
     go_wp2_with fail
     refine (G3.out _ (hE.trans hEa)).mono ?_; rintro e w4 ⟨rfl, hb4⟩
     cases o3 with
     | none =>
      rw [show getV none = .tuple #[.string ⟨#[]⟩, .bool false] from rfl]
      have hEb := hEa.trans hb4
      go_wp2_with fail
      refine (D4.out _ (hE.trans hEb)).mono ?_; rintro e w5 ⟨rfl, hb5⟩
      have hEc := hEb.trans hb5
      obtain ⟨c0, c1, c2, c3, c4, c5⟩ := HC.out _ hEc
      cases o4 with
      | none =>
       rw [show dtV none = .tuple #[.int .i64 0, .bool false] from rfl]
       have HL := zi (show 1 = R from HV.out)
       go_wp2_with fail
       go_ret
       exact ⟨ret_i HL.out, hE.trans hEc⟩
      | some j =>
       rw [show dtV (some j) = .tuple #[.int .i64 j, .bool true] from rfl]
       cases rd
       ·have HL := zi (show 1 = R from HV.out)
        go_wp2_with fail
        go_ret
        exact ⟨ret_i HL.out, hE.trans hEc⟩
       ·cases hm
        ·have HL := zi (show 1 = R from HV.out)
         go_wp2_with fail
         go_ret
         exact ⟨ret_i HL.out, hE.trans hEc⟩
        ·have HL := zi (show (if decide (md ≤ j) then 2 else 1) = R from HV.out)
         by_cases hj : md ≤ j
         ·rw [decide_eq_true hj] at HL
          go_wp2_with fail
          go_ret
          exact ⟨ret_i HL.out, hE.trans hEc⟩
         ·rw [decide_eq_false hj] at HL
          go_wp2_with fail
          go_ret
          exact ⟨ret_i HL.out, hE.trans hEc⟩
     | some u =>
      rw [show getV (some u) = .tuple #[.string u, .bool true] from rfl]
      have hEb := hEa.trans hb4
      obtain ⟨c0, c1, c2, c3, c4, c5⟩ := HC.out _ hEb
      have HL := zi (show (if matS u ⟨ex, ht, hm, tw, tt, md⟩ false then (if rd then 2 else 3) else 1) = R from HV.out)
      have hMa := fun w => val_matches u ⟨ex, ht, hm, tw, tt, md⟩ false w (V3.out _ rfl)
      generalize matS u ⟨ex, ht, hm, tw, tt, md⟩ false = q at *
      have HM := zi hMa; clear hMa
      go_wp2_with fail
      refine (HM.out _).mono ?_; rintro e w5 ⟨rfl, hb5⟩
      have hEc := hEb.trans hb5
      cases q
      ·go_wp2_with fail
       go_ret
       exact ⟨ret_i HL.out, hE.trans hEc⟩
      ·cases rd
       ·go_wp2_with fail
        go_ret
        exact ⟨ret_i HL.out, hE.trans hEc⟩
       ·go_wp2_with fail
        go_ret
        exact ⟨ret_i HL.out, hE.trans hEc⟩
    | some k =>
     rw [show dtV (some k) = .tuple #[.int .i64 k, .bool true] from rfl]
     cases hm
     ·skip
      have HV := zi (HA0.out rfl)
      go_wp2_with fail
      refine (G3.out _ (hE.trans hEa)).mono ?_; rintro e w4 ⟨rfl, hb4⟩
      cases o3 with
      | none =>
       rw [show getV none = .tuple #[.string ⟨#[]⟩, .bool false] from rfl]
       have hEb := hEa.trans hb4
       go_wp2_with fail
       refine (D4.out _ (hE.trans hEb)).mono ?_; rintro e w5 ⟨rfl, hb5⟩
       have hEc := hEb.trans hb5
       obtain ⟨c0, c1, c2, c3, c4, c5⟩ := HC.out _ hEc
       cases o4 with
       | none =>
        rw [show dtV none = .tuple #[.int .i64 0, .bool false] from rfl]
        have HL := zi (show 1 = R from HV.out)
        go_wp2_with fail
        go_ret
        exact ⟨ret_i HL.out, hE.trans hEc⟩
       | some j =>
        rw [show dtV (some j) = .tuple #[.int .i64 j, .bool true] from rfl]
        cases rd
        ·have HL := zi (show 1 = R from HV.out)
         go_wp2_with fail
         go_ret
         exact ⟨ret_i HL.out, hE.trans hEc⟩
        ·have HL := zi (show 1 = R from HV.out)
         go_wp2_with fail
         go_ret
         exact ⟨ret_i HL.out, hE.trans hEc⟩
      | some u =>
       rw [show getV (some u) = .tuple #[.string u, .bool true] from rfl]
       have hEb := hEa.trans hb4
       obtain ⟨c0, c1, c2, c3, c4, c5⟩ := HC.out _ hEb
       have HL := zi (show (if matS u ⟨ex, ht, false, tw, tt, md⟩ false then (if rd then 2 else 3) else 1) = R from HV.out)
       have hMa := fun w => val_matches u ⟨ex, ht, false, tw, tt, md⟩ false w (V3.out _ rfl)
       generalize matS u ⟨ex, ht, false, tw, tt, md⟩ false = q at *
       have HM := zi hMa; clear hMa
       go_wp2_with fail
       refine (HM.out _).mono ?_; rintro e w5 ⟨rfl, hb5⟩
       have hEc := hEb.trans hb5
       cases q
       ·go_wp2_with fail
        go_ret
        exact ⟨ret_i HL.out, hE.trans hEc⟩
       ·cases rd
        ·go_wp2_with fail
         go_ret
         exact ⟨ret_i HL.out, hE.trans hEc⟩
        ·go_wp2_with fail
         go_ret
         exact ⟨ret_i HL.out, hE.trans hEc⟩
     ·by_cases hk : k < md
      ·have HL := zi (HA1.out (decide_eq_true hk))
       go_wp2_with fail
       go_ret
       exact ⟨ret_i HL.out, hE.trans hEa⟩
      ·have hk2 := decide_eq_false hk
       have HV := zi (HA0.out hk2)
       go_wp2_with fail
       refine (G3.out _ (hE.trans hEa)).mono ?_; rintro e w4 ⟨rfl, hb4⟩
       cases o3 with
       | none =>
        rw [show getV none = .tuple #[.string ⟨#[]⟩, .bool false] from rfl]
        have hEb := hEa.trans hb4
        go_wp2_with fail
        refine (D4.out _ (hE.trans hEb)).mono ?_; rintro e w5 ⟨rfl, hb5⟩
        have hEc := hEb.trans hb5
        obtain ⟨c0, c1, c2, c3, c4, c5⟩ := HC.out _ hEc
        cases o4 with
        | none =>
         rw [show dtV none = .tuple #[.int .i64 0, .bool false] from rfl]
         have HL := zi (show 1 = R from HV.out)
         go_wp2_with fail
         go_ret
         exact ⟨ret_i HL.out, hE.trans hEc⟩
        | some j =>
         rw [show dtV (some j) = .tuple #[.int .i64 j, .bool true] from rfl]
         cases rd
         ·have HL := zi (show 1 = R from HV.out)
          go_wp2_with fail
          go_ret
          exact ⟨ret_i HL.out, hE.trans hEc⟩
         ·have HL := zi (show (if decide (md ≤ j) then 2 else 1) = R from HV.out)
          by_cases hj : md ≤ j
          ·rw [decide_eq_true hj] at HL
           go_wp2_with fail
           go_ret
           exact ⟨ret_i HL.out, hE.trans hEc⟩
          ·rw [decide_eq_false hj] at HL
           go_wp2_with fail
           go_ret
           exact ⟨ret_i HL.out, hE.trans hEc⟩
       | some u =>
        rw [show getV (some u) = .tuple #[.string u, .bool true] from rfl]
        have hEb := hEa.trans hb4
        obtain ⟨c0, c1, c2, c3, c4, c5⟩ := HC.out _ hEb
        have HL := zi (show (if matS u ⟨ex, ht, true, tw, tt, md⟩ false then (if rd then 2 else 3) else 1) = R from HV.out)
        have hMa := fun w => val_matches u ⟨ex, ht, true, tw, tt, md⟩ false w (V3.out _ rfl)
        generalize matS u ⟨ex, ht, true, tw, tt, md⟩ false = q at *
        have HM := zi hMa; clear hMa
        go_wp2_with fail
        refine (HM.out _).mono ?_; rintro e w5 ⟨rfl, hb5⟩
        have hEc := hEb.trans hb5
        cases q
        ·go_wp2_with fail
         go_ret
         exact ⟨ret_i HL.out, hE.trans hEc⟩
        ·cases rd
         ·go_wp2_with fail
          go_ret
          exact ⟨ret_i HL.out, hE.trans hEc⟩
         ·go_wp2_with fail
          go_ret
          exact ⟨ret_i HL.out, hE.trans hEc⟩
   | some v =>
    rw [show getV (some v) = .tuple #[.string v, .bool true] from rfl]
    obtain ⟨d0, d1, d2, d3, d4, d5⟩ := HC.out _ hb2
    have hMa := fun w => val_matches v ⟨ex, ht, hm, tw, tt, md⟩ true w (V1.out _ rfl)
    have HQ := zi (show evA (some v) o2 ⟨ex, ht, hm, tw, tt, md⟩ = !matS v ⟨ex, ht, hm, tw, tt, md⟩ true from rfl)
    generalize matS v ⟨ex, ht, hm, tw, tt, md⟩ true = q0 at *
    have HM := zi hMa; clear hMa
    go_wp2_with fail
    refine (HM.out _).mono ?_; rintro e w3 ⟨rfl, hb3⟩
    have hEa := hb2.trans hb3
    cases q0
    ·have HL := zi (HA1.out HQ.out)
     go_wp2_with fail
     go_ret
     exact ⟨ret_i HL.out, hE.trans hEa⟩
    ·skip
     have HV := zi (HA0.out HQ.out)
     go_wp2_with fail
     refine (G3.out _ (hE.trans hEa)).mono ?_; rintro e w4 ⟨rfl, hb4⟩
     cases o3 with
     | none =>
      rw [show getV none = .tuple #[.string ⟨#[]⟩, .bool false] from rfl]
      have hEb := hEa.trans hb4
      go_wp2_with fail
      refine (D4.out _ (hE.trans hEb)).mono ?_; rintro e w5 ⟨rfl, hb5⟩
      have hEc := hEb.trans hb5
      obtain ⟨c0, c1, c2, c3, c4, c5⟩ := HC.out _ hEc
      cases o4 with
      | none =>
       rw [show dtV none = .tuple #[.int .i64 0, .bool false] from rfl]
       have HL := zi (show 1 = R from HV.out)
       go_wp2_with fail
       go_ret
       exact ⟨ret_i HL.out, hE.trans hEc⟩
      | some j =>
       rw [show dtV (some j) = .tuple #[.int .i64 j, .bool true] from rfl]
       cases rd
       ·have HL := zi (show 1 = R from HV.out)
        go_wp2_with fail
        go_ret
        exact ⟨ret_i HL.out, hE.trans hEc⟩
       ·cases hm
        ·have HL := zi (show 1 = R from HV.out)
         go_wp2_with fail
         go_ret
         exact ⟨ret_i HL.out, hE.trans hEc⟩
        ·have HL := zi (show (if decide (md ≤ j) then 2 else 1) = R from HV.out)
         by_cases hj : md ≤ j
         ·rw [decide_eq_true hj] at HL
          go_wp2_with fail
          go_ret
          exact ⟨ret_i HL.out, hE.trans hEc⟩
         ·rw [decide_eq_false hj] at HL
          go_wp2_with fail
          go_ret
          exact ⟨ret_i HL.out, hE.trans hEc⟩
     | some u =>
      rw [show getV (some u) = .tuple #[.string u, .bool true] from rfl]
      have hEb := hEa.trans hb4
      obtain ⟨c0, c1, c2, c3, c4, c5⟩ := HC.out _ hEb
      have HL := zi (show (if matS u ⟨ex, ht, hm, tw, tt, md⟩ false then (if rd then 2 else 3) else 1) = R from HV.out)
      have hMa := fun w => val_matches u ⟨ex, ht, hm, tw, tt, md⟩ false w (V3.out _ rfl)
      generalize matS u ⟨ex, ht, hm, tw, tt, md⟩ false = q at *
      have HM := zi hMa; clear hMa
      go_wp2_with fail
      refine (HM.out _).mono ?_; rintro e w5 ⟨rfl, hb5⟩
      have hEc := hEb.trans hb5
      cases q
      ·go_wp2_with fail
       go_ret
       exact ⟨ret_i HL.out, hE.trans hEc⟩
      ·cases rd
       ·go_wp2_with fail
        go_ret
        exact ⟨ret_i HL.out, hE.trans hEc⟩
       ·go_wp2_with fail
        go_ret
        exact ⟨ret_i HL.out, hE.trans hEc⟩
end Go.Proofs.YtmckbcbdnckngaaGreatDoor

namespace Go.Proofs.YtmckbcbdnckngaaGreatDoor
open Go.RowKit

end Go.Proofs.YtmckbcbdnckngaaGreatDoor

namespace Go.Proofs.YtmckbcbdnckngaaGreatDoor
open Go.RowKit

end Go.Proofs.YtmckbcbdnckngaaGreatDoor

namespace Go.Proofs.YtmckbcbdnckngaaGreatDoor
open Go.RowKit

end Go.Proofs.YtmckbcbdnckngaaGreatDoor

namespace Go.Proofs.YtmckbcbdnckngaaGreatDoor
open Go.RowKit

def Pd2 (o : Option Int) (e : Ending) : Prop := ∃ n : Int, e = .returned (.tuple #[.int .i64 n, .bool o.isSome]) ∧ ∀ k, o = some k → n = k
theorem Pd2.no {o : Option Int} (h : o = none) {n : Int} {b : Bool} (hb : b = false) : Pd2 o (.returned (.tuple #[.int .i64 n, .bool b])) := by
 subst h; subst hb; exact ⟨n, rfl, fun k e => by cases e⟩
theorem Pd2.yes {o : Option Int} {n : Int} {b : Bool} (h : o = if b then some n else none) : Pd2 o (.returned (.tuple #[.int .i64 n, .bool b])) := by
 subst h
 refine ⟨n, by cases b <;> rfl, fun k e => ?_⟩
 cases b
 ·cases e
 ·injection e
end Go.Proofs.YtmckbcbdnckngaaGreatDoor

namespace Go.Proofs.YtmckbcbdnckngaaGreatDoor
open Go.RowKit

end Go.Proofs.YtmckbcbdnckngaaGreatDoor

namespace Go.Proofs.YtmckbcbdnckngaaGreatDoor
open Go.RowKit

end Go.Proofs.YtmckbcbdnckngaaGreatDoor

namespace Go.Proofs.YtmckbcbdnckngaaGreatDoor
open Go.RowKit

def irN : ByteArray := ⟨#[105, 102, 45, 114, 97, 110, 103, 101]⟩
def urV (v : ByteArray) (st : St) : Bool := match tagS v with
 | some t => st.ex && st.ht && (!t.1 && !st.tw && eqT t.2 st.tt)
 | none => match dateP v with
  | some n => st.ex && st.hm && (n == st.md)
  | none => false
def urF (m : ByteArray) (fs : List Fd) (st : St) : Bool := (m.toList == [71, 69, 84]) && (match getO fs irN with | none => true | some v => urV v st)
theorem tagV_some (t : Bool × ByteArray) : tagV (some t) = .agg #[.bool t.1, .string t.2] := rfl
theorem tagV_none : tagV none = .agg #[.bool false, .string ⟨#[]⟩] := rfl
theorem errV_some (t : Bool × ByteArray) : errV (tagE (some t)) = .nilIface := rfl
theorem errV_none : errV (tagE (none : Option (Bool × ByteArray))) = .iface 63 (.int .i64 2) := rfl
theorem dpV_some (n : Int) : dpV (some n) = .tuple #[.int .i64 n, .nilIface] := rfl
theorem dpV_none : dpV none = .tuple #[.int .i64 0, .iface 63 (.int .i64 2)] := rfl
theorem ret_b {a b : Bool} (h : a = b) : Ending.returned (.bool a) = .returned (.bool b) := by rw [h]

theorem val_UseRange (m : ByteArray) (A : Option Addr) (n c : Nat) (fs : List Fd) (st : St) (w : World) (hf : RdF w A n fs)
  (hn : n ≤ 1073741824) (hsz : Bsz 1048576 fs) (hT : sumF fs + 2 * n ≤ 70368744177664) (hT2 : sumF fs + 2 * n ≤ 1048576) (hg : GlH w) :
  Calls Tryz.prog 126 #[.string m, .slice A n c, .agg (stArr st)] w fun e w' => e = .returned (.bool (urF m fs st)) ∧ Ext w w' := by
 have G1 := zi (fun w' (h : Ext w w') => field_GetO A n c fs irN w' (hf.ext h) hn (by decide) hsz hT)
 have V1 := zi (fun v h => Nat.le_trans (@getO_size fs irN v h n hf.lenF) hT2)
 obtain ⟨R, hR⟩ : ∃ R, urF m fs st = R := ⟨_, rfl⟩
 rw [hR]
 unfold urF at hR
 generalize getO fs irN = o1 at *
 obtain ⟨ex, ht, hm, tw, tt, md⟩ := st
 have hE0 := (Ext.refl w).alloc (.cells (stArr ⟨ex, ht, hm, tw, tt, md⟩) 187)
 have hB := Blk.new w 187 (stArr ⟨ex, ht, hm, tw, tt, md⟩)
 have HC := zi (show ∀ w', Ext (w.alloc (.cells (stArr ⟨ex, ht, hm, tw, tt, md⟩) 187)) w' → (w'.cell? ⟨w.heap.size, 0, none⟩ = some (.bool ex) ∧ w'.cell? ⟨w.heap.size, 1, none⟩ = some (.bool ht) ∧ w'.cell? ⟨w.heap.size, 2, none⟩ = some (.bool hm) ∧ w'.cell? ⟨w.heap.size, 3, none⟩ = some (.bool tw) ∧ w'.cell? ⟨w.heap.size, 4, none⟩ = some (.string tt) ∧ w'.cell? ⟨w.heap.size, 5, none⟩ = some (.int .i64 md)) ∧ w.heap.size < w'.heap.size from fun w' h => ⟨⟨(hB.ext h).cell 0, (hB.ext h).cell 1, (hB.ext h).cell 2, (hB.ext h).cell 3, (hB.ext h).cell 4, (hB.ext h).cell 5⟩, (hB.ext h).lt⟩)
 have HE := zi hE0
 clear hB hE0
 cases hG : (m.toList == [71, 69, 84])
 ·rw [hG] at hR
  have HL := zi (show false = R from hR)
  clear hR
  go_enter Tryz.func126, Tryz.ntmps126
  go_wp2_with fail
  go_ret
  exact ⟨ret_b HL.out, HE.out⟩
 rw [hG, Bool.true_and] at hR
 have HR := zi hR; clear hR
 go_enter Tryz.func126, Tryz.ntmps126
 go_wp2_with fail
 refine (G1.out _ HE.out).mono ?_; rintro e w1 ⟨rfl, hb1⟩
 simp only [getV]
 cases o1 with
 | none =>
  have HL := zi (show true = R from HR.out)
  simp only [Option.getD_none, Option.isSome_none]
  go_wp2_with fail
  go_ret
  exact ⟨ret_b HL.out, HE.out.trans hb1⟩
 | some v =>
  simp only [Option.getD_some, Option.isSome_some]
  have hv := V1.out v rfl
  have HR := zi (show urV v ⟨ex, ht, hm, tw, tt, md⟩ = R from HR.out)
  unfold urV at HR
  have hP := fun w => http_Parse v w (Nat.le_trans hv (by decide))
  generalize dateP v = P at *
  have HP := zi hP; clear hP
  have hRd := fun w => val_ReadTag v w hv
  generalize tagS v = o2 at *
  have HRd := zi hRd; clear hRd
  go_wp2_with fail
  refine (HRd.out _).mono ?_; rintro e w2 ⟨rfl, hb2⟩
  have hE2 := hb1.trans hb2
  obtain ⟨⟨c0, c1, c2, c3, c4, c5⟩, hsz2⟩ := HC.out _ hE2
  cases o2 with
  | some t =>
   obtain ⟨kw, kt⟩ := t
   rw [tagV_some, errV_some]
   cases ex
   ·have HL := zi (show false = R from HR.out)
    go_wp2_with fail
    go_ret
    exact ⟨ret_b HL.out, (HE.out.trans hE2).alloc _⟩
   ·cases ht
    ·have HL := zi (show false = R from HR.out)
     go_wp2_with fail
     go_ret
     exact ⟨ret_b HL.out, (HE.out.trans hE2).alloc _⟩
    ·have HL := zi (show (!kw && !tw && eqT kt tt) = R from HR.out)
     go_wp2_with fail
     refine (val_Strong kw tw kt tt _).mono ?_; rintro e w3 ⟨rfl, hb3⟩
     go_wp2_with fail
     go_ret
     exact ⟨ret_b HL.out, ((HE.out.trans hE2).alloc _).trans hb3⟩
  | none =>
   rw [tagV_none, errV_none]
   go_wp2_with fail
   refine (HP.out _ (hg.ext ((HE.out.trans hE2).alloc _))).mono ?_; rintro e w3 ⟨rfl, hb3⟩
   have hE3 := (hE2.alloc _).trans hb3
   obtain ⟨⟨d0, d1, d2, d3, d4, d5⟩, hsz3⟩ := HC.out _ hE3
   cases P with
   | none =>
    have HL := zi (show false = R from HR.out)
    rw [dpV_none]
    go_wp2_with fail
    go_ret
    exact ⟨ret_b HL.out, HE.out.trans hE3⟩
   | some k =>
    have HL := zi (show (ex && hm && (k == md)) = R from HR.out)
    rw [dpV_some]
    cases ex
    ·go_wp2_with fail
     go_ret
     exact ⟨ret_b HL.out, HE.out.trans hE3⟩
    ·cases hm
     ·go_wp2_with fail
      go_ret
      exact ⟨ret_b HL.out, HE.out.trans hE3⟩
     ·go_wp2_with fail
      go_ret
      exact ⟨ret_b HL.out, HE.out.trans hE3⟩

end Go.Proofs.YtmckbcbdnckngaaGreatDoor

namespace Go.Proofs.YtmckbcbdnckngaaGreatDoor
open Go.RowKit

def marks : List UInt8 := [33, 35, 36, 37, 38, 39, 42, 43, 45, 46, 94, 95, 96, 124, 126]
def tcharB (c : UInt8) : Bool := (48 ≤ c && c ≤ 57) || (97 ≤ c && c ≤ 122) || (65 ≤ c && c ≤ 90) || marks.contains c
def tokS (s : ByteArray) : Bool := s.data.toList.all tcharB && decide (0 < s.size)

theorem tchar_alnum {c : UInt8} (h : ((48 : Int) ≤ c.toNat ∧ (c.toNat : Int) ≤ 57) ∨ ((97 : Int) ≤ c.toNat ∧ (c.toNat : Int) ≤ 122) ∨ ((65 : Int) ≤ c.toNat ∧ (c.toNat : Int) ≤ 90)) : tcharB c = true := by
 unfold tcharB
 rcases h with h | h | h
 ·have : (48 ≤ c && c ≤ 57) = true := by simp [UInt8.le_iff_toNat_le]; omega
  simp [this]
 ·have : (97 ≤ c && c ≤ 122) = true := by simp [UInt8.le_iff_toNat_le]; omega
  simp [this]
 ·have : (65 ≤ c && c ≤ 90) = true := by simp [UInt8.le_iff_toNat_le]; omega
  simp [this]
theorem tchar_mark {c : UInt8} (h1 : ¬ ((48 : Int) ≤ c.toNat ∧ (c.toNat : Int) ≤ 57)) (h2 : ¬ ((97 : Int) ≤ c.toNat ∧ (c.toNat : Int) ≤ 122)) (h3 : ¬ ((65 : Int) ≤ c.toNat ∧ (c.toNat : Int) ≤ 90)) : tcharB c = marks.contains c := by
 unfold tcharB
 have a1 : (48 ≤ c && c ≤ 57) = false := by
  rw [Bool.eq_false_iff]; simp [UInt8.le_iff_toNat_le]; omega
 have a2 : (97 ≤ c && c ≤ 122) = false := by
  rw [Bool.eq_false_iff]; simp [UInt8.le_iff_toNat_le]; omega
 have a3 : (65 ≤ c && c ≤ 90) = false := by
  rw [Bool.eq_false_iff]; simp [UInt8.le_iff_toNat_le]; omega
 rw [a1, a2, a3]; rfl
theorem tok_step {s : ByteArray} {k : Nat} (h : k < s.size) (h1 : (s.data.toList.take k).all tcharB = true) (h2 : tcharB s.data[k] = true) : (s.data.toList.take (k + 1)).all tcharB = true := by
 rw [take_step _ k (by simpa using h), List.all_append, h1]
 simpa using h2
theorem tok_no {s : ByteArray} {k : Nat} (h : k < s.size) (h2 : tcharB s.data[k] = false) : false = tokS s := by
 have h3 : s.data.toList.all tcharB = false := by
  rw [List.all_eq_false]
  exact ⟨s.data[k], by simp, by simp [h2]⟩
 rw [tokS, h3]; rfl
theorem tok_end {s : ByteArray} (h1 : (s.data.toList.take s.size).all tcharB = true) : tokS s = decide (0 < s.size) := by
 rw [List.take_of_length_le (by simp)] at h1
 rw [tokS, h1, Bool.true_and]
theorem ne_empty (s : ByteArray) : (!(s.toList == (⟨#[]⟩ : ByteArray).toList)) = decide (0 < s.size) := by
 rw [Bool.eq_iff_iff]
 simp only [Bool.not_eq_true', decide_eq_true_eq]
 rw [← Bool.not_eq_true, eqS_iff]
 constructor
 ·intro h
  rcases Nat.eq_zero_or_pos s.size with h0 | h0
  ·exact absurd (ByteArray.size_eq_zero_iff.1 h0) h
  ·exact h0
 ·intro h e; subst e; exact absurd h (by decide)

theorem indexMarks (c : UInt8) : decide (0 ≤ Lib.indexByte marks c) = marks.contains c := (Lib.contains_iff_indexByte _ _).symm

theorem syntax_tchar (c : UInt8) (w : World) :
    Calls Tryz.prog 122 #[.int .u8 (c.toNat : Int)] w fun e w' => e = .returned (.bool (tcharB c)) ∧ Ext w w' := by
  go_enter Tryz.func122, Tryz.ntmps122
  have h1 := zi (@tchar_alnum c)
  have h2 := zi (@tchar_mark c)
  have hi := Tryz.strings_IndexByte ⟨marks.toArray⟩ (c.toNat : Int)
  rw [show ((c.toNat : Int)).toNat.toUInt8 = c by simp, show (⟨marks.toArray⟩ : ByteArray).data.toList = marks from rfl] at hi
  have Hi := zi hi; clear hi
  go_wp2_with fail
  all_goals first
    | (go_ret; exact ⟨congrArg (fun x => Ending.returned (.bool x)) (h1.out (by omega)).symm, Ext.refl _⟩)
    | (refine (Hi.out _).mono ?_; rintro e w1 ⟨rfl, rfl⟩
       have hx := h2.out (by omega) (by omega) (by omega)
       rw [← indexMarks] at hx
       generalize Lib.indexByte marks c = I at *
       have Hx := zi hx; clear hx
       go_wp2_with fail
       all_goals (go_ret; refine ⟨congrArg (fun x => Ending.returned (.bool x)) ?_, Ext.refl _⟩; rw [Hx.out] <;> simp <;> omega))

theorem syntax_Token (s : ByteArray) (w : World) (hs : s.size ≤ 4611686018427387904) :
  Calls Tryz.prog 99 #[.string s] w fun e w' => e = .returned (.bool (tokS s)) ∧ Ext w w' := by
 go_enter Tryz.func99, Tryz.ntmps99
 go_wp2_with fail
 go_loopw [6] (fun i wr => ∃ k, k ≤ s.size ∧ i = .int .i64 (k : Nat) ∧ (s.data.toList.take k).all tcharB = true ∧ Ext w wr) (fun i _ => s.size - (intOf i).toNat)
 case atStart => exact ⟨0, Nat.zero_le _, rfl, rfl, Ext.refl _⟩
 case round =>
  obtain ⟨k, hk, rfl, hall, hbr⟩ := hrel
  by_cases hlt : k < s.size
  ·have Hst := zi (tok_step hlt hall); clear hall
   have Hno := zi (tok_no hlt)
   have Hc := zi (syntax_tchar s.data[k])
   go_wp2_with fail
   refine (Hc.out _).mono ?_; rintro e w2 ⟨rfl, hb2⟩
   generalize tcharB s.data[k] = b at *
   cases b
   ·go_wp2_with fail
    go_ret
    exact ⟨congrArg (fun x => Ending.returned (.bool x)) (Hno.out trivial), hbr.trans hb2⟩
   ·go_wp2_with fail
    go_roundw
    case rel => exact ⟨k + 1, by omega, by go_num, Hst.out trivial, hbr.trans hb2⟩
    case measure => simp [intOf]; omega
  ·obtain rfl : k = s.size := by omega
   have He := zi ((tok_end hall).trans (ne_empty s).symm); clear hall
   go_wp2_with fail
   all_goals (go_ret; exact ⟨congrArg (fun x => Ending.returned (.bool x)) (by simpa using He.out.symm), hbr⟩)

end Go.Proofs.YtmckbcbdnckngaaGreatDoor

namespace Go.Proofs.YtmckbcbdnckngaaGreatDoor
open Go.RowKit

end Go.Proofs.YtmckbcbdnckngaaGreatDoor
