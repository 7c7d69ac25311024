
/- The walk of the method element, an arm a theorem. -/
import Derived.Test.YtaebbnadmfbdjaaDoorElem0
import Derived.Deep.RegionLaw
set_option linter.unusedSimpArgs false
set_option linter.unusedVariables false
namespace Go.Proofs.YtaebbnadmfbdjaaDoor
open Go.RowKit

theorem dir_lst (a b : Int) (w : World) : Calls Tryd.prog 33 #[.int .i64 a, .int .i64 b] w fun e w' => e = .returned (.int .i64 (lst a b)) ∧ Ext w w' := dir_least a b w
theorem ref_lst (a b : Int) (w : World) (hb : 0 ≤ b) : Calls Tryd.prog 46 #[.int .i64 a, .int .i64 b] w fun e w' => e = .returned (.int .i64 (lst a b)) ∧ Ext w w' := ref_least a b w hb

set_option maxHeartbeats 1000000 in
set_option maxRecDepth 100000 in
theorem elem_0 (b : Nat) (d : D) (x L : ByteArray) (w : World) (hs : x.size ≤ 1048576) (hg : Gl w) (hd : Blk w b 28 (dArr d)) (hL : Hid (lowS (nameE x) = L)) (h0 : (L.toList == [110, 111, 45, 115, 116, 111, 114, 101]) = true) :
    Calls Tryd.prog 29 #[.pointer (some ⟨b, 0, none⟩), .string x] w fun e w' => e = .returned (.tuple #[]) ∧ Blk w' b 28 (dArr (stepD d x)) ∧ ExtB b w w' := by
  have Hk := Lib.hid (show stepD d x = stepK d 0 _ _ _ by unfold stepD; rw [hL.out, kind_0 h0])
  have hcs := cut_size x
  obtain ⟨hc1, hc2⟩ := hcs
  have Hd := Lib.hid hd; clear hd
  go_enter Tryd.func29, Tryd.ntmps29
  go_wp2_with fail
  refine (cut_eq x _ hs hg).mono ?_; rintro e w1 ⟨rfl, hb1⟩
  generalize nameE x = nx at *
  generalize argE x = ax at *
  generalize thE x = tx at *
  go_wp2_with fail
  refine (dir_lower nx _ (by omega)).mono ?_; rintro e w2 ⟨rfl, hb2⟩
  rw [hL.out]
  have hb12 := hb1.trans hb2
  have hbk := Hd.out.ext hb12
  have hcl : w2.cell? ⟨b, 0, none⟩ = some (.bool d.b0) := hbk.cell 0
  have hfz := hbk.frozen 0
  have Hb := Lib.hid hbk; clear hbk
  go_wp2_with fail
  go_end0
  exact ⟨rfl, by rw [Hk.out]; exact Hb.out.set_ 0 (.bool true), (ExtB.of hb12).set_ 0 _⟩
set_option maxHeartbeats 1000000 in
set_option maxRecDepth 100000 in
theorem elem_1 (b : Nat) (d : D) (x L : ByteArray) (w : World) (hs : x.size ≤ 1048576) (hg : Gl w) (hd : Blk w b 28 (dArr d)) (hL : Hid (lowS (nameE x) = L)) (h0 : (L.toList == [110, 111, 45, 115, 116, 111, 114, 101]) = false) (h1 : (L.toList == [110, 111, 45, 99, 97, 99, 104, 101]) = true) :
    Calls Tryd.prog 29 #[.pointer (some ⟨b, 0, none⟩), .string x] w fun e w' => e = .returned (.tuple #[]) ∧ Blk w' b 28 (dArr (stepD d x)) ∧ ExtB b w w' := by
  have Hk := Lib.hid (show stepD d x = stepK d 1 _ _ _ by unfold stepD; rw [hL.out, kind_1 h0 h1])
  have hcs := cut_size x
  obtain ⟨hc1, hc2⟩ := hcs
  have Hd := Lib.hid hd; clear hd
  go_enter Tryd.func29, Tryd.ntmps29
  go_wp2_with fail
  refine (cut_eq x _ hs hg).mono ?_; rintro e w1 ⟨rfl, hb1⟩
  generalize nameE x = nx at *
  generalize argE x = ax at *
  generalize thE x = tx at *
  go_wp2_with fail
  refine (dir_lower nx _ (by omega)).mono ?_; rintro e w2 ⟨rfl, hb2⟩
  rw [hL.out]
  have hb12 := hb1.trans hb2
  have hbk := Hd.out.ext hb12
  have hcl : w2.cell? ⟨b, 1, none⟩ = some (.bool d.b1) := hbk.cell 1
  have hfz := hbk.frozen 1
  have Hb := Lib.hid hbk; clear hbk
  go_wp2_with fail
  go_end0
  exact ⟨rfl, by rw [Hk.out]; exact Hb.out.set_ 1 (.bool true), (ExtB.of hb12).set_ 1 _⟩
set_option maxHeartbeats 1000000 in
set_option maxRecDepth 100000 in
theorem elem_2 (b : Nat) (d : D) (x L : ByteArray) (w : World) (hs : x.size ≤ 1048576) (hg : Gl w) (hd : Blk w b 28 (dArr d)) (hL : Hid (lowS (nameE x) = L)) (h0 : (L.toList == [110, 111, 45, 115, 116, 111, 114, 101]) = false) (h1 : (L.toList == [110, 111, 45, 99, 97, 99, 104, 101]) = false) (h2 : (L.toList == [112, 114, 105, 118, 97, 116, 101]) = true) :
    Calls Tryd.prog 29 #[.pointer (some ⟨b, 0, none⟩), .string x] w fun e w' => e = .returned (.tuple #[]) ∧ Blk w' b 28 (dArr (stepD d x)) ∧ ExtB b w w' := by
  have Hk := Lib.hid (show stepD d x = stepK d 2 _ _ _ by unfold stepD; rw [hL.out, kind_2 h0 h1 h2])
  have hcs := cut_size x
  obtain ⟨hc1, hc2⟩ := hcs
  have Hd := Lib.hid hd; clear hd
  go_enter Tryd.func29, Tryd.ntmps29
  go_wp2_with fail
  refine (cut_eq x _ hs hg).mono ?_; rintro e w1 ⟨rfl, hb1⟩
  generalize nameE x = nx at *
  generalize argE x = ax at *
  generalize thE x = tx at *
  go_wp2_with fail
  refine (dir_lower nx _ (by omega)).mono ?_; rintro e w2 ⟨rfl, hb2⟩
  rw [hL.out]
  have hb12 := hb1.trans hb2
  have hbk := Hd.out.ext hb12
  have hcl : w2.cell? ⟨b, 2, none⟩ = some (.bool d.b2) := hbk.cell 2
  have hfz := hbk.frozen 2
  have Hb := Lib.hid hbk; clear hbk
  go_wp2_with fail
  go_end0
  exact ⟨rfl, by rw [Hk.out]; exact Hb.out.set_ 2 (.bool true), (ExtB.of hb12).set_ 2 _⟩
set_option maxHeartbeats 1000000 in
set_option maxRecDepth 100000 in
theorem elem_3 (b : Nat) (d : D) (x L : ByteArray) (w : World) (hs : x.size ≤ 1048576) (hg : Gl w) (hd : Blk w b 28 (dArr d)) (hL : Hid (lowS (nameE x) = L)) (h0 : (L.toList == [110, 111, 45, 115, 116, 111, 114, 101]) = false) (h1 : (L.toList == [110, 111, 45, 99, 97, 99, 104, 101]) = false) (h2 : (L.toList == [112, 114, 105, 118, 97, 116, 101]) = false) (h3 : (L.toList == [112, 117, 98, 108, 105, 99]) = true) :
    Calls Tryd.prog 29 #[.pointer (some ⟨b, 0, none⟩), .string x] w fun e w' => e = .returned (.tuple #[]) ∧ Blk w' b 28 (dArr (stepD d x)) ∧ ExtB b w w' := by
  have Hk := Lib.hid (show stepD d x = stepK d 3 _ _ _ by unfold stepD; rw [hL.out, kind_3 h0 h1 h2 h3])
  have hcs := cut_size x
  obtain ⟨hc1, hc2⟩ := hcs
  have Hd := Lib.hid hd; clear hd
  go_enter Tryd.func29, Tryd.ntmps29
  go_wp2_with fail
  refine (cut_eq x _ hs hg).mono ?_; rintro e w1 ⟨rfl, hb1⟩
  generalize nameE x = nx at *
  generalize argE x = ax at *
  generalize thE x = tx at *
  go_wp2_with fail
  refine (dir_lower nx _ (by omega)).mono ?_; rintro e w2 ⟨rfl, hb2⟩
  rw [hL.out]
  have hb12 := hb1.trans hb2
  have hbk := Hd.out.ext hb12
  have hcl : w2.cell? ⟨b, 3, none⟩ = some (.bool d.b3) := hbk.cell 3
  have hfz := hbk.frozen 3
  have Hb := Lib.hid hbk; clear hbk
  go_wp2_with fail
  go_end0
  exact ⟨rfl, by rw [Hk.out]; exact Hb.out.set_ 3 (.bool true), (ExtB.of hb12).set_ 3 _⟩
set_option maxHeartbeats 1000000 in
set_option maxRecDepth 100000 in
theorem elem_4 (b : Nat) (d : D) (x L : ByteArray) (w : World) (hs : x.size ≤ 1048576) (hg : Gl w) (hd : Blk w b 28 (dArr d)) (hL : Hid (lowS (nameE x) = L)) (h0 : (L.toList == [110, 111, 45, 115, 116, 111, 114, 101]) = false) (h1 : (L.toList == [110, 111, 45, 99, 97, 99, 104, 101]) = false) (h2 : (L.toList == [112, 114, 105, 118, 97, 116, 101]) = false) (h3 : (L.toList == [112, 117, 98, 108, 105, 99]) = false) (h4 : (L.toList == [109, 117, 115, 116, 45, 114, 101, 118, 97, 108, 105, 100, 97, 116, 101]) = true) :
    Calls Tryd.prog 29 #[.pointer (some ⟨b, 0, none⟩), .string x] w fun e w' => e = .returned (.tuple #[]) ∧ Blk w' b 28 (dArr (stepD d x)) ∧ ExtB b w w' := by
  have Hk := Lib.hid (show stepD d x = stepK d 4 _ _ _ by unfold stepD; rw [hL.out, kind_4 h0 h1 h2 h3 h4])
  have hcs := cut_size x
  obtain ⟨hc1, hc2⟩ := hcs
  have Hd := Lib.hid hd; clear hd
  go_enter Tryd.func29, Tryd.ntmps29
  go_wp2_with fail
  refine (cut_eq x _ hs hg).mono ?_; rintro e w1 ⟨rfl, hb1⟩
  generalize nameE x = nx at *
  generalize argE x = ax at *
  generalize thE x = tx at *
  go_wp2_with fail
  refine (dir_lower nx _ (by omega)).mono ?_; rintro e w2 ⟨rfl, hb2⟩
  rw [hL.out]
  have hb12 := hb1.trans hb2
  have hbk := Hd.out.ext hb12
  have hcl : w2.cell? ⟨b, 4, none⟩ = some (.bool d.b4) := hbk.cell 4
  have hfz := hbk.frozen 4
  have Hb := Lib.hid hbk; clear hbk
  go_wp2_with fail
  go_end0
  exact ⟨rfl, by rw [Hk.out]; exact Hb.out.set_ 4 (.bool true), (ExtB.of hb12).set_ 4 _⟩
set_option maxHeartbeats 1000000 in
set_option maxRecDepth 100000 in
theorem elem_5 (b : Nat) (d : D) (x L : ByteArray) (w : World) (hs : x.size ≤ 1048576) (hg : Gl w) (hd : Blk w b 28 (dArr d)) (hL : Hid (lowS (nameE x) = L)) (h0 : (L.toList == [110, 111, 45, 115, 116, 111, 114, 101]) = false) (h1 : (L.toList == [110, 111, 45, 99, 97, 99, 104, 101]) = false) (h2 : (L.toList == [112, 114, 105, 118, 97, 116, 101]) = false) (h3 : (L.toList == [112, 117, 98, 108, 105, 99]) = false) (h4 : (L.toList == [109, 117, 115, 116, 45, 114, 101, 118, 97, 108, 105, 100, 97, 116, 101]) = false) (h5 : (L.toList == [112, 114, 111, 120, 121, 45, 114, 101, 118, 97, 108, 105, 100, 97, 116, 101]) = true) :
    Calls Tryd.prog 29 #[.pointer (some ⟨b, 0, none⟩), .string x] w fun e w' => e = .returned (.tuple #[]) ∧ Blk w' b 28 (dArr (stepD d x)) ∧ ExtB b w w' := by
  have Hk := Lib.hid (show stepD d x = stepK d 5 _ _ _ by unfold stepD; rw [hL.out, kind_5 h0 h1 h2 h3 h4 h5])
  have hcs := cut_size x
  obtain ⟨hc1, hc2⟩ := hcs
  have Hd := Lib.hid hd; clear hd
  go_enter Tryd.func29, Tryd.ntmps29
  go_wp2_with fail
  refine (cut_eq x _ hs hg).mono ?_; rintro e w1 ⟨rfl, hb1⟩
  generalize nameE x = nx at *
  generalize argE x = ax at *
  generalize thE x = tx at *
  go_wp2_with fail
  refine (dir_lower nx _ (by omega)).mono ?_; rintro e w2 ⟨rfl, hb2⟩
  rw [hL.out]
  have hb12 := hb1.trans hb2
  have hbk := Hd.out.ext hb12
  have hcl : w2.cell? ⟨b, 4, none⟩ = some (.bool d.b4) := hbk.cell 4
  have hfz := hbk.frozen 4
  have Hb := Lib.hid hbk; clear hbk
  go_wp2_with fail
  go_end0
  exact ⟨rfl, by rw [Hk.out]; exact Hb.out.set_ 4 (.bool true), (ExtB.of hb12).set_ 4 _⟩
set_option maxHeartbeats 1000000 in
set_option maxRecDepth 100000 in
theorem elem_6 (b : Nat) (d : D) (x L : ByteArray) (w : World) (hs : x.size ≤ 1048576) (hg : Gl w) (hd : Blk w b 28 (dArr d)) (hL : Hid (lowS (nameE x) = L)) (h0 : (L.toList == [110, 111, 45, 115, 116, 111, 114, 101]) = false) (h1 : (L.toList == [110, 111, 45, 99, 97, 99, 104, 101]) = false) (h2 : (L.toList == [112, 114, 105, 118, 97, 116, 101]) = false) (h3 : (L.toList == [112, 117, 98, 108, 105, 99]) = false) (h4 : (L.toList == [109, 117, 115, 116, 45, 114, 101, 118, 97, 108, 105, 100, 97, 116, 101]) = false) (h5 : (L.toList == [112, 114, 111, 120, 121, 45, 114, 101, 118, 97, 108, 105, 100, 97, 116, 101]) = false) (h6 : (L.toList == [111, 110, 108, 121, 45, 105, 102, 45, 99, 97, 99, 104, 101, 100]) = true) :
    Calls Tryd.prog 29 #[.pointer (some ⟨b, 0, none⟩), .string x] w fun e w' => e = .returned (.tuple #[]) ∧ Blk w' b 28 (dArr (stepD d x)) ∧ ExtB b w w' := by
  have Hk := Lib.hid (show stepD d x = stepK d 6 _ _ _ by unfold stepD; rw [hL.out, kind_6 h0 h1 h2 h3 h4 h5 h6])
  have hcs := cut_size x
  obtain ⟨hc1, hc2⟩ := hcs
  have Hd := Lib.hid hd; clear hd
  go_enter Tryd.func29, Tryd.ntmps29
  go_wp2_with fail
  refine (cut_eq x _ hs hg).mono ?_; rintro e w1 ⟨rfl, hb1⟩
  generalize nameE x = nx at *
  generalize argE x = ax at *
  generalize thE x = tx at *
  go_wp2_with fail
  refine (dir_lower nx _ (by omega)).mono ?_; rintro e w2 ⟨rfl, hb2⟩
  rw [hL.out]
  have hb12 := hb1.trans hb2
  have hbk := Hd.out.ext hb12
  have hcl : w2.cell? ⟨b, 5, none⟩ = some (.bool d.b5) := hbk.cell 5
  have hfz := hbk.frozen 5
  have Hb := Lib.hid hbk; clear hbk
  go_wp2_with fail
  go_end0
  exact ⟨rfl, by rw [Hk.out]; exact Hb.out.set_ 5 (.bool true), (ExtB.of hb12).set_ 5 _⟩
set_option maxHeartbeats 1000000 in
set_option maxRecDepth 100000 in
theorem elem_7 (b : Nat) (d : D) (x L : ByteArray) (w : World) (hs : x.size ≤ 1048576) (hg : Gl w) (hd : Blk w b 28 (dArr d)) (hL : Hid (lowS (nameE x) = L)) (h0 : (L.toList == [110, 111, 45, 115, 116, 111, 114, 101]) = false) (h1 : (L.toList == [110, 111, 45, 99, 97, 99, 104, 101]) = false) (h2 : (L.toList == [112, 114, 105, 118, 97, 116, 101]) = false) (h3 : (L.toList == [112, 117, 98, 108, 105, 99]) = false) (h4 : (L.toList == [109, 117, 115, 116, 45, 114, 101, 118, 97, 108, 105, 100, 97, 116, 101]) = false) (h5 : (L.toList == [112, 114, 111, 120, 121, 45, 114, 101, 118, 97, 108, 105, 100, 97, 116, 101]) = false) (h6 : (L.toList == [111, 110, 108, 121, 45, 105, 102, 45, 99, 97, 99, 104, 101, 100]) = false) (h7 : (L.toList == [109, 97, 120, 45, 97, 103, 101]) = true) :
    Calls Tryd.prog 29 #[.pointer (some ⟨b, 0, none⟩), .string x] w fun e w' => e = .returned (.tuple #[]) ∧ Blk w' b 28 (dArr (stepD d x)) ∧ ExtB b w w' := by
  have Hk := Lib.hid (show stepD d x = stepK d 7 _ _ _ by unfold stepD; rw [hL.out, kind_7 h0 h1 h2 h3 h4 h5 h6 h7])
  have hcs := cut_size x
  obtain ⟨hc1, hc2⟩ := hcs
  have Hd := Lib.hid hd; clear hd
  go_enter Tryd.func29, Tryd.ntmps29
  go_wp2_with fail
  refine (cut_eq x _ hs hg).mono ?_; rintro e w1 ⟨rfl, hb1⟩
  generalize nameE x = nx at *
  generalize argE x = ax at *
  generalize thE x = tx at *
  go_wp2_with fail
  refine (dir_lower nx _ (by omega)).mono ?_; rintro e w2 ⟨rfl, hb2⟩
  rw [hL.out]
  have hb12 := hb1.trans hb2
  have hbk := Hd.out.ext hb12
  have hcl : w2.cell? ⟨b, 6, none⟩ = some (.int .i64 d.n0) := hbk.cell 6
  have hfz := hbk.frozen 6
  have Hb := Lib.hid hbk; clear hbk
  have Hcl := Lib.hid hcl; clear hcl
  have Hfz := Lib.hid hfz; clear hfz
  have hcl := Hcl.out
  go_wp2_with fail
  go_region_with
    (first
     | (go_at_call 43; refine (dir_time ax tx 0 0 _ (by omega)).mono ?_; rintro e w3 ⟨rfl, hb3⟩; have hc3 := hb3.cell hcl; have hfz3 : w3.frozen? ⟨b, 6, none⟩ = false := ((hb12.drew.trans hb3).frozens b 6 Hd.out.lt).trans (Hd.out.frozen 6))
     | (go_at_call 33; refine (dir_lst _ _ _).mono ?_; rintro e w4 ⟨rfl, hb4⟩; have hc4 := hb4.cell hc3; have hfz4 : w4.frozen? ⟨b, 6, none⟩ = false := (((hb12.drew.trans hb3).trans hb4).frozens b 6 Hd.out.lt).trans (Hd.out.frozen 6)))
  all_goals
    go_wp2_with fail
    go_end0
    exact ⟨rfl, by rw [Hk.out]; exact (Hd.out.ext ((hb12.drew.trans hb3).trans hb4)).set_ 6 _, (ExtB.of ((hb12.drew.trans hb3).trans hb4)).set_ 6 _⟩
set_option maxHeartbeats 1000000 in
set_option maxRecDepth 100000 in
theorem elem_8 (b : Nat) (d : D) (x L : ByteArray) (w : World) (hs : x.size ≤ 1048576) (hg : Gl w) (hd : Blk w b 28 (dArr d)) (hL : Hid (lowS (nameE x) = L)) (h0 : (L.toList == [110, 111, 45, 115, 116, 111, 114, 101]) = false) (h1 : (L.toList == [110, 111, 45, 99, 97, 99, 104, 101]) = false) (h2 : (L.toList == [112, 114, 105, 118, 97, 116, 101]) = false) (h3 : (L.toList == [112, 117, 98, 108, 105, 99]) = false) (h4 : (L.toList == [109, 117, 115, 116, 45, 114, 101, 118, 97, 108, 105, 100, 97, 116, 101]) = false) (h5 : (L.toList == [112, 114, 111, 120, 121, 45, 114, 101, 118, 97, 108, 105, 100, 97, 116, 101]) = false) (h6 : (L.toList == [111, 110, 108, 121, 45, 105, 102, 45, 99, 97, 99, 104, 101, 100]) = false) (h7 : (L.toList == [109, 97, 120, 45, 97, 103, 101]) = false) (h8 : (L.toList == [115, 45, 109, 97, 120, 97, 103, 101]) = true) :
    Calls Tryd.prog 29 #[.pointer (some ⟨b, 0, none⟩), .string x] w fun e w' => e = .returned (.tuple #[]) ∧ Blk w' b 28 (dArr (stepD d x)) ∧ ExtB b w w' := by
  have Hk := Lib.hid (show stepD d x = stepK d 8 _ _ _ by unfold stepD; rw [hL.out, kind_8 h0 h1 h2 h3 h4 h5 h6 h7 h8])
  have hcs := cut_size x
  obtain ⟨hc1, hc2⟩ := hcs
  have Hd := Lib.hid hd; clear hd
  go_enter Tryd.func29, Tryd.ntmps29
  go_wp2_with fail
  refine (cut_eq x _ hs hg).mono ?_; rintro e w1 ⟨rfl, hb1⟩
  generalize nameE x = nx at *
  generalize argE x = ax at *
  generalize thE x = tx at *
  go_wp2_with fail
  refine (dir_lower nx _ (by omega)).mono ?_; rintro e w2 ⟨rfl, hb2⟩
  rw [hL.out]
  have hb12 := hb1.trans hb2
  have hbk := Hd.out.ext hb12
  have hcl : w2.cell? ⟨b, 7, none⟩ = some (.int .i64 d.n1) := hbk.cell 7
  have hfz := hbk.frozen 7
  have Hb := Lib.hid hbk; clear hbk
  have Hcl := Lib.hid hcl; clear hcl
  have Hfz := Lib.hid hfz; clear hfz
  have hcl := Hcl.out
  go_wp2_with fail
  go_region_with
    (first
     | (go_at_call 43; refine (dir_time ax tx 0 0 _ (by omega)).mono ?_; rintro e w3 ⟨rfl, hb3⟩; have hc3 := hb3.cell hcl; have hfz3 : w3.frozen? ⟨b, 7, none⟩ = false := ((hb12.drew.trans hb3).frozens b 7 Hd.out.lt).trans (Hd.out.frozen 7))
     | (go_at_call 33; refine (dir_lst _ _ _).mono ?_; rintro e w4 ⟨rfl, hb4⟩; have hc4 := hb4.cell hc3; have hfz4 : w4.frozen? ⟨b, 7, none⟩ = false := (((hb12.drew.trans hb3).trans hb4).frozens b 7 Hd.out.lt).trans (Hd.out.frozen 7)))
  all_goals
    go_wp2_with fail
    go_end0
    exact ⟨rfl, by rw [Hk.out]; exact (Hd.out.ext ((hb12.drew.trans hb3).trans hb4)).set_ 7 _, (ExtB.of ((hb12.drew.trans hb3).trans hb4)).set_ 7 _⟩
set_option maxHeartbeats 1000000 in
set_option maxRecDepth 100000 in
theorem elem_9 (b : Nat) (d : D) (x L : ByteArray) (w : World) (hs : x.size ≤ 1048576) (hg : Gl w) (hd : Blk w b 28 (dArr d)) (hL : Hid (lowS (nameE x) = L)) (h0 : (L.toList == [110, 111, 45, 115, 116, 111, 114, 101]) = false) (h1 : (L.toList == [110, 111, 45, 99, 97, 99, 104, 101]) = false) (h2 : (L.toList == [112, 114, 105, 118, 97, 116, 101]) = false) (h3 : (L.toList == [112, 117, 98, 108, 105, 99]) = false) (h4 : (L.toList == [109, 117, 115, 116, 45, 114, 101, 118, 97, 108, 105, 100, 97, 116, 101]) = false) (h5 : (L.toList == [112, 114, 111, 120, 121, 45, 114, 101, 118, 97, 108, 105, 100, 97, 116, 101]) = false) (h6 : (L.toList == [111, 110, 108, 121, 45, 105, 102, 45, 99, 97, 99, 104, 101, 100]) = false) (h7 : (L.toList == [109, 97, 120, 45, 97, 103, 101]) = false) (h8 : (L.toList == [115, 45, 109, 97, 120, 97, 103, 101]) = false) (h9 : (L.toList == [115, 116, 97, 108, 101, 45, 119, 104, 105, 108, 101, 45, 114, 101, 118, 97, 108, 105, 100, 97, 116, 101]) = true) :
    Calls Tryd.prog 29 #[.pointer (some ⟨b, 0, none⟩), .string x] w fun e w' => e = .returned (.tuple #[]) ∧ Blk w' b 28 (dArr (stepD d x)) ∧ ExtB b w w' := by
  have Hk := Lib.hid (show stepD d x = stepK d 9 _ _ _ by unfold stepD; rw [hL.out, kind_9 h0 h1 h2 h3 h4 h5 h6 h7 h8 h9])
  have hcs := cut_size x
  obtain ⟨hc1, hc2⟩ := hcs
  have Hd := Lib.hid hd; clear hd
  go_enter Tryd.func29, Tryd.ntmps29
  go_wp2_with fail
  refine (cut_eq x _ hs hg).mono ?_; rintro e w1 ⟨rfl, hb1⟩
  generalize nameE x = nx at *
  generalize argE x = ax at *
  generalize thE x = tx at *
  go_wp2_with fail
  refine (dir_lower nx _ (by omega)).mono ?_; rintro e w2 ⟨rfl, hb2⟩
  rw [hL.out]
  have hb12 := hb1.trans hb2
  have hbk := Hd.out.ext hb12
  have hcl : w2.cell? ⟨b, 8, none⟩ = some (.int .i64 d.n2) := hbk.cell 8
  have hfz := hbk.frozen 8
  have Hb := Lib.hid hbk; clear hbk
  have Hcl := Lib.hid hcl; clear hcl
  have Hfz := Lib.hid hfz; clear hfz
  have hcl := Hcl.out
  go_wp2_with fail
  go_region_with
    (first
     | (go_at_call 43; refine (dir_time ax tx 0 0 _ (by omega)).mono ?_; rintro e w3 ⟨rfl, hb3⟩; have hc3 := hb3.cell hcl; have hfz3 : w3.frozen? ⟨b, 8, none⟩ = false := ((hb12.drew.trans hb3).frozens b 8 Hd.out.lt).trans (Hd.out.frozen 8))
     | (go_at_call 33; refine (dir_lst _ _ _).mono ?_; rintro e w4 ⟨rfl, hb4⟩; have hc4 := hb4.cell hc3; have hfz4 : w4.frozen? ⟨b, 8, none⟩ = false := (((hb12.drew.trans hb3).trans hb4).frozens b 8 Hd.out.lt).trans (Hd.out.frozen 8)))
  all_goals
    go_wp2_with fail
    go_end0
    exact ⟨rfl, by rw [Hk.out]; exact (Hd.out.ext ((hb12.drew.trans hb3).trans hb4)).set_ 8 _, (ExtB.of ((hb12.drew.trans hb3).trans hb4)).set_ 8 _⟩
set_option maxHeartbeats 1000000 in
set_option maxRecDepth 100000 in
theorem elem_10 (b : Nat) (d : D) (x L : ByteArray) (w : World) (hs : x.size ≤ 1048576) (hg : Gl w) (hd : Blk w b 28 (dArr d)) (hL : Hid (lowS (nameE x) = L)) (h0 : (L.toList == [110, 111, 45, 115, 116, 111, 114, 101]) = false) (h1 : (L.toList == [110, 111, 45, 99, 97, 99, 104, 101]) = false) (h2 : (L.toList == [112, 114, 105, 118, 97, 116, 101]) = false) (h3 : (L.toList == [112, 117, 98, 108, 105, 99]) = false) (h4 : (L.toList == [109, 117, 115, 116, 45, 114, 101, 118, 97, 108, 105, 100, 97, 116, 101]) = false) (h5 : (L.toList == [112, 114, 111, 120, 121, 45, 114, 101, 118, 97, 108, 105, 100, 97, 116, 101]) = false) (h6 : (L.toList == [111, 110, 108, 121, 45, 105, 102, 45, 99, 97, 99, 104, 101, 100]) = false) (h7 : (L.toList == [109, 97, 120, 45, 97, 103, 101]) = false) (h8 : (L.toList == [115, 45, 109, 97, 120, 97, 103, 101]) = false) (h9 : (L.toList == [115, 116, 97, 108, 101, 45, 119, 104, 105, 108, 101, 45, 114, 101, 118, 97, 108, 105, 100, 97, 116, 101]) = false) (h10 : (L.toList == [115, 116, 97, 108, 101, 45, 105, 102, 45, 101, 114, 114, 111, 114]) = true) :
    Calls Tryd.prog 29 #[.pointer (some ⟨b, 0, none⟩), .string x] w fun e w' => e = .returned (.tuple #[]) ∧ Blk w' b 28 (dArr (stepD d x)) ∧ ExtB b w w' := by
  have Hk := Lib.hid (show stepD d x = stepK d 10 _ _ _ by unfold stepD; rw [hL.out, kind_10 h0 h1 h2 h3 h4 h5 h6 h7 h8 h9 h10])
  have hcs := cut_size x
  obtain ⟨hc1, hc2⟩ := hcs
  have Hd := Lib.hid hd; clear hd
  go_enter Tryd.func29, Tryd.ntmps29
  go_wp2_with fail
  refine (cut_eq x _ hs hg).mono ?_; rintro e w1 ⟨rfl, hb1⟩
  generalize nameE x = nx at *
  generalize argE x = ax at *
  generalize thE x = tx at *
  go_wp2_with fail
  refine (dir_lower nx _ (by omega)).mono ?_; rintro e w2 ⟨rfl, hb2⟩
  rw [hL.out]
  have hb12 := hb1.trans hb2
  have hbk := Hd.out.ext hb12
  have hcl : w2.cell? ⟨b, 9, none⟩ = some (.int .i64 d.n3) := hbk.cell 9
  have hfz := hbk.frozen 9
  have Hb := Lib.hid hbk; clear hbk
  have Hcl := Lib.hid hcl; clear hcl
  have Hfz := Lib.hid hfz; clear hfz
  have hcl := Hcl.out
  go_wp2_with fail
  go_region_with
    (first
     | (go_at_call 43; refine (dir_time ax tx 0 0 _ (by omega)).mono ?_; rintro e w3 ⟨rfl, hb3⟩; have hc3 := hb3.cell hcl; have hfz3 : w3.frozen? ⟨b, 9, none⟩ = false := ((hb12.drew.trans hb3).frozens b 9 Hd.out.lt).trans (Hd.out.frozen 9))
     | (go_at_call 33; refine (dir_lst _ _ _).mono ?_; rintro e w4 ⟨rfl, hb4⟩; have hc4 := hb4.cell hc3; have hfz4 : w4.frozen? ⟨b, 9, none⟩ = false := (((hb12.drew.trans hb3).trans hb4).frozens b 9 Hd.out.lt).trans (Hd.out.frozen 9)))
  all_goals
    go_wp2_with fail
    go_end0
    exact ⟨rfl, by rw [Hk.out]; exact (Hd.out.ext ((hb12.drew.trans hb3).trans hb4)).set_ 9 _, (ExtB.of ((hb12.drew.trans hb3).trans hb4)).set_ 9 _⟩
set_option maxHeartbeats 1000000 in
set_option maxRecDepth 100000 in
theorem elem_11 (b : Nat) (d : D) (x L : ByteArray) (w : World) (hs : x.size ≤ 1048576) (hg : Gl w) (hd : Blk w b 28 (dArr d)) (hL : Hid (lowS (nameE x) = L)) (h0 : (L.toList == [110, 111, 45, 115, 116, 111, 114, 101]) = false) (h1 : (L.toList == [110, 111, 45, 99, 97, 99, 104, 101]) = false) (h2 : (L.toList == [112, 114, 105, 118, 97, 116, 101]) = false) (h3 : (L.toList == [112, 117, 98, 108, 105, 99]) = false) (h4 : (L.toList == [109, 117, 115, 116, 45, 114, 101, 118, 97, 108, 105, 100, 97, 116, 101]) = false) (h5 : (L.toList == [112, 114, 111, 120, 121, 45, 114, 101, 118, 97, 108, 105, 100, 97, 116, 101]) = false) (h6 : (L.toList == [111, 110, 108, 121, 45, 105, 102, 45, 99, 97, 99, 104, 101, 100]) = false) (h7 : (L.toList == [109, 97, 120, 45, 97, 103, 101]) = false) (h8 : (L.toList == [115, 45, 109, 97, 120, 97, 103, 101]) = false) (h9 : (L.toList == [115, 116, 97, 108, 101, 45, 119, 104, 105, 108, 101, 45, 114, 101, 118, 97, 108, 105, 100, 97, 116, 101]) = false) (h10 : (L.toList == [115, 116, 97, 108, 101, 45, 105, 102, 45, 101, 114, 114, 111, 114]) = false) (h11 : (L.toList == [109, 97, 120, 45, 115, 116, 97, 108, 101]) = true) :
    Calls Tryd.prog 29 #[.pointer (some ⟨b, 0, none⟩), .string x] w fun e w' => e = .returned (.tuple #[]) ∧ Blk w' b 28 (dArr (stepD d x)) ∧ ExtB b w w' := by
  have Hk := Lib.hid (show stepD d x = stepK d 11 _ _ _ by unfold stepD; rw [hL.out, kind_11 h0 h1 h2 h3 h4 h5 h6 h7 h8 h9 h10 h11])
  have hcs := cut_size x
  obtain ⟨hc1, hc2⟩ := hcs
  have Hd := Lib.hid hd; clear hd
  go_enter Tryd.func29, Tryd.ntmps29
  go_wp2_with fail
  refine (cut_eq x _ hs hg).mono ?_; rintro e w1 ⟨rfl, hb1⟩
  generalize nameE x = nx at *
  generalize argE x = ax at *
  generalize thE x = tx at *
  go_wp2_with fail
  refine (dir_lower nx _ (by omega)).mono ?_; rintro e w2 ⟨rfl, hb2⟩
  rw [hL.out]
  have hb12 := hb1.trans hb2
  have hbk := Hd.out.ext hb12
  have hcl : w2.cell? ⟨b, 10, none⟩ = some (.int .i64 d.n4) := hbk.cell 10
  have hfz := hbk.frozen 10
  have Hb := Lib.hid hbk; clear hbk
  have Hcl := Lib.hid hcl; clear hcl
  have Hfz := Lib.hid hfz; clear hfz
  have hcl := Hcl.out
  go_wp2_with fail
  go_region_with
    (first
     | (go_at_call 43; refine (dir_time ax tx 0 2147483647 _ (by omega)).mono ?_; rintro e w3 ⟨rfl, hb3⟩; have hc3 := hb3.cell hcl; have hfz3 : w3.frozen? ⟨b, 10, none⟩ = false := ((hb12.drew.trans hb3).frozens b 10 Hd.out.lt).trans (Hd.out.frozen 10))
     | (go_at_call 33; refine (dir_lst _ _ _).mono ?_; rintro e w4 ⟨rfl, hb4⟩; have hc4 := hb4.cell hc3; have hfz4 : w4.frozen? ⟨b, 10, none⟩ = false := (((hb12.drew.trans hb3).trans hb4).frozens b 10 Hd.out.lt).trans (Hd.out.frozen 10)))
  all_goals
    go_wp2_with fail
    go_end0
    exact ⟨rfl, by rw [Hk.out]; exact (Hd.out.ext ((hb12.drew.trans hb3).trans hb4)).set_ 10 _, (ExtB.of ((hb12.drew.trans hb3).trans hb4)).set_ 10 _⟩
set_option maxHeartbeats 1000000 in
set_option maxRecDepth 100000 in
theorem elem_12 (b : Nat) (d : D) (x L : ByteArray) (w : World) (hs : x.size ≤ 1048576) (hg : Gl w) (hd : Blk w b 28 (dArr d)) (hL : Hid (lowS (nameE x) = L)) (h0 : (L.toList == [110, 111, 45, 115, 116, 111, 114, 101]) = false) (h1 : (L.toList == [110, 111, 45, 99, 97, 99, 104, 101]) = false) (h2 : (L.toList == [112, 114, 105, 118, 97, 116, 101]) = false) (h3 : (L.toList == [112, 117, 98, 108, 105, 99]) = false) (h4 : (L.toList == [109, 117, 115, 116, 45, 114, 101, 118, 97, 108, 105, 100, 97, 116, 101]) = false) (h5 : (L.toList == [112, 114, 111, 120, 121, 45, 114, 101, 118, 97, 108, 105, 100, 97, 116, 101]) = false) (h6 : (L.toList == [111, 110, 108, 121, 45, 105, 102, 45, 99, 97, 99, 104, 101, 100]) = false) (h7 : (L.toList == [109, 97, 120, 45, 97, 103, 101]) = false) (h8 : (L.toList == [115, 45, 109, 97, 120, 97, 103, 101]) = false) (h9 : (L.toList == [115, 116, 97, 108, 101, 45, 119, 104, 105, 108, 101, 45, 114, 101, 118, 97, 108, 105, 100, 97, 116, 101]) = false) (h10 : (L.toList == [115, 116, 97, 108, 101, 45, 105, 102, 45, 101, 114, 114, 111, 114]) = false) (h11 : (L.toList == [109, 97, 120, 45, 115, 116, 97, 108, 101]) = false) (h12 : (L.toList == [109, 105, 110, 45, 102, 114, 101, 115, 104]) = true) :
    Calls Tryd.prog 29 #[.pointer (some ⟨b, 0, none⟩), .string x] w fun e w' => e = .returned (.tuple #[]) ∧ Blk w' b 28 (dArr (stepD d x)) ∧ ExtB b w w' := by
  have Hk := Lib.hid (show stepD d x = stepK d 12 _ _ _ by unfold stepD; rw [hL.out, kind_12 h0 h1 h2 h3 h4 h5 h6 h7 h8 h9 h10 h11 h12])
  have hcs := cut_size x
  obtain ⟨hc1, hc2⟩ := hcs
  have Hd := Lib.hid hd; clear hd
  go_enter Tryd.func29, Tryd.ntmps29
  go_wp2_with fail
  refine (cut_eq x _ hs hg).mono ?_; rintro e w1 ⟨rfl, hb1⟩
  generalize nameE x = nx at *
  generalize argE x = ax at *
  generalize thE x = tx at *
  go_wp2_with fail
  refine (dir_lower nx _ (by omega)).mono ?_; rintro e w2 ⟨rfl, hb2⟩
  rw [hL.out]
  have hb12 := hb1.trans hb2
  have hbk := Hd.out.ext hb12
  have hcl : w2.cell? ⟨b, 11, none⟩ = some (.int .i64 d.n5) := hbk.cell 11
  have hfz := hbk.frozen 11
  have Hb := Lib.hid hbk; clear hbk
  have Hcl := Lib.hid hcl; clear hcl
  have Hfz := Lib.hid hfz; clear hfz
  have hcl := Hcl.out
  go_wp2_with fail
  go_region_with
    (first
     | (go_at_call 43; refine (dir_time ax tx 2147483647 2147483647 _ (by omega)).mono ?_; rintro e w3 ⟨rfl, hb3⟩; have hc3 := hb3.cell hcl; have hfz3 : w3.frozen? ⟨b, 11, none⟩ = false := ((hb12.drew.trans hb3).frozens b 11 Hd.out.lt).trans (Hd.out.frozen 11))
     | fail)
  all_goals
    go_wp2_with fail
    go_end0
    exact ⟨rfl, by rw [Hk.out]; exact (Hd.out.ext (hb12.drew.trans hb3)).set_ 11 _, (ExtB.of (hb12.drew.trans hb3)).set_ 11 _⟩
set_option maxHeartbeats 1000000 in
set_option maxRecDepth 100000 in
theorem elem_13 (b : Nat) (d : D) (x L : ByteArray) (w : World) (hs : x.size ≤ 1048576) (hg : Gl w) (hd : Blk w b 28 (dArr d)) (hL : Hid (lowS (nameE x) = L)) (h0 : (L.toList == [110, 111, 45, 115, 116, 111, 114, 101]) = false) (h1 : (L.toList == [110, 111, 45, 99, 97, 99, 104, 101]) = false) (h2 : (L.toList == [112, 114, 105, 118, 97, 116, 101]) = false) (h3 : (L.toList == [112, 117, 98, 108, 105, 99]) = false) (h4 : (L.toList == [109, 117, 115, 116, 45, 114, 101, 118, 97, 108, 105, 100, 97, 116, 101]) = false) (h5 : (L.toList == [112, 114, 111, 120, 121, 45, 114, 101, 118, 97, 108, 105, 100, 97, 116, 101]) = false) (h6 : (L.toList == [111, 110, 108, 121, 45, 105, 102, 45, 99, 97, 99, 104, 101, 100]) = false) (h7 : (L.toList == [109, 97, 120, 45, 97, 103, 101]) = false) (h8 : (L.toList == [115, 45, 109, 97, 120, 97, 103, 101]) = false) (h9 : (L.toList == [115, 116, 97, 108, 101, 45, 119, 104, 105, 108, 101, 45, 114, 101, 118, 97, 108, 105, 100, 97, 116, 101]) = false) (h10 : (L.toList == [115, 116, 97, 108, 101, 45, 105, 102, 45, 101, 114, 114, 111, 114]) = false) (h11 : (L.toList == [109, 97, 120, 45, 115, 116, 97, 108, 101]) = false) (h12 : (L.toList == [109, 105, 110, 45, 102, 114, 101, 115, 104]) = false) :
    Calls Tryd.prog 29 #[.pointer (some ⟨b, 0, none⟩), .string x] w fun e w' => e = .returned (.tuple #[]) ∧ Blk w' b 28 (dArr (stepD d x)) ∧ ExtB b w w' := by
  have Hk := Lib.hid (show stepD d x = stepK d 13 _ _ _ by unfold stepD; rw [hL.out, kind_13 h0 h1 h2 h3 h4 h5 h6 h7 h8 h9 h10 h11 h12])
  have hcs := cut_size x
  obtain ⟨hc1, hc2⟩ := hcs
  have Hd := Lib.hid hd; clear hd
  go_enter Tryd.func29, Tryd.ntmps29
  go_wp2_with fail
  refine (cut_eq x _ hs hg).mono ?_; rintro e w1 ⟨rfl, hb1⟩
  generalize nameE x = nx at *
  generalize argE x = ax at *
  generalize thE x = tx at *
  go_wp2_with fail
  refine (dir_lower nx _ (by omega)).mono ?_; rintro e w2 ⟨rfl, hb2⟩
  rw [hL.out]
  have hb12 := hb1.trans hb2
  have hbk := Hd.out.ext hb12
  have Hb := Lib.hid hbk; clear hbk
  go_wp2_with fail
  go_end0
  exact ⟨rfl, by rw [Hk.out]; exact Hb.out, ExtB.of hb12⟩

theorem dir_element (b : Nat) (d : D) (x : ByteArray) (w : World) (hs : x.size ≤ 1048576) (hg : Gl w) (hd : Blk w b 28 (dArr d)) :
    Calls Tryd.prog 29 #[.pointer (some ⟨b, 0, none⟩), .string x] w fun e w' => e = .returned (.tuple #[]) ∧ Blk w' b 28 (dArr (stepD d x)) ∧ ExtB b w w' := by
  have hL : Hid (lowS (nameE x) = lowS (nameE x)) := Lib.hid rfl
  cases h0 : ((lowS (nameE x)).toList == [110, 111, 45, 115, 116, 111, 114, 101])
  rotate_left
  · exact elem_0 b d x _ w hs hg hd hL h0
  cases h1 : ((lowS (nameE x)).toList == [110, 111, 45, 99, 97, 99, 104, 101])
  rotate_left
  · exact elem_1 b d x _ w hs hg hd hL h0 h1
  cases h2 : ((lowS (nameE x)).toList == [112, 114, 105, 118, 97, 116, 101])
  rotate_left
  · exact elem_2 b d x _ w hs hg hd hL h0 h1 h2
  cases h3 : ((lowS (nameE x)).toList == [112, 117, 98, 108, 105, 99])
  rotate_left
  · exact elem_3 b d x _ w hs hg hd hL h0 h1 h2 h3
  cases h4 : ((lowS (nameE x)).toList == [109, 117, 115, 116, 45, 114, 101, 118, 97, 108, 105, 100, 97, 116, 101])
  rotate_left
  · exact elem_4 b d x _ w hs hg hd hL h0 h1 h2 h3 h4
  cases h5 : ((lowS (nameE x)).toList == [112, 114, 111, 120, 121, 45, 114, 101, 118, 97, 108, 105, 100, 97, 116, 101])
  rotate_left
  · exact elem_5 b d x _ w hs hg hd hL h0 h1 h2 h3 h4 h5
  cases h6 : ((lowS (nameE x)).toList == [111, 110, 108, 121, 45, 105, 102, 45, 99, 97, 99, 104, 101, 100])
  rotate_left
  · exact elem_6 b d x _ w hs hg hd hL h0 h1 h2 h3 h4 h5 h6
  cases h7 : ((lowS (nameE x)).toList == [109, 97, 120, 45, 97, 103, 101])
  rotate_left
  · exact elem_7 b d x _ w hs hg hd hL h0 h1 h2 h3 h4 h5 h6 h7
  cases h8 : ((lowS (nameE x)).toList == [115, 45, 109, 97, 120, 97, 103, 101])
  rotate_left
  · exact elem_8 b d x _ w hs hg hd hL h0 h1 h2 h3 h4 h5 h6 h7 h8
  cases h9 : ((lowS (nameE x)).toList == [115, 116, 97, 108, 101, 45, 119, 104, 105, 108, 101, 45, 114, 101, 118, 97, 108, 105, 100, 97, 116, 101])
  rotate_left
  · exact elem_9 b d x _ w hs hg hd hL h0 h1 h2 h3 h4 h5 h6 h7 h8 h9
  cases h10 : ((lowS (nameE x)).toList == [115, 116, 97, 108, 101, 45, 105, 102, 45, 101, 114, 114, 111, 114])
  rotate_left
  · exact elem_10 b d x _ w hs hg hd hL h0 h1 h2 h3 h4 h5 h6 h7 h8 h9 h10
  cases h11 : ((lowS (nameE x)).toList == [109, 97, 120, 45, 115, 116, 97, 108, 101])
  rotate_left
  · exact elem_11 b d x _ w hs hg hd hL h0 h1 h2 h3 h4 h5 h6 h7 h8 h9 h10 h11
  cases h12 : ((lowS (nameE x)).toList == [109, 105, 110, 45, 102, 114, 101, 115, 104])
  rotate_left
  · exact elem_12 b d x _ w hs hg hd hL h0 h1 h2 h3 h4 h5 h6 h7 h8 h9 h10 h11 h12
  exact elem_13 b d x _ w hs hg hd hL h0 h1 h2 h3 h4 h5 h6 h7 h8 h9 h10 h11 h12
end Go.Proofs.YtaebbnadmfbdjaaDoor
