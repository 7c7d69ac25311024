
/- The walks of validator.date, Evaluate, UseRange. -/
import Derived.Test.YtghaopeijncgaaaDoorMatch
import Derived.Test.YtghaopeijncgaaaDoorDate4
namespace Go.Proofs.YtghaopeijncgaaaDoor
open Go.RowKit

def getO (fs : List Fd) (name : ByteArray) : Option ByteArray := if 0 < (allS fs name).length then some (joinS (allS fs name)) else none
def getV (o : Option ByteArray) : Value := .tuple #[.string (o.getD ⟨#[]⟩), .bool o.isSome]
theorem getV_get (fs : List Fd) (name : ByteArray) : Value.tuple #[.string (joinS (allS fs name)), .bool (decide (0 < (allS fs name).length))] = getV (getO fs name) := by
  unfold getO
  cases h : allS fs name with
  | nil => rfl
  | cons a l =>
    rw [if_pos (by simp)]
    simp [getV]
def dateF (fs : List Fd) (name : ByteArray) : Option Int := (getO fs name).bind dateP
def dtV (o : Option Int) : Value := .tuple #[.int .i64 (o.getD 0), .bool o.isSome]
theorem getO_size {fs : List Fd} {name v : ByteArray} (h : getO fs name = some v) {n : Nat} (hn : fs.length = n)  : v.size ≤ sumF fs + 2 * n := by
  unfold getO at h
  split at h
  · injection h with h
    subst h
    have a := joinS_size (allS fs name)
    have b := totS_all fs name
    have c := allS_len fs name n
    rw [List.take_of_length_le (by omega)] at c
    omega
  · cases h
theorem field_GetO (A : Option Addr) (n c : Nat) (fs : List Fd) (name : ByteArray) (w : World) (hf : RdF w A n fs)
    (hn : n ≤ 1073741824) (hs : name.size ≤ 9223372036854775807) (hsz : Bsz 1048576 fs) (hT : sumF fs + 2 * n ≤ 70368744177664) :
    Calls Tryd.prog 42 #[.slice A n c, .string name] w fun e w' => e = .returned (getV (getO fs name)) ∧ Ext w w' := by
  rw [← getV_get]
  exact field_Get A n c fs name w hf hn hs 1048576 (by decide) hsz hT
set_option maxHeartbeats 1000000 in
theorem val_date (A : Option Addr) (n c : Nat) (fs : List Fd) (name : ByteArray) (w : World) (hf : RdF w A n fs)
    (hn : n ≤ 1073741824) (hs : name.size ≤ 9223372036854775807) (hsz : Bsz 1048576 fs) (hT : sumF fs + 2 * n ≤ 70368744177664) (hg : GlH w) :
    Calls Tryd.prog 44 #[.slice A n c, .string name] w fun e w' => e = .returned (dtV (dateF fs name)) ∧ Ext w w' := by
  have hG := field_GetO A n c fs name w hf hn hs hsz hT
  have Hv := Lib.hid (fun v h => Nat.le_trans (@getO_size fs name v h n hf.lenF) (show sumF fs + 2 * n ≤ 140737488351232 by omega))
  have Hd := Lib.hid (show dateF fs name = (getO fs name).bind dateP from rfl)
  generalize dateF fs name = D at *
  generalize getO fs name = o at *
  have HG := Lib.hid hG; clear hG
  go_enter Tryd.func44, Tryd.ntmps44
  go_wp2_with fail
  refine HG.out.mono ?_; rintro e w1 ⟨rfl, hb1⟩
  cases o with
  | none =>
    have HD := Lib.hid (show Value.tuple #[.int .i64 0, .bool false] = dtV D by rw [Hd.out]; rfl)
    rw [show getV none = .tuple #[.string ⟨#[]⟩, .bool false] from rfl]
    go_wp2_with fail
    go_ret2
    exact ⟨ret_v HD.out, hb1⟩
  | some v =>
    rw [show getV (some v) = .tuple #[.string v, .bool true] from rfl]
    have hP := http_Parse v
    have HD := Lib.hid (show D = dateP v from Hd.out)
    generalize dateP v = P at *
    have HP := Lib.hid hP; clear hP
    go_wp2_with fail
    refine (HP.out _ (Hv.out _ rfl) (hg.ext hb1)).mono ?_; rintro e w2 ⟨rfl, hb2⟩
    cases P with
    | none =>
      have HD := Lib.hid (show Value.tuple #[.int .i64 0, .bool false] = dtV D by rw [HD.out]; rfl)
      rw [show dpV none = .tuple #[.int .i64 0, .iface 34 (.int .i64 2)] from rfl]
      go_wp2_with fail
      go_region
      all_goals (try go_wp2_with fail)
      all_goals
        go_ret2
        exact ⟨ret_v HD.out, (hb1.trans hb2).drew⟩
    | some k =>
      have HD := Lib.hid (show Value.tuple #[.int .i64 k, .bool true] = dtV D by rw [HD.out]; rfl)
      rw [show dpV (some k) = .tuple #[.int .i64 k, .nilIface] from rfl]
      go_wp2_with fail
      go_region
      all_goals (try go_wp2_with fail)
      all_goals
        go_ret2
        exact ⟨ret_v HD.out, (hb1.trans hb2).drew⟩

def norm (s : St) : St := { s with ht := s.ht && s.ex, hm := s.hm && s.ex }
def isR (m : ByteArray) : Bool := (m.toList == [71, 69, 84]) || (m.toList == [72, 69, 65, 68])
/-- Is it failed by the first pair of conditions? (s: the state, with what is not there left out.) -/
def evA (im : Option ByteArray) (ius : Option Int) (s : St) : Bool := match im with
  | some v => !matS v s true
  | none => match ius with
    | some n => s.hm && decide (n < s.md)
    | none => false
def evB (rd : Bool) (inm : Option ByteArray) (ims : Option Int) (s : St) : Int := match inm with
  | some v => if matS v s false then (if rd then 2 else 3) else 1
  | none => match ims with
    | some n => if rd && s.hm && decide (s.md ≤ n) then 2 else 1
    | none => 1
def evS (rd : Bool) (im : Option ByteArray) (ius : Option Int) (inm : Option ByteArray) (ims : Option Int) (s : St) : Int := if evA im ius s then 3 else evB rd inm ims s
def imsN : ByteArray := ⟨#[105, 102, 45, 109, 111, 100, 105, 102, 105, 101, 100, 45, 115, 105, 110, 99, 101]⟩
def evF (m : ByteArray) (fs : List Fd) (s : St) : Int := evS (isR m) (getO fs imN) (dateF fs iusN) (getO fs inmN) (dateF fs imsN) (norm s)

set_option maxHeartbeats 40000000 in
set_option maxRecDepth 100000 in
theorem val_Evaluate (m : ByteArray) (A : Option Addr) (n c : Nat) (fs : List Fd) (st : St) (w : World) (hf : RdF w A n fs)
    (hn : n ≤ 1073741824) (hsz : Bsz 1048576 fs) (hT : sumF fs + 2 * n ≤ 70368744177664) (hT2 : sumF fs + 2 * n ≤ 1048576) (hg : GlH w) :
    Calls Tryd.prog 25 #[.string m, .slice A n c, .agg (stArr st)] w fun e w' => e = .returned (.int .i64 (evF m fs st)) ∧ Ext w w' := by
  have G1 := Lib.hid (fun w' (h : Ext w w') => field_GetO A n c fs imN w' (hf.ext h) hn (by decide) hsz hT)
  have D2 := Lib.hid (fun w' (h : Ext w w') => val_date A n c fs iusN w' (hf.ext h) hn (by decide) hsz hT (hg.ext h))
  have G3 := Lib.hid (fun w' (h : Ext w w') => field_GetO A n c fs inmN w' (hf.ext h) hn (by decide) hsz hT)
  have D4 := Lib.hid (fun w' (h : Ext w w') => val_date A n c fs imsN w' (hf.ext h) hn (by decide) hsz hT (hg.ext h))
  obtain ⟨R, hR⟩ : ∃ R, evF m fs st = R := ⟨_, rfl⟩
  rw [hR]
  unfold evF at hR
  have V1 := Lib.hid (fun v h => Nat.le_trans (@getO_size fs imN v h n hf.lenF) hT2)
  have V3 := Lib.hid (fun v h => Nat.le_trans (@getO_size fs inmN v h n hf.lenF) hT2)
  generalize dateF fs iusN = o2 at *
  generalize dateF fs imsN = o4 at *
  generalize getO fs imN = o1 at *
  generalize getO fs inmN = o3 at *
  have HI := Lib.hid (show isR m = ((m.toList == [71, 69, 84]) || (m.toList == [72, 69, 65, 68])) from rfl)
  generalize isR m = rd at *
  have HR := Lib.hid hR; clear hR
  have HB0 := Lib.hid (Blk.new w 61 (stArr st))
  have HE0 := Lib.hid ((Ext.refl w).alloc (.cells (stArr st) 61))
  go_enter Tryd.func25, Tryd.ntmps25
  go_upto_region 1 with fail
  go_cut [5] (fun x wx => x = .pointer (some ⟨w.heap.size, 0, none⟩) ∧ Blk wx w.heap.size 61 (stArr (norm st)) ∧ Ext w wx)
  case first =>
    obtain ⟨ex, ht, hm, tw, tt, md⟩ := st
    have HBo := HB0.out
    have HEo := HE0.out
    have c0 : (w.alloc (.cells (stArr ⟨ex, ht, hm, tw, tt, md⟩) 61)).cell? ⟨w.heap.size, 0, none⟩ = some (.bool ex) := HBo.cell 0
    have c1 : (w.alloc (.cells (stArr ⟨ex, ht, hm, tw, tt, md⟩) 61)).cell? ⟨w.heap.size, 1, none⟩ = some (.bool ht) := HBo.cell 1
    have c2 : (w.alloc (.cells (stArr ⟨ex, ht, hm, tw, tt, md⟩) 61)).cell? ⟨w.heap.size, 2, none⟩ = some (.bool hm) := HBo.cell 2
    cases ht <;> cases hm
    all_goals
      go_wp2_with fail
      go_meet
      exact ⟨rfl, Blk.new w _ _, (Ext.refl w).alloc _⟩
  case rest =>
    obtain ⟨rfl, hB, hE⟩ := hcut
    obtain ⟨S, hS⟩ : ∃ S, norm st = S := ⟨_, rfl⟩
    rw [hS] at hB HR
    clear hS HB0 HE0
    obtain ⟨ex, ht, hm, tw, tt, md⟩ := S
    have HA1 := Lib.hid (show evA o1 o2 ⟨ex, ht, hm, tw, tt, md⟩ = true → 3 = R from fun h => by rw [← HR.out]; unfold evS; rw [if_pos h])
    have HA0 := Lib.hid (show evA o1 o2 ⟨ex, ht, hm, tw, tt, md⟩ = false → evB rd o3 o4 ⟨ex, ht, hm, tw, tt, md⟩ = R from fun h => by rw [← HR.out]; unfold evS; rw [if_neg (by rw [h]; decide)])
    clear HR
    have HC := Lib.hid (show ∀ w', Ext wc w' → w'.cell? ⟨w.heap.size, 0, none⟩ = some (.bool ex) ∧ w'.cell? ⟨w.heap.size, 1, none⟩ = some (.bool ht) ∧ w'.cell? ⟨w.heap.size, 2, none⟩ = some (.bool hm) ∧ w'.cell? ⟨w.heap.size, 3, none⟩ = some (.bool tw) ∧ w'.cell? ⟨w.heap.size, 4, none⟩ = some (.string tt) ∧ w'.cell? ⟨w.heap.size, 5, none⟩ = some (.int .i64 md) from fun w' h => ⟨(hB.ext h).cell 0, (hB.ext h).cell 1, (hB.ext h).cell 2, (hB.ext h).cell 3, (hB.ext h).cell 4, (hB.ext h).cell 5⟩)
    clear hB
    have hE1 := Ext.refl wc
    have hi1 : (m.toList == [71, 69, 84]) = true ∨ (m.toList == [71, 69, 84]) = false := by cases (m.toList == [71, 69, 84]) <;> simp
    have hi2 : (m.toList == [72, 69, 65, 68]) = true ∨ (m.toList == [72, 69, 65, 68]) = false := by cases (m.toList == [72, 69, 65, 68]) <;> simp
    go_upto_region 2 with fail
    go_cut [7] (fun x wx => x = .bool rd ∧ wx = wc)
    case first =>
      have HI2 := HI.out
      rcases hi1 with h1 | h1 <;> rcases hi2 with h2 | h2
      all_goals
        rw [h1, h2] at HI2
        subst HI2
        go_wp2_with fail
        go_meet
        exact ⟨rfl, rfl⟩
    case rest =>
      obtain ⟨rfl, rfl⟩ := hcut
      clear hi1 hi2 HI
      go_wp2_with fail
      refine (G1.out _ hE).mono ?_; rintro e w2 ⟨rfl, hb2⟩
      cases o1 with
      | none =>
        rw [show getV none = .tuple #[.string ⟨#[]⟩, .bool false] from rfl]
        go_wp2_with fail
        refine (D2.out _ (hE.trans hb2)).mono ?_; rintro e w3 ⟨rfl, hb3⟩
        have hEa := hb2.trans hb3
        obtain ⟨d0, d1, d2, d3, d4, d5⟩ := HC.out _ hEa
        cases o2 with
        | none =>
          rw [show dtV none = .tuple #[.int .i64 0, .bool false] from rfl]
          have HV := Lib.hid (HA0.out rfl)
          go_wp2_with fail
          refine (G3.out _ (hE.trans hEa)).mono ?_; rintro e w4 ⟨rfl, hb4⟩
          cases o3 with
          | none =>
            rw [show getV none = .tuple #[.string ⟨#[]⟩, .bool false] from rfl]
            have hEb := hEa.trans hb4
            go_wp2_with fail
            refine (D4.out _ (hE.trans hEb)).mono ?_; rintro e w5 ⟨rfl, hb5⟩
            have hEc := hEb.trans hb5
            obtain ⟨c0, c1, c2, c3, c4, c5⟩ := HC.out _ hEc
            cases o4 with
            | none =>
              rw [show dtV none = .tuple #[.int .i64 0, .bool false] from rfl]
              have HL := Lib.hid (show 1 = R from HV.out)
              go_wp2_with fail
              go_ret
              exact ⟨ret_i HL.out, hE.trans hEc⟩
            | some j =>
              rw [show dtV (some j) = .tuple #[.int .i64 j, .bool true] from rfl]
              cases rd
              · have HL := Lib.hid (show 1 = R from HV.out)
                go_wp2_with fail
                go_ret
                exact ⟨ret_i HL.out, hE.trans hEc⟩
              · cases hm
                · have HL := Lib.hid (show 1 = R from HV.out)
                  go_wp2_with fail
                  go_ret
                  exact ⟨ret_i HL.out, hE.trans hEc⟩
                · have HL := Lib.hid (show (if decide (md ≤ j) then 2 else 1) = R from HV.out)
                  by_cases hj : md ≤ j
                  · rw [decide_eq_true hj] at HL
                    go_wp2_with fail
                    go_ret
                    exact ⟨ret_i HL.out, hE.trans hEc⟩
                  · rw [decide_eq_false hj] at HL
                    go_wp2_with fail
                    go_ret
                    exact ⟨ret_i HL.out, hE.trans hEc⟩
          | some u =>
            rw [show getV (some u) = .tuple #[.string u, .bool true] from rfl]
            have hEb := hEa.trans hb4
            obtain ⟨c0, c1, c2, c3, c4, c5⟩ := HC.out _ hEb
            have HL := Lib.hid (show (if matS u ⟨ex, ht, hm, tw, tt, md⟩ false then (if rd then 2 else 3) else 1) = R from HV.out)
            have hMa := fun w => val_matches u ⟨ex, ht, hm, tw, tt, md⟩ false w (V3.out _ rfl)
            generalize matS u ⟨ex, ht, hm, tw, tt, md⟩ false = q at *
            have HM := Lib.hid hMa; clear hMa
            go_wp2_with fail
            refine (HM.out _).mono ?_; rintro e w5 ⟨rfl, hb5⟩
            have hEc := hEb.trans hb5
            cases q
            · go_wp2_with fail
              go_ret
              exact ⟨ret_i HL.out, hE.trans hEc⟩
            · cases rd
              · go_wp2_with fail
                go_ret
                exact ⟨ret_i HL.out, hE.trans hEc⟩
              · go_wp2_with fail
                go_ret
                exact ⟨ret_i HL.out, hE.trans hEc⟩
        | some k =>
          rw [show dtV (some k) = .tuple #[.int .i64 k, .bool true] from rfl]
          cases hm
          · skip
            have HV := Lib.hid (HA0.out rfl)
            go_wp2_with fail
            refine (G3.out _ (hE.trans hEa)).mono ?_; rintro e w4 ⟨rfl, hb4⟩
            cases o3 with
            | none =>
              rw [show getV none = .tuple #[.string ⟨#[]⟩, .bool false] from rfl]
              have hEb := hEa.trans hb4
              go_wp2_with fail
              refine (D4.out _ (hE.trans hEb)).mono ?_; rintro e w5 ⟨rfl, hb5⟩
              have hEc := hEb.trans hb5
              obtain ⟨c0, c1, c2, c3, c4, c5⟩ := HC.out _ hEc
              cases o4 with
              | none =>
                rw [show dtV none = .tuple #[.int .i64 0, .bool false] from rfl]
                have HL := Lib.hid (show 1 = R from HV.out)
                go_wp2_with fail
                go_ret
                exact ⟨ret_i HL.out, hE.trans hEc⟩
              | some j =>
                rw [show dtV (some j) = .tuple #[.int .i64 j, .bool true] from rfl]
                cases rd
                · have HL := Lib.hid (show 1 = R from HV.out)
                  go_wp2_with fail
                  go_ret
                  exact ⟨ret_i HL.out, hE.trans hEc⟩
                · have HL := Lib.hid (show 1 = R from HV.out)
                  go_wp2_with fail
                  go_ret
                  exact ⟨ret_i HL.out, hE.trans hEc⟩
            | some u =>
              rw [show getV (some u) = .tuple #[.string u, .bool true] from rfl]
              have hEb := hEa.trans hb4
              obtain ⟨c0, c1, c2, c3, c4, c5⟩ := HC.out _ hEb
              have HL := Lib.hid (show (if matS u ⟨ex, ht, false, tw, tt, md⟩ false then (if rd then 2 else 3) else 1) = R from HV.out)
              have hMa := fun w => val_matches u ⟨ex, ht, false, tw, tt, md⟩ false w (V3.out _ rfl)
              generalize matS u ⟨ex, ht, false, tw, tt, md⟩ false = q at *
              have HM := Lib.hid hMa; clear hMa
              go_wp2_with fail
              refine (HM.out _).mono ?_; rintro e w5 ⟨rfl, hb5⟩
              have hEc := hEb.trans hb5
              cases q
              · go_wp2_with fail
                go_ret
                exact ⟨ret_i HL.out, hE.trans hEc⟩
              · cases rd
                · go_wp2_with fail
                  go_ret
                  exact ⟨ret_i HL.out, hE.trans hEc⟩
                · go_wp2_with fail
                  go_ret
                  exact ⟨ret_i HL.out, hE.trans hEc⟩
          · by_cases hk : k < md
            · have HL := Lib.hid (HA1.out (decide_eq_true hk))
              go_wp2_with fail
              go_ret
              exact ⟨ret_i HL.out, hE.trans hEa⟩
            · have hk2 := decide_eq_false hk
              have HV := Lib.hid (HA0.out hk2)
              go_wp2_with fail
              refine (G3.out _ (hE.trans hEa)).mono ?_; rintro e w4 ⟨rfl, hb4⟩
              cases o3 with
              | none =>
                rw [show getV none = .tuple #[.string ⟨#[]⟩, .bool false] from rfl]
                have hEb := hEa.trans hb4
                go_wp2_with fail
                refine (D4.out _ (hE.trans hEb)).mono ?_; rintro e w5 ⟨rfl, hb5⟩
                have hEc := hEb.trans hb5
                obtain ⟨c0, c1, c2, c3, c4, c5⟩ := HC.out _ hEc
                cases o4 with
                | none =>
                  rw [show dtV none = .tuple #[.int .i64 0, .bool false] from rfl]
                  have HL := Lib.hid (show 1 = R from HV.out)
                  go_wp2_with fail
                  go_ret
                  exact ⟨ret_i HL.out, hE.trans hEc⟩
                | some j =>
                  rw [show dtV (some j) = .tuple #[.int .i64 j, .bool true] from rfl]
                  cases rd
                  · have HL := Lib.hid (show 1 = R from HV.out)
                    go_wp2_with fail
                    go_ret
                    exact ⟨ret_i HL.out, hE.trans hEc⟩
                  · have HL := Lib.hid (show (if decide (md ≤ j) then 2 else 1) = R from HV.out)
                    by_cases hj : md ≤ j
                    · rw [decide_eq_true hj] at HL
                      go_wp2_with fail
                      go_ret
                      exact ⟨ret_i HL.out, hE.trans hEc⟩
                    · rw [decide_eq_false hj] at HL
                      go_wp2_with fail
                      go_ret
                      exact ⟨ret_i HL.out, hE.trans hEc⟩
              | some u =>
                rw [show getV (some u) = .tuple #[.string u, .bool true] from rfl]
                have hEb := hEa.trans hb4
                obtain ⟨c0, c1, c2, c3, c4, c5⟩ := HC.out _ hEb
                have HL := Lib.hid (show (if matS u ⟨ex, ht, true, tw, tt, md⟩ false then (if rd then 2 else 3) else 1) = R from HV.out)
                have hMa := fun w => val_matches u ⟨ex, ht, true, tw, tt, md⟩ false w (V3.out _ rfl)
                generalize matS u ⟨ex, ht, true, tw, tt, md⟩ false = q at *
                have HM := Lib.hid hMa; clear hMa
                go_wp2_with fail
                refine (HM.out _).mono ?_; rintro e w5 ⟨rfl, hb5⟩
                have hEc := hEb.trans hb5
                cases q
                · go_wp2_with fail
                  go_ret
                  exact ⟨ret_i HL.out, hE.trans hEc⟩
                · cases rd
                  · go_wp2_with fail
                    go_ret
                    exact ⟨ret_i HL.out, hE.trans hEc⟩
                  · go_wp2_with fail
                    go_ret
                    exact ⟨ret_i HL.out, hE.trans hEc⟩
      | some v =>
        rw [show getV (some v) = .tuple #[.string v, .bool true] from rfl]
        obtain ⟨d0, d1, d2, d3, d4, d5⟩ := HC.out _ hb2
        have hMa := fun w => val_matches v ⟨ex, ht, hm, tw, tt, md⟩ true w (V1.out _ rfl)
        have HQ := Lib.hid (show evA (some v) o2 ⟨ex, ht, hm, tw, tt, md⟩ = !matS v ⟨ex, ht, hm, tw, tt, md⟩ true from rfl)
        generalize matS v ⟨ex, ht, hm, tw, tt, md⟩ true = q0 at *
        have HM := Lib.hid hMa; clear hMa
        go_wp2_with fail
        refine (HM.out _).mono ?_; rintro e w3 ⟨rfl, hb3⟩
        have hEa := hb2.trans hb3
        cases q0
        · have HL := Lib.hid (HA1.out HQ.out)
          go_wp2_with fail
          go_ret
          exact ⟨ret_i HL.out, hE.trans hEa⟩
        · skip
          have HV := Lib.hid (HA0.out HQ.out)
          go_wp2_with fail
          refine (G3.out _ (hE.trans hEa)).mono ?_; rintro e w4 ⟨rfl, hb4⟩
          cases o3 with
          | none =>
            rw [show getV none = .tuple #[.string ⟨#[]⟩, .bool false] from rfl]
            have hEb := hEa.trans hb4
            go_wp2_with fail
            refine (D4.out _ (hE.trans hEb)).mono ?_; rintro e w5 ⟨rfl, hb5⟩
            have hEc := hEb.trans hb5
            obtain ⟨c0, c1, c2, c3, c4, c5⟩ := HC.out _ hEc
            cases o4 with
            | none =>
              rw [show dtV none = .tuple #[.int .i64 0, .bool false] from rfl]
              have HL := Lib.hid (show 1 = R from HV.out)
              go_wp2_with fail
              go_ret
              exact ⟨ret_i HL.out, hE.trans hEc⟩
            | some j =>
              rw [show dtV (some j) = .tuple #[.int .i64 j, .bool true] from rfl]
              cases rd
              · have HL := Lib.hid (show 1 = R from HV.out)
                go_wp2_with fail
                go_ret
                exact ⟨ret_i HL.out, hE.trans hEc⟩
              · cases hm
                · have HL := Lib.hid (show 1 = R from HV.out)
                  go_wp2_with fail
                  go_ret
                  exact ⟨ret_i HL.out, hE.trans hEc⟩
                · have HL := Lib.hid (show (if decide (md ≤ j) then 2 else 1) = R from HV.out)
                  by_cases hj : md ≤ j
                  · rw [decide_eq_true hj] at HL
                    go_wp2_with fail
                    go_ret
                    exact ⟨ret_i HL.out, hE.trans hEc⟩
                  · rw [decide_eq_false hj] at HL
                    go_wp2_with fail
                    go_ret
                    exact ⟨ret_i HL.out, hE.trans hEc⟩
          | some u =>
            rw [show getV (some u) = .tuple #[.string u, .bool true] from rfl]
            have hEb := hEa.trans hb4
            obtain ⟨c0, c1, c2, c3, c4, c5⟩ := HC.out _ hEb
            have HL := Lib.hid (show (if matS u ⟨ex, ht, hm, tw, tt, md⟩ false then (if rd then 2 else 3) else 1) = R from HV.out)
            have hMa := fun w => val_matches u ⟨ex, ht, hm, tw, tt, md⟩ false w (V3.out _ rfl)
            generalize matS u ⟨ex, ht, hm, tw, tt, md⟩ false = q at *
            have HM := Lib.hid hMa; clear hMa
            go_wp2_with fail
            refine (HM.out _).mono ?_; rintro e w5 ⟨rfl, hb5⟩
            have hEc := hEb.trans hb5
            cases q
            · go_wp2_with fail
              go_ret
              exact ⟨ret_i HL.out, hE.trans hEc⟩
            · cases rd
              · go_wp2_with fail
                go_ret
                exact ⟨ret_i HL.out, hE.trans hEc⟩
              · go_wp2_with fail
                go_ret
                exact ⟨ret_i HL.out, hE.trans hEc⟩
end Go.Proofs.YtghaopeijncgaaaDoor
