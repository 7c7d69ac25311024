
/- The walk of syntax.Unquote. -/
import Derived.Test.YtaebbnadmfbdjaaDoorUnq
set_option linter.unusedSimpArgs false
set_option linter.unusedVariables false
namespace Go.Proofs.YtaebbnadmfbdjaaDoor
open Go.RowKit

theorem infoU8 : (Tryd.prog.info? 5).map (fun i => (i.zero, i.size, i.bytes)) = some (some (.int .u8 0), 1, 1) := by kernel_rfl
/-- A string's bytes as cells. -/
def byCells (s : ByteArray) : List Value := s.data.toList.map fun b => .int .u8 (b.toNat : Int)
theorem byCells_app (a b : ByteArray) : byCells (a ++ b) = byCells a ++ byCells b := by unfold byCells; rw [data_append, List.map_append]
theorem byCells_one {s : ByteArray} {i : Nat} (h : i < s.size) : byCells (s.extract i (i + 1)) = [.int .u8 (s[i].toNat : Int)] := by
  unfold byCells
  rw [← ByteArray.toList_eq, Lib.extract_toList, show i + 1 - i = 1 by omega, List.drop_eq_getElem_cons (show i < s.data.toList.length from by simpa using h)]
  rfl
theorem byCells_len (s : ByteArray) : (byCells s).length = s.size := by unfold byCells; rw [List.length_map]; simp
theorem slice_inj {A B : Option Addr} {n m c d : Nat} (h : Value.slice A n c = .slice B m d) : A = B ∧ n = m ∧ c = d := by
  injection h with a b c; exact ⟨a, b, c⟩
theorem conv_own {w : World} {base n c : Nat} {A : Option Addr} {X : ByteArray} (h : w.ownsRow base 5 1 (.slice A n c) n (byCells X)) :
    (convert 59 9 (.slice A n c)).run Tryd.prog w = .ok (.string X) w := by
  have hl := h.1
  rw [byCells_len, Nat.mul_one] at hl
  rcases h.2 with ⟨hv, h0⟩ | ⟨g, cap, cur, hv, rest⟩
  · obtain ⟨rfl, rfl, rfl⟩ := slice_inj hv
    clear h0
    have hx : X = ByteArray.empty := ByteArray.size_eq_zero_iff.1 hl
    subst hx
    exact run_convert_bytes_nil (P := Tryd.prog) w 59 5 Tryd.underlying59 Tryd.underlying5 _ _ 9 Tryd.underlying9
  · obtain ⟨rfl, -, -⟩ := slice_inj hv
    have hl2 : X.data.toList.length = n := by rw [← hl]; simp
    have := run_convert_bytes_back (P := Tryd.prog) w 59 9 5 ⟨g, 0, none⟩ c X.data.toList Tryd.underlying59 Tryd.underlying5 Tryd.underlying9
      (fun j hj => h.cells (g := g) rfl j _ (by unfold byCells; rw [List.getElem?_map, List.getElem?_eq_getElem hj]; rfl))
    rw [hl2] at this
    simpa using this

def uE (o : Option ByteArray) : Nat := if o.isSome then 0 else 2
set_option maxHeartbeats 2000000 in
set_option maxRecDepth 100000 in
theorem syntax_Unquote (s : ByteArray) (w : World) (hs : s.size ≤ 1048576) :
    Calls Tryd.prog 57 #[.string s] w fun e w' => e = .returned (.tuple #[.string ((unqS s).getD ⟨#[]⟩), errV (uE (unqS s))]) ∧ Ext w w' := by
  go_enter Tryd.func57, Tryd.ntmps57
  by_cases h2 : s.size < 2
  · have Hn := Lib.hid (unqS_short h2)
    go_wp2_with fail
    go_ret2
    exact ⟨by rw [Hn.out]; rfl, Ext.refl _⟩
  by_cases h34 : ((s[0]'(by omega)).toNat : Int) = 34
  case neg =>
    have Hn := Lib.hid (unqS_no h2 h34)
    have hne : (((s[0]'(by omega)).toNat : Int) != 34) = true := by simp [h34]
    go_wp2_with fail
    go_ret2
    exact ⟨by rw [Hn.out]; rfl, Ext.refl _⟩
  case pos =>
    have hne : (((s[0]'(by omega)).toNat : Int) != 34) = false := by simp [h34]
    go_wp2_with fail
    refine (syntax_clean s _ (by omega)).mono ?_; rintro e w1 ⟨rfl, hb1⟩
    cases hct : ctlS s
    · have Hgo := Lib.hid (unqS_go hct h2 h34); clear hct
      go_wp2_with fail
      go_loopw [4, 5] (fun v i wr => ∃ k X A' c' m, k ≤ s.size + 1 ∧ 1 ≤ k ∧ i = .int .i64 (k : Nat) ∧ v = .slice A' m c' ∧ wr.ownsRow w1.heap.size 5 1 (.slice A' m c') m (byCells X) ∧ m ≤ c' ∧ m ≤ k ∧ unqGo s k X = unqS s ∧ Ext w1 wr) (fun _ i _ => s.size + 1 - (intOf i).toNat)
      case atStart => exact ⟨1, ⟨#[]⟩, none, 0, 0, by omega, Nat.le_refl _, rfl, rfl, World.ownsRow_nil _ _ _ _, Nat.le_refl _, by omega, Hgo.out, Ext.refl _⟩
      case round =>
        obtain ⟨k, X, A', c', m, hk, hk1, rfl, rfl, hown, hmc, hmk, hgo, hbr⟩ := hrel
        by_cases hlt : k < s.size
        · by_cases hq : (s[k].toNat : Int) = 34
          · have HG := Lib.hid ((unq_quo (out := X) hlt hq).symm.trans hgo); clear hgo
            by_cases hend : k + 1 < s.size
            · have HN := Lib.hid (show none = unqS s by rw [← HG.out, if_pos hend])
              go_wp2_with fail
              go_ret2
              exact ⟨by rw [← HN.out]; rfl, hb1.trans hbr⟩
            · have HN := Lib.hid (show some X = unqS s by rw [← HG.out, if_neg hend])
              have hke : k + 1 = s.size := by omega
              have hcv := conv_own hown
              go_wp2_with fail
              go_ret2
              exact ⟨by rw [← HN.out]; rfl, hb1.trans hbr⟩
          · by_cases h92 : (s[k].toNat : Int) = 92
            · by_cases hend : k + 1 < s.size
              · have HG := Lib.hid ((unq_esc (out := X) hlt h92 hend).symm.trans hgo); clear hgo
                have Hone := Lib.hid (byCells_one hend)
                have hne2 : ¬ (k : Int) + 1 = (s.size : Int) := by omega
                go_wp2_with (first
                  | (at_builtin; refine wpList_app _ rfl (.tmp 48) (.tmp 52) 59 rfl w1 5 _ 1 1 Tryd.underlying59 infoU8 rfl (by decide) _ _ _ rfl (hown.alloc _) _ 1 1 [.int .u8 (s[k + 1].toNat : Int)] rfl (Rd.one _ _ _ (by simp)) (by intro u hu; simp at hu; subst hu; rfl) (hbr.alloc _) (by omega) (by decide) ?_; intro A2 c2 w3 hown3 hb3 hle3))
                go_roundw
                case rel => exact ⟨k + 2, X ++ s.extract (k + 1) (k + 2), A2, c2, m + 1, by omega, by omega, by go_num, rfl, by rw [byCells_app, Hone.out]; exact hown3, hle3, by omega, HG.out, hb3⟩
                case measure => simp [intOf]; omega
              · have HN := Lib.hid ((unq_esc_end (out := X) hlt h92 hend).symm.trans hgo); clear hgo
                have hke : (k : Int) + 1 = (s.size : Int) := by omega
                go_wp2_with fail
                go_ret2
                exact ⟨by rw [← HN.out]; rfl, hb1.trans hbr⟩
            · have HG := Lib.hid ((unq_next (out := X) hlt hq h92).symm.trans hgo); clear hgo
              have Hone := Lib.hid (byCells_one hlt)
              go_wp2_with (first
                | (at_builtin; refine wpList_app _ rfl (.tmp 48) (.tmp 52) 59 rfl w1 5 _ 1 1 Tryd.underlying59 infoU8 rfl (by decide) _ _ _ rfl (hown.alloc _) _ 1 1 [.int .u8 (s[k].toNat : Int)] rfl (Rd.one _ _ _ (by simp)) (by intro u hu; simp at hu; subst hu; rfl) (hbr.alloc _) (by omega) (by decide) ?_; intro A2 c2 w3 hown3 hb3 hle3))
              go_roundw
              case rel => exact ⟨k + 1, X ++ s.extract k (k + 1), A2, c2, m + 1, by omega, by omega, by go_num, rfl, by rw [byCells_app, Hone.out]; exact hown3, hle3, by omega, HG.out, hb3⟩
              case measure => simp [intOf]; omega
        · have HG := Lib.hid ((unq_end (out := X) hlt).symm.trans hgo); clear hgo
          go_wp2_with fail
          go_ret2
          exact ⟨by rw [← HG.out]; rfl, hb1.trans hbr⟩
    · have Hn := Lib.hid (unqS_ctl hct); clear hct
      go_wp2_with fail
      go_ret2
      exact ⟨by rw [Hn.out]; rfl, hb1⟩
end Go.Proofs.YtaebbnadmfbdjaaDoor
