
/- Directives with times within their limits; the more careful one of two directives; their laws. No program in sight. -/
import Derived.Test.YtafmedphgmacaaaDoorParse
import Derived.Test.YtafmedphgmacaaaDoorPl11
namespace Go.Proofs.YtafmedphgmacaaaDoor

/-- A time of a directive within its limits. -/
def nmT (n : Int) : Int := max (-1) (min n 2147483647)
def nmD (d : D) : D := { d with n0 := nmT d.n0, n1 := nmT d.n1, n2 := nmT d.n2, n3 := nmT d.n3, n4 := nmT d.n4, n5 := nmT d.n5 }
def mgD (x y : D) : D :=
  ⟨x.b0 || y.b0, x.b1 || y.b1, x.b2 || y.b2, x.b3 && y.b3, x.b4 || y.b4, x.b5 || y.b5, lst (nmT x.n0) (nmT y.n0), lst (nmT x.n1) (nmT y.n1), min (nmT x.n2) (nmT y.n2), min (nmT x.n3) (nmT y.n3), min (nmT x.n4) (nmT y.n4), max (nmT x.n5) (nmT y.n5)⟩
theorem mg_comm (x y : D) : mgD x y = mgD y x := by
  refine D.eq_of ?_ ?_ ?_ ?_ ?_ ?_ ?_ ?_ ?_ ?_ ?_ ?_ <;> simp only [mgD]
  · exact Bool.or_comm ..
  · exact Bool.or_comm ..
  · exact Bool.or_comm ..
  · exact Bool.and_comm ..
  · exact Bool.or_comm ..
  · exact Bool.or_comm ..
  · unfold lst nmT; (repeat' split) <;> omega
  · unfold lst nmT; (repeat' split) <;> omega
  · omega
  · omega
  · omega
  · omega
theorem lst_nm (a b : Int) : nmT (lst (nmT a) (nmT b)) = lst (nmT a) (nmT b) := by unfold lst nmT; (repeat' split) <;> omega
theorem lst_assoc (a b c : Int) : lst (lst (nmT a) (nmT b)) (nmT c) = lst (nmT a) (lst (nmT b) (nmT c)) := by unfold lst nmT; (repeat' split) <;> omega
theorem min_nm (a b : Int) : nmT (min (nmT a) (nmT b)) = min (nmT a) (nmT b) := by unfold nmT; omega
theorem max_nm (a b : Int) : nmT (max (nmT a) (nmT b)) = max (nmT a) (nmT b) := by unfold nmT; omega
theorem mg_assoc (x y z : D) : mgD (mgD x y) z = mgD x (mgD y z) := by
  refine D.eq_of ?_ ?_ ?_ ?_ ?_ ?_ ?_ ?_ ?_ ?_ ?_ ?_ <;> simp only [mgD]
  · exact Bool.or_assoc ..
  · exact Bool.or_assoc ..
  · exact Bool.or_assoc ..
  · exact Bool.and_assoc ..
  · exact Bool.or_assoc ..
  · exact Bool.or_assoc ..
  · rw [lst_nm, lst_nm, lst_assoc]
  · rw [lst_nm, lst_nm, lst_assoc]
  · rw [min_nm, min_nm]; omega
  · rw [min_nm, min_nm]; omega
  · rw [min_nm, min_nm]; omega
  · rw [max_nm, max_nm]; omega
theorem lst_self (a : Int) : lst a a = a := by unfold lst; (repeat' split) <;> omega
theorem lst_abs (a b : Int) : lst (lst (nmT a) (nmT b)) (nmT a) = lst (nmT a) (nmT b) := by unfold lst nmT; (repeat' split) <;> omega
theorem mg_idem (x y : D) : mgD (mgD x y) (mgD x y) = mgD x y := by
  refine D.eq_of ?_ ?_ ?_ ?_ ?_ ?_ ?_ ?_ ?_ ?_ ?_ ?_ <;> simp only [mgD]
  · exact Bool.or_self _
  · exact Bool.or_self _
  · exact Bool.or_self _
  · exact Bool.and_self _
  · exact Bool.or_self _
  · exact Bool.or_self _
  · rw [lst_nm, lst_self]
  · rw [lst_nm, lst_self]
  · rw [min_nm]; omega
  · rw [min_nm]; omega
  · rw [min_nm]; omega
  · rw [max_nm]; omega
theorem mg_absorb (x y : D) : mgD (mgD x y) x = mgD x y := by
  refine D.eq_of ?_ ?_ ?_ ?_ ?_ ?_ ?_ ?_ ?_ ?_ ?_ ?_ <;> simp only [mgD]
  · cases x.b0 <;> cases y.b0 <;> rfl
  · cases x.b1 <;> cases y.b1 <;> rfl
  · cases x.b2 <;> cases y.b2 <;> rfl
  · cases x.b3 <;> cases y.b3 <;> rfl
  · cases x.b4 <;> cases y.b4 <;> rfl
  · cases x.b5 <;> cases y.b5 <;> rfl
  · rw [lst_nm, lst_abs]
  · rw [lst_nm, lst_abs]
  · rw [min_nm]; omega
  · rw [min_nm]; omega
  · rw [min_nm]; omega
  · rw [max_nm]; omega
end Go.Proofs.YtafmedphgmacaaaDoor
