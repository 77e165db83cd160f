/- VariationOf: of the reference and of the program. -/
import Derived.Test.YtnopedjgagoahaaMrat
namespace Go.Proofs.Ytnopedjgagoahaa
open Go.RowKit
set_option linter.unusedVariables false
set_option linter.unusedSimpArgs false

def absI (x : Int) : Int := max x (-x)
theorem absI_neg {x : Int} (h : x < -x) : absI x = -x := by unfold absI; omega
theorem absI_pos {x : Int} (h : ¬ x < -x) : absI x = x := by unfold absI; omega
theorem fracB_abs {x y : Int} (h : fracB x y = true) : fracB (absI x) y = true := by
  have := fracB_true.1 h
  refine fracB_true.2 ⟨this.1, by unfold absI; omega, ?_⟩
  by_cases hx : x < -x
  · rw [absI_neg hx, Int.neg_gcd]; exact this.2.2
  · rw [absI_pos hx]; exact this.2.2
/-- One more difference. -/
def haSt (r s : List QQ) (k : Nat) (a b : Int) : Int × Int × Bool :=
  if (mkF ((r.getD k (0, 0)).1 * (s.getD k (0, 0)).2 - (s.getD k (0, 0)).1 * (r.getD k (0, 0)).2) ((r.getD k (0, 0)).2 * (s.getD k (0, 0)).2)).2.2 = true then
    mkF (a * (mkF ((r.getD k (0, 0)).1 * (s.getD k (0, 0)).2 - (s.getD k (0, 0)).1 * (r.getD k (0, 0)).2) ((r.getD k (0, 0)).2 * (s.getD k (0, 0)).2)).2.1 + absI (mkF ((r.getD k (0, 0)).1 * (s.getD k (0, 0)).2 - (s.getD k (0, 0)).1 * (r.getD k (0, 0)).2) ((r.getD k (0, 0)).2 * (s.getD k (0, 0)).2)).1 * b)
      (b * (mkF ((r.getD k (0, 0)).1 * (s.getD k (0, 0)).2 - (s.getD k (0, 0)).1 * (r.getD k (0, 0)).2) ((r.getD k (0, 0)).2 * (s.getD k (0, 0)).2)).2.1) else (0, 0, false)
section
variable {r s : List QQ} {k : Nat} {a b x y u v q1 q2 : Int}
theorem haSt_no (hx : (x, y) = r.getD k (0, 0)) (hu : (u, v) = s.getD k (0, 0)) (e : mkF (x * v - u * y) (y * v) = (q1, q2, false)) : haSt r s k a b = (0, 0, false) := by
  unfold haSt; rw [← hx, ← hu]; simp [e]
theorem haSt_yes (hx : (x, y) = r.getD k (0, 0)) (hu : (u, v) = s.getD k (0, 0)) (e : mkF (x * v - u * y) (y * v) = (q1, q2, true)) : haSt r s k a b = mkF (a * q2 + absI q1 * b) (b * q2) := by
  unfold haSt; rw [← hx, ← hu]; simp [e]
end
theorem haSt_fine (r s : List QQ) (k : Nat) (a b : Int) : Fine (haSt r s k a b) := by unfold haSt; exact Fine.ite (Fine.mk _ _) Fine.no
def haQ (r s : List QQ) : Int × Int × Bool := if (accQ (haSt r s) 0 1 r.length).2.2 = true then mkF ((accQ (haSt r s) 0 1 r.length).1 * 1) ((accQ (haSt r s) 0 1 r.length).2.1 * 2) else (0, 0, false)
theorem haQ_no {r s : List QQ} {n : Nat} (hn : r.length = n) (h : accQ (haSt r s) 0 1 n = (0, 0, false)) : haQ r s = (0, 0, false) := by unfold haQ; rw [hn, h]; simp
theorem haQ_yes {r s : List QQ} {n : Nat} {a b : Int} (hn : r.length = n) (h : accQ (haSt r s) 0 1 n = (a, b, true)) : haQ r s = mkF (a * 1) (b * 2) := by unfold haQ; rw [hn, h]; simp
def varQ (ll : List (List QQ)) (i k : Int) : Int × Int × Bool := if inp ll i k = true then haQ (ll.getD i.toNat []) (ll.getD k.toNat []) else (0, 0, false)
theorem varQ_no {ll : List (List QQ)} {i k : Int} (h : inp ll i k = false) : varQ ll i k = (0, 0, false) := if_neg (by rw [h]; simp)
theorem varQ_yes {ll : List (List QQ)} {i k : Nat} (h : inp ll i k = true) : varQ ll i k = haQ (ll.getD i []) (ll.getD k []) := by unfold varQ; rw [if_pos h]; simp
theorem two_bd : -1000000000 ≤ (2 : Int) ∧ (2 : Int) ≤ 1000000000 := by omega

end Go.Proofs.Ytnopedjgagoahaa
