/- The tables that are new: of the program and of the reference. -/
import Derived.Test.YtellocnplemjmaaFv
namespace Go.Proofs.Ytellocnplemjmaa
open Go.RowKit Go.Sort
set_option linter.unusedVariables false
set_option linter.unusedSimpArgs false

theorem fr_belowN {B : Nat} {w w' : World} (k : Below B w w') : Fr B w.heap.size w w' := ⟨k.os, k.tape, k.output, k.size, fun i hi ho => k.block i (by omega)⟩
/-- The numbers below k where g fails. -/
def ntTo (g : Nat → Bool) : Nat → List Int
  | 0 => []
  | k + 1 => if g k then ntTo g k else ntTo g k ++ [(k : Int)]
theorem ntTo_len (g : Nat → Bool) : ∀ k, (ntTo g k).length ≤ k
  | 0 => Nat.le_refl _
  | k + 1 => by
    have := ntTo_len g k
    unfold ntTo; split
    · omega
    · rw [List.length_append]; simp; omega
theorem ntTo_yes {g : Nat → Bool} {k : Nat} (h : g k = true) : ntTo g (k + 1) = ntTo g k := by show (if g k then ntTo g k else ntTo g k ++ [(k : Int)]) = _; rw [h]; rfl
theorem ntTo_no {g : Nat → Bool} {k : Nat} (h : g k = false) : ntTo g (k + 1) = ntTo g k ++ [(k : Int)] := by show (if g k then ntTo g k else ntTo g k ++ [(k : Int)]) = _; rw [h]; rfl
def ntG (ps : List Int) (l : List VV) (rs : List RL) (ts : List TT) (n : Nat) (i : Nat) : Bool := exF (fvG ps l rs (ts.getD i t0)) n
def ntQ (ps : List Int) (l : List VV) (rs : List RL) (ts : List TT) : List Int × Bool :=
  if hisB ps l rs && plB ps l ts then (ntTo (ntG ps l rs ts rs.length) ts.length, true) else ([], false)
theorem ntQ_no {ps : List Int} {l : List VV} {rs : List RL} {ts : List TT} (h : (hisB ps l rs && plB ps l ts) = false) : ntQ ps l rs ts = ([], false) := by unfold ntQ; rw [h]; rfl
theorem ntQ_yes {ps : List Int} {l : List VV} {rs : List RL} {ts : List TT} {r n : Nat} (hr : rs.length = r) (hl : ts.length = n) (h : hisB ps l rs = true) (h1 : plB ps l ts = true) : ntQ ps l rs ts = (ntTo (ntG ps l rs ts r) n, true) := by unfold ntQ; rw [h, h1, hl, hr]; rfl
theorem ntQ_len (ps : List Int) (l : List VV) (rs : List RL) (ts : List TT) : (ntQ ps l rs ts).1.length ≤ ts.length := by
  unfold ntQ; split
  · exact ntTo_len _ _
  · simp

end Go.Proofs.Ytellocnplemjmaa
