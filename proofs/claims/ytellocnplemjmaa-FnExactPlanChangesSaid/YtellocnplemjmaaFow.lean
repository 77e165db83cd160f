/- Which table follows from which: of the program and of the reference. -/
import Derived.Test.YtellocnplemjmaaFol
namespace Go.Proofs.Ytellocnplemjmaa
open Go.RowKit Go.Sort
set_option linter.unusedVariables false
set_option linter.unusedSimpArgs false
theorem flop {P : Program} {f : Nat} {a : Array Value} {w : World} {v : Ending} (h : Calls P f a w fun e w' => e = v ∧ w' = w) : Calls P f a w fun e w' => e = v ∧ w = w' := h.mono fun _ _ ⟨h1, h2⟩ => ⟨h1, h2.symm⟩
theorem smE_eq {s s' : Int} {us : List Int} (h : s = s') : smE s s' us = true := by unfold smE; rw [decide_eq_true h]; rfl
theorem smE_no {s s' : Int} {us : List Int} (h : ¬ s = s') (h1 : ¬ s' = -1) : smE s s' us = false := by unfold smE; rw [decide_eq_false h, decide_eq_false h1]; rfl
theorem smE_in {s s' : Int} {us : List Int} (h : ¬ s = s') (h1 : s' = -1) : smE s s' us = decide (s ∈ us) := by unfold smE; rw [decide_eq_false h, decide_eq_true h1]; simp
theorem vaTo_next {vs us : List Int} {k : Nat} (h : vaTo vs us k = true) (h1 : decide (vs.getD k 0 ∈ us) = true) : vaTo vs us (k + 1) = true := by unfold vaTo; rw [h, h1]; rfl
theorem coTo_next {l : List VV} {ws us ws' : List Int} {k : Nat} (h : coTo l ws us ws' k = true) (h1 : coR l ws us ws' k = true) : coTo l ws us ws' (k + 1) = true := by unfold coTo; rw [h, h1]; rfl

end Go.Proofs.Ytellocnplemjmaa
