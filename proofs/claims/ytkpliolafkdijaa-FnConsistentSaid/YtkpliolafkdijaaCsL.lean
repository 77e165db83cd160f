/- Fitted numbers are consistent, have the root and no negative element. Plain lemmas, no walk. -/
import Derived.Test.YtkpliolafkdijaaKid
import Derived.Test.YtkpliolafkdijaaAjL
import Derived.Test.YtkpliolafkdijaaFit0
namespace Go.Proofs.Ytkpliolafkdijaa
open Go.RowKit
set_option linter.unusedVariables false
set_option linter.unusedSimpArgs false

theorem setTo_putK (x ks ys : List Int) (m : Nat) : setTo x ks ys m = putK x ks ys m := by
  induction m with
  | zero => rfl
  | succ m ih => simp only [setTo, putK, ih]
theorem fit_adj {ps vs out : List Int} {k : Nat} (h0 : ¬ (kids ps k).length = 0) (h : Rg out) : ∃ xs, IsAdj (vsAt vs (kids ps k)) (zeros (kids ps k).length) (tops (kids ps k).length) (out.getD k 0) xs := by
  have := h k
  refine isAdj_exists (by simp [vsAt_len]) (by simp [vsAt_len, tops_len]) (zeros_ordered _) (by rw [zeros_sum]; omega) ?_
  rw [tops_sum]
  omega
theorem fitTo_spec {ps vs : List Int} {root : Int} (hg : geoB ps = true) (hr : 0 ≤ root ∧ root ≤ 1000000) : ∀ k, k ≤ ps.length → HandTo ps (fitTo ps vs root k) root k ∧ Rg (fitTo ps vs root k)
  | 0, _ => by
    have hl := (geoB_true.1 hg).1.1
    refine ⟨⟨by simp [fitTo], ?_, fun i hi => absurd hi (by omega)⟩, fit_start hr⟩
    show ((zeros ps.length).set 0 root).getD 0 0 = root
    rw [getD_setI, if_pos ⟨rfl, by simp; omega⟩]
  | k + 1, hk => by
    obtain ⟨h1, h2⟩ := fitTo_spec (vs := vs) hg hr k (by omega)
    by_cases h0 : (kids ps k).length = 0
    · rw [fitTo_skip h0]
      exact ⟨h1.step hg (by omega) ⟨fun _ => rfl, fun h => absurd h0 h⟩, h2⟩
    · obtain ⟨xs, hx⟩ := fit_adj (vs := vs) h0 h2
      rw [← fitTo_step h0 rfl hx]
      refine ⟨h1.step hg (by omega) ⟨fun h => absurd h h0, fun _ => ⟨xs, by rw [hx.1, vsAt_len], hx.2.1, setTo_putK _ _ _ _⟩⟩, setTo_rg h2 (isAdj_rg (by rw [vsAt_len]) hx) _⟩
theorem fd_law {ps vs l : List Int} {root : Int} (e : fdF ps vs root = (l, true)) : geoB ps = true ∧ l.length = ps.length ∧ csF ps l = ((ps.length : Int), true) ∧ l.getD 0 0 = root ∧ ∀ j, 0 ≤ l.getD j 0 := by
  by_cases h : (valB 100000 ps vs && inB root 0 1000000) = true
  · have h' := h
    simp only [Bool.and_eq_true] at h'
    rw [fdF_yes h'.1 h'.2] at e
    injection e with e _
    subst e
    have hg := (valB_true.1 h'.1).1
    obtain ⟨h1, h2⟩ := fitTo_spec (vs := vs) hg (inB_true.1 h'.2) ps.length (Nat.le_refl _)
    refine ⟨hg, h1.1, ?_, h1.2.1, fun j => (h2 j).1⟩
    have hs : smallB (fitTo ps vs root ps.length) ps.length = true := by
      unfold smallB
      simp only [Bool.and_eq_true, decide_eq_true_eq]
      refine ⟨h1.1, within_true.2 fun j hj => ?_⟩
      have := h2 j; omega
    unfold csF
    rw [hg, hs]
    simp only [Bool.and_self, if_true]
    rw [firstNot_all h1.2.2]
  · rw [fdF_no (by simpa using h)] at e; cases e
end Go.Proofs.Ytkpliolafkdijaa
