/- Whole numbers on all levels: additive, not negative. Plain lemmas, no walk. -/
import Derived.Test.YtnopedjgagoahaaKG
import Derived.Test.YtnopedjgagoahaaEsL
import Derived.Test.YtnopedjgagoahaaWtL
import Derived.Test.YtnopedjgagoahaaKO
namespace Go.Proofs.Ytnopedjgagoahaa
open Go.RowKit
set_option linter.unusedVariables false
set_option linter.unusedSimpArgs false

theorem putN_putK (x ks ys : List Int) (m : Nat) : putN x ks ys m = putK x ks ys m := by
  induction m with
  | zero => rfl
  | succ m ih => simp only [putN, putK, ih]
/-- All numbers are from 0 to B. -/
def Nn (B : Int) (x : List Int) : Prop := ∀ j, 0 ≤ x.getD j 0 ∧ x.getD j 0 ≤ B
theorem putK_nn {x ks ys : List Int} {B : Int} (h : Nn B x) (hy : Nn B ys) (m : Nat) : Nn B (putK x ks ys m) := by
  induction m with
  | zero => exact h
  | succ m ih =>
    intro j
    show 0 ≤ ((putK x ks ys m).set _ _).getD j 0 ∧ ((putK x ks ys m).set _ _).getD j 0 ≤ B
    rw [getD_setI]; split
    · exact hy m
    · exact ih j
theorem nearX_nn {l : QL} {z : Int} (h : nearB l z = true) : (nearX l z).length = l.length ∧ (nearX l z).sum = z ∧ Nn 10000 (nearX l z) := by
  have hn := nw_inv h (t := nT l z) (d := nD l z) (Nat.le_refl _) (Nat.le_refl _)
  rw [nw_end] at hn
  refine ⟨hn.len, ?_, fun j => hn.bd j⟩
  rw [hn.sum]; unfold nT nD; omega
theorem wtSt_hand {ps : List Int} {l : QL} {x y : List Int} {k : Nat} {B : Int} (hB : 10000 ≤ B) (h : Nn B x) (e : wtSt ps l k x = some y) : HandK ps x y k ∧ Nn B y ∧ (¬ (kids ps k).length = 0 → x.getD k 0 ≤ 5000) := by
  by_cases h0 : (kids ps k).length = 0
  · rw [wtSt_leaf h0] at e
    injection e with e
    subst e
    exact ⟨⟨fun _ => rfl, fun hh => absurd h0 hh⟩, h, fun hh => absurd h0 hh⟩
  · unfold wtSt at e
    rw [if_neg h0] at e
    by_cases hn : nearB (partsL l (kids ps k)) (x.getD k 0) = true
    · rw [nearQ_yes hn] at e
      simp only [if_true] at e
      injection e with e
      obtain ⟨g1, g2, g3⟩ := nearX_nn hn
      rw [putN_putK] at e
      have hz := hn
      simp only [nearB, Bool.and_eq_true] at hz
      have hz2 := (inB_true.1 hz.2).2
      subst e
      exact ⟨⟨fun hh => absurd hh h0, fun _ => ⟨_, by rw [g1, partsL_len], g2, rfl⟩⟩, putK_nn h (fun j => by have := g3 j; omega) _, fun _ => hz2⟩
    · rw [nearQ_no (by simpa using hn)] at e
      simp at e
theorem wtT_hand {ps : List Int} {l : QL} {root B : Int} (hg : geoB ps = true) (hr : max (rndQ (l.getD 0 (0, 0)).1 (l.getD 0 (0, 0)).2) 0 = root) (hB : 10000 ≤ B) (hrB : root ≤ B) : ∀ k, k ≤ ps.length → ∀ x, wtT ps l ps.length k = some x →
    HandTo ps x root k ∧ Nn B x ∧ (0 < k → ¬ (kids ps 0).length = 0 → root ≤ 5000)
  | 0, _, x, e => by
    simp only [wtT] at e
    injection e with e
    subst e
    have hl := (geoB_true.1 hg).1.1
    have e0 : (rt0 l ps.length).getD 0 0 = root := by
      unfold rt0; rw [getD_setI, if_pos ⟨rfl, by simp; omega⟩]; exact hr
    refine ⟨⟨rt0_len _ _, e0, fun i hi => absurd hi (by omega)⟩, fun j => ?_, fun h => absurd h (by omega)⟩
    unfold rt0
    rw [getD_setI]
    split
    · rw [hr]; omega
    · have : (List.replicate ps.length (0 : Int)).getD j 0 = 0 := by simp only [List.getD, List.getElem?_replicate]; split <;> rfl
      rw [this]; omega
  | k + 1, hk, x, e => by
    simp only [wtT] at e
    cases e1 : wtT ps l ps.length k with
    | none => rw [e1] at e; cases e
    | some t =>
      rw [e1] at e
      simp only [Option.bind_some] at e
      obtain ⟨h1, h2, h3⟩ := wtT_hand hg hr hB hrB k (by omega) t e1
      obtain ⟨g1, g2, g3⟩ := wtSt_hand hB h2 e
      refine ⟨h1.step hg (by omega) g1, g2, fun _ h0 => ?_⟩
      rcases Nat.eq_zero_or_pos k with h | h
      · subst h
        rw [← h1.2.1]; exact g3 h0
      · exact h3 h h0
theorem whole_additive {ps x : List Int} {root : Int} (hg : geoB ps = true) (h : HandTo ps x root ps.length) (hs : within (-1000000) 1000000 x = true) : iaF ps x = (true, true) := by
  have : smallB x ps.length = true := by unfold smallB; simp only [Bool.and_eq_true, decide_eq_true_eq]; exact ⟨h.1, hs⟩
  unfold iaF
  rw [hg, this]
  simp only [Bool.and_self, if_true]
  rw [firstNot_all h.2.2]
  simp
/-- WholeTree's numbers. -/
theorem wt_law {ps : List Int} {l : QL} {x : List Int} (e : wtQ ps l = (x, true)) : ∃ root, geoB ps = true ∧ HandTo ps x root ps.length ∧ ∀ j, 0 ≤ x.getD j 0 := by
  by_cases h : gfB ps l = true
  · obtain ⟨hg, hl, _⟩ := gfB_true.1 h
    rw [wtQ_yes h hl] at e
    cases e1 : wtT ps l ps.length ps.length with
    | none => rw [e1] at e; simp at e
    | some y =>
      rw [e1] at e
      simp only [iO, Prod.mk.injEq] at e
      obtain ⟨rfl, _⟩ := e
      obtain ⟨B, hB⟩ : ∃ B : Int, B = max 10000 (max (rndQ (l.getD 0 (0, 0)).1 (l.getD 0 (0, 0)).2) 0) := ⟨_, rfl⟩
      obtain ⟨h1, h2, _⟩ := wtT_hand (B := B) hg rfl (by omega) (by omega) ps.length (Nat.le_refl _) y e1
      exact ⟨_, hg, h1, fun j => (h2 j).1⟩
  · rw [wtQ_no (by simpa using h)] at e; cases e
theorem rnd_int (n : Int) : rndQ n 1 = n := by
  unfold rndQ; rw [Int.ediv_one, if_neg]; omega
/-- TopDown's numbers. -/
theorem td_law {ps y v x : List Int} (e : tdQ ps y v = (x, true)) : ∃ root, geoB ps = true ∧ HandTo ps x root ps.length ∧ (∀ j, 0 ≤ x.getD j 0) ∧ within (-1000000) 1000000 x = true := by
  obtain ⟨l, o, ec⟩ : ∃ l o, conQ ps y v = (l, o) := ⟨_, _, rfl⟩
  cases o with
  | false => rw [tdQ_no ec] at e; cases e
  | true =>
    rw [tdQ_yes ec rfl] at e
    obtain ⟨hB, z, u, hn, hl, hd, hs, h0⟩ := con_parts ec
    obtain ⟨hg, hy, hv, wy, wv⟩ := treeB_true.1 hB
    have hlen := (geoB_true.1 hg).1.1
    cases e1 : wtT ps l ps.length ps.length with
    | none => rw [e1] at e; simp at e
    | some t =>
      rw [e1] at e
      simp only [iO, Prod.mk.injEq] at e
      obtain ⟨rfl, _⟩ := e
      obtain ⟨root, hroot⟩ : ∃ root, max (rndQ (l.getD 0 (0, 0)).1 (l.getD 0 (0, 0)).2) 0 = root := ⟨_, rfl⟩
      obtain ⟨B, hBB⟩ : ∃ B : Int, B = max 10000 root := ⟨_, rfl⟩
      obtain ⟨h1, h2, h3⟩ := wtT_hand (B := B) hg hroot (by omega) (by omega) ps.length (Nat.le_refl _) t e1
      have hr : root ≤ 100000 := by
        by_cases hk : (kids ps 0).length = 0
        · -- a single area: its estimate is its value
          have hz := ((hn 0 (by omega)).2.1 hk).1
          rw [← h0] at hz
          have hden := hd 0 (Nat.le_refl _) (by omega)
          have hyb := within_true.1 wy 0 (by omega)
          obtain ⟨p, q, hpq⟩ : ∃ p q, (p, q) = l.getD 0 (0, 0) := ⟨_, _, rfl⟩
          unfold rv at hz
          rw [← hpq] at hz hden hroot
          simp only at hz hden hroot
          have hcr : p * 1 = y.getD 0 0 * q := (qv_eq (by omega) (by omega)).1 (by rw [hz, qv_one])
          have hfl : p / q = y.getD 0 0 := by rw [show p = y.getD 0 0 * q by omega]; exact Int.mul_ediv_cancel _ (by omega)
          unfold rndQ at hroot
          rw [hfl] at hroot
          have : p - y.getD 0 0 * q = 0 := by omega
          rw [this, if_neg (by omega)] at hroot
          omega
        · have := h3 (by omega) hk; omega
      refine ⟨root, hg, h1, fun j => (h2 j).1, within_true.2 fun j _ => ?_⟩
      have := h2 j
      omega
theorem ads_self (x : List Int) (n : Nat) : ads x x n = 0 := by
  induction n with
  | zero => rfl
  | succ n ih => rw [ads_succ, ih]; omega
theorem le_self {ps x : List Int} (hg : geoB ps = true) (hl : x.length = ps.length) (hs : within (-1000000) 1000000 x = true) : leF ps x x 0 = (0, true) := by
  have hv : valB 1000000 ps x = true := valB_true.2 ⟨hg, hl, hs⟩
  have hmem : (0 : Int) ∈ lev ps 0 := by
    unfold lev levTo
    refine List.mem_map.2 ⟨0, List.mem_filter.2 ⟨List.mem_range.2 (by have := (geoB_true.1 hg).1.1; omega), ?_⟩, rfl⟩
    unfold isAt dep depF; rfl
  have hne : (lev ps 0).length ≠ 0 := by
    intro h
    rw [List.eq_nil_of_length_eq_zero h] at hmem
    cases hmem
  unfold leF
  rw [hv]
  simp only [Bool.and_self, Bool.true_and, decide_eq_true_eq]
  rw [if_pos hne, ads_self]
theorem leF_nn {ps a b : List Int} {lv r : Int} (e : leF ps a b lv = (r, true)) : 0 ≤ r := by
  unfold leF at e
  split at e
  · rename_i h
    simp only [Bool.and_eq_true] at h
    injection e with e _
    rw [← e]
    have ba := within_bd (B := 1000000) (valB_true.1 h.1.1).2.2 (by omega) (by omega) (by omega)
    have bb := within_bd (B := 1000000) (valB_true.1 h.1.2).2.2 (by omega) (by omega) (by omega)
    exact (ads_bd (vsAt_bd ba (by omega)) (vsAt_bd bb (by omega)) _).1
  · cases e
end Go.Proofs.Ytnopedjgagoahaa
