/- Trees of whole numbers as lists; rounding. -/
import Derived.Test.YtnopedjgagoahaaNwF
import Derived.Test.YtnopedjgagoahaaConL
namespace Go.Proofs.Ytnopedjgagoahaa
open Go.RowKit
set_option linter.unusedVariables false
set_option linter.unusedSimpArgs false

/-- The nearest integer, the even one of two. -/
def rndQ (p q : Int) : Int := if q < 2 * (p - p / q * q) ∨ (2 * (p - p / q * q) = q ∧ (p / q).tmod 2 ≠ 0) then p / q + 1 else p / q
theorem rndQ_up1 {p q : Int} (h : q < 2 * (p - p / q * q)) : rndQ p q = p / q + 1 := if_pos (.inl h)
theorem rndQ_up2 {p q : Int} (h : 2 * (p - p / q * q) = q) (k : ¬ (p / q).tmod 2 = 0) : rndQ p q = p / q + 1 := if_pos (.inr ⟨h, k⟩)
theorem rndQ_dn1 {p q : Int} (h : ¬ q < 2 * (p - p / q * q)) (k : ¬ 2 * (p - p / q * q) = q) : rndQ p q = p / q := if_neg (by rintro (h1 | h1); exact h h1; exact k h1.1)
theorem rndQ_dn2 {p q : Int} (h : ¬ q < 2 * (p - p / q * q)) (k : (p / q).tmod 2 = 0) : rndQ p q = p / q := if_neg (by rintro (h1 | h1); exact h h1; exact h1.2 k)
theorem rnd_bd {p q : Int} (h : fracB p q = true) : (-1000000000 ≤ p / q ∧ p / q ≤ 1000000000) ∧ (-2000000000 ≤ p / q * q ∧ p / q * q ≤ 1000000000) ∧ (0 ≤ p - p / q * q ∧ p - p / q * q < q) := by
  have h1 := fracB_true.1 h
  have h2 := quo_le (n := p) (g := q) (B := 1000000000) (by omega) h1.2.1
  have h3 := Int.emod_def p q
  have h4 := Int.emod_nonneg p (show q ≠ 0 by omega)
  have h5 := Int.emod_lt_of_pos p (show 0 < q by omega)
  rw [Int.mul_comm] at h3
  omega
theorem rndQ_bd {p q : Int} (h : fracB p q = true) : -1000000000 ≤ rndQ p q ∧ rndQ p q ≤ 1000000001 := by
  have := rnd_bd h
  unfold rndQ
  split <;> omega
/-- The fractions that some indices name. -/
def partsL (l : QL) (ks : List Int) : QL := ks.map fun c => l.getD c.toNat (0, 0)
theorem partsL_len (l : QL) (ks : List Int) : (partsL l ks).length = ks.length := by simp [partsL]
theorem partsL_at {l : QL} {ks : List Int} {m j : Nat} (hm : m < ks.length) (hj : (j : Int) = ks.getD m 0) : (partsL l ks).getD m (0, 0) = l.getD j (0, 0) := by
  have e : ks[m] = (j : Int) := by rw [hj]; simp [List.getD, hm]
  simp [partsL, List.getD, hm, e]
/-- The first m numbers of ys are put where the indices say. -/
def putN (x : List Int) (ks ys : List Int) : Nat → List Int
  | 0 => x
  | m + 1 => (putN x ks ys m).set (ks.getD m 0).toNat (ys.getD m 0)
theorem putN_len (x ks ys : List Int) (m : Nat) : (putN x ks ys m).length = x.length := by
  induction m with
  | zero => rfl
  | succ m ih => simp [putN, ih]
theorem putN_succ {x ks ys : List Int} {m j : Nat} {a : Int} (hj : (j : Int) = ks.getD m 0) (ha : a = ys.getD m 0) : putN x ks ys (m + 1) = (putN x ks ys m).set j a := by
  simp only [putN]; rw [← hj, ← ha]; rfl
theorem nearX_len {l : QL} {z : Int} (h : nearB l z = true) : (nearX l z).length = l.length := (nw_end (l := l) (z := z) ▸ nw_inv h (Nat.le_refl _) (Nat.le_refl _)).len
theorem nearQ_len {l : QL} {z : Int} (h : (nearQ l z).2 = true) : (nearQ l z).1.length = l.length := by
  by_cases hb : nearB l z = true
  · rw [nearQ_yes hb]; exact nearX_len hb
  · rw [nearQ_no (by simpa using hb)] at h; cases h
/-- One area hands its number down. -/
def wtSt (ps : List Int) (l : QL) (i : Nat) (x : List Int) : Option (List Int) :=
  if (kids ps i).length = 0 then some x
  else if (nearQ (partsL l (kids ps i)) (x.getD i 0)).2 = true then some (putN x (kids ps i) (nearQ (partsL l (kids ps i)) (x.getD i 0)).1 (kids ps i).length) else none
theorem wtSt_leaf {ps : List Int} {l : QL} {i : Nat} {x : List Int} (h : (kids ps i).length = 0) : wtSt ps l i x = some x := if_pos h
theorem wtSt_no {ps : List Int} {l : QL} {i : Nat} {x ys : List Int} {a : Int} (h : ¬ (kids ps i).length = 0) (ha : a = x.getD i 0) (e : nearQ (partsL l (kids ps i)) a = (ys, false)) : wtSt ps l i x = none := by
  unfold wtSt; rw [if_neg h, ← ha, e]; simp
theorem wtSt_yes {ps : List Int} {l : QL} {i : Nat} {x ys : List Int} {a : Int} (h : ¬ (kids ps i).length = 0) (ha : a = x.getD i 0) (e : nearQ (partsL l (kids ps i)) a = (ys, true)) : wtSt ps l i x = some (putN x (kids ps i) ys (kids ps i).length) := by
  unfold wtSt; rw [if_neg h, ← ha, e]; simp
def rt0 (l : QL) (n : Nat) : List Int := (List.replicate n 0).set 0 (max (rndQ (l.getD 0 (0, 0)).1 (l.getD 0 (0, 0)).2) 0)
theorem rt0_len (l : QL) (n : Nat) : (rt0 l n).length = n := by simp [rt0]
def wtT (ps : List Int) (l : QL) (n : Nat) : Nat → Option (List Int)
  | 0 => some (rt0 l n)
  | k + 1 => (wtT ps l n k).bind (wtSt ps l k)
theorem wtT_next {ps : List Int} {l : QL} {n k : Nat} {x : List Int} {r : Option (List Int)} (h : wtT ps l n k = some x) (e : wtSt ps l k x = r) : wtT ps l n (k + 1) = r := by simp only [wtT]; rw [h]; exact e
theorem wtT_stuck {ps : List Int} {l : QL} {n k m : Nat} (h : wtT ps l n k = none) (hk : k ≤ m) : wtT ps l n m = none := by
  induction m with
  | zero => obtain rfl : k = 0 := by omega
            exact h
  | succ m ih =>
    by_cases e : k = m + 1
    · subst e; exact h
    · simp only [wtT]; rw [ih (by omega)]; rfl
theorem wtT_fail {ps : List Int} {l : QL} {n k m : Nat} {x : List Int} (h : wtT ps l n k = some x) (e : wtSt ps l k x = none) (hk : k < m) : wtT ps l n m = none := wtT_stuck (wtT_next h e) (by omega)
def iO (R : Option (List Int)) : List Int := match R with | some l => l | none => []
/-- What WholeTree answers, and TopDown. -/
def wtQ (ps : List Int) (l : QL) : List Int × Bool := if gfB ps l = true then (iO (wtT ps l l.length l.length), (wtT ps l l.length l.length).isSome) else ([], false)
theorem wtQ_no {ps : List Int} {l : QL} (h : gfB ps l = false) : wtQ ps l = ([], false) := if_neg (by rw [h]; simp)
theorem wtQ_yes {ps : List Int} {l : QL} {n : Nat} (h : gfB ps l = true) (hl : l.length = n) : wtQ ps l = (iO (wtT ps l n n), (wtT ps l n n).isSome) := by subst hl; exact if_pos h
def tdQ (ps y v : List Int) : List Int × Bool := if (conQ ps y v).2 = true then (iO (wtT ps (conQ ps y v).1 ps.length ps.length), (wtT ps (conQ ps y v).1 ps.length ps.length).isSome) else ([], false)
theorem tdQ_no {ps y v : List Int} {l : QL} (h : conQ ps y v = (l, false)) : tdQ ps y v = ([], false) := by unfold tdQ; rw [h]; simp
theorem tdQ_yes {ps y v : List Int} {l : QL} {n : Nat} (h : conQ ps y v = (l, true)) (hl : ps.length = n) : tdQ ps y v = (iO (wtT ps l n n), (wtT ps l n n).isSome) := by subst hl; unfold tdQ; rw [h]; simp
/-- Consistent estimates are valid fractions, one an area. -/
theorem shIn_all {z u out o : QL} {v1 v2 d1 d2 : Int} {ks : List Int} {n m : Nat} (h : AllF n out) (e : shIn z u v1 v2 d1 d2 ks out m = some o) : AllF n o := by
  induction m generalizing o with
  | zero => injection e with e; subst e; exact h
  | succ m ih =>
    simp only [shIn] at e
    cases e1 : shIn z u v1 v2 d1 d2 ks out m with
    | none => rw [e1] at e; cases e
    | some o1 =>
      rw [e1] at e
      simp only [Option.bind_some] at e
      unfold bindQ at e
      split at e
      · rename_i hok
        injection e with e
        subst e
        exact (ih e1).set ((shareQ_fine _ _ _ _ _ _ _ _).1 hok)
      · cases e
theorem conT_all {ps : List Int} {z u out : QL} {n k : Nat} (h : AllF n z) (e : conT ps z u k = some out) : AllF n out := by
  induction k generalizing out with
  | zero => injection e with e; subst e; exact h
  | succ k ih =>
    simp only [conT] at e
    cases e1 : conT ps z u k with
    | none => rw [e1] at e; cases e
    | some o1 =>
      rw [e1] at e
      simp only [Option.bind_some] at e
      have h1 := ih e1
      by_cases hz : (kids ps (k : Int)).length = 0
      · rw [conSt_leaf hz] at e; injection e with e; subst e; exact h1
      · cases e2 : sums2 z u (kids ps (k : Int)) with
        | none => rw [conSt_none e2] at e; cases e
        | some m =>
          obtain ⟨⟨s1, s2⟩, ⟨v1, v2⟩⟩ := m
          obtain ⟨d1, d2, d3, hd⟩ : ∃ d1 d2 d3, mkF ((o1.getD k (0, 0)).1 * s2 - s1 * (o1.getD k (0, 0)).2) ((o1.getD k (0, 0)).2 * s2) = (d1, d2, d3) := ⟨_, _, _, rfl⟩
          cases d3 with
          | false => rw [conSt_no2 hz e2 rfl hd] at e; cases e
          | true => rw [conSt_yes hz e2 rfl hd] at e; exact shIn_all h1 e
theorem conQ_all {ps y v : List Int} {l : QL} (h : conQ ps y v = (l, true)) : treeB ps y v = true ∧ AllF ps.length l := by
  by_cases hB : treeB ps y v = true
  · refine ⟨hB, ?_⟩
    rw [conQ_yes hB rfl] at h
    cases e : conO ps y v ps.length with
    | none => rw [e] at h; cases h
    | some o =>
      rw [e] at h
      injection h with h _
      change o = l at h
      subst h
      unfold conO at e
      cases e1 : subT ps y v ps.length ps.length with
      | none => rw [e1] at e; cases e
      | some s =>
        rw [e1] at e
        have hS := subT_sinv hB rfl _ s (Nat.le_refl _) e1
        rw [Nat.sub_self] at hS
        exact conT_all (AllF.of hS).1 e
  · rw [conQ_no (by simpa using hB)] at h; cases h
end Go.Proofs.Ytnopedjgagoahaa
