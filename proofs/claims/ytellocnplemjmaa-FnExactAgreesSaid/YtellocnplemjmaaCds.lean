/- Conditions of published cells: the plain lists; slices of conditions in memory. No walk. -/
import Derived.Test.YtellocnplemjmaaApb
import Derived.Test.YtellocnplemjmaaCtb
import Derived.Maps.AppendAt
namespace Go.Proofs.Ytellocnplemjmaa
open Go.RowKit Go.Sort
set_option linter.unusedVariables false
set_option linter.unusedSimpArgs false

abbrev CC := List Int × Int
def cc0 : CC := ([], 0)
/-- The cell and the amount of a record of type k. -/
def ceK (ps : List Int) (l : List VV) (t : TT) (k : Nat) : Int × Int := ceQ ps l t (taLeaf ps l (k : Int)).toNat (taVals l (k : Int))
def amI (ps : List Int) (l : List VV) (t : TT) (i k : Nat) : Int := if (ceK ps l t k).1 = (i : Int) then (ceK ps l t k).2 else 0
/-- What the first m types add to cell i. -/
def amT (ps : List Int) (l : List VV) (t : TT) (N i m : Nat) : List Int := (List.range N).map fun k => if k < m then amI ps l t i k else 0
theorem amT_len (ps : List Int) (l : List VV) (t : TT) (N i m : Nat) : (amT ps l t N i m).length = N := by simp [amT]
theorem amT_zero (ps : List Int) (l : List VV) (t : TT) (N i : Nat) : amT ps l t N i 0 = List.replicate N 0 := by
  apply List.ext_getElem
  · simp [amT]
  · intro j h1 h2; simp [amT]
theorem amT_stay {ps : List Int} {l : List VV} {t : TT} {N i m : Nat} (h : amI ps l t i m = 0) : amT ps l t N i m = amT ps l t N i (m + 1) := by
  apply List.ext_getElem
  · simp [amT]
  · intro j h1 h2
    simp only [amT, List.getElem_map, List.getElem_range]
    by_cases e : j = m
    · subst e; rw [if_neg (by omega), if_pos (by omega), h]
    · by_cases h3 : j < m
      · rw [if_pos h3, if_pos (by omega)]
      · rw [if_neg h3, if_neg (by omega)]
theorem amT_set {ps : List Int} {l : List VV} {t : TT} {N i m : Nat} : (amT ps l t N i m).set m (amI ps l t i m) = amT ps l t N i (m + 1) := by
  apply List.ext_getElem
  · simp [amT]
  · intro j h1 h2
    simp only [amT, List.getElem_set, List.getElem_map, List.getElem_range]
    by_cases e : m = j
    · subst e; rw [if_pos rfl, if_pos (by omega)]
    · rw [if_neg e]
      by_cases h3 : j < m
      · rw [if_pos h3, if_pos (by omega)]
      · rw [if_neg h3, if_neg (by omega)]
theorem amI_eq {ps : List Int} {l : List VV} {t : TT} {i k : Nat} {c a : Int} (h : ceK ps l t k = (c, a)) (e : c = (i : Int)) : amI ps l t i k = a := by unfold amI; rw [h]; exact if_pos e
theorem amI_ne {ps : List Int} {l : List VV} {t : TT} {i k : Nat} {c a : Int} (h : ceK ps l t k = (c, a)) (e : c ≠ (i : Int)) : amI ps l t i k = 0 := by unfold amI; rw [h]; exact if_neg e
/-- The conditions of the first j cells, over the first m types. -/
def puTo (ps : List Int) (l : List VV) (N : Nat) (p : PP) (m : Nat) : Nat → List CC
  | 0 => []
  | j + 1 => puTo ps l N p m j ++ (if 0 ≤ p.2.getD j 0 then [(amT ps l p.1 N j m, p.2.getD j 0)] else [])
theorem puTo_yes {ps : List Int} {l : List VV} {N : Nat} {p : PP} {m j : Nat} (h : 0 ≤ p.2.getD j 0) : puTo ps l N p m (j + 1) = puTo ps l N p m j ++ [(amT ps l p.1 N j m, p.2.getD j 0)] := by
  show _ ++ _ = _; rw [if_pos h]
theorem puTo_no {ps : List Int} {l : List VV} {N : Nat} {p : PP} {m j : Nat} (h : ¬ 0 ≤ p.2.getD j 0) : puTo ps l N p m (j + 1) = puTo ps l N p m j := by
  show _ ++ _ = _; rw [if_neg h, List.append_nil]
theorem puTo_len (ps : List Int) (l : List VV) (N : Nat) (p : PP) (m : Nat) : ∀ j, (puTo ps l N p m j).length ≤ j
  | 0 => Nat.le_refl _
  | j + 1 => by
    have := puTo_len ps l N p m j
    unfold puTo; rw [List.length_append]; split <;> simp <;> omega
theorem puTo_len2 (ps : List Int) (l : List VV) (N : Nat) (p : PP) (m m' : Nat) : ∀ j, (puTo ps l N p m j).length = (puTo ps l N p m' j).length
  | 0 => rfl
  | j + 1 => by
    have := puTo_len2 ps l N p m m' j
    unfold puTo; rw [List.length_append, List.length_append, this]; split <;> rfl
theorem puTo_stay {ps : List Int} {l : List VV} {N : Nat} {p : PP} {m : Nat} : ∀ n, (∀ i, i < n → 0 ≤ p.2.getD i 0 → amI ps l p.1 i m = 0) → puTo ps l N p m n = puTo ps l N p (m + 1) n
  | 0, _ => rfl
  | n + 1, h => by
    by_cases e : 0 ≤ p.2.getD n 0
    · rw [puTo_yes e, puTo_yes e, puTo_stay n (fun i hi => h i (by omega)), amT_stay (h n (by omega) e)]
    · rw [puTo_no e, puTo_no e, puTo_stay n (fun i hi => h i (by omega))]
theorem puTo_mono (ps : List Int) (l : List VV) (N : Nat) (p : PP) (m : Nat) {i n : Nat} (h : i ≤ n) : (puTo ps l N p m i).length ≤ (puTo ps l N p m n).length := by
  induction n with
  | zero => obtain rfl : i = 0 := by omega
            exact Nat.le_refl _
  | succ n ih =>
    by_cases e : i = n + 1
    · subst e; exact Nat.le_refl _
    · have := ih (by omega)
      show _ ≤ (_ ++ _ : List CC).length
      rw [List.length_append]; omega
theorem puTo_lt {ps : List Int} {l : List VV} {N : Nat} {p : PP} {m i n : Nat} (h : i < n) (e : 0 ≤ p.2.getD i 0) : (puTo ps l N p m i).length < (puTo ps l N p m n).length := by
  have h1 := puTo_mono ps l N p m (show i + 1 ≤ n from h)
  rw [puTo_yes e, List.length_append] at h1
  simp at h1; omega
theorem puTo_at {ps : List Int} {l : List VV} {N : Nat} {p : PP} {m i : Nat} (e : 0 ≤ p.2.getD i 0) : ∀ n, i < n → (puTo ps l N p m n).getD (puTo ps l N p m i).length cc0 = (amT ps l p.1 N i m, p.2.getD i 0)
  | 0, h => absurd h (by omega)
  | n + 1, h => by
    have hx : (puTo ps l N p m (n + 1)) = puTo ps l N p m n ++ (if 0 ≤ p.2.getD n 0 then [(amT ps l p.1 N n m, p.2.getD n 0)] else []) := rfl
    by_cases e2 : i = n
    · subst e2; rw [hx, if_pos e]; simp [List.getD]
    · have h1 := puTo_at (ps := ps) (l := l) (N := N) (m := m) e n (by omega)
      have h2 := puTo_lt (ps := ps) (l := l) (N := N) (m := m) (show i < n by omega) e
      rw [hx]
      simp only [List.getD] at h1 ⊢
      rw [List.getElem?_append_left h2]; exact h1
theorem puTo_set {ps : List Int} {l : List VV} {N : Nat} {p : PP} {m i : Nat} {a : Int} (hc : ceK ps l p.1 m = ((i : Int), a)) (e : 0 ≤ p.2.getD i 0) :
    ∀ n, i < n → (puTo ps l N p m n).set (puTo ps l N p m i).length (amT ps l p.1 N i (m + 1), p.2.getD i 0) = puTo ps l N p (m + 1) n
  | 0, h => absurd h (by omega)
  | n + 1, h => by
    have hx : ∀ m, (puTo ps l N p m (n + 1)) = puTo ps l N p m n ++ (if 0 ≤ p.2.getD n 0 then [(amT ps l p.1 N n m, p.2.getD n 0)] else []) := fun _ => rfl
    by_cases e2 : i = n
    · subst e2
      rw [hx, hx, if_pos e, if_pos e]
      rw [List.set_append_right _ _ (Nat.le_refl _)]
      rw [puTo_stay i (fun j hj _ => amI_ne hc (by omega))]
      simp
    · have h1 := puTo_set (N := N) hc e n (by omega)
      have h2 := puTo_lt (ps := ps) (l := l) (N := N) (m := m) (show i < n by omega) e
      rw [hx, hx, List.set_append_left _ _ h2, h1]
      congr 1
      rw [amT_stay (amI_ne hc (by omega))]
/-- The conditions of the first k published tables. -/
def ruTo (ps : List Int) (l : List VV) (N : Nat) (ts : List PP) : Nat → List CC
  | 0 => []
  | k + 1 => ruTo ps l N ts k ++ puTo ps l N (ts.getD k p0) N (ts.getD k p0).2.length
theorem ruTo_next {ps : List Int} {l : List VV} {N : Nat} {ts : List PP} {k n : Nat} {p : PP} (hp : p = ts.getD k p0) (hn : p.2.length = n) : ruTo ps l N ts k ++ puTo ps l N p N n = ruTo ps l N ts (k + 1) := by
  show _ = _ ++ _; rw [← hp, hn]
theorem ruTo_len {ps : List Int} {l : List VV} {N : Nat} {ts : List PP} {n : Nat} (h : ∀ k, k < n → (ts.getD k p0).2.length ≤ 600) : ∀ k, k ≤ n → (ruTo ps l N ts k).length ≤ 600 * k
  | 0, _ => Nat.le_refl _
  | k + 1, hk => by
    have h1 := ruTo_len (ps := ps) (l := l) (N := N) h k (by omega)
    have h2 := puTo_len ps l N (ts.getD k p0) N (ts.getD k p0).2.length
    have h3 := h k (by omega)
    show (_ ++ _ : List CC).length ≤ _
    rw [List.length_append]; omega
theorem set_app {α : Type} (xs ys : List α) (i : Nat) (a : α) : (xs ++ ys).set (xs.length + i) a = xs ++ ys.set i a := by
  rw [List.set_append_right _ _ (by omega)]; simp
theorem getD_app {α : Type} (xs ys : List α) (i : Nat) (z : α) : (xs ++ ys).getD (xs.length + i) z = ys.getD i z := by
  simp only [List.getD]; rw [List.getElem?_append_right (by omega)]; simp
theorem getD_appl {α : Type} {xs ys : List α} {i : Nat} {z : α} (h : i < xs.length) : (xs ++ ys).getD i z = xs.getD i z := by
  simp only [List.getD]; rw [List.getElem?_append_left h]
/-- Where the condition of cell i lies, -1 if the cell is hidden. -/
def atI (ps : List Int) (l : List VV) (N : Nat) (p : PP) (R i : Nat) : Int := if 0 ≤ p.2.getD i 0 then ((R + (puTo ps l N p 0 i).length : Nat) : Int) else -1
def atL (ps : List Int) (l : List VV) (N : Nat) (p : PP) (R n j : Nat) : List Int := (List.range n).map fun i => if i < j then atI ps l N p R i else 0
theorem atL_len (ps : List Int) (l : List VV) (N : Nat) (p : PP) (R n j : Nat) : (atL ps l N p R n j).length = n := by simp [atL]
theorem atL_zero (ps : List Int) (l : List VV) (N : Nat) (p : PP) (R n : Nat) : atL ps l N p R n 0 = List.replicate n 0 := by
  apply List.ext_getElem
  · simp [atL]
  · intro j h1 h2; simp [atL]
theorem atL_set {ps : List Int} {l : List VV} {N : Nat} {p : PP} {R n j : Nat} {v : Int} (h : atI ps l N p R j = v) : (atL ps l N p R n j).set j v = atL ps l N p R n (j + 1) := by
  apply List.ext_getElem
  · simp [atL]
  · intro i h1 h2
    simp only [atL, List.getElem_set, List.getElem_map, List.getElem_range]
    by_cases e : j = i
    · subst e; rw [if_pos rfl, if_pos (by omega), h]
    · rw [if_neg e]
      by_cases h3 : i < j
      · rw [if_pos h3, if_pos (by omega)]
      · rw [if_neg h3, if_neg (by omega)]
theorem atL_at {ps : List Int} {l : List VV} {N : Nat} {p : PP} {R n i : Nat} (h : i < n) : (atL ps l N p R n n).getD i 0 = atI ps l N p R i := by simp [atL, List.getD, h]
/-- The sum of a condition over the first k types. -/
def agS (am cs : List Int) : Nat → Int
  | 0 => 0
  | k + 1 => agS am cs k + cs.getD k 0 * am.getD k 0
theorem agS_bd {am cs : List Int} {n : Nat} (h1 : ∀ k, k < n → 0 ≤ am.getD k 0 ∧ am.getD k 0 ≤ 7) (h2 : ∀ k, k < n → 0 ≤ cs.getD k 0 ∧ cs.getD k 0 ≤ 40) : ∀ k, k ≤ n → 0 ≤ agS am cs k ∧ agS am cs k ≤ 280 * k
  | 0, _ => by simp [agS]
  | k + 1, hk => by
    have ih := agS_bd h1 h2 k (by omega)
    have a := h1 k (by omega)
    have b := h2 k (by omega)
    have c := Int.mul_nonneg b.1 a.1
    have d := Int.mul_le_mul b.2 a.2 a.1 (by omega)
    unfold agS; push_cast; omega
def agTo (rs : List CC) (cs : List Int) (n : Nat) : Nat → Bool
  | 0 => true
  | k + 1 => agTo rs cs n k && decide (agS (rs.getD k cc0).1 cs n = (rs.getD k cc0).2)
theorem agTo_bad {rs : List CC} {cs : List Int} {m k n : Nat} (h : agTo rs cs m k = false) (hn : k ≤ n) : agTo rs cs m n = false := by
  induction n with
  | zero => obtain rfl : k = 0 := by omega
            exact h
  | succ n ih =>
    rcases Nat.lt_or_ge n k with h1 | h1
    · obtain rfl : k = n + 1 := by omega
      exact h
    · unfold agTo; rw [ih h1]; rfl
def agB (rs : List CC) (cs : List Int) : Bool := agTo rs cs cs.length rs.length
theorem agB_no {rs : List CC} {cs am : List Int} {n m k : Nat} {v s : Int} (hl : rs.length = n) (hm : cs.length = m) (hk : k < n) (hr : (am, v) = rs.getD k cc0) (hs : agS am cs m = s) (h : ¬ s = v) : agB rs cs = false := by
  unfold agB; rw [hl, hm, agTo_bad (k := k + 1) (by unfold agTo; rw [← hr]; rw [decide_eq_false (by rw [hs]; exact h), Bool.and_false]) hk]
theorem agTo_next {rs : List CC} {cs am : List Int} {m k : Nat} {v s : Int} (hT : agTo rs cs m k = true) (hr : (am, v) = rs.getD k cc0) (hs : agS am cs m = s) (h : s = v) : agTo rs cs m (k + 1) = true := by
  unfold agTo; rw [hT, ← hr, decide_eq_true (by rw [hs]; exact h)]; rfl
theorem agB_yes {rs : List CC} {cs : List Int} {n m : Nat} (hl : rs.length = n) (hm : cs.length = m) (h : agTo rs cs m n = true) : agB rs cs = true := by unfold agB; rw [hl, hm, h]
/-- Amounts in their bounds. -/
def AmOk (N : Nat) (rs : List CC) : Prop := ∀ j, j < rs.length → (rs.getD j cc0).1.length = N ∧ ∀ k, k < N → 0 ≤ (rs.getD j cc0).1.getD k 0 ∧ (rs.getD j cc0).1.getD k 0 ≤ 7
def agQ (ps : List Int) (l : List VV) (ts : List PP) (cs : List Int) : Bool × Bool :=
  if (tyB ps l && apB ps l ts && decide ((cs.length : Int) = tyN ps l) && within 0 40 cs) = true then (agB (ruTo ps l (tyN ps l).toNat ts ts.length) cs, true) else (false, false)
theorem agQ_no {ps : List Int} {l : List VV} {ts : List PP} {cs : List Int} (h : (tyB ps l && apB ps l ts && decide ((cs.length : Int) = tyN ps l) && within 0 40 cs) = false) : agQ ps l ts cs = (false, false) := if_neg (by rw [h]; simp)
theorem agQ_yes {ps : List Int} {l : List VV} {ts : List PP} {cs : List Int} (h : (tyB ps l && apB ps l ts && decide ((cs.length : Int) = tyN ps l) && within 0 40 cs) = true) : agQ ps l ts cs = (agB (ruTo ps l (tyN ps l).toNat ts ts.length) cs, true) := if_pos h
/-- A type's record: its area and its values. -/
theorem type_rec {ps : List Int} {l : List VV} {k N : Nat} (ht : tyB ps l = true) (hN : tyN ps l = (N : Int)) (hk : k < N) :
    (∃ i : Nat, taLeaf ps l (k : Int) = (i : Int) ∧ i < ps.length) ∧ fitB l (taVals l (k : Int)) = true := by
  have hp : geoB ps = true ∧ schB l = true := by unfold tyB at ht; simp only [Bool.and_eq_true] at ht; exact ht.1
  obtain ⟨hv, h1, h6⟩ := schB_lv rfl hp.2
  have hP := prodTo_bd hv l.length (Nat.le_refl _)
  have hq : (k : Int) / prodTo l l.length < ((leaves ps).length : Int) := Int.ediv_lt_of_lt_mul (by omega) (by have : tyN ps l = ((leaves ps).length : Int) * prodTo l l.length := rfl; omega)
  have hq0 : 0 ≤ (k : Int) / prodTo l l.length := Int.ediv_nonneg (by omega) (by omega)
  constructor
  · have hm : taLeaf ps l (k : Int) ∈ leaves ps := mem_of_at (n := (leaves ps).length) rfl (show ((k : Int) / prodTo l l.length).toNat < _ by omega) rfl
    have := (mem_leaves.1 hm).1
    exact ⟨(taLeaf ps l (k : Int)).toNat, by omega, by omega⟩
  · have hr0 : 0 ≤ (k : Int) % prodTo l l.length := Int.emod_nonneg _ (by omega)
    have hr1 : (k : Int) % prodTo l l.length < prodTo l l.length := Int.emod_lt_of_pos _ (by omega)
    have h86 := pow8 h6
    refine fitB_yes rfl (vals_len _ _ _) ?_
    have key : ∀ n, n ≤ l.length → fitTo l (taVals l (k : Int)) n = true := by
      intro n
      induction n with
      | zero => intro _; rfl
      | succ n ih =>
        intro hn
        unfold fitTo
        rw [ih (by omega)]
        have hl := hv n (by omega)
        have hb := vI_bd hv hr0 (show (k : Int) % prodTo l l.length ≤ 1000000 by omega) (l.length - 1 - n) (by omega)
        have e : (taVals l (k : Int)).getD n 0 = vI l l.length ((k : Int) % prodTo l l.length) (l.length - 1 - n) % (l.getD n v0).2 := by
          unfold taVals vals
          simp [List.getD, show n < l.length by omega]
        have m0 := Int.emod_nonneg (vI l l.length ((k : Int) % prodTo l l.length) (l.length - 1 - n)) (show (l.getD n v0).2 ≠ 0 by omega)
        have m1 := Int.emod_lt_of_pos (vI l l.length ((k : Int) % prodTo l l.length) (l.length - 1 - n)) (show 0 < (l.getD n v0).2 by omega)
        simp only [Bool.true_and]
        unfold fitRow
        rw [e]
        exact inB_true.2 (by omega)
    exact key _ (Nat.le_refl _)
theorem ceK_bd {ps : List Int} {l : List VV} {t : TT} {k N : Nat} (ht : tyB ps l = true) (hN : tyN ps l = (N : Int)) (hk : k < N) (htb : tabB ps l t = true) :
    (-1 ≤ (ceK ps l t k).1 ∧ (ceK ps l t k).1 < tabN ps l t) ∧ 0 ≤ (ceK ps l t k).2 ∧ (ceK ps l t k).2 ≤ 7 := by
  have hp : geoB ps = true ∧ schB l = true := by unfold tyB at ht; simp only [Bool.and_eq_true] at ht; exact ht.1
  obtain ⟨⟨i, hi, hi2⟩, hf⟩ := type_rec ht hN hk
  unfold ceK
  rw [hi, Int.toNat_natCast]
  exact ceQ_bd hp.1 hp.2 htb hf hi2
theorem amT_ok {ps : List Int} {l : List VV} {t : TT} {i N : Nat} (ht : tyB ps l = true) (hN : tyN ps l = (N : Int)) (htb : tabB ps l t = true) {m : Nat} : (amT ps l t N i m).length = N ∧ ∀ k, k < N → 0 ≤ (amT ps l t N i m).getD k 0 ∧ (amT ps l t N i m).getD k 0 ≤ 7 := by
  refine ⟨amT_len _ _ _ _ _ _, fun k hk => ?_⟩
  have e : (amT ps l t N i m).getD k 0 = if k < m then amI ps l t i k else 0 := by simp [amT, List.getD, hk]
  rw [e]
  have hb := (ceK_bd ht hN hk htb).2
  split
  · unfold amI; split <;> omega
  · omega
theorem amOk_app {N : Nat} {xs ys : List CC} (h : AmOk N xs) (h2 : AmOk N ys) : AmOk N (xs ++ ys) := fun j hj => by
  by_cases e : j < xs.length
  · rw [getD_appl e]; exact h j e
  · have : j = xs.length + (j - xs.length) := by omega
    rw [this, getD_app]; rw [List.length_append] at hj; exact h2 _ (by omega)
theorem puTo_ok {ps : List Int} {l : List VV} {p : PP} {N m : Nat} (ht : tyB ps l = true) (hN : tyN ps l = (N : Int)) (htb : tabB ps l p.1 = true) : ∀ n, AmOk N (puTo ps l N p m n)
  | 0 => fun j hj => absurd hj (by simp [puTo])
  | n + 1 => by
    by_cases e : 0 ≤ p.2.getD n 0
    · rw [puTo_yes e]
      refine amOk_app (puTo_ok ht hN htb n) (fun j hj => ?_)
      obtain rfl : j = 0 := by simpa using hj
      exact amT_ok ht hN htb
    · rw [puTo_no e]; exact puTo_ok ht hN htb n
theorem ruTo_ok {ps : List Int} {l : List VV} {ts : List PP} {N n : Nat} (ht : tyB ps l = true) (hN : tyN ps l = (N : Int)) (hA : ∀ k, k < n → apR ps l (ts.getD k p0) = true) : ∀ k, k ≤ n → AmOk N (ruTo ps l N ts k)
  | 0, _ => fun j hj => absurd hj (by simp [ruTo])
  | k + 1, hk => amOk_app (ruTo_ok ht hN hA k (by omega)) (puTo_ok ht hN (apR_parts (hA k (by omega))).1 _)

/-! ### In memory -/
def cdr (f : Nat → Nat) (N : Nat) (l : List CC) (j : Nat) : List Value := [.slice (some ⟨f j, 0, none⟩) N N, .int .i64 (l.getD j cc0).2]
def cdV (f : Nat → Nat) (N : Nat) (l : List CC) : List Value := (List.range l.length).flatMap (cdr f N l)
theorem cdV_len (f : Nat → Nat) (N : Nat) (l : List CC) : (cdV f N l).length = l.length * 2 := by unfold cdV; rw [flat_len (sz := 2) (fun _ => rfl)]; simp
theorem cdV_at {f : Nat → Nat} {N : Nat} {l : List CC} {j : Nat} (h : j < l.length) : (cdV f N l)[j * 2]? = some (.slice (some ⟨f j, 0, none⟩) N N) ∧ (cdV f N l)[j * 2 + 1]? = some (.int .i64 (l.getD j cc0).2) := by
  have hx : ∀ i, i < 2 → (cdV f N l).getD (j * 2 + i) undef = (cdr f N l j).getD i undef := fun i hi => by
    unfold cdV
    rw [flat_at (sz := 2) (fun _ => rfl) undef 0 _ _ _ (by simpa using h) hi]
    congr 2; simp [List.getD, h]
  have hl := cdV_len f N l
  constructor
  · have := hx 0 (by omega)
    rw [Nat.add_zero] at this
    have h2 : j * 2 < (cdV f N l).length := by omega
    simp only [List.getD, List.getElem?_eq_getElem h2, Option.getD_some] at this
    rw [List.getElem?_eq_getElem h2, this]; rfl
  · have := hx 1 (by omega)
    have h2 : j * 2 + 1 < (cdV f N l).length := by omega
    simp only [List.getD, List.getElem?_eq_getElem h2, Option.getD_some] at this
    rw [List.getElem?_eq_getElem h2, this]; rfl
theorem fm_congr {α β : Type} {f g : α → List β} : ∀ (l : List α), (∀ a, a ∈ l → f a = g a) → l.flatMap f = l.flatMap g
  | [], _ => rfl
  | a :: l, h => by rw [List.flatMap_cons, List.flatMap_cons, h a (by simp), fm_congr l (fun b hb => h b (by simp [hb]))]
theorem cdV_snoc {f : Nat → Nat} {N g : Nat} {l : List CC} {am : List Int} {x : Int} : cdV (fun j => if j < l.length then f j else g) N (l ++ [(am, x)]) = cdV f N l ++ [.slice (some ⟨g, 0, none⟩) N N, .int .i64 x] := by
  unfold cdV
  rw [List.length_append, List.length_singleton, List.range_succ, List.flatMap_append]
  congr 1
  · refine fm_congr _ fun j hj0 => ?_
    have hj := List.mem_range.1 hj0
    unfold cdr; dsimp only; rw [if_pos hj, getD_appl hj]
  · simp [cdr, List.getD]
theorem cdV_set {f : Nat → Nat} {N j : Nat} {l : List CC} {am : List Int} {x : Int} (hj : j < l.length) (e : (l.getD j cc0).2 = x) : cdV f N (l.set j (am, x)) = cdV f N l := by
  unfold cdV
  rw [List.length_set]
  refine fm_congr _ fun i hi0 => ?_
  have hi := List.mem_range.1 hi0
  unfold cdr
  by_cases h : i = j
  · subst h; rw [getD_set_same hi, e]
  · rw [getD_set_other (by omega)]
/-- The slice v holds the conditions l; row j has its amounts in block f j. -/
structure Cds (w : World) (B E : Nat) (v : Value) (N : Nat) (f : Nat → Nat) (l : List CC) : Prop where
  has : Has w B E 2 v l.length (cdV f N l)
  own : ∀ j, j < l.length → Own w (f j) (l.getD j cc0).1 ∧ B ≤ f j ∧ (l.getD j cc0).1.length = N
  inc : ∀ i j, i < j → j < l.length → f i < f j
theorem has_off {w : World} {B E s n g : Nat} {v : Value} {cs : List Value} {xs : List Int} (h : Has w B E s v n cs) (ho : Own w g xs) (hE : E ≠ 3) : v.ownBlock ≠ some g := by
  intro e
  rcases h.2 with ⟨rfl, _⟩ | ⟨g', cap, cur, rfl, _, hg, _⟩
  · simp [Value.ownBlock] at e
  · simp [Value.ownBlock] at e
    subst e
    unfold Own at ho
    rw [hg] at ho
    injection ho with ho
    injection ho with _ ho
    exact hE ho
theorem Own.grown {w w' : World} {g : Nat} {xs : List Int} {r : Option Nat} (h : Own w g xs) (hg : w.grownBy w' r) (hne : r ≠ some g) : Own w' g xs :=
  (hg.block g h.lt (fun e => hne e.symm)).trans h
theorem Bl.grown {w w' : World} {g : Nat} {vs : List Value} {r : Option Nat} (h : Bl w g vs) (hg : w.grownBy w' r) (hne : r ≠ some g) : Bl w' g vs := by
  have hb := hg.block g h.1 (fun e => hne e.symm)
  refine ⟨Nat.lt_of_lt_of_le h.1 hg.size, fun j v hj => ?_⟩
  obtain ⟨h1, h2⟩ := h.2 j v hj
  exact ⟨(World.cell?_of_block (a := ⟨g, j, none⟩) hb).trans h1, (World.frozen?_of_block (a := ⟨g, j, none⟩) hb).trans h2⟩
theorem off_new {w0 : World} {v v' : Value} {g : Nat} (h : v'.ownBlock = v.ownBlock ∨ v'.ownBlock = some (w0.heap.size + 1)) (ho : v.ownBlock ≠ some g) (hg : g ≤ w0.heap.size) : v'.ownBlock ≠ some g := by
  rcases h with h | h
  · rw [h]; exact ho
  · rw [h]; intro e; injection e with e; omega
theorem Has.off_lt {w : World} {B E s n g : Nat} {v : Value} {cs : List Value} (h : Has w B E s v n cs) (hg : w.heap.size ≤ g) : v.ownBlock ≠ some g := fun e => by
  have := (h.lt g e).2; omega
section
variable {w w' : World} {B E N : Nat} {v : Value} {f : Nat → Nat} {l : List CC}
theorem Cds.nil (w : World) (B E N : Nat) (f : Nat → Nat) : Cds w B E (.slice none 0 0) N f [] := ⟨World.ownsRow_nil _ _ _ _, fun j h => absurd h (by simp), fun i j _ h => absurd h (by simp)⟩
theorem Cds.keeps (h : Cds w B E v N f l) (k : Keeps w w') : Cds w' B E v N f l := ⟨h.has.below k, fun j hj => ⟨(h.own j hj).1.keeps k, (h.own j hj).2⟩, h.inc⟩
theorem Cds.lt (h : Cds w B E v N f l) {j : Nat} (hj : j < l.length) : f j < w.heap.size := (h.own j hj).1.lt
/-- A store into another block. -/
theorem Cds.far {g i : Nat} {u : Value} (h : Cds w B E v N f l) (hg : v.ownBlock ≠ some g) (hf : ∀ j, j < l.length → f j ≠ g) : Cds (w.setCell ⟨g, i, none⟩ u) B E v N f l := by
  refine ⟨⟨h.has.1, ?_⟩, fun j hj => ⟨(h.own j hj).1.far (p := ⟨g, i, none⟩) (hf j hj) u, (h.own j hj).2⟩, h.inc⟩
  rcases h.has.2 with h3 | ⟨g', cap, cur, hv, hb, hh, rest⟩
  · exact .inl h3
  · refine .inr ⟨g', cap, cur, hv, hb, (Below.heap_setCell w ⟨g, i, none⟩ u g' ?_).trans hh, rest⟩
    intro e
    apply hg
    rw [hv]
    simp only [Value.ownBlock]
    rw [e]
theorem Cds.apart (h : Cds w B E v N f l) {i j : Nat} (hi : i < l.length) (hj : j < l.length) (e : i ≠ j) : f i ≠ f j := by
  rcases Nat.lt_or_gt_of_ne e with q | q
  · have := h.inc i j q hj; omega
  · have := h.inc j i q hi; omega
/-- An amount is written. -/
theorem Cds.set_ {j k : Nat} {a : Int} {am : List Int} {x : Int} (h : Cds w B E v N f l) (hE : E ≠ 3) (hj : j < l.length) (hr : l.getD j cc0 = (am, x)) : Cds (w.setCell ⟨f j, k, none⟩ (.int .i64 a)) B E v N f (l.set j (am.set k a, x)) := by
  have ho := h.own j hj
  rw [hr] at ho
  have hoff := has_off h.has ho.1 hE
  refine ⟨?_, fun i hi0 => ?_, fun i i' q hi => h.inc i i' q (by simpa using hi)⟩
  · rw [List.length_set, cdV_set hj (by rw [hr])]
    refine ⟨h.has.1, ?_⟩
    rcases h.has.2 with h3 | ⟨g', cap, cur, hv, hb, hh, rest⟩
    · exact .inl h3
    · refine .inr ⟨g', cap, cur, hv, hb, (Below.heap_setCell w ⟨f j, k, none⟩ _ g' ?_).trans hh, rest⟩
      intro e
      apply hoff
      rw [hv]
      simp only [Value.ownBlock]
      rw [e]
  · have hi : i < l.length := by simpa using hi0
    clear hi0
    by_cases e : i = j
    · subst e
      rw [getD_set_same hi]
      exact ⟨ho.1.set_ k a, ho.2.1, by simpa using ho.2.2⟩
    · rw [getD_set_other (by omega)]
      exact ⟨(h.own i hi).1.far (p := ⟨f j, k, none⟩) (h.apart hi hj e) _, (h.own i hi).2⟩
/-- The cells of row j. -/
theorem Cds.row {j : Nat} (h : Cds w B E v N f l) (hj : j < l.length) : ∃ g cap, v = .slice (some ⟨g, 0, none⟩) l.length cap ∧ w.cell? ⟨g, j * 2, none⟩ = some (.slice (some ⟨f j, 0, none⟩) N N) ∧ w.cell? ⟨g, j * 2 + 1, none⟩ = some (.int .i64 (l.getD j cc0).2) := by
  obtain ⟨h1, h2⟩ := cdV_at (f := f) (N := N) hj
  rcases h.has.2 with ⟨_, h3⟩ | ⟨g', cap, cur, hv, hb, hh, rest⟩
  · omega
  · have hc := h.has.cells (g := g') (by rw [hv]; rfl)
    refine ⟨g', cap, hv, ?_, ?_⟩
    · have := hc _ _ h1; rwa [Addr.add_lit, Nat.zero_add] at this
    · have := hc _ _ h2; rwa [Addr.add_lit, Nat.zero_add] at this
/-- Conditions that can be read. -/
structure CdR (w : World) (A : Option Addr) (n N : Nat) (l : List CC) : Prop where
  len : l.length = n
  le : n ≤ 67108864
  row : ∀ j, j < n → ∃ b off A' c lo hi, A = some ⟨b, off, none⟩ ∧ w.cell? ⟨b, off + j * 2, none⟩ = some (.slice A' N c) ∧ w.cell? ⟨b, off + j * 2 + 1, none⟩ = some (.int .i64 (l.getD j cc0).2) ∧ Ints w lo hi A' N (l.getD j cc0).1
theorem CdR.keeps {A : Option Addr} {n : Nat} (h : CdR w A n N l) (k : Keeps w w') : CdR w' A n N l :=
  ⟨h.len, h.le, fun j hj => by
    obtain ⟨b, off, A', c, lo, hi, h1, h2, h3, h4⟩ := h.row j hj
    exact ⟨b, off, A', c, lo, hi, h1, cell_keeps h2 k, cell_keeps h3 k, h4.keeps k⟩⟩
theorem Cds.read (h : Cds w B E v N f l) (hN : N ≤ 67108864) (hl : l.length ≤ 67108864) : ∃ A c, v = .slice A l.length c ∧ CdR w A l.length N l := by
  obtain ⟨A, c, hv⟩ := h.has.form
  refine ⟨A, c, hv, rfl, hl, fun j hj => ?_⟩
  obtain ⟨g, cap, e, h1, h2⟩ := h.row hj
  rw [hv] at e
  injection e with e
  obtain ⟨o1, o2, o3⟩ := h.own j hj
  have hm := o1.mine (n := N) (lo := 0) (hi := w.heap.size) o3 hN (Nat.zero_le _) o1.lt (Nat.le_refl _)
  exact ⟨g, 0, _, _, _, _, e, by rw [Nat.zero_add]; exact h1, by rw [Nat.zero_add]; exact h2, hm.1⟩
end
theorem below_grownC {w0 w' : World} {B e s na : Nat} {a : Value} {xs : List Value} (ha : Has w0 B e s a na xs) (hB : B ≤ w0.heap.size) (hg : w0.grownBy w' a.ownBlock) : Below B w0 w' :=
  (Below.refl B w0).grown hg hB (fun k hk => (ha.lt k hk).1)
/-- A condition is appended. -/
theorem append_cond {w0 : World} {ops : Array Oper} {rest : List Oper} {o : Oper} {a : Act} {Q : Exit → Act → World → Prop} {B E T N g : Nat} {v : Value} {f : Nat → Nat} {l : List CC} {am : List Int} {x : Int}
    (hinfo : (Try.prog.info? E).map (fun i => (i.zero, i.size, i.bytes)) = some (some (.agg #[.slice none 0 0, .int .i64 0]), 2, 32)) (hE : E ≠ 3)
    (hC : Cds w0 B E v N f l) (hO : Own w0 g am) (hgB : B ≤ g) (hg : ∀ j, j < l.length → f j < g) (hN : am.length = N) (hn : l.length ≤ 67108864) (hB : B ≤ w0.heap.size)
    (s x9 : Operand) (hgd : o.guard = none)
    (ho : o.op = .call { callee := .builtin .append, args := #[s, x9], argTypes := #[T, T] }) (ht : Try.prog.underlying T = some (.slice E))
    (hs : a.eval s = v) (hx : a.eval x9 = .slice (some ⟨w0.heap.size, 0, none⟩) 1 1)
    (h : ∀ v' w', Cds w' B E v' N (fun j => if j < l.length then f j else g) (l ++ [(am, x)]) → w0.grownBy w' v.ownBlock → (v'.ownBlock = v.ownBlock ∨ v'.ownBlock = some (w0.heap.size + 1)) → Below B w0 w' → wpList Try.prog ops Q rest (a.put o.dst v') w') :
    wpList Try.prog ops Q (o :: rest) a (w0.alloc (.cells #[.slice (some ⟨g, 0, none⟩) N N, .int .i64 x] E)) := by
  obtain ⟨i, hi, hz0, hz1, hz2⟩ := info_parts hinfo
  have hbytes : (l.length + 1) * 32 ≤ 140737488355328 := by omega
  refine wpList_append_own_at _ hgd s x9 T ho B E i _ 2 32 ht hi hz0 hz1 hz2 rfl (by omega) v l.length _ hs (hC.has.alloc _) ⟨w0.heap.size, 0, none⟩ 1 1 [.slice (some ⟨g, 0, none⟩) N N, .int .i64 x] hx rfl (fun j u hu => ?_) (fun y hy => by simp at hy; rcases hy with rfl | rfl <;> rfl) (by unfold maxLen; omega) hbytes (by simp; omega) (fun v' w' h2 h3 h4 h5 => ?_)
  · rw [Addr.add_lit, Nat.zero_add, cell_of_row _ _ _ _ _ _ (heap_alloc_new w0 _)]
    simpa using hu
  · have hg3 : w0.grownBy w' v.ownBlock := ⟨h3.os, h3.tape, h3.output, by have := h3.size; simp at this; omega, fun k hk hne => by rw [h3.block k (by simp; omega) hne]; exact heap_alloc_old w0 _ hk⟩
    refine h v' w' ⟨?_, fun j hj => ?_, fun i j q hj => ?_⟩ hg3 (by simpa using h5) (below_grownC hC.has hB hg3)
    · rw [cdV_snoc, List.length_append]; exact h2
    · rw [List.length_append, List.length_singleton] at hj
      by_cases e : j < l.length
      · rw [if_pos e, getD_appl e]
        exact ⟨(hC.own j e).1.grown hg3 (has_off hC.has (hC.own j e).1 hE), (hC.own j e).2⟩
      · obtain rfl : j = l.length := by omega
        rw [if_neg e]
        have : (l ++ [(am, x)]).getD l.length cc0 = (am, x) := by simp [List.getD]
        rw [this]
        exact ⟨hO.grown hg3 (has_off hC.has hO hE), hgB, hN⟩
    · rw [List.length_append, List.length_singleton] at hj
      by_cases e : j < l.length
      · rw [if_pos e, if_pos (by omega)]; exact hC.inc i j q e
      · rw [if_neg e, if_pos (by omega)]; exact hg i (by omega)
end Go.Proofs.Ytellocnplemjmaa
