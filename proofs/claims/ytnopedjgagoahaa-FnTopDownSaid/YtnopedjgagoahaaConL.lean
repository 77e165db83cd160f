/- Consistent estimates as lists: no walk. -/
import Derived.Test.YtnopedjgagoahaaSubL
namespace Go.Proofs.Ytnopedjgagoahaa
open Go.RowKit
set_option linter.unusedVariables false
set_option linter.unusedSimpArgs false

/-- One fraction after another; (0, 0, false) from the first that fails on. -/
def bindT (r : Int × Int × Bool) (f : Int → Int → Int × Int × Bool) : Int × Int × Bool := if r.2.2 = true then f r.1 r.2.1 else (0, 0, false)
theorem bindT_no {r : Int × Int × Bool} {f : Int → Int → Int × Int × Bool} {a b : Int} (h : r = (a, b, false)) : bindT r f = (0, 0, false) := by rw [h]; rfl
theorem bindT_yes {r : Int × Int × Bool} {f : Int → Int → Int × Int × Bool} {a b : Int} (h : r = (a, b, true)) : bindT r f = f a b := by rw [h]; rfl
theorem bindT_fine {r : Int × Int × Bool} {f : Int → Int → Int × Int × Bool} (h : ∀ a b, Fine (f a b)) : Fine (bindT r f) := by unfold bindT; exact Fine.ite (h _ _) Fine.no
def shareX (z1 z2 x1 x2 : Int) : Int × Int × Bool := mkF (z1 * x2 + x1 * z2) (z2 * x2)
def shareP (z1 z2 d1 d2 p1 p2 : Int) : Int × Int × Bool := bindT (mkF (p1 * d1) (p2 * d2)) (shareX z1 z2)
/-- z + u/v d. -/
def shareQ (z1 z2 u1 u2 v1 v2 d1 d2 : Int) : Int × Int × Bool := bindT (mkF (u1 * v2) (u2 * v1)) (shareP z1 z2 d1 d2)
theorem shareQ_fine (z1 z2 u1 u2 v1 v2 d1 d2 : Int) : Fine (shareQ z1 z2 u1 u2 v1 v2 d1 d2) := bindT_fine fun _ _ => bindT_fine fun _ _ => Fine.mk _ _
/-- z + u/v (e - s). -/
def wShareQ (z1 z2 u1 u2 v1 v2 e1 e2 s1 s2 : Int) : Int × Int × Bool := bindT (mkF (e1 * s2 - s1 * e2) (e2 * s2)) (shareQ z1 z2 u1 u2 v1 v2)
theorem wShareQ_fine (z1 z2 u1 u2 v1 v2 e1 e2 s1 s2 : Int) : Fine (wShareQ z1 z2 u1 u2 v1 v2 e1 e2 s1 s2) := bindT_fine fun _ _ => shareQ_fine _ _ _ _ _ _ _ _
/-- The first m children get their shares. -/
def shIn (z u : List (Int × Int)) (v1 v2 d1 d2 : Int) (ks : List Int) (out : List (Int × Int)) : Nat → Option (List (Int × Int))
  | 0 => some out
  | m + 1 => (shIn z u v1 v2 d1 d2 ks out m).bind fun o => bindQ (shareQ (z.getD (ks.getD m 0).toNat (0, 0)).1 (z.getD (ks.getD m 0).toNat (0, 0)).2 (u.getD (ks.getD m 0).toNat (0, 0)).1 (u.getD (ks.getD m 0).toNat (0, 0)).2 v1 v2 d1 d2) fun x1 x2 => some (o.set (ks.getD m 0).toNat (x1, x2))
theorem shIn_step {z u out o : List (Int × Int)} {v1 v2 d1 d2 z1 z2 u1 u2 x1 x2 : Int} {ks : List Int} {m j : Nat} (h : shIn z u v1 v2 d1 d2 ks out m = some o) (hj : (j : Int) = ks.getD m 0) (hz : (z1, z2) = z.getD j (0, 0)) (hu : (u1, u2) = u.getD j (0, 0)) (e : shareQ z1 z2 u1 u2 v1 v2 d1 d2 = (x1, x2, true)) : shIn z u v1 v2 d1 d2 ks out (m + 1) = some (o.set j (x1, x2)) := by
  simp only [shIn]; rw [h, ← hj]; simp only [Int.toNat_natCast, Option.bind_some]; rw [← hz, ← hu]; exact bindQ_yes e
theorem shIn_no {z u out o : List (Int × Int)} {v1 v2 d1 d2 z1 z2 u1 u2 x1 x2 : Int} {ks : List Int} {m j n : Nat} (h : shIn z u v1 v2 d1 d2 ks out m = some o) (hj : (j : Int) = ks.getD m 0) (hz : (z1, z2) = z.getD j (0, 0)) (hu : (u1, u2) = u.getD j (0, 0)) (e : shareQ z1 z2 u1 u2 v1 v2 d1 d2 = (x1, x2, false)) (hm : m < n) : shIn z u v1 v2 d1 d2 ks out n = none := by
  have h1 : shIn z u v1 v2 d1 d2 ks out (m + 1) = none := by
    simp only [shIn]; rw [h, ← hj]; simp only [Int.toNat_natCast, Option.bind_some]; rw [← hz, ← hu]; exact bindQ_no e
  clear h
  obtain ⟨k, rfl⟩ : ∃ k, n = m + 1 + k := ⟨n - (m + 1), by omega⟩
  clear hm
  induction k with
  | zero => exact h1
  | succ k ih => rw [show m + 1 + (k + 1) = (m + 1 + k) + 1 by omega]; simp only [shIn]; rw [ih]; rfl
/-- One area hands the difference down. -/
def conSt (ps : List Int) (z u : List (Int × Int)) (i : Nat) (out : List (Int × Int)) : Option (List (Int × Int)) :=
  if (kids ps i).length = 0 then some out
  else (sums2 z u (kids ps i)).bind fun m => bindQ (mkF ((out.getD i (0, 0)).1 * m.1.2 - m.1.1 * (out.getD i (0, 0)).2) ((out.getD i (0, 0)).2 * m.1.2)) fun d1 d2 => shIn z u m.2.1 m.2.2 d1 d2 (kids ps i) out (kids ps i).length
theorem conSt_leaf {ps : List Int} {z u out : List (Int × Int)} {i : Nat} (h : (kids ps i).length = 0) : conSt ps z u i out = some out := if_pos h
theorem conSt_no1 {ps : List Int} {z u out : List (Int × Int)} {i : Nat} (h : ¬ (kids ps i).length = 0) (e : sums2 z u (kids ps i) = none) : conSt ps z u i out = none := by unfold conSt; rw [if_neg h, e]; rfl
theorem sums2_nil {z u : List (Int × Int)} {ks : List Int} (h : ks.length = 0) : sums2 z u ks = some ((0, 1), (0, 1)) := by
  obtain rfl : ks = [] := List.eq_nil_of_length_eq_zero h
  rfl
theorem conSt_no2 {ps : List Int} {z u out : List (Int × Int)} {i : Nat} {s1 s2 v1 v2 e1 e2 d1 d2 : Int} (h : ¬ (kids ps i).length = 0) (e : sums2 z u (kids ps i) = some ((s1, s2), (v1, v2))) (ho : (e1, e2) = out.getD i (0, 0)) (k : mkF (e1 * s2 - s1 * e2) (e2 * s2) = (d1, d2, false)) : conSt ps z u i out = none := by
  unfold conSt; rw [if_neg h, e, ← ho]; simp only [Option.bind_some]; exact bindQ_no k
theorem conSt_yes {ps : List Int} {z u out : List (Int × Int)} {i : Nat} {s1 s2 v1 v2 e1 e2 d1 d2 : Int} (h : ¬ (kids ps i).length = 0) (e : sums2 z u (kids ps i) = some ((s1, s2), (v1, v2))) (ho : (e1, e2) = out.getD i (0, 0)) (k : mkF (e1 * s2 - s1 * e2) (e2 * s2) = (d1, d2, true)) : conSt ps z u i out = shIn z u v1 v2 d1 d2 (kids ps i) out (kids ps i).length := by
  unfold conSt; rw [if_neg h, e, ← ho]; simp only [Option.bind_some]; exact bindQ_yes k
theorem conSt_none {ps : List Int} {z u out : List (Int × Int)} {i : Nat} (e : sums2 z u (kids ps i) = none) : conSt ps z u i out = none :=
  conSt_no1 (fun h => by rw [sums2_nil h] at e; cases e) e
/-- The reference's inner loop: the difference is taken anew for each child. -/
def InR (z u out : List (Int × Int)) (e1 e2 s1 s2 v1 v2 : Int) (ks : List Int) (q : Nat) (o : List (Int × Int)) : Prop :=
  (q = 0 ∧ o = out) ∨ ∃ d1 d2, mkF (e1 * s2 - s1 * e2) (e2 * s2) = (d1, d2, true) ∧ shIn z u v1 v2 d1 d2 ks out q = some o
theorem InR.step {z u out o : List (Int × Int)} {e1 e2 s1 s2 v1 v2 z1 z2 u1 u2 x1 x2 : Int} {ks : List Int} {q j : Nat} (h : InR z u out e1 e2 s1 s2 v1 v2 ks q o) (hj : (j : Int) = ks.getD q 0) (hz : (z1, z2) = z.getD j (0, 0)) (hu : (u1, u2) = u.getD j (0, 0))
    (e : wShareQ z1 z2 u1 u2 v1 v2 e1 e2 s1 s2 = (x1, x2, true)) : InR z u out e1 e2 s1 s2 v1 v2 ks (q + 1) (o.set j (x1, x2)) := by
  obtain ⟨d1, d2, d3, hd⟩ : ∃ d1 d2 d3, mkF (e1 * s2 - s1 * e2) (e2 * s2) = (d1, d2, d3) := ⟨_, _, _, rfl⟩
  unfold wShareQ at e
  cases d3 with
  | false => rw [bindT_no hd] at e; cases e
  | true =>
    rw [bindT_yes hd] at e
    refine .inr ⟨d1, d2, hd, ?_⟩
    rcases h with ⟨rfl, rfl⟩ | ⟨d1', d2', hd', h⟩
    · exact shIn_step rfl hj hz hu e
    · rw [hd] at hd'
      injection hd' with q1 q2
      injection q2 with q2 q3
      subst q1; subst q2
      exact shIn_step h hj hz hu e
theorem InR.no {ps : List Int} {i : Nat} {z u out o : List (Int × Int)} {e1 e2 s1 s2 v1 v2 z1 z2 u1 u2 x1 x2 : Int} {q j : Nat} (h : InR z u out e1 e2 s1 s2 v1 v2 (kids ps i) q o) (hS : sums2 z u (kids ps i) = some ((s1, s2), (v1, v2))) (ho : (e1, e2) = out.getD i (0, 0))
    (hj : (j : Int) = (kids ps i).getD q 0) (hz : (z1, z2) = z.getD j (0, 0)) (hu : (u1, u2) = u.getD j (0, 0)) (e : wShareQ z1 z2 u1 u2 v1 v2 e1 e2 s1 s2 = (x1, x2, false)) (hq : q < (kids ps i).length) : conSt ps z u i out = none := by
  have h0 : ¬ (kids ps i).length = 0 := by omega
  obtain ⟨d1, d2, d3, hd⟩ : ∃ d1 d2 d3, mkF (e1 * s2 - s1 * e2) (e2 * s2) = (d1, d2, d3) := ⟨_, _, _, rfl⟩
  unfold wShareQ at e
  cases d3 with
  | false => exact conSt_no2 h0 hS ho hd
  | true =>
    rw [bindT_yes hd] at e
    rw [conSt_yes h0 hS ho hd]
    rcases h with ⟨rfl, rfl⟩ | ⟨d1', d2', hd', h⟩
    · exact shIn_no rfl hj hz hu e hq
    · rw [hd] at hd'
      injection hd' with q1 q2
      injection q2 with q2 q3
      subst q1; subst q2
      exact shIn_no h hj hz hu e hq
theorem InR.done {ps : List Int} {i : Nat} {z u out o : List (Int × Int)} {e1 e2 s1 s2 v1 v2 : Int} {q : Nat} (h : InR z u out e1 e2 s1 s2 v1 v2 (kids ps i) q o) (hS : sums2 z u (kids ps i) = some ((s1, s2), (v1, v2))) (ho : (e1, e2) = out.getD i (0, 0)) (hq : q = (kids ps i).length) : conSt ps z u i out = some o := by
  subst hq
  rcases h with ⟨h0, rfl⟩ | ⟨d1, d2, hd, h⟩
  · exact conSt_leaf h0
  · by_cases h0 : (kids ps i).length = 0
    · rw [h0] at h
      injection h with h
      subst h
      exact conSt_leaf h0
    · rw [conSt_yes h0 hS ho hd]; exact h
def conT (ps : List Int) (z u : List (Int × Int)) : Nat → Option (List (Int × Int))
  | 0 => some z
  | k + 1 => (conT ps z u k).bind (conSt ps z u k)
theorem conT_next {ps : List Int} {z u out : List (Int × Int)} {k : Nat} {r : Option (List (Int × Int))} (h : conT ps z u k = some out) (e : conSt ps z u k out = r) : conT ps z u (k + 1) = r := by simp only [conT]; rw [h]; exact e
theorem conT_stuck {ps : List Int} {z u : List (Int × Int)} {k n : Nat} (h : conT ps z u k = none) (hk : k ≤ n) : conT ps z u n = none := by
  induction n with
  | zero => obtain rfl : k = 0 := by omega
            exact h
  | succ n ih =>
    by_cases e : k = n + 1
    · subst e; exact h
    · simp only [conT]; rw [ih (by omega)]; rfl
theorem conT_fail {ps : List Int} {z u out : List (Int × Int)} {k n : Nat} (h : conT ps z u k = some out) (e : conSt ps z u k out = none) (hk : k < n) : conT ps z u n = none := conT_stuck (conT_next h e) (by omega)
/-- All are valid fractions, n of them. -/
def AllF (n : Nat) (l : List (Int × Int)) : Prop := l.length = n ∧ ∀ j, j < n → fracB (l.getD j (0, 0)).1 (l.getD j (0, 0)).2 = true
theorem AllF.at_ {n j : Nat} {l : List (Int × Int)} {x y : Int} (h : AllF n l) (hj : j < n) (hx : (x, y) = l.getD j (0, 0)) : fracB x y = true := by have := h.2 j hj; rwa [← hx] at this
theorem AllF.set {n j : Nat} {l : List (Int × Int)} {x y : Int} (h : AllF n l) (hx : fracB x y = true) : AllF n (l.set j (x, y)) := by
  refine ⟨by simp [h.1], fun i hi => ?_⟩
  rw [getD_setL]; split
  · exact hx
  · exact h.2 i hi
theorem AllF.of {n : Nat} {s : TS} (h : SInv n 0 s) : AllF n s.1 ∧ AllF n s.2 := ⟨⟨h.l1, fun j hj => h.f1 j (Nat.zero_le _) hj⟩, ⟨h.l2, fun j hj => h.f2 j (Nat.zero_le _) hj⟩⟩
theorem AllF.good {n : Nat} {l : List (Int × Int)} {ks : List Int} (h : AllF n l) (hin : Into ks n) : GoodAt l ks := by
  intro m j x y hm hj hx
  obtain ⟨j', h1, h2⟩ := hin m hm
  exact h.at_ (by omega) hx
theorem getD_set_ne {l : List (Int × Int)} {i j : Nat} {f : Int × Int} (h : j ≠ i) : (l.set j f).getD i (0, 0) = l.getD i (0, 0) := by rw [getD_setL, if_neg (by omega)]
theorem AllF.fracQ {n : Nat} {l : List (Int × Int)} (h : AllF n l) : l.all fracQ = true := all_true.2 fun j hj => h.2 j (by have := h.1; omega)
/-- What ConsistentEstimates answers. -/
def conO (ps y v : List Int) (n : Nat) : Option (List (Int × Int)) := match subT ps y v n n with
  | some s => conT ps s.1 s.2 n
  | none => none
theorem conO_none {ps y v : List Int} {n : Nat} (h : subT ps y v n n = none) : conO ps y v n = none := by unfold conO; rw [h]
theorem conO_some {ps y v : List Int} {n : Nat} {s : TS} (h : subT ps y v n n = some s) : conO ps y v n = conT ps s.1 s.2 n := by unfold conO; rw [h]
def lO (R : Option (List (Int × Int))) : List (Int × Int) := match R with | some l => l | none => []
def conQ (ps y v : List Int) : List (Int × Int) × Bool := if treeB ps y v = true then (lO (conO ps y v ps.length), (conO ps y v ps.length).isSome) else ([], false)
theorem conQ_no {ps y v : List Int} (h : treeB ps y v = false) : conQ ps y v = ([], false) := if_neg (by rw [h]; simp)
theorem conQ_yes {ps y v : List Int} {n : Nat} (h : treeB ps y v = true) (hl : ps.length = n) : conQ ps y v = (lO (conO ps y v n), (conO ps y v n).isSome) := by subst hl; exact if_pos h
/-- A slice of fractions of one's own and whether it is fine. -/
def FRes (w : World) (l : List (Int × Int)) (ok : Bool) (e : Ending) (w' : World) : Prop :=
  ∃ A N C, e = .returned (.tuple #[.slice A N C, .bool ok]) ∧ FracsM w' w.heap.size w'.heap.size A N l ∧ Keeps w w'
/-- From subtree estimates: all valid. -/
theorem subT_sinv {ps y v : List Int} {n : Nat} (hB : treeB ps y v = true) (hl : ps.length = n) : ∀ k s, k ≤ n → subT ps y v n k = some s → SInv n (n - k) s := by
  have HT := treeB_true.1 hB
  have hy := within_true.1 HT.2.2.2.1
  have hv := within_true.1 HT.2.2.2.2
  intro k
  induction k with
  | zero => intro s _ h; injection h with h; subst h; exact SInv.start n
  | succ k ih =>
    intro s hk h
    cases e : subT ps y v n k with
    | none => rw [subT, e] at h; cases h
    | some s0 =>
      have hI := ih s0 (by omega) e
      rw [subT, e] at h
      have h' : subSt ps y v (n - 1 - k) s0 = some s := h
      have hi : n - k = (n - 1 - k) + 1 := by omega
      rw [hi] at hI
      rw [show n - (k + 1) = n - 1 - k by omega]
      have b1 := hy (n - 1 - k) (by omega)
      have b2 := hv (n - 1 - k) (by omega)
      by_cases hz : (kids ps ((n - 1 - k : Nat) : Int)).length = 0
      · rw [subSt_leaf hz rfl rfl] at h'
        injection h' with h'
        subst h'
        exact hI.put (by omega) (fracB_int (by omega)) (fracB_int (by omega))
      · cases e2 : sums2 s0.1 s0.2 (kids ps ((n - 1 - k : Nat) : Int)) with
        | none => rw [subSt_no1 hz e2] at h'; cases h'
        | some m =>
          cases e3 : meanQ (y.getD (n - 1 - k) 0) (v.getD (n - 1 - k) 0) m.1.1 m.1.2 m.2.1 m.2.2 with
          | none => rw [subSt_no2 hz rfl rfl e2 e3] at h'; cases h'
          | some r =>
            rw [subSt_yes hz rfl rfl e2 e3] at h'
            injection h' with h'
            subst h'
            have := meanQ_fine e3
            exact hI.put (by omega) this.1 this.2
end Go.Proofs.Ytnopedjgagoahaa
