/- Whole numbers with a sum, nearest to fractions: the plain law. -/
import Derived.Test.YtkpliolafkdijaaNw0
namespace Go.Proofs.Ytkpliolafkdijaa
open Go.RowKit
set_option linter.unusedVariables false
set_option linter.unusedSimpArgs false

abbrev QL := List (Int × Int)
def gapS (l : QL) (x : List Int) (i j : Nat) : Int := sgn (gapZ (l.getD i (0, 0)).1 (l.getD i (0, 0)).2 (x.getD i 0) (l.getD j (0, 0)).1 (l.getD j (0, 0)).2 (x.getD j 0))
/-- Of the first k elements the one with the greatest rest. -/
def upAt (l : QL) (x : List Int) : Nat → Nat
  | 0 => 0
  | k + 1 => if 0 < gapS l x k (upAt l x k) then k else upAt l x k
/-- Of the first k elements that are not 0 the one with the least rest, or -1. -/
def dnAt (l : QL) (x : List Int) : Nat → Int
  | 0 => -1
  | k + 1 => if 0 < x.getD k 0 ∧ (dnAt l x k < 0 ∨ gapS l x k (dnAt l x k).toNat < 0) then (k : Int) else dnAt l x k
def upX (l : QL) (x : List Int) : List Int := x.set (upAt l x l.length) (x.getD (upAt l x l.length) 0 + 1)
def dnX (l : QL) (x : List Int) : List Int := x.set (dnAt l x l.length).toNat (x.getD (dnAt l x l.length).toNat 0 - 1)
def upN (l : QL) (x : List Int) : Nat → List Int
  | 0 => x
  | t + 1 => upX l (upN l x t)
def dnN (l : QL) (x : List Int) : Nat → List Int
  | 0 => x
  | t + 1 => dnX l (dnN l x t)
def flr (f : Int × Int) : Int := max (f.1 / f.2) 0
def floors (l : QL) : List Int := l.map flr
/-- How many units are added, and how many taken. -/
def nT (l : QL) (z : Int) : Nat := (z - (floors l).sum).toNat
def nD (l : QL) (z : Int) : Nat := ((floors l).sum - z).toNat
def nearX (l : QL) (z : Int) : List Int := dnN l (upN l (floors l) (nT l z)) (nD l z)
def nearB (l : QL) (z : Int) : Bool := roundB l && inB z 0 5000
def nearQ (l : QL) (z : Int) : List Int × Bool := if nearB l z = true then (nearX l z, true) else ([], false)
theorem nearQ_no {l : QL} {z : Int} (h : nearB l z = false) : nearQ l z = ([], false) := if_neg (by rw [h]; simp)
theorem nearQ_yes {l : QL} {z : Int} (h : nearB l z = true) : nearQ l z = (nearX l z, true) := if_pos h

theorem sum_setAt : ∀ (x : List Int) (i : Nat) (v : Int), i < x.length → (x.set i v).sum = x.sum - x.getD i 0 + v
  | a :: x, 0, v, _ => by simp; omega
  | a :: x, i + 1, v, h => by
    have := sum_setAt x i v (by simpa using h)
    simp only [List.set_cons_succ, List.sum_cons, List.getD_cons_succ]
    omega
theorem sum_nonpos : ∀ (x : List Int), (∀ j, j < x.length → x.getD j 0 ≤ 0) → x.sum ≤ 0
  | [], _ => by simp
  | a :: x, h => by
    have h0 := h 0 (by simp)
    have := sum_nonpos x (fun j hj => by have := h (j + 1) (by simp; omega); simpa using this)
    simp at h0 ⊢
    omega
theorem getD_set_int (x : List Int) (i j : Nat) (v : Int) : (x.set i v).getD j 0 = if i = j ∧ j < x.length then v else x.getD j 0 := by
  simp only [List.getD, List.getElem?_set]
  by_cases h : i = j
  · subst h
    by_cases h2 : i < x.length
    · simp [h2]
    · simp [h2]
  · simp [h]
theorem upAt_lt (l : QL) (x : List Int) (k : Nat) : upAt l x k ≤ k ∧ (0 < k → upAt l x k < k) := by
  induction k with
  | zero => exact ⟨Nat.le_refl _, fun h => absurd h (by omega)⟩
  | succ k ih => unfold upAt; split <;> omega
theorem upAt_one (l : QL) (x : List Int) : (0 : Int) = if 0 + 1 = 0 then -1 else ((upAt l x (0 + 1) : Nat) : Int) := by
  have h1 : upAt l x (0 + 1) < 0 + 1 := (upAt_lt l x (0 + 1)).2 (by omega)
  rw [if_neg (by omega), show upAt l x (0 + 1) = 0 by omega]; rfl
theorem dnAt_bd (l : QL) (x : List Int) (k : Nat) : -1 ≤ dnAt l x k ∧ dnAt l x k < k := by
  induction k with
  | zero => simp [dnAt]
  | succ k ih => unfold dnAt; split <;> omega
theorem dnAt_pos (l : QL) (x : List Int) (k : Nat) (h : 0 ≤ dnAt l x k) : 0 < x.getD (dnAt l x k).toNat 0 := by
  induction k with
  | zero => simp [dnAt] at h
  | succ k ih =>
    unfold dnAt at h ⊢
    by_cases c : 0 < x.getD k 0 ∧ (dnAt l x k < 0 ∨ gapS l x k (dnAt l x k).toNat < 0)
    · rw [if_pos c]; simpa using c.1
    · rw [if_neg c] at h ⊢; exact ih h
theorem dnAt_none (l : QL) (x : List Int) (k : Nat) (h : dnAt l x k < 0) : ∀ j, j < k → x.getD j 0 ≤ 0 := by
  induction k with
  | zero => intro j hj; omega
  | succ k ih =>
    unfold dnAt at h
    by_cases c : 0 < x.getD k 0 ∧ (dnAt l x k < 0 ∨ gapS l x k (dnAt l x k).toNat < 0)
    · rw [if_pos c] at h; omega
    · rw [if_neg c] at h
      intro j hj
      by_cases hjk : j = k
      · subst hjk
        by_cases hp : 0 < x.getD j 0
        · exact absurd ⟨hp, .inl h⟩ c
        · omega
      · exact ih h j (by omega)
/-- As many numbers as fractions, each from 0 to B, with the sum s. -/
structure NInv (l : QL) (x : List Int) (B s : Int) : Prop where
  len : x.length = l.length
  bd : ∀ j, 0 ≤ x.getD j 0 ∧ x.getD j 0 ≤ B
  sum : x.sum = s
theorem NInv.up {l : QL} {x : List Int} {B s : Int} (h : NInv l x B s) (h0 : 0 < l.length) : NInv l (upX l x) (B + 1) (s + 1) := by
  have hu := (upAt_lt l x l.length).2 h0
  refine ⟨by simp [upX, h.len], fun j => ?_, ?_⟩
  · have h1 := h.bd j
    have h2 := h.bd (upAt l x l.length)
    unfold upX
    rw [getD_set_int]
    split <;> omega
  · unfold upX
    rw [sum_setAt _ _ _ (by rw [h.len]; exact hu)]
    have := h.sum
    omega
theorem NInv.pos {l : QL} {x : List Int} {B s : Int} (h : NInv l x B s) (h0 : 0 < s) : 0 ≤ dnAt l x l.length := by
  rcases Int.lt_or_le (dnAt l x l.length) 0 with hn | hp
  · have := sum_nonpos x (fun j hj => dnAt_none l x l.length hn j (by rw [← h.len]; exact hj))
    have := h.sum
    omega
  · exact hp
theorem NInv.dn {l : QL} {x : List Int} {B s : Int} (h : NInv l x B s) (h0 : 0 < s) : NInv l (dnX l x) B (s - 1) := by
  have hp := h.pos h0
  have hb := dnAt_bd l x l.length
  have hx := dnAt_pos l x l.length hp
  refine ⟨by simp [dnX, h.len], fun j => ?_, ?_⟩
  · have h1 := h.bd j
    have h2 := h.bd (dnAt l x l.length).toNat
    unfold dnX
    rw [getD_set_int]
    split <;> omega
  · unfold dnX
    rw [sum_setAt _ _ _ (by rw [h.len]; omega)]
    have := h.sum
    omega
theorem NInv.mono {l : QL} {x : List Int} {B B' s : Int} (h : NInv l x B s) (hB : B ≤ B') : NInv l x B' s := ⟨h.len, fun j => by have := h.bd j; omega, h.sum⟩
theorem roundB_all {l : QL} (h : roundB l = true) : (1 ≤ l.length ∧ l.length ≤ 30) ∧ ∀ j, j < l.length → rdQ (l.getD j (0, 0)) = true := by
  simp only [roundB, Bool.and_eq_true] at h
  have h1 := inB_true.1 h.1
  exact ⟨by omega, all_true.1 h.2⟩
theorem flr_bd {f : Int × Int} (h : rdQ f = true) : 0 ≤ flr f ∧ flr f ≤ 5000 := by
  simp only [rdQ, shortQ, fewQ, Bool.and_eq_true, decide_eq_true_eq] at h
  have h1 := fracB_true.1 h.1.1
  have h2 := (inB_true.1 h.1.2).2
  have h3 : f.1 / f.2 ≤ 5000 := by
    have := Int.ediv_le_ediv (show 0 < f.2 by omega) h2
    rw [Int.mul_ediv_cancel _ (show f.2 ≠ 0 by omega)] at this
    exact this
  unfold flr
  omega
theorem floors_getD (l : QL) (j : Nat) (h : j < l.length) : (floors l).getD j 0 = flr (l.getD j (0, 0)) := by simp [floors, List.getD, h]
theorem floors_inv {l : QL} (h : roundB l = true) : NInv l (floors l) 5000 (floors l).sum := by
  refine ⟨by simp [floors], fun j => ?_, rfl⟩
  by_cases hj : j < l.length
  · rw [floors_getD l j hj]; exact flr_bd ((roundB_all h).2 j hj)
  · simp [floors, List.getD, List.getElem?_eq_none (show (List.map flr l).length ≤ j by simp; omega)]
theorem upN_inv {l : QL} {x : List Int} {B s : Int} (h : NInv l x B s) (h0 : 0 < l.length) (t : Nat) : NInv l (upN l x t) (B + t) (s + t) := by
  induction t with
  | zero => simpa [upN] using h
  | succ t ih =>
    have := ih.up h0
    have e1 : B + ((t + 1 : Nat) : Int) = B + t + 1 := by omega
    have e2 : s + ((t + 1 : Nat) : Int) = s + t + 1 := by omega
    rw [e1, e2]; exact this
theorem dnN_inv {l : QL} {x : List Int} {B s : Int} (h : NInv l x B s) (t : Nat) (ht : (t : Int) ≤ s) : NInv l (dnN l x t) B (s - t) := by
  induction t with
  | zero => simpa [dnN] using h
  | succ t ih =>
    have := (ih (by omega)).dn (by omega)
    have e2 : s - ((t + 1 : Nat) : Int) = s - t - 1 := by omega
    rw [e2]; exact this
/-- The numbers behind t units more and d units less. -/
def nwX (l : QL) (t d : Nat) : List Int := dnN l (upN l (floors l) t) d
theorem floors_sum {l : QL} (h : roundB l = true) : 0 ≤ (floors l).sum ∧ (floors l).sum ≤ 150000 := by
  have h1 := floors_inv h
  have h2 := roundB_all h
  have : ∀ (x : List Int), (∀ j, 0 ≤ x.getD j 0 ∧ x.getD j 0 ≤ 5000) → 0 ≤ x.sum ∧ x.sum ≤ 5000 * x.length := by
    intro x
    induction x with
    | nil => intro _; simp
    | cons a x ih =>
      intro hx
      have a0 := hx 0
      have := ih (fun j => by have := hx (j + 1); simpa using this)
      simp at a0 ⊢
      omega
  have := this _ h1.bd
  rw [h1.len] at this
  omega
theorem nw_inv {l : QL} {z : Int} (h : nearB l z = true) {t d : Nat} (ht : t ≤ nT l z) (hd : d ≤ nD l z) : NInv l (nwX l t d) 10000 ((floors l).sum + t - d) := by
  simp only [nearB, Bool.and_eq_true] at h
  have hz := inB_true.1 h.2
  have h1 := upN_inv (floors_inv h.1) (by have := (roundB_all h.1).1; omega) t
  have hs := floors_sum h.1
  unfold nT at ht
  unfold nD at hd
  exact (dnN_inv h1 d (by omega)).mono (by omega)
theorem nw_up {l : QL} {t : Nat} : nwX l (t + 1) 0 = upX l (nwX l t 0) := rfl
theorem nw_dn {l : QL} {t d : Nat} : nwX l t (d + 1) = dnX l (nwX l t d) := rfl
theorem nw_end {l : QL} {z : Int} : nwX l (nT l z) (nD l z) = nearX l z := rfl
theorem upAt_next {l : QL} {x : List Int} {k u : Nat} {s : Int} (h : upAt l x k = u) (hs : gapS l x k u = s) : upAt l x (k + 1) = if 0 < s then k else u := by unfold upAt; rw [h, hs]
theorem dnAt_next0 {l : QL} {x : List Int} {k : Nat} {xk u : Int} (hx : xk = x.getD k 0) (h0 : ¬ 0 < xk) (h : dnAt l x k = u) : dnAt l x (k + 1) = u := by
  unfold dnAt; rw [h, if_neg (by rw [← hx]; exact fun c => h0 c.1)]
theorem dnAt_next1 {l : QL} {x : List Int} {k : Nat} {xk u : Int} (hx : xk = x.getD k 0) (h0 : 0 < xk) (h : dnAt l x k = u) (hu : u < 0) : dnAt l x (k + 1) = k := by
  unfold dnAt; rw [h, if_pos (by rw [← hx]; exact ⟨h0, .inl hu⟩)]
theorem dnAt_next2 {l : QL} {x : List Int} {k v : Nat} {xk s : Int} (hx : xk = x.getD k 0) (h0 : 0 < xk) (h : dnAt l x k = (v : Int)) (hs : gapS l x k v = s) : dnAt l x (k + 1) = if s < 0 then (k : Int) else v := by
  unfold dnAt; rw [h, ← hx]
  simp only [Int.toNat_natCast, hs]
  by_cases c : s < 0
  · rw [if_pos ⟨h0, .inr c⟩, if_pos c]
  · rw [if_neg (by omega), if_neg c]
theorem gapS_at {l : QL} {x : List Int} {i j : Nat} {p q m r s k : Int} (h1 : (p, q) = l.getD i (0, 0)) (h2 : m = x.getD i 0) (h3 : (r, s) = l.getD j (0, 0)) (h4 : k = x.getD j 0) : gapS l x i j = sgn (gapZ p q m r s k) := by
  unfold gapS; rw [← h1, ← h2, ← h3, ← h4]
end Go.Proofs.Ytkpliolafkdijaa
