/- Stable sorting of numbers by falling keys: the plain laws. -/
import Derived.Test.YtikmgohjgdojdaaKA
namespace Go.Proofs.Ytikmgohjgdojdaa
open Go.RowKit
set_option linter.unusedVariables false
set_option linter.unusedSimpArgs false

/-- The order of a stable sort by falling keys, of numbers that rise at first. -/
def Rk (key : Int → Int) (x y : Int) : Prop := key y < key x ∨ (key x = key y ∧ x < y)
theorem Rk.trans {key : Int → Int} {x y z : Int} (h : Rk key x y) (h1 : Rk key y z) : Rk key x z := by unfold Rk at *; omega
theorem Rk.irr {key : Int → Int} {x : Int} (h : Rk key x x) : False := by unfold Rk at h; omega
theorem Rk.of_key {key : Int → Int} {x y : Int} (h : key y < key x) : Rk key x y := .inl h
theorem Rk.of_lt {key : Int → Int} {x y : Int} (h : ¬ key x < key y) (h1 : x < y) : Rk key x y := by unfold Rk; omega

abbrev Srt (key : Int → Int) (l : List Int) : Prop := l.Pairwise (Rk key)
theorem srt_app {key : Int → Int} {l m : List Int} : Srt key (l ++ m) ↔ Srt key l ∧ Srt key m ∧ ∀ x ∈ l, ∀ y ∈ m, Rk key x y := List.pairwise_append

def seg (xs : List Int) (i j : Nat) : List Int := (xs.drop i).take (j - i)
theorem seg_len {xs : List Int} {i j : Nat} (h : j ≤ xs.length) : (seg xs i j).length = j - i := by simp [seg]; omega
theorem seg_app {xs : List Int} {i j k : Nat} (h1 : i ≤ j) (h2 : j ≤ k) : seg xs i k = seg xs i j ++ seg xs j k := by
  unfold seg
  rw [show k - i = (j - i) + (k - j) by omega, List.take_add, List.drop_drop, show i + (j - i) = j by omega]
theorem seg_none {xs : List Int} {i j : Nat} (h : j ≤ i) : seg xs i j = [] := by simp [seg, show j - i = 0 by omega]
theorem seg_getD {xs : List Int} {i j t : Nat} (h : t < j - i) : (seg xs i j).getD t 0 = xs.getD (i + t) 0 := by
  simp [seg, List.getD, List.getElem?_take, h]
theorem take_app {xs : List Int} {i j : Nat} (h : i ≤ j) : xs.take j = xs.take i ++ seg xs i j := by
  unfold seg
  rw [show j = i + (j - i) by omega, List.take_add, show i + (j - i) - i = j - i by omega]
theorem drop_app {xs : List Int} {i j : Nat} (h : i ≤ j) : xs.drop i = seg xs i j ++ xs.drop j := by
  unfold seg
  rw [show xs.drop j = (xs.drop i).drop (j - i) by rw [List.drop_drop, show i + (j - i) = j by omega]]
  exact (List.take_append_drop _ _).symm
theorem mem_seg {xs : List Int} {i j : Nat} {y : Int} (h : y ∈ seg xs i j) : ∃ t, i ≤ t ∧ t < j ∧ t < xs.length ∧ y = xs.getD t 0 := by
  obtain ⟨t, ht, rfl⟩ := List.mem_iff_getElem.1 h
  have h2 : t < j - i := by have := ht; simp [seg] at this; omega
  have h3 : i + t < xs.length := by have := ht; simp [seg] at this; omega
  exact ⟨i + t, by omega, by omega, h3, by simp [seg, List.getD, h3]⟩
theorem seg_mem {xs : List Int} {i j t : Nat} (h1 : i ≤ t) (h2 : t < j) (h3 : t < xs.length) : xs.getD t 0 ∈ seg xs i j := by
  have hl : t - i < (seg xs i j).length := by simp [seg]; omega
  have := List.getElem_mem hl
  have e : (seg xs i j)[t - i] = xs.getD t 0 := by simp [seg, List.getD, h3, show i + (t - i) = t by omega]
  rwa [e] at this
theorem seg_one {xs : List Int} {i : Nat} (h : i < xs.length) : seg xs i (i + 1) = [xs.getD i 0] := by
  unfold seg
  rw [show i + 1 - i = 1 by omega, List.drop_eq_getElem_cons h]
  show [xs[i]] = _
  simp [List.getD, h]
theorem srt_seg_at {key : Int → Int} {xs : List Int} {a b i j : Nat} (h : Srt key (seg xs a b)) (h1 : a ≤ i) (h2 : i < j) (h3 : j < b) (h4 : j < xs.length) : Rk key (xs.getD i 0) (xs.getD j 0) := by
  rw [seg_app (xs := xs) (i := a) (j := i + 1) (k := b) (by omega) (by omega), srt_app] at h
  exact h.2.2 _ (seg_mem h1 (by omega) (by omega)) _ (seg_mem (by omega) h3 h4)
theorem srt_sub {key : Int → Int} {xs : List Int} {a b i j : Nat} (h : Srt key (seg xs a b)) (h1 : a ≤ i) (h2 : i ≤ j) (h3 : j ≤ b) : Srt key (seg xs i j) := by
  rw [seg_app (xs := xs) (i := a) (j := i) (k := b) h1 (by omega), srt_app] at h
  have h4 := h.2.1
  rw [seg_app (xs := xs) (i := i) (j := j) (k := b) h2 h3, srt_app] at h4
  exact h4.1

/-- A list by its elements. -/
def ri (n : Nat) (f : Nat → Int) : List Int := (List.range n).map f
theorem ri_len (n : Nat) (f : Nat → Int) : (ri n f).length = n := by simp [ri]
theorem ri_at {n : Nat} {f : Nat → Int} {j : Nat} (h : j < n) : (ri n f).getD j 0 = f j := by simp [ri, List.getD, h]
theorem li_ext {xs ys : List Int} {n : Nat} (h1 : xs.length = n) (h2 : ys.length = n) (h : ∀ j, j < n → xs.getD j 0 = ys.getD j 0) : xs = ys := by
  apply List.ext_getElem (by omega)
  intro i hi hi'
  have := h i (by omega)
  simpa [List.getD, hi, hi'] using this
theorem ri_self {xs : List Int} {n : Nat} (h : xs.length = n) : ri n (fun j => xs.getD j 0) = xs := li_ext (ri_len _ _) h (fun j hj => ri_at hj)
theorem ri_congr {n : Nat} {f g : Nat → Int} (h : ∀ j, j < n → f j = g j) : ri n f = ri n g := li_ext (ri_len _ _) (ri_len _ _) (fun j hj => by rw [ri_at hj, ri_at hj, h j hj])
theorem ri_set {n k : Nat} {f : Nat → Int} {v : Int} (h : k < n) : (ri n f).set k v = ri n (fun j => if j = k then v else f j) := by
  refine li_ext (by rw [List.length_set, ri_len]) (ri_len _ _) (fun j hj => ?_)
  rw [ri_at hj]
  by_cases e : j = k
  · subst e; rw [if_pos rfl]; simp [List.getD, ri_len, h]
  · rw [if_neg e, ← ri_at (f := f) hj]; simp [List.getD, List.getElem?_set_ne (Ne.symm e)]
theorem app_at {l m : List Int} {j : Nat} : (l ++ m).getD j 0 = if j < l.length then l.getD j 0 else m.getD (j - l.length) 0 := by
  simp only [List.getD]
  split
  · rename_i h; rw [List.getElem?_append_left h]
  · rename_i h; rw [List.getElem?_append_right (by omega)]
theorem take_at {xs : List Int} {i j : Nat} (h : j < i) : (xs.take i).getD j 0 = xs.getD j 0 := by simp [List.getD, List.getElem?_take, h]
theorem drop_at {xs : List Int} {i j : Nat} : (xs.drop i).getD j 0 = xs.getD (i + j) 0 := by simp [List.getD]
theorem take_len {xs : List Int} {i : Nat} (h : i ≤ xs.length) : (xs.take i).length = i := by simp; omega

/-- k elements from a on exchanged with those from b on. -/
def swpF (xs : List Int) (a b k j : Nat) : Int := if a ≤ j ∧ j < a + k then xs.getD (j - a + b) 0 else if b ≤ j ∧ j < b + k then xs.getD (j - b + a) 0 else xs.getD j 0
def swp (xs : List Int) (n a b k : Nat) : List Int := ri n (swpF xs a b k)
theorem swp_zero {xs : List Int} {n a b : Nat} (h : xs.length = n) : swp xs n a b 0 = xs := by
  refine Eq.trans ?_ (ri_self h)
  exact ri_congr fun j _ => by unfold swpF; rw [if_neg (by omega), if_neg (by omega)]
theorem swp_now {xs : List Int} {n a b k : Nat} (h1 : a + k < b) (h2 : b + k < n) : (swp xs n a b k).getD (a + k) 0 = xs.getD (a + k) 0 ∧ (swp xs n a b k).getD (b + k) 0 = xs.getD (b + k) 0 := by
  unfold swp
  rw [ri_at (by omega), ri_at (by omega)]
  unfold swpF
  exact ⟨by rw [if_neg (by omega), if_neg (by omega)], by rw [if_neg (by omega), if_neg (by omega)]⟩
theorem swp_step {xs : List Int} {n a b k : Nat} (h1 : a + k < b) (h2 : b + k < n) : ((swp xs n a b k).set (a + k) (xs.getD (b + k) 0)).set (b + k) (xs.getD (a + k) 0) = swp xs n a b (k + 1) := by
  unfold swp
  rw [ri_set (by omega), ri_set (by omega)]
  refine ri_congr fun j hj => ?_
  by_cases e1 : j = b + k
  · subst e1; rw [if_pos rfl]; unfold swpF; rw [if_neg (by omega), if_pos (by omega), show b + k - b + a = a + k by omega]
  · rw [if_neg e1]
    by_cases e2 : j = a + k
    · subst e2; rw [if_pos rfl]; unfold swpF; rw [if_pos (by omega), show a + k - a + b = b + k by omega]
    · rw [if_neg e2]
      unfold swpF
      by_cases e3 : a ≤ j ∧ j < a + k
      · rw [if_pos e3, if_pos (by omega)]
      · rw [if_neg e3, if_neg (show ¬ (a ≤ j ∧ j < a + (k + 1)) by omega)]
        by_cases e4 : b ≤ j ∧ j < b + k
        · rw [if_pos e4, if_pos (by omega)]
        · rw [if_neg e4, if_neg (by omega)]
theorem swp_eq {xs : List Int} {n a b k : Nat} (hl : xs.length = n) (h1 : a + k ≤ b) (h2 : b + k ≤ n) : swp xs n a b k = xs.take a ++ (seg xs b (b + k) ++ (seg xs (a + k) b ++ (seg xs a (a + k) ++ xs.drop (b + k)))) := by
  have l1 := take_len (xs := xs) (i := a) (by omega)
  have l2 := seg_len (xs := xs) (i := b) (j := b + k) (by omega)
  have l3 := seg_len (xs := xs) (i := a + k) (j := b) (by omega)
  have l4 := seg_len (xs := xs) (i := a) (j := a + k) (by omega)
  refine li_ext (ri_len _ _) (by simp only [List.length_append, l1, l2, l3, l4, List.length_drop]; omega) (fun j hj => ?_)
  unfold swp
  rw [ri_at hj, app_at, app_at, app_at, app_at, l1, l2, l3, l4]
  unfold swpF
  by_cases c1 : j < a
  · rw [if_neg (by omega), if_neg (by omega), if_pos c1, take_at c1]
  · rw [if_neg c1]
    by_cases c2 : j - a < b + k - b
    · rw [if_pos (by omega), if_pos c2, seg_getD c2, show b + (j - a) = j - a + b by omega]
    · rw [if_neg (by omega), if_neg c2]
      by_cases c3 : j - a - (b + k - b) < b - (a + k)
      · rw [if_neg (by omega), if_pos c3, seg_getD c3]; congr 1; omega
      · rw [if_neg c3]
        by_cases c4 : j - a - (b + k - b) - (b - (a + k)) < a + k - a
        · rw [if_pos (by omega), if_pos c4, seg_getD c4]; congr 1; omega
        · rw [if_neg (by omega), if_neg c4, drop_at]; congr 1; omega

/-- Two blocks exchanged. -/
def rot (xs : List Int) (a m b : Nat) : List Int := xs.take a ++ (seg xs m b ++ (seg xs a m ++ xs.drop b))
theorem rot_len {xs : List Int} {a m b : Nat} (h1 : a ≤ m) (h2 : m ≤ b) (h3 : b ≤ xs.length) : (rot xs a m b).length = xs.length := by
  unfold rot
  simp only [List.length_append, take_len (show a ≤ xs.length by omega), seg_len (show b ≤ xs.length by omega), seg_len (show m ≤ xs.length by omega), List.length_drop]
  omega
/-- The state of a rotation: the blocks of i before m and of j behind it are still to be exchanged. -/
def RotSt (goal cur : List Int) (m i j : Nat) : Prop := ∃ X U V Y : List Int, cur = X ++ (U ++ (V ++ Y)) ∧ goal = X ++ (V ++ (U ++ Y)) ∧ X.length + i = m ∧ U.length = i ∧ V.length = j
theorem app_take {l m : List Int} {a : Nat} (h : l.length = a) : (l ++ m).take a = l := by subst h; simp
theorem app_drop {l m : List Int} {a : Nat} (h : l.length = a) : (l ++ m).drop a = m := by subst h; simp
theorem seg_left {l m r : List Int} {a b : Nat} (h : l.length = a) (h2 : a + m.length = b) : seg (l ++ (m ++ r)) a b = m := by
  unfold seg; rw [app_drop h]; exact app_take (by omega)
theorem rot_start {xs : List Int} {a m b : Nat} (h1 : a ≤ m) (h2 : m ≤ b) (h3 : b ≤ xs.length) : RotSt (rot xs a m b) xs m (m - a) (b - m) := by
  refine ⟨xs.take a, seg xs a m, seg xs m b, xs.drop b, ?_, rfl, by rw [take_len (by omega)]; omega, seg_len (by omega), seg_len h3⟩
  rw [← drop_app h2, ← drop_app h1]; exact (List.take_append_drop a xs).symm
theorem rot_more {goal cur : List Int} {m i j n : Nat} (h : RotSt goal cur m i j) (hl : cur.length = n) (hij : j < i) : RotSt goal (swp cur n (m - i) m j) m (i - j) j := by
  obtain ⟨X, U, V, Y, rfl, rfl, h1, h2, h3⟩ := h
  simp only [List.length_append] at hl
  have hu : U = U.take j ++ U.drop j := (List.take_append_drop j U).symm
  have lu1 : (U.take j).length = j := take_len (by omega)
  have lu2 : (U.drop j).length = i - j := by simp; omega
  refine ⟨X ++ V, U.drop j, U.take j, Y, ?_, ?_, ?_, lu2, lu1⟩
  · rw [swp_eq (by simp only [List.length_append]; omega) (by omega) (by omega)]
    generalize U.take j = U1 at *
    generalize U.drop j = U2 at *
    subst hu
    have e1 : (X ++ (U1 ++ U2 ++ (V ++ Y))).take (m - i) = X := app_take (by omega)
    have e2 : seg (X ++ (U1 ++ U2 ++ (V ++ Y))) m (m + j) = V := by
      rw [show X ++ (U1 ++ U2 ++ (V ++ Y)) = (X ++ (U1 ++ U2)) ++ (V ++ Y) by simp]
      exact seg_left (by simp only [List.length_append]; omega) (by omega)
    have e3 : seg (X ++ (U1 ++ U2 ++ (V ++ Y))) (m - i + j) m = U2 := by
      rw [show X ++ (U1 ++ U2 ++ (V ++ Y)) = (X ++ U1) ++ (U2 ++ (V ++ Y)) by simp]
      exact seg_left (by simp only [List.length_append]; omega) (by omega)
    have e4 : seg (X ++ (U1 ++ U2 ++ (V ++ Y))) (m - i) (m - i + j) = U1 := by
      rw [show X ++ (U1 ++ U2 ++ (V ++ Y)) = X ++ (U1 ++ (U2 ++ (V ++ Y))) by simp]
      exact seg_left (by omega) (by omega)
    have e5 : (X ++ (U1 ++ U2 ++ (V ++ Y))).drop (m + j) = Y := by
      rw [show X ++ (U1 ++ U2 ++ (V ++ Y)) = (X ++ (U1 ++ U2) ++ V) ++ Y by simp]
      exact app_drop (by simp only [List.length_append]; omega)
    rw [e1, e2, e3, e4, e5]
    simp
  · rw [show X ++ V ++ (U.take j ++ (U.drop j ++ Y)) = X ++ (V ++ ((U.take j ++ U.drop j) ++ Y)) by simp only [List.append_assoc], ← hu]
  · simp only [List.length_append]; omega
theorem rot_less {goal cur : List Int} {m i j n : Nat} (h : RotSt goal cur m i j) (hl : cur.length = n) (hij : i < j) : RotSt goal (swp cur n (m - i) (m + j - i) i) m i (j - i) := by
  obtain ⟨X, U, V, Y, rfl, rfl, h1, h2, h3⟩ := h
  simp only [List.length_append] at hl
  have hv : V = V.take (j - i) ++ V.drop (j - i) := (List.take_append_drop (j - i) V).symm
  have lv1 : (V.take (j - i)).length = j - i := take_len (by omega)
  have lv2 : (V.drop (j - i)).length = i := by simp; omega
  refine ⟨X, V.drop (j - i), V.take (j - i), U ++ Y, ?_, ?_, h1, lv2, lv1⟩
  · rw [swp_eq (by simp only [List.length_append]; omega) (by omega) (by omega)]
    generalize V.take (j - i) = V1 at *
    generalize V.drop (j - i) = V2 at *
    subst hv
    have e1 : (X ++ (U ++ (V1 ++ V2 ++ Y))).take (m - i) = X := app_take (by omega)
    have e2 : seg (X ++ (U ++ (V1 ++ V2 ++ Y))) (m + j - i) (m + j - i + i) = V2 := by
      rw [show X ++ (U ++ (V1 ++ V2 ++ Y)) = (X ++ (U ++ V1)) ++ (V2 ++ Y) by simp]
      exact seg_left (by simp only [List.length_append]; omega) (by omega)
    have e3 : seg (X ++ (U ++ (V1 ++ V2 ++ Y))) (m - i + i) (m + j - i) = V1 := by
      rw [show X ++ (U ++ (V1 ++ V2 ++ Y)) = (X ++ U) ++ (V1 ++ (V2 ++ Y)) by simp]
      exact seg_left (by simp only [List.length_append]; omega) (by omega)
    have e4 : seg (X ++ (U ++ (V1 ++ V2 ++ Y))) (m - i) (m - i + i) = U := seg_left (by omega) (by omega)
    have e5 : (X ++ (U ++ (V1 ++ V2 ++ Y))).drop (m + j - i + i) = Y := by
      rw [show X ++ (U ++ (V1 ++ V2 ++ Y)) = (X ++ (U ++ (V1 ++ V2))) ++ Y by simp]
      exact app_drop (by simp only [List.length_append]; omega)
    rw [e1, e2, e3, e4, e5]
  · rw [show X ++ (V.take (j - i) ++ (V.drop (j - i) ++ (U ++ Y))) = X ++ ((V.take (j - i) ++ V.drop (j - i)) ++ (U ++ Y)) by simp only [List.append_assoc], ← hv]
theorem rot_last {goal cur : List Int} {m i n : Nat} (h : RotSt goal cur m i i) (hl : cur.length = n) : swp cur n (m - i) m i = goal := by
  obtain ⟨X, U, V, Y, rfl, rfl, h1, h2, h3⟩ := h
  simp only [List.length_append] at hl
  rw [swp_eq (by simp only [List.length_append]; omega) (by omega) (by omega)]
  have e1 : (X ++ (U ++ (V ++ Y))).take (m - i) = X := app_take (by omega)
  have e2 : seg (X ++ (U ++ (V ++ Y))) m (m + i) = V := by
    rw [show X ++ (U ++ (V ++ Y)) = (X ++ U) ++ (V ++ Y) by simp]
    exact seg_left (by simp only [List.length_append]; omega) (by omega)
  have e3 : seg (X ++ (U ++ (V ++ Y))) (m - i + i) m = [] := seg_none (by omega)
  have e4 : seg (X ++ (U ++ (V ++ Y))) (m - i) (m - i + i) = U := seg_left (by omega) (by omega)
  have e5 : (X ++ (U ++ (V ++ Y))).drop (m + i) = Y := by
    rw [show X ++ (U ++ (V ++ Y)) = (X ++ (U ++ V)) ++ Y by simp]
    exact app_drop (by simp only [List.length_append]; omega)
  rw [e1, e2, e3, e4, e5]
  simp
theorem RotSt.len {goal cur : List Int} {m i j : Nat} (h : RotSt goal cur m i j) : m + j ≤ cur.length ∧ i ≤ m := by
  obtain ⟨X, U, V, Y, rfl, rfl, h1, h2, h3⟩ := h
  simp only [List.length_append]
  omega

/-- One element moved up from a to k. -/
def upF (xs : List Int) (a k j : Nat) : Int := if a ≤ j ∧ j < k then xs.getD (j + 1) 0 else if j = k then xs.getD a 0 else xs.getD j 0
def upL (xs : List Int) (n a k : Nat) : List Int := ri n (upF xs a k)
theorem up_zero {xs : List Int} {n a : Nat} (h : xs.length = n) : upL xs n a a = xs := by
  refine Eq.trans ?_ (ri_self h)
  exact ri_congr fun j _ => by unfold upF; rw [if_neg (by omega)]; split <;> simp_all
theorem up_now {xs : List Int} {n a k : Nat} (h1 : a ≤ k) (h2 : k + 1 < n) : (upL xs n a k).getD k 0 = xs.getD a 0 ∧ (upL xs n a k).getD (k + 1) 0 = xs.getD (k + 1) 0 := by
  unfold upL
  rw [ri_at (by omega), ri_at (by omega)]
  unfold upF
  exact ⟨by rw [if_neg (by omega), if_pos rfl], by rw [if_neg (by omega), if_neg (by omega)]⟩
theorem up_step {xs : List Int} {n a k : Nat} (h1 : a ≤ k) (h2 : k + 1 < n) : ((upL xs n a k).set k (xs.getD (k + 1) 0)).set (k + 1) (xs.getD a 0) = upL xs n a (k + 1) := by
  unfold upL
  rw [ri_set (by omega), ri_set (by omega)]
  refine ri_congr fun j hj => ?_
  by_cases e1 : j = k + 1
  · subst e1; rw [if_pos rfl]; unfold upF; rw [if_neg (by omega), if_pos rfl]
  · rw [if_neg e1]
    by_cases e2 : j = k
    · subst e2; rw [if_pos rfl]; unfold upF; rw [if_pos (by omega)]
    · rw [if_neg e2]
      unfold upF
      by_cases e3 : a ≤ j ∧ j < k
      · rw [if_pos e3, if_pos (by omega)]
      · rw [if_neg e3, if_neg (show ¬ (a ≤ j ∧ j < k + 1) by omega), if_neg e2, if_neg e1]
theorem up_eq {xs : List Int} {n a k : Nat} (hl : xs.length = n) (h1 : a ≤ k) (h2 : k < n) : upL xs n a k = xs.take a ++ (seg xs (a + 1) (k + 1) ++ ([xs.getD a 0] ++ xs.drop (k + 1))) := by
  have l1 := take_len (xs := xs) (i := a) (by omega)
  have l2 := seg_len (xs := xs) (i := a + 1) (j := k + 1) (by omega)
  refine li_ext (ri_len _ _) (by simp only [List.length_append, l1, l2, List.length_drop, List.length_cons, List.length_nil]; omega) (fun j hj => ?_)
  unfold upL
  rw [ri_at hj, app_at, app_at, app_at, l1, l2]
  unfold upF
  by_cases c1 : j < a
  · rw [if_neg (by omega), if_neg (by omega), if_pos c1, take_at c1]
  · rw [if_neg c1]
    by_cases c2 : j - a < k + 1 - (a + 1)
    · rw [if_pos (by omega), if_pos c2, seg_getD c2]; congr 1; omega
    · rw [if_neg (by omega), if_neg c2]
      by_cases c3 : j = k
      · subst c3; rw [if_pos rfl, if_pos (by simp only [List.length_cons, List.length_nil]; omega), show j - a - (j + 1 - (a + 1)) = 0 by omega]; rfl
      · rw [if_neg c3, if_neg (by simp only [List.length_cons, List.length_nil]; omega), drop_at]; congr 1; simp only [List.length_cons, List.length_nil]; omega
/-- One element moved down from m to k. -/
def dnF (xs : List Int) (m k j : Nat) : Int := if k < j ∧ j ≤ m then xs.getD (j - 1) 0 else if j = k then xs.getD m 0 else xs.getD j 0
def dnL (xs : List Int) (n m k : Nat) : List Int := ri n (dnF xs m k)
theorem dn_zero {xs : List Int} {n m : Nat} (h : xs.length = n) : dnL xs n m m = xs := by
  refine Eq.trans ?_ (ri_self h)
  exact ri_congr fun j _ => by unfold dnF; rw [if_neg (by omega)]; split <;> simp_all
theorem dn_now {xs : List Int} {n m k : Nat} (h1 : k + 1 ≤ m) (h2 : m < n) : (dnL xs n m (k + 1)).getD (k + 1) 0 = xs.getD m 0 ∧ (dnL xs n m (k + 1)).getD k 0 = xs.getD k 0 := by
  unfold dnL
  rw [ri_at (by omega), ri_at (by omega)]
  unfold dnF
  exact ⟨by rw [if_neg (by omega), if_pos rfl], by rw [if_neg (by omega), if_neg (by omega)]⟩
theorem dn_step {xs : List Int} {n m k : Nat} (h1 : k + 1 ≤ m) (h2 : m < n) : ((dnL xs n m (k + 1)).set (k + 1) (xs.getD k 0)).set k (xs.getD m 0) = dnL xs n m k := by
  unfold dnL
  rw [ri_set (by omega), ri_set (by omega)]
  refine ri_congr fun j hj => ?_
  by_cases e1 : j = k
  · subst e1; rw [if_pos rfl]; unfold dnF; rw [if_neg (by omega), if_pos rfl]
  · rw [if_neg e1]
    by_cases e2 : j = k + 1
    · subst e2; rw [if_pos rfl]; unfold dnF; rw [if_pos (by omega)]; rfl
    · rw [if_neg e2]
      unfold dnF
      by_cases e3 : k + 1 < j ∧ j ≤ m
      · rw [if_pos e3, if_pos (by omega)]
      · rw [if_neg e3, if_neg (show ¬ (k < j ∧ j ≤ m) by omega), if_neg e2, if_neg e1]
theorem dn_eq {xs : List Int} {n m k : Nat} (hl : xs.length = n) (h1 : k ≤ m) (h2 : m < n) : dnL xs n m k = xs.take k ++ ([xs.getD m 0] ++ (seg xs k m ++ xs.drop (m + 1))) := by
  have l1 := take_len (xs := xs) (i := k) (by omega)
  have l2 := seg_len (xs := xs) (i := k) (j := m) (by omega)
  refine li_ext (ri_len _ _) (by simp only [List.length_append, l1, l2, List.length_drop, List.length_cons, List.length_nil]; omega) (fun j hj => ?_)
  unfold dnL
  rw [ri_at hj, app_at, app_at, app_at, l1, l2]
  unfold dnF
  simp only [List.length_cons, List.length_nil]
  by_cases c1 : j < k
  · rw [if_neg (by omega), if_neg (by omega), if_pos c1, take_at c1]
  · rw [if_neg c1]
    by_cases c3 : j = k
    · subst c3; rw [if_neg (by omega), if_pos rfl, if_pos (by omega), show j - j = 0 by omega]; rfl
    · rw [if_neg (show ¬ j - k < 0 + 1 by omega)]
      by_cases c2 : j - k - (0 + 1) < m - k
      · rw [if_pos (by omega), if_pos c2, seg_getD c2]; congr 1; omega
      · rw [if_neg (by omega), if_neg c3, if_neg c2, drop_at]; congr 1; omega

/-- The state that a stable merge starts from. -/
structure Ready (key : Int → Int) (xs : List Int) (a m b : Nat) : Prop where
  am : a < m
  mb : m < b
  bl : b ≤ xs.length
  l : Srt key (seg xs a m)
  r : Srt key (seg xs m b)
  lt : ∀ x ∈ seg xs a m, ∀ y ∈ seg xs m b, x < y
/-- What a sort of the elements from a to b leaves. -/
def Merged (key : Int → Int) (xs ys : List Int) (a b : Nat) : Prop := ∃ Z, ys = xs.take a ++ (Z ++ xs.drop b) ∧ Z.Perm (seg xs a b) ∧ Srt key Z
theorem cut3 {xs : List Int} {a b : Nat} (h : a ≤ b) : xs = xs.take a ++ (seg xs a b ++ xs.drop b) := by rw [← drop_app h]; exact (List.take_append_drop a xs).symm
theorem merged_self {key : Int → Int} {xs : List Int} {a b : Nat} (h : a ≤ b) (hs : Srt key (seg xs a b)) : Merged key xs xs a b := ⟨_, cut3 h, List.Perm.refl _, hs⟩
theorem Merged.parts {key : Int → Int} {xs ys : List Int} {a b : Nat} (h : Merged key xs ys a b) (hab : a ≤ b) (hb : b ≤ xs.length) :
    ys.length = xs.length ∧ ys.take a = xs.take a ∧ ys.drop b = xs.drop b ∧ (seg ys a b).Perm (seg xs a b) ∧ Srt key (seg ys a b) := by
  obtain ⟨Z, rfl, hp, hs⟩ := h
  have hl := hp.length_eq
  rw [seg_len hb] at hl
  have ht := take_len (xs := xs) (i := a) (by omega)
  have e : seg (xs.take a ++ (Z ++ xs.drop b)) a b = Z := seg_left ht (by omega)
  refine ⟨by simp only [List.length_append, ht, hl, List.length_drop]; omega, app_take ht, ?_, by rw [e]; exact hp, by rw [e]; exact hs⟩
  rw [show xs.take a ++ (Z ++ xs.drop b) = (xs.take a ++ Z) ++ xs.drop b by simp]
  exact app_drop (by simp only [List.length_append]; omega)
theorem pair_one {key : Int → Int} {x : Int} : Srt key [x] := List.pairwise_singleton _ _
theorem mem_one {x y : Int} (h : x ∈ [y]) : x = y := by simpa using h
theorem merged_up {key : Int → Int} {xs : List Int} {a b i n : Nat} (h : Ready key xs a (a + 1) b) (hl : xs.length = n) (h1 : a + 1 ≤ i) (h2 : i ≤ b)
    (h3 : i = a + 1 ∨ key (xs.getD a 0) < key (xs.getD (i - 1) 0)) (h4 : i = b ∨ ¬ key (xs.getD a 0) < key (xs.getD i 0)) : Merged key xs (upL xs n a (i - 1)) a b := by
  obtain ⟨am, mb, bl, sl, sr, lt⟩ := h
  refine ⟨seg xs (a + 1) i ++ ([xs.getD a 0] ++ seg xs i b), ?_, ?_, ?_⟩
  · rw [up_eq hl (by omega) (by omega), show i - 1 + 1 = i by omega, drop_app h2]; simp
  · rw [seg_app (xs := xs) (i := a) (j := a + 1) (k := b) (by omega) (by omega), seg_one (by omega), seg_app (xs := xs) (i := a + 1) (j := i) (k := b) h1 h2, ← List.append_assoc, ← List.append_assoc]
    exact List.Perm.append_right _ List.perm_append_comm
  · have hx : xs.getD a 0 ∈ seg xs a (a + 1) := seg_mem (by omega) (by omega) (by omega)
    rw [srt_app, srt_app]
    refine ⟨srt_sub sr (by omega) h1 h2, ⟨pair_one, srt_sub sr h1 h2 (by omega), ?_⟩, ?_⟩
    · intro x hx' y hy
      obtain rfl := mem_one hx'
      obtain ⟨t, t1, t2, t3, rfl⟩ := mem_seg hy
      have e := h4.resolve_left (by omega)
      have e2 : Rk key (xs.getD a 0) (xs.getD i 0) := Rk.of_lt e (lt _ hx _ (seg_mem h1 (by omega) (by omega)))
      rcases Nat.lt_or_ge i t with q | q
      · exact e2.trans (srt_seg_at sr (by omega) q t2 t3)
      · obtain rfl : i = t := by omega
        exact e2
    · intro x hx' y hy
      obtain ⟨s, s1, s2, s3, rfl⟩ := mem_seg hx'
      rcases List.mem_append.1 hy with q | q
      · obtain rfl := mem_one q
        have e := Rk.of_key (h3.resolve_left (by omega))
        rcases Nat.lt_or_ge s (i - 1) with q2 | q2
        · exact (srt_seg_at sr s1 q2 (by omega) (by omega)).trans e
        · obtain rfl : s = i - 1 := by omega
          exact e
      · obtain ⟨t, t1, t2, t3, rfl⟩ := mem_seg q
        exact srt_seg_at sr s1 (by omega) t2 t3
theorem merged_dn {key : Int → Int} {xs : List Int} {a m i n : Nat} (h : Ready key xs a m (m + 1)) (hl : xs.length = n) (h1 : a ≤ i) (h2 : i ≤ m)
    (h3 : i = a ∨ ¬ key (xs.getD (i - 1) 0) < key (xs.getD m 0)) (h4 : i = m ∨ key (xs.getD i 0) < key (xs.getD m 0)) : Merged key xs (dnL xs n m i) a (m + 1) := by
  obtain ⟨am, mb, bl, sl, sr, lt⟩ := h
  refine ⟨seg xs a i ++ ([xs.getD m 0] ++ seg xs i m), ?_, ?_, ?_⟩
  · rw [dn_eq hl h2 (by omega), take_app h1]; simp
  · rw [seg_app (xs := xs) (i := a) (j := m) (k := m + 1) (by omega) (by omega), seg_one (by omega), seg_app (xs := xs) (i := a) (j := i) (k := m) h1 h2, List.append_assoc]
    exact List.Perm.append_left _ List.perm_append_comm
  · have hx : xs.getD m 0 ∈ seg xs m (m + 1) := seg_mem (by omega) (by omega) (by omega)
    rw [srt_app, srt_app]
    refine ⟨srt_sub sl (by omega) h1 h2, ⟨pair_one, srt_sub sl h1 h2 (by omega), ?_⟩, ?_⟩
    · intro x hx' y hy
      obtain rfl := mem_one hx'
      obtain ⟨t, t1, t2, t3, rfl⟩ := mem_seg hy
      have e := Rk.of_key (h4.resolve_left (by omega))
      rcases Nat.lt_or_ge i t with q | q
      · exact e.trans (srt_seg_at sl (by omega) q t2 t3)
      · obtain rfl : i = t := by omega
        exact e
    · intro x hx' y hy
      obtain ⟨s, s1, s2, s3, rfl⟩ := mem_seg hx'
      rcases List.mem_append.1 hy with q | q
      · obtain rfl := mem_one q
        have e : Rk key (xs.getD (i - 1) 0) (xs.getD m 0) := Rk.of_lt (h3.resolve_left (by omega)) (lt _ (seg_mem (by omega) (by omega) (by omega)) _ hx)
        rcases Nat.lt_or_ge s (i - 1) with q2 | q2
        · exact (srt_seg_at sl s1 q2 (by omega) (by omega)).trans e
        · obtain rfl : s = i - 1 := by omega
          exact e
      · obtain ⟨t, t1, t2, t3, rfl⟩ := mem_seg q
        exact srt_seg_at sl s1 (by omega) t2 t3

/-- Where a merge parts its work. -/
structure Cut (key : Int → Int) (xs ys : List Int) (a s mid e b : Nat) : Prop where
  h1 : a ≤ s
  h2 : s ≤ mid
  h3 : mid ≤ e
  h4 : e ≤ b
  len : ys.length = xs.length
  bl : b ≤ xs.length
  tk : ys.take a = xs.take a
  dr : ys.drop b = xs.drop b
  pm : (seg ys a b).Perm (seg xs a b)
  s1 : Srt key (seg ys a s)
  s2 : Srt key (seg ys s mid)
  s3 : Srt key (seg ys mid e)
  s4 : Srt key (seg ys e b)
  l1 : ∀ x ∈ seg ys a s, ∀ y ∈ seg ys s mid, x < y
  l2 : ∀ x ∈ seg ys mid e, ∀ y ∈ seg ys e b, x < y
  cr : ∀ x ∈ seg ys a mid, ∀ y ∈ seg ys mid b, Rk key x y
theorem rot_triv {xs : List Int} {s m e : Nat} (h1 : s ≤ m) (h2 : m ≤ e) (h : ¬ (s < m ∧ m < e)) : rot xs s m e = xs := by
  unfold rot
  rcases Nat.lt_or_ge s m with q | q
  · obtain rfl : m = e := by omega
    rw [seg_none (i := m) (j := m) (Nat.le_refl _), List.nil_append]; exact (cut3 h1).symm
  · obtain rfl : s = m := by omega
    rw [seg_none (i := s) (j := s) (Nat.le_refl _), List.nil_append]; exact (cut3 h2).symm
theorem cut_of {key : Int → Int} {xs : List Int} {a m b s mid s0 r0 : Nat} (h : Ready key xs a m b) (hmid : mid = (a + b) / 2) (hs0 : s0 = if mid < m then mid + m - b else a) (hr0 : r0 = if mid < m then mid else m)
    (h1 : s0 ≤ s) (h2 : s ≤ r0) (h3 : s = s0 ∨ ¬ key (xs.getD (s - 1) 0) < key (xs.getD (mid + m - 1 - (s - 1)) 0)) (h4 : s = r0 ∨ key (xs.getD s 0) < key (xs.getD (mid + m - 1 - s) 0)) :
    (a ≤ s ∧ s ≤ m ∧ m ≤ mid + m - s ∧ mid + m - s ≤ b) ∧ Cut key xs (rot xs s m (mid + m - s)) a s mid (mid + m - s) b := by
  obtain ⟨am, mb, bl, sl, sr, lt⟩ := h
  have hq : (a ≤ s ∧ s ≤ m ∧ m ≤ mid + m - s ∧ mid + m - s ≤ b) ∧ s ≤ mid ∧ mid ≤ mid + m - s := by
    split at hs0 <;> split at hr0 <;> omega
  obtain ⟨⟨q1, q2, q3, q4⟩, q5, q6⟩ := hq
  refine ⟨⟨q1, q2, q3, q4⟩, ?_⟩
  have hE : ∃ e, e = mid + m - s := ⟨_, rfl⟩
  obtain ⟨e, hE⟩ := hE
  rw [← hE] at q3 q4 q6 ⊢
  have lt1 := take_len (xs := xs) (i := s) (by omega)
  have lm := seg_len (xs := xs) (i := m) (j := e) (by omega)
  have ll := seg_len (xs := xs) (i := s) (j := m) (by omega)
  have hr : rot xs s m e = xs.take a ++ (seg xs a s ++ (seg xs m e ++ (seg xs s m ++ (seg xs e b ++ xs.drop b)))) := by
    unfold rot; rw [take_app q1, drop_app q4]; simp
  have la := take_len (xs := xs) (i := a) (by omega)
  have l1 := seg_len (xs := xs) (i := a) (j := s) (by omega)
  have l4 := seg_len (xs := xs) (i := e) (j := b) (by omega)
  have e1 : seg (rot xs s m e) a s = seg xs a s := by rw [hr]; exact seg_left la (by omega)
  have e2 : seg (rot xs s m e) s mid = seg xs m e := by
    rw [hr, ← List.append_assoc]
    exact seg_left (by simp only [List.length_append]; omega) (by omega)
  have e3 : seg (rot xs s m e) mid e = seg xs s m := by
    rw [hr, ← List.append_assoc, ← List.append_assoc]
    exact seg_left (by simp only [List.length_append]; omega) (by omega)
  have e4 : seg (rot xs s m e) e b = seg xs e b := by
    rw [hr, ← List.append_assoc, ← List.append_assoc, ← List.append_assoc]
    exact seg_left (by simp only [List.length_append]; omega) (by omega)
  have hd : (rot xs s m e).drop b = xs.drop b := by
    rw [hr, ← List.append_assoc, ← List.append_assoc, ← List.append_assoc, ← List.append_assoc]
    exact app_drop (by simp only [List.length_append]; omega)
  have c1 : seg (rot xs s m e) a mid = seg xs a s ++ seg xs m e := by rw [seg_app q1 q5, e1, e2]
  have c2 : seg (rot xs s m e) mid b = seg xs s m ++ seg xs e b := by rw [seg_app q6 q4, e3, e4]
  refine ⟨q1, q5, q6, q4, rot_len q2 q3 (by omega), bl, ?_, hd, ?_, ?_, ?_, ?_, ?_, ?_, ?_, ?_⟩
  · rw [hr]; exact app_take la
  · rw [seg_app (xs := rot xs s m e) (i := a) (j := mid) (k := b) (by omega) (by omega), c1, c2, seg_app (xs := xs) (i := a) (j := s) (k := b) (by omega) (by omega), seg_app (xs := xs) (i := s) (j := m) (k := b) (by omega) (by omega), seg_app (xs := xs) (i := m) (j := e) (k := b) (by omega) (by omega), List.append_assoc, ← List.append_assoc (seg xs m e), ← List.append_assoc (seg xs s m)]
    exact List.Perm.append_left _ (List.Perm.append_right _ List.perm_append_comm)
  · rw [e1]; exact srt_sub sl (by omega) q1 q2
  · rw [e2]; exact srt_sub sr (by omega) q3 q4
  · rw [e3]; exact srt_sub sl q1 q2 (by omega)
  · rw [e4]; exact srt_sub sr q3 q4 (by omega)
  · rw [e1, e2]
    intro x hx y hy
    obtain ⟨t, t1, t2, t3, rfl⟩ := mem_seg hx
    obtain ⟨u, u1, u2, u3, rfl⟩ := mem_seg hy
    exact lt _ (seg_mem t1 (by omega) t3) _ (seg_mem u1 (by omega) u3)
  · rw [e3, e4]
    intro x hx y hy
    obtain ⟨t, t1, t2, t3, rfl⟩ := mem_seg hx
    obtain ⟨u, u1, u2, u3, rfl⟩ := mem_seg hy
    exact lt _ (seg_mem (by omega) (by omega) t3) _ (seg_mem (by omega) (by omega) u3)
  · rw [c1, c2]
    intro x hx y hy
    rcases List.mem_append.1 hx with qx | qx <;> rcases List.mem_append.1 hy with qy | qy
    · obtain ⟨t, t1, t2, t3, rfl⟩ := mem_seg qx
      obtain ⟨u, u1, u2, u3, rfl⟩ := mem_seg qy
      exact srt_seg_at sl t1 (by omega) (by omega) u3
    · obtain ⟨t, t1, t2, t3, rfl⟩ := mem_seg qx
      obtain ⟨u, u1, u2, u3, rfl⟩ := mem_seg qy
      have hs : s ≠ s0 := by split at hs0 <;> omega
      have h5 := h3.resolve_left hs
      rw [show mid + m - 1 - (s - 1) = e by omega] at h5
      have h6 : Rk key (xs.getD (s - 1) 0) (xs.getD e 0) := Rk.of_lt h5 (lt _ (seg_mem (by omega) (by omega) (by omega)) _ (seg_mem (by omega) (by omega) (by omega)))
      have h7 : Rk key (xs.getD t 0) (xs.getD e 0) := by
        rcases Nat.lt_or_ge t (s - 1) with q | q
        · exact (srt_seg_at sl t1 q (by omega) (by omega)).trans h6
        · obtain rfl : t = s - 1 := by omega
          exact h6
      rcases Nat.lt_or_ge e u with q | q
      · exact h7.trans (srt_seg_at sr (by omega) q u2 u3)
      · obtain rfl : u = e := by omega
        exact h7
    · obtain ⟨t, t1, t2, t3, rfl⟩ := mem_seg qx
      obtain ⟨u, u1, u2, u3, rfl⟩ := mem_seg qy
      have hs : s ≠ r0 := by split at hr0 <;> omega
      have h5 := h4.resolve_left hs
      rw [show mid + m - 1 - s = e - 1 by omega] at h5
      have h6 : Rk key (xs.getD (e - 1) 0) (xs.getD s 0) := Rk.of_key h5
      have h7 : Rk key (xs.getD t 0) (xs.getD s 0) := by
        rcases Nat.lt_or_ge t (e - 1) with q | q
        · exact (srt_seg_at sr t1 q (by omega) (by omega)).trans h6
        · obtain rfl : t = e - 1 := by omega
          exact h6
      rcases Nat.lt_or_ge s u with q | q
      · exact h7.trans (srt_seg_at sl (by omega) q u2 u3)
      · obtain rfl : u = s := by omega
        exact h7
    · obtain ⟨t, t1, t2, t3, rfl⟩ := mem_seg qx
      obtain ⟨u, u1, u2, u3, rfl⟩ := mem_seg qy
      exact srt_seg_at sr t1 (by omega) u2 u3
theorem Cut.left {key : Int → Int} {xs ys : List Int} {a s mid e b : Nat} (h : Cut key xs ys a s mid e b) (q : a < s ∧ s < mid) : Ready key ys a s mid :=
  ⟨q.1, q.2, by have := h.h3; have := h.h4; have := h.bl; have := h.len; omega, h.s1, h.s2, h.l1⟩
theorem Cut.left0 {key : Int → Int} {xs ys : List Int} {a s mid e b : Nat} (h : Cut key xs ys a s mid e b) (q : ¬ (a < s ∧ s < mid)) : Merged key ys ys a mid := by
  have h1 := h.h1; have h2 := h.h2
  refine merged_self (by omega) ?_
  rcases Nat.lt_or_ge a s with q1 | q1
  · obtain rfl : s = mid := by omega
    exact h.s1
  · obtain rfl : a = s := by omega
    exact h.s2
theorem Merged.right {key : Int → Int} {ys zs : List Int} {a mid b : Nat} (h : Merged key ys zs a mid) (h1 : a ≤ mid) (h2 : mid ≤ b) (h3 : b ≤ ys.length) : seg zs mid b = seg ys mid b ∧ zs.drop b = ys.drop b := by
  obtain ⟨hl, ht, hd, _, _⟩ := h.parts h1 (by omega)
  refine ⟨by unfold seg; rw [hd], ?_⟩
  have := congrArg (fun l => l.drop (b - mid)) hd
  simp only [List.drop_drop] at this
  rwa [show mid + (b - mid) = b by omega] at this
theorem seg_of_drop {ys zs : List Int} {mid e b : Nat} (h : zs.drop mid = ys.drop mid) (h1 : mid ≤ e) : seg zs e b = seg ys e b := by
  unfold seg
  have := congrArg (fun l => l.drop (e - mid)) h
  simp only [List.drop_drop] at this
  rw [show mid + (e - mid) = e by omega] at this
  rw [this]
theorem Cut.right {key : Int → Int} {xs ys zs : List Int} {a s mid e b : Nat} (h : Cut key xs ys a s mid e b) (hm : Merged key ys zs a mid) (q : mid < e ∧ e < b) : Ready key zs mid e b := by
  have h1 := h.h1; have h2 := h.h2; have h3 := h.bl; have h4 := h.len
  obtain ⟨hl, ht, hd, _, _⟩ := hm.parts (by omega) (by omega)
  have e1 := seg_of_drop (b := e) hd (Nat.le_refl _)
  have e2 := seg_of_drop (b := b) hd (show mid ≤ e by omega)
  exact ⟨q.1, q.2, by omega, by rw [e1]; exact h.s3, by rw [e2]; exact h.s4, by rw [e1, e2]; exact h.l2⟩
theorem Cut.right0 {key : Int → Int} {xs ys zs : List Int} {a s mid e b : Nat} (h : Cut key xs ys a s mid e b) (hm : Merged key ys zs a mid) (q : ¬ (mid < e ∧ e < b)) : Merged key zs zs mid b := by
  have h1 := h.h1; have h2 := h.h2; have h3 := h.bl; have h4 := h.len; have h5 := h.h3; have h6 := h.h4
  obtain ⟨hl, ht, hd, _, _⟩ := hm.parts (by omega) (by omega)
  have e1 := seg_of_drop (b := b) hd (Nat.le_refl _)
  refine merged_self (by omega) ?_
  rw [e1]
  rcases Nat.lt_or_ge mid e with q1 | q1
  · obtain rfl : e = b := by omega
    exact h.s3
  · obtain rfl : mid = e := by omega
    exact h.s4
theorem Cut.done {key : Int → Int} {xs ys zs us : List Int} {a s mid e b : Nat} (h : Cut key xs ys a s mid e b) (hm : Merged key ys zs a mid) (hn : Merged key zs us mid b) : Merged key xs us a b := by
  have h1 := h.h1; have h2 := h.h2; have h3 := h.bl; have h4 := h.len; have h5 := h.h3; have h6 := h.h4
  obtain ⟨hl, ht, hd, hp, hs⟩ := hm.parts (by omega) (by omega)
  obtain ⟨hl', ht', hd', hp', hs'⟩ := hn.parts (by omega) (by omega)
  have e1 := seg_of_drop (b := b) hd (Nat.le_refl _)
  have e2 : us.drop b = xs.drop b := by rw [hd', (hm.right (by omega) (show mid ≤ b by omega) (by omega)).2, h.dr]
  have e3 : us.take a = xs.take a := by
    have := congrArg (fun l => l.take a) ht'
    simp only [List.take_take, Nat.min_eq_left (show a ≤ mid by omega)] at this
    rw [this, ht, h.tk]
  have e4 : seg us a mid = seg zs a mid := by
    have := congrArg (fun l => l.drop a) ht'
    simp only [List.drop_take] at this
    exact this
  have e5 : seg us a b = seg zs a mid ++ seg us mid b := by rw [seg_app (xs := us) (i := a) (j := mid) (k := b) (by omega) (by omega), e4]
  refine ⟨seg us a b, by rw [← e2, ← e3]; exact cut3 (by omega), ?_, ?_⟩
  · rw [e5]
    refine List.Perm.trans ?_ h.pm
    rw [seg_app (xs := ys) (i := a) (j := mid) (k := b) (by omega) (by omega)]
    exact List.Perm.append hp (by rw [← e1]; exact hp')
  · rw [e5, srt_app]
    refine ⟨hs, hs', fun x hx y hy => h.cr x (hp.mem_iff.1 hx) y ?_⟩
    have := hp'.mem_iff.1 hy
    rwa [e1] at this
/-- One element more is sorted in. -/
theorem merged_in {key : Int → Int} {xs cur : List Int} {a i j n : Nat} (h : Merged key xs cur a i) (hl : cur.length = n) (hxl : xs.length = n) (h1 : a ≤ j) (h2 : j ≤ i) (h3 : i < n) (hlt : ∀ t, a ≤ t → t < i → xs.getD t 0 < xs.getD i 0)
    (h4 : ∀ t, j ≤ t → t < i → key (cur.getD t 0) < key (cur.getD i 0)) (h5 : j = a ∨ ¬ key (cur.getD (j - 1) 0) < key (cur.getD i 0)) : Merged key xs (dnL cur n i j) a (i + 1) := by
  obtain ⟨_, ht, hd, hp, hs⟩ := h.parts (by omega) (by omega)
  have hx : cur.getD i 0 = xs.getD i 0 := by
    have := congrArg (fun l => l.getD 0 0) hd
    simpa only [drop_at, Nat.add_zero] using this
  have hd1 : cur.drop (i + 1) = xs.drop (i + 1) := by
    have := congrArg (fun l => l.drop 1) hd
    simpa only [List.drop_drop] using this
  have small : ∀ t, a ≤ t → t < i → cur.getD t 0 < cur.getD i 0 := fun t t1 t2 => by
    have := hp.mem_iff.1 (seg_mem (xs := cur) t1 t2 (by omega))
    obtain ⟨u, u1, u2, u3, e⟩ := mem_seg this
    rw [e, hx]; exact hlt u u1 u2
  refine ⟨seg cur a j ++ ([cur.getD i 0] ++ seg cur j i), ?_, ?_, ?_⟩
  · rw [dn_eq hl h2 h3, take_app h1, ht, hd1]; simp
  · rw [seg_app (xs := xs) (i := a) (j := i) (k := i + 1) (by omega) (by omega), seg_one (by omega), ← hx]
    refine List.Perm.trans (List.Perm.append_left _ List.perm_append_comm) ?_
    rw [← List.append_assoc, ← seg_app h1 h2]
    exact List.Perm.append_right _ hp
  · rw [srt_app, srt_app]
    refine ⟨srt_sub hs (by omega) h1 h2, ⟨pair_one, srt_sub hs h1 h2 (by omega), ?_⟩, ?_⟩
    · intro x hx' y hy
      obtain rfl := mem_one hx'
      obtain ⟨t, t1, t2, t3, rfl⟩ := mem_seg hy
      exact Rk.of_key (h4 t t1 t2)
    · intro x hx' y hy
      obtain ⟨s, s1, s2, s3, rfl⟩ := mem_seg hx'
      rcases List.mem_append.1 hy with q | q
      · obtain rfl := mem_one q
        have e : Rk key (cur.getD (j - 1) 0) (cur.getD i 0) := Rk.of_lt (h5.resolve_left (by omega)) (small _ (by omega) (by omega))
        rcases Nat.lt_or_ge s (j - 1) with q2 | q2
        · exact (srt_seg_at hs s1 q2 (by omega) (by omega)).trans e
        · obtain rfl : s = j - 1 := by omega
          exact e
      · obtain ⟨t, t1, t2, t3, rfl⟩ := mem_seg q
        exact srt_seg_at hs s1 (by omega) t2 t3
theorem merged_none {key : Int → Int} {xs : List Int} {a : Nat} : Merged key xs xs a a := merged_self (Nat.le_refl _) (by rw [seg_none (Nat.le_refl _)]; exact List.Pairwise.nil)
theorem merged_first {key : Int → Int} {xs : List Int} {a : Nat} (h : a < xs.length) : Merged key xs xs a (a + 1) := merged_self (by omega) (by rw [seg_one h]; exact pair_one)
/-- Two sorted blocks are ready to be merged. -/
theorem ready_of {key : Int → Int} {xs ys zs : List Int} {m b : Nat} (h : Merged key xs ys 0 m) (h1 : Merged key ys zs m b) (hm : 0 < m) (hb : m < b) (hl : b ≤ xs.length) (hlt : ∀ s t, s < t → t < b → xs.getD s 0 < xs.getD t 0) : Ready key zs 0 m b := by
  obtain ⟨hl1, ht, hd, hp, hs⟩ := h.parts (by omega) (by omega)
  obtain ⟨hl2, ht', hd', hp', hs'⟩ := h1.parts (by omega) (by omega)
  have e1 : seg zs 0 m = seg ys 0 m := by unfold seg; simpa using ht'
  have e2 := seg_of_drop (b := b) hd (Nat.le_refl _)
  refine ⟨hm, hb, by omega, by rw [e1]; exact hs, hs', fun x hx y hy => ?_⟩
  rw [e1] at hx
  have hx := hp.mem_iff.1 hx
  have hy := hp'.mem_iff.1 hy
  rw [e2] at hy
  obtain ⟨s, s1, s2, s3, rfl⟩ := mem_seg hx
  obtain ⟨t, t1, t2, t3, rfl⟩ := mem_seg hy
  exact hlt s t (by omega) t2
theorem merged_trans {key : Int → Int} {xs ys zs us : List Int} {m b : Nat} (h : Merged key xs ys 0 m) (h1 : Merged key ys zs m b) (h2 : Merged key zs us 0 b) (hb : m ≤ b) (hl : b ≤ xs.length) : Merged key xs us 0 b := by
  obtain ⟨hl1, ht, hd, hp, hs⟩ := h.parts (by omega) (by omega)
  obtain ⟨hl2, ht', hd', hp', hs'⟩ := h1.parts (by omega) (by omega)
  obtain ⟨hl3, ht3, hd3, hp3, hs3⟩ := h2.parts (by omega) (by omega)
  have e1 : seg zs 0 m = seg ys 0 m := by unfold seg; simpa using ht'
  have e2 := seg_of_drop (b := b) hd (Nat.le_refl _)
  refine ⟨seg us 0 b, ?_, ?_, hs3⟩
  · have e4 : us.drop b = xs.drop b := by rw [hd3, hd', (h.right (by omega) hb hl).2]
    have := cut3 (xs := us) (a := 0) (b := b) (by omega)
    rw [e4] at this
    simpa using this
  · refine hp3.trans ?_
    rw [seg_app (xs := zs) (i := 0) (j := m) (k := b) (by omega) hb, seg_app (xs := xs) (i := 0) (j := m) (k := b) (by omega) hb, e1]
    exact List.Perm.append hp (by rw [← e2]; exact hp')
end Go.Proofs.Ytikmgohjgdojdaa
