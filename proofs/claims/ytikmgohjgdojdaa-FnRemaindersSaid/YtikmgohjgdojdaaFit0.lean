/- FitDown: what it computes, in plain lists; and appends to several slices in turn. -/
import Derived.Test.YtikmgohjgdojdaaKP
import Derived.Test.YtikmgohjgdojdaaKO
import Derived.Maps.AppendAt
namespace Go.Proofs.Ytikmgohjgdojdaa
open Go.RowKit
set_option linter.unusedVariables false
set_option linter.unusedSimpArgs false

open Classical in
noncomputable def adjF (vs lo hi : List Int) (t : Int) : List Int := if h : ∃ x, IsAdj vs lo hi t x then h.choose else []
theorem adjF_eq {vs lo hi xs : List Int} {t : Int} (ho : Ordered lo hi) (h : IsAdj vs lo hi t xs) : adjF vs lo hi t = xs := by
  have hx : ∃ x, IsAdj vs lo hi t x := ⟨xs, h⟩
  unfold adjF
  rw [dif_pos hx]
  exact isAdj_one ho hx.choose_spec h

def setTo (out ks xs : List Int) : Nat → List Int
  | 0 => out
  | m + 1 => (setTo out ks xs m).set (ks.getD m 0).toNat (xs.getD m 0)
theorem setTo_len (out ks xs : List Int) (m : Nat) : (setTo out ks xs m).length = out.length := by
  induction m with
  | zero => rfl
  | succ m ih => simp [setTo, ih]
theorem setTo_succ {out ks xs : List Int} {m j : Nat} {x : Int} (hj : ks.getD m 0 = (j : Int)) (hx : x = xs.getD m 0) : (setTo out ks xs m).set j x = setTo out ks xs (m + 1) := by
  rw [setTo, hj, hx]; simp
def Rg (xs : List Int) : Prop := ∀ j, 0 ≤ xs.getD j 0 ∧ xs.getD j 0 ≤ 1000000
theorem set_rg {xs : List Int} (h : Rg xs) (i : Nat) {x : Int} (h1 : 0 ≤ x ∧ x ≤ 1000000) : Rg (xs.set i x) := by
  intro j
  have := h j
  by_cases hij : i = j
  · subst hij
    by_cases hl : i < xs.length
    · simpa [List.getD, List.getElem?_set, hl] using h1
    · simp only [List.getD, List.getElem?_set, hl] at this ⊢; simp
  · simpa [List.getD, List.getElem?_set, hij] using this
theorem setTo_rg {out ks xs : List Int} (h : Rg out) (hx : Rg xs) (m : Nat) : Rg (setTo out ks xs m) := by
  induction m with
  | zero => exact h
  | succ m ih => exact set_rg ih _ (hx m)
abbrev zeros (m : Nat) : List Int := List.replicate m 0
def tops (m : Nat) : List Int := List.replicate m 1000000
theorem zeros_getD (m j : Nat) : (zeros m).getD j 0 = 0 := by
  simp only [List.getD, List.getElem?_replicate]; split <;> rfl
theorem tops_len (m : Nat) : (tops m).length = m := by simp [tops]
theorem tops_getD (m j : Nat) : (tops m).getD j 0 = if j < m then 1000000 else 0 := by
  simp only [List.getD, tops, List.getElem?_replicate]; split <;> rfl
theorem zeros_ordered (m : Nat) : Ordered (zeros m) (tops m) := by
  intro j
  have h1 := zeros_getD m j
  have h2 := tops_getD m j
  have : (0 : Int) ≤ if j < m then 1000000 else 0 := by split <;> omega
  rw [h1, h2]; exact this
theorem zeros_bd (m : Nat) : Bd 1000000 (zeros m) := fun j => by rw [zeros_getD]; omega
theorem tops_bd (m : Nat) : Bd 1000000 (tops m) := fun j => by rw [tops_getD]; split <;> omega
theorem zeros_sum (m : Nat) : (zeros m).sum = 0 := by induction m with
  | zero => rfl
  | succ m ih => simp [List.replicate_succ]
theorem tops_sum (m : Nat) : (tops m).sum = 1000000 * m := by
  unfold tops
  induction m with
  | zero => rfl
  | succ m ih => rw [List.replicate_succ, List.sum_cons, ih]; omega
theorem isAdj_rg {vs xs : List Int} {t : Int} {n : Nat} (hn : vs.length = n) (h : IsAdj vs (zeros n) (tops n) t xs) : Rg xs := by
  intro j
  by_cases hj : j < n
  · have := isAdj_in hn (zeros_ordered n) h j hj
    rw [zeros_getD, tops_getD, if_pos hj] at this
    exact this
  · have : xs.getD j 0 = 0 := by simp [List.getD, List.getElem?_eq_none (show xs.length ≤ j by have := h.1; omega)]
    rw [this]; omega

/-- One area's children get its number. -/
noncomputable def fitStep (ps vs : List Int) (i : Nat) (out : List Int) : List Int :=
  if (kids ps i).length = 0 then out else setTo out (kids ps i) (adjF (vsAt vs (kids ps i)) (zeros (kids ps i).length) (tops (kids ps i).length) (out.getD i 0)) (kids ps i).length
noncomputable def fitTo (ps vs : List Int) (root : Int) : Nat → List Int
  | 0 => (zeros ps.length).set 0 root
  | i + 1 => fitStep ps vs i (fitTo ps vs root i)
theorem fitTo_len (ps vs : List Int) (root : Int) (k : Nat) : (fitTo ps vs root k).length = ps.length := by
  induction k with
  | zero => simp [fitTo]
  | succ k ih =>
    rw [fitTo, fitStep]
    split
    · exact ih
    · rw [setTo_len]; exact ih
theorem fitTo_skip {ps vs : List Int} {root : Int} {k : Nat} (h : (kids ps k).length = 0) : fitTo ps vs root (k + 1) = fitTo ps vs root k := by
  rw [fitTo, fitStep, if_pos h]
theorem fitTo_step {ps vs xs : List Int} {root t : Int} {k : Nat} (h : ¬ (kids ps k).length = 0) (ht : t = (fitTo ps vs root k).getD k 0)
    (hx : IsAdj (vsAt vs (kids ps k)) (zeros (kids ps k).length) (tops (kids ps k).length) t xs) :
    setTo (fitTo ps vs root k) (kids ps k) xs (kids ps k).length = fitTo ps vs root (k + 1) := by
  rw [fitTo, fitStep, if_neg h, ← ht, adjF_eq (zeros_ordered _) hx]
theorem fit_start {n : Nat} {root : Int} (h : 0 ≤ root ∧ root ≤ 1000000) : Rg ((zeros n).set 0 root) :=
  set_rg (fun j => by rw [zeros_getD]; omega) _ h
noncomputable def fdF (ps vs : List Int) (root : Int) : List Int × Bool := if (valB 100000 ps vs && inB root 0 1000000) = true then (fitTo ps vs root ps.length, true) else ([], false)
theorem fdF_no {ps vs : List Int} {root : Int} (h : (valB 100000 ps vs && inB root 0 1000000) = false) : fdF ps vs root = ([], false) := by
  unfold fdF; rw [h]; rfl
theorem fdF_yes {ps vs : List Int} {root : Int} (h1 : valB 100000 ps vs = true) (h2 : inB root 0 1000000 = true) : fdF ps vs root = (fitTo ps vs root ps.length, true) := by
  unfold fdF; rw [h1, h2]; rfl

/-- Two slices lie in blocks apart. -/
def ApartV (u v : Value) : Prop := ∀ g, u.ownBlock = some g → v.ownBlock ≠ some g
theorem ApartV.symm {u v : Value} (h : ApartV u v) : ApartV v u := fun g h1 h2 => h g h2 h1
theorem apart_nil (v : Value) : ApartV (.slice none 0 0) v := fun g h => by cases h
theorem apart_new {w0 : World} {B e s nb : Nat} {a a' b : Value} {ys : List Value} (hb : Has w0 B e s b nb ys) (hab : ApartV a b) (h : a'.ownBlock = a.ownBlock ∨ a'.ownBlock = some (w0.heap.size + 1)) : ApartV a' b := by
  intro g hg hbg
  rcases h with h | h
  · rw [h] at hg; exact hab g hg hbg
  · rw [h] at hg
    have := (hb.lt g hbg).2
    injection hg with hg
    omega
theorem has_grown {w0 w' : World} {B e s nb : Nat} {a b : Value} {ys : List Value} (hb : Has w0 B e s b nb ys) (hab : ApartV a b) (hg : w0.grownBy w' a.ownBlock) : Has w' B e s b nb ys := by
  refine World.ownsRow.kept hb hg ?_
  cases h : b.ownBlock with
  | none => exact .inl rfl
  | some g => exact .inr (fun e => hab g e.symm h)
theorem below_grown {w0 w' : World} {B e s na : Nat} {a : Value} {xs : List Value} (ha : Has w0 B e s a na xs) (hB : B ≤ w0.heap.size) (hg : w0.grownBy w' a.ownBlock) : Below B w0 w' :=
  (Below.refl B w0).grown hg hB (fun k hk => (ha.lt k hk).1)
theorem _root_.Go.Proofs.Ytikmgohjgdojdaa.Keeps.trans' {w w0 w' : World} {e s na : Nat} {a : Value} {xs : List Value} (hk : Keeps w w0) (ha : Has w0 w.heap.size e s a na xs) (hB : w.heap.size ≤ w0.heap.size) (hg : w0.grownBy w' a.ownBlock) : Keeps w w' := Below.trans hk (below_grown ha hB hg)
structure Tri (w : World) (B : Nat) (v1 v2 v3 : Value) (n1 n2 n3 : Nat) (xs ys zs : List Int) : Prop where
  h1 : Has w B 3 1 v1 n1 (xs.map (Value.int .i64))
  h2 : Has w B 3 1 v2 n2 (ys.map (Value.int .i64))
  h3 : Has w B 3 1 v3 n3 (zs.map (Value.int .i64))
  a12 : ApartV v1 v2
  a13 : ApartV v1 v3
  a23 : ApartV v2 v3
theorem Tri.nil_ (w : World) (B : Nat) : Tri w B (.slice none 0 0) (.slice none 0 0) (.slice none 0 0) 0 0 0 [] [] [] := ⟨World.ownsRow_nil _ _ _ _, World.ownsRow_nil _ _ _ _, World.ownsRow_nil _ _ _ _, apart_nil _, apart_nil _, apart_nil _⟩
section
variable {w w' : World} {B n1 n2 n3 : Nat} {v1 v2 v3 v' : Value} {xs ys zs us : List Int}
theorem Tri.one (h : Tri w B v1 v2 v3 n1 n2 n3 xs ys zs) (p1 : Has w' B 3 1 v' (n1 + 1) (us.map (Value.int .i64))) (p2 : w.grownBy w' v1.ownBlock) (p3 : v'.ownBlock = v1.ownBlock ∨ v'.ownBlock = some (w.heap.size + 1)) : Tri w' B v' v2 v3 (n1 + 1) n2 n3 us ys zs :=
  ⟨p1, has_grown h.h2 h.a12 p2, has_grown h.h3 h.a13 p2, apart_new h.h2 h.a12 p3, apart_new h.h3 h.a13 p3, h.a23⟩
theorem Tri.two (h : Tri w B v1 v2 v3 n1 n2 n3 xs ys zs) (p1 : Has w' B 3 1 v' (n2 + 1) (us.map (Value.int .i64))) (p2 : w.grownBy w' v2.ownBlock) (p3 : v'.ownBlock = v2.ownBlock ∨ v'.ownBlock = some (w.heap.size + 1)) : Tri w' B v1 v' v3 n1 (n2 + 1) n3 xs us zs :=
  ⟨has_grown h.h1 h.a12.symm p2, p1, has_grown h.h3 h.a23 p2, (apart_new h.h1 h.a12.symm p3).symm, h.a13, apart_new h.h3 h.a23 p3⟩
theorem Tri.three (h : Tri w B v1 v2 v3 n1 n2 n3 xs ys zs) (p1 : Has w' B 3 1 v' (n3 + 1) (us.map (Value.int .i64))) (p2 : w.grownBy w' v3.ownBlock) (p3 : v'.ownBlock = v3.ownBlock ∨ v'.ownBlock = some (w.heap.size + 1)) : Tri w' B v1 v2 v' n1 n2 (n3 + 1) xs ys us :=
  ⟨has_grown h.h1 h.a13.symm p2, has_grown h.h2 h.a23.symm p2, p1, h.a12, (apart_new h.h1 h.a13.symm p3).symm, (apart_new h.h2 h.a23.symm p3).symm⟩
end
theorem fit_new (w : World) (o : Obj) (n : Nat) (root : Int) :
    Own ((w.alloc o).alloc (.cells ((madeCells #[.int .i64 0] n).setIfInBounds 0 (.int .i64 root)) 3)) (w.heap.size + 1) ((zeros n).set 0 root) ∧
    Keeps (w.alloc o) ((w.alloc o).alloc (.cells ((madeCells #[.int .i64 0] n).setIfInBounds 0 (.int .i64 root)) 3)) := by
  refine ⟨?_, keeps_alloc _ _⟩
  have h1 := Own.new (w.alloc o) n
  rw [show (w.alloc o).heap.size = w.heap.size + 1 by simp] at h1
  have h2 := h1.set_ 0 root
  have e : ((w.alloc o).alloc (.cells (madeCells #[.int .i64 0] n) 3)).setCell ⟨w.heap.size + 1, 0, none⟩ (.int .i64 root) = (w.alloc o).alloc (.cells ((madeCells #[.int .i64 0] n).setIfInBounds 0 (.int .i64 root)) 3) := by go_simp
  rw [e] at h2
  exact h2
theorem fit_new1 (w : World) (n : Nat) (root : Int) :
    Own (w.alloc (.cells ((madeCells #[.int .i64 0] n).setIfInBounds 0 (.int .i64 root)) 3)) w.heap.size ((zeros n).set 0 root) ∧
    Keeps w (w.alloc (.cells ((madeCells #[.int .i64 0] n).setIfInBounds 0 (.int .i64 root)) 3)) := by
  refine ⟨?_, keeps_alloc _ _⟩
  have h2 := (Own.new w n).set_ 0 root
  have e : (w.alloc (.cells (madeCells #[.int .i64 0] n) 3)).setCell ⟨w.heap.size, 0, none⟩ (.int .i64 root) = w.alloc (.cells ((madeCells #[.int .i64 0] n).setIfInBounds 0 (.int .i64 root)) 3) := by go_simp
  rw [e] at h2
  exact h2
theorem three_new (w : World) (n : Nat) :
    Own (((w.alloc (.cells (madeCells #[.int .i64 0] n) 3)).alloc (.cells (madeCells #[.int .i64 0] n) 3)).alloc (.cells (madeCells #[.int .i64 0] n) 3)) w.heap.size (zeros n) ∧
    Own (((w.alloc (.cells (madeCells #[.int .i64 0] n) 3)).alloc (.cells (madeCells #[.int .i64 0] n) 3)).alloc (.cells (madeCells #[.int .i64 0] n) 3)) (w.heap.size + 1) (zeros n) ∧
    Own (((w.alloc (.cells (madeCells #[.int .i64 0] n) 3)).alloc (.cells (madeCells #[.int .i64 0] n) 3)).alloc (.cells (madeCells #[.int .i64 0] n) 3)) (w.heap.size + 1 + 1) (zeros n) ∧
    Keeps w (((w.alloc (.cells (madeCells #[.int .i64 0] n) 3)).alloc (.cells (madeCells #[.int .i64 0] n) 3)).alloc (.cells (madeCells #[.int .i64 0] n) 3)) := by
  have e1 : (w.alloc (.cells (madeCells #[.int .i64 0] n) 3)).heap.size = w.heap.size + 1 := by simp
  have e2 : ((w.alloc (.cells (madeCells #[.int .i64 0] n) 3)).alloc (.cells (madeCells #[.int .i64 0] n) 3)).heap.size = w.heap.size + 1 + 1 := by simp
  have o1 := Own.new w n
  have o2 := Own.new (w.alloc (.cells (madeCells #[.int .i64 0] n) 3)) n
  have o3 := Own.new ((w.alloc (.cells (madeCells #[.int .i64 0] n) 3)).alloc (.cells (madeCells #[.int .i64 0] n) 3)) n
  have k1 := keeps_alloc w (.cells (madeCells #[.int .i64 0] n) 3)
  have k2 := keeps_alloc (w.alloc (.cells (madeCells #[.int .i64 0] n) 3)) (.cells (madeCells #[.int .i64 0] n) 3)
  have k3 := keeps_alloc ((w.alloc (.cells (madeCells #[.int .i64 0] n) 3)).alloc (.cells (madeCells #[.int .i64 0] n) 3)) (.cells (madeCells #[.int .i64 0] n) 3)
  rw [e1] at o2
  rw [e2] at o3
  exact ⟨(o1.keeps k2).keeps k3, o2.keeps k3, o3, (k1.trans k2).trans k3⟩
theorem append_int_at {w0 : World} {ops : Array Oper} {rest : List Oper} {o : Oper} {a : Act} {Q : Exit → Act → World → Prop} {B : Nat} {v : Value} {n : Nat} {xs : List Int} {u : Int}
    (hown : Has w0 B 3 1 v n (xs.map (Value.int .i64))) (hn : n ≤ 67108864) (hB : B ≤ w0.heap.size)
    (s x : Operand) (hgd : o.guard = none)
    (ho : o.op = .call { callee := .builtin .append, args := #[s, x], argTypes := #[22, 22] })
    (hs : a.eval s = v) (hx : a.eval x = .slice (some ⟨w0.heap.size, 0, none⟩) 1 1)
    (h : ∀ v' w', Has w' B 3 1 v' (n + 1) ((xs ++ [u]).map (Value.int .i64)) → w0.grownBy w' v.ownBlock → (v'.ownBlock = v.ownBlock ∨ v'.ownBlock = some (w0.heap.size + 1)) → wpList Try.prog ops Q rest (a.put o.dst v') w') : wpList Try.prog ops Q (o :: rest) a (w0.alloc (.cells #[.int .i64 u] 3)) := by
  obtain ⟨i, hi, hz0, hz1, hz2⟩ := info_parts info_int
  refine wpList_append_own_at _ hgd s x 22 ho B 3 i _ 1 8 Try.underlying22 hi hz0 hz1 hz2 rfl (by omega) v n _ hs (hown.alloc _) ⟨w0.heap.size, 0, none⟩ 1 1 [.int .i64 u] hx rfl (cell_one_new _ _ _) (fun y hy => by simp at hy; subst hy; rfl) (by unfold maxLen; omega) (by omega) (by simp; omega) (fun v' w' h2 h3 h4 h5 => ?_)
  refine h v' w' (by simpa using h2) ⟨h3.os, h3.tape, h3.output, by have := h3.size; simp at this; omega, fun k hk hne => ?_⟩ (by simpa using h5)
  rw [h3.block k (by simp; omega) hne]
  exact heap_alloc_old w0 _ hk
end Go.Proofs.Ytikmgohjgdojdaa
