/- ProductOf: of the reference and of the program. -/
import Derived.Test.YtkpliolafkdijaaMps
namespace Go.Proofs.Ytkpliolafkdijaa
open Go.RowKit Go.Sort
set_option linter.unusedVariables false
set_option linter.unusedSimpArgs false

/-- The product of the entry j / m of a row and the entry j % m of another. -/
def prF (aa bb : List (List QQ)) (m i j : Nat) : Int × Int × Bool :=
  mkF (((aa.getD i []).getD (j / m) (0, 0)).1 * ((bb.getD i []).getD (j % m) (0, 0)).1) (((aa.getD i []).getD (j / m) (0, 0)).2 * ((bb.getD i []).getD (j % m) (0, 0)).2)
theorem prF_at {aa bb : List (List QQ)} {m i z q : Nat} {x y u v : Int} (hq : q < m) (hx : (x, y) = (aa.getD i []).getD z (0, 0)) (hu : (u, v) = (bb.getD i []).getD q (0, 0)) : prF aa bb m i (z * m + q) = mkF (x * u) (y * v) := by
  have e1 : (z * m + q) / m = z := by rw [Nat.mul_comm, Nat.mul_add_div (by omega), Nat.div_eq_of_lt hq, Nat.add_zero]
  have e2 : (z * m + q) % m = q := by rw [Nat.mul_comm, Nat.mul_add_mod, Nat.mod_eq_of_lt hq]
  unfold prF; rw [e1, e2, ← hx, ← hu]
def prB (aa bb : List (List QQ)) : Bool := mechB aa && mechB bb && decide (aa.length = bb.length)
def prQ (aa bb : List (List QQ)) : List (List QQ) × Bool := if prB aa bb = true then nmQ (prF aa bb (bb.getD 0 []).length) aa.length ((aa.getD 0 []).length * (bb.getD 0 []).length) else ([], false)
theorem prQ_no {aa bb : List (List QQ)} (h : prB aa bb = false) : prQ aa bb = ([], false) := if_neg (by rw [h]; simp)
theorem prQ_yes {aa bb : List (List QQ)} (h : prB aa bb = true) : prQ aa bb = nmQ (prF aa bb (bb.getD 0 []).length) aa.length ((aa.getD 0 []).length * (bb.getD 0 []).length) := if_pos h
theorem prQ_len (aa bb : List (List QQ)) : (prQ aa bb).1.length ≤ 64 ∧ rowSum (prQ aa bb).1 (prQ aa bb).1.length ≤ 67108864 := by
  unfold prQ; split
  · exact nmQ_small _ _ _
  · simp [rowSum]
theorem nmQ_wide {f : Nat → Nat → Int × Int × Bool} {n k : Nat} (hn : 0 < n) (h : 24 < k) : nmQ f n k = ([], false) := by
  refine nmQ_no2 ?_
  rw [Bool.eq_false_iff]; intro hg
  have := mechB_len hg
  rw [tab_rowlen f hn] at this
  omega
theorem jq_lt {j l m : Nat} (h : j < l * m) : 0 < m ∧ j / m < l ∧ j % m < m := by
  have hm : 0 < m := by rcases Nat.eq_zero_or_pos m with rfl | h0; · simp at h
                        · exact h0
  exact ⟨hm, Nat.div_lt_of_lt_mul (by rw [Nat.mul_comm]; exact h), Nat.mod_lt _ hm⟩
theorem zq_lt {z q l m : Nat} (hz : z < l) (hq : q < m) : z * m + q < l * m := by
  have : (z + 1) * m ≤ l * m := Nat.mul_le_mul_right m hz
  rw [Nat.add_mul, Nat.one_mul] at this; omega

/-- The block of a slice that the call has built is not block g. -/
def Apart (v : Value) (g : Nat) : Prop := ∀ b, v.ownBlock = some b → b ≠ g
theorem B1.grown {w w' : World} {g : Nat} {u v : Value} (h : B1 w g u) (ha : Apart v g) (hb : ∀ b, b < w.heap.size → some b ≠ v.ownBlock → w'.heap[b]? = w.heap[b]?) : B1 w' g u := by
  have e := hb g h.lt (fun e => ha g e.symm rfl)
  exact ⟨(World.cell?_of_block (w := w) e).trans h.1, (World.frozen?_of_block (w := w) e).trans h.2⟩
theorem Bx.grown {w w' : World} {g : Nat} {x y : Int} {v : Value} (h : Bx w g x y) (ha : Apart v g) (hb : ∀ b, b < w.heap.size → some b ≠ v.ownBlock → w'.heap[b]? = w.heap[b]?) : Bx w' g x y := by
  have e := hb g h.lt (fun e => ha g e.symm rfl)
  obtain ⟨h1, h2, h3, h4⟩ := h
  exact ⟨(World.cell?_of_block (w := w) e).trans h1, (World.cell?_of_block (w := w) e).trans h2, (World.frozen?_of_block (w := w) e).trans h3, (World.frozen?_of_block (w := w) e).trans h4⟩
theorem Apart.of_lt {w : World} {B e size n g : Nat} {v : Value} {cs : List Value} (h : Has w B e size v n cs) (hg : w.heap.size ≤ g) : Apart v g := fun b hb => by have := Has.lt_ h b hb; omega
/-- append of a fraction, and where the new slice lies. -/
theorem append_frac_at {w0 : World} {ops : Array Oper} {rest : List Oper} {o : Oper} {a : Act} {Q : Exit → Act → World → Prop} {B : Nat} {v : Value} {n : Nat} {xs : List (Int × Int)} {x y : Int}
    (hown : Has w0 B 41 2 v n (frs xs)) (hn : n ≤ 67108864) (hB : B ≤ w0.heap.size)
    (s u : Operand) (hgd : o.guard = none)
    (ho : o.op = .call { callee := .builtin .append, args := #[s, u], argTypes := #[27, 27] })
    (hs : a.eval s = v) (hx : a.eval u = .slice (some ⟨w0.heap.size, 0, none⟩) 1 1)
    (h : ∀ v' w', Has w' B 41 2 v' (n + 1) (frs (xs ++ [(x, y)])) → Below B w0 w' → (∀ b, b < w0.heap.size → some b ≠ v.ownBlock → w'.heap[b]? = w0.heap[b]?) → (∀ g, g < w0.heap.size → Apart v g → Apart v' g) → wpList Try.prog ops Q rest (a.put o.dst v') w') : wpList Try.prog ops Q (o :: rest) a (w0.alloc (.cells #[.int .i64 x, .int .i64 y] 41)) := by
  obtain ⟨i, hi, hz0, hz1, hz2⟩ := info_parts info_frac
  refine wpList_append_own_at _ hgd s u 27 ho B 41 i _ 2 16 Try.underlying27 hi hz0 hz1 hz2 rfl (by omega) v n _ hs (hown.alloc _) ⟨w0.heap.size, 0, none⟩ 1 1 [.int .i64 x, .int .i64 y] hx rfl (fun j u hu => ?_) (fun y hy => by simp at hy; rcases hy with rfl | rfl <;> rfl) (by unfold maxLen; omega) (by omega) (by simp; omega) (fun v' w' g2 g3 g4 g5 => ?_)
  · rw [Addr.add_lit, Nat.zero_add, cell_of_row _ _ _ _ _ _ (heap_alloc_new w0 _)]
    simpa using hu
  · have hsz := g3.size
    simp at hsz
    have old : ∀ b, b < w0.heap.size → some b ≠ v.ownBlock → w'.heap[b]? = w0.heap[b]? := fun b hb hne => by
      rw [g3.block b (by simp; omega) hne]; exact heap_alloc_old w0 _ hb
    have hbel : Below B w0 w' := ⟨g3.os, g3.tape, g3.output, by omega, fun b hb => old b (by omega) (fun e => by have := Has.ge_ hown b e.symm; omega)⟩
    refine h v' w' (by rw [frs_append]; simpa [frs, fr2] using g2) hbel old (fun g hg ha b hb => ?_)
    rcases g5 with e | e
    · exact ha b (by rw [← e]; exact hb)
    · rw [hb] at e; injection e with e; simp at e; omega

end Go.Proofs.Ytkpliolafkdijaa
