/- Slices of rows of fractions that a call builds by append. -/
import Derived.Test.YtnopedjgagoahaaMnew
import Derived.Maps.AppendAt
namespace Go.Proofs.Ytnopedjgagoahaa
open Go.RowKit
set_option linter.unusedVariables false
set_option linter.unusedSimpArgs false

/-- A row of fractions of one's own, with its room. -/
def RowH (w : World) (L U : Nat) (A : Option Addr) (m c : Nat) (l : List QQ) : Prop :=
  FracsM w L U A m l ∧ Has w L 31 2 (.slice A m c) m (frs l) ∧ ∀ g, (Value.slice A m c).ownBlock = some g → g < U
theorem RowH.fr {w w' : World} {L U m c l u : Nat} {A : Option Addr} {r : List QQ} (h : RowH w L U A m c r) (f : Fr l u w w') (ho : u ≤ L ∨ U ≤ l ∨ u ≤ l) : RowH w' L U A m c r := by
  obtain ⟨h1, ⟨h2, h3⟩, h4⟩ := h
  refine ⟨SlM.fr h1 f ho, ⟨h2, ?_⟩, h4⟩
  rcases h3 with h3 | ⟨g, cap, cur, hv, hg, hh, rest⟩
  · exact .inl h3
  · have hU := h4 g (by rw [hv]; rfl)
    exact .inr ⟨g, cap, cur, hv, hg, (f.block g (Array.getElem?_eq_some_iff.1 hh).1 (by omega)).trans hh, rest⟩
theorem RowH.keeps {w w' : World} {L U m c : Nat} {A : Option Addr} {r : List QQ} (h : RowH w L U A m c r) (k : Keeps w w') : RowH w' L U A m c r := h.fr (Fr.of_keeps k 0 0) (by omega)
/-- The slice v of k rows that the call has built, in blocks from B to top; row j lies in blocks from L j to U j. -/
def Built (w : World) (B : Nat) (v : Value) (k : Nat) (ll : List (List QQ)) (top : Nat) : Prop :=
  ∃ (hs : List Value) (L U : Nat → Nat), Has w B 43 1 v k hs ∧ (∀ j, j < k → B ≤ L j ∧ U j ≤ top) ∧ (∀ i j, i < j → j < k → U i ≤ L j) ∧
    (∀ j, j < k → ∃ A' m c, hs.getD j undef = .slice A' m c ∧ RowH w (L j) (U j) A' m c (ll.getD j [])) ∧ top ≤ w.heap.size ∧ (∀ g, v.ownBlock = some g → g < top ∧ ∀ j, j < k → g < L j ∨ U j ≤ g)
theorem Built.nil_ (w : World) (B : Nat) (ll : List (List QQ)) : Built w B (.slice none 0 0) 0 ll w.heap.size :=
  ⟨[], fun _ => 0, fun _ => 0, World.ownsRow_nil _ _ _ _, fun j hj => absurd hj (by omega), fun i j h hj => absurd hj (by omega), fun j hj => absurd hj (by omega), Nat.le_refl _, fun g hg => by cases hg⟩
theorem Built.keeps {w w' : World} {B k top : Nat} {v : Value} {ll : List (List QQ)} (h : Built w B v k ll top) (kk : Keeps w w') : Built w' B v k ll top := by
  obtain ⟨hs, L, U, h1, h2, h3, h4, h5, h6⟩ := h
  exact ⟨hs, L, U, h1.below kk, h2, h3, fun j hj => by obtain ⟨A', m, c, e1, e2⟩ := h4 j hj; exact ⟨A', m, c, e1, RowH.keeps e2 kk⟩, Nat.le_trans h5 kk.size, h6⟩
theorem Built.form {w : World} {B k top : Nat} {v : Value} {ll : List (List QQ)} (h : Built w B v k ll top) : ∃ A c, v = .slice A k c := by
  obtain ⟨hs, L, U, h1, _⟩ := h; exact h1.form
theorem Has.lt_ {w : World} {B e size n : Nat} {v : Value} {cs : List Value} (h : Has w B e size v n cs) (g : Nat) (hg : v.ownBlock = some g) : g < w.heap.size := by
  rcases h.2 with ⟨rfl, _⟩ | ⟨g', cap, cur, rfl, hb, hh, _⟩
  · cases hg
  · injection hg with hg; subst hg; exact (Array.getElem?_eq_some_iff.1 hh).1
theorem Has.ge_ {w : World} {B e size n : Nat} {v : Value} {cs : List Value} (h : Has w B e size v n cs) (g : Nat) (hg : v.ownBlock = some g) : B ≤ g := by
  rcases h.2 with ⟨rfl, _⟩ | ⟨g', cap, cur, rfl, hb, hh, _⟩
  · cases hg
  · injection hg with hg; subst hg; exact hb
theorem RowH.of_own {w : World} {base n c : Nat} {A : Option Addr} {l : List QQ} (h : Has w base 31 2 (.slice A n c) n (frs l)) (hs : n ≤ 67108864) (hsz : 0 < 2) : RowH w base w.heap.size A n c l := ⟨SlM.of_own h hs hsz, h, fun g hg => Has.lt_ h g hg⟩
theorem Built.fr {w w' : World} {B k top l u : Nat} {v : Value} {ll : List (List QQ)} (h : Built w B v k ll top) (f : Fr l u w w') (ho : u ≤ B) : Built w' B v k ll top := by
  obtain ⟨hs, L, U, ⟨q1, q2⟩, h2, h3, h4, h5, h6⟩ := h
  refine ⟨hs, L, U, ⟨q1, ?_⟩, h2, h3, fun j hj => ?_, Nat.le_trans h5 f.size, h6⟩
  · rcases q2 with q2 | ⟨g, cap, cur, hv, hg, hh, rest⟩
    · exact .inl q2
    · exact .inr ⟨g, cap, cur, hv, hg, (f.block g (Array.getElem?_eq_some_iff.1 hh).1 (by omega)).trans hh, rest⟩
  · obtain ⟨A', m, c, e1, e2⟩ := h4 j hj
    exact ⟨A', m, c, e1, e2.fr f (by have := h2 j hj; omega)⟩
theorem cell_one_new' (w0 : World) (v : Value) (t : TypeId) : ∀ j u, [v][j]? = some u → (w0.alloc (.cells #[v] t)).cell? ((⟨w0.heap.size, 0, none⟩ : Addr).add j) = some u := by
  intro j u hu
  rw [Addr.add_lit, Nat.zero_add, cell_of_row _ _ _ _ _ _ (heap_alloc_new w0 _)]
  simpa using hu
/-- What an append of a row makes of the rows. -/
theorem Built.step {w0 : World} {B : Nat} {v : Value} {n m c top : Nat} {A : Option Addr} {ll : List (List QQ)}
    (hown : Built w0 B v n ll top) (hr : RowH w0 top w0.heap.size A m c (ll.getD n [])) (hB : B ≤ top) :
    ∃ hs', Has w0 B 43 1 v n hs' ∧ ∀ v' w', Has w' B 43 1 v' (n + 1) (hs' ++ [.slice A m c]) → (w0.alloc (.cells #[.slice A m c] 43)).grownBy w' v.ownBlock →
      (v'.ownBlock = v.ownBlock ∨ v'.ownBlock = some (w0.alloc (.cells #[.slice A m c] 43)).heap.size) → Built w' B v' (n + 1) ll w'.heap.size ∧ Below B w0 w' := by
  obtain ⟨hs', L, U, h1, h2, h3, h4, h5, h6⟩ := hown
  refine ⟨hs', h1, fun v' w' g2 g3 g5 => ?_⟩
  have hsz := g3.size
  simp at hsz
  have hl : hs'.length = n := by have := h1.1; omega
  have old : ∀ b, b < w0.heap.size → some b ≠ v.ownBlock → w'.heap[b]? = w0.heap[b]? := fun b hb hne => by
    rw [g3.block b (by simp; omega) hne]; exact heap_alloc_old w0 _ hb
  have fr : ∀ l u A1 m1 c1 r, RowH w0 l u A1 m1 c1 r → (∀ g, v.ownBlock = some g → g < l ∨ u ≤ g) → RowH w' l u A1 m1 c1 r := fun l u A1 m1 c1 r hf hd => by
    cases hv : v.ownBlock with
    | none =>
      exact RowH.fr hf (l := 0) (u := 0) ⟨g3.os, g3.tape, g3.output, by omega, fun b hb _ => old b hb (by rw [hv]; simp)⟩ (by omega)
    | some g =>
      have := hd g hv
      exact RowH.fr hf (l := g) (u := g + 1) ⟨g3.os, g3.tape, g3.output, by omega, fun b hb ho => old b hb (by rw [hv]; intro e; injection e with e; omega)⟩ (by omega)
  have hbel : Below B w0 w' := ⟨g3.os, g3.tape, g3.output, by omega, fun b hb => old b (by omega) (fun e => by
    have := Has.ge_ h1 b e.symm; omega)⟩
  refine ⟨⟨hs' ++ [.slice A m c], fun j => if j = n then top else L j, fun j => if j = n then w0.heap.size else U j, g2, fun j hj => ?_, fun i j hij hj => ?_, fun j hj => ?_, Nat.le_refl _, fun g hg => ?_⟩, hbel⟩
  · dsimp only
    split
    · omega
    · have := h2 j (by omega); omega
  · dsimp only
    rw [if_neg (show ¬ i = n by omega)]
    split
    · have := (h2 i (by omega)).2; omega
    · exact h3 i j hij (by omega)
  · dsimp only
    by_cases hjn : j = n
    · subst hjn
      rw [if_pos rfl, if_pos rfl]
      exact ⟨A, m, c, by simp [List.getD, hl], fr _ _ _ _ _ _ hr (fun g hg => by have := (h6 g hg).1; omega)⟩
    · rw [if_neg hjn, if_neg hjn]
      obtain ⟨A', m', c', e1, e2⟩ := h4 j (by omega)
      exact ⟨A', m', c', by rw [← e1]; simp [List.getD, List.getElem?_append_left (show j < hs'.length by omega)], fr _ _ _ _ _ _ e2 (fun g hg => (h6 g hg).2 j (by omega))⟩
  · have hlt : g < w'.heap.size := (Has.lt_ g2 g hg)
    refine ⟨hlt, fun j hj => ?_⟩
    dsimp only
    rcases g5 with e | e
    · have q := h6 g (by rw [← e]; exact hg)
      split
      · omega
      · exact q.2 j (by omega)
    · rw [hg] at e
      injection e with e
      simp at e
      split
      · omega
      · have := h2 j (by omega); omega
/-- append of a row. -/
theorem append_row {w0 : World} {ops : Array Oper} {rest : List Oper} {o : Oper} {a : Act} {Q : Exit → Act → World → Prop} {B : Nat} {v : Value} {n m c top : Nat} {A : Option Addr} {ll : List (List QQ)}
    (hown : Built w0 B v n ll top) (hr : RowH w0 top w0.heap.size A m c (ll.getD n [])) (hn : n ≤ 67108864) (hB : B ≤ top)
    (s x : Operand) (hgd : o.guard = none)
    (ho : o.op = .call { callee := .builtin .append, args := #[s, x], argTypes := #[23, 23] })
    (hs : a.eval s = v) (hx : a.eval x = .slice (some ⟨w0.heap.size, 0, none⟩) 1 1)
    (h : ∀ v' w', Built w' B v' (n + 1) ll w'.heap.size → Below B w0 w' → wpList Try.prog ops Q rest (a.put o.dst v') w') : wpList Try.prog ops Q (o :: rest) a (w0.alloc (.cells #[.slice A m c] 43)) := by
  obtain ⟨i, hi, hz0, hz1, hz2⟩ := info_parts info_fslice
  have hsz := hr.1.1.top
  have hbt : top ≤ w0.heap.size := by obtain ⟨_, _, _, _, _, _, _, q, _⟩ := hown; exact q
  obtain ⟨hs', h1, H⟩ := hown.step hr hB
  refine wpList_append_own_at _ hgd s x 23 ho B 43 i _ 1 24 Try.underlying23 hi hz0 hz1 hz2 rfl (by omega) v n _ hs (h1.alloc _) ⟨w0.heap.size, 0, none⟩ 1 1 [.slice A m c] hx rfl (cell_one_new' _ _ _) (fun y hy => by simp at hy; subst hy; rfl) (by unfold maxLen; omega) (by omega) (by simp; omega) (fun v' w' g2 g3 g4 g5 => ?_)
  obtain ⟨q1, q2⟩ := H v' w' (by simpa using g2) g3 g5
  exact h v' w' q1 q2
/-- append of a row in a region that draws its order. -/
theorem step_append_row {w0 : World} {ops : Array Oper} {o : Oper} {a : Act} {K : Act → World → Prop} {Q : Exit → Act → World → Prop} {E : Prop} {B : Nat} {v : Value} {n m c top : Nat} {A : Option Addr} {ll : List (List QQ)}
    (hown : Built w0 B v n ll top) (hr : RowH w0 top w0.heap.size A m c (ll.getD n [])) (hn : n ≤ 67108864) (hB : B ≤ top)
    (s x : Operand) (hgd : o.guard = none)
    (ho : o.op = .call { callee := .builtin .append, args := #[s, x], argTypes := #[23, 23] })
    (hs : a.eval s = v) (hx : a.eval x = .slice (some ⟨w0.heap.size, 0, none⟩) 1 1)
    (h : ∀ v' w', Built w' B v' (n + 1) ll w'.heap.size → Below B w0 w' → K (a.put o.dst v') w') :
    if Region.wanted o (yielded ops a.tmps) = true then Oper.wp Try.prog o a (w0.alloc (.cells #[.slice A m c] 43)) K Q else E := by
  have hw : Region.wanted o (yielded ops a.tmps) = true := by simp [Region.wanted, hgd]
  rw [if_pos hw]
  obtain ⟨i, hi, hz0, hz1, hz2⟩ := info_parts info_fslice
  have hbt : top ≤ w0.heap.size := by obtain ⟨_, _, _, _, _, _, _, q, _⟩ := hown; exact q
  obtain ⟨hs', h1, H⟩ := hown.step hr hB
  obtain ⟨v', w', hrun, g2, g3, _, g5⟩ := run_append_own_at (P := Try.prog) (w0.alloc (.cells #[.slice A m c] 43)) B 23 o.type 43 i _ 1 24 Try.underlying23 hi hz0 hz1 hz2 rfl (by omega) v n _ (h1.alloc _) ⟨w0.heap.size, 0, none⟩ 1 1 [.slice A m c] rfl (cell_one_new' _ _ _) (fun y hy => by simp at hy; subst hy; rfl) (by unfold maxLen; omega) (by omega) (by simp; omega)
  obtain ⟨q1, q2⟩ := H v' w' (by simpa using g2) g3 g5
  unfold Oper.wp
  simp [execOp, ho, resolve, invoke, builtin, hs, hx, hrun, Result.andThen]
  exact h v' w' q1 q2
theorem Built.ext {w : World} {B k top : Nat} {v : Value} {ll ll' : List (List QQ)} (h : Built w B v k ll top) (e : ∀ j, j < k → ll'.getD j [] = ll.getD j []) : Built w B v k ll' top := by
  obtain ⟨hs, L, U, h1, h2, h3, h4, h5, h6⟩ := h
  exact ⟨hs, L, U, h1, h2, h3, fun j hj => by rw [e j hj]; exact h4 j hj, h5, h6⟩
theorem Built.rm {w : World} {B k c top : Nat} {A : Option Addr} {ll : List (List QQ)} (h : Built w B (.slice A k c) k ll top) (hl : ll.length = k) (hk : k ≤ 67108864) : RM w B w.heap.size A k ll := by
  obtain ⟨hs, L, U, h1, h2, h3, h4, h5, h6⟩ := h
  obtain ⟨e0, e1⟩ := h1
  rcases e1 with ⟨e1, rfl⟩ | ⟨g, cap, cur, hv, hg, hh, hnc, hcm, hcs, htake⟩
  · obtain rfl : ll = [] := List.eq_nil_of_length_eq_zero hl
    exact ⟨⟨rfl, by omega, Nat.le_refl _, fun h => absurd h (by omega)⟩, fun h => absurd h (by omega)⟩
  · have hA : A = some ⟨g, 0, none⟩ := by injection hv
    subst hA
    have hlt : g < w.heap.size := (Array.getElem?_eq_some_iff.1 hh).1
    have h6' := h6 g rfl
    refine RMc.rm (L := L) (U := U) ⟨hl, hk, Nat.le_refl _, hg, hlt, fun j hj => ?_, h3, fun j hj => ?_⟩
    · have := h2 j hj; have := h6'.2 j hj; omega
    · obtain ⟨A', m, c', q1, q2⟩ := h4 j hj
      refine ⟨A', m, c', ?_, q2.1⟩
      rw [Nat.zero_add, cell_of_row w g j cur _ _ hh]
      have h7 : (cur.toList.take (k * 1))[j]? = some (hs.getD j undef) := by
        rw [htake]; simp [List.getD, show j < hs.length by omega]
      rw [List.getElem?_take, if_pos (by omega), q1] at h7
      simpa using h7
end Go.Proofs.Ytnopedjgagoahaa
