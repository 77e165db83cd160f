/- What the cursor draws: any mechanism, two mechanisms, a mechanism with two inputs (bounds alone). -/
import Derived.Test.YtnopedjgagoahaaDrawM
import Derived.Laws.OwnMore
namespace Go.Proofs.Ytnopedjgagoahaa
open Go.RowKit
set_option linter.unusedVariables false
set_option linter.unusedSimpArgs false

/-- Rows to be read, behind a slice of one's own; the rows lie in blocks below top. -/
def RF (w : World) (B top : Nat) (v : Value) (n : Nat) (ll : List (List QQ)) : Prop :=
  ∃ (hs : List Value) (L U : Nat → Nat), Has w B 43 1 v n hs ∧ (∀ j, j < n → B ≤ L j ∧ U j ≤ top) ∧ (∀ j, j < n → ∃ A' m c, hs.getD j undef = .slice A' m c ∧ Fracs w (L j) (U j) A' m (ll.getD j [])) ∧
    (∀ g, v.ownBlock = some g → ∀ j, j < n → g < L j ∨ U j ≤ g) ∧ top ≤ w.heap.size
theorem Has.frO {w w' : World} {B e size n l u : Nat} {v : Value} {cs : List Value} (h : Has w B e size v n cs) (f : Fr l u w w') (ho : ∀ g, v.ownBlock = some g → g < l ∨ u ≤ g) : Has w' B e size v n cs := by
  obtain ⟨h1, h2⟩ := h
  refine ⟨h1, ?_⟩
  rcases h2 with h2 | ⟨g, cap, cur, hv, hg, hh, rest⟩
  · exact .inl h2
  · exact .inr ⟨g, cap, cur, hv, hg, (f.block g (Array.getElem?_eq_some_iff.1 hh).1 (ho g (by rw [hv]; rfl))).trans hh, rest⟩
theorem RF.fr {w w' : World} {B top n l u : Nat} {v : Value} {ll : List (List QQ)} (h : RF w B top v n ll) (f : Fr l u w w') (ho : u ≤ B ∨ u ≤ l ∨ (top ≤ l ∧ ∀ g, v.ownBlock = some g → g < l ∨ u ≤ g)) : RF w' B top v n ll := by
  obtain ⟨hs, L, U, h1, h2, h3, h4, h5⟩ := h
  refine ⟨hs, L, U, Has.frO h1 f (fun g hg => ?_), h2, fun j hj => ?_, h4, Nat.le_trans h5 f.size⟩
  · have := Has.ge_ h1 g hg
    rcases ho with ho | ho | ho
    · omega
    · omega
    · exact ho.2 g hg
  · obtain ⟨A', m, c, e1, e2⟩ := h3 j hj
    have := h2 j hj
    exact ⟨A', m, c, e1, Sl.fr e2 f (by omega)⟩
theorem RF.keeps {w w' : World} {B top n : Nat} {v : Value} {ll : List (List QQ)} (h : RF w B top v n ll) (k : Keeps w w') : RF w' B top v n ll := h.fr (Fr.of_keeps k 0 0) (by omega)
theorem RF.form {w : World} {B top n : Nat} {v : Value} {ll : List (List QQ)} (h : RF w B top v n ll) : ∃ A c, v = .slice A n c := by
  obtain ⟨hs, L, U, h1, _⟩ := h; exact h1.form
theorem RF.rows {w : World} {B top n c : Nat} {A : Option Addr} {ll : List (List QQ)} (h : RF w B top (.slice A n c) n ll) (hl : ll.length = n) (hn : n ≤ 67108864) : FRows w B w.heap.size A n ll := by
  obtain ⟨hs, L, U, h1, h2, h3, h4, h5⟩ := h
  refine ⟨hl, hn, Nat.le_refl _, fun h0 => ?_⟩
  rcases h1.2 with ⟨_, hz⟩ | ⟨g, cap, cur, hv, hg, hh, _⟩
  · omega
  · have hA : A = some ⟨g, 0, none⟩ := by injection hv
    subst hA
    refine ⟨g, 0, rfl, hg, (Array.getElem?_eq_some_iff.1 hh).1, fun j hj => ?_⟩
    obtain ⟨A', m, c', e1, e2⟩ := h3 j hj
    have := h2 j hj
    have hl1 := h1.1
    refine ⟨A', m, c', ?_, Sl.widen e2 (by omega) (by omega) (Nat.le_refl _)⟩
    rw [Nat.zero_add, World.ownsRow.cellAt h1 j (by omega), List.getElem?_eq_getElem (by omega), ← e1]
    simp [List.getD, show j < hs.length by omega]
/-- The header of rows: its first cell. -/
theorem RF.cell0 {w : World} {B top n : Nat} {v : Value} {ll : List (List QQ)} (h : RF w B top v n ll) (hn : 0 < n) : ∃ gh c A' m c', v = .slice (some ⟨gh, 0, none⟩) n c ∧ w.cell? ⟨gh, 0, none⟩ = some (.slice A' m c') := by
  obtain ⟨hs, L, U, h1, h2, h3, h4, h5⟩ := h
  rcases h1.2 with ⟨_, hz⟩ | ⟨g, cap, cur, hv, hg, hh, _⟩
  · omega
  · subst hv
    obtain ⟨A', m, c', e1, e2⟩ := h3 0 hn
    have hl1 := h1.1
    refine ⟨g, cap, A', m, c', rfl, ?_⟩
    rw [World.ownsRow.cellAt h1 0 (by omega), List.getElem?_eq_getElem (by omega), ← e1]
    simp [List.getD, show 0 < hs.length by omega]
theorem RF.of_built {w : World} {B n top : Nat} {v : Value} {ll : List (List QQ)} (h : Built w B v n ll top) : RF w B top v n ll := by
  obtain ⟨hs, L, U, h1, h2, h3, h4, h5, h6⟩ := h
  refine ⟨hs, L, U, h1, fun j hj => h2 j hj, fun j hj => ?_, fun g hg j hj => (h6 g hg).2 j hj, h5⟩
  obtain ⟨A', m, c, e1, e2⟩ := h4 j hj
  exact ⟨A', m, c, e1, e2.1.1⟩
/-- A mechanism of one's own, opened at its first row. -/
structure MS (w : World) (B gh b0 c0 n c : Nat) (L U : Nat → Nat) (hs : List Value) (ll : List (List QQ)) : Prop where
  own : Has w B 43 1 (.slice (some ⟨gh, 0, none⟩) n c) n hs
  h0 : hs.getD 0 undef = .slice (some ⟨b0, 0, none⟩) (ll.getD 0 []).length c0
  row0 : RowH w (L 0) (U 0) (some ⟨b0, 0, none⟩) (ll.getD 0 []).length c0 (ll.getD 0 [])
  rng : ∀ j, j < n → B ≤ L j ∧ U j ≤ w.heap.size
  sep : ∀ i j, i < j → j < n → U i ≤ L j
  rows : ∀ j, j < n → ∃ A' m c, hs.getD j undef = .slice A' m c ∧ RowH w (L j) (U j) A' m c (ll.getD j [])
  hap : ∀ j, j < n → gh < L j ∨ U j ≤ gh
  ge : B ≤ gh
  len : ll.length = n ∧ (1 ≤ n ∧ n ≤ 8) ∧ ∀ j, j < n → 1 ≤ (ll.getD j []).length ∧ (ll.getD j []).length ≤ 24
theorem MF.start {w : World} {B n c : Nat} {A : Option Addr} {ll : List (List QQ)} (h : MF w B A n c ll) : ∃ gh b0 c0 L U hs, A = some ⟨gh, 0, none⟩ ∧ MS w B gh b0 c0 n c L U hs ll := by
  obtain ⟨⟨top, hs, L, U, h1, h2, h3, h4, h5, h6⟩, hl, hn, hrow⟩ := h
  rcases h1.2 with ⟨_, hz⟩ | ⟨g, cap, cur, hv, hg, hh, _⟩
  · omega
  · have hA : A = some ⟨g, 0, none⟩ := by injection hv
    subst hA
    obtain ⟨A', m, c', q1, q2⟩ := h4 0 (by omega)
    have hm : (ll.getD 0 []).length = m := Fracs.len q2.1.1
    have hr0 := hrow 0 (by omega)
    rcases q2.2.1.2 with ⟨_, hz⟩ | ⟨g', cap', cur', hv', hg', hh', _⟩
    · omega
    · have hA' : A' = some ⟨g', 0, none⟩ := by injection hv'
      subst hA'
      subst hm
      exact ⟨g, g', c', L, U, hs, rfl, ⟨h1, q1, q2, fun j hj => by have := h2 j hj; omega, h3, h4, fun j hj => (h6 g rfl).2 j hj, hg, hl, hn, hrow⟩⟩
section
variable {w w' : World} {B gh b0 c0 n c : Nat} {L U : Nat → Nat} {hs : List Value} {ll : List (List QQ)}
theorem MS.fr {l u : Nat} (h : MS w B gh b0 c0 n c L U hs ll) (f : Fr l u w w') (ho : u ≤ B ∨ u ≤ l) : MS w' B gh b0 c0 n c L U hs ll := by
  have hge := h.ge
  have hn := h.len.2.1
  refine ⟨Has.frO h.own f (fun g hg => by have e : gh = g := Option.some.inj hg; omega), h.h0, h.row0.fr f (by have := h.rng 0 (by omega); omega), fun j hj => ⟨(h.rng j hj).1, Nat.le_trans (h.rng j hj).2 f.size⟩, h.sep, fun j hj => ?_, h.hap, h.ge, h.len⟩
  obtain ⟨A', m, c', e1, e2⟩ := h.rows j hj
  exact ⟨A', m, c', e1, e2.fr f (by have := h.rng j hj; omega)⟩
theorem MS.keeps (h : MS w B gh b0 c0 n c L U hs ll) (k : Keeps w w') : MS w' B gh b0 c0 n c L U hs ll := h.fr (Fr.of_keeps k 0 0) (by omega)
theorem MS.cell (h : MS w B gh b0 c0 n c L U hs ll) : w.cell? ⟨gh, 0, none⟩ = some (.slice (some ⟨b0, 0, none⟩) (ll.getD 0 []).length c0) ∧ w.frozen? ⟨gh, 0, none⟩ = false := by
  have hl1 := h.own.1
  have hn := h.len.2.1
  refine ⟨?_, World.ownsRow.frozenAt h.own 0⟩
  rw [World.ownsRow.cellAt h.own 0 (by omega), List.getElem?_eq_getElem (by omega), ← h.h0]
  simp [List.getD, show 0 < hs.length by omega]
theorem MS.cell' {m0 : Nat} (h : MS w B gh b0 c0 n c L U hs ll) (hm : (ll.getD 0 []).length = m0) : w.cell? ⟨gh, 0, none⟩ = some (.slice (some ⟨b0, 0, none⟩) m0 c0) ∧ w.frozen? ⟨gh, 0, none⟩ = false := by subst hm; exact h.cell
theorem MS.b0lt (h : MS w B gh b0 c0 n c L U hs ll) : L 0 ≤ b0 ∧ b0 < U 0 ∧ gh < w.heap.size := by
  have hn := h.len.2.1
  have h1 := h.len.2.2 0 (by omega)
  obtain ⟨b, off, e, q1, q2, _⟩ := h.row0.1.1.2.2.2 (by omega)
  injection e with e; injection e with e1 e2
  subst e1
  exact ⟨q1, q2, (h.own.lt gh rfl).2⟩
theorem MS.cells0 (h : MS w B gh b0 c0 n c L U hs ll) : ∃ x y, w.cell? ⟨b0, 0, none⟩ = some (.int .i64 x) ∧ w.cell? ⟨b0, 1, none⟩ = some (.int .i64 y) ∧ w.frozen? ⟨b0, 0, none⟩ = false ∧ w.frozen? ⟨b0, 1, none⟩ = false := by
  have hn := h.len.2.1
  have h1 := h.len.2.2 0 (by omega)
  obtain ⟨b, off, x, y, e, _, _, hc, hd, _⟩ := Fracs.at_ h.row0.1.1 (k := 0) (by omega)
  injection e with e; injection e with e1 e2
  subst e1; subst e2
  exact ⟨x, y, hc, hd, h.row0.1.2 b0 0 rfl 0 (by omega), h.row0.1.2 b0 0 rfl 1 (by omega)⟩
/-- Behind a store into the first chance of the first row. -/
theorem MS.set0 (h : MS w B gh b0 c0 n c L U hs ll) (p q : Int) : RF ((w.setCell ⟨b0, 0, none⟩ (.int .i64 p)).setCell ⟨b0, 1, none⟩ (.int .i64 q)) B w.heap.size (.slice (some ⟨gh, 0, none⟩) n c) n (ll.set 0 ((ll.getD 0 []).set 0 (p, q))) := by
  have hn := h.len.2.1
  have h1 := h.len.2.2 0 (by omega)
  have hl := h.len.1
  obtain ⟨s1, s2⟩ := FracsM.set_ (b := b0) (off := 0) h.row0.1 (k := 0) (by omega) p q
  have s1 : FracsM ((w.setCell ⟨b0, 0, none⟩ (.int .i64 p)).setCell ⟨b0, 1, none⟩ (.int .i64 q)) (L 0) (U 0) (some ⟨b0, 0, none⟩) (ll.getD 0 []).length ((ll.getD 0 []).set 0 (p, q)) := s1
  have s2 : Fr (L 0) (U 0) w ((w.setCell ⟨b0, 0, none⟩ (.int .i64 p)).setCell ⟨b0, 1, none⟩ (.int .i64 q)) := s2
  refine ⟨hs, L, U, Has.frO h.own s2 (fun g hg => by cases hg; exact h.hap 0 (by omega)), h.rng, fun j hj => ?_, fun g hg j hj => by cases hg; exact h.hap j hj, s2.size⟩
  rcases Nat.eq_zero_or_pos j with h0 | h0
  · subst h0
    refine ⟨_, _, _, h.h0, ?_⟩
    have e : (ll.set 0 ((ll.getD 0 []).set 0 (p, q))).getD 0 [] = (ll.getD 0 []).set 0 (p, q) := by simp [List.getD, show 0 < ll.length by omega]
    rw [e]; exact s1.1
  · obtain ⟨A', m, c', e1, e2⟩ := h.rows j hj
    refine ⟨A', m, c', e1, ?_⟩
    have e : (ll.set 0 ((ll.getD 0 []).set 0 (p, q))).getD j [] = ll.getD j [] := by simp [List.getD, List.getElem?_set_ne (show (0 : Nat) ≠ j by omega)]
    rw [e]
    exact Sl.fr e2.1.1 s2 (by have := h.sep 0 j h0 hj; omega)
/-- An owned row, read in its own block alone. -/
theorem Has.tight {w : World} {B n c : Nat} {A : Option Addr} {l : List QQ} (h : Has w B 31 2 (.slice A n c) n (frs l)) (hn : n ≤ 67108864) (h0 : 0 < n) : ∃ g, A = some ⟨g, 0, none⟩ ∧ Fracs w g (g + 1) A n l := by
  have hm := (SlM.of_own h hn (by omega)).1
  rcases h.2 with ⟨_, hz⟩ | ⟨g, cap, cur, hv, hg, hh, _⟩
  · omega
  · have hA : A = some ⟨g, 0, none⟩ := by injection hv
    subst hA
    refine ⟨g, rfl, hm.1, hm.2.1, (Array.getElem?_eq_some_iff.1 hh).1, fun h0 => ?_⟩
    obtain ⟨b, off, e, q1, q2, q3⟩ := hm.2.2.2 h0
    injection e with e; injection e with e1 e2
    subst e1; subst e2
    exact ⟨g, 0, rfl, Nat.le_refl _, Nat.lt_succ_self _, q3⟩
theorem Fr.of_grown {w w' : World} {g : Nat} (p : w.grownBy w' (some g)) : Fr g (g + 1) w w' := ⟨p.os, p.tape, p.output, p.size, fun k hk ho => p.block k hk (fun e => by injection e with e; omega)⟩
/-- Behind an append to the first row and the store of the longer row. -/
theorem MS.app0 {W1 : World} {v' : Value} {f : QQ} (h : MS W1 B gh b0 c0 n c L U hs ll) (p1 : Has w' (L 0) 31 2 v' ((ll.getD 0 []).length + 1) (frs (ll.getD 0 [] ++ [f])))
    (p2 : W1.grownBy w' (some b0)) (p3 : v'.ownBlock = some b0 ∨ v'.ownBlock = some W1.heap.size) : RF (w'.setCell ⟨gh, 0, none⟩ v') B w'.heap.size (.slice (some ⟨gh, 0, none⟩) n c) n (ll.set 0 (ll.getD 0 [] ++ [f])) := by
  have hn := h.len.2.1
  have h1 := h.len.2.2 0 (by omega)
  have hl := h.len.1
  have hb := h.b0lt
  have hp0 := h.hap 0 (by omega)
  have hr0 := h.rng 0 (by omega)
  have fg := Fr.of_grown p2
  have own1 := Has.frO h.own fg (fun g hg => by have e : gh = g := Option.some.inj hg; omega)
  have own2 := (World.ownsRow.stored own1 0 v').1
  have fs : Fr gh (gh + 1) w' (w'.setCell ⟨gh, 0, none⟩ v') := (Fr.refl _ _ _).setCell (p := ⟨gh, 0, none⟩) (Nat.le_refl _) (Nat.lt_succ_self _) _
  have hne : ∀ g, v'.ownBlock = some g → g < gh ∨ gh + 1 ≤ g := fun g hg => by
    rcases p3 with e | e
    · rw [e] at hg; injection hg with hg; omega
    · rw [e] at hg; injection hg with hg; omega
  have p1' := Has.frO p1 fs hne
  obtain ⟨A5, c5, rfl⟩ := p1.form
  obtain ⟨g5, rfl, t5⟩ := Has.tight p1' (by omega) (by omega)
  have g5a := hne g5 rfl
  have g5b : b0 ≤ g5 ∧ g5 < w'.heap.size := ⟨by
    rcases p3 with e | e
    · have e : g5 = b0 := Option.some.inj e; omega
    · have e : g5 = W1.heap.size := Option.some.inj e; omega, (p1.lt g5 rfl).2⟩
  have sz := p2.size
  refine ⟨_, fun j => if j = 0 then g5 else L j, fun j => if j = 0 then g5 + 1 else U j, own2, fun j hj => ?_, fun j hj => ?_, fun g hg j hj => ?_, by simp [World.setCell]⟩
  · dsimp only
    have := h.rng j hj
    split <;> omega
  · dsimp only
    have hl1 := h.own.1
    rcases Nat.eq_zero_or_pos j with h0 | h0
    · subst h0
      refine ⟨some ⟨g5, 0, none⟩, (ll.getD 0 []).length + 1, c5, by simp [List.getD, show 0 < hs.length by omega], ?_⟩
      have e : (ll.set 0 (ll.getD 0 [] ++ [f])).getD 0 [] = ll.getD 0 [] ++ [f] := by simp [List.getD, show 0 < ll.length by omega]
      rw [e, if_pos rfl, if_pos rfl]; exact t5
    · obtain ⟨A', m, c', e1, e2⟩ := h.rows j hj
      have e : (ll.set 0 (ll.getD 0 [] ++ [f])).getD j [] = ll.getD j [] := by simp [List.getD, List.getElem?_set_ne (show (0 : Nat) ≠ j by omega)]
      refine ⟨A', m, c', by rw [← e1]; simp [List.getD, List.getElem?_set_ne (show (0 : Nat) ≠ j by omega)], ?_⟩
      rw [e, if_neg (by omega), if_neg (by omega)]
      exact Sl.fr (Sl.fr e2.1.1 fg (by have := h.sep 0 j h0 hj; omega)) fs (by have := h.hap j hj; omega)
  · dsimp only
    have e : gh = g := Option.some.inj hg
    have := h.hap j hj
    split <;> omega
end
/-- Behind an append of the first row once more. -/
theorem RF.copy {w : World} {B top n m c' : Nat} {v : Value} {gh c : Nat} {A' : Option Addr} {ll : List (List QQ)} (h : RF w B top v n ll) (hn : 0 < n) (hv : v = .slice (some ⟨gh, 0, none⟩) n c) (hc : w.cell? ⟨gh, 0, none⟩ = some (.slice A' m c')) (hl : ll.length = n) :
    ∃ hs, Has w B 43 1 v n hs ∧ ∀ v' w', Has w' B 43 1 v' (n + 1) (hs ++ [.slice A' m c']) → w.grownBy w' v.ownBlock → (v'.ownBlock = v.ownBlock ∨ v'.ownBlock = some w.heap.size) → RF w' B top v' (n + 1) (ll ++ [ll.getD 0 []]) := by
  obtain ⟨hs, L, U, h1, h2, h3, h4, h5⟩ := h
  subst hv
  refine ⟨hs, h1, fun v' w' g2 g3 g5 => ?_⟩
  have g3' : w.grownBy w' (some gh) := g3
  have fg := Fr.of_grown g3'
  have hl1 := h1.1
  have e0 : hs.getD 0 undef = .slice A' m c' := by
    have := World.ownsRow.cellAt h1 0 (by omega)
    rw [hc, List.getElem?_eq_getElem (by omega)] at this
    injection this with this
    simp [List.getD, show 0 < hs.length by omega, ← this]
  have ap := h4 gh rfl
  refine ⟨_, fun j => if j = n then L 0 else L j, fun j => if j = n then U 0 else U j, g2, fun j hj => ?_, fun j hj => ?_, fun g hg j hj => ?_, Nat.le_trans h5 g3.size⟩
  · dsimp only
    split
    · exact h2 0 hn
    · exact h2 j (by omega)
  · dsimp only
    by_cases e : j = n
    · subst e
      obtain ⟨A1, m1, c1, e1, e2⟩ := h3 0 hn
      rw [e0] at e1
      cases e1
      refine ⟨A', m, c', by simp [List.getD, show hs.length = j by omega], ?_⟩
      rw [if_pos rfl, if_pos rfl]
      have e3 : (ll ++ [ll.getD 0 []]).getD j [] = ll.getD 0 [] := by subst hl; simp [List.getD]
      rw [e3]
      exact Sl.fr e2 fg (by have := ap 0 hn; omega)
    · obtain ⟨A1, m1, c1, e1, e2⟩ := h3 j (by omega)
      refine ⟨A1, m1, c1, by rw [← e1]; simp [List.getD, List.getElem?_append_left (show j < hs.length by omega)], ?_⟩
      rw [if_neg e, if_neg e]
      have e3 : (ll ++ [ll.getD 0 []]).getD j [] = ll.getD j [] := by simp [List.getD, List.getElem?_append_left (show j < ll.length by omega)]
      rw [e3]
      exact Sl.fr e2 fg (by have := ap j (by omega); omega)
  · dsimp only
    rcases g5 with e | e
    · rw [e] at hg; cases hg
      split
      · exact ap 0 hn
      · exact ap j (by omega)
    · rw [e] at hg; injection hg with hg
      split
      · have := h2 0 hn; omega
      · have := h2 j (by omega); omega
theorem MS.rf {w : World} {B gh b0 c0 n c : Nat} {L U : Nat → Nat} {hs : List Value} {ll : List (List QQ)} (h : MS w B gh b0 c0 n c L U hs ll) : RF w B w.heap.size (.slice (some ⟨gh, 0, none⟩) n c) n ll := by
  refine ⟨hs, L, U, h.own, h.rng, fun j hj => ?_, fun g hg j hj => by have e : gh = g := Option.some.inj hg; have := h.hap j hj; omega, Nat.le_refl _⟩
  obtain ⟨A', m, c', e1, e2⟩ := h.rows j hj
  exact ⟨A', m, c', e1, e2.1.1⟩
theorem B1.grownA {w w' : World} {G : Nat} {v : Value} {row : Option Nat} (h : B1 w G v) (p2 : w.grownBy w' row) (hne : some G ≠ row) : B1 w' G v := by
  have eG : w'.heap[G]? = w.heap[G]? := p2.block G h.lt hne
  exact ⟨(World.cell?_of_block (w := w) eG).trans h.1, (World.frozen?_of_block (w := w) eG).trans h.2⟩
theorem Fr.grown_ {lo hi b : Nat} {a w w' : World} (f : Fr lo hi a w) (p2 : w.grownBy w' (some b)) (h : a.heap.size ≤ b) : Fr lo hi a w' :=
  ⟨p2.os.trans f.os, p2.tape.trans f.tape, p2.output.trans f.output, Nat.le_trans f.size p2.size, fun k hk ho => (p2.block k (Nat.lt_of_lt_of_le hk f.size) (fun e => by injection e with e; omega)).trans (f.block k hk ho)⟩
theorem lens_set {ll : List (List QQ)} {r : List QQ} {n : Nat} (h : ∀ j, j < n → (ll.getD j []).length ≤ 24) (hr : r.length ≤ 25) : ∀ j, j < n → ((ll.set 0 r).getD j []).length ≤ 25 := fun j hj => by
  rcases Nat.eq_zero_or_pos j with h0 | h0
  · subst h0
    by_cases hl : 0 < ll.length
    · simpa [List.getD, hl] using hr
    · have : ll = [] := List.eq_nil_of_length_eq_zero (by omega)
      subst this; simp [List.getD]
  · have e : (ll.set 0 r).getD j [] = ll.getD j [] := by simp [List.getD, List.getElem?_set_ne (show (0 : Nat) ≠ j by omega)]
    rw [e]; have := h j hj; omega
theorem lens_snoc {ll : List (List QQ)} {n : Nat} (hl : ll.length = n) (h : ∀ j, j < n → (ll.getD j []).length ≤ 24) (h0 : 0 < n) : ∀ j, j < n + 1 → ((ll ++ [ll.getD 0 []]).getD j []).length ≤ 24 := fun j hj => by
  subst hl
  by_cases e : j = ll.length
  · subst e; have := h 0 h0; simpa [List.getD] using this
  · have := h j (by omega)
    rwa [show (ll ++ [ll.getD 0 []]).getD j [] = ll.getD j [] by simp [List.getD, List.getElem?_append_left (show j < ll.length by omega)]]
theorem FRows.one {W : World} {lo hi m c : Nat} {A : Option Addr} {l : List QQ} {t : TypeId} (h : Fracs W lo hi A m l) (hh : lo ≤ W.heap.size) : FRows (W.alloc (.cells #[.slice A m c] t)) lo (W.heap.size + 1) (some ⟨W.heap.size, 0, none⟩) 1 [l] := by
  have ht := h.2.2.1
  refine ⟨rfl, by omega, by simp, fun _ => ⟨W.heap.size, 0, rfl, hh, Nat.lt_succ_self _, fun j hj => ?_⟩⟩
  obtain rfl : j = 0 := by omega
  exact ⟨A, m, c, (B1.new' (t := t) rfl).1, Sl.widen (Sl.keeps h (keeps_alloc _ _)) (Nat.le_refl _) (by omega) (by simp)⟩
def lenAt (w : World) (G : Nat) : Nat := match w.cell? ⟨G, 0, none⟩ with | some (.slice _ n _) => n | _ => 0
theorem cell_keepsG {w w' : World} {g gh : Nat} {v : Value} (h : w.cell? ⟨gh, 0, none⟩ = some v) (f : Fr g (g + 1) w.drew w') (hp : g < gh) : w'.cell? ⟨gh, 0, none⟩ = some v := by
  have hl := World.block_lt_of_cell? w _ h
  exact (f.cell (p := ⟨gh, 0, none⟩) hl (by show gh < _ ∨ _ ≤ gh; omega)).trans h
theorem RF.ge_ {w : World} {B top n : Nat} {v : Value} {ll : List (List QQ)} (h : RF w B top v n ll) (g : Nat) (hg : v.ownBlock = some g) : B ≤ g ∧ g < w.heap.size := by
  obtain ⟨hs, L, U, h1, _⟩ := h; exact h1.lt g hg
theorem zW {y : Int} (hy : 0 ≤ y ∧ (y < 2 ∨ (2 : Int) ≤ 1 ∧ y = 0)) : ∃ K : Nat, IntKind.i64.wrap (8 + y) = K ∧ 8 ≤ K ∧ K ≤ 9 := by
  rw [IntWalk.i64_in _ (by omega)]
  exact ⟨(8 + y).toNat, by omega, by omega, by omega⟩
theorem lenAt_eq {w : World} {G n c : Nat} {A : Option Addr} (h : B1 w G (.slice A n c)) : lenAt w G = n := by unfold lenAt; rw [h.1]
theorem step_pickM {W : World} {ops : Array Oper} {o : Oper} {a : Act} {K : Act → World → Prop} {Q : Exit → Act → World → Prop} {E : Prop} {g : Nat} {T n : Int}
    (hc : Cur W g T) (hT : T ≤ 999999999999999) (hn : n ≤ 65536) (hgd : o.guard = none)
    (hrun : (execOp a.eval o).run Try.prog W = .ok (.enter 85 #[.pointer (some ⟨g, 0, none⟩), .int .i64 n]) W)
    (h : ∀ x w', (0 ≤ x ∧ (x < n ∨ n ≤ 1 ∧ x = 0)) → Cur w' g (T + 2) → Fr g (g + 1) W w' → K (a.put o.dst (.int .i64 x)) w') :
    if Region.wanted o (yielded ops a.tmps) = true then Oper.wp Try.prog o a W K Q else E := by
  have hw : Region.wanted o (yielded ops a.tmps) = true := by simp [Region.wanted, hgd]
  rw [if_pos hw]
  unfold Oper.wp
  rw [hrun, Oper.upon_enter]
  refine (pick_any hc hT hn).mono fun e w' hh => ?_
  obtain ⟨x, rfl, hx, h1, h2⟩ := hh
  exact h x w' hx h1 h2
theorem step_anyFrac {W : World} {ops : Array Oper} {o : Oper} {a : Act} {K : Act → World → Prop} {Q : Exit → Act → World → Prop} {E : Prop} {g : Nat} {T : Int}
    (hc : Cur W g T) (hT : T ≤ 900000000000000) (hgd : o.guard = none)
    (hrun : (execOp a.eval o).run Try.prog W = .ok (.enter 96 #[.pointer (some ⟨g, 0, none⟩)]) W)
    (h : ∀ p q w', Sm p q → Cur w' g (T + 10) → Fr g (g + 1) W w' → K (a.put o.dst (.agg #[.int .i64 p, .int .i64 q])) w') :
    if Region.wanted o (yielded ops a.tmps) = true then Oper.wp Try.prog o a W K Q else E := by
  have hw : Region.wanted o (yielded ops a.tmps) = true := by simp [Region.wanted, hgd]
  rw [if_pos hw]
  unfold Oper.wp
  rw [hrun, Oper.upon_enter]
  refine (anyFrac_any hc hT).mono fun e w' hh => ?_
  obtain ⟨p, q, rfl, h1, h2, h3⟩ := hh
  exact h p q w' h1 h2 h3
theorem step_fInt {W : World} {ops : Array Oper} {o : Oper} {a : Act} {K : Act → World → Prop} {Q : Exit → Act → World → Prop} {E : Prop} {n : Int} (hgd : o.guard = none)
    (hrun : (execOp a.eval o).run Try.prog W = .ok (.enter 91 #[.int .i64 n]) W)
    (h : ∀ w', Keeps W w' → K (a.put o.dst (.agg #[.int .i64 n, .int .i64 1])) w') :
    if Region.wanted o (yielded ops a.tmps) = true then Oper.wp Try.prog o a W K Q else E := by
  have hw : Region.wanted o (yielded ops a.tmps) = true := by simp [Region.wanted, hgd]
  rw [if_pos hw]
  unfold Oper.wp
  rw [hrun, Oper.upon_enter]
  refine (fInt_any).mono fun e w' hh => ?_
  obtain ⟨rfl, h1⟩ := hh
  exact h w' h1
theorem step_append_fracG {W : World} {ops : Array Oper} {o : Oper} {a : Act} {K : Act → World → Prop} {Q : Exit → Act → World → Prop} {E : Prop} {B : Nat} {v : Value} {n g : Nat} {xs : List QQ} {p q : Int}
    (hown : Has W B 31 2 v n (frs xs)) (hn : n ≤ 67108864) (hB : B ≤ W.heap.size)
    (s x : Operand) (hgd : o.guard = none)
    (ho : o.op = .call { callee := .builtin .append, args := #[s, x], argTypes := #[43, 43] })
    (hs : a.eval s = v) (hx : a.eval x = .slice (some ⟨g, 0, none⟩) 1 1) (hg : W.heap[g]? = some (.cells #[.int .i64 p, .int .i64 q] 31 (0, 0)))
    (h : ∀ v' w', Has w' B 31 2 v' (n + 1) (frs (xs ++ [(p, q)])) → W.grownBy w' v.ownBlock → (v'.ownBlock = v.ownBlock ∨ v'.ownBlock = some W.heap.size) → K (a.put o.dst v') w') :
    if Region.wanted o (yielded ops a.tmps) = true then Oper.wp Try.prog o a W K Q else E := by
  have hw : Region.wanted o (yielded ops a.tmps) = true := by simp [Region.wanted, hgd]
  rw [if_pos hw]
  obtain ⟨i, hi, hz0, hz1, hz2⟩ := info_parts info_frac
  obtain ⟨v', w', hr, h2, h3, _, h5⟩ := run_append_own_at (P := Try.prog) W B 43 o.type 31 i _ 2 16 Try.underlying43 hi hz0 hz1 hz2 rfl (by omega) v n _ hown ⟨g, 0, none⟩ 1 1 [.int .i64 p, .int .i64 q] rfl (fun j y hy => by rw [Addr.add_lit, Nat.zero_add, cell_of_row _ _ _ _ _ _ hg]; simpa using hy) (fun y hy => by simp at hy; rcases hy with rfl | rfl <;> rfl) (by unfold maxLen; omega) (by omega) hB
  unfold Oper.wp
  simp [execOp, ho, resolve, invoke, builtin, hs, hx, hr, Result.andThen]
  exact h v' w' (by rw [frs_append]; simpa [frs, fr2] using h2) h3 h5
theorem step_append_hs {W : World} {ops : Array Oper} {o : Oper} {a : Act} {K : Act → World → Prop} {Q : Exit → Act → World → Prop} {E : Prop} {B : Nat} {v u : Value} {n g : Nat} {hs : List Value}
    (hown : Has W B 43 1 v n hs) (hu : u.oneCell' = true) (hn : n ≤ 67108864) (hB : B ≤ W.heap.size)
    (s x : Operand) (hgd : o.guard = none)
    (ho : o.op = .call { callee := .builtin .append, args := #[s, x], argTypes := #[23, 23] })
    (hs' : a.eval s = v) (hx : a.eval x = .slice (some ⟨g, 0, none⟩) 1 1) (hg : W.heap[g]? = some (.cells #[u] 43 (0, 0)))
    (h : ∀ v' w', Has w' B 43 1 v' (n + 1) (hs ++ [u]) → W.grownBy w' v.ownBlock → (v'.ownBlock = v.ownBlock ∨ v'.ownBlock = some W.heap.size) → K (a.put o.dst v') w') :
    if Region.wanted o (yielded ops a.tmps) = true then Oper.wp Try.prog o a W K Q else E := by
  have hw : Region.wanted o (yielded ops a.tmps) = true := by simp [Region.wanted, hgd]
  rw [if_pos hw]
  obtain ⟨i, hi, hz0, hz1, hz2⟩ := info_parts info_fslice
  obtain ⟨v', w', hr, h2, h3, _, h5⟩ := run_append_own_at (P := Try.prog) W B 23 o.type 43 i _ 1 24 Try.underlying23 hi hz0 hz1 hz2 rfl (by omega) v n _ hown ⟨g, 0, none⟩ 1 1 [u] rfl (fun j y hy => by rw [Addr.add_lit, Nat.zero_add, cell_of_row _ _ _ _ _ _ hg]; simpa using hy) (fun y hy => by simp at hy; subst hy; exact hu) (by unfold maxLen; omega) (by omega) hB
  unfold Oper.wp
  simp [execOp, ho, resolve, invoke, builtin, hs', hx, hr, Result.andThen]
  exact h v' w' (by simpa using h2) h3 h5
/-- Any mechanism, perhaps not a valid one. -/
def DrawsM (w : World) (g : Nat) (T : Int) (e : Ending) (w' : World) : Prop := ∃ A n c ll, e = .returned (.agg #[.slice A n c]) ∧ FRows w' w.heap.size w'.heap.size A n ll ∧ (n ≤ 9 ∧ ∀ j, j < n → (ll.getD j []).length ≤ 25) ∧ Cur w' g T ∧ Fr g (g + 1) w w'
set_option maxRecDepth 100000 in
set_option maxHeartbeats 6400000 in
theorem anyMechanism_any {g : Nat} {T : Int} {w : World} (h : Cur w g T) (hT : T ≤ 700000000000000) :
    Calls Try.prog 83 #[.pointer (some ⟨g, 0, none⟩)] w (DrawsM w g (T + 200)) := by
  have lg := h.lt
  have f0 : Fr g (g + 1) w (w.alloc (.cells #[.slice none 0 0] 25)) := (Fr.refl _ _ _).keeps (keeps_alloc w _)
  have hc0 := h.keeps (keeps_alloc w (.cells #[.slice none 0 0] 25))
  have b2 : B1 (w.alloc (.cells #[.slice none 0 0] 25)) w.heap.size (.slice none 0 0) := B1.new' rfl
  go_enter Try.func83, Try.ntmps83
  go_wp2_with fail
  refine (mechanism_any hc0 (by omega)).mono ?_
  rintro e w1 ⟨A, n, c, ll, B, rfl, hM, hB, hc1, f1⟩
  have hB1 : w.heap.size + 1 ≤ B := by simpa using hB
  have f2 := f0.trans f1
  have b2 := b2.fr f1 (by omega)
  have sz1 := f2.size
  obtain ⟨gh, b0, c0, L, U, hs, rfl, ms⟩ := hM.start
  have hb0 := ms.b0lt
  have hgB := ms.ge
  have hr0 := ms.rng 0 (by have := ms.len; omega)
  obtain ⟨hll, hn, hrow⟩ := ms.len
  have hrow0 := hrow 0 (by omega)
  have hr24 : ∀ j, j < n → (ll.getD j []).length ≤ 24 := fun j hj => (hrow j hj).2
  have rf := ms.rf
  have l2 := b2.lt
  clear hM hB f0 f1 hc0 h
  replace ms := ms.keeps (keeps_alloc w1 (.cells #[.slice (some ⟨gh, 0, none⟩) n c] 25))
  replace rf := rf.keeps (keeps_alloc w1 (.cells #[.slice (some ⟨gh, 0, none⟩) n c] 25))
  have b3 : B1 (w1.alloc (.cells #[.slice (some ⟨gh, 0, none⟩) n c] 25)) w1.heap.size (.slice (some ⟨gh, 0, none⟩) n c) := B1.new' rfl
  have hc2 := hc1.keeps (keeps_alloc w1 (.cells #[.slice (some ⟨gh, 0, none⟩) n c] 25))
  have f3 := f2.keeps (keeps_alloc w1 (.cells #[.slice (some ⟨gh, 0, none⟩) n c] 25))
  replace b2 := b2.keeps (keeps_alloc w1 (.cells #[.slice (some ⟨gh, 0, none⟩) n c] 25))
  clear hc1 f2
  go_wp2_with fail
  refine (pick_any hc2 (by omega) (by omega)).mono ?_
  rintro e w3 ⟨q, rfl, hq, hc3, f4⟩
  replace ms := ms.fr f4 (by omega)
  replace rf := rf.fr f4 (by omega)
  replace b3 := b3.fr f4 (by omega)
  replace b2 := b2.fr f4 (by omega)
  have f5 := f3.trans f4
  have l3 := b3.lt
  clear hc2 f3 f4
  have hn1 : (0 : Int) < (n : Int) := by omega
  have hnN : 0 < n := by omega
  obtain ⟨m0, hm0⟩ : ∃ m0, (ll.getD 0 []).length = m0 := ⟨_, rfl⟩
  have hmN : 0 < m0 := by omega
  have hm24 : m0 ≤ 24 := by omega
  have HM0 := hid hm0
  clear hm0 hrow0
  by_cases h0 : q = 0
  · subst h0
    obtain ⟨z1, z2⟩ := id b3
    obtain ⟨z3, z4⟩ := ms.cell' HM0.out
    have hT3 : T + 100 + 2 ≤ 900000000000000 := by omega
    have hcD := hc3.keeps (keeps_d0 w3)
    have msD := ms.keeps (keeps_d0 w3)
    have b3D := b3.keeps (keeps_d0 w3)
    have b2D := b2.keeps (keeps_d0 w3)
    have fD := f5.keeps (keeps_d0 w3)
    have hgB2 : g + 1 ≤ B := by omega
    have o3 : w1.heap.size < g ∨ g + 1 ≤ w1.heap.size := by omega
    have o2 : w.heap.size < g ∨ g + 1 ≤ w.heap.size := by omega
    clear hc3 ms b3 b2 f5 rf
    go_wp2_with fail
    go_region_law ((first | (refine step_anyFrac hcD hT3 rfl (by kernel_rfl) ?_; intro p q wB sm hcB fB; have msB := msD.fr fB (.inl hgB2); have b3B := b3D.fr fB o3; have b2B := b2D.fr fB o2; have fBB := fD.trans fB; have sB := fB.size; obtain ⟨x0, x1, y1, y2, y3, y4⟩ := msB.cells0; obtain ⟨y5, y6⟩ := msB.cell' HM0.out; obtain ⟨y7, y8⟩ := id b3B; clear fB)))
    all_goals (
      have R := hid (msB.set0 p q)
      have B3 := hid (b3B.set2 (p := b0) (by omega) (.int .i64 p) (.int .i64 q))
      have B2 := hid (b2B.set2 (p := b0) (by omega) (.int .i64 p) (.int .i64 q))
      have C9 := hid (hcB.fr (fr_set2 (p := b0) (.int .i64 p) (.int .i64 q)) (by omega))
      have F9 := hid ((fBB.setNew (p := ⟨b0, 0, none⟩) (by show _ ≤ b0; omega) (.int .i64 p)).setNew (p := ⟨b0, 1, none⟩) (by show _ ≤ b0; omega) (.int .i64 q))
      have hls := lens_set (r := (ll.getD 0 []).set 0 (p, q)) hr24 (by rw [List.length_set, HM0.out]; omega)
      clear z1 z2 z3 z4 y1 y2 y3 y4 y5 y6 y7 y8 hcD msD b3D b2D fD msB b3B b2B fBB hcB
      obtain ⟨t1, t2⟩ := id B3.out
      obtain ⟨t3, t4⟩ := id B2.out
      have HW := hid ((Fr.refl w.heap.size (w.heap.size + 1) ((wB.setCell ⟨b0, 0, none⟩ (.int .i64 p)).setCell ⟨b0, 1, none⟩ (.int .i64 q))).setCell (p := ⟨w.heap.size, 0, none⟩) (Nat.le_refl _) (Nat.lt_succ_self _) (.slice (some ⟨gh, 0, none⟩) n c))
      have HR := hid (((RF.rows R.out (by simp [hll]) (by omega)).fr HW.out (.inl hB1)).widen (lo' := w.heap.size) (hi' := (((wB.setCell ⟨b0, 0, none⟩ (.int .i64 p)).setCell ⟨b0, 1, none⟩ (.int .i64 q)).setCell ⟨w.heap.size, 0, none⟩ (.slice (some ⟨gh, 0, none⟩) n c)).heap.size) (by omega) (by simp [World.setCell]) (Nat.le_refl _))
      have HC := hid ((Cur.fr C9.out HW.out (by omega)).mono (T' := T + 200) (by omega))
      have HF := hid (Fr.setNew F9.out (p := ⟨w.heap.size, 0, none⟩) (Nat.le_refl _) (.slice (some ⟨gh, 0, none⟩) n c))
      have HL := hid hls
      go_wp2_with fail
      exact bodyPost_ret (v := .agg #[.slice (some ⟨gh, 0, none⟩) n c]) (by simp [results, Try.results83, go_sem, t1, t2, t3, t4]) rfl ⟨_, _, _, _, rfl, HR.out, ⟨by omega, HL.out⟩, HC.out, HF.out⟩
      done)
  have t0 : (q == 0) = false := by rw [beq_eq_false_iff_ne]; exact h0
  by_cases h1 : q = 1
  · subst h1
    obtain ⟨z1, z2⟩ := id b2
    have HW := hid ((Fr.refl w.heap.size (w.heap.size + 1) w3).setCell (p := ⟨w.heap.size, 0, none⟩) (Nat.le_refl _) (Nat.lt_succ_self _) (.slice none 0 0))
    have HC := hid ((Cur.fr hc3 HW.out (by omega)).mono (T' := T + 200) (by omega))
    have HF := hid (Fr.setNew f5 (p := ⟨w.heap.size, 0, none⟩) (Nat.le_refl _) (.slice none 0 0))
    go_wp2_with fail
    exact bodyPost_ret (v := .agg #[.slice none 0 0]) (by simp [results, Try.results83, go_sem, z1, z2]) rfl ⟨_, _, _, [], rfl, FRows.nil_ _ _ _, ⟨by omega, fun j hj => absurd hj (by omega)⟩, HC.out, HF.out⟩
  have t1 : (q == 1) = false := by rw [beq_eq_false_iff_ne]; exact h1
  by_cases h2 : q = 2
  · subst h2
    obtain ⟨z1, z2⟩ := id b3
    obtain ⟨z3, z4⟩ := ms.cell' HM0.out
    have hb0 := ms.b0lt
    have msD := ms.keeps (keeps_d0 w3)
    have b3D := b3.keeps (keeps_d0 w3)
    have b2D := b2.keeps (keeps_d0 w3)
    have fD := f5.keeps (keeps_d0 w3)
    have hcD := hc3.keeps (keeps_d0 w3)
    have o3 : some w1.heap.size ≠ some b0 := fun e => by injection e with e; omega
    have og : some gh ≠ some b0 := fun e => by injection e with e; have := msD.hap 0 (by omega); omega
    have og1 : w1.heap.size ≠ gh := by omega
    have hL0 : B ≤ L 0 := (ms.rng 0 hnN).1
    have hU0 : L 0 < w3.heap.size := by omega
    have hlb0 : w.heap.size + 1 ≤ b0 := by omega
    clear hc3 ms b3 b2 f5 rf
    go_wp2_with fail
    go_region_law ((first | (refine step_fInt (n := 0) rfl (by kernel_rfl) ?_; intro wC kC; have msA := (msD.keeps kC).keeps (keeps_alloc wC (.cells #[.int .i64 0, .int .i64 1] 31)); have b3C := b3D.keeps kC; have b3A := b3C.keeps (keeps_alloc wC (.cells #[.int .i64 0, .int .i64 1] 31)); obtain ⟨y1, y2⟩ := (msD.keeps kC).cell' HM0.out; obtain ⟨y3, y4⟩ := id b3C; obtain ⟨y5, y6⟩ := msA.cell' HM0.out; obtain ⟨y7, y8⟩ := id b3A; have sC := kC.size) | (have q1 : m0 ≤ 67108864 := (by omega); have q2 : L 0 ≤ (wC.alloc (.cells #[.int .i64 0, .int .i64 1] 31)).heap.size := (by have e0 : w3.drew.heap.size = w3.heap.size := rfl; simp; omega); have q3 := msA.row0.2.1; rw [HM0.out] at q3; refine step_append_fracG (g := wC.heap.size) (p := 0) (q := 1) q3 q1 q2 _ _ rfl rfl rfl rfl (heap_alloc_new wC _) ?_; intro v' w' p1 p2 p3; have b3E := b3A.grownA p2 o3; obtain ⟨x1, x2⟩ := id b3E; have cg := p2.cell y5 og; have fgz := (World.frozen?_of_block (a := ⟨gh, 0, none⟩) (p2.block gh msA.b0lt.2.2 og)).trans y6; have fm := Has.form p1; obtain ⟨A6, C6, e6⟩ := fm; subst e6)))
    all_goals (
      have R := hid (MS.app0 msA (by rw [HM0.out]; exact p1) p2 p3)
      have kk := kC.trans (keeps_alloc wC (.cells #[.int .i64 0, .int .i64 1] 31))
      have fg : Fr b0 (b0 + 1) (wC.alloc (.cells #[.int .i64 0, .int .i64 1] 31)) w' := Fr.of_grown p2
      have fs : Fr gh (gh + 1) w' (w'.setCell ⟨gh, 0, none⟩ (.slice A6 (m0 + 1) C6)) := (Fr.refl _ _ _).setCell (p := ⟨gh, 0, none⟩) (Nat.le_refl _) (Nat.lt_succ_self _) _
      have hne := msA.hap 0 hnN
      have hbb := msA.b0lt
      have B3 := hid (b3E.far (p := ⟨gh, 0, none⟩) og1 (.slice A6 (m0 + 1) C6))
      have B2 := hid (((b2D.keeps kk).fr fg (by omega)).fr fs (by omega))
      have C9 := hid (((hcD.keeps kk).fr fg (by omega)).fr fs (by omega))
      have F9 := hid (Fr.setNew (Fr.grown_ (b := b0) (fD.keeps kk) p2 (by omega)) (p := ⟨gh, 0, none⟩) (by show _ ≤ gh; omega) (.slice A6 (m0 + 1) C6))
      have hls := lens_set (r := ll.getD 0 [] ++ [((0, 1) : QQ)]) hr24 (by rw [List.length_append, HM0.out]; simp; omega)
      have hlen : (ll.set 0 (ll.getD 0 [] ++ [((0, 1) : QQ)])).length = n := by rw [List.length_set]; exact hll
      clear z1 z2 z3 z4 y1 y2 y3 y4 y5 y6 y7 y8 x1 x2 cg fgz msA msD b3A b3C b3D b3E b2D hcD fD p1 p2 p3 fg fs kk q1 q2 q3 kC
      obtain ⟨t1, t2⟩ := id B3.out
      obtain ⟨t3, t4⟩ := id B2.out
      have HW := hid ((Fr.refl w.heap.size (w.heap.size + 1) (w'.setCell ⟨gh, 0, none⟩ (.slice A6 (m0 + 1) C6))).setCell (p := ⟨w.heap.size, 0, none⟩) (Nat.le_refl _) (Nat.lt_succ_self _) (.slice (some ⟨gh, 0, none⟩) n c))
      have HR := hid (((RF.rows R.out hlen (by omega)).fr HW.out (.inl hB1)).widen (lo' := w.heap.size) (hi' := ((w'.setCell ⟨gh, 0, none⟩ (.slice A6 (m0 + 1) C6)).setCell ⟨w.heap.size, 0, none⟩ (.slice (some ⟨gh, 0, none⟩) n c)).heap.size) (by omega) (by simp [World.setCell]) (Nat.le_refl _))
      have HC := hid ((Cur.fr C9.out HW.out (by omega)).mono (T' := T + 200) (by omega))
      have HF := hid (Fr.setNew F9.out (p := ⟨w.heap.size, 0, none⟩) (Nat.le_refl _) (.slice (some ⟨gh, 0, none⟩) n c))
      have HL := hid hls
      go_wp2_with fail
      exact bodyPost_ret (v := .agg #[.slice (some ⟨gh, 0, none⟩) n c]) (by simp [results, Try.results83, go_sem, t1, t2, t3, t4]) rfl ⟨_, _, _, _, rfl, HR.out, ⟨by omega, HL.out⟩, HC.out, HF.out⟩
      done)
  have t2 : (q == 2) = false := by rw [beq_eq_false_iff_ne]; exact h2
  by_cases h3 : q = 3
  · subst h3
    clear ms
    go_wp2_with fail
    have hgh1 : ∀ g', (Value.slice (some ⟨gh, 0, none⟩) n c).ownBlock = some g' → g' ≠ w1.heap.size := fun g' hg' => by have e : gh = g' := Option.some.inj hg'; omega
    go_loopw [36] (fun s wr => ∃ (v : Value) (n' : Nat) (l' : List (List QQ)), RF wr B w1.heap.size v n' l' ∧ l'.length = n' ∧ (1 ≤ n' ∧ n' ≤ 9) ∧ (∀ j, j < n' → (l'.getD j []).length ≤ 24) ∧ B1 wr w1.heap.size v ∧ (∀ g', v.ownBlock = some g' → g' ≠ w1.heap.size) ∧ B1 wr w.heap.size (.slice none 0 0) ∧ Cur wr g (T + 110 + 2 * n') ∧ Fr g (g + 1) w wr) (fun _ wr => 20 - lenAt wr w1.heap.size)
    case atStart => exact ⟨_, n, ll, rf, hll, by omega, hr24, b3, hgh1, b2, hc3.mono (by omega), f5⟩
    clear rf b3 b2 hc3 f5 hgh1 hr24 hrow hll hn1 hnN HM0
    case round =>
      obtain ⟨v, n', l', rf, hll, hn', hr24, b3, hap, b2, hc, f⟩ := hrel
      obtain ⟨ghq, cq, A', m', c', rfl, hcell⟩ := rf.cell0 (by omega)
      obtain ⟨z1, z2⟩ := id b3
      have lt3 := b3.lt
      have hmz := lenAt_eq b3
      have hnN : 0 < n' := by omega
      have hapq := hap ghq rfl
      have hcD := hc.keeps (keeps_d0 wr)
      have rfD := rf.keeps (keeps_d0 wr)
      have b3D := b3.keeps (keeps_d0 wr)
      have b2D := b2.keeps (keeps_d0 wr)
      have fD := f.keeps (keeps_d0 wr)
      have hT3 : T + 110 + 2 * (n' : Int) ≤ 999999999999999 := by omega
      have q2 : (2 : Int) ≤ 65536 := by omega
      have hgB2 : g + 1 ≤ B := by omega
      have o3 : w1.heap.size < g ∨ g + 1 ≤ w1.heap.size := by omega
      have o2 : w.heap.size < g ∨ g + 1 ≤ w.heap.size := by omega
      have og : g < ghq := by have := rf.ge_ ghq rfl; omega
      have hcB0 := hcell
      clear hc rf b3 b2 f
      go_wp2_with fail
      go_region_law ((first | (refine step_pickM (n := 2) hcD hT3 q2 rfl (by kernel_rfl) ?_; intro y wB hy hcB fB; have rfB := rfD.fr fB (.inl hgB2); have b3B := b3D.fr fB o3; have b2B := b2D.fr fB o2; have fBB := fD.trans fB; have hcellB := cell_keepsG hcB0 fB og; have sB := fB.size; have yK := zW hy; obtain ⟨K, hK, hK8, hK9⟩ := yK; clear hy; obtain ⟨y7, y8⟩ := id b3B; clear fB)))
      all_goals (
        clear z1 z2 hcD rfD b3D b2D fD hcB0 hcell
        by_cases hltN : n' < K
        · have hlt : (n' : Int) < (K : Int) := by omega
          have kA : Keeps wB (wB.alloc (.cells #[.slice A' m' c'] 43)).drew := (keeps_alloc wB (.cells #[.slice A' m' c'] 43)).trans (keeps_d0 _)
          have rfA := rfB.keeps kA
          have b3A := b3B.keeps kA
          have hcA := cell_keeps hcellB kA
          obtain ⟨hs2, hq2, HQ⟩ := rfA.copy hnN rfl hcA hll
          have hgq := rfA.ge_ ghq rfl
          obtain ⟨y9, y10⟩ := id b3A
          have lt4 := b3B.lt
          have eA : (wB.alloc (.cells #[.slice A' m' c'] 43)).drew.heap.size = wB.heap.size + 1 := by simp
          have q1 : n' ≤ 67108864 := by omega
          have q4 : B ≤ (wB.alloc (.cells #[.slice A' m' c'] 43)).drew.heap.size := by omega
          have o5 : some w1.heap.size ≠ (Value.slice (some ⟨ghq, 0, none⟩) n' cq).ownBlock := fun e => hapq (Option.some.inj e).symm
          go_wp2_with fail
          go_region_law ((first | (refine step_append_hs (u := .slice A' m' c') (g := wB.heap.size) hq2 rfl q1 q4 _ _ rfl rfl rfl rfl (heap_alloc_new wB _) ?_; intro v' w' p1 p2 p3; have R := HQ v' w' p1 p2 p3; have b3E := b3A.grownA p2 o5; obtain ⟨x1, x2⟩ := id b3E; have fm := R.form; obtain ⟨A6, C6, e6⟩ := fm; subst e6)))
          all_goals (
            have fs : Fr w1.heap.size (w1.heap.size + 1) w' (w'.setCell ⟨w1.heap.size, 0, none⟩ (.slice A6 (n' + 1) C6)) := (Fr.refl _ _ _).setCell (p := ⟨w1.heap.size, 0, none⟩) (Nat.le_refl _) (Nat.lt_succ_self _) _
            have p2' : (wB.alloc (.cells #[.slice A' m' c'] 43)).drew.grownBy w' (some ghq) := p2
            have fg : Fr ghq (ghq + 1) (wB.alloc (.cells #[.slice A' m' c'] 43)).drew w' := Fr.of_grown p2'
            have hap2 : ∀ g', (Value.slice A6 (n' + 1) C6).ownBlock = some g' → g' ≠ w1.heap.size := fun g' hg' => by
              rcases p3 with e | e
              · rw [e] at hg'; exact hap g' hg'
              · rw [e] at hg'; have e2 := Option.some.inj hg'; omega
            have R2 := hid (R.fr fs (.inr (.inr ⟨Nat.le_refl _, fun g' hg' => by have := hap2 g' hg'; omega⟩)))
            have B3 := hid (b3E.set (.slice A6 (n' + 1) C6))
            have B2 := hid (((b2B.keeps kA).fr fg (by omega)).fr fs (by omega))
            have C9 := hid (((hcB.keeps kA).fr fg (by omega)).fr fs (by omega))
            have F9 := hid (Fr.setNew (Fr.grown_ (b := ghq) (fBB.keeps kA) p2' (by omega)) (p := ⟨w1.heap.size, 0, none⟩) (by show _ ≤ w1.heap.size; omega) (.slice A6 (n' + 1) C6))
            have HM2 := hid (lenAt_eq B3.out)
            clear y7 y8 y9 y10 x1 x2 hcA hcellB rfA rfB b3A b3B b3E b2B hcB fBB R p1 p2 p3 p2' fg fs kA HQ hq2
            go_wp2_with fail
            go_roundw
            case rel => exact ⟨_, n' + 1, _, R2.out, by simp [hll], by omega, lens_snoc hll hr24 hnN, B3.out, hap2, B2.out, C9.out.mono (by omega), F9.out⟩
            case measure => rw [HM2.out, hmz]; omega)
        · have hlt : ¬ (n' : Int) < (K : Int) := by omega
          have hls : ∀ j, j < n' → (l'.getD j []).length ≤ 25 := fun j hj => by have := hr24 j hj; omega
          obtain ⟨t1, t2⟩ := id b3B
          obtain ⟨t3, t4⟩ := id b2B
          have HW := hid ((Fr.refl w.heap.size (w.heap.size + 1) wB).setCell (p := ⟨w.heap.size, 0, none⟩) (Nat.le_refl _) (Nat.lt_succ_self _) (.slice (some ⟨ghq, 0, none⟩) n' cq))
          have HR := hid (((RF.rows rfB hll (by omega)).fr HW.out (.inl hB1)).widen (lo' := w.heap.size) (hi' := (wB.setCell ⟨w.heap.size, 0, none⟩ (.slice (some ⟨ghq, 0, none⟩) n' cq)).heap.size) (by omega) (by simp [World.setCell]) (Nat.le_refl _))
          have HC := hid ((Cur.fr hcB HW.out (by omega)).mono (T' := T + 200) (by omega))
          have HF := hid (Fr.setNew fBB (p := ⟨w.heap.size, 0, none⟩) (Nat.le_refl _) (.slice (some ⟨ghq, 0, none⟩) n' cq))
          have HL := hid hls
          go_wp2_with fail
          exact bodyPost_ret (v := .agg #[.slice (some ⟨ghq, 0, none⟩) n' cq]) (by simp [results, Try.results83, go_sem, t1, t2, t3, t4]) rfl ⟨_, _, _, _, rfl, HR.out, ⟨by omega, HL.out⟩, HC.out, HF.out⟩
          done)
  have t3 : (q == 3) = false := by rw [beq_eq_false_iff_ne]; exact h3
  by_cases h4 : q = 4
  · subst h4
    obtain ⟨z1, z2⟩ := id b2
    have b2q := b2
    have f6 := f5
    clear ms rf b3
    go_wp2_with fail
    refine (fInt_any).mono ?_
    rintro e w4 ⟨rfl, k4⟩
    have f7 := (f5.keeps k4).keeps (keeps_alloc w4 (.cells #[.int .i64 1, .int .i64 1] 31))
    have hc4 := (hc3.keeps k4).keeps (keeps_alloc w4 (.cells #[.int .i64 1, .int .i64 1] 31))
    have b24 := (b2.keeps k4).keeps (keeps_alloc w4 (.cells #[.int .i64 1, .int .i64 1] 31))
    have hown : Has (w4.alloc (.cells #[.int .i64 1, .int .i64 1] 31)) w3.heap.size 31 2 (.slice (some ⟨w4.heap.size, 0, none⟩) 1 1) 1 (frs [((1, 1) : QQ)]) := World.ownsRow_lit w4 #[.int .i64 1, .int .i64 1] 1 k4.size (by simp [maxLen]) rfl
    have s4 := k4.size
    clear f5 hc3 b2 k4 f6 b2q z1 z2
    go_wp2_with fail
    refine (pick_any hc4 (by omega) (by omega)).mono ?_
    rintro e w5 ⟨p, rfl, hp, hc5, f8⟩
    have hown5 := Has.frO hown f8 (fun g' hg' => by have e : w4.heap.size = g' := Option.some.inj hg'; omega)
    have f9 := f7.trans f8
    have b25 := b24.fr f8 (by omega)
    have s5 := f8.size
    clear hown f7 hc4 b24
    obtain ⟨N, hN⟩ : ∃ N : Nat, (24 : Int) + p = N := ⟨(24 + p).toNat, by omega⟩
    have hN25 : N ≤ 25 := by omega
    have hN1 : 1 ≤ N := by omega
    go_wp2_with fail
    go_loopw [4] (fun v wr => ∃ (k : Nat) (l : List QQ) (A : Option Addr) (C : Nat), v = .slice A k C ∧ (1 ≤ k ∧ k ≤ N) ∧ Has wr w3.heap.size 31 2 (.slice A k C) k (frs l) ∧ B1 wr w.heap.size (.slice none 0 0) ∧ Cur wr g (T + 150) ∧ Fr g (g + 1) w wr ∧ w3.heap.size ≤ wr.heap.size) (fun v _ => match v with | .slice _ n _ => 30 - n | _ => 0)
    case atStart => exact ⟨1, _, _, _, rfl, by omega, hown5, b25, hc5.mono (by omega), f9, by simp at s5; omega⟩
    clear hown5 b25 hc5 f9
    case round =>
      obtain ⟨k, l, A1, C1, rfl, hk, hown, b2, hc, f, sr⟩ := hrel
      by_cases hlt : k < N
      · have hi1 : (k : Int) < (N : Int) := by omega
        go_wp2_with fail
        refine (fInt_any).mono ?_
        rintro e w6 ⟨rfl, k6⟩
        have hown6 := Has.below hown k6
        have hc6 := hc.keeps k6
        have f6 := f.keeps k6
        have b26 := b2.keeps k6
        have s6 := k6.size
        clear hown hc f b2 k6
        go_wp2_with (at_builtin; refine append_frac (xs := l) hown6 (by omega) (by omega) _ _ rfl rfl rfl (by first | rfl | (simp <;> rfl)) ?_; intro v' w8 hown8 hb8)
        have hc8 := hc6.below hb8 (by omega)
        have f8 := f6.below hb8 (by omega)
        have b28 := b26.below hb8 (by omega)
        have s8 := hb8.size
        obtain ⟨A3, C3, e3⟩ := hown8.form
        subst e3
        clear hown6 hb8 hc6 f6 b26
        go_wp2
        go_roundw
        case rel => exact ⟨k + 1, _, A3, C3, rfl, by omega, hown8, b28, hc8, f8, by omega⟩
        case measure => simp; omega
      · obtain rfl : k = N := by omega
        have hl2 : l.length = k := by have := hown.1; rw [frs_len] at this; omega
        obtain ⟨z1, z2⟩ := id b2
        have lw := b2.lt
        have HW := hid ((Fr.refl w.heap.size (w.heap.size + 1) wr).setCell (p := ⟨w.heap.size, 0, none⟩) (Nat.le_refl _) (Nat.lt_succ_self _) (.slice (some ⟨wr.heap.size, 0, none⟩) 1 1))
        have es : (wr.setCell ⟨w.heap.size, 0, none⟩ (.slice (some ⟨wr.heap.size, 0, none⟩) 1 1)).heap.size = wr.heap.size := by simp [World.setCell]
        have FR := FRows.one (c := C1) (t := 43) (Sl.fr (SlM.of_own hown (by omega) (by omega)).1 HW.out (by omega)) (by rw [es]; exact sr)
        rw [es] at FR
        have ea : ((wr.setCell ⟨w.heap.size, 0, none⟩ (.slice (some ⟨wr.heap.size, 0, none⟩) 1 1)).alloc (.cells #[.slice A1 k C1] 43)).heap.size = wr.heap.size + 1 := by simp [es]
        have HR := hid (FR.widen (lo' := w.heap.size) (hi' := ((wr.setCell ⟨w.heap.size, 0, none⟩ (.slice (some ⟨wr.heap.size, 0, none⟩) 1 1)).alloc (.cells #[.slice A1 k C1] 43)).heap.size) (by omega) (by omega) (Nat.le_refl _))
        have HC := hid (((Cur.fr hc HW.out (by omega)).keeps (keeps_alloc _ (.cells #[.slice A1 k C1] 43))).mono (T' := T + 200) (by omega))
        have HF := hid ((Fr.setNew f (p := ⟨w.heap.size, 0, none⟩) (Nat.le_refl _) (.slice (some ⟨wr.heap.size, 0, none⟩) 1 1)).keeps (keeps_alloc _ (.cells #[.slice A1 k C1] 43)))
        have HL := hid (show ∀ j, j < 1 → (([l] : List (List QQ)).getD j []).length ≤ 25 from fun j hj => (by have e0 : j = 0 := (by omega); subst e0; have : l.length ≤ 25 := (by omega); simpa [List.getD] using this))
        clear hown hc f b2 FR es ea
        go_wp2_with fail
        exact bodyPost_ret (v := .agg #[.slice (some ⟨wr.heap.size, 0, none⟩) 1 1]) (by simp [results, Try.results83, go_sem, z1, z2, lw]) rfl ⟨_, _, _, _, rfl, HR.out, ⟨by omega, HL.out⟩, HC.out, HF.out⟩
  have t4 : (q == 4) = false := by rw [beq_eq_false_iff_ne]; exact h4
  clear ms
  have hls : ∀ j, j < n → (ll.getD j []).length ≤ 25 := fun j hj => by have := hr24 j hj; omega
  obtain ⟨t1, t2⟩ := id b3
  obtain ⟨t3, t4⟩ := id b2
  have HW := hid ((Fr.refl w.heap.size (w.heap.size + 1) w3).setCell (p := ⟨w.heap.size, 0, none⟩) (Nat.le_refl _) (Nat.lt_succ_self _) (.slice (some ⟨gh, 0, none⟩) n c))
  have HR := hid (((RF.rows rf hll (by omega)).fr HW.out (.inl hB1)).widen (lo' := w.heap.size) (hi' := (w3.setCell ⟨w.heap.size, 0, none⟩ (.slice (some ⟨gh, 0, none⟩) n c)).heap.size) (by omega) (by simp [World.setCell]) (Nat.le_refl _))
  have HC := hid ((Cur.fr hc3 HW.out (by omega)).mono (T' := T + 200) (by omega))
  have HF := hid (Fr.setNew f5 (p := ⟨w.heap.size, 0, none⟩) (Nat.le_refl _) (.slice (some ⟨gh, 0, none⟩) n c))
  have HL := hid hls
  go_wp2_with fail
  exact bodyPost_ret (v := .agg #[.slice (some ⟨gh, 0, none⟩) n c]) (by simp [results, Try.results83, go_sem, t1, t2, t3, t4]) rfl ⟨_, _, _, _, rfl, HR.out, ⟨by omega, HL.out⟩, HC.out, HF.out⟩
end Go.Proofs.Ytnopedjgagoahaa
