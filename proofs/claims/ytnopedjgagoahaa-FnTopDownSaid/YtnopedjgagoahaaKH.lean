/- Slices of slices of fractions: words for memory, the laws' helpers on them and on mechanisms. -/
import Derived.Test.YtnopedjgagoahaaKD
import Derived.Test.YtnopedjgagoahaaKC
namespace Go.Proofs.Ytnopedjgagoahaa
open Go.RowKit
set_option linter.unusedVariables false
set_option linter.unusedSimpArgs false

abbrev QQ := Int × Int
/-- The slice (A, n) reads as the rows ll of fractions. -/
def FRows (w : World) (lo hi : Nat) (A : Option Addr) (n : Nat) (ll : List (List QQ)) : Prop :=
  ll.length = n ∧ n ≤ 67108864 ∧ hi ≤ w.heap.size ∧
  (0 < n → ∃ b off, A = some ⟨b, off, none⟩ ∧ lo ≤ b ∧ b < hi ∧ ∀ j, j < n → ∃ A' m c, w.cell? ⟨b, off + j, none⟩ = some (.slice A' m c) ∧ Fracs w lo hi A' m (ll.getD j []))
/-- The rows lie apart from one another, row j in blocks from L j to U j, and may be written. -/
def RMc (w : World) (lo hi b off n : Nat) (L U : Nat → Nat) (ll : List (List QQ)) : Prop :=
  ll.length = n ∧ n ≤ 67108864 ∧ hi ≤ w.heap.size ∧ lo ≤ b ∧ b < hi ∧ (∀ j, j < n → lo ≤ L j ∧ U j ≤ hi ∧ (b < L j ∨ U j ≤ b)) ∧ (∀ i j, i < j → j < n → U i ≤ L j) ∧
  ∀ j, j < n → ∃ A' m c, w.cell? ⟨b, off + j, none⟩ = some (.slice A' m c) ∧ FracsM w (L j) (U j) A' m (ll.getD j [])
def RM (w : World) (lo hi : Nat) (A : Option Addr) (n : Nat) (ll : List (List QQ)) : Prop :=
  FRows w lo hi A n ll ∧ (0 < n → ∃ b off L U, A = some ⟨b, off, none⟩ ∧ RMc w lo hi b off n L U ll)
section
variable {w w' : World} {lo hi n : Nat} {A : Option Addr} {ll : List (List QQ)}
theorem FRows.len (h : FRows w lo hi A n ll) : ll.length = n := h.1
theorem FRows.le (h : FRows w lo hi A n ll) : n ≤ 67108864 := h.2.1
theorem FRows.top (h : FRows w lo hi A n ll) : hi ≤ w.heap.size := h.2.2.1
theorem FRows.at_ {k : Nat} (h : FRows w lo hi A n ll) (hk : k < n) :
    ∃ b off A' m c, A = some ⟨b, off, none⟩ ∧ lo ≤ b ∧ b < hi ∧ w.cell? ⟨b, off + k, none⟩ = some (.slice A' m c) ∧ Fracs w lo hi A' m (ll.getD k []) := by
  obtain ⟨b, off, e, hl, hb, hc⟩ := h.2.2.2 (by omega)
  obtain ⟨A', m, c, h1, h2⟩ := hc k hk
  exact ⟨b, off, A', m, c, e, hl, hb, h1, h2⟩
theorem FRows.fr {l h' : Nat} (h : FRows w lo hi A n ll) (hf : Fr l h' w w') (ho : h' ≤ lo ∨ hi ≤ l ∨ h' ≤ l) : FRows w' lo hi A n ll :=
  ⟨h.1, h.2.1, Nat.le_trans h.top hf.size, fun hn => by
    obtain ⟨b, off, e, hl, hb, hc⟩ := h.2.2.2 hn
    have := h.top
    refine ⟨b, off, e, hl, hb, fun j hj => ?_⟩
    obtain ⟨A', m, c, h1, h2⟩ := hc j hj
    exact ⟨A', m, c, (hf.cell (p := ⟨b, off + j, none⟩) (by show b < _; omega) (by show b < _ ∨ _ ≤ b; omega)).trans h1, Sl.fr h2 hf ho⟩⟩
theorem FRows.keeps (h : FRows w lo hi A n ll) (hb : Keeps w w') : FRows w' lo hi A n ll := h.fr (Fr.of_keeps hb 0 0) (by omega)
theorem FRows.widen {lo' hi' : Nat} (h : FRows w lo hi A n ll) (h1 : lo' ≤ lo) (h2 : hi ≤ hi') (h3 : hi' ≤ w.heap.size) : FRows w lo' hi' A n ll :=
  ⟨h.1, h.2.1, h3, fun hn => by
    obtain ⟨b, off, e, hl, hb, hc⟩ := h.2.2.2 hn
    refine ⟨b, off, e, by omega, by omega, fun j hj => ?_⟩
    obtain ⟨A', m, c, h1', h2'⟩ := hc j hj
    exact ⟨A', m, c, h1', Sl.widen h2' h1 h2 h3⟩⟩
theorem FRows.drew (h : FRows w lo hi A n ll) : FRows w.drew lo hi A n ll := h.keeps (keeps_d0 w)
theorem FRows.nil_ (w : World) (A : Option Addr) (lo : Nat) : FRows w lo w.heap.size A 0 [] := ⟨rfl, by omega, Nat.le_refl _, fun h => absurd h (by omega)⟩
theorem RMc.fr {b off : Nat} {L U : Nat → Nat} {l h' : Nat} (h : RMc w lo hi b off n L U ll) (hf : Fr l h' w w') (ho : h' ≤ lo ∨ hi ≤ l ∨ h' ≤ l) : RMc w' lo hi b off n L U ll := by
  obtain ⟨h1, h2, h3, h4, h5, h6, h7, h8⟩ := h
  refine ⟨h1, h2, Nat.le_trans h3 hf.size, h4, h5, h6, h7, fun j hj => ?_⟩
  obtain ⟨A', m, c, e1, e2⟩ := h8 j hj
  have := h6 j hj
  exact ⟨A', m, c, (hf.cell (p := ⟨b, off + j, none⟩) (by show b < _; omega) (by show b < _ ∨ _ ≤ b; omega)).trans e1, SlM.fr e2 hf (by omega)⟩
theorem RMc.rows {b off : Nat} {L U : Nat → Nat} (h : RMc w lo hi b off n L U ll) : FRows w lo hi (some ⟨b, off, none⟩) n ll := by
  obtain ⟨h1, h2, h3, h4, h5, h6, h7, h8⟩ := h
  refine ⟨h1, h2, h3, fun _ => ⟨b, off, rfl, h4, h5, fun j hj => ?_⟩⟩
  obtain ⟨A', m, c, e1, e2⟩ := h8 j hj
  have := h6 j hj
  exact ⟨A', m, c, e1, Sl.widen e2.1 (by omega) (by omega) h3⟩
theorem RMc.rm {b off : Nat} {L U : Nat → Nat} (h : RMc w lo hi b off n L U ll) : RM w lo hi (some ⟨b, off, none⟩) n ll := ⟨h.rows, fun _ => ⟨b, off, L, U, rfl, h⟩⟩
theorem RM.rows (h : RM w lo hi A n ll) : FRows w lo hi A n ll := h.1
theorem RM.fr {l h' : Nat} (h : RM w lo hi A n ll) (hf : Fr l h' w w') (ho : h' ≤ lo ∨ hi ≤ l ∨ h' ≤ l) : RM w' lo hi A n ll :=
  ⟨h.1.fr hf ho, fun hn => by obtain ⟨b, off, L, U, e, hc⟩ := h.2 hn; exact ⟨b, off, L, U, e, hc.fr hf ho⟩⟩
theorem RM.keeps (h : RM w lo hi A n ll) (hb : Keeps w w') : RM w' lo hi A n ll := h.fr (Fr.of_keeps hb 0 0) (by omega)
theorem RM.widen {lo' hi' : Nat} (h : RM w lo hi A n ll) (h1 : lo' ≤ lo) (h2 : hi ≤ hi') (h3 : hi' ≤ w.heap.size) : RM w lo' hi' A n ll :=
  ⟨h.1.widen h1 h2 h3, fun hn => by
    obtain ⟨b, off, L, U, e, g1, g2, g3, g4, g5, g6, g7, g8⟩ := h.2 hn
    exact ⟨b, off, L, U, e, g1, g2, h3, by omega, by omega, fun j hj => by have := g6 j hj; omega, g7, g8⟩⟩
theorem RM.nil_ (w : World) (lo : Nat) : RM w lo w.heap.size none 0 [] := ⟨FRows.nil_ w none lo, fun h => absurd h (by omega)⟩
end
/-- The number of elements of the first k rows. -/
def rowSum (ll : List (List QQ)) : Nat → Nat
  | 0 => 0
  | k + 1 => rowSum ll k + (ll.getD k []).length
theorem rowSum_succ (ll : List (List QQ)) (k : Nat) : rowSum ll (k + 1) = rowSum ll k + (ll.getD k []).length := rfl
theorem rowSum_mono (ll : List (List QQ)) {i j : Nat} (h : i ≤ j) : rowSum ll i ≤ rowSum ll j := by
  induction j with
  | zero => obtain rfl : i = 0 := by omega
            exact Nat.le_refl _
  | succ j ih =>
    by_cases e : i = j + 1
    · subst e; exact Nat.le_refl _
    · have := ih (by omega); rw [rowSum_succ]; omega
/-- All that is counted of the rows: their number and their elements. -/
def mz (ll : List (List QQ)) : Nat := ll.length + rowSum ll ll.length
theorem mz_row {ll : List (List QQ)} {j : Nat} (h : j < ll.length) : (ll.getD j []).length ≤ mz ll := by
  have := rowSum_mono ll (i := j + 1) (j := ll.length) (by omega)
  rw [rowSum_succ] at this; unfold mz; omega
/-- FRows that came in. -/
def RowsArg (w : World) (A : Option Addr) (n : Nat) (ll : List (List QQ)) : Prop :=
  n ≤ maxLen ∧ ll.length = n ∧ (0 < n → ∃ b off, A = some ⟨b, off, none⟩ ∧ b < w.heap.size ∧ ∀ j, j < n → ∃ A' c, w.cell? ⟨b, off + j, none⟩ = some (.slice A' (ll.getD j []).length c) ∧ FracsArg w A' (ll.getD j []).length (ll.getD j []))
theorem RowsArg.rows {w : World} {A : Option Addr} {n : Nat} {ll : List (List QQ)} (h : RowsArg w A n ll) (hn : mz ll ≤ 67108864) : FRows w 0 w.heap.size A n ll := by
  obtain ⟨h1, h2, h3⟩ := h
  have hz : n ≤ mz ll := by unfold mz; omega
  refine ⟨h2, by omega, Nat.le_refl _, fun h0 => ?_⟩
  obtain ⟨b, off, e, hb, hc⟩ := h3 h0
  refine ⟨b, off, e, Nat.zero_le _, hb, fun j hj => ?_⟩
  obtain ⟨A', c, e1, e2⟩ := hc j hj
  exact ⟨A', _, c, e1, e2.fracs (by have := mz_row (ll := ll) (j := j) (by omega); omega)⟩
theorem RowsArg.at_ {w : World} {A : Option Addr} {n k : Nat} {ll : List (List QQ)} (h : RowsArg w A n ll) (hk : k < n) :
    ∃ b off A' c, A = some ⟨b, off, none⟩ ∧ b < w.heap.size ∧ w.cell? ⟨b, off + k, none⟩ = some (.slice A' (ll.getD k []).length c) ∧ (ll.getD k []).length ≤ maxLen := by
  obtain ⟨b, off, e, hb, hc⟩ := h.2.2 (by omega)
  obtain ⟨A', c, e1, e2⟩ := hc k hk
  exact ⟨b, off, A', c, e, hb, e1, e2.1⟩
theorem FracsArg.keeps {w w' : World} {A : Option Addr} {n : Nat} {l : List QQ} (h : FracsArg w A n l) (k : Keeps w w') : FracsArg w' A n l :=
  ⟨h.1, fun hn => Sl.widen (Sl.keeps (h.2.1 hn) k) (Nat.le_refl _) k.size (Nat.le_refl _), h.2.2⟩
theorem RowsArg.keeps {w w' : World} {A : Option Addr} {n : Nat} {ll : List (List QQ)} (h : RowsArg w A n ll) (k : Keeps w w') : RowsArg w' A n ll :=
  ⟨h.1, h.2.1, fun h0 => by
    obtain ⟨b, off, e, hb, hc⟩ := h.2.2 h0
    refine ⟨b, off, e, Nat.lt_of_lt_of_le hb k.size, fun j hj => ?_⟩
    obtain ⟨A', c, e1, e2⟩ := hc j hj
    exact ⟨A', c, cell_keeps e1 k, e2.keeps k⟩⟩
end Go.Proofs.Ytnopedjgagoahaa

/- The laws' helpers on slices of slices of fractions and on mechanisms. -/
namespace Go.Proofs.Ytnopedjgagoahaa
open Go.RowKit
set_option linter.unusedVariables false
set_option linter.unusedSimpArgs false

section
variable {w w1 : World} {lo hi n b off k : Nat} {L U : Nat → Nat} {ll ll' : List (List QQ)}
/-- Row k is written anew. -/
theorem RMc.upd {A' : Option Addr} {m c : Nat} {r : List QQ} (h : RMc w lo hi b off n L U ll) (hk : k < n) (hc : w.cell? ⟨b, off + k, none⟩ = some (.slice A' m c)) (f : Fr (L k) (U k) w w1) (hm : FracsM w1 (L k) (U k) A' m r)
    (hl : ll'.length = n) (he : ∀ j, j < n → j ≠ k → ll'.getD j [] = ll.getD j []) (hr : ll'.getD k [] = r) : RMc w1 lo hi b off n L U ll' := by
  obtain ⟨h1, h2, h3, h4, h5, h6, h7, h8⟩ := h
  refine ⟨hl, h2, Nat.le_trans h3 f.size, h4, h5, h6, h7, fun j hj => ?_⟩
  have hkk := h6 k hk
  by_cases hjk : j = k
  · subst hjk
    exact ⟨A', m, c, cell_fr hc f (by show b < _ ∨ _ ≤ b; omega), by rw [hr]; exact hm⟩
  · obtain ⟨A1, m1, c1, e1, e2⟩ := h8 j hj
    refine ⟨A1, m1, c1, cell_fr e1 f (by show b < _ ∨ _ ≤ b; omega), ?_⟩
    rw [he j hj hjk]
    refine SlM.fr e2 f ?_
    rcases Nat.lt_or_gt_of_ne hjk with h | h
    · have := h7 j k h hk; omega
    · have := h7 k j h hj; omega
end
/-- The first k rows marked. -/
def mkSS (k0 : Int) (ll : List (List QQ)) (k : Nat) : List (List QQ) := (List.range ll.length).map fun j => if j < k then pio (k0 + 2 * (rowSum ll j : Int)) (ll.getD j []).length else ll.getD j []
def pioSS (k0 : Int) (ll : List (List QQ)) : List (List QQ) := mkSS k0 ll ll.length
theorem mkSS_len (k0 : Int) (ll : List (List QQ)) (k : Nat) : (mkSS k0 ll k).length = ll.length := by simp [mkSS]
theorem mkSS_at (k0 : Int) (ll : List (List QQ)) (k j : Nat) (h : j < ll.length) : (mkSS k0 ll k).getD j [] = if j < k then pio (k0 + 2 * (rowSum ll j : Int)) (ll.getD j []).length else ll.getD j [] := by
  unfold mkSS; rw [getD_map_range, if_pos h]
theorem mkSS_zero (k0 : Int) (ll : List (List QQ)) : mkSS k0 ll 0 = ll := by
  apply List.ext_getElem
  · simp [mkSS]
  · intro i h1 h2; simp [mkSS, List.getD, h2]
theorem pio_len (k : Int) (n : Nat) : (pio k n).length = n := by simp [pio]
theorem rowSum_congr {l l' : List (List QQ)} (h : ∀ j, (l.getD j []).length = (l'.getD j []).length) (k : Nat) : rowSum l k = rowSum l' k := by
  induction k with
  | zero => rfl
  | succ k ih => rw [rowSum_succ, rowSum_succ, ih, h k]

/-- The first k rows are copied into block g. -/
def Filled (w : World) (g n : Nat) (ll : List (List QQ)) (k : Nat) : Prop :=
  ∃ (cs : List Value) (L U : Nat → Nat), OwnC w g 43 cs ∧ cs.length = n ∧ (∀ j, j < k → g < L j ∧ U j ≤ w.heap.size) ∧ (∀ i j, i < j → j < k → U i ≤ L j) ∧
    ∀ j, j < k → ∃ A' m, cs.getD j undef = .slice A' m m ∧ FracsM w (L j) (U j) A' m (ll.getD j [])
theorem Filled.step {w w1 : World} {g n k m : Nat} {B : Option Addr} {ll : List (List QQ)} (h : Filled w g n ll k) (hk : k < n) (k1 : Keeps w w1) (y : FracsM w1 w.heap.size w1.heap.size B m (ll.getD k [])) :
    Filled (w1.setCell ⟨g, k, none⟩ (.slice B m m)) g n ll (k + 1) := by
  obtain ⟨cs, L, U, ho, hl, h1, h2, h3⟩ := h
  have hg := ho.lt
  have ho1 := (ho.keeps k1).set_ k (.slice B m m)
  have fr1 : Fr g (g + 1) w1 (w1.setCell ⟨g, k, none⟩ (.slice B m m)) := (Fr.refl g (g + 1) w1).setCell (p := ⟨g, k, none⟩) (Nat.le_refl _) (Nat.lt_succ_self _) _
  have hs := k1.size
  have es : (w1.setCell ⟨g, k, none⟩ (.slice B m m)).heap.size = w1.heap.size := by simp [World.setCell]
  refine ⟨cs.set k (.slice B m m), fun j => if j = k then w.heap.size else L j, fun j => if j = k then w1.heap.size else U j, ho1, by simpa using hl, fun j hj => ?_, fun i j hij hj => ?_, fun j hj => ?_⟩
  · dsimp only
    rw [es]
    split
    · exact ⟨hg, Nat.le_refl _⟩
    · have := h1 j (by omega); omega
  · dsimp only
    rw [if_neg (show ¬ i = k by omega)]
    split
    · have := (h1 i (by omega)).2; omega
    · exact h2 i j hij (by omega)
  · dsimp only
    by_cases hjk : j = k
    · subst hjk
      rw [if_pos rfl, if_pos rfl]
      exact ⟨B, m, by simp [List.getD, hl, hk], SlM.fr y fr1 (by omega)⟩
    · rw [if_neg hjk, if_neg hjk]
      obtain ⟨A', m', e1, e2⟩ := h3 j (by omega)
      have := h1 j (by omega)
      exact ⟨A', m', by rw [← e1]; simp [List.getD, List.getElem?_set_ne (Ne.symm hjk)], SlM.fr (SlM.keeps e2 k1) fr1 (by omega)⟩
theorem Filled.rm {w w0 : World} {g n : Nat} {ll : List (List QQ)} (h : Filled w g n ll n) (hl : ll.length = n) (hn : n ≤ 67108864) : RM w g w.heap.size (some ⟨g, 0, none⟩) n ll := by
  obtain ⟨cs, L, U, ho, hc, h1, h2, h3⟩ := h
  have hg := ho.lt
  refine RMc.rm (L := L) (U := U) ⟨hl, hn, Nat.le_refl _, Nat.le_refl _, hg, fun j hj => ?_, h2, fun j hj => ?_⟩
  · have := h1 j hj; omega
  · obtain ⟨A', m, e1, e2⟩ := h3 j hj
    exact ⟨A', m, m, by rw [Nat.zero_add, ho.cell j (by omega), e1], e2⟩
theorem Filled.own {w : World} {g n k : Nat} {ll : List (List QQ)} (h : Filled w g n ll k) (hk : k < n) : (∃ v, w.cell? ⟨g, k, none⟩ = some v) ∧ w.frozen? ⟨g, k, none⟩ = false ∧ g < w.heap.size := by
  obtain ⟨cs, L, U, ho, hc, _⟩ := h
  exact ⟨⟨_, ho.cell k (by omega)⟩, ho.frozen k, ho.lt⟩
theorem Filled.lt {w : World} {g n k : Nat} {ll : List (List QQ)} (h : Filled w g n ll k) : g < w.heap.size := by
  obtain ⟨cs, L, U, ho, _⟩ := h; exact ho.lt
theorem info_fslice : (Try.prog.info? 43).map (fun i => (i.zero, i.size, i.bytes)) = some (some (.slice none 0 0), 1, 24) := by kernel_rfl
theorem make_frows (n : Nat) (hn : n ≤ 67108864) (w : World) :
    (Instr.makeSlice 23 (.int .i64 (n : Int)) (.int .i64 (n : Int))).run Try.prog w = .ok (.slice (some ⟨w.heap.size, 0, none⟩) n n) (w.alloc (.cells (madeCells #[.slice none 0 0] n) 43)) := by
  obtain ⟨i, hi, hz0, hz1, hz2⟩ := info_parts info_fslice
  have h := run_make_rowN (P := Try.prog) 23 43 i _ Try.underlying23 hi hz0 .i64 .i64 n n (Nat.le_refl _) (by rw [hz2]; omega) (by omega) w
  rw [hz1] at h
  simpa [Value.cells] using h
theorem Filled.new (w : World) (n : Nat) (ll : List (List QQ)) : Filled (w.alloc (.cells (madeCells #[.slice none 0 0] n) 43)) w.heap.size n ll 0 :=
  ⟨(madeCells #[.slice none 0 0] n).toList, fun _ => 0, fun _ => 0, by unfold OwnC; rw [heap_alloc_new], by simp [size_madeCells], fun j hj => absurd hj (by omega), fun i j h hj => absurd hj (by omega), fun j hj => absurd hj (by omega)⟩
end Go.Proofs.Ytnopedjgagoahaa

