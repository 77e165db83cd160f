/- The cursor that draws: what next, pick, one and among leave and hand back (bounds alone). -/
import Derived.Test.YtikmgohjgdojdaaKD
import Derived.Test.YtikmgohjgdojdaaKB
import Derived.WalkSmall
import Derived.Test.YtikmgohjgdojdaaKC
namespace Go.Proofs.Ytikmgohjgdojdaa
open Go.RowKit
set_option linter.unusedVariables false
set_option linter.unusedSimpArgs false

/-- The slice (A, n) reads as bytes, in blocks below hi. -/
def Bytes (w : World) (hi : Nat) (A : Option Addr) (n : Nat) : Prop :=
  n ≤ 9223372036854775807 ∧ hi ≤ w.heap.size ∧ (0 < n → ∃ b off, A = some ⟨b, off, none⟩ ∧ b < hi ∧ ∀ j, j < n → ∃ x : Int, 0 ≤ x ∧ x ≤ 255 ∧ w.cell? ⟨b, off + j, none⟩ = some (.int .u8 x))
theorem Bytes.fr {w w' : World} {hi n l h' : Nat} {A : Option Addr} (h : Bytes w hi A n) (hf : Fr l h' w w') (ho : hi ≤ l ∨ h' ≤ l) : Bytes w' hi A n :=
  ⟨h.1, Nat.le_trans h.2.1 hf.size, fun hn => by
    obtain ⟨b, off, e, hb, hc⟩ := h.2.2 hn
    refine ⟨b, off, e, hb, fun j hj => ?_⟩
    obtain ⟨x, h0, h1, h2⟩ := hc j hj
    have := h.2.1
    exact ⟨x, h0, h1, (hf.cell (p := ⟨b, off + j, none⟩) (by show b < _; omega) (by show b < _ ∨ _ ≤ b; omega)).trans h2⟩⟩
theorem Bytes.keeps {w w' : World} {hi n : Nat} {A : Option Addr} (h : Bytes w hi A n) (k : Keeps w w') : Bytes w' hi A n := h.fr (Fr.of_keeps k 0 0) (by omega)
/-- A cursor in block g that has drawn at most T times. -/
structure Cur (w : World) (g : Nat) (T : Int) : Prop where
  ex : ∃ (A : Option Addr) (n c : Nat) (k s : Int), Bytes w g A n ∧ w.cell? ⟨g, 0, none⟩ = some (.slice A n c) ∧ w.cell? ⟨g, 1, none⟩ = some (.int .i64 k) ∧ w.cell? ⟨g, 2, none⟩ = some (.int .u64 s) ∧
    w.frozen? ⟨g, 1, none⟩ = false ∧ w.frozen? ⟨g, 2, none⟩ = false ∧ (0 ≤ k ∧ k ≤ T) ∧ (0 ≤ s ∧ s ≤ 18446744073709551615)
theorem Cur.lt {w : World} {g : Nat} {T : Int} (h : Cur w g T) : g < w.heap.size := by
  obtain ⟨A, n, c, k, s, _, h1, _⟩ := h; exact World.block_lt_of_cell? w _ h1
theorem Cur.fr {w w' : World} {g l h' : Nat} {T : Int} (h : Cur w g T) (hf : Fr l h' w w') (ho : g < l ∨ (h' ≤ g ∧ h' ≤ l)) : Cur w' g T := by
  have hl := h.lt
  obtain ⟨A, n, c, k, s, h0, h1, h2, h3, h4, h5, h6, h7⟩ := h
  have e := hf.block g hl (by omega)
  exact ⟨A, n, c, k, s, h0.fr hf (by omega), (World.cell?_of_block (w := w) e).trans h1, (World.cell?_of_block (w := w) e).trans h2, (World.cell?_of_block (w := w) e).trans h3, (World.frozen?_of_block (w := w) e).trans h4, (World.frozen?_of_block (w := w) e).trans h5, h6, h7⟩
theorem Cur.keeps {w w' : World} {g : Nat} {T : Int} (h : Cur w g T) (k : Keeps w w') : Cur w' g T := h.fr (Fr.of_keeps k 0 0) (by omega)
theorem Cur.mono {w : World} {g : Nat} {T T' : Int} (h : Cur w g T) (hT : T ≤ T') : Cur w g T' := by
  obtain ⟨A, n, c, k, s, h0, h1, h2, h3, h4, h5, h6, h7⟩ := h
  exact ⟨A, n, c, k, s, h0, h1, h2, h3, h4, h5, by omega, h7⟩
theorem u64_wrap_bd (v : Int) : 0 ≤ IntKind.u64.wrap v ∧ IntKind.u64.wrap v ≤ 18446744073709551615 := by rw [IntKind.wrap_u64]; omega
theorem and255 (E : Int) (h0 : 0 ≤ E ∧ E ≤ 18446744073709551615) : 0 ≤ wrap64 (bits BinOp.and IntKind.u64 (E / 1099511627776) 255) ∧ wrap64 (bits BinOp.and IntKind.u64 (E / 1099511627776) 255) ≤ 255 := by
  have h := bits_and_u64_nat (E / 1099511627776).toNat 255 (by omega) (by omega)
  rw [Int.toNat_of_nonneg (by omega)] at h
  have h2 : (E / 1099511627776).toNat &&& 255 ≤ 255 := Nat.and_le_right
  have h3 : bits BinOp.and IntKind.u64 (E / 1099511627776) 255 = (((E / 1099511627776).toNat &&& 255 : Nat) : Int) := h
  rw [h3]
  unfold wrap64
  omega
/-- Behind a step of the cursor. -/
theorem Cur.step {w : World} {g n c : Nat} {A : Option Addr} {T k s : Int} (h0 : Bytes w g A n) (h1 : w.cell? ⟨g, 0, none⟩ = some (.slice A n c)) (h2 : w.cell? ⟨g, 1, none⟩ = some (.int .i64 k)) (h3 : w.cell? ⟨g, 2, none⟩ = some (.int .u64 s))
    (h4 : w.frozen? ⟨g, 1, none⟩ = false) (h5 : w.frozen? ⟨g, 2, none⟩ = false) (h6 : 0 ≤ k ∧ k ≤ T) (a b : Nat) (s' : Int) (hs : 0 ≤ s' ∧ s' ≤ 18446744073709551615) :
    Cur ((((w.drewN a).setCell ⟨g, 1, none⟩ (.int .i64 (k + 1))).setCell ⟨g, 2, none⟩ (.int .u64 s')).drewN b) g (T + 1) ∧ Fr g (g + 1) w ((((w.drewN a).setCell ⟨g, 1, none⟩ (.int .i64 (k + 1))).setCell ⟨g, 2, none⟩ (.int .u64 s')).drewN b) := by
  have hf : Fr g (g + 1) w (((w.drewN a).setCell ⟨g, 1, none⟩ (.int .i64 (k + 1))).setCell ⟨g, 2, none⟩ (.int .u64 s')) := (((Fr.refl _ _ _).drewN a).setCell (p := ⟨g, 1, none⟩) (Nat.le_refl _) (Nat.lt_succ_self _) _).setCell (p := ⟨g, 2, none⟩) (Nat.le_refl _) (Nat.lt_succ_self _) _
  have hC : Cur (((w.drewN a).setCell ⟨g, 1, none⟩ (.int .i64 (k + 1))).setCell ⟨g, 2, none⟩ (.int .u64 s')) g (T + 1) := by
    refine ⟨A, n, c, k + 1, s', h0.fr hf (.inl (Nat.le_refl _)), ?_, ?_, ?_, by simpa using h4, by simpa using h5, by omega, hs⟩
    · rw [World.cell?_setCell_other _ _ _ _ (by simp), World.cell?_setCell_other _ _ _ _ (by simp)]; exact h1
    · rw [World.cell?_setCell_other _ _ _ _ (by simp)]; exact World.cell?_setCell_same _ _ _ (show (w.drewN a).cell? _ = _ from h2)
    · exact World.cell?_setCell_same _ _ _ ((World.cell?_setCell_other _ _ _ _ (by simp)).trans (show (w.drewN a).cell? _ = _ from h3))
  exact ⟨hC.keeps (Keeps.drewN _ b), hf.drewN b⟩
set_option maxRecDepth 100000 in
set_option maxHeartbeats 1600000 in
theorem next_any {g : Nat} {T : Int} {w : World} (h : Cur w g T) (hT : T ≤ 1000000000000000) :
    Calls Try.prog 149 #[.pointer (some ⟨g, 0, none⟩)] w fun e w' => ∃ x, e = .returned (.int .i64 x) ∧ (0 ≤ x ∧ x ≤ 255) ∧ Cur w' g (T + 1) ∧ Fr g (g + 1) w w' := by
  obtain ⟨A, n, c, k, s, h0, h1, h2, h3, h4, h5, ⟨k0, k1⟩, h7⟩ := h
  have hn := h0.1
  by_cases hlt : k < n
  · obtain ⟨j, rfl⟩ : ∃ j : Nat, k = j := ⟨k.toNat, by omega⟩
    obtain ⟨b, off, rfl, hb, hc⟩ := h0.2.2 (by omega)
    obtain ⟨x, x0, x1, hx⟩ := hc j (by omega)
    have hst := hid (Cur.step (T := T) h0 h1 h2 h3 h4 h5 ⟨k0, k1⟩)
    have hle : (j : Int) + 1 ≤ (n : Int) := by omega
    go_enter Try.func149, Try.ntmps149
    go_wp2_with fail
    go_quiet (fail)
    go_wp2_with fail
    go_quiet (fail)
    go_wp2_with fail
    go_quiet (fail)
    go_wp2
    go_ret
    exact ⟨x, rfl, ⟨x0, x1⟩, (hst.out _ _ _ (u64_wrap_bd _)).1, (hst.out _ _ _ (u64_wrap_bd _)).2⟩
  · have hst := hid (Cur.step (T := T) h0 h1 h2 h3 h4 h5 ⟨k0, k1⟩)
    have hle : ¬ (k + 1 ≤ (n : Int)) := by omega
    go_enter Try.func149, Try.ntmps149
    go_wp2_with fail
    go_quiet (fail)
    go_wp2_with fail
    go_quiet (fail)
    go_wp2
    go_ret
    exact ⟨_, rfl, and255 _ (u64_wrap_bd _), (hst.out _ _ _ (u64_wrap_bd _)).1, (hst.out _ _ _ (u64_wrap_bd _)).2⟩
set_option maxRecDepth 100000 in
set_option maxHeartbeats 1600000 in
theorem pick_any {g : Nat} {T n : Int} {w : World} (h : Cur w g T) (hT : T ≤ 999999999999999) (hn : n ≤ 65536) :
    Calls Try.prog 116 #[.pointer (some ⟨g, 0, none⟩), .int .i64 n] w fun e w' => ∃ x, e = .returned (.int .i64 x) ∧ (0 ≤ x ∧ (x < n ∨ n ≤ 1 ∧ x = 0)) ∧ Cur w' g (T + 2) ∧ Fr g (g + 1) w w' := by
  by_cases h1 : n ≤ 1
  · go_enter Try.func116, Try.ntmps116
    go_wp2
    go_ret
    exact ⟨0, rfl, by omega, h.mono (by omega), Fr.refl _ _ _⟩
  · have hn0 : ¬ n = 0 := by omega
    have HM := hid (fun (y : Int) (hy : 0 ≤ y) => (show 0 ≤ y % n ∧ y % n < n from ⟨Int.emod_nonneg _ (by omega), Int.emod_lt_of_pos _ (by omega)⟩))
    by_cases h2 : 200 < n
    · go_enter Try.func116, Try.ntmps116
      go_wp2_with fail
      refine (next_any h (by omega)).mono ?_
      rintro e w1 ⟨x, rfl, ⟨x0, x1⟩, hc, hf⟩
      go_wp2_with fail
      refine (next_any hc (by omega)).mono ?_
      rintro e w2 ⟨y, rfl, ⟨y0, y1⟩, hc2, hf2⟩
      have hm := HM.out (x * 256 + y) (by omega)
      go_wp2
      go_ret
      exact ⟨_, rfl, by omega, hc2.mono (by omega), hf.trans hf2⟩
    · go_enter Try.func116, Try.ntmps116
      go_wp2_with fail
      refine (next_any h (by omega)).mono ?_
      rintro e w1 ⟨x, rfl, ⟨x0, x1⟩, hc, hf⟩
      have hm := HM.out x (by omega)
      go_wp2
      go_ret
      exact ⟨_, rfl, by omega, hc.mono (by omega), hf⟩
set_option maxHeartbeats 1600000 in
theorem one_any {g : Nat} {T n : Int} {w : World} (h : Cur w g T) (hT : T ≤ 999999999999999) (hn : n ≤ 65536) :
    Calls Try.prog 82 #[.pointer (some ⟨g, 0, none⟩), .int .i64 n] w fun e w' => ∃ b, e = .returned (.bool b) ∧ Cur w' g (T + 2) ∧ Fr g (g + 1) w w' := by
  go_enter Try.func82, Try.ntmps82
  go_wp2_with fail
  refine (pick_any h hT hn).mono ?_
  rintro e w1 ⟨x, rfl, _, hc, hf⟩
  go_wp2
  go_ret
  exact ⟨_, rfl, hc, hf⟩
set_option maxHeartbeats 1600000 in
theorem among_any {g : Nat} {T : Int} {lo hi n c : Nat} {A : Option Addr} {xs : List Int} {w : World} (h : Cur w g T) (hT : T ≤ 999999999999999) (hx : Ints w lo hi A n xs) (hg : g < lo) (h0 : 0 < n) (hn : n ≤ 65536) :
    Calls Try.prog 83 #[.pointer (some ⟨g, 0, none⟩), .slice A n c] w fun e w' => ∃ x j, e = .returned (.int .i64 x) ∧ j < n ∧ x = xs.getD j 0 ∧ Cur w' g (T + 2) ∧ Fr g (g + 1) w w' := by
  go_enter Try.func83, Try.ntmps83
  go_wp2_with fail
  refine (pick_any h hT (by omega)).mono ?_
  rintro e w1 ⟨y, rfl, hy, hc, hf⟩
  obtain ⟨j, rfl⟩ : ∃ j : Nat, y = j := ⟨y.toNat, by omega⟩
  have hj : j < n := by omega
  have hj1 : (j : Int) < (n : Int) := by omega
  obtain ⟨b, off, x, rfl, _, _, hcx, hxx⟩ := (hx.fr hf (by omega)).at_ hj
  go_wp2
  go_ret
  exact ⟨x, j, rfl, hj, hxx.out, hc, hf⟩
end Go.Proofs.Ytikmgohjgdojdaa

/- What the cursor draws: fractions, sizes with chances: bounds alone. -/
namespace Go.Proofs.Ytikmgohjgdojdaa
open Go.RowKit
set_option linter.unusedVariables false
set_option linter.unusedSimpArgs false

theorem Fr.setNew {lo hi : Nat} {a w : World} (h : Fr lo hi a w) {p : Addr} (hp : a.heap.size ≤ p.block) (u : Value) : Fr lo hi a (w.setCell p u) :=
  ⟨h.os, h.tape, h.output, Nat.le_trans h.size (by simp [World.setCell]), fun k hk ho => by rw [Below.heap_setCell _ _ _ _ (by omega)]; exact h.block k hk ho⟩
theorem Fr.keeps {lo hi : Nat} {a b c : World} (h : Fr lo hi a b) (k : Keeps b c) : Fr lo hi a c := h.trans (Fr.of_keeps k lo hi)
/-- A literal slice of ints. -/
theorem lit_ints (w : World) (xs : List Int) (hn : xs.length ≤ 67108864) : Ints (w.alloc (.cells (xs.map (Value.int .i64)).toArray 3)) w.heap.size (w.heap.size + 1) (some ⟨w.heap.size, 0, none⟩) xs.length xs := by
  have ho : Own (w.alloc (.cells (xs.map (Value.int .i64)).toArray 3)) w.heap.size xs := heap_alloc_new w _
  exact (ho.mine rfl hn (Nat.le_refl _) (Nat.lt_succ_self _) (by simp)).1
/-- A pair of numbers that are not great. -/
def Sm (p q : Int) : Prop := (-2000000000 ≤ p ∧ p ≤ 2000000000) ∧ (-2000000000 ≤ q ∧ q ≤ 2000000000)
theorem Sm.i64 {p q : Int} (h : Sm p q) : I64 p ∧ I64 q := by unfold Sm at h; unfold I64; omega
theorem mkF_sm (n d : Int) : Sm (mkF n d).1 (mkF n d).2.1 := by have := mkF_qb n d; unfold QB at this; unfold Sm; omega
/-- What a drawing function that hands back a fraction leaves. -/
def DrawsQ (w : World) (g : Nat) (T : Int) (e : Ending) (w' : World) : Prop := ∃ p q, e = .returned (.agg #[.int .i64 p, .int .i64 q]) ∧ Sm p q ∧ Cur w' g T ∧ Fr g (g + 1) w w'

theorem among_small {xs : List Int} {j : Nat} (h : ∀ x, x ∈ xs → -2000000000 ≤ x ∧ x ≤ 2000000000) (hj : j < xs.length) : -2000000000 ≤ xs.getD j 0 ∧ xs.getD j 0 ≤ 2000000000 := by
  have e : xs.getD j 0 = xs[j] := by simp [List.getD, hj]
  rw [e]; exact h _ (List.getElem_mem hj)
theorem Cur.new {w : World} {hi n c : Nat} {A : Option Addr} {t : TypeId} (h : Bytes w hi A n) : Cur (w.alloc (.cells #[.slice A n c, .int .i64 0, .int .u64 0] t)) w.heap.size 0 := by
  have hb : Bytes w w.heap.size A n := ⟨h.1, Nat.le_refl _, fun hn => by obtain ⟨b, off, e, h1, h2⟩ := h.2.2 hn; exact ⟨b, off, e, Nat.lt_of_lt_of_le h1 h.2.1, h2⟩⟩
  have hh := heap_alloc_new w (.cells #[.slice A n c, .int .i64 0, .int .u64 0] t)
  have hk : ∀ j v, #[Value.slice A n c, .int .i64 0, .int .u64 0][j]? = some v → (w.alloc (.cells #[.slice A n c, .int .i64 0, .int .u64 0] t)).cell? ⟨w.heap.size, j, none⟩ = some v := fun j v hv => by rw [cell_of_row _ _ j _ _ _ hh]; exact hv
  exact ⟨A, n, c, 0, 0, hb.keeps (keeps_alloc _ _), hk 0 _ rfl, hk 1 _ rfl, hk 2 _ rfl, by simp only [World.frozen?, hh]; simp, by simp only [World.frozen?, hh]; simp, by omega, by omega⟩
/-- A size and a chance. -/
def DrawsN (w : World) (e : Ending) (w' : World) : Prop := ∃ n p q, e = .returned (.tuple #[.int .i64 n, .agg #[.int .i64 p, .int .i64 q]]) ∧ (0 ≤ n ∧ n ≤ 9) ∧ Sm p q ∧ Keeps w w'
end Go.Proofs.Ytikmgohjgdojdaa

