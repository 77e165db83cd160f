/- What the cursor draws: lists of numbers (bounds alone). -/
import Derived.Test.YtikmgohjgdojdaaKF
import Derived.Test.YtikmgohjgdojdaaKG
namespace Go.Proofs.Ytikmgohjgdojdaa
open Go.RowKit
set_option linter.unusedVariables false
set_option linter.unusedSimpArgs false

theorem Has.fr {w w' : World} {B e size n l u : Nat} {v : Value} {cs : List Value} (h : Has w B e size v n cs) (f : Fr l u w w') (ho : u ≤ B) : Has w' B e size v n cs := by
  obtain ⟨h1, h2⟩ := h
  refine ⟨h1, ?_⟩
  rcases h2 with h2 | ⟨g, cap, cur, hv, hg, hh, rest⟩
  · exact .inl h2
  · exact .inr ⟨g, cap, cur, hv, hg, (f.block g (Array.getElem?_eq_some_iff.1 hh).1 (by omega)).trans hh, rest⟩
theorem Fr.below {lo hi B : Nat} {a w w' : World} (h : Fr lo hi a w) (k : Below B w w') (hB : a.heap.size ≤ B) : Fr lo hi a w' :=
  ⟨k.os.trans h.os, k.tape.trans h.tape, k.output.trans h.output, Nat.le_trans h.size k.size, fun i hi ho => (k.block i (by omega)).trans (h.block i hi ho)⟩
theorem Cur.below {w w' : World} {g B : Nat} {T : Int} (h : Cur w g T) (k : Below B w w') (hg : g < B) : Cur w' g T := by
  obtain ⟨A, n, c, t, s, h0, h1, h2, h3, h4, h5, h6, h7⟩ := h
  have e := k.block g hg
  refine ⟨A, n, c, t, s, ⟨h0.1, Nat.le_trans h0.2.1 k.size, fun hn => ?_⟩, (World.cell?_of_block (w := w) e).trans h1, (World.cell?_of_block (w := w) e).trans h2, (World.cell?_of_block (w := w) e).trans h3, (World.frozen?_of_block (w := w) e).trans h4, (World.frozen?_of_block (w := w) e).trans h5, h6, h7⟩
  obtain ⟨b, off, eA, hb, hc⟩ := h0.2.2 hn
  refine ⟨b, off, eA, hb, fun j hj => ?_⟩
  obtain ⟨x, x0, x1, hx⟩ := hc j hj
  exact ⟨x, x0, x1, (World.cell?_of_block (w := w) (k.block b (by omega))).trans hx⟩
/-- All numbers are from -B to B. -/
def Near (B : Int) (xs : List Int) : Prop := ∀ j, -B ≤ xs.getD j 0 ∧ xs.getD j 0 ≤ B
theorem near_nil (B : Int) (h : 0 ≤ B) : Near B [] := fun j => by simp [List.getD]; omega
theorem near_snoc {B x : Int} {xs : List Int} (h : Near B xs) (h1 : -B ≤ x ∧ x ≤ B) : Near B (xs ++ [x]) := fun j => by
  rcases Nat.lt_trichotomy j xs.length with h2 | h2 | h2
  · have := h j
    simp only [List.getD, List.getElem?_append_left h2]; simpa [List.getD] using this
  · subst h2; simp [List.getD]; exact h1
  · have := h j
    have e : (xs ++ [x])[j]? = none := List.getElem?_eq_none (by simp; omega)
    simp only [List.getD, e, Option.getD_none]; omega
theorem near_zeros (B : Int) (n : Nat) (h : 0 ≤ B) : Near B (List.replicate n 0) := fun j => by
  by_cases hj : j < n
  · simp [List.getD, hj]; omega
  · simp [List.getD, List.getElem?_replicate, hj]; omega
theorem near_set {B x : Int} {xs : List Int} (i : Nat) (h : Near B xs) (h1 : -B ≤ x ∧ x ≤ B) : Near B (xs.set i x) := fun j => by
  rw [getD_setI]; split
  · exact h1
  · exact h j
/-- A list of numbers of one's own. -/
def DrawsI (w : World) (g : Nat) (T : Int) (e : Ending) (w' : World) : Prop := ∃ A N C xs, e = .returned (.slice A N C) ∧ Mine w' w.heap.size w'.heap.size A N xs ∧ N ≤ 31 ∧ Near 100001 xs ∧ Cur w' g T ∧ Fr g (g + 1) w w'
set_option maxRecDepth 100000 in
set_option maxHeartbeats 3200000 in
theorem numbers_any {g : Nat} {T : Int} {w : World} (h : Cur w g T) (hT : T ≤ 900000000000000) :
    Calls Try.prog 80 #[.pointer (some ⟨g, 0, none⟩)] w (DrawsI w g (T + 20)) := by
  have lg := h.lt
  go_enter Try.func80, Try.ntmps80
  go_wp2_with fail
  refine (pick_any h (by omega) (by omega)).mono ?_
  rintro e w1 ⟨x, rfl, hx, hc, f⟩
  obtain ⟨K, hK⟩ : ∃ K : Nat, (1 : Int) + x = K := ⟨(1 + x).toNat, by omega⟩
  have hK5 : 1 ≤ K ∧ K ≤ 5 := by omega
  go_wp2_with fail
  clear hK
  go_loopw [3, 4] (fun v sk wr => ∃ (m n : Nat) (xs : List Int), m + n = K ∧ sk = .int .i64 m ∧ Has wr w.heap.size 3 1 v n (xs.map (Value.int .i64)) ∧ Near 100001 xs ∧ Cur wr g (T + 2 + 2 * n) ∧ Fr g (g + 1) w wr) (fun _ sk _ => (intOf sk).toNat)
  case atStart => exact ⟨K, 0, [], by omega, rfl, World.ownsRow_nil _ _ _ _, near_nil _ (by omega), hc.mono (by omega), f⟩
  clear hc f
  case round =>
    obtain ⟨m, n, xs, hmn, rfl, hown, hnr, hc, f⟩ := hrel
    have sz := f.size
    by_cases hm : 0 < m
    · have hm1 : (m : Int) > 0 := by omega
      go_wp2_with fail
      refine (pick_any hc (by omega) (by omega)).mono ?_
      rintro e w2 ⟨y, rfl, hy, hc2, f2⟩
      have hown2 := Has.fr hown f2 (by omega)
      have f3 := f.trans f2
      have sz2 := f3.size
      clear hown hc f f2
      go_wp2_with (at_builtin; refine append_int (xs := xs) (u := y - 3) hown2 (by omega) (by omega) _ _ rfl rfl rfl (by first | rfl | (simp <;> rfl)) ?_; intro v' w4 hown4 hb4)
      have hc4 := hc2.below hb4 (by omega)
      have f4 := f3.below hb4 (Nat.le_refl _)
      have hn4 := near_snoc (x := y - 3) hnr (by omega)
      clear hown2 hb4 hc2 f3
      go_wp2
      go_roundw
      case rel => exact ⟨m - 1, n + 1, _, by omega, by congr 1; omega, hown4, hn4, hc4.mono (by omega), f4⟩
      case measure => simp [intOf]; omega
    · obtain rfl : m = 0 := by omega
      obtain ⟨A1, C1, rfl⟩ := hown.form
      have hm := Mine.of_own hown (by omega)
      clear hown
      go_wp2_with fail
      refine (pick_any hc (by omega) (by omega)).mono ?_
      rintro e w2 ⟨y, rfl, hy, hc2, f2⟩
      have hm2 := hm.fr f2 (by omega)
      have f3 := f.trans f2
      have sz2 := f3.size
      have hms := hm.1.top
      have f2s := f2.size
      clear hm hc f f2
      by_cases h0 : y = 0
      · subst h0
        go_wp2
        go_ret
        exact ⟨none, 0, 0, [], rfl, Mine.nil_ _ _, by omega, near_nil _ (by omega), hc2.mono (by omega), f3⟩
      have t0 : (y == 0) = false := by rw [beq_eq_false_iff_ne]; exact h0
      by_cases h1 : y = 1
      · subst h1
        go_wp2_with fail
        refine (pick_any hc2 (by omega) (by omega)).mono ?_
        rintro e w4 ⟨z, rfl, hz, hc4, f4⟩
        obtain ⟨L, hL⟩ : ∃ L : Nat, (30 : Int) + z = L := ⟨(30 + z).toNat, by omega⟩
        have hmk := make_ints L (by omega)
        have f5 := f3.trans f4
        have sz5 := f5.size
        go_wp2
        go_ret
        have ho := Own.new w4 L
        exact ⟨_, _, _, _, rfl, by first | exact ho.mine (by simp) (by omega) (by omega) ho.lt (Nat.le_refl _) | (rw [hL]; exact ho.mine (by simp) (by omega) (by omega) ho.lt (Nat.le_refl _)), by omega, near_zeros _ _ (by omega), (hc4.keeps (keeps_alloc _ _)).mono (by omega), f5.keeps (keeps_alloc _ _)⟩
      have t1 : (y == 1) = false := by rw [beq_eq_false_iff_ne]; exact h1
      by_cases h2 : y = 2
      · subst h2
        have L := lit_ints w2 [100000, 100001, -100001] (by decide)
        have hc3 := hc2.keeps (keeps_alloc w2 (.cells #[.int .i64 100000, .int .i64 100001, .int .i64 (-100001)] 3))
        have hm3 := hm2.keeps (keeps_alloc w2 (.cells #[.int .i64 100000, .int .i64 100001, .int .i64 (-100001)] 3))
        have f4 := f3.keeps (keeps_alloc w2 (.cells #[.int .i64 100000, .int .i64 100001, .int .i64 (-100001)] 3))
        go_wp2_with fail
        refine (among_any hc3 (by omega) L (by omega) (by decide) (by decide)).mono ?_
        rintro e w5 ⟨z, j, rfl, hj, hz, hc5, f5⟩
        have hzb : -100001 ≤ z ∧ z ≤ 100001 := by
          have hj' : j < 3 := hj
          rw [hz]
          rcases j with _ | _ | _ | j <;> first | (simp; done) | omega
        have s5 : w2.heap.size + 1 ≤ w5.heap.size := by have := f5.size; simpa using this
        clear hz hj
        have hm5 := hm3.fr f5 (by omega)
        obtain ⟨b, off, x0, rfl, hlo, hhi, hcx, hxx⟩ := hm5.1.at_ (k := 0) (by omega)
        have hfz := hm5.2 b off rfl 0 (by omega)
        have hset := hm5.set_ (k := 0) (by omega) z
        have hn5 := near_set 0 hnr hzb
        have hfs := hset.2
        rw [Nat.add_zero] at hcx hfz hset hfs
        go_wp2
        go_ret
        exact ⟨_, _, _, _, rfl, hset.1.widen (Nat.le_refl _) (by have := hfs.size; omega) (Nat.le_refl _), by omega, hn5, (hc5.fr hfs (by omega)).mono (by omega), ((f4.trans f5).setNew (p := ⟨b, off, none⟩) hlo _)⟩
      have t2 : (y == 2) = false := by rw [beq_eq_false_iff_ne]; exact h2
      go_wp2
      go_ret
      exact ⟨_, _, _, _, rfl, hm2.widen (Nat.le_refl _) (by omega) (Nat.le_refl _), by omega, hnr, hc2.mono (by omega), f3⟩
theorem Ints.below {w w' : World} {lo hi n B : Nat} {A : Option Addr} {xs : List Int} (h : Ints w lo hi A n xs) (k : Below B w w') (hB : hi ≤ B) : Ints w' lo hi A n xs :=
  ⟨h.1, h.2.1, Nat.le_trans h.top k.size, fun hn => by
    obtain ⟨b, off, e, hl, hb, hc⟩ := h.2.2.2 hn
    exact ⟨b, off, e, hl, hb, fun j hj => (World.cell?_of_block (w := w) (k.block b (by omega))).trans (hc j hj)⟩⟩
/-- An owned row of ints that is not empty: its block. -/
theorem Has.block {w : World} {B n c : Nat} {A : Option Addr} {xs : List Int} (h : Has w B 3 1 (.slice A n c) n (xs.map (Value.int .i64))) (hn : 0 < n) (hs : n ≤ 67108864) :
    ∃ g, A = some ⟨g, 0, none⟩ ∧ B ≤ g ∧ Mine w g (g + 1) A n xs := by
  have hm := Mine.of_own h hs
  obtain ⟨h1, h2⟩ := h
  have hl : xs.length = n := by simpa using h1
  rcases h2 with ⟨h2, rfl⟩ | ⟨g, cap, cur, hv, hg, hh, _⟩
  · simp at h1; omega
  · have hA : A = some ⟨g, 0, none⟩ := by injection hv
    subst hA
    refine ⟨g, rfl, hg, ⟨hm.1.1, hm.1.2.1, (Array.getElem?_eq_some_iff.1 hh).1, fun h0 => ?_⟩, hm.2⟩
    obtain ⟨b, off, e, hl', hb', hc⟩ := hm.1.2.2.2 h0
    obtain ⟨rfl, rfl⟩ : g = b ∧ 0 = off := by simpa using e
    exact ⟨g, 0, rfl, Nat.le_refl _, Nat.lt_succ_self _, hc⟩
end Go.Proofs.Ytikmgohjgdojdaa
