/- What the cursor draws: a geography with numbers for its areas (bounds alone). -/
import Derived.Test.YtkpliolafkdijaaDrawH
namespace Go.Proofs.Ytkpliolafkdijaa
open Go.RowKit
set_option linter.unusedVariables false
set_option linter.unusedSimpArgs false

theorem Has.none_ {w : World} {B e size n c : Nat} {cs : List Value} (h : Has w B e size (.slice none n c) n cs) : n = 0 ∧ c = 0 := by
  rcases h.2 with ⟨h1, h2⟩ | ⟨g, cap, cur, hv, _⟩
  · injection h1 with _ h3 h4; exact ⟨h3, h4⟩
  · injection hv with h1; cases h1
/-- A geography with a list of numbers of one's own. -/
def DrawsP (w : World) (g : Nat) (T : Int) (e : Ending) (w' : World) : Prop := ∃ (A : Option Addr) (N C : Nat) (xs : List Int) (A1 : Option Addr) (N1 C1 : Nat) (ys : List Int), e = .returned (.tuple #[.agg #[.slice A N C], .slice A1 N1 C1]) ∧
  Ints w' w.heap.size w'.heap.size A N xs ∧ Mine w' w.heap.size w'.heap.size A1 N1 ys ∧ (A1 = none → N1 = 0 ∧ C1 = 0) ∧ (N ≤ 45 ∧ N1 ≤ 46) ∧ Near 100001 ys ∧ Cur w' g T ∧ Fr g (g + 1) w w'
set_option maxRecDepth 100000 in
set_option maxHeartbeats 6400000 in
theorem perArea_any {g : Nat} {T : Int} {w : World} (h : Cur w g T) (hT : T ≤ 600000000000000) :
    Calls Try.prog 150 #[.pointer (some ⟨g, 0, none⟩)] w (DrawsP w g (T + 200)) := by
  have lg := h.lt
  have f0 : Fr g (g + 1) w (w.alloc (.cells #[.slice none 0 0] 51)) := (Fr.refl _ _ _).keeps (keeps_alloc w _)
  have hc0 := h.keeps (keeps_alloc w (.cells #[.slice none 0 0] 51))
  have b2 : B1 (w.alloc (.cells #[.slice none 0 0] 51)) w.heap.size (.slice none 0 0) := B1.new' rfl
  go_enter Try.func150, Try.ntmps150
  go_wp2_with fail
  refine (anyGeo_any hc0 (by omega)).mono ?_
  rintro e w1 ⟨A, N, C, xs, rfl, hI, hN, hc1, f1⟩
  have sz1 := f1.size
  simp at sz1 hI
  have f2 := f0.trans f1
  replace b2 := b2.fr f1 (by omega)
  have hI2 := hI.keeps (keeps_alloc w1 (.cells #[.slice A N C] 51))
  have hc2 := hc1.keeps (keeps_alloc w1 (.cells #[.slice A N C] 51))
  have f3 := f2.keeps (keeps_alloc w1 (.cells #[.slice A N C] 51))
  replace b2 := b2.keeps (keeps_alloc w1 (.cells #[.slice A N C] 51))
  have b4 : B1 (w1.alloc (.cells #[.slice A N C] 51)) w1.heap.size (.slice A N C) := B1.new' rfl
  clear hI hc1 f2 f0 hc0 f1
  obtain ⟨z1, z2⟩ := id b4
  go_wp2_with fail
  clear z1 z2
  go_loopw [5, 11] (fun v i wr => ∃ (k : Nat) (ys : List Int), k ≤ N ∧ i = .int .i64 k ∧ Has wr (w1.heap.size + 1) 3 1 v k (ys.map (Value.int .i64)) ∧ Near 1000 ys ∧ B1 wr w.heap.size (.slice none 0 0) ∧ B1 wr w1.heap.size (.slice A N C) ∧ Ints wr (w.heap.size + 1) w1.heap.size A N xs ∧ Cur wr g (T + 50 + 2 * k) ∧ Fr g (g + 1) w wr ∧ w1.heap.size + 1 ≤ wr.heap.size) (fun _ i _ => N - (intOf i).toNat)
  case atStart => exact ⟨0, [], Nat.zero_le _, rfl, World.ownsRow_nil _ _ _ _, near_nil _ (by omega), b2, b4, hI2, hc2.mono (by omega), f3, by simp⟩
  clear b2 b4 hI2 hc2 f3
  case round =>
    obtain ⟨k, ys, hk, rfl, hown, hnr, b2, b4, hI, hc, f, sr⟩ := hrel
    by_cases hlt : k < N
    · have hi1 : (k : Int) < (N : Int) := by omega
      go_wp2_with fail
      refine (pick_any hc (by omega) (by omega)).mono ?_
      rintro e w2 ⟨y, rfl, hy, hc2, f2⟩
      have hown2 := Has.fr hown f2 (by omega)
      replace b2 := b2.fr f2 (by omega)
      replace b4 := b4.fr f2 (by omega)
      replace hI := hI.fr f2 (by omega)
      have f3 := f.trans f2
      have s2 := f2.size
      clear hown hc f f2
      go_wp2_with (at_builtin; refine append_int (xs := ys) (u := y) hown2 (by omega) (by omega) _ _ rfl rfl rfl (by first | rfl | (simp <;> rfl)) ?_; intro v' w4 hown4 hb4)
      have hc4 := hc2.below hb4 (by omega)
      have f4 := f3.below hb4 (by omega)
      have b24 := b2.below hb4 (by omega)
      have b44 := b4.below hb4 (by omega)
      have hI4 := hI.below hb4 (by omega)
      have hn4 := near_snoc (x := y) hnr (by omega)
      have s4 := hb4.size
      clear hown2 hb4 hc2 f3 b2 b4 hI
      go_wp2
      go_roundw
      case rel => exact ⟨k + 1, _, by omega, by go_num, hown4, hn4, b24, b44, hI4, hc4.mono (by omega), f4, by omega⟩
      case measure => simp [intOf]; omega
    · obtain rfl : k = N := by omega
      obtain ⟨A1, C1, e1⟩ := hown.form
      cases e1
      go_wp2_with fail
      refine (pick_any hc (by omega) (by omega)).mono ?_
      rintro e w2 ⟨q, rfl, hq, hc2, f2⟩
      have hown2 := Has.fr hown f2 (by omega)
      replace b2 := b2.fr f2 (by omega)
      replace b4 := b4.fr f2 (by omega)
      replace hI := hI.fr f2 (by omega)
      replace f := f.trans f2
      have s2 := f2.size
      have itop : w1.heap.size ≤ w2.heap.size := by omega
      clear hown hc f2
      have hnr2 := hnr.mono (B' := 100001) (by omega)
      by_cases h0 : q = 0
      · subst h0
        have q1 : w.heap.size < w1.heap.size + 1 := by omega
        have q2 : w1.heap.size < w1.heap.size + 1 := by omega
        go_wp2_with (at_builtin; refine append_int (xs := ys) (u := 0) hown2 (by omega) (by omega) _ _ rfl rfl rfl (by first | rfl | (simp <;> rfl)) ?_; intro v' w4 hown4 hb4; have b24 := b2.below hb4 q1; have b44 := b4.below hb4 q2; obtain ⟨z1, z2⟩ := id b44; obtain ⟨z3, z4⟩ := id b24; have fm := Has.form hown4; obtain ⟨A2, C2, e2⟩ := fm; subst e2)
        have hc4 := hc2.below hb4 (by omega)
        replace f := f.below hb4 (by omega)
        have hI4 := hI.below hb4 (by omega)
        have hn4 := near_snoc (x := 0) hnr2 (by omega)
        have s4 := hb4.size
        have m4 := Mine.of_own hown4 (by omega)
        have nz := fun e : A2 = none => by subst e; exact Has.none_ hown4
        have HW := (Fr.refl w.heap.size (w.heap.size + 1) w4).setCell (p := ⟨w.heap.size, 0, none⟩) (Nat.le_refl _) (Nat.lt_succ_self _) (.slice A k C)
        have es : (w4.setCell ⟨w.heap.size, 0, none⟩ (.slice A k C)).heap.size = w4.heap.size := by simp [World.setCell]
        have i2 := (hI4.fr HW (by omega)).widen (lo' := w.heap.size) (hi' := (w4.setCell ⟨w.heap.size, 0, none⟩ (.slice A k C)).heap.size) (by omega) (by rw [es]; omega) (Nat.le_refl _)
        have m2 := (m4.fr HW (by omega)).widen (lo' := w.heap.size) (hi' := (w4.setCell ⟨w.heap.size, 0, none⟩ (.slice A k C)).heap.size) (by omega) (by rw [es]; omega) (Nat.le_refl _)
        exact bodyPost_ret (v := .tuple #[.agg #[.slice A k C], .slice A2 (k + 1) C2]) (by simp [results, Try.results150, go_sem, z1, z2, z3, z4]) rfl ⟨_, _, _, _, _, _, _, _, rfl, i2, m2, nz, by omega, hn4, (Cur.fr hc4 HW (by omega)).mono (by omega), Fr.setNew f (p := ⟨w.heap.size, 0, none⟩) (Nat.le_refl _) _⟩
      have t0 : (q == 0) = false := by rw [beq_eq_false_iff_ne]; exact h0
      have m4 := Mine.of_own hown2 (by omega)
      have nz := fun e : A1 = none => by subst e; exact Has.none_ hown2
      by_cases h1 : q = 1
      · subst h1
        by_cases hk0 : 0 < k
        · have hk1 : (0 : Int) < (k : Int) := by omega
          have L := lit_ints w2 [100000, 100001, -5] (by decide)
          have hc3 := hc2.keeps (keeps_alloc w2 (.cells #[.int .i64 100000, .int .i64 100001, .int .i64 (-5)] 3))
          have b23 := b2.keeps (keeps_alloc w2 (.cells #[.int .i64 100000, .int .i64 100001, .int .i64 (-5)] 3))
          have b43 := b4.keeps (keeps_alloc w2 (.cells #[.int .i64 100000, .int .i64 100001, .int .i64 (-5)] 3))
          have hI3 := hI.keeps (keeps_alloc w2 (.cells #[.int .i64 100000, .int .i64 100001, .int .i64 (-5)] 3))
          have m3 := m4.keeps (keeps_alloc w2 (.cells #[.int .i64 100000, .int .i64 100001, .int .i64 (-5)] 3))
          replace f := f.keeps (keeps_alloc w2 (.cells #[.int .i64 100000, .int .i64 100001, .int .i64 (-5)] 3))
          go_wp2_with fail
          refine (among_any hc3 (by omega) L (by omega) (by decide) (by decide)).mono ?_
          rintro e w5 ⟨z, j, rfl, hj, hz, hc5, f5⟩
          have hzb : -100001 ≤ z ∧ z ≤ 100001 := by
            have hj' : j < 3 := hj
            rw [hz]
            rcases j with _ | _ | _ | j <;> first | (simp; done) | omega
          clear hz hj L
          have b25 := b23.fr f5 (by omega)
          have b45 := b43.fr f5 (by omega)
          have hI5 := hI3.fr f5 (by omega)
          have m5 := m3.fr f5 (by omega)
          replace f := f.trans f5
          have s5 : w2.heap.size + 1 ≤ w5.heap.size := by have := f5.size; simpa using this
          clear b23 b43 hI3 m3 hc3 f5 b2 b4 hI m4 hc2 hown2
          obtain ⟨bb, off, x0, rfl, hlo, hhi, hcx, hxx⟩ := m5.1.at_ (k := 0) hk0
          have hfz := m5.2 bb off rfl 0 hk0
          have hset := m5.set_ (k := 0) hk0 z
          have hn5 := near_set 0 hnr2 hzb
          rw [Nat.add_zero] at hcx hfz hset
          have HS := hid hset
          clear hset hxx
          have hc6 := hc5.fr HS.out.2 (by omega)
          have b26 := b25.fr HS.out.2 (by omega)
          have b46 := b45.fr HS.out.2 (by omega)
          have hI6 := hI5.fr HS.out.2 (by omega)
          have m6 := hid HS.out.1
          have s6 : (w5.setCell ⟨bb, off, none⟩ (.int .i64 z)).heap.size = w5.heap.size := by simp [World.setCell]
          replace f := f.setNew (p := ⟨bb, off, none⟩) (by show w.heap.size ≤ bb; omega) (.int .i64 z)
          have S6 := hid s6
          clear s6 HS b25 b45 hI5 hc5
          obtain ⟨z1, z2⟩ := id b46
          obtain ⟨z3, z4⟩ := id b26
          have HW := hid ((Fr.refl w.heap.size (w.heap.size + 1) (w5.setCell ⟨bb, off, none⟩ (.int .i64 z))).setCell (p := ⟨w.heap.size, 0, none⟩) (Nat.le_refl _) (Nat.lt_succ_self _) (.slice A k C))
          go_wp2_with fail
          have es : ((w5.setCell ⟨bb, off, none⟩ (.int .i64 z)).setCell ⟨w.heap.size, 0, none⟩ (.slice A k C)).heap.size = w5.heap.size := by simp [World.setCell]
          have i2 := (hI6.fr HW.out (by omega)).widen (lo' := w.heap.size) (hi' := ((w5.setCell ⟨bb, off, none⟩ (.int .i64 z)).setCell ⟨w.heap.size, 0, none⟩ (.slice A k C)).heap.size) (by omega) (by rw [es]; omega) (Nat.le_refl _)
          have m2 := (m6.out.fr HW.out (by omega)).widen (lo' := w.heap.size) (hi' := ((w5.setCell ⟨bb, off, none⟩ (.int .i64 z)).setCell ⟨w.heap.size, 0, none⟩ (.slice A k C)).heap.size) (by omega) (by rw [es]; omega) (Nat.le_refl _)
          exact bodyPost_ret (v := .tuple #[.agg #[.slice A k C], .slice (some ⟨bb, off, none⟩) k C1]) (by simp [results, Try.results150, go_sem, z1, z2, z3, z4]) rfl ⟨_, _, _, _, _, _, _, _, rfl, i2, m2, (fun e => by cases e), by omega, hn5, (hc6.fr HW.out (by omega)).mono (by omega), f.setNew (p := ⟨w.heap.size, 0, none⟩) (Nat.le_refl _) _⟩
        · have hk1 : ¬ (0 : Int) < (k : Int) := by omega
          clear hown2
          obtain ⟨z1, z2⟩ := id b4
          obtain ⟨z3, z4⟩ := id b2
          have HW := hid ((Fr.refl w.heap.size (w.heap.size + 1) w2).setCell (p := ⟨w.heap.size, 0, none⟩) (Nat.le_refl _) (Nat.lt_succ_self _) (.slice A k C))
          go_wp2_with fail
          have es : (w2.setCell ⟨w.heap.size, 0, none⟩ (.slice A k C)).heap.size = w2.heap.size := by simp [World.setCell]
          have i2 := (hI.fr HW.out (by omega)).widen (lo' := w.heap.size) (hi' := (w2.setCell ⟨w.heap.size, 0, none⟩ (.slice A k C)).heap.size) (by omega) (by rw [es]; omega) (Nat.le_refl _)
          have m2 := (m4.fr HW.out (by omega)).widen (lo' := w.heap.size) (hi' := (w2.setCell ⟨w.heap.size, 0, none⟩ (.slice A k C)).heap.size) (by omega) (by rw [es]; omega) (Nat.le_refl _)
          exact bodyPost_ret (v := .tuple #[.agg #[.slice A k C], .slice A1 k C1]) (by simp [results, Try.results150, go_sem, z1, z2, z3, z4]) rfl ⟨_, _, _, _, _, _, _, _, rfl, i2, m2, nz, by omega, hnr2, (Cur.fr hc2 HW.out (by omega)).mono (by omega), Fr.setNew f (p := ⟨w.heap.size, 0, none⟩) (Nat.le_refl _) _⟩
      have t1 : (q == 1) = false := by rw [beq_eq_false_iff_ne]; exact h1
      clear hown2
      obtain ⟨z1, z2⟩ := id b4
      obtain ⟨z3, z4⟩ := id b2
      have HW := hid ((Fr.refl w.heap.size (w.heap.size + 1) w2).setCell (p := ⟨w.heap.size, 0, none⟩) (Nat.le_refl _) (Nat.lt_succ_self _) (.slice A k C))
      go_wp2_with fail
      have es : (w2.setCell ⟨w.heap.size, 0, none⟩ (.slice A k C)).heap.size = w2.heap.size := by simp [World.setCell]
      have i2 := (hI.fr HW.out (by omega)).widen (lo' := w.heap.size) (hi' := (w2.setCell ⟨w.heap.size, 0, none⟩ (.slice A k C)).heap.size) (by omega) (by rw [es]; omega) (Nat.le_refl _)
      have m2 := (m4.fr HW.out (by omega)).widen (lo' := w.heap.size) (hi' := (w2.setCell ⟨w.heap.size, 0, none⟩ (.slice A k C)).heap.size) (by omega) (by rw [es]; omega) (Nat.le_refl _)
      exact bodyPost_ret (v := .tuple #[.agg #[.slice A k C], .slice A1 k C1]) (by simp [results, Try.results150, go_sem, z1, z2, z3, z4]) rfl ⟨_, _, _, _, _, _, _, _, rfl, i2, m2, nz, by omega, hnr2, (Cur.fr hc2 HW.out (by omega)).mono (by omega), Fr.setNew f (p := ⟨w.heap.size, 0, none⟩) (Nat.le_refl _) _⟩
end Go.Proofs.Ytkpliolafkdijaa
