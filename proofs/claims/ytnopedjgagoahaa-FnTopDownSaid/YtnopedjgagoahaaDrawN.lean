/- What the cursor draws: a geography with noisy numbers and weights; for SubtreeEstimates and ConsistentEstimates (bounds alone). -/
import Derived.Test.YtnopedjgagoahaaKQ
namespace Go.Proofs.Ytnopedjgagoahaa
open Go.RowKit
set_option linter.unusedVariables false
set_option linter.unusedSimpArgs false

theorem Ints.front {w : World} {lo hi n k : Nat} {A : Option Addr} {xs : List Int} (h : Ints w lo hi A n xs) (hk : k ≤ n) : Ints w lo hi A k (xs.take k) := by
  have hl := h.1
  refine ⟨by simp; omega, Nat.le_trans hk h.2.1, h.2.2.1, fun h0 => ?_⟩
  obtain ⟨b, off, e, h1, h2, h3⟩ := h.2.2.2 (by omega)
  refine ⟨b, off, e, h1, h2, fun j hj => ?_⟩
  rw [h3 j (by omega)]
  have e1 : (xs.take k).getD j 0 = xs.getD j 0 := by simp [List.getD, hj]
  rw [e1]
/-- A geography with two lists of numbers. -/
def DrawsNo (w : World) (g : Nat) (T : Int) (e : Ending) (w' : World) : Prop := ∃ (A : Option Addr) (N C : Nat) (xs : List Int) (A1 : Option Addr) (N1 C1 : Nat) (ys : List Int) (A2 : Option Addr) (N2 C2 : Nat) (zs : List Int), e = .returned (.tuple #[.agg #[.slice A N C], .slice A1 N1 C1, .slice A2 N2 C2]) ∧
  Ints w' w.heap.size w'.heap.size A N xs ∧ Ints w' w.heap.size w'.heap.size A1 N1 ys ∧ Ints w' w.heap.size w'.heap.size A2 N2 zs ∧ (N ≤ 45 ∧ N1 ≤ 46 ∧ N2 ≤ 46) ∧ Cur w' g T ∧ Fr g (g + 1) w w'
set_option maxRecDepth 100000 in
set_option maxHeartbeats 6400000 in
theorem noisy_any {g : Nat} {T : Int} {w : World} (h : Cur w g T) (hT : T ≤ 500000000000000) :
    Calls Try.prog 123 #[.pointer (some ⟨g, 0, none⟩)] w (DrawsNo w g (T + 300)) := by
  have lg := h.lt
  have f0 : Fr g (g + 1) w (w.alloc (.cells #[.slice none 0 0] 53)) := (Fr.refl _ _ _).keeps (keeps_alloc w _)
  have hc0 := h.keeps (keeps_alloc w (.cells #[.slice none 0 0] 53))
  have b2 : B1 (w.alloc (.cells #[.slice none 0 0] 53)) w.heap.size (.slice none 0 0) := B1.new' rfl
  go_enter Try.func123, Try.ntmps123
  go_wp2_with fail
  refine (anyGeo_any hc0 (by omega)).mono ?_
  rintro e w1 ⟨A, N, C, xs, rfl, hI, hN, hc1, f1⟩
  have sz1 := f1.size
  simp at sz1 hI
  have f2 := f0.trans f1
  replace b2 := b2.fr f1 (by omega)
  have kA := keeps_alloc w1 (.cells #[.slice A N C] 53)
  have hI2 := hI.keeps kA
  have hc2 := hc1.keeps kA
  have f3 := f2.keeps kA
  replace b2 := b2.keeps kA
  have b4 : B1 (w1.alloc (.cells #[.slice A N C] 53)) w1.heap.size (.slice A N C) := B1.new' rfl
  have s0 : w1.heap.size + 1 ≤ (w1.alloc (.cells #[.slice A N C] 53)).heap.size := by simp
  clear hI hc1 f2 f0 hc0 f1 kA
  obtain ⟨z1, z2⟩ := id b4
  go_wp2_with fail
  refine (gGood_any hI2).mono ?_
  rintro e w0 ⟨rfl, k0⟩
  clear z1 z2
  replace hI2 := hI2.keeps k0
  replace hc2 := hc2.keeps k0
  replace f3 := f3.keeps k0
  replace b2 := b2.keeps k0
  replace b4 := b4.keeps k0
  replace s0 := Nat.le_trans s0 k0.size
  clear k0
  obtain ⟨z1, z2⟩ := id b4
  obtain ⟨gg, HG⟩ : ∃ b, Hid (geoB xs = b) := ⟨_, rfl⟩
  rw [HG.out]
  cases gg
  · go_wp2_with fail
    go_loopw [6, 7, 25] (fun v1 v2 i wr => ∃ (k : Nat) (ys zs : List Int), k ≤ N ∧ i = .int .i64 k ∧ Duo wr (w1.heap.size + 1) v1 v2 k k ys zs ∧ B1 wr w1.heap.size (.slice A N C) ∧ B1 wr w.heap.size (.slice none 0 0) ∧ Ints wr (w.heap.size + 1) w1.heap.size A N xs ∧ Cur wr g (T + 50 + 4 * k) ∧ Fr g (g + 1) w wr ∧ w1.heap.size + 1 ≤ wr.heap.size) (fun _ _ i _ => N - (intOf i).toNat)
    case atStart => exact ⟨0, [], [], Nat.zero_le _, rfl, Duo.nil_ _ _, b4, b2, hI2, (hc2).mono (by omega), f3, by first | omega | (simp [World.setCell]; omega)⟩
    clear hI2 b4 b2 hc2 f3
    case round =>
      obtain ⟨k, ys, zs, hk, rfl, hd, b5, b2, hI, hc, f, hs⟩ := hrel
      by_cases hlt : k < N
      · have hi1 : (k : Int) < ((N : Nat) : Int) := by omega
        go_wp2_with fail
        refine (pick_any hc (by omega) (by omega)).mono ?_
        rintro e w2 ⟨a, rfl, ha, hc2, f2⟩
        have hd2 := hd.fr f2 (by omega)
        have I2 := hI.fr f2 (by omega)
        have b52 := b5.fr f2 (by omega)
        have b22 := b2.fr f2 (by omega)
        have s2 := f2.size
        have f3 := f.trans f2
        clear hd hc f hI f2 b5 b2
        go_wp2_with (at_builtin; refine append_int_at (xs := ys) (u := a - 4) hd2.h1 (by omega) (by omega) _ _ rfl rfl rfl (by first | rfl | (simp <;> rfl)) ?_; intro v1' w3 p1 p2 p3)
        have b3 := below_grown hd2.h1 (by omega) p2
        have hd3 := hd2.one p1 p2 p3
        have hc3 := hc2.below b3 (by omega)
        have I3 := I2.below b3 (by omega)
        have b53 := b52.below b3 (by omega)
        have b23 := b22.below b3 (by omega)
        have f4 := f3.below b3 (by omega)
        have s3 := b3.size
        clear p1 p2 p3 b3 hd2 hc2 I2 f3 b52 b22
        go_wp2_with fail
        refine (pick_any hc3 (by omega) (by omega)).mono ?_
        rintro e w4 ⟨b, rfl, hb, hc4, f5⟩
        have hd4 := hd3.fr f5 (by omega)
        have I4 := I3.fr f5 (by omega)
        have b54 := b53.fr f5 (by omega)
        have b24 := b23.fr f5 (by omega)
        have s4 := f5.size
        have f6 := f4.trans f5
        clear hd3 hc3 f4 I3 f5 b53 b23
        have hb3 : 0 ≤ b ∧ b < 3 := by omega
        obtain ⟨u, HU⟩ : ∃ u, Hid (b.tdiv 2 = u) := ⟨_, rfl⟩
        have hu : 0 ≤ u ∧ u ≤ 1 := by
          rw [← HU.out]
          rcases (show b = 0 ∨ b = 1 ∨ b = 2 by omega) with rfl | rfl | rfl <;> decide
        have hu2 := HU.out
        go_wp2_with (at_builtin; refine append_int_at (xs := zs) (u := 1 + u) hd4.h2 (by omega) (by omega) _ _ rfl rfl rfl (by first | rfl | (simp <;> rfl)) ?_; intro v2' w5 p1 p2 p3)
        have b5' := below_grown hd4.h2 (by omega) p2
        have hd5 := hd4.two p1 p2 p3
        have hc5 := hc4.below b5' (by omega)
        have I5 := I4.below b5' (by omega)
        have b55 := b54.below b5' (by omega)
        have b25 := b24.below b5' (by omega)
        have f7 := f6.below b5' (by omega)
        have s5 := b5'.size
        clear p1 p2 p3 b5' hd4 hc4 I4 f6 b54 b24
        go_wp2
        go_roundw
        case rel => exact ⟨k + 1, _, _, by omega, by go_num, hd5, b55, b25, I5, hc5.mono (by omega), f7, by omega⟩
        case measure => simp [intOf]; omega
      · obtain rfl : N = k := by omega
        obtain ⟨A1, C1, rfl⟩ := hd.h1.form
        obtain ⟨A2, C2, rfl⟩ := hd.h2.form
        go_wp2_with fail
        refine (pick_any hc (by omega) (by omega)).mono ?_
        rintro e w2 ⟨q, rfl, hq, hc2, f2⟩
        have hd2 := hd.fr f2 (by omega)
        have I2 := hI.fr f2 (by omega)
        have b52 := b5.fr f2 (by omega)
        have b22 := b2.fr f2 (by omega)
        have s2 := f2.size
        have f3 := f.trans f2
        have i1 := (Mine.of_own hd2.h1 (by omega)).1
        have i2 := (Mine.of_own hd2.h2 (by omega)).1
        clear hd hc f hI f2 b5 b2 hq
        by_cases h0 : q = 0
        · subst h0
          have e3 : w1.heap.size < w1.heap.size + 1 := by omega
          have e4 : w.heap.size < w1.heap.size + 1 := by omega
          have e5 : w1.heap.size + 1 ≤ w2.heap.size := by omega
          go_wp2_with (at_builtin; refine append_int_at (xs := ys) (u := 0) hd2.h1 (by omega) (by omega) _ _ rfl rfl rfl (by first | rfl | (simp <;> rfl)) ?_; intro v1' w3 p1 p2 p3; have b3 := below_grown hd2.h1 e5 p2; have b53 := b52.below b3 e3; have b23 := b22.below b3 e4; obtain ⟨u1, u2⟩ := id b53; obtain ⟨u3, u4⟩ := id b23; have fm := Has.form p1; obtain ⟨A3, C3, ev⟩ := fm; subst ev)
          have hd3 := hd2.one p1 p2 p3
          have hc3 := hc2.below b3 (by omega)
          have I3 := I2.below b3 (by omega)
          have f4 := f3.below b3 (by omega)
          have s3 := b3.size
          have j1 := (Mine.of_own hd3.h1 (by omega)).1
          have j2 := (Mine.of_own hd3.h2 (by omega)).1
          clear p1 p2 p3 b3 hd2 hc2 I2 f3 i1 i2
          have HW := hid ((Fr.refl w.heap.size (w.heap.size + 1) (w3)).setCell (p := ⟨w.heap.size, 0, none⟩) (Nat.le_refl _) (Nat.lt_succ_self _) (.slice A N C))
          have es : ((w3).setCell ⟨w.heap.size, 0, none⟩ (.slice A N C)).heap.size = (w3).heap.size := by simp [World.setCell]
          have t2 := (I3).top
          have t3 := (j1).top
          have t4 := (j2).top
          have iE := ((I3).fr HW.out (by omega)).widen (lo' := w.heap.size) (hi' := ((w3).setCell ⟨w.heap.size, 0, none⟩ (.slice A N C)).heap.size) (by omega) (by rw [es]; exact t2) (Nat.le_refl _)
          have jE := ((j1).fr HW.out (by omega)).widen (lo' := w.heap.size) (hi' := ((w3).setCell ⟨w.heap.size, 0, none⟩ (.slice A N C)).heap.size) (by omega) (by rw [es]; exact t3) (Nat.le_refl _)
          have mE := ((j2).fr HW.out (by omega)).widen (lo' := w.heap.size) (hi' := ((w3).setCell ⟨w.heap.size, 0, none⟩ (.slice A N C)).heap.size) (by omega) (by rw [es]; exact t4) (Nat.le_refl _)
          have hcE := ((hc3).fr HW.out (by omega)).mono (T' := T + 300) (by omega)
          have fE := (f4).setNew (p := ⟨w.heap.size, 0, none⟩) (Nat.le_refl _) (.slice A N C)
          exact bodyPost_ret (v := .tuple #[.agg #[.slice A N C], .slice A3 (N + 1) C3, .slice A2 N C2]) (by simp [results, Try.results123, go_sem, u3, u4]) rfl ⟨_, _, _, _, _, _, _, _, _, _, _, _, rfl, iE, jE, mE, by omega, hcE, fE⟩
        have t0 : (q == 0) = false := by rw [beq_eq_false_iff_ne]; exact h0
        by_cases h1 : q = 1
        · subst h1
          by_cases hN0 : 0 < N
          · have hk1 : (0 : Int) < ((N : Nat) : Int) := by omega
            have kL := keeps_alloc w2 (.cells #[.int .i64 100000, .int .i64 100001, .int .i64 (-100001)] 3)
            have L := lit_ints w2 [100000, 100001, (-100001)] (by decide)
            have hc3 := hc2.keeps kL
            have b23 := b22.keeps kL
            have b53 := b52.keeps kL
            have I3 := I2.keeps kL
            have d3 := hd2.fr (Fr.of_keeps kL 0 0) (Nat.zero_le _)
            have f4 := f3.keeps kL
            have sL := kL.size
            clear kL hc2 b22 b52 I2 hd2 f3
            go_wp2_with fail
            refine (among_any hc3 (by omega) L (by omega) (by decide) (by decide)).mono ?_
            rintro e w5 ⟨z, j, rfl, hj, hz, hc5, f5⟩
            clear hz hj
            have b25 := b23.fr f5 (by omega)
            have b55 := b53.fr f5 (by omega)
            have I5 := I3.fr f5 (by omega)
            have d5 := d3.fr f5 (by omega)
            have f6 := f4.trans f5
            have s5 := f5.size
            clear L hc3 b23 b53 I3 d3 f4 f5
            obtain ⟨g1, e1, hg1, m1⟩ := d5.h1.block hN0 (by omega)
            obtain ⟨g2, e2, hg2, m2⟩ := d5.h2.block hN0 (by omega)
            subst e1
            subst e2
            have hne : g1 ≠ g2 := fun e => d5.a12 g1 rfl (by rw [e]; rfl)
            obtain ⟨x0, hx0⟩ : ∃ x, w5.cell? ⟨g1, 0, none⟩ = some (.int .i64 x) := by
              obtain ⟨b', off', x, e', _, _, hcx, hh⟩ := m1.1.at_ (k := 0) hN0
              injection e' with e'; injection e' with e1 e2; subst e1; subst e2
              exact ⟨x, by simpa using hcx⟩
            have hfz := m1.2 g1 0 rfl 0 hN0
            have hset := m1.set_ (k := 0) hN0 z
            rw [Nat.add_zero] at hfz hset
            have HS := hid hset
            clear hset
            have I6 := I5.fr HS.out.2 (by omega)
            have b56 := b55.fr HS.out.2 (by omega)
            have b26 := b25.fr HS.out.2 (by omega)
            have hc6 := hc5.fr HS.out.2 (by omega)
            have f7 := f6.setNew (p := ⟨g1, 0, none⟩) (by show w.heap.size ≤ g1; omega) (.int .i64 z)
            have ms := hid HS.out.1
            have mo := hid (m2.1.fr HS.out.2 (by omega))
            clear HS I5 b55 b25 hc5 f6 d5
            obtain ⟨u1, u2⟩ := id b56
            obtain ⟨u3, u4⟩ := id b26
            go_wp2_with fail
            have HW := hid ((Fr.refl w.heap.size (w.heap.size + 1) ((w5.setCell ⟨g1, 0, none⟩ (.int .i64 z)))).setCell (p := ⟨w.heap.size, 0, none⟩) (Nat.le_refl _) (Nat.lt_succ_self _) (.slice A N C))
            have es : (((w5.setCell ⟨g1, 0, none⟩ (.int .i64 z))).setCell ⟨w.heap.size, 0, none⟩ (.slice A N C)).heap.size = ((w5.setCell ⟨g1, 0, none⟩ (.int .i64 z))).heap.size := by simp [World.setCell]
            have t2 := (I6).top
            have t3 := (ms.out.1).top
            have t4 := (mo.out).top
            have iE := ((I6).fr HW.out (by omega)).widen (lo' := w.heap.size) (hi' := (((w5.setCell ⟨g1, 0, none⟩ (.int .i64 z))).setCell ⟨w.heap.size, 0, none⟩ (.slice A N C)).heap.size) (by omega) (by rw [es]; exact t2) (Nat.le_refl _)
            have jE := ((ms.out.1).fr HW.out (by omega)).widen (lo' := w.heap.size) (hi' := (((w5.setCell ⟨g1, 0, none⟩ (.int .i64 z))).setCell ⟨w.heap.size, 0, none⟩ (.slice A N C)).heap.size) (by omega) (by rw [es]; exact t3) (Nat.le_refl _)
            have mE := ((mo.out).fr HW.out (by omega)).widen (lo' := w.heap.size) (hi' := (((w5.setCell ⟨g1, 0, none⟩ (.int .i64 z))).setCell ⟨w.heap.size, 0, none⟩ (.slice A N C)).heap.size) (by omega) (by rw [es]; exact t4) (Nat.le_refl _)
            have hcE := ((hc6).fr HW.out (by omega)).mono (T' := T + 300) (by omega)
            have fE := (f7).setNew (p := ⟨w.heap.size, 0, none⟩) (Nat.le_refl _) (.slice A N C)
            exact bodyPost_ret (v := .tuple #[.agg #[.slice A N C], .slice (some ⟨g1, 0, none⟩) N C1, .slice (some ⟨g2, 0, none⟩) N C2]) (by simp [results, Try.results123, go_sem, u3, u4]) rfl ⟨_, _, _, _, _, _, _, _, _, _, _, _, rfl, iE, jE, mE, by omega, hcE, fE⟩
          · have hk1 : ¬ (0 : Int) < ((N : Nat) : Int) := by omega
            first | (exfalso; omega) | skip
            all_goals
              obtain ⟨u1, u2⟩ := id b52
              obtain ⟨u3, u4⟩ := id b22
              go_wp2_with fail
              have HW := hid ((Fr.refl w.heap.size (w.heap.size + 1) (w2)).setCell (p := ⟨w.heap.size, 0, none⟩) (Nat.le_refl _) (Nat.lt_succ_self _) (.slice A N C))
              have es : ((w2).setCell ⟨w.heap.size, 0, none⟩ (.slice A N C)).heap.size = (w2).heap.size := by simp [World.setCell]
              have t2 := (I2).top
              have t3 := (i1).top
              have t4 := (i2).top
              have iE := ((I2).fr HW.out (by omega)).widen (lo' := w.heap.size) (hi' := ((w2).setCell ⟨w.heap.size, 0, none⟩ (.slice A N C)).heap.size) (by omega) (by rw [es]; exact t2) (Nat.le_refl _)
              have jE := ((i1).fr HW.out (by omega)).widen (lo' := w.heap.size) (hi' := ((w2).setCell ⟨w.heap.size, 0, none⟩ (.slice A N C)).heap.size) (by omega) (by rw [es]; exact t3) (Nat.le_refl _)
              have mE := ((i2).fr HW.out (by omega)).widen (lo' := w.heap.size) (hi' := ((w2).setCell ⟨w.heap.size, 0, none⟩ (.slice A N C)).heap.size) (by omega) (by rw [es]; exact t4) (Nat.le_refl _)
              have hcE := ((hc2).fr HW.out (by omega)).mono (T' := T + 300) (by omega)
              have fE := (f3).setNew (p := ⟨w.heap.size, 0, none⟩) (Nat.le_refl _) (.slice A N C)
              exact bodyPost_ret (v := .tuple #[.agg #[.slice A N C], .slice A1 N C1, .slice A2 N C2]) (by simp [results, Try.results123, go_sem, u3, u4]) rfl ⟨_, _, _, _, _, _, _, _, _, _, _, _, rfl, iE, jE, mE, by omega, hcE, fE⟩
        have t1 : (q == 1) = false := by rw [beq_eq_false_iff_ne]; exact h1
        by_cases h2 : q = 2
        · subst h2
          by_cases hN0 : 0 < N
          · have hk1 : (0 : Int) < ((N : Nat) : Int) := by omega
            have kL := keeps_alloc w2 (.cells #[.int .i64 0, .int .i64 100, .int .i64 101] 3)
            have L := lit_ints w2 [0, 100, 101] (by decide)
            have hc3 := hc2.keeps kL
            have b23 := b22.keeps kL
            have b53 := b52.keeps kL
            have I3 := I2.keeps kL
            have d3 := hd2.fr (Fr.of_keeps kL 0 0) (Nat.zero_le _)
            have f4 := f3.keeps kL
            have sL := kL.size
            clear kL hc2 b22 b52 I2 hd2 f3
            go_wp2_with fail
            refine (among_any hc3 (by omega) L (by omega) (by decide) (by decide)).mono ?_
            rintro e w5 ⟨z, j, rfl, hj, hz, hc5, f5⟩
            clear hz hj
            have b25 := b23.fr f5 (by omega)
            have b55 := b53.fr f5 (by omega)
            have I5 := I3.fr f5 (by omega)
            have d5 := d3.fr f5 (by omega)
            have f6 := f4.trans f5
            have s5 := f5.size
            clear L hc3 b23 b53 I3 d3 f4 f5
            obtain ⟨g1, e1, hg1, m1⟩ := d5.h1.block hN0 (by omega)
            obtain ⟨g2, e2, hg2, m2⟩ := d5.h2.block hN0 (by omega)
            subst e1
            subst e2
            have hne : g1 ≠ g2 := fun e => d5.a12 g1 rfl (by rw [e]; rfl)
            obtain ⟨x0, hx0⟩ : ∃ x, w5.cell? ⟨g2, 0, none⟩ = some (.int .i64 x) := by
              obtain ⟨b', off', x, e', _, _, hcx, hh⟩ := m2.1.at_ (k := 0) hN0
              injection e' with e'; injection e' with e1 e2; subst e1; subst e2
              exact ⟨x, by simpa using hcx⟩
            have hfz := m2.2 g2 0 rfl 0 hN0
            have hset := m2.set_ (k := 0) hN0 z
            rw [Nat.add_zero] at hfz hset
            have HS := hid hset
            clear hset
            have I6 := I5.fr HS.out.2 (by omega)
            have b56 := b55.fr HS.out.2 (by omega)
            have b26 := b25.fr HS.out.2 (by omega)
            have hc6 := hc5.fr HS.out.2 (by omega)
            have f7 := f6.setNew (p := ⟨g2, 0, none⟩) (by show w.heap.size ≤ g2; omega) (.int .i64 z)
            have ms := hid HS.out.1
            have mo := hid (m1.1.fr HS.out.2 (by omega))
            clear HS I5 b55 b25 hc5 f6 d5
            obtain ⟨u1, u2⟩ := id b56
            obtain ⟨u3, u4⟩ := id b26
            go_wp2_with fail
            have HW := hid ((Fr.refl w.heap.size (w.heap.size + 1) ((w5.setCell ⟨g2, 0, none⟩ (.int .i64 z)))).setCell (p := ⟨w.heap.size, 0, none⟩) (Nat.le_refl _) (Nat.lt_succ_self _) (.slice A N C))
            have es : (((w5.setCell ⟨g2, 0, none⟩ (.int .i64 z))).setCell ⟨w.heap.size, 0, none⟩ (.slice A N C)).heap.size = ((w5.setCell ⟨g2, 0, none⟩ (.int .i64 z))).heap.size := by simp [World.setCell]
            have t2 := (I6).top
            have t3 := (mo.out).top
            have t4 := (ms.out.1).top
            have iE := ((I6).fr HW.out (by omega)).widen (lo' := w.heap.size) (hi' := (((w5.setCell ⟨g2, 0, none⟩ (.int .i64 z))).setCell ⟨w.heap.size, 0, none⟩ (.slice A N C)).heap.size) (by omega) (by rw [es]; exact t2) (Nat.le_refl _)
            have jE := ((mo.out).fr HW.out (by omega)).widen (lo' := w.heap.size) (hi' := (((w5.setCell ⟨g2, 0, none⟩ (.int .i64 z))).setCell ⟨w.heap.size, 0, none⟩ (.slice A N C)).heap.size) (by omega) (by rw [es]; exact t3) (Nat.le_refl _)
            have mE := ((ms.out.1).fr HW.out (by omega)).widen (lo' := w.heap.size) (hi' := (((w5.setCell ⟨g2, 0, none⟩ (.int .i64 z))).setCell ⟨w.heap.size, 0, none⟩ (.slice A N C)).heap.size) (by omega) (by rw [es]; exact t4) (Nat.le_refl _)
            have hcE := ((hc6).fr HW.out (by omega)).mono (T' := T + 300) (by omega)
            have fE := (f7).setNew (p := ⟨w.heap.size, 0, none⟩) (Nat.le_refl _) (.slice A N C)
            exact bodyPost_ret (v := .tuple #[.agg #[.slice A N C], .slice (some ⟨g1, 0, none⟩) N C1, .slice (some ⟨g2, 0, none⟩) N C2]) (by simp [results, Try.results123, go_sem, u3, u4]) rfl ⟨_, _, _, _, _, _, _, _, _, _, _, _, rfl, iE, jE, mE, by omega, hcE, fE⟩
          · have hk1 : ¬ (0 : Int) < ((N : Nat) : Int) := by omega
            first | (exfalso; omega) | skip
            all_goals
              obtain ⟨u1, u2⟩ := id b52
              obtain ⟨u3, u4⟩ := id b22
              go_wp2_with fail
              have HW := hid ((Fr.refl w.heap.size (w.heap.size + 1) (w2)).setCell (p := ⟨w.heap.size, 0, none⟩) (Nat.le_refl _) (Nat.lt_succ_self _) (.slice A N C))
              have es : ((w2).setCell ⟨w.heap.size, 0, none⟩ (.slice A N C)).heap.size = (w2).heap.size := by simp [World.setCell]
              have t2 := (I2).top
              have t3 := (i1).top
              have t4 := (i2).top
              have iE := ((I2).fr HW.out (by omega)).widen (lo' := w.heap.size) (hi' := ((w2).setCell ⟨w.heap.size, 0, none⟩ (.slice A N C)).heap.size) (by omega) (by rw [es]; exact t2) (Nat.le_refl _)
              have jE := ((i1).fr HW.out (by omega)).widen (lo' := w.heap.size) (hi' := ((w2).setCell ⟨w.heap.size, 0, none⟩ (.slice A N C)).heap.size) (by omega) (by rw [es]; exact t3) (Nat.le_refl _)
              have mE := ((i2).fr HW.out (by omega)).widen (lo' := w.heap.size) (hi' := ((w2).setCell ⟨w.heap.size, 0, none⟩ (.slice A N C)).heap.size) (by omega) (by rw [es]; exact t4) (Nat.le_refl _)
              have hcE := ((hc2).fr HW.out (by omega)).mono (T' := T + 300) (by omega)
              have fE := (f3).setNew (p := ⟨w.heap.size, 0, none⟩) (Nat.le_refl _) (.slice A N C)
              exact bodyPost_ret (v := .tuple #[.agg #[.slice A N C], .slice A1 N C1, .slice A2 N C2]) (by simp [results, Try.results123, go_sem, u3, u4]) rfl ⟨_, _, _, _, _, _, _, _, _, _, _, _, rfl, iE, jE, mE, by omega, hcE, fE⟩
        have t2 : (q == 2) = false := by rw [beq_eq_false_iff_ne]; exact h2
        obtain ⟨u1, u2⟩ := id b52
        obtain ⟨u3, u4⟩ := id b22
        go_wp2_with fail
        have HW := hid ((Fr.refl w.heap.size (w.heap.size + 1) (w2)).setCell (p := ⟨w.heap.size, 0, none⟩) (Nat.le_refl _) (Nat.lt_succ_self _) (.slice A N C))
        have es : ((w2).setCell ⟨w.heap.size, 0, none⟩ (.slice A N C)).heap.size = (w2).heap.size := by simp [World.setCell]
        have t2 := (I2).top
        have t3 := (i1).top
        have t4 := (i2).top
        have iE := ((I2).fr HW.out (by omega)).widen (lo' := w.heap.size) (hi' := ((w2).setCell ⟨w.heap.size, 0, none⟩ (.slice A N C)).heap.size) (by omega) (by rw [es]; exact t2) (Nat.le_refl _)
        have jE := ((i1).fr HW.out (by omega)).widen (lo' := w.heap.size) (hi' := ((w2).setCell ⟨w.heap.size, 0, none⟩ (.slice A N C)).heap.size) (by omega) (by rw [es]; exact t3) (Nat.le_refl _)
        have mE := ((i2).fr HW.out (by omega)).widen (lo' := w.heap.size) (hi' := ((w2).setCell ⟨w.heap.size, 0, none⟩ (.slice A N C)).heap.size) (by omega) (by rw [es]; exact t4) (Nat.le_refl _)
        have hcE := ((hc2).fr HW.out (by omega)).mono (T' := T + 300) (by omega)
        have fE := (f3).setNew (p := ⟨w.heap.size, 0, none⟩) (Nat.le_refl _) (.slice A N C)
        exact bodyPost_ret (v := .tuple #[.agg #[.slice A N C], .slice A1 N C1, .slice A2 N C2]) (by simp [results, Try.results123, go_sem, u3, u4]) rfl ⟨_, _, _, _, _, _, _, _, _, _, _, _, rfl, iE, jE, mE, by omega, hcE, fE⟩
  · by_cases h9 : 9 < N
    · have h91 : (N : Int) > 9 := by omega
      have h92 : 9 ≤ C := by omega
      have I9 := hI2.front (k := 9) (by omega)
      have HW := hid ((Fr.refl w1.heap.size (w1.heap.size + 1) w0).setCell (p := ⟨w1.heap.size, 0, none⟩) (Nat.le_refl _) (Nat.lt_succ_self _) (.slice A 9 C))
      have J9 := I9.fr HW.out (by omega)
      have b9 := b2.fr HW.out (by omega)
      have c9 := hc2.fr HW.out (by omega)
      have f9 := f3.setNew (p := ⟨w1.heap.size, 0, none⟩) (by show w.heap.size ≤ w1.heap.size; omega) (.slice A 9 C)
      have b49 : B1 (w0.setCell ⟨w1.heap.size, 0, none⟩ (.slice A 9 C)) w1.heap.size (.slice A 9 C) := ⟨World.cell?_setCell_same _ _ _ z1, by simpa using z2⟩
      clear hI2 b2 hc2 f3 b4 I9
      go_wp2_with fail
      go_loopw [6, 7, 25] (fun v1 v2 i wr => ∃ (k : Nat) (ys zs : List Int), k ≤ 9 ∧ i = .int .i64 k ∧ Duo wr (w1.heap.size + 1) v1 v2 k k ys zs ∧ B1 wr w1.heap.size (.slice A 9 C) ∧ B1 wr w.heap.size (.slice none 0 0) ∧ Ints wr (w.heap.size + 1) w1.heap.size A 9 (xs.take 9) ∧ Cur wr g (T + 50 + 4 * k) ∧ Fr g (g + 1) w wr ∧ w1.heap.size + 1 ≤ wr.heap.size) (fun _ _ i _ => 9 - (intOf i).toNat)
      case atStart => exact ⟨0, [], [], Nat.zero_le _, rfl, Duo.nil_ _ _, b49, b9, J9, (c9).mono (by omega), f9, by first | omega | (simp [World.setCell]; omega)⟩
      clear J9 b49 b9 c9 f9
      case round =>
        obtain ⟨k, ys, zs, hk, rfl, hd, b5, b2, hI, hc, f, hs⟩ := hrel
        by_cases hlt : k < 9
        · have hi1 : (k : Int) < ((9 : Nat) : Int) := by omega
          go_wp2_with fail
          refine (pick_any hc (by omega) (by omega)).mono ?_
          rintro e w2 ⟨a, rfl, ha, hc2, f2⟩
          have hd2 := hd.fr f2 (by omega)
          have I2 := hI.fr f2 (by omega)
          have b52 := b5.fr f2 (by omega)
          have b22 := b2.fr f2 (by omega)
          have s2 := f2.size
          have f3 := f.trans f2
          clear hd hc f hI f2 b5 b2
          go_wp2_with (at_builtin; refine append_int_at (xs := ys) (u := a - 4) hd2.h1 (by omega) (by omega) _ _ rfl rfl rfl (by first | rfl | (simp <;> rfl)) ?_; intro v1' w3 p1 p2 p3)
          have b3 := below_grown hd2.h1 (by omega) p2
          have hd3 := hd2.one p1 p2 p3
          have hc3 := hc2.below b3 (by omega)
          have I3 := I2.below b3 (by omega)
          have b53 := b52.below b3 (by omega)
          have b23 := b22.below b3 (by omega)
          have f4 := f3.below b3 (by omega)
          have s3 := b3.size
          clear p1 p2 p3 b3 hd2 hc2 I2 f3 b52 b22
          go_wp2_with fail
          refine (pick_any hc3 (by omega) (by omega)).mono ?_
          rintro e w4 ⟨b, rfl, hb, hc4, f5⟩
          have hd4 := hd3.fr f5 (by omega)
          have I4 := I3.fr f5 (by omega)
          have b54 := b53.fr f5 (by omega)
          have b24 := b23.fr f5 (by omega)
          have s4 := f5.size
          have f6 := f4.trans f5
          clear hd3 hc3 f4 I3 f5 b53 b23
          have hb3 : 0 ≤ b ∧ b < 3 := by omega
          obtain ⟨u, HU⟩ : ∃ u, Hid (b.tdiv 2 = u) := ⟨_, rfl⟩
          have hu : 0 ≤ u ∧ u ≤ 1 := by
            rw [← HU.out]
            rcases (show b = 0 ∨ b = 1 ∨ b = 2 by omega) with rfl | rfl | rfl <;> decide
          have hu2 := HU.out
          go_wp2_with (at_builtin; refine append_int_at (xs := zs) (u := 1 + u) hd4.h2 (by omega) (by omega) _ _ rfl rfl rfl (by first | rfl | (simp <;> rfl)) ?_; intro v2' w5 p1 p2 p3)
          have b5' := below_grown hd4.h2 (by omega) p2
          have hd5 := hd4.two p1 p2 p3
          have hc5 := hc4.below b5' (by omega)
          have I5 := I4.below b5' (by omega)
          have b55 := b54.below b5' (by omega)
          have b25 := b24.below b5' (by omega)
          have f7 := f6.below b5' (by omega)
          have s5 := b5'.size
          clear p1 p2 p3 b5' hd4 hc4 I4 f6 b54 b24
          go_wp2
          go_roundw
          case rel => exact ⟨k + 1, _, _, by omega, by go_num, hd5, b55, b25, I5, hc5.mono (by omega), f7, by omega⟩
          case measure => simp [intOf]; omega
        · obtain rfl : 9 = k := by omega
          obtain ⟨A1, C1, rfl⟩ := hd.h1.form
          obtain ⟨A2, C2, rfl⟩ := hd.h2.form
          go_wp2_with fail
          refine (pick_any hc (by omega) (by omega)).mono ?_
          rintro e w2 ⟨q, rfl, hq, hc2, f2⟩
          have hd2 := hd.fr f2 (by omega)
          have I2 := hI.fr f2 (by omega)
          have b52 := b5.fr f2 (by omega)
          have b22 := b2.fr f2 (by omega)
          have s2 := f2.size
          have f3 := f.trans f2
          have i1 := (Mine.of_own hd2.h1 (by omega)).1
          have i2 := (Mine.of_own hd2.h2 (by omega)).1
          clear hd hc f hI f2 b5 b2 hq
          by_cases h0 : q = 0
          · subst h0
            have e3 : w1.heap.size < w1.heap.size + 1 := by omega
            have e4 : w.heap.size < w1.heap.size + 1 := by omega
            have e5 : w1.heap.size + 1 ≤ w2.heap.size := by omega
            go_wp2_with (at_builtin; refine append_int_at (xs := ys) (u := 0) hd2.h1 (by omega) (by omega) _ _ rfl rfl rfl (by first | rfl | (simp <;> rfl)) ?_; intro v1' w3 p1 p2 p3; have b3 := below_grown hd2.h1 e5 p2; have b53 := b52.below b3 e3; have b23 := b22.below b3 e4; obtain ⟨u1, u2⟩ := id b53; obtain ⟨u3, u4⟩ := id b23; have fm := Has.form p1; obtain ⟨A3, C3, ev⟩ := fm; subst ev)
            have hd3 := hd2.one p1 p2 p3
            have hc3 := hc2.below b3 (by omega)
            have I3 := I2.below b3 (by omega)
            have f4 := f3.below b3 (by omega)
            have s3 := b3.size
            have j1 := (Mine.of_own hd3.h1 (by omega)).1
            have j2 := (Mine.of_own hd3.h2 (by omega)).1
            clear p1 p2 p3 b3 hd2 hc2 I2 f3 i1 i2
            have HW := hid ((Fr.refl w.heap.size (w.heap.size + 1) (w3)).setCell (p := ⟨w.heap.size, 0, none⟩) (Nat.le_refl _) (Nat.lt_succ_self _) (.slice A 9 C))
            have es : ((w3).setCell ⟨w.heap.size, 0, none⟩ (.slice A 9 C)).heap.size = (w3).heap.size := by simp [World.setCell]
            have t2 := (I3).top
            have t3 := (j1).top
            have t4 := (j2).top
            have iE := ((I3).fr HW.out (by omega)).widen (lo' := w.heap.size) (hi' := ((w3).setCell ⟨w.heap.size, 0, none⟩ (.slice A 9 C)).heap.size) (by omega) (by rw [es]; exact t2) (Nat.le_refl _)
            have jE := ((j1).fr HW.out (by omega)).widen (lo' := w.heap.size) (hi' := ((w3).setCell ⟨w.heap.size, 0, none⟩ (.slice A 9 C)).heap.size) (by omega) (by rw [es]; exact t3) (Nat.le_refl _)
            have mE := ((j2).fr HW.out (by omega)).widen (lo' := w.heap.size) (hi' := ((w3).setCell ⟨w.heap.size, 0, none⟩ (.slice A 9 C)).heap.size) (by omega) (by rw [es]; exact t4) (Nat.le_refl _)
            have hcE := ((hc3).fr HW.out (by omega)).mono (T' := T + 300) (by omega)
            have fE := (f4).setNew (p := ⟨w.heap.size, 0, none⟩) (Nat.le_refl _) (.slice A 9 C)
            exact bodyPost_ret (v := .tuple #[.agg #[.slice A 9 C], .slice A3 (9 + 1) C3, .slice A2 9 C2]) (by simp [results, Try.results123, go_sem, u3, u4]) rfl ⟨_, _, _, _, _, _, _, _, _, _, _, _, rfl, iE, jE, mE, by omega, hcE, fE⟩
          have t0 : (q == 0) = false := by rw [beq_eq_false_iff_ne]; exact h0
          by_cases h1 : q = 1
          · subst h1
            by_cases hN0 : 0 < 9
            · have hk1 : (0 : Int) < ((9 : Nat) : Int) := by omega
              have kL := keeps_alloc w2 (.cells #[.int .i64 100000, .int .i64 100001, .int .i64 (-100001)] 3)
              have L := lit_ints w2 [100000, 100001, (-100001)] (by decide)
              have hc3 := hc2.keeps kL
              have b23 := b22.keeps kL
              have b53 := b52.keeps kL
              have I3 := I2.keeps kL
              have d3 := hd2.fr (Fr.of_keeps kL 0 0) (Nat.zero_le _)
              have f4 := f3.keeps kL
              have sL := kL.size
              clear kL hc2 b22 b52 I2 hd2 f3
              go_wp2_with fail
              refine (among_any hc3 (by omega) L (by omega) (by decide) (by decide)).mono ?_
              rintro e w5 ⟨z, j, rfl, hj, hz, hc5, f5⟩
              clear hz hj
              have b25 := b23.fr f5 (by omega)
              have b55 := b53.fr f5 (by omega)
              have I5 := I3.fr f5 (by omega)
              have d5 := d3.fr f5 (by omega)
              have f6 := f4.trans f5
              have s5 := f5.size
              clear L hc3 b23 b53 I3 d3 f4 f5
              obtain ⟨g1, e1, hg1, m1⟩ := d5.h1.block hN0 (by omega)
              obtain ⟨g2, e2, hg2, m2⟩ := d5.h2.block hN0 (by omega)
              subst e1
              subst e2
              have hne : g1 ≠ g2 := fun e => d5.a12 g1 rfl (by rw [e]; rfl)
              obtain ⟨x0, hx0⟩ : ∃ x, w5.cell? ⟨g1, 0, none⟩ = some (.int .i64 x) := by
                obtain ⟨b', off', x, e', _, _, hcx, hh⟩ := m1.1.at_ (k := 0) hN0
                injection e' with e'; injection e' with e1 e2; subst e1; subst e2
                exact ⟨x, by simpa using hcx⟩
              have hfz := m1.2 g1 0 rfl 0 hN0
              have hset := m1.set_ (k := 0) hN0 z
              rw [Nat.add_zero] at hfz hset
              have HS := hid hset
              clear hset
              have I6 := I5.fr HS.out.2 (by omega)
              have b56 := b55.fr HS.out.2 (by omega)
              have b26 := b25.fr HS.out.2 (by omega)
              have hc6 := hc5.fr HS.out.2 (by omega)
              have f7 := f6.setNew (p := ⟨g1, 0, none⟩) (by show w.heap.size ≤ g1; omega) (.int .i64 z)
              have ms := hid HS.out.1
              have mo := hid (m2.1.fr HS.out.2 (by omega))
              clear HS I5 b55 b25 hc5 f6 d5
              obtain ⟨u1, u2⟩ := id b56
              obtain ⟨u3, u4⟩ := id b26
              go_wp2_with fail
              have HW := hid ((Fr.refl w.heap.size (w.heap.size + 1) ((w5.setCell ⟨g1, 0, none⟩ (.int .i64 z)))).setCell (p := ⟨w.heap.size, 0, none⟩) (Nat.le_refl _) (Nat.lt_succ_self _) (.slice A 9 C))
              have es : (((w5.setCell ⟨g1, 0, none⟩ (.int .i64 z))).setCell ⟨w.heap.size, 0, none⟩ (.slice A 9 C)).heap.size = ((w5.setCell ⟨g1, 0, none⟩ (.int .i64 z))).heap.size := by simp [World.setCell]
              have t2 := (I6).top
              have t3 := (ms.out.1).top
              have t4 := (mo.out).top
              have iE := ((I6).fr HW.out (by omega)).widen (lo' := w.heap.size) (hi' := (((w5.setCell ⟨g1, 0, none⟩ (.int .i64 z))).setCell ⟨w.heap.size, 0, none⟩ (.slice A 9 C)).heap.size) (by omega) (by rw [es]; exact t2) (Nat.le_refl _)
              have jE := ((ms.out.1).fr HW.out (by omega)).widen (lo' := w.heap.size) (hi' := (((w5.setCell ⟨g1, 0, none⟩ (.int .i64 z))).setCell ⟨w.heap.size, 0, none⟩ (.slice A 9 C)).heap.size) (by omega) (by rw [es]; exact t3) (Nat.le_refl _)
              have mE := ((mo.out).fr HW.out (by omega)).widen (lo' := w.heap.size) (hi' := (((w5.setCell ⟨g1, 0, none⟩ (.int .i64 z))).setCell ⟨w.heap.size, 0, none⟩ (.slice A 9 C)).heap.size) (by omega) (by rw [es]; exact t4) (Nat.le_refl _)
              have hcE := ((hc6).fr HW.out (by omega)).mono (T' := T + 300) (by omega)
              have fE := (f7).setNew (p := ⟨w.heap.size, 0, none⟩) (Nat.le_refl _) (.slice A 9 C)
              exact bodyPost_ret (v := .tuple #[.agg #[.slice A 9 C], .slice (some ⟨g1, 0, none⟩) 9 C1, .slice (some ⟨g2, 0, none⟩) 9 C2]) (by simp [results, Try.results123, go_sem, u3, u4]) rfl ⟨_, _, _, _, _, _, _, _, _, _, _, _, rfl, iE, jE, mE, by omega, hcE, fE⟩
            · have hk1 : ¬ (0 : Int) < ((9 : Nat) : Int) := by omega
              first | (exfalso; omega) | skip
              all_goals
                obtain ⟨u1, u2⟩ := id b52
                obtain ⟨u3, u4⟩ := id b22
                go_wp2_with fail
                have HW := hid ((Fr.refl w.heap.size (w.heap.size + 1) (w2)).setCell (p := ⟨w.heap.size, 0, none⟩) (Nat.le_refl _) (Nat.lt_succ_self _) (.slice A 9 C))
                have es : ((w2).setCell ⟨w.heap.size, 0, none⟩ (.slice A 9 C)).heap.size = (w2).heap.size := by simp [World.setCell]
                have t2 := (I2).top
                have t3 := (i1).top
                have t4 := (i2).top
                have iE := ((I2).fr HW.out (by omega)).widen (lo' := w.heap.size) (hi' := ((w2).setCell ⟨w.heap.size, 0, none⟩ (.slice A 9 C)).heap.size) (by omega) (by rw [es]; exact t2) (Nat.le_refl _)
                have jE := ((i1).fr HW.out (by omega)).widen (lo' := w.heap.size) (hi' := ((w2).setCell ⟨w.heap.size, 0, none⟩ (.slice A 9 C)).heap.size) (by omega) (by rw [es]; exact t3) (Nat.le_refl _)
                have mE := ((i2).fr HW.out (by omega)).widen (lo' := w.heap.size) (hi' := ((w2).setCell ⟨w.heap.size, 0, none⟩ (.slice A 9 C)).heap.size) (by omega) (by rw [es]; exact t4) (Nat.le_refl _)
                have hcE := ((hc2).fr HW.out (by omega)).mono (T' := T + 300) (by omega)
                have fE := (f3).setNew (p := ⟨w.heap.size, 0, none⟩) (Nat.le_refl _) (.slice A 9 C)
                exact bodyPost_ret (v := .tuple #[.agg #[.slice A 9 C], .slice A1 9 C1, .slice A2 9 C2]) (by simp [results, Try.results123, go_sem, u3, u4]) rfl ⟨_, _, _, _, _, _, _, _, _, _, _, _, rfl, iE, jE, mE, by omega, hcE, fE⟩
          have t1 : (q == 1) = false := by rw [beq_eq_false_iff_ne]; exact h1
          by_cases h2 : q = 2
          · subst h2
            by_cases hN0 : 0 < 9
            · have hk1 : (0 : Int) < ((9 : Nat) : Int) := by omega
              have kL := keeps_alloc w2 (.cells #[.int .i64 0, .int .i64 100, .int .i64 101] 3)
              have L := lit_ints w2 [0, 100, 101] (by decide)
              have hc3 := hc2.keeps kL
              have b23 := b22.keeps kL
              have b53 := b52.keeps kL
              have I3 := I2.keeps kL
              have d3 := hd2.fr (Fr.of_keeps kL 0 0) (Nat.zero_le _)
              have f4 := f3.keeps kL
              have sL := kL.size
              clear kL hc2 b22 b52 I2 hd2 f3
              go_wp2_with fail
              refine (among_any hc3 (by omega) L (by omega) (by decide) (by decide)).mono ?_
              rintro e w5 ⟨z, j, rfl, hj, hz, hc5, f5⟩
              clear hz hj
              have b25 := b23.fr f5 (by omega)
              have b55 := b53.fr f5 (by omega)
              have I5 := I3.fr f5 (by omega)
              have d5 := d3.fr f5 (by omega)
              have f6 := f4.trans f5
              have s5 := f5.size
              clear L hc3 b23 b53 I3 d3 f4 f5
              obtain ⟨g1, e1, hg1, m1⟩ := d5.h1.block hN0 (by omega)
              obtain ⟨g2, e2, hg2, m2⟩ := d5.h2.block hN0 (by omega)
              subst e1
              subst e2
              have hne : g1 ≠ g2 := fun e => d5.a12 g1 rfl (by rw [e]; rfl)
              obtain ⟨x0, hx0⟩ : ∃ x, w5.cell? ⟨g2, 0, none⟩ = some (.int .i64 x) := by
                obtain ⟨b', off', x, e', _, _, hcx, hh⟩ := m2.1.at_ (k := 0) hN0
                injection e' with e'; injection e' with e1 e2; subst e1; subst e2
                exact ⟨x, by simpa using hcx⟩
              have hfz := m2.2 g2 0 rfl 0 hN0
              have hset := m2.set_ (k := 0) hN0 z
              rw [Nat.add_zero] at hfz hset
              have HS := hid hset
              clear hset
              have I6 := I5.fr HS.out.2 (by omega)
              have b56 := b55.fr HS.out.2 (by omega)
              have b26 := b25.fr HS.out.2 (by omega)
              have hc6 := hc5.fr HS.out.2 (by omega)
              have f7 := f6.setNew (p := ⟨g2, 0, none⟩) (by show w.heap.size ≤ g2; omega) (.int .i64 z)
              have ms := hid HS.out.1
              have mo := hid (m1.1.fr HS.out.2 (by omega))
              clear HS I5 b55 b25 hc5 f6 d5
              obtain ⟨u1, u2⟩ := id b56
              obtain ⟨u3, u4⟩ := id b26
              go_wp2_with fail
              have HW := hid ((Fr.refl w.heap.size (w.heap.size + 1) ((w5.setCell ⟨g2, 0, none⟩ (.int .i64 z)))).setCell (p := ⟨w.heap.size, 0, none⟩) (Nat.le_refl _) (Nat.lt_succ_self _) (.slice A 9 C))
              have es : (((w5.setCell ⟨g2, 0, none⟩ (.int .i64 z))).setCell ⟨w.heap.size, 0, none⟩ (.slice A 9 C)).heap.size = ((w5.setCell ⟨g2, 0, none⟩ (.int .i64 z))).heap.size := by simp [World.setCell]
              have t2 := (I6).top
              have t3 := (mo.out).top
              have t4 := (ms.out.1).top
              have iE := ((I6).fr HW.out (by omega)).widen (lo' := w.heap.size) (hi' := (((w5.setCell ⟨g2, 0, none⟩ (.int .i64 z))).setCell ⟨w.heap.size, 0, none⟩ (.slice A 9 C)).heap.size) (by omega) (by rw [es]; exact t2) (Nat.le_refl _)
              have jE := ((mo.out).fr HW.out (by omega)).widen (lo' := w.heap.size) (hi' := (((w5.setCell ⟨g2, 0, none⟩ (.int .i64 z))).setCell ⟨w.heap.size, 0, none⟩ (.slice A 9 C)).heap.size) (by omega) (by rw [es]; exact t3) (Nat.le_refl _)
              have mE := ((ms.out.1).fr HW.out (by omega)).widen (lo' := w.heap.size) (hi' := (((w5.setCell ⟨g2, 0, none⟩ (.int .i64 z))).setCell ⟨w.heap.size, 0, none⟩ (.slice A 9 C)).heap.size) (by omega) (by rw [es]; exact t4) (Nat.le_refl _)
              have hcE := ((hc6).fr HW.out (by omega)).mono (T' := T + 300) (by omega)
              have fE := (f7).setNew (p := ⟨w.heap.size, 0, none⟩) (Nat.le_refl _) (.slice A 9 C)
              exact bodyPost_ret (v := .tuple #[.agg #[.slice A 9 C], .slice (some ⟨g1, 0, none⟩) 9 C1, .slice (some ⟨g2, 0, none⟩) 9 C2]) (by simp [results, Try.results123, go_sem, u3, u4]) rfl ⟨_, _, _, _, _, _, _, _, _, _, _, _, rfl, iE, jE, mE, by omega, hcE, fE⟩
            · have hk1 : ¬ (0 : Int) < ((9 : Nat) : Int) := by omega
              first | (exfalso; omega) | skip
              all_goals
                obtain ⟨u1, u2⟩ := id b52
                obtain ⟨u3, u4⟩ := id b22
                go_wp2_with fail
                have HW := hid ((Fr.refl w.heap.size (w.heap.size + 1) (w2)).setCell (p := ⟨w.heap.size, 0, none⟩) (Nat.le_refl _) (Nat.lt_succ_self _) (.slice A 9 C))
                have es : ((w2).setCell ⟨w.heap.size, 0, none⟩ (.slice A 9 C)).heap.size = (w2).heap.size := by simp [World.setCell]
                have t2 := (I2).top
                have t3 := (i1).top
                have t4 := (i2).top
                have iE := ((I2).fr HW.out (by omega)).widen (lo' := w.heap.size) (hi' := ((w2).setCell ⟨w.heap.size, 0, none⟩ (.slice A 9 C)).heap.size) (by omega) (by rw [es]; exact t2) (Nat.le_refl _)
                have jE := ((i1).fr HW.out (by omega)).widen (lo' := w.heap.size) (hi' := ((w2).setCell ⟨w.heap.size, 0, none⟩ (.slice A 9 C)).heap.size) (by omega) (by rw [es]; exact t3) (Nat.le_refl _)
                have mE := ((i2).fr HW.out (by omega)).widen (lo' := w.heap.size) (hi' := ((w2).setCell ⟨w.heap.size, 0, none⟩ (.slice A 9 C)).heap.size) (by omega) (by rw [es]; exact t4) (Nat.le_refl _)
                have hcE := ((hc2).fr HW.out (by omega)).mono (T' := T + 300) (by omega)
                have fE := (f3).setNew (p := ⟨w.heap.size, 0, none⟩) (Nat.le_refl _) (.slice A 9 C)
                exact bodyPost_ret (v := .tuple #[.agg #[.slice A 9 C], .slice A1 9 C1, .slice A2 9 C2]) (by simp [results, Try.results123, go_sem, u3, u4]) rfl ⟨_, _, _, _, _, _, _, _, _, _, _, _, rfl, iE, jE, mE, by omega, hcE, fE⟩
          have t2 : (q == 2) = false := by rw [beq_eq_false_iff_ne]; exact h2
          obtain ⟨u1, u2⟩ := id b52
          obtain ⟨u3, u4⟩ := id b22
          go_wp2_with fail
          have HW := hid ((Fr.refl w.heap.size (w.heap.size + 1) (w2)).setCell (p := ⟨w.heap.size, 0, none⟩) (Nat.le_refl _) (Nat.lt_succ_self _) (.slice A 9 C))
          have es : ((w2).setCell ⟨w.heap.size, 0, none⟩ (.slice A 9 C)).heap.size = (w2).heap.size := by simp [World.setCell]
          have t2 := (I2).top
          have t3 := (i1).top
          have t4 := (i2).top
          have iE := ((I2).fr HW.out (by omega)).widen (lo' := w.heap.size) (hi' := ((w2).setCell ⟨w.heap.size, 0, none⟩ (.slice A 9 C)).heap.size) (by omega) (by rw [es]; exact t2) (Nat.le_refl _)
          have jE := ((i1).fr HW.out (by omega)).widen (lo' := w.heap.size) (hi' := ((w2).setCell ⟨w.heap.size, 0, none⟩ (.slice A 9 C)).heap.size) (by omega) (by rw [es]; exact t3) (Nat.le_refl _)
          have mE := ((i2).fr HW.out (by omega)).widen (lo' := w.heap.size) (hi' := ((w2).setCell ⟨w.heap.size, 0, none⟩ (.slice A 9 C)).heap.size) (by omega) (by rw [es]; exact t4) (Nat.le_refl _)
          have hcE := ((hc2).fr HW.out (by omega)).mono (T' := T + 300) (by omega)
          have fE := (f3).setNew (p := ⟨w.heap.size, 0, none⟩) (Nat.le_refl _) (.slice A 9 C)
          exact bodyPost_ret (v := .tuple #[.agg #[.slice A 9 C], .slice A1 9 C1, .slice A2 9 C2]) (by simp [results, Try.results123, go_sem, u3, u4]) rfl ⟨_, _, _, _, _, _, _, _, _, _, _, _, rfl, iE, jE, mE, by omega, hcE, fE⟩
    · have h91 : ¬ (N : Int) > 9 := by omega
      go_wp2_with fail
      go_loopw [6, 7, 25] (fun v1 v2 i wr => ∃ (k : Nat) (ys zs : List Int), k ≤ N ∧ i = .int .i64 k ∧ Duo wr (w1.heap.size + 1) v1 v2 k k ys zs ∧ B1 wr w1.heap.size (.slice A N C) ∧ B1 wr w.heap.size (.slice none 0 0) ∧ Ints wr (w.heap.size + 1) w1.heap.size A N xs ∧ Cur wr g (T + 50 + 4 * k) ∧ Fr g (g + 1) w wr ∧ w1.heap.size + 1 ≤ wr.heap.size) (fun _ _ i _ => N - (intOf i).toNat)
      case atStart => exact ⟨0, [], [], Nat.zero_le _, rfl, Duo.nil_ _ _, b4, b2, hI2, (hc2).mono (by omega), f3, by first | omega | (simp [World.setCell]; omega)⟩
      clear hI2 b4 b2 hc2 f3
      case round =>
        obtain ⟨k, ys, zs, hk, rfl, hd, b5, b2, hI, hc, f, hs⟩ := hrel
        by_cases hlt : k < N
        · have hi1 : (k : Int) < ((N : Nat) : Int) := by omega
          go_wp2_with fail
          refine (pick_any hc (by omega) (by omega)).mono ?_
          rintro e w2 ⟨a, rfl, ha, hc2, f2⟩
          have hd2 := hd.fr f2 (by omega)
          have I2 := hI.fr f2 (by omega)
          have b52 := b5.fr f2 (by omega)
          have b22 := b2.fr f2 (by omega)
          have s2 := f2.size
          have f3 := f.trans f2
          clear hd hc f hI f2 b5 b2
          go_wp2_with (at_builtin; refine append_int_at (xs := ys) (u := a - 4) hd2.h1 (by omega) (by omega) _ _ rfl rfl rfl (by first | rfl | (simp <;> rfl)) ?_; intro v1' w3 p1 p2 p3)
          have b3 := below_grown hd2.h1 (by omega) p2
          have hd3 := hd2.one p1 p2 p3
          have hc3 := hc2.below b3 (by omega)
          have I3 := I2.below b3 (by omega)
          have b53 := b52.below b3 (by omega)
          have b23 := b22.below b3 (by omega)
          have f4 := f3.below b3 (by omega)
          have s3 := b3.size
          clear p1 p2 p3 b3 hd2 hc2 I2 f3 b52 b22
          go_wp2_with fail
          refine (pick_any hc3 (by omega) (by omega)).mono ?_
          rintro e w4 ⟨b, rfl, hb, hc4, f5⟩
          have hd4 := hd3.fr f5 (by omega)
          have I4 := I3.fr f5 (by omega)
          have b54 := b53.fr f5 (by omega)
          have b24 := b23.fr f5 (by omega)
          have s4 := f5.size
          have f6 := f4.trans f5
          clear hd3 hc3 f4 I3 f5 b53 b23
          have hb3 : 0 ≤ b ∧ b < 3 := by omega
          obtain ⟨u, HU⟩ : ∃ u, Hid (b.tdiv 2 = u) := ⟨_, rfl⟩
          have hu : 0 ≤ u ∧ u ≤ 1 := by
            rw [← HU.out]
            rcases (show b = 0 ∨ b = 1 ∨ b = 2 by omega) with rfl | rfl | rfl <;> decide
          have hu2 := HU.out
          go_wp2_with (at_builtin; refine append_int_at (xs := zs) (u := 1 + u) hd4.h2 (by omega) (by omega) _ _ rfl rfl rfl (by first | rfl | (simp <;> rfl)) ?_; intro v2' w5 p1 p2 p3)
          have b5' := below_grown hd4.h2 (by omega) p2
          have hd5 := hd4.two p1 p2 p3
          have hc5 := hc4.below b5' (by omega)
          have I5 := I4.below b5' (by omega)
          have b55 := b54.below b5' (by omega)
          have b25 := b24.below b5' (by omega)
          have f7 := f6.below b5' (by omega)
          have s5 := b5'.size
          clear p1 p2 p3 b5' hd4 hc4 I4 f6 b54 b24
          go_wp2
          go_roundw
          case rel => exact ⟨k + 1, _, _, by omega, by go_num, hd5, b55, b25, I5, hc5.mono (by omega), f7, by omega⟩
          case measure => simp [intOf]; omega
        · obtain rfl : N = k := by omega
          obtain ⟨A1, C1, rfl⟩ := hd.h1.form
          obtain ⟨A2, C2, rfl⟩ := hd.h2.form
          go_wp2_with fail
          refine (pick_any hc (by omega) (by omega)).mono ?_
          rintro e w2 ⟨q, rfl, hq, hc2, f2⟩
          have hd2 := hd.fr f2 (by omega)
          have I2 := hI.fr f2 (by omega)
          have b52 := b5.fr f2 (by omega)
          have b22 := b2.fr f2 (by omega)
          have s2 := f2.size
          have f3 := f.trans f2
          have i1 := (Mine.of_own hd2.h1 (by omega)).1
          have i2 := (Mine.of_own hd2.h2 (by omega)).1
          clear hd hc f hI f2 b5 b2 hq
          by_cases h0 : q = 0
          · subst h0
            have e3 : w1.heap.size < w1.heap.size + 1 := by omega
            have e4 : w.heap.size < w1.heap.size + 1 := by omega
            have e5 : w1.heap.size + 1 ≤ w2.heap.size := by omega
            go_wp2_with (at_builtin; refine append_int_at (xs := ys) (u := 0) hd2.h1 (by omega) (by omega) _ _ rfl rfl rfl (by first | rfl | (simp <;> rfl)) ?_; intro v1' w3 p1 p2 p3; have b3 := below_grown hd2.h1 e5 p2; have b53 := b52.below b3 e3; have b23 := b22.below b3 e4; obtain ⟨u1, u2⟩ := id b53; obtain ⟨u3, u4⟩ := id b23; have fm := Has.form p1; obtain ⟨A3, C3, ev⟩ := fm; subst ev)
            have hd3 := hd2.one p1 p2 p3
            have hc3 := hc2.below b3 (by omega)
            have I3 := I2.below b3 (by omega)
            have f4 := f3.below b3 (by omega)
            have s3 := b3.size
            have j1 := (Mine.of_own hd3.h1 (by omega)).1
            have j2 := (Mine.of_own hd3.h2 (by omega)).1
            clear p1 p2 p3 b3 hd2 hc2 I2 f3 i1 i2
            have HW := hid ((Fr.refl w.heap.size (w.heap.size + 1) (w3)).setCell (p := ⟨w.heap.size, 0, none⟩) (Nat.le_refl _) (Nat.lt_succ_self _) (.slice A N C))
            have es : ((w3).setCell ⟨w.heap.size, 0, none⟩ (.slice A N C)).heap.size = (w3).heap.size := by simp [World.setCell]
            have t2 := (I3).top
            have t3 := (j1).top
            have t4 := (j2).top
            have iE := ((I3).fr HW.out (by omega)).widen (lo' := w.heap.size) (hi' := ((w3).setCell ⟨w.heap.size, 0, none⟩ (.slice A N C)).heap.size) (by omega) (by rw [es]; exact t2) (Nat.le_refl _)
            have jE := ((j1).fr HW.out (by omega)).widen (lo' := w.heap.size) (hi' := ((w3).setCell ⟨w.heap.size, 0, none⟩ (.slice A N C)).heap.size) (by omega) (by rw [es]; exact t3) (Nat.le_refl _)
            have mE := ((j2).fr HW.out (by omega)).widen (lo' := w.heap.size) (hi' := ((w3).setCell ⟨w.heap.size, 0, none⟩ (.slice A N C)).heap.size) (by omega) (by rw [es]; exact t4) (Nat.le_refl _)
            have hcE := ((hc3).fr HW.out (by omega)).mono (T' := T + 300) (by omega)
            have fE := (f4).setNew (p := ⟨w.heap.size, 0, none⟩) (Nat.le_refl _) (.slice A N C)
            exact bodyPost_ret (v := .tuple #[.agg #[.slice A N C], .slice A3 (N + 1) C3, .slice A2 N C2]) (by simp [results, Try.results123, go_sem, u3, u4]) rfl ⟨_, _, _, _, _, _, _, _, _, _, _, _, rfl, iE, jE, mE, by omega, hcE, fE⟩
          have t0 : (q == 0) = false := by rw [beq_eq_false_iff_ne]; exact h0
          by_cases h1 : q = 1
          · subst h1
            by_cases hN0 : 0 < N
            · have hk1 : (0 : Int) < ((N : Nat) : Int) := by omega
              have kL := keeps_alloc w2 (.cells #[.int .i64 100000, .int .i64 100001, .int .i64 (-100001)] 3)
              have L := lit_ints w2 [100000, 100001, (-100001)] (by decide)
              have hc3 := hc2.keeps kL
              have b23 := b22.keeps kL
              have b53 := b52.keeps kL
              have I3 := I2.keeps kL
              have d3 := hd2.fr (Fr.of_keeps kL 0 0) (Nat.zero_le _)
              have f4 := f3.keeps kL
              have sL := kL.size
              clear kL hc2 b22 b52 I2 hd2 f3
              go_wp2_with fail
              refine (among_any hc3 (by omega) L (by omega) (by decide) (by decide)).mono ?_
              rintro e w5 ⟨z, j, rfl, hj, hz, hc5, f5⟩
              clear hz hj
              have b25 := b23.fr f5 (by omega)
              have b55 := b53.fr f5 (by omega)
              have I5 := I3.fr f5 (by omega)
              have d5 := d3.fr f5 (by omega)
              have f6 := f4.trans f5
              have s5 := f5.size
              clear L hc3 b23 b53 I3 d3 f4 f5
              obtain ⟨g1, e1, hg1, m1⟩ := d5.h1.block hN0 (by omega)
              obtain ⟨g2, e2, hg2, m2⟩ := d5.h2.block hN0 (by omega)
              subst e1
              subst e2
              have hne : g1 ≠ g2 := fun e => d5.a12 g1 rfl (by rw [e]; rfl)
              obtain ⟨x0, hx0⟩ : ∃ x, w5.cell? ⟨g1, 0, none⟩ = some (.int .i64 x) := by
                obtain ⟨b', off', x, e', _, _, hcx, hh⟩ := m1.1.at_ (k := 0) hN0
                injection e' with e'; injection e' with e1 e2; subst e1; subst e2
                exact ⟨x, by simpa using hcx⟩
              have hfz := m1.2 g1 0 rfl 0 hN0
              have hset := m1.set_ (k := 0) hN0 z
              rw [Nat.add_zero] at hfz hset
              have HS := hid hset
              clear hset
              have I6 := I5.fr HS.out.2 (by omega)
              have b56 := b55.fr HS.out.2 (by omega)
              have b26 := b25.fr HS.out.2 (by omega)
              have hc6 := hc5.fr HS.out.2 (by omega)
              have f7 := f6.setNew (p := ⟨g1, 0, none⟩) (by show w.heap.size ≤ g1; omega) (.int .i64 z)
              have ms := hid HS.out.1
              have mo := hid (m2.1.fr HS.out.2 (by omega))
              clear HS I5 b55 b25 hc5 f6 d5
              obtain ⟨u1, u2⟩ := id b56
              obtain ⟨u3, u4⟩ := id b26
              go_wp2_with fail
              have HW := hid ((Fr.refl w.heap.size (w.heap.size + 1) ((w5.setCell ⟨g1, 0, none⟩ (.int .i64 z)))).setCell (p := ⟨w.heap.size, 0, none⟩) (Nat.le_refl _) (Nat.lt_succ_self _) (.slice A N C))
              have es : (((w5.setCell ⟨g1, 0, none⟩ (.int .i64 z))).setCell ⟨w.heap.size, 0, none⟩ (.slice A N C)).heap.size = ((w5.setCell ⟨g1, 0, none⟩ (.int .i64 z))).heap.size := by simp [World.setCell]
              have t2 := (I6).top
              have t3 := (ms.out.1).top
              have t4 := (mo.out).top
              have iE := ((I6).fr HW.out (by omega)).widen (lo' := w.heap.size) (hi' := (((w5.setCell ⟨g1, 0, none⟩ (.int .i64 z))).setCell ⟨w.heap.size, 0, none⟩ (.slice A N C)).heap.size) (by omega) (by rw [es]; exact t2) (Nat.le_refl _)
              have jE := ((ms.out.1).fr HW.out (by omega)).widen (lo' := w.heap.size) (hi' := (((w5.setCell ⟨g1, 0, none⟩ (.int .i64 z))).setCell ⟨w.heap.size, 0, none⟩ (.slice A N C)).heap.size) (by omega) (by rw [es]; exact t3) (Nat.le_refl _)
              have mE := ((mo.out).fr HW.out (by omega)).widen (lo' := w.heap.size) (hi' := (((w5.setCell ⟨g1, 0, none⟩ (.int .i64 z))).setCell ⟨w.heap.size, 0, none⟩ (.slice A N C)).heap.size) (by omega) (by rw [es]; exact t4) (Nat.le_refl _)
              have hcE := ((hc6).fr HW.out (by omega)).mono (T' := T + 300) (by omega)
              have fE := (f7).setNew (p := ⟨w.heap.size, 0, none⟩) (Nat.le_refl _) (.slice A N C)
              exact bodyPost_ret (v := .tuple #[.agg #[.slice A N C], .slice (some ⟨g1, 0, none⟩) N C1, .slice (some ⟨g2, 0, none⟩) N C2]) (by simp [results, Try.results123, go_sem, u3, u4]) rfl ⟨_, _, _, _, _, _, _, _, _, _, _, _, rfl, iE, jE, mE, by omega, hcE, fE⟩
            · have hk1 : ¬ (0 : Int) < ((N : Nat) : Int) := by omega
              first | (exfalso; omega) | skip
              all_goals
                obtain ⟨u1, u2⟩ := id b52
                obtain ⟨u3, u4⟩ := id b22
                go_wp2_with fail
                have HW := hid ((Fr.refl w.heap.size (w.heap.size + 1) (w2)).setCell (p := ⟨w.heap.size, 0, none⟩) (Nat.le_refl _) (Nat.lt_succ_self _) (.slice A N C))
                have es : ((w2).setCell ⟨w.heap.size, 0, none⟩ (.slice A N C)).heap.size = (w2).heap.size := by simp [World.setCell]
                have t2 := (I2).top
                have t3 := (i1).top
                have t4 := (i2).top
                have iE := ((I2).fr HW.out (by omega)).widen (lo' := w.heap.size) (hi' := ((w2).setCell ⟨w.heap.size, 0, none⟩ (.slice A N C)).heap.size) (by omega) (by rw [es]; exact t2) (Nat.le_refl _)
                have jE := ((i1).fr HW.out (by omega)).widen (lo' := w.heap.size) (hi' := ((w2).setCell ⟨w.heap.size, 0, none⟩ (.slice A N C)).heap.size) (by omega) (by rw [es]; exact t3) (Nat.le_refl _)
                have mE := ((i2).fr HW.out (by omega)).widen (lo' := w.heap.size) (hi' := ((w2).setCell ⟨w.heap.size, 0, none⟩ (.slice A N C)).heap.size) (by omega) (by rw [es]; exact t4) (Nat.le_refl _)
                have hcE := ((hc2).fr HW.out (by omega)).mono (T' := T + 300) (by omega)
                have fE := (f3).setNew (p := ⟨w.heap.size, 0, none⟩) (Nat.le_refl _) (.slice A N C)
                exact bodyPost_ret (v := .tuple #[.agg #[.slice A N C], .slice A1 N C1, .slice A2 N C2]) (by simp [results, Try.results123, go_sem, u3, u4]) rfl ⟨_, _, _, _, _, _, _, _, _, _, _, _, rfl, iE, jE, mE, by omega, hcE, fE⟩
          have t1 : (q == 1) = false := by rw [beq_eq_false_iff_ne]; exact h1
          by_cases h2 : q = 2
          · subst h2
            by_cases hN0 : 0 < N
            · have hk1 : (0 : Int) < ((N : Nat) : Int) := by omega
              have kL := keeps_alloc w2 (.cells #[.int .i64 0, .int .i64 100, .int .i64 101] 3)
              have L := lit_ints w2 [0, 100, 101] (by decide)
              have hc3 := hc2.keeps kL
              have b23 := b22.keeps kL
              have b53 := b52.keeps kL
              have I3 := I2.keeps kL
              have d3 := hd2.fr (Fr.of_keeps kL 0 0) (Nat.zero_le _)
              have f4 := f3.keeps kL
              have sL := kL.size
              clear kL hc2 b22 b52 I2 hd2 f3
              go_wp2_with fail
              refine (among_any hc3 (by omega) L (by omega) (by decide) (by decide)).mono ?_
              rintro e w5 ⟨z, j, rfl, hj, hz, hc5, f5⟩
              clear hz hj
              have b25 := b23.fr f5 (by omega)
              have b55 := b53.fr f5 (by omega)
              have I5 := I3.fr f5 (by omega)
              have d5 := d3.fr f5 (by omega)
              have f6 := f4.trans f5
              have s5 := f5.size
              clear L hc3 b23 b53 I3 d3 f4 f5
              obtain ⟨g1, e1, hg1, m1⟩ := d5.h1.block hN0 (by omega)
              obtain ⟨g2, e2, hg2, m2⟩ := d5.h2.block hN0 (by omega)
              subst e1
              subst e2
              have hne : g1 ≠ g2 := fun e => d5.a12 g1 rfl (by rw [e]; rfl)
              obtain ⟨x0, hx0⟩ : ∃ x, w5.cell? ⟨g2, 0, none⟩ = some (.int .i64 x) := by
                obtain ⟨b', off', x, e', _, _, hcx, hh⟩ := m2.1.at_ (k := 0) hN0
                injection e' with e'; injection e' with e1 e2; subst e1; subst e2
                exact ⟨x, by simpa using hcx⟩
              have hfz := m2.2 g2 0 rfl 0 hN0
              have hset := m2.set_ (k := 0) hN0 z
              rw [Nat.add_zero] at hfz hset
              have HS := hid hset
              clear hset
              have I6 := I5.fr HS.out.2 (by omega)
              have b56 := b55.fr HS.out.2 (by omega)
              have b26 := b25.fr HS.out.2 (by omega)
              have hc6 := hc5.fr HS.out.2 (by omega)
              have f7 := f6.setNew (p := ⟨g2, 0, none⟩) (by show w.heap.size ≤ g2; omega) (.int .i64 z)
              have ms := hid HS.out.1
              have mo := hid (m1.1.fr HS.out.2 (by omega))
              clear HS I5 b55 b25 hc5 f6 d5
              obtain ⟨u1, u2⟩ := id b56
              obtain ⟨u3, u4⟩ := id b26
              go_wp2_with fail
              have HW := hid ((Fr.refl w.heap.size (w.heap.size + 1) ((w5.setCell ⟨g2, 0, none⟩ (.int .i64 z)))).setCell (p := ⟨w.heap.size, 0, none⟩) (Nat.le_refl _) (Nat.lt_succ_self _) (.slice A N C))
              have es : (((w5.setCell ⟨g2, 0, none⟩ (.int .i64 z))).setCell ⟨w.heap.size, 0, none⟩ (.slice A N C)).heap.size = ((w5.setCell ⟨g2, 0, none⟩ (.int .i64 z))).heap.size := by simp [World.setCell]
              have t2 := (I6).top
              have t3 := (mo.out).top
              have t4 := (ms.out.1).top
              have iE := ((I6).fr HW.out (by omega)).widen (lo' := w.heap.size) (hi' := (((w5.setCell ⟨g2, 0, none⟩ (.int .i64 z))).setCell ⟨w.heap.size, 0, none⟩ (.slice A N C)).heap.size) (by omega) (by rw [es]; exact t2) (Nat.le_refl _)
              have jE := ((mo.out).fr HW.out (by omega)).widen (lo' := w.heap.size) (hi' := (((w5.setCell ⟨g2, 0, none⟩ (.int .i64 z))).setCell ⟨w.heap.size, 0, none⟩ (.slice A N C)).heap.size) (by omega) (by rw [es]; exact t3) (Nat.le_refl _)
              have mE := ((ms.out.1).fr HW.out (by omega)).widen (lo' := w.heap.size) (hi' := (((w5.setCell ⟨g2, 0, none⟩ (.int .i64 z))).setCell ⟨w.heap.size, 0, none⟩ (.slice A N C)).heap.size) (by omega) (by rw [es]; exact t4) (Nat.le_refl _)
              have hcE := ((hc6).fr HW.out (by omega)).mono (T' := T + 300) (by omega)
              have fE := (f7).setNew (p := ⟨w.heap.size, 0, none⟩) (Nat.le_refl _) (.slice A N C)
              exact bodyPost_ret (v := .tuple #[.agg #[.slice A N C], .slice (some ⟨g1, 0, none⟩) N C1, .slice (some ⟨g2, 0, none⟩) N C2]) (by simp [results, Try.results123, go_sem, u3, u4]) rfl ⟨_, _, _, _, _, _, _, _, _, _, _, _, rfl, iE, jE, mE, by omega, hcE, fE⟩
            · have hk1 : ¬ (0 : Int) < ((N : Nat) : Int) := by omega
              first | (exfalso; omega) | skip
              all_goals
                obtain ⟨u1, u2⟩ := id b52
                obtain ⟨u3, u4⟩ := id b22
                go_wp2_with fail
                have HW := hid ((Fr.refl w.heap.size (w.heap.size + 1) (w2)).setCell (p := ⟨w.heap.size, 0, none⟩) (Nat.le_refl _) (Nat.lt_succ_self _) (.slice A N C))
                have es : ((w2).setCell ⟨w.heap.size, 0, none⟩ (.slice A N C)).heap.size = (w2).heap.size := by simp [World.setCell]
                have t2 := (I2).top
                have t3 := (i1).top
                have t4 := (i2).top
                have iE := ((I2).fr HW.out (by omega)).widen (lo' := w.heap.size) (hi' := ((w2).setCell ⟨w.heap.size, 0, none⟩ (.slice A N C)).heap.size) (by omega) (by rw [es]; exact t2) (Nat.le_refl _)
                have jE := ((i1).fr HW.out (by omega)).widen (lo' := w.heap.size) (hi' := ((w2).setCell ⟨w.heap.size, 0, none⟩ (.slice A N C)).heap.size) (by omega) (by rw [es]; exact t3) (Nat.le_refl _)
                have mE := ((i2).fr HW.out (by omega)).widen (lo' := w.heap.size) (hi' := ((w2).setCell ⟨w.heap.size, 0, none⟩ (.slice A N C)).heap.size) (by omega) (by rw [es]; exact t4) (Nat.le_refl _)
                have hcE := ((hc2).fr HW.out (by omega)).mono (T' := T + 300) (by omega)
                have fE := (f3).setNew (p := ⟨w.heap.size, 0, none⟩) (Nat.le_refl _) (.slice A N C)
                exact bodyPost_ret (v := .tuple #[.agg #[.slice A N C], .slice A1 N C1, .slice A2 N C2]) (by simp [results, Try.results123, go_sem, u3, u4]) rfl ⟨_, _, _, _, _, _, _, _, _, _, _, _, rfl, iE, jE, mE, by omega, hcE, fE⟩
          have t2 : (q == 2) = false := by rw [beq_eq_false_iff_ne]; exact h2
          obtain ⟨u1, u2⟩ := id b52
          obtain ⟨u3, u4⟩ := id b22
          go_wp2_with fail
          have HW := hid ((Fr.refl w.heap.size (w.heap.size + 1) (w2)).setCell (p := ⟨w.heap.size, 0, none⟩) (Nat.le_refl _) (Nat.lt_succ_self _) (.slice A N C))
          have es : ((w2).setCell ⟨w.heap.size, 0, none⟩ (.slice A N C)).heap.size = (w2).heap.size := by simp [World.setCell]
          have t2 := (I2).top
          have t3 := (i1).top
          have t4 := (i2).top
          have iE := ((I2).fr HW.out (by omega)).widen (lo' := w.heap.size) (hi' := ((w2).setCell ⟨w.heap.size, 0, none⟩ (.slice A N C)).heap.size) (by omega) (by rw [es]; exact t2) (Nat.le_refl _)
          have jE := ((i1).fr HW.out (by omega)).widen (lo' := w.heap.size) (hi' := ((w2).setCell ⟨w.heap.size, 0, none⟩ (.slice A N C)).heap.size) (by omega) (by rw [es]; exact t3) (Nat.le_refl _)
          have mE := ((i2).fr HW.out (by omega)).widen (lo' := w.heap.size) (hi' := ((w2).setCell ⟨w.heap.size, 0, none⟩ (.slice A N C)).heap.size) (by omega) (by rw [es]; exact t4) (Nat.le_refl _)
          have hcE := ((hc2).fr HW.out (by omega)).mono (T' := T + 300) (by omega)
          have fE := (f3).setNew (p := ⟨w.heap.size, 0, none⟩) (Nat.le_refl _) (.slice A N C)
          exact bodyPost_ret (v := .tuple #[.agg #[.slice A N C], .slice A1 N C1, .slice A2 N C2]) (by simp [results, Try.results123, go_sem, u3, u4]) rfl ⟨_, _, _, _, _, _, _, _, _, _, _, _, rfl, iE, jE, mE, by omega, hcE, fE⟩

/-- A geography with two lists of numbers, of the call's own. -/
def DrawsE (w : World) (e : Ending) (w' : World) : Prop := ∃ (A : Option Addr) (N C : Nat) (xs : List Int) (A1 : Option Addr) (N1 C1 : Nat) (ys : List Int) (A2 : Option Addr) (N2 C2 : Nat) (zs : List Int), e = .returned (.tuple #[.agg #[.slice A N C], .slice A1 N1 C1, .slice A2 N2 C2]) ∧
  Ints w' w.heap.size w'.heap.size A N xs ∧ Ints w' w.heap.size w'.heap.size A1 N1 ys ∧ Ints w' w.heap.size w'.heap.size A2 N2 zs ∧ (N ≤ 45 ∧ N1 ≤ 46 ∧ N2 ≤ 46) ∧ Keeps w w'
set_option maxRecDepth 100000 in
set_option maxHeartbeats 1600000 in
theorem DrawSubtreeEstimates_any {A : Option Addr} {hi n c : Nat} {w : World} (hb : Bytes w hi A n) :
    Calls Try.prog 113 #[.slice A n c] w (DrawsE w) := by
  have kG := keeps_alloc w (.cells #[.slice none 0 0] 53)
  have hc := Cur.new (t := 119) (c := c) (hb.keeps kG)
  have k0 := kG.trans (keeps_alloc (w.alloc (.cells #[.slice none 0 0] 53)) (.cells #[.slice A n c, .int .i64 0, .int .u64 0] 119))
  have b2 : B1 (w.alloc (.cells #[.slice none 0 0] 53)) w.heap.size (.slice none 0 0) := B1.new' rfl
  replace b2 := b2.keeps (keeps_alloc _ (.cells #[.slice A n c, .int .i64 0, .int .u64 0] 119))
  rw [show (w.alloc (.cells #[.slice none 0 0] 53)).heap.size = w.heap.size + 1 by simp] at hc
  have E0 := hid (show ((w.alloc (.cells #[.slice none 0 0] 53)).alloc (.cells #[.slice A n c, .int .i64 0, .int .u64 0] 119)).heap.size = w.heap.size + 2 by simp)
  clear kG
  go_enter Try.func113, Try.ntmps113
  go_wp2_with fail
  refine (noisy_any hc (by omega)).mono ?_
  rintro e w1 ⟨A0, N, C, xs, A1, N1, C1, ys, A2, N2, C2, zs, rfl, hI, hJ, hK, hN, hc1, f1⟩
  have s1 := f1.size
  rw [E0.out] at hI hJ hK s1
  replace b2 := b2.fr f1 (by omega)
  have kw1 : Keeps w w1 := below_fr k0 k0.size (by omega) f1
  clear hc f1 k0 E0 hc1
  obtain ⟨u1, u2⟩ := id b2
  have t2 := hI.top
  have t3 := hJ.top
  have t4 := hK.top
  have HW := hid ((Fr.refl w.heap.size (w.heap.size + 1) w1).setCell (p := ⟨w.heap.size, 0, none⟩) (Nat.le_refl _) (Nat.lt_succ_self _) (.slice A0 N C))
  have KW := hid ((show Below w.heap.size w w1 from kw1).setCell (p := ⟨w.heap.size, 0, none⟩) (Nat.le_refl _) (.slice A0 N C))
  have es : (w1.setCell ⟨w.heap.size, 0, none⟩ (.slice A0 N C)).heap.size = w1.heap.size := by simp [World.setCell]
  have iE := (hI.fr HW.out (by omega)).widen (lo' := w.heap.size) (hi' := (w1.setCell ⟨w.heap.size, 0, none⟩ (.slice A0 N C)).heap.size) (by omega) (by rw [es]; exact t2) (Nat.le_refl _)
  have jE := (hJ.fr HW.out (by omega)).widen (lo' := w.heap.size) (hi' := (w1.setCell ⟨w.heap.size, 0, none⟩ (.slice A0 N C)).heap.size) (by omega) (by rw [es]; exact t3) (Nat.le_refl _)
  have kE := (hK.fr HW.out (by omega)).widen (lo' := w.heap.size) (hi' := (w1.setCell ⟨w.heap.size, 0, none⟩ (.slice A0 N C)).heap.size) (by omega) (by rw [es]; exact t4) (Nat.le_refl _)
  go_wp2_with fail
  exact bodyPost_ret (v := .tuple #[.agg #[.slice A0 N C], .slice A1 N1 C1, .slice A2 N2 C2]) (by simp [results, Try.results113, go_sem, u1, u2]) rfl ⟨_, _, _, _, _, _, _, _, _, _, _, _, rfl, iE, jE, kE, hN, KW.out⟩
end Go.Proofs.Ytnopedjgagoahaa
