/- What the cursor draws: fractions with a whole number, fractions with whole numbers (bounds alone). -/
import Derived.Test.YtkpliolafkdijaaDrawI
import Derived.Test.YtkpliolafkdijaaNwF
namespace Go.Proofs.Ytkpliolafkdijaa
open Go.RowKit
set_option linter.unusedVariables false
set_option linter.unusedSimpArgs false

theorem Sm.one : Sm 1 1 := by unfold Sm; omega
theorem Ints.keepsG {w w' : World} {lo hi n g : Nat} {A : Option Addr} {xs : List Int} (h : Ints w lo hi A n xs) (f : Fr g (g + 1) w w') (hg : g < lo) : Ints w' lo hi A n xs := h.fr f (by omega)
/-- An owned row of fractions, read. -/
theorem Has.fracs {w : World} {B n c : Nat} {A : Option Addr} {l : List (Int × Int)} (h : Has w B 41 2 (.slice A n c) n (frs l)) (hs : n ≤ 67108864) : Fracs w B w.heap.size A n l := (SlM.of_own h hs (by omega)).1
/-- Fractions and a number. -/
def DrawsF (w : World) (e : Ending) (w' : World) : Prop := ∃ A N C l z, e = .returned (.tuple #[.slice A N C, .int .i64 z]) ∧ Fracs w' w.heap.size w'.heap.size A N l ∧ N ≤ 40 ∧ (-10000 ≤ z ∧ z ≤ 10000) ∧ Keeps w w'
set_option maxRecDepth 100000 in
set_option maxHeartbeats 6400000 in
theorem DrawNearestWhole_any {A : Option Addr} {hi n c : Nat} {w : World} (hb : Bytes w hi A n) :
    Calls Try.prog 55 #[.slice A n c] w (DrawsF w) := by
  have hc := Cur.new (t := 125) (c := c) hb
  have k0 := keeps_alloc w (.cells #[.slice A n c, .int .i64 0, .int .u64 0] 125)
  have e0 : (w.alloc (.cells #[.slice A n c, .int .i64 0, .int .u64 0] 125)).heap.size = w.heap.size + 1 := by simp
  have E0 := hid e0
  clear e0
  go_enter Try.func55, Try.ntmps55
  go_wp2_with fail
  refine (pick_any hc (by omega) (by omega)).mono ?_
  rintro e w1 ⟨a, rfl, ha, hc1, f1⟩
  have s1 := f1.size
  rw [E0.out] at s1
  have kw1 : Keeps w w1 := below_fr k0 k0.size (Nat.le_refl _) f1
  clear hc f1 k0 E0
  obtain ⟨K, hK⟩ : ∃ K : Nat, (1 : Int) + a = K := ⟨(1 + a).toNat, by omega⟩
  have hK5 : 1 ≤ K ∧ K ≤ 5 := by omega
  go_wp2_with fail
  clear hK
  go_loopw [5, 6] (fun v sk wr => ∃ (m n : Nat) (l : List (Int × Int)), m + n = K ∧ sk = .int .i64 m ∧ Has wr (w.heap.size + 1) 41 2 v n (frs l) ∧ l.length = n ∧ Cur wr w.heap.size (2 + 4 * n) ∧ Keeps w wr ∧ w.heap.size + 1 ≤ wr.heap.size) (fun _ sk _ => (intOf sk).toNat)
  case atStart => exact ⟨K, 0, [], by omega, rfl, World.ownsRow_nil _ _ _ _, rfl, hc1.mono (by omega), kw1, s1⟩
  clear hc1 kw1 s1
  case round =>
    obtain ⟨m, n', l, hmn, rfl, hown, hll, hc2, kw2, s2⟩ := hrel
    by_cases hm : 0 < m
    · have hm1 : (m : Int) > 0 := by omega
      go_wp2_with fail
      refine (frac_any hc2 (by omega)).mono ?_
      rintro e w3 ⟨x, y, rfl, hsm, hc3, f3⟩
      have hown3 := Has.fr hown f3 (by omega)
      have kw3 : Keeps w w3 := below_fr kw2 kw2.size (Nat.le_refl _) f3
      have s3 := f3.size
      clear hown hc2 kw2 f3
      go_wp2_with (at_builtin; refine append_frac (xs := l) hown3 (by omega) (by omega) _ _ rfl rfl rfl (by first | rfl | (simp <;> rfl)) ?_; intro v' w4 hown4 hb4)
      have hc4 := hc3.below hb4 (by omega)
      have kw4 : Keeps w w4 := Below.trans kw3 (hb4.mono (by omega))
      have s4 := hb4.size
      clear hown3 hb4 hc3 kw3
      go_wp2
      go_roundw
      case rel => exact ⟨m - 1, n' + 1, _, by omega, by congr 1; omega, hown4, by simp [hll], hc4.mono (by omega), kw4, by omega⟩
      case measure => simp [intOf]; omega
    · obtain rfl : m = 0 := by omega
      go_wp2_with fail
      refine (pick_any hc2 (by omega) (by omega)).mono ?_
      rintro e w3 ⟨q, rfl, hq, hc3, f3⟩
      have hown3 := Has.fr hown f3 (by omega)
      have kw3 : Keeps w w3 := below_fr kw2 kw2.size (Nat.le_refl _) f3
      have s3 := f3.size
      clear hown hc2 kw2 f3
      by_cases h1 : q = 1
      · subst h1
        go_wp2
        go_ret2
        exact ⟨none, 0, 0, [], 0, rfl, (Sl.nil_ _ _ _), by omega, by omega, kw3⟩
      have t1 : (q == 1) = false := by rw [beq_eq_false_iff_ne]; exact h1
      by_cases h0 : q = 0
      · subst h0
        go_wp2_with fail
        refine (anyFrac_any hc3 (by omega)).mono ?_
        rintro e w4 ⟨x, y, rfl, hsm, hc4, f4⟩
        have hown4 := Has.fr hown3 f4 (by omega)
        have kw4 : Keeps w w4 := below_fr kw3 kw3.size (Nat.le_refl _) f4
        have s4 := f4.size
        clear hown3 hc3 kw3 f4
        go_wp2_with (at_builtin; refine append_frac (xs := l) hown4 (by omega) (by omega) _ _ rfl rfl rfl (by first | rfl | (simp <;> rfl)) ?_; intro v' w5 hown5 hb5)
        have hc5 := hc4.below hb5 (by omega)
        have kw5 : Keeps w w5 := Below.trans kw4 (hb5.mono (by omega))
        have s5 := hb5.size
        clear hown4 hb5 hc4 kw4
        obtain ⟨A1, C1, e1⟩ := Has.form hown5
        cases e1
        have hfz := Has.fracs hown5 (by omega)
        clear hown5
        go_wp2_with fail
        refine (pick_any hc5 (by omega) (by omega)).mono ?_
        rintro e wx ⟨z, rfl, hz, hcx, fx⟩
        have kwx : Keeps w wx := below_fr kw5 (Below.size kw5) (Nat.le_refl _) fx
        have hfx := Sl.fr hfz fx (by omega)
        have sx := fx.size
        clear hc5 kw5 hfz fx
        have Lx := lit_ints wx [0, 1, 5, 10, 30, z, 5000, 5001, -1] (by simp)
        have hcy := hcx.keeps (keeps_alloc wx (.cells #[.int .i64 0, .int .i64 1, .int .i64 5, .int .i64 10, .int .i64 30, .int .i64 z, .int .i64 5000, .int .i64 5001, .int .i64 (-1)] 3))
        have kwy := kwx.trans (keeps_alloc wx (.cells #[.int .i64 0, .int .i64 1, .int .i64 5, .int .i64 10, .int .i64 30, .int .i64 z, .int .i64 5000, .int .i64 5001, .int .i64 (-1)] 3))
        have hfy := Sl.keeps hfx (keeps_alloc wx (.cells #[.int .i64 0, .int .i64 1, .int .i64 5, .int .i64 10, .int .i64 30, .int .i64 z, .int .i64 5000, .int .i64 5001, .int .i64 (-1)] 3))
        go_wp2_with fail
        refine (among_any hcy (by omega) Lx (by omega) (by simp) (by simp)).mono ?_
        rintro e wz ⟨u, j, rfl, hj, hu, hcz, fz⟩
        have hub : -10000 ≤ u ∧ u ≤ 10000 := by
          have hj' : j < 9 := hj
          rw [hu]
          rcases j with _ | _ | _ | _ | _ | _ | _ | _ | _ | j <;> first | (simp; done) | (simp; omega) | omega
        clear hu hj Lx
        have kwz : Keeps w wz := below_fr kwy kwy.size (Nat.le_refl _) fz
        have hfz2 := Sl.fr hfy fz (by omega)
        have sz := fz.size
        simp at sz
        go_wp2
        go_ret2
        exact ⟨_, _, _, _, _, rfl, Sl.widen hfz2 (by omega) (by omega) (Nat.le_refl _), by omega, hub, kwz⟩
      have t0 : (q == 0) = false := by rw [beq_eq_false_iff_ne]; exact h0
      by_cases h2 : q = 2
      · subst h2
        obtain ⟨A1, C1, rfl⟩ := hown3.form
        go_wp2_with fail
        obtain ⟨wo, HW⟩ : ∃ u : World, Hid (u = w3) := ⟨_, rfl⟩
        go_loopw [5] (fun v wr => ∃ (n : Nat) (l : List (Int × Int)) (A1 : Option Addr) (C1 : Nat), v = .slice A1 n C1 ∧ n ≤ 31 ∧ Has wr (w.heap.size + 1) 41 2 (.slice A1 n C1) n (frs l) ∧ Cur wr w.heap.size (100 + 2 * n) ∧ Keeps w wr ∧ w.heap.size + 1 ≤ wr.heap.size) (fun v _ => match v with | .slice _ n _ => 40 - n | _ => 0)
        case atStart => exact ⟨n', l, A1, C1, rfl, by omega, hown3, hc3.mono (by omega), kw3, by omega⟩
        clear hown3 hc3 kw3 HW
        case round =>
          obtain ⟨nn, ll, A2, C2, rfl, hnn, hown5, hc5, kw5, s5⟩ := hrel
          go_wp2_with fail
          refine (pick_any hc5 (by omega) (by omega)).mono ?_
          rintro e w6 ⟨p, rfl, hp, hc6, f6⟩
          have hown6 := Has.fr hown5 f6 (by omega)
          have kw6 : Keeps w w6 := below_fr kw5 kw5.size (Nat.le_refl _) f6
          have s6 := f6.size
          clear hown5 hc5 kw5 f6
          by_cases hlt : (nn : Int) < 30 + p
          · go_wp2_with fail
            refine (fInt_any).mono ?_
            rintro e w7 ⟨rfl, k7⟩
            have hown7 := Has.fr hown6 (Fr.of_keeps k7 0 0) (by omega)
            have hc7 := hc6.keeps k7
            have kw7 := kw6.trans k7
            have s7 := k7.size
            clear hown6 hc6 kw6 k7
            go_wp2_with (at_builtin; refine append_frac (xs := ll) hown7 (by omega) (by omega) _ _ rfl rfl rfl (by first | rfl | (simp <;> rfl)) ?_; intro v' w8 hown8 hb8)
            have hc8 := hc7.below hb8 (by omega)
            have kw8 : Keeps w w8 := Below.trans kw7 (hb8.mono (by omega))
            have s8 := hb8.size
            obtain ⟨A3, C3, e3⟩ := hown8.form
            subst e3
            clear hown7 hb8 hc7 kw7
            go_wp2
            go_roundw
            case rel => exact ⟨nn + 1, _, A3, C3, rfl, by omega, hown8, hc8.mono (by omega), kw8, by omega⟩
            case measure => simp; omega
          · obtain ⟨A1, C1, e1⟩ := Has.form hown6
            cases e1
            have hfz := Has.fracs hown6 (by omega)
            clear hown6
            go_wp2_with fail
            refine (pick_any hc6 (by omega) (by omega)).mono ?_
            rintro e wx ⟨z, rfl, hz, hcx, fx⟩
            have kwx : Keeps w wx := below_fr kw6 (Below.size kw6) (Nat.le_refl _) fx
            have hfx := Sl.fr hfz fx (by omega)
            have sx := fx.size
            clear hc6 kw6 hfz fx
            have Lx := lit_ints wx [0, 1, 5, 10, 30, z, 5000, 5001, -1] (by simp)
            have hcy := hcx.keeps (keeps_alloc wx (.cells #[.int .i64 0, .int .i64 1, .int .i64 5, .int .i64 10, .int .i64 30, .int .i64 z, .int .i64 5000, .int .i64 5001, .int .i64 (-1)] 3))
            have kwy := kwx.trans (keeps_alloc wx (.cells #[.int .i64 0, .int .i64 1, .int .i64 5, .int .i64 10, .int .i64 30, .int .i64 z, .int .i64 5000, .int .i64 5001, .int .i64 (-1)] 3))
            have hfy := Sl.keeps hfx (keeps_alloc wx (.cells #[.int .i64 0, .int .i64 1, .int .i64 5, .int .i64 10, .int .i64 30, .int .i64 z, .int .i64 5000, .int .i64 5001, .int .i64 (-1)] 3))
            go_wp2_with fail
            refine (among_any hcy (by omega) Lx (by omega) (by simp) (by simp)).mono ?_
            rintro e wz ⟨u, j, rfl, hj, hu, hcz, fz⟩
            have hub : -10000 ≤ u ∧ u ≤ 10000 := by
              have hj' : j < 9 := hj
              rw [hu]
              rcases j with _ | _ | _ | _ | _ | _ | _ | _ | _ | j <;> first | (simp; done) | (simp; omega) | omega
            clear hu hj Lx
            have kwz : Keeps w wz := below_fr kwy kwy.size (Nat.le_refl _) fz
            have hfz2 := Sl.fr hfy fz (by omega)
            have sz := fz.size
            simp at sz
            go_wp2
            go_ret2
            exact ⟨_, _, _, _, _, rfl, Sl.widen hfz2 (by omega) (by omega) (Nat.le_refl _), by omega, hub, kwz⟩
      have t2 : (q == 2) = false := by rw [beq_eq_false_iff_ne]; exact h2
      obtain ⟨A1, C1, e1⟩ := Has.form hown3
      cases e1
      have hfz := Has.fracs hown3 (by omega)
      clear hown3
      go_wp2_with fail
      refine (pick_any hc3 (by omega) (by omega)).mono ?_
      rintro e wx ⟨z, rfl, hz, hcx, fx⟩
      have kwx : Keeps w wx := below_fr kw3 (Below.size kw3) (Nat.le_refl _) fx
      have hfx := Sl.fr hfz fx (by omega)
      have sx := fx.size
      clear hc3 kw3 hfz fx
      have Lx := lit_ints wx [0, 1, 5, 10, 30, z, 5000, 5001, -1] (by simp)
      have hcy := hcx.keeps (keeps_alloc wx (.cells #[.int .i64 0, .int .i64 1, .int .i64 5, .int .i64 10, .int .i64 30, .int .i64 z, .int .i64 5000, .int .i64 5001, .int .i64 (-1)] 3))
      have kwy := kwx.trans (keeps_alloc wx (.cells #[.int .i64 0, .int .i64 1, .int .i64 5, .int .i64 10, .int .i64 30, .int .i64 z, .int .i64 5000, .int .i64 5001, .int .i64 (-1)] 3))
      have hfy := Sl.keeps hfx (keeps_alloc wx (.cells #[.int .i64 0, .int .i64 1, .int .i64 5, .int .i64 10, .int .i64 30, .int .i64 z, .int .i64 5000, .int .i64 5001, .int .i64 (-1)] 3))
      go_wp2_with fail
      refine (among_any hcy (by omega) Lx (by omega) (by simp) (by simp)).mono ?_
      rintro e wz ⟨u, j, rfl, hj, hu, hcz, fz⟩
      have hub : -10000 ≤ u ∧ u ≤ 10000 := by
        have hj' : j < 9 := hj
        rw [hu]
        rcases j with _ | _ | _ | _ | _ | _ | _ | _ | _ | j <;> first | (simp; done) | (simp; omega) | omega
      clear hu hj Lx
      have kwz : Keeps w wz := below_fr kwy kwy.size (Nat.le_refl _) fz
      have hfz2 := Sl.fr hfy fz (by omega)
      have sz := fz.size
      simp at sz
      go_wp2
      go_ret2
      exact ⟨_, _, _, _, _, rfl, Sl.widen hfz2 (by omega) (by omega) (Nat.le_refl _), by omega, hub, kwz⟩
end Go.Proofs.Ytkpliolafkdijaa
