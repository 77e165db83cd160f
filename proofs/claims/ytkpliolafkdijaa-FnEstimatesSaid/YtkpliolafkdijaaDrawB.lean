/- What the cursor draws: values with bounds (bounds alone). -/
import Derived.Test.YtkpliolafkdijaaDrawI
import Derived.Test.YtkpliolafkdijaaIsadj
import Derived.Test.YtkpliolafkdijaaFit0
namespace Go.Proofs.Ytkpliolafkdijaa
open Go.RowKit
set_option linter.unusedVariables false
set_option linter.unusedSimpArgs false

theorem results_tmp4 {fn : Func} {t u v x : Tmp} (h : fn.results = #[.tmp t, .tmp u, .tmp v, .tmp x]) (tmps : Array Value) (P : Program) (w : World) :
    (results fn tmps).run P w = .ok (.tuple #[tmps.getD t undef, tmps.getD u undef, tmps.getD v undef, tmps.getD x undef]) w := by
  simp [results, h]
theorem results_tmp5 {fn : Func} {t u v x y : Tmp} (h : fn.results = #[.tmp t, .tmp u, .tmp v, .tmp x, .tmp y]) (tmps : Array Value) (P : Program) (w : World) :
    (results fn tmps).run P w = .ok (.tuple #[tmps.getD t undef, tmps.getD u undef, tmps.getD v undef, tmps.getD x undef, tmps.getD y undef]) w := by
  simp [results, h]
theorem Near.mono {B B' : Int} {xs : List Int} (h : Near B xs) (hB : B ≤ B') : Near B' xs := fun j => by have := h j; omega
theorem Near.bd {B B' : Int} {xs : List Int} (h : Near B xs) (hB : B ≤ B') : Bd B' xs := fun j => by have := h j; omega
theorem Ints.keepsF {w w' : World} {lo hi n g : Nat} {A : Option Addr} {xs : List Int} (h : Ints w lo hi A n xs) (f : Fr g (g + 1) w w') (hg : g < lo) : Ints w' lo hi A n xs := h.fr f (by omega)
/-- Two lists grown by append, apart from one another. -/
structure Duo (w : World) (B : Nat) (v1 v2 : Value) (n1 n2 : Nat) (xs ys : List Int) : Prop where
  h1 : Has w B 3 1 v1 n1 (xs.map (Value.int .i64))
  h2 : Has w B 3 1 v2 n2 (ys.map (Value.int .i64))
  a12 : ApartV v1 v2
theorem Duo.nil_ (w : World) (B : Nat) : Duo w B (.slice none 0 0) (.slice none 0 0) 0 0 [] [] := ⟨World.ownsRow_nil _ _ _ _, World.ownsRow_nil _ _ _ _, apart_nil _⟩
section
variable {w w' : World} {B n1 n2 l u : Nat} {v1 v2 v' : Value} {xs ys us : List Int}
theorem Duo.one (h : Duo w B v1 v2 n1 n2 xs ys) (p1 : Has w' B 3 1 v' (n1 + 1) (us.map (Value.int .i64))) (p2 : w.grownBy w' v1.ownBlock) (p3 : v'.ownBlock = v1.ownBlock ∨ v'.ownBlock = some (w.heap.size + 1)) : Duo w' B v' v2 (n1 + 1) n2 us ys :=
  ⟨p1, has_grown h.h2 h.a12 p2, apart_new h.h2 h.a12 p3⟩
theorem Duo.two (h : Duo w B v1 v2 n1 n2 xs ys) (p1 : Has w' B 3 1 v' (n2 + 1) (us.map (Value.int .i64))) (p2 : w.grownBy w' v2.ownBlock) (p3 : v'.ownBlock = v2.ownBlock ∨ v'.ownBlock = some (w.heap.size + 1)) : Duo w' B v1 v' n1 (n2 + 1) xs us :=
  ⟨has_grown h.h1 h.a12.symm p2, p1, (apart_new h.h1 h.a12.symm p3).symm⟩
theorem Duo.fr (h : Duo w B v1 v2 n1 n2 xs ys) (f : Fr l u w w') (ho : u ≤ B) : Duo w' B v1 v2 n1 n2 xs ys := ⟨h.h1.fr f ho, h.h2.fr f ho, h.a12⟩
end
/-- Three lists of numbers. -/
def DrawsB (w : World) (g : Nat) (T : Int) (e : Ending) (w' : World) : Prop := ∃ A N C xs A1 N1 C1 ys A2 N2 C2 zs, e = .returned (.tuple #[.slice A N C, .slice A1 N1 C1, .slice A2 N2 C2]) ∧
  Ints w' w.heap.size w'.heap.size A N xs ∧ Ints w' w.heap.size w'.heap.size A1 N1 ys ∧ Ints w' w.heap.size w'.heap.size A2 N2 zs ∧ (N ≤ 32 ∧ N1 ≤ 32 ∧ N2 ≤ 32) ∧ (Near 100001 xs ∧ Near 1000 ys ∧ Near 1000 zs) ∧ Cur w' g T ∧ Fr g (g + 1) w w'
set_option maxRecDepth 100000 in
set_option maxHeartbeats 6400000 in
theorem bounded_any {g : Nat} {T : Int} {w : World} (h : Cur w g T) (hT : T ≤ 800000000000000) :
    Calls Try.prog 124 #[.pointer (some ⟨g, 0, none⟩)] w (DrawsB w g (T + 300)) := by
  have lg := h.lt
  go_enter Try.func124, Try.ntmps124
  go_wp2_with fail
  refine (numbers_any h (by omega)).mono ?_
  rintro e w1 ⟨A, N, C, xs, rfl, hm, hN, hnr, hc, f⟩
  have hv := hm.1
  have sz1 := f.size
  clear hm
  go_wp2_with fail
  go_loopw [6, 7, 13] (fun v1 v2 i wr => ∃ (k : Nat) (ys zs : List Int), k ≤ N ∧ i = .int .i64 k ∧ Duo wr w1.heap.size v1 v2 k k ys zs ∧ (Near 1000 ys ∧ Near 900 zs) ∧ Cur wr g (T + 20 + 4 * k) ∧ Fr g (g + 1) w wr ∧ Ints wr w.heap.size w1.heap.size A N xs ∧ w1.heap.size ≤ wr.heap.size) (fun _ _ i _ => N - (intOf i).toNat)
  case atStart => exact ⟨0, [], [], Nat.zero_le _, rfl, Duo.nil_ _ _, ⟨near_nil _ (by omega), near_nil _ (by omega)⟩, hc.mono (by omega), f, hv, Nat.le_refl _⟩
  clear hc f hv
  case round =>
    obtain ⟨k, ys, zs, hk, rfl, hd, ⟨hy, hz⟩, hc, f, hv, hs⟩ := hrel
    by_cases hlt : k < N
    · have hi1 : (k : Int) < (N : Int) := by omega
      go_wp2_with fail
      refine (pick_any hc (by omega) (by omega)).mono ?_
      rintro e w2 ⟨a, rfl, ha, hc2, f2⟩
      have hd2 := hd.fr f2 (by omega)
      have hv2 := hv.keepsF f2 lg
      have s2 := f2.size
      have f3 := f.trans f2
      clear hd hc f hv f2
      go_wp2_with (at_builtin; refine append_int_at (xs := ys) (u := a - 3) hd2.h1 (by omega) (by omega) _ _ rfl rfl rfl (by first | rfl | (simp <;> rfl)) ?_; intro v1' w3 p1 p2 p3)
      have b3 := below_grown hd2.h1 (by omega) p2
      have hd3 := hd2.one p1 p2 p3
      have hy3 := near_snoc (x := a - 3) hy (by omega)
      have hc3 := hc2.below b3 (by omega)
      have hv3 := hv2.below b3 (Nat.le_refl _)
      have f4 := f3.below b3 (by omega)
      have s3 := b3.size
      clear p1 p2 p3 b3 hd2 hy hc2 hv2 f3
      refine (pick_any hc3 (by omega) (by omega)).mono ?_
      rintro e w4 ⟨b, rfl, hb, hc4, f5⟩
      have hd4 := hd3.fr f5 (by omega)
      have hv4 := hv3.keepsF f5 lg
      have s4 := f5.size
      have f6 := f4.trans f5
      clear hd3 hc3 f4 hv3 f5
      go_wp2_with (at_builtin; refine append_int_at (xs := zs) (u := a - 3 + b) hd4.h2 (by omega) (by omega) _ _ rfl rfl rfl (by first | rfl | (simp <;> rfl)) ?_; intro v2' w5 p1 p2 p3)
      have b5 := below_grown hd4.h2 (by omega) p2
      have hd5 := hd4.two p1 p2 p3
      have hz5 := near_snoc (x := a - 3 + b) hz (by omega)
      have hc5 := hc4.below b5 (by omega)
      have hv5 := hv4.below b5 (Nat.le_refl _)
      have f7 := f6.below b5 (by omega)
      have s5 := b5.size
      clear p1 p2 p3 b5 hd4 hz hc4 hv4 f6
      go_wp2
      go_roundw
      case rel => exact ⟨k + 1, _, _, by omega, by go_num, hd5, ⟨hy3, hz5⟩, hc5.mono (by omega), f7, hv5, by omega⟩
      case measure => simp [intOf]; omega
    · obtain rfl : k = N := by omega
      obtain ⟨A1, C1, rfl⟩ := hd.h1.form
      obtain ⟨A2, C2, rfl⟩ := hd.h2.form
      go_wp2_with fail
      refine (pick_any hc (by omega) (by omega)).mono ?_
      rintro e w2 ⟨q, rfl, hq, hc2, f2⟩
      have hd2 := hd.fr f2 (by omega)
      have hv2 := hv.keepsF f2 lg
      have s2 := f2.size
      have f3 := f.trans f2
      have i1 := (Mine.of_own hd2.h1 (by omega)).1
      have i2 := (Mine.of_own hd2.h2 (by omega)).1
      have j1 := i1.widen (lo' := w.heap.size) (by omega) (Nat.le_refl _) (Nat.le_refl _)
      have j2 := i2.widen (lo' := w.heap.size) (by omega) (Nat.le_refl _) (Nat.le_refl _)
      have jv := hv2.widen (Nat.le_refl _) (show w1.heap.size ≤ w2.heap.size by omega) (Nat.le_refl _)
      have hz2 := hz.mono (B' := 1000) (by omega)
      clear hd hc f hv f2 i1 i2
      by_cases h0 : q = 0
      · subst h0
        by_cases hN0 : 0 < k
        · obtain ⟨g1, e1, hg1, m1⟩ := hd2.h1.block hN0 (by omega)
          obtain ⟨g2, e2, hg2, m2⟩ := hd2.h2.block hN0 (by omega)
          subst e1
          subst e2
          have hne : g1 ≠ g2 := fun e => hd2.a12 g1 rfl (by rw [e]; rfl)
          obtain ⟨x0, hx0, hxx⟩ : ∃ x, w2.cell? ⟨g1, 0, none⟩ = some (.int .i64 x) ∧ Hid (x = ys.getD 0 0) := by
            obtain ⟨b', off', x, e', _, _, hcx, hh⟩ := m1.1.at_ (k := 0) hN0
            injection e' with e'; injection e' with e1 e2; subst e1; subst e2
            exact ⟨x, by simpa using hcx, hh⟩
          obtain ⟨y0, hy0, hyy⟩ : ∃ x, w2.cell? ⟨g2, 0, none⟩ = some (.int .i64 x) ∧ Hid (x = zs.getD 0 0) := by
            obtain ⟨b', off', x, e', _, _, hcx, hh⟩ := m2.1.at_ (k := 0) hN0
            injection e' with e'; injection e' with e1 e2; subst e1; subst e2
            exact ⟨x, by simpa using hcx, hh⟩
          have hyb : -900 ≤ y0 ∧ y0 ≤ 900 := by rw [hyy.out]; exact hz 0
          have hfz := m1.2 g1 0 rfl 0 hN0
          have hset := m1.set_ (k := 0) hN0 (y0 + 1)
          have hk1 : (0 : Int) < (k : Int) := by omega
          rw [Nat.add_zero] at hfz hset
          have hys := near_set 0 hy (x := y0 + 1) (by omega)
          clear hxx hyy
          have HS := hid hset
          clear hset
          go_wp2
          go_ret3
          obtain ⟨ms, fs⟩ := HS.out
          have es : (w2.setCell ⟨g1, 0, none⟩ (.int .i64 (y0 + 1))).heap.size = w2.heap.size := by simp [World.setCell]
          exact ⟨_, _, _, _, _, _, _, _, _, _, _, _, rfl, by rw [es]; exact (hv2.fr fs (by omega)).widen (Nat.le_refl _) (by omega) (by rw [es]; exact Nat.le_refl _), by rw [es]; exact ms.1.widen (by omega) (by have := m1.1.top; omega) (by rw [es]; exact Nat.le_refl _), by rw [es]; exact (m2.1.fr fs (by omega)).widen (by omega) (by have := m2.1.top; omega) (by rw [es]; exact Nat.le_refl _), by omega, ⟨hnr, hys, hz2⟩, (hc2.fr fs (by omega)).mono (by omega), f3.setNew (p := ⟨g1, 0, none⟩) (by show w.heap.size ≤ g1; omega) _⟩
        · have hk1 : ¬ (0 : Int) < (k : Int) := by omega
          go_wp2
          go_ret3
          exact ⟨_, _, _, _, _, _, _, _, _, _, _, _, rfl, jv, j1, j2, by omega, ⟨hnr, hy, hz2⟩, hc2.mono (by omega), f3⟩
      have t0 : (q == 0) = false := by rw [beq_eq_false_iff_ne]; exact h0
      by_cases h1 : q = 1
      · subst h1
        go_wp2_with (at_builtin; refine append_int_at (xs := ys) (u := 0) hd2.h1 (by omega) (by omega) _ _ rfl rfl rfl (by first | rfl | (simp <;> rfl)) ?_; intro v1' w3 p1 p2 p3)
        have b3 := below_grown hd2.h1 (by omega) p2
        have hd3 := hd2.one p1 p2 p3
        have hy3 := near_snoc (x := 0) hy (by omega)
        have hc3 := hc2.below b3 (by omega)
        have hv3 := hv2.below b3 (Nat.le_refl _)
        have f4 := f3.below b3 (by omega)
        have s3 := b3.size
        obtain ⟨A3, C3, e3⟩ := hd3.h1.form
        subst e3
        have i1 := (Mine.of_own hd3.h1 (by omega)).1
        have i2 := (Mine.of_own hd3.h2 (by omega)).1
        clear p1 p2 p3 b3 hd2 hy hc2 hv2 f3 j1 j2 jv hd3
        go_wp2
        go_ret3
        exact ⟨_, _, _, _, _, _, _, _, _, _, _, _, rfl, hv3.widen (Nat.le_refl _) (by omega) (Nat.le_refl _), i1.widen (by omega) (Nat.le_refl _) (Nat.le_refl _), i2.widen (by omega) (Nat.le_refl _) (Nat.le_refl _), by omega, ⟨hnr, hy3, hz2⟩, hc3.mono (by omega), f4⟩
      have t1 : (q == 1) = false := by rw [beq_eq_false_iff_ne]; exact h1
      go_wp2
      go_ret3
      exact ⟨_, _, _, _, _, _, _, _, _, _, _, _, rfl, jv, j1, j2, by omega, ⟨hnr, hy, hz2⟩, hc2.mono (by omega), f3⟩
/-- Three lists of numbers and a total. -/
def DrawsA (w : World) (e : Ending) (w' : World) : Prop := ∃ A N C xs A1 N1 C1 ys A2 N2 C2 zs t, e = .returned (.tuple #[.slice A N C, .slice A1 N1 C1, .slice A2 N2 C2, .int .i64 t]) ∧
  Ints w' w.heap.size w'.heap.size A N xs ∧ Ints w' w.heap.size w'.heap.size A1 N1 ys ∧ Ints w' w.heap.size w'.heap.size A2 N2 zs ∧ (N ≤ 32 ∧ N1 ≤ 32 ∧ N2 ≤ 32) ∧ (-10000000 ≤ t ∧ t ≤ 10000000) ∧ Keeps w w'
set_option maxRecDepth 100000 in
set_option maxHeartbeats 6400000 in
theorem DrawAdjustTo_any {A : Option Addr} {hi n c : Nat} {w : World} (hb : Bytes w hi A n) :
    Calls Try.prog 45 #[.slice A n c] w (DrawsA w) := by
  have hc := Cur.new (t := 125) (c := c) hb
  have k0 := keeps_alloc w (.cells #[.slice A n c, .int .i64 0, .int .u64 0] 125)
  have e0 : (w.alloc (.cells #[.slice A n c, .int .i64 0, .int .u64 0] 125)).heap.size = w.heap.size + 1 := by simp
  have E0 := hid e0
  clear e0
  go_enter Try.func45, Try.ntmps45
  go_wp2_with fail
  refine (bounded_any hc (by omega)).mono ?_
  rintro e w1 ⟨A0, N, C, xs, A1, N1, C1, ys, A2, N2, C2, zs, rfl, hv, hl, hh, ⟨n0, n1, n2⟩, ⟨bx, by1, bz⟩, hc1, f⟩
  have sz := f.size
  rw [E0.out] at hv hl hh sz
  have kw : Keeps w w1 := below_fr k0 k0.size (Nat.le_refl _) f
  have hg : w.heap.size < w1.heap.size := by omega
  have hv' := hv.widen (lo' := w.heap.size) (by omega) (Nat.le_refl _) (Nat.le_refl _)
  have hl' := hl.widen (lo' := w.heap.size) (by omega) (Nat.le_refl _) (Nat.le_refl _)
  have hh' := hh.widen (lo' := w.heap.size) (by omega) (Nat.le_refl _) (Nat.le_refl _)
  clear hc f k0 E0
  have b0 := sum_num xs 100001 bx (by omega) N 32 (by have := hv.1; omega) n0
  have b1 := sum_num ys 1000 by1 (by omega) N1 32 (by have := hl.1; omega) n1
  have b2 := sum_num zs 1000 bz (by omega) N2 32 (by have := hh.1; omega) n2
  rw [List.take_of_length_le (by rw [hv.1]; exact Nat.le_refl _)] at b0
  rw [List.take_of_length_le (by rw [hl.1]; exact Nat.le_refl _)] at b1
  rw [List.take_of_length_le (by rw [hh.1]; exact Nat.le_refl _)] at b2
  have BX := hid (bx.bd (B' := 10000000000) (by omega))
  have BY := hid (by1.bd (B' := 10000000000) (by omega))
  have BZ := hid (bz.bd (B' := 10000000000) (by omega))
  clear bx by1 bz
  go_wp2_with fail
  refine (tSum_any _ _ _ _ _ _ _ hv BX.out).mono ?_
  rintro e w' ⟨rfl, rfl⟩
  generalize xs.sum = s0 at *
  go_wp2_with fail
  refine (pick_any hc1 (by omega) (by omega)).mono ?_
  rintro e w2 ⟨a, rfl, ha, hc2, f2⟩
  have kw2 : Keeps w w2 := below_fr kw kw.size (Nat.le_refl _) f2
  have s2 := f2.size
  have v2 := hv.keepsF f2 (Nat.lt_succ_self _)
  have l2 := hl.keepsF f2 (Nat.lt_succ_self _)
  have h2 := hh.keepsF f2 (Nat.lt_succ_self _)
  clear hc1 f2 kw hv hl hh hv' hl' hh'
  by_cases hq : N1 = N2
  rotate_left
  · have q1 : ((N1 : Int) == N2) = false := by rw [beq_eq_false_iff_ne]; omega
    clear hq
    go_wp2
    (try simp only [Exit.inBlock, Exit.then]); refine bodyPost_ret (results_tmp4 rfl _ _ _) rfl ?_
    exact ⟨_, _, _, _, _, _, _, _, _, _, _, _, _, rfl, v2.widen (by omega) s2 (Nat.le_refl _), l2.widen (by omega) s2 (Nat.le_refl _), h2.widen (by omega) s2 (Nat.le_refl _), by omega, by omega, kw2⟩
  subst hq
  have q1 : ((N1 : Int) == N1) = true := by simp
  by_cases hz : 0 < N1
  rotate_left
  · have q2 : ¬ (0 : Int) < (N1 : Int) := by omega
    go_wp2
    (try simp only [Exit.inBlock, Exit.then]); refine bodyPost_ret (results_tmp4 rfl _ _ _) rfl ?_
    exact ⟨_, _, _, _, _, _, _, _, _, _, _, _, _, rfl, v2.widen (by omega) s2 (Nat.le_refl _), l2.widen (by omega) s2 (Nat.le_refl _), h2.widen (by omega) s2 (Nat.le_refl _), by omega, by omega, kw2⟩
  have q2 : (0 : Int) < (N1 : Int) := by omega
  go_wp2_with fail
  refine (one_any hc2 (by omega) (by omega)).mono ?_
  rintro e w3 ⟨b, rfl, hc3, f3⟩
  have kw3 : Keeps w w3 := below_fr kw2 kw2.size (Nat.le_refl _) f3
  have s3 := f3.size
  have v3 := v2.keepsF f3 (Nat.lt_succ_self _)
  have l3 := l2.keepsF f3 (Nat.lt_succ_self _)
  have h3 := h2.keepsF f3 (Nat.lt_succ_self _)
  clear hc2 f3 kw2 v2 l2 h2
  cases b
  · go_wp2
    (try simp only [Exit.inBlock, Exit.then]); refine bodyPost_ret (results_tmp4 rfl _ _ _) rfl ?_
    exact ⟨_, _, _, _, _, _, _, _, _, _, _, _, _, rfl, v3.widen (by omega) (by omega) (Nat.le_refl _), l3.widen (by omega) (by omega) (Nat.le_refl _), h3.widen (by omega) (by omega) (Nat.le_refl _), by omega, by omega, kw3⟩
  · go_wp2_with fail
    refine (tSum_any _ _ _ _ _ _ _ l3 BY.out).mono ?_
    rintro e w' ⟨rfl, rfl⟩
    generalize HY : ys.sum = s1 at *
    have HYY := hid HY
    clear HY
    go_wp2_with fail
    refine (tSum_any _ _ _ _ _ _ _ h3 BZ.out).mono ?_
    rintro e w' ⟨rfl, rfl⟩
    generalize zs.sum = s2' at *
    go_wp2_with fail
    refine (tSum_any _ _ _ _ _ _ _ l3 BY.out).mono ?_
    rintro e w' ⟨rfl, rfl⟩
    rw [HYY.out]
    go_wp2_with fail
    refine (l1Most_any _ _ _).mono ?_
    rintro e w' ⟨rfl, rfl⟩
    go_wp2_with fail
    refine (pick_any hc3 (by omega) (by omega)).mono ?_
    rintro e w4 ⟨p, rfl, hp, hc4, f4⟩
    have kw4 : Keeps w w4 := below_fr kw3 kw3.size (Nat.le_refl _) f4
    have s4 := f4.size
    have v4 := v3.keepsF f4 (Nat.lt_succ_self _)
    have l4 := l3.keepsF f4 (Nat.lt_succ_self _)
    have h4 := h3.keepsF f4 (Nat.lt_succ_self _)
    go_wp2
    (try simp only [Exit.inBlock, Exit.then]); refine bodyPost_ret (results_tmp4 rfl _ _ _) rfl ?_
    exact ⟨_, _, _, _, _, _, _, _, _, _, _, _, _, rfl, v4.widen (by omega) (by omega) (Nat.le_refl _), l4.widen (by omega) (by omega) (Nat.le_refl _), h4.widen (by omega) (by omega) (Nat.le_refl _), by omega, by omega, kw4⟩
end Go.Proofs.Ytkpliolafkdijaa
