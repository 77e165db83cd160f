/- WeightedError: of the reference and of the program; which trees of values are valid. -/
import Derived.Test.YtkpliolafkdijaaDist
namespace Go.Proofs.Ytkpliolafkdijaa
open Go.RowKit
set_option linter.unusedVariables false
set_option linter.unusedSimpArgs false

/-- A geography with values and variances. -/
def treeB (z y v : List Int) : Bool := geoB z && decide (y.length = z.length) && decide (v.length = y.length) && within (-100000) 100000 y && within 1 100 v
theorem treeB_true {z y v : List Int} : treeB z y v = true ↔ geoB z = true ∧ y.length = z.length ∧ v.length = y.length ∧ within (-100000) 100000 y = true ∧ within 1 100 v = true := by
  simp [treeB, and_assoc]
theorem treeB_no {z y v : List Int} (h : ¬ (geoB z = true ∧ y.length = z.length ∧ v.length = y.length ∧ within (-100000) 100000 y = true ∧ within 1 100 v = true)) : treeB z y v = false := by
  rw [Bool.eq_false_iff]; intro h1; exact h (treeB_true.1 h1)
def fracQ (f : Int × Int) : Bool := fracB f.1 f.2
/-- A geography with as many fractions. -/
def gfB (z : List Int) (l : List (Int × Int)) : Bool := geoB z && decide (l.length = z.length) && l.all fracQ
theorem gfB_true {z : List Int} {l : List (Int × Int)} : gfB z l = true ↔ geoB z = true ∧ l.length = z.length ∧ l.all fracQ = true := by simp [gfB, and_assoc]
theorem gfB_no {z : List Int} {l : List (Int × Int)} (h : ¬ (geoB z = true ∧ l.length = z.length ∧ l.all fracQ = true)) : gfB z l = false := by
  rw [Bool.eq_false_iff]; intro h1; exact h (gfB_true.1 h1)
theorem frac_at {l : List (Int × Int)} {k : Nat} {x y : Int} (h : l.all fracQ = true) (hk : k < l.length) (hx : (x, y) = l.getD k (0, 0)) : fracB x y = true := by
  have := all_true.1 h k hk; rw [← hx] at this; exact this
/-- One summand: the square of a difference, divided by a variance. -/
def weSt (l : List (Int × Int)) (y v : List Int) (k : Nat) (a b : Int) : Int × Int × Bool := wsqQ a b (l.getD k (0, 0)).1 (l.getD k (0, 0)).2 (y.getD k 0) (v.getD k 0)
theorem weSt_fine (l : List (Int × Int)) (xs v : List Int) (k : Nat) (a b : Int) : Fine (weSt l xs v k a b) := wsqQ_fine _ _ _ _ _ _
theorem weSt_at {l : List (Int × Int)} {ys vs : List Int} {k : Nat} {a b x y u v : Int} (hx : (x, y) = l.getD k (0, 0)) (hu : u = ys.getD k 0) (hv : v = vs.getD k 0) : weSt l ys vs k a b = wsqQ a b x y u v := by unfold weSt; rw [← hx, ← hu, ← hv]
theorem wsqQ_part {a b x y v d s1 s2 : Int} (h : sqrQ x y v = (s1, s2, true)) : wsqQ a b x y v d = if (mkF (s1 * 1) (s2 * d)).2.2 = true then mkF (a * (mkF (s1 * 1) (s2 * d)).2.1 + (mkF (s1 * 1) (s2 * d)).1 * b) (b * (mkF (s1 * 1) (s2 * d)).2.1) else (0, 0, false) := by
  rcases sqrQ_nf h with h1 | h1
  · unfold wsqQ; rw [if_pos h1, h]; simp
  · cases h1
theorem wsqQ_yes {a b x y v d s1 s2 t1 t2 : Int} (h : sqrQ x y v = (s1, s2, true)) (k : mkF (s1 * 1) (s2 * d) = (t1, t2, true)) : wsqQ a b x y v d = mkF (a * t2 + t1 * b) (b * t2) := by
  rw [wsqQ_part h, k]; simp
theorem wsqQ_no {a b x y v d s1 s2 t1 t2 : Int} (h : sqrQ x y v = (s1, s2, true)) (k : mkF (s1 * 1) (s2 * d) = (t1, t2, false)) : wsqQ a b x y v d = (0, 0, false) := by
  rw [wsqQ_part h, k]; simp
def weQ (z y v : List Int) (l : List (Int × Int)) : Int × Int × Bool := if treeB z y v = true ∧ gfB z l = true then accQ (weSt l y v) 0 1 l.length else (0, 0, false)
theorem weQ_no {z y v : List Int} {l : List (Int × Int)} (h : ¬ (treeB z y v = true ∧ gfB z l = true)) : weQ z y v l = (0, 0, false) := if_neg h
theorem weQ_yes {z y v : List Int} {l : List (Int × Int)} (h : treeB z y v = true ∧ gfB z l = true) : weQ z y v l = accQ (weSt l y v) 0 1 l.length := if_pos h

set_option maxHeartbeats 800000 in
theorem areTreeValues_any {A0 A1 A2 : Option Addr} {l0 l1 l2 u0 u1 u2 n0 n1 n2 c0 c1 c2 : Nat} {z y v : List Int} {w : World} (h0 : Ints w l0 u0 A0 n0 z) (h1 : Ints w l1 u1 A1 n1 y) (h2 : Ints w l2 u2 A2 n2 v) :
    Calls Try.prog 115 #[.agg #[.slice A0 n0 c0], .slice A1 n1 c1, .slice A2 n2 c2] w fun e w' => e = .returned (.bool (treeB z y v)) ∧ Keeps w w' := by
  have hn0 := h0.le
  have hl0 := h0.1
  have hn1 := h1.le
  have hl1 := h1.1
  have hn2 := h2.le
  have hl2 := h2.1
  go_enter Try.func115, Try.ntmps115
  have kw := keeps_refl w
  replace kw := Keeps.trans kw (keeps_alloc w (.cells #[.slice A0 n0 c0] 51))
  have b3 : B1 (w.alloc (.cells #[.slice A0 n0 c0] 51)) w.heap.size (.slice A0 n0 c0) := B1.new' (by simp)
  obtain ⟨ca1, fa1⟩ := id b3
  go_wp2_with fail
  clear ca1 fa1
  obtain ⟨pH1, H1⟩ : ∃ p, Hid (geoB z = p) := ⟨_, rfl⟩
  refine (IsGeo_any (h0.keeps kw)).mono ?_
  rintro e w2 ⟨rfl, k2⟩
  rw [H1.out]
  replace b3 := b3.keeps k2
  replace kw := Keeps.trans kw k2
  have lt3 := b3.lt
  have sz4 := kw.size
  clear k2
  cases pH1
  · have HF := hid (treeB_no (z := z) (y := y) (v := v) (by rw [H1.out]; simp))
    obtain ⟨ca5, fa5⟩ := id b3
    go_wp2_with fail
    clear ca5 fa5
    go_ret
    exact ⟨ret_bool (HF.out.symm), kw⟩
  · skip
    by_cases hm1 : n1 = n0
    rotate_left
    · have t1 : ((n1 : Int) == (n0 : Int)) = false := by rw [beq_eq_false_iff_ne]; omega
      have HF := hid (treeB_no (z := z) (y := y) (v := v) (by rw [hl0, hl1]; simp [hm1]))
      obtain ⟨ca5, fa5⟩ := id b3
      go_wp2_with fail
      clear ca5 fa5
      go_ret
      exact ⟨ret_bool (HF.out.symm), kw⟩
    obtain rfl : n1 = n0 := hm1
    have t1 : ((n1 : Int) == (n1 : Int)) = true := by simp
    by_cases hm2 : n2 = n1
    rotate_left
    · have t2 : ((n2 : Int) == (n1 : Int)) = false := by rw [beq_eq_false_iff_ne]; omega
      have HF := hid (treeB_no (z := z) (y := y) (v := v) (by rw [hl2, hl1]; simp [hm2]))
      obtain ⟨ca5, fa5⟩ := id b3
      go_wp2_with fail
      clear ca5 fa5
      go_ret
      exact ⟨ret_bool (HF.out.symm), kw⟩
    obtain rfl : n1 = n2 := hm2.symm
    have t2 : ((n1 : Int) == (n1 : Int)) = true := by simp
    obtain ⟨ca5, fa5⟩ := id b3
    go_wp2_with fail
    clear ca5 fa5
    obtain ⟨pH4, H4⟩ : ∃ p, Hid (within (-100000) 100000 y = p) := ⟨_, rfl⟩
    refine (areWithin_any _ _ _ _ _ _ _ _ _ (h1.keeps kw)).mono ?_
    rintro e w' ⟨rfl, rfl⟩
    rw [H4.out]
    cases pH4
    · have HF := hid (treeB_no (z := z) (y := y) (v := v) (by rw [H4.out]; simp))
      obtain ⟨ca6, fa6⟩ := id b3
      go_wp2_with fail
      clear ca6 fa6
      go_ret
      exact ⟨ret_bool (HF.out.symm), kw⟩
    · skip
      go_wp2_with fail
      obtain ⟨pH5, H5⟩ : ∃ p, Hid (within 1 100 v = p) := ⟨_, rfl⟩
      refine (areWithin_any _ _ _ _ _ _ _ _ _ (h2.keeps kw)).mono ?_
      rintro e w' ⟨rfl, rfl⟩
      rw [H5.out]
      cases pH5
      · have HF := hid (treeB_no (z := z) (y := y) (v := v) (by rw [H5.out]; simp))
        obtain ⟨ca6, fa6⟩ := id b3
        go_wp2_with fail
        clear ca6 fa6
        go_ret
        exact ⟨ret_bool (HF.out.symm), kw⟩
      · skip
        have HF := hid (treeB_true.2 ⟨H1.out, by rw [hl0, hl1], by rw [hl1, hl2], H4.out, H5.out⟩)
        go_wp2_with fail
        go_ret
        exact ⟨ret_bool (HF.out.symm), kw⟩
set_option maxHeartbeats 800000 in
theorem wTree_any {A0 A1 A2 : Option Addr} {l0 l1 l2 u0 u1 u2 n0 n1 n2 c0 c1 c2 : Nat} {z y v : List Int} {w : World} (h0 : Ints w l0 u0 A0 n0 z) (h1 : Ints w l1 u1 A1 n1 y) (h2 : Ints w l2 u2 A2 n2 v) :
    Calls Try.prog 113 #[.agg #[.slice A0 n0 c0], .slice A1 n1 c1, .slice A2 n2 c2] w fun e w' => e = .returned (.bool (treeB z y v)) ∧ Keeps w w' := by
  have hn0 := h0.le
  have hl0 := h0.1
  have hn1 := h1.le
  have hl1 := h1.1
  have hn2 := h2.le
  have hl2 := h2.1
  go_enter Try.func113, Try.ntmps113
  have kw := keeps_refl w
  replace kw := Keeps.trans kw (keeps_alloc w (.cells #[.slice A0 n0 c0] 51))
  have b3 : B1 (w.alloc (.cells #[.slice A0 n0 c0] 51)) w.heap.size (.slice A0 n0 c0) := B1.new' (by simp)
  obtain ⟨ca1, fa1⟩ := id b3
  go_wp2_with fail
  clear ca1 fa1
  obtain ⟨pH1, H1⟩ : ∃ p, Hid (geoB z = p) := ⟨_, rfl⟩
  refine (gGood_any (h0.keeps kw)).mono ?_
  rintro e w2 ⟨rfl, k2⟩
  rw [H1.out]
  replace b3 := b3.keeps k2
  replace kw := Keeps.trans kw k2
  have lt3 := b3.lt
  have sz4 := kw.size
  clear k2
  cases pH1
  · have HF := hid (treeB_no (z := z) (y := y) (v := v) (by rw [H1.out]; simp))
    obtain ⟨ca5, fa5⟩ := id b3
    go_wp2_with fail
    clear ca5 fa5
    go_ret
    exact ⟨ret_bool (HF.out.symm), kw⟩
  · skip
    by_cases hm1 : n1 = n0
    rotate_left
    · have t1 : ((n1 : Int) == (n0 : Int)) = false := by rw [beq_eq_false_iff_ne]; omega
      have HF := hid (treeB_no (z := z) (y := y) (v := v) (by rw [hl0, hl1]; simp [hm1]))
      obtain ⟨ca5, fa5⟩ := id b3
      go_wp2_with fail
      clear ca5 fa5
      go_ret
      exact ⟨ret_bool (HF.out.symm), kw⟩
    obtain rfl : n1 = n0 := hm1
    have t1 : ((n1 : Int) == (n1 : Int)) = true := by simp
    obtain ⟨ca5, fa5⟩ := id b3
    go_wp2_with fail
    clear ca5 fa5
    obtain ⟨pH4, H4⟩ : ∃ p, Hid (within (-100000) 100000 y = p) := ⟨_, rfl⟩
    refine (l1All_any _ _ _ _ _ _ _ _ _ (h1.keeps kw)).mono ?_
    rintro e w' ⟨rfl, rfl⟩
    rw [H4.out]
    cases pH4
    · have HF := hid (treeB_no (z := z) (y := y) (v := v) (by rw [H4.out]; simp))
      obtain ⟨ca6, fa6⟩ := id b3
      go_wp2_with fail
      clear ca6 fa6
      go_ret
      exact ⟨ret_bool (HF.out.symm), kw⟩
    · skip
      by_cases hm2 : n2 = n1
      rotate_left
      · have t2 : ((n2 : Int) == (n1 : Int)) = false := by rw [beq_eq_false_iff_ne]; omega
        have HF := hid (treeB_no (z := z) (y := y) (v := v) (by rw [hl2, hl1]; simp [hm2]))
        obtain ⟨ca6, fa6⟩ := id b3
        go_wp2_with fail
        clear ca6 fa6
        go_ret
        exact ⟨ret_bool (HF.out.symm), kw⟩
      obtain rfl : n1 = n2 := hm2.symm
      have t2 : ((n1 : Int) == (n1 : Int)) = true := by simp
      go_wp2_with fail
      obtain ⟨pH5, H5⟩ : ∃ p, Hid (within 1 100 v = p) := ⟨_, rfl⟩
      refine (l1All_any _ _ _ _ _ _ _ _ _ (h2.keeps kw)).mono ?_
      rintro e w' ⟨rfl, rfl⟩
      rw [H5.out]
      cases pH5
      · have HF := hid (treeB_no (z := z) (y := y) (v := v) (by rw [H5.out]; simp))
        obtain ⟨ca6, fa6⟩ := id b3
        go_wp2_with fail
        clear ca6 fa6
        go_ret
        exact ⟨ret_bool (HF.out.symm), kw⟩
      · skip
        have HF := hid (treeB_true.2 ⟨H1.out, by rw [hl0, hl1], by rw [hl1, hl2], H4.out, H5.out⟩)
        go_wp2_with fail
        go_ret
        exact ⟨ret_bool (HF.out.symm), kw⟩
set_option maxHeartbeats 800000 in
theorem areFracs_any {A : Option Addr} {lo hi n c : Nat} {l : List (Int × Int)} {w : World} (h : Fracs w lo hi A n l) :
    Calls Try.prog 120 #[.slice A n c] w fun e w' => e = .returned (.bool (l.all fracQ)) ∧ Keeps w w' := by
  have hn := h.le
  have hl := Fracs.len h
  go_enter Try.func120, Try.ntmps120
  have kw := keeps_refl w
  go_wp2_with fail
  go_loopw [7] (fun si wr => ∃ (k : Nat), k ≤ n ∧ si = .int .i64 k ∧ Hid (AllTo fracQ l k) ∧ Keeps w wr) (fun si _ => n - (intOf si).toNat)
  case atStart => exact ⟨0, Nat.zero_le _, rfl, (fun j hj => absurd hj (by omega)), kw⟩
  clear kw  
  case round =>
    obtain ⟨k, hk, rfl, HA, kw⟩ := hrel
    have sz1 := kw.size
    by_cases hlt : k < n
    · obtain ⟨b, off, x, y, rfl, _, hb, hc, hd, hx⟩ := Fracs.at_ (h.keeps kw) hlt
      have hi1 : (k : Int) < (n : Int) := by omega
      replace kw := Keeps.trans kw (keeps_alloc wr (.cells #[.int .i64 x, .int .i64 y] 41))
      have b9 : Bx (wr.alloc (.cells #[.int .i64 x, .int .i64 y] 41)) wr.heap.size x y := Bx.new' (by simp)
      go_wp2_with fail
      obtain ⟨pHP, HP⟩ : ∃ p, Hid (fracB x y = p) := ⟨_, rfl⟩
      refine (IsFrac_any).mono ?_
      rintro e w2 ⟨rfl, k2⟩
      rw [HP.out]
      replace b9 := b9.keeps k2
      replace kw := Keeps.trans kw k2
      have lt3 := b9.lt
      have sz4 := kw.size
      clear k2
      cases pHP
      · have HE := hid (all_no (p := fracQ) (by omega) hx.out HP.out)
        go_wp2_with fail
        go_ret
        exact ⟨ret_bool (HE.out.symm), kw⟩
      · skip
        go_wp2_with fail
        go_roundw
        case rel => exact ⟨k + 1, (by omega), (by go_num), allTo_succ HA.out hx.out HP.out, kw⟩
        case measure => simp [intOf]; omega
    · obtain rfl : k = n := by omega
      have HE := hid (show l.all fracQ = true from all_true.2 (by rw [hl]; exact HA.out))
      go_wp2_with fail
      go_ret
      exact ⟨ret_bool (HE.out.symm), kw⟩
set_option maxHeartbeats 800000 in
theorem wFracs_any {A : Option Addr} {lo hi n c : Nat} {l : List (Int × Int)} {w : World} (h : Fracs w lo hi A n l) {A0 : Option Addr} {l0 u0 n0 c0 : Nat} {z : List Int} (h0 : Ints w l0 u0 A0 n0 z) :
    Calls Try.prog 117 #[.agg #[.slice A0 n0 c0], .slice A n c] w fun e w' => e = .returned (.bool (gfB z l)) ∧ Keeps w w' := by
  have hn := h.le
  have hl := Fracs.len h
  have hl0 := h0.1
  go_enter Try.func117, Try.ntmps117
  have kw := keeps_refl w
  replace kw := Keeps.trans kw (keeps_alloc w (.cells #[.slice A0 n0 c0] 51))
  have b2 : B1 (w.alloc (.cells #[.slice A0 n0 c0] 51)) w.heap.size (.slice A0 n0 c0) := B1.new' (by simp)
  obtain ⟨ca1, fa1⟩ := id b2
  go_wp2_with fail
  clear ca1 fa1
  obtain ⟨pH1, H1⟩ : ∃ p, Hid (geoB z = p) := ⟨_, rfl⟩
  refine (gGood_any (h0.keeps kw)).mono ?_
  rintro e w2 ⟨rfl, k2⟩
  rw [H1.out]
  replace b2 := b2.keeps k2
  replace kw := Keeps.trans kw k2
  have lt3 := b2.lt
  have sz4 := kw.size
  clear k2
  cases pH1
  · have HF := hid (gfB_no (z := z) (l := l) (by rw [H1.out]; simp))
    obtain ⟨ca5, fa5⟩ := id b2
    go_wp2_with fail
    clear ca5 fa5
    go_ret
    exact ⟨ret_bool (HF.out.symm), kw⟩
  · skip
    by_cases hm1 : n = n0
    rotate_left
    · have t1 : ((n : Int) != (n0 : Int)) = true := by rw [bne_iff_ne]; omega
      have HF := hid (gfB_no (z := z) (l := l) (by rw [hl0, hl]; simp [hm1]))
      obtain ⟨ca5, fa5⟩ := id b2
      go_wp2_with fail
      clear ca5 fa5
      go_ret
      exact ⟨ret_bool (HF.out.symm), kw⟩
    obtain rfl : n = n0 := hm1
    have t1 : ((n : Int) != (n : Int)) = false := by simp
    obtain ⟨ca5, fa5⟩ := id b2
    go_wp2_with fail
    clear ca5 fa5
    clear b2
    go_loopw [20] (fun si wr => ∃ (k : Nat), k ≤ n ∧ si = .int .i64 k ∧ Hid (AllTo fracQ l k) ∧ Keeps w wr) (fun si _ => n - (intOf si).toNat)
    case atStart => exact ⟨0, Nat.zero_le _, rfl, (fun j hj => absurd hj (by omega)), kw⟩
    clear kw  
    case round =>
      obtain ⟨k, hk, rfl, HA, kw⟩ := hrel
      have sz6 := kw.size
      by_cases hlt : k < n
      · obtain ⟨b, off, x, y, rfl, _, hb, hc, hd, hx⟩ := Fracs.at_ (h.keeps kw) hlt
        have hi1 : (k : Int) < (n : Int) := by omega
        replace kw := Keeps.trans kw (keeps_alloc wr (.cells #[.int .i64 x, .int .i64 y] 41))
        have b9 : Bx (wr.alloc (.cells #[.int .i64 x, .int .i64 y] 41)) wr.heap.size x y := Bx.new' (by simp)
        go_wp2_with fail
        obtain ⟨pHP, HP⟩ : ∃ p, Hid (fracB x y = p) := ⟨_, rfl⟩
        refine (fGood_any).mono ?_
        rintro e w7 ⟨rfl, k7⟩
        rw [HP.out]
        replace b9 := b9.keeps k7
        replace kw := Keeps.trans kw k7
        have lt8 := b9.lt
        have sz9 := kw.size
        clear k7
        cases pHP
        · have HE := hid (all_no (p := fracQ) (by omega) hx.out HP.out)
          go_wp2_with fail
          go_ret
          exact ⟨ret_bool ((gfB_no (by rw [HE.out]; simp)).symm), kw⟩
        · skip
          go_wp2_with fail
          go_roundw
          case rel => exact ⟨k + 1, (by omega), (by go_num), allTo_succ HA.out hx.out HP.out, kw⟩
          case measure => simp [intOf]; omega
      · obtain rfl : k = n := by omega
        have HE := hid (show l.all fracQ = true from all_true.2 (by rw [hl]; exact HA.out))
        go_wp2_with fail
        go_ret
        exact ⟨ret_bool ((gfB_true.2 ⟨H1.out, by rw [hl, hl0], HE.out⟩).symm), kw⟩
set_option maxRecDepth 100000 in
set_option maxHeartbeats 1600000 in
theorem implWeightedError_any {A0 A1 A2 : Option Addr} {l0 l1 l2 u0 u1 u2 n0 n1 n2 c0 c1 c2 : Nat} {z y v : List Int} {w : World} (h0 : Ints w l0 u0 A0 n0 z) (h1 : Ints w l1 u1 A1 n1 y) (h2 : Ints w l2 u2 A2 n2 v) {A3 : Option Addr} {l3 u3 n3 c3 : Nat} {l : List (Int × Int)} (h3 : Fracs w l3 u3 A3 n3 l) :
    Calls Try.prog 75 #[.agg #[.slice A0 n0 c0], .slice A1 n1 c1, .slice A2 n2 c2, .slice A3 n3 c3] w fun e w' => e = .returned (.tuple #[.agg #[.int .i64 (weQ z y v l).1, .int .i64 (weQ z y v l).2.1], .bool (weQ z y v l).2.2]) ∧ Keeps w w' := by
  have hn0 := h0.le
  have hl0 := h0.1
  have hn1 := h1.le
  have hl1 := h1.1
  have hn2 := h2.le
  have hl2 := h2.1
  have hn3 := h3.le
  have hl3 := Fracs.len h3
  go_enter Try.func75, Try.ntmps75
  have kw := keeps_refl w
  replace kw := Keeps.trans kw (keeps_alloc w (.cells #[.slice A0 n0 c0] 51))
  have b4 : B1 (w.alloc (.cells #[.slice A0 n0 c0] 51)) w.heap.size (.slice A0 n0 c0) := B1.new' (by simp)
  replace b4 := b4.keeps (keeps_alloc (w.alloc (.cells #[.slice A0 n0 c0] 51)) (.cells #[.int .i64 0, .int .i64 0] 41))
  replace kw := Keeps.trans kw (keeps_alloc (w.alloc (.cells #[.slice A0 n0 c0] 51)) (.cells #[.int .i64 0, .int .i64 0] 41))
  have b8 : Bx ((w.alloc (.cells #[.slice A0 n0 c0] 51)).alloc (.cells #[.int .i64 0, .int .i64 0] 41)) (w.heap.size + 1) 0 0 := Bx.new' (by simp)
  obtain ⟨ca1, fa1⟩ := id b4
  go_wp2_with fail
  clear ca1 fa1
  obtain ⟨pH1, H1⟩ : ∃ p, Hid (treeB z y v = p) := ⟨_, rfl⟩
  refine (areTreeValues_any (h0.keeps kw) (h1.keeps kw) (h2.keeps kw)).mono ?_
  rintro e w2 ⟨rfl, k2⟩
  rw [H1.out]
  replace b4 := b4.keeps k2
  replace b8 := b8.keeps k2
  replace kw := Keeps.trans kw k2
  have lt3 := b8.lt
  have sz4 := kw.size
  clear k2
  cases pH1
  · have HF := hid (weQ_no (z := z) (y := y) (v := v) (l := l) (by rw [H1.out]; simp))
    obtain ⟨ca5, fa5⟩ := id b4
    obtain ⟨ca6, cb6, fa6, fb6⟩ := id b8
    go_wp2_with fail
    clear ca5 fa5 ca6 cb6 fa6 fb6
    obtain ⟨ca0, cb0, fa0, fb0⟩ := id b8
    refine bodyPost_ret (v := .tuple #[.agg #[.int .i64 0, .int .i64 0], .bool false]) (by simp [results, Try.results75, go_sem, ca0, cb0]) rfl ⟨ret_fb (by rw [HF.out]) (by rw [HF.out]) (by rw [HF.out]), ?_⟩
    exact below_set2 kw (p := (w.heap.size + 1)) (by omega) _ _
  · skip
    have H1' := hid (treeB_true.1 H1.out)
    by_cases hm1 : n3 = n1
    rotate_left
    · have t1 : ((n3 : Int) != (n1 : Int)) = true := by rw [bne_iff_ne]; omega
      have HF := hid (weQ_no (z := z) (y := y) (v := v) (l := l) (by intro hh; have := (gfB_true.1 hh.2).2.1; have := H1'.out.2.1; omega))
      obtain ⟨ca5, fa5⟩ := id b4
      obtain ⟨ca6, cb6, fa6, fb6⟩ := id b8
      go_wp2_with fail
      clear ca5 fa5 ca6 cb6 fa6 fb6
      obtain ⟨ca0, cb0, fa0, fb0⟩ := id b8
      refine bodyPost_ret (v := .tuple #[.agg #[.int .i64 0, .int .i64 0], .bool false]) (by simp [results, Try.results75, go_sem, ca0, cb0]) rfl ⟨ret_fb (by rw [HF.out]) (by rw [HF.out]) (by rw [HF.out]), ?_⟩
      exact below_set2 kw (p := (w.heap.size + 1)) (by omega) _ _
    obtain rfl : n3 = n1 := hm1
    have t1 : ((n3 : Int) != (n3 : Int)) = false := by simp
    go_wp2_with fail
    obtain ⟨pH2a, H2a⟩ : ∃ p, Hid (l.all fracQ = p) := ⟨_, rfl⟩
    refine (areFracs_any (h3.keeps kw)).mono ?_
    rintro e w5 ⟨rfl, k5⟩
    rw [H2a.out]
    replace b4 := b4.keeps k5
    replace b8 := b8.keeps k5
    replace kw := Keeps.trans kw k5
    have lt6 := b8.lt
    have sz7 := kw.size
    clear k5
    cases pH2a
    · have HF := hid (weQ_no (z := z) (y := y) (v := v) (l := l) (by intro hh; have := (gfB_true.1 hh.2).2.2; rw [H2a.out] at this; cases this))
      obtain ⟨ca8, fa8⟩ := id b4
      obtain ⟨ca9, cb9, fa9, fb9⟩ := id b8
      go_wp2_with fail
      clear ca8 fa8 ca9 cb9 fa9 fb9
      obtain ⟨ca0, cb0, fa0, fb0⟩ := id b8
      refine bodyPost_ret (v := .tuple #[.agg #[.int .i64 0, .int .i64 0], .bool false]) (by simp [results, Try.results75, go_sem, ca0, cb0]) rfl ⟨ret_fb (by rw [HF.out]) (by rw [HF.out]) (by rw [HF.out]), ?_⟩
      exact below_set2 kw (p := (w.heap.size + 1)) (by omega) _ _
    · skip
      have H2 := hid (gfB_true.2 ⟨H1'.out.1, by have := H1'.out.2.1; omega, H2a.out⟩)
      have H2' := hid (gfB_true.1 H2.out)
      have HF := hid (weQ_yes (z := z) (y := y) (v := v) (l := l) ⟨H1.out, H2.out⟩)
      rw [hl3] at HF
      obtain rfl : n3 = n2 := by have := H1'.out.2.2.1; omega
      clear b4
      replace b8 := b8.keeps (keeps_alloc w5 (.cells #[.int .i64 0, .int .i64 1] 41))
      replace kw := Keeps.trans kw (keeps_alloc w5 (.cells #[.int .i64 0, .int .i64 1] 41))
      have b10 : Bx (w5.alloc (.cells #[.int .i64 0, .int .i64 1] 41)) w5.heap.size 0 1 := Bx.new' (by simp)
      go_wp2_with fail
      go_loopw [36] (fun si wr => ∃ (k : Nat) (s1 : Int) (s2 : Int), k ≤ n3 ∧ si = .int .i64 k ∧ Hid (accQ (weSt l y v) 0 1 k = (s1, s2, true)) ∧ Hid (fracB s1 s2 = true) ∧ Bx wr (w.heap.size + 1) 0 0 ∧ Bx wr w5.heap.size s1 s2 ∧ Keeps w wr) (fun si _ => n3 - (intOf si).toNat)
      case atStart => exact ⟨0, 0, 1, Nat.zero_le _, rfl, rfl, fracB_01, b8, b10, kw⟩
      clear kw b8 b10 
      case round =>
        obtain ⟨k, s1, s2, hk, rfl, HA, HB, b8, b10, kw⟩ := hrel
        have lt8 := b10.lt
        have sz9 := kw.size
        by_cases hlt : k < n3
        · obtain ⟨b, off, x, y', rfl, _, hb, hc, hd, hx⟩ := Fracs.at_ (h3.keeps kw) hlt
          obtain ⟨bu, ou, u, rfl, _, hbu, hu, hxu⟩ := (h1.keeps kw).at_ (k := k) (by omega)
          obtain ⟨bt, ot, t, rfl, _, hbt, ht, hxt⟩ := (h2.keeps kw).at_ (k := k) (by omega)
          have fx := hid (frac_at H2'.out.2.2 (by omega) hx.out)
          have bu1 := within_true.1 H1'.out.2.2.2.1 k (by omega)
          rw [← hxu.out] at bu1
          have bu2 : -1000000000 ≤ u ∧ u ≤ 1000000000 := by omega
          have bt1 := within_true.1 H1'.out.2.2.2.2 k (by omega)
          rw [← hxt.out] at bt1
          have bt2 : -1000000000 ≤ t ∧ t ≤ 1000000000 := by omega
          have HD := hid (weSt_at (a := s1) (b := s2) hx.out hxu.out hxt.out)
          have hi1 : (k : Int) < (n3 : Int) := by omega
          replace b8 := b8.keeps (keeps_alloc wr (.cells #[.int .i64 x, .int .i64 y'] 41))
          replace b10 := b10.keeps (keeps_alloc wr (.cells #[.int .i64 x, .int .i64 y'] 41))
          replace kw := Keeps.trans kw (keeps_alloc wr (.cells #[.int .i64 x, .int .i64 y'] 41))
          have b12 : Bx (wr.alloc (.cells #[.int .i64 x, .int .i64 y'] 41)) wr.heap.size x y' := Bx.new' (by simp)
          go_wp2_with fail
          have hu2 := cell_keeps hu (keeps_alloc wr (.cells #[.int .i64 x, .int .i64 y'] 41))
          have ht2 := cell_keeps ht (keeps_alloc wr (.cells #[.int .i64 x, .int .i64 y'] 41))
          clear hc hd hu ht
          obtain ⟨q1, q2, q3, H5⟩ : ∃ q1 q2 q3, Hid (sqrQ x y' u = (q1, q2, q3)) := ⟨_, _, _, rfl⟩
          obtain ⟨ca11, cb11, -, -⟩ := id b12
          have kS := hid (show ∀ w', Keeps (wr.alloc (.cells #[.int .i64 x, .int .i64 y'] 41)) w' → (w'.cell? ⟨wr.heap.size, 0, none⟩ = some (.int .i64 x) ∧ w'.cell? ⟨wr.heap.size, 1, none⟩ = some (.int .i64 y') ∧ w'.cell? ⟨bu, ou + k, none⟩ = some (.int .i64 u)) from fun w' k => ⟨cell_keeps ca11 k, cell_keeps cb11 k, cell_keeps hu2 k⟩)
          go_cut [13, 14] (fun sd so wq => ∃ wy g, wy = wq ∧ sd = .pointer (some ⟨g, 0, none⟩) ∧ so = .bool q3 ∧ Bx wy g q1 q2 ∧ (wr.alloc (.cells #[.int .i64 x, .int .i64 y'] 41)).heap.size ≤ g ∧ Keeps (wr.alloc (.cells #[.int .i64 x, .int .i64 y'] 41)) wy)
          case first =>
            have eA := hid (show (wr.alloc (.cells #[.int .i64 x, .int .i64 y'] 41)).heap.size = wr.heap.size + 1 by simp)
            go_region_held3 (fun w' => w'.cell? ⟨wr.heap.size, 0, none⟩ = some (.int .i64 x) ∧ w'.cell? ⟨wr.heap.size, 1, none⟩ = some (.int .i64 y') ∧ w'.cell? ⟨bu, ou + k, none⟩ = some (.int .i64 u)) (first | exact kS.out _ (keeps_d0 (wr.alloc (.cells #[.int .i64 x, .int .i64 y'] 41))) | exact kS.out _ (keeps_ad0 (wr.alloc (.cells #[.int .i64 x, .int .i64 y'] 41)) _) | exact kS.out _ (kW) | exact kS.out _ (kW.trans (keeps_alloc _ _)) | exact kS.out _ (below_set2 kW (p := (wr.heap.size + 1)) (Nat.le_of_eq eA.out) _ _) | go_keep)
              ((first | (go_at_call 145; refine (squareOf_any fx.out bu2).mono ?_; rintro e wB ⟨rfl, kB⟩; rw [H5.out]; (first | (have kZ : Bx wB (wr.heap.size + 1) 0 0 := Bx.kZ1 kB eA.out; obtain ⟨z1, z2, z3, z4⟩ := id kZ) | (have kZ : Bx wB (wr.heap.size + 1) 0 0 := Bx.kZ2 kB eA.out; obtain ⟨z1, z2, z3, z4⟩ := id kZ) | (have kZ := kZ.keeps kB; obtain ⟨z1, z2, z3, z4⟩ := id kZ) | skip); (first | (have kW : Keeps (wr.alloc (.cells #[.int .i64 x, .int .i64 y'] 41)) wB := kW.trans kB) | (have kW : Keeps (wr.alloc (.cells #[.int .i64 x, .int .i64 y'] 41)) wB := (kW.trans (keeps_alloc _ _)).trans kB) | (have kW : Keeps (wr.alloc (.cells #[.int .i64 x, .int .i64 y'] 41)) wB := keeps_d kB) | (have kW : Keeps (wr.alloc (.cells #[.int .i64 x, .int .i64 y'] 41)) wB := keeps_ad kB)); clear kB)))
            all_goals (go_wp2_with fail; go_meet; first
              | exact ⟨_, _, rfl, rfl, rfl, Bx.new _ _ _ _, kW.size, kW.trans (keeps_alloc _ _)⟩
              | exact ⟨_, _, rfl, rfl, rfl, Bx.set (x := 0) (y := 0) kZ _ _, Nat.le_of_eq eA.out, below_set2 kW (p := (wr.heap.size + 1)) (Nat.le_of_eq eA.out) _ _⟩)
          case rest =>
            clear kS
            clear ca11 cb11
            obtain ⟨wx10, g10, rfl, rfl, rfl, b13, lg10, kx10⟩ := hcut
            simp at lg10
            replace b8 := b8.keeps kx10
            replace b10 := b10.keeps kx10
            replace b12 := b12.keeps kx10
            replace kw := Keeps.trans kw kx10
            clear kx10
            have lt13 := b13.lt
            have sz14 := kw.size
            clear hu2
            cases q3
            · have HE := hid (accQ_fail HA.out (show weSt l y v k s1 s2 = (0, 0, false) from HD.out.trans (wsqQ_bad H5.out)) hlt)
              replace HF := hid (HF.out.trans HE.out)
              obtain ⟨ca15, cb15, fa15, fb15⟩ := id b8
              go_wp2_with fail
              clear ca15 cb15 fa15 fb15
              obtain ⟨ca0, cb0, fa0, fb0⟩ := id b8
              refine bodyPost_ret (v := .tuple #[.agg #[.int .i64 0, .int .i64 0], .bool false]) (by simp [results, Try.results75, go_sem, ca0, cb0]) rfl ⟨ret_fb (by rw [HF.out]) (by rw [HF.out]) (by rw [HF.out]), ?_⟩
              exact below_set2 kw (p := (w.heap.size + 1)) (by omega) _ _
            · have fq := hid ((sqrQ_fine _ _ _).ok H5.out)
              have ft := hid (fracB_int bt2)
              obtain ⟨t1, t2, t3, H6⟩ : ∃ t1 t2 t3, Hid (mkF (q1 * 1) (q2 * t) = (t1, t2, t3)) := ⟨_, _, _, rfl⟩
              obtain ⟨bt9, ot9, t9, e9, -, -, ht3, hxt9⟩ := (h2.keeps kw).at_ (k := k) (by omega)
              obtain ⟨rfl, rfl⟩ : bt = bt9 ∧ ot = ot9 := by simpa using e9
              obtain rfl : t = t9 := hxt.out.trans hxt9.out.symm
              clear e9 hxt9
              go_wp2_with fail
              obtain ⟨ca15, cb15, fa15, fb15⟩ := id b13
              go_cut [14] (fun so wq => ∃ wB, wq = ((wB.setCell ⟨g10, 0, none⟩ (.int .i64 t1)).setCell ⟨g10, 1, none⟩ (.int .i64 t2)) ∧ so = .bool t3 ∧ Keeps wx10 wB)
              case first =>
                go_region_with ((first | (go_at_call 164; refine (DivFrac_any fq.out ft.out).mono ?_; rintro e wB ⟨rfl, kB⟩; rw [H6.out]; (first | (replace kW : Keeps wx10 wB := kW.trans kB) | (have kW : Keeps wx10 wB := keeps_d kB)); clear kB; (first | clear z1 z2 z3 z4 | skip); obtain ⟨z1, z2, z3, z4⟩ := b13.keeps kW)))
                all_goals (go_wp2_with fail; go_meet; exact ⟨_, rfl, rfl, kW⟩)
              case rest =>
                clear ca15 cb15 fa15 fb15
                obtain ⟨wB16, rfl, rfl, kW⟩ := hcut
                replace b8 := b8.keeps kW
                replace b10 := b10.keeps kW
                replace b12 := b12.keeps kW
                replace b13 := b13.keeps kW
                replace kw := Keeps.trans kw kW
                have lt17 := b13.lt
                have sz18 := kw.size
                clear kW
                replace b8 := b8.set2 (p := g10) (by omega) (.int .i64 t1) (.int .i64 t2)
                replace b10 := b10.set2 (p := g10) (by omega) (.int .i64 t1) (.int .i64 t2)
                replace b12 := b12.set2 (p := g10) (by omega) (.int .i64 t1) (.int .i64 t2)
                replace b13 := b13.set t1 t2
                replace kw := below_set2 kw (p := g10) (by omega) (.int .i64 t1) (.int .i64 t2)
                clear ht3
                cases t3
                · have HE := hid (accQ_fail HA.out (show weSt l y v k s1 s2 = (0, 0, false) from HD.out.trans (wsqQ_no H5.out H6.out)) hlt)
                  replace HF := hid (HF.out.trans HE.out)
                  obtain ⟨ca19, cb19, fa19, fb19⟩ := id b8
                  go_wp2_with fail
                  clear ca19 cb19 fa19 fb19
                  obtain ⟨ca0, cb0, fa0, fb0⟩ := id b8
                  refine bodyPost_ret (v := .tuple #[.agg #[.int .i64 0, .int .i64 0], .bool false]) (by simp [results, Try.results75, go_sem, ca0, cb0]) rfl ⟨ret_fb (by rw [HF.out]) (by rw [HF.out]) (by rw [HF.out]), ?_⟩
                  exact below_set2 kw (p := (w.heap.size + 1)) (by omega) _ _
                · have fs := hid ((Fine.mk _ _).ok H6.out)
                  obtain ⟨r1, r2, r3, H7⟩ : ∃ r1 r2 r3, Hid (mkF (s1 * t2 + t1 * s2) (s2 * t2) = (r1, r2, r3)) := ⟨_, _, _, rfl⟩
                  have HS := hid ((HD.out.trans (wsqQ_yes H5.out H6.out)).trans H7.out)
                  obtain ⟨ca19, cb19, fa19, fb19⟩ := id b10
                  obtain ⟨ca20, cb20, fa20, fb20⟩ := id b13
                  go_wp2_with fail
                  clear ca19 cb19 fa19 fb19 ca20 cb20 fa20 fb20
                  refine (AddFrac_any HB.out fs.out).mono ?_
                  rintro e w21 ⟨rfl, k21⟩
                  rw [H7.out]
                  replace b8 := b8.keeps k21
                  replace b10 := b10.keeps k21
                  replace b12 := b12.keeps k21
                  replace b13 := b13.keeps k21
                  replace kw := Keeps.trans kw k21
                  have lt22 := b13.lt
                  have sz23 := kw.size
                  clear k21
                  cases r3
                  · obtain ⟨ca24, cb24, fa24, fb24⟩ := id b10
                    obtain ⟨ca25, cb25, fa25, fb25⟩ := id b8
                    replace b8 := b8.set2 (p := w5.heap.size) (by omega) (.int .i64 r1) (.int .i64 r2)
                    replace b12 := b12.set2 (p := w5.heap.size) (by omega) (.int .i64 r1) (.int .i64 r2)
                    replace b13 := b13.set2 (p := w5.heap.size) (by omega) (.int .i64 r1) (.int .i64 r2)
                    replace b10 := b10.set r1 r2
                    replace kw := below_set2 kw (p := w5.heap.size) (by omega) (.int .i64 r1) (.int .i64 r2)
                    obtain ⟨ca26, cb26, fa26, fb26⟩ := id b8
                    have HE := hid (accQ_fail HA.out (show weSt l y v k s1 s2 = (0, 0, false) from (weSt_fine _ _ _ _ _ _).bad HS.out) hlt)
                    replace HF := hid (HF.out.trans HE.out)
                    obtain ⟨ca27, cb27, fa27, fb27⟩ := id b8
                    go_wp2_with fail
                    clear ca24 cb24 fa24 fb24 ca25 cb25 fa25 fb25 ca26 cb26 fa26 fb26 ca27 cb27 fa27 fb27
                    obtain ⟨ca0, cb0, fa0, fb0⟩ := id b8
                    refine bodyPost_ret (v := .tuple #[.agg #[.int .i64 0, .int .i64 0], .bool false]) (by simp [results, Try.results75, go_sem, ca0, cb0]) rfl ⟨ret_fb (by rw [HF.out]) (by rw [HF.out]) (by rw [HF.out]), ?_⟩
                    exact below_set2 kw (p := (w.heap.size + 1)) (by omega) _ _
                  · have fr := hid ((weSt_fine _ _ _ _ _ _).ok HS.out)
                    obtain ⟨ca24, cb24, fa24, fb24⟩ := id b10
                    replace b8 := b8.set2 (p := w5.heap.size) (by omega) (.int .i64 r1) (.int .i64 r2)
                    replace b12 := b12.set2 (p := w5.heap.size) (by omega) (.int .i64 r1) (.int .i64 r2)
                    replace b13 := b13.set2 (p := w5.heap.size) (by omega) (.int .i64 r1) (.int .i64 r2)
                    replace b10 := b10.set r1 r2
                    replace kw := below_set2 kw (p := w5.heap.size) (by omega) (.int .i64 r1) (.int .i64 r2)
                    go_wp2_with fail
                    clear ca24 cb24 fa24 fb24
                    go_roundw
                    case rel => exact ⟨k + 1, r1, r2, (by omega), (by go_num), accQ_next HA.out HS.out, fr.out, b8, b10, kw⟩
                    case measure => simp [intOf]; omega
        · obtain rfl : k = n3 := by omega
          replace HF := hid (HF.out.trans HA.out)
          obtain ⟨ca10, cb10, fa10, fb10⟩ := id b8
          obtain ⟨ca11, cb11, fa11, fb11⟩ := id b10
          go_wp2_with fail
          clear ca10 cb10 fa10 fb10 ca11 cb11 fa11 fb11
          obtain ⟨ca0, cb0, fa0, fb0⟩ := id b8
          refine bodyPost_ret (v := .tuple #[.agg #[.int .i64 s1, .int .i64 s2], .bool true]) (by simp [results, Try.results75, go_sem, ca0, cb0]) rfl ⟨ret_fb (by rw [HF.out]) (by rw [HF.out]) (by rw [HF.out]), ?_⟩
          exact below_set2 kw (p := (w.heap.size + 1)) (by omega) _ _
end Go.Proofs.Ytkpliolafkdijaa
