/- wSquare of the reference. -/
import Derived.Test.YtnopedjgagoahaaKD
import Derived.Deep.RegionHeld3
import Derived.Test.YtnopedjgagoahaaKC
namespace Go.Proofs.Ytnopedjgagoahaa
open Go.RowKit
set_option linter.unusedVariables false
set_option linter.unusedSimpArgs false

/-- The sum plus the square of f - n, divided by d. -/
def wsqQ (a b x y n d : Int) : Int × Int × Bool :=
  if (mkF (x * 1 - n * y) (y * 1)).2.2 = true then
    (if (sqrQ x y n).2.2 = true then
      (if (mkF ((sqrQ x y n).1 * 1) ((sqrQ x y n).2.1 * d)).2.2 = true then mkF (a * (mkF ((sqrQ x y n).1 * 1) ((sqrQ x y n).2.1 * d)).2.1 + (mkF ((sqrQ x y n).1 * 1) ((sqrQ x y n).2.1 * d)).1 * b) (b * (mkF ((sqrQ x y n).1 * 1) ((sqrQ x y n).2.1 * d)).2.1) else (0, 0, false)) else (0, 0, false)) else (0, 0, false)

-- $1 slots, $2 block of the loaded box, $3 its fact, $4 $5 its numbers, $6 the second function, $7 its contract, $8 the equation of its result, $9 the result
end Go.Proofs.Ytnopedjgagoahaa

/- DistanceWhole: of the reference and of the program. -/
namespace Go.Proofs.Ytnopedjgagoahaa
open Go.RowKit
set_option linter.unusedVariables false
set_option linter.unusedSimpArgs false

theorem wsqQ_fine (a b x y n d : Int) : Fine (wsqQ a b x y n d) := by unfold wsqQ; exact Fine.ite (Fine.ite (Fine.ite (Fine.mk _ _) Fine.no) Fine.no) Fine.no
/-- One summand: the square of a difference. -/
def dwSt (l : List (Int × Int)) (xs : List Int) (k : Nat) (a b : Int) : Int × Int × Bool := wsqQ a b (l.getD k (0, 0)).1 (l.getD k (0, 0)).2 (xs.getD k 0) 1
theorem dwSt_fine (l : List (Int × Int)) (xs : List Int) (k : Nat) (a b : Int) : Fine (dwSt l xs k a b) := wsqQ_fine _ _ _ _ _ _
theorem dwSt_at {l : List (Int × Int)} {xs : List Int} {k : Nat} {a b x y v : Int} (hx : (x, y) = l.getD k (0, 0)) (hv : v = xs.getD k 0) : dwSt l xs k a b = wsqQ a b x y v 1 := by unfold dwSt; rw [← hx, ← hv]
def dwQ (l : List (Int × Int)) (xs : List Int) : Int × Int × Bool := if roundB l = true ∧ xs.length = l.length ∧ within 0 5000 xs = true then accQ (dwSt l xs) 0 1 l.length else (0, 0, false)
theorem dwQ_no {l : List (Int × Int)} {xs : List Int} (h : ¬ (roundB l = true ∧ xs.length = l.length ∧ within 0 5000 xs = true)) : dwQ l xs = (0, 0, false) := if_neg h
theorem dwQ_yes {l : List (Int × Int)} {xs : List Int} (h : roundB l = true ∧ xs.length = l.length ∧ within 0 5000 xs = true) : dwQ l xs = accQ (dwSt l xs) 0 1 l.length := if_pos h
theorem roundB_at {l : List (Int × Int)} {k : Nat} {x y : Int} (h : roundB l = true) (hk : k < l.length) (hx : (x, y) = l.getD k (0, 0)) : fracB x y = true := by
  unfold roundB at h
  simp only [Bool.and_eq_true] at h
  have := all_true.1 h.2 k hk
  rw [← hx] at this
  simp only [rdQ, shortQ, Bool.and_eq_true] at this
  exact this.1.1
theorem sqrQ_nf {x y v s1 s2 : Int} {b : Bool} (h : sqrQ x y v = (s1, s2, b)) : (mkF (x * 1 - v * y) (y * 1)).2.2 = true ∨ (s1, s2, b) = (0, 0, false) := by
  cases e : (mkF (x * 1 - v * y) (y * 1)).2.2 with
  | true => exact Or.inl rfl
  | false => right; rw [← h]; unfold sqrQ; rw [if_neg (by rw [e]; simp)]
theorem wsqQ_sqr {a b x y v s1 s2 : Int} (h : sqrQ x y v = (s1, s2, true)) : wsqQ a b x y v 1 = mkF (a * s2 + s1 * b) (b * s2) := by
  have hf := (sqrQ_fine x y v).ok h
  have e1 := mkF_self (n := s1) (d := s2) hf
  unfold wsqQ
  rcases sqrQ_nf h with h1 | h1
  · rw [if_pos h1, h]
    simp only [if_true, Int.mul_one]
    rw [e1]; simp
  · cases h1
theorem wsqQ_bad {a b x y v d s1 s2 : Int} (h : sqrQ x y v = (s1, s2, false)) : wsqQ a b x y v d = (0, 0, false) := by
  unfold wsqQ
  rw [h]; simp

end Go.Proofs.Ytnopedjgagoahaa

/- WeightedError: of the reference and of the program; which trees of values are valid. -/
namespace Go.Proofs.Ytnopedjgagoahaa
open Go.RowKit
set_option linter.unusedVariables false
set_option linter.unusedSimpArgs false

/-- A geography with values and variances. -/
def treeB (z y v : List Int) : Bool := geoB z && decide (y.length = z.length) && decide (v.length = y.length) && within (-100000) 100000 y && within 1 100 v
theorem treeB_true {z y v : List Int} : treeB z y v = true ↔ geoB z = true ∧ y.length = z.length ∧ v.length = y.length ∧ within (-100000) 100000 y = true ∧ within 1 100 v = true := by
  simp [treeB, and_assoc]
theorem treeB_no {z y v : List Int} (h : ¬ (geoB z = true ∧ y.length = z.length ∧ v.length = y.length ∧ within (-100000) 100000 y = true ∧ within 1 100 v = true)) : treeB z y v = false := by
  rw [Bool.eq_false_iff]; intro h1; exact h (treeB_true.1 h1)
def fracQ (f : Int × Int) : Bool := fracB f.1 f.2
/-- A geography with as many fractions. -/
def gfB (z : List Int) (l : List (Int × Int)) : Bool := geoB z && decide (l.length = z.length) && l.all fracQ
theorem gfB_true {z : List Int} {l : List (Int × Int)} : gfB z l = true ↔ geoB z = true ∧ l.length = z.length ∧ l.all fracQ = true := by simp [gfB, and_assoc]
theorem gfB_no {z : List Int} {l : List (Int × Int)} (h : ¬ (geoB z = true ∧ l.length = z.length ∧ l.all fracQ = true)) : gfB z l = false := by
  rw [Bool.eq_false_iff]; intro h1; exact h (gfB_true.1 h1)
theorem frac_at {l : List (Int × Int)} {k : Nat} {x y : Int} (h : l.all fracQ = true) (hk : k < l.length) (hx : (x, y) = l.getD k (0, 0)) : fracB x y = true := by
  have := all_true.1 h k hk; rw [← hx] at this; exact this
/-- One summand: the square of a difference, divided by a variance. -/
def weSt (l : List (Int × Int)) (y v : List Int) (k : Nat) (a b : Int) : Int × Int × Bool := wsqQ a b (l.getD k (0, 0)).1 (l.getD k (0, 0)).2 (y.getD k 0) (v.getD k 0)
theorem weSt_fine (l : List (Int × Int)) (xs v : List Int) (k : Nat) (a b : Int) : Fine (weSt l xs v k a b) := wsqQ_fine _ _ _ _ _ _
theorem weSt_at {l : List (Int × Int)} {ys vs : List Int} {k : Nat} {a b x y u v : Int} (hx : (x, y) = l.getD k (0, 0)) (hu : u = ys.getD k 0) (hv : v = vs.getD k 0) : weSt l ys vs k a b = wsqQ a b x y u v := by unfold weSt; rw [← hx, ← hu, ← hv]
theorem wsqQ_part {a b x y v d s1 s2 : Int} (h : sqrQ x y v = (s1, s2, true)) : wsqQ a b x y v d = if (mkF (s1 * 1) (s2 * d)).2.2 = true then mkF (a * (mkF (s1 * 1) (s2 * d)).2.1 + (mkF (s1 * 1) (s2 * d)).1 * b) (b * (mkF (s1 * 1) (s2 * d)).2.1) else (0, 0, false) := by
  rcases sqrQ_nf h with h1 | h1
  · unfold wsqQ; rw [if_pos h1, h]; simp
  · cases h1
theorem wsqQ_yes {a b x y v d s1 s2 t1 t2 : Int} (h : sqrQ x y v = (s1, s2, true)) (k : mkF (s1 * 1) (s2 * d) = (t1, t2, true)) : wsqQ a b x y v d = mkF (a * t2 + t1 * b) (b * t2) := by
  rw [wsqQ_part h, k]; simp
theorem wsqQ_no {a b x y v d s1 s2 t1 t2 : Int} (h : sqrQ x y v = (s1, s2, true)) (k : mkF (s1 * 1) (s2 * d) = (t1, t2, false)) : wsqQ a b x y v d = (0, 0, false) := by
  rw [wsqQ_part h, k]; simp
def weQ (z y v : List Int) (l : List (Int × Int)) : Int × Int × Bool := if treeB z y v = true ∧ gfB z l = true then accQ (weSt l y v) 0 1 l.length else (0, 0, false)
theorem weQ_no {z y v : List Int} {l : List (Int × Int)} (h : ¬ (treeB z y v = true ∧ gfB z l = true)) : weQ z y v l = (0, 0, false) := if_neg h
theorem weQ_yes {z y v : List Int} {l : List (Int × Int)} (h : treeB z y v = true ∧ gfB z l = true) : weQ z y v l = accQ (weSt l y v) 0 1 l.length := if_pos h

set_option maxHeartbeats 800000 in
theorem areTreeValues_any {A0 A1 A2 : Option Addr} {l0 l1 l2 u0 u1 u2 n0 n1 n2 c0 c1 c2 : Nat} {z y v : List Int} {w : World} (h0 : Ints w l0 u0 A0 n0 z) (h1 : Ints w l1 u1 A1 n1 y) (h2 : Ints w l2 u2 A2 n2 v) :
    Calls Try.prog 186 #[.agg #[.slice A0 n0 c0], .slice A1 n1 c1, .slice A2 n2 c2] w fun e w' => e = .returned (.bool (treeB z y v)) ∧ Keeps w w' := by
  have hn0 := h0.le
  have hl0 := h0.1
  have hn1 := h1.le
  have hl1 := h1.1
  have hn2 := h2.le
  have hl2 := h2.1
  go_enter Try.func186, Try.ntmps186
  have kw := keeps_refl w
  replace kw := Keeps.trans kw (keeps_alloc w (.cells #[.slice A0 n0 c0] 53))
  have b3 : B1 (w.alloc (.cells #[.slice A0 n0 c0] 53)) w.heap.size (.slice A0 n0 c0) := B1.new' (by simp)
  obtain ⟨ca1, fa1⟩ := id b3
  go_wp2_with fail
  clear ca1 fa1
  obtain ⟨pH1, H1⟩ : ∃ p, Hid (geoB z = p) := ⟨_, rfl⟩
  refine (IsGeo_any (h0.keeps kw)).mono ?_
  rintro e w2 ⟨rfl, k2⟩
  rw [H1.out]
  replace b3 := b3.keeps k2
  replace kw := Keeps.trans kw k2
  have lt3 := b3.lt
  have sz4 := kw.size
  clear k2
  cases pH1
  · have HF := hid (treeB_no (z := z) (y := y) (v := v) (by rw [H1.out]; simp))
    obtain ⟨ca5, fa5⟩ := id b3
    go_wp2_with fail
    clear ca5 fa5
    go_ret
    exact ⟨ret_bool (HF.out.symm), kw⟩
  · skip
    by_cases hm1 : n1 = n0
    rotate_left
    · have t1 : ((n1 : Int) == (n0 : Int)) = false := by rw [beq_eq_false_iff_ne]; omega
      have HF := hid (treeB_no (z := z) (y := y) (v := v) (by rw [hl0, hl1]; simp [hm1]))
      obtain ⟨ca5, fa5⟩ := id b3
      go_wp2_with fail
      clear ca5 fa5
      go_ret
      exact ⟨ret_bool (HF.out.symm), kw⟩
    obtain rfl : n1 = n0 := hm1
    have t1 : ((n1 : Int) == (n1 : Int)) = true := by simp
    by_cases hm2 : n2 = n1
    rotate_left
    · have t2 : ((n2 : Int) == (n1 : Int)) = false := by rw [beq_eq_false_iff_ne]; omega
      have HF := hid (treeB_no (z := z) (y := y) (v := v) (by rw [hl2, hl1]; simp [hm2]))
      obtain ⟨ca5, fa5⟩ := id b3
      go_wp2_with fail
      clear ca5 fa5
      go_ret
      exact ⟨ret_bool (HF.out.symm), kw⟩
    obtain rfl : n1 = n2 := hm2.symm
    have t2 : ((n1 : Int) == (n1 : Int)) = true := by simp
    obtain ⟨ca5, fa5⟩ := id b3
    go_wp2_with fail
    clear ca5 fa5
    obtain ⟨pH4, H4⟩ : ∃ p, Hid (within (-100000) 100000 y = p) := ⟨_, rfl⟩
    refine (areWithin_any _ _ _ _ _ _ _ _ _ (h1.keeps kw)).mono ?_
    rintro e w' ⟨rfl, rfl⟩
    rw [H4.out]
    cases pH4
    · have HF := hid (treeB_no (z := z) (y := y) (v := v) (by rw [H4.out]; simp))
      obtain ⟨ca6, fa6⟩ := id b3
      go_wp2_with fail
      clear ca6 fa6
      go_ret
      exact ⟨ret_bool (HF.out.symm), kw⟩
    · skip
      go_wp2_with fail
      obtain ⟨pH5, H5⟩ : ∃ p, Hid (within 1 100 v = p) := ⟨_, rfl⟩
      refine (areWithin_any _ _ _ _ _ _ _ _ _ (h2.keeps kw)).mono ?_
      rintro e w' ⟨rfl, rfl⟩
      rw [H5.out]
      cases pH5
      · have HF := hid (treeB_no (z := z) (y := y) (v := v) (by rw [H5.out]; simp))
        obtain ⟨ca6, fa6⟩ := id b3
        go_wp2_with fail
        clear ca6 fa6
        go_ret
        exact ⟨ret_bool (HF.out.symm), kw⟩
      · skip
        have HF := hid (treeB_true.2 ⟨H1.out, by rw [hl0, hl1], by rw [hl1, hl2], H4.out, H5.out⟩)
        go_wp2_with fail
        go_ret
        exact ⟨ret_bool (HF.out.symm), kw⟩
set_option maxHeartbeats 800000 in
theorem wTree_any {A0 A1 A2 : Option Addr} {l0 l1 l2 u0 u1 u2 n0 n1 n2 c0 c1 c2 : Nat} {z y v : List Int} {w : World} (h0 : Ints w l0 u0 A0 n0 z) (h1 : Ints w l1 u1 A1 n1 y) (h2 : Ints w l2 u2 A2 n2 v) :
    Calls Try.prog 116 #[.agg #[.slice A0 n0 c0], .slice A1 n1 c1, .slice A2 n2 c2] w fun e w' => e = .returned (.bool (treeB z y v)) ∧ Keeps w w' := by
  have hn0 := h0.le
  have hl0 := h0.1
  have hn1 := h1.le
  have hl1 := h1.1
  have hn2 := h2.le
  have hl2 := h2.1
  go_enter Try.func116, Try.ntmps116
  have kw := keeps_refl w
  replace kw := Keeps.trans kw (keeps_alloc w (.cells #[.slice A0 n0 c0] 53))
  have b3 : B1 (w.alloc (.cells #[.slice A0 n0 c0] 53)) w.heap.size (.slice A0 n0 c0) := B1.new' (by simp)
  obtain ⟨ca1, fa1⟩ := id b3
  go_wp2_with fail
  clear ca1 fa1
  obtain ⟨pH1, H1⟩ : ∃ p, Hid (geoB z = p) := ⟨_, rfl⟩
  refine (gGood_any (h0.keeps kw)).mono ?_
  rintro e w2 ⟨rfl, k2⟩
  rw [H1.out]
  replace b3 := b3.keeps k2
  replace kw := Keeps.trans kw k2
  have lt3 := b3.lt
  have sz4 := kw.size
  clear k2
  cases pH1
  · have HF := hid (treeB_no (z := z) (y := y) (v := v) (by rw [H1.out]; simp))
    obtain ⟨ca5, fa5⟩ := id b3
    go_wp2_with fail
    clear ca5 fa5
    go_ret
    exact ⟨ret_bool (HF.out.symm), kw⟩
  · skip
    by_cases hm1 : n1 = n0
    rotate_left
    · have t1 : ((n1 : Int) == (n0 : Int)) = false := by rw [beq_eq_false_iff_ne]; omega
      have HF := hid (treeB_no (z := z) (y := y) (v := v) (by rw [hl0, hl1]; simp [hm1]))
      obtain ⟨ca5, fa5⟩ := id b3
      go_wp2_with fail
      clear ca5 fa5
      go_ret
      exact ⟨ret_bool (HF.out.symm), kw⟩
    obtain rfl : n1 = n0 := hm1
    have t1 : ((n1 : Int) == (n1 : Int)) = true := by simp
    obtain ⟨ca5, fa5⟩ := id b3
    go_wp2_with fail
    clear ca5 fa5
    obtain ⟨pH4, H4⟩ : ∃ p, Hid (within (-100000) 100000 y = p) := ⟨_, rfl⟩
    refine (l1All_any _ _ _ _ _ _ _ _ _ (h1.keeps kw)).mono ?_
    rintro e w' ⟨rfl, rfl⟩
    rw [H4.out]
    cases pH4
    · have HF := hid (treeB_no (z := z) (y := y) (v := v) (by rw [H4.out]; simp))
      obtain ⟨ca6, fa6⟩ := id b3
      go_wp2_with fail
      clear ca6 fa6
      go_ret
      exact ⟨ret_bool (HF.out.symm), kw⟩
    · skip
      by_cases hm2 : n2 = n1
      rotate_left
      · have t2 : ((n2 : Int) == (n1 : Int)) = false := by rw [beq_eq_false_iff_ne]; omega
        have HF := hid (treeB_no (z := z) (y := y) (v := v) (by rw [hl2, hl1]; simp [hm2]))
        obtain ⟨ca6, fa6⟩ := id b3
        go_wp2_with fail
        clear ca6 fa6
        go_ret
        exact ⟨ret_bool (HF.out.symm), kw⟩
      obtain rfl : n1 = n2 := hm2.symm
      have t2 : ((n1 : Int) == (n1 : Int)) = true := by simp
      go_wp2_with fail
      obtain ⟨pH5, H5⟩ : ∃ p, Hid (within 1 100 v = p) := ⟨_, rfl⟩
      refine (l1All_any _ _ _ _ _ _ _ _ _ (h2.keeps kw)).mono ?_
      rintro e w' ⟨rfl, rfl⟩
      rw [H5.out]
      cases pH5
      · have HF := hid (treeB_no (z := z) (y := y) (v := v) (by rw [H5.out]; simp))
        obtain ⟨ca6, fa6⟩ := id b3
        go_wp2_with fail
        clear ca6 fa6
        go_ret
        exact ⟨ret_bool (HF.out.symm), kw⟩
      · skip
        have HF := hid (treeB_true.2 ⟨H1.out, by rw [hl0, hl1], by rw [hl1, hl2], H4.out, H5.out⟩)
        go_wp2_with fail
        go_ret
        exact ⟨ret_bool (HF.out.symm), kw⟩
set_option maxHeartbeats 800000 in
theorem areFracs_any {A : Option Addr} {lo hi n c : Nat} {l : List (Int × Int)} {w : World} (h : Fracs w lo hi A n l) :
    Calls Try.prog 121 #[.slice A n c] w fun e w' => e = .returned (.bool (l.all fracQ)) ∧ Keeps w w' := by
  have hn := h.le
  have hl := Fracs.len h
  go_enter Try.func121, Try.ntmps121
  have kw := keeps_refl w
  go_wp2_with fail
  go_loopw [7] (fun si wr => ∃ (k : Nat), k ≤ n ∧ si = .int .i64 k ∧ Hid (AllTo fracQ l k) ∧ Keeps w wr) (fun si _ => n - (intOf si).toNat)
  case atStart => exact ⟨0, Nat.zero_le _, rfl, (fun j hj => absurd hj (by omega)), kw⟩
  clear kw  
  case round =>
    obtain ⟨k, hk, rfl, HA, kw⟩ := hrel
    have sz1 := kw.size
    by_cases hlt : k < n
    · obtain ⟨b, off, x, y, rfl, _, hb, hc, hd, hx⟩ := Fracs.at_ (h.keeps kw) hlt
      have hi1 : (k : Int) < (n : Int) := by omega
      replace kw := Keeps.trans kw (keeps_alloc wr (.cells #[.int .i64 x, .int .i64 y] 31))
      have b9 : Bx (wr.alloc (.cells #[.int .i64 x, .int .i64 y] 31)) wr.heap.size x y := Bx.new' (by simp)
      go_wp2_with fail
      obtain ⟨pHP, HP⟩ : ∃ p, Hid (fracB x y = p) := ⟨_, rfl⟩
      refine (IsFrac_any).mono ?_
      rintro e w2 ⟨rfl, k2⟩
      rw [HP.out]
      replace b9 := b9.keeps k2
      replace kw := Keeps.trans kw k2
      have lt3 := b9.lt
      have sz4 := kw.size
      clear k2
      cases pHP
      · have HE := hid (all_no (p := fracQ) (by omega) hx.out HP.out)
        go_wp2_with fail
        go_ret
        exact ⟨ret_bool (HE.out.symm), kw⟩
      · skip
        go_wp2_with fail
        go_roundw
        case rel => exact ⟨k + 1, (by omega), (by go_num), allTo_succ HA.out hx.out HP.out, kw⟩
        case measure => simp [intOf]; omega
    · obtain rfl : k = n := by omega
      have HE := hid (show l.all fracQ = true from all_true.2 (by rw [hl]; exact HA.out))
      go_wp2_with fail
      go_ret
      exact ⟨ret_bool (HE.out.symm), kw⟩
set_option maxHeartbeats 800000 in
theorem wFracs_any {A : Option Addr} {lo hi n c : Nat} {l : List (Int × Int)} {w : World} (h : Fracs w lo hi A n l) {A0 : Option Addr} {l0 u0 n0 c0 : Nat} {z : List Int} (h0 : Ints w l0 u0 A0 n0 z) :
    Calls Try.prog 122 #[.agg #[.slice A0 n0 c0], .slice A n c] w fun e w' => e = .returned (.bool (gfB z l)) ∧ Keeps w w' := by
  have hn := h.le
  have hl := Fracs.len h
  have hl0 := h0.1
  go_enter Try.func122, Try.ntmps122
  have kw := keeps_refl w
  replace kw := Keeps.trans kw (keeps_alloc w (.cells #[.slice A0 n0 c0] 53))
  have b2 : B1 (w.alloc (.cells #[.slice A0 n0 c0] 53)) w.heap.size (.slice A0 n0 c0) := B1.new' (by simp)
  obtain ⟨ca1, fa1⟩ := id b2
  go_wp2_with fail
  clear ca1 fa1
  obtain ⟨pH1, H1⟩ : ∃ p, Hid (geoB z = p) := ⟨_, rfl⟩
  refine (gGood_any (h0.keeps kw)).mono ?_
  rintro e w2 ⟨rfl, k2⟩
  rw [H1.out]
  replace b2 := b2.keeps k2
  replace kw := Keeps.trans kw k2
  have lt3 := b2.lt
  have sz4 := kw.size
  clear k2
  cases pH1
  · have HF := hid (gfB_no (z := z) (l := l) (by rw [H1.out]; simp))
    obtain ⟨ca5, fa5⟩ := id b2
    go_wp2_with fail
    clear ca5 fa5
    go_ret
    exact ⟨ret_bool (HF.out.symm), kw⟩
  · skip
    by_cases hm1 : n = n0
    rotate_left
    · have t1 : ((n : Int) != (n0 : Int)) = true := by rw [bne_iff_ne]; omega
      have HF := hid (gfB_no (z := z) (l := l) (by rw [hl0, hl]; simp [hm1]))
      obtain ⟨ca5, fa5⟩ := id b2
      go_wp2_with fail
      clear ca5 fa5
      go_ret
      exact ⟨ret_bool (HF.out.symm), kw⟩
    obtain rfl : n = n0 := hm1
    have t1 : ((n : Int) != (n : Int)) = false := by simp
    obtain ⟨ca5, fa5⟩ := id b2
    go_wp2_with fail
    clear ca5 fa5
    clear b2
    go_loopw [20] (fun si wr => ∃ (k : Nat), k ≤ n ∧ si = .int .i64 k ∧ Hid (AllTo fracQ l k) ∧ Keeps w wr) (fun si _ => n - (intOf si).toNat)
    case atStart => exact ⟨0, Nat.zero_le _, rfl, (fun j hj => absurd hj (by omega)), kw⟩
    clear kw  
    case round =>
      obtain ⟨k, hk, rfl, HA, kw⟩ := hrel
      have sz6 := kw.size
      by_cases hlt : k < n
      · obtain ⟨b, off, x, y, rfl, _, hb, hc, hd, hx⟩ := Fracs.at_ (h.keeps kw) hlt
        have hi1 : (k : Int) < (n : Int) := by omega
        replace kw := Keeps.trans kw (keeps_alloc wr (.cells #[.int .i64 x, .int .i64 y] 31))
        have b9 : Bx (wr.alloc (.cells #[.int .i64 x, .int .i64 y] 31)) wr.heap.size x y := Bx.new' (by simp)
        go_wp2_with fail
        obtain ⟨pHP, HP⟩ : ∃ p, Hid (fracB x y = p) := ⟨_, rfl⟩
        refine (fGood_any).mono ?_
        rintro e w7 ⟨rfl, k7⟩
        rw [HP.out]
        replace b9 := b9.keeps k7
        replace kw := Keeps.trans kw k7
        have lt8 := b9.lt
        have sz9 := kw.size
        clear k7
        cases pHP
        · have HE := hid (all_no (p := fracQ) (by omega) hx.out HP.out)
          go_wp2_with fail
          go_ret
          exact ⟨ret_bool ((gfB_no (by rw [HE.out]; simp)).symm), kw⟩
        · skip
          go_wp2_with fail
          go_roundw
          case rel => exact ⟨k + 1, (by omega), (by go_num), allTo_succ HA.out hx.out HP.out, kw⟩
          case measure => simp [intOf]; omega
      · obtain rfl : k = n := by omega
        have HE := hid (show l.all fracQ = true from all_true.2 (by rw [hl]; exact HA.out))
        go_wp2_with fail
        go_ret
        exact ⟨ret_bool ((gfB_true.2 ⟨H1.out, by rw [hl, hl0], HE.out⟩).symm), kw⟩
end Go.Proofs.Ytnopedjgagoahaa

/- IsAdditiveTree: of the reference and of the program; sums over children. -/
namespace Go.Proofs.Ytnopedjgagoahaa
open Go.RowKit
set_option linter.unusedVariables false
set_option linter.unusedSimpArgs false

/-- The first answer of the first k questions. -/
def firstQ {β : Type} (st : Nat → Option β) : Nat → Option β
  | 0 => none
  | k + 1 => match firstQ st k with
    | some r => some r
    | none => st k
theorem firstQ_next {β : Type} {st : Nat → Option β} {k : Nat} (h : firstQ st k = none) (e : st k = none) : firstQ st (k + 1) = none := by simp only [firstQ]; rw [h]; exact e
theorem firstQ_stay {β : Type} {st : Nat → Option β} {k n : Nat} {r : β} (h : firstQ st k = some r) (hk : k ≤ n) : firstQ st n = some r := by
  induction n with
  | zero => obtain rfl : k = 0 := by omega
            exact h
  | succ n ih =>
    by_cases e : k = n + 1
    · subst e; exact h
    · simp only [firstQ]; rw [ih (by omega)]
theorem firstQ_stop {β : Type} {st : Nat → Option β} {k n : Nat} {r : β} (h : firstQ st k = none) (e : st k = some r) (hk : k < n) : firstQ st n = some r :=
  firstQ_stay (k := k + 1) (by simp only [firstQ]; rw [h]; exact e) (by omega)
/-- One summand of a sum over indices. -/
def suSt (l : List (Int × Int)) (ks : List Int) (k : Nat) (a b : Int) : Int × Int × Bool :=
  mkF (a * (l.getD (ks.getD k 0).toNat (0, 0)).2 + (l.getD (ks.getD k 0).toNat (0, 0)).1 * b) (b * (l.getD (ks.getD k 0).toNat (0, 0)).2)
theorem suSt_fine (l : List (Int × Int)) (ks : List Int) (k : Nat) (a b : Int) : Fine (suSt l ks k a b) := Fine.mk _ _
theorem suSt_at {l : List (Int × Int)} {ks : List Int} {k j : Nat} {a b x y : Int} (hj : (j : Int) = ks.getD k 0) (hx : (x, y) = l.getD j (0, 0)) : suSt l ks k a b = mkF (a * y + x * b) (b * y) := by
  unfold suSt; rw [← hj]; simp only [Int.toNat_natCast]; rw [← hx]
def sumQ (l : List (Int × Int)) (ks : List Int) : Int × Int × Bool := accQ (suSt l ks) 0 1 ks.length
/-- What an area says: nothing; or the answer. -/
def atSt (z : List Int) (l : List (Int × Int)) (k : Nat) : Option (Bool × Bool) :=
  if (kids z k).length = 0 then none else if (sumQ l (kids z k)).2.2 = false then some (false, false)
  else if ((sumQ l (kids z k)).1, (sumQ l (kids z k)).2.1) = l.getD k (0, 0) then none else some (false, true)
theorem atSt_none {z : List Int} {l : List (Int × Int)} {k : Nat} (h : (kids z k).length = 0) : atSt z l k = none := if_pos h
theorem atSt_bad {z : List Int} {l : List (Int × Int)} {k : Nat} {a b : Int} (h : ¬ (kids z k).length = 0) (e : sumQ l (kids z k) = (a, b, false)) : atSt z l k = some (false, false) := by unfold atSt; rw [if_neg h, e]; simp
theorem atSt_eq {z : List Int} {l : List (Int × Int)} {k : Nat} {a b : Int} (h : ¬ (kids z k).length = 0) (e : sumQ l (kids z k) = (a, b, true)) (hx : (a, b) = l.getD k (0, 0)) : atSt z l k = none := by unfold atSt; rw [if_neg h, e, ← hx]; simp
theorem atSt_ne {z : List Int} {l : List (Int × Int)} {k : Nat} {a b x y : Int} (h : ¬ (kids z k).length = 0) (e : sumQ l (kids z k) = (a, b, true)) (hx : (x, y) = l.getD k (0, 0)) (hn : ¬ (a = x ∧ b = y)) : atSt z l k = some (false, true) := by
  unfold atSt; rw [if_neg h, e, ← hx]; simp [hn]
def atQ (z : List Int) (l : List (Int × Int)) : Bool × Bool := if gfB z l = true then (firstQ (atSt z l) l.length).getD (true, true) else (false, false)
theorem atQ_no {z : List Int} {l : List (Int × Int)} (h : gfB z l = false) : atQ z l = (false, false) := if_neg (by rw [h]; simp)
theorem atQ_yes {z : List Int} {l : List (Int × Int)} (h : gfB z l = true) : atQ z l = (firstQ (atSt z l) l.length).getD (true, true) := if_pos h
/-- All indices point into the list. -/
def Into (ks : List Int) (n : Nat) : Prop := ∀ m, m < ks.length → ∃ j : Nat, (j : Int) = ks.getD m 0 ∧ j < n
theorem kids_into (ps : List Int) (i : Int) {n : Nat} (h : ps.length = n) : Into (kids ps i) n := by
  intro m hm
  obtain ⟨j, h1, _, h2, _⟩ := kids_getD hm
  exact ⟨j, h1.symm, by omega⟩
/-- All that the indices name are fractions. -/
def GoodAt (l : List (Int × Int)) (ks : List Int) : Prop := ∀ m j x y, m < ks.length → ((j : Nat) : Int) = ks.getD m 0 → (x, y) = l.getD j (0, 0) → fracB x y = true
theorem goodAt_all {l : List (Int × Int)} {ks : List Int} (h : l.all fracQ = true) (hin : Into ks l.length) : GoodAt l ks := by
  intro m j x y hm hj hx
  obtain ⟨j', h1, h2⟩ := hin m hm
  have e : j = j' := by omega
  subst e
  exact frac_at h h2 hx
theorem kids_len (ps : List Int) (i : Int) : (kids ps i).length ≤ ps.length := kidsTo_len _ _ _
theorem geoB_head {ps : List Int} (h : geoB ps = true) : ps.getD 0 0 = -1 := (geoB_true.1 h).2.1
theorem ret_bb {a b c d : Bool} (h1 : a = c) (h2 : b = d) : Ending.returned (.tuple #[.bool a, .bool b]) = .returned (.tuple #[.bool c, .bool d]) := by rw [h1, h2]

set_option maxRecDepth 100000 in
set_option maxHeartbeats 800000 in
theorem sumOf_at {A A' : Option Addr} {lo hi lo' hi' n m c c' : Nat} {l : List (Int × Int)} {ks : List Int} {w : World} (h : Fracs w lo hi A n l) (h' : Ints w lo' hi' A' m ks) (hq : GoodAt l ks) (hin : Into ks n) :
    Calls Try.prog 224 #[.slice A n c, .slice A' m c'] w fun e w' => e = .returned (.tuple #[.agg #[.int .i64 (sumQ l ks).1, .int .i64 (sumQ l ks).2.1], .bool (sumQ l ks).2.2]) ∧ Keeps w w' := by
  have hn := h.le
  have hm := h'.le
  have hl := Fracs.len h
  have hl' := h'.1
  have HQ := hid hq
  have HI := hid hin
  clear hq hin
  have HF := hid (show sumQ l ks = accQ (suSt l ks) 0 1 m by unfold sumQ; rw [hl'])
  go_enter Try.func224, Try.ntmps224
  have kw := keeps_refl w
  replace kw := Keeps.trans kw (keeps_alloc w (.cells #[.int .i64 0, .int .i64 0] 31))
  have b4 : Bx (w.alloc (.cells #[.int .i64 0, .int .i64 0] 31)) w.heap.size 0 0 := Bx.new' (by simp)
  replace b4 := b4.keeps (keeps_alloc (w.alloc (.cells #[.int .i64 0, .int .i64 0] 31)) (.cells #[.int .i64 0, .int .i64 1] 31))
  replace kw := Keeps.trans kw (keeps_alloc (w.alloc (.cells #[.int .i64 0, .int .i64 0] 31)) (.cells #[.int .i64 0, .int .i64 1] 31))
  have b6 : Bx ((w.alloc (.cells #[.int .i64 0, .int .i64 0] 31)).alloc (.cells #[.int .i64 0, .int .i64 1] 31)) (w.heap.size + 1) 0 1 := Bx.new' (by simp)
  go_wp2_with fail
  go_loopw [14] (fun si wr => ∃ (k : Nat) (s1 : Int) (s2 : Int), k ≤ m ∧ si = .int .i64 k ∧ Hid (accQ (suSt l ks) 0 1 k = (s1, s2, true)) ∧ Hid (fracB s1 s2 = true) ∧ Bx wr w.heap.size 0 0 ∧ Bx wr (w.heap.size + 1) s1 s2 ∧ Keeps w wr) (fun si _ => m - (intOf si).toNat)
  case atStart => exact ⟨0, 0, 1, Nat.zero_le _, rfl, rfl, fracB_01, b4, b6, kw⟩
  clear kw b4 b6 
  case round =>
    obtain ⟨k, s1, s2, hk, rfl, HA, HB, b4, b6, kw⟩ := hrel
    have lt1 := b6.lt
    have sz2 := kw.size
    by_cases hlt : k < m
    · obtain ⟨b', off', i, rfl, _, hb', hv, hxi⟩ := (h'.keeps kw).at_ hlt
      obtain ⟨j, hj, hjn⟩ := HI.out k (by omega)
      obtain rfl : i = j := hxi.out.trans hj.symm
      have hkj := hid hj
      clear hj hxi
      obtain ⟨b, off, x, y, rfl, _, hb, hc, hd, hx⟩ := Fracs.at_ (h.keeps kw) hjn
      have fx := hid (HQ.out k j x y (by omega) hkj.out hx.out)
      have hi1 : (k : Int) < (m : Int) := by omega
      have hi2 : (j : Int) < (n : Int) := by omega
      go_wp2_with fail
      clear hv
      obtain ⟨r1, r2, r3, H5⟩ : ∃ r1 r2 r3, Hid (mkF (s1 * y + x * s2) (s2 * y) = (r1, r2, r3)) := ⟨_, _, _, rfl⟩
      have HS := hid ((suSt_at (a := s1) (b := s2) hkj.out hx.out).trans H5.out)
      obtain ⟨ca4, cb4, -, -⟩ := id b6
      have kS := hid (show ∀ w', Keeps wr w' → (w'.cell? ⟨w.heap.size + 1, 0, none⟩ = some (.int .i64 s1) ∧ w'.cell? ⟨w.heap.size + 1, 1, none⟩ = some (.int .i64 s2) ∧ w'.cell? ⟨b, off + j * 2, none⟩ = some (.int .i64 x) ∧ w'.cell? ⟨b, off + j * 2 + 1, none⟩ = some (.int .i64 y)) from fun w' k => ⟨cell_keeps ca4 k, cell_keeps cb4 k, cell_keeps hc k, cell_keeps hd k⟩)
      go_cut [9, 10] (fun sd so wq => ∃ wy g, wy = wq ∧ sd = .pointer (some ⟨g, 0, none⟩) ∧ so = .bool r3 ∧ Bx wy g r1 r2 ∧ wr.heap.size ≤ g ∧ Keeps wr wy)
      case first =>
        go_region_held3 (fun w' => w'.cell? ⟨w.heap.size + 1, 0, none⟩ = some (.int .i64 s1) ∧ w'.cell? ⟨w.heap.size + 1, 1, none⟩ = some (.int .i64 s2) ∧ w'.cell? ⟨b, off + j * 2, none⟩ = some (.int .i64 x) ∧ w'.cell? ⟨b, off + j * 2 + 1, none⟩ = some (.int .i64 y)) (first | with_reducible exact kS.out _ (keeps_d0 wr) | with_reducible exact kS.out _ (keeps_ad0 wr _) | with_reducible exact kS.out _ (kW) | with_reducible exact kS.out _ (kW.trans (keeps_alloc _ _)) | with_reducible exact kS.out _ (below_set2 kW lz _ _) | go_keep)
          ((first | (go_at_call 89; refine (AddFrac_any HB.out fx.out).mono ?_; rintro e wB ⟨rfl, kB⟩; rw [H5.out]; (first | (have kZ : Bx wB wr.heap.size 0 0 := Bx.kZ1 kB rfl; have lz : wr.heap.size ≤ wr.heap.size := (Nat.le_refl _); obtain ⟨z1, z2, z3, z4⟩ := id kZ) | (have kZ : Bx wB wr.heap.size 0 0 := Bx.kZ2 kB rfl; have lz : wr.heap.size ≤ wr.heap.size := (Nat.le_refl _); obtain ⟨z1, z2, z3, z4⟩ := id kZ) | (have kZ := kZ.keeps kB; obtain ⟨z1, z2, z3, z4⟩ := id kZ) | (have kZ : Bx wB _ 0 0 := Bx.kZ2 kB rfl; have lz := kW.size; obtain ⟨z1, z2, z3, z4⟩ := id kZ) | skip); (first | (have kW : Keeps wr wB := kW.trans kB) | (have kW : Keeps wr wB := (kW.trans (keeps_alloc _ _)).trans kB) | (have kW : Keeps wr wB := keeps_d kB) | (have kW : Keeps wr wB := keeps_ad kB)); clear kB)))
        all_goals (go_wp2_with fail; go_meet; first
          | exact ⟨_, _, rfl, rfl, rfl, Bx.new _ _ _ _, kW.size, kW.trans (keeps_alloc _ _)⟩
          | exact ⟨_, _, rfl, rfl, rfl, Bx.set (x := 0) (y := 0) kZ _ _, lz, below_set2 kW lz _ _⟩)
      case rest =>
        clear kS
        clear ca4 cb4
        obtain ⟨wx3, g3, rfl, rfl, rfl, b9, lg3, kx3⟩ := hcut
        replace b4 := b4.keeps kx3
        replace b6 := b6.keeps kx3
        replace kw := Keeps.trans kw kx3
        clear kx3
        have lt6 := b9.lt
        have sz7 := kw.size
        cases r3
        · have HE := hid (accQ_fail HA.out (show suSt l ks k s1 s2 = (0, 0, false) from (suSt_fine _ _ _ _ _).bad HS.out) hlt)
          replace HF := hid (HF.out.trans HE.out)
          obtain ⟨ca8, cb8, fa8, fb8⟩ := id b4
          go_wp2_with fail
          clear ca8 cb8 fa8 fb8
          obtain ⟨ca0, cb0, fa0, fb0⟩ := id b4
          refine bodyPost_ret (v := .tuple #[.agg #[.int .i64 0, .int .i64 0], .bool false]) (by simp [results, Try.results224, go_sem, ca0, cb0]) rfl ⟨ret_fb (by rw [HF.out]) (by rw [HF.out]) (by rw [HF.out]), ?_⟩
          exact below_set2 kw (p := w.heap.size) (by omega) _ _
        · have fr := hid ((suSt_fine _ _ _ _ _).ok HS.out)
          obtain ⟨ca8, cb8, fa8, fb8⟩ := id b9
          obtain ⟨ca9, cb9, fa9, fb9⟩ := id b6
          replace b4 := b4.set2 (p := (w.heap.size + 1)) (by omega) (.int .i64 r1) (.int .i64 r2)
          replace b9 := b9.set2 (p := (w.heap.size + 1)) (by omega) (.int .i64 r1) (.int .i64 r2)
          replace b6 := b6.set r1 r2
          replace kw := below_set2 kw (p := (w.heap.size + 1)) (by omega) (.int .i64 r1) (.int .i64 r2)
          go_wp2_with fail
          clear ca8 cb8 fa8 fb8 ca9 cb9 fa9 fb9
          go_roundw
          case rel => exact ⟨k + 1, r1, r2, (by omega), (by go_num), accQ_next HA.out HS.out, fr.out, b4, b6, kw⟩
          case measure => simp [intOf]; omega
    · obtain rfl : k = m := by omega
      replace HF := hid (HF.out.trans HA.out)
      obtain ⟨ca3, cb3, fa3, fb3⟩ := id b4
      obtain ⟨ca4, cb4, fa4, fb4⟩ := id b6
      go_wp2_with fail
      clear ca3 cb3 fa3 fb3 ca4 cb4 fa4 fb4
      obtain ⟨ca0, cb0, fa0, fb0⟩ := id b4
      refine bodyPost_ret (v := .tuple #[.agg #[.int .i64 s1, .int .i64 s2], .bool true]) (by simp [results, Try.results224, go_sem, ca0, cb0]) rfl ⟨ret_fb (by rw [HF.out]) (by rw [HF.out]) (by rw [HF.out]), ?_⟩
      exact below_set2 kw (p := w.heap.size) (by omega) _ _
theorem sumOf_any {A A' : Option Addr} {lo hi lo' hi' n m c c' : Nat} {l : List (Int × Int)} {ks : List Int} {w : World} (h : Fracs w lo hi A n l) (h' : Ints w lo' hi' A' m ks) (hq : l.all fracQ = true) (hin : Into ks n) :
    Calls Try.prog 224 #[.slice A n c, .slice A' m c'] w fun e w' => e = .returned (.tuple #[.agg #[.int .i64 (sumQ l ks).1, .int .i64 (sumQ l ks).2.1], .bool (sumQ l ks).2.2]) ∧ Keeps w w' :=
  sumOf_at h h' (goodAt_all hq (by rw [Fracs.len h]; exact hin)) hin
end Go.Proofs.Ytnopedjgagoahaa

