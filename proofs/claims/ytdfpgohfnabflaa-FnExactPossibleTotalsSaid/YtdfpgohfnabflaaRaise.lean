/- PossibleTotals and RaiseToBounds, of the reference and of the program; and the laws. -/
import Derived.Test.YtdfpgohfnabflaaBounds
import Derived.Test.YtdfpgohfnabflaaOpen
namespace Go.Proofs.Ytdfpgohfnabflaa
open Go.RowKit
set_option linter.unusedVariables false
set_option linter.unusedSimpArgs false

theorem ret3_iib {a b c d : Int} {p q : Bool} (h1 : a = c) (h2 : b = d) (h3 : p = q) : Ending.returned (.tuple #[.int .i64 a, .int .i64 b, .bool p]) = .returned (.tuple #[.int .i64 c, .int .i64 d, .bool q]) := by rw [h1, h2, h3]
def ptF (lo hi : List Int) : (Int × Int) × Bool := if limitsB lo hi then ((lo.sum, hi.sum), true) else ((0, 0), false)
theorem ptF_no {lo hi : List Int} (h : limitsB lo hi = false) : ptF lo hi = ((0, 0), false) := by simp [ptF, h]
theorem ptF_yes {lo hi : List Int} (h : limitsB lo hi = true) : ptF lo hi = ((lo.sum, hi.sum), true) := by simp [ptF, h]
set_option maxHeartbeats 400000 in
theorem spec_PossibleTotals_any (A A' : Option Addr) (l h l' h' n n' c c' : Nat) (lo hi : List Int) (w : World) (ha : Ints w l h A n lo) (hb : Ints w l' h' A' n' hi) :
    Calls Try.prog 19 #[.slice A n c, .slice A' n' c'] w fun e w' => e = .returned (.tuple #[.int .i64 (ptF lo hi).1.1, .int .i64 (ptF lo hi).1.2, .bool (ptF lo hi).2]) ∧ Quiet w w' := by
  have hn := ha.le
  have hn' := hb.le
  cases h1 : limitsB lo hi with
  | false =>
    have HF := hid (ptF_no h1)
    have H1 := hid h1
    clear h1
    go_enter Try.func19, Try.ntmps19
    go_wp2_with fail
    refine (iBounds_any _ _ _ _ _ _ _ _ _ _ _ _ _ _ _ _ _ _ _ ha ha hb).mono ?_
    rintro e w' ⟨rfl, hq⟩
    rw [boundedB_same, H1.out]
    go_wp2_with fail
    go_ret3
    exact ⟨by rw [HF.out]; rfl, hq⟩
  | true =>
    have b1 := hid ((partsB_bd (limitsB_true.1 h1).1).mono (B' := 10000000000) (by omega))
    have b2 := hid ((partsB_bd (limitsB_true.1 h1).2.1).mono (B' := 10000000000) (by omega))
    have HF := hid (ptF_yes h1)
    have H1 := hid h1
    clear h1
    go_enter Try.func19, Try.ntmps19
    go_wp2_with fail
    refine (iBounds_any _ _ _ _ _ _ _ _ _ _ _ _ _ _ _ _ _ _ _ ha ha hb).mono ?_
    rintro e w' ⟨rfl, hq⟩
    rw [boundedB_same, H1.out]
    go_wp2_with fail
    refine (tSum_any _ _ _ _ _ _ _ (ha.quiet hq) b1.out).mono ?_
    rintro e w1 ⟨rfl, rfl⟩
    go_wp2_with fail
    refine (tSum_any _ _ _ _ _ _ _ (hb.quiet hq) b2.out).mono ?_
    rintro e w1 ⟨rfl, rfl⟩
    go_wp2_with fail
    go_ret3
    exact ⟨by rw [HF.out]; rfl, hq⟩
set_option maxHeartbeats 400000 in
theorem impl_PossibleTotals_any (A A' : Option Addr) (l h l' h' n n' c c' : Nat) (lo hi : List Int) (w : World) (ha : Ints w l h A n lo) (hb : Ints w l' h' A' n' hi) :
    Calls Try.prog 20 #[.slice A n c, .slice A' n' c'] w fun e w' => e = .returned (.tuple #[.int .i64 (ptF lo hi).1.1, .int .i64 (ptF lo hi).1.2, .bool (ptF lo hi).2]) ∧ Quiet w w' := by
  have hn := ha.le
  have hn' := hb.le
  cases h1 : limitsB lo hi with
  | false =>
    have HF := hid (ptF_no h1)
    have H1 := hid h1
    clear h1
    go_enter Try.func20, Try.ntmps20
    go_wp2_with fail
    refine (areLimits_any _ _ _ _ _ _ _ _ _ _ _ _ _ ha hb).mono ?_
    rintro e w' ⟨rfl, hq⟩
    rw [H1.out]; subst hq; have hq := Quiet.refl w
    go_wp2_with fail
    go_ret3
    exact ⟨by rw [HF.out]; rfl, hq⟩
  | true =>
    have b1 := hid ((partsB_bd (limitsB_true.1 h1).1).mono (B' := 10000000000) (by omega))
    have b2 := hid ((partsB_bd (limitsB_true.1 h1).2.1).mono (B' := 10000000000) (by omega))
    have HF := hid (ptF_yes h1)
    have H1 := hid h1
    clear h1
    go_enter Try.func20, Try.ntmps20
    go_wp2_with fail
    refine (areLimits_any _ _ _ _ _ _ _ _ _ _ _ _ _ ha hb).mono ?_
    rintro e w' ⟨rfl, hq⟩
    rw [H1.out]; subst hq; have hq := Quiet.refl w
    go_wp2_with fail
    refine (total_any _ _ _ _ _ _ _ (ha.quiet hq) b1.out).mono ?_
    rintro e w1 ⟨rfl, rfl⟩
    go_wp2_with fail
    refine (total_any _ _ _ _ _ _ _ (hb.quiet hq) b2.out).mono ?_
    rintro e w1 ⟨rfl, rfl⟩
    go_wp2_with fail
    go_ret3
    exact ⟨by rw [HF.out]; rfl, hq⟩

set_option maxHeartbeats 1000000 in
theorem pt_law (A : Option Addr) (n c : Nat) (xs : List Int) (A' : Option Addr) (n' c' : Nat) (ys : List Int) (w : World) (wa : IntsArg w A n xs) (wb : IntsArg w A' n' ys) :
    Calls Try.prog 4 #[.slice A n c, .slice A' n' c'] w fun e w' => e = .returned (.bool true) ∧ Below w.heap.size w w' := by
  by_cases hn : n ≤ 1048576
  rotate_left
  · have hlt : (1048576 : Int) < (n : Int) := by omega
    go_enter Try.func4, Try.ntmps4
    go_wp2_with fail
    go_ret
    exact ⟨rfl, Below.refl _ _⟩
  have ha := wa.ints (by omega)
  by_cases hn' : n' ≤ 1048576
  rotate_left
  · have hlt : (1048576 : Int) < (n' : Int) := by omega
    go_enter Try.func4, Try.ntmps4
    go_wp2_with fail
    go_ret
    exact ⟨rfl, Below.refl _ _⟩
  have hb := wb.ints (by omega)
  go_enter Try.func4, Try.ntmps4
  go_wp2_with fail
  refine (toIntS_any _ _ _ _ _ _ _ ha).mono ?_
  rintro e w1 ⟨A1, rfl, m1, k1⟩
  go_wp2_with fail
  refine (toIntS_any _ _ _ _ _ _ _ (hb.keeps k1)).mono ?_
  rintro e w2 ⟨A2, rfl, m2, k2⟩
  go_wp2_with fail
  refine (spec_PossibleTotals_any _ _ _ _ _ _ _ _ _ _ _ _ _ (m1.keeps k2).1 m2.1).mono ?_
  rintro e w3 ⟨rfl, q3⟩
  have k3 := (k1.trans k2).trans q3.keeps
  go_wp2_with fail
  refine (toIntS_any _ _ _ _ _ _ _ (ha.keeps k3)).mono ?_
  rintro e w4 ⟨A4, rfl, m4, k4⟩
  have k4' := k3.trans k4
  go_wp2_with fail
  refine (toIntS_any _ _ _ _ _ _ _ (hb.keeps k4')).mono ?_
  rintro e w5 ⟨A5, rfl, m5, k5⟩
  have k5' := k4'.trans k5
  go_wp2_with fail
  refine (impl_PossibleTotals_any _ _ _ _ _ _ _ _ _ _ _ _ _ (m4.keeps k5).1 m5.1).mono ?_
  rintro e w6 ⟨rfl, q6⟩
  have k6' := k5'.trans q6.keeps
  generalize ptF xs ys = r
  obtain ⟨⟨v, v'⟩, b⟩ := r
  have e1 : (v != v) = false := by simp
  have e1' : (v' != v') = false := by simp
  have e2 : (b != b) = false := by simp
  go_wp2_with fail
  refine (toIntS_any _ _ _ _ _ _ _ (ha.keeps k6')).mono ?_
  rintro e w7 ⟨A7, rfl, m7, k7⟩
  go_wp2_with fail
  refine (eqIntS_true _ _ _ _ _ _ _ _ _ _ _ ((m4.keeps k5).keeps (q6.keeps.trans k7)).1 m7.1).mono ?_
  rintro e w8 ⟨rfl, q8⟩
  have k8' := (k6'.trans k7).trans q8.keeps
  go_wp2_with fail
  refine (toIntS_any _ _ _ _ _ _ _ (hb.keeps k8')).mono ?_
  rintro e w9 ⟨A9, rfl, m9, k9⟩
  go_wp2_with fail
  refine (eqIntS_true _ _ _ _ _ _ _ _ _ _ _ (m5.keeps (((q6.keeps.trans k7).trans q8.keeps).trans k9)).1 m9.1).mono ?_
  rintro e w10 ⟨rfl, q10⟩
  go_wp2_with fail
  go_ret
  exact ⟨rfl, ((k8'.trans k9).trans q10.keeps)⟩
end Go.Proofs.Ytdfpgohfnabflaa
