/- SquaredDistance, of the reference and of the program; and the law. -/
import Derived.Test.YtdfpgohfnabflaaPred
import Derived.Test.YtdfpgohfnabflaaOpen
namespace Go.Proofs.Ytdfpgohfnabflaa
open Go.RowKit
set_option linter.unusedVariables false
set_option linter.unusedSimpArgs false

def sqF (xs ys : List Int) : Int × Bool := if partsB xs = true ∧ partsB ys = true ∧ xs.length = ys.length then (sqd xs ys xs.length, true) else (0, false)

set_option maxHeartbeats 400000 in
theorem spec_SquaredDistance_any (A A' : Option Addr) (l h l' h' n n' c c' : Nat) (xs ys : List Int) (w : World) (ha : Ints w l h A n xs) (hb : Ints w l' h' A' n' ys) :
    Calls Try.prog 15 #[.slice A n c, .slice A' n' c'] w fun e w' => e = .returned (.tuple #[.int .i64 (sqF xs ys).1, .bool (sqF xs ys).2]) ∧ Quiet w w' := by
  have hn := ha.le
  have hn' := hb.le
  have hl := ha.1
  have hl' := hb.1
  cases h1 : partsB xs with
  | false =>
    have HF := hid (show sqF xs ys = (0, false) by simp [sqF, h1])
    have H1 := hid h1
    clear h1
    go_enter Try.func15, Try.ntmps15
    go_wp2_with fail
    refine (iList_any _ _ _ _ _ _ _ ha).mono ?_
    rintro e w' ⟨rfl, rfl⟩
    rw [H1.out]
    go_wp2_with fail
    go_ret2
    exact ⟨by rw [HF.out]; rfl, Quiet.refl _⟩
  | true =>
    cases h2 : partsB ys with
    | false =>
      have HF := hid (show sqF xs ys = (0, false) by simp [sqF, h2])
      have H1 := hid h1
      have H2 := hid h2
      clear h1 h2
      go_enter Try.func15, Try.ntmps15
      go_wp2_with fail
      refine (iList_any _ _ _ _ _ _ _ ha).mono ?_
      rintro e w' ⟨rfl, rfl⟩
      rw [H1.out]
      go_wp2_with fail
      refine (iList_any _ _ _ _ _ _ _ hb).mono ?_
      rintro e w' ⟨rfl, rfl⟩
      rw [H2.out]
      go_wp2_with fail
      go_ret2
      exact ⟨by rw [HF.out]; rfl, Quiet.refl _⟩
    | true =>
      have bx := hid (partsB_bd h1)
      have by' := hid (partsB_bd h2)
      by_cases h3 : n = n'
      · subst h3
        have HF := hid (show sqF xs ys = (sqd xs ys n, true) by simp [sqF, h1, h2, hl, hl'])
        have H1 := hid h1
        have H2 := hid h2
        clear h1 h2
        have hne : ((n : Int) != (n : Int)) = false := by simp
        go_enter Try.func15, Try.ntmps15
        go_wp2_with fail
        refine (iList_any _ _ _ _ _ _ _ ha).mono ?_
        rintro e w' ⟨rfl, rfl⟩
        rw [H1.out]
        go_wp2_with fail
        refine (iList_any _ _ _ _ _ _ _ hb).mono ?_
        rintro e w' ⟨rfl, rfl⟩
        rw [H2.out]
        go_wp2_with fail
        refine (iDistance_any _ _ _ _ _ _ _ _ _ _ _ _ ha hb bx.out by'.out).mono ?_
        rintro e w' ⟨rfl, hq⟩
        go_wp2_with fail
        go_ret2
        exact ⟨by rw [HF.out]; rfl, hq⟩
      · have HF := hid (show sqF xs ys = (0, false) by simp [sqF]; intro _ _ h; omega)
        have H1 := hid h1
        have H2 := hid h2
        clear h1 h2
        have hne : ((n : Int) != (n' : Int)) = true := by rw [bne_iff_ne]; omega
        go_enter Try.func15, Try.ntmps15
        go_wp2_with fail
        refine (iList_any _ _ _ _ _ _ _ ha).mono ?_
        rintro e w' ⟨rfl, rfl⟩
        rw [H1.out]
        go_wp2_with fail
        refine (iList_any _ _ _ _ _ _ _ hb).mono ?_
        rintro e w' ⟨rfl, rfl⟩
        rw [H2.out]
        go_wp2_with fail
        go_ret2
        exact ⟨by rw [HF.out]; rfl, Quiet.refl _⟩
set_option maxHeartbeats 400000 in
theorem impl_SquaredDistance_any (A A' : Option Addr) (l h l' h' n n' c c' : Nat) (xs ys : List Int) (w : World) (ha : Ints w l h A n xs) (hb : Ints w l' h' A' n' ys) :
    Calls Try.prog 17 #[.slice A n c, .slice A' n' c'] w fun e w' => e = .returned (.tuple #[.int .i64 (sqF xs ys).1, .bool (sqF xs ys).2]) ∧ Quiet w w' := by
  have hn := ha.le
  have hn' := hb.le
  have hl := ha.1
  have hl' := hb.1
  cases h1 : partsB xs with
  | false =>
    have HF := hid (show sqF xs ys = (0, false) by simp [sqF, h1])
    have H1 := hid h1
    clear h1
    go_enter Try.func17, Try.ntmps17
    go_wp2_with fail
    refine (areParts_any _ _ _ _ _ _ _ ha).mono ?_
    rintro e w' ⟨rfl, rfl⟩
    rw [H1.out]
    go_wp2_with fail
    go_ret2
    exact ⟨by rw [HF.out]; rfl, Quiet.refl _⟩
  | true =>
    cases h2 : partsB ys with
    | false =>
      have HF := hid (show sqF xs ys = (0, false) by simp [sqF, h2])
      have H1 := hid h1
      have H2 := hid h2
      clear h1 h2
      go_enter Try.func17, Try.ntmps17
      go_wp2_with fail
      refine (areParts_any _ _ _ _ _ _ _ ha).mono ?_
      rintro e w' ⟨rfl, rfl⟩
      rw [H1.out]
      go_wp2_with fail
      refine (areParts_any _ _ _ _ _ _ _ hb).mono ?_
      rintro e w' ⟨rfl, rfl⟩
      rw [H2.out]
      go_wp2_with fail
      go_ret2
      exact ⟨by rw [HF.out]; rfl, Quiet.refl _⟩
    | true =>
      have bx := hid (partsB_bd h1)
      have by' := hid (partsB_bd h2)
      by_cases h3 : n = n'
      · subst h3
        have HF := hid (show sqF xs ys = (sqd xs ys n, true) by simp [sqF, h1, h2, hl, hl'])
        have H1 := hid h1
        have H2 := hid h2
        clear h1 h2
        have hne : ((n : Int) != (n : Int)) = false := by simp
        go_enter Try.func17, Try.ntmps17
        go_wp2_with fail
        refine (areParts_any _ _ _ _ _ _ _ ha).mono ?_
        rintro e w' ⟨rfl, rfl⟩
        rw [H1.out]
        go_wp2_with fail
        refine (areParts_any _ _ _ _ _ _ _ hb).mono ?_
        rintro e w' ⟨rfl, rfl⟩
        rw [H2.out]
        go_wp2_with fail
        refine (squaredDistance_any _ _ _ _ _ _ _ _ _ _ _ _ ha hb bx.out by'.out).mono ?_
        rintro e w' ⟨rfl, hq⟩
        go_wp2_with fail
        go_ret2
        exact ⟨by rw [HF.out]; rfl, hq⟩
      · have HF := hid (show sqF xs ys = (0, false) by simp [sqF]; intro _ _ h; omega)
        have H1 := hid h1
        have H2 := hid h2
        clear h1 h2
        have hne : ((n : Int) != (n' : Int)) = true := by rw [bne_iff_ne]; omega
        go_enter Try.func17, Try.ntmps17
        go_wp2_with fail
        refine (areParts_any _ _ _ _ _ _ _ ha).mono ?_
        rintro e w' ⟨rfl, rfl⟩
        rw [H1.out]
        go_wp2_with fail
        refine (areParts_any _ _ _ _ _ _ _ hb).mono ?_
        rintro e w' ⟨rfl, rfl⟩
        rw [H2.out]
        go_wp2_with fail
        go_ret2
        exact ⟨by rw [HF.out]; rfl, Quiet.refl _⟩

set_option maxHeartbeats 1000000 in
theorem sq_law (A : Option Addr) (n c : Nat) (xs : List Int) (A' : Option Addr) (n' c' : Nat) (ys : List Int) (w : World) (wa : IntsArg w A n xs) (wb : IntsArg w A' n' ys) :
    Calls Try.prog 3 #[.slice A n c, .slice A' n' c'] w fun e w' => e = .returned (.bool true) ∧ Below w.heap.size w w' := by
  by_cases hn : n ≤ 1048576
  rotate_left
  · have hlt : (1048576 : Int) < (n : Int) := by omega
    go_enter Try.func3, Try.ntmps3
    go_wp2_with fail
    go_ret
    exact ⟨rfl, Below.refl _ _⟩
  have ha := wa.ints (by omega)
  by_cases hn' : n' ≤ 1048576
  rotate_left
  · have hlt : (1048576 : Int) < (n' : Int) := by omega
    go_enter Try.func3, Try.ntmps3
    go_wp2_with fail
    go_ret
    exact ⟨rfl, Below.refl _ _⟩
  have hb := wb.ints (by omega)
  go_enter Try.func3, Try.ntmps3
  go_wp2_with fail
  refine (toIntS_any _ _ _ _ _ _ _ ha).mono ?_
  rintro e w1 ⟨A1, rfl, m1, k1⟩
  go_wp2_with fail
  refine (toIntS_any _ _ _ _ _ _ _ (hb.keeps k1)).mono ?_
  rintro e w2 ⟨A2, rfl, m2, k2⟩
  go_wp2_with fail
  refine (spec_SquaredDistance_any _ _ _ _ _ _ _ _ _ _ _ _ _ (m1.keeps k2).1 m2.1).mono ?_
  rintro e w3 ⟨rfl, q3⟩
  have k3 := (k1.trans k2).trans q3.keeps
  go_wp2_with fail
  refine (toIntS_any _ _ _ _ _ _ _ (ha.keeps k3)).mono ?_
  rintro e w4 ⟨A4, rfl, m4, k4⟩
  have k4' := k3.trans k4
  go_wp2_with fail
  refine (toIntS_any _ _ _ _ _ _ _ (hb.keeps k4')).mono ?_
  rintro e w5 ⟨A5, rfl, m5, k5⟩
  have k5' := k4'.trans k5
  go_wp2_with fail
  refine (impl_SquaredDistance_any _ _ _ _ _ _ _ _ _ _ _ _ _ (m4.keeps k5).1 m5.1).mono ?_
  rintro e w6 ⟨rfl, q6⟩
  have k6' := k5'.trans q6.keeps
  generalize sqF xs ys = r
  obtain ⟨v, b⟩ := r
  have e1 : (v != v) = false := by simp
  have e2 : (b != b) = false := by simp
  go_wp2_with fail
  refine (toIntS_any _ _ _ _ _ _ _ (ha.keeps k6')).mono ?_
  rintro e w7 ⟨A7, rfl, m7, k7⟩
  go_wp2_with fail
  refine (eqIntS_true _ _ _ _ _ _ _ _ _ _ _ ((m4.keeps k5).keeps (q6.keeps.trans k7)).1 m7.1).mono ?_
  rintro e w8 ⟨rfl, q8⟩
  have k8' := (k6'.trans k7).trans q8.keeps
  go_wp2_with fail
  refine (toIntS_any _ _ _ _ _ _ _ (hb.keeps k8')).mono ?_
  rintro e w9 ⟨A9, rfl, m9, k9⟩
  go_wp2_with fail
  refine (eqIntS_true _ _ _ _ _ _ _ _ _ _ _ (m5.keeps (((q6.keeps.trans k7).trans q8.keeps).trans k9)).1 m9.1).mono ?_
  rintro e w10 ⟨rfl, q10⟩
  go_wp2_with fail
  go_ret
  exact ⟨rfl, ((k8'.trans k9).trans q10.keeps)⟩
end Go.Proofs.Ytdfpgohfnabflaa
