/- PossibleTotals and RaiseToBounds, of the reference and of the program; and the laws. -/
import Derived.Test.YtkpliolafkdijaaBounds
import Derived.Test.YtkpliolafkdijaaOpen
namespace Go.Proofs.Ytkpliolafkdijaa
open Go.RowKit
set_option linter.unusedVariables false
set_option linter.unusedSimpArgs false

theorem ret3_iib {a b c d : Int} {p q : Bool} (h1 : a = c) (h2 : b = d) (h3 : p = q) : Ending.returned (.tuple #[.int .i64 a, .int .i64 b, .bool p]) = .returned (.tuple #[.int .i64 c, .int .i64 d, .bool q]) := by rw [h1, h2, h3]
def ptF (lo hi : List Int) : Int × Int × Bool := if limitsB lo hi then (lo.sum, hi.sum, true) else (0, 0, false)
theorem ptF_no {lo hi : List Int} (h : limitsB lo hi = false) : ptF lo hi = (0, 0, false) := by simp [ptF, h]
theorem ptF_yes {lo hi : List Int} (h : limitsB lo hi = true) : ptF lo hi = (lo.sum, hi.sum, true) := by simp [ptF, h]
theorem ret_sb {A : Option Addr} {n c : Nat} {p q : Bool} (h3 : p = q) : Ending.returned (.tuple #[.slice A n c, .bool p]) = .returned (.tuple #[.slice A n c, .bool q]) := by rw [h3]
def rbF (vs lo hi : List Int) : List Int × Bool := if boundedB vs lo hi then (clampL vs lo hi 0, true) else ([], false)
set_option maxHeartbeats 800000 in
theorem spec_RaiseToBounds_any {A A1 A2 : Option Addr} {l h l1 h1 l2 h2 n n1 n2 c c1 c2 : Nat} {xs lo hi : List Int} {w : World} (ha : Ints w l h A n xs) (hb : Ints w l1 h1 A1 n1 lo) (hc : Ints w l2 h2 A2 n2 hi) :
    Calls Try.prog 54 #[.slice A n c, .slice A1 n1 c1, .slice A2 n2 c2] w fun e w' => ∃ A' m c', e = .returned (.tuple #[.slice A' m c', .bool (rbF xs lo hi).2]) ∧ Mine w' w.heap.size w'.heap.size A' m (rbF xs lo hi).1 ∧ Keeps w w' := by
  cases h1 : boundedB xs lo hi with
  | false =>
    have HF := hid (show rbF xs lo hi = ([], false) by simp [rbF, h1])
    have H1 := hid h1
    clear h1
    go_enter Try.func54, Try.ntmps54
    go_wp2_with fail
    refine (iBounds_any _ _ _ _ _ _ _ _ _ _ _ _ _ _ _ _ _ _ _ ha hb hc).mono ?_
    rintro e w' ⟨rfl, hq⟩
    rw [H1.out]
    go_wp2_with fail
    go_ret2
    exact ⟨none, 0, 0, ret_sb (by rw [HF.out]), by rw [HF.out]; exact Mine.nil_ _ _, hq.keeps⟩
  | true =>
    have hh := boundedB_true.1 h1
    have hli := limitsB_true.1 hh.2.1
    have hl := ha.1
    have hl1 := hb.1
    have hl2 := hc.1
    obtain rfl : n1 = n := by omega
    obtain rfl : n2 = n1 := by omega
    have bx := hid (partsB_bd hh.1)
    have HO := hid (ordered_of hli.2.2.2 hli.2.2.1)
    have HF := hid (show rbF xs lo hi = (clampL xs lo hi 0, true) by simp [rbF, h1])
    have H1 := hid h1
    clear h1 hh hli
    go_enter Try.func54, Try.ntmps54
    go_wp2_with fail
    refine (iBounds_any _ _ _ _ _ _ _ _ _ _ _ _ _ _ _ _ _ _ _ ha hb hc).mono ?_
    rintro e w' ⟨rfl, hq⟩
    rw [H1.out]
    go_wp2_with fail
    refine (iClamp_any _ _ _ _ _ _ _ _ _ _ _ _ _ _ _ _ _ (ha.quiet hq) (hb.quiet hq) (hc.quiet hq) HO.out).mono ?_
    rintro e w2 ⟨A', c', rfl, hm, hk⟩
    go_wp2_with fail
    go_ret2
    exact ⟨A', _, _, ret_sb (by rw [HF.out]), by rw [HF.out]; exact hm.widen hq.keeps.size (Nat.le_refl _) (Nat.le_refl _), hq.keeps.trans hk⟩
set_option maxHeartbeats 800000 in
theorem impl_RaiseToBounds_any {A A1 A2 : Option Addr} {l h l1 h1 l2 h2 n n1 n2 c c1 c2 : Nat} {xs lo hi : List Int} {w : World} (ha : Ints w l h A n xs) (hb : Ints w l1 h1 A1 n1 lo) (hc : Ints w l2 h2 A2 n2 hi) :
    Calls Try.prog 53 #[.slice A n c, .slice A1 n1 c1, .slice A2 n2 c2] w fun e w' => ∃ A' m c', e = .returned (.tuple #[.slice A' m c', .bool (rbF xs lo hi).2]) ∧ Mine w' w.heap.size w'.heap.size A' m (rbF xs lo hi).1 ∧ Keeps w w' := by
  cases h1 : boundedB xs lo hi with
  | false =>
    have HF := hid (show rbF xs lo hi = ([], false) by simp [rbF, h1])
    have H1 := hid h1
    clear h1
    go_enter Try.func53, Try.ntmps53
    go_wp2_with fail
    refine (areBounded_any _ _ _ _ _ _ _ _ _ _ _ _ _ _ _ _ _ _ _ ha hb hc).mono ?_
    rintro e w' ⟨rfl, hq⟩
    rw [H1.out]; subst hq; have hq := Quiet.refl w
    go_wp2_with fail
    go_ret2
    exact ⟨none, 0, 0, ret_sb (by rw [HF.out]), by rw [HF.out]; exact Mine.nil_ _ _, hq.keeps⟩
  | true =>
    have hh := boundedB_true.1 h1
    have hli := limitsB_true.1 hh.2.1
    have hl := ha.1
    have hl1 := hb.1
    have hl2 := hc.1
    obtain rfl : n1 = n := by omega
    obtain rfl : n2 = n1 := by omega
    have bx := hid (partsB_bd hh.1)
    have HO := hid (ordered_of hli.2.2.2 hli.2.2.1)
    have HF := hid (show rbF xs lo hi = (clampL xs lo hi 0, true) by simp [rbF, h1])
    have H1 := hid h1
    clear h1 hh hli
    go_enter Try.func53, Try.ntmps53
    go_wp2_with fail
    refine (areBounded_any _ _ _ _ _ _ _ _ _ _ _ _ _ _ _ _ _ _ _ ha hb hc).mono ?_
    rintro e w' ⟨rfl, hq⟩
    rw [H1.out]; subst hq; have hq := Quiet.refl w
    go_wp2_with fail
    refine (shifted_any _ _ _ _ _ _ _ _ _ _ _ _ _ _ _ _ _ _ ha hb hc (bx.out.mono (by omega)) (by omega) (by omega)).mono ?_
    rintro e w2 ⟨A', rfl, hm, hk⟩
    go_wp2_with fail
    go_ret2
    exact ⟨A', _, _, ret_sb (by rw [HF.out]), by rw [HF.out]; exact hm.widen hq.keeps.size (Nat.le_refl _) (Nat.le_refl _), hq.keeps.trans hk⟩

end Go.Proofs.Ytkpliolafkdijaa
