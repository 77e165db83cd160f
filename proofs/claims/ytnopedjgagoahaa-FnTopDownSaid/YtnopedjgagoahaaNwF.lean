/- NearestWhole of the reference and of the program: the contracts and the law. -/
import Derived.Test.YtnopedjgagoahaaNw
namespace Go.Proofs.Ytnopedjgagoahaa
open Go.RowKit
set_option linter.unusedVariables false
set_option linter.unusedSimpArgs false

set_option maxRecDepth 100000 in
set_option maxHeartbeats 1600000 in
theorem specNearestWhole_any {A : Option Addr} {lo hi n c : Nat} {l : QL} {z : Int} {w : World} (h : Fracs w lo hi A n l) :
    Calls Try.prog 198 #[.slice A n c, .int .i64 z] w (NRes w (nearQ l z)) := by
  have hn := h.le
  have hl := Fracs.len h
  go_enter Try.func198, Try.ntmps198
  have kw := keeps_refl w
  go_wp2_with fail
  obtain ⟨pH1, H1⟩ : ∃ pB, Hid ((l.all shortQ && inB n 1 30) = pB) := ⟨_, rfl⟩
  refine (wShort_any (h.keeps kw)).mono ?_
  rintro e w1 ⟨rfl, k1⟩
  rw [H1.out]
  replace kw := Keeps.trans kw k1
  have sz2 := kw.size
  clear k1
  cases pH1
  · have HB := hid (show nearB l z = false by unfold nearB; rw [roundB_split, hl, H1.out]; simp)
    have HF := hid (nearQ_no HB.out)
    go_wp2_with fail
    go_ret2
    exact ⟨none, 0, 0, by rw [HF.out]; rfl, by rw [HF.out]; exact Mine.nil_ _ _, kw⟩
  · skip
    go_wp2_with fail
    obtain ⟨pH2, H2⟩ : ∃ pB, Hid (l.all fewQ = pB) := ⟨_, rfl⟩
    refine (wFew_any (h.keeps kw)).mono ?_
    rintro e w3 ⟨rfl, k3⟩
    rw [H2.out]
    replace kw := Keeps.trans kw k3
    have sz4 := kw.size
    clear k3
    cases pH2
    · have HB := hid (show nearB l z = false by unfold nearB; rw [roundB_split, H2.out]; simp)
      have HF := hid (nearQ_no HB.out)
      go_wp2_with fail
      go_ret2
      exact ⟨none, 0, 0, by rw [HF.out]; rfl, by rw [HF.out]; exact Mine.nil_ _ _, kw⟩
    · skip
      go_wp2_with fail
      obtain ⟨pH3, H3⟩ : ∃ pB, Hid (inB z 0 5000 = pB) := ⟨_, rfl⟩
      refine (l1In_any _ _ _ _).mono ?_
      rintro e w' ⟨rfl, rfl⟩
      rw [H3.out]
      cases pH3
      · have HB := hid (show nearB l z = false by unfold nearB; rw [H3.out]; simp)
        have HF := hid (nearQ_no HB.out)
        go_wp2_with fail
        go_ret2
        exact ⟨none, 0, 0, by rw [HF.out]; rfl, by rw [HF.out]; exact Mine.nil_ _ _, kw⟩
      · skip
        have HB := hid (show nearB l z = true by unfold nearB; rw [roundB_split, hl, H1.out, H2.out, H3.out]; rfl)
        have kw0 := kw
        go_wp2_with fail
        have HF := hid (nearQ_yes HB.out)
        refine (wNearest_any (h.keeps kw) HB.out).mono ?_
        rintro e w5 ⟨A', N', C', rfl, hm, k5⟩
        replace kw := Keeps.trans kw k5
        have sz6 := kw.size
        clear k5
        go_wp2_with fail
        have hm2 := hm.widen (lo' := w.heap.size) kw0.size (Nat.le_refl _) (Nat.le_refl _)
        go_ret2
        exact ⟨A', N', C', by rw [HF.out]; rfl, by rw [HF.out]; exact hm2, kw⟩
set_option maxRecDepth 100000 in
set_option maxHeartbeats 1600000 in
theorem implNearestWhole_any {A : Option Addr} {lo hi n c : Nat} {l : QL} {z : Int} {w : World} (h : Fracs w lo hi A n l) :
    Calls Try.prog 190 #[.slice A n c, .int .i64 z] w (NRes w (nearQ l z)) := by
  have hn := h.le
  have hl := Fracs.len h
  go_enter Try.func190, Try.ntmps190
  have kw := keeps_refl w
  go_wp2_with fail
  obtain ⟨pH1, H1⟩ : ∃ pB, Hid (roundB l = pB) := ⟨_, rfl⟩
  refine (areRoundable_any (h.keeps kw)).mono ?_
  rintro e w1 ⟨rfl, k1⟩
  rw [H1.out]
  replace kw := Keeps.trans kw k1
  have sz2 := kw.size
  clear k1
  cases pH1
  · have HB := hid (show nearB l z = false by unfold nearB; rw [H1.out]; simp)
    have HF := hid (nearQ_no HB.out)
    go_wp2_with fail
    go_ret2
    exact ⟨none, 0, 0, by rw [HF.out]; rfl, by rw [HF.out]; exact Mine.nil_ _ _, kw⟩
  · skip
    by_cases h1 : ¬ z < 0
    rotate_left
    · have h2 : z < 0 := by omega
      have HB := hid (show nearB l z = false by unfold nearB; rw [show inB z 0 5000 = false by rw [Bool.eq_false_iff]; intro q; have := inB_true.1 q; omega]; simp)
      have HF := hid (nearQ_no HB.out)
      go_wp2_with fail
      go_ret2
      exact ⟨none, 0, 0, by rw [HF.out]; rfl, by rw [HF.out]; exact Mine.nil_ _ _, kw⟩
    by_cases h2 : ¬ 5000 < z
    rotate_left
    · have h3 : 5000 < z := by omega
      have HB := hid (show nearB l z = false by unfold nearB; rw [show inB z 0 5000 = false by rw [Bool.eq_false_iff]; intro q; have := inB_true.1 q; omega]; simp)
      have HF := hid (nearQ_no HB.out)
      go_wp2_with fail
      go_ret2
      exact ⟨none, 0, 0, by rw [HF.out]; rfl, by rw [HF.out]; exact Mine.nil_ _ _, kw⟩
    have HB := hid (show nearB l z = true by unfold nearB; rw [H1.out, inB_true.2 (by omega)]; rfl)
    have kw0 := kw
    go_wp2_with fail
    have HF := hid (nearQ_yes HB.out)
    refine (nearestWhole_any (h.keeps kw) HB.out).mono ?_
    rintro e w3 ⟨A', N', C', rfl, hm, k3⟩
    replace kw := Keeps.trans kw k3
    have sz4 := kw.size
    clear k3
    go_wp2_with fail
    have hm2 := hm.widen (lo' := w.heap.size) kw0.size (Nat.le_refl _) (Nat.le_refl _)
    go_ret2
    exact ⟨A', N', C', by rw [HF.out]; rfl, by rw [HF.out]; exact hm2, kw⟩
end Go.Proofs.Ytnopedjgagoahaa
