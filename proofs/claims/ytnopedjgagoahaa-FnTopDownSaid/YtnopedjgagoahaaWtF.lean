/- WholeTree and TopDown of the reference and of the program; the laws. -/
import Derived.Test.YtnopedjgagoahaaWtI
import Derived.Test.YtnopedjgagoahaaConF
namespace Go.Proofs.Ytnopedjgagoahaa
open Go.RowKit
set_option linter.unusedVariables false
set_option linter.unusedSimpArgs false

set_option maxRecDepth 100000 in
set_option maxHeartbeats 1600000 in
theorem specWholeTree_any {A A' : Option Addr} {lo hi lo' hi' n m c c' : Nat} {z : List Int} {l : QL} {w : World} (h' : Ints w lo' hi' A' m z) (h : Fracs w lo hi A n l) :
    Calls Try.prog 38 #[.agg #[.slice A' m c'], .slice A n c] w (NRes w (wtQ z l)) := by
  have hn := h.le
  have hm := h'.le
  have hl := Fracs.len h
  have hl' := h'.1
  go_enter Try.func38, Try.ntmps38
  have kw := keeps_refl w
  replace kw := Keeps.trans kw (keeps_alloc w (.cells #[.slice A' m c'] 53))
  have b2 : B1 (w.alloc (.cells #[.slice A' m c'] 53)) w.heap.size (.slice A' m c') := B1.new' (by simp)
  obtain ⟨ca1, fa1⟩ := id b2
  go_wp2_with fail
  clear ca1 fa1
  obtain ⟨pHGF, HGF⟩ : ∃ pB, Hid (gfB z l = pB) := ⟨_, rfl⟩
  refine (wFracs_any (h.keeps kw) (h'.keeps kw)).mono ?_
  rintro e w2 ⟨rfl, k2⟩
  rw [HGF.out]
  replace b2 := b2.keeps k2
  replace kw := Keeps.trans kw k2
  have lt3 := b2.lt
  have sz4 := kw.size
  clear k2
  cases pHGF
  · have HF := hid (wtQ_no HGF.out)
    go_wp2_with fail
    go_ret2
    exact ⟨none, 0, 0, by rw [HF.out]; rfl, by rw [HF.out]; exact Mine.nil_ _ _, kw⟩
  · skip
    have HG2 := hid (gfB_true.1 HGF.out)
    obtain rfl : n = m := by have := HG2.out.2.1; omega
    have HF := hid (wtQ_yes (n := n) HGF.out hl)
    obtain ⟨ca5, fa5⟩ := id b2
    go_wp2_with fail
    clear ca5 fa5
    refine (wWhole_any (h'.keeps kw) (h.keeps kw) HG2.out.1 HG2.out.2.2).mono ?_
    rintro e w6 ⟨Aa, Na, Ca, rfl, q1, k6⟩
    replace b2 := b2.keeps k6
    replace kw := Keeps.trans kw k6
    have lt7 := b2.lt
    have sz8 := kw.size
    clear k6
    go_wp2_with fail
    go_ret2
    exact ⟨Aa, Na, Ca, by rw [HF.out]; rfl, by rw [HF.out]; exact q1.widen (by omega) (Nat.le_refl _) (Nat.le_refl _), kw⟩
set_option maxRecDepth 100000 in
set_option maxHeartbeats 1600000 in
theorem implWholeTree_any {A A' : Option Addr} {lo hi lo' hi' n m c c' : Nat} {z : List Int} {l : QL} {w : World} (h' : Ints w lo' hi' A' m z) (h : Fracs w lo hi A n l) :
    Calls Try.prog 37 #[.agg #[.slice A' m c'], .slice A n c] w (NRes w (wtQ z l)) := by
  have hn := h.le
  have hm := h'.le
  have hl := Fracs.len h
  have hl' := h'.1
  go_enter Try.func37, Try.ntmps37
  have kw := keeps_refl w
  replace kw := Keeps.trans kw (keeps_alloc w (.cells #[.slice A' m c'] 53))
  have b2 : B1 (w.alloc (.cells #[.slice A' m c'] 53)) w.heap.size (.slice A' m c') := B1.new' (by simp)
  obtain ⟨ca1, fa1⟩ := id b2
  go_wp2_with fail
  clear ca1 fa1
  obtain ⟨pH1, H1⟩ : ∃ pB, Hid (geoB z = pB) := ⟨_, rfl⟩
  refine (IsGeo_any (h'.keeps kw)).mono ?_
  rintro e w2 ⟨rfl, k2⟩
  rw [H1.out]
  replace b2 := b2.keeps k2
  replace kw := Keeps.trans kw k2
  have lt3 := b2.lt
  have sz4 := kw.size
  clear k2
  cases pH1
  · have HF := hid (wtQ_no (gfB_no (z := z) (l := l) (by rw [H1.out]; simp)))
    go_wp2_with fail
    go_ret2
    exact ⟨none, 0, 0, by rw [HF.out]; rfl, by rw [HF.out]; exact Mine.nil_ _ _, kw⟩
  · skip
    by_cases hmn : n = m
    rotate_left
    · have t1 : ((n : Int) != (m : Int)) = true := by rw [bne_iff_ne]; omega
      obtain ⟨ca5, fa5⟩ := id b2
      have HF := hid (wtQ_no (gfB_no (z := z) (l := l) (by rw [hl, hl']; simp [hmn])))
      go_wp2_with fail
      clear ca5 fa5
      go_ret2
      exact ⟨none, 0, 0, by rw [HF.out]; rfl, by rw [HF.out]; exact Mine.nil_ _ _, kw⟩
    obtain rfl : n = m := hmn
    have t1 : ((n : Int) != (n : Int)) = false := by simp
    obtain ⟨ca5, fa5⟩ := id b2
    go_wp2_with fail
    clear ca5 fa5
    obtain ⟨pH2, H2⟩ : ∃ pB, Hid (l.all fracQ = pB) := ⟨_, rfl⟩
    refine (areFracs_any (h.keeps kw)).mono ?_
    rintro e w6 ⟨rfl, k6⟩
    rw [H2.out]
    replace b2 := b2.keeps k6
    replace kw := Keeps.trans kw k6
    have lt7 := b2.lt
    have sz8 := kw.size
    clear k6
    cases pH2
    · have HF := hid (wtQ_no (gfB_no (z := z) (l := l) (by rw [H2.out]; simp)))
      go_wp2_with fail
      go_ret2
      exact ⟨none, 0, 0, by rw [HF.out]; rfl, by rw [HF.out]; exact Mine.nil_ _ _, kw⟩
    · skip
      have HGF := hid (gfB_true.2 ⟨H1.out, by rw [hl, hl'], H2.out⟩)
      have HF := hid (wtQ_yes (n := n) HGF.out hl)
      obtain ⟨ca9, fa9⟩ := id b2
      go_wp2_with fail
      clear ca9 fa9
      refine (wholeTree_any (h'.keeps kw) (h.keeps kw) H1.out H2.out).mono ?_
      rintro e w10 ⟨Aa, Na, Ca, rfl, q1, k10⟩
      replace b2 := b2.keeps k10
      replace kw := Keeps.trans kw k10
      have lt11 := b2.lt
      have sz12 := kw.size
      clear k10
      go_wp2_with fail
      go_ret2
      exact ⟨Aa, Na, Ca, by rw [HF.out]; rfl, by rw [HF.out]; exact q1.widen (by omega) (Nat.le_refl _) (Nat.le_refl _), kw⟩
set_option maxRecDepth 100000 in
set_option maxHeartbeats 1600000 in
theorem specTopDown_any {A0 A1 A2 : Option Addr} {l0 l1 l2 u0 u1 u2 n0 n1 n2 c0 c1 c2 : Nat} {ps y v : List Int} {w : World} (h0 : Ints w l0 u0 A0 n0 ps) (h1 : Ints w l1 u1 A1 n1 y) (h2 : Ints w l2 u2 A2 n2 v) :
    Calls Try.prog 35 #[.agg #[.slice A0 n0 c0], .slice A1 n1 c1, .slice A2 n2 c2] w (NRes w (tdQ ps y v)) := by
  have hl0 := h0.1
  have hl1 := h1.1
  have hl2 := h2.1
  obtain ⟨l, ok, HC⟩ : ∃ l ok, Hid (conQ ps y v = (l, ok)) := ⟨_, _, rfl⟩
  go_enter Try.func35, Try.ntmps35
  have kw := keeps_refl w
  replace kw := Keeps.trans kw (keeps_alloc w (.cells #[.slice A0 n0 c0] 53))
  have b3 : B1 (w.alloc (.cells #[.slice A0 n0 c0] 53)) w.heap.size (.slice A0 n0 c0) := B1.new' (by simp)
  obtain ⟨ca1, fa1⟩ := id b3
  go_wp2_with fail
  clear ca1 fa1
  obtain ⟨pH1, H1⟩ : ∃ pB, Hid (treeB ps y v = pB) := ⟨_, rfl⟩
  refine (wTree_any (h0.keeps kw) (h1.keeps kw) (h2.keeps kw)).mono ?_
  rintro e w2 ⟨rfl, k2⟩
  rw [H1.out]
  replace b3 := b3.keeps k2
  replace kw := Keeps.trans kw k2
  have lt3 := b3.lt
  have sz4 := kw.size
  clear k2
  cases pH1
  · have HC' := HC
    rw [conQ_no H1.out] at HC'
    obtain ⟨rfl, rfl⟩ : l = [] ∧ ok = false := by have e := HC'.out; injection e with e1 e2; exact ⟨e1.symm, e2.symm⟩
    have HF := hid (tdQ_no HC.out)
    go_wp2_with fail
    go_ret2
    exact ⟨none, 0, 0, by rw [HF.out]; rfl, by rw [HF.out]; exact Mine.nil_ _ _, kw⟩
  · skip
    have HT0 := hid (treeB_true.1 H1.out)
    obtain ⟨rfl, rfl⟩ : n0 = n1 ∧ n0 = n2 := by have := HT0.out; omega
    have HY := hid ((conQ_yes H1.out hl0).symm.trans HC.out)
    have HY1 := hid (congrArg Prod.fst HY.out)
    have HY2 := hid (congrArg Prod.snd HY.out)
    have HY1' := HY1.out
    have HY2' := HY2.out
    dsimp only at HY1' HY2'
    obtain ⟨ca5, fa5⟩ := id b3
    go_wp2_with fail
    clear ca5 fa5
    refine (wConsistent_any (h0.keeps kw) (h1.keeps kw) (h2.keeps kw) H1.out).mono ?_
    rintro e w6 ⟨Aa, Na, Ca, rfl, qM, k6⟩
    replace b3 := b3.keeps k6
    replace kw := Keeps.trans kw k6
    have lt7 := b3.lt
    have sz8 := kw.size
    clear k6
    rw [HY1'] at qM
    rw [HY2']
    cases ok
    · have HF := hid (tdQ_no HC.out)
      go_wp2_with fail
      go_ret2
      exact ⟨none, 0, 0, by rw [HF.out]; rfl, by rw [HF.out]; exact Mine.nil_ _ _, kw⟩
    have HA := hid (conQ_all HC.out)
    have HT := hid (treeB_true.1 HA.out.1)
    have HF := hid (tdQ_yes HC.out hl0)
    have hAF := hid (HA.out.2)
    rw [hl0] at hAF
    obtain rfl : n0 = Na := hAF.out.1.symm.trans (Fracs.len qM.1)
    obtain ⟨ca9, fa9⟩ := id b3
    go_wp2_with fail
    clear ca9 fa9
    refine (wWhole_any (h0.keeps kw) qM.1 HT.out.1 hAF.out.fracQ).mono ?_
    rintro e w10 ⟨Ab, Nb, Cb, rfl, q1, k10⟩
    replace b3 := b3.keeps k10
    replace qM := qM.keeps k10
    replace kw := Keeps.trans kw k10
    have lt11 := b3.lt
    have sz12 := kw.size
    clear k10
    go_wp2_with fail
    go_ret2
    exact ⟨Ab, Nb, Cb, by rw [HF.out]; rfl, by rw [HF.out]; exact q1.widen (by omega) (Nat.le_refl _) (Nat.le_refl _), kw⟩
set_option maxRecDepth 100000 in
set_option maxHeartbeats 1600000 in
theorem implTopDown_any {A0 A1 A2 : Option Addr} {l0 l1 l2 u0 u1 u2 n0 n1 n2 c0 c1 c2 : Nat} {ps y v : List Int} {w : World} (h0 : Ints w l0 u0 A0 n0 ps) (h1 : Ints w l1 u1 A1 n1 y) (h2 : Ints w l2 u2 A2 n2 v) :
    Calls Try.prog 34 #[.agg #[.slice A0 n0 c0], .slice A1 n1 c1, .slice A2 n2 c2] w (NRes w (tdQ ps y v)) := by
  have hl0 := h0.1
  have hl1 := h1.1
  have hl2 := h2.1
  obtain ⟨l, ok, HC⟩ : ∃ l ok, Hid (conQ ps y v = (l, ok)) := ⟨_, _, rfl⟩
  go_enter Try.func34, Try.ntmps34
  have kw := keeps_refl w
  replace kw := Keeps.trans kw (keeps_alloc w (.cells #[.slice A0 n0 c0] 53))
  have b3 : B1 (w.alloc (.cells #[.slice A0 n0 c0] 53)) w.heap.size (.slice A0 n0 c0) := B1.new' (by simp)
  obtain ⟨ca1, fa1⟩ := id b3
  go_wp2_with fail
  clear ca1 fa1
  refine (implConsistentEstimates_any (h0.keeps kw) (h1.keeps kw) (h2.keeps kw)).mono ?_
  rintro e w2 ⟨Aa, Na, Ca, rfl, qM, k2⟩
  replace b3 := b3.keeps k2
  replace kw := Keeps.trans kw k2
  have lt3 := b3.lt
  have sz4 := kw.size
  clear k2
  rw [HC.out] at qM
  rw [HC.out]
  dsimp only at qM
  dsimp only
  cases ok
  · have HF := hid (tdQ_no HC.out)
    go_wp2_with fail
    go_ret2
    exact ⟨none, 0, 0, by rw [HF.out]; rfl, by rw [HF.out]; exact Mine.nil_ _ _, kw⟩
  have HA := hid (conQ_all HC.out)
  have HT := hid (treeB_true.1 HA.out.1)
  have HF := hid (tdQ_yes HC.out hl0)
  have hAF := hid (HA.out.2)
  rw [hl0] at hAF
  obtain rfl : n0 = Na := hAF.out.1.symm.trans (Fracs.len qM.1)
  obtain ⟨ca5, fa5⟩ := id b3
  go_wp2_with fail
  clear ca5 fa5
  refine (wholeTree_any (h0.keeps kw) qM.1 HT.out.1 hAF.out.fracQ).mono ?_
  rintro e w6 ⟨Ab, Nb, Cb, rfl, q1, k6⟩
  replace b3 := b3.keeps k6
  replace qM := qM.keeps k6
  replace kw := Keeps.trans kw k6
  have lt7 := b3.lt
  have sz8 := kw.size
  clear k6
  go_wp2_with fail
  go_ret2
  exact ⟨Ab, Nb, Cb, by rw [HF.out]; rfl, by rw [HF.out]; exact q1.widen (by omega) (Nat.le_refl _) (Nat.le_refl _), kw⟩
end Go.Proofs.Ytnopedjgagoahaa
