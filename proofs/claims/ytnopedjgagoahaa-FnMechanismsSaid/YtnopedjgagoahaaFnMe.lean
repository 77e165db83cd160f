/- The law FnMechanisms: the walk. -/
import Derived.Test.YtnopedjgagoahaaKJ
import Derived.Test.YtnopedjgagoahaaDrawZ
import Derived.Test.YtnopedjgagoahaaKK
import Derived.Test.YtnopedjgagoahaaMeL
import Derived.Test.YtnopedjgagoahaaCmpf
namespace Go.Proofs.Ytnopedjgagoahaa
open Go.RowKit
set_option linter.unusedVariables false
set_option linter.unusedSimpArgs false

theorem nbQ_frac {ll : List (List QQ)} {a b : Int} (e : nbQ ll = (a, b, true)) : fracB a b = true := by
  by_cases h : mechB ll = true
  · rw [nbQ_yes h] at e
    exact (accQ_fine (by decide) (fun _ _ _ h => nbSt_fine h) _).ok e
  · rw [nbQ_no (by simpa using h)] at e; cases e
theorem rowRatioQ_frac {ll : List (List QQ)} {i k a b : Int} (e : rowRatioQ ll i k = (a, b, true)) : fracB a b = true := by
  unfold rowRatioQ at e
  split at e
  · exact (rrQ_fine _ _).ok e
  · cases e
theorem deltaQ_frac {ll : List (List QQ)} {i k p q a b : Int} (e : deltaQ ll i k p q = (a, b, true)) : fracB p q = true := by
  by_cases h : deB ll i k p q = true
  · simp only [deB, Bool.and_eq_true, decide_eq_true_eq] at h
    exact h.1.2
  · rw [deltaQ_no (by simpa using h)] at e; cases e
theorem wf_small {i : Int} (h : -10 ≤ i ∧ i ≤ 20) : (Lit.int .i64 i).wf = true := by simp [Lit.wf, IntKind.min, IntKind.max, IntKind.signed, IntKind.bits]; omega

set_option maxRecDepth 100000 in
set_option maxHeartbeats 12800000 in
theorem FnMechanisms_law (A0 : Option Addr) (n0 c0 : Nat) (A1 : Option Addr) (n1 c1 : Nat) (w : World) (wa0 : BytesArg w A0 n0) (wa1 : BytesArg w A1 n1) :
    Calls Try.prog 3 #[.slice A0 n0 c0, .slice A1 n1 c1] w fun e w' => e = .returned (.bool true) ∧ Below w.heap.size w w' := by
  have B0 := wa0
  have B1_ := wa1
  have m0 := wa0.1
  have m1 := wa1.1
  obtain ⟨S, hS⟩ : ∃ S, wrap64 ((n0 : Int) + (n1 : Int)) = S := ⟨_, rfl⟩
  by_cases hlt : 1048576 < S
  · go_enter Try.func3, Try.ntmps3
    have kw := keeps_refl w
    go_wp2_with fail
    go_ret
    exact ⟨rfl, kw⟩
  go_enter Try.func3, Try.ntmps3
  have kw := keeps_refl w
  go_wp2_with fail
  refine (DrawPostProcess_any B0).mono ?_
  rintro e w1 ⟨mA, mN, mC, mm, tA, tN, tC, tt, rfl, mF, tF, k1⟩
  replace kw := Keeps.trans kw k1
  have sz2 := kw.size
  clear k1
  replace mF := mF.keeps (keeps_alloc w1 (.cells #[.slice mA mN mC] 25))
  replace tF := tF.keeps (keeps_alloc w1 (.cells #[.slice mA mN mC] 25))
  replace kw := Keeps.trans kw (keeps_alloc w1 (.cells #[.slice mA mN mC] 25))
  have b5 : B1 (w1.alloc (.cells #[.slice mA mN mC] 25)) w1.heap.size (.slice mA mN mC) := B1.new' (by simp)
  replace b5 := b5.keeps (keeps_alloc (w1.alloc (.cells #[.slice mA mN mC] 25)) (.cells #[.slice tA tN tC] 25))
  replace mF := mF.keeps (keeps_alloc (w1.alloc (.cells #[.slice mA mN mC] 25)) (.cells #[.slice tA tN tC] 25))
  replace tF := tF.keeps (keeps_alloc (w1.alloc (.cells #[.slice mA mN mC] 25)) (.cells #[.slice tA tN tC] 25))
  replace kw := Keeps.trans kw (keeps_alloc (w1.alloc (.cells #[.slice mA mN mC] 25)) (.cells #[.slice tA tN tC] 25))
  have b6 : B1 ((w1.alloc (.cells #[.slice mA mN mC] 25)).alloc (.cells #[.slice tA tN tC] 25)) (w1.heap.size + 1) (.slice tA tN tC) := B1.new' (by simp)
  obtain ⟨ca3, fa3⟩ := id b5
  obtain ⟨ca4, fa4⟩ := id b6
  go_wp2_with fail
  clear ca3 fa3 ca4 fa4
  obtain ⟨xx, ok, HP⟩ : ∃ x y, Hid (ppQ mm tt = (x, y)) := ⟨_, _, rfl⟩
  refine (implPostProcess_any mF tF).mono ?_
  rintro e w5 ⟨xA, xN, xC, rfl, xM, k5⟩
  replace b5 := b5.keeps k5
  replace b6 := b6.keeps k5
  replace mF := mF.keeps k5
  replace tF := tF.keeps k5
  replace kw := Keeps.trans kw k5
  have lt6 := b6.lt
  have sz7 := kw.size
  clear k5
  rw [HP.out] at xM
  rw [HP.out]
  dsimp only at xM
  dsimp only
  replace b5 := b5.keeps (keeps_alloc w5 (.cells #[.slice xA xN xC] 25))
  replace b6 := b6.keeps (keeps_alloc w5 (.cells #[.slice xA xN xC] 25))
  replace mF := mF.keeps (keeps_alloc w5 (.cells #[.slice xA xN xC] 25))
  replace tF := tF.keeps (keeps_alloc w5 (.cells #[.slice xA xN xC] 25))
  replace xM := xM.keeps (keeps_alloc w5 (.cells #[.slice xA xN xC] 25))
  replace kw := Keeps.trans kw (keeps_alloc w5 (.cells #[.slice xA xN xC] 25))
  have b7 : B1 (w5.alloc (.cells #[.slice xA xN xC] 25)) w5.heap.size (.slice xA xN xC) := B1.new' (by simp)
  obtain ⟨ca8, fa8⟩ := id b5
  obtain ⟨ca9, fa9⟩ := id b6
  go_wp2_with fail
  clear ca8 fa8 ca9 fa9
  refine (specPostProcess_any mF tF).mono ?_
  rintro e w10 ⟨uA, uN, uC, rfl, uM, k10⟩
  replace b5 := b5.keeps k10
  replace b6 := b6.keeps k10
  replace b7 := b7.keeps k10
  replace mF := mF.keeps k10
  replace tF := tF.keeps k10
  replace xM := xM.keeps k10
  replace kw := Keeps.trans kw k10
  have lt11 := b7.lt
  have sz12 := kw.size
  clear k10
  rw [HP.out] at uM
  rw [HP.out]
  dsimp only at uM
  dsimp only
  replace b5 := b5.keeps (keeps_alloc w10 (.cells #[.slice uA uN uC] 25))
  replace b6 := b6.keeps (keeps_alloc w10 (.cells #[.slice uA uN uC] 25))
  replace b7 := b7.keeps (keeps_alloc w10 (.cells #[.slice uA uN uC] 25))
  replace mF := mF.keeps (keeps_alloc w10 (.cells #[.slice uA uN uC] 25))
  replace tF := tF.keeps (keeps_alloc w10 (.cells #[.slice uA uN uC] 25))
  replace xM := xM.keeps (keeps_alloc w10 (.cells #[.slice uA uN uC] 25))
  replace uM := uM.keeps (keeps_alloc w10 (.cells #[.slice uA uN uC] 25))
  replace kw := Keeps.trans kw (keeps_alloc w10 (.cells #[.slice uA uN uC] 25))
  have b9 : B1 (w10.alloc (.cells #[.slice uA uN uC] 25)) w10.heap.size (.slice uA uN uC) := B1.new' (by simp)
  go_wp2_with fail
  refine (DrawDeltaOf_any (B1_.keeps kw)).mono ?_
  rintro e w13 ⟨hA, hN, hC, hh, i, k, p, q, rfl, hF, hi, hk, sm, k13⟩
  replace b5 := b5.keeps k13
  replace b6 := b6.keeps k13
  replace b7 := b7.keeps k13
  replace b9 := b9.keeps k13
  replace mF := mF.keeps k13
  replace tF := tF.keeps k13
  replace xM := xM.keeps k13
  replace uM := uM.keeps k13
  replace kw := Keeps.trans kw k13
  have lt14 := b9.lt
  have sz15 := kw.size
  clear k13
  replace b5 := b5.keeps (keeps_alloc w13 (.cells #[.slice hA hN hC] 25))
  replace b6 := b6.keeps (keeps_alloc w13 (.cells #[.slice hA hN hC] 25))
  replace b7 := b7.keeps (keeps_alloc w13 (.cells #[.slice hA hN hC] 25))
  replace b9 := b9.keeps (keeps_alloc w13 (.cells #[.slice hA hN hC] 25))
  replace mF := mF.keeps (keeps_alloc w13 (.cells #[.slice hA hN hC] 25))
  replace tF := tF.keeps (keeps_alloc w13 (.cells #[.slice hA hN hC] 25))
  replace xM := xM.keeps (keeps_alloc w13 (.cells #[.slice hA hN hC] 25))
  replace uM := uM.keeps (keeps_alloc w13 (.cells #[.slice hA hN hC] 25))
  replace hF := hF.keeps (keeps_alloc w13 (.cells #[.slice hA hN hC] 25))
  replace kw := Keeps.trans kw (keeps_alloc w13 (.cells #[.slice hA hN hC] 25))
  have b11 : B1 (w13.alloc (.cells #[.slice hA hN hC] 25)) w13.heap.size (.slice hA hN hC) := B1.new' (by simp)
  replace b5 := b5.keeps (keeps_alloc (w13.alloc (.cells #[.slice hA hN hC] 25)) (.cells #[.int .i64 p, .int .i64 q] 31))
  replace b6 := b6.keeps (keeps_alloc (w13.alloc (.cells #[.slice hA hN hC] 25)) (.cells #[.int .i64 p, .int .i64 q] 31))
  replace b7 := b7.keeps (keeps_alloc (w13.alloc (.cells #[.slice hA hN hC] 25)) (.cells #[.int .i64 p, .int .i64 q] 31))
  replace b9 := b9.keeps (keeps_alloc (w13.alloc (.cells #[.slice hA hN hC] 25)) (.cells #[.int .i64 p, .int .i64 q] 31))
  replace b11 := b11.keeps (keeps_alloc (w13.alloc (.cells #[.slice hA hN hC] 25)) (.cells #[.int .i64 p, .int .i64 q] 31))
  replace mF := mF.keeps (keeps_alloc (w13.alloc (.cells #[.slice hA hN hC] 25)) (.cells #[.int .i64 p, .int .i64 q] 31))
  replace tF := tF.keeps (keeps_alloc (w13.alloc (.cells #[.slice hA hN hC] 25)) (.cells #[.int .i64 p, .int .i64 q] 31))
  replace xM := xM.keeps (keeps_alloc (w13.alloc (.cells #[.slice hA hN hC] 25)) (.cells #[.int .i64 p, .int .i64 q] 31))
  replace uM := uM.keeps (keeps_alloc (w13.alloc (.cells #[.slice hA hN hC] 25)) (.cells #[.int .i64 p, .int .i64 q] 31))
  replace hF := hF.keeps (keeps_alloc (w13.alloc (.cells #[.slice hA hN hC] 25)) (.cells #[.int .i64 p, .int .i64 q] 31))
  replace kw := Keeps.trans kw (keeps_alloc (w13.alloc (.cells #[.slice hA hN hC] 25)) (.cells #[.int .i64 p, .int .i64 q] 31))
  have b14 : Bx ((w13.alloc (.cells #[.slice hA hN hC] 25)).alloc (.cells #[.int .i64 p, .int .i64 q] 31)) (w13.heap.size + 1) p q := Bx.new' (by simp)
  have wi := wf_small hi
  have wk := wf_small hk
  have i14 := sm.i64
  obtain ⟨d1, d2, one, HD⟩ : ∃ x y z, Hid (deltaQ hh i k p q = (x, y, z)) := ⟨_, _, _, rfl⟩
  obtain ⟨ca16, fa16⟩ := id b11
  obtain ⟨ca17, cb17, fa17, fb17⟩ := id b14
  go_wp2_with fail
  clear ca16 fa16 ca17 cb17 fa17 fb17
  refine (implDeltaOf_any hF wi wk i14).mono ?_
  rintro e w18 ⟨rfl, k18⟩
  rw [HD.out]
  replace b5 := b5.keeps k18
  replace b6 := b6.keeps k18
  replace b7 := b7.keeps k18
  replace b9 := b9.keeps k18
  replace b11 := b11.keeps k18
  replace b14 := b14.keeps k18
  replace mF := mF.keeps k18
  replace tF := tF.keeps k18
  replace xM := xM.keeps k18
  replace uM := uM.keeps k18
  replace hF := hF.keeps k18
  replace kw := Keeps.trans kw k18
  have lt19 := b14.lt
  have sz20 := kw.size
  clear k18
  replace b5 := b5.keeps (keeps_alloc w18 (.cells #[.int .i64 d1, .int .i64 d2] 31))
  replace b6 := b6.keeps (keeps_alloc w18 (.cells #[.int .i64 d1, .int .i64 d2] 31))
  replace b7 := b7.keeps (keeps_alloc w18 (.cells #[.int .i64 d1, .int .i64 d2] 31))
  replace b9 := b9.keeps (keeps_alloc w18 (.cells #[.int .i64 d1, .int .i64 d2] 31))
  replace b11 := b11.keeps (keeps_alloc w18 (.cells #[.int .i64 d1, .int .i64 d2] 31))
  replace b14 := b14.keeps (keeps_alloc w18 (.cells #[.int .i64 d1, .int .i64 d2] 31))
  replace mF := mF.keeps (keeps_alloc w18 (.cells #[.int .i64 d1, .int .i64 d2] 31))
  replace tF := tF.keeps (keeps_alloc w18 (.cells #[.int .i64 d1, .int .i64 d2] 31))
  replace xM := xM.keeps (keeps_alloc w18 (.cells #[.int .i64 d1, .int .i64 d2] 31))
  replace uM := uM.keeps (keeps_alloc w18 (.cells #[.int .i64 d1, .int .i64 d2] 31))
  replace hF := hF.keeps (keeps_alloc w18 (.cells #[.int .i64 d1, .int .i64 d2] 31))
  replace kw := Keeps.trans kw (keeps_alloc w18 (.cells #[.int .i64 d1, .int .i64 d2] 31))
  have b15 : Bx (w18.alloc (.cells #[.int .i64 d1, .int .i64 d2] 31)) w18.heap.size d1 d2 := Bx.new' (by simp)
  obtain ⟨ca21, fa21⟩ := id b11
  obtain ⟨ca22, cb22, fa22, fb22⟩ := id b14
  go_wp2_with fail
  clear ca21 fa21 ca22 cb22 fa22 fb22
  refine (specDeltaOf_any hF wi wk i14).mono ?_
  rintro e w23 ⟨rfl, k23⟩
  rw [HD.out]
  replace b5 := b5.keeps k23
  replace b6 := b6.keeps k23
  replace b7 := b7.keeps k23
  replace b9 := b9.keeps k23
  replace b11 := b11.keeps k23
  replace b14 := b14.keeps k23
  replace b15 := b15.keeps k23
  replace mF := mF.keeps k23
  replace tF := tF.keeps k23
  replace xM := xM.keeps k23
  replace uM := uM.keeps k23
  replace hF := hF.keeps k23
  replace kw := Keeps.trans kw k23
  have lt24 := b15.lt
  have sz25 := kw.size
  clear k23
  replace b5 := b5.keeps (keeps_alloc w23 (.cells #[.int .i64 d1, .int .i64 d2] 31))
  replace b6 := b6.keeps (keeps_alloc w23 (.cells #[.int .i64 d1, .int .i64 d2] 31))
  replace b7 := b7.keeps (keeps_alloc w23 (.cells #[.int .i64 d1, .int .i64 d2] 31))
  replace b9 := b9.keeps (keeps_alloc w23 (.cells #[.int .i64 d1, .int .i64 d2] 31))
  replace b11 := b11.keeps (keeps_alloc w23 (.cells #[.int .i64 d1, .int .i64 d2] 31))
  replace b14 := b14.keeps (keeps_alloc w23 (.cells #[.int .i64 d1, .int .i64 d2] 31))
  replace b15 := b15.keeps (keeps_alloc w23 (.cells #[.int .i64 d1, .int .i64 d2] 31))
  replace mF := mF.keeps (keeps_alloc w23 (.cells #[.int .i64 d1, .int .i64 d2] 31))
  replace tF := tF.keeps (keeps_alloc w23 (.cells #[.int .i64 d1, .int .i64 d2] 31))
  replace xM := xM.keeps (keeps_alloc w23 (.cells #[.int .i64 d1, .int .i64 d2] 31))
  replace uM := uM.keeps (keeps_alloc w23 (.cells #[.int .i64 d1, .int .i64 d2] 31))
  replace hF := hF.keeps (keeps_alloc w23 (.cells #[.int .i64 d1, .int .i64 d2] 31))
  replace kw := Keeps.trans kw (keeps_alloc w23 (.cells #[.int .i64 d1, .int .i64 d2] 31))
  have b17 : Bx (w23.alloc (.cells #[.int .i64 d1, .int .i64 d2] 31)) w23.heap.size d1 d2 := Bx.new' (by simp)
  have t1 : (ok != ok) = false := by simp
  have t2 : (one != one) = false := by simp
  obtain ⟨ca26, fa26⟩ := id b7
  obtain ⟨ca27, fa27⟩ := id b9
  go_wp2_with fail
  clear ca26 fa26 ca27 fa27
  refine (qMechanism_true xM.rows uM.rows).mono ?_
  rintro e w28 ⟨rfl, k28⟩
  replace b5 := b5.keeps k28
  replace b6 := b6.keeps k28
  replace b7 := b7.keeps k28
  replace b9 := b9.keeps k28
  replace b11 := b11.keeps k28
  replace b14 := b14.keeps k28
  replace b15 := b15.keeps k28
  replace b17 := b17.keeps k28
  replace mF := mF.keeps k28
  replace tF := tF.keeps k28
  replace xM := xM.keeps k28
  replace uM := uM.keeps k28
  replace hF := hF.keeps k28
  replace kw := Keeps.trans kw k28
  have lt29 := b17.lt
  have sz30 := kw.size
  clear k28
  obtain ⟨ca31, cb31, fa31, fb31⟩ := id b15
  obtain ⟨ca32, cb32, fa32, fb32⟩ := id b17
  cases one
  · cases ok
    · go_wp2_with fail
      clear ca31 cb31 fa31 fb31 ca32 cb32 fa32 fb32
      go_ret
      exact ⟨rfl, kw⟩
    obtain ⟨a1, a2, is1, HA⟩ : ∃ x y z, Hid (nbQ mm = (x, y, z)) := ⟨_, _, _, rfl⟩
    obtain ⟨e1, e2, is2, HE⟩ : ∃ x y z, Hid (nbQ xx = (x, y, z)) := ⟨_, _, _, rfl⟩
    have HM := hid (pp_mech HP.out)
    obtain ⟨ca33, fa33⟩ := id b5
    go_wp2_with fail
    clear ca31 cb31 fa31 fb31 ca32 cb32 fa32 fb32 ca33 fa33
    refine (implNeighbourRatio_any mF).mono ?_
    rintro e w34 ⟨rfl, k34⟩
    rw [HA.out]
    replace b5 := b5.keeps k34
    replace b6 := b6.keeps k34
    replace b7 := b7.keeps k34
    replace b9 := b9.keeps k34
    replace b11 := b11.keeps k34
    replace b14 := b14.keeps k34
    replace b15 := b15.keeps k34
    replace b17 := b17.keeps k34
    replace mF := mF.keeps k34
    replace tF := tF.keeps k34
    replace xM := xM.keeps k34
    replace uM := uM.keeps k34
    replace hF := hF.keeps k34
    replace kw := Keeps.trans kw k34
    have lt35 := b17.lt
    have sz36 := kw.size
    clear k34
    replace b5 := b5.keeps (keeps_alloc w34 (.cells #[.int .i64 a1, .int .i64 a2] 31))
    replace b6 := b6.keeps (keeps_alloc w34 (.cells #[.int .i64 a1, .int .i64 a2] 31))
    replace b7 := b7.keeps (keeps_alloc w34 (.cells #[.int .i64 a1, .int .i64 a2] 31))
    replace b9 := b9.keeps (keeps_alloc w34 (.cells #[.int .i64 a1, .int .i64 a2] 31))
    replace b11 := b11.keeps (keeps_alloc w34 (.cells #[.int .i64 a1, .int .i64 a2] 31))
    replace b14 := b14.keeps (keeps_alloc w34 (.cells #[.int .i64 a1, .int .i64 a2] 31))
    replace b15 := b15.keeps (keeps_alloc w34 (.cells #[.int .i64 a1, .int .i64 a2] 31))
    replace b17 := b17.keeps (keeps_alloc w34 (.cells #[.int .i64 a1, .int .i64 a2] 31))
    replace mF := mF.keeps (keeps_alloc w34 (.cells #[.int .i64 a1, .int .i64 a2] 31))
    replace tF := tF.keeps (keeps_alloc w34 (.cells #[.int .i64 a1, .int .i64 a2] 31))
    replace xM := xM.keeps (keeps_alloc w34 (.cells #[.int .i64 a1, .int .i64 a2] 31))
    replace uM := uM.keeps (keeps_alloc w34 (.cells #[.int .i64 a1, .int .i64 a2] 31))
    replace hF := hF.keeps (keeps_alloc w34 (.cells #[.int .i64 a1, .int .i64 a2] 31))
    replace kw := Keeps.trans kw (keeps_alloc w34 (.cells #[.int .i64 a1, .int .i64 a2] 31))
    have b23 : Bx (w34.alloc (.cells #[.int .i64 a1, .int .i64 a2] 31)) w34.heap.size a1 a2 := Bx.new' (by simp)
    obtain ⟨ca37, fa37⟩ := id b7
    go_wp2_with fail
    clear ca37 fa37
    refine (implNeighbourRatio_any xM.rows).mono ?_
    rintro e w38 ⟨rfl, k38⟩
    rw [HE.out]
    replace b5 := b5.keeps k38
    replace b6 := b6.keeps k38
    replace b7 := b7.keeps k38
    replace b9 := b9.keeps k38
    replace b11 := b11.keeps k38
    replace b14 := b14.keeps k38
    replace b15 := b15.keeps k38
    replace b17 := b17.keeps k38
    replace b23 := b23.keeps k38
    replace mF := mF.keeps k38
    replace tF := tF.keeps k38
    replace xM := xM.keeps k38
    replace uM := uM.keeps k38
    replace hF := hF.keeps k38
    replace kw := Keeps.trans kw k38
    have lt39 := b23.lt
    have sz40 := kw.size
    clear k38
    replace b5 := b5.keeps (keeps_alloc w38 (.cells #[.int .i64 e1, .int .i64 e2] 31))
    replace b6 := b6.keeps (keeps_alloc w38 (.cells #[.int .i64 e1, .int .i64 e2] 31))
    replace b7 := b7.keeps (keeps_alloc w38 (.cells #[.int .i64 e1, .int .i64 e2] 31))
    replace b9 := b9.keeps (keeps_alloc w38 (.cells #[.int .i64 e1, .int .i64 e2] 31))
    replace b11 := b11.keeps (keeps_alloc w38 (.cells #[.int .i64 e1, .int .i64 e2] 31))
    replace b14 := b14.keeps (keeps_alloc w38 (.cells #[.int .i64 e1, .int .i64 e2] 31))
    replace b15 := b15.keeps (keeps_alloc w38 (.cells #[.int .i64 e1, .int .i64 e2] 31))
    replace b17 := b17.keeps (keeps_alloc w38 (.cells #[.int .i64 e1, .int .i64 e2] 31))
    replace b23 := b23.keeps (keeps_alloc w38 (.cells #[.int .i64 e1, .int .i64 e2] 31))
    replace mF := mF.keeps (keeps_alloc w38 (.cells #[.int .i64 e1, .int .i64 e2] 31))
    replace tF := tF.keeps (keeps_alloc w38 (.cells #[.int .i64 e1, .int .i64 e2] 31))
    replace xM := xM.keeps (keeps_alloc w38 (.cells #[.int .i64 e1, .int .i64 e2] 31))
    replace uM := uM.keeps (keeps_alloc w38 (.cells #[.int .i64 e1, .int .i64 e2] 31))
    replace hF := hF.keeps (keeps_alloc w38 (.cells #[.int .i64 e1, .int .i64 e2] 31))
    replace kw := Keeps.trans kw (keeps_alloc w38 (.cells #[.int .i64 e1, .int .i64 e2] 31))
    have b25 : Bx (w38.alloc (.cells #[.int .i64 e1, .int .i64 e2] 31)) w38.heap.size e1 e2 := Bx.new' (by simp)
    obtain ⟨ca41, fa41⟩ := id b7
    go_wp2_with fail
    clear ca41 fa41
    refine (IsMechanism_any xM.rows).mono ?_
    rintro e w42 ⟨rfl, k42⟩
    rw [HM.out]
    replace b5 := b5.keeps k42
    replace b6 := b6.keeps k42
    replace b7 := b7.keeps k42
    replace b9 := b9.keeps k42
    replace b11 := b11.keeps k42
    replace b14 := b14.keeps k42
    replace b15 := b15.keeps k42
    replace b17 := b17.keeps k42
    replace b23 := b23.keeps k42
    replace b25 := b25.keeps k42
    replace mF := mF.keeps k42
    replace tF := tF.keeps k42
    replace xM := xM.keeps k42
    replace uM := uM.keeps k42
    replace hF := hF.keeps k42
    replace kw := Keeps.trans kw k42
    have lt43 := b25.lt
    have sz44 := kw.size
    clear k42
    cases is1
    · go_wp2_with fail
      go_ret
      exact ⟨rfl, kw⟩
    cases is2
    · go_wp2_with fail
      go_ret
      exact ⟨rfl, kw⟩
    have HC := hid (cfQ_yes (nbQ_frac HE.out) (nbQ_frac HA.out))
    have hle := pp_ratio HP.out HA.out HE.out
    obtain ⟨o2, HO2⟩ : ∃ o, Hid (cmpQ e1 e2 a1 a2 = o) := ⟨_, rfl⟩
    rw [HO2.out] at hle HC
    obtain ⟨ca45, cb45, fa45, fb45⟩ := id b23
    obtain ⟨ca46, cb46, fa46, fb46⟩ := id b25
    go_wp2_with fail
    clear ca45 cb45 fa45 fb45 ca46 cb46 fa46 fb46
    refine (CompareFrac_any).mono ?_
    rintro e w47 ⟨rfl, k47⟩
    rw [HC.out]
    replace b5 := b5.keeps k47
    replace b6 := b6.keeps k47
    replace b7 := b7.keeps k47
    replace b9 := b9.keeps k47
    replace b11 := b11.keeps k47
    replace b14 := b14.keeps k47
    replace b15 := b15.keeps k47
    replace b17 := b17.keeps k47
    replace b23 := b23.keeps k47
    replace b25 := b25.keeps k47
    replace mF := mF.keeps k47
    replace tF := tF.keeps k47
    replace xM := xM.keeps k47
    replace uM := uM.keeps k47
    replace hF := hF.keeps k47
    replace kw := Keeps.trans kw k47
    have lt48 := b25.lt
    have sz49 := kw.size
    clear k47
    go_wp2_with fail
    go_ret
    exact ⟨rfl, kw⟩
  obtain ⟨r1, r2, is, HR⟩ : ∃ x y z, Hid (rowRatioQ hh i k = (x, y, z)) := ⟨_, _, _, rfl⟩
  obtain ⟨ca33, fa33⟩ := id b11
  go_wp2_with fail
  clear ca31 cb31 fa31 fb31 ca32 cb32 fa32 fb32 ca33 fa33
  refine (implRowRatio_any hF wi wk).mono ?_
  rintro e w34 ⟨rfl, k34⟩
  rw [HR.out]
  replace b5 := b5.keeps k34
  replace b6 := b6.keeps k34
  replace b7 := b7.keeps k34
  replace b9 := b9.keeps k34
  replace b11 := b11.keeps k34
  replace b14 := b14.keeps k34
  replace b15 := b15.keeps k34
  replace b17 := b17.keeps k34
  replace mF := mF.keeps k34
  replace tF := tF.keeps k34
  replace xM := xM.keeps k34
  replace uM := uM.keeps k34
  replace hF := hF.keeps k34
  replace kw := Keeps.trans kw k34
  have lt35 := b17.lt
  have sz36 := kw.size
  clear k34
  replace b5 := b5.keeps (keeps_alloc w34 (.cells #[.int .i64 r1, .int .i64 r2] 31))
  replace b6 := b6.keeps (keeps_alloc w34 (.cells #[.int .i64 r1, .int .i64 r2] 31))
  replace b7 := b7.keeps (keeps_alloc w34 (.cells #[.int .i64 r1, .int .i64 r2] 31))
  replace b9 := b9.keeps (keeps_alloc w34 (.cells #[.int .i64 r1, .int .i64 r2] 31))
  replace b11 := b11.keeps (keeps_alloc w34 (.cells #[.int .i64 r1, .int .i64 r2] 31))
  replace b14 := b14.keeps (keeps_alloc w34 (.cells #[.int .i64 r1, .int .i64 r2] 31))
  replace b15 := b15.keeps (keeps_alloc w34 (.cells #[.int .i64 r1, .int .i64 r2] 31))
  replace b17 := b17.keeps (keeps_alloc w34 (.cells #[.int .i64 r1, .int .i64 r2] 31))
  replace mF := mF.keeps (keeps_alloc w34 (.cells #[.int .i64 r1, .int .i64 r2] 31))
  replace tF := tF.keeps (keeps_alloc w34 (.cells #[.int .i64 r1, .int .i64 r2] 31))
  replace xM := xM.keeps (keeps_alloc w34 (.cells #[.int .i64 r1, .int .i64 r2] 31))
  replace uM := uM.keeps (keeps_alloc w34 (.cells #[.int .i64 r1, .int .i64 r2] 31))
  replace hF := hF.keeps (keeps_alloc w34 (.cells #[.int .i64 r1, .int .i64 r2] 31))
  replace kw := Keeps.trans kw (keeps_alloc w34 (.cells #[.int .i64 r1, .int .i64 r2] 31))
  have b19 : Bx (w34.alloc (.cells #[.int .i64 r1, .int .i64 r2] 31)) w34.heap.size r1 r2 := Bx.new' (by simp)
  cases is
  · cases ok
    · go_wp2_with fail
      go_ret
      exact ⟨rfl, kw⟩
    obtain ⟨a1, a2, is1, HA⟩ : ∃ x y z, Hid (nbQ mm = (x, y, z)) := ⟨_, _, _, rfl⟩
    obtain ⟨e1, e2, is2, HE⟩ : ∃ x y z, Hid (nbQ xx = (x, y, z)) := ⟨_, _, _, rfl⟩
    have HM := hid (pp_mech HP.out)
    obtain ⟨ca37, fa37⟩ := id b5
    go_wp2_with fail
    clear ca37 fa37
    refine (implNeighbourRatio_any mF).mono ?_
    rintro e w38 ⟨rfl, k38⟩
    rw [HA.out]
    replace b5 := b5.keeps k38
    replace b6 := b6.keeps k38
    replace b7 := b7.keeps k38
    replace b9 := b9.keeps k38
    replace b11 := b11.keeps k38
    replace b14 := b14.keeps k38
    replace b15 := b15.keeps k38
    replace b17 := b17.keeps k38
    replace b19 := b19.keeps k38
    replace mF := mF.keeps k38
    replace tF := tF.keeps k38
    replace xM := xM.keeps k38
    replace uM := uM.keeps k38
    replace hF := hF.keeps k38
    replace kw := Keeps.trans kw k38
    have lt39 := b19.lt
    have sz40 := kw.size
    clear k38
    replace b5 := b5.keeps (keeps_alloc w38 (.cells #[.int .i64 a1, .int .i64 a2] 31))
    replace b6 := b6.keeps (keeps_alloc w38 (.cells #[.int .i64 a1, .int .i64 a2] 31))
    replace b7 := b7.keeps (keeps_alloc w38 (.cells #[.int .i64 a1, .int .i64 a2] 31))
    replace b9 := b9.keeps (keeps_alloc w38 (.cells #[.int .i64 a1, .int .i64 a2] 31))
    replace b11 := b11.keeps (keeps_alloc w38 (.cells #[.int .i64 a1, .int .i64 a2] 31))
    replace b14 := b14.keeps (keeps_alloc w38 (.cells #[.int .i64 a1, .int .i64 a2] 31))
    replace b15 := b15.keeps (keeps_alloc w38 (.cells #[.int .i64 a1, .int .i64 a2] 31))
    replace b17 := b17.keeps (keeps_alloc w38 (.cells #[.int .i64 a1, .int .i64 a2] 31))
    replace b19 := b19.keeps (keeps_alloc w38 (.cells #[.int .i64 a1, .int .i64 a2] 31))
    replace mF := mF.keeps (keeps_alloc w38 (.cells #[.int .i64 a1, .int .i64 a2] 31))
    replace tF := tF.keeps (keeps_alloc w38 (.cells #[.int .i64 a1, .int .i64 a2] 31))
    replace xM := xM.keeps (keeps_alloc w38 (.cells #[.int .i64 a1, .int .i64 a2] 31))
    replace uM := uM.keeps (keeps_alloc w38 (.cells #[.int .i64 a1, .int .i64 a2] 31))
    replace hF := hF.keeps (keeps_alloc w38 (.cells #[.int .i64 a1, .int .i64 a2] 31))
    replace kw := Keeps.trans kw (keeps_alloc w38 (.cells #[.int .i64 a1, .int .i64 a2] 31))
    have b23 : Bx (w38.alloc (.cells #[.int .i64 a1, .int .i64 a2] 31)) w38.heap.size a1 a2 := Bx.new' (by simp)
    obtain ⟨ca41, fa41⟩ := id b7
    go_wp2_with fail
    clear ca41 fa41
    refine (implNeighbourRatio_any xM.rows).mono ?_
    rintro e w42 ⟨rfl, k42⟩
    rw [HE.out]
    replace b5 := b5.keeps k42
    replace b6 := b6.keeps k42
    replace b7 := b7.keeps k42
    replace b9 := b9.keeps k42
    replace b11 := b11.keeps k42
    replace b14 := b14.keeps k42
    replace b15 := b15.keeps k42
    replace b17 := b17.keeps k42
    replace b19 := b19.keeps k42
    replace b23 := b23.keeps k42
    replace mF := mF.keeps k42
    replace tF := tF.keeps k42
    replace xM := xM.keeps k42
    replace uM := uM.keeps k42
    replace hF := hF.keeps k42
    replace kw := Keeps.trans kw k42
    have lt43 := b23.lt
    have sz44 := kw.size
    clear k42
    replace b5 := b5.keeps (keeps_alloc w42 (.cells #[.int .i64 e1, .int .i64 e2] 31))
    replace b6 := b6.keeps (keeps_alloc w42 (.cells #[.int .i64 e1, .int .i64 e2] 31))
    replace b7 := b7.keeps (keeps_alloc w42 (.cells #[.int .i64 e1, .int .i64 e2] 31))
    replace b9 := b9.keeps (keeps_alloc w42 (.cells #[.int .i64 e1, .int .i64 e2] 31))
    replace b11 := b11.keeps (keeps_alloc w42 (.cells #[.int .i64 e1, .int .i64 e2] 31))
    replace b14 := b14.keeps (keeps_alloc w42 (.cells #[.int .i64 e1, .int .i64 e2] 31))
    replace b15 := b15.keeps (keeps_alloc w42 (.cells #[.int .i64 e1, .int .i64 e2] 31))
    replace b17 := b17.keeps (keeps_alloc w42 (.cells #[.int .i64 e1, .int .i64 e2] 31))
    replace b19 := b19.keeps (keeps_alloc w42 (.cells #[.int .i64 e1, .int .i64 e2] 31))
    replace b23 := b23.keeps (keeps_alloc w42 (.cells #[.int .i64 e1, .int .i64 e2] 31))
    replace mF := mF.keeps (keeps_alloc w42 (.cells #[.int .i64 e1, .int .i64 e2] 31))
    replace tF := tF.keeps (keeps_alloc w42 (.cells #[.int .i64 e1, .int .i64 e2] 31))
    replace xM := xM.keeps (keeps_alloc w42 (.cells #[.int .i64 e1, .int .i64 e2] 31))
    replace uM := uM.keeps (keeps_alloc w42 (.cells #[.int .i64 e1, .int .i64 e2] 31))
    replace hF := hF.keeps (keeps_alloc w42 (.cells #[.int .i64 e1, .int .i64 e2] 31))
    replace kw := Keeps.trans kw (keeps_alloc w42 (.cells #[.int .i64 e1, .int .i64 e2] 31))
    have b25 : Bx (w42.alloc (.cells #[.int .i64 e1, .int .i64 e2] 31)) w42.heap.size e1 e2 := Bx.new' (by simp)
    obtain ⟨ca45, fa45⟩ := id b7
    go_wp2_with fail
    clear ca45 fa45
    refine (IsMechanism_any xM.rows).mono ?_
    rintro e w46 ⟨rfl, k46⟩
    rw [HM.out]
    replace b5 := b5.keeps k46
    replace b6 := b6.keeps k46
    replace b7 := b7.keeps k46
    replace b9 := b9.keeps k46
    replace b11 := b11.keeps k46
    replace b14 := b14.keeps k46
    replace b15 := b15.keeps k46
    replace b17 := b17.keeps k46
    replace b19 := b19.keeps k46
    replace b23 := b23.keeps k46
    replace b25 := b25.keeps k46
    replace mF := mF.keeps k46
    replace tF := tF.keeps k46
    replace xM := xM.keeps k46
    replace uM := uM.keeps k46
    replace hF := hF.keeps k46
    replace kw := Keeps.trans kw k46
    have lt47 := b25.lt
    have sz48 := kw.size
    clear k46
    cases is1
    · go_wp2_with fail
      go_ret
      exact ⟨rfl, kw⟩
    cases is2
    · go_wp2_with fail
      go_ret
      exact ⟨rfl, kw⟩
    have HC := hid (cfQ_yes (nbQ_frac HE.out) (nbQ_frac HA.out))
    have hle := pp_ratio HP.out HA.out HE.out
    obtain ⟨o2, HO2⟩ : ∃ o, Hid (cmpQ e1 e2 a1 a2 = o) := ⟨_, rfl⟩
    rw [HO2.out] at hle HC
    obtain ⟨ca49, cb49, fa49, fb49⟩ := id b23
    obtain ⟨ca50, cb50, fa50, fb50⟩ := id b25
    go_wp2_with fail
    clear ca49 cb49 fa49 fb49 ca50 cb50 fa50 fb50
    refine (CompareFrac_any).mono ?_
    rintro e w51 ⟨rfl, k51⟩
    rw [HC.out]
    replace b5 := b5.keeps k51
    replace b6 := b6.keeps k51
    replace b7 := b7.keeps k51
    replace b9 := b9.keeps k51
    replace b11 := b11.keeps k51
    replace b14 := b14.keeps k51
    replace b15 := b15.keeps k51
    replace b17 := b17.keeps k51
    replace b19 := b19.keeps k51
    replace b23 := b23.keeps k51
    replace b25 := b25.keeps k51
    replace mF := mF.keeps k51
    replace tF := tF.keeps k51
    replace xM := xM.keeps k51
    replace uM := uM.keeps k51
    replace hF := hF.keeps k51
    replace kw := Keeps.trans kw k51
    have lt52 := b25.lt
    have sz53 := kw.size
    clear k51
    go_wp2_with fail
    go_ret
    exact ⟨rfl, kw⟩
  have HC1 := hid (cfQ_yes (deltaQ_frac HD.out) (rowRatioQ_frac HR.out))
  obtain ⟨o, HO⟩ : ∃ o, Hid (cmpQ p q r1 r2 = o) := ⟨_, rfl⟩
  have HZ := hid (show 0 ≤ o → d1 = 0 from fun h => delta_zero HD.out HR.out (by rw [HO.out]; exact h))
  rw [HO.out] at HC1
  obtain ⟨ca37, cb37, fa37, fb37⟩ := id b14
  obtain ⟨ca38, cb38, fa38, fb38⟩ := id b19
  go_wp2_with fail
  clear ca37 cb37 fa37 fb37 ca38 cb38 fa38 fb38
  refine (CompareFrac_any).mono ?_
  rintro e w39 ⟨rfl, k39⟩
  rw [HC1.out]
  replace b5 := b5.keeps k39
  replace b6 := b6.keeps k39
  replace b7 := b7.keeps k39
  replace b9 := b9.keeps k39
  replace b11 := b11.keeps k39
  replace b14 := b14.keeps k39
  replace b15 := b15.keeps k39
  replace b17 := b17.keeps k39
  replace b19 := b19.keeps k39
  replace mF := mF.keeps k39
  replace tF := tF.keeps k39
  replace xM := xM.keeps k39
  replace uM := uM.keeps k39
  replace hF := hF.keeps k39
  replace kw := Keeps.trans kw k39
  have lt40 := b19.lt
  have sz41 := kw.size
  clear k39
  by_cases ho : 0 ≤ o
  · have hd := HZ.out ho
    have t3 : (d1 != 0) = false := by simp [hd]
    clear hd
    obtain ⟨ca42, cb42, fa42, fb42⟩ := id b15
    cases ok
    · go_wp2_with fail
      clear ca42 cb42 fa42 fb42
      go_ret
      exact ⟨rfl, kw⟩
    obtain ⟨a1, a2, is1, HA⟩ : ∃ x y z, Hid (nbQ mm = (x, y, z)) := ⟨_, _, _, rfl⟩
    obtain ⟨e1, e2, is2, HE⟩ : ∃ x y z, Hid (nbQ xx = (x, y, z)) := ⟨_, _, _, rfl⟩
    have HM := hid (pp_mech HP.out)
    obtain ⟨ca43, fa43⟩ := id b5
    go_wp2_with fail
    clear ca42 cb42 fa42 fb42 ca43 fa43
    refine (implNeighbourRatio_any mF).mono ?_
    rintro e w44 ⟨rfl, k44⟩
    rw [HA.out]
    replace b5 := b5.keeps k44
    replace b6 := b6.keeps k44
    replace b7 := b7.keeps k44
    replace b9 := b9.keeps k44
    replace b11 := b11.keeps k44
    replace b14 := b14.keeps k44
    replace b15 := b15.keeps k44
    replace b17 := b17.keeps k44
    replace b19 := b19.keeps k44
    replace mF := mF.keeps k44
    replace tF := tF.keeps k44
    replace xM := xM.keeps k44
    replace uM := uM.keeps k44
    replace hF := hF.keeps k44
    replace kw := Keeps.trans kw k44
    have lt45 := b19.lt
    have sz46 := kw.size
    clear k44
    replace b5 := b5.keeps (keeps_alloc w44 (.cells #[.int .i64 a1, .int .i64 a2] 31))
    replace b6 := b6.keeps (keeps_alloc w44 (.cells #[.int .i64 a1, .int .i64 a2] 31))
    replace b7 := b7.keeps (keeps_alloc w44 (.cells #[.int .i64 a1, .int .i64 a2] 31))
    replace b9 := b9.keeps (keeps_alloc w44 (.cells #[.int .i64 a1, .int .i64 a2] 31))
    replace b11 := b11.keeps (keeps_alloc w44 (.cells #[.int .i64 a1, .int .i64 a2] 31))
    replace b14 := b14.keeps (keeps_alloc w44 (.cells #[.int .i64 a1, .int .i64 a2] 31))
    replace b15 := b15.keeps (keeps_alloc w44 (.cells #[.int .i64 a1, .int .i64 a2] 31))
    replace b17 := b17.keeps (keeps_alloc w44 (.cells #[.int .i64 a1, .int .i64 a2] 31))
    replace b19 := b19.keeps (keeps_alloc w44 (.cells #[.int .i64 a1, .int .i64 a2] 31))
    replace mF := mF.keeps (keeps_alloc w44 (.cells #[.int .i64 a1, .int .i64 a2] 31))
    replace tF := tF.keeps (keeps_alloc w44 (.cells #[.int .i64 a1, .int .i64 a2] 31))
    replace xM := xM.keeps (keeps_alloc w44 (.cells #[.int .i64 a1, .int .i64 a2] 31))
    replace uM := uM.keeps (keeps_alloc w44 (.cells #[.int .i64 a1, .int .i64 a2] 31))
    replace hF := hF.keeps (keeps_alloc w44 (.cells #[.int .i64 a1, .int .i64 a2] 31))
    replace kw := Keeps.trans kw (keeps_alloc w44 (.cells #[.int .i64 a1, .int .i64 a2] 31))
    have b23 : Bx (w44.alloc (.cells #[.int .i64 a1, .int .i64 a2] 31)) w44.heap.size a1 a2 := Bx.new' (by simp)
    obtain ⟨ca47, fa47⟩ := id b7
    go_wp2_with fail
    clear ca47 fa47
    refine (implNeighbourRatio_any xM.rows).mono ?_
    rintro e w48 ⟨rfl, k48⟩
    rw [HE.out]
    replace b5 := b5.keeps k48
    replace b6 := b6.keeps k48
    replace b7 := b7.keeps k48
    replace b9 := b9.keeps k48
    replace b11 := b11.keeps k48
    replace b14 := b14.keeps k48
    replace b15 := b15.keeps k48
    replace b17 := b17.keeps k48
    replace b19 := b19.keeps k48
    replace b23 := b23.keeps k48
    replace mF := mF.keeps k48
    replace tF := tF.keeps k48
    replace xM := xM.keeps k48
    replace uM := uM.keeps k48
    replace hF := hF.keeps k48
    replace kw := Keeps.trans kw k48
    have lt49 := b23.lt
    have sz50 := kw.size
    clear k48
    replace b5 := b5.keeps (keeps_alloc w48 (.cells #[.int .i64 e1, .int .i64 e2] 31))
    replace b6 := b6.keeps (keeps_alloc w48 (.cells #[.int .i64 e1, .int .i64 e2] 31))
    replace b7 := b7.keeps (keeps_alloc w48 (.cells #[.int .i64 e1, .int .i64 e2] 31))
    replace b9 := b9.keeps (keeps_alloc w48 (.cells #[.int .i64 e1, .int .i64 e2] 31))
    replace b11 := b11.keeps (keeps_alloc w48 (.cells #[.int .i64 e1, .int .i64 e2] 31))
    replace b14 := b14.keeps (keeps_alloc w48 (.cells #[.int .i64 e1, .int .i64 e2] 31))
    replace b15 := b15.keeps (keeps_alloc w48 (.cells #[.int .i64 e1, .int .i64 e2] 31))
    replace b17 := b17.keeps (keeps_alloc w48 (.cells #[.int .i64 e1, .int .i64 e2] 31))
    replace b19 := b19.keeps (keeps_alloc w48 (.cells #[.int .i64 e1, .int .i64 e2] 31))
    replace b23 := b23.keeps (keeps_alloc w48 (.cells #[.int .i64 e1, .int .i64 e2] 31))
    replace mF := mF.keeps (keeps_alloc w48 (.cells #[.int .i64 e1, .int .i64 e2] 31))
    replace tF := tF.keeps (keeps_alloc w48 (.cells #[.int .i64 e1, .int .i64 e2] 31))
    replace xM := xM.keeps (keeps_alloc w48 (.cells #[.int .i64 e1, .int .i64 e2] 31))
    replace uM := uM.keeps (keeps_alloc w48 (.cells #[.int .i64 e1, .int .i64 e2] 31))
    replace hF := hF.keeps (keeps_alloc w48 (.cells #[.int .i64 e1, .int .i64 e2] 31))
    replace kw := Keeps.trans kw (keeps_alloc w48 (.cells #[.int .i64 e1, .int .i64 e2] 31))
    have b25 : Bx (w48.alloc (.cells #[.int .i64 e1, .int .i64 e2] 31)) w48.heap.size e1 e2 := Bx.new' (by simp)
    obtain ⟨ca51, fa51⟩ := id b7
    go_wp2_with fail
    clear ca51 fa51
    refine (IsMechanism_any xM.rows).mono ?_
    rintro e w52 ⟨rfl, k52⟩
    rw [HM.out]
    replace b5 := b5.keeps k52
    replace b6 := b6.keeps k52
    replace b7 := b7.keeps k52
    replace b9 := b9.keeps k52
    replace b11 := b11.keeps k52
    replace b14 := b14.keeps k52
    replace b15 := b15.keeps k52
    replace b17 := b17.keeps k52
    replace b19 := b19.keeps k52
    replace b23 := b23.keeps k52
    replace b25 := b25.keeps k52
    replace mF := mF.keeps k52
    replace tF := tF.keeps k52
    replace xM := xM.keeps k52
    replace uM := uM.keeps k52
    replace hF := hF.keeps k52
    replace kw := Keeps.trans kw k52
    have lt53 := b25.lt
    have sz54 := kw.size
    clear k52
    cases is1
    · go_wp2_with fail
      go_ret
      exact ⟨rfl, kw⟩
    cases is2
    · go_wp2_with fail
      go_ret
      exact ⟨rfl, kw⟩
    have HC := hid (cfQ_yes (nbQ_frac HE.out) (nbQ_frac HA.out))
    have hle := pp_ratio HP.out HA.out HE.out
    obtain ⟨o2, HO2⟩ : ∃ o, Hid (cmpQ e1 e2 a1 a2 = o) := ⟨_, rfl⟩
    rw [HO2.out] at hle HC
    obtain ⟨ca55, cb55, fa55, fb55⟩ := id b23
    obtain ⟨ca56, cb56, fa56, fb56⟩ := id b25
    go_wp2_with fail
    clear ca55 cb55 fa55 fb55 ca56 cb56 fa56 fb56
    refine (CompareFrac_any).mono ?_
    rintro e w57 ⟨rfl, k57⟩
    rw [HC.out]
    replace b5 := b5.keeps k57
    replace b6 := b6.keeps k57
    replace b7 := b7.keeps k57
    replace b9 := b9.keeps k57
    replace b11 := b11.keeps k57
    replace b14 := b14.keeps k57
    replace b15 := b15.keeps k57
    replace b17 := b17.keeps k57
    replace b19 := b19.keeps k57
    replace b23 := b23.keeps k57
    replace b25 := b25.keeps k57
    replace mF := mF.keeps k57
    replace tF := tF.keeps k57
    replace xM := xM.keeps k57
    replace uM := uM.keeps k57
    replace hF := hF.keeps k57
    replace kw := Keeps.trans kw k57
    have lt58 := b25.lt
    have sz59 := kw.size
    clear k57
    go_wp2_with fail
    go_ret
    exact ⟨rfl, kw⟩
  cases ok
  · go_wp2_with fail
    go_ret
    exact ⟨rfl, kw⟩
  obtain ⟨a1, a2, is1, HA⟩ : ∃ x y z, Hid (nbQ mm = (x, y, z)) := ⟨_, _, _, rfl⟩
  obtain ⟨e1, e2, is2, HE⟩ : ∃ x y z, Hid (nbQ xx = (x, y, z)) := ⟨_, _, _, rfl⟩
  have HM := hid (pp_mech HP.out)
  obtain ⟨ca42, fa42⟩ := id b5
  go_wp2_with fail
  clear ca42 fa42
  refine (implNeighbourRatio_any mF).mono ?_
  rintro e w43 ⟨rfl, k43⟩
  rw [HA.out]
  replace b5 := b5.keeps k43
  replace b6 := b6.keeps k43
  replace b7 := b7.keeps k43
  replace b9 := b9.keeps k43
  replace b11 := b11.keeps k43
  replace b14 := b14.keeps k43
  replace b15 := b15.keeps k43
  replace b17 := b17.keeps k43
  replace b19 := b19.keeps k43
  replace mF := mF.keeps k43
  replace tF := tF.keeps k43
  replace xM := xM.keeps k43
  replace uM := uM.keeps k43
  replace hF := hF.keeps k43
  replace kw := Keeps.trans kw k43
  have lt44 := b19.lt
  have sz45 := kw.size
  clear k43
  replace b5 := b5.keeps (keeps_alloc w43 (.cells #[.int .i64 a1, .int .i64 a2] 31))
  replace b6 := b6.keeps (keeps_alloc w43 (.cells #[.int .i64 a1, .int .i64 a2] 31))
  replace b7 := b7.keeps (keeps_alloc w43 (.cells #[.int .i64 a1, .int .i64 a2] 31))
  replace b9 := b9.keeps (keeps_alloc w43 (.cells #[.int .i64 a1, .int .i64 a2] 31))
  replace b11 := b11.keeps (keeps_alloc w43 (.cells #[.int .i64 a1, .int .i64 a2] 31))
  replace b14 := b14.keeps (keeps_alloc w43 (.cells #[.int .i64 a1, .int .i64 a2] 31))
  replace b15 := b15.keeps (keeps_alloc w43 (.cells #[.int .i64 a1, .int .i64 a2] 31))
  replace b17 := b17.keeps (keeps_alloc w43 (.cells #[.int .i64 a1, .int .i64 a2] 31))
  replace b19 := b19.keeps (keeps_alloc w43 (.cells #[.int .i64 a1, .int .i64 a2] 31))
  replace mF := mF.keeps (keeps_alloc w43 (.cells #[.int .i64 a1, .int .i64 a2] 31))
  replace tF := tF.keeps (keeps_alloc w43 (.cells #[.int .i64 a1, .int .i64 a2] 31))
  replace xM := xM.keeps (keeps_alloc w43 (.cells #[.int .i64 a1, .int .i64 a2] 31))
  replace uM := uM.keeps (keeps_alloc w43 (.cells #[.int .i64 a1, .int .i64 a2] 31))
  replace hF := hF.keeps (keeps_alloc w43 (.cells #[.int .i64 a1, .int .i64 a2] 31))
  replace kw := Keeps.trans kw (keeps_alloc w43 (.cells #[.int .i64 a1, .int .i64 a2] 31))
  have b23 : Bx (w43.alloc (.cells #[.int .i64 a1, .int .i64 a2] 31)) w43.heap.size a1 a2 := Bx.new' (by simp)
  obtain ⟨ca46, fa46⟩ := id b7
  go_wp2_with fail
  clear ca46 fa46
  refine (implNeighbourRatio_any xM.rows).mono ?_
  rintro e w47 ⟨rfl, k47⟩
  rw [HE.out]
  replace b5 := b5.keeps k47
  replace b6 := b6.keeps k47
  replace b7 := b7.keeps k47
  replace b9 := b9.keeps k47
  replace b11 := b11.keeps k47
  replace b14 := b14.keeps k47
  replace b15 := b15.keeps k47
  replace b17 := b17.keeps k47
  replace b19 := b19.keeps k47
  replace b23 := b23.keeps k47
  replace mF := mF.keeps k47
  replace tF := tF.keeps k47
  replace xM := xM.keeps k47
  replace uM := uM.keeps k47
  replace hF := hF.keeps k47
  replace kw := Keeps.trans kw k47
  have lt48 := b23.lt
  have sz49 := kw.size
  clear k47
  replace b5 := b5.keeps (keeps_alloc w47 (.cells #[.int .i64 e1, .int .i64 e2] 31))
  replace b6 := b6.keeps (keeps_alloc w47 (.cells #[.int .i64 e1, .int .i64 e2] 31))
  replace b7 := b7.keeps (keeps_alloc w47 (.cells #[.int .i64 e1, .int .i64 e2] 31))
  replace b9 := b9.keeps (keeps_alloc w47 (.cells #[.int .i64 e1, .int .i64 e2] 31))
  replace b11 := b11.keeps (keeps_alloc w47 (.cells #[.int .i64 e1, .int .i64 e2] 31))
  replace b14 := b14.keeps (keeps_alloc w47 (.cells #[.int .i64 e1, .int .i64 e2] 31))
  replace b15 := b15.keeps (keeps_alloc w47 (.cells #[.int .i64 e1, .int .i64 e2] 31))
  replace b17 := b17.keeps (keeps_alloc w47 (.cells #[.int .i64 e1, .int .i64 e2] 31))
  replace b19 := b19.keeps (keeps_alloc w47 (.cells #[.int .i64 e1, .int .i64 e2] 31))
  replace b23 := b23.keeps (keeps_alloc w47 (.cells #[.int .i64 e1, .int .i64 e2] 31))
  replace mF := mF.keeps (keeps_alloc w47 (.cells #[.int .i64 e1, .int .i64 e2] 31))
  replace tF := tF.keeps (keeps_alloc w47 (.cells #[.int .i64 e1, .int .i64 e2] 31))
  replace xM := xM.keeps (keeps_alloc w47 (.cells #[.int .i64 e1, .int .i64 e2] 31))
  replace uM := uM.keeps (keeps_alloc w47 (.cells #[.int .i64 e1, .int .i64 e2] 31))
  replace hF := hF.keeps (keeps_alloc w47 (.cells #[.int .i64 e1, .int .i64 e2] 31))
  replace kw := Keeps.trans kw (keeps_alloc w47 (.cells #[.int .i64 e1, .int .i64 e2] 31))
  have b25 : Bx (w47.alloc (.cells #[.int .i64 e1, .int .i64 e2] 31)) w47.heap.size e1 e2 := Bx.new' (by simp)
  obtain ⟨ca50, fa50⟩ := id b7
  go_wp2_with fail
  clear ca50 fa50
  refine (IsMechanism_any xM.rows).mono ?_
  rintro e w51 ⟨rfl, k51⟩
  rw [HM.out]
  replace b5 := b5.keeps k51
  replace b6 := b6.keeps k51
  replace b7 := b7.keeps k51
  replace b9 := b9.keeps k51
  replace b11 := b11.keeps k51
  replace b14 := b14.keeps k51
  replace b15 := b15.keeps k51
  replace b17 := b17.keeps k51
  replace b19 := b19.keeps k51
  replace b23 := b23.keeps k51
  replace b25 := b25.keeps k51
  replace mF := mF.keeps k51
  replace tF := tF.keeps k51
  replace xM := xM.keeps k51
  replace uM := uM.keeps k51
  replace hF := hF.keeps k51
  replace kw := Keeps.trans kw k51
  have lt52 := b25.lt
  have sz53 := kw.size
  clear k51
  cases is1
  · go_wp2_with fail
    go_ret
    exact ⟨rfl, kw⟩
  cases is2
  · go_wp2_with fail
    go_ret
    exact ⟨rfl, kw⟩
  have HC := hid (cfQ_yes (nbQ_frac HE.out) (nbQ_frac HA.out))
  have hle := pp_ratio HP.out HA.out HE.out
  obtain ⟨o2, HO2⟩ : ∃ o, Hid (cmpQ e1 e2 a1 a2 = o) := ⟨_, rfl⟩
  rw [HO2.out] at hle HC
  obtain ⟨ca54, cb54, fa54, fb54⟩ := id b23
  obtain ⟨ca55, cb55, fa55, fb55⟩ := id b25
  go_wp2_with fail
  clear ca54 cb54 fa54 fb54 ca55 cb55 fa55 fb55
  refine (CompareFrac_any).mono ?_
  rintro e w56 ⟨rfl, k56⟩
  rw [HC.out]
  replace b5 := b5.keeps k56
  replace b6 := b6.keeps k56
  replace b7 := b7.keeps k56
  replace b9 := b9.keeps k56
  replace b11 := b11.keeps k56
  replace b14 := b14.keeps k56
  replace b15 := b15.keeps k56
  replace b17 := b17.keeps k56
  replace b19 := b19.keeps k56
  replace b23 := b23.keeps k56
  replace b25 := b25.keeps k56
  replace mF := mF.keeps k56
  replace tF := tF.keeps k56
  replace xM := xM.keeps k56
  replace uM := uM.keeps k56
  replace hF := hF.keeps k56
  replace kw := Keeps.trans kw k56
  have lt57 := b25.lt
  have sz58 := kw.size
  clear k56
  go_wp2_with fail
  go_ret
  exact ⟨rfl, kw⟩
end Go.Proofs.Ytnopedjgagoahaa
