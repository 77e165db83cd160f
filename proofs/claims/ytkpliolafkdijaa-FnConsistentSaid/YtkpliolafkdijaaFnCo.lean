/- The law FnConsistent: its walk. -/
import Derived.Test.YtkpliolafkdijaaDrawK
import Derived.Test.YtkpliolafkdijaaCsL
import Derived.Test.YtkpliolafkdijaaFnh
namespace Go.Proofs.Ytkpliolafkdijaa
open Go.RowKit
set_option linter.unusedVariables false
set_option linter.unusedSimpArgs false

theorem wf_z {t : Int} (h : -10000000 ≤ t ∧ t ≤ 10000000) : (Lit.int .i64 t).wf = true := by simp [Lit.wf, IntKind.min, IntKind.max, IntKind.signed, IntKind.bits]; omega
set_option maxRecDepth 100000 in
set_option maxHeartbeats 12800000 in
theorem FnConsistent_law (A0 : Option Addr) (n0 c0 : Nat) (A1 : Option Addr) (n1 c1 : Nat) (w : World) (wa0 : BytesArg w A0 n0) (wa1 : BytesArg w A1 n1) :
    Calls Try.prog 11 #[.slice A0 n0 c0, .slice A1 n1 c1] w fun e w' => e = .returned (.bool true) ∧ Below w.heap.size w w' := by
  have B0 := wa0
  have B1_ := wa1
  have m0 := wa0.1
  have m1 := wa1.1
  go_enter Try.func11, Try.ntmps11
  go_wp2_with fail
  refine (big_any m0 m1).mono ?_
  rintro e w' ⟨b, rfl, rfl⟩
  have kw := keeps_refl w
  cases b
  rotate_left
  · go_wp2
    go_ret
    exact ⟨rfl, kw⟩
  go_wp2_with fail
  refine (DrawFitDown_any B0).mono ?_
  rintro e w1 ⟨A2, N, C, xs, A3, N3, C3, ys, z, rfl, hI, hJ, hz, k1⟩
  replace kw := Keeps.trans kw k1
  clear k1
  have k5 := keeps_alloc w1 (.cells #[.slice A2 N C] 51)
  have b5 : B1 (w1.alloc (.cells #[.slice A2 N C] 51)) w1.heap.size (.slice A2 N C) := B1.new' rfl
  replace hI := hI.keeps k5
  replace hJ := hJ.keeps k5
  replace kw := Keeps.trans kw k5
  clear k5
  obtain ⟨z1, z2⟩ := id b5
  go_wp2_with fail
  clear z1 z2
  obtain ⟨us, ok, HG⟩ : ∃ x y, Hid (fdF xs ys z = (x, y)) := ⟨_, _, rfl⟩
  refine (impl_FitDown_any hI hJ (wf_z hz)).mono ?_
  rintro e w3 ⟨A4, N4, C4, rfl, hx, k3⟩
  replace hI := hI.keeps k3
  replace hJ := hJ.keeps k3
  replace b5 := b5.keeps k3
  replace kw := Keeps.trans kw k3
  clear k3
  rw [HG.out] at hx
  rw [HG.out]
  dsimp only at hx
  dsimp only
  obtain ⟨z1, z2⟩ := id b5
  go_wp2_with fail
  clear z1 z2
  refine (spec_FitDown_any hI hJ (wf_z hz)).mono ?_
  rintro e w5 ⟨A5, N5, C5, rfl, hy, k5⟩
  replace hI := hI.keeps k5
  replace hx := hx.keeps k5
  replace b5 := b5.keeps k5
  replace kw := Keeps.trans kw k5
  clear k5 hJ
  rw [HG.out] at hy
  rw [HG.out]
  dsimp only at hy
  dsimp only
  have q0 : (ok != ok) = false := by simp
  go_wp2_with fail
  refine (sameInts_true hx.1 hy.1).mono ?_
  rintro e w7 ⟨rfl, k7⟩
  replace k7 := Quiet.keeps k7
  replace hI := hI.keeps k7
  replace b5 := b5.keeps k7
  have X := hx.1.keeps k7
  have Y := hy.1.keeps k7
  replace kw := Keeps.trans kw k7
  clear k7 hx hy q0
  obtain ⟨z1, z2⟩ := id b5
  cases ok
  · go_wp2_with fail
    clear z1 z2 b5 hI X Y HG
    refine (DrawCheckSums_any (Bytes.keeps B1_ kw)).mono ?_
    rintro e wa ⟨A6, N6, C6, gs, A7, N7, C7, vs, rfl, hH, hV, ka⟩
    have kwa := Keeps.trans kw ka
    clear ka
    have hb := keeps_alloc wa (.cells #[.slice A6 N6 C6] 51)
    have b16 : B1 (wa.alloc (.cells #[.slice A6 N6 C6] 51)) wa.heap.size (.slice A6 N6 C6) := B1.new' rfl
    replace hH := hH.keeps hb
    replace hV := hV.keeps hb
    replace kwa := Keeps.trans kwa hb
    clear hb
    obtain ⟨z1, z2⟩ := id b16
    go_wp2_with fail
    clear z1 z2
    obtain ⟨cs1, cs2, HC⟩ : ∃ x y, Hid (csF gs vs = (x, y)) := ⟨_, _, rfl⟩
    refine (impl_CheckSums_any hH hV).mono ?_
    rintro e wb ⟨rfl, kb⟩
    rw [HC.out]
    replace hH := hH.keeps kb
    replace hV := hV.keeps kb
    replace b16 := b16.keeps kb
    replace kwa := Keeps.trans kwa kb
    clear kb
    obtain ⟨z1, z2⟩ := id b16
    go_wp2_with fail
    clear z1 z2
    refine (spec_CheckSums_any hH hV).mono ?_
    rintro e wc ⟨rfl, kc⟩
    rw [HC.out]
    replace kwa := Keeps.trans kwa kc
    have q3 : (cs2 != cs2) = false := by simp
    have q4 : (cs1 != cs1) = false := by simp
    clear kc hH hV HC b16
    go_wp2_with fail
    refine (DrawKeptTotals_any (Bytes.keeps B1_ kwa)).mono ?_
    rintro e wd ⟨A8, N8, C8, ps, A9, N9, C9, av, Ab, Nb, Cb, bv, lv, rfl, hP, hA, hB, hlv, kd⟩
    replace kwa := Keeps.trans kwa kd
    clear kd
    have hb := keeps_alloc wd (.cells #[.slice A8 N8 C8] 51)
    have b22 : B1 (wd.alloc (.cells #[.slice A8 N8 C8] 51)) wd.heap.size (.slice A8 N8 C8) := B1.new' rfl
    replace hP := hP.keeps hb
    replace hA := hA.keeps hb
    replace hB := hB.keeps hb
    replace kwa := Keeps.trans kwa hb
    clear hb
    obtain ⟨z1, z2⟩ := id b22
    go_wp2_with fail
    clear z1 z2
    obtain ⟨k1, k2, HK⟩ : ∃ x y, Hid (ktF ps av bv lv = (x, y)) := ⟨_, _, rfl⟩
    refine (impl_KeptTotals_any hP hA hB (wf_z hlv)).mono ?_
    rintro e we ⟨rfl, ke⟩
    rw [HK.out]
    replace hP := hP.keeps ke
    replace hA := hA.keeps ke
    replace hB := hB.keeps ke
    replace b22 := b22.keeps ke
    replace kwa := Keeps.trans kwa ke
    clear ke
    obtain ⟨z1, z2⟩ := id b22
    go_wp2_with fail
    clear z1 z2
    refine (spec_KeptTotals_any hP hA hB (wf_z hlv)).mono ?_
    rintro e wf ⟨rfl, kf⟩
    rw [HK.out]
    replace kwa := Keeps.trans kwa kf
    have q5 : (k2 == k2) = true := by simp
    have q6 : (k1 == k1) = true := by simp
    clear kf hP hA hB HK b22
    go_wp2_with fail
    go_ret
    exact ⟨rfl, kwa⟩
  · have hF := fd_law HG.out
    have hg := geoB_true.1 hF.1
    have HC := hid hF.2.2.1
    have hlx := hI.1
    have hly := Y.1
    have hl0 := hF.2.1
    have hN0 : 0 < N5 := by omega
    have HZ := hid hF.2.2.2.1
    have HP := hid hF.2.2.2.2
    clear hF hg
    go_wp2_with fail
    clear z1 z2
    refine (impl_CheckSums_any hI X).mono ?_
    rintro e w8 ⟨rfl, k8⟩
    rw [HC.out, hlx]
    replace hI := hI.keeps k8
    replace b5 := b5.keeps k8
    have Y8 := Y.keeps k8
    replace kw := Keeps.trans kw k8
    clear k8 X Y
    obtain ⟨z1, z2⟩ := id b5
    obtain ⟨bb, off, x0, rfl, _, _, hcx, hxx⟩ := Y8.at_ (k := 0) hN0
    obtain rfl : x0 = z := hxx.out.trans HZ.out
    rw [Nat.add_zero] at hcx
    have q1 : ((N : Int) != (N : Int)) = false := by simp
    have q2 : (x0 != x0) = false := by simp
    have hN1 : (0 : Int) < (N5 : Int) := by omega
    have hN3 := Y8.le
    go_wp2_with fail
    clear z1 z2 hI b5 HG hxx HZ hcx q1 q2
    go_loopw [87] (fun i wr => ∃ k : Nat, k ≤ N5 ∧ i = .int .i64 k ∧ wr = w8) (fun i _ => N5 - (intOf i).toNat)
    case atStart => exact ⟨0, Nat.zero_le _, rfl, by trivial⟩
    case round =>
      obtain ⟨k, hk, rfl, rfl⟩ := hrel
      by_cases hltk : k < N5
      · obtain ⟨bb', off', x, e', _, _, hc, hxx⟩ := Y8.at_ (k := k) hltk
        obtain ⟨rfl, rfl⟩ : bb = bb' ∧ off = off' := by simpa using e'
        have hx0 : ¬ x < 0 := by have := HP.out k; rw [hxx.out]; omega
        clear hxx
        go_wp2
        go_roundw
        case rel => exact ⟨k + 1, by omega, by go_num, by trivial⟩
        case measure => simp [intOf]; omega
      · obtain rfl : k = N5 := by omega
        go_wp2_with fail
        refine (DrawCheckSums_any (Bytes.keeps B1_ kw)).mono ?_
        rintro e wa ⟨A6, N6, C6, gs, A7, N7, C7, vs, rfl, hH, hV, ka⟩
        have kwa := Keeps.trans kw ka
        clear ka
        have hb := keeps_alloc wa (.cells #[.slice A6 N6 C6] 51)
        have b16 : B1 (wa.alloc (.cells #[.slice A6 N6 C6] 51)) wa.heap.size (.slice A6 N6 C6) := B1.new' rfl
        replace hH := hH.keeps hb
        replace hV := hV.keeps hb
        replace kwa := Keeps.trans kwa hb
        clear hb
        obtain ⟨z1, z2⟩ := id b16
        go_wp2_with fail
        clear z1 z2
        obtain ⟨cs1, cs2, HC⟩ : ∃ x y, Hid (csF gs vs = (x, y)) := ⟨_, _, rfl⟩
        refine (impl_CheckSums_any hH hV).mono ?_
        rintro e wb ⟨rfl, kb⟩
        rw [HC.out]
        replace hH := hH.keeps kb
        replace hV := hV.keeps kb
        replace b16 := b16.keeps kb
        replace kwa := Keeps.trans kwa kb
        clear kb
        obtain ⟨z1, z2⟩ := id b16
        go_wp2_with fail
        clear z1 z2
        refine (spec_CheckSums_any hH hV).mono ?_
        rintro e wc ⟨rfl, kc⟩
        rw [HC.out]
        replace kwa := Keeps.trans kwa kc
        have q3 : (cs2 != cs2) = false := by simp
        have q4 : (cs1 != cs1) = false := by simp
        clear kc hH hV HC b16
        go_wp2_with fail
        refine (DrawKeptTotals_any (Bytes.keeps B1_ kwa)).mono ?_
        rintro e wd ⟨A8, N8, C8, ps, A9, N9, C9, av, Ab, Nb, Cb, bv, lv, rfl, hP, hA, hB, hlv, kd⟩
        replace kwa := Keeps.trans kwa kd
        clear kd
        have hb := keeps_alloc wd (.cells #[.slice A8 N8 C8] 51)
        have b22 : B1 (wd.alloc (.cells #[.slice A8 N8 C8] 51)) wd.heap.size (.slice A8 N8 C8) := B1.new' rfl
        replace hP := hP.keeps hb
        replace hA := hA.keeps hb
        replace hB := hB.keeps hb
        replace kwa := Keeps.trans kwa hb
        clear hb
        obtain ⟨z1, z2⟩ := id b22
        go_wp2_with fail
        clear z1 z2
        obtain ⟨k1, k2, HK⟩ : ∃ x y, Hid (ktF ps av bv lv = (x, y)) := ⟨_, _, rfl⟩
        refine (impl_KeptTotals_any hP hA hB (wf_z hlv)).mono ?_
        rintro e we ⟨rfl, ke⟩
        rw [HK.out]
        replace hP := hP.keeps ke
        replace hA := hA.keeps ke
        replace hB := hB.keeps ke
        replace b22 := b22.keeps ke
        replace kwa := Keeps.trans kwa ke
        clear ke
        obtain ⟨z1, z2⟩ := id b22
        go_wp2_with fail
        clear z1 z2
        refine (spec_KeptTotals_any hP hA hB (wf_z hlv)).mono ?_
        rintro e wf ⟨rfl, kf⟩
        rw [HK.out]
        replace kwa := Keeps.trans kwa kf
        have q5 : (k2 == k2) = true := by simp
        have q6 : (k1 == k1) = true := by simp
        clear kf hP hA hB HK b22
        go_wp2_with fail
        go_ret
        exact ⟨rfl, kwa⟩
end Go.Proofs.Ytkpliolafkdijaa
