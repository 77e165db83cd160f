/- The law FnTopDown: the walk. -/
import Derived.Test.YtnopedjgagoahaaDrawT
import Derived.Test.YtnopedjgagoahaaWtF
import Derived.Test.YtnopedjgagoahaaTdL
import Derived.Test.YtnopedjgagoahaaKK
namespace Go.Proofs.Ytnopedjgagoahaa
open Go.RowKit
set_option linter.unusedVariables false
set_option linter.unusedSimpArgs false

theorem wf_smallT {i : Int} (h : -1 ≤ i ∧ i ≤ 3) : (Lit.int .i64 i).wf = true := by simp [Lit.wf, IntKind.min, IntKind.max, IntKind.signed, IntKind.bits]; omega
theorem wf_zeroT : (Lit.int .i64 0).wf = true := by decide

set_option maxRecDepth 100000 in
set_option maxHeartbeats 25600000 in
theorem FnTopDown_law (A0 : Option Addr) (n0 c0 : Nat) (A1 : Option Addr) (n1 c1 : Nat) (w : World) (wa0 : BytesArg w A0 n0) (wa1 : BytesArg w A1 n1) :
    Calls Try.prog 5 #[.slice A0 n0 c0, .slice A1 n1 c1] w fun e w' => e = .returned (.bool true) ∧ Below w.heap.size w w' := by
  have B0 := wa0
  have B1_ := wa1
  have m0 := wa0.1
  have m1 := wa1.1
  obtain ⟨S, hS⟩ : ∃ S, wrap64 ((n0 : Int) + (n1 : Int)) = S := ⟨_, rfl⟩
  by_cases hlt : 1048576 < S
  · go_enter Try.func5, Try.ntmps5
    have kw := keeps_refl w
    go_wp2_with fail
    go_ret
    exact ⟨rfl, kw⟩
  go_enter Try.func5, Try.ntmps5
  have kw := keeps_refl w
  go_wp2_with fail
  refine (DrawTopDown_any B0).mono ?_
  rintro e w1 ⟨gA, gN, gC, ps, yA, yN, yC, ys, vA, vN, vC, vs, rfl, hg, hy, hv, hN, k1⟩
  replace kw := Keeps.trans kw k1
  have sz2 := kw.size
  clear k1
  clear hN
  replace hg := hg.keeps (keeps_alloc w1 (.cells #[.slice gA gN gC] 53))
  replace hy := hy.keeps (keeps_alloc w1 (.cells #[.slice gA gN gC] 53))
  replace hv := hv.keeps (keeps_alloc w1 (.cells #[.slice gA gN gC] 53))
  replace kw := Keeps.trans kw (keeps_alloc w1 (.cells #[.slice gA gN gC] 53))
  have b5 : B1 (w1.alloc (.cells #[.slice gA gN gC] 53)) w1.heap.size (.slice gA gN gC) := B1.new' (by simp)
  obtain ⟨ca3, fa3⟩ := id b5
  go_wp2_with fail
  clear ca3 fa3
  obtain ⟨x, ok, HT⟩ : ∃ x y, Hid (tdQ ps ys vs = (x, y)) := ⟨_, _, rfl⟩
  refine (implTopDown_any hg hy hv).mono ?_
  rintro e w4 ⟨xA, xN, xC, rfl, xM, k4⟩
  replace b5 := b5.keeps k4
  replace hg := hg.keeps k4
  replace hy := hy.keeps k4
  replace hv := hv.keeps k4
  replace kw := Keeps.trans kw k4
  have lt5 := b5.lt
  have sz6 := kw.size
  clear k4
  rw [HT.out] at xM
  rw [HT.out]
  dsimp only at xM
  dsimp only
  obtain ⟨ca7, fa7⟩ := id b5
  go_wp2_with fail
  clear ca7 fa7
  refine (specTopDown_any hg hy hv).mono ?_
  rintro e w8 ⟨uA, uN, uC, rfl, uM, k8⟩
  replace b5 := b5.keeps k8
  replace hg := hg.keeps k8
  replace hy := hy.keeps k8
  replace hv := hv.keeps k8
  replace xM := xM.keeps k8
  replace kw := Keeps.trans kw k8
  have lt9 := b5.lt
  have sz10 := kw.size
  clear k8
  rw [HT.out] at uM
  rw [HT.out]
  dsimp only at uM
  dsimp only
  clear hy hv
  go_wp2_with fail
  refine (DrawWholeTree_any (B1_.keeps kw)).mono ?_
  rintro e w11 ⟨hA, hN, hC, qs, lA, lN, lC, l, rfl, hh, hl, k11⟩
  replace b5 := b5.keeps k11
  replace hg := hg.keeps k11
  replace xM := xM.keeps k11
  replace uM := uM.keeps k11
  replace kw := Keeps.trans kw k11
  have lt12 := b5.lt
  have sz13 := kw.size
  clear k11
  replace b5 := b5.keeps (keeps_alloc w11 (.cells #[.slice hA hN hC] 53))
  replace hg := hg.keeps (keeps_alloc w11 (.cells #[.slice hA hN hC] 53))
  replace xM := xM.keeps (keeps_alloc w11 (.cells #[.slice hA hN hC] 53))
  replace uM := uM.keeps (keeps_alloc w11 (.cells #[.slice hA hN hC] 53))
  replace hh := hh.keeps (keeps_alloc w11 (.cells #[.slice hA hN hC] 53))
  replace hl := hl.keeps (keeps_alloc w11 (.cells #[.slice hA hN hC] 53))
  replace kw := Keeps.trans kw (keeps_alloc w11 (.cells #[.slice hA hN hC] 53))
  have b12 : B1 (w11.alloc (.cells #[.slice hA hN hC] 53)) w11.heap.size (.slice hA hN hC) := B1.new' (by simp)
  obtain ⟨ca14, fa14⟩ := id b12
  go_wp2_with fail
  clear ca14 fa14
  obtain ⟨z, one, HW⟩ : ∃ x y, Hid (wtQ qs l = (x, y)) := ⟨_, _, rfl⟩
  refine (implWholeTree_any hh hl).mono ?_
  rintro e w15 ⟨zA, zN, zC, rfl, zM, k15⟩
  replace b5 := b5.keeps k15
  replace b12 := b12.keeps k15
  replace hg := hg.keeps k15
  replace xM := xM.keeps k15
  replace uM := uM.keeps k15
  replace hh := hh.keeps k15
  replace hl := hl.keeps k15
  replace kw := Keeps.trans kw k15
  have lt16 := b12.lt
  have sz17 := kw.size
  clear k15
  rw [HW.out] at zM
  rw [HW.out]
  dsimp only at zM
  dsimp only
  obtain ⟨ca18, fa18⟩ := id b12
  go_wp2_with fail
  clear ca18 fa18
  refine (specWholeTree_any hh hl).mono ?_
  rintro e w19 ⟨rA, rN, rC, rfl, rM, k19⟩
  replace b5 := b5.keeps k19
  replace b12 := b12.keeps k19
  replace hg := hg.keeps k19
  replace xM := xM.keeps k19
  replace uM := uM.keeps k19
  replace hh := hh.keeps k19
  replace hl := hl.keeps k19
  replace zM := zM.keeps k19
  replace kw := Keeps.trans kw k19
  have lt20 := b12.lt
  have sz21 := kw.size
  clear k19
  rw [HW.out] at rM
  rw [HW.out]
  dsimp only at rM
  dsimp only
  clear hl
  go_wp2_with fail
  refine (DrawLevelError_any (B1_.keeps kw)).mono ?_
  rintro e w22 ⟨kA, kN, kC, ks, aA, aN, aC, us, bA, bN, bC, bs, lv, rfl, hk, ha, hb, hlv, k22⟩
  replace b5 := b5.keeps k22
  replace b12 := b12.keeps k22
  replace hg := hg.keeps k22
  replace xM := xM.keeps k22
  replace uM := uM.keeps k22
  replace hh := hh.keeps k22
  replace zM := zM.keeps k22
  replace rM := rM.keeps k22
  replace kw := Keeps.trans kw k22
  have lt23 := b12.lt
  have sz24 := kw.size
  clear k22
  have wl := wf_smallT hlv
  replace b5 := b5.keeps (keeps_alloc w22 (.cells #[.slice kA kN kC] 53))
  replace b12 := b12.keeps (keeps_alloc w22 (.cells #[.slice kA kN kC] 53))
  replace hg := hg.keeps (keeps_alloc w22 (.cells #[.slice kA kN kC] 53))
  replace xM := xM.keeps (keeps_alloc w22 (.cells #[.slice kA kN kC] 53))
  replace uM := uM.keeps (keeps_alloc w22 (.cells #[.slice kA kN kC] 53))
  replace hh := hh.keeps (keeps_alloc w22 (.cells #[.slice kA kN kC] 53))
  replace zM := zM.keeps (keeps_alloc w22 (.cells #[.slice kA kN kC] 53))
  replace rM := rM.keeps (keeps_alloc w22 (.cells #[.slice kA kN kC] 53))
  replace hk := hk.keeps (keeps_alloc w22 (.cells #[.slice kA kN kC] 53))
  replace ha := ha.keeps (keeps_alloc w22 (.cells #[.slice kA kN kC] 53))
  replace hb := hb.keeps (keeps_alloc w22 (.cells #[.slice kA kN kC] 53))
  replace kw := Keeps.trans kw (keeps_alloc w22 (.cells #[.slice kA kN kC] 53))
  have b18 : B1 (w22.alloc (.cells #[.slice kA kN kC] 53)) w22.heap.size (.slice kA kN kC) := B1.new' (by simp)
  obtain ⟨ca25, fa25⟩ := id b18
  go_wp2_with fail
  clear ca25 fa25
  obtain ⟨e, three, HE⟩ : ∃ x y, Hid (leF ks us bs lv = (x, y)) := ⟨_, _, rfl⟩
  refine (impl_LevelError_any hk ha hb wl).mono ?_
  rintro e w26 ⟨rfl, k26⟩
  rw [HE.out]
  replace b5 := b5.keeps k26
  replace b12 := b12.keeps k26
  replace b18 := b18.keeps k26
  replace hg := hg.keeps k26
  replace xM := xM.keeps k26
  replace uM := uM.keeps k26
  replace hh := hh.keeps k26
  replace zM := zM.keeps k26
  replace rM := rM.keeps k26
  replace hk := hk.keeps k26
  replace ha := ha.keeps k26
  replace hb := hb.keeps k26
  replace kw := Keeps.trans kw k26
  have lt27 := b18.lt
  have sz28 := kw.size
  clear k26
  obtain ⟨ca29, fa29⟩ := id b18
  go_wp2_with fail
  clear ca29 fa29
  refine (spec_LevelError_any hk ha hb wl).mono ?_
  rintro e w30 ⟨rfl, k30⟩
  rw [HE.out]
  replace b5 := b5.keeps k30
  replace b12 := b12.keeps k30
  replace b18 := b18.keeps k30
  replace hg := hg.keeps k30
  replace xM := xM.keeps k30
  replace uM := uM.keeps k30
  replace hh := hh.keeps k30
  replace zM := zM.keeps k30
  replace rM := rM.keeps k30
  replace hk := hk.keeps k30
  replace ha := ha.keeps k30
  replace hb := hb.keeps k30
  replace kw := Keeps.trans kw k30
  have lt31 := b18.lt
  have sz32 := kw.size
  clear k30
  clear b18 hk ha hb
  clear hlv wl
  have t1_ : (ok != ok) = false := by simp
  have t2_ : (one != one) = false := by simp
  have t3_ : (three != three) = false := by simp
  have t4_ : (e != e) = false := by simp
  go_wp2_with fail
  refine (qInts_true xM.1 uM.1).mono ?_
  rintro e w33 ⟨rfl, k33⟩
  replace k33 := Quiet.keeps k33
  replace b5 := b5.keeps k33
  replace b12 := b12.keeps k33
  replace hg := hg.keeps k33
  replace xM := xM.keeps k33
  replace uM := uM.keeps k33
  replace hh := hh.keeps k33
  replace zM := zM.keeps k33
  replace rM := rM.keeps k33
  replace kw := Keeps.trans kw k33
  have lt34 := b12.lt
  have sz35 := kw.size
  clear k33
  clear uM
  go_wp2_with fail
  refine (qInts_true zM.1 rM.1).mono ?_
  rintro e w36 ⟨rfl, k36⟩
  replace k36 := Quiet.keeps k36
  replace b5 := b5.keeps k36
  replace b12 := b12.keeps k36
  replace hg := hg.keeps k36
  replace xM := xM.keeps k36
  replace hh := hh.keeps k36
  replace zM := zM.keeps k36
  replace rM := rM.keeps k36
  replace kw := Keeps.trans kw k36
  have lt37 := b12.lt
  have sz38 := kw.size
  clear k36
  cases three
  · cases one
    · obtain ⟨glo, ghi, hgE⟩ : ∃ a b, Ints w36 a b gA gN ps := ⟨_, _, hg⟩
      obtain ⟨xlo, xhi, xE⟩ : ∃ a b, Ints w36 a b xA xN x := ⟨_, _, xM.1⟩
      clear hg xM
      have hg := hgE
      have xM := xE
      clear hgE xE
      cases ok
      · go_wp2_with fail
        go_ret
        exact ⟨rfl, kw⟩
      obtain ⟨root, HGB, HH, HNN, HWI⟩ := td_law HT.out
      replace HGB := hid HGB
      replace HH := hid HH
      replace HNN := hid HNN
      replace HWI := hid HWI
      have hxn := xM.le
      have HXL := hid xM.1
      go_wp2_with fail
      go_loopw [176] (fun si wr => ∃ (k : Nat), k ≤ xN ∧ si = .int .i64 k ∧ Ints wr glo ghi gA gN ps ∧ Ints wr xlo xhi xA xN x ∧ B1 wr w1.heap.size (.slice gA gN gC) ∧ Keeps w wr) (fun si _ => xN - (intOf si).toNat)
      case atStart => exact ⟨0, Nat.zero_le _, rfl, hg, xM, b5, kw⟩
      clear b5 hg xM kw
      case round =>
        obtain ⟨k, hk_, rfl, hg, xM, b5, kw⟩ := hrel
        have sz39 := kw.size
        by_cases hkn : k < xN
        · have hki : (k : Int) < (xN : Int) := by omega
          obtain ⟨bx, ox, x0, rfl, _, _, hcx, hx0⟩ := xM.at_ hkn
          have hnn := HNN.out k
          rw [← hx0.out] at hnn
          clear hx0
          go_wp2_with fail
          clear hcx
          go_roundw
          case rel => exact ⟨k + 1, by omega, by go_num, hg, xM, b5, kw⟩
          case measure => simp [intOf]; omega
        obtain rfl : k = xN := by omega
        have HIA := hid (whole_additive HGB.out HH.out HWI.out)
        have HLE := hid (le_self HGB.out HH.out.1 HWI.out)
        obtain ⟨ca40, fa40⟩ := id b5
        go_wp2_with fail
        clear ca40 fa40
        refine (impl_IsAdditiveWhole_any hg xM).mono ?_
        rintro e w41 ⟨rfl, k41⟩
        rw [HIA.out]
        replace b5 := b5.keeps k41
        replace hg := hg.keeps k41
        replace xM := xM.keeps k41
        replace kw := Keeps.trans kw k41
        have lt42 := b5.lt
        have sz43 := kw.size
        clear k41
        obtain ⟨ca44, fa44⟩ := id b5
        go_wp2_with fail
        clear ca44 fa44
        refine (impl_LevelError_any hg xM xM wf_zeroT).mono ?_
        rintro e w45 ⟨rfl, k45⟩
        rw [HLE.out]
        replace b5 := b5.keeps k45
        replace hg := hg.keeps k45
        replace xM := xM.keeps k45
        replace kw := Keeps.trans kw k45
        have lt46 := b5.lt
        have sz47 := kw.size
        clear k45
        go_wp2_with fail
        go_ret
        exact ⟨rfl, kw⟩
    obtain ⟨rt, WGB, WH, WNN⟩ := wt_law HW.out
    replace WGB := hid WGB
    replace WH := hid WH
    clear WNN
    obtain ⟨ad, is, HIW⟩ : ∃ a b, Hid (iaF qs z = (a, b)) := ⟨_, _, rfl⟩
    have HZL := hid rM.1.1
    have hrn := rM.1.le
    obtain ⟨ca39, fa39⟩ := id b12
    go_wp2_with fail
    clear ca39 fa39
    refine (impl_IsAdditiveWhole_any hh zM.1).mono ?_
    rintro e w40 ⟨rfl, k40⟩
    rw [HIW.out]
    replace b5 := b5.keeps k40
    replace b12 := b12.keeps k40
    replace hg := hg.keeps k40
    replace xM := xM.keeps k40
    replace hh := hh.keeps k40
    replace zM := zM.keeps k40
    replace rM := rM.keeps k40
    replace kw := Keeps.trans kw k40
    have lt41 := b12.lt
    have sz42 := kw.size
    clear k40
    go_wp2_with fail
    obtain ⟨glo, ghi, hgE⟩ : ∃ a b, Ints w40 a b gA gN ps := ⟨_, _, hg⟩
    obtain ⟨xlo, xhi, xI⟩ : ∃ a b, Ints w40 a b xA xN x := ⟨_, _, xM.1⟩
    obtain ⟨rlo, rhi, rI⟩ : ∃ a b, Ints w40 a b rA rN z := ⟨_, _, rM.1⟩
    clear hg
    have hg := hgE
    clear hgE
    go_loopw [149, 28] (fun si ss wr => ∃ (k : Nat) (sm : Bool), k ≤ rN ∧ si = .int .i64 k ∧ ss = .bool sm ∧ (sm = true → Upto (-1000000) 1000000 z k) ∧ Ints wr glo ghi gA gN ps ∧ Ints wr xlo xhi xA xN x ∧ Ints wr rlo rhi rA rN z ∧ B1 wr w1.heap.size (.slice gA gN gC) ∧ Keeps w wr) (fun si _ _ => rN - (intOf si).toNat)
    case atStart => exact ⟨0, true, Nat.zero_le _, rfl, rfl, fun _ j hj => absurd hj (by omega), hg, xI, rI, b5, kw⟩
    clear b5 b12 hg xM hh zM rM xI rI kw
    case round =>
      obtain ⟨k, sm, hk_, rfl, rfl, hsm, hg, xI, rI, b5, kw⟩ := hrel
      have sz43 := kw.size
      by_cases hkn : k < rN
      · have hki : (k : Int) < (rN : Int) := by omega
        obtain ⟨bx, ox, x0, rfl, _, _, hcx, hx0⟩ := rI.at_ hkn
        have HS := hid hsm
        clear hsm
        cases sm
        · go_wp2_with fail
          clear hcx
          go_roundw
          case rel => exact ⟨k + 1, false, by omega, by go_num, rfl, (fun h => by cases h), hg, xI, rI, b5, kw⟩
          case measure => simp [intOf]; omega
        by_cases h1 : -1000000 ≤ x0
        · by_cases h2 : x0 ≤ 1000000
          · go_wp2_with fail
            clear hcx
            go_roundw
            case rel => exact ⟨k + 1, true, by omega, by go_num, rfl, (fun _ => upto_succ (HS.out rfl) hx0.out h1 h2), hg, xI, rI, b5, kw⟩
            case measure => simp [intOf]; omega
          · go_wp2_with fail
            clear hcx
            go_roundw
            case rel => exact ⟨k + 1, false, by omega, by go_num, rfl, (fun h => by cases h), hg, xI, rI, b5, kw⟩
            case measure => simp [intOf]; omega
        · go_wp2_with fail
          clear hcx
          go_roundw
          case rel => exact ⟨k + 1, false, by omega, by go_num, rfl, (fun h => by cases h), hg, xI, rI, b5, kw⟩
          case measure => simp [intOf]; omega
      obtain rfl : k = rN := by omega
      have HS := hid hsm
      clear hsm
      cases sm
      · have xM := xI
        clear xI rI
        cases ok
        · go_wp2_with fail
          go_ret
          exact ⟨rfl, kw⟩
        obtain ⟨root, HGB, HH, HNN, HWI⟩ := td_law HT.out
        replace HGB := hid HGB
        replace HH := hid HH
        replace HNN := hid HNN
        replace HWI := hid HWI
        have hxn := xM.le
        have HXL := hid xM.1
        go_wp2_with fail
        go_loopw [176] (fun si wr => ∃ (k : Nat), k ≤ xN ∧ si = .int .i64 k ∧ Ints wr glo ghi gA gN ps ∧ Ints wr xlo xhi xA xN x ∧ B1 wr w1.heap.size (.slice gA gN gC) ∧ Keeps w wr) (fun si _ => xN - (intOf si).toNat)
        case atStart => exact ⟨0, Nat.zero_le _, rfl, hg, xM, b5, kw⟩
        clear b5 hg xM kw
        case round =>
          obtain ⟨k, hk_, rfl, hg, xM, b5, kw⟩ := hrel
          have sz44 := kw.size
          by_cases hkn : k < xN
          · have hki : (k : Int) < (xN : Int) := by omega
            obtain ⟨bx, ox, x0, rfl, _, _, hcx, hx0⟩ := xM.at_ hkn
            have hnn := HNN.out k
            rw [← hx0.out] at hnn
            clear hx0
            go_wp2_with fail
            clear hcx
            go_roundw
            case rel => exact ⟨k + 1, by omega, by go_num, hg, xM, b5, kw⟩
            case measure => simp [intOf]; omega
          obtain rfl : k = xN := by omega
          have HIA := hid (whole_additive HGB.out HH.out HWI.out)
          have HLE := hid (le_self HGB.out HH.out.1 HWI.out)
          obtain ⟨ca45, fa45⟩ := id b5
          go_wp2_with fail
          clear ca45 fa45
          refine (impl_IsAdditiveWhole_any hg xM).mono ?_
          rintro e w46 ⟨rfl, k46⟩
          rw [HIA.out]
          replace b5 := b5.keeps k46
          replace hg := hg.keeps k46
          replace xM := xM.keeps k46
          replace kw := Keeps.trans kw k46
          have lt47 := b5.lt
          have sz48 := kw.size
          clear k46
          obtain ⟨ca49, fa49⟩ := id b5
          go_wp2_with fail
          clear ca49 fa49
          refine (impl_LevelError_any hg xM xM wf_zeroT).mono ?_
          rintro e w50 ⟨rfl, k50⟩
          rw [HLE.out]
          replace b5 := b5.keeps k50
          replace hg := hg.keeps k50
          replace xM := xM.keeps k50
          replace kw := Keeps.trans kw k50
          have lt51 := b5.lt
          have sz52 := kw.size
          clear k50
          go_wp2_with fail
          go_ret
          exact ⟨rfl, kw⟩
      have HA := whole_additive WGB.out WH.out (within_true.2 (by rw [HZL.out]; exact HS.out rfl))
      have HA2 := HIW.out.symm.trans HA
      obtain ⟨rfl, rfl⟩ : ad = true ∧ is = true := by simpa using HA2
      clear HA HA2
      have xM := xI
      clear xI rI
      cases ok
      · go_wp2_with fail
        go_ret
        exact ⟨rfl, kw⟩
      obtain ⟨root, HGB, HH, HNN, HWI⟩ := td_law HT.out
      replace HGB := hid HGB
      replace HH := hid HH
      replace HNN := hid HNN
      replace HWI := hid HWI
      have hxn := xM.le
      have HXL := hid xM.1
      go_wp2_with fail
      go_loopw [176] (fun si wr => ∃ (k : Nat), k ≤ xN ∧ si = .int .i64 k ∧ Ints wr glo ghi gA gN ps ∧ Ints wr xlo xhi xA xN x ∧ B1 wr w1.heap.size (.slice gA gN gC) ∧ Keeps w wr) (fun si _ => xN - (intOf si).toNat)
      case atStart => exact ⟨0, Nat.zero_le _, rfl, hg, xM, b5, kw⟩
      clear b5 hg xM kw
      case round =>
        obtain ⟨k, hk_, rfl, hg, xM, b5, kw⟩ := hrel
        have sz44 := kw.size
        by_cases hkn : k < xN
        · have hki : (k : Int) < (xN : Int) := by omega
          obtain ⟨bx, ox, x0, rfl, _, _, hcx, hx0⟩ := xM.at_ hkn
          have hnn := HNN.out k
          rw [← hx0.out] at hnn
          clear hx0
          go_wp2_with fail
          clear hcx
          go_roundw
          case rel => exact ⟨k + 1, by omega, by go_num, hg, xM, b5, kw⟩
          case measure => simp [intOf]; omega
        obtain rfl : k = xN := by omega
        have HIA := hid (whole_additive HGB.out HH.out HWI.out)
        have HLE := hid (le_self HGB.out HH.out.1 HWI.out)
        obtain ⟨ca45, fa45⟩ := id b5
        go_wp2_with fail
        clear ca45 fa45
        refine (impl_IsAdditiveWhole_any hg xM).mono ?_
        rintro e w46 ⟨rfl, k46⟩
        rw [HIA.out]
        replace b5 := b5.keeps k46
        replace hg := hg.keeps k46
        replace xM := xM.keeps k46
        replace kw := Keeps.trans kw k46
        have lt47 := b5.lt
        have sz48 := kw.size
        clear k46
        obtain ⟨ca49, fa49⟩ := id b5
        go_wp2_with fail
        clear ca49 fa49
        refine (impl_LevelError_any hg xM xM wf_zeroT).mono ?_
        rintro e w50 ⟨rfl, k50⟩
        rw [HLE.out]
        replace b5 := b5.keeps k50
        replace hg := hg.keeps k50
        replace xM := xM.keeps k50
        replace kw := Keeps.trans kw k50
        have lt51 := b5.lt
        have sz52 := kw.size
        clear k50
        go_wp2_with fail
        go_ret
        exact ⟨rfl, kw⟩
  have hnn0 := leF_nn HE.out
  cases one
  · obtain ⟨glo, ghi, hgE⟩ : ∃ a b, Ints w36 a b gA gN ps := ⟨_, _, hg⟩
    obtain ⟨xlo, xhi, xE⟩ : ∃ a b, Ints w36 a b xA xN x := ⟨_, _, xM.1⟩
    clear hg xM
    have hg := hgE
    have xM := xE
    clear hgE xE
    cases ok
    · go_wp2_with fail
      go_ret
      exact ⟨rfl, kw⟩
    obtain ⟨root, HGB, HH, HNN, HWI⟩ := td_law HT.out
    replace HGB := hid HGB
    replace HH := hid HH
    replace HNN := hid HNN
    replace HWI := hid HWI
    have hxn := xM.le
    have HXL := hid xM.1
    go_wp2_with fail
    go_loopw [176] (fun si wr => ∃ (k : Nat), k ≤ xN ∧ si = .int .i64 k ∧ Ints wr glo ghi gA gN ps ∧ Ints wr xlo xhi xA xN x ∧ B1 wr w1.heap.size (.slice gA gN gC) ∧ Keeps w wr) (fun si _ => xN - (intOf si).toNat)
    case atStart => exact ⟨0, Nat.zero_le _, rfl, hg, xM, b5, kw⟩
    clear b5 hg xM kw
    case round =>
      obtain ⟨k, hk_, rfl, hg, xM, b5, kw⟩ := hrel
      have sz39 := kw.size
      by_cases hkn : k < xN
      · have hki : (k : Int) < (xN : Int) := by omega
        obtain ⟨bx, ox, x0, rfl, _, _, hcx, hx0⟩ := xM.at_ hkn
        have hnn := HNN.out k
        rw [← hx0.out] at hnn
        clear hx0
        go_wp2_with fail
        clear hcx
        go_roundw
        case rel => exact ⟨k + 1, by omega, by go_num, hg, xM, b5, kw⟩
        case measure => simp [intOf]; omega
      obtain rfl : k = xN := by omega
      have HIA := hid (whole_additive HGB.out HH.out HWI.out)
      have HLE := hid (le_self HGB.out HH.out.1 HWI.out)
      obtain ⟨ca40, fa40⟩ := id b5
      go_wp2_with fail
      clear ca40 fa40
      refine (impl_IsAdditiveWhole_any hg xM).mono ?_
      rintro e w41 ⟨rfl, k41⟩
      rw [HIA.out]
      replace b5 := b5.keeps k41
      replace hg := hg.keeps k41
      replace xM := xM.keeps k41
      replace kw := Keeps.trans kw k41
      have lt42 := b5.lt
      have sz43 := kw.size
      clear k41
      obtain ⟨ca44, fa44⟩ := id b5
      go_wp2_with fail
      clear ca44 fa44
      refine (impl_LevelError_any hg xM xM wf_zeroT).mono ?_
      rintro e w45 ⟨rfl, k45⟩
      rw [HLE.out]
      replace b5 := b5.keeps k45
      replace hg := hg.keeps k45
      replace xM := xM.keeps k45
      replace kw := Keeps.trans kw k45
      have lt46 := b5.lt
      have sz47 := kw.size
      clear k45
      go_wp2_with fail
      go_ret
      exact ⟨rfl, kw⟩
  obtain ⟨rt, WGB, WH, WNN⟩ := wt_law HW.out
  replace WGB := hid WGB
  replace WH := hid WH
  clear WNN
  obtain ⟨ad, is, HIW⟩ : ∃ a b, Hid (iaF qs z = (a, b)) := ⟨_, _, rfl⟩
  have HZL := hid rM.1.1
  have hrn := rM.1.le
  obtain ⟨ca39, fa39⟩ := id b12
  go_wp2_with fail
  clear ca39 fa39
  refine (impl_IsAdditiveWhole_any hh zM.1).mono ?_
  rintro e w40 ⟨rfl, k40⟩
  rw [HIW.out]
  replace b5 := b5.keeps k40
  replace b12 := b12.keeps k40
  replace hg := hg.keeps k40
  replace xM := xM.keeps k40
  replace hh := hh.keeps k40
  replace zM := zM.keeps k40
  replace rM := rM.keeps k40
  replace kw := Keeps.trans kw k40
  have lt41 := b12.lt
  have sz42 := kw.size
  clear k40
  go_wp2_with fail
  obtain ⟨glo, ghi, hgE⟩ : ∃ a b, Ints w40 a b gA gN ps := ⟨_, _, hg⟩
  obtain ⟨xlo, xhi, xI⟩ : ∃ a b, Ints w40 a b xA xN x := ⟨_, _, xM.1⟩
  obtain ⟨rlo, rhi, rI⟩ : ∃ a b, Ints w40 a b rA rN z := ⟨_, _, rM.1⟩
  clear hg
  have hg := hgE
  clear hgE
  go_loopw [149, 28] (fun si ss wr => ∃ (k : Nat) (sm : Bool), k ≤ rN ∧ si = .int .i64 k ∧ ss = .bool sm ∧ (sm = true → Upto (-1000000) 1000000 z k) ∧ Ints wr glo ghi gA gN ps ∧ Ints wr xlo xhi xA xN x ∧ Ints wr rlo rhi rA rN z ∧ B1 wr w1.heap.size (.slice gA gN gC) ∧ Keeps w wr) (fun si _ _ => rN - (intOf si).toNat)
  case atStart => exact ⟨0, true, Nat.zero_le _, rfl, rfl, fun _ j hj => absurd hj (by omega), hg, xI, rI, b5, kw⟩
  clear b5 b12 hg xM hh zM rM xI rI kw
  case round =>
    obtain ⟨k, sm, hk_, rfl, rfl, hsm, hg, xI, rI, b5, kw⟩ := hrel
    have sz43 := kw.size
    by_cases hkn : k < rN
    · have hki : (k : Int) < (rN : Int) := by omega
      obtain ⟨bx, ox, x0, rfl, _, _, hcx, hx0⟩ := rI.at_ hkn
      have HS := hid hsm
      clear hsm
      cases sm
      · go_wp2_with fail
        clear hcx
        go_roundw
        case rel => exact ⟨k + 1, false, by omega, by go_num, rfl, (fun h => by cases h), hg, xI, rI, b5, kw⟩
        case measure => simp [intOf]; omega
      by_cases h1 : -1000000 ≤ x0
      · by_cases h2 : x0 ≤ 1000000
        · go_wp2_with fail
          clear hcx
          go_roundw
          case rel => exact ⟨k + 1, true, by omega, by go_num, rfl, (fun _ => upto_succ (HS.out rfl) hx0.out h1 h2), hg, xI, rI, b5, kw⟩
          case measure => simp [intOf]; omega
        · go_wp2_with fail
          clear hcx
          go_roundw
          case rel => exact ⟨k + 1, false, by omega, by go_num, rfl, (fun h => by cases h), hg, xI, rI, b5, kw⟩
          case measure => simp [intOf]; omega
      · go_wp2_with fail
        clear hcx
        go_roundw
        case rel => exact ⟨k + 1, false, by omega, by go_num, rfl, (fun h => by cases h), hg, xI, rI, b5, kw⟩
        case measure => simp [intOf]; omega
    obtain rfl : k = rN := by omega
    have HS := hid hsm
    clear hsm
    cases sm
    · have xM := xI
      clear xI rI
      cases ok
      · go_wp2_with fail
        go_ret
        exact ⟨rfl, kw⟩
      obtain ⟨root, HGB, HH, HNN, HWI⟩ := td_law HT.out
      replace HGB := hid HGB
      replace HH := hid HH
      replace HNN := hid HNN
      replace HWI := hid HWI
      have hxn := xM.le
      have HXL := hid xM.1
      go_wp2_with fail
      go_loopw [176] (fun si wr => ∃ (k : Nat), k ≤ xN ∧ si = .int .i64 k ∧ Ints wr glo ghi gA gN ps ∧ Ints wr xlo xhi xA xN x ∧ B1 wr w1.heap.size (.slice gA gN gC) ∧ Keeps w wr) (fun si _ => xN - (intOf si).toNat)
      case atStart => exact ⟨0, Nat.zero_le _, rfl, hg, xM, b5, kw⟩
      clear b5 hg xM kw
      case round =>
        obtain ⟨k, hk_, rfl, hg, xM, b5, kw⟩ := hrel
        have sz44 := kw.size
        by_cases hkn : k < xN
        · have hki : (k : Int) < (xN : Int) := by omega
          obtain ⟨bx, ox, x0, rfl, _, _, hcx, hx0⟩ := xM.at_ hkn
          have hnn := HNN.out k
          rw [← hx0.out] at hnn
          clear hx0
          go_wp2_with fail
          clear hcx
          go_roundw
          case rel => exact ⟨k + 1, by omega, by go_num, hg, xM, b5, kw⟩
          case measure => simp [intOf]; omega
        obtain rfl : k = xN := by omega
        have HIA := hid (whole_additive HGB.out HH.out HWI.out)
        have HLE := hid (le_self HGB.out HH.out.1 HWI.out)
        obtain ⟨ca45, fa45⟩ := id b5
        go_wp2_with fail
        clear ca45 fa45
        refine (impl_IsAdditiveWhole_any hg xM).mono ?_
        rintro e w46 ⟨rfl, k46⟩
        rw [HIA.out]
        replace b5 := b5.keeps k46
        replace hg := hg.keeps k46
        replace xM := xM.keeps k46
        replace kw := Keeps.trans kw k46
        have lt47 := b5.lt
        have sz48 := kw.size
        clear k46
        obtain ⟨ca49, fa49⟩ := id b5
        go_wp2_with fail
        clear ca49 fa49
        refine (impl_LevelError_any hg xM xM wf_zeroT).mono ?_
        rintro e w50 ⟨rfl, k50⟩
        rw [HLE.out]
        replace b5 := b5.keeps k50
        replace hg := hg.keeps k50
        replace xM := xM.keeps k50
        replace kw := Keeps.trans kw k50
        have lt51 := b5.lt
        have sz52 := kw.size
        clear k50
        go_wp2_with fail
        go_ret
        exact ⟨rfl, kw⟩
    have HA := whole_additive WGB.out WH.out (within_true.2 (by rw [HZL.out]; exact HS.out rfl))
    have HA2 := HIW.out.symm.trans HA
    obtain ⟨rfl, rfl⟩ : ad = true ∧ is = true := by simpa using HA2
    clear HA HA2
    have xM := xI
    clear xI rI
    cases ok
    · go_wp2_with fail
      go_ret
      exact ⟨rfl, kw⟩
    obtain ⟨root, HGB, HH, HNN, HWI⟩ := td_law HT.out
    replace HGB := hid HGB
    replace HH := hid HH
    replace HNN := hid HNN
    replace HWI := hid HWI
    have hxn := xM.le
    have HXL := hid xM.1
    go_wp2_with fail
    go_loopw [176] (fun si wr => ∃ (k : Nat), k ≤ xN ∧ si = .int .i64 k ∧ Ints wr glo ghi gA gN ps ∧ Ints wr xlo xhi xA xN x ∧ B1 wr w1.heap.size (.slice gA gN gC) ∧ Keeps w wr) (fun si _ => xN - (intOf si).toNat)
    case atStart => exact ⟨0, Nat.zero_le _, rfl, hg, xM, b5, kw⟩
    clear b5 hg xM kw
    case round =>
      obtain ⟨k, hk_, rfl, hg, xM, b5, kw⟩ := hrel
      have sz44 := kw.size
      by_cases hkn : k < xN
      · have hki : (k : Int) < (xN : Int) := by omega
        obtain ⟨bx, ox, x0, rfl, _, _, hcx, hx0⟩ := xM.at_ hkn
        have hnn := HNN.out k
        rw [← hx0.out] at hnn
        clear hx0
        go_wp2_with fail
        clear hcx
        go_roundw
        case rel => exact ⟨k + 1, by omega, by go_num, hg, xM, b5, kw⟩
        case measure => simp [intOf]; omega
      obtain rfl : k = xN := by omega
      have HIA := hid (whole_additive HGB.out HH.out HWI.out)
      have HLE := hid (le_self HGB.out HH.out.1 HWI.out)
      obtain ⟨ca45, fa45⟩ := id b5
      go_wp2_with fail
      clear ca45 fa45
      refine (impl_IsAdditiveWhole_any hg xM).mono ?_
      rintro e w46 ⟨rfl, k46⟩
      rw [HIA.out]
      replace b5 := b5.keeps k46
      replace hg := hg.keeps k46
      replace xM := xM.keeps k46
      replace kw := Keeps.trans kw k46
      have lt47 := b5.lt
      have sz48 := kw.size
      clear k46
      obtain ⟨ca49, fa49⟩ := id b5
      go_wp2_with fail
      clear ca49 fa49
      refine (impl_LevelError_any hg xM xM wf_zeroT).mono ?_
      rintro e w50 ⟨rfl, k50⟩
      rw [HLE.out]
      replace b5 := b5.keeps k50
      replace hg := hg.keeps k50
      replace xM := xM.keeps k50
      replace kw := Keeps.trans kw k50
      have lt51 := b5.lt
      have sz52 := kw.size
      clear k50
      go_wp2_with fail
      go_ret
      exact ⟨rfl, kw⟩
end Go.Proofs.Ytnopedjgagoahaa
