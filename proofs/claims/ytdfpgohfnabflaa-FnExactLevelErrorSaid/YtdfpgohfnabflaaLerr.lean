/- LevelError, of the reference and of the program; and the law. -/
import Derived.Test.YtdfpgohfnabflaaKept
namespace Go.Proofs.Ytdfpgohfnabflaa
open Go.RowKit
set_option linter.unusedVariables false
set_option linter.unusedSimpArgs false

theorem l1Abs_any {a : Int} {w : World} (h1 : -4611686018427387904 ≤ a) (h2 : a ≤ 4611686018427387904) : Calls Try.prog 74 #[.int .i64 a] w fun e w' => e = .returned (.int .i64 (max a (-a))) ∧ w = w' := by
  go_enter Try.func74, Try.ntmps74
  go_wp2_with (go_at_call 88; refine (l1Most_any _ _ _).mono ?_; rintro e w' ⟨rfl, rfl⟩)
  go_ret
  exact ⟨rfl, rfl⟩
/-- The sum of the absolute differences, of the first k. -/
def ads (u v : List Int) : Nat → Int
  | 0 => 0
  | k + 1 => ads u v k + max (u.getD k 0 - v.getD k 0) (v.getD k 0 - u.getD k 0)
theorem ads_succ (u v : List Int) (k : Nat) : ads u v (k + 1) = ads u v k + max (u.getD k 0 - v.getD k 0) (v.getD k 0 - u.getD k 0) := rfl
theorem ads_bd {u v : List Int} (hu : Bd 1000000 u) (hv : Bd 1000000 v) (k : Nat) : 0 ≤ ads u v k ∧ ads u v k ≤ 2000000 * k := by
  induction k with
  | zero => simp [ads]
  | succ k ih =>
    have := hu k
    have := hv k
    simp only [ads]
    omega
def leF (ps a b : List Int) (lv : Int) : Int × Bool :=
  if valB 1000000 ps a && valB 1000000 ps b && decide ((lev ps lv).length ≠ 0) then (ads (vsAt a (lev ps lv)) (vsAt b (lev ps lv)) (lev ps lv).length, true) else (0, false)
theorem leF_a {ps a b : List Int} {lv : Int} (h : valB 1000000 ps a = false) : leF ps a b lv = (0, false) := by simp [leF, h]
theorem leF_b {ps a b : List Int} {lv : Int} (h : valB 1000000 ps b = false) : leF ps a b lv = (0, false) := by simp [leF, h]
theorem leF_0 {ps a b : List Int} {lv : Int} (h : (lev ps lv).length = 0) : leF ps a b lv = (0, false) := by
  have : decide ((lev ps lv).length ≠ 0) = false := by simp [h]
  rw [leF, this, Bool.and_false]; rfl
theorem leF_y {ps a b : List Int} {lv : Int} (h1 : valB 1000000 ps a = true) (h2 : valB 1000000 ps b = true) (h : (lev ps lv).length ≠ 0) :
    leF ps a b lv = (ads (vsAt a (lev ps lv)) (vsAt b (lev ps lv)) (lev ps lv).length, true) := by
  have : decide ((lev ps lv).length ≠ 0) = true := by simpa using h
  rw [leF, this, h1, h2]; rfl


set_option maxHeartbeats 2000000 in
theorem spec_LevelError_any {A A1 A2 : Option Addr} {l h l1 h1 l2 h2 n n1 n2 c c1 c2 : Nat} {ps a b : List Int} {lv : Int} {w : World} (ha : Ints w l h A n ps) (hb : Ints w l1 h1 A1 n1 a) (hc : Ints w l2 h2 A2 n2 b) (hlv : (Lit.int .i64 lv).wf = true) :
    Calls Try.prog 34 #[.agg #[.slice A n c], .slice A1 n1 c1, .slice A2 n2 c2, .int .i64 lv] w fun e w' => e = .returned (.tuple #[.int .i64 (leF ps a b lv).1, .bool (leF ps a b lv).2]) ∧ Keeps w w' := by
  clear hlv
  have hl := ha.1
  have hl1 := hb.1
  have hl2 := hc.1
  have hn := ha.le
  have k0 := keeps_alloc w (.cells #[.slice A n c] 37)
  obtain ⟨v1, H1⟩ : ∃ v, Hid (valB 1000000 ps a = v) := ⟨_, rfl⟩
  obtain ⟨v2, H2⟩ : ∃ v, Hid (valB 1000000 ps b = v) := ⟨_, rfl⟩
  cases v1
  · have HF := hid (leF_a (b := b) (lv := lv) H1.out)
    unfold valB at H1
    go_enter Try.func34, Try.ntmps34
    go_wp2_with fail
    refine (wInts_any (ha.keeps k0) (hb.keeps k0)).mono ?_
    rintro e w1 ⟨rfl, k1⟩
    rw [H1.out]
    have bx := box_keeps k1
    have kz := k0.trans k1
    go_wp2_with fail
    go_ret2
    exact ⟨ret_ib (by rw [HF.out]) (by rw [HF.out]), kz⟩
  cases v2
  · have HF := hid (leF_b (a := a) (lv := lv) H2.out)
    unfold valB at H1 H2
    go_enter Try.func34, Try.ntmps34
    go_wp2_with fail
    refine (wInts_any (ha.keeps k0) (hb.keeps k0)).mono ?_
    rintro e w1 ⟨rfl, k1⟩
    rw [H1.out]
    have bx := box_keeps k1
    have kz := k0.trans k1
    go_wp2_with fail
    refine (wInts_any ((ha.keeps k0).keeps k1) ((hc.keeps k0).keeps k1)).mono ?_
    rintro e w2 ⟨rfl, k2⟩
    rw [H2.out]
    replace bx := cell_keeps bx k2
    replace kz := kz.trans k2
    go_wp2_with fail
    go_ret2
    exact ⟨ret_ib (by rw [HF.out]) (by rw [HF.out]), kz⟩
  have hv1 := valB_true.1 H1.out
  have hv2 := valB_true.1 H2.out
  have HT := hid (tree_of hv1.1)
  by_cases hz : (lev ps lv).length = 0
  · have HF := hid (leF_0 (a := a) (b := b) hz)
    have t1 : (((lev ps lv).length : Int) == 0) = true := by simpa using hz
    unfold valB at H1 H2
    clear hz hv1 hv2
    go_enter Try.func34, Try.ntmps34
    go_wp2_with fail
    refine (wInts_any (ha.keeps k0) (hb.keeps k0)).mono ?_
    rintro e w1 ⟨rfl, k1⟩
    rw [H1.out]
    have bx := box_keeps k1
    have kz := k0.trans k1
    go_wp2_with fail
    refine (wInts_any ((ha.keeps k0).keeps k1) ((hc.keeps k0).keeps k1)).mono ?_
    rintro e w2 ⟨rfl, k2⟩
    rw [H2.out]
    replace bx := cell_keeps bx k2
    replace kz := kz.trans k2
    go_wp2_with fail
    refine (gLevel_any (((ha.keeps k0).keeps k1).keeps k2) HT.out).mono ?_
    rintro e w3 ⟨A3, c3, rfl, m3, k3⟩
    replace bx := cell_keeps bx k3
    replace kz := kz.trans k3
    go_wp2_with fail
    go_ret2
    exact ⟨ret_ib (by rw [HF.out]) (by rw [HF.out]), kz⟩
  have HF := hid (leF_y H1.out H2.out hz)
  have t1 : (((lev ps lv).length : Int) == 0) = false := by simp; intro h; rw [h] at hz; exact hz rfl
  obtain rfl : n1 = n := by omega
  obtain rfl : n2 = n1 := by omega
  obtain ⟨n, rfl⟩ : ∃ n, n = n2 := ⟨_, rfl⟩
  have hll : (lev ps lv).length ≤ n := by have := levTo_len ps lv ps.length; unfold lev; omega
  have HA := hid (within_bd hv1.2.2 (B := 1000000) (by omega) (by omega) (by omega))
  have HB := hid (within_bd hv2.2.2 (B := 1000000) (by omega) (by omega) (by omega))
  unfold valB at H1 H2
  clear hz hv1 hv2
  go_enter Try.func34, Try.ntmps34
  go_wp2_with fail
  refine (wInts_any (ha.keeps k0) (hb.keeps k0)).mono ?_
  rintro e w1 ⟨rfl, k1⟩
  rw [H1.out]
  have bx := box_keeps k1
  have kz := k0.trans k1
  go_wp2_with fail
  refine (wInts_any ((ha.keeps k0).keeps k1) ((hc.keeps k0).keeps k1)).mono ?_
  rintro e w2 ⟨rfl, k2⟩
  rw [H2.out]
  replace bx := cell_keeps bx k2
  replace kz := kz.trans k2
  go_wp2_with fail
  refine (gLevel_any (((ha.keeps k0).keeps k1).keeps k2) HT.out).mono ?_
  rintro e w3 ⟨A3, c3, rfl, m3, k3⟩
  replace bx := cell_keeps bx k3
  replace kz := kz.trans k3
  go_wp2_with fail
  refine (gLevel_any ((((ha.keeps k0).keeps k1).keeps k2).keeps k3) HT.out).mono ?_
  rintro e wz ⟨A4, c4, rfl, hm, k4⟩
  replace kz := kz.trans k4
  have va := ((((hb.keeps k0).keeps k1).keeps k2).keeps k3).keeps k4
  have vb := ((((hc.keeps k0).keeps k1).keeps k2).keeps k3).keeps k4
  clear ha hb hc k0 k1 k2 k3 k4 m3 bx hl1 hl2
  go_wp2_with fail
  go_loopw [10, 34] (fun s t wr => ∃ m : Nat, m ≤ (lev ps lv).length ∧ t = .int .i64 m ∧ s = .int .i64 (ads (vsAt a (lev ps lv)) (vsAt b (lev ps lv)) m) ∧ Quiet wz wr) (fun _ t _ => (lev ps lv).length - (intOf t).toNat)
  case atStart => exact ⟨0, Nat.zero_le _, rfl, rfl, Quiet.refl _⟩
  case round =>
    obtain ⟨m, hm1, rfl, rfl, hq⟩ := hrel
    by_cases hltm : m < (lev ps lv).length
    · obtain ⟨b2, off2, y, rfl, _, _, hy0, hy⟩ := (hm.1.quiet hq).at_ hltm
      obtain ⟨j, hj, hjn⟩ := lev_getD hltm
      obtain rfl : y = (j : Int) := hy.out.trans hj
      obtain ⟨b3, off3, x, rfl, _, _, hx0, hx⟩ := (va.quiet hq).at_ (k := j) (by omega)
      obtain ⟨b4, off4, z, rfl, _, _, hz0, hz⟩ := (vb.quiet hq).at_ (k := j) (by omega)
      have hj1 : (j : Int) < (n : Int) := by omega
      have E1 := hid (vsAt_getD (vs := a) hltm hj)
      have E2 := hid (vsAt_getD (vs := b) hltm hj)
      rw [← hx.out] at E1
      rw [← hz.out] at E2
      have g1 := HA.out j
      have g2 := HB.out j
      rw [← hx.out] at g1
      rw [← hz.out] at g2
      have g3 := ads_bd (vsAt_bd HA.out (by omega)) (vsAt_bd HB.out (by omega)) m (u := vsAt a (lev ps lv)) (v := vsAt b (lev ps lv))
      have HS := hid (ads_succ (vsAt a (lev ps lv)) (vsAt b (lev ps lv)) m)
      rw [E1.out, E2.out] at HS
      generalize ads (vsAt a (lev ps lv)) (vsAt b (lev ps lv)) m = s at *
      clear hj
      go_wp2_with fail
      go_quiet ((go_at_call 74; exact quietS (l1Abs_any (by omega) (by omega))))
      rw [show (-(x - z)) = z - x by omega]
      go_wp2
      go_roundw
      case rel => exact ⟨m + 1, by omega, by go_num, by rw [HS.out], hq.step _⟩
      case measure => simp [intOf]; omega
    · obtain rfl : m = (lev ps lv).length := by omega
      go_wp2
      go_ret2
      exact ⟨ret_ib (by rw [HF.out]) (by rw [HF.out]), kz.trans hq.keeps⟩
set_option maxHeartbeats 2000000 in
theorem impl_LevelError_any {A A1 A2 : Option Addr} {l h l1 h1 l2 h2 n n1 n2 c c1 c2 : Nat} {ps a b : List Int} {lv : Int} {w : World} (ha : Ints w l h A n ps) (hb : Ints w l1 h1 A1 n1 a) (hc : Ints w l2 h2 A2 n2 b) (hlv : (Lit.int .i64 lv).wf = true) :
    Calls Try.prog 35 #[.agg #[.slice A n c], .slice A1 n1 c1, .slice A2 n2 c2, .int .i64 lv] w fun e w' => e = .returned (.tuple #[.int .i64 (leF ps a b lv).1, .bool (leF ps a b lv).2]) ∧ Keeps w w' := by
  clear hlv
  have hl := ha.1
  have hl1 := hb.1
  have hl2 := hc.1
  have hn := ha.le
  have hn1 := hb.le
  have hn2 := hc.le
  have k0 := keeps_alloc w (.cells #[.slice A n c] 37)
  cases hg : geoB ps with
  | false =>
    have HF := hid (leF_a (b := b) (lv := lv) (valB_geo (vs := a) (B := 1000000) hg))
    have HG := hid hg
    clear hg
    go_enter Try.func35, Try.ntmps35
    go_wp2_with fail
    refine (IsGeo_any (ha.keeps k0)).mono ?_
    rintro e w1 ⟨rfl, k1⟩
    rw [HG.out]
    have bx := box_keeps k1
    have kz := k0.trans k1
    have va := (hb.keeps k0).keeps k1
    have vb := (hc.keeps k0).keeps k1
    go_wp2_with fail
    go_ret2
    exact ⟨ret_ib (by rw [HF.out]) (by rw [HF.out]), kz⟩
  | true =>
    have HG := hid hg
    have HT := hid (tree_of hg)
    have HV1 := hid (smallB_valB (vs := a) hg)
    have HV2 := hid (smallB_valB (vs := b) hg)
    rw [hl] at HV1 HV2
    clear hg
    obtain ⟨v1, H1⟩ : ∃ v, Hid (smallB a n = v) := ⟨_, rfl⟩
    obtain ⟨v2, H2⟩ : ∃ v, Hid (smallB b n = v) := ⟨_, rfl⟩
    cases v1
    · have HF := hid (leF_a (b := b) (lv := lv) (HV1.out.symm.trans H1.out))
      go_enter Try.func35, Try.ntmps35
      go_wp2_with fail
      refine (IsGeo_any (ha.keeps k0)).mono ?_
      rintro e w1 ⟨rfl, k1⟩
      rw [HG.out]
      have bx := box_keeps k1
      have kz := k0.trans k1
      have va := (hb.keeps k0).keeps k1
      have vb := (hc.keeps k0).keeps k1
      go_wp2_with fail
      refine (areSmallIntegers_any va hn).mono ?_
      rintro e w2 ⟨rfl, rfl⟩
      rw [H1.out]
      go_wp2_with fail
      go_ret2
      exact ⟨ret_ib (by rw [HF.out]) (by rw [HF.out]), kz⟩
    cases v2
    · have HF := hid (leF_b (a := a) (lv := lv) (HV2.out.symm.trans H2.out))
      go_enter Try.func35, Try.ntmps35
      go_wp2_with fail
      refine (IsGeo_any (ha.keeps k0)).mono ?_
      rintro e w1 ⟨rfl, k1⟩
      rw [HG.out]
      have bx := box_keeps k1
      have kz := k0.trans k1
      have va := (hb.keeps k0).keeps k1
      have vb := (hc.keeps k0).keeps k1
      go_wp2_with fail
      refine (areSmallIntegers_any va hn).mono ?_
      rintro e w2 ⟨rfl, rfl⟩
      rw [H1.out]
      go_wp2_with fail
      refine (areSmallIntegers_any vb hn).mono ?_
      rintro e w2 ⟨rfl, rfl⟩
      rw [H2.out]
      go_wp2_with fail
      go_ret2
      exact ⟨ret_ib (by rw [HF.out]) (by rw [HF.out]), kz⟩
    have hv1 := valB_true.1 (HV1.out.symm.trans H1.out)
    have hv2 := valB_true.1 (HV2.out.symm.trans H2.out)
    have HA := hid (within_bd hv1.2.2 (B := 1000000) (by omega) (by omega) (by omega))
    have HB := hid (within_bd hv2.2.2 (B := 1000000) (by omega) (by omega) (by omega))
    obtain rfl : n1 = n := by omega
    obtain rfl : n2 = n1 := by omega
    obtain ⟨n, rfl⟩ : ∃ n, n = n2 := ⟨_, rfl⟩
    clear hv1 hv2
    have hll : (lev ps lv).length ≤ n := by have := levTo_len ps lv ps.length; unfold lev; omega
    by_cases hz : (lev ps lv).length = 0
    · have HF := hid (leF_0 (a := a) (b := b) hz)
      have t1 : ¬ (0 : Int) < ((lev ps lv).length : Int) := by omega
      have t2 : ¬ (0 : Int) < ((lev ps lv).length : Int) := by omega
      go_enter Try.func35, Try.ntmps35
      go_wp2_with fail
      refine (IsGeo_any (ha.keeps k0)).mono ?_
      rintro e w1 ⟨rfl, k1⟩
      rw [HG.out]
      have bx := box_keeps k1
      have kz := k0.trans k1
      have va := (hb.keeps k0).keeps k1
      have vb := (hc.keeps k0).keeps k1
      go_wp2_with fail
      refine (areSmallIntegers_any va hn).mono ?_
      rintro e w2 ⟨rfl, rfl⟩
      rw [H1.out]
      go_wp2_with fail
      refine (areSmallIntegers_any vb hn).mono ?_
      rintro e w2 ⟨rfl, rfl⟩
      rw [H2.out]
      go_wp2_with fail
      refine (areasAt_any ((ha.keeps k0).keeps k1) HT.out).mono ?_
      rintro e wz ⟨A3, c3, rfl, hm, k3⟩
      replace kz := kz.trans k3
      replace va := va.keeps k3
      replace vb := vb.keeps k3
      go_wp2_with fail
      have hz2 := hid hz
      clear hz
      refine wp_loop_rounds 1 ?_
      rw [rounds_succ]
      go_wp2
      go_ret2
      exact ⟨ret_ib (by rw [HF.out]) (by rw [HF.out]), kz⟩
    have HF := hid (leF_y (a := a) (b := b) (HV1.out.symm.trans H1.out) (HV2.out.symm.trans H2.out) hz)
    have t1 : (0 : Int) < ((lev ps lv).length : Int) := by omega
    clear hz
    go_enter Try.func35, Try.ntmps35
    go_wp2_with fail
    refine (IsGeo_any (ha.keeps k0)).mono ?_
    rintro e w1 ⟨rfl, k1⟩
    rw [HG.out]
    have bx := box_keeps k1
    have kz := k0.trans k1
    have va := (hb.keeps k0).keeps k1
    have vb := (hc.keeps k0).keeps k1
    go_wp2_with fail
    refine (areSmallIntegers_any va hn).mono ?_
    rintro e w2 ⟨rfl, rfl⟩
    rw [H1.out]
    go_wp2_with fail
    refine (areSmallIntegers_any vb hn).mono ?_
    rintro e w2 ⟨rfl, rfl⟩
    rw [H2.out]
    go_wp2_with fail
    refine (areasAt_any ((ha.keeps k0).keeps k1) HT.out).mono ?_
    rintro e wz ⟨A3, c3, rfl, hm, k3⟩
    replace kz := kz.trans k3
    replace va := va.keeps k3
    replace vb := vb.keeps k3
    go_wp2_with fail
    clear ha hb hc k0 k1 k3 bx hl1 hl2
    go_loopw [11, 38] (fun s t wr => ∃ m : Nat, m ≤ (lev ps lv).length ∧ t = .int .i64 m ∧ s = .int .i64 (ads (vsAt a (lev ps lv)) (vsAt b (lev ps lv)) m) ∧ Quiet wz wr) (fun _ t _ => (lev ps lv).length - (intOf t).toNat)
    case atStart => exact ⟨0, Nat.zero_le _, rfl, rfl, Quiet.refl _⟩
    case round =>
      obtain ⟨m, hm1, rfl, rfl, hq⟩ := hrel
      by_cases hltm : m < (lev ps lv).length
      · obtain ⟨b2, off2, y, rfl, _, _, hy0, hy⟩ := (hm.1.quiet hq).at_ hltm
        obtain ⟨j, hj, hjn⟩ := lev_getD hltm
        obtain rfl : y = (j : Int) := hy.out.trans hj
        obtain ⟨b3, off3, x, rfl, _, _, hx0, hx⟩ := (va.quiet hq).at_ (k := j) (by omega)
        obtain ⟨b4, off4, z, rfl, _, _, hz0, hz⟩ := (vb.quiet hq).at_ (k := j) (by omega)
        have hj1 : (j : Int) < (n : Int) := by omega
        have E1 := hid (vsAt_getD (vs := a) hltm hj)
        have E2 := hid (vsAt_getD (vs := b) hltm hj)
        rw [← hx.out] at E1
        rw [← hz.out] at E2
        have g1 := HA.out j
        have g2 := HB.out j
        rw [← hx.out] at g1
        rw [← hz.out] at g2
        have g3 := ads_bd (vsAt_bd HA.out (by omega)) (vsAt_bd HB.out (by omega)) m (u := vsAt a (lev ps lv)) (v := vsAt b (lev ps lv))
        have HS := hid (ads_succ (vsAt a (lev ps lv)) (vsAt b (lev ps lv)) m)
        rw [E1.out, E2.out] at HS
        generalize ads (vsAt a (lev ps lv)) (vsAt b (lev ps lv)) m = s at *
        clear hj
        go_wp2_with fail
        go_quiet (fail)
        rw [go_max]
        go_wp2
        go_roundw
        case rel => exact ⟨m + 1, by omega, by go_num, by rw [HS.out], hq.step _⟩
        case measure => simp [intOf]; omega
      · obtain rfl : m = (lev ps lv).length := by omega
        go_wp2
        go_ret2
        exact ⟨ret_ib (by rw [HF.out]) (by rw [HF.out]; simp; omega), kz.trans hq.keeps⟩

set_option maxRecDepth 100000 in
set_option maxHeartbeats 1000000 in
theorem FnExactLevelError_law (A0 : Option Addr) (n0 c0 : Nat) (z0 : List Int) (A1 : Option Addr) (n1 c1 : Nat) (z1 : List Int) (A2 : Option Addr) (n2 c2 : Nat) (z2 : List Int) (a3 : Int) (w : World) (wa0 : IntsArg w A0 n0 z0) (wa1 : IntsArg w A1 n1 z1) (wa2 : IntsArg w A2 n2 z2) (wa3 : (Lit.int .i64 a3).wf = true) :
    Calls Try.prog 9 #[.agg #[.slice A0 n0 c0], .slice A1 n1 c1, .slice A2 n2 c2, .int .i64 a3] w fun e w' => e = .returned (.bool true) ∧ Below w.heap.size w w' := by
  by_cases hn1 : n1 ≤ 1048576
  rotate_left
  · have hlt : (1048576 : Int) < (n1 : Int) := by omega
    go_enter Try.func9, Try.ntmps9
    go_wp2_with fail
    go_ret
    exact ⟨rfl, (keeps_refl w).trans (keeps_alloc w (.cells #[.slice A0 n0 c0] 34))⟩
  have h1 := wa1.ints (by omega)
  by_cases hn2 : n2 ≤ 1048576
  rotate_left
  · have hlt : (1048576 : Int) < (n2 : Int) := by omega
    go_enter Try.func9, Try.ntmps9
    go_wp2_with fail
    go_ret
    exact ⟨rfl, (keeps_refl w).trans (keeps_alloc w (.cells #[.slice A0 n0 c0] 34))⟩
  have h2 := wa2.ints (by omega)
  by_cases hn0 : n0 ≤ 1048576
  rotate_left
  · have hm := wa0.1
    go_enter Try.func9, Try.ntmps9
    go_wp2_with fail
    refine (szGeo_no _ _ _ _ _ hm (by omega) (by omega) (by omega)).mono ?_
    rintro e w1 ⟨rfl, k1⟩
    go_wp2_with fail
    go_ret
    exact ⟨rfl, alloc_keeps k1⟩
  have h0 := wa0.ints (by omega)
  obtain ⟨r0, r1, HR⟩ : ∃ r0 r1, Hid (leF z0 z1 z2 a3 = (r0, r1)) := ⟨_, _, rfl⟩
  go_enter Try.func9, Try.ntmps9
  go_wp2_with fail
  go_wp2_with fail
  refine (szGeo_ok _ _ _ _ _ (by omega) (by omega)).mono ?_
  rintro e w1 ⟨rfl, k1⟩
  have ba0 := box_keeps k1
  replace k1 := alloc_keeps k1
  have s1 := k1.size
  replace h1 := h1.keeps k1
  replace h2 := h2.keeps k1
  replace h0 := h0.keeps k1
  have bel := k1
  have sz := s1
  have t0 : ¬ ((1048576 : Int) - (n0 : Int) < 0) := by omega
  go_wp2_with fail
  refine (toGeo_any h0).mono ?_
  rintro e w2 ⟨By0, rfl, y0, k2⟩
  have s2 := k2.size
  replace h1 := h1.keeps k2
  replace h2 := h2.keeps k2
  replace h0 := h0.keeps k2
  replace ba0 := cell_keeps ba0 k2
  replace bel := below_keeps bel sz k2
  replace sz := Nat.le_trans sz s2
  go_wp2_with fail
  refine (toIntS_any h1).mono ?_
  rintro e w3 ⟨By1, rfl, y1, k3⟩
  have s3 := k3.size
  replace h1 := h1.keeps k3
  replace h2 := h2.keeps k3
  replace h0 := h0.keeps k3
  replace y0 := y0.keeps k3
  replace ba0 := cell_keeps ba0 k3
  replace bel := below_keeps bel sz k3
  replace sz := Nat.le_trans sz s3
  go_wp2_with fail
  refine (toIntS_any h2).mono ?_
  rintro e w4 ⟨By2, rfl, y2, k4⟩
  have s4 := k4.size
  replace h1 := h1.keeps k4
  replace h2 := h2.keeps k4
  replace h0 := h0.keeps k4
  replace y0 := y0.keeps k4
  replace y1 := y1.keeps k4
  replace ba0 := cell_keeps ba0 k4
  replace bel := below_keeps bel sz k4
  replace sz := Nat.le_trans sz s4
  go_wp2_with fail
  refine (spec_LevelError_any y0.1 y1.1 y2.1 wa3).mono ?_
  rintro e w5 ⟨rfl, k5⟩
  rw [HR.out]
  have s5 := k5.size
  replace h1 := h1.keeps k5
  replace h2 := h2.keeps k5
  replace h0 := h0.keeps k5
  replace y0 := y0.keeps k5
  replace y1 := y1.keeps k5
  replace y2 := y2.keeps k5
  replace ba0 := cell_keeps ba0 k5
  replace bel := below_keeps bel sz k5
  replace sz := Nat.le_trans sz s5
  clear y0
  clear y1
  clear y2
  go_wp2_with fail
  refine (toGeo_any h0).mono ?_
  rintro e w6 ⟨Bx0, rfl, x0, k6⟩
  have s6 := k6.size
  replace h1 := h1.keeps k6
  replace h2 := h2.keeps k6
  replace h0 := h0.keeps k6
  replace ba0 := cell_keeps ba0 k6
  replace bel := below_keeps bel sz k6
  replace sz := Nat.le_trans sz s6
  go_wp2_with fail
  refine (toIntS_any (h1.keeps (keeps_alloc _ _))).mono ?_
  rintro e w7 ⟨Bx1, rfl, x1, k7⟩
  have bx0 := box_keeps k7
  replace x1 := x1.widen (lo' := w6.heap.size) (by simp) (Nat.le_refl _) (Nat.le_refl _)
  replace k7 := alloc_keeps k7
  have s7 := k7.size
  replace h1 := h1.keeps k7
  replace h2 := h2.keeps k7
  replace h0 := h0.keeps k7
  replace x0 := x0.keeps k7
  replace ba0 := cell_keeps ba0 k7
  replace bel := below_keeps bel sz k7
  replace sz := Nat.le_trans sz s7
  go_wp2_with fail
  refine (toIntS_any h2).mono ?_
  rintro e w8 ⟨Bx2, rfl, x2, k8⟩
  have s8 := k8.size
  replace h1 := h1.keeps k8
  replace h2 := h2.keeps k8
  replace h0 := h0.keeps k8
  replace x0 := x0.keeps k8
  replace x1 := x1.keeps k8
  replace ba0 := cell_keeps ba0 k8
  replace bx0 := cell_keeps bx0 k8
  replace bel := below_keeps bel sz k8
  replace sz := Nat.le_trans sz s8
  go_wp2_with fail
  refine (impl_LevelError_any x0.1 x1.1 x2.1 wa3).mono ?_
  rintro e w9 ⟨rfl, k9⟩
  rw [HR.out]
  have s9 := k9.size
  replace h1 := h1.keeps k9
  replace h2 := h2.keeps k9
  replace h0 := h0.keeps k9
  replace x0 := x0.keeps k9
  replace x1 := x1.keeps k9
  replace x2 := x2.keeps k9
  replace ba0 := cell_keeps ba0 k9
  replace bx0 := cell_keeps bx0 k9
  replace bel := below_keeps bel sz k9
  replace sz := Nat.le_trans sz s9
  have e0 : (r0 != r0) = false := by simp
  have e1 : (r1 != r1) = false := by simp
  go_wp2_with fail
  go_region_held3 (fun w' => w'.cell? ⟨w6.heap.size, 0, none⟩ = some (.slice Bx0 n0 n0) ∧ w'.cell? ⟨w.heap.size, 0, none⟩ = some (.slice A0 n0 c0)) (first | exact ⟨bx0, ba0⟩ | exact ⟨q1, q2⟩ | exact ⟨q3, q4⟩ | go_keep)
    ((first | (go_at_call 27; refine (toGeo_any h0.drew).mono ?_; rintro e w10 ⟨Bt0, rfl, t0, k10⟩; have q1 := cell_keeps (w := w9.drew) bx0 k10; have q2 := cell_keeps (w := w9.drew) ba0 k10) | (go_at_call 29; refine (eqGeo_true (x0.1.drew.keeps k10) t0.1).mono ?_; rintro e w11 ⟨rfl, k11⟩; have q3 := cell_keeps q1 k11; have q4 := cell_keeps q2 k11)))
  clear q1 q2 q3 q4 t0
  replace k10 := (Keeps.drewN w9 1).trans k10
  have s10 := k10.size
  replace h1 := h1.keeps k10
  replace h2 := h2.keeps k10
  replace h0 := h0.keeps k10
  replace x0 := x0.keeps k10
  replace x1 := x1.keeps k10
  replace x2 := x2.keeps k10
  replace ba0 := cell_keeps ba0 k10
  replace bx0 := cell_keeps bx0 k10
  replace bel := below_keeps bel sz k10
  replace sz := Nat.le_trans sz s10
  have s11 := k11.size
  replace h1 := h1.keeps k11
  replace h2 := h2.keeps k11
  replace h0 := h0.keeps k11
  replace x0 := x0.keeps k11
  replace x1 := x1.keeps k11
  replace x2 := x2.keeps k11
  replace ba0 := cell_keeps ba0 k11
  replace bx0 := cell_keeps bx0 k11
  replace bel := below_keeps bel sz k11
  replace sz := Nat.le_trans sz s11
  go_wp2_with fail
  refine (toIntS_any h1).mono ?_
  rintro e w12 ⟨Bt1, rfl, t1, k12⟩
  have s12 := k12.size
  replace h1 := h1.keeps k12
  replace h2 := h2.keeps k12
  replace h0 := h0.keeps k12
  replace x0 := x0.keeps k12
  replace x1 := x1.keeps k12
  replace x2 := x2.keeps k12
  replace ba0 := cell_keeps ba0 k12
  replace bx0 := cell_keeps bx0 k12
  replace bel := below_keeps bel sz k12
  replace sz := Nat.le_trans sz s12
  go_wp2_with fail
  refine (eqIntS_true x1.1 t1.1).mono ?_
  rintro e w13 ⟨rfl, k13⟩
  replace k13 := Quiet.keeps k13
  have s13 := k13.size
  replace h1 := h1.keeps k13
  replace h2 := h2.keeps k13
  replace h0 := h0.keeps k13
  replace x0 := x0.keeps k13
  replace x1 := x1.keeps k13
  replace x2 := x2.keeps k13
  replace t1 := t1.keeps k13
  replace ba0 := cell_keeps ba0 k13
  replace bx0 := cell_keeps bx0 k13
  replace bel := below_keeps bel sz k13
  replace sz := Nat.le_trans sz s13
  clear t1
  go_wp2_with fail
  refine (toIntS_any h2).mono ?_
  rintro e w14 ⟨Bt2, rfl, t2, k14⟩
  have s14 := k14.size
  replace h1 := h1.keeps k14
  replace h2 := h2.keeps k14
  replace h0 := h0.keeps k14
  replace x0 := x0.keeps k14
  replace x1 := x1.keeps k14
  replace x2 := x2.keeps k14
  replace ba0 := cell_keeps ba0 k14
  replace bx0 := cell_keeps bx0 k14
  replace bel := below_keeps bel sz k14
  replace sz := Nat.le_trans sz s14
  go_wp2_with fail
  refine (eqIntS_true x2.1 t2.1).mono ?_
  rintro e w15 ⟨rfl, k15⟩
  replace k15 := Quiet.keeps k15
  have s15 := k15.size
  replace h1 := h1.keeps k15
  replace h2 := h2.keeps k15
  replace h0 := h0.keeps k15
  replace x0 := x0.keeps k15
  replace x1 := x1.keeps k15
  replace x2 := x2.keeps k15
  replace t2 := t2.keeps k15
  replace ba0 := cell_keeps ba0 k15
  replace bx0 := cell_keeps bx0 k15
  replace bel := below_keeps bel sz k15
  replace sz := Nat.le_trans sz s15
  clear t2
  go_wp2_with fail
  go_ret
  exact ⟨rfl, bel⟩
end Go.Proofs.Ytdfpgohfnabflaa
