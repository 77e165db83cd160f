/- KeptTotals and LevelError, of the reference and of the program; and the laws. -/
import Derived.Test.YtdfpgohfnabflaaLevel
import Derived.Test.YtdfpgohfnabflaaBounds
namespace Go.Proofs.Ytdfpgohfnabflaa
open Go.RowKit
set_option linter.unusedVariables false
set_option linter.unusedSimpArgs false

def valB (B : Int) (ps vs : List Int) : Bool := geoB ps && (decide (vs.length = ps.length) && within (-B) B vs)
theorem valB_geo {B : Int} {ps vs : List Int} (h : geoB ps = false) : valB B ps vs = false := by simp [valB, h]
theorem valB_len {B : Int} {ps vs : List Int} (h : vs.length ≠ ps.length) : valB B ps vs = false := by simp [valB, h]
theorem valB_in {B : Int} {ps vs : List Int} (h : within (-B) B vs = false) : valB B ps vs = false := by simp [valB, h]
theorem valB_true {B : Int} {ps vs : List Int} : valB B ps vs = true ↔ geoB ps = true ∧ vs.length = ps.length ∧ within (-B) B vs = true := by simp [valB]
theorem smallB_valB {ps vs : List Int} (h : geoB ps = true) : smallB vs ps.length = valB 1000000 ps vs := by simp [valB, smallB, h]

def SameTo (u v : List Int) (k : Nat) : Prop := ∀ m, m < k → u.getD m 0 = v.getD m 0
theorem sameTo_succ {u v : List Int} {k : Nat} (h : SameTo u v k) (h1 : u.getD k 0 = v.getD k 0) : SameTo u v (k + 1) := by
  intro m hm
  by_cases hk : m = k
  · subst hk; exact h1
  · exact h m (by omega)
theorem same_all {u v : List Int} (hl : u.length = v.length) (h : SameTo u v u.length) : (u == v) = true := by
  rw [beq_iff_eq]
  apply List.ext_getElem hl
  intro i h1 h2
  have := h i h1
  simpa [List.getD, h1, h2] using this
theorem same_no {u v : List Int} {k : Nat} (h : u.getD k 0 ≠ v.getD k 0) : (u == v) = false := by
  rw [beq_eq_false_iff_ne]; intro e; exact h (by rw [e])

def ktF (ps a b : List Int) (lv : Int) : Bool × Bool :=
  if valB 100000 ps a && valB 100000 ps b && decide ((lev ps lv).length ≠ 0) then (vsAt a (lev ps lv) == vsAt b (lev ps lv), true) else (false, false)
theorem ktF_a {ps a b : List Int} {lv : Int} (h : valB 100000 ps a = false) : ktF ps a b lv = (false, false) := by simp [ktF, h]
theorem ktF_b {ps a b : List Int} {lv : Int} (h : valB 100000 ps b = false) : ktF ps a b lv = (false, false) := by simp [ktF, h]
theorem ktF_0 {ps a b : List Int} {lv : Int} (h : (lev ps lv).length = 0) : ktF ps a b lv = (false, false) := by
  have : decide ((lev ps lv).length ≠ 0) = false := by simp [h]
  rw [ktF, this, Bool.and_false]; rfl
theorem ktF_y {ps a b : List Int} {lv : Int} (h1 : valB 100000 ps a = true) (h2 : valB 100000 ps b = true) (h : (lev ps lv).length ≠ 0) : ktF ps a b lv = (vsAt a (lev ps lv) == vsAt b (lev ps lv), true) := by
  have : decide ((lev ps lv).length ≠ 0) = true := by simpa using h
  rw [ktF, this, h1, h2]; rfl


set_option maxHeartbeats 2000000 in
theorem spec_KeptTotals_any {A A1 A2 : Option Addr} {l h l1 h1 l2 h2 n n1 n2 c c1 c2 : Nat} {ps a b : List Int} {lv : Int} {w : World} (ha : Ints w l h A n ps) (hb : Ints w l1 h1 A1 n1 a) (hc : Ints w l2 h2 A2 n2 b) (hlv : (Lit.int .i64 lv).wf = true) :
    Calls Try.prog 32 #[.agg #[.slice A n c], .slice A1 n1 c1, .slice A2 n2 c2, .int .i64 lv] w fun e w' => e = .returned (.tuple #[.bool (ktF ps a b lv).1, .bool (ktF ps a b lv).2]) ∧ Keeps w w' := by
  clear hlv
  have hl := ha.1
  have hl1 := hb.1
  have hl2 := hc.1
  have hn := ha.le
  have k0 := keeps_alloc w (.cells #[.slice A n c] 37)
  obtain ⟨v1, H1⟩ : ∃ v, Hid (valB 100000 ps a = v) := ⟨_, rfl⟩
  obtain ⟨v2, H2⟩ : ∃ v, Hid (valB 100000 ps b = v) := ⟨_, rfl⟩
  cases v1
  · have HF := hid (ktF_a (b := b) (lv := lv) H1.out)
    unfold valB at H1
    go_enter Try.func32, Try.ntmps32
    go_wp2_with fail
    refine (iValues_any (ha.keeps k0) (hb.keeps k0)).mono ?_
    rintro e w1 ⟨rfl, k1⟩
    rw [H1.out]
    have bx := box_keeps k1
    have kz := k0.trans k1
    go_wp2_with fail
    go_ret2
    exact ⟨ret_bb (by rw [HF.out]) (by rw [HF.out]), kz⟩
  cases v2
  · have HF := hid (ktF_b (a := a) (lv := lv) H2.out)
    unfold valB at H1 H2
    go_enter Try.func32, Try.ntmps32
    go_wp2_with fail
    refine (iValues_any (ha.keeps k0) (hb.keeps k0)).mono ?_
    rintro e w1 ⟨rfl, k1⟩
    rw [H1.out]
    have bx := box_keeps k1
    have kz := k0.trans k1
    go_wp2_with fail
    refine (iValues_any ((ha.keeps k0).keeps k1) ((hc.keeps k0).keeps k1)).mono ?_
    rintro e w2 ⟨rfl, k2⟩
    rw [H2.out]
    replace bx := cell_keeps bx k2
    replace kz := kz.trans k2
    go_wp2_with fail
    go_ret2
    exact ⟨ret_bb (by rw [HF.out]) (by rw [HF.out]), kz⟩
  have hv1 := valB_true.1 H1.out
  have hv2 := valB_true.1 H2.out
  have HT := hid (tree_of hv1.1)
  by_cases hz : (lev ps lv).length = 0
  · have HF := hid (ktF_0 (a := a) (b := b) hz)
    have t1 : (((lev ps lv).length : Int) == 0) = true := by simpa using hz
    unfold valB at H1 H2
    clear hz hv1 hv2
    go_enter Try.func32, Try.ntmps32
    go_wp2_with fail
    refine (iValues_any (ha.keeps k0) (hb.keeps k0)).mono ?_
    rintro e w1 ⟨rfl, k1⟩
    rw [H1.out]
    have bx := box_keeps k1
    have kz := k0.trans k1
    go_wp2_with fail
    refine (iValues_any ((ha.keeps k0).keeps k1) ((hc.keeps k0).keeps k1)).mono ?_
    rintro e w2 ⟨rfl, k2⟩
    rw [H2.out]
    replace bx := cell_keeps bx k2
    replace kz := kz.trans k2
    go_wp2_with fail
    refine (gLevel_any (((ha.keeps k0).keeps k1).keeps k2) HT.out).mono ?_
    rintro e w3 ⟨A3, c3, rfl, m3, k3⟩
    replace bx := cell_keeps bx k3
    replace kz := kz.trans k3
    go_wp2_with fail
    go_ret2
    exact ⟨ret_bb (by rw [HF.out]) (by rw [HF.out]), kz⟩
  have HF := hid (ktF_y H1.out H2.out hz)
  have t1 : (((lev ps lv).length : Int) == 0) = false := by simp; intro h; rw [h] at hz; exact hz rfl
  obtain rfl : n1 = n := by omega
  obtain rfl : n2 = n1 := by omega
  obtain ⟨n, rfl⟩ : ∃ n, n = n2 := ⟨_, rfl⟩
  have hll : (lev ps lv).length ≤ n := by have := levTo_len ps lv ps.length; unfold lev; omega
  unfold valB at H1 H2
  clear hz hv1 hv2
  go_enter Try.func32, Try.ntmps32
  go_wp2_with fail
  refine (iValues_any (ha.keeps k0) (hb.keeps k0)).mono ?_
  rintro e w1 ⟨rfl, k1⟩
  rw [H1.out]
  have bx := box_keeps k1
  have kz := k0.trans k1
  go_wp2_with fail
  refine (iValues_any ((ha.keeps k0).keeps k1) ((hc.keeps k0).keeps k1)).mono ?_
  rintro e w2 ⟨rfl, k2⟩
  rw [H2.out]
  replace bx := cell_keeps bx k2
  replace kz := kz.trans k2
  go_wp2_with fail
  refine (gLevel_any (((ha.keeps k0).keeps k1).keeps k2) HT.out).mono ?_
  rintro e w3 ⟨A3, c3, rfl, m3, k3⟩
  replace bx := cell_keeps bx k3
  replace kz := kz.trans k3
  go_wp2_with fail
  refine (gLevel_any ((((ha.keeps k0).keeps k1).keeps k2).keeps k3) HT.out).mono ?_
  rintro e wz ⟨A4, c4, rfl, hm, k4⟩
  replace kz := kz.trans k4
  have va := ((((hb.keeps k0).keeps k1).keeps k2).keeps k3).keeps k4
  have vb := ((((hc.keeps k0).keeps k1).keeps k2).keeps k3).keeps k4
  clear ha hb hc k0 k1 k2 k3 k4 m3 bx hl1 hl2
  go_wp2_with fail
  go_loopw [33] (fun t wr => ∃ m : Nat, m ≤ (lev ps lv).length ∧ t = .int .i64 m ∧ Hid (SameTo (vsAt a (lev ps lv)) (vsAt b (lev ps lv)) m) ∧ Quiet wz wr) (fun t _ => (lev ps lv).length - (intOf t).toNat)
  case atStart => exact ⟨0, Nat.zero_le _, rfl, fun m hm => absurd hm (by omega), Quiet.refl _⟩
  case round =>
    obtain ⟨m, hm1, rfl, hsame, hq⟩ := hrel
    by_cases hltm : m < (lev ps lv).length
    · obtain ⟨b2, off2, y, rfl, _, _, hy0, hy⟩ := (hm.1.quiet hq).at_ hltm
      obtain ⟨j, hj, hjn⟩ := lev_getD hltm
      obtain rfl : y = (j : Int) := hy.out.trans hj
      obtain ⟨b3, off3, x, rfl, _, _, hx0, hx⟩ := (va.quiet hq).at_ (k := j) (by omega)
      obtain ⟨b4, off4, z, rfl, _, _, hz0, hz⟩ := (vb.quiet hq).at_ (k := j) (by omega)
      have hj1 : (j : Int) < (n : Int) := by omega
      have E1 := hid (vsAt_getD (vs := a) hltm hj)
      have E2 := hid (vsAt_getD (vs := b) hltm hj)
      rw [← hx.out] at E1
      rw [← hz.out] at E2
      clear hj
      by_cases hxz : x = z
      · have t1 : (x != z) = false := by simp [hxz]
        have HS := hid (sameTo_succ hsame.out (by rw [E1.out, E2.out, hxz]))
        clear hxz
        go_wp2_with fail
        go_quiet (fail)
        go_wp2
        go_roundw
        case rel => exact ⟨m + 1, by omega, by go_num, HS, hq.step _⟩
        case measure => simp [intOf]; omega
      · have t1 : (x != z) = true := by simp [hxz]
        have HS := hid (same_no (u := vsAt a (lev ps lv)) (v := vsAt b (lev ps lv)) (k := m) (by rw [E1.out, E2.out]; exact hxz))
        clear hxz
        go_wp2_with fail
        go_quiet (fail)
        go_wp2
        go_ret2
        exact ⟨ret_bb (by rw [HF.out, HS.out]) (by rw [HF.out]), kz.trans (hq.step _).keeps⟩
    · obtain rfl : m = (lev ps lv).length := by omega
      have HS := hid (same_all (u := vsAt a (lev ps lv)) (v := vsAt b (lev ps lv)) (by rw [vsAt_len, vsAt_len]) (by rw [vsAt_len]; exact hsame.out))
      go_wp2
      go_ret2
      exact ⟨ret_bb (by rw [HF.out, HS.out]) (by rw [HF.out]), kz.trans hq.keeps⟩
set_option maxHeartbeats 2000000 in
theorem impl_KeptTotals_any {A A1 A2 : Option Addr} {l h l1 h1 l2 h2 n n1 n2 c c1 c2 : Nat} {ps a b : List Int} {lv : Int} {w : World} (ha : Ints w l h A n ps) (hb : Ints w l1 h1 A1 n1 a) (hc : Ints w l2 h2 A2 n2 b) (hlv : (Lit.int .i64 lv).wf = true) :
    Calls Try.prog 33 #[.agg #[.slice A n c], .slice A1 n1 c1, .slice A2 n2 c2, .int .i64 lv] w fun e w' => e = .returned (.tuple #[.bool (ktF ps a b lv).1, .bool (ktF ps a b lv).2]) ∧ Keeps w w' := by
  clear hlv
  have hl := ha.1
  have hl1 := hb.1
  have hl2 := hc.1
  have hn := ha.le
  have hn1 := hb.le
  have hn2 := hc.le
  have k0 := keeps_alloc w (.cells #[.slice A n c] 37)
  cases hg : geoB ps with
  | false =>
    have HF := hid (ktF_a (b := b) (lv := lv) (valB_geo (vs := a) (B := 100000) hg))
    have HG := hid hg
    clear hg
    go_enter Try.func33, Try.ntmps33
    go_wp2_with fail
    refine (IsGeo_any (ha.keeps k0)).mono ?_
    rintro e w1 ⟨rfl, k1⟩
    rw [HG.out]
    have bx := box_keeps k1
    have kz := k0.trans k1
    have va := (hb.keeps k0).keeps k1
    have vb := (hc.keeps k0).keeps k1
    go_wp2_with fail
    go_ret2
    exact ⟨ret_bb (by rw [HF.out]) (by rw [HF.out]), kz⟩
  | true =>
    have HG := hid hg
    have HT := hid (tree_of hg)
    clear hg
    by_cases e1 : n1 = n
    rotate_left
    · have HF := hid (ktF_a (b := b) (lv := lv) (valB_len (B := 100000) (ps := ps) (vs := a) (by omega)))
      have t1 : ((n1 : Int) != (n : Int)) = true := by rw [bne_iff_ne]; omega
      clear e1
      go_enter Try.func33, Try.ntmps33
      go_wp2_with fail
      refine (IsGeo_any (ha.keeps k0)).mono ?_
      rintro e w1 ⟨rfl, k1⟩
      rw [HG.out]
      have bx := box_keeps k1
      have kz := k0.trans k1
      have va := (hb.keeps k0).keeps k1
      have vb := (hc.keeps k0).keeps k1
      go_wp2_with fail
      go_ret2
      exact ⟨ret_bb (by rw [HF.out]) (by rw [HF.out]), kz⟩
    subst e1
    by_cases e2 : n2 = n1
    rotate_left
    · have HF := hid (ktF_b (a := a) (lv := lv) (valB_len (B := 100000) (ps := ps) (vs := b) (by omega)))
      have t1 : ((n2 : Int) != (n1 : Int)) = true := by rw [bne_iff_ne]; omega
      have t2 : ((n1 : Int) != (n1 : Int)) = false := by simp
      clear e2
      go_enter Try.func33, Try.ntmps33
      go_wp2_with fail
      refine (IsGeo_any (ha.keeps k0)).mono ?_
      rintro e w1 ⟨rfl, k1⟩
      rw [HG.out]
      have bx := box_keeps k1
      have kz := k0.trans k1
      have va := (hb.keeps k0).keeps k1
      have vb := (hc.keeps k0).keeps k1
      go_wp2_with fail
      go_ret2
      exact ⟨ret_bb (by rw [HF.out]) (by rw [HF.out]), kz⟩
    subst e2
    obtain ⟨n, rfl⟩ : ∃ n, n = n2 := ⟨_, rfl⟩
    have t2 : ((n : Int) != (n : Int)) = false := by simp
    obtain ⟨v1, H1⟩ : ∃ v, Hid (within (-100000) 100000 a = v) := ⟨_, rfl⟩
    obtain ⟨v2, H2⟩ : ∃ v, Hid (within (-100000) 100000 b = v) := ⟨_, rfl⟩
    cases v1
    · have HF := hid (ktF_a (b := b) (lv := lv) (valB_in (ps := ps) H1.out))
      go_enter Try.func33, Try.ntmps33
      go_wp2_with fail
      refine (IsGeo_any (ha.keeps k0)).mono ?_
      rintro e w1 ⟨rfl, k1⟩
      rw [HG.out]
      have bx := box_keeps k1
      have kz := k0.trans k1
      have va := (hb.keeps k0).keeps k1
      have vb := (hc.keeps k0).keeps k1
      go_wp2_with fail
      refine (areWithin_any _ _ _ _ _ _ _ _ _ va).mono ?_
      rintro e w2 ⟨rfl, rfl⟩
      rw [H1.out]
      go_wp2_with fail
      go_ret2
      exact ⟨ret_bb (by rw [HF.out]) (by rw [HF.out]), kz⟩
    cases v2
    · have HF := hid (ktF_b (a := a) (lv := lv) (valB_in (ps := ps) H2.out))
      go_enter Try.func33, Try.ntmps33
      go_wp2_with fail
      refine (IsGeo_any (ha.keeps k0)).mono ?_
      rintro e w1 ⟨rfl, k1⟩
      rw [HG.out]
      have bx := box_keeps k1
      have kz := k0.trans k1
      have va := (hb.keeps k0).keeps k1
      have vb := (hc.keeps k0).keeps k1
      go_wp2_with fail
      refine (areWithin_any _ _ _ _ _ _ _ _ _ va).mono ?_
      rintro e w2 ⟨rfl, rfl⟩
      rw [H1.out]
      go_wp2_with fail
      refine (areWithin_any _ _ _ _ _ _ _ _ _ vb).mono ?_
      rintro e w2 ⟨rfl, rfl⟩
      rw [H2.out]
      go_wp2_with fail
      go_ret2
      exact ⟨ret_bb (by rw [HF.out]) (by rw [HF.out]), kz⟩
    by_cases hz : (lev ps lv).length = 0
    · have HF := hid (ktF_0 (a := a) (b := b) hz)
      have t1 : (((lev ps lv).length : Int) == 0) = true := by simpa using hz
      clear hz
      go_enter Try.func33, Try.ntmps33
      go_wp2_with fail
      refine (IsGeo_any (ha.keeps k0)).mono ?_
      rintro e w1 ⟨rfl, k1⟩
      rw [HG.out]
      have bx := box_keeps k1
      have kz := k0.trans k1
      have va := (hb.keeps k0).keeps k1
      have vb := (hc.keeps k0).keeps k1
      go_wp2_with fail
      refine (areWithin_any _ _ _ _ _ _ _ _ _ va).mono ?_
      rintro e w2 ⟨rfl, rfl⟩
      rw [H1.out]
      go_wp2_with fail
      refine (areWithin_any _ _ _ _ _ _ _ _ _ vb).mono ?_
      rintro e w2 ⟨rfl, rfl⟩
      rw [H2.out]
      go_wp2_with fail
      refine (areasAt_any ((ha.keeps k0).keeps k1) HT.out).mono ?_
      rintro e wz ⟨A3, c3, rfl, hm, k3⟩
      replace kz := kz.trans k3
      replace va := va.keeps k3
      replace vb := vb.keeps k3
      go_wp2_with fail
      go_ret2
      exact ⟨ret_bb (by rw [HF.out]) (by rw [HF.out]), kz⟩
    have HF := hid (ktF_y (a := a) (b := b) (valB_true.2 ⟨HG.out, by omega, H1.out⟩) (valB_true.2 ⟨HG.out, by omega, H2.out⟩) hz)
    have t1 : (((lev ps lv).length : Int) == 0) = false := by simp; intro h; rw [h] at hz; exact hz rfl
    have hll : (lev ps lv).length ≤ n := by have := levTo_len ps lv ps.length; unfold lev; omega
    clear hz
    go_enter Try.func33, Try.ntmps33
    go_wp2_with fail
    refine (IsGeo_any (ha.keeps k0)).mono ?_
    rintro e w1 ⟨rfl, k1⟩
    rw [HG.out]
    have bx := box_keeps k1
    have kz := k0.trans k1
    have va := (hb.keeps k0).keeps k1
    have vb := (hc.keeps k0).keeps k1
    go_wp2_with fail
    refine (areWithin_any _ _ _ _ _ _ _ _ _ va).mono ?_
    rintro e w2 ⟨rfl, rfl⟩
    rw [H1.out]
    go_wp2_with fail
    refine (areWithin_any _ _ _ _ _ _ _ _ _ vb).mono ?_
    rintro e w2 ⟨rfl, rfl⟩
    rw [H2.out]
    go_wp2_with fail
    refine (areasAt_any ((ha.keeps k0).keeps k1) HT.out).mono ?_
    rintro e wz ⟨A3, c3, rfl, hm, k3⟩
    replace kz := kz.trans k3
    replace va := va.keeps k3
    replace vb := vb.keeps k3
    go_wp2_with fail
    clear ha hb hc k0 k1 k3 bx hl1 hl2
    go_loopw [49] (fun t wr => ∃ m : Nat, m ≤ (lev ps lv).length ∧ t = .int .i64 m ∧ Hid (SameTo (vsAt a (lev ps lv)) (vsAt b (lev ps lv)) m) ∧ Quiet wz wr) (fun t _ => (lev ps lv).length - (intOf t).toNat)
    case atStart => exact ⟨0, Nat.zero_le _, rfl, fun m hm => absurd hm (by omega), Quiet.refl _⟩
    case round =>
      obtain ⟨m, hm1, rfl, hsame, hq⟩ := hrel
      by_cases hltm : m < (lev ps lv).length
      · obtain ⟨b2, off2, y, rfl, _, _, hy0, hy⟩ := (hm.1.quiet hq).at_ hltm
        obtain ⟨j, hj, hjn⟩ := lev_getD hltm
        obtain rfl : y = (j : Int) := hy.out.trans hj
        obtain ⟨b3, off3, x, rfl, _, _, hx0, hx⟩ := (va.quiet hq).at_ (k := j) (by omega)
        obtain ⟨b4, off4, z, rfl, _, _, hz0, hz⟩ := (vb.quiet hq).at_ (k := j) (by omega)
        have hj1 : (j : Int) < (n : Int) := by omega
        have E1 := hid (vsAt_getD (vs := a) hltm hj)
        have E2 := hid (vsAt_getD (vs := b) hltm hj)
        rw [← hx.out] at E1
        rw [← hz.out] at E2
        clear hj
        by_cases hxz : x = z
        · have t1 : (x != z) = false := by simp [hxz]
          have HS := hid (sameTo_succ hsame.out (by rw [E1.out, E2.out, hxz]))
          clear hxz
          go_wp2_with fail
          go_quiet (fail)
          go_wp2
          go_roundw
          case rel => exact ⟨m + 1, by omega, by go_num, HS, hq.step _⟩
          case measure => simp [intOf]; omega
        · have t1 : (x != z) = true := by simp [hxz]
          have HS := hid (same_no (u := vsAt a (lev ps lv)) (v := vsAt b (lev ps lv)) (k := m) (by rw [E1.out, E2.out]; exact hxz))
          clear hxz
          go_wp2_with fail
          go_quiet (fail)
          go_wp2
          go_ret2
          exact ⟨ret_bb (by rw [HF.out, HS.out]) (by rw [HF.out]), kz.trans (hq.step _).keeps⟩
      · obtain rfl : m = (lev ps lv).length := by omega
        have HS := hid (same_all (u := vsAt a (lev ps lv)) (v := vsAt b (lev ps lv)) (by rw [vsAt_len, vsAt_len]) (by rw [vsAt_len]; exact hsame.out))
        go_wp2
        go_ret2
        exact ⟨ret_bb (by rw [HF.out, HS.out]) (by rw [HF.out]), kz.trans hq.keeps⟩

set_option maxRecDepth 100000 in
set_option maxHeartbeats 1000000 in
theorem FnExactKeptTotals_law (A0 : Option Addr) (n0 c0 : Nat) (z0 : List Int) (A1 : Option Addr) (n1 c1 : Nat) (z1 : List Int) (A2 : Option Addr) (n2 c2 : Nat) (z2 : List Int) (a3 : Int) (w : World) (wa0 : IntsArg w A0 n0 z0) (wa1 : IntsArg w A1 n1 z1) (wa2 : IntsArg w A2 n2 z2) (wa3 : (Lit.int .i64 a3).wf = true) :
    Calls Try.prog 8 #[.agg #[.slice A0 n0 c0], .slice A1 n1 c1, .slice A2 n2 c2, .int .i64 a3] w fun e w' => e = .returned (.bool true) ∧ Below w.heap.size w w' := by
  by_cases hn1 : n1 ≤ 1048576
  rotate_left
  · have hlt : (1048576 : Int) < (n1 : Int) := by omega
    go_enter Try.func8, Try.ntmps8
    go_wp2_with fail
    go_ret
    exact ⟨rfl, (keeps_refl w).trans (keeps_alloc w (.cells #[.slice A0 n0 c0] 34))⟩
  have h1 := wa1.ints (by omega)
  by_cases hn2 : n2 ≤ 1048576
  rotate_left
  · have hlt : (1048576 : Int) < (n2 : Int) := by omega
    go_enter Try.func8, Try.ntmps8
    go_wp2_with fail
    go_ret
    exact ⟨rfl, (keeps_refl w).trans (keeps_alloc w (.cells #[.slice A0 n0 c0] 34))⟩
  have h2 := wa2.ints (by omega)
  by_cases hn0 : n0 ≤ 1048576
  rotate_left
  · have hm := wa0.1
    go_enter Try.func8, Try.ntmps8
    go_wp2_with fail
    refine (szGeo_no _ _ _ _ _ hm (by omega) (by omega) (by omega)).mono ?_
    rintro e w1 ⟨rfl, k1⟩
    go_wp2_with fail
    go_ret
    exact ⟨rfl, alloc_keeps k1⟩
  have h0 := wa0.ints (by omega)
  obtain ⟨r0, r1, HR⟩ : ∃ r0 r1, Hid (ktF z0 z1 z2 a3 = (r0, r1)) := ⟨_, _, rfl⟩
  go_enter Try.func8, Try.ntmps8
  go_wp2_with fail
  go_wp2_with fail
  refine (szGeo_ok _ _ _ _ _ (by omega) (by omega)).mono ?_
  rintro e w1 ⟨rfl, k1⟩
  have ba0 := box_keeps k1
  have sb1 := k1.size
  simp at sb1
  replace k1 := alloc_keeps k1
  have s1 := k1.size
  replace h1 := h1.keeps k1
  replace h2 := h2.keeps k1
  replace h0 := h0.keeps k1
  have bel := k1
  have sz := s1
  have t0 : ¬ ((1048576 : Int) - (n0 : Int) < 0) := by omega
  go_wp2_with fail
  refine (toGeo_any h0).mono ?_
  rintro e w2 ⟨By0, rfl, y0, k2⟩
  have s2 := k2.size
  replace h1 := h1.keeps k2
  replace h2 := h2.keeps k2
  replace h0 := h0.keeps k2
  replace ba0 := cell_keeps ba0 k2
  replace bel := below_keeps bel sz k2
  replace sz := Nat.le_trans sz s2
  go_wp2_with fail
  refine (toIntS_any h1).mono ?_
  rintro e w3 ⟨By1, rfl, y1, k3⟩
  have s3 := k3.size
  replace h1 := h1.keeps k3
  replace h2 := h2.keeps k3
  replace h0 := h0.keeps k3
  replace y0 := y0.keeps k3
  replace ba0 := cell_keeps ba0 k3
  replace bel := below_keeps bel sz k3
  replace sz := Nat.le_trans sz s3
  go_wp2_with fail
  refine (toIntS_any h2).mono ?_
  rintro e w4 ⟨By2, rfl, y2, k4⟩
  have s4 := k4.size
  replace h1 := h1.keeps k4
  replace h2 := h2.keeps k4
  replace h0 := h0.keeps k4
  replace y0 := y0.keeps k4
  replace y1 := y1.keeps k4
  replace ba0 := cell_keeps ba0 k4
  replace bel := below_keeps bel sz k4
  replace sz := Nat.le_trans sz s4
  go_wp2_with fail
  refine (spec_KeptTotals_any y0.1 y1.1 y2.1 wa3).mono ?_
  rintro e w5 ⟨rfl, k5⟩
  rw [HR.out]
  have s5 := k5.size
  replace h1 := h1.keeps k5
  replace h2 := h2.keeps k5
  replace h0 := h0.keeps k5
  replace y0 := y0.keeps k5
  replace y1 := y1.keeps k5
  replace y2 := y2.keeps k5
  replace ba0 := cell_keeps ba0 k5
  replace bel := below_keeps bel sz k5
  replace sz := Nat.le_trans sz s5
  clear y0
  clear y1
  clear y2
  go_wp2_with fail
  refine (toGeo_any h0).mono ?_
  rintro e w6 ⟨Bx0, rfl, x0, k6⟩
  have s6 := k6.size
  replace h1 := h1.keeps k6
  replace h2 := h2.keeps k6
  replace h0 := h0.keeps k6
  replace ba0 := cell_keeps ba0 k6
  replace bel := below_keeps bel sz k6
  replace sz := Nat.le_trans sz s6
  go_wp2_with fail
  refine (toIntS_any (h1.keeps (keeps_alloc _ _))).mono ?_
  rintro e w7 ⟨Bx1, rfl, x1, k7⟩
  have bx0 := box_keeps k7
  replace x1 := x1.widen (lo' := w6.heap.size + 1) (by simp) (Nat.le_refl _) (Nat.le_refl _)
  have sb7 := k7.size
  simp at sb7
  replace k7 := alloc_keeps k7
  have s7 := k7.size
  replace h1 := h1.keeps k7
  replace h2 := h2.keeps k7
  replace h0 := h0.keeps k7
  replace x0 := x0.keeps k7
  replace ba0 := cell_keeps ba0 k7
  replace bel := below_keeps bel sz k7
  replace sz := Nat.le_trans sz s7
  go_wp2_with fail
  refine (toIntS_any h2).mono ?_
  rintro e w8 ⟨Bx2, rfl, x2, k8⟩
  have s8 := k8.size
  replace h1 := h1.keeps k8
  replace h2 := h2.keeps k8
  replace h0 := h0.keeps k8
  replace x0 := x0.keeps k8
  replace x1 := x1.keeps k8
  replace ba0 := cell_keeps ba0 k8
  replace bx0 := cell_keeps bx0 k8
  replace bel := below_keeps bel sz k8
  replace sz := Nat.le_trans sz s8
  go_wp2_with fail
  refine (impl_KeptTotals_any x0.1 x1.1 x2.1 wa3).mono ?_
  rintro e w9 ⟨rfl, k9⟩
  rw [HR.out]
  have s9 := k9.size
  replace h1 := h1.keeps k9
  replace h2 := h2.keeps k9
  replace h0 := h0.keeps k9
  replace x0 := x0.keeps k9
  replace x1 := x1.keeps k9
  replace x2 := x2.keeps k9
  replace ba0 := cell_keeps ba0 k9
  replace bx0 := cell_keeps bx0 k9
  replace bel := below_keeps bel sz k9
  replace sz := Nat.le_trans sz s9
  have e0 : (r0 != r0) = false := by simp
  have e1 : (r1 != r1) = false := by simp
  go_wp2_with fail
  go_region_held3 (fun w' => w'.cell? ⟨w6.heap.size, 0, none⟩ = some (.slice Bx0 n0 n0) ∧ w'.cell? ⟨w.heap.size, 0, none⟩ = some (.slice A0 n0 c0)) (first | exact ⟨bx0, ba0⟩ | exact ⟨q1, q2⟩ | exact ⟨q3, q4⟩ | go_keep)
    ((first | (go_at_call 27; refine (toGeo_any h0.drew).mono ?_; rintro e w10 ⟨Bt0, rfl, t0, k10⟩; have q1 := cell_keeps (w := w9.drew) bx0 k10; have q2 := cell_keeps (w := w9.drew) ba0 k10) | (go_at_call 29; refine (eqGeo_true (x0.1.drew.keeps k10) t0.1).mono ?_; rintro e w11 ⟨rfl, k11⟩; have q3 := cell_keeps q1 k11; have q4 := cell_keeps q2 k11)))
  clear q1 q2 q3 q4 t0
  replace k10 := (Keeps.drewN w9 1).trans k10
  have s10 := k10.size
  replace h1 := h1.keeps k10
  replace h2 := h2.keeps k10
  replace h0 := h0.keeps k10
  replace x0 := x0.keeps k10
  replace x1 := x1.keeps k10
  replace x2 := x2.keeps k10
  replace ba0 := cell_keeps ba0 k10
  replace bx0 := cell_keeps bx0 k10
  replace bel := below_keeps bel sz k10
  replace sz := Nat.le_trans sz s10
  have s11 := k11.size
  replace h1 := h1.keeps k11
  replace h2 := h2.keeps k11
  replace h0 := h0.keeps k11
  replace x0 := x0.keeps k11
  replace x1 := x1.keeps k11
  replace x2 := x2.keeps k11
  replace ba0 := cell_keeps ba0 k11
  replace bx0 := cell_keeps bx0 k11
  replace bel := below_keeps bel sz k11
  replace sz := Nat.le_trans sz s11
  go_wp2_with fail
  refine (toIntS_any h1).mono ?_
  rintro e w12 ⟨Bt1, rfl, t1, k12⟩
  have s12 := k12.size
  replace h1 := h1.keeps k12
  replace h2 := h2.keeps k12
  replace h0 := h0.keeps k12
  replace x0 := x0.keeps k12
  replace x1 := x1.keeps k12
  replace x2 := x2.keeps k12
  replace ba0 := cell_keeps ba0 k12
  replace bx0 := cell_keeps bx0 k12
  replace bel := below_keeps bel sz k12
  replace sz := Nat.le_trans sz s12
  go_wp2_with fail
  refine (eqIntS_true x1.1 t1.1).mono ?_
  rintro e w13 ⟨rfl, k13⟩
  replace k13 := Quiet.keeps k13
  have s13 := k13.size
  replace h1 := h1.keeps k13
  replace h2 := h2.keeps k13
  replace h0 := h0.keeps k13
  replace x0 := x0.keeps k13
  replace x1 := x1.keeps k13
  replace x2 := x2.keeps k13
  replace t1 := t1.keeps k13
  replace ba0 := cell_keeps ba0 k13
  replace bx0 := cell_keeps bx0 k13
  replace bel := below_keeps bel sz k13
  replace sz := Nat.le_trans sz s13
  clear t1
  go_wp2_with fail
  refine (toIntS_any h2).mono ?_
  rintro e w14 ⟨Bt2, rfl, t2, k14⟩
  have s14 := k14.size
  replace h1 := h1.keeps k14
  replace h2 := h2.keeps k14
  replace h0 := h0.keeps k14
  replace x0 := x0.keeps k14
  replace x1 := x1.keeps k14
  replace x2 := x2.keeps k14
  replace ba0 := cell_keeps ba0 k14
  replace bx0 := cell_keeps bx0 k14
  replace bel := below_keeps bel sz k14
  replace sz := Nat.le_trans sz s14
  go_wp2_with fail
  refine (eqIntS_true x2.1 t2.1).mono ?_
  rintro e w15 ⟨rfl, k15⟩
  replace k15 := Quiet.keeps k15
  have s15 := k15.size
  replace h1 := h1.keeps k15
  replace h2 := h2.keeps k15
  replace h0 := h0.keeps k15
  replace x0 := x0.keeps k15
  replace x1 := x1.keeps k15
  replace x2 := x2.keeps k15
  replace t2 := t2.keeps k15
  replace ba0 := cell_keeps ba0 k15
  replace bx0 := cell_keeps bx0 k15
  replace bel := below_keeps bel sz k15
  replace sz := Nat.le_trans sz s15
  clear t2
  go_wp2_with fail
  go_ret
  exact ⟨rfl, bel⟩
end Go.Proofs.Ytdfpgohfnabflaa
