/- KeptTotals and LevelError, of the reference and of the program; and the laws. -/
import Derived.Test.YtkpliolafkdijaaLevel
import Derived.Test.YtkpliolafkdijaaBounds
namespace Go.Proofs.Ytkpliolafkdijaa
open Go.RowKit
set_option linter.unusedVariables false
set_option linter.unusedSimpArgs false

def valB (B : Int) (ps vs : List Int) : Bool := geoB ps && (decide (vs.length = ps.length) && within (-B) B vs)
theorem valB_geo {B : Int} {ps vs : List Int} (h : geoB ps = false) : valB B ps vs = false := by simp [valB, h]
theorem valB_len {B : Int} {ps vs : List Int} (h : vs.length ≠ ps.length) : valB B ps vs = false := by simp [valB, h]
theorem valB_in {B : Int} {ps vs : List Int} (h : within (-B) B vs = false) : valB B ps vs = false := by simp [valB, h]
theorem valB_true {B : Int} {ps vs : List Int} : valB B ps vs = true ↔ geoB ps = true ∧ vs.length = ps.length ∧ within (-B) B vs = true := by simp [valB]
theorem smallB_valB {ps vs : List Int} (h : geoB ps = true) : smallB vs ps.length = valB 1000000 ps vs := by simp [valB, smallB, h]

def SameTo (u v : List Int) (k : Nat) : Prop := ∀ m, m < k → u.getD m 0 = v.getD m 0
theorem sameTo_succ {u v : List Int} {k : Nat} (h : SameTo u v k) (h1 : u.getD k 0 = v.getD k 0) : SameTo u v (k + 1) := by
  intro m hm
  by_cases hk : m = k
  · subst hk; exact h1
  · exact h m (by omega)
theorem same_all {u v : List Int} (hl : u.length = v.length) (h : SameTo u v u.length) : (u == v) = true := by
  rw [beq_iff_eq]
  apply List.ext_getElem hl
  intro i h1 h2
  have := h i h1
  simpa [List.getD, h1, h2] using this
theorem same_no {u v : List Int} {k : Nat} (h : u.getD k 0 ≠ v.getD k 0) : (u == v) = false := by
  rw [beq_eq_false_iff_ne]; intro e; exact h (by rw [e])

def ktF (ps a b : List Int) (lv : Int) : Bool × Bool :=
  if valB 100000 ps a && valB 100000 ps b && decide ((lev ps lv).length ≠ 0) then (vsAt a (lev ps lv) == vsAt b (lev ps lv), true) else (false, false)
theorem ktF_a {ps a b : List Int} {lv : Int} (h : valB 100000 ps a = false) : ktF ps a b lv = (false, false) := by simp [ktF, h]
theorem ktF_b {ps a b : List Int} {lv : Int} (h : valB 100000 ps b = false) : ktF ps a b lv = (false, false) := by simp [ktF, h]
theorem ktF_0 {ps a b : List Int} {lv : Int} (h : (lev ps lv).length = 0) : ktF ps a b lv = (false, false) := by
  have : decide ((lev ps lv).length ≠ 0) = false := by simp [h]
  rw [ktF, this, Bool.and_false]; rfl
theorem ktF_y {ps a b : List Int} {lv : Int} (h1 : valB 100000 ps a = true) (h2 : valB 100000 ps b = true) (h : (lev ps lv).length ≠ 0) : ktF ps a b lv = (vsAt a (lev ps lv) == vsAt b (lev ps lv), true) := by
  have : decide ((lev ps lv).length ≠ 0) = true := by simpa using h
  rw [ktF, this, h1, h2]; rfl


set_option maxHeartbeats 2000000 in
theorem spec_KeptTotals_any {A A1 A2 : Option Addr} {l h l1 h1 l2 h2 n n1 n2 c c1 c2 : Nat} {ps a b : List Int} {lv : Int} {w : World} (ha : Ints w l h A n ps) (hb : Ints w l1 h1 A1 n1 a) (hc : Ints w l2 h2 A2 n2 b) (hlv : (Lit.int .i64 lv).wf = true) :
    Calls Try.prog 70 #[.agg #[.slice A n c], .slice A1 n1 c1, .slice A2 n2 c2, .int .i64 lv] w fun e w' => e = .returned (.tuple #[.bool (ktF ps a b lv).1, .bool (ktF ps a b lv).2]) ∧ Keeps w w' := by
  clear hlv
  have hl := ha.1
  have hl1 := hb.1
  have hl2 := hc.1
  have hn := ha.le
  have k0 := keeps_alloc w (.cells #[.slice A n c] 51)
  obtain ⟨v1, H1⟩ : ∃ v, Hid (valB 100000 ps a = v) := ⟨_, rfl⟩
  obtain ⟨v2, H2⟩ : ∃ v, Hid (valB 100000 ps b = v) := ⟨_, rfl⟩
  cases v1
  · have HF := hid (ktF_a (b := b) (lv := lv) H1.out)
    unfold valB at H1
    go_enter Try.func70, Try.ntmps70
    go_wp2_with fail
    refine (iValues_any (ha.keeps k0) (hb.keeps k0)).mono ?_
    rintro e w1 ⟨rfl, k1⟩
    rw [H1.out]
    have bx := box_keeps k1
    have kz := k0.trans k1
    go_wp2_with fail
    go_ret2
    exact ⟨ret_bs (by rw [HF.out]) (by rw [HF.out]), kz⟩
  cases v2
  · have HF := hid (ktF_b (a := a) (lv := lv) H2.out)
    unfold valB at H1 H2
    go_enter Try.func70, Try.ntmps70
    go_wp2_with fail
    refine (iValues_any (ha.keeps k0) (hb.keeps k0)).mono ?_
    rintro e w1 ⟨rfl, k1⟩
    rw [H1.out]
    have bx := box_keeps k1
    have kz := k0.trans k1
    go_wp2_with fail
    refine (iValues_any ((ha.keeps k0).keeps k1) ((hc.keeps k0).keeps k1)).mono ?_
    rintro e w2 ⟨rfl, k2⟩
    rw [H2.out]
    replace bx := cell_keeps bx k2
    replace kz := kz.trans k2
    go_wp2_with fail
    go_ret2
    exact ⟨ret_bs (by rw [HF.out]) (by rw [HF.out]), kz⟩
  have hv1 := valB_true.1 H1.out
  have hv2 := valB_true.1 H2.out
  have HT := hid (tree_of hv1.1)
  by_cases hz : (lev ps lv).length = 0
  · have HF := hid (ktF_0 (a := a) (b := b) hz)
    have t1 : (((lev ps lv).length : Int) == 0) = true := by simpa using hz
    unfold valB at H1 H2
    clear hz hv1 hv2
    go_enter Try.func70, Try.ntmps70
    go_wp2_with fail
    refine (iValues_any (ha.keeps k0) (hb.keeps k0)).mono ?_
    rintro e w1 ⟨rfl, k1⟩
    rw [H1.out]
    have bx := box_keeps k1
    have kz := k0.trans k1
    go_wp2_with fail
    refine (iValues_any ((ha.keeps k0).keeps k1) ((hc.keeps k0).keeps k1)).mono ?_
    rintro e w2 ⟨rfl, k2⟩
    rw [H2.out]
    replace bx := cell_keeps bx k2
    replace kz := kz.trans k2
    go_wp2_with fail
    refine (gLevel_any (((ha.keeps k0).keeps k1).keeps k2) HT.out).mono ?_
    rintro e w3 ⟨A3, c3, rfl, m3, k3⟩
    replace bx := cell_keeps bx k3
    replace kz := kz.trans k3
    go_wp2_with fail
    go_ret2
    exact ⟨ret_bs (by rw [HF.out]) (by rw [HF.out]), kz⟩
  have HF := hid (ktF_y H1.out H2.out hz)
  have t1 : (((lev ps lv).length : Int) == 0) = false := by simp; intro h; rw [h] at hz; exact hz rfl
  obtain rfl : n1 = n := by omega
  obtain rfl : n2 = n1 := by omega
  obtain ⟨n, rfl⟩ : ∃ n, n = n2 := ⟨_, rfl⟩
  have hll : (lev ps lv).length ≤ n := by have := levTo_len ps lv ps.length; unfold lev; omega
  unfold valB at H1 H2
  clear hz hv1 hv2
  go_enter Try.func70, Try.ntmps70
  go_wp2_with fail
  refine (iValues_any (ha.keeps k0) (hb.keeps k0)).mono ?_
  rintro e w1 ⟨rfl, k1⟩
  rw [H1.out]
  have bx := box_keeps k1
  have kz := k0.trans k1
  go_wp2_with fail
  refine (iValues_any ((ha.keeps k0).keeps k1) ((hc.keeps k0).keeps k1)).mono ?_
  rintro e w2 ⟨rfl, k2⟩
  rw [H2.out]
  replace bx := cell_keeps bx k2
  replace kz := kz.trans k2
  go_wp2_with fail
  refine (gLevel_any (((ha.keeps k0).keeps k1).keeps k2) HT.out).mono ?_
  rintro e w3 ⟨A3, c3, rfl, m3, k3⟩
  replace bx := cell_keeps bx k3
  replace kz := kz.trans k3
  go_wp2_with fail
  refine (gLevel_any ((((ha.keeps k0).keeps k1).keeps k2).keeps k3) HT.out).mono ?_
  rintro e wz ⟨A4, c4, rfl, hm, k4⟩
  replace kz := kz.trans k4
  have va := ((((hb.keeps k0).keeps k1).keeps k2).keeps k3).keeps k4
  have vb := ((((hc.keeps k0).keeps k1).keeps k2).keeps k3).keeps k4
  clear ha hb hc k0 k1 k2 k3 k4 m3 bx hl1 hl2
  go_wp2_with fail
  go_loopw [33] (fun t wr => ∃ m : Nat, m ≤ (lev ps lv).length ∧ t = .int .i64 m ∧ Hid (SameTo (vsAt a (lev ps lv)) (vsAt b (lev ps lv)) m) ∧ Quiet wz wr) (fun t _ => (lev ps lv).length - (intOf t).toNat)
  case atStart => exact ⟨0, Nat.zero_le _, rfl, fun m hm => absurd hm (by omega), Quiet.refl _⟩
  case round =>
    obtain ⟨m, hm1, rfl, hsame, hq⟩ := hrel
    by_cases hltm : m < (lev ps lv).length
    · obtain ⟨b2, off2, y, rfl, _, _, hy0, hy⟩ := (hm.1.quiet hq).at_ hltm
      obtain ⟨j, hj, hjn⟩ := lev_getD hltm
      obtain rfl : y = (j : Int) := hy.out.trans hj
      obtain ⟨b3, off3, x, rfl, _, _, hx0, hx⟩ := (va.quiet hq).at_ (k := j) (by omega)
      obtain ⟨b4, off4, z, rfl, _, _, hz0, hz⟩ := (vb.quiet hq).at_ (k := j) (by omega)
      have hj1 : (j : Int) < (n : Int) := by omega
      have E1 := hid (vsAt_getD (vs := a) hltm hj)
      have E2 := hid (vsAt_getD (vs := b) hltm hj)
      rw [← hx.out] at E1
      rw [← hz.out] at E2
      clear hj
      by_cases hxz : x = z
      · have t1 : (x != z) = false := by simp [hxz]
        have HS := hid (sameTo_succ hsame.out (by rw [E1.out, E2.out, hxz]))
        clear hxz
        go_wp2_with fail
        go_quiet (fail)
        go_wp2
        go_roundw
        case rel => exact ⟨m + 1, by omega, by go_num, HS, hq.step _⟩
        case measure => simp [intOf]; omega
      · have t1 : (x != z) = true := by simp [hxz]
        have HS := hid (same_no (u := vsAt a (lev ps lv)) (v := vsAt b (lev ps lv)) (k := m) (by rw [E1.out, E2.out]; exact hxz))
        clear hxz
        go_wp2_with fail
        go_quiet (fail)
        go_wp2
        go_ret2
        exact ⟨ret_bs (by rw [HF.out, HS.out]) (by rw [HF.out]), kz.trans (hq.step _).keeps⟩
    · obtain rfl : m = (lev ps lv).length := by omega
      have HS := hid (same_all (u := vsAt a (lev ps lv)) (v := vsAt b (lev ps lv)) (by rw [vsAt_len, vsAt_len]) (by rw [vsAt_len]; exact hsame.out))
      go_wp2
      go_ret2
      exact ⟨ret_bs (by rw [HF.out, HS.out]) (by rw [HF.out]), kz.trans hq.keeps⟩
set_option maxHeartbeats 2000000 in
theorem impl_KeptTotals_any {A A1 A2 : Option Addr} {l h l1 h1 l2 h2 n n1 n2 c c1 c2 : Nat} {ps a b : List Int} {lv : Int} {w : World} (ha : Ints w l h A n ps) (hb : Ints w l1 h1 A1 n1 a) (hc : Ints w l2 h2 A2 n2 b) (hlv : (Lit.int .i64 lv).wf = true) :
    Calls Try.prog 69 #[.agg #[.slice A n c], .slice A1 n1 c1, .slice A2 n2 c2, .int .i64 lv] w fun e w' => e = .returned (.tuple #[.bool (ktF ps a b lv).1, .bool (ktF ps a b lv).2]) ∧ Keeps w w' := by
  clear hlv
  have hl := ha.1
  have hl1 := hb.1
  have hl2 := hc.1
  have hn := ha.le
  have hn1 := hb.le
  have hn2 := hc.le
  have k0 := keeps_alloc w (.cells #[.slice A n c] 51)
  cases hg : geoB ps with
  | false =>
    have HF := hid (ktF_a (b := b) (lv := lv) (valB_geo (vs := a) (B := 100000) hg))
    have HG := hid hg
    clear hg
    go_enter Try.func69, Try.ntmps69
    go_wp2_with fail
    refine (IsGeo_any (ha.keeps k0)).mono ?_
    rintro e w1 ⟨rfl, k1⟩
    rw [HG.out]
    have bx := box_keeps k1
    have kz := k0.trans k1
    have va := (hb.keeps k0).keeps k1
    have vb := (hc.keeps k0).keeps k1
    go_wp2_with fail
    go_ret2
    exact ⟨ret_bs (by rw [HF.out]) (by rw [HF.out]), kz⟩
  | true =>
    have HG := hid hg
    have HT := hid (tree_of hg)
    clear hg
    by_cases e1 : n1 = n
    rotate_left
    · have HF := hid (ktF_a (b := b) (lv := lv) (valB_len (B := 100000) (ps := ps) (vs := a) (by omega)))
      have t1 : ((n1 : Int) != (n : Int)) = true := by rw [bne_iff_ne]; omega
      clear e1
      go_enter Try.func69, Try.ntmps69
      go_wp2_with fail
      refine (IsGeo_any (ha.keeps k0)).mono ?_
      rintro e w1 ⟨rfl, k1⟩
      rw [HG.out]
      have bx := box_keeps k1
      have kz := k0.trans k1
      have va := (hb.keeps k0).keeps k1
      have vb := (hc.keeps k0).keeps k1
      go_wp2_with fail
      go_ret2
      exact ⟨ret_bs (by rw [HF.out]) (by rw [HF.out]), kz⟩
    subst e1
    by_cases e2 : n2 = n1
    rotate_left
    · have HF := hid (ktF_b (a := a) (lv := lv) (valB_len (B := 100000) (ps := ps) (vs := b) (by omega)))
      have t1 : ((n2 : Int) != (n1 : Int)) = true := by rw [bne_iff_ne]; omega
      have t2 : ((n1 : Int) != (n1 : Int)) = false := by simp
      clear e2
      go_enter Try.func69, Try.ntmps69
      go_wp2_with fail
      refine (IsGeo_any (ha.keeps k0)).mono ?_
      rintro e w1 ⟨rfl, k1⟩
      rw [HG.out]
      have bx := box_keeps k1
      have kz := k0.trans k1
      have va := (hb.keeps k0).keeps k1
      have vb := (hc.keeps k0).keeps k1
      go_wp2_with fail
      go_ret2
      exact ⟨ret_bs (by rw [HF.out]) (by rw [HF.out]), kz⟩
    subst e2
    obtain ⟨n, rfl⟩ : ∃ n, n = n2 := ⟨_, rfl⟩
    have t2 : ((n : Int) != (n : Int)) = false := by simp
    obtain ⟨v1, H1⟩ : ∃ v, Hid (within (-100000) 100000 a = v) := ⟨_, rfl⟩
    obtain ⟨v2, H2⟩ : ∃ v, Hid (within (-100000) 100000 b = v) := ⟨_, rfl⟩
    cases v1
    · have HF := hid (ktF_a (b := b) (lv := lv) (valB_in (ps := ps) H1.out))
      go_enter Try.func69, Try.ntmps69
      go_wp2_with fail
      refine (IsGeo_any (ha.keeps k0)).mono ?_
      rintro e w1 ⟨rfl, k1⟩
      rw [HG.out]
      have bx := box_keeps k1
      have kz := k0.trans k1
      have va := (hb.keeps k0).keeps k1
      have vb := (hc.keeps k0).keeps k1
      go_wp2_with fail
      refine (areWithin_any _ _ _ _ _ _ _ _ _ va).mono ?_
      rintro e w2 ⟨rfl, rfl⟩
      rw [H1.out]
      go_wp2_with fail
      go_ret2
      exact ⟨ret_bs (by rw [HF.out]) (by rw [HF.out]), kz⟩
    cases v2
    · have HF := hid (ktF_b (a := a) (lv := lv) (valB_in (ps := ps) H2.out))
      go_enter Try.func69, Try.ntmps69
      go_wp2_with fail
      refine (IsGeo_any (ha.keeps k0)).mono ?_
      rintro e w1 ⟨rfl, k1⟩
      rw [HG.out]
      have bx := box_keeps k1
      have kz := k0.trans k1
      have va := (hb.keeps k0).keeps k1
      have vb := (hc.keeps k0).keeps k1
      go_wp2_with fail
      refine (areWithin_any _ _ _ _ _ _ _ _ _ va).mono ?_
      rintro e w2 ⟨rfl, rfl⟩
      rw [H1.out]
      go_wp2_with fail
      refine (areWithin_any _ _ _ _ _ _ _ _ _ vb).mono ?_
      rintro e w2 ⟨rfl, rfl⟩
      rw [H2.out]
      go_wp2_with fail
      go_ret2
      exact ⟨ret_bs (by rw [HF.out]) (by rw [HF.out]), kz⟩
    by_cases hz : (lev ps lv).length = 0
    · have HF := hid (ktF_0 (a := a) (b := b) hz)
      have t1 : (((lev ps lv).length : Int) == 0) = true := by simpa using hz
      clear hz
      go_enter Try.func69, Try.ntmps69
      go_wp2_with fail
      refine (IsGeo_any (ha.keeps k0)).mono ?_
      rintro e w1 ⟨rfl, k1⟩
      rw [HG.out]
      have bx := box_keeps k1
      have kz := k0.trans k1
      have va := (hb.keeps k0).keeps k1
      have vb := (hc.keeps k0).keeps k1
      go_wp2_with fail
      refine (areWithin_any _ _ _ _ _ _ _ _ _ va).mono ?_
      rintro e w2 ⟨rfl, rfl⟩
      rw [H1.out]
      go_wp2_with fail
      refine (areWithin_any _ _ _ _ _ _ _ _ _ vb).mono ?_
      rintro e w2 ⟨rfl, rfl⟩
      rw [H2.out]
      go_wp2_with fail
      refine (areasAt_any ((ha.keeps k0).keeps k1) HT.out).mono ?_
      rintro e wz ⟨A3, c3, rfl, hm, k3⟩
      replace kz := kz.trans k3
      replace va := va.keeps k3
      replace vb := vb.keeps k3
      go_wp2_with fail
      go_ret2
      exact ⟨ret_bs (by rw [HF.out]) (by rw [HF.out]), kz⟩
    have HF := hid (ktF_y (a := a) (b := b) (valB_true.2 ⟨HG.out, by omega, H1.out⟩) (valB_true.2 ⟨HG.out, by omega, H2.out⟩) hz)
    have t1 : (((lev ps lv).length : Int) == 0) = false := by simp; intro h; rw [h] at hz; exact hz rfl
    have hll : (lev ps lv).length ≤ n := by have := levTo_len ps lv ps.length; unfold lev; omega
    clear hz
    go_enter Try.func69, Try.ntmps69
    go_wp2_with fail
    refine (IsGeo_any (ha.keeps k0)).mono ?_
    rintro e w1 ⟨rfl, k1⟩
    rw [HG.out]
    have bx := box_keeps k1
    have kz := k0.trans k1
    have va := (hb.keeps k0).keeps k1
    have vb := (hc.keeps k0).keeps k1
    go_wp2_with fail
    refine (areWithin_any _ _ _ _ _ _ _ _ _ va).mono ?_
    rintro e w2 ⟨rfl, rfl⟩
    rw [H1.out]
    go_wp2_with fail
    refine (areWithin_any _ _ _ _ _ _ _ _ _ vb).mono ?_
    rintro e w2 ⟨rfl, rfl⟩
    rw [H2.out]
    go_wp2_with fail
    refine (areasAt_any ((ha.keeps k0).keeps k1) HT.out).mono ?_
    rintro e wz ⟨A3, c3, rfl, hm, k3⟩
    replace kz := kz.trans k3
    replace va := va.keeps k3
    replace vb := vb.keeps k3
    go_wp2_with fail
    clear ha hb hc k0 k1 k3 bx hl1 hl2
    go_loopw [49] (fun t wr => ∃ m : Nat, m ≤ (lev ps lv).length ∧ t = .int .i64 m ∧ Hid (SameTo (vsAt a (lev ps lv)) (vsAt b (lev ps lv)) m) ∧ Quiet wz wr) (fun t _ => (lev ps lv).length - (intOf t).toNat)
    case atStart => exact ⟨0, Nat.zero_le _, rfl, fun m hm => absurd hm (by omega), Quiet.refl _⟩
    case round =>
      obtain ⟨m, hm1, rfl, hsame, hq⟩ := hrel
      by_cases hltm : m < (lev ps lv).length
      · obtain ⟨b2, off2, y, rfl, _, _, hy0, hy⟩ := (hm.1.quiet hq).at_ hltm
        obtain ⟨j, hj, hjn⟩ := lev_getD hltm
        obtain rfl : y = (j : Int) := hy.out.trans hj
        obtain ⟨b3, off3, x, rfl, _, _, hx0, hx⟩ := (va.quiet hq).at_ (k := j) (by omega)
        obtain ⟨b4, off4, z, rfl, _, _, hz0, hz⟩ := (vb.quiet hq).at_ (k := j) (by omega)
        have hj1 : (j : Int) < (n : Int) := by omega
        have E1 := hid (vsAt_getD (vs := a) hltm hj)
        have E2 := hid (vsAt_getD (vs := b) hltm hj)
        rw [← hx.out] at E1
        rw [← hz.out] at E2
        clear hj
        by_cases hxz : x = z
        · have t1 : (x != z) = false := by simp [hxz]
          have HS := hid (sameTo_succ hsame.out (by rw [E1.out, E2.out, hxz]))
          clear hxz
          go_wp2_with fail
          go_quiet (fail)
          go_wp2
          go_roundw
          case rel => exact ⟨m + 1, by omega, by go_num, HS, hq.step _⟩
          case measure => simp [intOf]; omega
        · have t1 : (x != z) = true := by simp [hxz]
          have HS := hid (same_no (u := vsAt a (lev ps lv)) (v := vsAt b (lev ps lv)) (k := m) (by rw [E1.out, E2.out]; exact hxz))
          clear hxz
          go_wp2_with fail
          go_quiet (fail)
          go_wp2
          go_ret2
          exact ⟨ret_bs (by rw [HF.out, HS.out]) (by rw [HF.out]), kz.trans (hq.step _).keeps⟩
      · obtain rfl : m = (lev ps lv).length := by omega
        have HS := hid (same_all (u := vsAt a (lev ps lv)) (v := vsAt b (lev ps lv)) (by rw [vsAt_len, vsAt_len]) (by rw [vsAt_len]; exact hsame.out))
        go_wp2
        go_ret2
        exact ⟨ret_bs (by rw [HF.out, HS.out]) (by rw [HF.out]), kz.trans hq.keeps⟩

end Go.Proofs.Ytkpliolafkdijaa
