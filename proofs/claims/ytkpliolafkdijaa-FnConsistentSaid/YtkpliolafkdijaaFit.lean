/- FitDown, of the reference and of the program; and the law. -/
import Derived.Test.YtkpliolafkdijaaFit0
import Derived.Deep.DeepCutAuto
namespace Go.Proofs.Ytkpliolafkdijaa
open Go.RowKit
set_option linter.unusedVariables false
set_option linter.unusedSimpArgs false

set_option maxRecDepth 100000 in
set_option maxHeartbeats 4000000 in
theorem iFit_any {A A' : Option Addr} {l h l' h' n c c' : Nat} {ps vs : List Int} {root : Int} {w : World} (ha : Ints w l h A n ps) (hb : Ints w l' h' A' n vs) (hg : ps.getD 0 0 = -1) (hn0 : 0 < n) (hbd : Bd 100000 vs) (hr : 0 ≤ root ∧ root ≤ 1000000) :
    Calls Try.prog 154 #[.agg #[.slice A n c], .slice A' n c', .int .i64 root] w fun e w' => ∃ A1 c1, e = .returned (.slice A1 n c1) ∧ Mine w' w.heap.size w'.heap.size A1 n (fitTo ps vs root n) ∧ Keeps w w' := by
  have hn := ha.le
  have hl := ha.1
  have hl2 := hb.1
  have hat := ha.top
  have hbt := hb.top
  have HG := hid hg
  have HB := hid hbd
  have HRT := hid hr
  clear hg hbd hr
  have hmk := make_ints n hn
  have k0 := keeps_alloc w (.cells #[.slice A n c] 51)
  have hn1 : (0 : Int) < (n : Int) := by omega
  obtain ⟨hownS, k1⟩ := fit_new w (.cells #[.slice A n c] 51) n root
  have hm0 : (madeCells #[.int .i64 0] n)[0]? = some (.int .i64 0) := by
    have h1 := (Own.new w n).cell 0 (by simp; omega)
    rw [cell_of_row _ _ _ _ _ _ (heap_alloc_new _ _)] at h1
    rw [h1, zeros_getD]
  have bx := cell_keeps (cell_new w (.slice A n c) 51) k1
  have va := (ha.keeps k0).keeps k1
  have vb := (hb.keeps k0).keeps k1
  have hkpS := hid (k0.trans k1)
  have hsS := hkpS.out.size
  have hgS := hownS.lt
  go_enter Try.func154, Try.ntmps154
  go_wp2_with fail
  generalize ((w.alloc (.cells #[.slice A n c] 51)).alloc (.cells ((madeCells #[.int .i64 0] n).setIfInBounds 0 (.int .i64 root)) 3)) = w2 at *
  generalize hgg : w.heap.size + 1 = g at *
  clear hmk hm0 k0 k1 ha hb
  go_loopw [27] (fun i wr => ∃ k : Nat, k ≤ n ∧ i = .int .i64 k ∧ Own wr g (fitTo ps vs root k) ∧ Hid (Rg (fitTo ps vs root k)) ∧ Keeps w wr ∧ Fr g (g + 1) w2 wr) (fun i _ => n - (intOf i).toNat)
  case atStart => exact ⟨0, Nat.zero_le _, rfl, by rw [fitTo, hl]; exact hownS, hid (by rw [fitTo]; exact fit_start HRT.out), hkpS.out, Fr.refl _ _ _⟩
  case round =>
    obtain ⟨k, hk, rfl, hown, HR, hkp, hfr⟩ := hrel
    by_cases hlt : k < n
    · have hgs := hown.lt
      have hk1 : (k : Int) < (n : Int) := by omega
      have va := va.fr hfr (by omega)
      have vb := vb.fr hfr (by omega)
      have bx := cell_fr bx hfr (by simp; omega)
      go_wp2_with fail
      refine (gChildren_any va HG.out (by omega)).mono ?_
      rintro e w3 ⟨A3, c3, rfl, hm3, k3⟩
      have hmk := hm3.1
      clear hm3
      replace va := va.keeps k3
      replace vb := vb.keeps k3
      replace bx := cell_keeps bx k3
      replace hown := hown.keeps k3
      have hs3 := k3.size
      have hf3 := hid (hfr.trans (Fr.of_keeps k3 _ _))
      have hkp3 := hid (hkp.trans k3)
      have hkl : (kids ps k).length ≤ n := by have := kidsTo_len ps k ps.length; unfold kids; omega
      clear hfr hkp k3
      by_cases hk0 : (kids ps k).length = 0
      · have t1 : (((kids ps k).length : Int) == 0) = true := by simpa using hk0
        have HS := hid (fitTo_skip (vs := vs) (root := root) hk0)
        rw [← HS.out] at hown HR
        clear hk0
        go_wp2
        go_roundw
        case rel => exact ⟨k + 1, by omega, by go_num, hown, HR, hkp3.out, hf3.out⟩
        case measure => simp [intOf]; omega
      have t1 : (((kids ps k).length : Int) == 0) = false := by simp; intro h; rw [h] at hk0; exact hk0 rfl
      obtain ⟨t, ht0, ht⟩ := hown.at_ k (by rw [fitTo_len]; omega)
      have htr := HR.out k
      rw [← ht.out] at htr
      have HTR := hid htr
      clear htr
      have HKN := hid hk0
      have hk2 : 0 < (kids ps k).length := by omega
      clear hk0
      go_wp2_with fail
      go_loopw [10, 11, 12, 38] (fun v1 v2 v3 i wr => ∃ m : Nat, m ≤ (kids ps k).length ∧ i = .int .i64 m ∧ Tri wr w3.heap.size v1 v2 v3 m m m ((vsAt vs (kids ps k)).take m) (zeros m) (tops m) ∧ Keeps w3 wr) (fun _ _ _ i _ => (kids ps k).length - (intOf i).toNat)
      case atStart => exact ⟨0, Nat.zero_le _, rfl, Tri.nil_ _ _, keeps_refl _⟩
      case round =>
        obtain ⟨m, hm, rfl, q1, hq⟩ := hrel
        have hqs := hq.size
        by_cases hltm : m < (kids ps k).length
        · obtain ⟨b2, off2, y, rfl, _, _, hy0, hy⟩ := (hmk.keeps hq).at_ hltm
          obtain ⟨j, hj, hj0, hjn, _⟩ := kids_getD hltm
          obtain rfl : y = (j : Int) := hy.out.trans hj
          obtain ⟨b3, off3, z, rfl, _, _, hz0, hz⟩ := (vb.keeps hq).at_ (k := j) (by omega)
          have hj1 : (j : Int) < (n : Int) := by omega
          have HT1 := hid (take_snoc (vsAt vs (kids ps k)) m 0 (by rw [vsAt_len]; omega))
          rw [vsAt_getD hltm hj, ← hz.out] at HT1
          have HT2 := hid (show zeros (m + 1) = zeros m ++ [0] from List.replicate_succ')
          have HT3 := hid (show tops (m + 1) = tops m ++ [1000000] from List.replicate_succ')
          clear hj
          go_wp2_with (at_builtin; first | (refine append_int_at (xs := (vsAt vs (kids ps k)).take m) q1.h1 (by omega) (by omega) _ _ rfl rfl rfl rfl ?_; intro v1' wa p1 p2 p3; have b1 := hid (hq.trans' q1.h1 hqs p2); replace q1 := q1.one p1 p2 p3; rw [← HT1.out] at q1; clear p1 p2 p3 hq; have s1 := b1.out.size) | (refine append_int_at (xs := zeros m) q1.h2 (by omega) (by omega) _ _ rfl rfl rfl rfl ?_; intro v2' wb p1 p2 p3; have b2 := hid (b1.out.trans' q1.h2 s1 p2); replace q1 := q1.two p1 p2 p3; rw [← HT2.out] at q1; clear p1 p2 p3 b1; have s2 := b2.out.size) | (refine append_int_at (xs := tops m) q1.h3 (by omega) (by omega) _ _ rfl rfl rfl rfl ?_; intro v3' wc p1 p2 p3; have b3 := hid (b2.out.trans' q1.h3 s2 p2); replace q1 := q1.three p1 p2 p3; rw [← HT3.out] at q1; clear p1 p2 p3 b2))
          go_wp2
          go_roundw
          case rel => exact ⟨m + 1, by omega, by go_num, q1, b3.out⟩
          case measure => simp [intOf]; omega
        · obtain rfl : m = (kids ps k).length := by omega
          obtain ⟨A4, c4, rfl⟩ := q1.h1.form
          obtain ⟨A5, c5, rfl⟩ := q1.h2.form
          obtain ⟨A6, c6, rfl⟩ := q1.h3.form
          have i1 := (Mine.of_own q1.h1 (by omega)).1
          have i2 := (Mine.of_own q1.h2 (by omega)).1
          have i3 := (Mine.of_own q1.h3 (by omega)).1
          rw [List.take_of_length_le (by rw [vsAt_len]; omega)] at i1
          replace hmk := hmk.keeps hq
          replace hown := hown.keeps hq
          replace ht0 := cell_keeps ht0 hq
          have hf4 := hid (hf3.out.trans (Fr.of_keeps hq _ _))
          have hkp4 := hid (hkp3.out.trans hq)
          clear q1 hq hf3 hkp3
          go_wp2_with fail
          refine (iAdjust_any i1 i2 i3 ((vsAt_bd HB.out (by omega)).mono (by omega)) (zeros_bd _) (tops_bd _) (zeros_ordered _) (by rw [zeros_sum]; exact HTR.out.1) (by rw [tops_sum]; have := HTR.out.2; omega)).mono ?_
          rintro e w5 ⟨A7, c7, xs, rfl, hm7, hadj, k7⟩
          have hmx := hm7.1
          have HS := hid (fitTo_step HKN.out ht.out hadj)
          have HR2 := hid (show Rg (fitTo ps vs root (k + 1)) by rw [← HS.out]; exact setTo_rg HR.out (isAdj_rg (vsAt_len _ _) hadj) _)
          replace hmk := hmk.keeps k7
          replace hown := hown.keeps k7
          have hfr5 := hf4.out.trans (Fr.of_keeps k7 _ _)
          have hkp5 := hkp4.out.trans k7
          have hs5 := hkp5.size
          clear hadj hm7 i1 i2 i3 k7 hf4 hkp4
          go_wp2_with fail
          go_loopw [69] (fun i wr => ∃ m : Nat, m ≤ (kids ps k).length ∧ i = .int .i64 m ∧ Own wr g (setTo (fitTo ps vs root k) (kids ps k) xs m) ∧ Fr g (g + 1) w5 wr) (fun i _ => (kids ps k).length - (intOf i).toNat)
          case atStart => exact ⟨0, Nat.zero_le _, rfl, hown, Fr.refl _ _ _⟩
          case round =>
            obtain ⟨m, hm, rfl, hown3, hf3⟩ := hrel
            by_cases hltm : m < (kids ps k).length
            · obtain ⟨b2, off2, y, rfl, _, _, hy0, hy⟩ := (hmk.fr hf3 (by omega)).at_ hltm
              obtain ⟨j, hj, hj0, hjn, _⟩ := kids_getD hltm
              obtain rfl : y = (j : Int) := hy.out.trans hj
              obtain ⟨b3, off3, z, rfl, _, _, hz0, hz⟩ := (hmx.fr hf3 (by omega)).at_ hltm
              obtain ⟨u, hu0, -⟩ := hown3.at_ j (by rw [setTo_len, fitTo_len]; omega)
              have hfz := hown3.frozen j
              have hj1 : (j : Int) < (n : Int) := by omega
              have H1 := hid (hown3.set_ j z)
              rw [setTo_succ hj hz.out] at H1
              have H2 := hid (hf3.setCell (p := ⟨g, j, none⟩) (Nat.le_refl _) (Nat.lt_succ_self _) (.int .i64 z))
              clear hown3 hf3
              go_wp2
              go_roundw
              case rel => exact ⟨m + 1, by omega, by go_num, H1.out, H2.out⟩
              case measure => simp [intOf]; omega
            · obtain rfl : m = (kids ps k).length := by omega
              rw [HS.out] at hown3
              have hkN := hid (below_fr hkp5 (by omega) (by omega) hf3)
              have hfN := hid (hfr5.trans hf3)
              go_wp2
              go_roundw
              case rel => exact ⟨k + 1, by omega, by go_num, hown3, HR2, hkN.out, hfN.out⟩
              case measure => simp [intOf]; omega
    · obtain rfl : k = n := by omega
      go_wp2
      go_ret; exact ⟨_, _, rfl, hown.mine (by rw [fitTo_len]; exact hl) hn (by omega) hown.lt (Nat.le_refl _), hkp⟩
set_option maxHeartbeats 2000000 in
theorem spec_FitDown_any {A A1 : Option Addr} {l h l1 h1 n n1 c c1 : Nat} {ps vs : List Int} {root : Int} {w : World} (ha : Ints w l h A n ps) (hb : Ints w l1 h1 A1 n1 vs) (hr : (Lit.int .i64 root).wf = true) :
    Calls Try.prog 64 #[.agg #[.slice A n c], .slice A1 n1 c1, .int .i64 root] w fun e w' => ∃ A' n' c', e = .returned (.tuple #[.slice A' n' c', .bool (fdF ps vs root).2]) ∧ Mine w' w.heap.size w'.heap.size A' n' (fdF ps vs root).1 ∧ Keeps w w' := by
  clear hr
  have hl := ha.1
  have hl1 := hb.1
  have hn := ha.le
  have k0 := keeps_alloc w (.cells #[.slice A n c] 51)
  obtain ⟨v1, H1⟩ : ∃ v, Hid (valB 100000 ps vs = v) := ⟨_, rfl⟩
  obtain ⟨v2, H2⟩ : ∃ v, Hid (inB root 0 1000000 = v) := ⟨_, rfl⟩
  cases v1
  · have HF := hid (fdF_no (ps := ps) (vs := vs) (root := root) (by rw [H1.out]; rfl))
    unfold valB at H1
    go_enter Try.func64, Try.ntmps64
    go_wp2_with fail
    refine (iValues_any (ha.keeps k0) (hb.keeps k0)).mono ?_
    rintro e w1 ⟨rfl, k1⟩
    rw [H1.out]
    have bx := box_keeps k1
    have kz := k0.trans k1
    go_wp2_with fail
    go_ret2
    exact ⟨none, 0, 0, ret_sb (by rw [HF.out]), by rw [HF.out]; exact Mine.nil_ _ _, kz⟩
  cases v2
  · have HF := hid (fdF_no (ps := ps) (vs := vs) (root := root) (by rw [H1.out, H2.out]; rfl))
    unfold valB at H1
    go_enter Try.func64, Try.ntmps64
    go_wp2_with fail
    refine (iValues_any (ha.keeps k0) (hb.keeps k0)).mono ?_
    rintro e w1 ⟨rfl, k1⟩
    rw [H1.out]
    have bx := box_keeps k1
    have kz := k0.trans k1
    go_wp2_with fail
    refine (l1In_any _ _ _ _).mono ?_
    rintro e w2 ⟨rfl, rfl⟩
    rw [H2.out]
    go_wp2_with fail
    go_ret2
    exact ⟨none, 0, 0, ret_sb (by rw [HF.out]), by rw [HF.out]; exact Mine.nil_ _ _, kz⟩
  have hv := valB_true.1 H1.out
  have hg := geoB_true.1 hv.1
  obtain rfl : n1 = n := by omega
  have HF := hid (fdF_yes H1.out H2.out)
  rw [hl] at HF
  have HG := hid hg.2.1
  have hn0 : 0 < n1 := by omega
  have HB := hid (within_bd (B := 100000) hv.2.2 (by omega) (by omega) (by omega))
  unfold valB at H1
  clear hv hg
  go_enter Try.func64, Try.ntmps64
  go_wp2_with fail
  refine (iValues_any (ha.keeps k0) (hb.keeps k0)).mono ?_
  rintro e w1 ⟨rfl, k1⟩
  rw [H1.out]
  have bx := box_keeps k1
  have kz := k0.trans k1
  go_wp2_with fail
  refine (l1In_any _ _ _ _).mono ?_
  rintro e w2 ⟨rfl, rfl⟩
  rw [H2.out]
  go_wp2_with fail
  refine (iFit_any ((ha.keeps k0).keeps k1) ((hb.keeps k0).keeps k1) HG.out hn0 HB.out (inB_true.1 H2.out)).mono ?_
  rintro e w3 ⟨A3, c3, rfl, hm, k3⟩
  have hz := kz.size
  go_wp2_with fail
  go_ret2
  exact ⟨A3, _, c3, ret_sb (by rw [HF.out]), by rw [HF.out]; exact hm.widen hz (Nat.le_refl _) (Nat.le_refl _), kz.trans k3⟩
set_option maxRecDepth 100000 in
set_option maxHeartbeats 4000000 in
theorem impl_FitDown_any {A A1 : Option Addr} {l h l1 h1 n n1 c c1 : Nat} {ps vs : List Int} {root : Int} {w : World} (ha : Ints w l h A n ps) (hb : Ints w l1 h1 A1 n1 vs) (hr : (Lit.int .i64 root).wf = true) :
    Calls Try.prog 63 #[.agg #[.slice A n c], .slice A1 n1 c1, .int .i64 root] w fun e w' => ∃ A' n' c', e = .returned (.tuple #[.slice A' n' c', .bool (fdF ps vs root).2]) ∧ Mine w' w.heap.size w'.heap.size A' n' (fdF ps vs root).1 ∧ Keeps w w' := by
  clear hr
  have hl := ha.1
  have hl1 := hb.1
  have hn := ha.le
  have hnb := hb.le
  have hat := ha.top
  have hbt := hb.top
  have k0 := keeps_alloc w (.cells #[.slice A n c] 51)
  cases hg : geoB ps with
  | false =>
    have HF := hid (fdF_no (root := root) (by rw [valB_geo (vs := vs) (B := 100000) hg]; rfl))
    have HG := hid hg
    clear hg
    go_enter Try.func63, Try.ntmps63
    go_wp2_with fail
    refine (IsGeo_any (ha.keeps k0)).mono ?_
    rintro e w1 ⟨rfl, k1⟩
    rw [HG.out]
    have bx := box_keeps k1
    have kz := k0.trans k1
    have va := (ha.keeps k0).keeps k1
    have vb := (hb.keeps k0).keeps k1
    go_wp2_with fail
    go_ret2
    exact ⟨none, 0, 0, ret_sb (by rw [HF.out]), by rw [HF.out]; exact Mine.nil_ _ _, kz⟩
  | true =>
    have HG := hid hg
    have hgt := geoB_true.1 hg
    clear hg
    by_cases e1 : n1 = n
    rotate_left
    · have HF := hid (fdF_no (root := root) (by rw [valB_len (B := 100000) (ps := ps) (vs := vs) (by omega)]; rfl))
      have t1 : ((n1 : Int) != (n : Int)) = true := by rw [bne_iff_ne]; omega
      clear e1 hgt
      go_enter Try.func63, Try.ntmps63
      go_wp2_with fail
      refine (IsGeo_any (ha.keeps k0)).mono ?_
      rintro e w1 ⟨rfl, k1⟩
      rw [HG.out]
      have bx := box_keeps k1
      have kz := k0.trans k1
      have va := (ha.keeps k0).keeps k1
      have vb := (hb.keeps k0).keeps k1
      go_wp2_with fail
      go_ret2
      exact ⟨none, 0, 0, ret_sb (by rw [HF.out]), by rw [HF.out]; exact Mine.nil_ _ _, kz⟩
    subst e1
    obtain ⟨n, rfl⟩ : ∃ n, n = n1 := ⟨_, rfl⟩
    have t2 : ((n : Int) != (n : Int)) = false := by simp
    obtain ⟨v1, H1⟩ : ∃ v, Hid (partsB vs = v) := ⟨_, rfl⟩
    have EP := hid (partsB_mid (xs := vs) (by omega) (by omega))
    have HT := hid hgt.2.1
    have hn0 : 0 < n := by omega
    clear hgt
    cases v1
    · have HF := hid (fdF_no (root := root) (by rw [valB_in (ps := ps) (EP.out.symm.trans H1.out)]; rfl))
      go_enter Try.func63, Try.ntmps63
      go_wp2_with fail
      refine (IsGeo_any (ha.keeps k0)).mono ?_
      rintro e w1 ⟨rfl, k1⟩
      rw [HG.out]
      have bx := box_keeps k1
      have kz := k0.trans k1
      have va := (ha.keeps k0).keeps k1
      have vb := (hb.keeps k0).keeps k1
      go_wp2_with fail
      refine (areParts_any _ _ _ _ _ _ _ vb).mono ?_
      rintro e w2 ⟨rfl, rfl⟩
      rw [H1.out]
      go_wp2_with fail
      go_ret2
      exact ⟨none, 0, 0, ret_sb (by rw [HF.out]), by rw [HF.out]; exact Mine.nil_ _ _, kz⟩
    have HV := hid (valB_true.2 ⟨HG.out, (by omega : vs.length = ps.length), EP.out.symm.trans H1.out⟩)
    by_cases r1 : 0 ≤ root
    rotate_left
    · have HF := hid (fdF_no (ps := ps) (vs := vs) (root := root) (by rw [inB_false.2 (.inl (by omega)), Bool.and_false]))
      go_enter Try.func63, Try.ntmps63
      go_wp2_with fail
      refine (IsGeo_any (ha.keeps k0)).mono ?_
      rintro e w1 ⟨rfl, k1⟩
      rw [HG.out]
      have bx := box_keeps k1
      have kz := k0.trans k1
      have va := (ha.keeps k0).keeps k1
      have vb := (hb.keeps k0).keeps k1
      go_wp2_with fail
      refine (areParts_any _ _ _ _ _ _ _ vb).mono ?_
      rintro e w2 ⟨rfl, rfl⟩
      rw [H1.out]
      go_wp2_with fail
      go_ret2
      exact ⟨none, 0, 0, ret_sb (by rw [HF.out]), by rw [HF.out]; exact Mine.nil_ _ _, kz⟩
    by_cases r2 : root ≤ 1000000
    rotate_left
    · have HF := hid (fdF_no (ps := ps) (vs := vs) (root := root) (by rw [inB_false.2 (.inr (by omega)), Bool.and_false]))
      go_enter Try.func63, Try.ntmps63
      go_wp2_with fail
      refine (IsGeo_any (ha.keeps k0)).mono ?_
      rintro e w1 ⟨rfl, k1⟩
      rw [HG.out]
      have bx := box_keeps k1
      have kz := k0.trans k1
      have va := (ha.keeps k0).keeps k1
      have vb := (hb.keeps k0).keeps k1
      go_wp2_with fail
      refine (areParts_any _ _ _ _ _ _ _ vb).mono ?_
      rintro e w2 ⟨rfl, rfl⟩
      rw [H1.out]
      go_wp2_with fail
      go_ret2
      exact ⟨none, 0, 0, ret_sb (by rw [HF.out]), by rw [HF.out]; exact Mine.nil_ _ _, kz⟩
    have HF := hid (fdF_yes HV.out (inB_true.2 ⟨r1, r2⟩))
    rw [hl] at HF
    have HRT := hid (show 0 ≤ root ∧ root ≤ 1000000 from ⟨r1, r2⟩)
    have HB := hid (within_bd (B := 100000) (EP.out.symm.trans H1.out) (by omega) (by omega) (by omega))
    clear HV EP
    have HGR := HT
    clear HT
    have hmk := make_ints n hn
    have hn1 : (0 : Int) < (n : Int) := by omega
    have hm0 : (madeCells #[.int .i64 0] n)[0]? = some (.int .i64 0) := by
      have h1 := (Own.new w n).cell 0 (by simp; omega)
      rw [cell_of_row _ _ _ _ _ _ (heap_alloc_new _ _)] at h1
      rw [h1, zeros_getD]
    go_enter Try.func63, Try.ntmps63
    go_wp2_with fail
    refine (IsGeo_any (ha.keeps k0)).mono ?_
    rintro e w1 ⟨rfl, k1⟩
    rw [HG.out]
    have bx := box_keeps k1
    have kz := k0.trans k1
    have va := (ha.keeps k0).keeps k1
    have vb := (hb.keeps k0).keeps k1
    go_wp2_with fail
    refine (areParts_any _ _ _ _ _ _ _ vb).mono ?_
    rintro e w2 ⟨rfl, rfl⟩
    rw [H1.out]
    go_wp2_with fail
    obtain ⟨hownS, k2⟩ := fit_new1 w1 n root
    have bx := cell_keeps bx k2
    have va := va.keeps k2
    have vb := vb.keeps k2
    have hkpS := hid (kz.trans k2)
    have hsS := hkpS.out.size
    have hsz := kz.size
    have hsz1 := k1.size
    simp at hsz1
    have hgS := hownS.lt
    generalize (w1.alloc (.cells ((madeCells #[.int .i64 0] n).setIfInBounds 0 (.int .i64 root)) 3)) = w2 at *
    generalize hgg : w1.heap.size = g at *
    clear hmk hm0 k0 k1 k2 kz ha hb HG
    have HG := HGR
    clear HGR
    go_loopw [50] (fun i wr => ∃ k : Nat, k ≤ n ∧ i = .int .i64 k ∧ Own wr g (fitTo ps vs root k) ∧ Hid (Rg (fitTo ps vs root k)) ∧ Keeps w wr ∧ Fr g (g + 1) w2 wr) (fun i _ => n - (intOf i).toNat)
    case atStart => exact ⟨0, Nat.zero_le _, rfl, by rw [fitTo, hl]; exact hownS, hid (by rw [fitTo]; exact fit_start HRT.out), hkpS.out, Fr.refl _ _ _⟩
    case round =>
      obtain ⟨k, hk, rfl, hown, HR, hkp, hfr⟩ := hrel
      by_cases hlt : k < n
      · have hgs := hown.lt
        have hk1 : (k : Int) < (n : Int) := by omega
        have va := va.fr hfr (by omega)
        have vb := vb.fr hfr (by omega)
        have bx := cell_fr bx hfr (by simp; omega)
        go_wp2_with fail
        refine (childrenOf_any va HG.out (by omega)).mono ?_
        rintro e w3 ⟨A3, c3, rfl, hm3, k3⟩
        have hmk := hm3.1
        clear hm3
        replace va := va.keeps k3
        replace vb := vb.keeps k3
        replace bx := cell_keeps bx k3
        replace hown := hown.keeps k3
        have hs3 := k3.size
        have hf3 := hid (hfr.trans (Fr.of_keeps k3 _ _))
        have hkp3 := hid (hkp.trans k3)
        have hkl : (kids ps k).length ≤ n := by have := kidsTo_len ps k ps.length; unfold kids; omega
        clear hfr hkp k3
        by_cases hk0 : (kids ps k).length = 0
        · have t1 : (((kids ps k).length : Int) == 0) = true := by simpa using hk0
          have HS := hid (fitTo_skip (vs := vs) (root := root) hk0)
          rw [← HS.out] at hown HR
          clear hk0
          go_wp2
          go_roundw
          case rel => exact ⟨k + 1, by omega, by go_num, hown, HR, hkp3.out, hf3.out⟩
          case measure => simp [intOf]; omega
        have t1 : (((kids ps k).length : Int) == 0) = false := by simp; intro h; rw [h] at hk0; exact hk0 rfl
        obtain ⟨t, ht0, ht⟩ := hown.at_ k (by rw [fitTo_len]; omega)
        have htr := HR.out k
        rw [← ht.out] at htr
        have HTR := hid htr
        clear htr
        have HKN := hid hk0
        have hk2 : 0 < (kids ps k).length := by omega
        clear hk0
        have hmk1 := make_ints (kids ps k).length (by omega)
        go_wp2_with fail
        go_cut [11, 12, 13] (fun s11 s12 s13 wx => ∃ g1 g2 g3 : Nat, s11 = .slice (some ⟨g1, 0, none⟩) (kids ps k).length (kids ps k).length ∧ s12 = .slice (some ⟨g2, 0, none⟩) (kids ps k).length (kids ps k).length ∧ s13 = .slice (some ⟨g3, 0, none⟩) (kids ps k).length (kids ps k).length ∧ g1 ≠ g2 ∧ g1 ≠ g3 ∧ g2 ≠ g3 ∧ w3.heap.size ≤ g1 ∧ w3.heap.size ≤ g2 ∧ w3.heap.size ≤ g3 ∧ Own wx g1 (zeros (kids ps k).length) ∧ Own wx g2 (zeros (kids ps k).length) ∧ Own wx g3 (zeros (kids ps k).length) ∧ Keeps w3 wx)
        case first =>
          obtain ⟨o1, o2, o3, o4⟩ := three_new w3 (kids ps k).length
          go_region
          all_goals (go_wp2_with fail; go_meet; exact ⟨_, _, _, rfl, rfl, rfl, by omega, by omega, by omega, by omega, by omega, by omega, by first | exact o1 | exact o2 | exact o3, by first | exact o1 | exact o2 | exact o3, by first | exact o1 | exact o2 | exact o3, o4.trans (Keeps.drewN _ 1)⟩)
        case rest =>
          obtain ⟨g1, g2, g3, rfl, rfl, rfl, d12, d13, d23, l1, l2, l3, o1, o2, o3, o4⟩ := hcut
          clear hmk1
          go_wp2_with fail
          go_loopw [70] (fun i wr => ∃ m : Nat, m ≤ (kids ps k).length ∧ i = .int .i64 m ∧ Own wr g1 (padTo (vsAt vs (kids ps k)) m) ∧ Own wr g2 (zeros (kids ps k).length) ∧ Own wr g3 (padTo (tops (kids ps k).length) m) ∧ Keeps w3 wr) (fun i _ => (kids ps k).length - (intOf i).toNat)
          case atStart => exact ⟨0, Nat.zero_le _, rfl, by rw [padTo_zero, vsAt_len]; exact o1, o2, by rw [padTo_zero, tops_len]; exact o3, o4⟩
          case round =>
            obtain ⟨m, hm, rfl, q1, q2, q3, hq⟩ := hrel
            have hqs := hq.size
            by_cases hltm : m < (kids ps k).length
            · obtain ⟨b2, off2, y, rfl, _, _, hy0, hy⟩ := (hmk.keeps hq).at_ hltm
              obtain ⟨j, hj, hj0, hjn, _⟩ := kids_getD hltm
              obtain rfl : y = (j : Int) := hy.out.trans hj
              obtain ⟨b3, off3, z, rfl, _, _, hz0, hz⟩ := (vb.keeps hq).at_ (k := j) (by omega)
              have hj1 : (j : Int) < (n : Int) := by omega
              have HZ := hid (hz.out.trans (vsAt_getD (vs := vs) hltm hj).symm)
              clear hj
              obtain ⟨u1, hu1, -⟩ := q1.at_ m (by rw [padTo_len _ _ (by rw [vsAt_len]; omega), vsAt_len]; omega)
              obtain ⟨u3, hu3, -⟩ := q3.at_ m (by rw [padTo_len _ _ (by rw [tops_len]; omega), tops_len]; omega)
              have hf1 := q1.frozen m
              have hf3' := q3.frozen m
              have H1 := hid ((q1.set_ m z).far (p := ⟨g3, m, none⟩) d13 (.int .i64 1000000))
              have H2 := hid ((q2.far (p := ⟨g1, m, none⟩) d12.symm (.int .i64 z)).far (p := ⟨g3, m, none⟩) d23 (.int .i64 1000000))
              have H3 := hid ((q3.far (p := ⟨g1, m, none⟩) d13.symm (.int .i64 z)).set_ m 1000000)
              rw [HZ.out, padTo_succ _ _ (by rw [vsAt_len]; omega), ← HZ.out] at H1
              have E3 := padTo_succ (tops (kids ps k).length) m (by rw [tops_len]; omega)
              rw [tops_getD, if_pos hltm] at E3
              rw [E3] at H3
              have H4 := hid ((hq.setCell (p := ⟨g1, m, none⟩) l1 (.int .i64 z)).setCell (p := ⟨g3, m, none⟩) l3 (.int .i64 1000000))
              clear q1 q2 q3 hq E3
              go_wp2
              go_roundw
              case rel => exact ⟨m + 1, by omega, by go_num, H1.out, H2.out, H3.out, H4.out⟩
              case measure => simp [intOf]; omega
            · obtain rfl : m = (kids ps k).length := by omega
              have HE1 := hid (show padTo (vsAt vs (kids ps k)) (kids ps k).length = vsAt vs (kids ps k) by have := padTo_all (vsAt vs (kids ps k)); rwa [vsAt_len] at this)
              have HE3 := hid (show padTo (tops (kids ps k).length) (kids ps k).length = tops (kids ps k).length by have := padTo_all (tops (kids ps k).length); rwa [tops_len] at this)
              rw [HE1.out] at q1
              rw [HE3.out] at q3
              have i1 := (q1.mine (vsAt_len _ _) (by omega) l1 q1.lt (Nat.le_refl _)).1
              have i2 := (q2.mine (n := (kids ps k).length) (by simp) (by omega) l2 q2.lt (Nat.le_refl _)).1
              have i3 := (q3.mine (tops_len _) (by omega) l3 q3.lt (Nat.le_refl _)).1
              replace hmk := hmk.keeps hq
              replace hown := hown.keeps hq
              replace ht0 := cell_keeps ht0 hq
              have hf4 := hid (hf3.out.trans (Fr.of_keeps hq _ _))
              have hkp4 := hid (hkp3.out.trans hq)
              clear q1 q2 q3 hq hf3 hkp3 o1 o2 o3 o4
              go_wp2_with fail
              refine (adjusted_any i1 i2 i3 ((vsAt_bd HB.out (by omega)).mono (by omega)) (zeros_bd _) (tops_bd _) (zeros_ordered _) (by rw [zeros_sum]; exact HTR.out.1) (by rw [tops_sum]; have := HTR.out.2; omega)).mono ?_
              rintro e w5 ⟨A7, xs, rfl, hm7, hadj, k7⟩
              have hmx := hm7.1
              have HS := hid (fitTo_step HKN.out ht.out hadj)
              have HR2 := hid (show Rg (fitTo ps vs root (k + 1)) by rw [← HS.out]; exact setTo_rg HR.out (isAdj_rg (vsAt_len _ _) hadj) _)
              replace hmk := hmk.keeps k7
              replace hown := hown.keeps k7
              have hfr5 := hf4.out.trans (Fr.of_keeps k7 _ _)
              have hkp5 := hkp4.out.trans k7
              have hs5 := hkp5.size
              clear hadj hm7 i1 i2 i3 k7 hf4 hkp4
              go_wp2_with fail
              go_loopw [95] (fun i wr => ∃ m : Nat, m ≤ (kids ps k).length ∧ i = .int .i64 m ∧ Own wr g (setTo (fitTo ps vs root k) (kids ps k) xs m) ∧ Fr g (g + 1) w5 wr) (fun i _ => (kids ps k).length - (intOf i).toNat)
              case atStart => exact ⟨0, Nat.zero_le _, rfl, hown, Fr.refl _ _ _⟩
              case round =>
                obtain ⟨m, hm, rfl, hown3, hf3⟩ := hrel
                by_cases hltm : m < (kids ps k).length
                · obtain ⟨b2, off2, y, rfl, _, _, hy0, hy⟩ := (hmk.fr hf3 (by omega)).at_ hltm
                  obtain ⟨j, hj, hj0, hjn, _⟩ := kids_getD hltm
                  obtain rfl : y = (j : Int) := hy.out.trans hj
                  obtain ⟨b3, off3, z, rfl, _, _, hz0, hz⟩ := (hmx.fr hf3 (by omega)).at_ hltm
                  obtain ⟨u, hu0, -⟩ := hown3.at_ j (by rw [setTo_len, fitTo_len]; omega)
                  have hfz := hown3.frozen j
                  have hj1 : (j : Int) < (n : Int) := by omega
                  have H1 := hid (hown3.set_ j z)
                  rw [setTo_succ hj hz.out] at H1
                  have H2 := hid (hf3.setCell (p := ⟨g, j, none⟩) (Nat.le_refl _) (Nat.lt_succ_self _) (.int .i64 z))
                  clear hown3 hf3
                  go_wp2
                  go_roundw
                  case rel => exact ⟨m + 1, by omega, by go_num, H1.out, H2.out⟩
                  case measure => simp [intOf]; omega
                · obtain rfl : m = (kids ps k).length := by omega
                  rw [HS.out] at hown3
                  have hkN := hid (below_fr hkp5 (by omega) (by omega) hf3)
                  have hfN := hid (hfr5.trans hf3)
                  go_wp2
                  go_roundw
                  case rel => exact ⟨k + 1, by omega, by go_num, hown3, HR2, hkN.out, hfN.out⟩
                  case measure => simp [intOf]; omega
      · obtain rfl : k = n := by omega
        go_wp2
        go_ret2; exact ⟨_, _, _, ret_sb (by rw [HF.out]), by rw [HF.out]; exact hown.mine (by rw [fitTo_len]; exact hl) hn (by omega) hown.lt (Nat.le_refl _), hkp⟩
end Go.Proofs.Ytkpliolafkdijaa
