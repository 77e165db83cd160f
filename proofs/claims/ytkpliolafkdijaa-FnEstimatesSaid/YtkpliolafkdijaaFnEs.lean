/- The law FnEstimates: its walk. -/
import Derived.Test.YtkpliolafkdijaaEstF
import Derived.Test.YtkpliolafkdijaaDrawN
import Derived.Test.YtkpliolafkdijaaSubF
import Derived.Test.YtkpliolafkdijaaConF
import Derived.Test.YtkpliolafkdijaaAtree
import Derived.Test.YtkpliolafkdijaaFnh
namespace Go.Proofs.Ytkpliolafkdijaa
open Go.RowKit
set_option linter.unusedVariables false
set_option linter.unusedSimpArgs false

theorem nodup_rev {p : List Int} (h : p.Nodup) : p.reverse.Nodup := List.pairwise_reverse.2 (List.Pairwise.imp (fun h => Ne.symm h) h)
theorem weQ_frac {ps y v : List Int} {l : List QQ} {a b : Int} (e : weQ ps y v l = (a, b, true)) : fracB a b = true := by
  by_cases h : treeB ps y v = true ∧ gfB ps l = true
  · rw [weQ_yes h] at e
    exact (accQ_fineR fracB_01 (fun _ _ _ _ => weSt_fine _ _ _ _ _ _) _).ok e
  · rw [weQ_no h] at e; cases e
set_option maxRecDepth 100000 in
set_option maxHeartbeats 12800000 in
theorem FnEstimates_law (A0 : Option Addr) (n0 c0 : Nat) (A1 : Option Addr) (n1 c1 : Nat) (w : World) (wa0 : BytesArg w A0 n0) (wa1 : BytesArg w A1 n1) :
    Calls Try.prog 12 #[.slice A0 n0 c0, .slice A1 n1 c1] w fun e w' => e = .returned (.bool true) ∧ Below w.heap.size w w' := by
  have B0 := wa0
  have B1_ := wa1
  have m0 := wa0.1
  have m1 := wa1.1
  obtain ⟨S, hS⟩ : ∃ S, wrap64 ((n0 : Int) + (n1 : Int)) = S := ⟨_, rfl⟩
  by_cases hlt : 1048576 < S
  · go_enter Try.func12, Try.ntmps12
    have kw := keeps_refl w
    go_wp2_with fail
    go_ret
    exact ⟨rfl, kw⟩
  go_enter Try.func12, Try.ntmps12
  have kw := keeps_refl w
  go_wp2_with fail
  clear hS hlt
  refine (DrawConsistentEstimates_any B0).mono ?_
  rintro e w1 ⟨A2, N, C, ps, A3, N3, C3, ys, A4, N4, C4, vs, rfl, hI, hJ, hK, hN, k1⟩
  replace kw := Keeps.trans kw k1
  clear k1
  have k5 := keeps_alloc w1 (.cells #[.slice A2 N C] 51)
  have b5 : B1 (w1.alloc (.cells #[.slice A2 N C] 51)) w1.heap.size (.slice A2 N C) := B1.new' rfl
  replace hI := hI.keeps k5
  replace hJ := hJ.keeps k5
  replace hK := hK.keeps k5
  replace kw := Keeps.trans kw k5
  clear k5
  obtain ⟨z1, z2⟩ := id b5
  go_wp2_with fail
  clear z1 z2
  obtain ⟨l, ok, HG⟩ : ∃ x y, Hid (conQ ps ys vs = (x, y)) := ⟨_, _, rfl⟩
  refine (implConsistentEstimates_any hI hJ hK).mono ?_
  rintro e w3 ⟨A5, N5, C5, rfl, hx, k3⟩
  replace hI := hI.keeps k3
  replace hJ := hJ.keeps k3
  replace hK := hK.keeps k3
  replace b5 := b5.keeps k3
  replace kw := Keeps.trans kw k3
  clear k3
  rw [HG.out] at hx
  rw [HG.out]
  dsimp only at hx
  dsimp only
  obtain ⟨z1, z2⟩ := id b5
  go_wp2_with fail
  clear z1 z2
  refine (specConsistentEstimates_any hI hJ hK).mono ?_
  rintro e w4 ⟨A6, N6, C6, rfl, hy, k4⟩
  replace hI := hI.keeps k4
  replace hJ := hJ.keeps k4
  replace hK := hK.keeps k4
  replace hx := hx.keeps k4
  replace b5 := b5.keeps k4
  replace kw := Keeps.trans kw k4
  clear k4
  rw [HG.out] at hy
  rw [HG.out]
  dsimp only at hy
  dsimp only
  go_wp2_with fail
  refine (DrawSubtreeEstimates_any (Bytes.keeps B1_ kw)).mono ?_
  rintro e w6 ⟨A7, N7, C7, ps2, A8, N8, C8, ys2, A9, N9, C9, vs2, rfl, hI2, hJ2, hK2, hN2, k6⟩
  replace hI := hI.keeps k6
  replace hJ := hJ.keeps k6
  replace hK := hK.keeps k6
  replace hx := hx.keeps k6
  replace hy := hy.keeps k6
  replace b5 := b5.keeps k6
  replace kw := Keeps.trans kw k6
  clear k6
  have k7 := keeps_alloc w6 (.cells #[.slice A7 N7 C7] 51)
  have b12 : B1 (w6.alloc (.cells #[.slice A7 N7 C7] 51)) w6.heap.size (.slice A7 N7 C7) := B1.new' rfl
  replace hI := hI.keeps k7
  replace hJ := hJ.keeps k7
  replace hK := hK.keeps k7
  replace hx := hx.keeps k7
  replace hy := hy.keeps k7
  replace hI2 := hI2.keeps k7
  replace hJ2 := hJ2.keeps k7
  replace hK2 := hK2.keeps k7
  replace b5 := b5.keeps k7
  replace kw := Keeps.trans kw k7
  clear k7
  obtain ⟨z1, z2⟩ := id b12
  go_wp2_with fail
  clear z1 z2
  obtain ⟨s1, s2, ok2, HS⟩ : ∃ x y z, Hid (subQ ps2 ys2 vs2 = (x, y, z)) := ⟨_, _, _, rfl⟩
  refine (implSubtreeEstimates_any hI2 hJ2 hK2).mono ?_
  rintro e w8 ⟨Aa, Na, Ca, Ab, Nb, Cb, L1, U1, L2, U2, rfl, -, ha, hb, k8⟩
  replace hI := hI.keeps k8
  replace hJ := hJ.keeps k8
  replace hK := hK.keeps k8
  replace hx := hx.keeps k8
  replace hy := hy.keeps k8
  replace hI2 := hI2.keeps k8
  replace hJ2 := hJ2.keeps k8
  replace hK2 := hK2.keeps k8
  replace b5 := b5.keeps k8
  replace b12 := b12.keeps k8
  replace kw := Keeps.trans kw k8
  clear k8
  rw [HS.out] at ha hb
  rw [HS.out]
  dsimp only at ha hb
  dsimp only
  obtain ⟨z1, z2⟩ := id b12
  go_wp2_with fail
  clear z1 z2
  refine (specSubtreeEstimates_any hI2 hJ2 hK2).mono ?_
  rintro e w9 ⟨Ac, Nc, Cc, Ad, Nd, Cd, L3, U3, L4, U4, rfl, -, hc, hd, k9⟩
  replace hI := hI.keeps k9
  replace hJ := hJ.keeps k9
  replace hK := hK.keeps k9
  replace hx := hx.keeps k9
  replace hy := hy.keeps k9
  replace ha := ha.keeps k9
  replace hb := hb.keeps k9
  replace b5 := b5.keeps k9
  replace kw := Keeps.trans kw k9
  clear k9 b12 hI2 hJ2 hK2
  rw [HS.out] at hc hd
  rw [HS.out]
  dsimp only at hc hd
  dsimp only
  have q0 : (ok != ok) = false := by simp
  have q1 : (ok2 != ok2) = false := by simp
  go_wp2_with fail
  refine (qFracsE_true hx.1 hy.1).mono ?_
  rintro e wa ⟨rfl, ka⟩
  replace hI := hI.keeps ka
  replace hJ := hJ.keeps ka
  replace hK := hK.keeps ka
  replace hx := hx.keeps ka
  replace ha := ha.keeps ka
  replace hb := hb.keeps ka
  replace hc := hc.keeps ka
  replace hd := hd.keeps ka
  replace b5 := b5.keeps ka
  replace kw := Keeps.trans kw ka
  clear ka hy
  go_wp2_with fail
  refine (qFracsE_true ha.1 hc.1).mono ?_
  rintro e wb ⟨rfl, kb⟩
  replace hI := hI.keeps kb
  replace hJ := hJ.keeps kb
  replace hK := hK.keeps kb
  replace hx := hx.keeps kb
  replace hb := hb.keeps kb
  replace hd := hd.keeps kb
  replace b5 := b5.keeps kb
  replace kw := Keeps.trans kw kb
  clear kb ha hc
  go_wp2_with fail
  refine (qFracsE_true hb.1 hd.1).mono ?_
  rintro e wc ⟨rfl, kc⟩
  replace hI := hI.keeps kc
  replace hJ := hJ.keeps kc
  replace hK := hK.keeps kc
  replace hx := hx.keeps kc
  replace b5 := b5.keeps kc
  replace kw := Keeps.trans kw kc
  clear kc hb hd q0 q1 HS
  obtain ⟨z1, z2⟩ := id b5
  cases ok
  · go_wp2_with fail
    clear z1 z2
    go_ret
    exact ⟨rfl, kw⟩
  have HP := hid (con_parts HG.out)
  have HT := hid (treeB_true.1 HP.out.1)
  have HGE := hid HT.out.1
  have hgl := (geoB_true.1 HGE.out).1
  have hlx := hI.1
  have hl5 : l.length = N := by
    obtain ⟨_, _, _, _, h, _⟩ := HP.out
    omega
  obtain rfl : N5 = N := by have := Fracs.len hx.1; omega
  clear HP HT
  go_wp2_with fail
  clear z1 z2
  obtain ⟨⟨t1, t2⟩, HA⟩ : ∃ p, Hid (atQ ps l = p) := ⟨_, hid rfl⟩
  refine (implIsAdditiveTree_any hI hx.1).mono ?_
  rintro e wd ⟨rfl, kd⟩
  rw [HA.out]
  dsimp only
  replace hI := hI.keeps kd
  replace hJ := hJ.keeps kd
  replace hK := hK.keeps kd
  replace hx := hx.keeps kd
  replace b5 := b5.keeps kd
  replace kw := Keeps.trans kw kd
  clear kd
  have hA := con_additive HG.out
  rw [HA.out] at hA
  obtain ⟨z1, z2⟩ := id b5
  have step : True := trivial
  rcases (show (t1 = true ∧ t2 = true) ∨ t2 = false by
    cases t1 <;> cases t2 <;> first | (exact absurd rfl hA) | simp) with ⟨rfl, rfl⟩ | rfl
  · go_wp2_with fail
    clear z1 z2
    obtain ⟨⟨d1, d2, d3⟩, HW⟩ : ∃ p, Hid (weQ ps ys vs l = p) := ⟨_, hid rfl⟩
    refine (implWeightedError_any hI hJ hK hx.1).mono ?_
    rintro e we ⟨rfl, ke⟩
    rw [HW.out]
    dsimp only
    replace hI := hI.keeps ke
    replace hJ := hJ.keeps ke
    replace hK := hK.keeps ke
    replace hx := hx.keeps ke
    replace b5 := b5.keeps ke
    replace kw := Keeps.trans kw ke
    clear ke
    have kb := keeps_alloc we (.cells #[.int .i64 d1, .int .i64 d2] 41)
    have b23 : Bx (we.alloc (.cells #[.int .i64 d1, .int .i64 d2] 41)) we.heap.size d1 d2 := Bx.new' rfl
    replace hI := hI.keeps kb
    replace hJ := hJ.keeps kb
    replace hK := hK.keeps kb
    replace hx := hx.keeps kb
    replace b5 := b5.keeps kb
    replace kw := Keeps.trans kw kb
    clear kb
    obtain ⟨z1, z2⟩ := id b5
    have hN0 : 0 < N5 := by omega
    go_wp2_with fail
    clear z1 z2
    refine (PathTo_any (i0 := N5 - 1) hI HGE.out (by omega) (by omega)).mono ?_
    rintro e wf ⟨Ap, Np, Cp, rfl, hp, kf⟩
    obtain ⟨path, HPA⟩ : ∃ p, Hid ((chain ps ps.length ((N5 - 1 : Nat) : Int)).reverse = p) := ⟨_, hid rfl⟩
    rw [HPA.out] at hp
    replace hI := hI.keeps kf
    replace hJ := hJ.keeps kf
    replace hK := hK.keeps kf
    replace hx := hx.keeps kf
    replace b5 := b5.keeps kf
    replace b23 := b23.keeps kf
    replace kw := Keeps.trans kw kf
    clear kf
    have swf := kw.size
    have g5f := b5.lt
    have g23f := b23.lt
    cases d3
    · go_wp2_with fail
      go_ret
      exact ⟨rfl, kw⟩
    have hi0 : ((N5 - 1 : Nat) : Int) < (ps.length : Int) := by omega
    have HND := hid (show path.Nodup by rw [← HPA.out]; exact nodup_rev (chain_nodup HGE.out _ _ hi0))
    have HME := hid (show ∀ k, k < path.length → 0 ≤ path.getD k 0 ∧ path.getD k 0 < (N5 : Int) from fun k hk => by
      have hm := List.mem_reverse.1 (show path.getD k 0 ∈ (chain ps ps.length ((N5 - 1 : Nat) : Int)).reverse by rw [HPA.out]; exact getI_mem hk)
      have := chain_mem HGE.out _ _ hi0 _ hm
      omega)
    have hlp := hp.1
    have hnp := hp.le
    obtain ⟨bx, ox, eA, hxx⟩ := hx.1.2.2.2 (by omega)
    clear hxx
    subst eA
    have tp := hp.top
    go_wp2_with (at_builtin; refine append_frs hx.1 hN0 _ _ rfl rfl rfl rfl ?_; intro v' wo hown hb; obtain ⟨Am, Cm, ev⟩ := hown.form; subst ev)
    replace hI := hI.keeps hb
    replace hJ := hJ.keeps hb
    replace hK := hK.keeps hb
    replace hp := hp.keeps hb
    replace b5 := b5.keeps hb
    replace b23 := b23.keeps hb
    replace kw := Keeps.trans kw hb
    have so := hb.size
    have mm := SlM.of_own hown (by omega) (by decide)
    clear hb hown hx
    have tI := hI.top
    have g5 := b5.lt
    go_wp2_with fail
    go_loopw [152] (fun i wr => ∃ (k : Nat) (L : List QQ), k ≤ Np ∧ i = .int .i64 k ∧ FracsM wr wf.heap.size wo.heap.size Am N5 L ∧ Hid (∀ j : Nat, rv L j = if (j : Int) ∈ path.take k then rv l j + 1 else rv l j) ∧ Ints wr w.heap.size w1.heap.size A2 N5 ps ∧ Ints wr w.heap.size w1.heap.size A3 N3 ys ∧ Ints wr w.heap.size w1.heap.size A4 N4 vs ∧ Ints wr (we.alloc (.cells #[.int .i64 d1, .int .i64 d2] 41)).heap.size wf.heap.size Ap Np path ∧ B1 wr w1.heap.size (.slice A2 N5 C) ∧ Bx wr we.heap.size d1 d2 ∧ Keeps w wr ∧ wo.heap.size ≤ wr.heap.size) (fun i _ => Np - (intOf i).toNat)
    case atStart => exact ⟨0, l, Nat.zero_le _, rfl, mm, hid (fun j => by simp), hI, hJ, hK, hp, b5, b23, kw, Nat.le_refl _⟩
    clear mm hI hJ hK hp b5 b23 kw
    case round =>
      obtain ⟨k, L, hk, rfl, mm, HL, hI, hJ, hK, hp, b5, b23, kw, sr⟩ := hrel
      have hLl := Fracs.len mm.1
      by_cases hkp : k < Np
      · have hme := HME.out k (by omega)
        obtain ⟨bp, op, x, rfl, _, _, hcp, hxp⟩ := hp.at_ (k := k) hkp
        rw [← hxp.out] at hme
        obtain ⟨i, rfl⟩ : ∃ i : Nat, x = i := ⟨x.toNat, by omega⟩
        have hiN : i < N5 := by omega
        have hi1 : (i : Int) < (N5 : Int) := by omega
        have hi2 : ¬ (i : Int) < 0 := by omega
        have hi3 : ¬ (i : Int) ≥ (N5 : Int) := by omega
        have hNle := mm.1.le
        obtain ⟨bm, om, x1, x2, rfl, hlo, hhi, hc1, hc2, hxm⟩ := Fracs.at_ mm.1 hiN
        have HRV := hid (show qv x1 x2 = rv L i by have e := hxm.out; unfold rv; rw [← e])
        have HX := hid hxp.out
        clear hxm hxp hme
        go_wp2_with fail
        refine (AddFrac1_any).mono ?_
        rintro e wg ⟨r, s, t, rfl, ht, kg⟩
        have HT := hid ht
        clear ht hc1 hc2 hcp
        replace mm := mm.keeps kg
        replace hI := hI.keeps kg
        replace hJ := hJ.keeps kg
        replace hK := hK.keeps kg
        replace hp := hp.keeps kg
        replace b5 := b5.keeps kg
        replace b23 := b23.keeps kg
        replace kw := Keeps.trans kw kg
        have sk := kg.size
        clear kg
        have kh := keeps_alloc wg (.cells #[.int .i64 r, .int .i64 s] 41)
        have b30 : Bx (wg.alloc (.cells #[.int .i64 r, .int .i64 s] 41)) wg.heap.size r s := Bx.new' rfl
        replace mm := mm.keeps kh
        replace hI := hI.keeps kh
        replace hJ := hJ.keeps kh
        replace hK := hK.keeps kh
        replace hp := hp.keeps kh
        replace b5 := b5.keeps kh
        replace b23 := b23.keeps kh
        replace kw := Keeps.trans kw kh
        have sh := kh.size
        have sg := kw.size
        clear kh
        cases t
        · go_wp2_with fail
          go_ret
          exact ⟨rfl, kw⟩
        have hz1 := mm.2 bm om rfl (i * 2) (by omega)
        have hz2 : (wg.alloc (.cells #[.int .i64 r, .int .i64 s] 41)).frozen? ⟨bm, om + i * 2 + 1, none⟩ = false := mm.2 bm om rfl (i * 2 + 1) (by omega)
        obtain ⟨bm', om', y1, y2, e', _, _, hc1, hc2, hxm⟩ := Fracs.at_ mm.1 hiN
        obtain ⟨rfl, rfl⟩ : bm = bm' ∧ om = om' := by simpa using e'
        clear hxm e'
        have hset := FracsM.set_ mm hiN r s
        have tp2 := hp.top
        have M := hid hset.1
        have fo := hid hset.2
        clear hset mm
        obtain ⟨ca, cb, fa, fb⟩ := id b30
        have HI := hid (hI.fr fo.out (by omega))
        have HJ := hid (hJ.fr fo.out (by omega))
        have HK := hid (hK.fr fo.out (by omega))
        have HP := hid (hp.fr fo.out (by omega))
        have H5 := hid (b5.fr fo.out (by omega))
        have H23 := hid (b23.fr fo.out (by omega))
        have KW := hid (below_fr kw kw.size (show w.heap.size ≤ wf.heap.size by omega) fo.out)
        have SZ := hid fo.out.size
        have HB := hid (bump_step HL.out HND.out (by omega) HX.out.symm (by omega) ((HT.out rfl).trans (by rw [HRV.out])))
        clear hI hJ hK hp b5 b23 kw fo HT HRV HX HL
        go_wp2_with fail
        go_roundw
        case rel => exact ⟨k + 1, _, by omega, by go_num, M.out, HB, HI.out, HJ.out, HK.out, HP.out, H5.out, H23.out, KW.out, Nat.le_trans (Nat.le_trans sr (Nat.le_trans sk sh)) SZ.out⟩
        case measure => simp [intOf]; omega
      · obtain rfl : k = Np := by omega
        have HL2 := hid (show ∀ j : Nat, rv L j = if (j : Int) ∈ path then rv l j + 1 else rv l j from by
          have h := HL.out
          rwa [List.take_of_length_le (by omega)] at h)
        clear HL hp
        obtain ⟨z1, z2⟩ := id b5
        go_wp2_with fail
        clear z1 z2
        obtain ⟨⟨e1, e2, e3⟩, HE⟩ : ∃ p, Hid (weQ ps ys vs L = p) := ⟨_, hid rfl⟩
        refine (implWeightedError_any hI hJ hK mm.1).mono ?_
        rintro e wg ⟨rfl, kg⟩
        rw [HE.out]
        dsimp only
        replace b23 := b23.keeps kg
        replace kw := Keeps.trans kw kg
        clear kg hI hJ hK mm b5
        have kh := keeps_alloc wg (.cells #[.int .i64 e1, .int .i64 e2] 41)
        have b32 : Bx (wg.alloc (.cells #[.int .i64 e1, .int .i64 e2] 41)) wg.heap.size e1 e2 := Bx.new' rfl
        replace b23 := b23.keeps kh
        replace kw := Keeps.trans kw kh
        clear kh
        cases e3
        · go_wp2_with fail
          go_ret
          exact ⟨rfl, kw⟩
        have hle := con_best (i := N5 - 1) HG.out (by omega) (kids_last HGE.out (by omega)) (fun j _ => by
          have h := HL2.out j
          rw [← HPA.out] at h
          simpa only [List.mem_reverse] using h) HW.out HE.out
        have HC := hid (cfQ_yes (weQ_frac HW.out) (weQ_frac HE.out))
        obtain ⟨o, HO⟩ : ∃ o, Hid (cmpQ d1 d2 e1 e2 = o) := ⟨_, hid rfl⟩
        rw [HO.out] at hle
        obtain ⟨ca, cb, fa, fb⟩ := id b23
        obtain ⟨cc, cd, fc, fd⟩ := id b32
        go_wp2_with fail
        clear ca cb fa fb cc cd fc fd
        refine (CompareFrac_any).mono ?_
        rintro e wi ⟨rfl, ki⟩
        rw [HC.out, HO.out]
        dsimp only
        replace kw := Keeps.trans kw ki
        clear ki b23 b32
        go_wp2_with fail
        go_ret
        exact ⟨rfl, kw⟩
  · go_wp2_with fail
    clear z1 z2
    obtain ⟨⟨d1, d2, d3⟩, HW⟩ : ∃ p, Hid (weQ ps ys vs l = p) := ⟨_, hid rfl⟩
    refine (implWeightedError_any hI hJ hK hx.1).mono ?_
    rintro e we ⟨rfl, ke⟩
    rw [HW.out]
    dsimp only
    replace hI := hI.keeps ke
    replace hJ := hJ.keeps ke
    replace hK := hK.keeps ke
    replace hx := hx.keeps ke
    replace b5 := b5.keeps ke
    replace kw := Keeps.trans kw ke
    clear ke
    have kb := keeps_alloc we (.cells #[.int .i64 d1, .int .i64 d2] 41)
    have b23 : Bx (we.alloc (.cells #[.int .i64 d1, .int .i64 d2] 41)) we.heap.size d1 d2 := Bx.new' rfl
    replace hI := hI.keeps kb
    replace hJ := hJ.keeps kb
    replace hK := hK.keeps kb
    replace hx := hx.keeps kb
    replace b5 := b5.keeps kb
    replace kw := Keeps.trans kw kb
    clear kb
    obtain ⟨z1, z2⟩ := id b5
    have hN0 : 0 < N5 := by omega
    go_wp2_with fail
    clear z1 z2
    refine (PathTo_any (i0 := N5 - 1) hI HGE.out (by omega) (by omega)).mono ?_
    rintro e wf ⟨Ap, Np, Cp, rfl, hp, kf⟩
    obtain ⟨path, HPA⟩ : ∃ p, Hid ((chain ps ps.length ((N5 - 1 : Nat) : Int)).reverse = p) := ⟨_, hid rfl⟩
    rw [HPA.out] at hp
    replace hI := hI.keeps kf
    replace hJ := hJ.keeps kf
    replace hK := hK.keeps kf
    replace hx := hx.keeps kf
    replace b5 := b5.keeps kf
    replace b23 := b23.keeps kf
    replace kw := Keeps.trans kw kf
    clear kf
    have swf := kw.size
    have g5f := b5.lt
    have g23f := b23.lt
    cases d3
    · go_wp2_with fail
      go_ret
      exact ⟨rfl, kw⟩
    have hi0 : ((N5 - 1 : Nat) : Int) < (ps.length : Int) := by omega
    have HND := hid (show path.Nodup by rw [← HPA.out]; exact nodup_rev (chain_nodup HGE.out _ _ hi0))
    have HME := hid (show ∀ k, k < path.length → 0 ≤ path.getD k 0 ∧ path.getD k 0 < (N5 : Int) from fun k hk => by
      have hm := List.mem_reverse.1 (show path.getD k 0 ∈ (chain ps ps.length ((N5 - 1 : Nat) : Int)).reverse by rw [HPA.out]; exact getI_mem hk)
      have := chain_mem HGE.out _ _ hi0 _ hm
      omega)
    have hlp := hp.1
    have hnp := hp.le
    obtain ⟨bx, ox, eA, hxx⟩ := hx.1.2.2.2 (by omega)
    clear hxx
    subst eA
    have tp := hp.top
    go_wp2_with (at_builtin; refine append_frs hx.1 hN0 _ _ rfl rfl rfl rfl ?_; intro v' wo hown hb; obtain ⟨Am, Cm, ev⟩ := hown.form; subst ev)
    replace hI := hI.keeps hb
    replace hJ := hJ.keeps hb
    replace hK := hK.keeps hb
    replace hp := hp.keeps hb
    replace b5 := b5.keeps hb
    replace b23 := b23.keeps hb
    replace kw := Keeps.trans kw hb
    have so := hb.size
    have mm := SlM.of_own hown (by omega) (by decide)
    clear hb hown hx
    have tI := hI.top
    have g5 := b5.lt
    go_wp2_with fail
    go_loopw [152] (fun i wr => ∃ (k : Nat) (L : List QQ), k ≤ Np ∧ i = .int .i64 k ∧ FracsM wr wf.heap.size wo.heap.size Am N5 L ∧ Hid (∀ j : Nat, rv L j = if (j : Int) ∈ path.take k then rv l j + 1 else rv l j) ∧ Ints wr w.heap.size w1.heap.size A2 N5 ps ∧ Ints wr w.heap.size w1.heap.size A3 N3 ys ∧ Ints wr w.heap.size w1.heap.size A4 N4 vs ∧ Ints wr (we.alloc (.cells #[.int .i64 d1, .int .i64 d2] 41)).heap.size wf.heap.size Ap Np path ∧ B1 wr w1.heap.size (.slice A2 N5 C) ∧ Bx wr we.heap.size d1 d2 ∧ Keeps w wr ∧ wo.heap.size ≤ wr.heap.size) (fun i _ => Np - (intOf i).toNat)
    case atStart => exact ⟨0, l, Nat.zero_le _, rfl, mm, hid (fun j => by simp), hI, hJ, hK, hp, b5, b23, kw, Nat.le_refl _⟩
    clear mm hI hJ hK hp b5 b23 kw
    case round =>
      obtain ⟨k, L, hk, rfl, mm, HL, hI, hJ, hK, hp, b5, b23, kw, sr⟩ := hrel
      have hLl := Fracs.len mm.1
      by_cases hkp : k < Np
      · have hme := HME.out k (by omega)
        obtain ⟨bp, op, x, rfl, _, _, hcp, hxp⟩ := hp.at_ (k := k) hkp
        rw [← hxp.out] at hme
        obtain ⟨i, rfl⟩ : ∃ i : Nat, x = i := ⟨x.toNat, by omega⟩
        have hiN : i < N5 := by omega
        have hi1 : (i : Int) < (N5 : Int) := by omega
        have hi2 : ¬ (i : Int) < 0 := by omega
        have hi3 : ¬ (i : Int) ≥ (N5 : Int) := by omega
        have hNle := mm.1.le
        obtain ⟨bm, om, x1, x2, rfl, hlo, hhi, hc1, hc2, hxm⟩ := Fracs.at_ mm.1 hiN
        have HRV := hid (show qv x1 x2 = rv L i by have e := hxm.out; unfold rv; rw [← e])
        have HX := hid hxp.out
        clear hxm hxp hme
        go_wp2_with fail
        refine (AddFrac1_any).mono ?_
        rintro e wg ⟨r, s, t, rfl, ht, kg⟩
        have HT := hid ht
        clear ht hc1 hc2 hcp
        replace mm := mm.keeps kg
        replace hI := hI.keeps kg
        replace hJ := hJ.keeps kg
        replace hK := hK.keeps kg
        replace hp := hp.keeps kg
        replace b5 := b5.keeps kg
        replace b23 := b23.keeps kg
        replace kw := Keeps.trans kw kg
        have sk := kg.size
        clear kg
        have kh := keeps_alloc wg (.cells #[.int .i64 r, .int .i64 s] 41)
        have b30 : Bx (wg.alloc (.cells #[.int .i64 r, .int .i64 s] 41)) wg.heap.size r s := Bx.new' rfl
        replace mm := mm.keeps kh
        replace hI := hI.keeps kh
        replace hJ := hJ.keeps kh
        replace hK := hK.keeps kh
        replace hp := hp.keeps kh
        replace b5 := b5.keeps kh
        replace b23 := b23.keeps kh
        replace kw := Keeps.trans kw kh
        have sh := kh.size
        have sg := kw.size
        clear kh
        cases t
        · go_wp2_with fail
          go_ret
          exact ⟨rfl, kw⟩
        have hz1 := mm.2 bm om rfl (i * 2) (by omega)
        have hz2 : (wg.alloc (.cells #[.int .i64 r, .int .i64 s] 41)).frozen? ⟨bm, om + i * 2 + 1, none⟩ = false := mm.2 bm om rfl (i * 2 + 1) (by omega)
        obtain ⟨bm', om', y1, y2, e', _, _, hc1, hc2, hxm⟩ := Fracs.at_ mm.1 hiN
        obtain ⟨rfl, rfl⟩ : bm = bm' ∧ om = om' := by simpa using e'
        clear hxm e'
        have hset := FracsM.set_ mm hiN r s
        have tp2 := hp.top
        have M := hid hset.1
        have fo := hid hset.2
        clear hset mm
        obtain ⟨ca, cb, fa, fb⟩ := id b30
        have HI := hid (hI.fr fo.out (by omega))
        have HJ := hid (hJ.fr fo.out (by omega))
        have HK := hid (hK.fr fo.out (by omega))
        have HP := hid (hp.fr fo.out (by omega))
        have H5 := hid (b5.fr fo.out (by omega))
        have H23 := hid (b23.fr fo.out (by omega))
        have KW := hid (below_fr kw kw.size (show w.heap.size ≤ wf.heap.size by omega) fo.out)
        have SZ := hid fo.out.size
        have HB := hid (bump_step HL.out HND.out (by omega) HX.out.symm (by omega) ((HT.out rfl).trans (by rw [HRV.out])))
        clear hI hJ hK hp b5 b23 kw fo HT HRV HX HL
        go_wp2_with fail
        go_roundw
        case rel => exact ⟨k + 1, _, by omega, by go_num, M.out, HB, HI.out, HJ.out, HK.out, HP.out, H5.out, H23.out, KW.out, Nat.le_trans (Nat.le_trans sr (Nat.le_trans sk sh)) SZ.out⟩
        case measure => simp [intOf]; omega
      · obtain rfl : k = Np := by omega
        have HL2 := hid (show ∀ j : Nat, rv L j = if (j : Int) ∈ path then rv l j + 1 else rv l j from by
          have h := HL.out
          rwa [List.take_of_length_le (by omega)] at h)
        clear HL hp
        obtain ⟨z1, z2⟩ := id b5
        go_wp2_with fail
        clear z1 z2
        obtain ⟨⟨e1, e2, e3⟩, HE⟩ : ∃ p, Hid (weQ ps ys vs L = p) := ⟨_, hid rfl⟩
        refine (implWeightedError_any hI hJ hK mm.1).mono ?_
        rintro e wg ⟨rfl, kg⟩
        rw [HE.out]
        dsimp only
        replace b23 := b23.keeps kg
        replace kw := Keeps.trans kw kg
        clear kg hI hJ hK mm b5
        have kh := keeps_alloc wg (.cells #[.int .i64 e1, .int .i64 e2] 41)
        have b32 : Bx (wg.alloc (.cells #[.int .i64 e1, .int .i64 e2] 41)) wg.heap.size e1 e2 := Bx.new' rfl
        replace b23 := b23.keeps kh
        replace kw := Keeps.trans kw kh
        clear kh
        cases e3
        · go_wp2_with fail
          go_ret
          exact ⟨rfl, kw⟩
        have hle := con_best (i := N5 - 1) HG.out (by omega) (kids_last HGE.out (by omega)) (fun j _ => by
          have h := HL2.out j
          rw [← HPA.out] at h
          simpa only [List.mem_reverse] using h) HW.out HE.out
        have HC := hid (cfQ_yes (weQ_frac HW.out) (weQ_frac HE.out))
        obtain ⟨o, HO⟩ : ∃ o, Hid (cmpQ d1 d2 e1 e2 = o) := ⟨_, hid rfl⟩
        rw [HO.out] at hle
        obtain ⟨ca, cb, fa, fb⟩ := id b23
        obtain ⟨cc, cd, fc, fd⟩ := id b32
        go_wp2_with fail
        clear ca cb fa fb cc cd fc fd
        refine (CompareFrac_any).mono ?_
        rintro e wi ⟨rfl, ki⟩
        rw [HC.out, HO.out]
        dsimp only
        replace kw := Keeps.trans kw ki
        clear ki b23 b32
        go_wp2_with fail
        go_ret
        exact ⟨rfl, kw⟩
end Go.Proofs.Ytkpliolafkdijaa
