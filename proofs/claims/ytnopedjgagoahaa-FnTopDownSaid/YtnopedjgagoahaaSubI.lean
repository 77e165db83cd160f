/- SubtreeEstimates of the program; the law. -/
import Derived.Test.YtnopedjgagoahaaSub
namespace Go.Proofs.Ytnopedjgagoahaa
open Go.RowKit
set_option linter.unusedVariables false
set_option linter.unusedSimpArgs false

set_option maxRecDepth 100000 in
set_option maxHeartbeats 3200000 in
theorem subtreeEstimates_any {A0 A1 A2 : Option Addr} {l0 l1 l2 u0 u1 u2 n c0 c1 c2 : Nat} {ps y v : List Int} {w : World} (h0 : Ints w l0 u0 A0 n ps) (h1 : Ints w l1 u1 A1 n y) (h2 : Ints w l2 u2 A2 n v) (hB : treeB ps y v = true) :
    Calls Try.prog 222 #[.agg #[.slice A0 n c0], .slice A1 n c1, .slice A2 n c2] w fun e w' => TwoS w (o1 (subT ps y v n n)) (o2 (subT ps y v n n)) (subT ps y v n n).isSome e w' := by
  have hn := h1.le
  have hl0 := h0.1
  have hl1 := h1.1
  have hl2 := h2.1
  have HB := hid (treeB_true.1 hB)
  have hgl := (geoB_true.1 HB.out.1).1
  have HG := hid (geoB_head HB.out.1)
  have HY := hid (within_true.1 HB.out.2.2.2.1)
  have HV := hid (within_true.1 HB.out.2.2.2.2)
  clear hB
  have hmk := make_fracs n hn
  have HNL := hid (fun (l : List (Int × Int)) (hl : l.length = n) (k : Nat) (hk : k < n) => (show k < l.length by omega))
  go_enter Try.func222, Try.ntmps222
  have kw := keeps_refl w
  replace kw := Keeps.trans kw (keeps_alloc w (.cells #[.slice A0 n c0] 53))
  have b3 : B1 (w.alloc (.cells #[.slice A0 n c0] 53)) w.heap.size (.slice A0 n c0) := B1.new' (by simp)
  go_wp2_with fail
  obtain ⟨wI, hX⟩ : ∃ u : World, u = (w.alloc (.cells #[.slice A0 n c0] 53)) := ⟨_, rfl⟩
  have szX0 := hid (show wI.heap.size = w.heap.size + 1 by rw [hX]; simp)
  rw [← hX] at b3
  rw [← hX] at kw
  rw [← hX]
  clear hX
  have sz2 := kw.size
  go_cut [9, 10] (fun s9 s10 wq => ∃ wy g1 g2, wy = wq ∧ s9 = .slice (some ⟨g1, 0, none⟩) n n ∧ s10 = .slice (some ⟨g2, 0, none⟩) n n ∧ g1 ≠ g2 ∧ wI.heap.size ≤ g1 ∧ wI.heap.size ≤ g2 ∧ OwnC wy g1 31 (frs (List.replicate n (0, 0))) ∧ OwnC wy g2 31 (frs (List.replicate n (0, 0))) ∧ Keeps wI wy)
  case first =>
    obtain ⟨o1, o2⟩ := two_newF wI n
    have o3 := (keeps_alloc wI (.cells (madeCells #[.int .i64 0, .int .i64 0] (n * 2)) 31)).trans (keeps_alloc _ (.cells (madeCells #[.int .i64 0, .int .i64 0] (n * 2)) 31))
    go_region
    all_goals (go_wp2_with fail; go_meet; exact ⟨_, _, _, rfl, rfl, rfl, by omega, by omega, by omega, by first | exact o1 | exact o2, by first | exact o1 | exact o2, o3.trans (Keeps.drewN _ 1)⟩)
  case rest =>
    obtain ⟨wy, g1, g2, rfl, rfl, rfl, g12, lg1, lg2, z0, u0, ky⟩ := hcut
    clear hmk
    have szI := szX0.out
    replace b3 := b3.keeps ky
    replace kw := Keeps.trans kw ky
    have lt3 := b3.lt
    have sz4 := kw.size
    clear ky
    go_wp2_with fail
    go_loopw [11] (fun si wr => ∃ (q : Nat) (z u : List (Int × Int)), q ≤ n ∧ si = .int .i64 ((q : Int) - 1) ∧ Hid (subT ps y v n (n - q) = some (z, u)) ∧ Hid (SInv n q (z, u)) ∧ B1 wr w.heap.size (.slice A0 n c0) ∧ OwnC wr g1 31 (frs z) ∧ OwnC wr g2 31 (frs u) ∧ Keeps w wr) (fun si _ => (intOf si + 1).toNat)
    case atStart => exact ⟨n, _, _, Nat.le_refl _, rfl, hid (by rw [Nat.sub_self]; rfl), hid (SInv.start n), b3, z0, u0, kw⟩
    clear b3 z0 u0 kw
    case round =>
      obtain ⟨q, z, u, hq, rfl, HS, HI, b3, z0, u0, kw⟩ := hrel
      have hz := HI.out.l1
      have hu := HI.out.l2
      simp only at hz hu
      have lt0 := u0.lt
      have sz5 := kw.size
      have hg1 := z0.lt
      have hg2 := u0.lt
      by_cases hlt : 0 < q
      · obtain ⟨i, rfl⟩ : ∃ i, q = i + 1 := ⟨q - 1, by omega⟩
        have hq1 : (((i + 1 : Nat) : Int) - 1) = (i : Int) := by omega
        rw [hq1]
        have hi0 : (i : Int) ≥ 0 := by omega
        have hin : i < n := by omega
        have hin1 : (i : Int) < (n : Int) := by omega
        obtain ⟨by1, oy, yi, rfl, _, hby, hcy, hyi⟩ := (h1.keeps kw).at_ hin
        obtain ⟨bv1, ov, vi, rfl, _, hbv, hcv, hvi⟩ := (h2.keeps kw).at_ hin
        have HYI := hid (show -1000000000 ≤ yi ∧ yi ≤ 1000000000 by have := HY.out i (by omega); rw [← hyi.out] at this; omega)
        have HVI := hid (show -1000000000 ≤ vi ∧ vi ≤ 1000000000 by have := HV.out i (by omega); rw [← hvi.out] at this; omega)
        obtain ⟨ks, HK⟩ : ∃ ks, Hid (kids ps i = ks) := ⟨_, rfl⟩
        have hkl := kids_len ps i
        rw [HK.out] at hkl
        have HIN := hid (kids_into ps i (n := n) (by omega))
        rw [HK.out] at HIN
        obtain ⟨z1p, z2p, zap, zbp, zcp, zdp, -⟩ := z0.pair (k := i) (by first | omega | (simp; omega))
        obtain ⟨u1p, u2p, uap, ubp, ucp, udp, -⟩ := u0.pair (k := i) (by first | omega | (simp; omega))
        obtain ⟨ca6, fa6⟩ := id b3
        go_wp2_with fail
        clear ca6 fa6
        go_cut [] (fun wq => wq = ((((wr.setCell ⟨g1, i * 2, none⟩ (.int .i64 yi)).setCell ⟨g1, i * 2 + 1, none⟩ (.int .i64 1)).setCell ⟨g2, i * 2, none⟩ (.int .i64 vi)).setCell ⟨g2, i * 2 + 1, none⟩ (.int .i64 1)).drew)
        case first =>
          go_region
          all_goals (go_wp2_with fail; go_meet; rfl)
        case rest =>
          subst hcut
          clear zap zbp zcp zdp uap ubp ucp udp
          clear hcy hcv
          replace u0 := u0.far2 (p := g1) (i := i * 2) (j := i * 2 + 1) (by omega) (.int .i64 yi) (.int .i64 1)
          replace b3 := b3.far2 (p := g1) (i := i * 2) (j := i * 2 + 1) (by omega) (.int .i64 yi) (.int .i64 1)
          replace z0 := z0.setF (k := i) yi 1
          replace kw := below_setP kw (p := g1) (i := i * 2) (j := i * 2 + 1) (by omega) (.int .i64 yi) (.int .i64 1)
          replace z0 := z0.far2 (p := g2) (i := i * 2) (j := i * 2 + 1) (by omega) (.int .i64 vi) (.int .i64 1)
          replace b3 := b3.far2 (p := g2) (i := i * 2) (j := i * 2 + 1) (by omega) (.int .i64 vi) (.int .i64 1)
          replace u0 := u0.setF (k := i) vi 1
          replace kw := below_setP kw (p := g2) (i := i * 2) (j := i * 2 + 1) (by omega) (.int .i64 vi) (.int .i64 1)
          replace b3 := b3.keeps (keeps_d0 _)
          replace z0 := z0.keeps (keeps_d0 _)
          replace u0 := u0.keeps (keeps_d0 _)
          replace kw := Keeps.trans kw (keeps_d0 _)
          have HI1 := hid (HI.out.put hin (fracB_int HYI.out) (fracB_int HVI.out))
          have GA := hid (HI1.out.up.good (ps := ps) HB.out.1 hl0)
          obtain ⟨wJ, hX⟩ : ∃ u : World, u = ((((wr.setCell ⟨g1, i * 2, none⟩ (.int .i64 yi)).setCell ⟨g1, i * 2 + 1, none⟩ (.int .i64 1)).setCell ⟨g2, i * 2, none⟩ (.int .i64 vi)).setCell ⟨g2, i * 2 + 1, none⟩ (.int .i64 1)).drew := ⟨_, rfl⟩
          have szX6 := hid (show wJ.heap.size = wr.heap.size by rw [hX]; simp)
          rw [← hX] at b3
          rw [← hX] at z0
          rw [← hX] at u0
          rw [← hX] at kw
          rw [← hX]
          clear hX
          have sz8 := kw.size
          obtain ⟨ca9, fa9⟩ := id b3
          go_wp2_with fail
          clear ca9 fa9
          refine (childrenOf_any (h0.keeps kw) HG.out hi0).mono ?_
          rintro e w10 ⟨A9, c9, rfl, m9, k10⟩
          replace b3 := b3.keeps k10
          replace z0 := z0.keeps k10
          replace u0 := u0.keeps k10
          replace kw := Keeps.trans kw k10
          have lt11 := b3.lt
          have sz12 := kw.size
          clear k10
          rw [HK.out]
          rw [HK.out] at m9
          by_cases hz0 : ks.length = 0
          · have HN := hid (subSt_leaf (s := (z, u)) (by rw [HK.out]; exact hz0) hyi.out hvi.out)
            rw [hz0]
            clear hz0
            go_wp2_with fail
            go_roundw
            case rel => exact ⟨i, _, _, by omega, rfl, hid (subT_at HS.out hin HN.out), hid HI1.out, b3, z0, u0, kw⟩
            case measure => simp [intOf]
          · have t2 : ((ks.length : Int) == 0) = false := by rw [beq_eq_false_iff_ne]; omega
            have HZ := hid (show ¬ (kids ps i).length = 0 by rw [HK.out]; exact hz0)
            clear hz0
            go_wp2_with fail
            obtain ⟨r1, r2, r3, H1⟩ : ∃ r1 r2 r3, Hid (sumQ z (kids ps i) = (r1, r2, r3)) := ⟨_, _, _, rfl⟩
            have H1' := hid (show sumQ (z.set i (yi, 1)) ks = (r1, r2, r3) by rw [← HK.out, sumQ_set HB.out.1]; exact H1.out)
            obtain ⟨v1, v2, v3, H2⟩ : ∃ r1 r2 r3, Hid (sumQ u (kids ps i) = (r1, r2, r3)) := ⟨_, _, _, rfl⟩
            have H2' := hid (show sumQ (u.set i (vi, 1)) ks = (v1, v2, v3) by rw [← HK.out, sumQ_set HB.out.1]; exact H2.out)
            have hz1 : (z.set i (yi, 1)).length = n := by simp [hz]
            have hu1 : (u.set i (vi, 1)).length = n := by simp [hu]
            refine (sumOf_at (z0.fracs hz1 hn).1 m9.1 (HK.out ▸ GA.out.1) HIN.out).mono ?_
            rintro e w13 ⟨rfl, k13⟩
            rw [H1'.out]
            replace b3 := b3.keeps k13
            replace z0 := z0.keeps k13
            replace u0 := u0.keeps k13
            replace m9 := m9.keeps k13
            replace kw := Keeps.trans kw k13
            have lt14 := b3.lt
            have sz15 := kw.size
            clear k13
            replace b3 := b3.keeps (keeps_alloc w13 (.cells #[.int .i64 r1, .int .i64 r2] 31))
            replace z0 := z0.keeps (keeps_alloc w13 (.cells #[.int .i64 r1, .int .i64 r2] 31))
            replace u0 := u0.keeps (keeps_alloc w13 (.cells #[.int .i64 r1, .int .i64 r2] 31))
            replace m9 := m9.keeps (keeps_alloc w13 (.cells #[.int .i64 r1, .int .i64 r2] 31))
            replace kw := Keeps.trans kw (keeps_alloc w13 (.cells #[.int .i64 r1, .int .i64 r2] 31))
            have b13 : Bx (w13.alloc (.cells #[.int .i64 r1, .int .i64 r2] 31)) w13.heap.size r1 r2 := Bx.new' (by simp)
            cases r3
            · have HN := hid (subSt_no1 (y := y) (v := v) (s := (z, u)) HZ.out (sums2_no1 H1.out))
              have HE := hid (subT_fail HS.out hin HN.out)
              go_wp2_with fail
              go_ret3
              exact TwoS.none (by rw [HE.out]; rfl) kw
            go_wp2_with fail
            refine (sumOf_at (u0.fracs hu1 hn).1 m9.1 (HK.out ▸ GA.out.2) HIN.out).mono ?_
            rintro e w16 ⟨rfl, k16⟩
            rw [H2'.out]
            replace b3 := b3.keeps k16
            replace b13 := b13.keeps k16
            replace z0 := z0.keeps k16
            replace u0 := u0.keeps k16
            replace m9 := m9.keeps k16
            replace kw := Keeps.trans kw k16
            have lt17 := b13.lt
            have sz18 := kw.size
            clear k16
            replace b3 := b3.keeps (keeps_alloc w16 (.cells #[.int .i64 v1, .int .i64 v2] 31))
            replace b13 := b13.keeps (keeps_alloc w16 (.cells #[.int .i64 v1, .int .i64 v2] 31))
            replace z0 := z0.keeps (keeps_alloc w16 (.cells #[.int .i64 v1, .int .i64 v2] 31))
            replace u0 := u0.keeps (keeps_alloc w16 (.cells #[.int .i64 v1, .int .i64 v2] 31))
            replace m9 := m9.keeps (keeps_alloc w16 (.cells #[.int .i64 v1, .int .i64 v2] 31))
            replace kw := Keeps.trans kw (keeps_alloc w16 (.cells #[.int .i64 v1, .int .i64 v2] 31))
            have b15 : Bx (w16.alloc (.cells #[.int .i64 v1, .int .i64 v2] 31)) w16.heap.size v1 v2 := Bx.new' (by simp)
            cases v3
            · have HN := hid (subSt_no1 (y := y) (v := v) (s := (z, u)) HZ.out (sums2_no2 H2.out))
              have HE := hid (subT_fail HS.out hin HN.out)
              go_wp2_with fail
              go_ret3
              exact TwoS.none (by rw [HE.out]; rfl) kw
            have HR := hid (sums2_yes H1.out H2.out)
            have HFS := hid (sums2_fine HR.out)
            clear m9
            obtain ⟨Q, HQ⟩ : ∃ Q, Hid (meanQ yi vi r1 r2 v1 v2 = Q) := ⟨_, rfl⟩
            go_wp2_with fail
            obtain ⟨wX, hX⟩ : ∃ u : World, u = (w16.alloc (.cells #[.int .i64 v1, .int .i64 v2] 31)) := ⟨_, rfl⟩
            have szX18 := hid (show wX.heap.size = w16.heap.size + 1 by rw [hX]; simp)
            rw [← hX] at b3
            rw [← hX] at b13
            rw [← hX] at b15
            rw [← hX] at z0
            rw [← hX] at u0
            rw [← hX] at kw
            rw [← hX]
            clear hX
            have sz20 := kw.size
            obtain ⟨za, zb, zc, zd⟩ := z0.pair_set (k := i) (by omega)
            obtain ⟨ua, ub, uc, ud⟩ := u0.pair_set (k := i) (by omega)
            obtain ⟨ca21, cb21, fa21, fb21⟩ := id b13
            obtain ⟨ca22, cb22, fa22, fb22⟩ := id b15
            go_cut [14] (fun so wq => ∃ wB x1 x2 q1 q2, wq = ((((wB.setCell ⟨g1, i * 2, none⟩ (.int .i64 x1)).setCell ⟨g1, i * 2 + 1, none⟩ (.int .i64 x2)).setCell ⟨g2, i * 2, none⟩ (.int .i64 q1)).setCell ⟨g2, i * 2 + 1, none⟩ (.int .i64 q2)) ∧ so = .bool Q.isSome ∧ (∀ m, Q = some m → m = ((x1, x2), (q1, q2))) ∧ Keeps wX wB)
            case first =>
              go_region_with ((go_at_call 250; refine (weighted_any HYI.out HVI.out HFS.out.1 HFS.out.2).mono ?_; rintro e wB ⟨x1, x2, q1, q2, rfl, hm, kB⟩; rw [HQ.out] at hm; rw [HQ.out]; (first | (have kW : Keeps wX wB := keeps_d kB) | (have kW : Keeps wX wB := kB)); clear kB; obtain ⟨za', zb', zc', zd'⟩ := (z0.keeps kW).pair_set (k := i) (by omega); obtain ⟨ua', ub', uc', ud'⟩ := (u0.keeps kW).pair_set (k := i) (by omega)))
              all_goals (go_wp2_with fail; go_meet; exact ⟨_, x1, x2, q1, q2, rfl, rfl, hm, kW⟩)
            case rest =>
              clear za zb zc zd ua ub uc ud
              clear ca21 cb21 fa21 fb21 ca22 cb22 fa22 fb22
              obtain ⟨wB, x1, x2, q1, q2, rfl, rfl, hm, kW⟩ := hcut
              clear b13 b15
              have szx := szX18.out
              replace b3 := b3.keeps kW
              replace z0 := z0.keeps kW
              replace u0 := u0.keeps kW
              replace kw := Keeps.trans kw kW
              have lt23 := b3.lt
              have sz24 := kw.size
              clear kW
              have hl1 := z0.lt
              have hl2 := u0.lt
              replace u0 := u0.far2 (p := g1) (i := i * 2) (j := i * 2 + 1) (by omega) (.int .i64 x1) (.int .i64 x2)
              replace b3 := b3.far2 (p := g1) (i := i * 2) (j := i * 2 + 1) (by omega) (.int .i64 x1) (.int .i64 x2)
              replace z0 := z0.setF (k := i) x1 x2
              replace kw := below_setP kw (p := g1) (i := i * 2) (j := i * 2 + 1) (by omega) (.int .i64 x1) (.int .i64 x2)
              replace z0 := z0.far2 (p := g2) (i := i * 2) (j := i * 2 + 1) (by omega) (.int .i64 q1) (.int .i64 q2)
              replace b3 := b3.far2 (p := g2) (i := i * 2) (j := i * 2 + 1) (by omega) (.int .i64 q1) (.int .i64 q2)
              replace u0 := u0.setF (k := i) q1 q2
              replace kw := below_setP kw (p := g2) (i := i * 2) (j := i * 2 + 1) (by omega) (.int .i64 q1) (.int .i64 q2)
              cases Q with
              | none =>
                have HN := hid (subSt_no2 (s := (z, u)) HZ.out hyi.out hvi.out HR.out HQ.out)
                have HE := hid (subT_fail HS.out hin HN.out)
                go_wp2_with fail
                go_ret3
                exact TwoS.none (by rw [HE.out]; rfl) kw
              | some m =>
                obtain rfl := hm m rfl
                clear hm
                have HN := hid (subSt_yes (s := (z, u)) HZ.out hyi.out hvi.out HR.out HQ.out)
                have HF := hid (meanQ_fine HQ.out)
                rw [List.set_set] at z0 u0
                go_wp2_with fail
                go_roundw
                case rel => exact ⟨i, _, _, by omega, rfl, hid (subT_at HS.out hin HN.out), hid (HI.out.put hin HF.out.1 HF.out.2), b3, z0, u0, kw⟩
                case measure => simp [intOf]
      · obtain rfl : q = 0 := by omega
        rw [show n - 0 = n by omega] at HS
        have hq1 : (((0 : Nat) : Int) - 1) = -1 := by omega
        rw [hq1]
        go_wp2
        go_ret3
        exact TwoS.some (by rw [HS.out]; rfl) z0 u0 hz hu hn (by omega) (by omega) (by omega) kw
end Go.Proofs.Ytnopedjgagoahaa
