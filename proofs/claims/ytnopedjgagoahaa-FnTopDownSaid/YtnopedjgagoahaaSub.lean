/- SubtreeEstimates, of the reference and of the program. -/
import Derived.Test.YtnopedjgagoahaaSubL
namespace Go.Proofs.Ytnopedjgagoahaa
open Go.RowKit
set_option linter.unusedVariables false
set_option linter.unusedSimpArgs false

theorem zz1 {w w' : World} {t : TypeId} (k : Keeps ((w.alloc (.cells #[.int .i64 0, .int .i64 0] t)).alloc (.cells #[.int .i64 0, .int .i64 0] t)) w') : Bx w' w.heap.size 0 0 ∧ Bx w' (w.heap.size + 1) 0 0 :=
  ⟨((Bx.new' rfl).keeps (keeps_alloc _ _)).keeps k, (Bx.new' (by simp)).keeps k⟩
theorem zz2 {w w' : World} {t : TypeId} (k : Keeps ((w.alloc (.cells #[.int .i64 0, .int .i64 0] t)).alloc (.cells #[.int .i64 0, .int .i64 0] t)).drew w') : Bx w' w.heap.size 0 0 ∧ Bx w' (w.heap.size + 1) 0 0 :=
  ⟨Bx.kd ((Bx.new' rfl).keeps (keeps_alloc _ _)) k, Bx.kd (Bx.new' (by simp)) k⟩

set_option maxRecDepth 100000 in
set_option maxHeartbeats 3200000 in
theorem wSubtree_any {A0 A1 A2 : Option Addr} {l0 l1 l2 u0 u1 u2 n c0 c1 c2 : Nat} {ps y v : List Int} {w : World} (h0 : Ints w l0 u0 A0 n ps) (h1 : Ints w l1 u1 A1 n y) (h2 : Ints w l2 u2 A2 n v) (hB : treeB ps y v = true) :
    Calls Try.prog 192 #[.agg #[.slice A0 n c0], .slice A1 n c1, .slice A2 n c2] w fun e w' => TwoS w (o1 (subT ps y v n n)) (o2 (subT ps y v n n)) (subT ps y v n n).isSome e w' := by
  have hn := h1.le
  have hl0 := h0.1
  have hl1 := h1.1
  have hl2 := h2.1
  have HB := hid (treeB_true.1 hB)
  have hgl := (geoB_true.1 HB.out.1).1
  have HG := hid (geoB_head HB.out.1)
  have HY := hid (within_true.1 HB.out.2.2.2.1)
  have HV := hid (within_true.1 HB.out.2.2.2.2)
  clear hB
  have hmk := make_fracs n hn
  have HNL := hid (fun (l : List (Int × Int)) (hl : l.length = n) (k : Nat) (hk : k < n) => (show k < l.length by omega))
  go_enter Try.func192, Try.ntmps192
  have kw := keeps_refl w
  replace kw := Keeps.trans kw (keeps_alloc w (.cells #[.slice A0 n c0] 53))
  have b3 : B1 (w.alloc (.cells #[.slice A0 n c0] 53)) w.heap.size (.slice A0 n c0) := B1.new' (by simp)
  replace b3 := b3.keeps (keeps_alloc (w.alloc (.cells #[.slice A0 n c0] 53)) (.cells (madeCells #[.int .i64 0, .int .i64 0] (n * 2)) 31))
  replace kw := Keeps.trans kw (keeps_alloc (w.alloc (.cells #[.slice A0 n c0] 53)) (.cells (madeCells #[.int .i64 0, .int .i64 0] (n * 2)) 31))
  replace b3 := b3.keeps (keeps_alloc ((w.alloc (.cells #[.slice A0 n c0] 53)).alloc (.cells (madeCells #[.int .i64 0, .int .i64 0] (n * 2)) 31)) (.cells (madeCells #[.int .i64 0, .int .i64 0] (n * 2)) 31))
  replace kw := Keeps.trans kw (keeps_alloc ((w.alloc (.cells #[.slice A0 n c0] 53)).alloc (.cells (madeCells #[.int .i64 0, .int .i64 0] (n * 2)) 31)) (.cells (madeCells #[.int .i64 0, .int .i64 0] (n * 2)) 31))
  have z1 := OwnC.newF (w.alloc (.cells #[.slice A0 n c0] 53)) n
  have z0 := z1.keeps (keeps_alloc ((w.alloc (.cells #[.slice A0 n c0] 53)).alloc (.cells (madeCells #[.int .i64 0, .int .i64 0] (n * 2)) 31)) (.cells (madeCells #[.int .i64 0, .int .i64 0] (n * 2)) 31))
  have u0 := OwnC.newF ((w.alloc (.cells #[.slice A0 n c0] 53)).alloc (.cells (madeCells #[.int .i64 0, .int .i64 0] (n * 2)) 31)) n
  clear z1
  have e1 : (w.alloc (.cells #[.slice A0 n c0] 53)).heap.size = w.heap.size + 1 := by simp
  have e2 : ((w.alloc (.cells #[.slice A0 n c0] 53)).alloc (.cells (madeCells #[.int .i64 0, .int .i64 0] (n * 2)) 31)).heap.size = w.heap.size + 2 := by simp
  rw [e1] at z0
  rw [e2] at u0
  clear e1 e2
  go_wp2_with fail
  clear hmk
  go_loopw [11] (fun si wr => ∃ (q : Nat) (z u : List (Int × Int)), q ≤ n ∧ si = .int .i64 ((q : Int) - 1) ∧ Hid (subT ps y v n (n - q) = some (z, u)) ∧ Hid (SInv n q (z, u)) ∧ B1 wr w.heap.size (.slice A0 n c0) ∧ OwnC wr (w.heap.size + 1) 31 (frs z) ∧ OwnC wr (w.heap.size + 2) 31 (frs u) ∧ Keeps w wr) (fun si _ => (intOf si + 1).toNat)
  case atStart => exact ⟨n, _, _, Nat.le_refl _, rfl, hid (by rw [Nat.sub_self]; rfl), hid (SInv.start n), b3, z0, u0, kw⟩
  clear b3 z0 u0 kw
  case round =>
    obtain ⟨q, z, u, hq, rfl, HS, HI, b3, z0, u0, kw⟩ := hrel
    have hz := HI.out.l1
    have hu := HI.out.l2
    simp only at hz hu
    have lt0 := u0.lt
    have sz1 := kw.size
    by_cases hlt : 0 < q
    · obtain ⟨i, rfl⟩ : ∃ i, q = i + 1 := ⟨q - 1, by omega⟩
      have hq1 : (((i + 1 : Nat) : Int) - 1) = (i : Int) := by omega
      rw [hq1]
      have hi0 : (i : Int) ≥ 0 := by omega
      have hin : i < n := by omega
      have hin1 : (i : Int) < (n : Int) := by omega
      obtain ⟨by1, oy, yi, rfl, _, hby, hcy, hyi⟩ := (h1.keeps kw).at_ hin
      obtain ⟨bv1, ov, vi, rfl, _, hbv, hcv, hvi⟩ := (h2.keeps kw).at_ hin
      have HYI := hid (show -1000000000 ≤ yi ∧ yi ≤ 1000000000 by have := HY.out i (by omega); rw [← hyi.out] at this; omega)
      have HVI := hid (show -1000000000 ≤ vi ∧ vi ≤ 1000000000 by have := HV.out i (by omega); rw [← hvi.out] at this; omega)
      obtain ⟨ks, HK⟩ : ∃ ks, Hid (kids ps i = ks) := ⟨_, rfl⟩
      have hkl := kids_len ps i
      rw [HK.out] at hkl
      have HIN := hid (kids_into ps i (n := n) (by omega))
      rw [HK.out] at HIN
      obtain ⟨ca2, fa2⟩ := id b3
      go_wp2_with fail
      clear ca2 fa2
      refine (gChildren_any (h0.keeps kw) HG.out hi0).mono ?_
      rintro e w3 ⟨A9, c9, rfl, m9, k3⟩
      replace b3 := b3.keeps k3
      replace z0 := z0.keeps k3
      replace u0 := u0.keeps k3
      replace kw := Keeps.trans kw k3
      have lt4 := b3.lt
      have sz5 := kw.size
      clear k3
      rw [HK.out]
      clear m9
      by_cases hz0 : ks.length = 0
      · have HN := hid (subSt_leaf (s := (z, u)) (by rw [HK.out]; exact hz0) hyi.out hvi.out)
        rw [hz0]
        clear hcy
        obtain ⟨by2, oy2, yi2, hA2, _, _, hcy, hyi2⟩ := (h1.keeps kw).at_ hin
        obtain ⟨rfl, rfl⟩ : by1 = by2 ∧ oy = oy2 := by injection hA2 with e; injection e with e1 e2; exact ⟨e1, e2⟩
        obtain rfl : yi = yi2 := hyi.out.trans hyi2.out.symm
        clear hA2 hyi2
        clear hz0
        go_wp2_with fail
        clear hcy
        refine (fInt_any).mono ?_
        rintro e w6 ⟨rfl, k6⟩
        replace b3 := b3.keeps k6
        replace z0 := z0.keeps k6
        replace u0 := u0.keeps k6
        replace kw := Keeps.trans kw k6
        have lt7 := b3.lt
        have sz8 := kw.size
        clear k6
        obtain ⟨z1p, z2p, zap, zbp, zcp, zdp, -⟩ := z0.pair (k := i) (by first | omega | (simp; omega))
        obtain ⟨u1p, u2p, uap, ubp, ucp, udp, -⟩ := u0.pair (k := i) (by first | omega | (simp; omega))
        replace u0 := u0.far2 (p := (w.heap.size + 1)) (i := i * 2) (j := i * 2 + 1) (by omega) (.int .i64 yi) (.int .i64 1)
        replace b3 := b3.far2 (p := (w.heap.size + 1)) (i := i * 2) (j := i * 2 + 1) (by omega) (.int .i64 yi) (.int .i64 1)
        replace z0 := z0.setF (k := i) yi 1
        replace kw := below_setP kw (p := (w.heap.size + 1)) (i := i * 2) (j := i * 2 + 1) (by omega) (.int .i64 yi) (.int .i64 1)
        clear hcv
        obtain ⟨bv2, ov2, vi2, hA2, _, _, hcv, hvi2⟩ := (h2.keeps kw).at_ hin
        obtain ⟨rfl, rfl⟩ : bv1 = bv2 ∧ ov = ov2 := by injection hA2 with e; injection e with e1 e2; exact ⟨e1, e2⟩
        obtain rfl : vi = vi2 := hvi.out.trans hvi2.out.symm
        clear hA2 hvi2
        go_wp2_with fail
        clear zap zbp zcp zdp uap ubp ucp udp
        clear hcv
        refine (fInt_any).mono ?_
        rintro e w9 ⟨rfl, k9⟩
        replace b3 := b3.keeps k9
        replace z0 := z0.keeps k9
        replace u0 := u0.keeps k9
        replace kw := Keeps.trans kw k9
        have lt10 := b3.lt
        have sz11 := kw.size
        clear k9
        obtain ⟨z1r, z2r, zar, zbr, zcr, zdr, -⟩ := z0.pair (k := i) (by first | omega | (simp; omega))
        obtain ⟨u1r, u2r, uar, ubr, ucr, udr, -⟩ := u0.pair (k := i) (by first | omega | (simp; omega))
        replace z0 := z0.far2 (p := (w.heap.size + 2)) (i := i * 2) (j := i * 2 + 1) (by omega) (.int .i64 vi) (.int .i64 1)
        replace b3 := b3.far2 (p := (w.heap.size + 2)) (i := i * 2) (j := i * 2 + 1) (by omega) (.int .i64 vi) (.int .i64 1)
        replace u0 := u0.setF (k := i) vi 1
        replace kw := below_setP kw (p := (w.heap.size + 2)) (i := i * 2) (j := i * 2 + 1) (by omega) (.int .i64 vi) (.int .i64 1)
        go_wp2_with fail
        go_roundw
        case rel => exact ⟨i, _, _, by omega, rfl, hid (subT_at HS.out hin HN.out), hid (HI.out.put hin (fracB_int HYI.out) (fracB_int HVI.out)), b3, z0, u0, kw⟩
        case measure => simp [intOf]
      · have t2 : ((ks.length : Int) == 0) = false := by rw [beq_eq_false_iff_ne]; omega
        have HZ := hid (show ¬ (kids ps i).length = 0 by rw [HK.out]; exact hz0)
        clear hz0
        have GA := hid (HI.out.good (ps := ps) HB.out.1 hl0)
        obtain ⟨ca6, fa6⟩ := id b3
        go_wp2_with fail
        clear ca6 fa6
        obtain ⟨R, HR⟩ : ∃ R, Hid (sums2 z u (kids ps i) = R) := ⟨_, rfl⟩
        refine (wSums_any (h0.keeps kw) (z0.fracs hz hn).1 (u0.fracs hu hn).1 HG.out hi0 GA.out.1 GA.out.2 (by rw [HK.out]; exact HIN.out)).mono ?_
        rintro e w7 ⟨s1, s2, v1, v2, rfl, hv, k7⟩
        replace b3 := b3.keeps k7
        replace z0 := z0.keeps k7
        replace u0 := u0.keeps k7
        replace kw := Keeps.trans kw k7
        have lt8 := b3.lt
        have sz9 := kw.size
        clear k7
        rw [HR.out] at hv
        rw [HR.out]
        replace b3 := b3.keeps (keeps_alloc w7 (.cells #[.int .i64 s1, .int .i64 s2] 31))
        replace z0 := z0.keeps (keeps_alloc w7 (.cells #[.int .i64 s1, .int .i64 s2] 31))
        replace u0 := u0.keeps (keeps_alloc w7 (.cells #[.int .i64 s1, .int .i64 s2] 31))
        replace kw := Keeps.trans kw (keeps_alloc w7 (.cells #[.int .i64 s1, .int .i64 s2] 31))
        have b12 : Bx (w7.alloc (.cells #[.int .i64 s1, .int .i64 s2] 31)) w7.heap.size s1 s2 := Bx.new' (by simp)
        replace b3 := b3.keeps (keeps_alloc (w7.alloc (.cells #[.int .i64 s1, .int .i64 s2] 31)) (.cells #[.int .i64 v1, .int .i64 v2] 31))
        replace b12 := b12.keeps (keeps_alloc (w7.alloc (.cells #[.int .i64 s1, .int .i64 s2] 31)) (.cells #[.int .i64 v1, .int .i64 v2] 31))
        replace z0 := z0.keeps (keeps_alloc (w7.alloc (.cells #[.int .i64 s1, .int .i64 s2] 31)) (.cells #[.int .i64 v1, .int .i64 v2] 31))
        replace u0 := u0.keeps (keeps_alloc (w7.alloc (.cells #[.int .i64 s1, .int .i64 s2] 31)) (.cells #[.int .i64 v1, .int .i64 v2] 31))
        replace kw := Keeps.trans kw (keeps_alloc (w7.alloc (.cells #[.int .i64 s1, .int .i64 s2] 31)) (.cells #[.int .i64 v1, .int .i64 v2] 31))
        have b13 : Bx ((w7.alloc (.cells #[.int .i64 s1, .int .i64 s2] 31)).alloc (.cells #[.int .i64 v1, .int .i64 v2] 31)) (w7.heap.size + 1) v1 v2 := Bx.new' (by simp)
        cases R with
        | none =>
          have HN := hid (subSt_no1 (y := y) (v := v) (s := (z, u)) HZ.out HR.out)
          have HE := hid (subT_fail HS.out hin HN.out)
          go_wp2_with fail
          go_ret3
          exact TwoS.none (by rw [HE.out]; rfl) kw
        | some m =>
          obtain rfl := hv m rfl
          clear hv
          obtain ⟨Q, HQ⟩ : ∃ Q, Hid (meanQ yi vi s1 s2 v1 v2 = Q) := ⟨_, rfl⟩
          have HFS := hid (sums2_fine HR.out)
          go_wp2_with fail
          obtain ⟨wX, hX⟩ : ∃ u : World, u = ((w7.alloc (.cells #[.int .i64 s1, .int .i64 s2] 31)).alloc (.cells #[.int .i64 v1, .int .i64 v2] 31)) := ⟨_, rfl⟩
          have szX9 := hid (show wX.heap.size = w7.heap.size + 1 + 1 by rw [hX]; simp)
          rw [← hX] at b3
          rw [← hX] at b12
          rw [← hX] at b13
          rw [← hX] at z0
          rw [← hX] at u0
          rw [← hX] at kw
          rw [← hX]
          clear hX
          have sz11 := kw.size
          obtain ⟨by2, oy2, yi2, hA2, _, _, hcy2, hyi2⟩ := (h1.keeps kw).at_ hin
          obtain ⟨rfl, rfl⟩ : by1 = by2 ∧ oy = oy2 := by injection hA2 with e; injection e with e1 e2; exact ⟨e1, e2⟩
          obtain rfl : yi = yi2 := hyi.out.trans hyi2.out.symm
          clear hA2 hyi2
          obtain ⟨bv2, ov2, vi2, hA2, _, _, hcv2, hvi2⟩ := (h2.keeps kw).at_ hin
          obtain ⟨rfl, rfl⟩ : bv1 = bv2 ∧ ov = ov2 := by injection hA2 with e; injection e with e1 e2; exact ⟨e1, e2⟩
          obtain rfl : vi = vi2 := hvi.out.trans hvi2.out.symm
          clear hA2 hvi2
          obtain ⟨cs1, cs2, -, -⟩ := id b12
          obtain ⟨cv1, cv2, -, -⟩ := id b13
          have kS := hid (show ∀ w', Keeps wX w' → (w'.cell? ⟨by1, oy + i, none⟩ = some (.int .i64 yi) ∧ w'.cell? ⟨bv1, ov + i, none⟩ = some (.int .i64 vi) ∧ w'.cell? ⟨w7.heap.size, 0, none⟩ = some (.int .i64 s1) ∧ w'.cell? ⟨w7.heap.size, 1, none⟩ = some (.int .i64 s2) ∧ w'.cell? ⟨w7.heap.size + 1, 0, none⟩ = some (.int .i64 v1) ∧ w'.cell? ⟨w7.heap.size + 1, 1, none⟩ = some (.int .i64 v2)) from fun w' k => ⟨cell_keeps hcy2 k, cell_keeps hcv2 k, cell_keeps cs1 k, cell_keeps cs2 k, cell_keeps cv1 k, cell_keeps cv2 k⟩)
          go_cut [15, 16, 17] (fun sd se so wq => ∃ wy g g' x1 x2 q1 q2, wy = wq ∧ sd = .pointer (some ⟨g, 0, none⟩) ∧ se = .pointer (some ⟨g', 0, none⟩) ∧ so = .bool Q.isSome ∧ (∀ m, Q = some m → m = ((x1, x2), (q1, q2))) ∧ NewTwo wX wy g g' x1 x2 q1 q2)
          case first =>
            go_region_held3 (fun w' => w'.cell? ⟨by1, oy + i, none⟩ = some (.int .i64 yi) ∧ w'.cell? ⟨bv1, ov + i, none⟩ = some (.int .i64 vi) ∧ w'.cell? ⟨w7.heap.size, 0, none⟩ = some (.int .i64 s1) ∧ w'.cell? ⟨w7.heap.size, 1, none⟩ = some (.int .i64 s2) ∧ w'.cell? ⟨w7.heap.size + 1, 0, none⟩ = some (.int .i64 v1) ∧ w'.cell? ⟨w7.heap.size + 1, 1, none⟩ = some (.int .i64 v2)) (first | with_reducible exact kS.out _ (keeps_d0 _) | with_reducible exact kS.out _ (keeps_ad0 _ _) | with_reducible exact kS.out _ ((keeps_alloc _ _).trans (keeps_ad0 _ _)) | with_reducible exact kS.out _ (kW) | with_reducible exact kS.out _ (below_set2 kW (Nat.le_refl _) _ _) | with_reducible exact kS.out _ (below_set2 kW (Nat.le_succ _) _ _) | with_reducible exact kS.out _ (below_set2 (below_set2 kW (Nat.le_refl _) _ _) (Nat.le_succ _) _ _) | with_reducible exact kS.out _ (below_set2 (below_set2 kW (Nat.le_succ _) _ _) (Nat.le_refl _) _ _) | with_reducible exact kS.out _ (Keeps.trans (kW) (keeps_alloc _ _)) | with_reducible exact kS.out _ (Keeps.trans (below_set2 kW (Nat.le_refl _) _ _) (keeps_alloc _ _)) | with_reducible exact kS.out _ (Keeps.trans (below_set2 kW (Nat.le_succ _) _ _) (keeps_alloc _ _)) | with_reducible exact kS.out _ (Keeps.trans (kW) ((keeps_alloc _ _).trans (keeps_alloc _ _))) | go_keep)
              ((go_at_call 229; refine (wMean_any HYI.out HVI.out HFS.out.1 HFS.out.2).mono ?_; rintro e wB ⟨x1, x2, q1, q2, rfl, hm, kB⟩; rw [HQ.out] at hm; rw [HQ.out]; (first | (obtain ⟨kZ, kY⟩ := zz1 kB; have kW : Keeps wX wB := ((keeps_alloc _ _).trans (keeps_alloc _ _)).trans kB) | (obtain ⟨kZ, kY⟩ := zz2 kB; have kW : Keeps wX wB := ((keeps_alloc _ _).trans (keeps_alloc _ _)).trans (keeps_d kB)) | (have kZ := Bx.nk kB; have kW : Keeps wX wB := (keeps_alloc _ _).trans kB) | (have kZ := Bx.nkd kB; have kW : Keeps wX wB := keeps_ad kB) | (have kW : Keeps wX wB := keeps_d kB) | (have kW : Keeps wX wB := kB)); clear kB; have lz := kW.size; (first | obtain ⟨d1, d2, d3, d4⟩ := id kZ | skip); (first | obtain ⟨c1, c2, c3, c4⟩ := id kY | skip); (first | have ltz := kZ.lt | skip); (first | have lty := kY.lt | skip)))
            all_goals (go_wp2_with fail; go_meet; exact ⟨_, _, _, x1, x2, q1, q2, rfl, rfl, rfl, rfl, hm, (by first | exact nt1 kW | exact nt2 kW | exact nt3 kW kZ | exact nt4 kW kZ | exact nt5 kW kZ kY | exact nt6 kW kZ kY)⟩)
          case rest =>
            clear kS cs1 cs2 cv1 cv2 hcy2 hcv2
            obtain ⟨wx, g15, g16, x1, x2, q1, q2, rfl, rfl, rfl, rfl, hm, NT⟩ := hcut
            have b15 := NT.b1
            have b16 := NT.b2
            have szx := szX9.out
            have lt15 := NT.l1
            have lt16 := NT.l2
            have kx := NT.k
            clear b12 b13
            replace b3 := b3.keeps kx
            replace z0 := z0.keeps kx
            replace u0 := u0.keeps kx
            replace kw := Keeps.trans kw kx
            have lt12 := b3.lt
            have sz13 := kw.size
            clear kx
            have gl15 := b15.lt
            have gl16 := b16.lt
            cases Q with
            | none =>
              have HN := hid (subSt_no2 (s := (z, u)) HZ.out hyi.out hvi.out HR.out HQ.out)
              have HE := hid (subT_fail HS.out hin HN.out)
              go_wp2_with fail
              go_ret3
              exact TwoS.none (by rw [HE.out]; rfl) kw
            | some m =>
              obtain rfl := hm m rfl
              clear hm
              have HN := hid (subSt_yes (s := (z, u)) HZ.out hyi.out hvi.out HR.out HQ.out)
              have HF := hid (meanQ_fine HQ.out)
              obtain ⟨z1p, z2p, zap, zbp, zcp, zdp, -⟩ := z0.pair (k := i) (by first | omega | (simp; omega))
              obtain ⟨u1p, u2p, uap, ubp, ucp, udp, -⟩ := u0.pair (k := i) (by first | omega | (simp; omega))
              obtain ⟨ca14, cb14, fa14, fb14⟩ := id b15
              replace u0 := u0.far2 (p := (w.heap.size + 1)) (i := i * 2) (j := i * 2 + 1) (by omega) (.int .i64 x1) (.int .i64 x2)
              replace b3 := b3.far2 (p := (w.heap.size + 1)) (i := i * 2) (j := i * 2 + 1) (by omega) (.int .i64 x1) (.int .i64 x2)
              replace b15 := b15.far2 (p := (w.heap.size + 1)) (i := i * 2) (j := i * 2 + 1) (by omega) (.int .i64 x1) (.int .i64 x2)
              replace b16 := b16.far2 (p := (w.heap.size + 1)) (i := i * 2) (j := i * 2 + 1) (by omega) (.int .i64 x1) (.int .i64 x2)
              replace z0 := z0.setF (k := i) x1 x2
              replace kw := below_setP kw (p := (w.heap.size + 1)) (i := i * 2) (j := i * 2 + 1) (by omega) (.int .i64 x1) (.int .i64 x2)
              obtain ⟨z1r, z2r, zar, zbr, zcr, zdr, -⟩ := z0.pair (k := i) (by first | omega | (simp; omega))
              obtain ⟨u1r, u2r, uar, ubr, ucr, udr, -⟩ := u0.pair (k := i) (by first | omega | (simp; omega))
              obtain ⟨ca15, cb15, fa15, fb15⟩ := id b16
              replace z0 := z0.far2 (p := (w.heap.size + 2)) (i := i * 2) (j := i * 2 + 1) (by omega) (.int .i64 q1) (.int .i64 q2)
              replace b3 := b3.far2 (p := (w.heap.size + 2)) (i := i * 2) (j := i * 2 + 1) (by omega) (.int .i64 q1) (.int .i64 q2)
              replace b15 := b15.far2 (p := (w.heap.size + 2)) (i := i * 2) (j := i * 2 + 1) (by omega) (.int .i64 q1) (.int .i64 q2)
              replace b16 := b16.far2 (p := (w.heap.size + 2)) (i := i * 2) (j := i * 2 + 1) (by omega) (.int .i64 q1) (.int .i64 q2)
              replace u0 := u0.setF (k := i) q1 q2
              replace kw := below_setP kw (p := (w.heap.size + 2)) (i := i * 2) (j := i * 2 + 1) (by omega) (.int .i64 q1) (.int .i64 q2)
              go_wp2_with fail
              clear ca14 cb14 fa14 fb14 ca15 cb15 fa15 fb15
              go_roundw
              case rel => exact ⟨i, _, _, by omega, rfl, hid (subT_at HS.out hin HN.out), hid (HI.out.put hin HF.out.1 HF.out.2), b3, z0, u0, kw⟩
              case measure => simp [intOf]
    · obtain rfl : q = 0 := by omega
      rw [show n - 0 = n by omega] at HS
      have hq1 : (((0 : Nat) : Int) - 1) = -1 := by omega
      rw [hq1]
      go_wp2
      go_ret3
      exact TwoS.some (by rw [HS.out]; rfl) z0 u0 hz hu hn (by omega) (by omega) (by omega) kw
end Go.Proofs.Ytnopedjgagoahaa
