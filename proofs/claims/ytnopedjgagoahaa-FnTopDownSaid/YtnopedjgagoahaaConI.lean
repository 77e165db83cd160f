/- Consistent estimates of the program: the walk. -/
import Derived.Test.YtnopedjgagoahaaCon0
import Derived.Test.YtnopedjgagoahaaSubI
namespace Go.Proofs.Ytnopedjgagoahaa
open Go.RowKit
set_option linter.unusedVariables false
set_option linter.unusedSimpArgs false

theorem far2c {w : World} {a : Addr} {v x y : Value} {p i j : Nat} (h : w.cell? a = some v) (hne : a.block ≠ p) : ((w.setCell ⟨p, i, none⟩ x).setCell ⟨p, j, none⟩ y).cell? a = some v := by
  rw [World.cell?_setCell_other _ _ _ _ (by intro e; exact hne (by rw [← e])), World.cell?_setCell_other _ _ _ _ (by intro e; exact hne (by rw [← e]))]; exact h

set_option maxRecDepth 100000 in
set_option maxHeartbeats 3200000 in
theorem consistentEstimates_any {A0 A1 A2 : Option Addr} {l0 l1 l2 u0 u1 u2 n c0 c1 c2 : Nat} {ps y v : List Int} {w : World} (h0 : Ints w l0 u0 A0 n ps) (h1 : Ints w l1 u1 A1 n y) (h2 : Ints w l2 u2 A2 n v) (hB : treeB ps y v = true) :
    Calls Try.prog 187 #[.agg #[.slice A0 n c0], .slice A1 n c1, .slice A2 n c2] w fun e w' => FRes w (lO (conO ps y v n)) (conO ps y v n).isSome e w' := by
  have hn := h1.le
  have hl0 := h0.1
  have hl1 := h1.1
  have hl2 := h2.1
  have HB := hid (treeB_true.1 hB)
  have hgl := (geoB_true.1 HB.out.1).1
  have HG := hid (geoB_head HB.out.1)
  go_enter Try.func187, Try.ntmps187
  have kw := keeps_refl w
  replace kw := Keeps.trans kw (keeps_alloc w (.cells #[.slice A0 n c0] 53))
  have b3 : B1 (w.alloc (.cells #[.slice A0 n c0] 53)) w.heap.size (.slice A0 n c0) := B1.new' (by simp)
  obtain ⟨ca1, fa1⟩ := id b3
  go_wp2_with fail
  clear ca1 fa1
  have HSV := hid (subT_sinv hB hl0 n)
  obtain ⟨R, HR⟩ : ∃ R, Hid (subT ps y v n n = R) := ⟨_, rfl⟩
  refine (subtreeEstimates_any (h0.keeps kw) (h1.keeps kw) (h2.keeps kw) hB).mono ?_
  rintro e w2 ⟨Aa, Na, Ca, Ab, Nb, Cb, L1, U1, L2, U2, rfl, hI, zM, uM, k2⟩
  replace b3 := b3.keeps k2
  replace kw := Keeps.trans kw k2
  have lt3 := b3.lt
  have sz4 := kw.size
  clear k2
  rw [HR.out] at zM uM
  rw [HR.out]
  rw [show (w.alloc (.cells #[.slice A0 n c0] 53)).heap.size = w.heap.size + 1 by simp] at hI
  clear hB
  cases R with
  | none =>
    have HE := hid (conO_none HR.out)
    go_wp2_with fail
    go_ret2
    exact ⟨none, 0, 0, by rw [HE.out]; rfl, by rw [HE.out]; exact SlM.nil_ _ _, kw⟩
  | some s =>
    obtain ⟨z, u⟩ := s
    have HC := hid (conO_some HR.out)
    have HZ := hid (AllF.of (by have := HSV.out _ (Nat.le_refl _) HR.out; rwa [Nat.sub_self] at this))
    replace zM : FracsM _ L1 U1 Aa Na z := zM
    replace uM : FracsM _ L2 U2 Ab Nb u := uM
    obtain rfl : n = Na := HZ.out.1.1.symm.trans (Fracs.len zM.1)
    obtain rfl : n = Nb := HZ.out.2.1.symm.trans (Fracs.len uM.1)
    obtain ⟨bz, oz, rfl, _, hbz, -⟩ := zM.1.2.2.2 (by omega)
    obtain ⟨bu, ou, rfl, _, hbu, -⟩ := uM.1.2.2.2 (by omega)
    go_wp2_with fail
    have hUz := zM.1.top
    have hUu := uM.1.top
    refine (cloneF_any zM.1 (by omega)).mono ?_
    rintro e w5 ⟨Ao, Co, rfl, oM, k5⟩
    replace b3 := b3.keeps k5
    replace zM := zM.keeps k5
    replace uM := uM.keeps k5
    replace kw := Keeps.trans kw k5
    have lt6 := b3.lt
    have sz7 := kw.size
    clear k5
    obtain ⟨bo, oo, rfl, hbo1, hbo2, -⟩ := oM.1.2.2.2 (by omega)
    go_wp2_with fail
    go_loopw [34] (fun si wr => ∃ (k : Nat) (out : List (Int × Int)), k ≤ n ∧ si = .int .i64 k ∧ Hid (conT ps z u k = some out) ∧ Hid (AllF n out) ∧ FracsM wr L1 U1 (some ⟨bz, oz, none⟩) n z ∧ FracsM wr L2 U2 (some ⟨bu, ou, none⟩) n u ∧ FracsM wr w2.heap.size w5.heap.size (some ⟨bo, oo, none⟩) n out ∧ B1 wr w.heap.size (.slice A0 n c0) ∧ Keeps w wr) (fun si _ => n - (intOf si).toNat)
    case atStart => exact ⟨0, z, Nat.zero_le _, rfl, rfl, HZ.out.1, zM, uM, oM, b3, kw⟩
    clear kw b3 zM uM oM
    case round =>
      obtain ⟨k, out, hk, rfl, HA, HF, zM, uM, oM, b3, kw⟩ := hrel
      have lt8 := b3.lt
      have sz9 := kw.size
      have hot := oM.1.top
      by_cases hlt : k < n
      · have hi0 : (0 : Int) ≤ (k : Int) := by omega
        have hin1 : (k : Int) < (n : Int) := by omega
        obtain ⟨ks, HK⟩ : ∃ ks, Hid (kids ps k = ks) := ⟨_, rfl⟩
        have HIN := hid (kids_into ps k (n := n) (by omega))
        have hkl := kids_len ps k
        have GZ := hid (HZ.out.1.good HIN.out)
        have GU := hid (HZ.out.2.good HIN.out)
        obtain ⟨ca10, fa10⟩ := id b3
        go_wp2_with fail
        clear ca10 fa10
        refine (childrenOf_any (h0.keeps kw) HG.out hi0).mono ?_
        rintro e w11 ⟨A9, c9, rfl, m9, k11⟩
        replace b3 := b3.keeps k11
        replace zM := zM.keeps k11
        replace uM := uM.keeps k11
        replace oM := oM.keeps k11
        replace kw := Keeps.trans kw k11
        have lt12 := b3.lt
        have sz13 := kw.size
        clear k11
        rw [HK.out]
        rw [HK.out] at m9 HIN hkl GZ GU
        by_cases hz0 : ks.length = 0
        · have HN := hid (conT_next HA.out (conSt_leaf (z := z) (u := u) (out := out) (by rw [HK.out]; exact hz0)))
          rw [hz0]
          clear hz0
          go_wp2_with fail
          go_roundw
          case rel => exact ⟨k + 1, _, (by omega), (by go_num), HN, HF, zM, uM, oM, b3, kw⟩
          case measure => simp [intOf]; omega
        · have t2 : ((ks.length : Int) == 0) = false := by rw [beq_eq_false_iff_ne]; omega
          have HZ0 := hid (show ¬ (kids ps k).length = 0 by rw [HK.out]; exact hz0)
          clear hz0
          go_wp2_with fail
          obtain ⟨s1, s2, s3, H1⟩ : ∃ r1 r2 r3, Hid (sumQ z ks = (r1, r2, r3)) := ⟨_, _, _, rfl⟩
          obtain ⟨v1, v2, v3, H2⟩ : ∃ r1 r2 r3, Hid (sumQ u ks = (r1, r2, r3)) := ⟨_, _, _, rfl⟩
          refine (sumOf_at zM.1 m9.1 GZ.out HIN.out).mono ?_
          rintro e w14 ⟨rfl, k14⟩
          rw [H1.out]
          replace b3 := b3.keeps k14
          replace zM := zM.keeps k14
          replace uM := uM.keeps k14
          replace oM := oM.keeps k14
          replace m9 := m9.keeps k14
          replace kw := Keeps.trans kw k14
          have lt15 := b3.lt
          have sz16 := kw.size
          clear k14
          have hot2 := oM.1.top
          replace b3 := b3.keeps (keeps_alloc w14 (.cells #[.int .i64 s1, .int .i64 s2] 31))
          replace zM := zM.keeps (keeps_alloc w14 (.cells #[.int .i64 s1, .int .i64 s2] 31))
          replace uM := uM.keeps (keeps_alloc w14 (.cells #[.int .i64 s1, .int .i64 s2] 31))
          replace oM := oM.keeps (keeps_alloc w14 (.cells #[.int .i64 s1, .int .i64 s2] 31))
          replace m9 := m9.keeps (keeps_alloc w14 (.cells #[.int .i64 s1, .int .i64 s2] 31))
          replace kw := Keeps.trans kw (keeps_alloc w14 (.cells #[.int .i64 s1, .int .i64 s2] 31))
          have b14 : Bx (w14.alloc (.cells #[.int .i64 s1, .int .i64 s2] 31)) w14.heap.size s1 s2 := Bx.new' (by simp)
          cases s3
          · have HN := hid (conT_fail HA.out (conSt_no1 HZ0.out (by rw [HK.out]; exact sums2_no1 H1.out)) hlt)
            have HE := hid (HC.out.trans HN.out)
            go_wp2_with fail
            go_ret2
            exact ⟨none, 0, 0, by rw [HE.out]; rfl, by rw [HE.out]; exact SlM.nil_ _ _, kw⟩
          go_wp2_with fail
          refine (sumOf_at uM.1 m9.1 GU.out HIN.out).mono ?_
          rintro e w17 ⟨rfl, k17⟩
          rw [H2.out]
          replace b3 := b3.keeps k17
          replace b14 := b14.keeps k17
          replace zM := zM.keeps k17
          replace uM := uM.keeps k17
          replace oM := oM.keeps k17
          replace m9 := m9.keeps k17
          replace kw := Keeps.trans kw k17
          have lt18 := b14.lt
          have sz19 := kw.size
          clear k17
          have hot4 := oM.1.top
          replace b3 := b3.keeps (keeps_alloc w17 (.cells #[.int .i64 v1, .int .i64 v2] 31))
          replace b14 := b14.keeps (keeps_alloc w17 (.cells #[.int .i64 v1, .int .i64 v2] 31))
          replace zM := zM.keeps (keeps_alloc w17 (.cells #[.int .i64 v1, .int .i64 v2] 31))
          replace uM := uM.keeps (keeps_alloc w17 (.cells #[.int .i64 v1, .int .i64 v2] 31))
          replace oM := oM.keeps (keeps_alloc w17 (.cells #[.int .i64 v1, .int .i64 v2] 31))
          replace m9 := m9.keeps (keeps_alloc w17 (.cells #[.int .i64 v1, .int .i64 v2] 31))
          replace kw := Keeps.trans kw (keeps_alloc w17 (.cells #[.int .i64 v1, .int .i64 v2] 31))
          have b16 : Bx (w17.alloc (.cells #[.int .i64 v1, .int .i64 v2] 31)) w17.heap.size v1 v2 := Bx.new' (by simp)
          cases v3
          · have HN := hid (conT_fail HA.out (conSt_no1 HZ0.out (by rw [HK.out]; exact sums2_no2 H2.out)) hlt)
            have HE := hid (HC.out.trans HN.out)
            go_wp2_with fail
            go_ret2
            exact ⟨none, 0, 0, by rw [HE.out]; rfl, by rw [HE.out]; exact SlM.nil_ _ _, kw⟩
          have HR2 := hid (show sums2 z u (kids ps k) = some ((s1, s2), (v1, v2)) by rw [HK.out]; exact sums2_yes H1.out H2.out)
          have HFS := hid (sums2_fine HR2.out)
          obtain ⟨e1, e2, HE⟩ : ∃ e1 e2, Hid ((e1, e2) = out.getD k (0, 0)) := ⟨_, _, rfl⟩
          have FE := hid (HF.out.at_ hlt HE.out)
          go_wp2_with fail
          obtain ⟨wX, hX⟩ : ∃ u : World, u = (w17.alloc (.cells #[.int .i64 v1, .int .i64 v2] 31)) := ⟨_, rfl⟩
          have szX19 := hid (show wX.heap.size = w17.heap.size + 1 by rw [hX]; simp)
          rw [← hX] at b3
          rw [← hX] at b14
          rw [← hX] at b16
          rw [← hX] at zM
          rw [← hX] at uM
          rw [← hX] at oM
          rw [← hX] at m9
          rw [← hX] at kw
          rw [← hX]
          clear hX
          have sz21 := kw.size
          obtain ⟨b', o', t1, t2, hA', _, _, hct, hdt, hxt⟩ := Fracs.at_ oM.1 (k := k) hlt
          obtain ⟨rfl, rfl⟩ : bo = b' ∧ oo = o' := by injection hA' with e; injection e with e1 e2; exact ⟨e1, e2⟩
          clear hA'
          obtain ⟨rfl, rfl⟩ : e1 = t1 ∧ e2 = t2 := by have e := HE.out.trans hxt.out.symm; injection e with q1 q2; exact ⟨q1, q2⟩
          clear hxt
          obtain ⟨d1, d2, d3, HD⟩ : ∃ r1 r2 r3, Hid (mkF (e1 * s2 - s1 * e2) (e2 * s2) = (r1, r2, r3)) := ⟨_, _, _, rfl⟩
          obtain ⟨ca23, cb23, -, -⟩ := id b14
          have kS := hid (show ∀ w', Keeps wX w' → (w'.cell? ⟨bo, oo + k * 2, none⟩ = some (.int .i64 e1) ∧ w'.cell? ⟨bo, oo + k * 2 + 1, none⟩ = some (.int .i64 e2) ∧ w'.cell? ⟨w14.heap.size, 0, none⟩ = some (.int .i64 s1) ∧ w'.cell? ⟨w14.heap.size, 1, none⟩ = some (.int .i64 s2)) from fun w' k => ⟨cell_keeps hct k, cell_keeps hdt k, cell_keeps ca23 k, cell_keeps cb23 k⟩)
          go_cut [17, 15] (fun sd so wq => ∃ wy g, wy = wq ∧ sd = .pointer (some ⟨g, 0, none⟩) ∧ so = .bool d3 ∧ Bx wy g d1 d2 ∧ wX.heap.size ≤ g ∧ Keeps wX wy)
          case first =>
            go_region_held3 (fun w' => w'.cell? ⟨bo, oo + k * 2, none⟩ = some (.int .i64 e1) ∧ w'.cell? ⟨bo, oo + k * 2 + 1, none⟩ = some (.int .i64 e2) ∧ w'.cell? ⟨w14.heap.size, 0, none⟩ = some (.int .i64 s1) ∧ w'.cell? ⟨w14.heap.size, 1, none⟩ = some (.int .i64 s2)) (first | with_reducible exact kS.out _ (keeps_d0 wX) | with_reducible exact kS.out _ (keeps_ad0 wX _) | with_reducible exact kS.out _ (kW) | with_reducible exact kS.out _ (kW.trans (keeps_alloc _ _)) | with_reducible exact kS.out _ (below_set2 kW lz _ _) | go_keep)
              ((first | (go_at_call 101; refine (SubFrac_any FE.out HFS.out.1).mono ?_; rintro e wB ⟨rfl, kB⟩; rw [HD.out]; (first | (have kZ : Bx wB wX.heap.size 0 0 := Bx.kZ1 kB rfl; have lz : wX.heap.size ≤ wX.heap.size := (Nat.le_refl _); obtain ⟨z1, z2, z3, z4⟩ := id kZ) | (have kZ : Bx wB wX.heap.size 0 0 := Bx.kZ2 kB rfl; have lz : wX.heap.size ≤ wX.heap.size := (Nat.le_refl _); obtain ⟨z1, z2, z3, z4⟩ := id kZ) | (have kZ := kZ.keeps kB; obtain ⟨z1, z2, z3, z4⟩ := id kZ) | (have kZ : Bx wB _ 0 0 := Bx.kZ2 kB rfl; have lz := kW.size; obtain ⟨z1, z2, z3, z4⟩ := id kZ) | skip); (first | (have kW : Keeps wX wB := kW.trans kB) | (have kW : Keeps wX wB := (kW.trans (keeps_alloc _ _)).trans kB) | (have kW : Keeps wX wB := keeps_d kB) | (have kW : Keeps wX wB := keeps_ad kB)); clear kB)))
            all_goals (go_wp2_with fail; go_meet; first
              | exact ⟨_, _, rfl, rfl, rfl, Bx.new _ _ _ _, kW.size, kW.trans (keeps_alloc _ _)⟩
              | exact ⟨_, _, rfl, rfl, rfl, Bx.set (x := 0) (y := 0) kZ _ _, lz, below_set2 kW lz _ _⟩)
          case rest =>
            clear kS
            clear ca23 cb23
            obtain ⟨wx22, g22, rfl, rfl, rfl, b17, lg22, kx22⟩ := hcut
            replace b3 := b3.keeps kx22
            replace b14 := b14.keeps kx22
            replace b16 := b16.keeps kx22
            replace zM := zM.keeps kx22
            replace uM := uM.keeps kx22
            replace oM := oM.keeps kx22
            replace m9 := m9.keeps kx22
            replace kw := Keeps.trans kw kx22
            clear kx22
            have lt25 := b17.lt
            have sz26 := kw.size
            have szx := szX19.out
            clear hct hdt
            cases d3
            · have HN := hid (conT_fail HA.out (conSt_no2 HZ0.out HR2.out HE.out HD.out) hlt)
              have HE := hid (HC.out.trans HN.out)
              go_wp2_with fail
              go_ret2
              exact ⟨none, 0, 0, by rw [HE.out]; rfl, by rw [HE.out]; exact SlM.nil_ _ _, kw⟩
            have HY := hid (conSt_yes HZ0.out HR2.out HE.out HD.out)
            have FD := hid (mkF_fine HD.out)
            rw [HK.out] at HY
            obtain ⟨m', hm'⟩ : ∃ m', m' = ks.length := ⟨_, rfl⟩
            rw [← hm'] at m9 hkl t2
            have HM := hid hm'
            rw [← HM.out] at HY
            rw [← hm']
            clear hm'
            have hmle := m9.1.le
            go_wp2_with fail
            clear b14
            go_loopw [72] (fun si wv => ∃ (q : Nat) (o : List (Int × Int)), q ≤ m' ∧ si = .int .i64 q ∧ Hid (shIn z u v1 v2 d1 d2 ks out q = some o) ∧ Hid (AllF n o) ∧ FracsM wv L1 U1 (some ⟨bz, oz, none⟩) n z ∧ FracsM wv L2 U2 (some ⟨bu, ou, none⟩) n u ∧ FracsM wv w2.heap.size w5.heap.size (some ⟨bo, oo, none⟩) n o ∧ Mine wv wr.heap.size w11.heap.size A9 m' ks ∧ B1 wv w.heap.size (.slice A0 n c0) ∧ Bx wv w17.heap.size v1 v2 ∧ Bx wv g22 d1 d2 ∧ Keeps w wv) (fun si _ => m' - (intOf si).toNat)
            case atStart => exact ⟨0, out, Nat.zero_le _, rfl, rfl, HF, zM, uM, oM, m9, b3, b16, b17, kw⟩
            clear kw b3 b16 b17 zM uM oM m9
            case round =>
              obtain ⟨q, o, hq, rfl, HQ, HO, zM, uM, oM, m9, b3, b16, b17, kw⟩ := hrel
              obtain ⟨wq, rfl⟩ : ∃ u : World, u = wr := ⟨_, rfl⟩
              have lt27 := b17.lt
              have sz28 := kw.size
              have hot3 := oM.1.top
              by_cases hlq : q < m'
              · obtain ⟨b9, o9, i', rfl, _, hb9, hv9, hxi⟩ := m9.1.at_ hlq
                obtain ⟨j, hj, hjn⟩ := HIN.out q (by have := HM.out; omega)
                obtain rfl : i' = j := hxi.out.trans hj.symm
                have hkj := hid hj
                clear hj hxi
                have hi2 : (q : Int) < (m' : Int) := by omega
                have hi3 : (j : Int) < (n : Int) := by omega
                go_wp2_with fail
                clear hv9
                obtain ⟨b', o', x1, x2, hA', _, _, hcx, hdx, hxx⟩ := Fracs.at_ zM.1 (k := j) hjn
                obtain ⟨rfl, rfl⟩ : bz = b' ∧ oz = o' := by injection hA' with e; injection e with e1 e2; exact ⟨e1, e2⟩
                clear hA'
                obtain ⟨b', o', y1, y2, hA', _, _, hcy, hdy, hxy⟩ := Fracs.at_ uM.1 (k := j) hjn
                obtain ⟨rfl, rfl⟩ : bu = b' ∧ ou = o' := by injection hA' with e; injection e with e1 e2; exact ⟨e1, e2⟩
                clear hA'
                have fx := hid (HZ.out.1.at_ hjn hxx.out)
                have fy := hid (HZ.out.2.at_ hjn hxy.out)
                obtain ⟨r1, r2, r3, HS⟩ : ∃ r1 r2 r3, Hid (shareQ x1 x2 y1 y2 v1 v2 d1 d2 = (r1, r2, r3)) := ⟨_, _, _, rfl⟩
                obtain ⟨cs1, cs2, -, -⟩ := id b16
                obtain ⟨cd1, cd2, -, -⟩ := id b17
                have kS := hid (show ∀ w', Keeps wq w' → (w'.cell? ⟨bz, oz + j * 2, none⟩ = some (.int .i64 x1) ∧ w'.cell? ⟨bz, oz + j * 2 + 1, none⟩ = some (.int .i64 x2) ∧ w'.cell? ⟨bu, ou + j * 2, none⟩ = some (.int .i64 y1) ∧ w'.cell? ⟨bu, ou + j * 2 + 1, none⟩ = some (.int .i64 y2) ∧ w'.cell? ⟨w17.heap.size, 0, none⟩ = some (.int .i64 v1) ∧ w'.cell? ⟨w17.heap.size, 1, none⟩ = some (.int .i64 v2) ∧ w'.cell? ⟨g22, 0, none⟩ = some (.int .i64 d1) ∧ w'.cell? ⟨g22, 1, none⟩ = some (.int .i64 d2)) from fun w' k => ⟨cell_keeps hcx k, cell_keeps hdx k, cell_keeps hcy k, cell_keeps hdy k, cell_keeps cs1 k, cell_keeps cs2 k, cell_keeps cd1 k, cell_keeps cd2 k⟩)
                have kT := hid (show ∀ w', Keeps wq w' → ∀ uA vA, let w'' := (w'.setCell ⟨bo, oo + j * 2, none⟩ uA).setCell ⟨bo, oo + j * 2 + 1, none⟩ vA; (w''.cell? ⟨bz, oz + j * 2, none⟩ = some (.int .i64 x1) ∧ w''.cell? ⟨bz, oz + j * 2 + 1, none⟩ = some (.int .i64 x2) ∧ w''.cell? ⟨bu, ou + j * 2, none⟩ = some (.int .i64 y1) ∧ w''.cell? ⟨bu, ou + j * 2 + 1, none⟩ = some (.int .i64 y2) ∧ w''.cell? ⟨w17.heap.size, 0, none⟩ = some (.int .i64 v1) ∧ w''.cell? ⟨w17.heap.size, 1, none⟩ = some (.int .i64 v2) ∧ w''.cell? ⟨g22, 0, none⟩ = some (.int .i64 d1) ∧ w''.cell? ⟨g22, 1, none⟩ = some (.int .i64 d2)) from fun w' k uA vA => ⟨far2c (cell_keeps hcx k) (show bz ≠ bo by omega), far2c (cell_keeps hdx k) (show bz ≠ bo by omega), far2c (cell_keeps hcy k) (show bu ≠ bo by omega), far2c (cell_keeps hdy k) (show bu ≠ bo by omega), far2c (cell_keeps cs1 k) (show w17.heap.size ≠ bo by omega), far2c (cell_keeps cs2 k) (show w17.heap.size ≠ bo by omega), far2c (cell_keeps cd1 k) (show g22 ≠ bo by omega), far2c (cell_keeps cd2 k) (show g22 ≠ bo by omega)⟩)
                go_region_held3 (fun w' => w'.cell? ⟨bz, oz + j * 2, none⟩ = some (.int .i64 x1) ∧ w'.cell? ⟨bz, oz + j * 2 + 1, none⟩ = some (.int .i64 x2) ∧ w'.cell? ⟨bu, ou + j * 2, none⟩ = some (.int .i64 y1) ∧ w'.cell? ⟨bu, ou + j * 2 + 1, none⟩ = some (.int .i64 y2) ∧ w'.cell? ⟨w17.heap.size, 0, none⟩ = some (.int .i64 v1) ∧ w'.cell? ⟨w17.heap.size, 1, none⟩ = some (.int .i64 v2) ∧ w'.cell? ⟨g22, 0, none⟩ = some (.int .i64 d1) ∧ w'.cell? ⟨g22, 1, none⟩ = some (.int .i64 d2)) (first | with_reducible exact kS.out _ (keeps_d0 wq) | with_reducible exact kS.out _ kW | with_reducible exact kT.out _ kW _ _ | go_keep)
                  ((go_at_call 225; refine (shared_any fx.out fy.out HFS.out.2 FD.out).mono ?_; rintro e wB ⟨rfl, kB⟩; rw [HS.out]; (first | (have kW : Keeps wq wB := keeps_d kB) | (have kW : Keeps wq wB := kB)); clear kB; have oB := oM.keeps kW; obtain ⟨b', o', p1, p2, hA', _, _, z1, z2, _⟩ := Fracs.at_ oB.1 (k := j) hjn; obtain ⟨rfl, rfl⟩ : bo = b' ∧ oo = o' := (by injection hA' with e; injection e with e1 e2; exact ⟨e1, e2⟩); clear hA'; have z3 := oB.2 bo oo rfl (j * 2) (by omega); have z4 : wB.frozen? ⟨bo, oo + j * 2 + 1, none⟩ = false := oB.2 bo oo rfl (j * 2 + 1) (by omega); clear oB))
                clear kS kT z1 z2 z3 z4 cs1 cs2 cd1 cd2 hcx hdx hcy hdy
                replace b3 := b3.keeps kW
                replace b16 := b16.keeps kW
                replace b17 := b17.keeps kW
                replace zM := zM.keeps kW
                replace uM := uM.keeps kW
                replace oM := oM.keeps kW
                replace m9 := m9.keeps kW
                replace kw := Keeps.trans kw kW
                have lt29 := b17.lt
                have sz30 := kw.size
                clear kW
                have hset := FracsM.set_ oM hjn r1 r2
                replace oM := hset.1
                have fo := hset.2
                clear hset
                have htz := zM.1.top
                have htu := uM.1.top
                have ht9 := m9.1.top
                replace b3 := b3.fr fo (by omega)
                replace b16 := b16.fr fo (by omega)
                replace b17 := b17.fr fo (by omega)
                replace zM := zM.fr fo (by omega)
                replace uM := uM.fr fo (by omega)
                replace m9 := m9.fr fo (by omega)
                replace kw := below_fr kw kw.size (by omega) fo
                cases r3
                · have HN := hid (conT_fail HA.out (HY.out.trans (shIn_no HQ.out hkj.out hxx.out hxy.out HS.out hlq)) hlt)
                  have HE := hid (HC.out.trans HN.out)
                  go_wp2_with fail
                  go_ret2
                  exact ⟨none, 0, 0, by rw [HE.out]; rfl, by rw [HE.out]; exact SlM.nil_ _ _, kw⟩
                have FR := hid ((shareQ_fine _ _ _ _ _ _ _ _).ok HS.out)
                go_wp2_with fail
                go_roundw
                case rel => exact ⟨q + 1, _, (by omega), (by go_num), (hid (shIn_step HQ.out hkj.out hxx.out hxy.out HS.out)), (hid (HO.out.set FR.out)), zM, uM, oM, m9, b3, b16, b17, kw⟩
                case measure => simp [intOf]; omega
              · obtain rfl : q = m' := by omega
                have HN := hid (conT_next HA.out (HY.out.trans HQ.out))
                go_wp2_with fail
                go_roundw
                case rel => exact ⟨k + 1, _, (by omega), (by go_num), HN, HO, zM, uM, oM, b3, kw⟩
                case measure => simp [intOf]; omega
      · obtain rfl : k = n := by omega
        have HE := hid (HC.out.trans HA.out)
        go_wp2_with fail
        go_ret2
        exact ⟨_, _, _, by rw [HE.out]; rfl, by rw [HE.out]; exact oM.widen (by omega) hot (Nat.le_refl _), kw⟩
end Go.Proofs.Ytnopedjgagoahaa
