/- Consistent estimates of the reference: the walk. -/
import Derived.Test.YtnopedjgagoahaaCon0
import Derived.Test.YtnopedjgagoahaaSub
namespace Go.Proofs.Ytnopedjgagoahaa
open Go.RowKit
set_option linter.unusedVariables false
set_option linter.unusedSimpArgs false

set_option maxRecDepth 100000 in
set_option maxHeartbeats 3200000 in
theorem wConsistent_any {A0 A1 A2 : Option Addr} {l0 l1 l2 u0 u1 u2 n c0 c1 c2 : Nat} {ps y v : List Int} {w : World} (h0 : Ints w l0 u0 A0 n ps) (h1 : Ints w l1 u1 A1 n y) (h2 : Ints w l2 u2 A2 n v) (hB : treeB ps y v = true) :
    Calls Try.prog 117 #[.agg #[.slice A0 n c0], .slice A1 n c1, .slice A2 n c2] w fun e w' => FRes w (lO (conO ps y v n)) (conO ps y v n).isSome e w' := by
  have hn := h1.le
  have hl0 := h0.1
  have hl1 := h1.1
  have hl2 := h2.1
  have HB := hid (treeB_true.1 hB)
  have hgl := (geoB_true.1 HB.out.1).1
  have HG := hid (geoB_head HB.out.1)
  go_enter Try.func117, Try.ntmps117
  have kw := keeps_refl w
  replace kw := Keeps.trans kw (keeps_alloc w (.cells #[.slice A0 n c0] 53))
  have b3 : B1 (w.alloc (.cells #[.slice A0 n c0] 53)) w.heap.size (.slice A0 n c0) := B1.new' (by simp)
  obtain ⟨ca1, fa1⟩ := id b3
  go_wp2_with fail
  clear ca1 fa1
  have HSV := hid (subT_sinv hB hl0 n)
  obtain ⟨R, HR⟩ : ∃ R, Hid (subT ps y v n n = R) := ⟨_, rfl⟩
  refine (wSubtree_any (h0.keeps kw) (h1.keeps kw) (h2.keeps kw) hB).mono ?_
  rintro e w2 ⟨Aa, Na, Ca, Ab, Nb, Cb, L1, U1, L2, U2, rfl, hI, zM, uM, k2⟩
  replace b3 := b3.keeps k2
  replace kw := Keeps.trans kw k2
  have lt3 := b3.lt
  have sz4 := kw.size
  clear k2
  rw [HR.out] at zM uM
  rw [HR.out]
  rw [show (w.alloc (.cells #[.slice A0 n c0] 53)).heap.size = w.heap.size + 1 by simp] at hI
  clear hB
  cases R with
  | none =>
    have HE := hid (conO_none HR.out)
    go_wp2_with fail
    go_ret2
    exact ⟨none, 0, 0, by rw [HE.out]; rfl, by rw [HE.out]; exact SlM.nil_ _ _, kw⟩
  | some s =>
    obtain ⟨z, u⟩ := s
    have HC := hid (conO_some HR.out)
    have HZ := hid (AllF.of (by have := HSV.out _ (Nat.le_refl _) HR.out; rwa [Nat.sub_self] at this))
    replace zM : FracsM _ L1 U1 Aa Na z := zM
    replace uM : FracsM _ L2 U2 Ab Nb u := uM
    obtain rfl : n = Na := HZ.out.1.1.symm.trans (Fracs.len zM.1)
    obtain rfl : n = Nb := HZ.out.2.1.symm.trans (Fracs.len uM.1)
    obtain ⟨bz, oz, rfl, _, hbz, -⟩ := zM.1.2.2.2 (by omega)
    obtain ⟨bu, ou, rfl, _, hbu, -⟩ := uM.1.2.2.2 (by omega)
    go_wp2_with (at_builtin; refine append_frs zM.1 (by omega) _ _ rfl rfl rfl rfl ?_; intro v' wo hown hb; obtain ⟨Ao, Co, rfl⟩ := hown.form)
    have oM := SlM.of_own hown hn (by omega)
    clear hown
    have hUz := zM.1.top
    have hUu := uM.1.top
    replace b3 := b3.keeps hb
    replace zM := zM.keeps hb
    replace uM := uM.keeps hb
    replace kw := Keeps.trans kw hb
    have lt5 := b3.lt
    have sz6 := kw.size
    clear hb
    obtain ⟨bo, oo, rfl, hbo1, hbo2, -⟩ := oM.1.2.2.2 (by omega)
    go_wp2_with fail
    go_loopw [35] (fun si wr => ∃ (k : Nat) (out : List (Int × Int)), k ≤ n ∧ si = .int .i64 k ∧ Hid (conT ps z u k = some out) ∧ Hid (AllF n out) ∧ FracsM wr L1 U1 (some ⟨bz, oz, none⟩) n z ∧ FracsM wr L2 U2 (some ⟨bu, ou, none⟩) n u ∧ FracsM wr w2.heap.size wo.heap.size (some ⟨bo, oo, none⟩) n out ∧ B1 wr w.heap.size (.slice A0 n c0) ∧ Keeps w wr) (fun si _ => n - (intOf si).toNat)
    case atStart => exact ⟨0, z, Nat.zero_le _, rfl, rfl, HZ.out.1, zM, uM, oM, b3, kw⟩
    clear kw b3 zM uM oM
    case round =>
      obtain ⟨k, out, hk, rfl, HA, HF, zM, uM, oM, b3, kw⟩ := hrel
      have lt7 := b3.lt
      have sz8 := kw.size
      have hot := oM.1.top
      by_cases hlt : k < n
      · have hi0 : (0 : Int) ≤ (k : Int) := by omega
        have hin1 : (k : Int) < (n : Int) := by omega
        obtain ⟨ks, HK⟩ : ∃ ks, Hid (kids ps k = ks) := ⟨_, rfl⟩
        have HIN := hid (kids_into ps k (n := n) (by omega))
        have hkl := kids_len ps k
        obtain ⟨ca9, fa9⟩ := id b3
        go_wp2_with fail
        clear ca9 fa9
        obtain ⟨R, HR2⟩ : ∃ R, Hid (sums2 z u (kids ps k) = R) := ⟨_, rfl⟩
        refine (wSums_any (h0.keeps kw) zM.1 uM.1 HG.out hi0 (HZ.out.1.good HIN.out) (HZ.out.2.good HIN.out) HIN.out).mono ?_
        rintro e w10 ⟨s1, s2, v1, v2, rfl, hv, k10⟩
        replace b3 := b3.keeps k10
        replace zM := zM.keeps k10
        replace uM := uM.keeps k10
        replace oM := oM.keeps k10
        replace kw := Keeps.trans kw k10
        have lt11 := b3.lt
        have sz12 := kw.size
        clear k10
        rw [HR2.out] at hv
        rw [HR2.out]
        have hot2 := oM.1.top
        replace b3 := b3.keeps (keeps_alloc w10 (.cells #[.int .i64 s1, .int .i64 s2] 31))
        replace zM := zM.keeps (keeps_alloc w10 (.cells #[.int .i64 s1, .int .i64 s2] 31))
        replace uM := uM.keeps (keeps_alloc w10 (.cells #[.int .i64 s1, .int .i64 s2] 31))
        replace oM := oM.keeps (keeps_alloc w10 (.cells #[.int .i64 s1, .int .i64 s2] 31))
        replace kw := Keeps.trans kw (keeps_alloc w10 (.cells #[.int .i64 s1, .int .i64 s2] 31))
        have b13 : Bx (w10.alloc (.cells #[.int .i64 s1, .int .i64 s2] 31)) w10.heap.size s1 s2 := Bx.new' (by simp)
        replace b3 := b3.keeps (keeps_alloc (w10.alloc (.cells #[.int .i64 s1, .int .i64 s2] 31)) (.cells #[.int .i64 v1, .int .i64 v2] 31))
        replace b13 := b13.keeps (keeps_alloc (w10.alloc (.cells #[.int .i64 s1, .int .i64 s2] 31)) (.cells #[.int .i64 v1, .int .i64 v2] 31))
        replace zM := zM.keeps (keeps_alloc (w10.alloc (.cells #[.int .i64 s1, .int .i64 s2] 31)) (.cells #[.int .i64 v1, .int .i64 v2] 31))
        replace uM := uM.keeps (keeps_alloc (w10.alloc (.cells #[.int .i64 s1, .int .i64 s2] 31)) (.cells #[.int .i64 v1, .int .i64 v2] 31))
        replace oM := oM.keeps (keeps_alloc (w10.alloc (.cells #[.int .i64 s1, .int .i64 s2] 31)) (.cells #[.int .i64 v1, .int .i64 v2] 31))
        replace kw := Keeps.trans kw (keeps_alloc (w10.alloc (.cells #[.int .i64 s1, .int .i64 s2] 31)) (.cells #[.int .i64 v1, .int .i64 v2] 31))
        have b14 : Bx ((w10.alloc (.cells #[.int .i64 s1, .int .i64 s2] 31)).alloc (.cells #[.int .i64 v1, .int .i64 v2] 31)) (w10.heap.size + 1) v1 v2 := Bx.new' (by simp)
        cases R with
        | none =>
          have HN := hid (conT_fail HA.out (conSt_none HR2.out) hlt)
          have HE := hid (HC.out.trans HN.out)
          go_wp2_with fail
          go_ret2
          exact ⟨none, 0, 0, by rw [HE.out]; rfl, by rw [HE.out]; exact SlM.nil_ _ _, kw⟩
        | some m =>
          obtain rfl := hv m rfl
          clear hv
          have HFS := hid (sums2_fine HR2.out)
          obtain ⟨ca13, fa13⟩ := id b3
          go_wp2_with fail
          clear ca13 fa13
          refine (gChildren_any (h0.keeps kw) HG.out hi0).mono ?_
          rintro e w14 ⟨A9, c9, rfl, m9, k14⟩
          replace b3 := b3.keeps k14
          replace b13 := b13.keeps k14
          replace b14 := b14.keeps k14
          replace zM := zM.keeps k14
          replace uM := uM.keeps k14
          replace oM := oM.keeps k14
          replace kw := Keeps.trans kw k14
          have lt15 := b14.lt
          have sz16 := kw.size
          clear k14
          rw [HK.out]
          rw [HK.out] at m9 HIN hkl
          replace m9 := m9.widen (lo' := w10.heap.size + 1 + 1) (by simp) (Nat.le_refl _) (Nat.le_refl _)
          obtain ⟨m', hm'⟩ : ∃ m', m' = ks.length := ⟨_, rfl⟩
          rw [← hm'] at m9 hkl
          rw [← hm']
          have HM := hid hm'
          clear hm'
          have hmle := m9.1.le
          go_wp2_with fail
          obtain ⟨e1, e2, HE⟩ : ∃ e1 e2, Hid ((e1, e2) = out.getD k (0, 0)) := ⟨_, _, rfl⟩
          have FE := hid (HF.out.at_ hlt HE.out)
          go_loopw [53] (fun si wv => ∃ (q : Nat) (o : List (Int × Int)), q ≤ m' ∧ si = .int .i64 q ∧ Hid (InR z u out e1 e2 s1 s2 v1 v2 ks q o) ∧ Hid (AllF n o) ∧ Hid ((e1, e2) = o.getD k (0, 0)) ∧ FracsM wv L1 U1 (some ⟨bz, oz, none⟩) n z ∧ FracsM wv L2 U2 (some ⟨bu, ou, none⟩) n u ∧ FracsM wv w2.heap.size wo.heap.size (some ⟨bo, oo, none⟩) n o ∧ Mine wv (w10.heap.size + 1 + 1) w14.heap.size A9 m' ks ∧ B1 wv w.heap.size (.slice A0 n c0) ∧ Bx wv w10.heap.size s1 s2 ∧ Bx wv (w10.heap.size + 1) v1 v2 ∧ Keeps w wv) (fun si _ => m' - (intOf si).toNat)
          case atStart => exact ⟨0, out, Nat.zero_le _, rfl, (hid (.inl ⟨rfl, rfl⟩)), HF, HE, zM, uM, oM, m9, b3, b13, b14, kw⟩
          clear kw b3 b13 b14 zM uM oM m9
          case round =>
            obtain ⟨q, o, hq, rfl, HQ, HO, HEo, zM, uM, oM, m9, b3, b13, b14, kw⟩ := hrel
            have lt17 := b14.lt
            have sz18 := kw.size
            have hot3 := oM.1.top
            by_cases hlq : q < m'
            · obtain ⟨b9, o9, i', rfl, _, hb9, hv9, hxi⟩ := m9.1.at_ hlq
              obtain ⟨j, hj, hjn⟩ := HIN.out q (by have := HM.out; omega)
              obtain rfl : i' = j := hxi.out.trans hj.symm
              have hkj := hid hj
              clear hj hxi
              have hjk := kids_up (j := j) HB.out.1 (by rw [HK.out, ← HM.out]; exact hlq) (by rw [HK.out]; exact hkj.out)
              have hi2 : (q : Int) < (m' : Int) := by omega
              have hi3 : (j : Int) < (n : Int) := by omega
              go_wp2_with fail
              clear hv9
              obtain ⟨b', o', x1, x2, hA', _, _, hcx, hdx, hxx⟩ := Fracs.at_ zM.1 (k := j) hjn
              obtain ⟨rfl, rfl⟩ : bz = b' ∧ oz = o' := by injection hA' with e; injection e with e1 e2; exact ⟨e1, e2⟩
              clear hA'
              obtain ⟨b', o', y1, y2, hA', _, _, hcy, hdy, hxy⟩ := Fracs.at_ uM.1 (k := j) hjn
              obtain ⟨rfl, rfl⟩ : bu = b' ∧ ou = o' := by injection hA' with e; injection e with e1 e2; exact ⟨e1, e2⟩
              clear hA'
              have fx := hid (HZ.out.1.at_ hjn hxx.out)
              have fy := hid (HZ.out.2.at_ hjn hxy.out)
              obtain ⟨b', o', t1, t2, hA', _, _, hct, hdt, hxt⟩ := Fracs.at_ oM.1 (k := k) hlt
              obtain ⟨rfl, rfl⟩ : bo = b' ∧ oo = o' := by injection hA' with e; injection e with e1 e2; exact ⟨e1, e2⟩
              clear hA'
              obtain ⟨rfl, rfl⟩ : e1 = t1 ∧ e2 = t2 := by have e := HEo.out.trans hxt.out.symm; injection e with q1 q2; exact ⟨q1, q2⟩
              clear hxt
              obtain ⟨r1, r2, r3, HS⟩ : ∃ r1 r2 r3, Hid (wShareQ x1 x2 y1 y2 v1 v2 e1 e2 s1 s2 = (r1, r2, r3)) := ⟨_, _, _, rfl⟩
              obtain ⟨ca20, cb20, -, -⟩ := id b14
              obtain ⟨ca21, cb21, -, -⟩ := id b13
              have kS := hid (show ∀ w', Keeps wr w' → (w'.cell? ⟨bz, oz + j * 2, none⟩ = some (.int .i64 x1) ∧ w'.cell? ⟨bz, oz + j * 2 + 1, none⟩ = some (.int .i64 x2) ∧ w'.cell? ⟨bu, ou + j * 2, none⟩ = some (.int .i64 y1) ∧ w'.cell? ⟨bu, ou + j * 2 + 1, none⟩ = some (.int .i64 y2) ∧ w'.cell? ⟨w10.heap.size + 1, 0, none⟩ = some (.int .i64 v1) ∧ w'.cell? ⟨w10.heap.size + 1, 1, none⟩ = some (.int .i64 v2) ∧ w'.cell? ⟨bo, oo + k * 2, none⟩ = some (.int .i64 e1) ∧ w'.cell? ⟨bo, oo + k * 2 + 1, none⟩ = some (.int .i64 e2) ∧ w'.cell? ⟨w10.heap.size, 0, none⟩ = some (.int .i64 s1) ∧ w'.cell? ⟨w10.heap.size, 1, none⟩ = some (.int .i64 s2)) from fun w' k => ⟨cell_keeps hcx k, cell_keeps hdx k, cell_keeps hcy k, cell_keeps hdy k, cell_keeps ca20 k, cell_keeps cb20 k, cell_keeps hct k, cell_keeps hdt k, cell_keeps ca21 k, cell_keeps cb21 k⟩)
              go_cut [18, 19] (fun sd so wq => ∃ wy g, wy = wq ∧ sd = .pointer (some ⟨g, 0, none⟩) ∧ so = .bool r3 ∧ Bx wy g r1 r2 ∧ wr.heap.size ≤ g ∧ Keeps wr wy)
              case first =>
                go_region_held3 (fun w' => w'.cell? ⟨bz, oz + j * 2, none⟩ = some (.int .i64 x1) ∧ w'.cell? ⟨bz, oz + j * 2 + 1, none⟩ = some (.int .i64 x2) ∧ w'.cell? ⟨bu, ou + j * 2, none⟩ = some (.int .i64 y1) ∧ w'.cell? ⟨bu, ou + j * 2 + 1, none⟩ = some (.int .i64 y2) ∧ w'.cell? ⟨w10.heap.size + 1, 0, none⟩ = some (.int .i64 v1) ∧ w'.cell? ⟨w10.heap.size + 1, 1, none⟩ = some (.int .i64 v2) ∧ w'.cell? ⟨bo, oo + k * 2, none⟩ = some (.int .i64 e1) ∧ w'.cell? ⟨bo, oo + k * 2 + 1, none⟩ = some (.int .i64 e2) ∧ w'.cell? ⟨w10.heap.size, 0, none⟩ = some (.int .i64 s1) ∧ w'.cell? ⟨w10.heap.size, 1, none⟩ = some (.int .i64 s2)) (first | with_reducible exact kS.out _ (keeps_d0 wr) | with_reducible exact kS.out _ (keeps_ad0 wr _) | with_reducible exact kS.out _ (kW) | with_reducible exact kS.out _ (kW.trans (keeps_alloc _ _)) | with_reducible exact kS.out _ (below_set2 kW lz _ _) | go_keep)
                  ((first | (go_at_call 195; refine (wShare_any fx.out fy.out HFS.out.2 FE.out HFS.out.1).mono ?_; rintro e wB ⟨rfl, kB⟩; rw [HS.out]; (first | (have kZ : Bx wB wr.heap.size 0 0 := Bx.kZ1 kB rfl; have lz : wr.heap.size ≤ wr.heap.size := (Nat.le_refl _); obtain ⟨z1, z2, z3, z4⟩ := id kZ) | (have kZ : Bx wB wr.heap.size 0 0 := Bx.kZ2 kB rfl; have lz : wr.heap.size ≤ wr.heap.size := (Nat.le_refl _); obtain ⟨z1, z2, z3, z4⟩ := id kZ) | (have kZ := kZ.keeps kB; obtain ⟨z1, z2, z3, z4⟩ := id kZ) | (have kZ : Bx wB _ 0 0 := Bx.kZ2 kB rfl; have lz := kW.size; obtain ⟨z1, z2, z3, z4⟩ := id kZ) | skip); (first | (have kW : Keeps wr wB := kW.trans kB) | (have kW : Keeps wr wB := (kW.trans (keeps_alloc _ _)).trans kB) | (have kW : Keeps wr wB := keeps_d kB) | (have kW : Keeps wr wB := keeps_ad kB)); clear kB)))
                all_goals (go_wp2_with fail; go_meet; first
                  | exact ⟨_, _, rfl, rfl, rfl, Bx.new _ _ _ _, kW.size, kW.trans (keeps_alloc _ _)⟩
                  | exact ⟨_, _, rfl, rfl, rfl, Bx.set (x := 0) (y := 0) kZ _ _, lz, below_set2 kW lz _ _⟩)
              case rest =>
                clear kS
                clear ca20 cb20 ca21 cb21
                obtain ⟨wx19, g19, rfl, rfl, rfl, b18, lg19, kx19⟩ := hcut
                replace b3 := b3.keeps kx19
                replace b13 := b13.keeps kx19
                replace b14 := b14.keeps kx19
                replace zM := zM.keeps kx19
                replace uM := uM.keeps kx19
                replace oM := oM.keeps kx19
                replace m9 := m9.keeps kx19
                replace kw := Keeps.trans kw kx19
                clear kx19
                have lt23 := b18.lt
                have sz24 := kw.size
                clear hcx hdx hcy hdy hct hdt
                cases r3
                · have HN := hid (conT_fail HA.out (InR.no (HK.out.symm ▸ HQ.out) HR2.out HE.out (by rw [HK.out]; exact hkj.out) hxx.out hxy.out HS.out (by rw [HK.out, ← HM.out]; exact hlq)) hlt)
                  have HE := hid (HC.out.trans HN.out)
                  go_wp2_with fail
                  go_ret2
                  exact ⟨none, 0, 0, by rw [HE.out]; rfl, by rw [HE.out]; exact SlM.nil_ _ _, kw⟩
                have FR := hid ((wShareQ_fine _ _ _ _ _ _ _ _ _ _).ok HS.out)
                obtain ⟨ca25, cb25, fa25, fb25⟩ := id b18
                obtain ⟨b', o', p1, p2, hA', _, _, hcp, hdp, hxp⟩ := Fracs.at_ oM.1 (k := j) hjn
                obtain ⟨rfl, rfl⟩ : bo = b' ∧ oo = o' := by injection hA' with e; injection e with e1 e2; exact ⟨e1, e2⟩
                clear hA'
                have fz1 := oM.2 bo oo rfl (j * 2) (by omega)
                have fz2 : wx19.frozen? ⟨bo, oo + j * 2 + 1, none⟩ = false := oM.2 bo oo rfl (j * 2 + 1) (by omega)
                have hset := FracsM.set_ oM hjn r1 r2
                replace oM := hset.1
                have fo := hset.2
                clear hset
                have htz := zM.1.top
                have htu := uM.1.top
                have ht9 := m9.1.top
                replace b3 := b3.fr fo (by omega)
                replace b13 := b13.fr fo (by omega)
                replace b14 := b14.fr fo (by omega)
                replace b18 := b18.fr fo (by omega)
                replace zM := zM.fr fo (by omega)
                replace uM := uM.fr fo (by omega)
                replace m9 := m9.fr fo (by omega)
                replace kw := below_fr kw kw.size (by omega) fo
                go_wp2_with fail
                clear ca25 cb25 fa25 fb25
                clear hcp hdp fz1 fz2
                go_roundw
                case rel => exact ⟨q + 1, _, (by omega), (by go_num), (hid (InR.step HQ.out hkj.out hxx.out hxy.out HS.out)), (hid (HO.out.set FR.out)), (hid (HEo.out.trans (getD_set_ne (by omega)).symm)), zM, uM, oM, m9, b3, b13, b14, kw⟩
                case measure => simp [intOf]; omega
            · obtain rfl : q = m' := by omega
              have HN := hid (conT_next HA.out (InR.done (HK.out.symm ▸ HQ.out) HR2.out HE.out (by rw [HK.out]; exact HM.out)))
              go_wp2_with fail
              go_roundw
              case rel => exact ⟨k + 1, _, (by omega), (by go_num), HN, HO, zM, uM, oM, b3, kw⟩
              case measure => simp [intOf]; omega
      · obtain rfl : k = n := by omega
        have HE := hid (HC.out.trans HA.out)
        go_wp2_with fail
        go_ret2
        exact ⟨_, _, _, by rw [HE.out]; rfl, by rw [HE.out]; exact oM.widen (by omega) hot (Nat.le_refl _), kw⟩
end Go.Proofs.Ytnopedjgagoahaa
