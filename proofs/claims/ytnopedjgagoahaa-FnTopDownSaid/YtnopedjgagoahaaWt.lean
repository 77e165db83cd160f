/- Trees of whole numbers: rounding, and the walks. -/
import Derived.Test.YtnopedjgagoahaaWtL
namespace Go.Proofs.Ytnopedjgagoahaa
open Go.RowKit
set_option linter.unusedVariables false
set_option linter.unusedSimpArgs false

theorem Own.fr_ {w : World} {g : Nat} (i : Nat) (u : Value) : Fr g (g + 1) w (w.setCell ⟨g, i, none⟩ u) := (Fr.refl g (g + 1) w).setCell (p := ⟨g, i, none⟩) (Nat.le_refl _) (Nat.lt_succ_self _) u
theorem Own.fr {w w' : World} {g l h : Nat} {xs : List Int} (k : Own w g xs) (hf : Fr l h w w') (ho : g < l ∨ h ≤ g) : Own w' g xs := (hf.block g k.lt ho).trans k

set_option maxHeartbeats 1600000 in
theorem fRound_any {p q : Int} {w : World} (h : fracB p q = true) :
    Calls Try.prog 197 #[.agg #[.int .i64 p, .int .i64 q]] w fun e w' => e = .returned (.int .i64 (rndQ p q)) ∧ Keeps w w' := by
  have HBD := hid (rnd_bd h)
  have hq := (fracB_true.1 h).1
  have hp := (fracB_true.1 h).2.1
  have hb := HBD.out
  by_cases h1 : q < 2 * (p - p / q * q)
  · have HR := hid (rndQ_up1 h1)
    go_enter Try.func197, Try.ntmps197
    have kw := keeps_refl w
    replace kw := Keeps.trans kw (keeps_alloc w (.cells #[.int .i64 p, .int .i64 q] 31))
    have b1 : Bx (w.alloc (.cells #[.int .i64 p, .int .i64 q] 31)) w.heap.size p q := Bx.new' (by simp)
    obtain ⟨ca1, cb1, fa1, fb1⟩ := id b1
    go_wp2_with fail
    clear ca1 cb1 fa1 fb1
    refine (fFloor_any hp hq).mono ?_
    rintro e w2 ⟨rfl, k2⟩
    replace b1 := b1.keeps k2
    replace kw := Keeps.trans kw k2
    have lt3 := b1.lt
    have sz4 := kw.size
    clear k2
    obtain ⟨hb1, hb2, hb3⟩ := HBD.out
    obtain ⟨ca5, cb5, fa5, fb5⟩ := id b1
    go_wp2_with fail
    clear ca5 cb5 fa5 fb5
    go_ret
    exact ⟨ret_int HR.out.symm, kw⟩
  by_cases h2 : 2 * (p - p / q * q) = q
  · by_cases h3 : (p / q).tmod 2 = 0
    · have HR := hid (rndQ_dn2 h1 h3)
      have t1 : (2 * (p - p / q * q) == q) = true := by simp [h2]
      have t2 : ((p / q).tmod 2 != 0) = false := by simp [h3]
      go_enter Try.func197, Try.ntmps197
      have kw := keeps_refl w
      replace kw := Keeps.trans kw (keeps_alloc w (.cells #[.int .i64 p, .int .i64 q] 31))
      have b1 : Bx (w.alloc (.cells #[.int .i64 p, .int .i64 q] 31)) w.heap.size p q := Bx.new' (by simp)
      obtain ⟨ca1, cb1, fa1, fb1⟩ := id b1
      go_wp2_with fail
      clear ca1 cb1 fa1 fb1
      refine (fFloor_any hp hq).mono ?_
      rintro e w2 ⟨rfl, k2⟩
      replace b1 := b1.keeps k2
      replace kw := Keeps.trans kw k2
      have lt3 := b1.lt
      have sz4 := kw.size
      clear k2
      obtain ⟨hb1, hb2, hb3⟩ := HBD.out
      obtain ⟨ca5, cb5, fa5, fb5⟩ := id b1
      go_wp2_with fail
      clear ca5 cb5 fa5 fb5
      go_ret
      exact ⟨ret_int HR.out.symm, kw⟩
    · have HR := hid (rndQ_up2 h2 h3)
      have t1 : (2 * (p - p / q * q) == q) = true := by simp [h2]
      have t2 : ((p / q).tmod 2 != 0) = true := by simp [h3]
      go_enter Try.func197, Try.ntmps197
      have kw := keeps_refl w
      replace kw := Keeps.trans kw (keeps_alloc w (.cells #[.int .i64 p, .int .i64 q] 31))
      have b1 : Bx (w.alloc (.cells #[.int .i64 p, .int .i64 q] 31)) w.heap.size p q := Bx.new' (by simp)
      obtain ⟨ca1, cb1, fa1, fb1⟩ := id b1
      go_wp2_with fail
      clear ca1 cb1 fa1 fb1
      refine (fFloor_any hp hq).mono ?_
      rintro e w2 ⟨rfl, k2⟩
      replace b1 := b1.keeps k2
      replace kw := Keeps.trans kw k2
      have lt3 := b1.lt
      have sz4 := kw.size
      clear k2
      obtain ⟨hb1, hb2, hb3⟩ := HBD.out
      obtain ⟨ca5, cb5, fa5, fb5⟩ := id b1
      go_wp2_with fail
      clear ca5 cb5 fa5 fb5
      go_ret
      exact ⟨ret_int HR.out.symm, kw⟩
  · have HR := hid (rndQ_dn1 h1 h2)
    have t1 : (2 * (p - p / q * q) == q) = false := by simp [h2]
    go_enter Try.func197, Try.ntmps197
    have kw := keeps_refl w
    replace kw := Keeps.trans kw (keeps_alloc w (.cells #[.int .i64 p, .int .i64 q] 31))
    have b1 : Bx (w.alloc (.cells #[.int .i64 p, .int .i64 q] 31)) w.heap.size p q := Bx.new' (by simp)
    obtain ⟨ca1, cb1, fa1, fb1⟩ := id b1
    go_wp2_with fail
    clear ca1 cb1 fa1 fb1
    refine (fFloor_any hp hq).mono ?_
    rintro e w2 ⟨rfl, k2⟩
    replace b1 := b1.keeps k2
    replace kw := Keeps.trans kw k2
    have lt3 := b1.lt
    have sz4 := kw.size
    clear k2
    obtain ⟨hb1, hb2, hb3⟩ := HBD.out
    obtain ⟨ca5, cb5, fa5, fb5⟩ := id b1
    go_wp2_with fail
    clear ca5 cb5 fa5 fb5
    go_ret
    exact ⟨ret_int HR.out.symm, kw⟩
set_option maxHeartbeats 1600000 in
theorem roundDiv_any {p q : Int} {w : World} (h : fracB p q = true) :
    Calls Try.prog 188 #[.int .i64 p, .int .i64 q] w fun e w' => e = .returned (.int .i64 (rndQ p q)) ∧ Keeps w w' := by
  have HBD := hid (rnd_bd h)
  have hq := (fracB_true.1 h).1
  have hp := (fracB_true.1 h).2.1
  have hb := HBD.out
  by_cases h1 : q < 2 * (p - p / q * q)
  · have HR := hid (rndQ_up1 h1)
    go_enter Try.func188, Try.ntmps188
    have kw := keeps_refl w
    go_wp2_with fail
    refine (floorDiv_any (by omega) (by omega)).mono ?_
    rintro e w' ⟨rfl, rfl⟩
    obtain ⟨hb1, hb2, hb3⟩ := HBD.out
    go_wp2_with fail
    go_ret
    exact ⟨ret_int HR.out.symm, kw⟩
  by_cases h2 : 2 * (p - p / q * q) = q
  · by_cases h3 : (p / q).tmod 2 = 0
    · have HR := hid (rndQ_dn2 h1 h3)
      have t1 : (2 * (p - p / q * q) == q) = true := by simp [h2]
      have t2 : ((p / q).tmod 2 != 0) = false := by simp [h3]
      go_enter Try.func188, Try.ntmps188
      have kw := keeps_refl w
      go_wp2_with fail
      refine (floorDiv_any (by omega) (by omega)).mono ?_
      rintro e w' ⟨rfl, rfl⟩
      obtain ⟨hb1, hb2, hb3⟩ := HBD.out
      go_wp2_with fail
      go_ret
      exact ⟨ret_int HR.out.symm, kw⟩
    · have HR := hid (rndQ_up2 h2 h3)
      have t1 : (2 * (p - p / q * q) == q) = true := by simp [h2]
      have t2 : ((p / q).tmod 2 != 0) = true := by simp [h3]
      go_enter Try.func188, Try.ntmps188
      have kw := keeps_refl w
      go_wp2_with fail
      refine (floorDiv_any (by omega) (by omega)).mono ?_
      rintro e w' ⟨rfl, rfl⟩
      obtain ⟨hb1, hb2, hb3⟩ := HBD.out
      go_wp2_with fail
      go_ret
      exact ⟨ret_int HR.out.symm, kw⟩
  · have HR := hid (rndQ_dn1 h1 h2)
    have t1 : (2 * (p - p / q * q) == q) = false := by simp [h2]
    go_enter Try.func188, Try.ntmps188
    have kw := keeps_refl w
    go_wp2_with fail
    refine (floorDiv_any (by omega) (by omega)).mono ?_
    rintro e w' ⟨rfl, rfl⟩
    obtain ⟨hb1, hb2, hb3⟩ := HBD.out
    go_wp2_with fail
    go_ret
    exact ⟨ret_int HR.out.symm, kw⟩
set_option maxRecDepth 100000 in
set_option maxHeartbeats 3200000 in
theorem wWhole_any {A A' : Option Addr} {lo hi lo' hi' n c c' : Nat} {ps : List Int} {l : QL} {w : World} (h' : Ints w lo' hi' A' n ps) (h : Fracs w lo hi A n l) (hg : geoB ps = true) (hq : l.all fracQ = true) :
    Calls Try.prog 118 #[.agg #[.slice A' n c'], .slice A n c] w (NRes w (iO (wtT ps l n n), (wtT ps l n n).isSome)) := by
  have hn := h.le
  have hl := Fracs.len h
  have hl' := h'.1
  have hgl := (geoB_true.1 hg).1
  have HG := hid hg
  have HQ := hid hq
  clear hg hq
  have hmk := make_ints n hn
  go_enter Try.func118, Try.ntmps118
  have kw := keeps_refl w
  replace kw := Keeps.trans kw (keeps_alloc w (.cells #[.slice A' n c'] 53))
  have b2 : B1 (w.alloc (.cells #[.slice A' n c'] 53)) w.heap.size (.slice A' n c') := B1.new' (by simp)
  replace b2 := b2.keeps (keeps_alloc (w.alloc (.cells #[.slice A' n c'] 53)) (.cells (madeCells #[.int .i64 0] n) 3))
  replace kw := Keeps.trans kw (keeps_alloc (w.alloc (.cells #[.slice A' n c'] 53)) (.cells (madeCells #[.int .i64 0] n) 3))
  have oM := Own.new (w.alloc (.cells #[.slice A' n c'] 53)) n
  rw [show (w.alloc (.cells #[.slice A' n c'] 53)).heap.size = w.heap.size + 1 by simp] at oM
  have hn1 : (0 : Int) < (n : Int) := by omega
  have hn2 : 0 < n := by omega
  obtain ⟨bl, ol, p0, q0, rfl, _, hbl, hcl, hdl, hx0⟩ := Fracs.at_ (h.keeps kw) (k := 0) hn2
  simp only [Nat.zero_mul, Nat.add_zero] at hcl hdl
  have f0 := hid (frac_at HQ.out (by omega) hx0.out)
  have R0 := hid (show rt0 l n = (List.replicate n 0).set 0 (max (rndQ p0 q0) 0) by unfold rt0; rw [← hx0.out])
  go_wp2_with fail
  clear hcl hdl hmk
  refine (fRound_any f0.out).mono ?_
  rintro e w1 ⟨rfl, k1⟩
  replace b2 := b2.keeps k1
  replace oM := oM.keeps k1
  replace kw := Keeps.trans kw k1
  have lt2 := b2.lt
  have sz3 := kw.size
  clear k1
  go_wp2_with fail
  refine (l1Most_any _ _ _).mono ?_
  rintro e w' ⟨rfl, rfl⟩
  obtain ⟨y0, co0, -⟩ := oM.at_ 0 (by simp; omega)
  have cz0 := oM.frozen 0
  have oS := oM.set_ 0 (max (rndQ p0 q0) 0)
  rw [← R0.out] at oS
  have fo := Own.fr_ (w := w1) (g := (w.heap.size + 1)) 0 (.int .i64 (max (rndQ p0 q0) 0))
  replace b2 := b2.fr fo (by omega)
  replace kw := below_fr kw kw.size (by omega) fo
  clear oM
  have oM := oS
  clear oS fo
  go_wp2_with fail
  clear co0 cz0
  go_loopw [28] (fun si wr => ∃ (k : Nat) (x : List Int), k ≤ n ∧ si = .int .i64 k ∧ Hid (wtT ps l n k = some x) ∧ Hid (x.length = n) ∧ Own wr (w.heap.size + 1) x ∧ B1 wr w.heap.size (.slice A' n c') ∧ Keeps w wr) (fun si _ => n - (intOf si).toNat)
  case atStart => exact ⟨0, rt0 l n, Nat.zero_le _, rfl, rfl, rt0_len l n, oM, b2, kw⟩
  clear kw b2 oM
  case round =>
    obtain ⟨k, x, hk, rfl, HA, HL, oM, b2, kw⟩ := hrel
    have lt4 := b2.lt
    have sz5 := kw.size
    have hot := oM.lt
    have hxl := HL.out
    by_cases hlt : k < n
    · have hi0 : (0 : Int) ≤ (k : Int) := by omega
      have hin1 : (k : Int) < (n : Int) := by omega
      obtain ⟨ks, HK⟩ : ∃ ks, Hid (kids ps k = ks) := ⟨_, rfl⟩
      have HIN := hid (kids_into ps k (n := n) (by omega))
      have hkl := kids_len ps k
      obtain ⟨ca6, fa6⟩ := id b2
      go_wp2_with fail
      clear ca6 fa6
      refine (gChildren_any (h'.keeps kw) (geoB_head HG.out) hi0).mono ?_
      rintro e w7 ⟨A9, c9, rfl, m9, k7⟩
      replace b2 := b2.keeps k7
      replace oM := oM.keeps k7
      replace kw := Keeps.trans kw k7
      have lt8 := b2.lt
      have sz9 := kw.size
      clear k7
      rw [HK.out]
      rw [HK.out] at m9 HIN hkl
      obtain ⟨m', hm'⟩ : ∃ m', m' = ks.length := ⟨_, rfl⟩
      rw [← hm'] at m9 hkl
      rw [← hm']
      have HM := hid hm'
      clear hm'
      have hmle := m9.1.le
      go_wp2_with fail
      have kS := kw
      have oS := oM
      have bS := b2
      have hz9 := m9.1.top
      have ka := keeps_refl w7
      go_loopw [36, 8] (fun si sv wv => ∃ (q : Nat) (pv : Value), q ≤ m' ∧ si = .int .i64 q ∧ sv = pv ∧ Has wv w7.heap.size 31 2 pv q (frs (partsL l (ks.take q))) ∧ Keeps w wv ∧ Keeps w7 wv) (fun si _ _ => m' - (intOf si).toNat)
      case atStart => exact ⟨0, .slice none 0 0, Nat.zero_le _, rfl, rfl, (World.ownsRow_nil _ _ _ _), kw, ka⟩
      clear kw ka b2 oM
      case round =>
        obtain ⟨q, pv, hq, rfl, rfl, HW, kw, ka⟩ := hrel
        obtain ⟨wp, rfl⟩ : ∃ u : World, u = wr := ⟨_, rfl⟩
        have sz10 := kw.size
        have sz11 := ka.size
        by_cases hlq : q < m'
        · obtain ⟨b9, o9, i', rfl, _, hb9, hv9, hxi⟩ := (m9.1.keeps ka).at_ hlq
          obtain ⟨j, hj, hjn⟩ := HIN.out q (by have := HM.out; omega)
          obtain rfl : i' = j := hxi.out.trans hj.symm
          have hkj := hid hj
          clear hj hxi
          obtain ⟨b', o', p1, q1, hA', _, _, hc, hd, hx⟩ := Fracs.at_ (h.keeps kw) hjn
          obtain ⟨rfl, rfl⟩ : bl = b' ∧ ol = o' := by injection hA' with e; injection e with e1 e2; exact ⟨e1, e2⟩
          clear hA'
          have hi2 : (q : Int) < (m' : Int) := by omega
          have hi3 : (j : Int) < (n : Int) := by omega
          have HT := hid (show partsL l (ks.take (q + 1)) = partsL l (ks.take q) ++ [(p1, q1)] by rw [take_snoc ks q 0 (by have := HM.out; omega), partsL, List.map_append, ← partsL]; simp only [List.map_cons, List.map_nil]; rw [← hkj.out, hx.out]; rfl)
          have hkz := ka.size
          go_wp2_with (at_builtin; refine append_frac (x := p1) (y := q1) HW (by omega) (by omega) _ _ rfl rfl rfl (by first | rfl | (simp <;> rfl)) ?_; intro v' wa hown hba)
          rw [← HT.out] at hown
          replace ka := Below.trans ka hba
          replace kw := Below.trans kw (hba.mono (by omega))
          clear HW hba hc hd hv9
          go_wp2
          go_roundw
          case rel => exact ⟨q + 1, v', by omega, by go_num, rfl, hown, kw, ka⟩
          case measure => simp [intOf]; omega
        · obtain rfl : q = m' := by omega
          rw [List.take_of_length_le (by rw [← HM.out]; exact Nat.le_refl _)] at HW
          obtain ⟨Ap, Cp, rfl⟩ := HW.form
          have pM := SlM.of_own HW (by omega) (by omega)
          clear HW
          replace m9 := m9.keeps ka
          have oM := oS.keeps ka
          have b2 := bS.keeps ka
          have hzk := ka.size
          clear oS bS kS
          have ltp := b2.lt
          obtain ⟨xk, cxk, hxk⟩ := oM.at_ k (by omega)
          by_cases hz0 : q = 0
          · have HN := hid (wtT_next HA.out (wtSt_leaf (l := l) (x := x) (by rw [HK.out, ← HM.out]; exact hz0)))
            subst hz0
            clear cxk
            go_wp2_with fail
            go_roundw
            case rel => exact ⟨k + 1, _, (by omega), (by go_num), HN, HL, oM, b2, kw⟩
            case measure => simp [intOf]; omega
          · have t2 : ((q : Int) == 0) = false := by rw [beq_eq_false_iff_ne]; omega
            have HZ := hid (show ¬ (kids ps k).length = 0 by rw [HK.out, ← HM.out]; exact hz0)
            go_wp2_with fail
            clear cxk
            obtain ⟨ys, yok, HY⟩ : ∃ a b, Hid (nearQ (partsL l ks) xk = (a, b)) := ⟨_, _, rfl⟩
            refine (specNearestWhole_any pM.1).mono ?_
            rintro e w12 ⟨Ay, Ny, Cy, rfl, yM, k12⟩
            replace b2 := b2.keeps k12
            replace m9 := m9.keeps k12
            replace oM := oM.keeps k12
            replace pM := pM.keeps k12
            replace kw := Keeps.trans kw k12
            have lt13 := b2.lt
            have sz14 := kw.size
            clear k12
            rw [HY.out] at yM
            rw [HY.out]
            dsimp only at yM
            dsimp only
            clear pM
            cases yok
            · have HN := hid (wtSt_no (l := l) HZ.out hxk.out (by rw [HK.out]; exact HY.out))
              have HE := hid (wtT_fail HA.out HN.out hlt)
              go_wp2_with fail
              go_ret2
              exact ⟨none, 0, 0, by rw [HE.out]; rfl, by rw [HE.out]; exact Mine.nil_ _ _, kw⟩
            have HN := hid (wtSt_yes (l := l) HZ.out hxk.out (by rw [HK.out]; exact HY.out))
            have hNy : Ny = q := by have e1 := nearQ_len (l := partsL l ks) (z := xk) (by rw [HY.out]); rw [HY.out, partsL_len, ← HM.out] at e1; exact yM.1.1.symm.trans e1
            subst hNy
            skip
            have HM2 := HM
            go_wp2_with fail
            have hty0 := yM.1.top
            go_loopw [64] (fun si wv => ∃ (q : Nat) (xx : List Int), q ≤ Ny ∧ si = .int .i64 q ∧ Hid (putN x ks ys q = xx) ∧ Own wv (w.heap.size + 1) xx ∧ Mine wv wr.heap.size w7.heap.size A9 Ny ks ∧ Mine wv wp.heap.size w12.heap.size Ay Ny ys ∧ B1 wv w.heap.size (.slice A' n c') ∧ Keeps w wv) (fun si _ => Ny - (intOf si).toNat)
            case atStart => exact ⟨0, x, Nat.zero_le _, rfl, rfl, oM, m9, yM, b2, kw⟩
            clear kw b2 m9 oM yM
            case round =>
              obtain ⟨q, xx, hq, rfl, HP, oM, m9, yM, b2, kw⟩ := hrel
              obtain ⟨wq, rfl⟩ : ∃ u : World, u = wr := ⟨_, rfl⟩
              have lt15 := b2.lt
              have sz16 := kw.size
              have hot3 := oM.lt
              have hxx : xx.length = n := by rw [← HP.out, putN_len]; exact HL.out
              by_cases hlq : q < Ny
              · obtain ⟨b9, o9, i', rfl, _, hb9, hv9, hxi⟩ := m9.1.at_ hlq
                obtain ⟨j, hj, hjn⟩ := HIN.out q (by have := HM.out; omega)
                obtain rfl : i' = j := hxi.out.trans hj.symm
                have hkj := hid hj
                clear hj hxi
                obtain ⟨by1, oy, yv, rfl, hby1, hby2, hcy, hyv⟩ := yM.1.at_ (k := q) (by omega)
                obtain ⟨y0, co0, -⟩ := oM.at_ j (by omega)
                have cz0 := oM.frozen j
                have hi2 : (q : Int) < (Ny : Int) := by omega
                have hi3 : (j : Int) < (n : Int) := by omega
                have oS := oM.set_ j yv
                have HP2 := hid (putN_succ (x := x) hkj.out hyv.out)
                rw [HP.out] at HP2
                have fo := Own.fr_ (w := wq) (g := (w.heap.size + 1)) j (.int .i64 yv)
                have ht9 := m9.1.top
                have hty := yM.1.top
                replace b2 := b2.fr fo (by omega)
                replace m9 := m9.fr fo (by omega)
                replace yM := yM.fr fo (by omega)
                replace kw := below_fr kw kw.size (by omega) fo
                clear oM
                have oM := oS
                clear oS fo
                go_wp2_with fail
                go_roundw
                case rel => exact ⟨q + 1, _, (by omega), (by go_num), HP2, oM, m9, yM, b2, kw⟩
                case measure => simp [intOf]; omega
              · obtain rfl : q = Ny := by omega
                have HN2 := hid (wtT_next HA.out HN.out)
                rw [HK.out, ← HM.out, HP.out] at HN2
                go_wp2_with fail
                go_roundw
                case rel => exact ⟨k + 1, _, (by omega), (by go_num), HN2, hxx, oM, b2, kw⟩
                case measure => simp [intOf]; omega
    · obtain rfl : k = n := by omega
      have HE := HA
      go_wp2_with fail
      go_ret2
      exact ⟨_, _, _, by rw [HE.out]; rfl, by rw [HE.out]; exact oM.mine hxl hn (by omega) hot (Nat.le_refl _), kw⟩
end Go.Proofs.Ytnopedjgagoahaa
