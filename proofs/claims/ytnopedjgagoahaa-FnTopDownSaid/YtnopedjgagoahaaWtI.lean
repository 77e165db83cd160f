/- Trees of whole numbers: the program's walk. -/
import Derived.Test.YtnopedjgagoahaaWt
namespace Go.Proofs.Ytnopedjgagoahaa
open Go.RowKit
set_option linter.unusedVariables false
set_option linter.unusedSimpArgs false

theorem far1c {w : World} {a : Addr} {v x : Value} {p i : Nat} (h : w.cell? a = some v) (hne : a.block ≠ p) : (w.setCell ⟨p, i, none⟩ x).cell? a = some v := by
  rw [World.cell?_setCell_other _ _ _ _ (by intro e; exact hne (by rw [← e]))]; exact h

set_option maxRecDepth 100000 in
set_option maxHeartbeats 3200000 in
theorem wholeTree_any {A A' : Option Addr} {lo hi lo' hi' n c c' : Nat} {ps : List Int} {l : QL} {w : World} (h' : Ints w lo' hi' A' n ps) (h : Fracs w lo hi A n l) (hg : geoB ps = true) (hq : l.all fracQ = true) :
    Calls Try.prog 115 #[.agg #[.slice A' n c'], .slice A n c] w (NRes w (iO (wtT ps l n n), (wtT ps l n n).isSome)) := by
  have hn := h.le
  have hl := Fracs.len h
  have hl' := h'.1
  have hgl := (geoB_true.1 hg).1
  have HG := hid hg
  have HQ := hid hq
  clear hg hq
  have hmk := make_ints n hn
  go_enter Try.func115, Try.ntmps115
  have kw := keeps_refl w
  replace kw := Keeps.trans kw (keeps_alloc w (.cells #[.slice A' n c'] 53))
  have b2 : B1 (w.alloc (.cells #[.slice A' n c'] 53)) w.heap.size (.slice A' n c') := B1.new' (by simp)
  replace b2 := b2.keeps (keeps_alloc (w.alloc (.cells #[.slice A' n c'] 53)) (.cells (madeCells #[.int .i64 0] n) 3))
  replace kw := Keeps.trans kw (keeps_alloc (w.alloc (.cells #[.slice A' n c'] 53)) (.cells (madeCells #[.int .i64 0] n) 3))
  have oM := Own.new (w.alloc (.cells #[.slice A' n c'] 53)) n
  rw [show (w.alloc (.cells #[.slice A' n c'] 53)).heap.size = w.heap.size + 1 by simp] at oM
  have hn1 : (0 : Int) < (n : Int) := by omega
  have hn2 : 0 < n := by omega
  obtain ⟨bl, ol, p0, q0, rfl, _, hbl, hcl, hdl, hx0⟩ := Fracs.at_ (h.keeps kw) (k := 0) hn2
  simp only [Nat.zero_mul, Nat.add_zero] at hcl hdl
  have f0 := hid (frac_at HQ.out (by omega) hx0.out)
  have R0 := hid (show rt0 l n = (List.replicate n 0).set 0 (max (rndQ p0 q0) 0) by unfold rt0; rw [← hx0.out])
  clear hcl hdl
  go_wp2_with fail
  clear hmk
  obtain ⟨w0, hX⟩ : ∃ u : World, u = ((w.alloc (.cells #[.slice A' n c'] 53)).alloc (.cells (madeCells #[.int .i64 0] n) 3)) := ⟨_, rfl⟩
  have szX0 := hid (show w0.heap.size = w.heap.size + 1 + 1 by rw [hX]; simp)
  rw [← hX] at b2
  rw [← hX] at oM
  rw [← hX] at kw
  rw [← hX]
  clear hX
  have sz2 := kw.size
  obtain ⟨b', o', p1, q1, hA', _, _, hcl, hdl, hx1⟩ := Fracs.at_ (h.keeps kw) (k := 0) hn2
  obtain ⟨rfl, rfl⟩ : bl = b' ∧ ol = o' := by injection hA' with e; injection e with e1 e2; exact ⟨e1, e2⟩
  obtain ⟨rfl, rfl⟩ : p0 = p1 ∧ q0 = q1 := by have e := hx0.out.trans hx1.out.symm; injection e with e1 e2; exact ⟨e1, e2⟩
  simp only [Nat.zero_mul, Nat.add_zero] at hcl hdl
  clear hA' hx1
  obtain ⟨v0, Hv⟩ : ∃ v0, Hid (max (rndQ p0 q0) 0 = v0) := ⟨_, rfl⟩
  have hmx : (if 0 < rndQ p0 q0 then rndQ p0 q0 else 0) = v0 := by rw [← Hv.out, Int.max_def]; split <;> split <;> omega
  have htl := h.top
  have HRB := hid (rndQ_bd f0.out)
  have kS := hid (show ∀ w', Keeps w0 w' → (w'.cell? ⟨bl, ol, none⟩ = some (.int .i64 p0) ∧ w'.cell? ⟨bl, ol + 1, none⟩ = some (.int .i64 q0)) from fun w' k => ⟨cell_keeps hcl k, cell_keeps hdl k⟩)
  have kT := hid (show ∀ w', Keeps w0 w' → ∀ uA, let w'' := w'.setCell ⟨w.heap.size + 1, 0, none⟩ uA; (w''.cell? ⟨bl, ol, none⟩ = some (.int .i64 p0) ∧ w''.cell? ⟨bl, ol + 1, none⟩ = some (.int .i64 q0)) from fun w' k uA => ⟨far1c (cell_keeps hcl k) (show bl ≠ w.heap.size + 1 by omega), far1c (cell_keeps hdl k) (show bl ≠ w.heap.size + 1 by omega)⟩)
  go_region_held3 (fun w' => w'.cell? ⟨bl, ol, none⟩ = some (.int .i64 p0) ∧ w'.cell? ⟨bl, ol + 1, none⟩ = some (.int .i64 q0)) (first | with_reducible exact kS.out _ (keeps_d0 w0) | with_reducible exact kS.out _ kW | with_reducible exact kT.out _ kW _ | go_keep)
    ((go_at_call 188; refine (roundDiv_any f0.out).mono ?_; rintro e wB ⟨rfl, kB⟩; (first | (have kW : Keeps w0 wB := keeps_d kB) | (have kW : Keeps w0 wB := kB)); clear kB; obtain ⟨y0, co0, -⟩ := (oM.keeps kW).at_ 0 (by simp; omega); have cz0 := (oM.keeps kW).frozen 0; have hrb := HRB.out))
  clear kS kT co0 cz0 hcl hdl hmx
  replace b2 := b2.keeps kW
  replace oM := oM.keeps kW
  replace kw := Keeps.trans kw kW
  have lt3 := b2.lt
  have sz4 := kw.size
  clear kW
  have szz := szX0.out
  have lto := oM.lt
  rw [← Hv.out]
  have oS := oM.set_ 0 (max (rndQ p0 q0) 0)
  rw [← R0.out] at oS
  have fo := Own.fr_ (w := wB) (g := (w.heap.size + 1)) 0 (.int .i64 (max (rndQ p0 q0) 0))
  replace b2 := b2.fr fo (by omega)
  replace kw := below_fr kw kw.size (by omega) fo
  clear oM
  have oM := oS
  clear oS fo
  go_wp2_with fail
  go_loopw [33] (fun si wr => ∃ (k : Nat) (x : List Int), k ≤ n ∧ si = .int .i64 k ∧ Hid (wtT ps l n k = some x) ∧ Hid (x.length = n) ∧ Own wr (w.heap.size + 1) x ∧ B1 wr w.heap.size (.slice A' n c') ∧ Keeps w wr) (fun si _ => n - (intOf si).toNat)
  case atStart => exact ⟨0, rt0 l n, Nat.zero_le _, rfl, rfl, rt0_len l n, oM, b2, kw⟩
  clear kw b2 oM
  case round =>
    obtain ⟨k, x, hk, rfl, HA, HL, oM, b2, kw⟩ := hrel
    have lt5 := b2.lt
    have sz6 := kw.size
    have hot := oM.lt
    have hxl := HL.out
    by_cases hlt : k < n
    · have hi0 : (0 : Int) ≤ (k : Int) := by omega
      have hin1 : (k : Int) < (n : Int) := by omega
      obtain ⟨ks, HK⟩ : ∃ ks, Hid (kids ps k = ks) := ⟨_, rfl⟩
      have HIN := hid (kids_into ps k (n := n) (by omega))
      have hkl := kids_len ps k
      obtain ⟨ca7, fa7⟩ := id b2
      go_wp2_with fail
      clear ca7 fa7
      refine (childrenOf_any (h'.keeps kw) (geoB_head HG.out) hi0).mono ?_
      rintro e w8 ⟨A9, c9, rfl, m9, k8⟩
      replace b2 := b2.keeps k8
      replace oM := oM.keeps k8
      replace kw := Keeps.trans kw k8
      have lt9 := b2.lt
      have sz10 := kw.size
      clear k8
      rw [HK.out]
      rw [HK.out] at m9 HIN hkl
      obtain ⟨m', hm'⟩ : ∃ m', m' = ks.length := ⟨_, rfl⟩
      rw [← hm'] at m9 hkl
      rw [← hm']
      have HM := hid hm'
      clear hm'
      have hmle := m9.1.le
      by_cases hz0 : m' = 0
      · have HN := hid (wtT_next HA.out (wtSt_leaf (l := l) (x := x) (by rw [HK.out, ← HM.out]; exact hz0)))
        subst hz0
        go_wp2_with fail
        go_roundw
        case rel => exact ⟨k + 1, _, (by omega), (by go_num), HN, HL, oM, b2, kw⟩
        case measure => simp [intOf]; omega
      · have t2 : ((m' : Int) == 0) = false := by rw [beq_eq_false_iff_ne]; omega
        have HZ := hid (show ¬ (kids ps k).length = 0 by rw [HK.out, ← HM.out]; exact hz0)
        have hmk2 := make_fracs m' hmle
        have hot9 := m9.1.top
        have hlo9 := oM.lt
        replace b2 := b2.keeps (keeps_alloc w8 (.cells (madeCells #[.int .i64 0, .int .i64 0] (m' * 2)) 31))
        replace oM := oM.keeps (keeps_alloc w8 (.cells (madeCells #[.int .i64 0, .int .i64 0] (m' * 2)) 31))
        replace m9 := m9.keeps (keeps_alloc w8 (.cells (madeCells #[.int .i64 0, .int .i64 0] (m' * 2)) 31))
        replace kw := Keeps.trans kw (keeps_alloc w8 (.cells (madeCells #[.int .i64 0, .int .i64 0] (m' * 2)) 31))
        have pM := OwnC.newF w8 m'
        go_wp2_with fail
        clear hmk2
        have HPL := hid (show (partsL l ks).length = m' by rw [partsL_len]; exact HM.out.symm)
        go_loopw [47] (fun si wv => ∃ (q : Nat), q ≤ m' ∧ si = .int .i64 q ∧ Own wv (w.heap.size + 1) x ∧ Mine wv wr.heap.size w8.heap.size A9 m' ks ∧ OwnC wv w8.heap.size 31 (frs (padD (0, 0) (partsL l ks) q)) ∧ B1 wv w.heap.size (.slice A' n c') ∧ Keeps w wv) (fun si _ => m' - (intOf si).toNat)
        case atStart => exact ⟨0, Nat.zero_le _, rfl, oM, m9, (by rw [padD_zero, HPL.out]; exact pM), b2, kw⟩
        clear kw b2 oM m9 pM
        case round =>
          obtain ⟨q, hq, rfl, oM, m9, pM, b2, kw⟩ := hrel
          obtain ⟨wp, rfl⟩ : ∃ u : World, u = wr := ⟨_, rfl⟩
          have lt11 := b2.lt
          have sz12 := kw.size
          have hpl := pM.lt
          by_cases hlq : q < m'
          · obtain ⟨b9, o9, i', rfl, _, hb9, hv9, hxi⟩ := m9.1.at_ hlq
            obtain ⟨j, hj, hjn⟩ := HIN.out q (by have := HM.out; omega)
            obtain rfl : i' = j := hxi.out.trans hj.symm
            have hkj := hid hj
            clear hj hxi
            obtain ⟨b', o', p1, q1, hA', _, _, hc, hd, hx⟩ := Fracs.at_ (h.keeps kw) hjn
            obtain ⟨rfl, rfl⟩ : bl = b' ∧ ol = o' := by injection hA' with e; injection e with e1 e2; exact ⟨e1, e2⟩
            clear hA'
            have hi2 : (q : Int) < (m' : Int) := by omega
            have hi3 : (j : Int) < (n : Int) := by omega
            obtain ⟨a1, a2, ca, cb, cc, cd, -⟩ := pM.pair (k := q) (by rw [padD_len _ _ _ (by have := HPL.out; omega), HPL.out]; exact hlq)
            have pS := pM.setF (k := q) p1 q1
            have e1 := padD_succ (0, 0) (partsL l ks) q (by have := HPL.out; omega)
            rw [partsL_at (by have := HM.out; omega) hkj.out, ← hx.out] at e1
            rw [e1] at pS
            clear e1
            have HPS := hid pS
            clear pS pM
            have fo : Fr w8.heap.size (w8.heap.size + 1) wp ((wp.setCell ⟨w8.heap.size, q * 2, none⟩ (.int .i64 p1)).setCell ⟨w8.heap.size, q * 2 + 1, none⟩ (.int .i64 q1)) := ((Fr.refl _ _ _).setCell (p := ⟨w8.heap.size, q * 2, none⟩) (Nat.le_refl _) (Nat.lt_succ_self _) _).setCell (p := ⟨w8.heap.size, q * 2 + 1, none⟩) (Nat.le_refl _) (Nat.lt_succ_self _) _
            have ht9 := m9.1.top
            replace b2 := b2.fr fo (by omega)
            replace oM := oM.fr fo (by omega)
            replace m9 := m9.fr fo (by omega)
            replace kw := below_fr kw kw.size (by omega) fo
            clear fo
            go_wp2_with fail
            go_roundw
            case rel => exact ⟨q + 1, (by omega), (by go_num), oM, m9, HPS.out, b2, kw⟩
            case measure => simp [intOf]; omega
          · obtain rfl : q = m' := by omega
            rw [show padD (0, 0) (partsL l ks) q = partsL l ks by have e := padD_all (0, 0) (partsL l ks); rw [HPL.out] at e; exact e] at pM
            obtain ⟨xk, cxk, hxk⟩ := oM.at_ k (by omega)
            go_wp2_with fail
            clear cxk
            obtain ⟨ys, yok, HY⟩ : ∃ a b, Hid (nearQ (partsL l ks) xk = (a, b)) := ⟨_, _, rfl⟩
            refine (implNearestWhole_any (pM.fracs HPL.out (by omega)).1).mono ?_
            rintro e w13 ⟨Ay, Ny, Cy, rfl, yM, k13⟩
            replace b2 := b2.keeps k13
            replace oM := oM.keeps k13
            replace m9 := m9.keeps k13
            replace pM := pM.keeps k13
            replace kw := Keeps.trans kw k13
            have lt14 := b2.lt
            have sz15 := kw.size
            clear k13
            rw [HY.out] at yM
            rw [HY.out]
            dsimp only at yM
            dsimp only
            clear pM
            cases yok
            · have HN := hid (wtSt_no (l := l) HZ.out hxk.out (by rw [HK.out]; exact HY.out))
              have HE := hid (wtT_fail HA.out HN.out hlt)
              go_wp2_with fail
              go_ret2
              exact ⟨none, 0, 0, by rw [HE.out]; rfl, by rw [HE.out]; exact Mine.nil_ _ _, kw⟩
            have HN := hid (wtSt_yes (l := l) HZ.out hxk.out (by rw [HK.out]; exact HY.out))
            have hNy : Ny = q := by have e1 := nearQ_len (l := partsL l ks) (z := xk) (by rw [HY.out]); rw [HY.out, partsL_len, ← HM.out] at e1; exact yM.1.1.symm.trans e1
            subst hNy
            go_wp2_with fail
            have hty0 := yM.1.top
            go_loopw [73] (fun si wv => ∃ (q : Nat) (xx : List Int), q ≤ Ny ∧ si = .int .i64 q ∧ Hid (putN x ks ys q = xx) ∧ Own wv (w.heap.size + 1) xx ∧ Mine wv wr.heap.size w8.heap.size A9 Ny ks ∧ Mine wv wp.heap.size w13.heap.size Ay Ny ys ∧ B1 wv w.heap.size (.slice A' n c') ∧ Keeps w wv) (fun si _ => Ny - (intOf si).toNat)
            case atStart => exact ⟨0, x, Nat.zero_le _, rfl, rfl, oM, m9, yM, b2, kw⟩
            clear kw b2 oM m9 yM
            case round =>
              obtain ⟨q, xx, hq, rfl, HP, oM, m9, yM, b2, kw⟩ := hrel
              obtain ⟨wq, rfl⟩ : ∃ u : World, u = wr := ⟨_, rfl⟩
              have lt16 := b2.lt
              have sz17 := kw.size
              have hot3 := oM.lt
              have hxx : xx.length = n := by rw [← HP.out, putN_len]; exact HL.out
              by_cases hlq : q < Ny
              · obtain ⟨b9, o9, i', rfl, _, hb9, hv9, hxi⟩ := m9.1.at_ hlq
                obtain ⟨j, hj, hjn⟩ := HIN.out q (by have := HM.out; omega)
                obtain rfl : i' = j := hxi.out.trans hj.symm
                have hkj := hid hj
                clear hj hxi
                obtain ⟨by1, oy, yv, rfl, hby1, hby2, hcy, hyv⟩ := yM.1.at_ (k := q) (by omega)
                obtain ⟨y0, co0, -⟩ := oM.at_ j (by omega)
                have cz0 := oM.frozen j
                have hi2 : (q : Int) < (Ny : Int) := by omega
                have hi3 : (j : Int) < (n : Int) := by omega
                have oS := oM.set_ j yv
                have HP2 := hid (putN_succ (x := x) hkj.out hyv.out)
                rw [HP.out] at HP2
                have fo := Own.fr_ (w := wq) (g := (w.heap.size + 1)) j (.int .i64 yv)
                have ht9 := m9.1.top
                have hty := yM.1.top
                replace b2 := b2.fr fo (by omega)
                replace m9 := m9.fr fo (by omega)
                replace yM := yM.fr fo (by omega)
                replace kw := below_fr kw kw.size (by omega) fo
                clear oM
                have oM := oS
                clear oS fo
                go_wp2_with fail
                go_roundw
                case rel => exact ⟨q + 1, _, (by omega), (by go_num), HP2, oM, m9, yM, b2, kw⟩
                case measure => simp [intOf]; omega
              · obtain rfl : q = Ny := by omega
                have HN2 := hid (wtT_next HA.out HN.out)
                rw [HK.out, ← HM.out, HP.out] at HN2
                go_wp2_with fail
                go_roundw
                case rel => exact ⟨k + 1, _, (by omega), (by go_num), HN2, hxx, oM, b2, kw⟩
                case measure => simp [intOf]; omega
    · obtain rfl : k = n := by omega
      have HE := HA
      go_wp2_with fail
      go_ret2
      exact ⟨_, _, _, by rw [HE.out]; rfl, by rw [HE.out]; exact oM.mine hxl hn (by omega) hot (Nat.le_refl _), kw⟩
end Go.Proofs.Ytnopedjgagoahaa
