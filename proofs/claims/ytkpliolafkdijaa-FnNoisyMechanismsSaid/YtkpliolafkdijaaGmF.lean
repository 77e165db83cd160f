/- GeometricMechanism of the reference and of the program; the law. -/
import Derived.Test.YtkpliolafkdijaaGm
namespace Go.Proofs.Ytkpliolafkdijaa
open Go.RowKit
set_option linter.unusedVariables false
set_option linter.unusedSimpArgs false

set_option maxRecDepth 100000 in
set_option maxHeartbeats 6400000 in
theorem implGeometricMechanism_any {n p q : Int} {w : World} (wn : (Lit.int .i64 n).wf = true) (wp : I64 p ∧ I64 q) :
    Calls Try.prog 26 #[.int .i64 n, .agg #[.int .i64 p, .int .i64 q]] w (MRes w (gmQ n p q)) := by
  go_enter Try.func26, Try.ntmps26
  have kw := keeps_refl w
  replace kw := Keeps.trans kw (keeps_alloc w (.cells #[.int .i64 n] 3))
  have b2 : B1 (w.alloc (.cells #[.int .i64 n] 3)) w.heap.size (.int .i64 n) := B1.new' (by simp)
  replace b2 := b2.keeps (keeps_alloc (w.alloc (.cells #[.int .i64 n] 3)) (.cells #[.int .i64 p, .int .i64 q] 41))
  replace kw := Keeps.trans kw (keeps_alloc (w.alloc (.cells #[.int .i64 n] 3)) (.cells #[.int .i64 p, .int .i64 q] 41))
  have b3 : Bx ((w.alloc (.cells #[.int .i64 n] 3)).alloc (.cells #[.int .i64 p, .int .i64 q] 41)) (w.heap.size + 1) p q := Bx.new' (by simp)
  replace b2 := b2.keeps (keeps_alloc ((w.alloc (.cells #[.int .i64 n] 3)).alloc (.cells #[.int .i64 p, .int .i64 q] 41)) (.cells #[.slice none 0 0] 38))
  replace b3 := b3.keeps (keeps_alloc ((w.alloc (.cells #[.int .i64 n] 3)).alloc (.cells #[.int .i64 p, .int .i64 q] 41)) (.cells #[.slice none 0 0] 38))
  replace kw := Keeps.trans kw (keeps_alloc ((w.alloc (.cells #[.int .i64 n] 3)).alloc (.cells #[.int .i64 p, .int .i64 q] 41)) (.cells #[.slice none 0 0] 38))
  have b4 : B1 (((w.alloc (.cells #[.int .i64 n] 3)).alloc (.cells #[.int .i64 p, .int .i64 q] 41)).alloc (.cells #[.slice none 0 0] 38)) (w.heap.size + 1 + 1) (.slice none 0 0) := B1.new' (by simp)
  by_cases hn2 : 2 ≤ n
  rotate_left
  · have i1 : n < 2 := by omega
    have HF := hid (gmQ_no (n := n) (p := p) (q := q) (by intro hh; have := inB_true.1 hh.1; omega))
    obtain ⟨ca1, fa1⟩ := id b2
    obtain ⟨ca2, cb2, fa2, fb2⟩ := id b3
    obtain ⟨ca3, fa3⟩ := id b4
    go_wp2_with fail
    clear ca1 fa1 ca2 cb2 fa2 fb2 ca3 fa3
    obtain ⟨ca0, fa0⟩ := id b4
    refine bodyPost_ret (v := .tuple #[.agg #[.slice none 0 0], .bool false]) (by simp [results, Try.results26, go_sem, ca0]) rfl ⟨none, 0, 0, by rw [HF.out], ?_, ?_⟩
    · rw [HF.out]; exact RM.nil_ _ _
    · first | exact Below.setCell kw (p := ⟨w.heap.size + 1 + 1, 0, none⟩) (Nat.le_refl _) _ | exact kw | exact Below.setCell kw (p := ⟨w.heap.size + 1 + 1, 0, none⟩) (by show _ ≤ (w.heap.size + 1 + 1); omega) _
  by_cases hn8 : n ≤ 8
  rotate_left
  · have i1 : ¬ n < 2 := by omega
    have i2 : 8 < n := by omega
    have HF := hid (gmQ_no (n := n) (p := p) (q := q) (by intro hh; have := inB_true.1 hh.1; omega))
    obtain ⟨ca1, fa1⟩ := id b2
    obtain ⟨ca2, cb2, fa2, fb2⟩ := id b3
    obtain ⟨ca3, fa3⟩ := id b4
    go_wp2_with fail
    clear ca1 fa1 ca2 cb2 fa2 fb2 ca3 fa3
    obtain ⟨ca0, fa0⟩ := id b4
    refine bodyPost_ret (v := .tuple #[.agg #[.slice none 0 0], .bool false]) (by simp [results, Try.results26, go_sem, ca0]) rfl ⟨none, 0, 0, by rw [HF.out], ?_, ?_⟩
    · rw [HF.out]; exact RM.nil_ _ _
    · first | exact Below.setCell kw (p := ⟨w.heap.size + 1 + 1, 0, none⟩) (Nat.le_refl _) _ | exact kw | exact Below.setCell kw (p := ⟨w.heap.size + 1 + 1, 0, none⟩) (by show _ ≤ (w.heap.size + 1 + 1); omega) _
  have i1 : ¬ n < 2 := by omega
  have i2 : ¬ 8 < n := by omega
  have H0 := hid (inB_true.2 ⟨hn2, hn8⟩)
  obtain ⟨ca1, fa1⟩ := id b2
  obtain ⟨ca2, cb2, fa2, fb2⟩ := id b3
  go_wp2_with fail
  clear ca1 fa1 ca2 cb2 fa2 fb2
  obtain ⟨pH1, H1⟩ : ∃ pB, Hid (ratB p q = pB) := ⟨_, rfl⟩
  refine (isRatio_any).mono ?_
  rintro e w3 ⟨rfl, k3⟩
  rw [H1.out]
  replace b2 := b2.keeps k3
  replace b3 := b3.keeps k3
  replace b4 := b4.keeps k3
  replace kw := Keeps.trans kw k3
  have lt4 := b4.lt
  have sz5 := kw.size
  clear k3
  cases pH1
  · have HF := hid (gmQ_no (n := n) (p := p) (q := q) (by rw [H1.out]; simp))
    obtain ⟨ca6, fa6⟩ := id b2
    obtain ⟨ca7, cb7, fa7, fb7⟩ := id b3
    obtain ⟨ca8, fa8⟩ := id b4
    go_wp2_with fail
    clear ca6 fa6 ca7 cb7 fa7 fb7 ca8 fa8
    obtain ⟨ca0, fa0⟩ := id b4
    refine bodyPost_ret (v := .tuple #[.agg #[.slice none 0 0], .bool false]) (by simp [results, Try.results26, go_sem, ca0]) rfl ⟨none, 0, 0, by rw [HF.out], ?_, ?_⟩
    · rw [HF.out]; exact RM.nil_ _ _
    · first | exact Below.setCell kw (p := ⟨w.heap.size + 1 + 1, 0, none⟩) (Nat.le_refl _) _ | exact kw | exact Below.setCell kw (p := ⟨w.heap.size + 1 + 1, 0, none⟩) (by show _ ≤ (w.heap.size + 1 + 1); omega) _
  · skip
    obtain ⟨n, rfl⟩ : ∃ k : Nat, n = k := ⟨n.toNat, by omega⟩
    have HF := hid (gmQ_yes H0.out H1.out)
    obtain ⟨ca6, fa6⟩ := id b2
    go_wp2_with fail
    clear ca6 fa6
    refine (newMechanism_any (n := n) (m := n) (K := 106) (caps := #[.pointer (some ⟨w.heap.size, 0, none⟩), .pointer (some ⟨w.heap.size + 1, 0, none⟩)]) (f := gI p q n) (by omega) (by omega) (fun args w => enter_of Try.func106 (by kernel_rfl) rfl args w) (fun i j w' hi hj k => gmClosure (b2.keeps k) (b3.keeps k) H1.out (by omega) hi hj)).mono ?_
    rintro e wN ⟨AN, NN, CN, rfl, rm, kN⟩
    rw [← HF.out]
    rw [← HF.out] at rm
    replace b2 := b2.keeps kN
    replace b3 := b3.keeps kN
    replace b4 := b4.keeps kN
    replace kw := Keeps.trans kw kN
    have lt8 := b4.lt
    have sz9 := kw.size
    clear kN
    obtain ⟨R, hR⟩ : ∃ R, gmQ (n : Int) p q = R := ⟨_, rfl⟩
    rw [hR] at rm
    rw [hR]
    clear HF
    have HF := hid hR
    clear hR
    obtain ⟨ca10, fa10⟩ := id b4
    go_wp2_with fail
    clear ca10 fa10
    obtain ⟨ca0, fa0⟩ := id b4
    have frS : Fr (w.heap.size + 1 + 1) (w.heap.size + 1 + 1 + 1) wN (wN.setCell ⟨w.heap.size + 1 + 1, 0, none⟩ (.slice AN NN CN)) := (Fr.refl _ _ _).setCell (p := ⟨w.heap.size + 1 + 1, 0, none⟩) (Nat.le_refl _) (Nat.lt_succ_self _) _
    have hs := (rm).1.top
    refine bodyPost_ret (v := .tuple #[.agg #[.slice AN NN CN], .bool R.2]) (by simp [results, Try.results26, go_sem, ca0]) rfl ⟨_, _, _, by rw [HF.out], ?_, Below.setCell kw (p := ⟨w.heap.size + 1 + 1, 0, none⟩) (by show _ ≤ (w.heap.size + 1 + 1); omega) _⟩
    rw [HF.out]
    exact (RM.fr rm frS (by omega)).widen (by first | omega | (simp; omega)) (by simp [World.setCell] <;> omega) (Nat.le_refl _)
set_option maxRecDepth 100000 in
set_option maxHeartbeats 6400000 in
theorem specGeometricMechanism_any {n p q : Int} {w : World} (wn : (Lit.int .i64 n).wf = true) (wp : I64 p ∧ I64 q) :
    Calls Try.prog 24 #[.int .i64 n, .agg #[.int .i64 p, .int .i64 q]] w (MRes w (gmQ n p q)) := by
  go_enter Try.func24, Try.ntmps24
  have kw := keeps_refl w
  replace kw := Keeps.trans kw (keeps_alloc w (.cells #[.int .i64 p, .int .i64 q] 41))
  have b3 : Bx (w.alloc (.cells #[.int .i64 p, .int .i64 q] 41)) w.heap.size p q := Bx.new' (by simp)
  replace b3 := b3.keeps (keeps_alloc (w.alloc (.cells #[.int .i64 p, .int .i64 q] 41)) (.cells #[.slice none 0 0] 38))
  replace kw := Keeps.trans kw (keeps_alloc (w.alloc (.cells #[.int .i64 p, .int .i64 q] 41)) (.cells #[.slice none 0 0] 38))
  have b4 : B1 ((w.alloc (.cells #[.int .i64 p, .int .i64 q] 41)).alloc (.cells #[.slice none 0 0] 38)) (w.heap.size + 1) (.slice none 0 0) := B1.new' (by simp)
  go_wp2_with fail
  obtain ⟨pH0, H0⟩ : ∃ pB, Hid (inB n 2 8 = pB) := ⟨_, rfl⟩
  refine (l1In_any _ _ _ _).mono ?_
  rintro e w' ⟨rfl, rfl⟩
  rw [H0.out]
  cases pH0
  · have HF := hid (gmQ_no (n := n) (p := p) (q := q) (by rw [H0.out]; simp))
    obtain ⟨ca1, cb1, fa1, fb1⟩ := id b3
    obtain ⟨ca2, fa2⟩ := id b4
    go_wp2_with fail
    clear ca1 cb1 fa1 fb1 ca2 fa2
    obtain ⟨ca0, fa0⟩ := id b4
    refine bodyPost_ret (v := .tuple #[.agg #[.slice none 0 0], .bool false]) (by simp [results, Try.results24, go_sem, ca0]) rfl ⟨none, 0, 0, by rw [HF.out], ?_, ?_⟩
    · rw [HF.out]; exact RM.nil_ _ _
    · first | exact Below.setCell kw (p := ⟨w.heap.size + 1, 0, none⟩) (Nat.le_refl _) _ | exact kw | exact Below.setCell kw (p := ⟨w.heap.size + 1, 0, none⟩) (by show _ ≤ (w.heap.size + 1); omega) _
  · skip
    obtain ⟨ca1, cb1, fa1, fb1⟩ := id b3
    go_wp2_with fail
    clear ca1 cb1 fa1 fb1
    obtain ⟨pH2, H2⟩ : ∃ pB, Hid (fracB p q = pB) := ⟨_, rfl⟩
    refine (fGood_any).mono ?_
    rintro e w2 ⟨rfl, k2⟩
    rw [H2.out]
    replace b3 := b3.keeps k2
    replace b4 := b4.keeps k2
    replace kw := Keeps.trans kw k2
    have lt3 := b4.lt
    have sz4 := kw.size
    clear k2
    cases pH2
    · have HF := hid (gmQ_no (n := n) (p := p) (q := q) (by intro hh; have := (ratB_true.1 hh.2).1; rw [H2.out] at this; cases this))
      obtain ⟨ca5, cb5, fa5, fb5⟩ := id b3
      obtain ⟨ca6, fa6⟩ := id b4
      go_wp2_with fail
      clear ca5 cb5 fa5 fb5 ca6 fa6
      obtain ⟨ca0, fa0⟩ := id b4
      refine bodyPost_ret (v := .tuple #[.agg #[.slice none 0 0], .bool false]) (by simp [results, Try.results24, go_sem, ca0]) rfl ⟨none, 0, 0, by rw [HF.out], ?_, ?_⟩
      · rw [HF.out]; exact RM.nil_ _ _
      · first | exact Below.setCell kw (p := ⟨w.heap.size + 1, 0, none⟩) (Nat.le_refl _) _ | exact kw | exact Below.setCell kw (p := ⟨w.heap.size + 1, 0, none⟩) (by show _ ≤ (w.heap.size + 1); omega) _
    · skip
      have hqb := (fracB_true.1 H2.out).1
      obtain ⟨ca5, cb5, fa5, fb5⟩ := id b3
      go_wp2_with fail
      clear ca5 cb5 fa5 fb5
      obtain ⟨pH3, H3⟩ : ∃ pB, Hid (inB p 1 (q - 1) = pB) := ⟨_, rfl⟩
      refine (l1In_any _ _ _ _).mono ?_
      rintro e w' ⟨rfl, rfl⟩
      rw [H3.out]
      cases pH3
      · have HF := hid (gmQ_no (n := n) (p := p) (q := q) (by intro hh; have h3 := inB_true.2 (show 1 ≤ p ∧ p ≤ q - 1 by have := (ratB_true.1 hh.2).2; omega); rw [H3.out] at h3; cases h3))
        obtain ⟨ca6, cb6, fa6, fb6⟩ := id b3
        obtain ⟨ca7, fa7⟩ := id b4
        go_wp2_with fail
        clear ca6 cb6 fa6 fb6 ca7 fa7
        obtain ⟨ca0, fa0⟩ := id b4
        refine bodyPost_ret (v := .tuple #[.agg #[.slice none 0 0], .bool false]) (by simp [results, Try.results24, go_sem, ca0]) rfl ⟨none, 0, 0, by rw [HF.out], ?_, ?_⟩
        · rw [HF.out]; exact RM.nil_ _ _
        · first | exact Below.setCell kw (p := ⟨w.heap.size + 1, 0, none⟩) (Nat.le_refl _) _ | exact kw | exact Below.setCell kw (p := ⟨w.heap.size + 1, 0, none⟩) (by show _ ≤ (w.heap.size + 1); omega) _
      · skip
        have H1 := hid (ratB_true.2 ⟨H2.out, by have := inB_true.1 H3.out; omega⟩)
        have hn := inB_true.1 H0.out
        obtain ⟨n, rfl⟩ : ∃ k : Nat, n = k := ⟨n.toNat, by omega⟩
        obtain ⟨ll, HL⟩ : ∃ ll, Hid (tab (gS p q n) n n = ll) := ⟨_, rfl⟩
        have HY := hid (gmQ_yesS H0.out H1.out)
        go_wp2_with fail
        have hB : w.heap.size + 1 + 1 ≤ w2.heap.size := by have := b4.lt; omega
        go_loopw [7, 6] (fun si v wr => ∃ k : Nat, k ≤ n ∧ si = .int .i64 k ∧ Hid (OkTo (gS p q n) n k 0) ∧ Built wr (w.heap.size + 1 + 1) v k ll wr.heap.size ∧ Bx wr w.heap.size p q ∧ B1 wr (w.heap.size + 1) (.slice none 0 0) ∧ Keeps w wr) (fun si _ _ => n - (intOf si).toNat)
        case atStart => exact ⟨0, Nat.zero_le _, rfl, okTo_start _ _, Built.nil_ _ _ _, b3, b4, kw⟩
        clear kw b3 b4 hB
        case round =>
          obtain ⟨k, hk, rfl, HO, bu, b3, b4, kw⟩ := hrel
          obtain ⟨wo, rfl⟩ : ∃ u : World, u = wr := ⟨_, rfl⟩
          have lt6 := b4.lt
          have sz := kw.size
          by_cases hlt : k < n
          · have hi1 : (k : Int) < (n : Int) := by omega
            obtain ⟨row, HR⟩ : ∃ row, Hid (ll.getD k [] = row) := ⟨_, rfl⟩
            have hrow : row = (List.range n).map fun j => ((gS p q n k j).1, (gS p q n k j).2.1) := by rw [← HR.out, ← HL.out]; exact tab_row _ hlt
            have HRL := hid (show row.length = n by rw [hrow]; simp)
            have HRA := hid (show ∀ j, j < n → row.getD j (0, 0) = ((gS p q n k j).1, (gS p q n k j).2.1) from fun j hj => by rw [hrow, getD_map_range, if_pos hj])
            clear hrow
            go_wp2_with fail
            go_loopw [9, 8] (fun si v wr => ∃ j : Nat, j ≤ n ∧ si = .int .i64 j ∧ Hid (OkTo (gS p q n) n k j) ∧ Has wr wo.heap.size 41 2 v j (frs (row.take j)) ∧ Keeps wo wr) (fun si _ _ => n - (intOf si).toNat)
            case atStart => exact ⟨0, Nat.zero_le _, rfl, HO, World.ownsRow_nil _ _ _ _, keeps_refl _⟩
            case round =>
              obtain ⟨j, hj, rfl, HO2, hown, ko⟩ := hrel
              have lo := ko.size
              by_cases hlj : j < n
              · have hj1 : (j : Int) < (n : Int) := by omega
                have HT := hid (take_snoc row j (0, 0) (by have := HRL.out; omega))
                rw [HRA.out j hlj] at HT
                obtain ⟨r1, r2, r3, HS⟩ : ∃ r1 r2 r3, Hid (gS p q n k j = (r1, r2, r3)) := ⟨_, _, _, rfl⟩
                rw [HS.out] at HT
                dsimp only at HT
                obtain ⟨ca1, cb1, fa1, fb1⟩ := b3.keeps ko
                go_wp2_with fail
                clear ca1 cb1 fa1 fb1
                refine (mGeometric_any H1.out (by omega) hlt hlj).mono ?_
                rintro e wc ⟨rfl, kc⟩
                rw [HS.out]
                replace ko := Keeps.trans ko kc
                replace hown := Has.below hown kc
                clear kc
                have lo2 := ko.size
                cases r3
                · have HF := hid (HY.out.trans (nmQ_no1 (okAll_no hlt hlj HS.out)))
                  replace b4 := b4.keeps ko
                  replace kw := Keeps.trans kw ko
                  obtain ⟨ca0, fa0⟩ := id b4
                  have ltB := b4.lt
                  have ca1 := cell_keeps ca0 (keeps_alloc wc (.cells #[.int .i64 r1, .int .i64 r2] 41))
                  go_wp2_with fail
                  refine bodyPost_ret (v := .tuple #[.agg #[.slice none 0 0], .bool false]) (by simp [results, Try.results24, go_sem, ca0, ltB]) rfl ⟨none, 0, 0, by rw [HF.out], ?_, ?_⟩
                  · rw [HF.out]; exact RM.nil_ _ _
                  · exact Keeps.trans (Below.setCell kw (p := ⟨w.heap.size + 1, 0, none⟩) (by show _ ≤ (w.heap.size + 1); omega) _) (keeps_alloc _ _)
                obtain ⟨ca1, cb1, fa1, fb1⟩ := Bx.new' (w := wc) (x := r1) (y := r2) (t := 41) rfl
                have ka := keeps_alloc wc (.cells #[.int .i64 r1, .int .i64 r2] 41)
                replace hown := Has.below hown ka
                replace ko := Keeps.trans ko ka
                clear ka
                have lo3 : wo.heap.size ≤ (wc.alloc (.cells #[.int .i64 r1, .int .i64 r2] 41)).heap.size := ko.size
                go_wp2_with (at_builtin; refine append_frac (xs := row.take j) hown (by omega) lo3 _ _ rfl rfl rfl (by first | rfl | (simp <;> rfl)) ?_; intro v' w2 hown2 hb2)
                rw [← HT.out] at hown2
                have ko2 := Below.trans ko hb2
                have HO3 := hid (okTo_next HO2.out HS.out)
                clear hown hb2 ko ca1 cb1 fa1 fb1
                go_wp2
                go_roundw
                case rel => exact ⟨j + 1, by omega, by go_num, HO3.out, hown2, ko2⟩
                case measure => simp [intOf]; omega
              · obtain rfl : j = n := by omega
                obtain ⟨AR, CR, rfl⟩ := hown.form
                rw [List.take_of_length_le (by rw [HRL.out]; exact Nat.le_refl _)] at hown
                have hsl := SlM.of_own hown (by omega) (by omega)
                rw [← HR.out] at hsl
                have bu1 := bu.keeps ko
                replace b3 := b3.keeps ko
                replace b4 := b4.keeps ko
                replace kw := Keeps.trans kw ko
                have lt6' := b4.lt
                have HO3 := hid (okTo_row HO2.out)
                clear bu hown
                go_wp2_with (at_builtin; refine append_row (ll := ll) bu1 hsl (by omega) (by omega) _ _ rfl rfl rfl (by first | rfl | (simp <;> rfl)) ?_; intro v' w2 bu2 hb2)
                have c3 := b3.below hb2 (by omega)
                have c4 := b4.below hb2 (by omega)
                have kw2 := Below.trans kw (hb2.mono (by omega))
                clear b3 b4 kw bu1 hsl hb2 ko
                go_wp2
                go_roundw
                case rel => exact ⟨k + 1, by omega, by go_num, HO3.out, bu2, c3, c4, kw2⟩
                case measure => simp [intOf]; omega
          · obtain rfl : k = n := by omega
            obtain ⟨AR, CR, rfl⟩ := bu.form
            have hll : ll.length = k := by rw [← HL.out]; exact tab_len _ _ _
            have rm := bu.rm hll (by omega)
            clear bu
            cases hg : mechB ll with
            | true =>
              have HG := hid hg
              clear hg
              have HF := hid (show gmQ (k : Int) p q = (ll, true) by rw [HY.out, ← HL.out]; exact nmQ_yes (okAll_yes HO.out) (by rw [HL.out]; exact HG.out))
              go_wp2_with fail
              refine (mIf_yes rm.rows HG.out).mono ?_
              rintro e w6 ⟨rfl, k6⟩
              replace b3 := b3.keeps k6
              replace b4 := b4.keeps k6
              replace rm := rm.keeps k6
              replace kw := Keeps.trans kw k6
              have lt7 := b4.lt
              have sz8 := kw.size
              clear k6
              obtain ⟨ca9, fa9⟩ := id b4
              go_wp2_with fail
              clear ca9 fa9
              obtain ⟨ca0, fa0⟩ := id b4
              have frS : Fr (w.heap.size + 1) (w.heap.size + 1 + 1) w6 (w6.setCell ⟨w.heap.size + 1, 0, none⟩ (.slice AR k CR)) := (Fr.refl _ _ _).setCell (p := ⟨w.heap.size + 1, 0, none⟩) (Nat.le_refl _) (Nat.lt_succ_self _) _
              have hs := (rm).1.top
              refine bodyPost_ret (v := .tuple #[.agg #[.slice AR k CR], .bool true]) (by simp [results, Try.results24, go_sem, ca0]) rfl ⟨_, _, _, by rw [HF.out], ?_, Below.setCell kw (p := ⟨w.heap.size + 1, 0, none⟩) (by show _ ≤ (w.heap.size + 1); omega) _⟩
              rw [HF.out]
              exact (RM.fr rm frS (by omega)).widen (by first | omega | (simp; omega)) (by simp [World.setCell] <;> omega) (Nat.le_refl _)
            | false =>
              have HG := hid hg
              clear hg
              have HF := hid (show gmQ (k : Int) p q = ([], false) by rw [HY.out]; exact nmQ_no2 (by rw [HL.out]; exact HG.out))
              go_wp2_with fail
              refine (mIf_no rm.rows HG.out).mono ?_
              rintro e w6 ⟨rfl, k6⟩
              replace b3 := b3.keeps k6
              replace b4 := b4.keeps k6
              replace rm := rm.keeps k6
              replace kw := Keeps.trans kw k6
              have lt7 := b4.lt
              have sz8 := kw.size
              clear k6
              obtain ⟨ca9, fa9⟩ := id b4
              go_wp2_with fail
              clear ca9 fa9
              obtain ⟨ca0, fa0⟩ := id b4
              refine bodyPost_ret (v := .tuple #[.agg #[.slice none 0 0], .bool false]) (by simp [results, Try.results24, go_sem, ca0]) rfl ⟨none, 0, 0, by rw [HF.out], ?_, ?_⟩
              · rw [HF.out]; exact RM.nil_ _ _
              · first | exact Below.setCell kw (p := ⟨w.heap.size + 1, 0, none⟩) (Nat.le_refl _) _ | exact kw | exact Below.setCell kw (p := ⟨w.heap.size + 1, 0, none⟩) (by show _ ≤ (w.heap.size + 1); omega) _
set_option maxRecDepth 100000 in
set_option maxHeartbeats 1600000 in
theorem FnExactGeometricMechanism_law (a0 : Int) (a1 d1 : Int) (w : World) (wa0 : (Lit.int .i64 a0).wf = true) (wa1 : I64 a1 ∧ I64 d1) :
    Calls Try.prog 4 #[.int .i64 a0, .agg #[.int .i64 a1, .int .i64 d1]] w fun e w' => e = .returned (.bool true) ∧ Below w.heap.size w w' := by
  go_enter Try.func4, Try.ntmps4
  have kw := keeps_refl w
  replace kw := Keeps.trans kw (keeps_alloc w (.cells #[.int .i64 a1, .int .i64 d1] 35))
  have p1 : Bx (w.alloc (.cells #[.int .i64 a1, .int .i64 d1] 35)) w.heap.size a1 d1 := Bx.new' (by simp)
  obtain ⟨ca1, cb1, fa1, fb1⟩ := id p1
  go_wp2_with fail
  clear ca1 cb1 fa1 fb1
  obtain ⟨r0, r1, HR⟩ : ∃ r0 r1, Hid (gmQ a0 a1 d1 = (r0, r1)) := ⟨_, _, rfl⟩
  have hsm := gmQ_len a0 a1 d1
  rw [HR.out] at hsm
  dsimp only at hsm
  refine (toFrac_any).mono ?_
  rintro e w2 ⟨rfl, k2⟩
  have ss3 := k2.size
  simp at ss3
  replace p1 := p1.keeps k2
  replace kw := Keeps.trans kw k2
  have lt4 := p1.lt
  have sz5 := kw.size
  clear k2
  obtain ⟨ca6, cb6, fa6, fb6⟩ := id p1
  go_wp2_with fail
  clear ca6 cb6 fa6 fb6
  refine (specGeometricMechanism_any wa0 wa1).mono ?_
  rintro e w7 ⟨p_A0, p_N0, p_C0, rfl, p_0, k7⟩
  have ss8 := k7.size
  replace p1 := p1.keeps k7
  replace kw := Keeps.trans kw k7
  have lt9 := p1.lt
  have sz10 := kw.size
  clear k7
  rw [HR.out]
  rw [HR.out] at p_0
  dsimp only at p_0
  dsimp only
  replace p1 := p1.keeps (keeps_alloc w7 (.cells #[.slice p_A0 p_N0 p_C0] 38))
  replace p_0 := p_0.keeps (keeps_alloc w7 (.cells #[.slice p_A0 p_N0 p_C0] 38))
  replace kw := Keeps.trans kw (keeps_alloc w7 (.cells #[.slice p_A0 p_N0 p_C0] 38))
  have p_b0 : B1 (w7.alloc (.cells #[.slice p_A0 p_N0 p_C0] 38)) w7.heap.size (.slice p_A0 p_N0 p_C0) := B1.new' (by simp)
  obtain ⟨ca11, cb11, fa11, fb11⟩ := id p1
  obtain ⟨ca12, fa12⟩ := id p_b0
  go_wp2_with fail
  clear ca11 cb11 fa11 fb11 ca12 fa12
  refine (toFrac_any).mono ?_
  rintro e w13 ⟨rfl, k13⟩
  have ss14 := k13.size
  simp at ss14
  replace p1 := p1.keeps k13
  replace p_b0 := p_b0.keeps k13
  replace p_0 := p_0.keeps k13
  replace kw := Keeps.trans kw k13
  have lt15 := p_b0.lt
  have sz16 := kw.size
  clear k13
  obtain ⟨ca17, cb17, fa17, fb17⟩ := id p1
  obtain ⟨ca18, fa18⟩ := id p_b0
  go_wp2_with fail
  clear ca17 cb17 fa17 fb17 ca18 fa18
  refine (implGeometricMechanism_any wa0 wa1).mono ?_
  rintro e w19 ⟨g_A0, g_N0, g_C0, rfl, g_0, k19⟩
  have ss20 := k19.size
  replace p1 := p1.keeps k19
  replace p_b0 := p_b0.keeps k19
  replace p_0 := p_0.keeps k19
  replace kw := Keeps.trans kw k19
  have lt21 := p_b0.lt
  have sz22 := kw.size
  clear k19
  rw [HR.out]
  rw [HR.out] at g_0
  dsimp only at g_0
  dsimp only
  replace p1 := p1.keeps (keeps_alloc w19 (.cells #[.slice g_A0 g_N0 g_C0] 38))
  replace p_b0 := p_b0.keeps (keeps_alloc w19 (.cells #[.slice g_A0 g_N0 g_C0] 38))
  replace p_0 := p_0.keeps (keeps_alloc w19 (.cells #[.slice g_A0 g_N0 g_C0] 38))
  replace g_0 := g_0.keeps (keeps_alloc w19 (.cells #[.slice g_A0 g_N0 g_C0] 38))
  replace kw := Keeps.trans kw (keeps_alloc w19 (.cells #[.slice g_A0 g_N0 g_C0] 38))
  have g_b0 : B1 (w19.alloc (.cells #[.slice g_A0 g_N0 g_C0] 38)) w19.heap.size (.slice g_A0 g_N0 g_C0) := B1.new' (by simp)
  obtain ⟨ca23, cb23, fa23, fb23⟩ := id p1
  obtain ⟨ca24, fa24⟩ := id p_b0
  obtain ⟨ca25, fa25⟩ := id g_b0
  go_wp2_with fail
  clear ca23 cb23 fa23 fb23 ca24 fa24 ca25 fa25
  have e1 : (r1 != r1) = false := by simp
  refine (eqMechanism_true g_0.1 p_0.1).mono ?_
  rintro e w26 ⟨rfl, k26⟩
  have ss27 := k26.size
  simp at ss27
  replace p1 := p1.keeps k26
  replace p_b0 := p_b0.keeps k26
  replace g_b0 := g_b0.keeps k26
  replace p_0 := p_0.keeps k26
  replace g_0 := g_0.keeps k26
  replace kw := Keeps.trans kw k26
  have lt28 := g_b0.lt
  have sz29 := kw.size
  clear k26
  obtain ⟨ca30, cb30, fa30, fb30⟩ := id p1
  obtain ⟨ca31, fa31⟩ := id p_b0
  obtain ⟨ca32, fa32⟩ := id g_b0
  go_wp2_with fail
  clear ca30 cb30 fa30 fb30 ca31 fa31 ca32 fa32
  have HLN := hid (RM.rows g_0).len
  refine (markMechanism_any g_0 (by omega) (by omega) (by rw [← (RM.rows g_0).len]; exact hsm.2)).mono ?_
  rintro e w33 ⟨rfl, mk33, f33⟩
  clear g_0
  replace p1 := p1.fr f33 (by omega)
  replace p_b0 := p_b0.fr f33 (by omega)
  replace g_b0 := g_b0.fr f33 (by omega)
  replace p_0 := p_0.fr f33 (by omega)
  have ssf33 := f33.size
  replace kw := below_fr kw kw.size (by omega) f33
  obtain ⟨ca34, cb34, fa34, fb34⟩ := id p1
  obtain ⟨ca35, fa35⟩ := id p_b0
  obtain ⟨ca36, fa36⟩ := id g_b0
  go_wp2_with fail
  clear ca34 cb34 fa34 fb34 ca35 fa35 ca36 fa36
  have u1 : ((1 + 2 * (rowSum r0 g_N0 : Int)) != (1 + 2 * (rowSum r0 g_N0 : Int))) = false := by simp
  have u2 : ¬ (1 + 2 * (rowSum r0 g_N0 : Int) < 0) := by omega
  refine (heldMechanism_any mk33.1 (by omega) (by omega) (by rw [← HLN.out]; exact hsm.2)).mono ?_
  rintro e w37 ⟨rfl, k37⟩
  have ss38 := k37.size
  replace p1 := p1.keeps k37
  replace p_b0 := p_b0.keeps k37
  replace g_b0 := g_b0.keeps k37
  replace p_0 := p_0.keeps k37
  replace mk33 := mk33.keeps k37
  replace kw := Keeps.trans kw k37
  have lt39 := g_b0.lt
  have sz40 := kw.size
  clear k37
  obtain ⟨ca41, cb41, fa41, fb41⟩ := id p1
  obtain ⟨ca42, fa42⟩ := id p_b0
  obtain ⟨ca43, fa43⟩ := id g_b0
  go_wp2_with fail
  clear ca41 cb41 fa41 fb41 ca42 fa42 ca43 fa43
  refine (toFrac_any).mono ?_
  rintro e w44 ⟨rfl, k44⟩
  have ss45 := k44.size
  replace p1 := p1.keeps k44
  replace p_b0 := p_b0.keeps k44
  replace g_b0 := g_b0.keeps k44
  replace p_0 := p_0.keeps k44
  replace mk33 := mk33.keeps k44
  replace kw := Keeps.trans kw k44
  have lt46 := g_b0.lt
  have sz47 := kw.size
  clear k44
  obtain ⟨ca48, cb48, fa48, fb48⟩ := id p1
  obtain ⟨ca49, fa49⟩ := id p_b0
  obtain ⟨ca50, fa50⟩ := id g_b0
  go_wp2_with fail
  clear ca48 cb48 fa48 fb48 ca49 fa49 ca50 fa50
  refine (implGeometricMechanism_any wa0 wa1).mono ?_
  rintro e w51 ⟨h_A0, h_N0, h_C0, rfl, h_0, k51⟩
  have ss52 := k51.size
  replace p1 := p1.keeps k51
  replace p_b0 := p_b0.keeps k51
  replace g_b0 := g_b0.keeps k51
  replace p_0 := p_0.keeps k51
  replace mk33 := mk33.keeps k51
  replace kw := Keeps.trans kw k51
  have lt53 := g_b0.lt
  have sz54 := kw.size
  clear k51
  rw [HR.out]
  rw [HR.out] at h_0
  dsimp only at h_0
  dsimp only
  replace p1 := p1.keeps (keeps_alloc w51 (.cells #[.slice h_A0 h_N0 h_C0] 38))
  replace p_b0 := p_b0.keeps (keeps_alloc w51 (.cells #[.slice h_A0 h_N0 h_C0] 38))
  replace g_b0 := g_b0.keeps (keeps_alloc w51 (.cells #[.slice h_A0 h_N0 h_C0] 38))
  replace p_0 := p_0.keeps (keeps_alloc w51 (.cells #[.slice h_A0 h_N0 h_C0] 38))
  replace mk33 := mk33.keeps (keeps_alloc w51 (.cells #[.slice h_A0 h_N0 h_C0] 38))
  replace h_0 := h_0.keeps (keeps_alloc w51 (.cells #[.slice h_A0 h_N0 h_C0] 38))
  replace kw := Keeps.trans kw (keeps_alloc w51 (.cells #[.slice h_A0 h_N0 h_C0] 38))
  have h_b0 : B1 (w51.alloc (.cells #[.slice h_A0 h_N0 h_C0] 38)) w51.heap.size (.slice h_A0 h_N0 h_C0) := B1.new' (by simp)
  obtain ⟨ca55, cb55, fa55, fb55⟩ := id p1
  obtain ⟨ca56, fa56⟩ := id p_b0
  obtain ⟨ca57, fa57⟩ := id g_b0
  obtain ⟨ca58, fa58⟩ := id h_b0
  go_wp2_with fail
  clear ca55 cb55 fa55 fb55 ca56 fa56 ca57 fa57 ca58 fa58
  refine (eqMechanism_true h_0.1 p_0.1).mono ?_
  rintro e w59 ⟨rfl, k59⟩
  have ss60 := k59.size
  simp at ss60
  replace p1 := p1.keeps k59
  replace p_b0 := p_b0.keeps k59
  replace g_b0 := g_b0.keeps k59
  replace h_b0 := h_b0.keeps k59
  replace p_0 := p_0.keeps k59
  replace mk33 := mk33.keeps k59
  replace h_0 := h_0.keeps k59
  replace kw := Keeps.trans kw k59
  have lt61 := h_b0.lt
  have sz62 := kw.size
  clear k59
  obtain ⟨ca63, cb63, fa63, fb63⟩ := id p1
  obtain ⟨ca64, fa64⟩ := id p_b0
  obtain ⟨ca65, fa65⟩ := id g_b0
  obtain ⟨ca66, fa66⟩ := id h_b0
  go_wp2_with fail
  clear ca63 cb63 fa63 fb63 ca64 fa64 ca65 fa65 ca66 fa66
  refine (heldMechanism_any mk33.1 (by omega) (by omega) (by rw [← HLN.out]; exact hsm.2)).mono ?_
  rintro e w67 ⟨rfl, k67⟩
  have ss68 := k67.size
  replace p1 := p1.keeps k67
  replace p_b0 := p_b0.keeps k67
  replace g_b0 := g_b0.keeps k67
  replace h_b0 := h_b0.keeps k67
  replace p_0 := p_0.keeps k67
  replace mk33 := mk33.keeps k67
  replace h_0 := h_0.keeps k67
  replace kw := Keeps.trans kw k67
  have lt69 := h_b0.lt
  have sz70 := kw.size
  clear k67
  obtain ⟨ca71, cb71, fa71, fb71⟩ := id p1
  obtain ⟨ca72, fa72⟩ := id p_b0
  obtain ⟨ca73, fa73⟩ := id g_b0
  obtain ⟨ca74, fa74⟩ := id h_b0
  go_wp2_with fail
  clear ca71 cb71 fa71 fb71 ca72 fa72 ca73 fa73 ca74 fa74
  go_ret
  exact ⟨rfl, kw⟩
end Go.Proofs.Ytkpliolafkdijaa
