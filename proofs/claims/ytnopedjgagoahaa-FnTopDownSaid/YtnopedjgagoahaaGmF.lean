/- GeometricMechanism of the reference and of the program; the law. -/
import Derived.Test.YtnopedjgagoahaaGm
namespace Go.Proofs.Ytnopedjgagoahaa
open Go.RowKit
set_option linter.unusedVariables false
set_option linter.unusedSimpArgs false

set_option maxRecDepth 100000 in
set_option maxHeartbeats 6400000 in
theorem specGeometricMechanism_own {n p q : Int} {w : World} (wn : (Lit.int .i64 n).wf = true) (wp : I64 p ∧ I64 q) :
    Calls Try.prog 220 #[.int .i64 n, .agg #[.int .i64 p, .int .i64 q]] w (MResB w (gmQ n p q)) := by
  go_enter Try.func220, Try.ntmps220
  have kw := keeps_refl w
  replace kw := Keeps.trans kw (keeps_alloc w (.cells #[.int .i64 p, .int .i64 q] 31))
  have b3 : Bx (w.alloc (.cells #[.int .i64 p, .int .i64 q] 31)) w.heap.size p q := Bx.new' (by simp)
  replace b3 := b3.keeps (keeps_alloc (w.alloc (.cells #[.int .i64 p, .int .i64 q] 31)) (.cells #[.slice none 0 0] 25))
  replace kw := Keeps.trans kw (keeps_alloc (w.alloc (.cells #[.int .i64 p, .int .i64 q] 31)) (.cells #[.slice none 0 0] 25))
  have b4 : B1 ((w.alloc (.cells #[.int .i64 p, .int .i64 q] 31)).alloc (.cells #[.slice none 0 0] 25)) (w.heap.size + 1) (.slice none 0 0) := B1.new' (by simp)
  go_wp2_with fail
  obtain ⟨pH0, H0⟩ : ∃ pB, Hid (inB n 2 8 = pB) := ⟨_, rfl⟩
  refine (l1In_any _ _ _ _).mono ?_
  rintro e w' ⟨rfl, rfl⟩
  rw [H0.out]
  cases pH0
  · have HF := hid (gmQ_no (n := n) (p := p) (q := q) (by rw [H0.out]; simp))
    obtain ⟨ca1, cb1, fa1, fb1⟩ := id b3
    obtain ⟨ca2, fa2⟩ := id b4
    go_wp2_with fail
    clear ca1 cb1 fa1 fb1 ca2 fa2
    obtain ⟨ca0, fa0⟩ := id b4
    refine bodyPost_ret (v := .tuple #[.agg #[.slice none 0 0], .bool false]) (by simp [results, Try.results220, go_sem, ca0]) rfl ⟨none, 0, 0, by rw [HF.out], ?_, (by rw [HF.out]; intro h; cases h), ?_⟩
    · rw [HF.out]; exact RM.nil_ _ _
    · first | exact Below.setCell kw (p := ⟨w.heap.size + 1, 0, none⟩) (Nat.le_refl _) _ | exact kw | exact Below.setCell kw (p := ⟨w.heap.size + 1, 0, none⟩) (by show _ ≤ (w.heap.size + 1); omega) _
  · skip
    obtain ⟨ca1, cb1, fa1, fb1⟩ := id b3
    go_wp2_with fail
    clear ca1 cb1 fa1 fb1
    obtain ⟨pH2, H2⟩ : ∃ pB, Hid (fracB p q = pB) := ⟨_, rfl⟩
    refine (fGood_any).mono ?_
    rintro e w2 ⟨rfl, k2⟩
    rw [H2.out]
    replace b3 := b3.keeps k2
    replace b4 := b4.keeps k2
    replace kw := Keeps.trans kw k2
    have lt3 := b4.lt
    have sz4 := kw.size
    clear k2
    cases pH2
    · have HF := hid (gmQ_no (n := n) (p := p) (q := q) (by intro hh; have := (ratB_true.1 hh.2).1; rw [H2.out] at this; cases this))
      obtain ⟨ca5, cb5, fa5, fb5⟩ := id b3
      obtain ⟨ca6, fa6⟩ := id b4
      go_wp2_with fail
      clear ca5 cb5 fa5 fb5 ca6 fa6
      obtain ⟨ca0, fa0⟩ := id b4
      refine bodyPost_ret (v := .tuple #[.agg #[.slice none 0 0], .bool false]) (by simp [results, Try.results220, go_sem, ca0]) rfl ⟨none, 0, 0, by rw [HF.out], ?_, (by rw [HF.out]; intro h; cases h), ?_⟩
      · rw [HF.out]; exact RM.nil_ _ _
      · first | exact Below.setCell kw (p := ⟨w.heap.size + 1, 0, none⟩) (Nat.le_refl _) _ | exact kw | exact Below.setCell kw (p := ⟨w.heap.size + 1, 0, none⟩) (by show _ ≤ (w.heap.size + 1); omega) _
    · skip
      have hqb := (fracB_true.1 H2.out).1
      obtain ⟨ca5, cb5, fa5, fb5⟩ := id b3
      go_wp2_with fail
      clear ca5 cb5 fa5 fb5
      obtain ⟨pH3, H3⟩ : ∃ pB, Hid (inB p 1 (q - 1) = pB) := ⟨_, rfl⟩
      refine (l1In_any _ _ _ _).mono ?_
      rintro e w' ⟨rfl, rfl⟩
      rw [H3.out]
      cases pH3
      · have HF := hid (gmQ_no (n := n) (p := p) (q := q) (by intro hh; have h3 := inB_true.2 (show 1 ≤ p ∧ p ≤ q - 1 by have := (ratB_true.1 hh.2).2; omega); rw [H3.out] at h3; cases h3))
        obtain ⟨ca6, cb6, fa6, fb6⟩ := id b3
        obtain ⟨ca7, fa7⟩ := id b4
        go_wp2_with fail
        clear ca6 cb6 fa6 fb6 ca7 fa7
        obtain ⟨ca0, fa0⟩ := id b4
        refine bodyPost_ret (v := .tuple #[.agg #[.slice none 0 0], .bool false]) (by simp [results, Try.results220, go_sem, ca0]) rfl ⟨none, 0, 0, by rw [HF.out], ?_, (by rw [HF.out]; intro h; cases h), ?_⟩
        · rw [HF.out]; exact RM.nil_ _ _
        · first | exact Below.setCell kw (p := ⟨w.heap.size + 1, 0, none⟩) (Nat.le_refl _) _ | exact kw | exact Below.setCell kw (p := ⟨w.heap.size + 1, 0, none⟩) (by show _ ≤ (w.heap.size + 1); omega) _
      · skip
        have H1 := hid (ratB_true.2 ⟨H2.out, by have := inB_true.1 H3.out; omega⟩)
        have hn := inB_true.1 H0.out
        obtain ⟨n, rfl⟩ : ∃ k : Nat, n = k := ⟨n.toNat, by omega⟩
        obtain ⟨ll, HL⟩ : ∃ ll, Hid (tab (gS p q n) n n = ll) := ⟨_, rfl⟩
        have HY := hid (gmQ_yesS H0.out H1.out)
        go_wp2_with fail
        have hB : w.heap.size + 1 + 1 ≤ w2.heap.size := by have := b4.lt; omega
        go_loopw [7, 6] (fun si v wr => ∃ k : Nat, k ≤ n ∧ si = .int .i64 k ∧ Hid (OkTo (gS p q n) n k 0) ∧ Built wr (w.heap.size + 1 + 1) v k ll wr.heap.size ∧ Bx wr w.heap.size p q ∧ B1 wr (w.heap.size + 1) (.slice none 0 0) ∧ Keeps w wr) (fun si _ _ => n - (intOf si).toNat)
        case atStart => exact ⟨0, Nat.zero_le _, rfl, okTo_start _ _, Built.nil_ _ _ _, b3, b4, kw⟩
        clear kw b3 b4 hB
        case round =>
          obtain ⟨k, hk, rfl, HO, bu, b3, b4, kw⟩ := hrel
          obtain ⟨wo, rfl⟩ : ∃ u : World, u = wr := ⟨_, rfl⟩
          have lt6 := b4.lt
          have sz := kw.size
          by_cases hlt : k < n
          · have hi1 : (k : Int) < (n : Int) := by omega
            obtain ⟨row, HR⟩ : ∃ row, Hid (ll.getD k [] = row) := ⟨_, rfl⟩
            have hrow : row = (List.range n).map fun j => ((gS p q n k j).1, (gS p q n k j).2.1) := by rw [← HR.out, ← HL.out]; exact tab_row _ hlt
            have HRL := hid (show row.length = n by rw [hrow]; simp)
            have HRA := hid (show ∀ j, j < n → row.getD j (0, 0) = ((gS p q n k j).1, (gS p q n k j).2.1) from fun j hj => by rw [hrow, getD_map_range, if_pos hj])
            clear hrow
            go_wp2_with fail
            go_loopw [9, 8] (fun si v wr => ∃ j : Nat, j ≤ n ∧ si = .int .i64 j ∧ Hid (OkTo (gS p q n) n k j) ∧ Has wr wo.heap.size 31 2 v j (frs (row.take j)) ∧ Keeps wo wr) (fun si _ _ => n - (intOf si).toNat)
            case atStart => exact ⟨0, Nat.zero_le _, rfl, HO, World.ownsRow_nil _ _ _ _, keeps_refl _⟩
            case round =>
              obtain ⟨j, hj, rfl, HO2, hown, ko⟩ := hrel
              have lo := ko.size
              by_cases hlj : j < n
              · have hj1 : (j : Int) < (n : Int) := by omega
                have HT := hid (take_snoc row j (0, 0) (by have := HRL.out; omega))
                rw [HRA.out j hlj] at HT
                obtain ⟨r1, r2, r3, HS⟩ : ∃ r1 r2 r3, Hid (gS p q n k j = (r1, r2, r3)) := ⟨_, _, _, rfl⟩
                rw [HS.out] at HT
                dsimp only at HT
                obtain ⟨ca1, cb1, fa1, fb1⟩ := b3.keeps ko
                go_wp2_with fail
                clear ca1 cb1 fa1 fb1
                refine (mGeometric_any H1.out (by omega) hlt hlj).mono ?_
                rintro e wc ⟨rfl, kc⟩
                rw [HS.out]
                replace ko := Keeps.trans ko kc
                replace hown := Has.below hown kc
                clear kc
                have lo2 := ko.size
                cases r3
                · have HF := hid (HY.out.trans (nmQ_no1 (okAll_no hlt hlj HS.out)))
                  replace b4 := b4.keeps ko
                  replace kw := Keeps.trans kw ko
                  obtain ⟨ca0, fa0⟩ := id b4
                  have ltB := b4.lt
                  have ca1 := cell_keeps ca0 (keeps_alloc wc (.cells #[.int .i64 r1, .int .i64 r2] 31))
                  go_wp2_with fail
                  refine bodyPost_ret (v := .tuple #[.agg #[.slice none 0 0], .bool false]) (by simp [results, Try.results220, go_sem, ca0, ltB]) rfl ⟨none, 0, 0, by rw [HF.out], ?_, (by rw [HF.out]; intro h; cases h), ?_⟩
                  · rw [HF.out]; exact RM.nil_ _ _
                  · exact Keeps.trans (Below.setCell kw (p := ⟨w.heap.size + 1, 0, none⟩) (by show _ ≤ (w.heap.size + 1); omega) _) (keeps_alloc _ _)
                obtain ⟨ca1, cb1, fa1, fb1⟩ := Bx.new' (w := wc) (x := r1) (y := r2) (t := 31) rfl
                have ka := keeps_alloc wc (.cells #[.int .i64 r1, .int .i64 r2] 31)
                replace hown := Has.below hown ka
                replace ko := Keeps.trans ko ka
                clear ka
                have lo3 : wo.heap.size ≤ (wc.alloc (.cells #[.int .i64 r1, .int .i64 r2] 31)).heap.size := ko.size
                go_wp2_with (at_builtin; refine append_frac (xs := row.take j) hown (by omega) lo3 _ _ rfl rfl rfl (by first | rfl | (simp <;> rfl)) ?_; intro v' w2 hown2 hb2)
                rw [← HT.out] at hown2
                have ko2 := Below.trans ko hb2
                have HO3 := hid (okTo_next HO2.out HS.out)
                clear hown hb2 ko ca1 cb1 fa1 fb1
                go_wp2
                go_roundw
                case rel => exact ⟨j + 1, by omega, by go_num, HO3.out, hown2, ko2⟩
                case measure => simp [intOf]; omega
              · obtain rfl : j = n := by omega
                obtain ⟨AR, CR, rfl⟩ := hown.form
                rw [List.take_of_length_le (by rw [HRL.out]; exact Nat.le_refl _)] at hown
                have hsl := RowH.of_own hown (by omega) (by omega)
                rw [← HR.out] at hsl
                have bu1 := bu.keeps ko
                replace b3 := b3.keeps ko
                replace b4 := b4.keeps ko
                replace kw := Keeps.trans kw ko
                have lt6' := b4.lt
                have HO3 := hid (okTo_row HO2.out)
                clear bu hown
                go_wp2_with (at_builtin; refine append_row (ll := ll) bu1 hsl (by omega) (by omega) _ _ rfl rfl rfl (by first | rfl | (simp <;> rfl)) ?_; intro v' w2 bu2 hb2)
                have c3 := b3.below hb2 (by omega)
                have c4 := b4.below hb2 (by omega)
                have kw2 := Below.trans kw (hb2.mono (by omega))
                clear b3 b4 kw bu1 hsl hb2 ko
                go_wp2
                go_roundw
                case rel => exact ⟨k + 1, by omega, by go_num, HO3.out, bu2, c3, c4, kw2⟩
                case measure => simp [intOf]; omega
          · obtain rfl : k = n := by omega
            obtain ⟨AR, CR, rfl⟩ := bu.form
            have hll : ll.length = k := by rw [← HL.out]; exact tab_len _ _ _
            have rm := bu.rm hll (by omega)
            cases hg : mechB ll with
            | true =>
              have HG := hid hg
              clear hg
              have HF := hid (show gmQ (k : Int) p q = (ll, true) by rw [HY.out, ← HL.out]; exact nmQ_yes (okAll_yes HO.out) (by rw [HL.out]; exact HG.out))
              go_wp2_with fail
              refine (mIf_yes rm.rows HG.out).mono ?_
              rintro e w6 ⟨rfl, k6⟩
              replace b3 := b3.keeps k6
              replace b4 := b4.keeps k6
              replace rm := rm.keeps k6
              replace bu := bu.keeps k6
              replace kw := Keeps.trans kw k6
              have lt7 := b4.lt
              have sz8 := kw.size
              clear k6
              obtain ⟨ca9, fa9⟩ := id b4
              go_wp2_with fail
              clear ca9 fa9
              obtain ⟨ca0, fa0⟩ := id b4
              have frS : Fr (w.heap.size + 1) (w.heap.size + 1 + 1) w6 (w6.setCell ⟨w.heap.size + 1, 0, none⟩ (.slice AR k CR)) := (Fr.refl _ _ _).setCell (p := ⟨w.heap.size + 1, 0, none⟩) (Nat.le_refl _) (Nat.lt_succ_self _) _
              have hs := (rm).1.top
              refine bodyPost_ret (v := .tuple #[.agg #[.slice AR k CR], .bool true]) (by simp [results, Try.results220, go_sem, ca0]) rfl ⟨_, _, _, by rw [HF.out], ?_, fun _ => ⟨w.heap.size + 1 + 1, _, by omega, by rw [HF.out]; exact bu.fr frS (by omega)⟩, Below.setCell kw (p := ⟨w.heap.size + 1, 0, none⟩) (by show _ ≤ (w.heap.size + 1); omega) _⟩
              rw [HF.out]
              exact (RM.fr rm frS (by omega)).widen (by first | omega | (simp; omega)) (by simp [World.setCell] <;> omega) (Nat.le_refl _)
            | false =>
              have HG := hid hg
              clear hg
              have HF := hid (show gmQ (k : Int) p q = ([], false) by rw [HY.out]; exact nmQ_no2 (by rw [HL.out]; exact HG.out))
              go_wp2_with fail
              refine (mIf_no rm.rows HG.out).mono ?_
              rintro e w6 ⟨rfl, k6⟩
              replace b3 := b3.keeps k6
              replace b4 := b4.keeps k6
              replace rm := rm.keeps k6
              replace kw := Keeps.trans kw k6
              have lt7 := b4.lt
              have sz8 := kw.size
              clear k6
              obtain ⟨ca9, fa9⟩ := id b4
              go_wp2_with fail
              clear ca9 fa9
              obtain ⟨ca0, fa0⟩ := id b4
              refine bodyPost_ret (v := .tuple #[.agg #[.slice none 0 0], .bool false]) (by simp [results, Try.results220, go_sem, ca0]) rfl ⟨none, 0, 0, by rw [HF.out], ?_, (by rw [HF.out]; intro h; cases h), ?_⟩
              · rw [HF.out]; exact RM.nil_ _ _
              · first | exact Below.setCell kw (p := ⟨w.heap.size + 1, 0, none⟩) (Nat.le_refl _) _ | exact kw | exact Below.setCell kw (p := ⟨w.heap.size + 1, 0, none⟩) (by show _ ≤ (w.heap.size + 1); omega) _
theorem specGeometricMechanism_any {n p q : Int} {w : World} (wn : (Lit.int .i64 n).wf = true) (wp : I64 p ∧ I64 q) :
    Calls Try.prog 220 #[.int .i64 n, .agg #[.int .i64 p, .int .i64 q]] w (MRes w (gmQ n p q)) := (specGeometricMechanism_own wn wp).mono fun e w' h => h.res
end Go.Proofs.Ytnopedjgagoahaa
