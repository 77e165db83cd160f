/- The geometric mechanism: the parts of both sides. -/
import Derived.Test.YtnopedjgagoahaaGmL
namespace Go.Proofs.Ytnopedjgagoahaa
open Go.RowKit
set_option linter.unusedVariables false
set_option linter.unusedSimpArgs false

set_option maxRecDepth 100000 in
set_option maxHeartbeats 1600000 in
theorem fPow_any {p q : Int} {k : Nat} {w : World} (h : fracB p q = true) (hk : k ≤ 60) :
    Calls Try.prog 259 #[.agg #[.int .i64 p, .int .i64 q], .int .i64 (k : Int)] w fun e w' => e = .returned (.tuple #[.agg #[.int .i64 (powQ p q k).1, .int .i64 (powQ p q k).2.1], .bool (powQ p q k).2.2]) ∧ Keeps w w' := by
  have HH := hid h
  clear h
  have HF := hid (rfl : powQ p q k = powQ p q k)
  go_enter Try.func259, Try.ntmps259
  have kw := keeps_refl w
  replace kw := Keeps.trans kw (keeps_alloc w (.cells #[.int .i64 p, .int .i64 q] 31))
  have b2 : Bx (w.alloc (.cells #[.int .i64 p, .int .i64 q] 31)) w.heap.size p q := Bx.new' (by simp)
  replace b2 := b2.keeps (keeps_alloc (w.alloc (.cells #[.int .i64 p, .int .i64 q] 31)) (.cells #[.int .i64 0, .int .i64 0] 31))
  replace kw := Keeps.trans kw (keeps_alloc (w.alloc (.cells #[.int .i64 p, .int .i64 q] 31)) (.cells #[.int .i64 0, .int .i64 0] 31))
  have b4 : Bx ((w.alloc (.cells #[.int .i64 p, .int .i64 q] 31)).alloc (.cells #[.int .i64 0, .int .i64 0] 31)) (w.heap.size + 1) 0 0 := Bx.new' (by simp)
  obtain ⟨ca1, cb1, fa1, fb1⟩ := id b2
  go_wp2_with fail
  clear ca1 cb1 fa1 fb1
  refine (fInt_any).mono ?_
  rintro e w2 ⟨rfl, k2⟩
  replace b2 := b2.keeps k2
  replace b4 := b4.keeps k2
  replace kw := Keeps.trans kw k2
  have lt3 := b4.lt
  have sz4 := kw.size
  clear k2
  replace b2 := b2.keeps (keeps_alloc w2 (.cells #[.int .i64 1, .int .i64 1] 31))
  replace b4 := b4.keeps (keeps_alloc w2 (.cells #[.int .i64 1, .int .i64 1] 31))
  replace kw := Keeps.trans kw (keeps_alloc w2 (.cells #[.int .i64 1, .int .i64 1] 31))
  have b6 : Bx (w2.alloc (.cells #[.int .i64 1, .int .i64 1] 31)) w2.heap.size 1 1 := Bx.new' (by simp)
  go_wp2_with fail
  go_loopw [1] (fun si wr => ∃ (m : Nat) (s1 s2 : Int), m ≤ k ∧ si = .int .i64 ((k : Int) - m) ∧ Hid (powQ p q m = (s1, s2, true)) ∧ Hid (fracB s1 s2 = true) ∧ Bx wr w.heap.size p q ∧ Bx wr (w.heap.size + 1) 0 0 ∧ Bx wr w2.heap.size s1 s2 ∧ Keeps w wr) (fun si _ => (intOf si).toNat)
  case atStart => exact ⟨0, 1, 1, Nat.zero_le _, by simp, rfl, fracB_11, b2, b4, b6, kw⟩
  clear kw b2 b4 b6
  case round =>
    obtain ⟨m, s1, s2, hm, rfl, HA, HB, b2, b4, b6, kw⟩ := hrel
    have lt9 := b6.lt
    have sz9 := kw.size
    by_cases hlt : m < k
    · have hlt1 : (k : Int) - (m : Int) > 0 := by omega
      obtain ⟨r1, r2, r3, HS⟩ : ∃ r1 r2 r3, Hid (mkF (s1 * p) (s2 * q) = (r1, r2, r3)) := ⟨_, _, _, rfl⟩
      obtain ⟨ca5, cb5, fa5, fb5⟩ := id b2
      obtain ⟨ca6, cb6, fa6, fb6⟩ := id b6
      go_wp2_with fail
      clear ca5 cb5 fa5 fb5 ca6 cb6 fa6 fb6
      refine (fMul_any (fracB_qb HB.out) (fracB_qb HH.out)).mono ?_
      rintro e w7 ⟨rfl, k7⟩
      rw [HS.out]
      replace b2 := b2.keeps k7
      replace b4 := b4.keeps k7
      replace b6 := b6.keeps k7
      replace kw := Keeps.trans kw k7
      have lt8 := b6.lt
      have sz9 := kw.size
      clear k7
      cases r3
      · replace HF := hid (show powQ p q k = (0, 0, false) from accQ_fail HA.out (show mkF (s1 * p) (s2 * q) = (0, 0, false) from (Fine.mk _ _).bad HS.out) hlt)
        replace b2 := b2.keeps (keeps_alloc w7 (.cells #[.int .i64 r1, .int .i64 r2] 31))
        replace b4 := b4.keeps (keeps_alloc w7 (.cells #[.int .i64 r1, .int .i64 r2] 31))
        replace b6 := b6.keeps (keeps_alloc w7 (.cells #[.int .i64 r1, .int .i64 r2] 31))
        replace kw := Keeps.trans kw (keeps_alloc w7 (.cells #[.int .i64 r1, .int .i64 r2] 31))
        have b7 : Bx (w7.alloc (.cells #[.int .i64 r1, .int .i64 r2] 31)) w7.heap.size r1 r2 := Bx.new' (by simp)
        obtain ⟨ca10, cb10, fa10, fb10⟩ := id b4
        replace b2 := b2.set2 (p := (w.heap.size + 1)) (by omega) (.int .i64 0) (.int .i64 0)
        replace b6 := b6.set2 (p := (w.heap.size + 1)) (by omega) (.int .i64 0) (.int .i64 0)
        replace b7 := b7.set2 (p := (w.heap.size + 1)) (by omega) (.int .i64 0) (.int .i64 0)
        replace b4 := b4.set 0 0
        replace kw := below_set2 kw (p := (w.heap.size + 1)) (by omega) (.int .i64 0) (.int .i64 0)
        clear lt8
        go_wp2_with fail
        clear ca10 cb10 fa10 fb10
        obtain ⟨ca0, cb0, fa0, fb0⟩ := id b4
        try simp only [Exit.inBlock, Exit.then]
        refine bodyPost_ret (v := .tuple #[.agg #[.int .i64 0, .int .i64 0], .bool false]) (by simp [results, Try.results259, go_sem, ca0, cb0]) rfl ⟨ret_fb (by rw [HF.out]) (by rw [HF.out]) (by rw [HF.out]), ?_⟩
        exact kw
      · obtain ⟨ca10, cb10, fa10, fb10⟩ := id b6
        replace b2 := b2.keeps (keeps_alloc w7 (.cells #[.int .i64 r1, .int .i64 r2] 31))
        replace b4 := b4.keeps (keeps_alloc w7 (.cells #[.int .i64 r1, .int .i64 r2] 31))
        replace b6 := b6.keeps (keeps_alloc w7 (.cells #[.int .i64 r1, .int .i64 r2] 31))
        replace kw := Keeps.trans kw (keeps_alloc w7 (.cells #[.int .i64 r1, .int .i64 r2] 31))
        have b7 : Bx (w7.alloc (.cells #[.int .i64 r1, .int .i64 r2] 31)) w7.heap.size r1 r2 := Bx.new' (by simp)
        obtain ⟨ca11, cb11, fa11, fb11⟩ := id b6
        obtain ⟨ca12, cb12, fa12, fb12⟩ := id b7
        replace b2 := b2.set2 (p := w2.heap.size) (by omega) (.int .i64 r1) (.int .i64 r2)
        replace b4 := b4.set2 (p := w2.heap.size) (by omega) (.int .i64 r1) (.int .i64 r2)
        replace b7 := b7.set2 (p := w2.heap.size) (by omega) (.int .i64 r1) (.int .i64 r2)
        replace b6 := b6.set r1 r2
        replace kw := below_set2 kw (p := w2.heap.size) (by omega) (.int .i64 r1) (.int .i64 r2)
        clear lt8
        go_wp2_with fail
        clear ca10 cb10 fa10 fb10 ca11 cb11 fa11 fb11 ca12 cb12 fa12 fb12
        go_roundw
        case rel => exact ⟨m + 1, r1, r2, by omega, by go_num, accQ_next HA.out HS.out, mkF_fine HS.out, b2, b4, b6, kw⟩
        case measure => simp [intOf]; omega
    · obtain rfl : m = k := by omega
      have hlt1 : ¬ ((m : Int) - (m : Int) > 0) := by omega
      replace HF := HA
      obtain ⟨ca5, cb5, fa5, fb5⟩ := id b4
      obtain ⟨ca6, cb6, fa6, fb6⟩ := id b6
      replace b2 := b2.set2 (p := (w.heap.size + 1)) (by omega) (.int .i64 s1) (.int .i64 s2)
      replace b6 := b6.set2 (p := (w.heap.size + 1)) (by omega) (.int .i64 s1) (.int .i64 s2)
      replace b4 := b4.set s1 s2
      replace kw := below_set2 kw (p := (w.heap.size + 1)) (by omega) (.int .i64 s1) (.int .i64 s2)
      go_wp2_with fail
      clear ca5 cb5 fa5 fb5 ca6 cb6 fa6 fb6
      obtain ⟨ca0, cb0, fa0, fb0⟩ := id b4
      try simp only [Exit.inBlock, Exit.then]
      refine bodyPost_ret (v := .tuple #[.agg #[.int .i64 s1, .int .i64 s2], .bool true]) (by simp [results, Try.results259, go_sem, ca0, cb0]) rfl ⟨ret_fb (by rw [HF.out]) (by rw [HF.out]) (by rw [HF.out]), ?_⟩
      exact kw
theorem rat_ch {p q : Int} (h : ratB p q = true) : chB p q = true := by have h1 := ratB_true.1 h; exact chB_true.2 ⟨h1.1, by omega, by omega⟩
theorem dst_abs (i j : Nat) : max ((i : Int) - (j : Int)) (-((i : Int) - (j : Int))) = (dst i j : Int) := by unfold dst; omega
theorem l1AbsD_any {i j : Nat} {w : World} (hi : i ≤ 60) (hj : j ≤ 60) : Calls Try.prog 129 #[.int .i64 ((i : Int) - (j : Int))] w fun e w' => e = .returned (.int .i64 (dst i j : Int)) ∧ Keeps w w' := by
  refine (l1Abs_any (by omega) (by omega)).mono ?_
  rintro e w' ⟨rfl, rfl⟩
  exact ⟨by rw [dst_abs], keeps_refl _⟩
theorem l1AbsW_any {i j : Nat} {w : World} (hi : i ≤ 60) (hj : j ≤ 60) : Calls Try.prog 129 #[.int .i64 (IntKind.i64.wrap ((i : Int) - (j : Int)))] w fun e w' => e = .returned (.int .i64 (dst i j : Int)) ∧ Keeps w w' := by
  rw [show IntKind.i64.wrap ((i : Int) - (j : Int)) = (i : Int) - (j : Int) by rw [IntKind.wrap_i64]; omega]; exact l1AbsD_any hi hj
set_option maxRecDepth 100000 in
set_option maxHeartbeats 3200000 in
theorem mGeometric_any {p q : Int} {n i j : Nat} {w : World} (h : ratB p q = true) (hn : n ≤ 8) (hi : i < n) (hj : j < n) :
    Calls Try.prog 249 #[.int .i64 (n : Int), .int .i64 (i : Int), .int .i64 (j : Int), .agg #[.int .i64 p, .int .i64 q]] w fun e w' => e = .returned (.tuple #[.agg #[.int .i64 (gS p q n i j).1, .int .i64 (gS p q n i j).2.1], .bool (gS p q n i j).2.2]) ∧ Keeps w w' := by
  have HH := hid h
  have HFr := hid (ratB_true.1 h).1
  clear h
  have hdb := dst_bd hn hi hj
  have hi6 : i ≤ 60 := by omega
  have hj6 : j ≤ 60 := by omega
  obtain ⟨v1, v2, v3, HW⟩ : ∃ r1 r2 r3, Hid (powQ p q (dst i j) = (r1, r2, r3)) := ⟨_, _, _, rfl⟩
  obtain ⟨d1, d2, d3, HD⟩ : ∃ r1 r2 r3, Hid (onePlus p q = (r1, r2, r3)) := ⟨_, _, _, rfl⟩
  obtain ⟨e1, e2, e3, HE⟩ : ∃ r1 r2 r3, Hid (mkF (1 * q - p * 1) (1 * q) = (r1, r2, r3)) := ⟨_, _, _, rfl⟩
  have HD' := hid (show mkF (1 * q + p * 1) (1 * q) = (d1, d2, d3) from HD.out)
  have HPF := hid (fun e : v3 = true => (show fracB v1 v2 = true by subst e; have := powQ_fine (p := p) (q := q) (k := dst i j); exact this.ok HW.out))
  have HF := hid (rfl : gS p q n i j = gS p q n i j)
  have HTY : 0 < j ∧ j + 1 < n → gS p q n i j = geoMassS p q (dst i j) := fun hc => if_pos hc
  have HTN : ¬ (0 < j ∧ j + 1 < n) → gS p q n i j = geoTailQ p q (dst i j) := fun hc => if_neg hc
  have HY := hid HTY
  have HN := hid HTN
  clear HTY HTN
  go_enter Try.func249, Try.ntmps249
  have kw := keeps_refl w
  replace kw := Keeps.trans kw (keeps_alloc w (.cells #[.int .i64 p, .int .i64 q] 31))
  have b7 : Bx (w.alloc (.cells #[.int .i64 p, .int .i64 q] 31)) w.heap.size p q := Bx.new' (by simp)
  replace b7 := b7.keeps (keeps_alloc (w.alloc (.cells #[.int .i64 p, .int .i64 q] 31)) (.cells #[.int .i64 0, .int .i64 0] 31))
  replace kw := Keeps.trans kw (keeps_alloc (w.alloc (.cells #[.int .i64 p, .int .i64 q] 31)) (.cells #[.int .i64 0, .int .i64 0] 31))
  have b8 : Bx ((w.alloc (.cells #[.int .i64 p, .int .i64 q] 31)).alloc (.cells #[.int .i64 0, .int .i64 0] 31)) (w.heap.size + 1) 0 0 := Bx.new' (by simp)
  go_wp2_with fail
  obtain ⟨ca2, cb2, -, -⟩ := id b7
  have kS := hid (show ∀ w', Keeps ((w.alloc (.cells #[.int .i64 p, .int .i64 q] 31)).alloc (.cells #[.int .i64 0, .int .i64 0] 31)) w' → (w'.cell? ⟨w.heap.size, 0, none⟩ = some (.int .i64 p) ∧ w'.cell? ⟨w.heap.size, 1, none⟩ = some (.int .i64 q)) from fun w' k => ⟨cell_keeps ca2 k, cell_keeps cb2 k⟩)
  go_cut [10, 11] (fun sd so wq => ∃ wy g, wy = wq ∧ sd = .pointer (some ⟨g, 0, none⟩) ∧ so = .bool v3 ∧ Bx wy g v1 v2 ∧ ((w.alloc (.cells #[.int .i64 p, .int .i64 q] 31)).alloc (.cells #[.int .i64 0, .int .i64 0] 31)).heap.size ≤ g ∧ Keeps ((w.alloc (.cells #[.int .i64 p, .int .i64 q] 31)).alloc (.cells #[.int .i64 0, .int .i64 0] 31)) wy)
  case first =>
    have eA := hid (show ((w.alloc (.cells #[.int .i64 p, .int .i64 q] 31)).alloc (.cells #[.int .i64 0, .int .i64 0] 31)).heap.size = w.heap.size + 1 + 1 by simp)
    go_region_held3 (fun w' => w'.cell? ⟨w.heap.size, 0, none⟩ = some (.int .i64 p) ∧ w'.cell? ⟨w.heap.size, 1, none⟩ = some (.int .i64 q)) (first | with_reducible exact kS.out _ (keeps_d0 ((w.alloc (.cells #[.int .i64 p, .int .i64 q] 31)).alloc (.cells #[.int .i64 0, .int .i64 0] 31))) | with_reducible exact kS.out _ (keeps_ad0 ((w.alloc (.cells #[.int .i64 p, .int .i64 q] 31)).alloc (.cells #[.int .i64 0, .int .i64 0] 31)) _) | with_reducible exact kS.out _ (kW) | with_reducible exact kS.out _ (kW.trans (keeps_alloc _ _)) | with_reducible exact kS.out _ (below_set2 kW lz _ _) | go_keep)
      ((first | (go_at_call 129; refine (l1AbsW_any hi6 hj6).mono ?_; rintro e wB ⟨rfl, kB⟩; (first | (have kZ : Bx wB (w.heap.size + 1 + 1) 0 0 := Bx.kZ1 kB eA.out; have lz : ((w.alloc (.cells #[.int .i64 p, .int .i64 q] 31)).alloc (.cells #[.int .i64 0, .int .i64 0] 31)).heap.size ≤ (w.heap.size + 1 + 1) := (Nat.le_of_eq eA.out); obtain ⟨z1, z2, z3, z4⟩ := id kZ) | (have kZ : Bx wB (w.heap.size + 1 + 1) 0 0 := Bx.kZ2 kB eA.out; have lz : ((w.alloc (.cells #[.int .i64 p, .int .i64 q] 31)).alloc (.cells #[.int .i64 0, .int .i64 0] 31)).heap.size ≤ (w.heap.size + 1 + 1) := (Nat.le_of_eq eA.out); obtain ⟨z1, z2, z3, z4⟩ := id kZ) | (have kZ := kZ.keeps kB; obtain ⟨z1, z2, z3, z4⟩ := id kZ) | (have kZ : Bx wB _ 0 0 := Bx.kZ2 kB rfl; have lz := kW.size; obtain ⟨z1, z2, z3, z4⟩ := id kZ) | skip); (first | (have kW : Keeps ((w.alloc (.cells #[.int .i64 p, .int .i64 q] 31)).alloc (.cells #[.int .i64 0, .int .i64 0] 31)) wB := kW.trans kB) | (have kW : Keeps ((w.alloc (.cells #[.int .i64 p, .int .i64 q] 31)).alloc (.cells #[.int .i64 0, .int .i64 0] 31)) wB := (kW.trans (keeps_alloc _ _)).trans kB) | (have kW : Keeps ((w.alloc (.cells #[.int .i64 p, .int .i64 q] 31)).alloc (.cells #[.int .i64 0, .int .i64 0] 31)) wB := keeps_d kB) | (have kW : Keeps ((w.alloc (.cells #[.int .i64 p, .int .i64 q] 31)).alloc (.cells #[.int .i64 0, .int .i64 0] 31)) wB := keeps_ad kB)); clear kB) | (go_at_call 259; refine (fPow_any HFr.out hdb).mono ?_; rintro e wB ⟨rfl, kB⟩; rw [HW.out]; (first | (have kZ : Bx wB (w.heap.size + 1 + 1) 0 0 := Bx.kZ1 kB eA.out; have lz : ((w.alloc (.cells #[.int .i64 p, .int .i64 q] 31)).alloc (.cells #[.int .i64 0, .int .i64 0] 31)).heap.size ≤ (w.heap.size + 1 + 1) := (Nat.le_of_eq eA.out); obtain ⟨z1, z2, z3, z4⟩ := id kZ) | (have kZ : Bx wB (w.heap.size + 1 + 1) 0 0 := Bx.kZ2 kB eA.out; have lz : ((w.alloc (.cells #[.int .i64 p, .int .i64 q] 31)).alloc (.cells #[.int .i64 0, .int .i64 0] 31)).heap.size ≤ (w.heap.size + 1 + 1) := (Nat.le_of_eq eA.out); obtain ⟨z1, z2, z3, z4⟩ := id kZ) | (have kZ := kZ.keeps kB; obtain ⟨z1, z2, z3, z4⟩ := id kZ) | (have kZ : Bx wB _ 0 0 := Bx.kZ2 kB rfl; have lz := kW.size; obtain ⟨z1, z2, z3, z4⟩ := id kZ) | skip); (first | (have kW : Keeps ((w.alloc (.cells #[.int .i64 p, .int .i64 q] 31)).alloc (.cells #[.int .i64 0, .int .i64 0] 31)) wB := kW.trans kB) | (have kW : Keeps ((w.alloc (.cells #[.int .i64 p, .int .i64 q] 31)).alloc (.cells #[.int .i64 0, .int .i64 0] 31)) wB := (kW.trans (keeps_alloc _ _)).trans kB) | (have kW : Keeps ((w.alloc (.cells #[.int .i64 p, .int .i64 q] 31)).alloc (.cells #[.int .i64 0, .int .i64 0] 31)) wB := keeps_d kB) | (have kW : Keeps ((w.alloc (.cells #[.int .i64 p, .int .i64 q] 31)).alloc (.cells #[.int .i64 0, .int .i64 0] 31)) wB := keeps_ad kB)); clear kB)))
    all_goals (go_wp2_with fail; go_meet; first
      | exact ⟨_, _, rfl, rfl, rfl, Bx.new _ _ _ _, kW.size, kW.trans (keeps_alloc _ _)⟩
      | exact ⟨_, _, rfl, rfl, rfl, Bx.set (x := 0) (y := 0) kZ _ _, lz, below_set2 kW lz _ _⟩)
  case rest =>
    clear kS
    clear ca2 cb2
    obtain ⟨wx1, g1, rfl, rfl, rfl, b10, lg1, kx1⟩ := hcut
    simp at lg1
    replace b7 := b7.keeps kx1
    replace b8 := b8.keeps kx1
    replace kw := Keeps.trans kw kx1
    clear kx1
    have lt4 := b10.lt
    have sz5 := kw.size
    go_wp2_with fail
    obtain ⟨ca7, cb7, -, -⟩ := id b7
    have kS := hid (show ∀ w', Keeps wx1 w' → (w'.cell? ⟨w.heap.size, 0, none⟩ = some (.int .i64 p) ∧ w'.cell? ⟨w.heap.size, 1, none⟩ = some (.int .i64 q)) from fun w' k => ⟨cell_keeps ca7 k, cell_keeps cb7 k⟩)
    go_cut [12, 13] (fun sd so wq => ∃ wy g, wy = wq ∧ sd = .pointer (some ⟨g, 0, none⟩) ∧ so = .bool d3 ∧ Bx wy g d1 d2 ∧ wx1.heap.size ≤ g ∧ Keeps wx1 wy)
    case first =>
      go_region_held3 (fun w' => w'.cell? ⟨w.heap.size, 0, none⟩ = some (.int .i64 p) ∧ w'.cell? ⟨w.heap.size, 1, none⟩ = some (.int .i64 q)) (first | with_reducible exact kS.out _ (keeps_d0 wx1) | with_reducible exact kS.out _ (keeps_ad0 wx1 _) | with_reducible exact kS.out _ (kW) | with_reducible exact kS.out _ (kW.trans (keeps_alloc _ _)) | with_reducible exact kS.out _ (below_set2 kW lz _ _) | go_keep)
        ((first | (go_at_call 91; refine (fInt_any).mono ?_; rintro e wB ⟨rfl, kB⟩; (first | (have kZ : Bx wB wx1.heap.size 0 0 := Bx.kZ1 kB rfl; have lz : wx1.heap.size ≤ wx1.heap.size := (Nat.le_refl _); obtain ⟨z1, z2, z3, z4⟩ := id kZ) | (have kZ : Bx wB wx1.heap.size 0 0 := Bx.kZ2 kB rfl; have lz : wx1.heap.size ≤ wx1.heap.size := (Nat.le_refl _); obtain ⟨z1, z2, z3, z4⟩ := id kZ) | (have kZ := kZ.keeps kB; obtain ⟨z1, z2, z3, z4⟩ := id kZ) | (have kZ : Bx wB _ 0 0 := Bx.kZ2 kB rfl; have lz := kW.size; obtain ⟨z1, z2, z3, z4⟩ := id kZ) | skip); (first | (have kW : Keeps wx1 wB := kW.trans kB) | (have kW : Keeps wx1 wB := (kW.trans (keeps_alloc _ _)).trans kB) | (have kW : Keeps wx1 wB := keeps_d kB) | (have kW : Keeps wx1 wB := keeps_ad kB)); clear kB) | (go_at_call 93; refine (fAdd_any (show QB 1 1 from fracB_qb fracB_11) (fracB_qb HFr.out)).mono ?_; rintro e wB ⟨rfl, kB⟩; rw [HD'.out]; (first | (have kZ : Bx wB wx1.heap.size 0 0 := Bx.kZ1 kB rfl; have lz : wx1.heap.size ≤ wx1.heap.size := (Nat.le_refl _); obtain ⟨z1, z2, z3, z4⟩ := id kZ) | (have kZ : Bx wB wx1.heap.size 0 0 := Bx.kZ2 kB rfl; have lz : wx1.heap.size ≤ wx1.heap.size := (Nat.le_refl _); obtain ⟨z1, z2, z3, z4⟩ := id kZ) | (have kZ := kZ.keeps kB; obtain ⟨z1, z2, z3, z4⟩ := id kZ) | (have kZ : Bx wB _ 0 0 := Bx.kZ2 kB rfl; have lz := kW.size; obtain ⟨z1, z2, z3, z4⟩ := id kZ) | skip); (first | (have kW : Keeps wx1 wB := kW.trans kB) | (have kW : Keeps wx1 wB := (kW.trans (keeps_alloc _ _)).trans kB) | (have kW : Keeps wx1 wB := keeps_d kB) | (have kW : Keeps wx1 wB := keeps_ad kB)); clear kB)))
      all_goals (go_wp2_with fail; go_meet; first
        | exact ⟨_, _, rfl, rfl, rfl, Bx.new _ _ _ _, kW.size, kW.trans (keeps_alloc _ _)⟩
        | exact ⟨_, _, rfl, rfl, rfl, Bx.set (x := 0) (y := 0) kZ _ _, lz, below_set2 kW lz _ _⟩)
    case rest =>
      clear kS
      clear ca7 cb7
      obtain ⟨wx6, g6, rfl, rfl, rfl, b12, lg6, kx6⟩ := hcut
      replace b7 := b7.keeps kx6
      replace b8 := b8.keeps kx6
      replace b10 := b10.keeps kx6
      replace kw := Keeps.trans kw kx6
      clear kx6
      have lt9 := b12.lt
      have sz10 := kw.size
      by_cases hc : 0 < j ∧ j + 1 < n
      · have HT := hid (HY.out hc)
        have j1 : (j : Int) > 0 := by omega
        have j2 : (j : Int) < (n : Int) - 1 := by omega
        clear hc
        cases v3
        · replace HF := hid (show gS p q n i j = (0, 0, false) from HT.out.trans (bindT_no HW.out))
          obtain ⟨ca11, cb11, fa11, fb11⟩ := id b8
          replace b7 := b7.set2 (p := (w.heap.size + 1)) (by omega) (.int .i64 0) (.int .i64 0)
          replace b10 := b10.set2 (p := (w.heap.size + 1)) (by omega) (.int .i64 0) (.int .i64 0)
          replace b12 := b12.set2 (p := (w.heap.size + 1)) (by omega) (.int .i64 0) (.int .i64 0)
          replace b8 := b8.set 0 0
          replace kw := below_set2 kw (p := (w.heap.size + 1)) (by omega) (.int .i64 0) (.int .i64 0)
          go_wp2_with fail
          clear ca11 cb11 fa11 fb11
          obtain ⟨ca0, cb0, fa0, fb0⟩ := id b8
          try simp only [Exit.inBlock, Exit.then]
          refine bodyPost_ret (v := .tuple #[.agg #[.int .i64 0, .int .i64 0], .bool false]) (by simp [results, Try.results249, go_sem, ca0, cb0]) rfl ⟨ret_fb (by rw [HF.out]) (by rw [HF.out]) (by rw [HF.out]), ?_⟩
          exact kw
        cases d3
        · replace HF := hid (show gS p q n i j = (0, 0, false) from HT.out.trans ((bindT_yes HW.out).trans (bindT_no HD.out)))
          obtain ⟨ca11, cb11, fa11, fb11⟩ := id b8
          replace b7 := b7.set2 (p := (w.heap.size + 1)) (by omega) (.int .i64 0) (.int .i64 0)
          replace b10 := b10.set2 (p := (w.heap.size + 1)) (by omega) (.int .i64 0) (.int .i64 0)
          replace b12 := b12.set2 (p := (w.heap.size + 1)) (by omega) (.int .i64 0) (.int .i64 0)
          replace b8 := b8.set 0 0
          replace kw := below_set2 kw (p := (w.heap.size + 1)) (by omega) (.int .i64 0) (.int .i64 0)
          go_wp2_with fail
          clear ca11 cb11 fa11 fb11
          obtain ⟨ca0, cb0, fa0, fb0⟩ := id b8
          try simp only [Exit.inBlock, Exit.then]
          refine bodyPost_ret (v := .tuple #[.agg #[.int .i64 0, .int .i64 0], .bool false]) (by simp [results, Try.results249, go_sem, ca0, cb0]) rfl ⟨ret_fb (by rw [HF.out]) (by rw [HF.out]) (by rw [HF.out]), ?_⟩
          exact kw
        go_wp2_with fail
        obtain ⟨ca12, cb12, -, -⟩ := id b7
        have kS := hid (show ∀ w', Keeps wx6 w' → (w'.cell? ⟨w.heap.size, 0, none⟩ = some (.int .i64 p) ∧ w'.cell? ⟨w.heap.size, 1, none⟩ = some (.int .i64 q)) from fun w' k => ⟨cell_keeps ca12 k, cell_keeps cb12 k⟩)
        go_cut [14, 15] (fun sd so wq => ∃ wy g, wy = wq ∧ sd = .pointer (some ⟨g, 0, none⟩) ∧ so = .bool e3 ∧ Bx wy g e1 e2 ∧ wx6.heap.size ≤ g ∧ Keeps wx6 wy)
        case first =>
          go_region_held3 (fun w' => w'.cell? ⟨w.heap.size, 0, none⟩ = some (.int .i64 p) ∧ w'.cell? ⟨w.heap.size, 1, none⟩ = some (.int .i64 q)) (first | with_reducible exact kS.out _ (keeps_d0 wx6) | with_reducible exact kS.out _ (keeps_ad0 wx6 _) | with_reducible exact kS.out _ (kW) | with_reducible exact kS.out _ (kW.trans (keeps_alloc _ _)) | with_reducible exact kS.out _ (below_set2 kW lz _ _) | go_keep)
            ((first | (go_at_call 91; refine (fInt_any).mono ?_; rintro e wB ⟨rfl, kB⟩; (first | (have kZ : Bx wB wx6.heap.size 0 0 := Bx.kZ1 kB rfl; have lz : wx6.heap.size ≤ wx6.heap.size := (Nat.le_refl _); obtain ⟨z1, z2, z3, z4⟩ := id kZ) | (have kZ : Bx wB wx6.heap.size 0 0 := Bx.kZ2 kB rfl; have lz : wx6.heap.size ≤ wx6.heap.size := (Nat.le_refl _); obtain ⟨z1, z2, z3, z4⟩ := id kZ) | (have kZ := kZ.keeps kB; obtain ⟨z1, z2, z3, z4⟩ := id kZ) | (have kZ : Bx wB _ 0 0 := Bx.kZ2 kB rfl; have lz := kW.size; obtain ⟨z1, z2, z3, z4⟩ := id kZ) | skip); (first | (have kW : Keeps wx6 wB := kW.trans kB) | (have kW : Keeps wx6 wB := (kW.trans (keeps_alloc _ _)).trans kB) | (have kW : Keeps wx6 wB := keeps_d kB) | (have kW : Keeps wx6 wB := keeps_ad kB)); clear kB) | (go_at_call 105; refine (fSub_any (show QB 1 1 from fracB_qb fracB_11) (fracB_qb HFr.out)).mono ?_; rintro e wB ⟨rfl, kB⟩; rw [HE.out]; (first | (have kZ : Bx wB wx6.heap.size 0 0 := Bx.kZ1 kB rfl; have lz : wx6.heap.size ≤ wx6.heap.size := (Nat.le_refl _); obtain ⟨z1, z2, z3, z4⟩ := id kZ) | (have kZ : Bx wB wx6.heap.size 0 0 := Bx.kZ2 kB rfl; have lz : wx6.heap.size ≤ wx6.heap.size := (Nat.le_refl _); obtain ⟨z1, z2, z3, z4⟩ := id kZ) | (have kZ := kZ.keeps kB; obtain ⟨z1, z2, z3, z4⟩ := id kZ) | (have kZ : Bx wB _ 0 0 := Bx.kZ2 kB rfl; have lz := kW.size; obtain ⟨z1, z2, z3, z4⟩ := id kZ) | skip); (first | (have kW : Keeps wx6 wB := kW.trans kB) | (have kW : Keeps wx6 wB := (kW.trans (keeps_alloc _ _)).trans kB) | (have kW : Keeps wx6 wB := keeps_d kB) | (have kW : Keeps wx6 wB := keeps_ad kB)); clear kB)))
          all_goals (go_wp2_with fail; go_meet; first
            | exact ⟨_, _, rfl, rfl, rfl, Bx.new _ _ _ _, kW.size, kW.trans (keeps_alloc _ _)⟩
            | exact ⟨_, _, rfl, rfl, rfl, Bx.set (x := 0) (y := 0) kZ _ _, lz, below_set2 kW lz _ _⟩)
        case rest =>
          clear kS
          clear ca12 cb12
          obtain ⟨wx11, g11, rfl, rfl, rfl, b14, lg11, kx11⟩ := hcut
          replace b7 := b7.keeps kx11
          replace b8 := b8.keeps kx11
          replace b10 := b10.keeps kx11
          replace b12 := b12.keeps kx11
          replace kw := Keeps.trans kw kx11
          clear kx11
          have lt14 := b14.lt
          have sz15 := kw.size
          cases e3
          · replace HF := hid (show gS p q n i j = (0, 0, false) from HT.out.trans ((bindT_yes HW.out).trans ((bindT_yes HD.out).trans (bindT_no HE.out))))
            obtain ⟨ca16, cb16, fa16, fb16⟩ := id b8
            replace b7 := b7.set2 (p := (w.heap.size + 1)) (by omega) (.int .i64 0) (.int .i64 0)
            replace b10 := b10.set2 (p := (w.heap.size + 1)) (by omega) (.int .i64 0) (.int .i64 0)
            replace b12 := b12.set2 (p := (w.heap.size + 1)) (by omega) (.int .i64 0) (.int .i64 0)
            replace b14 := b14.set2 (p := (w.heap.size + 1)) (by omega) (.int .i64 0) (.int .i64 0)
            replace b8 := b8.set 0 0
            replace kw := below_set2 kw (p := (w.heap.size + 1)) (by omega) (.int .i64 0) (.int .i64 0)
            go_wp2_with fail
            clear ca16 cb16 fa16 fb16
            obtain ⟨ca0, cb0, fa0, fb0⟩ := id b8
            try simp only [Exit.inBlock, Exit.then]
            refine bodyPost_ret (v := .tuple #[.agg #[.int .i64 0, .int .i64 0], .bool false]) (by simp [results, Try.results249, go_sem, ca0, cb0]) rfl ⟨ret_fb (by rw [HF.out]) (by rw [HF.out]) (by rw [HF.out]), ?_⟩
            exact kw
          obtain ⟨x1, x2, x3, HX⟩ : ∃ r1 r2 r3, Hid (mkF (v1 * e1) (v2 * e2) = (r1, r2, r3)) := ⟨_, _, _, rfl⟩
          obtain ⟨ca16, cb16, fa16, fb16⟩ := id b10
          obtain ⟨ca17, cb17, fa17, fb17⟩ := id b14
          go_wp2_with fail
          clear ca16 cb16 fa16 fb16 ca17 cb17 fa17 fb17
          refine (fMul_any (fracB_qb (HPF.out (by first | rfl | trivial))) (fracB_qb (mkF_fine HE.out))).mono ?_
          rintro e w18 ⟨rfl, k18⟩
          rw [HX.out]
          replace b7 := b7.keeps k18
          replace b8 := b8.keeps k18
          replace b10 := b10.keeps k18
          replace b12 := b12.keeps k18
          replace b14 := b14.keeps k18
          replace kw := Keeps.trans kw k18
          have lt19 := b14.lt
          have sz20 := kw.size
          clear k18
          replace b7 := b7.keeps (keeps_alloc w18 (.cells #[.int .i64 x1, .int .i64 x2] 31))
          replace b8 := b8.keeps (keeps_alloc w18 (.cells #[.int .i64 x1, .int .i64 x2] 31))
          replace b10 := b10.keeps (keeps_alloc w18 (.cells #[.int .i64 x1, .int .i64 x2] 31))
          replace b12 := b12.keeps (keeps_alloc w18 (.cells #[.int .i64 x1, .int .i64 x2] 31))
          replace b14 := b14.keeps (keeps_alloc w18 (.cells #[.int .i64 x1, .int .i64 x2] 31))
          replace kw := Keeps.trans kw (keeps_alloc w18 (.cells #[.int .i64 x1, .int .i64 x2] 31))
          have b16 : Bx (w18.alloc (.cells #[.int .i64 x1, .int .i64 x2] 31)) w18.heap.size x1 x2 := Bx.new' (by simp)
          cases x3
          · replace HF := hid (show gS p q n i j = (0, 0, false) from HT.out.trans ((bindT_yes HW.out).trans ((bindT_yes HD.out).trans ((bindT_yes HE.out).trans (bindT_no HX.out)))))
            obtain ⟨ca21, cb21, fa21, fb21⟩ := id b8
            replace b7 := b7.set2 (p := (w.heap.size + 1)) (by omega) (.int .i64 0) (.int .i64 0)
            replace b10 := b10.set2 (p := (w.heap.size + 1)) (by omega) (.int .i64 0) (.int .i64 0)
            replace b12 := b12.set2 (p := (w.heap.size + 1)) (by omega) (.int .i64 0) (.int .i64 0)
            replace b14 := b14.set2 (p := (w.heap.size + 1)) (by omega) (.int .i64 0) (.int .i64 0)
            replace b16 := b16.set2 (p := (w.heap.size + 1)) (by omega) (.int .i64 0) (.int .i64 0)
            replace b8 := b8.set 0 0
            replace kw := below_set2 kw (p := (w.heap.size + 1)) (by omega) (.int .i64 0) (.int .i64 0)
            clear lt19
            go_wp2_with fail
            clear ca21 cb21 fa21 fb21
            obtain ⟨ca0, cb0, fa0, fb0⟩ := id b8
            try simp only [Exit.inBlock, Exit.then]
            refine bodyPost_ret (v := .tuple #[.agg #[.int .i64 0, .int .i64 0], .bool false]) (by simp [results, Try.results249, go_sem, ca0, cb0]) rfl ⟨ret_fb (by rw [HF.out]) (by rw [HF.out]) (by rw [HF.out]), ?_⟩
            exact kw
          obtain ⟨r1, r2, r3, HR⟩ : ∃ r1 r2 r3, Hid (mkF (x1 * d2) (x2 * d1) = (r1, r2, r3)) := ⟨_, _, _, rfl⟩
          replace HF := hid (show gS p q n i j = (r1, r2, r3) from HT.out.trans ((bindT_yes HW.out).trans ((bindT_yes HD.out).trans ((bindT_yes HE.out).trans ((bindT_yes HX.out).trans HR.out)))))
          obtain ⟨ca21, cb21, fa21, fb21⟩ := id b10
          obtain ⟨ca22, cb22, fa22, fb22⟩ := id b16
          replace b7 := b7.set2 (p := g1) (by omega) (.int .i64 x1) (.int .i64 x2)
          replace b8 := b8.set2 (p := g1) (by omega) (.int .i64 x1) (.int .i64 x2)
          replace b12 := b12.set2 (p := g1) (by omega) (.int .i64 x1) (.int .i64 x2)
          replace b14 := b14.set2 (p := g1) (by omega) (.int .i64 x1) (.int .i64 x2)
          replace b16 := b16.set2 (p := g1) (by omega) (.int .i64 x1) (.int .i64 x2)
          replace b10 := b10.set x1 x2
          replace kw := below_set2 kw (p := g1) (by omega) (.int .i64 x1) (.int .i64 x2)
          obtain ⟨ca23, cb23, fa23, fb23⟩ := id b10
          obtain ⟨ca24, cb24, fa24, fb24⟩ := id b12
          have ltS := hid lt19
          clear lt19
          go_wp2_with fail
          clear ca21 cb21 fa21 fb21 ca22 cb22 fa22 fb22 ca23 cb23 fa23 fb23 ca24 cb24 fa24 fb24
          have lt19 := ltS.out
          refine (fDiv_any (fracB_qb (mkF_fine HX.out)) (fracB_qb (mkF_fine HD'.out))).mono ?_
          rintro e w25 ⟨rfl, k25⟩
          rw [HR.out]
          replace b7 := b7.keeps k25
          replace b8 := b8.keeps k25
          replace b10 := b10.keeps k25
          replace b12 := b12.keeps k25
          replace b14 := b14.keeps k25
          replace b16 := b16.keeps k25
          replace kw := Keeps.trans kw k25
          have lt26 := b16.lt
          have sz27 := kw.size
          clear k25
          obtain ⟨ca28, cb28, fa28, fb28⟩ := id b8
          replace b7 := b7.set2 (p := (w.heap.size + 1)) (by omega) (.int .i64 r1) (.int .i64 r2)
          replace b10 := b10.set2 (p := (w.heap.size + 1)) (by omega) (.int .i64 r1) (.int .i64 r2)
          replace b12 := b12.set2 (p := (w.heap.size + 1)) (by omega) (.int .i64 r1) (.int .i64 r2)
          replace b14 := b14.set2 (p := (w.heap.size + 1)) (by omega) (.int .i64 r1) (.int .i64 r2)
          replace b16 := b16.set2 (p := (w.heap.size + 1)) (by omega) (.int .i64 r1) (.int .i64 r2)
          replace b8 := b8.set r1 r2
          replace kw := below_set2 kw (p := (w.heap.size + 1)) (by omega) (.int .i64 r1) (.int .i64 r2)
          go_wp2_with fail
          clear ca28 cb28 fa28 fb28
          obtain ⟨ca0, cb0, fa0, fb0⟩ := id b8
          try simp only [Exit.inBlock, Exit.then]
          refine bodyPost_ret (v := .tuple #[.agg #[.int .i64 r1, .int .i64 r2], .bool r3]) (by simp [results, Try.results249, go_sem, ca0, cb0]) rfl ⟨ret_fb (by rw [HF.out]) (by rw [HF.out]) (by rw [HF.out]), ?_⟩
          exact kw
      · have HT := hid (HN.out hc)
        cases v3
        · replace HF := hid (show gS p q n i j = (0, 0, false) from HT.out.trans (bindT_no HW.out))
          obtain ⟨ca11, cb11, fa11, fb11⟩ := id b8
          replace b7 := b7.set2 (p := (w.heap.size + 1)) (by omega) (.int .i64 0) (.int .i64 0)
          replace b10 := b10.set2 (p := (w.heap.size + 1)) (by omega) (.int .i64 0) (.int .i64 0)
          replace b12 := b12.set2 (p := (w.heap.size + 1)) (by omega) (.int .i64 0) (.int .i64 0)
          replace b8 := b8.set 0 0
          replace kw := below_set2 kw (p := (w.heap.size + 1)) (by omega) (.int .i64 0) (.int .i64 0)
          go_wp2_with fail
          clear ca11 cb11 fa11 fb11
          obtain ⟨ca0, cb0, fa0, fb0⟩ := id b8
          try simp only [Exit.inBlock, Exit.then]
          refine bodyPost_ret (v := .tuple #[.agg #[.int .i64 0, .int .i64 0], .bool false]) (by simp [results, Try.results249, go_sem, ca0, cb0]) rfl ⟨ret_fb (by rw [HF.out]) (by rw [HF.out]) (by rw [HF.out]), ?_⟩
          exact kw
        cases d3
        · replace HF := hid (show gS p q n i j = (0, 0, false) from HT.out.trans ((bindT_yes HW.out).trans (bindT_no HD.out)))
          obtain ⟨ca11, cb11, fa11, fb11⟩ := id b8
          replace b7 := b7.set2 (p := (w.heap.size + 1)) (by omega) (.int .i64 0) (.int .i64 0)
          replace b10 := b10.set2 (p := (w.heap.size + 1)) (by omega) (.int .i64 0) (.int .i64 0)
          replace b12 := b12.set2 (p := (w.heap.size + 1)) (by omega) (.int .i64 0) (.int .i64 0)
          replace b8 := b8.set 0 0
          replace kw := below_set2 kw (p := (w.heap.size + 1)) (by omega) (.int .i64 0) (.int .i64 0)
          go_wp2_with fail
          clear ca11 cb11 fa11 fb11
          obtain ⟨ca0, cb0, fa0, fb0⟩ := id b8
          try simp only [Exit.inBlock, Exit.then]
          refine bodyPost_ret (v := .tuple #[.agg #[.int .i64 0, .int .i64 0], .bool false]) (by simp [results, Try.results249, go_sem, ca0, cb0]) rfl ⟨ret_fb (by rw [HF.out]) (by rw [HF.out]) (by rw [HF.out]), ?_⟩
          exact kw
        obtain ⟨r1, r2, r3, HR⟩ : ∃ r1 r2 r3, Hid (mkF (v1 * d2) (v2 * d1) = (r1, r2, r3)) := ⟨_, _, _, rfl⟩
        replace HF := hid (show gS p q n i j = (r1, r2, r3) from HT.out.trans ((bindT_yes HW.out).trans ((bindT_yes HD.out).trans HR.out)))
        by_cases hj0 : j = 0
        · have j1 : ¬ ((j : Int) > 0) := by omega
          obtain ⟨ca11, cb11, fa11, fb11⟩ := id b10
          obtain ⟨ca12, cb12, fa12, fb12⟩ := id b12
          go_wp2_with fail
          clear ca11 cb11 fa11 fb11 ca12 cb12 fa12 fb12
          refine (fDiv_any (fracB_qb (HPF.out (by first | rfl | trivial))) (fracB_qb (mkF_fine HD'.out))).mono ?_
          rintro e w13 ⟨rfl, k13⟩
          rw [HR.out]
          replace b7 := b7.keeps k13
          replace b8 := b8.keeps k13
          replace b10 := b10.keeps k13
          replace b12 := b12.keeps k13
          replace kw := Keeps.trans kw k13
          have lt14 := b12.lt
          have sz15 := kw.size
          clear k13
          obtain ⟨ca16, cb16, fa16, fb16⟩ := id b8
          replace b7 := b7.set2 (p := (w.heap.size + 1)) (by omega) (.int .i64 r1) (.int .i64 r2)
          replace b10 := b10.set2 (p := (w.heap.size + 1)) (by omega) (.int .i64 r1) (.int .i64 r2)
          replace b12 := b12.set2 (p := (w.heap.size + 1)) (by omega) (.int .i64 r1) (.int .i64 r2)
          replace b8 := b8.set r1 r2
          replace kw := below_set2 kw (p := (w.heap.size + 1)) (by omega) (.int .i64 r1) (.int .i64 r2)
          go_wp2_with fail
          clear ca16 cb16 fa16 fb16
          obtain ⟨ca0, cb0, fa0, fb0⟩ := id b8
          try simp only [Exit.inBlock, Exit.then]
          refine bodyPost_ret (v := .tuple #[.agg #[.int .i64 r1, .int .i64 r2], .bool r3]) (by simp [results, Try.results249, go_sem, ca0, cb0]) rfl ⟨ret_fb (by rw [HF.out]) (by rw [HF.out]) (by rw [HF.out]), ?_⟩
          exact kw
        · have j1 : (j : Int) > 0 := by omega
          have j2 : ¬ ((j : Int) < (n : Int) - 1) := by omega
          obtain ⟨ca11, cb11, fa11, fb11⟩ := id b10
          obtain ⟨ca12, cb12, fa12, fb12⟩ := id b12
          go_wp2_with fail
          clear ca11 cb11 fa11 fb11 ca12 cb12 fa12 fb12
          refine (fDiv_any (fracB_qb (HPF.out (by first | rfl | trivial))) (fracB_qb (mkF_fine HD'.out))).mono ?_
          rintro e w13 ⟨rfl, k13⟩
          rw [HR.out]
          replace b7 := b7.keeps k13
          replace b8 := b8.keeps k13
          replace b10 := b10.keeps k13
          replace b12 := b12.keeps k13
          replace kw := Keeps.trans kw k13
          have lt14 := b12.lt
          have sz15 := kw.size
          clear k13
          obtain ⟨ca16, cb16, fa16, fb16⟩ := id b8
          replace b7 := b7.set2 (p := (w.heap.size + 1)) (by omega) (.int .i64 r1) (.int .i64 r2)
          replace b10 := b10.set2 (p := (w.heap.size + 1)) (by omega) (.int .i64 r1) (.int .i64 r2)
          replace b12 := b12.set2 (p := (w.heap.size + 1)) (by omega) (.int .i64 r1) (.int .i64 r2)
          replace b8 := b8.set r1 r2
          replace kw := below_set2 kw (p := (w.heap.size + 1)) (by omega) (.int .i64 r1) (.int .i64 r2)
          go_wp2_with fail
          clear ca16 cb16 fa16 fb16
          obtain ⟨ca0, cb0, fa0, fb0⟩ := id b8
          try simp only [Exit.inBlock, Exit.then]
          refine bodyPost_ret (v := .tuple #[.agg #[.int .i64 r1, .int .i64 r2], .bool r3]) (by simp [results, Try.results249, go_sem, ca0, cb0]) rfl ⟨ret_fb (by rw [HF.out]) (by rw [HF.out]) (by rw [HF.out]), ?_⟩
          exact kw
end Go.Proofs.Ytnopedjgagoahaa
