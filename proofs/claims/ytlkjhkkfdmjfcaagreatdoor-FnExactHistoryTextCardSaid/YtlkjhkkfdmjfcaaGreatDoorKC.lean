/- Contracts on fractions: gcdOf, fGcd, reduced, fMake, fGood; the laws' helpers over []Frac. -/
import Derived.Test.YtlkjhkkfdmjfcaaGreatDoorKB
import Derived.BigRegion
import Derived.Deep.SlicePairs
namespace Go.Proofs.YtlkjhkkfdmjfcaaGreatDoor
open Go.RowKit
set_option linter.unusedVariables false
set_option linter.unusedSimpArgs false

theorem ret_fb {a b c d : Int} {p q : Bool} (h1 : a = c) (h2 : b = d) (h3 : p = q) : Ending.returned (.tuple #[.agg #[.int .i64 a, .int .i64 b], .bool p]) = .returned (.tuple #[.agg #[.int .i64 c, .int .i64 d], .bool q]) := by rw [h1, h2, h3]
set_option maxHeartbeats 800000 in
theorem gcdOf_any {a b : Int} {w : World} (ha : -4611686018427387904 ≤ a ∧ a ≤ 4611686018427387904) (hb : -4611686018427387904 ≤ b ∧ b ≤ 4611686018427387904) :
    Calls Tryz.prog 147 #[.int .i64 a, .int .i64 b] w fun e w' => e = .returned (.int .i64 (Int.gcd a b)) ∧ Quiet w w' := by
  by_cases h1 : a < 0
  · by_cases h2 : b < 0
    · go_enter Tryz.func147, Tryz.ntmps147
      go_wp2_with fail
      go_loopw [0, 1] (fun s t wr => ∃ x y : Nat, s = .int .i64 x ∧ t = .int .i64 y ∧ (x : Int) ≤ 4611686018427387904 ∧ (y : Int) ≤ 4611686018427387904 ∧ Hid (Int.gcd x y = Int.gcd a b) ∧ Quiet w wr) (fun _ t _ => (intOf t).toNat)
      case atStart => exact ⟨a.natAbs, b.natAbs, by go_num, by go_num, by omega, by omega, by unfold Hid; simp [Int.gcd], Quiet.refl _⟩
      case round =>
        obtain ⟨x, y, rfl, rfl, hx, hy, hg, hq⟩ := hrel
        by_cases h0 : y = 0
        · subst h0
          have t1 : (((0 : Nat) : Int) != 0) = false := by decide
          have HG := hid (show (x : Int) = (Int.gcd a b : Int) by have := hg.out; simp at this; omega)
          go_wp2
          go_ret
          exact ⟨ret_int HG.out, hq⟩
        · have t1 : ((y : Int) != 0) = true := by rw [bne_iff_ne]; omega
          have HM := hid (show ((x % y : Nat) : Int) = (x : Int) % (y : Int) from Int.natCast_emod x y)
          have HG := hid (gcd_emod (x : Int) (y : Int))
          have hy1 : (1 : Int) ≤ (y : Int) := by omega
          have hm := Nat.mod_lt x (show y > 0 by omega)
          clear h0
          go_wp2_with fail
          go_region
          go_wp2
          go_roundw
          case rel => exact ⟨y, x % y, rfl, by rw [HM.out], hy, by omega, by have h1 := HG.out; have h2 := hg.out; have h3 := HM.out; unfold Hid; rw [h3, h1, h2], hq.step 1⟩
          case measure => simp [intOf]; have := HM.out; omega
    · have h2' : ¬ b < 0 := h2
      go_enter Tryz.func147, Tryz.ntmps147
      go_wp2_with fail
      go_loopw [0, 1] (fun s t wr => ∃ x y : Nat, s = .int .i64 x ∧ t = .int .i64 y ∧ (x : Int) ≤ 4611686018427387904 ∧ (y : Int) ≤ 4611686018427387904 ∧ Hid (Int.gcd x y = Int.gcd a b) ∧ Quiet w wr) (fun _ t _ => (intOf t).toNat)
      case atStart => exact ⟨a.natAbs, b.natAbs, by go_num, by go_num, by omega, by omega, by unfold Hid; simp [Int.gcd], Quiet.refl _⟩
      case round =>
        obtain ⟨x, y, rfl, rfl, hx, hy, hg, hq⟩ := hrel
        by_cases h0 : y = 0
        · subst h0
          have t1 : (((0 : Nat) : Int) != 0) = false := by decide
          have HG := hid (show (x : Int) = (Int.gcd a b : Int) by have := hg.out; simp at this; omega)
          go_wp2
          go_ret
          exact ⟨ret_int HG.out, hq⟩
        · have t1 : ((y : Int) != 0) = true := by rw [bne_iff_ne]; omega
          have HM := hid (show ((x % y : Nat) : Int) = (x : Int) % (y : Int) from Int.natCast_emod x y)
          have HG := hid (gcd_emod (x : Int) (y : Int))
          have hy1 : (1 : Int) ≤ (y : Int) := by omega
          have hm := Nat.mod_lt x (show y > 0 by omega)
          clear h0
          go_wp2_with fail
          go_region
          go_wp2
          go_roundw
          case rel => exact ⟨y, x % y, rfl, by rw [HM.out], hy, by omega, by have h1 := HG.out; have h2 := hg.out; have h3 := HM.out; unfold Hid; rw [h3, h1, h2], hq.step 1⟩
          case measure => simp [intOf]; have := HM.out; omega
  · by_cases h2 : b < 0
    · go_enter Tryz.func147, Tryz.ntmps147
      go_wp2_with fail
      go_loopw [0, 1] (fun s t wr => ∃ x y : Nat, s = .int .i64 x ∧ t = .int .i64 y ∧ (x : Int) ≤ 4611686018427387904 ∧ (y : Int) ≤ 4611686018427387904 ∧ Hid (Int.gcd x y = Int.gcd a b) ∧ Quiet w wr) (fun _ t _ => (intOf t).toNat)
      case atStart => exact ⟨a.natAbs, b.natAbs, by go_num, by go_num, by omega, by omega, by unfold Hid; simp [Int.gcd], Quiet.refl _⟩
      case round =>
        obtain ⟨x, y, rfl, rfl, hx, hy, hg, hq⟩ := hrel
        by_cases h0 : y = 0
        · subst h0
          have t1 : (((0 : Nat) : Int) != 0) = false := by decide
          have HG := hid (show (x : Int) = (Int.gcd a b : Int) by have := hg.out; simp at this; omega)
          go_wp2
          go_ret
          exact ⟨ret_int HG.out, hq⟩
        · have t1 : ((y : Int) != 0) = true := by rw [bne_iff_ne]; omega
          have HM := hid (show ((x % y : Nat) : Int) = (x : Int) % (y : Int) from Int.natCast_emod x y)
          have HG := hid (gcd_emod (x : Int) (y : Int))
          have hy1 : (1 : Int) ≤ (y : Int) := by omega
          have hm := Nat.mod_lt x (show y > 0 by omega)
          clear h0
          go_wp2_with fail
          go_region
          go_wp2
          go_roundw
          case rel => exact ⟨y, x % y, rfl, by rw [HM.out], hy, by omega, by have h1 := HG.out; have h2 := hg.out; have h3 := HM.out; unfold Hid; rw [h3, h1, h2], hq.step 1⟩
          case measure => simp [intOf]; have := HM.out; omega
    · go_enter Tryz.func147, Tryz.ntmps147
      go_wp2_with fail
      go_loopw [0, 1] (fun s t wr => ∃ x y : Nat, s = .int .i64 x ∧ t = .int .i64 y ∧ (x : Int) ≤ 4611686018427387904 ∧ (y : Int) ≤ 4611686018427387904 ∧ Hid (Int.gcd x y = Int.gcd a b) ∧ Quiet w wr) (fun _ t _ => (intOf t).toNat)
      case atStart => exact ⟨a.natAbs, b.natAbs, by go_num, by go_num, by omega, by omega, by unfold Hid; simp [Int.gcd], Quiet.refl _⟩
      case round =>
        obtain ⟨x, y, rfl, rfl, hx, hy, hg, hq⟩ := hrel
        by_cases h0 : y = 0
        · subst h0
          have t1 : (((0 : Nat) : Int) != 0) = false := by decide
          have HG := hid (show (x : Int) = (Int.gcd a b : Int) by have := hg.out; simp at this; omega)
          go_wp2
          go_ret
          exact ⟨ret_int HG.out, hq⟩
        · have t1 : ((y : Int) != 0) = true := by rw [bne_iff_ne]; omega
          have HM := hid (show ((x % y : Nat) : Int) = (x : Int) % (y : Int) from Int.natCast_emod x y)
          have HG := hid (gcd_emod (x : Int) (y : Int))
          have hy1 : (1 : Int) ≤ (y : Int) := by omega
          have hm := Nat.mod_lt x (show y > 0 by omega)
          clear h0
          go_wp2_with fail
          go_region
          go_wp2
          go_roundw
          case rel => exact ⟨y, x % y, rfl, by rw [HM.out], hy, by omega, by have h1 := HG.out; have h2 := hg.out; have h3 := HM.out; unfold Hid; rw [h3, h1, h2], hq.step 1⟩
          case measure => simp [intOf]; have := HM.out; omega
set_option maxHeartbeats 800000 in
theorem fGcd_any {a b : Int} {w : World} (ha : -4611686018427387904 ≤ a ∧ a ≤ 4611686018427387904) (hb : -4611686018427387904 ≤ b ∧ b ≤ 4611686018427387904) :
    Calls Tryz.prog 119 #[.int .i64 a, .int .i64 b] w fun e w' => e = .returned (.int .i64 (Int.gcd a b)) ∧ w = w' := by
  go_enter Tryz.func119, Tryz.ntmps119
  go_wp2_with fail
  go_loop [0, 1] (fun s t => ∃ x y : Int, s = .int .i64 x ∧ t = .int .i64 y ∧ (-4611686018427387904 ≤ x ∧ x ≤ 4611686018427387904) ∧ (-4611686018427387904 ≤ y ∧ y ≤ 4611686018427387904) ∧ Hid (Int.gcd x y = Int.gcd a b)) (fun _ t => (intOf t).natAbs)
  case atStart => exact ⟨a, b, rfl, rfl, ha, hb, rfl⟩
  case round =>
    obtain ⟨x, y, rfl, rfl, hx, hy, hg⟩ := hrel
    by_cases h0 : y = 0
    · subst h0
      have t1 : ((0 : Int) != 0) = false := by decide
      have HG := hid (show max x (-x) = (Int.gcd a b : Int) by have := hg.out; simp at this; omega)
      go_wp2_with (go_at_call 156; refine (l1Abs_any (by omega) (by omega)).mono ?_; rintro e w' ⟨rfl, rfl⟩)
      go_ret
      exact ⟨ret_int HG.out, rfl⟩
    · have t1 : (y != 0) = true := by rw [bne_iff_ne]; exact h0
      have t2 : (y == 0) = false := by rw [beq_eq_false_iff_ne]; exact h0
      have HG := hid (gcd_tmod x y)
      have hm := tmod_abs_lt x y h0
      have hm2 : -4611686018427387904 ≤ x.tmod y ∧ x.tmod y ≤ 4611686018427387904 := by omega
      clear h0
      go_wp2_with fail
      go_round
      case rel => exact ⟨y, x.tmod y, rfl, rfl, hy, hm2, by have h1 := HG.out; have h2 := hg.out; unfold Hid; rw [h1, h2]⟩
      case measure => simp only [intOf]; simpa [Int.natAbs_tmod] using hm
set_option maxHeartbeats 800000 in
theorem fGood_any {n d : Int} {w : World} : Calls Tryz.prog 120 #[.agg #[.int .i64 n, .int .i64 d]] w fun e w' => e = .returned (.bool (fracB n d)) ∧ Keeps w w' := by
  cases h1 : inB d 1 1000000000 with
  | false =>
    have HF := hid (show fracB n d = false by rw [Bool.eq_false_iff]; intro h; have := (fracB_true.1 h).1; have := inB_false.1 h1; omega)
    have H1 := hid h1
    clear h1
    go_enter Tryz.func120, Tryz.ntmps120
    go_wp2_with (go_at_call 87; ((with_reducible refine (l1In_any d _ _ _).mono ?_); rintro e w' ⟨rfl, rfl⟩; rw [H1.out]))
    go_ret
    exact ⟨ret_bool HF.out.symm, keeps_alloc _ _⟩
  | true =>
    cases h2 : inB n (-1000000000) 1000000000 with
    | false =>
      have HF := hid (show fracB n d = false by rw [Bool.eq_false_iff]; intro h; have := (fracB_true.1 h).2.1; have := inB_false.1 h2; omega)
      have H1 := hid h1
      have H2 := hid h2
      clear h1 h2
      go_enter Tryz.func120, Tryz.ntmps120
      go_wp2_with fail
      refine (l1In_any d _ _ _).mono ?_
      rintro e w' ⟨rfl, rfl⟩
      rw [H1.out]
      go_wp2_with fail
      refine (l1In_any n _ _ _).mono ?_
      rintro e w' ⟨rfl, rfl⟩
      rw [H2.out]
      go_wp2_with fail
      go_ret
      exact ⟨ret_bool HF.out.symm, keeps_alloc _ _⟩
    | true =>
      have i1 := inB_true.1 h1
      have i2 := inB_true.1 h2
      have HF := hid (show ((Int.gcd n d : Int) == 1) = fracB n d by
        rw [Bool.eq_iff_iff, fracB_true, beq_iff_eq]; omega)
      have H1 := hid h1
      have H2 := hid h2
      clear h1 h2
      go_enter Tryz.func120, Tryz.ntmps120
      go_wp2_with fail
      refine (l1In_any d _ _ _).mono ?_
      rintro e w' ⟨rfl, rfl⟩
      rw [H1.out]
      go_wp2_with fail
      refine (l1In_any n _ _ _).mono ?_
      rintro e w' ⟨rfl, rfl⟩
      rw [H2.out]
      go_wp2_with fail
      refine (fGcd_any (by omega) (by omega)).mono ?_
      rintro e w' ⟨rfl, rfl⟩
      go_wp2_with fail
      go_ret
      exact ⟨ret_bool HF.out, keeps_alloc _ _⟩

/-- n/d as a valid fraction, where it is one; also for d = 0. -/
def mkF (n d : Int) : Int × Int × Bool := if d = 0 then (0, 0, false) else red n d
theorem mkF_zero (n : Int) : mkF n 0 = (0, 0, false) := by simp [mkF]
theorem mkF_red {n d : Int} (h : d ≠ 0) : mkF n d = red n d := by simp [mkF, h]
theorem red_of {n d : Int} (h : d ≠ 0) : (fracB (redN n d) (redD n d) = true → red n d = (redN n d, redD n d, true)) ∧ (fracB (redN n d) (redD n d) = false → red n d = (0, 0, false)) := by
  rw [red_frac h]; constructor <;> intro e <;> simp [red, e]
set_option maxHeartbeats 1600000 in
theorem fMake_any {n d : Int} {w : World} (hn : -4611686018427387904 ≤ n ∧ n ≤ 4611686018427387904) (hd : -4611686018427387904 ≤ d ∧ d ≤ 4611686018427387904) :
    Calls Tryz.prog 79 #[.int .i64 n, .int .i64 d] w fun e w' => e = .returned (.tuple #[.agg #[.int .i64 (mkF n d).1, .int .i64 (mkF n d).2.1], .bool (mkF n d).2.2]) ∧ Keeps w w' := by
  by_cases h0 : d = 0
  · subst h0
    have HF := hid (mkF_zero n)
    have t1 : ((0 : Int) == 0) = true := by decide
    go_enter Tryz.func79, Tryz.ntmps79
    go_wp2_with fail
    refine bodyPost_ret (v := .tuple #[.agg #[.int .i64 0, .int .i64 0], .bool false]) (by simp [results, Tryz.results79, go_sem]) rfl ⟨ret_fb (by rw [HF.out]) (by rw [HF.out]) (by rw [HF.out]), ?_⟩
    exact keeps_alloc w _
  rw [mkF_red h0]
  have t1 : (d == 0) = false := by rw [beq_eq_false_iff_ne]; exact h0
  have hg := gcd_pos (n := n) h0
  have hN := quo_le (g := (Int.gcd n d : Int)) (by omega) hn
  have hD := quo_le (g := (Int.gcd n d : Int)) (by omega) hd
  rw [← tdiv_gcd_left] at hN
  rw [← tdiv_gcd_right] at hD
  have HN := hid (tdiv_gcd_left n d)
  have HD := hid (tdiv_gcd_right n d)
  have hgl := gcd_le (n := n) h0 hd
  obtain ⟨rn, HRN⟩ : ∃ r, Hid (redN n d = r) := ⟨_, rfl⟩
  obtain ⟨rd, HRD⟩ : ∃ r, Hid (redD n d = r) := ⟨_, rfl⟩
  obtain ⟨g, HG⟩ : ∃ g : Nat, Hid (Int.gcd n d = g) := ⟨_, rfl⟩
  have e1 := HRN.out
  have e2 := HRD.out
  unfold redN at e1
  unfold redD at e2
  rw [HG.out] at hg hN hD HN HD hgl e1 e2
  rw [← HN.out] at e1
  rw [← HD.out] at e2
  by_cases hneg : d < 0
  · rw [if_pos hneg] at e1 e2
    have HE1 := hid e1
    have HE2 := hid e2
    have t2 : (-(g : Int) == 0) = false := by rw [beq_eq_false_iff_ne]; omega
    clear e1 e2
    go_enter Tryz.func79, Tryz.ntmps79
    go_wp2_with fail
    refine (fGcd_any hn hd).mono ?_
    rintro e w1 ⟨rfl, rfl⟩
    rw [HG.out]
    go_wp2_with fail
    go_region
    rw [HE1.out, HE2.out]
    clear HE1 HE2 hN hD HN HD hn hd
    cases hv : fracB rn rd with
    | true =>
      have HF := hid ((red_of (n := n) (d := d) h0).1 (by rw [HRN.out, HRD.out]; exact hv))
      have HV := hid hv
      clear hv h0
      go_wp2_with fail
      refine (fGood_any).mono ?_
      rintro e w1 ⟨rfl, k1⟩
      rw [HV.out]
      have c1 := k1.cell (p := ⟨w.heap.size, 0, none⟩) (by simp; omega)
      have c2 := k1.cell (p := ⟨w.heap.size, 1, none⟩) (by simp; omega)
      have c3 := k1.cell (p := ⟨w.heap.size + 1, 0, none⟩) (by simp)
      have c4 := k1.cell (p := ⟨w.heap.size + 1, 1, none⟩) (by simp)
      have f1 := k1.frozen (p := ⟨w.heap.size, 0, none⟩) (by simp; omega)
      have f2 := k1.frozen (p := ⟨w.heap.size, 1, none⟩) (by simp; omega)
      have HK := hid (show Keeps w w1 from Below.trans (((Below.refl w.heap.size w).alloc (Nat.le_refl _) _).alloc (by simp) _).drew (k1.mono (by simp; omega)))
      simp [go_sem] at c1 c2 c3 c4 f1 f2
      clear k1
      go_wp2_with fail
      refine bodyPost_ret (v := .tuple #[.agg #[.int .i64 rn, .int .i64 rd], .bool true]) (by simp [results, Tryz.results79, go_sem, c1, c2]) rfl ⟨ret_fb (by rw [HF.out]; exact HRN.out.symm) (by rw [HF.out]; exact HRD.out.symm) (by rw [HF.out]), ?_⟩
      exact Below.setCell (Below.setCell HK.out (Nat.le_refl _) _) (Nat.le_refl _) _
    | false =>
      have HF := hid ((red_of (n := n) (d := d) h0).2 (by rw [HRN.out, HRD.out]; exact hv))
      have HV := hid hv
      clear hv h0
      go_wp2_with fail
      refine (fGood_any).mono ?_
      rintro e w1 ⟨rfl, k1⟩
      rw [HV.out]
      have c1 := k1.cell (p := ⟨w.heap.size, 0, none⟩) (by simp; omega)
      have c2 := k1.cell (p := ⟨w.heap.size, 1, none⟩) (by simp; omega)
      have c3 := k1.cell (p := ⟨w.heap.size + 1, 0, none⟩) (by simp)
      have c4 := k1.cell (p := ⟨w.heap.size + 1, 1, none⟩) (by simp)
      have f1 := k1.frozen (p := ⟨w.heap.size, 0, none⟩) (by simp; omega)
      have f2 := k1.frozen (p := ⟨w.heap.size, 1, none⟩) (by simp; omega)
      have HK := hid (show Keeps w w1 from Below.trans (((Below.refl w.heap.size w).alloc (Nat.le_refl _) _).alloc (by simp) _).drew (k1.mono (by simp; omega)))
      simp [go_sem] at c1 c2 c3 c4 f1 f2
      clear k1
      go_wp2_with fail
      refine bodyPost_ret (v := .tuple #[.agg #[.int .i64 0, .int .i64 0], .bool false]) (by simp [results, Tryz.results79, go_sem, c1, c2]) rfl ⟨ret_fb (by rw [HF.out]) (by rw [HF.out]) (by rw [HF.out]), ?_⟩
      exact Below.setCell (Below.setCell HK.out (Nat.le_refl _) _) (Nat.le_refl _) _
  · rw [if_neg hneg] at e1 e2
    have HE1 := hid e1
    have HE2 := hid e2
    have t2 : ((g : Int) == 0) = false := by rw [beq_eq_false_iff_ne]; omega
    clear e1 e2
    go_enter Tryz.func79, Tryz.ntmps79
    go_wp2_with fail
    refine (fGcd_any hn hd).mono ?_
    rintro e w1 ⟨rfl, rfl⟩
    rw [HG.out]
    go_wp2_with fail
    go_region
    rw [HE1.out, HE2.out]
    clear HE1 HE2 hN hD HN HD hn hd
    cases hv : fracB rn rd with
    | true =>
      have HF := hid ((red_of (n := n) (d := d) h0).1 (by rw [HRN.out, HRD.out]; exact hv))
      have HV := hid hv
      clear hv h0
      go_wp2_with fail
      refine (fGood_any).mono ?_
      rintro e w1 ⟨rfl, k1⟩
      rw [HV.out]
      have c1 := k1.cell (p := ⟨w.heap.size, 0, none⟩) (by simp; omega)
      have c2 := k1.cell (p := ⟨w.heap.size, 1, none⟩) (by simp; omega)
      have c3 := k1.cell (p := ⟨w.heap.size + 1, 0, none⟩) (by simp)
      have c4 := k1.cell (p := ⟨w.heap.size + 1, 1, none⟩) (by simp)
      have f1 := k1.frozen (p := ⟨w.heap.size, 0, none⟩) (by simp; omega)
      have f2 := k1.frozen (p := ⟨w.heap.size, 1, none⟩) (by simp; omega)
      have HK := hid (show Keeps w w1 from Below.trans (((Below.refl w.heap.size w).alloc (Nat.le_refl _) _).alloc (by simp) _).drew (k1.mono (by simp; omega)))
      simp [go_sem] at c1 c2 c3 c4 f1 f2
      clear k1
      go_wp2_with fail
      refine bodyPost_ret (v := .tuple #[.agg #[.int .i64 rn, .int .i64 rd], .bool true]) (by simp [results, Tryz.results79, go_sem, c1, c2]) rfl ⟨ret_fb (by rw [HF.out]; exact HRN.out.symm) (by rw [HF.out]; exact HRD.out.symm) (by rw [HF.out]), ?_⟩
      exact Below.setCell (Below.setCell HK.out (Nat.le_refl _) _) (Nat.le_refl _) _
    | false =>
      have HF := hid ((red_of (n := n) (d := d) h0).2 (by rw [HRN.out, HRD.out]; exact hv))
      have HV := hid hv
      clear hv h0
      go_wp2_with fail
      refine (fGood_any).mono ?_
      rintro e w1 ⟨rfl, k1⟩
      rw [HV.out]
      have c1 := k1.cell (p := ⟨w.heap.size, 0, none⟩) (by simp; omega)
      have c2 := k1.cell (p := ⟨w.heap.size, 1, none⟩) (by simp; omega)
      have c3 := k1.cell (p := ⟨w.heap.size + 1, 0, none⟩) (by simp)
      have c4 := k1.cell (p := ⟨w.heap.size + 1, 1, none⟩) (by simp)
      have f1 := k1.frozen (p := ⟨w.heap.size, 0, none⟩) (by simp; omega)
      have f2 := k1.frozen (p := ⟨w.heap.size, 1, none⟩) (by simp; omega)
      have HK := hid (show Keeps w w1 from Below.trans (((Below.refl w.heap.size w).alloc (Nat.le_refl _) _).alloc (by simp) _).drew (k1.mono (by simp; omega)))
      simp [go_sem] at c1 c2 c3 c4 f1 f2
      clear k1
      go_wp2_with fail
      refine bodyPost_ret (v := .tuple #[.agg #[.int .i64 0, .int .i64 0], .bool false]) (by simp [results, Tryz.results79, go_sem, c1, c2]) rfl ⟨ret_fb (by rw [HF.out]) (by rw [HF.out]) (by rw [HF.out]), ?_⟩
      exact Below.setCell (Below.setCell HK.out (Nat.le_refl _) _) (Nat.le_refl _) _

theorem eqFrac_true {n d : Int} {w : World} : Calls Tryz.prog 109 #[.agg #[.int .i64 n, .int .i64 d], .agg #[.int .i64 n, .int .i64 d]] w fun e w' => e = .returned (.bool true) ∧ Keeps w w' := by
  have t1 : (n != n) = false := by simp
  have t2 : (d != d) = false := by simp
  go_enter Tryz.func109, Tryz.ntmps109
  go_wp2_with fail
  go_ret
  exact ⟨rfl, (keeps_alloc _ _).trans (keeps_alloc _ _)⟩
end Go.Proofs.YtlkjhkkfdmjfcaaGreatDoor

/- Arithmetic of fractions: fAdd, fSub, fMul, fDiv, fInt, fCmp, fGreater of the reference; IsFrac, AddFrac, SubFrac, MulFrac, DivFrac, cmpFrac of the program. -/
namespace Go.Proofs.YtlkjhkkfdmjfcaaGreatDoor
open Go.RowKit
set_option linter.unusedVariables false
set_option linter.unusedSimpArgs false

/-- Numerator and denominator are small numbers. -/
def QB (n d : Int) : Prop := (-1000000000 ≤ n ∧ n ≤ 1000000000) ∧ (-1000000000 ≤ d ∧ d ≤ 1000000000)
theorem mul_bd {a b : Int} (ha : -1000000000 ≤ a ∧ a ≤ 1000000000) (hb : -1000000000 ≤ b ∧ b ≤ 1000000000) : -1000000000000000000 ≤ a * b ∧ a * b ≤ 1000000000000000000 := by
  have h := Nat.mul_le_mul (show a.natAbs ≤ 1000000000 by omega) (show b.natAbs ≤ 1000000000 by omega)
  rw [← Int.natAbs_mul] at h
  omega
theorem fracB_qb {n d : Int} (h : fracB n d = true) : QB n d := by have := fracB_true.1 h; unfold QB; omega
theorem mkF_ok {n d : Int} (h : (mkF n d).2.2 = true) : fracB (mkF n d).1 (mkF n d).2.1 = true := by
  by_cases h0 : d = 0
  · subst h0; rw [mkF_zero] at h; cases h
  · rw [mkF_red h0] at *
    unfold red at *
    split at h
    · rename_i ho; simp only [ho, if_true]; rw [red_frac h0]; exact ho
    · cases h
theorem mkF_fail {n d : Int} (h : (mkF n d).2.2 = false) : mkF n d = (0, 0, false) := by
  unfold mkF at *
  split
  · rfl
  · rename_i h0
    simp only [h0, if_false] at h
    unfold red at *
    split
    · rename_i ho; simp [ho] at h
    · rfl
theorem mkF_qb (n d : Int) : QB (mkF n d).1 (mkF n d).2.1 := by
  cases h : (mkF n d).2.2 with
  | true => exact fracB_qb (mkF_ok h)
  | false => rw [mkF_fail h]; unfold QB; simp

theorem fInt_any {n : Int} {w : World} : Calls Tryz.prog 173 #[.int .i64 n] w fun e w' => e = .returned (.agg #[.int .i64 n, .int .i64 1]) ∧ Keeps w w' := by
  go_enter Tryz.func173, Tryz.ntmps173
  go_wp2_with fail
  refine bodyPost_ret (v := .agg #[.int .i64 n, .int .i64 1]) (by simp [results, Tryz.results173, go_sem]) rfl ⟨rfl, ?_⟩
  exact keeps_alloc _ _
/-- How two fractions compare. -/
def cmpQ (a b c d : Int) : Int := if a * d < c * b then -1 else if c * b < a * d then 1 else 0
theorem cmpQ_lt {a b c d : Int} (h : a * d < c * b) : cmpQ a b c d = -1 := if_pos h
theorem cmpQ_gt {a b c d : Int} (h : c * b < a * d) : cmpQ a b c d = 1 := by unfold cmpQ; rw [if_neg (by omega), if_pos h]
theorem cmpQ_eq {a b c d : Int} (h1 : ¬ a * d < c * b) (h2 : ¬ c * b < a * d) : cmpQ a b c d = 0 := by unfold cmpQ; rw [if_neg h1, if_neg h2]
set_option maxHeartbeats 800000 in
theorem IsFrac_any {n d : Int} {w : World} : Calls Tryz.prog 105 #[.agg #[.int .i64 n, .int .i64 d]] w fun e w' => e = .returned (.bool (fracB n d)) ∧ Keeps w w' := by
  have hk := keeps_alloc w (.cells #[.int .i64 n, .int .i64 d] 46)
  by_cases h1 : 1 ≤ d
  rotate_left
  · have HF := hid (show fracB n d = false by rw [Bool.eq_false_iff]; intro h; have := fracB_true.1 h; omega)
    go_enter Tryz.func105, Tryz.ntmps105
    go_wp2
    go_ret
    exact ⟨ret_bool HF.out.symm, hk⟩
  by_cases h2 : d ≤ 1000000000
  rotate_left
  · have HF := hid (show fracB n d = false by rw [Bool.eq_false_iff]; intro h; have := fracB_true.1 h; omega)
    go_enter Tryz.func105, Tryz.ntmps105
    go_wp2
    go_ret
    exact ⟨ret_bool HF.out.symm, hk⟩
  by_cases h3 : -1000000000 ≤ n
  rotate_left
  · have HF := hid (show fracB n d = false by rw [Bool.eq_false_iff]; intro h; have := fracB_true.1 h; omega)
    go_enter Tryz.func105, Tryz.ntmps105
    go_wp2
    go_ret
    exact ⟨ret_bool HF.out.symm, hk⟩
  by_cases h4 : n ≤ 1000000000
  rotate_left
  · have HF := hid (show fracB n d = false by rw [Bool.eq_false_iff]; intro h; have := fracB_true.1 h; omega)
    go_enter Tryz.func105, Tryz.ntmps105
    go_wp2
    go_ret
    exact ⟨ret_bool HF.out.symm, hk⟩
  have HF := hid (show ((Int.gcd n d : Int) == 1) = fracB n d by rw [Bool.eq_iff_iff, fracB_true, beq_iff_eq]; omega)
  go_enter Tryz.func105, Tryz.ntmps105
  go_wp2_with fail
  refine (gcdOf_any (by omega) (by omega)).mono ?_
  rintro e w1 ⟨rfl, q1⟩
  go_wp2_with fail
  go_ret
  exact ⟨ret_bool HF.out, hk.trans q1.keeps⟩
/-- The greater of two fractions, the first of two alike. -/
def maxQ (f g : Int × Int) : Int × Int := if cmpQ f.1 f.2 g.1 g.2 < 0 then g else f
end Go.Proofs.YtlkjhkkfdmjfcaaGreatDoor

/- How arguments that are fractions and lists of fractions are opened; and the laws' copies of them. -/
namespace Go.Proofs.YtlkjhkkfdmjfcaaGreatDoor
open Go.ChangeShapes Go.WideShapes Go.ChangeAt Go.RowKit Go.Deep
set_option linter.unusedVariables false
set_option linter.unusedSimpArgs false

/-- An int64. -/
def I64 (x : Int) : Prop := -9223372036854775808 ≤ x ∧ x ≤ 9223372036854775807
def QWide (l : List (Int × Int)) : Prop := ∀ j, I64 (l.getD j (0, 0)).1 ∧ I64 (l.getD j (0, 0)).2
def FracsArg (w : World) (A : Option Addr) (n : Nat) (l : List (Int × Int)) : Prop :=
  n ≤ maxLen ∧ (n ≤ 67108864 → Fracs w 0 w.heap.size A n l) ∧ QWide l
theorem FracsArg.fracs {w : World} {A : Option Addr} {n : Nat} {xs : List (Int × Int)} (h : FracsArg w A n xs) (hn : n ≤ 67108864) : Fracs w 0 w.heap.size A n xs := h.2.1 hn
theorem qwide_nil : QWide [] := fun j => by simp [I64]
theorem getD_map_range {α : Type} (f : Nat → α) (n j : Nat) (d : α) : ((List.range n).map f).getD j d = if j < n then f j else d := by
  by_cases h : j < n
  · simp [List.getD, h]
  · simp [List.getD, h]

theorem cells_int : Tryz.prog.cellsOf 3 = 1 := by kernel_rfl
section
variable {H : Type} {enc : TypeId × Value → H} {w : World} {spare : Nat → Bool} {held : Bool}
theorem cells_frac : Tryz.prog.cellsOf 72 = 2 := by kernel_rfl
set_option maxRecDepth 100000 in
theorem open_arg_frac {r : Reach} {b0 : Nat} {v : Value} {d : DataW H} {p : List MemPlace} (hv : Value.okWide Tryz.prog w r b0 72 v) (h : DataW.Trod enc Tryz.prog w 0 (fun _ => true) held 72 v d p) :
    ∃ a b, v = .agg #[.int .i64 a, .int .i64 b] ∧ I64 a ∧ I64 b := by
  obtain ⟨cs, rfl, hsz⟩ := okWide_struct Tryz.underlying72 hv
  rw [cells_frac] at hsz
  obtain ⟨l⟩ := cs
  match l, hsz with
  | [c0, c1], _ =>
    obtain ⟨fuel, hf⟩ := h
    obtain ⟨y0, y1, m, _, _, h0, h1⟩ := trod_struct2 Tryz.underlying72 hf
    simp [Value.cells, cells_int] at h0 h1
    obtain ⟨a, ha, _, wa⟩ := DataW.trod_int Tryz.underlying3 h0
    obtain ⟨b, hb, _, wb⟩ := DataW.trod_int Tryz.underlying3 h1
    simp at ha hb
    exact ⟨a, b, by rw [ha, hb], bounds_i64 wa, bounds_i64 wb⟩
end
set_option maxHeartbeats 800000 in
theorem toFrac_any {n d : Int} {w : World} : Calls Tryz.prog 102 #[.agg #[.int .i64 n, .int .i64 d]] w fun e w' => e = .returned (.agg #[.int .i64 n, .int .i64 d]) ∧ Keeps w w' := by
  go_enter Tryz.func102, Tryz.ntmps102
  go_wp2_with fail
  refine bodyPost_ret (v := .agg #[.int .i64 n, .int .i64 d]) (by simp [results, Tryz.results102, go_sem]) rfl ⟨rfl, ?_⟩
  exact (((Below.refl w.heap.size w).alloc (Nat.le_refl _) _).alloc (by simp) _).alloc (by simp; omega) _
end Go.Proofs.YtlkjhkkfdmjfcaaGreatDoor

