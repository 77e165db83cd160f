/- Arithmetic of fractions: fAdd, fSub, fMul, fDiv, fInt, fCmp, fGreater of the reference; IsFrac, AddFrac, SubFrac, MulFrac, DivFrac, cmpFrac of the program. -/
import Derived.Test.YtkpliolafkdijaaFrac
namespace Go.Proofs.Ytkpliolafkdijaa
open Go.RowKit
set_option linter.unusedVariables false
set_option linter.unusedSimpArgs false

/-- Numerator and denominator are small numbers. -/
def QB (n d : Int) : Prop := (-1000000000 ≤ n ∧ n ≤ 1000000000) ∧ (-1000000000 ≤ d ∧ d ≤ 1000000000)
theorem mul_bd {a b : Int} (ha : -1000000000 ≤ a ∧ a ≤ 1000000000) (hb : -1000000000 ≤ b ∧ b ≤ 1000000000) : -1000000000000000000 ≤ a * b ∧ a * b ≤ 1000000000000000000 := by
  have h := Nat.mul_le_mul (show a.natAbs ≤ 1000000000 by omega) (show b.natAbs ≤ 1000000000 by omega)
  rw [← Int.natAbs_mul] at h
  omega
theorem fracB_qb {n d : Int} (h : fracB n d = true) : QB n d := by have := fracB_true.1 h; unfold QB; omega
theorem mkF_ok {n d : Int} (h : (mkF n d).2.2 = true) : fracB (mkF n d).1 (mkF n d).2.1 = true := by
  by_cases h0 : d = 0
  · subst h0; rw [mkF_zero] at h; cases h
  · rw [mkF_red h0] at *
    unfold red at *
    split at h
    · rename_i ho; simp only [ho, if_true]; rw [red_frac h0]; exact ho
    · cases h
theorem mkF_fail {n d : Int} (h : (mkF n d).2.2 = false) : mkF n d = (0, 0, false) := by
  unfold mkF at *
  split
  · rfl
  · rename_i h0
    simp only [h0, if_false] at h
    unfold red at *
    split
    · rename_i ho; simp [ho] at h
    · rfl
theorem mkF_qb (n d : Int) : QB (mkF n d).1 (mkF n d).2.1 := by
  cases h : (mkF n d).2.2 with
  | true => exact fracB_qb (mkF_ok h)
  | false => rw [mkF_fail h]; unfold QB; simp

set_option maxHeartbeats 800000 in
theorem fAdd_any {a b c d : Int} {w : World} (ha : QB a b) (hb : QB c d) :
    Calls Try.prog 174 #[.agg #[.int .i64 a, .int .i64 b], .agg #[.int .i64 c, .int .i64 d]] w fun e w' => e = .returned (.tuple #[.agg #[.int .i64 (mkF (a * d + c * b) (b * d)).1, .int .i64 (mkF (a * d + c * b) (b * d)).2.1], .bool (mkF (a * d + c * b) (b * d)).2.2]) ∧ Keeps w w' := by
  have m1 := mul_bd ha.1 hb.2
  have m2 := mul_bd hb.1 ha.2
  have m3 := mul_bd ha.2 hb.2
  have m4 := mul_bd ha.1 hb.1
  have m5 := mul_bd ha.2 hb.1
  obtain ⟨r1, r2, r3, HM⟩ : ∃ r1 r2 r3, Hid (mkF (a * d + c * b) (b * d) = (r1, r2, r3)) := ⟨_, _, _, rfl⟩
  go_enter Try.func174, Try.ntmps174
  go_wp2_with fail
  refine (fMake_any (by omega) (by omega)).mono ?_
  rintro e w1 ⟨rfl, k1⟩
  rw [HM.out]
  have c1 := k1.cell (p := ⟨w.heap.size + 1 + 1, 0, none⟩) (by simp)
  have c2 := k1.cell (p := ⟨w.heap.size + 1 + 1, 1, none⟩) (by simp)
  have f1 := k1.frozen (p := ⟨w.heap.size + 1 + 1, 0, none⟩) (by simp)
  have f2 := k1.frozen (p := ⟨w.heap.size + 1 + 1, 1, none⟩) (by simp)
  have HK := hid (show Keeps w w1 from Below.trans ((((Below.refl w.heap.size w).alloc (Nat.le_refl _) _).alloc (by simp) _).alloc (by simp; omega) _) (k1.mono (by simp; omega)))
  simp [go_sem] at c1 c2 f1 f2
  clear k1
  go_wp2_with fail
  refine bodyPost_ret (v := .tuple #[.agg #[.int .i64 r1, .int .i64 r2], .bool r3]) (by simp [results, Try.results174, go_sem, c1, c2]) rfl ⟨ret_fb (by rw [HM.out]) (by rw [HM.out]) (by rw [HM.out]), ?_⟩
  exact Below.setCell (Below.setCell HK.out (by simp; omega) _) (by simp; omega) _
set_option maxHeartbeats 800000 in
theorem fSub_any {a b c d : Int} {w : World} (ha : QB a b) (hb : QB c d) :
    Calls Try.prog 181 #[.agg #[.int .i64 a, .int .i64 b], .agg #[.int .i64 c, .int .i64 d]] w fun e w' => e = .returned (.tuple #[.agg #[.int .i64 (mkF (a * d - c * b) (b * d)).1, .int .i64 (mkF (a * d - c * b) (b * d)).2.1], .bool (mkF (a * d - c * b) (b * d)).2.2]) ∧ Keeps w w' := by
  have m1 := mul_bd ha.1 hb.2
  have m2 := mul_bd hb.1 ha.2
  have m3 := mul_bd ha.2 hb.2
  have m4 := mul_bd ha.1 hb.1
  have m5 := mul_bd ha.2 hb.1
  obtain ⟨r1, r2, r3, HM⟩ : ∃ r1 r2 r3, Hid (mkF (a * d - c * b) (b * d) = (r1, r2, r3)) := ⟨_, _, _, rfl⟩
  go_enter Try.func181, Try.ntmps181
  go_wp2_with fail
  refine (fMake_any (by omega) (by omega)).mono ?_
  rintro e w1 ⟨rfl, k1⟩
  rw [HM.out]
  have c1 := k1.cell (p := ⟨w.heap.size + 1 + 1, 0, none⟩) (by simp)
  have c2 := k1.cell (p := ⟨w.heap.size + 1 + 1, 1, none⟩) (by simp)
  have f1 := k1.frozen (p := ⟨w.heap.size + 1 + 1, 0, none⟩) (by simp)
  have f2 := k1.frozen (p := ⟨w.heap.size + 1 + 1, 1, none⟩) (by simp)
  have HK := hid (show Keeps w w1 from Below.trans ((((Below.refl w.heap.size w).alloc (Nat.le_refl _) _).alloc (by simp) _).alloc (by simp; omega) _) (k1.mono (by simp; omega)))
  simp [go_sem] at c1 c2 f1 f2
  clear k1
  go_wp2_with fail
  refine bodyPost_ret (v := .tuple #[.agg #[.int .i64 r1, .int .i64 r2], .bool r3]) (by simp [results, Try.results181, go_sem, c1, c2]) rfl ⟨ret_fb (by rw [HM.out]) (by rw [HM.out]) (by rw [HM.out]), ?_⟩
  exact Below.setCell (Below.setCell HK.out (by simp; omega) _) (by simp; omega) _
set_option maxHeartbeats 800000 in
theorem fMul_any {a b c d : Int} {w : World} (ha : QB a b) (hb : QB c d) :
    Calls Try.prog 173 #[.agg #[.int .i64 a, .int .i64 b], .agg #[.int .i64 c, .int .i64 d]] w fun e w' => e = .returned (.tuple #[.agg #[.int .i64 (mkF (a * c) (b * d)).1, .int .i64 (mkF (a * c) (b * d)).2.1], .bool (mkF (a * c) (b * d)).2.2]) ∧ Keeps w w' := by
  have m1 := mul_bd ha.1 hb.2
  have m2 := mul_bd hb.1 ha.2
  have m3 := mul_bd ha.2 hb.2
  have m4 := mul_bd ha.1 hb.1
  have m5 := mul_bd ha.2 hb.1
  obtain ⟨r1, r2, r3, HM⟩ : ∃ r1 r2 r3, Hid (mkF (a * c) (b * d) = (r1, r2, r3)) := ⟨_, _, _, rfl⟩
  go_enter Try.func173, Try.ntmps173
  go_wp2_with fail
  refine (fMake_any (by omega) (by omega)).mono ?_
  rintro e w1 ⟨rfl, k1⟩
  rw [HM.out]
  have c1 := k1.cell (p := ⟨w.heap.size + 1 + 1, 0, none⟩) (by simp)
  have c2 := k1.cell (p := ⟨w.heap.size + 1 + 1, 1, none⟩) (by simp)
  have f1 := k1.frozen (p := ⟨w.heap.size + 1 + 1, 0, none⟩) (by simp)
  have f2 := k1.frozen (p := ⟨w.heap.size + 1 + 1, 1, none⟩) (by simp)
  have HK := hid (show Keeps w w1 from Below.trans ((((Below.refl w.heap.size w).alloc (Nat.le_refl _) _).alloc (by simp) _).alloc (by simp; omega) _) (k1.mono (by simp; omega)))
  simp [go_sem] at c1 c2 f1 f2
  clear k1
  go_wp2_with fail
  refine bodyPost_ret (v := .tuple #[.agg #[.int .i64 r1, .int .i64 r2], .bool r3]) (by simp [results, Try.results173, go_sem, c1, c2]) rfl ⟨ret_fb (by rw [HM.out]) (by rw [HM.out]) (by rw [HM.out]), ?_⟩
  exact Below.setCell (Below.setCell HK.out (by simp; omega) _) (by simp; omega) _
set_option maxHeartbeats 800000 in
theorem fDiv_any {a b c d : Int} {w : World} (ha : QB a b) (hb : QB c d) :
    Calls Try.prog 188 #[.agg #[.int .i64 a, .int .i64 b], .agg #[.int .i64 c, .int .i64 d]] w fun e w' => e = .returned (.tuple #[.agg #[.int .i64 (mkF (a * d) (b * c)).1, .int .i64 (mkF (a * d) (b * c)).2.1], .bool (mkF (a * d) (b * c)).2.2]) ∧ Keeps w w' := by
  have m1 := mul_bd ha.1 hb.2
  have m5 := mul_bd ha.2 hb.1
  by_cases h0 : c = 0
  · subst h0
    have t1 : ((0 : Int) == 0) = true := by decide
    have HM := hid (show mkF (a * d) (b * 0) = (0, 0, false) by rw [Int.mul_zero]; exact mkF_zero _)
    go_enter Try.func188, Try.ntmps188
    go_wp2_with fail
    refine bodyPost_ret (v := .tuple #[.agg #[.int .i64 0, .int .i64 0], .bool false]) (by simp [results, Try.results188, go_sem]) rfl ⟨ret_fb (by rw [HM.out]) (by rw [HM.out]) (by rw [HM.out]), ?_⟩
    exact (((Below.refl w.heap.size w).alloc (Nat.le_refl _) _).alloc (by simp) _).alloc (by simp; omega) _
  have t1 : (c == 0) = false := by rw [beq_eq_false_iff_ne]; exact h0
  obtain ⟨r1, r2, r3, HM⟩ : ∃ r1 r2 r3, Hid (mkF (a * d) (b * c) = (r1, r2, r3)) := ⟨_, _, _, rfl⟩
  go_enter Try.func188, Try.ntmps188
  go_wp2_with fail
  refine (fMake_any (by omega) (by omega)).mono ?_
  rintro e w1 ⟨rfl, k1⟩
  rw [HM.out]
  have c1 := k1.cell (p := ⟨w.heap.size + 1 + 1, 0, none⟩) (by simp)
  have c2 := k1.cell (p := ⟨w.heap.size + 1 + 1, 1, none⟩) (by simp)
  have f1 := k1.frozen (p := ⟨w.heap.size + 1 + 1, 0, none⟩) (by simp)
  have f2 := k1.frozen (p := ⟨w.heap.size + 1 + 1, 1, none⟩) (by simp)
  have HK := hid (show Keeps w w1 from Below.trans ((((Below.refl w.heap.size w).alloc (Nat.le_refl _) _).alloc (by simp) _).alloc (by simp; omega) _) (k1.mono (by simp; omega)))
  simp [go_sem] at c1 c2 f1 f2
  clear k1
  go_wp2_with fail
  refine bodyPost_ret (v := .tuple #[.agg #[.int .i64 r1, .int .i64 r2], .bool r3]) (by simp [results, Try.results188, go_sem, c1, c2]) rfl ⟨ret_fb (by rw [HM.out]) (by rw [HM.out]) (by rw [HM.out]), ?_⟩
  exact Below.setCell (Below.setCell HK.out (by simp; omega) _) (by simp; omega) _
theorem fInt_any {n : Int} {w : World} : Calls Try.prog 142 #[.int .i64 n] w fun e w' => e = .returned (.agg #[.int .i64 n, .int .i64 1]) ∧ Keeps w w' := by
  go_enter Try.func142, Try.ntmps142
  go_wp2_with fail
  refine bodyPost_ret (v := .agg #[.int .i64 n, .int .i64 1]) (by simp [results, Try.results142, go_sem]) rfl ⟨rfl, ?_⟩
  exact keeps_alloc _ _
/-- How two fractions compare. -/
def cmpQ (a b c d : Int) : Int := if a * d < c * b then -1 else if c * b < a * d then 1 else 0
theorem cmpQ_lt {a b c d : Int} (h : a * d < c * b) : cmpQ a b c d = -1 := if_pos h
theorem cmpQ_gt {a b c d : Int} (h : c * b < a * d) : cmpQ a b c d = 1 := by unfold cmpQ; rw [if_neg (by omega), if_pos h]
theorem cmpQ_eq {a b c d : Int} (h1 : ¬ a * d < c * b) (h2 : ¬ c * b < a * d) : cmpQ a b c d = 0 := by unfold cmpQ; rw [if_neg h1, if_neg h2]
set_option maxHeartbeats 800000 in
theorem cmpFrac_any {a b c d : Int} {w : World} (ha : QB a b) (hb : QB c d) :
    Calls Try.prog 149 #[.agg #[.int .i64 a, .int .i64 b], .agg #[.int .i64 c, .int .i64 d]] w fun e w' => e = .returned (.int .i64 (cmpQ a b c d)) ∧ Keeps w w' := by
  have m1 := mul_bd ha.1 hb.2
  have m2 := mul_bd hb.1 ha.2
  have hk : Keeps w (((w.alloc (.cells #[.int .i64 a, .int .i64 b] 41)).alloc (.cells #[.int .i64 c, .int .i64 d] 41)).drewN 1) := below_drewN (((Below.refl w.heap.size w).alloc (Nat.le_refl _) _).alloc (by simp) _) 1
  by_cases h1 : a * d < c * b
  · have HF := hid (cmpQ_lt h1)
    go_enter Try.func149, Try.ntmps149
    go_wp2_with fail
    go_quiet (fail)
    go_wp2
    go_ret
    exact ⟨ret_int (by rw [HF.out]), below_drewN (((Below.refl w.heap.size w).alloc (Nat.le_refl _) _).alloc (by simp) _) _⟩
  by_cases h2 : c * b < a * d
  · have HF := hid (cmpQ_gt h2)
    go_enter Try.func149, Try.ntmps149
    go_wp2_with fail
    go_quiet (fail)
    go_wp2
    go_ret
    exact ⟨ret_int (by rw [HF.out]), below_drewN (((Below.refl w.heap.size w).alloc (Nat.le_refl _) _).alloc (by simp) _) _⟩
  have HF := hid (cmpQ_eq h1 h2)
  go_enter Try.func149, Try.ntmps149
  go_wp2_with fail
  go_quiet (fail)
  go_wp2
  go_ret
  exact ⟨ret_int (by rw [HF.out]), below_drewN (((Below.refl w.heap.size w).alloc (Nat.le_refl _) _).alloc (by simp) _) _⟩
set_option maxHeartbeats 800000 in
theorem IsFrac_any {n d : Int} {w : World} : Calls Try.prog 148 #[.agg #[.int .i64 n, .int .i64 d]] w fun e w' => e = .returned (.bool (fracB n d)) ∧ Keeps w w' := by
  have hk := keeps_alloc w (.cells #[.int .i64 n, .int .i64 d] 41)
  by_cases h1 : 1 ≤ d
  rotate_left
  · have HF := hid (show fracB n d = false by rw [Bool.eq_false_iff]; intro h; have := fracB_true.1 h; omega)
    go_enter Try.func148, Try.ntmps148
    go_wp2
    go_ret
    exact ⟨ret_bool HF.out.symm, hk⟩
  by_cases h2 : d ≤ 1000000000
  rotate_left
  · have HF := hid (show fracB n d = false by rw [Bool.eq_false_iff]; intro h; have := fracB_true.1 h; omega)
    go_enter Try.func148, Try.ntmps148
    go_wp2
    go_ret
    exact ⟨ret_bool HF.out.symm, hk⟩
  by_cases h3 : -1000000000 ≤ n
  rotate_left
  · have HF := hid (show fracB n d = false by rw [Bool.eq_false_iff]; intro h; have := fracB_true.1 h; omega)
    go_enter Try.func148, Try.ntmps148
    go_wp2
    go_ret
    exact ⟨ret_bool HF.out.symm, hk⟩
  by_cases h4 : n ≤ 1000000000
  rotate_left
  · have HF := hid (show fracB n d = false by rw [Bool.eq_false_iff]; intro h; have := fracB_true.1 h; omega)
    go_enter Try.func148, Try.ntmps148
    go_wp2
    go_ret
    exact ⟨ret_bool HF.out.symm, hk⟩
  have HF := hid (show ((Int.gcd n d : Int) == 1) = fracB n d by rw [Bool.eq_iff_iff, fracB_true, beq_iff_eq]; omega)
  go_enter Try.func148, Try.ntmps148
  go_wp2_with fail
  refine (gcdOf_any (by omega) (by omega)).mono ?_
  rintro e w1 ⟨rfl, q1⟩
  go_wp2_with fail
  go_ret
  exact ⟨ret_bool HF.out, hk.trans q1.keeps⟩
set_option maxHeartbeats 1600000 in
theorem AddFrac_any {a b c d : Int} {w : World} (ha : fracB a b = true) (hb : fracB c d = true) :
    Calls Try.prog 77 #[.agg #[.int .i64 a, .int .i64 b], .agg #[.int .i64 c, .int .i64 d]] w fun e w' => e = .returned (.tuple #[.agg #[.int .i64 (mkF (a * d + c * b) (b * d)).1, .int .i64 (mkF (a * d + c * b) (b * d)).2.1], .bool (mkF (a * d + c * b) (b * d)).2.2]) ∧ Keeps w w' := by
  have m1 := mul_bd (fracB_qb ha).1 (fracB_qb hb).2
  have m2 := mul_bd (fracB_qb hb).1 (fracB_qb ha).2
  have m3 := mul_bd (fracB_qb ha).2 (fracB_qb hb).2
  have m4 := mul_bd (fracB_qb ha).1 (fracB_qb hb).1
  have m5 := mul_bd (fracB_qb ha).2 (fracB_qb hb).1
  have p1 := (fracB_true.1 ha).1.1
  have p2 := (fracB_true.1 hb).1.1
  have p3 : 0 < b * d := Int.mul_pos (by omega) (by omega)
  have HA := hid ha
  have HB := hid hb
  clear ha hb
  obtain ⟨r1, r2, r3, HM⟩ : ∃ r1 r2 r3, Hid (mkF (a * d + c * b) (b * d) = (r1, r2, r3)) := ⟨_, _, _, rfl⟩
  have HR := hid HM.out
  rw [mkF_red (by omega)] at HR
  have k0 : Keeps w (((w.alloc (.cells #[.int .i64 a, .int .i64 b] 41)).alloc (.cells #[.int .i64 c, .int .i64 d] 41)).alloc (.cells #[.int .i64 0, .int .i64 0] 41)) := (((Below.refl w.heap.size w).alloc (Nat.le_refl _) _).alloc (by simp) _).alloc (by simp; omega) _
  go_enter Try.func77, Try.ntmps77
  go_wp2_with fail
  refine (IsFrac_any).mono ?_
  rintro e w1 ⟨rfl, k1⟩
  rw [HA.out]
  have a1 := k1.cell (p := ⟨w.heap.size, 0, none⟩) (by simp; omega)
  have a2 := k1.cell (p := ⟨w.heap.size, 1, none⟩) (by simp; omega)
  have b1 := k1.cell (p := ⟨w.heap.size + 1, 0, none⟩) (by simp)
  have b2 := k1.cell (p := ⟨w.heap.size + 1, 1, none⟩) (by simp)
  have c1 := k1.cell (p := ⟨w.heap.size + 1 + 1, 0, none⟩) (by simp)
  have c2 := k1.cell (p := ⟨w.heap.size + 1 + 1, 1, none⟩) (by simp)
  have f1 := k1.frozen (p := ⟨w.heap.size + 1 + 1, 0, none⟩) (by simp)
  have f2 := k1.frozen (p := ⟨w.heap.size + 1 + 1, 1, none⟩) (by simp)
  simp [go_sem] at a1 a2 b1 b2 c1 c2 f1 f2
  have hs1 := k1.size
  simp at hs1
  have HK1 := hid (Keeps.trans k0 k1)
  clear k1 k0
  go_wp2_with fail
  refine (IsFrac_any).mono ?_
  rintro e w2 ⟨rfl, k2⟩
  rw [HB.out]
  replace a1 := cell_keeps a1 k2
  replace a2 := cell_keeps a2 k2
  replace b1 := cell_keeps b1 k2
  replace b2 := cell_keeps b2 k2
  replace c1 := cell_keeps c1 k2
  replace c2 := cell_keeps c2 k2
  replace f1 := (k2.frozen (p := ⟨w.heap.size + 1 + 1, 0, none⟩) (by simp; omega)).trans f1
  replace f2 := (k2.frozen (p := ⟨w.heap.size + 1 + 1, 1, none⟩) (by simp; omega)).trans f2
  have hs2 := k2.size
  have HK2 := hid (HK1.out.trans k2)
  clear k2 HK1
  go_wp2_with fail
  refine (reduced_any (by omega) (by omega) (by omega)).mono ?_
  rintro e w3 ⟨rfl, k3⟩
  rw [HR.out]
  replace c1 := cell_keeps c1 k3
  replace c2 := cell_keeps c2 k3
  replace f1 := (k3.frozen (p := ⟨w.heap.size + 1 + 1, 0, none⟩) (by simp; omega)).trans f1
  replace f2 := (k3.frozen (p := ⟨w.heap.size + 1 + 1, 1, none⟩) (by simp; omega)).trans f2
  have HK3 := hid (HK2.out.trans k3)
  clear k3 HK2
  go_wp2_with fail
  refine bodyPost_ret (v := .tuple #[.agg #[.int .i64 r1, .int .i64 r2], .bool r3]) (by simp [results, Try.results77, go_sem, c1, c2]) rfl ⟨ret_fb (by rw [HM.out]) (by rw [HM.out]) (by rw [HM.out]), ?_⟩
  exact Below.setCell (Below.setCell HK3.out (by simp; omega) _) (by simp; omega) _
set_option maxHeartbeats 1600000 in
theorem SubFrac_any {a b c d : Int} {w : World} (ha : fracB a b = true) (hb : fracB c d = true) :
    Calls Try.prog 178 #[.agg #[.int .i64 a, .int .i64 b], .agg #[.int .i64 c, .int .i64 d]] w fun e w' => e = .returned (.tuple #[.agg #[.int .i64 (mkF (a * d - c * b) (b * d)).1, .int .i64 (mkF (a * d - c * b) (b * d)).2.1], .bool (mkF (a * d - c * b) (b * d)).2.2]) ∧ Keeps w w' := by
  have m1 := mul_bd (fracB_qb ha).1 (fracB_qb hb).2
  have m2 := mul_bd (fracB_qb hb).1 (fracB_qb ha).2
  have m3 := mul_bd (fracB_qb ha).2 (fracB_qb hb).2
  have m4 := mul_bd (fracB_qb ha).1 (fracB_qb hb).1
  have m5 := mul_bd (fracB_qb ha).2 (fracB_qb hb).1
  have p1 := (fracB_true.1 ha).1.1
  have p2 := (fracB_true.1 hb).1.1
  have p3 : 0 < b * d := Int.mul_pos (by omega) (by omega)
  have HA := hid ha
  have HB := hid hb
  clear ha hb
  obtain ⟨r1, r2, r3, HM⟩ : ∃ r1 r2 r3, Hid (mkF (a * d - c * b) (b * d) = (r1, r2, r3)) := ⟨_, _, _, rfl⟩
  have HR := hid HM.out
  rw [mkF_red (by omega)] at HR
  have k0 : Keeps w (((w.alloc (.cells #[.int .i64 a, .int .i64 b] 41)).alloc (.cells #[.int .i64 c, .int .i64 d] 41)).alloc (.cells #[.int .i64 0, .int .i64 0] 41)) := (((Below.refl w.heap.size w).alloc (Nat.le_refl _) _).alloc (by simp) _).alloc (by simp; omega) _
  go_enter Try.func178, Try.ntmps178
  go_wp2_with fail
  refine (IsFrac_any).mono ?_
  rintro e w1 ⟨rfl, k1⟩
  rw [HA.out]
  have a1 := k1.cell (p := ⟨w.heap.size, 0, none⟩) (by simp; omega)
  have a2 := k1.cell (p := ⟨w.heap.size, 1, none⟩) (by simp; omega)
  have b1 := k1.cell (p := ⟨w.heap.size + 1, 0, none⟩) (by simp)
  have b2 := k1.cell (p := ⟨w.heap.size + 1, 1, none⟩) (by simp)
  have c1 := k1.cell (p := ⟨w.heap.size + 1 + 1, 0, none⟩) (by simp)
  have c2 := k1.cell (p := ⟨w.heap.size + 1 + 1, 1, none⟩) (by simp)
  have f1 := k1.frozen (p := ⟨w.heap.size + 1 + 1, 0, none⟩) (by simp)
  have f2 := k1.frozen (p := ⟨w.heap.size + 1 + 1, 1, none⟩) (by simp)
  simp [go_sem] at a1 a2 b1 b2 c1 c2 f1 f2
  have hs1 := k1.size
  simp at hs1
  have HK1 := hid (Keeps.trans k0 k1)
  clear k1 k0
  go_wp2_with fail
  refine (IsFrac_any).mono ?_
  rintro e w2 ⟨rfl, k2⟩
  rw [HB.out]
  replace a1 := cell_keeps a1 k2
  replace a2 := cell_keeps a2 k2
  replace b1 := cell_keeps b1 k2
  replace b2 := cell_keeps b2 k2
  replace c1 := cell_keeps c1 k2
  replace c2 := cell_keeps c2 k2
  replace f1 := (k2.frozen (p := ⟨w.heap.size + 1 + 1, 0, none⟩) (by simp; omega)).trans f1
  replace f2 := (k2.frozen (p := ⟨w.heap.size + 1 + 1, 1, none⟩) (by simp; omega)).trans f2
  have hs2 := k2.size
  have HK2 := hid (HK1.out.trans k2)
  clear k2 HK1
  go_wp2_with fail
  refine (reduced_any (by omega) (by omega) (by omega)).mono ?_
  rintro e w3 ⟨rfl, k3⟩
  rw [HR.out]
  replace c1 := cell_keeps c1 k3
  replace c2 := cell_keeps c2 k3
  replace f1 := (k3.frozen (p := ⟨w.heap.size + 1 + 1, 0, none⟩) (by simp; omega)).trans f1
  replace f2 := (k3.frozen (p := ⟨w.heap.size + 1 + 1, 1, none⟩) (by simp; omega)).trans f2
  have HK3 := hid (HK2.out.trans k3)
  clear k3 HK2
  go_wp2_with fail
  refine bodyPost_ret (v := .tuple #[.agg #[.int .i64 r1, .int .i64 r2], .bool r3]) (by simp [results, Try.results178, go_sem, c1, c2]) rfl ⟨ret_fb (by rw [HM.out]) (by rw [HM.out]) (by rw [HM.out]), ?_⟩
  exact Below.setCell (Below.setCell HK3.out (by simp; omega) _) (by simp; omega) _
set_option maxHeartbeats 1600000 in
theorem MulFrac_any {a b c d : Int} {w : World} (ha : fracB a b = true) (hb : fracB c d = true) :
    Calls Try.prog 171 #[.agg #[.int .i64 a, .int .i64 b], .agg #[.int .i64 c, .int .i64 d]] w fun e w' => e = .returned (.tuple #[.agg #[.int .i64 (mkF (a * c) (b * d)).1, .int .i64 (mkF (a * c) (b * d)).2.1], .bool (mkF (a * c) (b * d)).2.2]) ∧ Keeps w w' := by
  have m1 := mul_bd (fracB_qb ha).1 (fracB_qb hb).2
  have m2 := mul_bd (fracB_qb hb).1 (fracB_qb ha).2
  have m3 := mul_bd (fracB_qb ha).2 (fracB_qb hb).2
  have m4 := mul_bd (fracB_qb ha).1 (fracB_qb hb).1
  have m5 := mul_bd (fracB_qb ha).2 (fracB_qb hb).1
  have p1 := (fracB_true.1 ha).1.1
  have p2 := (fracB_true.1 hb).1.1
  have p3 : 0 < b * d := Int.mul_pos (by omega) (by omega)
  have HA := hid ha
  have HB := hid hb
  clear ha hb
  obtain ⟨r1, r2, r3, HM⟩ : ∃ r1 r2 r3, Hid (mkF (a * c) (b * d) = (r1, r2, r3)) := ⟨_, _, _, rfl⟩
  have HR := hid HM.out
  rw [mkF_red (by omega)] at HR
  have k0 : Keeps w (((w.alloc (.cells #[.int .i64 a, .int .i64 b] 41)).alloc (.cells #[.int .i64 c, .int .i64 d] 41)).alloc (.cells #[.int .i64 0, .int .i64 0] 41)) := (((Below.refl w.heap.size w).alloc (Nat.le_refl _) _).alloc (by simp) _).alloc (by simp; omega) _
  go_enter Try.func171, Try.ntmps171
  go_wp2_with fail
  refine (IsFrac_any).mono ?_
  rintro e w1 ⟨rfl, k1⟩
  rw [HA.out]
  have a1 := k1.cell (p := ⟨w.heap.size, 0, none⟩) (by simp; omega)
  have a2 := k1.cell (p := ⟨w.heap.size, 1, none⟩) (by simp; omega)
  have b1 := k1.cell (p := ⟨w.heap.size + 1, 0, none⟩) (by simp)
  have b2 := k1.cell (p := ⟨w.heap.size + 1, 1, none⟩) (by simp)
  have c1 := k1.cell (p := ⟨w.heap.size + 1 + 1, 0, none⟩) (by simp)
  have c2 := k1.cell (p := ⟨w.heap.size + 1 + 1, 1, none⟩) (by simp)
  have f1 := k1.frozen (p := ⟨w.heap.size + 1 + 1, 0, none⟩) (by simp)
  have f2 := k1.frozen (p := ⟨w.heap.size + 1 + 1, 1, none⟩) (by simp)
  simp [go_sem] at a1 a2 b1 b2 c1 c2 f1 f2
  have hs1 := k1.size
  simp at hs1
  have HK1 := hid (Keeps.trans k0 k1)
  clear k1 k0
  go_wp2_with fail
  refine (IsFrac_any).mono ?_
  rintro e w2 ⟨rfl, k2⟩
  rw [HB.out]
  replace a1 := cell_keeps a1 k2
  replace a2 := cell_keeps a2 k2
  replace b1 := cell_keeps b1 k2
  replace b2 := cell_keeps b2 k2
  replace c1 := cell_keeps c1 k2
  replace c2 := cell_keeps c2 k2
  replace f1 := (k2.frozen (p := ⟨w.heap.size + 1 + 1, 0, none⟩) (by simp; omega)).trans f1
  replace f2 := (k2.frozen (p := ⟨w.heap.size + 1 + 1, 1, none⟩) (by simp; omega)).trans f2
  have hs2 := k2.size
  have HK2 := hid (HK1.out.trans k2)
  clear k2 HK1
  go_wp2_with fail
  refine (reduced_any (by omega) (by omega) (by omega)).mono ?_
  rintro e w3 ⟨rfl, k3⟩
  rw [HR.out]
  replace c1 := cell_keeps c1 k3
  replace c2 := cell_keeps c2 k3
  replace f1 := (k3.frozen (p := ⟨w.heap.size + 1 + 1, 0, none⟩) (by simp; omega)).trans f1
  replace f2 := (k3.frozen (p := ⟨w.heap.size + 1 + 1, 1, none⟩) (by simp; omega)).trans f2
  have HK3 := hid (HK2.out.trans k3)
  clear k3 HK2
  go_wp2_with fail
  refine bodyPost_ret (v := .tuple #[.agg #[.int .i64 r1, .int .i64 r2], .bool r3]) (by simp [results, Try.results171, go_sem, c1, c2]) rfl ⟨ret_fb (by rw [HM.out]) (by rw [HM.out]) (by rw [HM.out]), ?_⟩
  exact Below.setCell (Below.setCell HK3.out (by simp; omega) _) (by simp; omega) _
set_option maxHeartbeats 1600000 in
theorem DivFrac_any {a b c d : Int} {w : World} (ha : fracB a b = true) (hb : fracB c d = true) :
    Calls Try.prog 164 #[.agg #[.int .i64 a, .int .i64 b], .agg #[.int .i64 c, .int .i64 d]] w fun e w' => e = .returned (.tuple #[.agg #[.int .i64 (mkF (a * d) (b * c)).1, .int .i64 (mkF (a * d) (b * c)).2.1], .bool (mkF (a * d) (b * c)).2.2]) ∧ Keeps w w' := by
  have m1 := mul_bd (fracB_qb ha).1 (fracB_qb hb).2
  have m5 := mul_bd (fracB_qb ha).2 (fracB_qb hb).1
  have p1 := (fracB_true.1 ha).1.1
  have HA := hid ha
  have HB := hid hb
  clear ha hb
  have k0 : Keeps w (((w.alloc (.cells #[.int .i64 a, .int .i64 b] 41)).alloc (.cells #[.int .i64 c, .int .i64 d] 41)).alloc (.cells #[.int .i64 0, .int .i64 0] 41)) := (((Below.refl w.heap.size w).alloc (Nat.le_refl _) _).alloc (by simp) _).alloc (by simp; omega) _
  by_cases h0 : c = 0
  · subst h0
    have t1 : ((0 : Int) == 0) = true := by decide
    have HM := hid (show mkF (a * d) (b * 0) = (0, 0, false) by rw [Int.mul_zero]; exact mkF_zero _)
    go_enter Try.func164, Try.ntmps164
    go_wp2_with fail
    refine (IsFrac_any).mono ?_
    rintro e w1 ⟨rfl, k1⟩
    rw [HA.out]
    have a1 := k1.cell (p := ⟨w.heap.size, 0, none⟩) (by simp; omega)
    have a2 := k1.cell (p := ⟨w.heap.size, 1, none⟩) (by simp; omega)
    have b1 := k1.cell (p := ⟨w.heap.size + 1, 0, none⟩) (by simp)
    have b2 := k1.cell (p := ⟨w.heap.size + 1, 1, none⟩) (by simp)
    have c1 := k1.cell (p := ⟨w.heap.size + 1 + 1, 0, none⟩) (by simp)
    have c2 := k1.cell (p := ⟨w.heap.size + 1 + 1, 1, none⟩) (by simp)
    have f1 := k1.frozen (p := ⟨w.heap.size + 1 + 1, 0, none⟩) (by simp)
    have f2 := k1.frozen (p := ⟨w.heap.size + 1 + 1, 1, none⟩) (by simp)
    simp [go_sem] at a1 a2 b1 b2 c1 c2 f1 f2
    have hs1 := k1.size
    simp at hs1
    have HK1 := hid (Keeps.trans k0 k1)
    clear k1 k0
    go_wp2_with fail
    refine (IsFrac_any).mono ?_
    rintro e w2 ⟨rfl, k2⟩
    rw [HB.out]
    replace a1 := cell_keeps a1 k2
    replace a2 := cell_keeps a2 k2
    replace b1 := cell_keeps b1 k2
    replace b2 := cell_keeps b2 k2
    replace c1 := cell_keeps c1 k2
    replace c2 := cell_keeps c2 k2
    replace f1 := (k2.frozen (p := ⟨w.heap.size + 1 + 1, 0, none⟩) (by simp; omega)).trans f1
    replace f2 := (k2.frozen (p := ⟨w.heap.size + 1 + 1, 1, none⟩) (by simp; omega)).trans f2
    have hs2 := k2.size
    have HK2 := hid (HK1.out.trans k2)
    clear k2 HK1
    go_wp2_with fail
    refine bodyPost_ret (v := .tuple #[.agg #[.int .i64 0, .int .i64 0], .bool false]) (by simp [results, Try.results164, go_sem, c1, c2]) rfl ⟨ret_fb (by rw [HM.out]) (by rw [HM.out]) (by rw [HM.out]), ?_⟩
    exact Below.setCell (Below.setCell HK2.out (by simp; omega) _) (by simp; omega) _
  have t1 : (c == 0) = false := by rw [beq_eq_false_iff_ne]; exact h0
  have p3 : b * c ≠ 0 := Int.mul_ne_zero (by omega) h0
  obtain ⟨r1, r2, r3, HM⟩ : ∃ r1 r2 r3, Hid (mkF (a * d) (b * c) = (r1, r2, r3)) := ⟨_, _, _, rfl⟩
  have HR := hid HM.out
  rw [mkF_red p3] at HR
  go_enter Try.func164, Try.ntmps164
  go_wp2_with fail
  refine (IsFrac_any).mono ?_
  rintro e w1 ⟨rfl, k1⟩
  rw [HA.out]
  have a1 := k1.cell (p := ⟨w.heap.size, 0, none⟩) (by simp; omega)
  have a2 := k1.cell (p := ⟨w.heap.size, 1, none⟩) (by simp; omega)
  have b1 := k1.cell (p := ⟨w.heap.size + 1, 0, none⟩) (by simp)
  have b2 := k1.cell (p := ⟨w.heap.size + 1, 1, none⟩) (by simp)
  have c1 := k1.cell (p := ⟨w.heap.size + 1 + 1, 0, none⟩) (by simp)
  have c2 := k1.cell (p := ⟨w.heap.size + 1 + 1, 1, none⟩) (by simp)
  have f1 := k1.frozen (p := ⟨w.heap.size + 1 + 1, 0, none⟩) (by simp)
  have f2 := k1.frozen (p := ⟨w.heap.size + 1 + 1, 1, none⟩) (by simp)
  simp [go_sem] at a1 a2 b1 b2 c1 c2 f1 f2
  have hs1 := k1.size
  simp at hs1
  have HK1 := hid (Keeps.trans k0 k1)
  clear k1 k0
  go_wp2_with fail
  refine (IsFrac_any).mono ?_
  rintro e w2 ⟨rfl, k2⟩
  rw [HB.out]
  replace a1 := cell_keeps a1 k2
  replace a2 := cell_keeps a2 k2
  replace b1 := cell_keeps b1 k2
  replace b2 := cell_keeps b2 k2
  replace c1 := cell_keeps c1 k2
  replace c2 := cell_keeps c2 k2
  replace f1 := (k2.frozen (p := ⟨w.heap.size + 1 + 1, 0, none⟩) (by simp; omega)).trans f1
  replace f2 := (k2.frozen (p := ⟨w.heap.size + 1 + 1, 1, none⟩) (by simp; omega)).trans f2
  have hs2 := k2.size
  have HK2 := hid (HK1.out.trans k2)
  clear k2 HK1
  go_wp2_with fail
  refine (reduced_any (by omega) (by omega) (by omega)).mono ?_
  rintro e w3 ⟨rfl, k3⟩
  rw [HR.out]
  replace c1 := cell_keeps c1 k3
  replace c2 := cell_keeps c2 k3
  replace f1 := (k3.frozen (p := ⟨w.heap.size + 1 + 1, 0, none⟩) (by simp; omega)).trans f1
  replace f2 := (k3.frozen (p := ⟨w.heap.size + 1 + 1, 1, none⟩) (by simp; omega)).trans f2
  have HK3 := hid (HK2.out.trans k3)
  clear k3 HK2
  go_wp2_with fail
  refine bodyPost_ret (v := .tuple #[.agg #[.int .i64 r1, .int .i64 r2], .bool r3]) (by simp [results, Try.results164, go_sem, c1, c2]) rfl ⟨ret_fb (by rw [HM.out]) (by rw [HM.out]) (by rw [HM.out]), ?_⟩
  exact Below.setCell (Below.setCell HK3.out (by simp; omega) _) (by simp; omega) _
set_option maxHeartbeats 800000 in
theorem fCmp_any {a b c d : Int} {w : World} (ha : QB a b) (hb : QB c d) :
    Calls Try.prog 180 #[.agg #[.int .i64 a, .int .i64 b], .agg #[.int .i64 c, .int .i64 d]] w fun e w' => e = .returned (.int .i64 (cmpQ a b c d)) ∧ Keeps w w' := by
  have m1 := mul_bd ha.1 hb.2
  have m2 := mul_bd hb.1 ha.2
  have HF := hid (show sgn (a * d - c * b) = cmpQ a b c d by unfold sgn cmpQ; split <;> split <;> (try split) <;> (try split) <;> omega)
  go_enter Try.func180, Try.ntmps180
  go_wp2_with fail
  refine (l1Sign_any).mono ?_
  rintro e w1 ⟨rfl, rfl⟩
  go_wp2_with fail
  go_ret
  exact ⟨ret_int HF.out, ((Below.refl w.heap.size w).alloc (Nat.le_refl _) _).alloc (by simp) _⟩
/-- The greater of two fractions, the first of two alike. -/
def maxQ (f g : Int × Int) : Int × Int := if cmpQ f.1 f.2 g.1 g.2 < 0 then g else f
end Go.Proofs.Ytkpliolafkdijaa
