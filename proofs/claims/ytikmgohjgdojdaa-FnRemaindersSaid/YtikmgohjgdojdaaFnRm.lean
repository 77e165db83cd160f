/- The law FnRemainders: its draws and its walk. -/
import Derived.Test.YtikmgohjgdojdaaLrs
import Derived.Test.YtikmgohjgdojdaaDrawB
import Derived.Test.YtikmgohjgdojdaaFnh
import Derived.Test.YtikmgohjgdojdaaShares
namespace Go.Proofs.Ytikmgohjgdojdaa
open Go.RowKit
set_option linter.unusedVariables false
set_option linter.unusedSimpArgs false

/-- What is drawn for LargestRemainders. -/
def DrawsLr (w : World) (e : Ending) (w' : World) : Prop := ∃ A N C xs t, e = .returned (.tuple #[.slice A N C, .int .i64 t]) ∧ Ints w' w.heap.size w'.heap.size A N xs ∧ (-10 ≤ t ∧ t ≤ 10000000) ∧ Keeps w w'
set_option maxRecDepth 100000 in
set_option maxHeartbeats 3200000 in
theorem DrawLargestRemainders_any {A : Option Addr} {hi n c : Nat} {w : World} (hb : Bytes w hi A n) :
    Calls Try.prog 33 #[.slice A n c] w (DrawsLr w) := by
  have hc := Cur.new (t := 126) (c := c) hb
  have k0 := keeps_alloc w (.cells #[.slice A n c, .int .i64 0, .int .u64 0] 126)
  have e0 : (w.alloc (.cells #[.slice A n c, .int .i64 0, .int .u64 0] 126)).heap.size = w.heap.size + 1 := by simp
  have E0 := hid e0
  clear e0
  go_enter Try.func33, Try.ntmps33
  go_wp2_with fail
  refine (numbers_any hc (by omega)).mono ?_
  rintro e w1 ⟨A0, N, C, xs, rfl, hm, hN, hnr, hc1, f1⟩
  have s1 := f1.size
  rw [E0.out] at hm s1
  have kw : Keeps w w1 := below_fr k0 k0.size (Nat.le_refl _) f1
  have HNR := hid hnr
  clear hc k0 f1 hnr E0
  go_wp2_with fail
  go_loopw [14] (fun i wr => ∃ (k : Nat) (ys : List Int), k ≤ N ∧ i = .int .i64 k ∧ Hid (Near 100001 ys) ∧ Mine wr (w.heap.size + 1) w1.heap.size A0 N ys ∧ Cur wr w.heap.size (0 + 20) ∧ Fr (w.heap.size + 1) w1.heap.size w1 wr) (fun i _ => N - (intOf i).toNat)
  case atStart => exact ⟨0, xs, Nat.zero_le _, rfl, HNR, hm, hc1, Fr.refl _ _ _⟩
  clear hm hc1
  case round =>
    obtain ⟨k, ys, hk, rfl, HY, hm, hc1, hf⟩ := hrel
    by_cases hlt : k < N
    · have hi1 : (k : Int) < (N : Int) := by omega
      obtain ⟨b, off, x, rfl, _, _, hcx, hx⟩ := hm.1.at_ hlt
      have hxb := HY.out k
      rw [← hx.out] at hxb
      have hfz := hm.2 b off rfl k hlt
      obtain ⟨m1, g1⟩ := hm.set_ hlt (max x (-x))
      have HN := hid (near_set k HY.out (x := max x (-x)) (by omega))
      have M := hid m1
      have F := hid (hf.trans g1)
      have HC := hid (hc1.fr g1 (by omega))
      clear m1 g1 hm hf hx hc1
      go_wp2_with (go_at_call 81; refine (l1Abs_any (by omega) (by omega)).mono ?_; rintro e w' ⟨rfl, rfl⟩)
      go_roundw
      case rel => exact ⟨k + 1, _, by omega, by go_num, HN, M.out, HC.out, F.out⟩
      case measure => simp [intOf] <;> omega
    · obtain rfl : N = k := by omega
      have hi1 : ¬ (N : Int) < (N : Int) := by omega
      have kw2 : Keeps w wr := below_fr kw kw.size (by omega) hf
      have s2 := hf.size
      have hi := hm.1
      clear hm hf kw
      go_wp2_with fail
      refine (one_any hc1 (by omega) (by omega)).mono ?_
      rintro e w3 ⟨b, rfl, hc3, f3⟩
      have kw3 : Keeps w w3 := below_fr kw2 kw2.size (Nat.le_refl _) f3
      have s3 := f3.size
      have hi3 := hi.keepsF f3 (Nat.lt_succ_self _)
      clear hc1 f3 kw2 hi
      cases b
      · go_wp2_with fail
        have L := lit_ints w3 [0, 1, 4, 7, 100, 1000000, 1000001, -1] (by decide)
        have kL := keeps_alloc w3 (.cells #[.int .i64 0, .int .i64 1, .int .i64 4, .int .i64 7, .int .i64 100, .int .i64 1000000, .int .i64 1000001, .int .i64 (-1)] 3)
        refine (among_any (xs := [0, 1, 4, 7, 100, 1000000, 1000001, -1]) (hc3.keeps kL) (by omega) L (by omega) (by decide) (by decide)).mono ?_
        rintro e w4 ⟨x, j, rfl, hj, rfl, hc4, f4⟩
        have hR : -10 ≤ ([0, 1, 4, 7, 100, 1000000, 1000001, -1] : List Int).getD j 0 ∧ ([0, 1, 4, 7, 100, 1000000, 1000001, -1] : List Int).getD j 0 ≤ 10000000 := by
          have hj' : j < 8 := hj
          rcases j with _ | _ | _ | _ | _ | _ | _ | _ | j <;> first | (simp; done) | omega
        generalize ([0, 1, 4, 7, 100, 1000000, 1000001, -1] : List Int).getD j 0 = X at *
        have kw4 : Keeps w w4 := below_fr (kw3.trans kL) (kw3.trans kL).size (Nat.le_refl _) f4
        have hi4 := (hi3.keeps kL).keepsF f4 (Nat.lt_succ_self _)
        have s4 := f4.size
        have s5 := kL.size
        clear hc4 f4 kL L hc3 hi3 kw3
        go_wp2_with fail
        go_ret2
        exact ⟨_, _, _, _, _, rfl, hi4.widen (by omega) (by omega) (Nat.le_refl _), hR, kw4⟩
      · go_wp2_with fail
        refine (numbers_any hc3 (by omega)).mono ?_
        rintro e w4 ⟨A4, N4, C4, zs, rfl, hm4, hN4, hnr4, hc4, f4⟩
        have kw4 : Keeps w w4 := below_fr kw3 kw3.size (Nat.le_refl _) f4
        have s4 := f4.size
        have hi4 := hm4.1
        clear hc4 f4 hm4 hc3 hi3 kw3 hnr4
        go_wp2_with fail
        go_ret2
        exact ⟨_, _, _, _, _, rfl, hi4.widen (by omega) (by omega) (Nat.le_refl _), by omega, kw4⟩
/-- A list of weights. -/
def DrawsSh (w : World) (e : Ending) (w' : World) : Prop := ∃ A N C xs, e = .returned (.slice A N C) ∧ Ints w' w.heap.size w'.heap.size A N xs ∧ Keeps w w'
set_option maxHeartbeats 800000 in
theorem DrawSharesOf_any {A : Option Addr} {hi n c : Nat} {w : World} (hb : Bytes w hi A n) :
    Calls Try.prog 36 #[.slice A n c] w (DrawsSh w) := by
  go_enter Try.func36, Try.ntmps36
  go_wp2_with fail
  refine (DrawLargestRemainders_any hb).mono ?_
  rintro e w1 ⟨A0, N, C, xs, t, rfl, hi, ht, kw⟩
  go_wp2_with fail
  go_ret
  exact ⟨_, _, _, _, rfl, hi, kw⟩
set_option maxHeartbeats 800000 in
theorem pSameFracs_true {A B : Option Addr} {lo hi lo' hi' n n' c c' : Nat} {l : List (Int × Int)} {w : World} (ha : Fracs w lo hi A n l) (hb : Fracs w lo' hi' B n' l) :
    Calls Try.prog 39 #[.slice A n c, .slice B n' c'] w fun e w' => e = .returned (.bool true) ∧ Keeps w w' := by
  obtain rfl : n = n' := (Fracs.len ha).symm.trans (Fracs.len hb)
  have hn := ha.le
  have hbb : ((n : Int) != n) = false := by simp
  go_enter Try.func39, Try.ntmps39
  go_wp2_with fail
  go_loopw [13] (fun i wr => ∃ k : Nat, k ≤ n ∧ i = .int .i64 k ∧ Quiet w wr) (fun i _ => n - (intOf i).toNat)
  case atStart => exact ⟨0, Nat.zero_le _, rfl, Quiet.refl _⟩
  case round =>
    obtain ⟨k, hk, rfl, hq⟩ := hrel
    by_cases hlt : k < n
    · obtain ⟨b, off, x, y, rfl, _, _, hc, hd, hx⟩ := Fracs.at_ (ha.quiet hq) hlt
      obtain ⟨b', off', x', y', rfl, _, _, hc', hd', hx'⟩ := Fracs.at_ (hb.quiet hq) hlt
      obtain ⟨rfl, rfl⟩ : x = x' ∧ y = y' := by have e := hx.out.trans hx'.out.symm; injection e with e1 e2; exact ⟨e1, e2⟩
      clear hx hx'
      have hi1 : (k : Int) < (n : Int) := by omega
      go_wp2_with fail
      go_quiet (fail)
      go_wp2
      go_roundw
      case rel => exact ⟨k + 1, by omega, by go_num, hq.step _⟩
      case measure => simp [intOf] <;> omega
    · go_wp2
      go_ret
      exact ⟨rfl, hq.keeps⟩
theorem sum_wb {P Q S : Int} (h1 : 0 ≤ P ∧ P ≤ 10000000000000) (h2 : 0 ≤ Q ∧ Q ≤ 10000000000000) : IntKind.i64.wrap P = P ∧ IntKind.i64.wrap Q = Q ∧ IntKind.i64.wrap (P - Q) = P - Q ∧ IntKind.i64.wrap (Q - P) = Q - P := by
  refine ⟨?_, ?_, ?_, ?_⟩ <;> (rw [IntKind.wrap_i64]; omega)
theorem lrQ_bd {ws : List Int} {t : Int} (h : lrB ws t = true) {i : Nat} (hi : i < ws.length) : 0 ≤ (lrQ ws t).1.getD i 0 ∧ (lrQ ws t).1.getD i 0 ≤ 1000001 := by
  have hb := lLeft_bd h
  rw [lrQ_yes (k := (lLeft ws t).toNat) h rfl (ordZ_ord _ _) (by omega)]
  exact loL_bd h rfl hi
theorem lr_prod {ws : List Int} {t : Int} (h : lrB ws t = true) {i : Nat} (hi : i < ws.length) : 0 ≤ (lrQ ws t).1.getD i 0 * ws.sum ∧ (lrQ ws t).1.getD i 0 * ws.sum ≤ 10000000000000 := by
  have h1 := lrQ_bd h hi
  have h2 := (lrB_parts h).2.2.1
  have := Int.mul_le_mul h1.2 h2.2 (by omega) (by omega : (0 : Int) ≤ 1000001)
  exact ⟨Int.mul_nonneg h1.1 (by omega), by omega⟩
set_option maxRecDepth 100000 in
set_option maxHeartbeats 6400000 in
theorem FnRemainders_law (A0 : Option Addr) (n0 c0 : Nat) (A1 : Option Addr) (n1 c1 : Nat) (w : World) (wa0 : BytesArg w A0 n0) (wa1 : BytesArg w A1 n1) :
    Calls Try.prog 6 #[.slice A0 n0 c0, .slice A1 n1 c1] w fun e w' => e = .returned (.bool true) ∧ Below w.heap.size w w' := by
  have m0 := wa0.1
  have m1 := wa1.1
  go_enter Try.func6, Try.ntmps6
  go_wp2_with fail
  refine (big_any m0 m1).mono ?_
  rintro e w' ⟨b, rfl, rfl⟩
  have kw := keeps_refl w
  cases b
  rotate_left
  · go_wp2
    go_ret
    exact ⟨rfl, kw⟩
  go_wp2_with fail
  refine (DrawLargestRemainders_any wa0).mono ?_
  rintro e w1 ⟨A2, N, C, ws, t, rfl, hw, ht, k1⟩
  replace kw := Keeps.trans kw k1
  clear k1
  have HWL := hid hw.1
  have hN := hw.le
  go_wp2_with fail
  obtain ⟨xs, ok, HQ⟩ : ∃ x y, Hid (lrQ ws t = (x, y)) := ⟨_, _, rfl⟩
  refine (implLargestRemainders_any hw).mono ?_
  rintro e w2 ⟨A3, N3, C3, rfl, hx, k2⟩
  replace hw := hw.keeps k2
  replace kw := Keeps.trans kw k2
  clear k2
  rw [HQ.out] at hx
  rw [HQ.out]
  dsimp only at hx ⊢
  go_wp2_with fail
  refine (specLargestRemainders_any hw).mono ?_
  rintro e w3 ⟨A4, N4, C4, rfl, hy, k3⟩
  replace hw := hw.keeps k3
  replace hx := hx.keeps k3
  replace kw := Keeps.trans kw k3
  clear k3
  rw [HQ.out] at hy
  rw [HQ.out]
  dsimp only at hy ⊢
  have q0 : (ok != ok) = false := by simp
  go_wp2_with fail
  refine (sameInts_true hx.1 hy.1).mono ?_
  rintro e w4 ⟨rfl, k4⟩
  replace k4 := Quiet.keeps k4
  replace hw := hw.keeps k4
  replace hy := hy.keeps k4
  replace kw := Keeps.trans kw k4
  have sz4 := kw.size
  clear k4 hx
  cases ok
  · clear hw hy
    go_wp2_with fail
    refine (DrawSharesOf_any (Bytes.keeps wa1 kw)).mono ?_
    rintro e u1 ⟨A5, N5, C5, vs, rfl, hv, k5⟩
    replace kw := Keeps.trans kw k5
    clear k5
    go_wp2_with fail
    obtain ⟨fs, fk, HF⟩ : ∃ x y, Hid (shF vs = (x, y)) := ⟨_, _, rfl⟩
    refine (impl_SharesOf_any hv).mono ?_
    rintro e u2 ⟨A6, N6, C6, rfl, hp, k6⟩
    replace hv := hv.keeps k6
    replace kw := Keeps.trans kw k6
    clear k6
    rw [HF.out] at hp
    rw [HF.out]
    dsimp only at hp ⊢
    go_wp2_with fail
    refine (spec_SharesOf_any hv).mono ?_
    rintro e u3 ⟨A7, N7, C7, rfl, hq, k7⟩
    replace hp := hp.keeps k7
    replace kw := Keeps.trans kw k7
    clear k7 hv
    rw [HF.out] at hq
    rw [HF.out]
    dsimp only at hq ⊢
    have q9 : (fk == fk) = true := by simp
    go_wp2_with fail
    refine (pSameFracs_true hp.1 hq.1).mono ?_
    rintro e u4 ⟨rfl, k8⟩
    replace kw := Keeps.trans kw k8
    clear k8 hp hq
    go_wp2_with fail
    go_ret
    exact ⟨rfl, kw⟩
  have HB := hid (show lrB ws t = true by
    cases hb : lrB ws t
    · have := (lrQ_no hb).symm.trans HQ.out; injection this with _ e2
    · rfl)
  have HX := hid (show xs = (lrQ ws t).1 by rw [HQ.out])
  have HXS := hid (show xs.sum = t by rw [HX.out]; exact (lr_sum HB.out).1)
  obtain rfl : N4 = N := by
    have h1 := (lr_sum HB.out).2
    rw [← HX.out, hy.1.1, HWL.out] at h1
    exact h1
  have HSB := hid (lrB_parts HB.out)
  have HBX := hid (show Bd 10000000000 xs from fun j => by
    rcases Nat.lt_or_ge j N4 with q | q
    · have := lrQ_bd HB.out (i := j) (by rw [HWL.out]; exact q); rw [← HX.out] at this; omega
    · rw [show xs.getD j 0 = 0 by simp [List.getD, hy.1.1, Nat.not_lt.2 q]]; omega)
  have HBW := hid (show Bd 10000000000 ws from fun j => by
    rcases Nat.lt_or_ge j N4 with q | q
    · have := HSB.out.2.1 j (by rw [HWL.out]; exact q); omega
    · rw [show ws.getD j 0 = 0 by simp [List.getD, HWL.out, Nat.not_lt.2 q]]; omega)
  go_wp2_with fail
  refine (pSum_any _ _ _ _ _ _ _ hy.1 HBX.out).mono ?_
  rintro e w' ⟨rfl, rfl⟩
  rw [HXS.out]
  have q1 : (t != t) = false := by simp
  obtain ⟨S, HS⟩ : ∃ S, Hid (ws.sum = S) := ⟨_, rfl⟩
  go_wp2_with fail
  refine (pSum_any _ _ _ _ _ _ _ hw HBW.out).mono ?_
  rintro e w' ⟨rfl, rfl⟩
  rw [HS.out]
  go_wp2_with fail
  go_loopw [57] (fun i wr => ∃ k : Nat, k ≤ N4 ∧ i = .int .i64 k ∧ Keeps w4 wr) (fun i _ => N4 - (intOf i).toNat)
  case atStart => exact ⟨0, Nat.zero_le _, rfl, keeps_refl _⟩
  case round =>
    obtain ⟨k, hk, rfl, kr⟩ := hrel
    by_cases hlt : k < N4
    rotate_left
    · obtain rfl : N4 = k := by omega
      have hi1 : ¬ (N4 : Int) < (N4 : Int) := by omega
      replace kw := Keeps.trans kw kr
      clear hw hy kr
      go_wp2_with fail
      refine (DrawSharesOf_any (Bytes.keeps wa1 kw)).mono ?_
      rintro e u1 ⟨A5, N5, C5, vs, rfl, hv, k5⟩
      replace kw := Keeps.trans kw k5
      clear k5
      go_wp2_with fail
      obtain ⟨fs, fk, HF⟩ : ∃ x y, Hid (shF vs = (x, y)) := ⟨_, _, rfl⟩
      refine (impl_SharesOf_any hv).mono ?_
      rintro e u2 ⟨A6, N6, C6, rfl, hp, k6⟩
      replace hv := hv.keeps k6
      replace kw := Keeps.trans kw k6
      clear k6
      rw [HF.out] at hp
      rw [HF.out]
      dsimp only at hp ⊢
      go_wp2_with fail
      refine (spec_SharesOf_any hv).mono ?_
      rintro e u3 ⟨A7, N7, C7, rfl, hq, k7⟩
      replace hp := hp.keeps k7
      replace kw := Keeps.trans kw k7
      clear k7 hv
      rw [HF.out] at hq
      rw [HF.out]
      dsimp only at hq ⊢
      have q9 : (fk == fk) = true := by simp
      go_wp2_with fail
      refine (pSameFracs_true hp.1 hq.1).mono ?_
      rintro e u4 ⟨rfl, k8⟩
      replace kw := Keeps.trans kw k8
      clear k8 hp hq
      go_wp2_with fail
      go_ret
      exact ⟨rfl, kw⟩
    have hi1 : (k : Int) < (N4 : Int) := by omega
    obtain ⟨b, off, x, rfl, _, _, hcx, hx⟩ := (hw.keeps kr).at_ hlt
    obtain ⟨b', off', y, rfl, _, _, hcy, hy'⟩ := (hy.1.keeps kr).at_ hlt
    have hs := lr_share HB.out (i := k) (by rw [HWL.out]; exact hlt)
    have hp := lr_prod HB.out (i := k) (by rw [HWL.out]; exact hlt)
    have hq := (lq_bd HB.out (i := k) (by rw [HWL.out]; exact hlt)).2.2
    rw [← HX.out, ← hy'.out, ← hx.out, HS.out] at hs
    rw [← HX.out, ← hy'.out, HS.out] at hp
    rw [← hx.out] at hq
    obtain ⟨P, hP⟩ : ∃ P, y * S = P := ⟨_, rfl⟩
    obtain ⟨Q, hQ⟩ : ∃ Q, t * x = Q := ⟨_, rfl⟩
    rw [hP, hQ] at hs
    rw [hP] at hp
    rw [hQ] at hq
    obtain ⟨v1, v2, v3, v4⟩ := sum_wb (S := S) (P := P) (Q := Q) hp (by omega)
    have v5 : ¬ S ≤ P - Q := by omega
    have v6 : ¬ S ≤ Q - P := by omega
    have v7 : ¬ P - Q ≥ S := by omega
    have v8 : ¬ Q - P ≥ S := by omega
    have HXX := hid hx.out
    have HYY := hid hy'.out
    clear hs hp hq hx hy'
    go_wp2_with fail
    go_quiet (fail)
    clear hcx hcy hP hQ v1 v2 v3 v4 v7 v8
    have kr2 : Keeps w4 (wr.drewN nq) := kr.trans (Keeps.drewN _ _)
    obtain ⟨w5, hw5⟩ : ∃ u : World, u = wr.drewN nq := ⟨_, rfl⟩
    rw [← hw5] at kr2
    rw [← hw5]
    clear hw5
    go_wp2_with fail
    all_goals first | (exfalso; omega) | skip
    clear v5 v6
    go_loopw [94] (fun i wr => ∃ j : Nat, j ≤ N4 ∧ i = .int .i64 j ∧ Keeps w4 wr) (fun i _ => N4 - (intOf i).toNat)
    case atStart => exact ⟨0, Nat.zero_le _, rfl, kr2⟩
    clear kr kr2
    case round =>
      obtain ⟨j, hj, rfl, kr⟩ := hrel
      by_cases hlt2 : j < N4
      rotate_left
      · obtain rfl : N4 = j := by omega
        have hi2 : ¬ (N4 : Int) < (N4 : Int) := by omega
        go_wp2_with fail
        go_roundw
        case rel => exact ⟨k + 1, by omega, by go_num, kr⟩
        case measure => simp [intOf] <;> omega
      have hi2 : (j : Int) < (N4 : Int) := by omega
      obtain ⟨_, _, x1, e1, _, _, hcx, hx⟩ := (hw.keeps kr).at_ hlt
      obtain ⟨rfl, rfl⟩ : b = _ ∧ off = _ := by simpa using e1
      obtain ⟨_, _, x2, e2, _, _, hcu, hu⟩ := (hw.keeps kr).at_ hlt2
      obtain ⟨rfl, rfl⟩ : b = _ ∧ off = _ := by simpa using e2
      obtain ⟨_, _, y1, e3, _, _, hcy, hy1⟩ := (hy.1.keeps kr).at_ hlt
      obtain ⟨rfl, rfl⟩ : b' = _ ∧ off' = _ := by simpa using e3
      obtain ⟨_, _, y2, e4, _, _, hcv, hy2⟩ := (hy.1.keeps kr).at_ hlt2
      obtain ⟨rfl, rfl⟩ : b' = _ ∧ off' = _ := by simpa using e4
      have hmono := hid (show x2 < x1 → y2 ≤ y1 from fun q => by
        have := lr_mono HB.out (i := k) (k := j) (by rw [HWL.out]; exact hlt) (by rw [HWL.out]; exact hlt2) (by rw [← hx.out, ← hu.out]; exact q)
        rw [← HX.out, ← hy1.out, ← hy2.out] at this; exact this)
      clear hx hu hy1 hy2 e1 e2 e3 e4
      by_cases hgt : x2 < x1
      · have hle := hmono.out hgt
        have hn1 : ¬ y1 < y2 := by omega
        clear hmono
        go_wp2_with fail
        go_quiet (fail)
        clear hcx hcu hcy hcv
        have kr2 : Keeps w4 (wr.drewN nq) := kr.trans (Keeps.drewN _ _)
        go_wp2_with fail
        go_roundw
        case rel => exact ⟨j + 1, by omega, by go_num, kr2⟩
        case measure => simp [intOf] <;> omega
      · clear hmono
        have hd : decide (x2 < x1) = false := decide_eq_false hgt
        go_wp2_with fail
        go_quiet (fail)
        clear hcx hcu hcy hcv
        have kr2 : Keeps w4 (wr.drewN nq) := kr.trans (Keeps.drewN _ _)
        go_wp2_with fail
        go_roundw
        case rel => exact ⟨j + 1, by omega, by go_num, kr2⟩
        case measure => simp [intOf] <;> omega
end Go.Proofs.Ytikmgohjgdojdaa
