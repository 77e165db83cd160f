/- The largest remainders: of the reference. -/
import Derived.Test.YtikmgohjgdojdaaLrw
import Derived.Test.YtikmgohjgdojdaaFit0
namespace Go.Proofs.Ytikmgohjgdojdaa
open Go.RowKit
set_option linter.unusedVariables false
set_option linter.unusedSimpArgs false
theorem mine_blk {w : World} {B n c : Nat} {A : Option Addr} {xs : List Int} (h : Has w B 3 1 (.slice A n c) n (xs.map (Value.int .i64))) (hs : n ≤ 67108864) (h0 : 0 < n) :
    ∃ g, A = some ⟨g, 0, none⟩ ∧ B ≤ g ∧ Value.ownBlock (.slice A n c) = some g ∧ Mine w g (g + 1) A n xs := by
  have hm := Mine.of_own h hs
  obtain ⟨h1, h2⟩ := h
  rcases h2 with ⟨h2, rfl⟩ | ⟨g, cap, cur, hv, hg, hh, hnc, hcm, hcs, htake⟩
  · exact absurd h0 (by omega)
  · have hA : A = some ⟨g, 0, none⟩ := by injection hv
    subst hA
    obtain ⟨⟨i1, i2, i3, i4⟩, i5⟩ := hm
    obtain ⟨b, off, e, e1, e2, e3⟩ := i4 h0
    obtain ⟨rfl, rfl⟩ : g = b ∧ 0 = off := by simpa using e
    exact ⟨g, rfl, hg, by simp [Value.ownBlock], ⟨i1, i2, by omega, fun _ => ⟨g, 0, rfl, Nat.le_refl _, Nat.lt_succ_self _, e3⟩⟩, i5⟩
structure BestSt (R : List Int) (n b i : Nat) : Prop where
  hb : b < n
  hi : i ≤ n
  le : ∀ j, j < i → R.getD j 0 ≤ R.getD b 0
  lt : ∀ j, j < b → R.getD j 0 < R.getD b 0
structure BestW (R : List Int) (n : Nat) (vb vi : Value) : Prop where
  ex : ∃ b i : Nat, vb = .int .i64 (b : Int) ∧ vi = .int .i64 (i : Int) ∧ Hid (BestSt R n b i)
theorem bestw {R : List Int} {n b i : Nat} {vb vi : Value} (h1 : vb = .int .i64 (b : Int)) (h2 : vi = .int .i64 (i : Int)) (h : Hid (BestSt R n b i)) : BestW R n vb vi := ⟨⟨b, i, h1, h2, h⟩⟩
theorem BestSt.keep {R : List Int} {n b i : Nat} (h : BestSt R n b i) (hi : i < n) (h1 : ¬ R.getD b 0 < R.getD i 0) : BestSt R n b (i + 1) :=
  ⟨h.hb, hi, fun j hj => by rcases Nat.lt_or_ge j i with q | q
                            · exact h.le j q
                            · obtain rfl : j = i := by omega
                              omega, h.lt⟩
theorem BestSt.take {R : List Int} {n b i : Nat} (h : BestSt R n b i) (hi : i < n) (h1 : R.getD b 0 < R.getD i 0) : BestSt R n i (i + 1) :=
  ⟨hi, hi, fun j hj => by rcases Nat.lt_or_ge j i with q | q
                          · have := h.le j q; omega
                          · obtain rfl : j = i := by omega
                            exact Int.le_refl _, fun j hj => by have := h.le j hj; omega⟩

set_option maxRecDepth 100000 in
set_option maxHeartbeats 6400000 in
theorem specLargestRemainders_any {A : Option Addr} {lo hi n c : Nat} {ws : List Int} {t : Int} {w : World} (h : Ints w lo hi A n ws) :
    Calls Try.prog 30 #[.slice A n c, .int .i64 t] w fun e w' => ∃ A1 N1 C1, e = .returned (.tuple #[.slice A1 N1 C1, .bool (lrQ ws t).2]) ∧ Mine w' w.heap.size w'.heap.size A1 N1 (lrQ ws t).1 ∧ Keeps w w' := by
  have hn := h.le
  have htop := h.top
  have HL := hid h.1
  obtain ⟨q0, q1, HQ⟩ : ∃ q0 q1, Hid (lrQ ws t = (q0, q1)) := ⟨_, _, rfl⟩
  rw [HQ.out]
  obtain ⟨S, HS⟩ : ∃ S, Hid (ws.sum = S) := ⟨_, rfl⟩
  go_enter Try.func30, Try.ntmps30
  have kw := keeps_refl w
  go_wp2_with fail
  obtain ⟨pHP, HP⟩ : ∃ pB, Hid (partsB ws = pB) := ⟨_, rfl⟩
  refine (iList_any _ _ _ _ _ _ _ (h.keeps kw)).mono ?_
  rintro e w' ⟨rfl, rfl⟩
  rw [HP.out]
  cases pHP
  · obtain ⟨e0, e1⟩ : q0 = [] ∧ q1 = false := by have := HQ.out.symm.trans (lrQ_no (lrB_no1 HP.out)); injection this with a b; exact ⟨a, b⟩
    subst e0 e1
    go_wp2_with fail
    go_ret2
    exact ⟨none, 0, 0, rfl, Mine.nil_ _ _, kw⟩
  · skip
    go_wp2_with fail
    obtain ⟨pHW, HW⟩ : ∃ pB, Hid (within 0 100000 ws = pB) := ⟨_, rfl⟩
    refine (l1All_any _ _ _ _ _ _ 0 100000 _ (h.keeps kw)).mono ?_
    rintro e w' ⟨rfl, rfl⟩
    rw [HW.out]
    cases pHW
    · obtain ⟨e0, e1⟩ : q0 = [] ∧ q1 = false := by have := HQ.out.symm.trans (lrQ_no (lrB_no2 HW.out)); injection this with a b; exact ⟨a, b⟩
      subst e0 e1
      go_wp2_with fail
      go_ret2
      exact ⟨none, 0, 0, rfl, Mine.nil_ _ _, kw⟩
    · skip
      have HBD := hid ((partsB_bd HP.out).mono (show (100000 : Int) ≤ 10000000000 by omega))
      go_wp2_with fail
      refine (tSum_any _ _ _ _ _ _ _ (h.keeps kw) HBD.out).mono ?_
      rintro e w' ⟨rfl, rfl⟩
      rw [HS.out]
      by_cases hS : ¬ S = 0
      rotate_left
      · obtain rfl : S = 0 := by omega
        have t0 : ((0 : Int) == 0) = true := rfl
        obtain ⟨e0, e1⟩ : q0 = [] ∧ q1 = false := by have := HQ.out.symm.trans (lrQ_no (lrB_no3 HS.out)); injection this with a b; exact ⟨a, b⟩
        subst e0 e1
        go_wp2_with fail
        go_ret2
        exact ⟨none, 0, 0, rfl, Mine.nil_ _ _, kw⟩
      have t0 : (S == 0) = false := by rw [beq_eq_false_iff_ne]; exact hS
      go_wp2_with fail
      obtain ⟨pHI, HI⟩ : ∃ pB, Hid (inB t 0 1000000 = pB) := ⟨_, rfl⟩
      refine (l1In_any t 0 1000000 _).mono ?_
      rintro e w' ⟨rfl, rfl⟩
      rw [HI.out]
      cases pHI
      · obtain ⟨e0, e1⟩ : q0 = [] ∧ q1 = false := by have := HQ.out.symm.trans (lrQ_no (lrB_no4 HI.out)); injection this with a b; exact ⟨a, b⟩
        subst e0 e1
        go_wp2_with fail
        go_ret2
        exact ⟨none, 0, 0, rfl, Mine.nil_ _ _, kw⟩
      · skip
        go_wp2_with fail
        have HB := hid (lrB_yes HP.out HW.out (by rw [HS.out]; exact hS) HI.out)
        obtain ⟨L, hL⟩ : ∃ L : Nat, lLeft ws t = (L : Int) := ⟨(lLeft ws t).toNat, by have := (lLeft_bd HB.out).1; omega⟩
        have HLF := hid hL
        have hLn : L < n := by have := (lLeft_bd HB.out).2; rw [hL, HL.out] at this; omega
        clear hL
        obtain ⟨Z, hZ⟩ : ∃ Z, Ord (lk ws t) n Z := ⟨_, ordZ_ord _ _⟩
        have HZ := hid hZ
        clear hZ
        have HQE := hid (HQ.out.symm.trans (lrQ_yes HB.out HL.out HZ.out HLF.out))
        refine (tSum_any _ _ _ _ _ _ _ (h.keeps kw) HBD.out).mono ?_
        rintro e w' ⟨rfl, rfl⟩
        rw [HS.out]
        go_wp2_with fail
        go_loopw [7, 8, 37] (fun v1 v2 i wr => ∃ k : Nat, k ≤ n ∧ i = .int .i64 k ∧ Tri wr w.heap.size v1 v2 (.slice none 0 0) k k 0 ((ri n (lq ws t)).take k) ((ri n (lr ws t)).take k) [] ∧ Keeps w wr) (fun _ _ i _ => n - (intOf i).toNat)
        case atStart => exact ⟨0, Nat.zero_le _, rfl, Tri.nil_ _ _, kw⟩
        clear kw
        case round =>
          obtain ⟨k, hk, rfl, q1, hq⟩ := hrel
          have hqs := hq.size
          by_cases hlt : k < n
          · have hi1 : (k : Int) < (n : Int) := by omega
            obtain ⟨bb, off, u, rfl, _, _, hcu, hu⟩ := (h.keeps hq).at_ hlt
            obtain ⟨P, q, r, hP, hqq, hr, e1, e2, e3, e4, e5⟩ := lq_walk (i := k) HB.out (by rw [HL.out]; exact hlt)
            rw [← hu.out] at hP
            rw [HS.out] at e1 e2
            have HT1 := hid (take_snoc (ri n (lq ws t)) k 0 (by rw [ri_len]; exact hlt))
            rw [ri_at hlt, hqq] at HT1
            have HT2 := hid (take_snoc (ri n (lr ws t)) k 0 (by rw [ri_len]; exact hlt))
            rw [ri_at hlt, hr] at HT2
            clear hqq hr hu
            go_wp2_with (at_builtin; first | (refine append_int_at (xs := (ri n (lq ws t)).take k) q1.h1 (by omega) (by omega) _ _ rfl rfl rfl rfl ?_; intro v1' wa p1 p2 p3; have b1 := hid (hq.trans' q1.h1 hqs p2); replace q1 := q1.one p1 p2 p3; rw [← HT1.out] at q1; clear p1 p2 p3 hq; have s1 := b1.out.size) | (refine append_int_at (xs := (ri n (lr ws t)).take k) q1.h2 (by omega) (by omega) _ _ rfl rfl rfl rfl ?_; intro v2' wb p1 p2 p3; have b2 := hid (b1.out.trans' q1.h2 s1 p2); replace q1 := q1.two p1 p2 p3; rw [← HT2.out] at q1; clear p1 p2 p3 b1))
            go_wp2
            go_roundw
            case rel => exact ⟨k + 1, by omega, by go_num, q1, b2.out⟩
            case measure => simp [intOf] <;> omega
          · obtain rfl : n = k := by omega
            have hi1 : ¬ (n : Int) < (n : Int) := by omega
            obtain ⟨A1, c1, rfl⟩ := q1.h1.form
            obtain ⟨A2, c2, rfl⟩ := q1.h2.form
            have hn0 : 0 < n := by omega
            obtain ⟨g1, rfl, l1, o1, m1⟩ := mine_blk q1.h1 hn hn0
            obtain ⟨g2, rfl, l2, o2, m2⟩ := mine_blk q1.h2 hn hn0
            have d12 : g1 ≠ g2 := fun e => q1.a12 g1 o1 (by rw [o2, e])
            rw [List.take_of_length_le (by rw [ri_len]; omega), ← loL_zero (Z := Z)] at m1
            rw [List.take_of_length_le (by rw [ri_len]; omega), ← reL_zero (Z := Z)] at m2
            clear q1 o1 o2
            have HBD2 := hid (show Bd 10000000000 (loL ws t Z n 0) from fun j => by
              rcases Nat.lt_or_ge j n with e | e
              · have := loL_bd (Z := Z) (k := 0) HB.out HL.out e; omega
              · rw [show (loL ws t Z n 0).getD j 0 = 0 by unfold loL; simp [List.getD, ri_len, Nat.not_lt.2 e]]; omega)
            obtain ⟨U, HU⟩ : ∃ U, Hid ((loL ws t Z n 0).sum = U) := ⟨_, rfl⟩
            have HSUM := hid (show t - U = (L : Int) by rw [← HU.out, loL_zero]; have := HLF.out; unfold lLeft at this; rw [HL.out] at this; exact this)
            have hU1 : U = t - (L : Int) := by have := HSUM.out; omega
            subst hU1
            have e8 : t - (t - (L : Int)) = (L : Int) := by omega
            have ht := inB_true.1 HI.out
            go_wp2_with fail
            refine (tSum_any _ _ _ _ _ _ _ m1.1 HBD2.out).mono ?_
            rintro e w' ⟨rfl, rfl⟩
            rw [HU.out]
            go_wp2_with fail
            clear e8 HSUM HBD2
            go_loopw [11] (fun vl wr => ∃ k d : Nat, k + d = L ∧ vl = .int .i64 (d : Int) ∧ Mine wr g1 (g1 + 1) (some ⟨g1, 0, none⟩) n (loL ws t Z n k) ∧ Mine wr g2 (g2 + 1) (some ⟨g2, 0, none⟩) n (reL ws t Z n k) ∧ Keeps w wr) (fun vl _ => (intOf vl).toNat)
            case atStart => exact ⟨0, L, by omega, by first | rfl | go_num, m1, m2, hq⟩
            clear m1 m2 hq
            case round =>
              obtain ⟨k, d, hkd, rfl, m1, m2, kw⟩ := hrel
              have sz9 := kw.size
              by_cases hlt : 0 < d
              rotate_left
              · obtain rfl : d = 0 := by omega
                obtain rfl : k = L := by omega
                obtain ⟨e0, e1⟩ : q0 = loL ws t Z n k ∧ q1 = true := by have := HQE.out; injection this with a b; exact ⟨a, b⟩
                subst e0 e1
                have MM := hid (m1.widen (lo' := w.heap.size) (hi' := wr.heap.size) (by omega) m1.1.top (Nat.le_refl _))
                clear m1 m2
                go_wp2
                go_ret2
                first
                | exact ⟨_, _, _, rfl, MM.out, kw⟩
                | exact ⟨_, _, ⟨_, rfl⟩, MM.out, kw⟩
                | exact ⟨_, _, MM.out, kw⟩
                | exact ⟨_, MM.out, kw⟩
              have hi2 : (0 : Int) < (d : Int) := by omega
              obtain ⟨R, hR⟩ : ∃ R, reL ws t Z n k = R := ⟨_, rfl⟩
              have HR := hid hR
              rw [hR] at m2
              clear hR
              go_wp2_with fail
              go_loop [12, 68] (fun vb vi => BestW R n vb vi) (fun _ vi => n - (intOf vi).toNat)
              case atStart => exact bestw (b := 0) (i := 0) rfl rfl (hid ⟨hn0, Nat.zero_le _, fun j hj => absurd hj (by omega), fun j hj => absurd hj (by omega)⟩)
              case round =>
                obtain ⟨⟨b, i, rfl, rfl, HBS⟩⟩ := hrel
                have hbn := HBS.out.hb
                have hin := HBS.out.hi
                by_cases hlt2 : i < n
                · have j1 : (i : Int) < (n : Int) := by omega
                  have j2 : (b : Int) < (n : Int) := by omega
                  obtain ⟨_, _, x, e9, _, _, hcx, hx⟩ := m2.1.at_ (k := i) hlt2
                  obtain ⟨rfl, rfl⟩ : g2 = _ ∧ 0 = _ := by simpa using e9
                  obtain ⟨_, _, y, e9', _, _, hcy, hy⟩ := m2.1.at_ (k := b) hbn
                  obtain ⟨rfl, rfl⟩ : g2 = _ ∧ 0 = _ := by simpa using e9'
                  rw [Nat.zero_add] at hcx hcy
                  have HX := hid hx.out
                  have HY := hid hy.out
                  clear hx hy e9 e9'
                  by_cases hxy : y < x
                  · have HN := hid (HBS.out.take hlt2 (by rw [← HX.out, ← HY.out]; exact hxy))
                    go_wp2
                    refine ⟨?_, ?measure⟩
                    (repeat apply Exists.intro)
                    first
                    | exact bestw rfl (by go_num) HN
                    | exact ⟨bestw rfl (by go_num) HN, rfl⟩
                    case measure => simp [intOf] <;> omega
                  · have HN := hid (HBS.out.keep hlt2 (by rw [← HX.out, ← HY.out]; exact hxy))
                    go_wp2
                    refine ⟨?_, ?measure⟩
                    (repeat apply Exists.intro)
                    first
                    | exact bestw rfl (by go_num) HN
                    | exact ⟨bestw rfl (by go_num) HN, rfl⟩
                    case measure => simp [intOf] <;> omega
                obtain rfl : n = i := by omega
                have j1 : ¬ (n : Int) < (n : Int) := by omega
                have j2 : (b : Int) < (n : Int) := by omega
                have HBI := hid (best_is HZ.out (lrB_parts HB.out).2.2.1.1 (k := k) (by omega) hbn (by rw [HR.out]; exact HBS.out.le) (by rw [HR.out]; exact HBS.out.lt))
                have hst := loL_step HZ.out (k := k) (by omega) HBI.out
                have hst2 := reL_step HZ.out (k := k) (by omega) HBI.out
                rw [HR.out] at hst2
                obtain ⟨_, _, y, e7, _, _, hcy, hy⟩ := m1.1.at_ (k := b) hbn
                obtain ⟨rfl, rfl⟩ : g1 = _ ∧ 0 = _ := by simpa using e7
                obtain ⟨_, _, x, e9, _, _, hcx, _⟩ := m2.1.at_ (k := b) hbn
                obtain ⟨rfl, rfl⟩ : g2 = _ ∧ 0 = _ := by simpa using e9
                have hyb := loL_bd (Z := Z) (k := k) HB.out HL.out hbn
                rw [← hy.out] at hyb
                have hf1 := m1.2 _ _ rfl b hbn
                have hf2 := m2.2 _ _ rfl b hbn
                obtain ⟨n1, f1⟩ := m1.set_ (k := b) hbn (y + 1)
                rw [hy.out, hst.2, ← hy.out] at n1
                obtain ⟨n2, f2⟩ := (m2.fr f1 (by omega)).set_ (k := b) hbn (-1)
                rw [hst2] at n2
                have M1 := hid (n1.fr f2 (by omega))
                have M2 := hid n2
                have KW := hid (below_fr (below_fr kw kw.size (by omega) f1) (by have := f1.size; omega) (by omega) f2)
                rw [Nat.zero_add] at hcx hcy hf1 hf2 M1 M2 KW
                clear n1 n2 f1 f2 m1 m2 kw hst hst2 e7 e9 hy HBS
                obtain ⟨d', rfl⟩ : ∃ d', d = d' + 1 := ⟨d - 1, by omega⟩
                go_wp2
                go_roundw
                case rel => exact ⟨k + 1, d', by omega, by go_num, M1.out, M2.out, KW.out⟩
                case measure => simp [intOf] <;> omega
end Go.Proofs.Ytikmgohjgdojdaa
