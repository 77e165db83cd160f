/- The law FnAdjusted: its walk. -/
import Derived.Test.YtkpliolafkdijaaDrawB
import Derived.Test.YtkpliolafkdijaaAjL
import Derived.Test.YtkpliolafkdijaaFnh
namespace Go.Proofs.Ytkpliolafkdijaa
open Go.RowKit
set_option linter.unusedVariables false
set_option linter.unusedSimpArgs false

theorem sq6 {a : Int} (h : -1000000 ≤ a ∧ a ≤ 1000000) : 0 ≤ a * a ∧ a * a ≤ 1000000000000 := by have := sq_bd h; omega
theorem wf_of {t : Int} (h : -9223372036854775808 ≤ t ∧ t ≤ 9223372036854775807) : (Lit.int .i64 t).wf = true := by simp [Lit.wf, IntKind.min, IntKind.max, IntKind.signed, IntKind.bits]; omega
/-- What is drawn for IsAdjusted. -/
def DrawsX (w : World) (e : Ending) (w' : World) : Prop := ∃ A N C xs A1 N1 C1 ys A2 N2 C2 zs t A3 N3 C3 us, e = .returned (.tuple #[.slice A N C, .slice A1 N1 C1, .slice A2 N2 C2, .int .i64 t, .slice A3 N3 C3]) ∧
  Ints w' w.heap.size w'.heap.size A N xs ∧ Ints w' w.heap.size w'.heap.size A1 N1 ys ∧ Ints w' w.heap.size w'.heap.size A2 N2 zs ∧ (-10000000 ≤ t ∧ t ≤ 10000000) ∧ Ints w' w.heap.size w'.heap.size A3 N3 us ∧ Keeps w w'
theorem AdjR.yes {vs lo hi xs : List Int} {t : Int} (h : AdjR vs lo hi t xs true) : boundedB vs lo hi = true ∧ inB t (-1000000) 1000000 = true ∧ inB t lo.sum hi.sum = true ∧ IsAdj vs lo hi t xs := by
  unfold AdjR at h
  split at h
  · rename_i hc
    simp only [Bool.and_eq_true] at hc
    exact ⟨hc.1.1, hc.1.2, hc.2, h.2⟩
  · cases h.2
theorem AdjR.bd {vs lo hi xs : List Int} {t : Int} (h : AdjR vs lo hi t xs true) : Bd 100000 vs ∧ Bd 100000 xs ∧ Ordered lo hi ∧ xs.length = vs.length ∧ lo.length = vs.length ∧ hi.length = vs.length ∧ vs.length ≤ 30 := by
  obtain ⟨h1, h2, h3, h4⟩ := h.yes
  have hb := boundedB_true.1 h1
  have hl := limitsB_true.1 hb.2.1
  have ho := ordered_of hl.2.2.2 hl.2.2.1
  exact ⟨partsB_bd hb.1, (isAdj_in rfl ho h4).bd h4.1 (partsB_bd hl.1) (partsB_bd hl.2.1), ho, h4.1, hb.2.2, by omega, (partsB_true.1 hb.1).2.1⟩
set_option maxRecDepth 100000 in
set_option maxHeartbeats 6400000 in
theorem DrawIsAdjusted_any {A : Option Addr} {hi n c : Nat} {w : World} (hb : Bytes w hi A n) :
    Calls Try.prog 51 #[.slice A n c] w (DrawsX w) := by
  have hc := Cur.new (t := 125) (c := c) hb
  have k0 := keeps_alloc w (.cells #[.slice A n c, .int .i64 0, .int .u64 0] 125)
  have hb0 := hb.keeps k0
  have e0 : (w.alloc (.cells #[.slice A n c, .int .i64 0, .int .u64 0] 125)).heap.size = w.heap.size + 1 := by simp
  have E0 := hid e0
  clear e0
  go_enter Try.func51, Try.ntmps51
  go_wp2_with fail
  refine (DrawAdjustTo_any hb0).mono ?_
  rintro e w1 ⟨A0, N, C, xs, A1, N1, C1, ys, A2, N2, C2, zs, t, rfl, hv, hl, hh, _, ht, k1⟩
  have hc1 := hc.keeps k1
  have kw := k0.trans k1
  have s1 := k1.size
  rw [E0.out] at hv hl hh s1
  clear hc k0 k1
  go_wp2_with fail
  refine (spec_AdjustTo_any hv hl hh (wf_of (by omega))).mono ?_
  rintro e w2 ⟨A3, N3, C3, us, ok, rfl, hu, har, k2⟩
  have hv2 := hv.keeps k2
  have hl2 := hl.keeps k2
  have hh2 := hh.keeps k2
  have hc2 := hc1.keeps k2
  have kw2 := kw.trans k2
  have s2 := k2.size
  have HR := hid har
  clear har hv hl hh hc1 k2 kw
  cases ok
  · go_wp2
    (try simp only [Exit.inBlock, Exit.then]); refine bodyPost_ret (results_tmp5 rfl _ _ _) rfl ?_
    exact ⟨_, _, _, _, _, _, _, _, _, _, _, _, _, _, _, _, _, rfl, hv2.widen (by omega) s2 (Nat.le_refl _), hl2.widen (by omega) s2 (Nat.le_refl _), hh2.widen (by omega) s2 (Nat.le_refl _), ht, hv2.widen (by omega) s2 (Nat.le_refl _), kw2⟩
  have hbu := hid HR.out.bd.2.1
  have hun := hu.1.1
  have hN3 : N3 ≤ 30 := by have := HR.out.bd.2.2.2.1; have := HR.out.bd.2.2.2.2.2.2; omega
  clear HR
  by_cases h1 : 1 < N3
  rotate_left
  · have g1 : ¬ (1 : Int) < (N3 : Int) := by omega
    go_wp2
    (try simp only [Exit.inBlock, Exit.then]); refine bodyPost_ret (results_tmp5 rfl _ _ _) rfl ?_
    exact ⟨_, _, _, _, _, _, _, _, _, _, _, _, _, _, _, _, _, rfl, hv2.widen (by omega) s2 (Nat.le_refl _), hl2.widen (by omega) s2 (Nat.le_refl _), hh2.widen (by omega) s2 (Nat.le_refl _), ht, hu.1.widen (by omega) (Nat.le_refl _) (Nat.le_refl _), kw2⟩
  have g1 : (1 : Int) < (N3 : Int) := by omega
  go_wp2_with fail
  refine (one_any hc2 (by omega) (by omega)).mono ?_
  rintro e w3 ⟨b, rfl, hc3, f3⟩
  have kw3 : Keeps w w3 := below_fr kw2 kw2.size (Nat.le_refl _) f3
  have s3 := f3.size
  have v3 := hv2.keepsF f3 (Nat.lt_succ_self _)
  have l3 := hl2.keepsF f3 (Nat.lt_succ_self _)
  have h3 := hh2.keepsF f3 (Nat.lt_succ_self _)
  have u3 := hu.fr f3 (by omega)
  clear hc2 f3 kw2 hv2 hl2 hh2 hu
  cases b
  · go_wp2
    (try simp only [Exit.inBlock, Exit.then]); refine bodyPost_ret (results_tmp5 rfl _ _ _) rfl ?_
    exact ⟨_, _, _, _, _, _, _, _, _, _, _, _, _, _, _, _, _, rfl, v3.widen (by omega) (by omega) (Nat.le_refl _), l3.widen (by omega) (by omega) (Nat.le_refl _), h3.widen (by omega) (by omega) (Nat.le_refl _), ht, u3.1.widen (by omega) (by omega) (Nat.le_refl _), kw3⟩
  go_wp2_with fail
  refine (pick_any hc3 (by omega) (by omega)).mono ?_
  rintro e w4 ⟨p, rfl, hp, hc4, f4⟩
  have kw4 : Keeps w w4 := below_fr kw3 kw3.size (Nat.le_refl _) f4
  have s4 := f4.size
  have v4 := v3.keepsF f4 (Nat.lt_succ_self _)
  have l4 := l3.keepsF f4 (Nat.lt_succ_self _)
  have h4 := h3.keepsF f4 (Nat.lt_succ_self _)
  have u4 := u3.fr f4 (by omega)
  clear hc3 f4 kw3 v3 l3 h3 u3
  go_wp2_with fail
  refine (pick_any hc4 (by omega) (by omega)).mono ?_
  rintro e w5 ⟨q, rfl, hq, hc5, f5⟩
  have kw5 : Keeps w w5 := below_fr kw4 kw4.size (Nat.le_refl _) f5
  have s5 := f5.size
  have v5 := v4.keepsF f5 (Nat.lt_succ_self _)
  have l5 := l4.keepsF f5 (Nat.lt_succ_self _)
  have h5 := h4.keepsF f5 (Nat.lt_succ_self _)
  have u5 := u4.fr f5 (by omega)
  clear hc4 f5 kw4 v4 l4 h4 u4 hc5
  obtain ⟨i, rfl⟩ : ∃ i : Nat, p = i := ⟨p.toNat, by omega⟩
  obtain ⟨k, rfl⟩ : ∃ k : Nat, q = k := ⟨q.toNat, by omega⟩
  have hi' : i < N3 := by omega
  have hk' : k < N3 := by omega
  have hi1 : (i : Int) < (N3 : Int) := by omega
  have hk1 : (k : Int) < (N3 : Int) := by omega
  obtain ⟨b, off, x, rfl, _, _, hcx, hx⟩ := u5.1.at_ hi'
  have hxb := hbu.out i
  rw [← hx.out] at hxb
  have hfz := u5.2 b off rfl i hi'
  obtain ⟨u6, f6⟩ := u5.set_ hi' (x + 1)
  have U6 := hid u6
  have F6 := hid f6
  have hk6 := hid (u6.2 b off rfl k hk')
  obtain ⟨b', off', y, e', _, _, hcy, hy⟩ := u6.1.at_ hk'
  injection e' with e'; injection e' with e1 e2; subst e1; subst e2
  have hyb : -100001 ≤ y ∧ y ≤ 100001 := by
    rw [hy.out, getD_setI]
    split
    · omega
    · have := hbu.out k; omega
  have u7 := U6.out.set_ hk' (y - 1)
  have U7 := hid u7
  have hfy := hk6.out
  clear u6 f6 u7 hx hy
  go_wp2
  (try simp only [Exit.inBlock, Exit.then]); refine bodyPost_ret (results_tmp5 rfl _ _ _) rfl ?_
  have f7 := F6.out.trans U7.out.2
  have es : ((w5.setCell ⟨b, off + i, none⟩ (.int .i64 (x + 1))).setCell ⟨b, off + k, none⟩ (.int .i64 (y - 1))).heap.size = w5.heap.size := by simp [World.setCell]
  have V7 := (v5.fr f7 (by omega)).widen (lo' := w.heap.size) (hi' := w5.heap.size) (by omega) (by omega) (by rw [es]; exact Nat.le_refl _)
  have L7 := (l5.fr f7 (by omega)).widen (lo' := w.heap.size) (hi' := w5.heap.size) (by omega) (by omega) (by rw [es]; exact Nat.le_refl _)
  have H7 := (h5.fr f7 (by omega)).widen (lo' := w.heap.size) (hi' := w5.heap.size) (by omega) (by omega) (by rw [es]; exact Nat.le_refl _)
  have U8 := U7.out.1.1.widen (lo' := w.heap.size) (hi' := w5.heap.size) (by omega) (by omega) (by rw [es]; exact Nat.le_refl _)
  have K8 := below_fr kw5 kw5.size (by omega) f7
  rw [← es] at V7 L7 H7 U8
  exact ⟨_, _, _, _, _, _, _, _, _, _, _, _, _, _, _, _, _, rfl, V7, L7, H7, ht, U8, K8⟩
set_option maxRecDepth 100000 in
set_option maxHeartbeats 12800000 in
theorem FnAdjusted_law (A0 : Option Addr) (n0 c0 : Nat) (A1 : Option Addr) (n1 c1 : Nat) (w : World) (wa0 : BytesArg w A0 n0) (wa1 : BytesArg w A1 n1) :
    Calls Try.prog 9 #[.slice A0 n0 c0, .slice A1 n1 c1] w fun e w' => e = .returned (.bool true) ∧ Below w.heap.size w w' := by
  have m0 := wa0.1
  have m1 := wa1.1
  go_enter Try.func9, Try.ntmps9
  go_wp2_with fail
  refine (big_any m0 m1).mono ?_
  rintro e w' ⟨b, rfl, rfl⟩
  cases b
  rotate_left
  · go_wp2
    go_ret
    exact ⟨rfl, keeps_refl _⟩
  go_wp2_with fail
  refine (DrawAdjustTo_any wa0).mono ?_
  rintro e w1 ⟨B0, N, C, vs, B1, N1, C1, ys, B2, N2, C2, zs, t, rfl, hv, hl, hh, _, ht, k1⟩
  have hb := wa1.keeps k1
  go_wp2_with fail
  refine (impl_AdjustTo_any hv hl hh (wf_of (by omega))).mono ?_
  rintro e w2 ⟨B3, N3, C3, xs, ok, rfl, hx, har, k2⟩
  have hv2 := hv.keeps k2
  have hl2 := hl.keeps k2
  have hh2 := hh.keeps k2
  have hb2 := hb.keeps k2
  have kw2 := k1.trans k2
  have H1 := hid har
  clear har hv hl hh hb k1 k2
  go_wp2_with fail
  refine (spec_AdjustTo_any hv2 hl2 hh2 (wf_of (by omega))).mono ?_
  rintro e w3 ⟨B4, N4, C4, xs', ok', rfl, hy, har, k3⟩
  have hv3 := hv2.keeps k3
  have hl3 := hl2.keeps k3
  have hh3 := hh2.keeps k3
  have hb3 := hb2.keeps k3
  have hx3 := hx.keeps k3
  have kw3 := kw2.trans k3
  obtain ⟨r0, r1, HU⟩ := AdjR_one vs ys zs t
  obtain ⟨rfl, rfl⟩ := HU.out _ _ H1.out
  obtain ⟨rfl, rfl⟩ := HU.out _ _ har
  clear HU har hv2 hl2 hh2 hb2 hx kw2 k3
  have q0 : (r1 != r1) = false := by simp
  go_wp2_with fail
  refine (sameInts_true hx3.1 hy.1).mono ?_
  rintro e w4 ⟨rfl, kq⟩
  have hv4 := hv3.quiet kq
  have hl4 := hl3.quiet kq
  have hh4 := hh3.quiet kq
  have hb4 := hb3.keeps kq.keeps
  have hx4 := hx3.1.quiet kq
  have hy4 := hy.1.quiet kq
  have kw4 := kw3.trans kq.keeps
  clear hv3 hl3 hh3 hb3 hx3 hy kw3 kq
  cases r1
  · clear H1
    go_wp2_with fail
    refine (DrawIsAdjusted_any (hb4)).mono ?_
    rintro e x1 ⟨A5, N5, C5, vs5, A6, N6, C6, ys6, A7, N7, C7, zs7, t5, A8, N8, C8, us8, rfl, v5, l5, h5, ht5, u5, kk⟩
    have kx := kw4.trans kk
    clear kk
    go_wp2_with fail
    refine (impl_IsAdjusted_any v5 l5 h5 (wf_of (by omega)) u5).mono ?_
    rintro e x2 ⟨rfl, kk⟩
    have v6 := v5.keeps kk
    have l6 := l5.keeps kk
    have h6 := h5.keeps kk
    have u6 := u5.keeps kk
    have kx2 := kx.trans kk
    clear kk v5 l5 h5 u5 kx
    go_wp2_with fail
    refine (spec_IsAdjusted_any v6 l6 h6 (wf_of (by omega)) u6).mono ?_
    rintro e x3 ⟨rfl, kk⟩
    have v7 := v6.keeps kk
    have l7 := l6.keeps kk
    have h7 := h6.keeps kk
    have kx3 := kx2.trans kk
    clear kk v6 l6 h6 u6 kx2
    obtain ⟨r1, r2, HI⟩ : ∃ a b, Hid (isaF vs5 ys6 zs7 t5 us8 = (a, b)) := ⟨_, _, rfl⟩
    rw [HI.out]
    have q1 : (r2 != r2) = false := by simp
    have q2 : (r1 != r1) = false := by simp
    go_wp2_with fail
    refine (impl_RaiseToBounds_any v7 l7 h7).mono ?_
    rintro e x4 ⟨A9, N9, C9, rfl, u9, kk⟩
    have v8 := v7.keeps kk
    have l8 := l7.keeps kk
    have h8 := h7.keeps kk
    have kx4 := kx3.trans kk
    clear kk v7 l7 h7 kx3
    go_wp2_with fail
    refine (spec_RaiseToBounds_any v8 l8 h8).mono ?_
    rintro e x5 ⟨A10, N10, C10, rfl, u10, kk⟩
    have u11 := u9.keeps kk
    have kx5 := kx4.trans kk
    clear kk u9 kx4
    obtain ⟨r3, r4, HB⟩ : ∃ a b, Hid (rbF vs5 ys6 zs7 = (a, b)) := ⟨_, _, rfl⟩
    rw [HB.out] at u11 u10 ⊢
    have q3 : (r4 == r4) = true := by simp
    go_wp2_with fail
    refine (sameInts_true u11.1 u10.1).mono ?_
    rintro e x6 ⟨rfl, kk⟩
    have kx6 := kx5.trans kk.keeps
    clear kk kx5
    go_wp2
    go_ret
    exact ⟨rfl, kx6⟩
  have HS := hid (isaF_self H1.out.yes.1 H1.out.yes.2.1 H1.out.yes.2.2.1 H1.out.yes.2.2.2)
  have HT := hid H1.out.yes.2.2.2.2.1
  have HD := hid H1.out.bd
  have HB := hid (fun i k => isAdj_best (i := i) (k := k) HD.out.2.2.1 H1.out.yes.2.2.2)
  have e1 : N4 = N := by have := hy4.1; have := hv4.1; have := HD.out.2.2.2.1; omega
  have e2 : N1 = N := by have := hl4.1; have := hv4.1; have := HD.out.2.2.2.2.1; omega
  have e3 : N2 = N := by have := hh4.1; have := hv4.1; have := HD.out.2.2.2.2.2.1; omega
  have hvl := hid hv4.1
  have hN30 : N ≤ 30 := by have := HD.out.2.2.2.2.2.2; have := hv4.1; omega
  subst e1
  subst e2
  subst e3
  clear H1
  go_wp2_with fail
  refine (impl_IsAdjusted_any hv4 hl4 hh4 (wf_of (by omega)) hx4).mono ?_
  rintro e w5 ⟨rfl, k5⟩
  rw [HS.out]
  have hv5 := hv4.keeps k5
  have hl5 := hl4.keeps k5
  have hh5 := hh4.keeps k5
  have hb5 := hb4.keeps k5
  have hy5 := hy4.keeps k5
  have kw5 := kw4.trans k5
  clear hv4 hl4 hh4 hb4 hx4 hy4 kw4 k5
  go_wp2_with fail
  refine (pSum_any _ _ _ _ _ _ _ hy5 (HD.out.2.1.mono (by omega))).mono ?_
  rintro e w' ⟨rfl, rfl⟩
  rw [HT.out]
  have q2 : (t != t) = false := by simp
  go_wp2_with fail
  go_loopw [91] (fun i wr => ∃ k : Nat, k ≤ N2 ∧ i = .int .i64 k ∧ Quiet w5 wr) (fun i _ => N2 - (intOf i).toNat)
  case atStart => exact ⟨0, Nat.zero_le _, rfl, Quiet.refl _⟩
  case round =>
    obtain ⟨i, hi, rfl, hq⟩ := hrel
    by_cases hlt : i < N2
    rotate_left
    · have hb6 := hb5.keeps hq.keeps
      have kw6 := kw5.trans hq.keeps
      clear hv5 hl5 hh5 hy5 hb5 kw5
      have hi1 : ¬ (i : Int) < (N2 : Int) := by omega
      go_wp2_with fail
      refine (DrawIsAdjusted_any (hb6)).mono ?_
      rintro e x1 ⟨A5, N5, C5, vs5, A6, N6, C6, ys6, A7, N7, C7, zs7, t5, A8, N8, C8, us8, rfl, v5, l5, h5, ht5, u5, kk⟩
      have kx := kw6.trans kk
      clear kk
      go_wp2_with fail
      refine (impl_IsAdjusted_any v5 l5 h5 (wf_of (by omega)) u5).mono ?_
      rintro e x2 ⟨rfl, kk⟩
      have v6 := v5.keeps kk
      have l6 := l5.keeps kk
      have h6 := h5.keeps kk
      have u6 := u5.keeps kk
      have kx2 := kx.trans kk
      clear kk v5 l5 h5 u5 kx
      go_wp2_with fail
      refine (spec_IsAdjusted_any v6 l6 h6 (wf_of (by omega)) u6).mono ?_
      rintro e x3 ⟨rfl, kk⟩
      have v7 := v6.keeps kk
      have l7 := l6.keeps kk
      have h7 := h6.keeps kk
      have kx3 := kx2.trans kk
      clear kk v6 l6 h6 u6 kx2
      obtain ⟨r1, r2, HI⟩ : ∃ a b, Hid (isaF vs5 ys6 zs7 t5 us8 = (a, b)) := ⟨_, _, rfl⟩
      rw [HI.out]
      have q1 : (r2 != r2) = false := by simp
      have q2 : (r1 != r1) = false := by simp
      go_wp2_with fail
      refine (impl_RaiseToBounds_any v7 l7 h7).mono ?_
      rintro e x4 ⟨A9, N9, C9, rfl, u9, kk⟩
      have v8 := v7.keeps kk
      have l8 := l7.keeps kk
      have h8 := h7.keeps kk
      have kx4 := kx3.trans kk
      clear kk v7 l7 h7 kx3
      go_wp2_with fail
      refine (spec_RaiseToBounds_any v8 l8 h8).mono ?_
      rintro e x5 ⟨A10, N10, C10, rfl, u10, kk⟩
      have u11 := u9.keeps kk
      have kx5 := kx4.trans kk
      clear kk u9 kx4
      obtain ⟨r3, r4, HB⟩ : ∃ a b, Hid (rbF vs5 ys6 zs7 = (a, b)) := ⟨_, _, rfl⟩
      rw [HB.out] at u11 u10 ⊢
      have q3 : (r4 == r4) = true := by simp
      go_wp2_with fail
      refine (sameInts_true u11.1 u10.1).mono ?_
      rintro e x6 ⟨rfl, kk⟩
      have kx6 := kx5.trans kk.keeps
      clear kk kx5
      go_wp2
      go_ret
      exact ⟨rfl, kx6⟩
    have hi1 : (i : Int) < (N2 : Int) := by omega
    obtain ⟨wo, rfl⟩ : ∃ u : World, u = wr := ⟨_, rfl⟩
    go_wp2_with fail
    go_loopw [96] (fun j wr => ∃ k : Nat, k ≤ N2 ∧ j = .int .i64 k ∧ Quiet w5 wr) (fun j _ => N2 - (intOf j).toNat)
    case atStart => exact ⟨0, Nat.zero_le _, rfl, hq⟩
    clear hq
    case round =>
      obtain ⟨k, hk, rfl, hq⟩ := hrel
      by_cases hlk : k < N2
      rotate_left
      · have hk1 : ¬ (k : Int) < (N2 : Int) := by omega
        go_wp2
        go_roundw
        case rel => exact ⟨i + 1, by omega, by go_num, hq⟩
        case measure => simp [intOf]; omega
      have hk1 : (k : Int) < (N2 : Int) := by omega
      obtain ⟨by1, oy, yi, rfl, _, _, hcyi, hyi⟩ := (hy5.quiet hq).at_ hlt
      obtain ⟨by2, oy2, yk, ey, _, _, hcyk, hyk⟩ := (hy5.quiet hq).at_ hlk
      injection ey with ey; injection ey with ey1 ey2; subst ey1; subst ey2
      obtain ⟨bh, oh, hhi, rfl, _, _, hchi, hhi'⟩ := (hh5.quiet hq).at_ hlt
      obtain ⟨bl, ol, lok, rfl, _, _, hclk, hlk'⟩ := (hl5.quiet hq).at_ hlk
      obtain ⟨bv, ov, vi, rfl, _, _, hcvi, hvi⟩ := (hv5.quiet hq).at_ hlt
      obtain ⟨bv2, ov2, vk, ev, _, _, hcvk, hvk⟩ := (hv5.quiet hq).at_ hlk
      injection ev with ev; injection ev with ev1 ev2; subst ev1; subst ev2
      have HL := hid (fun h1 h2 => HB.out i k (by rw [hvl.out]; exact hlt) (by rw [hvl.out]; exact hlk) h1 h2)
      rw [← hyi.out, ← hyk.out, ← hhi'.out, ← hlk'.out, ← hvi.out, ← hvk.out] at HL
      have b1 := HD.out.1 i
      have b2 := HD.out.1 k
      have b3 := HD.out.2.1 i
      have b4 := HD.out.2.1 k
      rw [← hvi.out] at b1
      rw [← hvk.out] at b2
      rw [← hyi.out] at b3
      rw [← hyk.out] at b4
      clear hyi hyk hhi' hlk' hvi hvk
      by_cases hik : i = k
      · subst hik
        have g0 : ((i : Int) == (i : Int)) = true := by simp
        go_wp2_with fail
        go_quiet (fail)
        go_wp2
        go_roundw
        case rel => exact ⟨i + 1, by omega, by go_num, hq.step _⟩
        case measure => simp [intOf]; omega
      have g0 : ((i : Int) == (k : Int)) = false := by rw [beq_eq_false_iff_ne]; omega
      by_cases h1 : hhi ≤ yi
      · go_wp2_with fail
        go_quiet (fail)
        go_wp2
        go_roundw
        case rel => exact ⟨k + 1, by omega, by go_num, hq.step _⟩
        case measure => simp [intOf]; omega
      have d1 : decide (hhi ≤ yi) = false := by simpa using h1
      by_cases h2 : yk ≤ lok
      · go_wp2_with fail
        go_quiet (fail)
        go_wp2
        go_roundw
        case rel => exact ⟨k + 1, by omega, by go_num, hq.step _⟩
        case measure => simp [intOf]; omega
      have d2 : decide (yk ≤ lok) = false := by simpa using h2
      have hno := HL.out (by omega) (by omega)
      have p1 := sq6 (a := yi - vi + 1) (by omega)
      have p2 := sq6 (a := yk - vk - 1) (by omega)
      have p3 := sq6 (a := yi - vi) (by omega)
      have p4 := sq6 (a := yk - vk) (by omega)
      go_wp2_with fail
      go_quiet (fail)
      go_wp2_with fail
      go_quiet (fail)
      go_wp2
      go_roundw
      case rel => exact ⟨k + 1, by omega, by go_num, hq.step _⟩
      case measure => simp [intOf]; omega
end Go.Proofs.Ytkpliolafkdijaa
