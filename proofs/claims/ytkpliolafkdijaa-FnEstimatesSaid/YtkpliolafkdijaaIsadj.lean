/- IsAdjusted, of the reference and of the program; and the law. -/
import Derived.Test.YtkpliolafkdijaaAdjLaw
namespace Go.Proofs.Ytkpliolafkdijaa
open Go.RowKit
set_option linter.unusedVariables false
set_option linter.unusedSimpArgs false

theorem sqd_comm (xs ys : List Int) (k : Nat) : sqd xs ys k = sqd ys xs k := by
  induction k with
  | zero => rfl
  | succ k ih =>
    rw [sqd_succ, sqd_succ, ih]
    have e : ys.getD k 0 - xs.getD k 0 = -(xs.getD k 0 - ys.getD k 0) := by omega
    rw [e, Int.neg_mul_neg]
/-- The first k numbers lie within their bounds. -/
def InB (lo hi xs : List Int) (k : Nat) : Prop := ∀ j, j < k → lo.getD j 0 ≤ xs.getD j 0 ∧ xs.getD j 0 ≤ hi.getD j 0
theorem inB_succ {lo hi xs : List Int} {k : Nat} (h : InB lo hi xs k) {a x b : Int} (ha : a = lo.getD k 0) (hx : x = xs.getD k 0) (hb : b = hi.getD k 0) (h1 : a ≤ x) (h2 : x ≤ b) : InB lo hi xs (k + 1) := by
  intro j hj
  by_cases hjk : j = k
  · subst hjk; rw [← ha, ← hx, ← hb]; exact ⟨h1, h2⟩
  · exact h j (by omega)
theorem inB_no {lo hi xs : List Int} {n k : Nat} (hk : k < n) {a x b : Int} (ha : a = lo.getD k 0) (hx : x = xs.getD k 0) (hb : b = hi.getD k 0) (h : x < a ∨ b < x) : ¬ InB lo hi xs n := by
  intro h1
  have := h1 k hk
  rw [← ha, ← hx, ← hb] at this
  omega
theorem InB.bd {lo hi xs : List Int} {n : Nat} {B : Int} (h : InB lo hi xs n) (hl : xs.length = n) (h1 : Bd B lo) (h2 : Bd B hi) : Bd B xs := by
  intro j
  have a := h1 j
  have b := h2 j
  by_cases hj : j < n
  · have := h j hj; omega
  · have e : xs.getD j 0 = 0 := by simp [List.getD, List.getElem?_eq_none (show xs.length ≤ j by omega)]
    rw [e]; omega
theorem isAdj_in {vs lo hi xs : List Int} {t : Int} {n : Nat} (hn : vs.length = n) (ho : Ordered lo hi) (h : IsAdj vs lo hi t xs) : InB lo hi xs n := by
  subst hn
  obtain ⟨_, _, b, h1, _⟩ := h
  intro j hj
  have ho := ho j
  have := h1 j hj
  simp only [fn, cl] at this
  omega

open Classical in
/-- What IsAdjusted answers: whether the numbers have the sum and are as near as the nearest. -/
noncomputable def isaF (vs lo hi : List Int) (t : Int) (xs : List Int) : Bool × Bool :=
  if (boundedB vs lo hi && inB t (-1000000) 1000000) = true then
    (if inB t lo.sum hi.sum = true ∧ xs.length = vs.length ∧ InB lo hi xs vs.length then (decide (xs.sum = t) && decide (∃ best, IsAdj vs lo hi t best ∧ sqd vs xs vs.length = sqd vs best vs.length), true) else (false, true))
  else (false, false)
theorem isaF_no {vs lo hi xs : List Int} {t : Int} (h : (boundedB vs lo hi && inB t (-1000000) 1000000) = false) : isaF vs lo hi t xs = (false, false) := by
  unfold isaF; rw [h]; rfl
theorem isaF_out {vs lo hi xs : List Int} {t : Int} (h1 : boundedB vs lo hi = true) (h2 : inB t (-1000000) 1000000 = true) (h : ¬ (inB t lo.sum hi.sum = true ∧ xs.length = vs.length ∧ InB lo hi xs vs.length)) : isaF vs lo hi t xs = (false, true) := by
  unfold isaF; rw [h1, h2, if_pos (by rfl), if_neg h]
theorem isaF_in {vs lo hi xs best : List Int} {t : Int} (ho : Ordered lo hi) (h1 : boundedB vs lo hi = true) (h2 : inB t (-1000000) 1000000 = true) (h3 : inB t lo.sum hi.sum = true) (h4 : xs.length = vs.length) (h5 : InB lo hi xs vs.length) (hb : IsAdj vs lo hi t best) :
    isaF vs lo hi t xs = ((xs.sum == t) && (sqd vs xs vs.length == sqd vs best vs.length), true) := by
  unfold isaF
  rw [h1, h2, if_pos (by rfl), if_pos ⟨h3, h4, h5⟩]
  congr 1
  have e : (∃ best, IsAdj vs lo hi t best ∧ sqd vs xs vs.length = sqd vs best vs.length) ↔ sqd vs xs vs.length = sqd vs best vs.length := by
    constructor
    · rintro ⟨b, hb', h⟩
      rw [h, isAdj_one ho hb' hb]
    · intro h; exact ⟨best, hb, h⟩
  generalize (∃ best, IsAdj vs lo hi t best ∧ sqd vs xs vs.length = sqd vs best vs.length) = P at *
  generalize (sqd vs xs vs.length) = x1 at *
  generalize (sqd vs best vs.length) = x2 at *
  by_cases ha : xs.sum = t <;> by_cases hc : x1 = x2 <;> simp [ha, hc, e]

set_option maxHeartbeats 2000000 in
theorem spec_IsAdjusted_any {A A1 A2 Ax : Option Addr} {l h l1 h1 l2 h2 lx hx' n n1 n2 m c c1 c2 cx : Nat} {vs lo hi xs : List Int} {t : Int} {w : World} (ha : Ints w l h A n vs) (hb : Ints w l1 h1 A1 n1 lo) (hc : Ints w l2 h2 A2 n2 hi) (ht : (Lit.int .i64 t).wf = true) (hx : Ints w lx hx' Ax m xs) :
    Calls Try.prog 52 #[.slice A n c, .slice A1 n1 c1, .slice A2 n2 c2, .int .i64 t, .slice Ax m cx] w fun e w' => e = .returned (.tuple #[.bool (isaF vs lo hi t xs).1, .bool (isaF vs lo hi t xs).2]) ∧ Keeps w w' := by
  have hl := ha.1
  have hl1 := hb.1
  have hl2 := hc.1
  have hlx := hx.1
  have hmx := hx.le
  obtain ⟨v1, H1⟩ : ∃ v, Hid (boundedB vs lo hi = v) := ⟨_, rfl⟩
  obtain ⟨v2, H2⟩ : ∃ v, Hid (inB t (-1000000) 1000000 = v) := ⟨_, rfl⟩
  clear ht
  cases v1
  · have HF := hid (isaF_no (vs := vs) (lo := lo) (hi := hi) (t := t) (xs := xs) (by rw [H1.out]; rfl))
    go_enter Try.func52, Try.ntmps52
    go_wp2_with fail
    refine (iBounds_any _ _ _ _ _ _ _ _ _ _ _ _ _ _ _ _ _ _ _ ha hb hc).mono ?_
    rintro e w1 ⟨rfl, hq⟩
    rw [H1.out]
    go_wp2_with fail
    go_ret2
    exact ⟨ret_bs (by rw [HF.out]) (by rw [HF.out]), hq.keeps⟩
  cases v2
  · have HF := hid (isaF_no (vs := vs) (lo := lo) (hi := hi) (t := t) (xs := xs) (by rw [H1.out, H2.out]; rfl))
    go_enter Try.func52, Try.ntmps52
    go_wp2_with fail
    refine (iBounds_any _ _ _ _ _ _ _ _ _ _ _ _ _ _ _ _ _ _ _ ha hb hc).mono ?_
    rintro e w1 ⟨rfl, hq⟩
    rw [H1.out]
    go_wp2_with fail
    refine (iTotal_any).mono ?_
    rintro e w2 ⟨rfl, rfl⟩
    rw [H2.out]
    go_wp2_with fail
    go_ret2
    exact ⟨ret_bs (by rw [HF.out]) (by rw [HF.out]), hq.keeps⟩
  have hh := boundedB_true.1 H1.out
  have hli := limitsB_true.1 hh.2.1
  have HO := hid (bounded_ordered H1.out)
  have BV1 := hid (partsB_bd hh.1)
  have BL1 := hid (partsB_bd hli.1)
  have BH1 := hid (partsB_bd hli.2.1)
  have BV := hid (BV1.out.mono (B' := 1000000) (by omega))
  have BL := hid (BL1.out.mono (B' := 1000000) (by omega))
  have BH := hid (BH1.out.mono (B' := 1000000) (by omega))
  have hn1 := (partsB_true.1 hh.1).1
  obtain rfl : n1 = n := by omega
  obtain rfl : n2 = n1 := by omega
  clear hh hli hl1 hl2
  by_cases hf : lo.sum ≤ t ∧ t ≤ hi.sum
  rotate_left
  · have HF := hid (isaF_out (xs := xs) H1.out H2.out (fun hc => hf (inB_true.1 hc.1)))
    have hf2 := hid (show t < lo.sum ∨ hi.sum < t by omega)
    clear hf
    go_enter Try.func52, Try.ntmps52
    go_wp2_with fail
    refine (iBounds_any _ _ _ _ _ _ _ _ _ _ _ _ _ _ _ _ _ _ _ ha hb hc).mono ?_
    rintro e w1 ⟨rfl, hq⟩
    rw [H1.out]
    go_wp2_with fail
    refine (iTotal_any).mono ?_
    rintro e w2 ⟨rfl, rfl⟩
    rw [H2.out]
    go_wp2_with fail
    refine (iAdjust_none (vs := vs) (l := l) (h := h) (hb.quiet hq) (hc.quiet hq) BL.out BH.out hf2.out).mono ?_
    rintro e w3 ⟨rfl, rfl⟩
    go_wp2_with fail
    go_ret2
    exact ⟨ret_bs (by rw [HF.out]) (by rw [HF.out]), hq.keeps⟩
  have H3 := hid (inB_true.2 hf)
  have F1 := hid hf.1
  have F2 := hid hf.2
  clear hf
  by_cases hm : m = n2
  rotate_left
  · have HF := hid (isaF_out (xs := xs) H1.out H2.out (fun hc => by have := hc.2.1; omega))
    have hmi : ((m : Int) != (n2 : Int)) = true := by simp; omega
    go_enter Try.func52, Try.ntmps52
    go_wp2_with fail
    refine (iBounds_any _ _ _ _ _ _ _ _ _ _ _ _ _ _ _ _ _ _ _ ha hb hc).mono ?_
    rintro e w1 ⟨rfl, hq⟩
    rw [H1.out]
    go_wp2_with fail
    refine (iTotal_any).mono ?_
    rintro e w2 ⟨rfl, rfl⟩
    rw [H2.out]
    go_wp2_with fail
    refine (iAdjust_any (ha.quiet hq) (hb.quiet hq) (hc.quiet hq) BV.out BL.out BH.out HO.out F1.out F2.out).mono ?_
    rintro e w3 ⟨A', c', best, rfl, hmine, hadj, hk0⟩
    have HA := hid hadj
    have hk := hq.keeps.trans hk0
    have hbst := hmine.1
    clear hadj hk0
    go_wp2_with fail
    go_ret2
    exact ⟨ret_bs (by rw [HF.out]) (by rw [HF.out]), hk⟩
  subst hm
  go_enter Try.func52, Try.ntmps52
  go_wp2_with fail
  refine (iBounds_any _ _ _ _ _ _ _ _ _ _ _ _ _ _ _ _ _ _ _ ha hb hc).mono ?_
  rintro e w1 ⟨rfl, hq⟩
  rw [H1.out]
  go_wp2_with fail
  refine (iTotal_any).mono ?_
  rintro e w2 ⟨rfl, rfl⟩
  rw [H2.out]
  go_wp2_with fail
  refine (iAdjust_any (ha.quiet hq) (hb.quiet hq) (hc.quiet hq) BV.out BL.out BH.out HO.out F1.out F2.out).mono ?_
  rintro e w3 ⟨A', c', best, rfl, hmine, hadj, hk0⟩
  have HA := hid hadj
  have hk := hq.keeps.trans hk0
  have hbst := hmine.1
  clear hadj hk0
  go_wp2_with fail
  have ha := ha.keeps hk
  have hb := hb.keeps hk
  have hc := hc.keeps hk
  have hx := hx.keeps hk
  go_loopw [45] (fun i wr => ∃ k : Nat, k ≤ m ∧ i = .int .i64 k ∧ InB lo hi xs k ∧ Quiet w3 wr) (fun i _ => m - (intOf i).toNat)
  case atStart => exact ⟨0, Nat.zero_le _, rfl, fun j hj => absurd hj (by omega), Quiet.refl _⟩
  case round =>
    obtain ⟨k, hkm, rfl, hin, hq3⟩ := hrel
    have HI := hid hin
    clear hin
    by_cases hlt : k < m
    · obtain ⟨b0, off0, x, rfl, _, _, hc0, hx0⟩ := (hx.quiet hq3).at_ hlt
      obtain ⟨b1, off1, p, rfl, _, _, hc1, hp0⟩ := (hb.quiet hq3).at_ hlt
      obtain ⟨b2, off2, q, rfl, _, _, hc2, hq0⟩ := (hc.quiet hq3).at_ hlt
      have hi1 : (k : Int) < (m : Int) := by omega
      cases hin : inB x p q with
      | true =>
        have HT := hid (inB_true.1 hin)
        have HB := hid hin
        clear hin
        go_wp2_with fail
        go_quiet ((go_at_call 96; exact quietS (l1In_any _ _ _ _)))
        rw [HB.out]
        go_wp2_with fail
        go_roundw
        case rel => exact ⟨k + 1, by omega, by go_num, inB_succ HI.out hp0.out hx0.out hq0.out HT.out.1 HT.out.2, hq3.step _⟩
        case measure => simp [intOf]; omega
      | false =>
        have HT := hid (inB_false.1 hin)
        have HB := hid hin
        clear hin
        have HF := hid (isaF_out (xs := xs) H1.out H2.out (fun hh => inB_no (n := vs.length) (by omega) hp0.out hx0.out hq0.out HT.out hh.2.2))
        go_wp2_with fail
        go_quiet ((go_at_call 96; exact quietS (l1In_any _ _ _ _)))
        rw [HB.out]
        go_wp2_with fail
        go_ret2
        exact ⟨ret_bs (by rw [HF.out]) (by rw [HF.out]), hk.trans (hq3.step _).keeps⟩
    · obtain rfl : k = m := by omega
      have HB2 := hid (HI.out.bd hlx BL1.out BH1.out)
      have HB3 := hid ((isAdj_in hl HO.out HA.out).bd (by rw [← HA.out.1] at hl; exact hl) BL1.out BH1.out)
      have HF := hid (isaF_in (xs := xs) HO.out H1.out H2.out H3.out (by omega) (by rw [hl]; exact HI.out) HA.out)
      rw [hl] at HF
      have hb1 := (hbst.quiet hq3)
      have hx1 := (hx.quiet hq3)
      have ha1 := (ha.quiet hq3)
      have BT := hid (HB2.out.mono (B' := 10000000000) (by omega))
      by_cases hs : xs.sum = t
      · have hs2 : (xs.sum == t) = true := by simpa using hs
        go_wp2_with fail
        refine (tSum_any _ _ _ _ _ _ _ hx1 BT.out).mono ?_
        rintro e w4 ⟨rfl, rfl⟩
        go_wp2_with fail
        refine (iDistance_any _ _ _ _ _ _ _ _ _ _ _ _ ha1 hx1 BV1.out HB2.out).mono ?_
        rintro e w5 ⟨rfl, hq5⟩
        go_wp2_with fail
        refine (iDistance_any _ _ _ _ _ _ _ _ _ _ _ _ (ha1.quiet hq5) (hb1.quiet hq5) BV1.out HB3.out).mono ?_
        rintro e w6 ⟨rfl, hq6⟩
        go_wp2_with fail
        go_ret2
        exact ⟨ret_bs (by rw [HF.out, hs2]; try rw [sqd_comm xs vs, sqd_comm best vs]
                          simp) (by rw [HF.out]), hk.trans ((hq3.keeps.trans hq5.keeps).trans hq6.keeps)⟩
      · have hs2 : (xs.sum == t) = false := by simpa using hs
        go_wp2_with fail
        refine (tSum_any _ _ _ _ _ _ _ hx1 BT.out).mono ?_
        rintro e w4 ⟨rfl, rfl⟩
        go_wp2_with fail
        go_ret2
        exact ⟨ret_bs (by rw [HF.out, hs2]; simp) (by rw [HF.out]), hk.trans hq3.keeps⟩
set_option maxHeartbeats 2000000 in
theorem impl_IsAdjusted_any {A A1 A2 Ax : Option Addr} {l h l1 h1 l2 h2 lx hx' n n1 n2 m c c1 c2 cx : Nat} {vs lo hi xs : List Int} {t : Int} {w : World} (ha : Ints w l h A n vs) (hb : Ints w l1 h1 A1 n1 lo) (hc : Ints w l2 h2 A2 n2 hi) (ht : (Lit.int .i64 t).wf = true) (hx : Ints w lx hx' Ax m xs) :
    Calls Try.prog 49 #[.slice A n c, .slice A1 n1 c1, .slice A2 n2 c2, .int .i64 t, .slice Ax m cx] w fun e w' => e = .returned (.tuple #[.bool (isaF vs lo hi t xs).1, .bool (isaF vs lo hi t xs).2]) ∧ Keeps w w' := by
  have hl := ha.1
  have hl1 := hb.1
  have hl2 := hc.1
  have hlx := hx.1
  have hmx := hx.le
  obtain ⟨v1, H1⟩ : ∃ v, Hid (boundedB vs lo hi = v) := ⟨_, rfl⟩
  obtain ⟨v2, H2⟩ : ∃ v, Hid (inB t (-1000000) 1000000 = v) := ⟨_, rfl⟩
  clear ht
  cases v1
  · have HF := hid (isaF_no (vs := vs) (lo := lo) (hi := hi) (t := t) (xs := xs) (by rw [H1.out]; rfl))
    go_enter Try.func49, Try.ntmps49
    go_wp2_with fail
    refine (areBounded_any _ _ _ _ _ _ _ _ _ _ _ _ _ _ _ _ _ _ _ ha hb hc).mono ?_
    rintro e w1 ⟨rfl, rfl⟩
    rw [H1.out]
    go_wp2_with fail
    go_ret2
    exact ⟨ret_bs (by rw [HF.out]) (by rw [HF.out]), keeps_refl _⟩
  cases v2
  · have HF := hid (isaF_no (vs := vs) (lo := lo) (hi := hi) (t := t) (xs := xs) (by rw [H1.out, H2.out]; rfl))
    go_enter Try.func49, Try.ntmps49
    go_wp2_with fail
    refine (areBounded_any _ _ _ _ _ _ _ _ _ _ _ _ _ _ _ _ _ _ _ ha hb hc).mono ?_
    rintro e w1 ⟨rfl, rfl⟩
    rw [H1.out]
    go_wp2_with fail
    refine (isTotal_any).mono ?_
    rintro e w2 ⟨rfl, rfl⟩
    rw [H2.out]
    go_wp2_with fail
    go_ret2
    exact ⟨ret_bs (by rw [HF.out]) (by rw [HF.out]), keeps_refl _⟩
  have hh := boundedB_true.1 H1.out
  have hli := limitsB_true.1 hh.2.1
  have HO := hid (bounded_ordered H1.out)
  have BV1 := hid (partsB_bd hh.1)
  have BL1 := hid (partsB_bd hli.1)
  have BH1 := hid (partsB_bd hli.2.1)
  have BV := hid (BV1.out.mono (B' := 1000000) (by omega))
  have BL := hid (BL1.out.mono (B' := 1000000) (by omega))
  have BH := hid (BH1.out.mono (B' := 1000000) (by omega))
  have hn1 := (partsB_true.1 hh.1).1
  obtain rfl : n1 = n := by omega
  obtain rfl : n2 = n1 := by omega
  clear hh hli hl1 hl2
  by_cases hf : lo.sum ≤ t ∧ t ≤ hi.sum
  rotate_left
  · have HF := hid (isaF_out (xs := xs) H1.out H2.out (fun hc => hf (inB_true.1 hc.1)))
    have hf2 := hid (show t < lo.sum ∨ hi.sum < t by omega)
    clear hf
    go_enter Try.func49, Try.ntmps49
    go_wp2_with fail
    refine (areBounded_any _ _ _ _ _ _ _ _ _ _ _ _ _ _ _ _ _ _ _ ha hb hc).mono ?_
    rintro e w1 ⟨rfl, rfl⟩
    rw [H1.out]
    go_wp2_with fail
    refine (isTotal_any).mono ?_
    rintro e w2 ⟨rfl, rfl⟩
    rw [H2.out]
    go_wp2_with fail
    refine (adjusted_none (vs := vs) (l := l) (h := h) hb hc BL.out BH.out hf2.out).mono ?_
    rintro e w3 ⟨rfl, rfl⟩
    have hne := fun W a n c => Go.Lib.run_eql_slice_nil (P := Try.prog) W 24 3 a n c 0 0 Try.underlying24
    go_wp2_with fail
    go_ret2
    exact ⟨ret_bs (by rw [HF.out]) (by rw [HF.out]), keeps_refl _⟩
  have H3 := hid (inB_true.2 hf)
  have F1 := hid hf.1
  have F2 := hid hf.2
  clear hf
  by_cases hm : m = n2
  rotate_left
  · have HF := hid (isaF_out (xs := xs) H1.out H2.out (fun hc => by have := hc.2.1; omega))
    have hmi : ((m : Int) != (n2 : Int)) = true := by simp; omega
    go_enter Try.func49, Try.ntmps49
    go_wp2_with fail
    refine (areBounded_any _ _ _ _ _ _ _ _ _ _ _ _ _ _ _ _ _ _ _ ha hb hc).mono ?_
    rintro e w1 ⟨rfl, rfl⟩
    rw [H1.out]
    go_wp2_with fail
    refine (isTotal_any).mono ?_
    rintro e w2 ⟨rfl, rfl⟩
    rw [H2.out]
    go_wp2_with fail
    refine (adjusted_any ha hb hc BV.out BL.out BH.out HO.out F1.out F2.out).mono ?_
    rintro e w3 ⟨A', best, rfl, hmine, hadj, hk⟩
    have HA := hid hadj
    clear hadj
    have hbst := hmine.1
    obtain ⟨bb, off, _, rfl, _⟩ := hbst.at_ (k := 0) (by omega)
    have hne := fun W a n c => Go.Lib.run_eql_slice_nil (P := Try.prog) W 24 3 a n c 0 0 Try.underlying24
    go_wp2_with fail
    go_ret2
    exact ⟨ret_bs (by rw [HF.out]) (by rw [HF.out]), hk⟩
  subst hm
  go_enter Try.func49, Try.ntmps49
  go_wp2_with fail
  refine (areBounded_any _ _ _ _ _ _ _ _ _ _ _ _ _ _ _ _ _ _ _ ha hb hc).mono ?_
  rintro e w1 ⟨rfl, rfl⟩
  rw [H1.out]
  go_wp2_with fail
  refine (isTotal_any).mono ?_
  rintro e w2 ⟨rfl, rfl⟩
  rw [H2.out]
  go_wp2_with fail
  refine (adjusted_any ha hb hc BV.out BL.out BH.out HO.out F1.out F2.out).mono ?_
  rintro e w3 ⟨A', best, rfl, hmine, hadj, hk⟩
  have HA := hid hadj
  clear hadj
  have hbst := hmine.1
  obtain ⟨bb, off, _, rfl, _⟩ := hbst.at_ (k := 0) (by omega)
  have hne := fun W a n c => Go.Lib.run_eql_slice_nil (P := Try.prog) W 24 3 a n c 0 0 Try.underlying24
  go_wp2_with fail
  have ha := ha.keeps hk
  have hb := hb.keeps hk
  have hc := hc.keeps hk
  have hx := hx.keeps hk
  go_loopw [41] (fun i wr => ∃ k : Nat, k ≤ m ∧ i = .int .i64 k ∧ InB lo hi xs k ∧ Quiet w3 wr) (fun i _ => m - (intOf i).toNat)
  case atStart => exact ⟨0, Nat.zero_le _, rfl, fun j hj => absurd hj (by omega), Quiet.refl _⟩
  case round =>
    obtain ⟨k, hkm, rfl, hin, hq3⟩ := hrel
    have HI := hid hin
    clear hin
    by_cases hlt : k < m
    · obtain ⟨b0, off0, x, rfl, _, _, hc0, hx0⟩ := (hx.quiet hq3).at_ hlt
      obtain ⟨b1, off1, p, rfl, _, _, hc1, hp0⟩ := (hb.quiet hq3).at_ hlt
      obtain ⟨b2, off2, q, rfl, _, _, hc2, hq0⟩ := (hc.quiet hq3).at_ hlt
      have hi1 : (k : Int) < (m : Int) := by omega
      by_cases h1 : x < p
      · have HF := hid (isaF_out (xs := xs) H1.out H2.out (fun hh => inB_no (n := vs.length) (by omega) hp0.out hx0.out hq0.out (.inl h1) hh.2.2))
        go_wp2
        go_ret2
        exact ⟨ret_bs (by rw [HF.out]) (by rw [HF.out]), hk.trans hq3.keeps⟩
      by_cases h2 : q < x
      · have HF := hid (isaF_out (xs := xs) H1.out H2.out (fun hh => inB_no (n := vs.length) (by omega) hp0.out hx0.out hq0.out (.inr h2) hh.2.2))
        go_wp2
        go_ret2
        exact ⟨ret_bs (by rw [HF.out]) (by rw [HF.out]), hk.trans hq3.keeps⟩
      have HN := hid (inB_succ HI.out hp0.out hx0.out hq0.out (by omega) (by omega))
      go_wp2
      go_roundw
      case rel => exact ⟨k + 1, by omega, by go_num, HN.out, hq3⟩
      case measure => simp [intOf]; omega
    · obtain rfl : k = m := by omega
      have HB2 := hid (HI.out.bd hlx BL1.out BH1.out)
      have HB3 := hid ((isAdj_in hl HO.out HA.out).bd (by rw [← HA.out.1] at hl; exact hl) BL1.out BH1.out)
      have HF := hid (isaF_in (xs := xs) HO.out H1.out H2.out H3.out (by omega) (by rw [hl]; exact HI.out) HA.out)
      rw [hl] at HF
      have hb1 := (hbst.quiet hq3)
      have hx1 := (hx.quiet hq3)
      have ha1 := (ha.quiet hq3)
      have BT := hid (HB2.out.mono (B' := 10000000000) (by omega))
      by_cases hs : xs.sum = t
      · have hs2 : (xs.sum == t) = true := by simpa using hs
        go_wp2_with fail
        refine (total_any _ _ _ _ _ _ _ hx1 BT.out).mono ?_
        rintro e w4 ⟨rfl, rfl⟩
        go_wp2_with fail
        refine (squaredDistance_any _ _ _ _ _ _ _ _ _ _ _ _ hx1 ha1 HB2.out BV1.out).mono ?_
        rintro e w5 ⟨rfl, hq5⟩
        go_wp2_with fail
        refine (squaredDistance_any _ _ _ _ _ _ _ _ _ _ _ _ (hb1.quiet hq5) (ha1.quiet hq5) HB3.out BV1.out).mono ?_
        rintro e w6 ⟨rfl, hq6⟩
        go_wp2_with fail
        go_ret2
        exact ⟨ret_bs (by rw [HF.out, hs2]; try rw [sqd_comm xs vs, sqd_comm best vs]
                          simp) (by rw [HF.out]), hk.trans ((hq3.keeps.trans hq5.keeps).trans hq6.keeps)⟩
      · have hs2 : (xs.sum == t) = false := by simpa using hs
        go_wp2_with fail
        refine (total_any _ _ _ _ _ _ _ hx1 BT.out).mono ?_
        rintro e w4 ⟨rfl, rfl⟩
        go_wp2_with fail
        go_ret2
        exact ⟨ret_bs (by rw [HF.out, hs2]; simp) (by rw [HF.out]), hk.trans hq3.keeps⟩
end Go.Proofs.Ytkpliolafkdijaa
