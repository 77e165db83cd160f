/- AdjustTo and IsAdjusted, of the reference and of the program; and the laws. -/
import Derived.Test.YtkpliolafkdijaaIadj
import Derived.Test.YtkpliolafkdijaaRaise
import Derived.Test.YtkpliolafkdijaaSums
import Derived.WalkSpells
namespace Go.Proofs.Ytkpliolafkdijaa
open Go.RowKit
set_option linter.unusedVariables false
set_option linter.unusedSimpArgs false

def AdjR (vs lo hi : List Int) (t : Int) (xs : List Int) (ok : Bool) : Prop :=
  if (boundedB vs lo hi && inB t (-1000000) 1000000 && inB t lo.sum hi.sum) = true then ok = true ∧ IsAdj vs lo hi t xs else xs = [] ∧ ok = false
theorem adjR_no {vs lo hi : List Int} {t : Int} (h : (boundedB vs lo hi && inB t (-1000000) 1000000 && inB t lo.sum hi.sum) = false) : AdjR vs lo hi t [] false := by
  unfold AdjR; rw [h]; exact ⟨rfl, rfl⟩
theorem adjR_yes {vs lo hi xs : List Int} {t : Int} (h1 : boundedB vs lo hi = true) (h2 : inB t (-1000000) 1000000 = true) (h3 : inB t lo.sum hi.sum = true) (h : IsAdj vs lo hi t xs) : AdjR vs lo hi t xs true := by
  unfold AdjR; rw [h1, h2, h3]; exact ⟨rfl, h⟩
theorem bounded_ordered {vs lo hi : List Int} (h : boundedB vs lo hi = true) : Ordered lo hi := by
  have h1 := limitsB_true.1 (boundedB_true.1 h).2.1
  exact ordered_of h1.2.2.2 h1.2.2.1
theorem AdjR_one (vs lo hi : List Int) (t : Int) : ∃ (r0 : List Int) (r1 : Bool), Hid (∀ a b, AdjR vs lo hi t a b → r0 = a ∧ r1 = b) := by
  by_cases hc : (boundedB vs lo hi && inB t (-1000000) 1000000 && inB t lo.sum hi.sum) = true
  · by_cases hx : ∃ x, IsAdj vs lo hi t x
    · obtain ⟨x, hx⟩ := hx
      refine ⟨x, true, fun a b h => ?_⟩
      unfold AdjR at h
      rw [if_pos hc] at h
      simp only [Bool.and_eq_true] at hc
      exact ⟨(isAdj_one (bounded_ordered hc.1.1) h.2 hx).symm, h.1.symm⟩
    · refine ⟨[], true, fun a b h => ?_⟩
      unfold AdjR at h
      rw [if_pos hc] at h
      exact absurd ⟨a, h.2⟩ hx
  · refine ⟨[], false, fun a b h => ?_⟩
    unfold AdjR at h
    rw [if_neg hc] at h
    exact ⟨h.1.symm, h.2.symm⟩

theorem iTotal_any {t : Int} {w : World} : Calls Try.prog 133 #[.int .i64 t] w fun e w' => e = .returned (.bool (inB t (-1000000) 1000000)) ∧ w = w' := by
  go_enter Try.func133, Try.ntmps133
  go_wp2_with (go_at_call 96; refine (l1In_any _ _ _ _).mono ?_; rintro e w' ⟨rfl, rfl⟩)
  go_ret
  exact ⟨rfl, rfl⟩
theorem isTotal_any {t : Int} {w : World} : Calls Try.prog 130 #[.int .i64 t] w fun e w' => e = .returned (.bool (inB t (-1000000) 1000000)) ∧ w = w' := by
  by_cases h1 : -1000000 ≤ t
  · by_cases h2 : t ≤ 1000000
    · go_enter Try.func130, Try.ntmps130
      go_wp2
      go_ret
      exact ⟨ret_bool (by simp [inB, h1, h2]), rfl⟩
    · go_enter Try.func130, Try.ntmps130
      go_wp2
      go_ret
      exact ⟨ret_bool (by simp [inB]; omega), rfl⟩
  · go_enter Try.func130, Try.ntmps130
    go_wp2
    go_ret
    exact ⟨ret_bool (by simp [inB]; omega), rfl⟩

set_option maxHeartbeats 1000000 in
theorem spec_AdjustTo_any {A A1 A2 : Option Addr} {l h l1 h1 l2 h2 n n1 n2 c c1 c2 : Nat} {vs lo hi : List Int} {t : Int} {w : World} (ha : Ints w l h A n vs) (hb : Ints w l1 h1 A1 n1 lo) (hc : Ints w l2 h2 A2 n2 hi) (ht : (Lit.int .i64 t).wf = true) :
    Calls Try.prog 47 #[.slice A n c, .slice A1 n1 c1, .slice A2 n2 c2, .int .i64 t] w fun e w' => ∃ A' m c' xs ok, e = .returned (.tuple #[.slice A' m c', .bool ok]) ∧ Mine w' w.heap.size w'.heap.size A' m xs ∧ AdjR vs lo hi t xs ok ∧ Keeps w w' := by
  have hl := ha.1
  have hl1 := hb.1
  have hl2 := hc.1
  obtain ⟨v1, H1⟩ : ∃ v, Hid (boundedB vs lo hi = v) := ⟨_, rfl⟩
  obtain ⟨v2, H2⟩ : ∃ v, Hid (inB t (-1000000) 1000000 = v) := ⟨_, rfl⟩
  clear ht
  cases v1
  · have HF := hid (adjR_no (vs := vs) (lo := lo) (hi := hi) (t := t) (by rw [H1.out]; rfl))
    go_enter Try.func47, Try.ntmps47
    go_wp2_with fail
    refine (iBounds_any _ _ _ _ _ _ _ _ _ _ _ _ _ _ _ _ _ _ _ ha hb hc).mono ?_
    rintro e w1 ⟨rfl, hq⟩
    rw [H1.out]
    go_wp2_with fail
    go_ret2
    exact ⟨none, 0, 0, [], false, rfl, Mine.nil_ _ _, HF.out, hq.keeps⟩
  cases v2
  · have HF := hid (adjR_no (vs := vs) (lo := lo) (hi := hi) (t := t) (by rw [H1.out, H2.out]; rfl))
    go_enter Try.func47, Try.ntmps47
    go_wp2_with fail
    refine (iBounds_any _ _ _ _ _ _ _ _ _ _ _ _ _ _ _ _ _ _ _ ha hb hc).mono ?_
    rintro e w1 ⟨rfl, hq⟩
    rw [H1.out]
    go_wp2_with fail
    refine (iTotal_any).mono ?_
    rintro e w2 ⟨rfl, rfl⟩
    rw [H2.out]
    go_wp2_with fail
    go_ret2
    exact ⟨none, 0, 0, [], false, rfl, Mine.nil_ _ _, HF.out, hq.keeps⟩
  have hh := boundedB_true.1 H1.out
  have hli := limitsB_true.1 hh.2.1
  have HO := hid (bounded_ordered H1.out)
  have BV := hid ((partsB_bd hh.1).mono (B' := 1000000) (by omega))
  have BL := hid ((partsB_bd hli.1).mono (B' := 1000000) (by omega))
  have BH := hid ((partsB_bd hli.2.1).mono (B' := 1000000) (by omega))
  have hn1 := (partsB_true.1 hh.1).1
  obtain rfl : n1 = n := by omega
  obtain rfl : n2 = n1 := by omega
  clear hh hli hl1 hl2
  by_cases hf : lo.sum ≤ t ∧ t ≤ hi.sum
  rotate_left
  · have HF := hid (adjR_no (vs := vs) (lo := lo) (hi := hi) (t := t) (by rw [show inB t lo.sum hi.sum = false from inB_false.2 (by omega), Bool.and_false]))
    have hf2 := hid (show t < lo.sum ∨ hi.sum < t by omega)
    clear hf
    go_enter Try.func47, Try.ntmps47
    go_wp2_with fail
    refine (iBounds_any _ _ _ _ _ _ _ _ _ _ _ _ _ _ _ _ _ _ _ ha hb hc).mono ?_
    rintro e w1 ⟨rfl, hq⟩
    rw [H1.out]
    go_wp2_with fail
    refine (iTotal_any).mono ?_
    rintro e w2 ⟨rfl, rfl⟩
    rw [H2.out]
    go_wp2_with fail
    refine (iAdjust_none (vs := vs) (l := l) (h := h) (hb.quiet hq) (hc.quiet hq) BL.out BH.out hf2.out).mono ?_
    rintro e w3 ⟨rfl, rfl⟩
    go_wp2_with fail
    go_ret2
    exact ⟨none, 0, 0, [], false, rfl, Mine.nil_ _ _, HF.out, hq.keeps⟩
  · have H3 := hid (inB_true.2 hf)
    have F1 := hid hf.1
    have F2 := hid hf.2
    clear hf
    go_enter Try.func47, Try.ntmps47
    go_wp2_with fail
    refine (iBounds_any _ _ _ _ _ _ _ _ _ _ _ _ _ _ _ _ _ _ _ ha hb hc).mono ?_
    rintro e w1 ⟨rfl, hq⟩
    rw [H1.out]
    go_wp2_with fail
    refine (iTotal_any).mono ?_
    rintro e w2 ⟨rfl, rfl⟩
    rw [H2.out]
    go_wp2_with fail
    refine (iAdjust_any (ha.quiet hq) (hb.quiet hq) (hc.quiet hq) BV.out BL.out BH.out HO.out F1.out F2.out).mono ?_
    rintro e w3 ⟨A', c', xs, rfl, hm, hadj, hk⟩
    have HA := hid hadj
    clear hadj
    go_wp2_with fail
    go_ret2
    exact ⟨A', _, c', xs, true, rfl, hm.widen hq.keeps.size (Nat.le_refl _) (Nat.le_refl _), adjR_yes H1.out H2.out H3.out HA.out, hq.keeps.trans hk⟩
set_option maxHeartbeats 1000000 in
theorem impl_AdjustTo_any {A A1 A2 : Option Addr} {l h l1 h1 l2 h2 n n1 n2 c c1 c2 : Nat} {vs lo hi : List Int} {t : Int} {w : World} (ha : Ints w l h A n vs) (hb : Ints w l1 h1 A1 n1 lo) (hc : Ints w l2 h2 A2 n2 hi) (ht : (Lit.int .i64 t).wf = true) :
    Calls Try.prog 46 #[.slice A n c, .slice A1 n1 c1, .slice A2 n2 c2, .int .i64 t] w fun e w' => ∃ A' m c' xs ok, e = .returned (.tuple #[.slice A' m c', .bool ok]) ∧ Mine w' w.heap.size w'.heap.size A' m xs ∧ AdjR vs lo hi t xs ok ∧ Keeps w w' := by
  have hl := ha.1
  have hl1 := hb.1
  have hl2 := hc.1
  obtain ⟨v1, H1⟩ : ∃ v, Hid (boundedB vs lo hi = v) := ⟨_, rfl⟩
  obtain ⟨v2, H2⟩ : ∃ v, Hid (inB t (-1000000) 1000000 = v) := ⟨_, rfl⟩
  clear ht
  cases v1
  · have HF := hid (adjR_no (vs := vs) (lo := lo) (hi := hi) (t := t) (by rw [H1.out]; rfl))
    go_enter Try.func46, Try.ntmps46
    go_wp2_with fail
    refine (areBounded_any _ _ _ _ _ _ _ _ _ _ _ _ _ _ _ _ _ _ _ ha hb hc).mono ?_
    rintro e w1 ⟨rfl, rfl⟩
    rw [H1.out]
    go_wp2_with fail
    go_ret2
    exact ⟨none, 0, 0, [], false, rfl, Mine.nil_ _ _, HF.out, keeps_refl _⟩
  cases v2
  · have HF := hid (adjR_no (vs := vs) (lo := lo) (hi := hi) (t := t) (by rw [H1.out, H2.out]; rfl))
    go_enter Try.func46, Try.ntmps46
    go_wp2_with fail
    refine (areBounded_any _ _ _ _ _ _ _ _ _ _ _ _ _ _ _ _ _ _ _ ha hb hc).mono ?_
    rintro e w1 ⟨rfl, rfl⟩
    rw [H1.out]
    go_wp2_with fail
    refine (isTotal_any).mono ?_
    rintro e w2 ⟨rfl, rfl⟩
    rw [H2.out]
    go_wp2_with fail
    go_ret2
    exact ⟨none, 0, 0, [], false, rfl, Mine.nil_ _ _, HF.out, keeps_refl _⟩
  have hh := boundedB_true.1 H1.out
  have hli := limitsB_true.1 hh.2.1
  have HO := hid (bounded_ordered H1.out)
  have BV := hid ((partsB_bd hh.1).mono (B' := 1000000) (by omega))
  have BL := hid ((partsB_bd hli.1).mono (B' := 1000000) (by omega))
  have BH := hid ((partsB_bd hli.2.1).mono (B' := 1000000) (by omega))
  have hn1 := (partsB_true.1 hh.1).1
  obtain rfl : n1 = n := by omega
  obtain rfl : n2 = n1 := by omega
  clear hh hli hl1 hl2
  by_cases hf : lo.sum ≤ t ∧ t ≤ hi.sum
  rotate_left
  · have HF := hid (adjR_no (vs := vs) (lo := lo) (hi := hi) (t := t) (by rw [show inB t lo.sum hi.sum = false from inB_false.2 (by omega), Bool.and_false]))
    have hf2 := hid (show t < lo.sum ∨ hi.sum < t by omega)
    clear hf
    go_enter Try.func46, Try.ntmps46
    go_wp2_with fail
    refine (areBounded_any _ _ _ _ _ _ _ _ _ _ _ _ _ _ _ _ _ _ _ ha hb hc).mono ?_
    rintro e w1 ⟨rfl, rfl⟩
    rw [H1.out]
    go_wp2_with fail
    refine (isTotal_any).mono ?_
    rintro e w2 ⟨rfl, rfl⟩
    rw [H2.out]
    go_wp2_with fail
    refine (adjusted_none (vs := vs) (l := l) (h := h) hb hc BL.out BH.out hf2.out).mono ?_
    rintro e w3 ⟨rfl, rfl⟩
    have hne := fun W a n c => Go.run_neq_slice_nil_any (P := Try.prog) W 24 3 a n c 0 0 Try.underlying24
    go_wp2_with fail
    go_ret2
    exact ⟨none, 0, 0, [], false, rfl, Mine.nil_ _ _, HF.out, keeps_refl _⟩
  · have H3 := hid (inB_true.2 hf)
    have F1 := hid hf.1
    have F2 := hid hf.2
    clear hf
    go_enter Try.func46, Try.ntmps46
    go_wp2_with fail
    refine (areBounded_any _ _ _ _ _ _ _ _ _ _ _ _ _ _ _ _ _ _ _ ha hb hc).mono ?_
    rintro e w1 ⟨rfl, rfl⟩
    rw [H1.out]
    go_wp2_with fail
    refine (isTotal_any).mono ?_
    rintro e w2 ⟨rfl, rfl⟩
    rw [H2.out]
    go_wp2_with fail
    refine (adjusted_any ha hb hc BV.out BL.out BH.out HO.out F1.out F2.out).mono ?_
    rintro e w3 ⟨A', xs, rfl, hm, hadj, hk⟩
    have HA := hid hadj
    clear hadj
    obtain ⟨bb, off, _, rfl, _⟩ := hm.1.at_ (k := 0) (by omega)
    have hne := fun W a n c => Go.run_neq_slice_nil_any (P := Try.prog) W 24 3 a n c 0 0 Try.underlying24
    go_wp2_with fail
    go_ret2
    exact ⟨_, _, _, xs, true, rfl, hm, adjR_yes H1.out H2.out H3.out HA.out, hk⟩
end Go.Proofs.Ytkpliolafkdijaa
