/- CheckSums and IsAdditiveWhole, of the reference and of the program; and the laws. -/
import Derived.Test.YtdfpgohfnabflaaGeo
import Derived.Test.YtdfpgohfnabflaaOpen
namespace Go.Proofs.Ytdfpgohfnabflaa
open Go.RowKit
set_option linter.unusedVariables false
set_option linter.unusedSimpArgs false

theorem ret_ib {a c : Int} {p q : Bool} (h1 : a = c) (h3 : p = q) : Ending.returned (.tuple #[.int .i64 a, .bool p]) = .returned (.tuple #[.int .i64 c, .bool q]) := by rw [h1, h3]
theorem ret_bb {a c : Bool} {p q : Bool} (h1 : a = c) (h3 : p = q) : Ending.returned (.tuple #[.bool a, .bool p]) = .returned (.tuple #[.bool c, .bool q]) := by rw [h1, h3]

/-- The elements of vs at the indices ks. -/
def vsAt (vs ks : List Int) : List Int := ks.map fun c => vs.getD c.toNat 0
theorem vsAt_len (vs ks : List Int) : (vsAt vs ks).length = ks.length := by simp [vsAt]
theorem vsAt_getD {vs ks : List Int} {m j : Nat} (hm : m < ks.length) (h : ks.getD m 0 = (j : Int)) : (vsAt vs ks).getD m 0 = vs.getD j 0 := by
  have h2 : ks[m] = (j : Int) := by simpa [List.getD, hm] using h
  simp [vsAt, List.getD, hm, h2]
theorem vsAt_bd {vs ks : List Int} {B : Int} (h : Bd B vs) (h0 : 0 ≤ B) : Bd B (vsAt vs ks) := by
  intro m
  by_cases hm : m < ks.length
  · have := h (ks[m]).toNat
    simpa [vsAt, List.getD, hm] using this
  · simp [vsAt, List.getD, List.getElem?_eq_none (Nat.le_of_not_lt hm)]; exact h0
def okAt (ps vs : List Int) (i : Nat) : Bool := decide ((kids ps i).length = 0) || ((vsAt vs (kids ps i)).sum == vs.getD i 0)
/-- The least number below n that p refuses, or n. -/
def firstNot (p : Nat → Bool) (n : Nat) : Nat := ((List.range n).find? fun i => !p i).getD n
theorem firstNot_at {p : Nat → Bool} {n k : Nat} (hk : k < n) (h : ∀ j, j < k → p j = true) (hp : p k = false) : firstNot p n = k := by
  unfold firstNot
  have : (List.range n).find? (fun i => !p i) = some k := by
    rw [List.find?_range_eq_some]
    exact ⟨by simp [hp], by simpa using hk, fun j hj => by simp [h j hj]⟩
  rw [this]; rfl
theorem firstNot_all {p : Nat → Bool} {n : Nat} (h : ∀ j, j < n → p j = true) : firstNot p n = n := by
  unfold firstNot
  have : (List.range n).find? (fun i => !p i) = none := by
    rw [List.find?_eq_none]
    intro j hj
    simp [h j (by simpa using hj)]
  rw [this]; rfl
theorem firstNot_le (p : Nat → Bool) (n : Nat) : firstNot p n ≤ n := by
  unfold firstNot
  cases h : (List.range n).find? (fun i => !p i) with
  | none => exact Nat.le_refl _
  | some k => have := List.mem_of_find?_eq_some h; simp at this; simp; omega
def OkTo (ps vs : List Int) (k : Nat) : Prop := ∀ j, j < k → okAt ps vs j = true
theorem okTo_succ {ps vs : List Int} {k : Nat} (h : OkTo ps vs k) (h1 : okAt ps vs k = true) : OkTo ps vs (k + 1) := by
  intro j hj
  by_cases hjk : j = k
  · subst hjk; exact h1
  · exact h j (by omega)
theorem okAt_none {ps vs : List Int} {k : Nat} (h : (kids ps k).length = 0) : okAt ps vs k = true := by simp [okAt, h]
theorem okAt_eq {ps vs : List Int} {k : Nat} {x : Int} (hx : x = vs.getD k 0) (h : (vsAt vs (kids ps k)).sum = x) : okAt ps vs k = true := by simp [okAt, h, hx]
theorem okAt_ne {ps vs : List Int} {k : Nat} {x : Int} (hx : x = vs.getD k 0) (h0 : ¬ (kids ps k).length = 0) (h : (vsAt vs (kids ps k)).sum ≠ x) : okAt ps vs k = false := by
  rw [hx] at h
  simp only [okAt, Bool.or_eq_false_iff, decide_eq_false_iff_not, beq_eq_false_iff_ne]
  exact ⟨h0, h⟩

def smallB (vs : List Int) (n : Nat) : Bool := decide (vs.length = n) && within (-1000000) 1000000 vs
theorem smallB_bd {vs : List Int} {n : Nat} (h : smallB vs n = true) : Bd 1000000 vs := by
  simp [smallB] at h
  exact within_bd h.2 (by omega) (by omega) (by omega)

set_option maxHeartbeats 400000 in
theorem areSmallIntegers_any {A : Option Addr} {l h n c m : Nat} {xs : List Int} {w : World} (ha : Ints w l h A n xs) (hm : m ≤ 67108864) :
    Calls Try.prog 66 #[.slice A n c, .int .i64 m] w fun e w' => e = .returned (.bool (smallB xs m)) ∧ w = w' := by
  have hn := ha.le
  have hl := ha.1
  by_cases hnm : n = m
  rotate_left
  · have HF := hid (show smallB xs m = false by simp [smallB]; intro; omega)
    have t1 : ((n : Int) != (m : Int)) = true := by rw [bne_iff_ne]; omega
    go_enter Try.func66, Try.ntmps66
    go_wp2
    go_ret
    exact ⟨ret_bool HF.out.symm, rfl⟩
  subst hnm
  have HF := hid (show smallB xs n = within (-1000000) 1000000 xs by simp [smallB, hl])
  have t1 : ((n : Int) != (n : Int)) = false := by simp
  go_enter Try.func66, Try.ntmps66
  go_wp2_with fail
  go_loop [13] (fun i => ∃ k : Nat, k ≤ n ∧ i = .int .i64 k ∧ Hid (Upto (-1000000) 1000000 xs k)) (fun i => n - (intOf i).toNat)
  case atStart => exact ⟨0, Nat.zero_le _, rfl, fun j hj => absurd hj (by omega)⟩
  case round =>
    obtain ⟨k, hk, rfl, HU⟩ := hrel
    by_cases hlt : k < n
    · obtain ⟨b, off, x, rfl, _, _, hc, hx⟩ := ha.at_ hlt
      by_cases h1 : -1000000 ≤ x
      · by_cases h2 : x ≤ 1000000
        · go_wp2
          go_round
          case rel => exact ⟨k + 1, by omega, by go_num, upto_succ HU.out hx.out h1 h2⟩
          case measure => simp [intOf]; omega
        · go_wp2
          go_ret
          exact ⟨ret_bool (by rw [HF.out]; exact (within_no (by omega) hx.out (.inr (by omega))).symm), rfl⟩
      · go_wp2
        go_ret
        exact ⟨ret_bool (by rw [HF.out]; exact (within_no (by omega) hx.out (.inl (by omega))).symm), rfl⟩
    · obtain rfl : k = n := by omega
      go_wp2
      go_ret
      exact ⟨ret_bool (by rw [HF.out]; exact (within_true.2 (by rw [hl]; exact HU.out)).symm), rfl⟩

set_option maxHeartbeats 2000000 in
theorem iCheck_any {A A' : Option Addr} {l h l' h' n c c' : Nat} {ps vs : List Int} {w : World} (ha : Ints w l h A n ps) (hb : Ints w l' h' A' n vs) (hg : ps.getD 0 0 = -1) (hbd : Bd 1000000 vs) :
    Calls Try.prog 64 #[.agg #[.slice A n c], .slice A' n c'] w fun e w' => e = .returned (.int .i64 (firstNot (okAt ps vs) n)) ∧ Keeps w w' := by
  have hn := ha.le
  have HB := hid hbd
  have HG := hid hg
  clear hbd hg
  have k0 := keeps_alloc w (.cells #[.slice A n c] 37)
  have ha0 := ha.keeps k0
  have hb0 := hb.keeps k0
  have bx0 := hid (cell_new w (.slice A n c) 37)
  clear ha hb
  go_enter Try.func64, Try.ntmps64
  go_wp2_with fail
  have bx0 := bx0.out
  go_loopw [12] (fun i wr => ∃ k : Nat, k ≤ n ∧ i = .int .i64 k ∧ Hid (OkTo ps vs k) ∧ Keeps (w.alloc (.cells #[.slice A n c] 37)) wr) (fun i _ => n - (intOf i).toNat)
  case atStart => exact ⟨0, Nat.zero_le _, rfl, fun j hj => absurd hj (by omega), keeps_refl _⟩
  case round =>
    obtain ⟨k, hk, rfl, hok, hkeep⟩ := hrel
    obtain ⟨wo, rfl⟩ : ∃ wo : World, wo = wr := ⟨_, rfl⟩
    by_cases hlt : k < n
    · obtain ⟨b, off, x, rfl, _, _, hx0, hx⟩ := (hb0.keeps hkeep).at_ hlt
      have bx := cell_keeps bx0 hkeep
      go_wp2_with fail
      refine (gChildren_any (ha0.keeps hkeep) HG.out (by omega)).mono ?_
      rintro e w3 ⟨A2, c2, rfl, hm, hk1⟩
      have hx0 := cell_keeps hx0 hk1
      have hv := (hb0.keeps hkeep).keeps hk1
      have hkk := hid (hkeep.trans hk1)
      have hkl : (kids ps k).length ≤ n := by have := kidsTo_len ps k ps.length; have := ha0.1; unfold kids; omega
      clear hkeep hk1 bx
      go_wp2_with fail
      go_loop [6, 20] (fun s t => ∃ m : Nat, m ≤ (kids ps k).length ∧ t = .int .i64 m ∧ s = .int .i64 ((vsAt vs (kids ps k)).take m).sum) (fun _ t => (kids ps k).length - (intOf t).toNat)
      case atStart => exact ⟨0, Nat.zero_le _, rfl, by simp⟩
      case round =>
        obtain ⟨m, hm1, rfl, rfl⟩ := hrel
        by_cases hltm : m < (kids ps k).length
        · obtain ⟨b2, off2, y, rfl, _, _, hy0, hy⟩ := hm.1.at_ hltm
          obtain ⟨j, hj, hj0, hjn, _⟩ := kids_getD hltm
          obtain rfl : y = (j : Int) := hy.out.trans hj
          have := ha0.1
          obtain ⟨b3, off3, z, hA3, _, _, hz0, hz⟩ := hv.at_ (k := j) (by omega)
          obtain ⟨rfl, rfl⟩ : b = b3 ∧ off = off3 := by simpa using hA3
          clear hA3
          have hjn' : (j : Int) < (n : Int) := by omega
          have hs1 := sum_num (vsAt vs (kids ps k)) _ (vsAt_bd HB.out (by omega)) (by omega) m 67108864 (by rw [vsAt_len]; omega) (by omega)
          have hz1 := HB.out j
          rw [← hz.out] at hz1
          have HS := hid (take_sum_succ (vsAt vs (kids ps k)) m (by rw [vsAt_len]; omega))
          rw [vsAt_getD hltm hj, ← hz.out] at HS
          generalize ((vsAt vs (kids ps k)).take m).sum = s at *
          clear hj this
          go_wp2
          go_round
          case rel => exact ⟨m + 1, by omega, by go_num, by rw [HS.out]⟩
          case measure => simp [intOf]; omega
        · obtain rfl : m = (kids ps k).length := by omega
          have HE := hid (show (vsAt vs (kids ps k)).take (kids ps k).length = vsAt vs (kids ps k) from List.take_of_length_le (by rw [vsAt_len]; omega))
          rw [HE.out]
          by_cases hk0 : (kids ps k).length = 0
          · have t1 : ¬ (0 : Int) < ((kids ps k).length : Int) := by omega
            have HO := hid (okTo_succ hok.out (okAt_none hk0))
            clear hk0
            go_wp2
            go_roundw
            case rel => exact ⟨k + 1, by omega, by go_num, HO, hkk.out⟩
            case measure => simp [intOf]; omega
          · have t1 : (0 : Int) < ((kids ps k).length : Int) := by omega
            by_cases hs : (vsAt vs (kids ps k)).sum = x
            · have HO := hid (okTo_succ hok.out (okAt_eq hx.out hs))
              have t2 : ((vsAt vs (kids ps k)).sum != x) = false := by simp [hs]
              clear hs
              go_wp2
              go_roundw
              case rel => exact ⟨k + 1, by omega, by go_num, HO, hkk.out⟩
              case measure => simp [intOf]; omega
            · have HF := hid (firstNot_at hlt hok.out (okAt_ne hx.out hk0 hs))
              have t2 : ((vsAt vs (kids ps k)).sum != x) = true := by simp [hs]
              clear hs
              go_wp2
              go_ret; exact ⟨ret_int (by rw [HF.out]), k0.trans hkk.out⟩
    · obtain rfl : k = n := by omega
      have HF := hid (firstNot_all hok.out)
      go_wp2
      go_ret; exact ⟨ret_int (by rw [HF.out]), k0.trans hkeep⟩
set_option maxHeartbeats 2000000 in
theorem checkSums_any {A A' : Option Addr} {l h l' h' n c c' : Nat} {ps vs : List Int} {w : World} (ha : Ints w l h A n ps) (hb : Ints w l' h' A' n vs) (hg : ps.getD 0 0 = -1) (hbd : Bd 1000000 vs) :
    Calls Try.prog 67 #[.agg #[.slice A n c], .slice A' n c'] w fun e w' => e = .returned (.int .i64 (firstNot (okAt ps vs) n)) ∧ Keeps w w' := by
  have hn := ha.le
  have HB := hid hbd
  have HG := hid hg
  clear hbd hg
  have k0 := keeps_alloc w (.cells #[.slice A n c] 37)
  have ha0 := ha.keeps k0
  have hb0 := hb.keeps k0
  have bx0 := hid (cell_new w (.slice A n c) 37)
  clear ha hb
  go_enter Try.func67, Try.ntmps67
  go_wp2_with fail
  have bx0 := bx0.out
  go_loopw [13] (fun i wr => ∃ k : Nat, k ≤ n ∧ i = .int .i64 k ∧ Hid (OkTo ps vs k) ∧ Keeps (w.alloc (.cells #[.slice A n c] 37)) wr) (fun i _ => n - (intOf i).toNat)
  case atStart => exact ⟨0, Nat.zero_le _, rfl, fun j hj => absurd hj (by omega), keeps_refl _⟩
  case round =>
    obtain ⟨k, hk, rfl, hok, hkeep⟩ := hrel
    obtain ⟨wo, rfl⟩ : ∃ wo : World, wo = wr := ⟨_, rfl⟩
    by_cases hlt : k < n
    · obtain ⟨b, off, x, rfl, _, _, hx0, hx⟩ := (hb0.keeps hkeep).at_ hlt
      have bx := cell_keeps bx0 hkeep
      go_wp2_with fail
      refine (childrenOf_any (ha0.keeps hkeep) HG.out (by omega)).mono ?_
      rintro e w3 ⟨A2, c2, rfl, hm, hk1⟩
      have hx0 := cell_keeps hx0 hk1
      have hv := (hb0.keeps hkeep).keeps hk1
      have hkk := hid (hkeep.trans hk1)
      have hkl : (kids ps k).length ≤ n := by have := kidsTo_len ps k ps.length; have := ha0.1; unfold kids; omega
      clear hkeep hk1 bx
      go_wp2_with fail
      go_loop [8, 23] (fun s t => ∃ m : Nat, m ≤ (kids ps k).length ∧ t = .int .i64 m ∧ s = .int .i64 ((vsAt vs (kids ps k)).take m).sum) (fun _ t => (kids ps k).length - (intOf t).toNat)
      case atStart => exact ⟨0, Nat.zero_le _, rfl, by simp⟩
      case round =>
        obtain ⟨m, hm1, rfl, rfl⟩ := hrel
        by_cases hltm : m < (kids ps k).length
        · obtain ⟨b2, off2, y, rfl, _, _, hy0, hy⟩ := hm.1.at_ hltm
          obtain ⟨j, hj, hj0, hjn, _⟩ := kids_getD hltm
          obtain rfl : y = (j : Int) := hy.out.trans hj
          have := ha0.1
          obtain ⟨b3, off3, z, hA3, _, _, hz0, hz⟩ := hv.at_ (k := j) (by omega)
          obtain ⟨rfl, rfl⟩ : b = b3 ∧ off = off3 := by simpa using hA3
          clear hA3
          have hjn' : (j : Int) < (n : Int) := by omega
          have hs1 := sum_num (vsAt vs (kids ps k)) _ (vsAt_bd HB.out (by omega)) (by omega) m 67108864 (by rw [vsAt_len]; omega) (by omega)
          have hz1 := HB.out j
          rw [← hz.out] at hz1
          have HS := hid (take_sum_succ (vsAt vs (kids ps k)) m (by rw [vsAt_len]; omega))
          rw [vsAt_getD hltm hj, ← hz.out] at HS
          generalize ((vsAt vs (kids ps k)).take m).sum = s at *
          clear hj this
          go_wp2
          go_round
          case rel => exact ⟨m + 1, by omega, by go_num, by rw [HS.out]⟩
          case measure => simp [intOf]; omega
        · obtain rfl : m = (kids ps k).length := by omega
          have HE := hid (show (vsAt vs (kids ps k)).take (kids ps k).length = vsAt vs (kids ps k) from List.take_of_length_le (by rw [vsAt_len]; omega))
          rw [HE.out]
          by_cases hk0 : (kids ps k).length = 0
          · have t1 : ¬ (0 : Int) < ((kids ps k).length : Int) := by omega
            have HO := hid (okTo_succ hok.out (okAt_none hk0))
            clear hk0
            go_wp2
            go_roundw
            case rel => exact ⟨k + 1, by omega, by go_num, HO, hkk.out⟩
            case measure => simp [intOf]; omega
          · have t1 : (0 : Int) < ((kids ps k).length : Int) := by omega
            by_cases hs : (vsAt vs (kids ps k)).sum = x
            · have HO := hid (okTo_succ hok.out (okAt_eq hx.out hs))
              have t2 : ((vsAt vs (kids ps k)).sum != x) = false := by simp [hs]
              clear hs
              go_wp2
              go_roundw
              case rel => exact ⟨k + 1, by omega, by go_num, HO, hkk.out⟩
              case measure => simp [intOf]; omega
            · have HF := hid (firstNot_at hlt hok.out (okAt_ne hx.out hk0 hs))
              have t2 : ((vsAt vs (kids ps k)).sum != x) = true := by simp [hs]
              clear hs
              go_wp2
              go_ret; exact ⟨ret_int (by rw [HF.out]), k0.trans hkk.out⟩
    · obtain rfl : k = n := by omega
      have HF := hid (firstNot_all hok.out)
      go_wp2
      go_ret; exact ⟨ret_int (by rw [HF.out]), k0.trans hkeep⟩

def csF (ps vs : List Int) : Int × Bool := if geoB ps && smallB vs ps.length then (((firstNot (okAt ps vs) ps.length : Nat) : Int), true) else (0, false)
def iaF (ps vs : List Int) : Bool × Bool := if geoB ps && smallB vs ps.length then (firstNot (okAt ps vs) ps.length == ps.length, true) else (false, false)

set_option maxHeartbeats 800000 in
theorem impl_CheckSums_any {A A' : Option Addr} {l h l' h' n n' c c' : Nat} {ps vs : List Int} {w : World} (ha : Ints w l h A n ps) (hb : Ints w l' h' A' n' vs) :
    Calls Try.prog 28 #[.agg #[.slice A n c], .slice A' n' c'] w fun e w' => e = .returned (.tuple #[.int .i64 (csF ps vs).1, .bool (csF ps vs).2]) ∧ Keeps w w' := by
  have hn := ha.le
  have hn' := hb.le
  have hl := ha.1
  have hl' := hb.1
  have k0 := keeps_alloc w (.cells #[.slice A n c] 37)
  cases h1 : geoB ps with
  | false =>
    have HF := hid (show csF ps vs = (0, false) by simp [csF, h1])
    have H1 := hid h1
    clear h1
    go_enter Try.func28, Try.ntmps28
    go_wp2_with fail
    refine (IsGeo_any (ha.keeps k0)).mono ?_
    rintro e w1 ⟨rfl, k1⟩
    rw [H1.out]
    go_wp2_with fail
    go_ret2
    exact ⟨ret_ib (by rw [HF.out]) (by rw [HF.out]), k0.trans k1⟩
  | true =>
    have hg := (geoB_true.1 h1).2.1
    cases h2 : smallB vs n with
    | false =>
      have HF := hid (show csF ps vs = (0, false) by simp [csF, hl, h2])
      have H1 := hid h1
      have H2 := hid h2
      clear h1 h2 hg
      go_enter Try.func28, Try.ntmps28
      go_wp2_with fail
      refine (IsGeo_any (ha.keeps k0)).mono ?_
      rintro e w1 ⟨rfl, k1⟩
      rw [H1.out]
      have bx := box_keeps k1
      go_wp2_with fail
      refine (areSmallIntegers_any ((hb.keeps k0).keeps k1) hn).mono ?_
      rintro e w2 ⟨rfl, rfl⟩
      rw [H2.out]
      go_wp2_with fail
      go_ret2
      exact ⟨ret_ib (by rw [HF.out]) (by rw [HF.out]), k0.trans k1⟩
    | true =>
      have hn2 : n' = n := by simp [smallB] at h2; omega
      subst hn2
      have HF := hid (show csF ps vs = (((firstNot (okAt ps vs) n' : Nat) : Int), true) by simp [csF, hl, h1, h2])
      have H1 := hid h1
      have H2 := hid h2
      have HG := hid hg
      have HB := hid (smallB_bd h2)
      clear h1 h2 hg
      go_enter Try.func28, Try.ntmps28
      go_wp2_with fail
      refine (IsGeo_any (ha.keeps k0)).mono ?_
      rintro e w1 ⟨rfl, k1⟩
      rw [H1.out]
      have bx := box_keeps k1
      go_wp2_with fail
      refine (areSmallIntegers_any ((hb.keeps k0).keeps k1) hn).mono ?_
      rintro e w2 ⟨rfl, rfl⟩
      rw [H2.out]
      go_wp2_with fail
      refine (checkSums_any ((ha.keeps k0).keeps k1) ((hb.keeps k0).keeps k1) HG.out HB.out).mono ?_
      rintro e w2 ⟨rfl, k2⟩
      go_wp2_with fail
      go_ret2
      exact ⟨ret_ib (by rw [HF.out]) (by rw [HF.out]), (k0.trans k1).trans k2⟩

set_option maxHeartbeats 800000 in
theorem spec_CheckSums_any {A A' : Option Addr} {l h l' h' n n' c c' : Nat} {ps vs : List Int} {w : World} (ha : Ints w l h A n ps) (hb : Ints w l' h' A' n' vs) :
    Calls Try.prog 26 #[.agg #[.slice A n c], .slice A' n' c'] w fun e w' => e = .returned (.tuple #[.int .i64 (csF ps vs).1, .bool (csF ps vs).2]) ∧ Keeps w w' := by
  have hn := ha.le
  have hn' := hb.le
  have hl := ha.1
  have hl' := hb.1
  have k0 := keeps_alloc w (.cells #[.slice A n c] 37)
  cases h1 : geoB ps with
  | false =>
    have HF := hid (show csF ps vs = (0, false) by simp [csF, h1])
    have H1 := hid h1
    clear h1
    go_enter Try.func26, Try.ntmps26
    go_wp2_with fail
    refine (gGood_any (ha.keeps k0)).mono ?_
    rintro e w1 ⟨rfl, k1⟩
    rw [H1.out]
    go_wp2_with fail
    go_ret2
    exact ⟨ret_ib (by rw [HF.out]) (by rw [HF.out]), k0.trans k1⟩
  | true =>
    have hg := (geoB_true.1 h1).2.1
    by_cases hn2 : n' = n
    rotate_left
    · have HF := hid (show csF ps vs = (0, false) by simp [csF, smallB]; intros; omega)
      have H1 := hid h1
      have t1 : ((n' : Int) != (n : Int)) = true := by rw [bne_iff_ne]; omega
      clear h1 hg hn2
      go_enter Try.func26, Try.ntmps26
      go_wp2_with fail
      refine (gGood_any (ha.keeps k0)).mono ?_
      rintro e w1 ⟨rfl, k1⟩
      rw [H1.out]
      have bx := box_keeps k1
      go_wp2_with fail
      go_ret2
      exact ⟨ret_ib (by rw [HF.out]) (by rw [HF.out]), k0.trans k1⟩
    subst hn2
    have t1 : ((n' : Int) != (n' : Int)) = false := by simp
    cases h2 : within (-1000000) 1000000 vs with
    | false =>
      have HF := hid (show csF ps vs = (0, false) by simp [csF, smallB, h2])
      have H1 := hid h1
      have H2 := hid h2
      clear h1 h2 hg
      go_enter Try.func26, Try.ntmps26
      go_wp2_with fail
      refine (gGood_any (ha.keeps k0)).mono ?_
      rintro e w1 ⟨rfl, k1⟩
      rw [H1.out]
      have bx := box_keeps k1
      go_wp2_with fail
      refine (l1All_any _ _ _ _ _ _ _ _ _ ((hb.keeps k0).keeps k1)).mono ?_
      rintro e w2 ⟨rfl, rfl⟩
      rw [H2.out]
      go_wp2_with fail
      go_ret2
      exact ⟨ret_ib (by rw [HF.out]) (by rw [HF.out]), k0.trans k1⟩
    | true =>
      have HF := hid (show csF ps vs = (((firstNot (okAt ps vs) n' : Nat) : Int), true) by simp [csF, smallB, hl, hl', h1, h2])
      have H1 := hid h1
      have H2 := hid h2
      have HG := hid hg
      have HB := hid (within_bd h2 (B := 1000000) (by omega) (by omega) (by omega))
      clear h1 h2 hg
      go_enter Try.func26, Try.ntmps26
      go_wp2_with fail
      refine (gGood_any (ha.keeps k0)).mono ?_
      rintro e w1 ⟨rfl, k1⟩
      rw [H1.out]
      have bx := box_keeps k1
      go_wp2_with fail
      refine (l1All_any _ _ _ _ _ _ _ _ _ ((hb.keeps k0).keeps k1)).mono ?_
      rintro e w2 ⟨rfl, rfl⟩
      rw [H2.out]
      go_wp2_with fail
      refine (iCheck_any ((ha.keeps k0).keeps k1) ((hb.keeps k0).keeps k1) HG.out HB.out).mono ?_
      rintro e w2 ⟨rfl, k2⟩
      go_wp2_with fail
      go_ret2
      exact ⟨ret_ib (by rw [HF.out]) (by rw [HF.out]), (k0.trans k1).trans k2⟩
set_option maxHeartbeats 800000 in
theorem wInts_any {A A' : Option Addr} {l h l' h' n n' c c' : Nat} {ps vs : List Int} {w : World} (ha : Ints w l h A n ps) (hb : Ints w l' h' A' n' vs) :
    Calls Try.prog 68 #[.agg #[.slice A n c], .slice A' n' c'] w fun e w' => e = .returned (.bool (geoB ps && (decide (vs.length = ps.length) && within (-1000000) 1000000 vs))) ∧ Keeps w w' := by
  have hn := ha.le
  have hn' := hb.le
  have hl := ha.1
  have hl' := hb.1
  have k0 := keeps_alloc w (.cells #[.slice A n c] 37)
  cases h1 : geoB ps with
  | false =>
    have H1 := hid h1
    clear h1
    go_enter Try.func68, Try.ntmps68
    go_wp2_with fail
    refine (gGood_any (ha.keeps k0)).mono ?_
    rintro e w1 ⟨rfl, k1⟩
    rw [H1.out]
    go_wp2_with fail
    go_ret
    exact ⟨rfl, k0.trans k1⟩
  | true =>
    have H1 := hid h1
    clear h1
    by_cases hn2 : n' = n
    rotate_left
    · have HF := hid (show decide (vs.length = ps.length) = false by simp; omega)
      have t1 : ((n' : Int) == (n : Int)) = false := by rw [beq_eq_false_iff_ne]; omega
      clear hn2
      go_enter Try.func68, Try.ntmps68
      go_wp2_with fail
      refine (gGood_any (ha.keeps k0)).mono ?_
      rintro e w1 ⟨rfl, k1⟩
      rw [H1.out]
      have bx := box_keeps k1
      go_wp2_with fail
      go_ret
      exact ⟨ret_bool (by rw [HF.out]; rfl), k0.trans k1⟩
    subst hn2
    have HF := hid (show decide (vs.length = ps.length) = true by simp; omega)
    have t1 : ((n' : Int) == (n' : Int)) = true := by simp
    go_enter Try.func68, Try.ntmps68
    go_wp2_with fail
    refine (gGood_any (ha.keeps k0)).mono ?_
    rintro e w1 ⟨rfl, k1⟩
    rw [H1.out]
    have bx := box_keeps k1
    go_wp2_with fail
    refine (l1All_any _ _ _ _ _ _ _ _ _ ((hb.keeps k0).keeps k1)).mono ?_
    rintro e w2 ⟨rfl, rfl⟩
    go_wp2_with fail
    go_ret
    exact ⟨ret_bool (by rw [HF.out]; rfl), k0.trans k1⟩
set_option maxHeartbeats 800000 in
theorem iValues_any {A A' : Option Addr} {l h l' h' n n' c c' : Nat} {ps vs : List Int} {w : World} (ha : Ints w l h A n ps) (hb : Ints w l' h' A' n' vs) :
    Calls Try.prog 70 #[.agg #[.slice A n c], .slice A' n' c'] w fun e w' => e = .returned (.bool (geoB ps && (decide (vs.length = ps.length) && within (-100000) 100000 vs))) ∧ Keeps w w' := by
  have hn := ha.le
  have hn' := hb.le
  have hl := ha.1
  have hl' := hb.1
  have k0 := keeps_alloc w (.cells #[.slice A n c] 37)
  cases h1 : geoB ps with
  | false =>
    have H1 := hid h1
    clear h1
    go_enter Try.func70, Try.ntmps70
    go_wp2_with fail
    refine (gGood_any (ha.keeps k0)).mono ?_
    rintro e w1 ⟨rfl, k1⟩
    rw [H1.out]
    go_wp2_with fail
    go_ret
    exact ⟨rfl, k0.trans k1⟩
  | true =>
    have H1 := hid h1
    clear h1
    by_cases hn2 : n' = n
    rotate_left
    · have HF := hid (show decide (vs.length = ps.length) = false by simp; omega)
      have t1 : ((n' : Int) == (n : Int)) = false := by rw [beq_eq_false_iff_ne]; omega
      clear hn2
      go_enter Try.func70, Try.ntmps70
      go_wp2_with fail
      refine (gGood_any (ha.keeps k0)).mono ?_
      rintro e w1 ⟨rfl, k1⟩
      rw [H1.out]
      have bx := box_keeps k1
      go_wp2_with fail
      go_ret
      exact ⟨ret_bool (by rw [HF.out]; rfl), k0.trans k1⟩
    subst hn2
    have HF := hid (show decide (vs.length = ps.length) = true by simp; omega)
    have t1 : ((n' : Int) == (n' : Int)) = true := by simp
    go_enter Try.func70, Try.ntmps70
    go_wp2_with fail
    refine (gGood_any (ha.keeps k0)).mono ?_
    rintro e w1 ⟨rfl, k1⟩
    rw [H1.out]
    have bx := box_keeps k1
    go_wp2_with fail
    refine (l1All_any _ _ _ _ _ _ _ _ _ ((hb.keeps k0).keeps k1)).mono ?_
    rintro e w2 ⟨rfl, rfl⟩
    go_wp2_with fail
    go_ret
    exact ⟨ret_bool (by rw [HF.out]; rfl), k0.trans k1⟩
set_option maxHeartbeats 800000 in
theorem impl_IsAdditiveWhole_any {A A' : Option Addr} {l h l' h' n n' c c' : Nat} {ps vs : List Int} {w : World} (ha : Ints w l h A n ps) (hb : Ints w l' h' A' n' vs) :
    Calls Try.prog 31 #[.agg #[.slice A n c], .slice A' n' c'] w fun e w' => e = .returned (.tuple #[.bool (iaF ps vs).1, .bool (iaF ps vs).2]) ∧ Keeps w w' := by
  have hn := ha.le
  have hn' := hb.le
  have hl := ha.1
  have hl' := hb.1
  have k0 := keeps_alloc w (.cells #[.slice A n c] 37)
  cases h1 : geoB ps with
  | false =>
    have HF := hid (show iaF ps vs = (false, false) by simp [iaF, h1])
    have H1 := hid h1
    clear h1
    go_enter Try.func31, Try.ntmps31
    go_wp2_with fail
    refine (IsGeo_any (ha.keeps k0)).mono ?_
    rintro e w1 ⟨rfl, k1⟩
    rw [H1.out]
    go_wp2_with fail
    go_ret2
    exact ⟨ret_bb (by rw [HF.out]) (by rw [HF.out]), k0.trans k1⟩
  | true =>
    have hg := (geoB_true.1 h1).2.1
    cases h2 : smallB vs n with
    | false =>
      have HF := hid (show iaF ps vs = (false, false) by simp [iaF, hl, h2])
      have H1 := hid h1
      have H2 := hid h2
      clear h1 h2 hg
      go_enter Try.func31, Try.ntmps31
      go_wp2_with fail
      refine (IsGeo_any (ha.keeps k0)).mono ?_
      rintro e w1 ⟨rfl, k1⟩
      rw [H1.out]
      have bx := box_keeps k1
      go_wp2_with fail
      refine (areSmallIntegers_any ((hb.keeps k0).keeps k1) hn).mono ?_
      rintro e w2 ⟨rfl, rfl⟩
      rw [H2.out]
      go_wp2_with fail
      go_ret2
      exact ⟨ret_bb (by rw [HF.out]) (by rw [HF.out]), k0.trans k1⟩
    | true =>
      have hn2 : n' = n := by simp [smallB] at h2; omega
      subst hn2
      obtain ⟨f, HN⟩ : ∃ f, Hid (firstNot (okAt ps vs) n' = f) := ⟨_, rfl⟩
      have HF := hid (show iaF ps vs = (f == n', true) by simp [iaF, hl, h1, h2, HN.out])
      have H1 := hid h1
      have H2 := hid h2
      have HG := hid hg
      have HB := hid (smallB_bd h2)
      have HT := hid (show ((f : Int) == (n' : Int)) = (f == n') by rw [Bool.eq_iff_iff]; simp; omega)
      clear h1 h2 hg
      go_enter Try.func31, Try.ntmps31
      go_wp2_with fail
      refine (IsGeo_any (ha.keeps k0)).mono ?_
      rintro e w1 ⟨rfl, k1⟩
      rw [H1.out]
      have bx := box_keeps k1
      go_wp2_with fail
      refine (areSmallIntegers_any ((hb.keeps k0).keeps k1) hn).mono ?_
      rintro e w2 ⟨rfl, rfl⟩
      rw [H2.out]
      go_wp2_with fail
      refine (checkSums_any ((ha.keeps k0).keeps k1) ((hb.keeps k0).keeps k1) HG.out HB.out).mono ?_
      rintro e w2 ⟨rfl, k2⟩
      rw [HN.out]
      go_wp2_with fail
      go_ret2
      exact ⟨ret_bb (by rw [HF.out, HT.out]) (by rw [HF.out]), (k0.trans k1).trans k2⟩

set_option maxHeartbeats 2000000 in
theorem spec_IsAdditiveWhole_any {A A' : Option Addr} {l h l' h' n n' c c' : Nat} {ps vs : List Int} {w : World} (ha : Ints w l h A n ps) (hb : Ints w l' h' A' n' vs) :
    Calls Try.prog 30 #[.agg #[.slice A n c], .slice A' n' c'] w fun e w' => e = .returned (.tuple #[.bool (iaF ps vs).1, .bool (iaF ps vs).2]) ∧ Keeps w w' := by
  have hn := ha.le
  have hn' := hb.le
  have hl := ha.1
  have hl' := hb.1
  have k0 := keeps_alloc w (.cells #[.slice A n c] 37)
  cases h1 : (geoB ps && (decide (vs.length = ps.length) && within (-1000000) 1000000 vs)) with
  | false =>
    have HF := hid (show iaF ps vs = (false, false) by unfold iaF smallB; rw [h1]; rfl)
    have H1 := hid h1
    clear h1
    go_enter Try.func30, Try.ntmps30
    go_wp2_with fail
    refine (wInts_any (ha.keeps k0) (hb.keeps k0)).mono ?_
    rintro e w1 ⟨rfl, k1⟩
    rw [H1.out]
    go_wp2_with fail
    go_ret2
    exact ⟨ret_bb (by rw [HF.out]) (by rw [HF.out]), k0.trans k1⟩
  | true =>
    have h12 := h1
    simp only [Bool.and_eq_true, decide_eq_true_eq] at h12
    obtain ⟨hgeo, hlen, hwi⟩ := h12
    have hn2 : n' = n := by omega
    subst hn2
    have HF2 := hid (show iaF ps vs = (firstNot (okAt ps vs) n' == n', true) by unfold iaF smallB; rw [h1, hl]; rfl)
    have HG := hid (geoB_true.1 hgeo).2.1
    have HB := hid (within_bd hwi (B := 1000000) (by omega) (by omega) (by omega))
    have H1 := hid h1
    clear h1 hgeo hwi hlen
    go_enter Try.func30, Try.ntmps30
    go_wp2_with fail
    refine (wInts_any (ha.keeps k0) (hb.keeps k0)).mono ?_
    rintro e w1 ⟨rfl, k1⟩
    rw [H1.out]
    have bx0 := box_keeps k1
    have ha0 := (ha.keeps k0).keeps k1
    have hb0 := (hb.keeps k0).keeps k1
    have kk0 := k0.trans k1
    clear ha hb k0 k1 hl hl' hn'
    go_wp2_with fail
    obtain ⟨n, rfl⟩ : ∃ n, n = n' := ⟨_, rfl⟩
    go_loopw [17] (fun i wr => ∃ k : Nat, k ≤ n ∧ i = .int .i64 k ∧ Hid (OkTo ps vs k) ∧ Keeps w1 wr) (fun i _ => n - (intOf i).toNat)
    case atStart => exact ⟨0, Nat.zero_le _, rfl, fun j hj => absurd hj (by omega), keeps_refl _⟩
    case round =>
      obtain ⟨k, hk, rfl, hok, hkeep⟩ := hrel
      obtain ⟨wo, rfl⟩ : ∃ wo : World, wo = wr := ⟨_, rfl⟩
      by_cases hlt : k < n
      · obtain ⟨b, off, x, rfl, _, _, hx0, hx⟩ := (hb0.keeps hkeep).at_ hlt
        have bx := cell_keeps bx0 hkeep
        go_wp2_with fail
        refine (gChildren_any (ha0.keeps hkeep) HG.out (by omega)).mono ?_
        rintro e w3 ⟨A2, c2, rfl, hm, hk1⟩
        have hx0 := cell_keeps hx0 hk1
        have hv := (hb0.keeps hkeep).keeps hk1
        have hkk := hid (hkeep.trans hk1)
        have hkl : (kids ps k).length ≤ n := by have := kidsTo_len ps k ps.length; have := ha0.1; unfold kids; omega
        clear hkeep hk1 bx
        go_wp2_with fail
        go_loop [8, 25] (fun s t => ∃ m : Nat, m ≤ (kids ps k).length ∧ t = .int .i64 m ∧ s = .int .i64 ((vsAt vs (kids ps k)).take m).sum) (fun _ t => (kids ps k).length - (intOf t).toNat)
        case atStart => exact ⟨0, Nat.zero_le _, rfl, by simp⟩
        case round =>
          obtain ⟨m, hm1, rfl, rfl⟩ := hrel
          by_cases hltm : m < (kids ps k).length
          · obtain ⟨b2, off2, y, rfl, _, _, hy0, hy⟩ := hm.1.at_ hltm
            obtain ⟨j, hj, hj0, hjn, _⟩ := kids_getD hltm
            obtain rfl : y = (j : Int) := hy.out.trans hj
            have := ha0.1
            obtain ⟨b3, off3, z, hA3, _, _, hz0, hz⟩ := hv.at_ (k := j) (by omega)
            obtain ⟨rfl, rfl⟩ : b = b3 ∧ off = off3 := by simpa using hA3
            clear hA3
            have hjn' : (j : Int) < (n : Int) := by omega
            have hs1 := sum_num (vsAt vs (kids ps k)) _ (vsAt_bd HB.out (by omega)) (by omega) m 67108864 (by rw [vsAt_len]; omega) (by omega)
            have hz1 := HB.out j
            rw [← hz.out] at hz1
            have HS := hid (take_sum_succ (vsAt vs (kids ps k)) m (by rw [vsAt_len]; omega))
            rw [vsAt_getD hltm hj, ← hz.out] at HS
            generalize ((vsAt vs (kids ps k)).take m).sum = s at *
            clear hj this
            go_wp2
            go_round
            case rel => exact ⟨m + 1, by omega, by go_num, by rw [HS.out]⟩
            case measure => simp [intOf]; omega
          · obtain rfl : m = (kids ps k).length := by omega
            have HE := hid (show (vsAt vs (kids ps k)).take (kids ps k).length = vsAt vs (kids ps k) from List.take_of_length_le (by rw [vsAt_len]; omega))
            rw [HE.out]
            by_cases hk0 : (kids ps k).length = 0
            · have t1 : ¬ (0 : Int) < ((kids ps k).length : Int) := by omega
              have HO := hid (okTo_succ hok.out (okAt_none hk0))
              clear hk0
              go_wp2
              go_roundw
              case rel => exact ⟨k + 1, by omega, by go_num, HO, hkk.out⟩
              case measure => simp [intOf]; omega
            · have t1 : (0 : Int) < ((kids ps k).length : Int) := by omega
              by_cases hs : (vsAt vs (kids ps k)).sum = x
              · have HO := hid (okTo_succ hok.out (okAt_eq hx.out hs))
                have t2 : ((vsAt vs (kids ps k)).sum != x) = false := by simp [hs]
                clear hs
                go_wp2
                go_roundw
                case rel => exact ⟨k + 1, by omega, by go_num, HO, hkk.out⟩
                case measure => simp [intOf]; omega
              · have HF := hid (firstNot_at hlt hok.out (okAt_ne hx.out hk0 hs))
                have t2 : ((vsAt vs (kids ps k)).sum != x) = true := by simp [hs]
                clear hs
                go_wp2
                go_ret2; exact ⟨ret_bb (by rw [HF2.out, HF.out]; simp; omega) (by rw [HF2.out]), kk0.trans hkk.out⟩
      · obtain rfl : k = n := by omega
        have HF := hid (firstNot_all hok.out)
        go_wp2
        go_ret2; exact ⟨ret_bb (by rw [HF2.out, HF.out]; simp) (by rw [HF2.out]), kk0.trans hkeep⟩

set_option maxRecDepth 100000 in
set_option maxHeartbeats 1000000 in
theorem FnExactCheckSums_law (A0 : Option Addr) (n0 c0 : Nat) (z0 : List Int) (A1 : Option Addr) (n1 c1 : Nat) (z1 : List Int) (w : World) (wa0 : IntsArg w A0 n0 z0) (wa1 : IntsArg w A1 n1 z1) :
    Calls Try.prog 6 #[.agg #[.slice A0 n0 c0], .slice A1 n1 c1] w fun e w' => e = .returned (.bool true) ∧ Below w.heap.size w w' := by
  by_cases hn1 : n1 ≤ 1048576
  rotate_left
  · have hlt : (1048576 : Int) < (n1 : Int) := by omega
    go_enter Try.func6, Try.ntmps6
    go_wp2_with fail
    go_ret
    exact ⟨rfl, (keeps_refl w).trans (keeps_alloc w (.cells #[.slice A0 n0 c0] 34))⟩
  have h1 := wa1.ints (by omega)
  by_cases hn0 : n0 ≤ 1048576
  rotate_left
  · have hm := wa0.1
    go_enter Try.func6, Try.ntmps6
    go_wp2_with fail
    refine (szGeo_no _ _ _ _ _ hm (by omega) (by omega) (by omega)).mono ?_
    rintro e w1 ⟨rfl, k1⟩
    go_wp2_with fail
    go_ret
    exact ⟨rfl, alloc_keeps k1⟩
  have h0 := wa0.ints (by omega)
  obtain ⟨r0, r1, HR⟩ : ∃ r0 r1, Hid (csF z0 z1 = (r0, r1)) := ⟨_, _, rfl⟩
  go_enter Try.func6, Try.ntmps6
  go_wp2_with fail
  go_wp2_with fail
  refine (szGeo_ok _ _ _ _ _ (by omega) (by omega)).mono ?_
  rintro e w1 ⟨rfl, k1⟩
  have ba0 := box_keeps k1
  have sb1 := k1.size
  simp at sb1
  replace k1 := alloc_keeps k1
  have s1 := k1.size
  replace h1 := h1.keeps k1
  replace h0 := h0.keeps k1
  have bel := k1
  have sz := s1
  have t0 : ¬ ((1048576 : Int) - (n0 : Int) < 0) := by omega
  go_wp2_with fail
  refine (toGeo_any h0).mono ?_
  rintro e w2 ⟨By0, rfl, y0, k2⟩
  have s2 := k2.size
  replace h1 := h1.keeps k2
  replace h0 := h0.keeps k2
  replace ba0 := cell_keeps ba0 k2
  replace bel := below_keeps bel sz k2
  replace sz := Nat.le_trans sz s2
  go_wp2_with fail
  refine (toIntS_any h1).mono ?_
  rintro e w3 ⟨By1, rfl, y1, k3⟩
  have s3 := k3.size
  replace h1 := h1.keeps k3
  replace h0 := h0.keeps k3
  replace y0 := y0.keeps k3
  replace ba0 := cell_keeps ba0 k3
  replace bel := below_keeps bel sz k3
  replace sz := Nat.le_trans sz s3
  go_wp2_with fail
  refine (spec_CheckSums_any y0.1 y1.1).mono ?_
  rintro e w4 ⟨rfl, k4⟩
  rw [HR.out]
  have s4 := k4.size
  replace h1 := h1.keeps k4
  replace h0 := h0.keeps k4
  replace y0 := y0.keeps k4
  replace y1 := y1.keeps k4
  replace ba0 := cell_keeps ba0 k4
  replace bel := below_keeps bel sz k4
  replace sz := Nat.le_trans sz s4
  clear y0
  clear y1
  go_wp2_with fail
  refine (toGeo_any h0).mono ?_
  rintro e w5 ⟨Bx0, rfl, x0, k5⟩
  have s5 := k5.size
  replace h1 := h1.keeps k5
  replace h0 := h0.keeps k5
  replace ba0 := cell_keeps ba0 k5
  replace bel := below_keeps bel sz k5
  replace sz := Nat.le_trans sz s5
  go_wp2_with fail
  refine (toIntS_any (h1.keeps (keeps_alloc _ _))).mono ?_
  rintro e w6 ⟨Bx1, rfl, x1, k6⟩
  have bx0 := box_keeps k6
  replace x1 := x1.widen (lo' := w5.heap.size + 1) (by simp) (Nat.le_refl _) (Nat.le_refl _)
  have sb6 := k6.size
  simp at sb6
  replace k6 := alloc_keeps k6
  have s6 := k6.size
  replace h1 := h1.keeps k6
  replace h0 := h0.keeps k6
  replace x0 := x0.keeps k6
  replace ba0 := cell_keeps ba0 k6
  replace bel := below_keeps bel sz k6
  replace sz := Nat.le_trans sz s6
  go_wp2_with fail
  refine (impl_CheckSums_any x0.1 x1.1).mono ?_
  rintro e w7 ⟨rfl, k7⟩
  rw [HR.out]
  have s7 := k7.size
  replace h1 := h1.keeps k7
  replace h0 := h0.keeps k7
  replace x0 := x0.keeps k7
  replace x1 := x1.keeps k7
  replace ba0 := cell_keeps ba0 k7
  replace bx0 := cell_keeps bx0 k7
  replace bel := below_keeps bel sz k7
  replace sz := Nat.le_trans sz s7
  have e0 : (r0 != r0) = false := by simp
  have e1 : (r1 != r1) = false := by simp
  go_wp2_with fail
  go_region_held3 (fun w' => w'.cell? ⟨w5.heap.size, 0, none⟩ = some (.slice Bx0 n0 n0) ∧ w'.cell? ⟨w.heap.size, 0, none⟩ = some (.slice A0 n0 c0)) (first | exact ⟨bx0, ba0⟩ | exact ⟨q1, q2⟩ | exact ⟨q3, q4⟩ | go_keep)
    ((first | (go_at_call 27; refine (toGeo_any h0.drew).mono ?_; rintro e w8 ⟨Bt0, rfl, t0, k8⟩; have q1 := cell_keeps (w := w7.drew) bx0 k8; have q2 := cell_keeps (w := w7.drew) ba0 k8) | (go_at_call 29; refine (eqGeo_true (x0.1.drew.keeps k8) t0.1).mono ?_; rintro e w9 ⟨rfl, k9⟩; have q3 := cell_keeps q1 k9; have q4 := cell_keeps q2 k9)))
  clear q1 q2 q3 q4 t0
  replace k8 := (Keeps.drewN w7 1).trans k8
  have s8 := k8.size
  replace h1 := h1.keeps k8
  replace h0 := h0.keeps k8
  replace x0 := x0.keeps k8
  replace x1 := x1.keeps k8
  replace ba0 := cell_keeps ba0 k8
  replace bx0 := cell_keeps bx0 k8
  replace bel := below_keeps bel sz k8
  replace sz := Nat.le_trans sz s8
  have s9 := k9.size
  replace h1 := h1.keeps k9
  replace h0 := h0.keeps k9
  replace x0 := x0.keeps k9
  replace x1 := x1.keeps k9
  replace ba0 := cell_keeps ba0 k9
  replace bx0 := cell_keeps bx0 k9
  replace bel := below_keeps bel sz k9
  replace sz := Nat.le_trans sz s9
  go_wp2_with fail
  refine (toIntS_any h1).mono ?_
  rintro e w10 ⟨Bt1, rfl, t1, k10⟩
  have s10 := k10.size
  replace h1 := h1.keeps k10
  replace h0 := h0.keeps k10
  replace x0 := x0.keeps k10
  replace x1 := x1.keeps k10
  replace ba0 := cell_keeps ba0 k10
  replace bx0 := cell_keeps bx0 k10
  replace bel := below_keeps bel sz k10
  replace sz := Nat.le_trans sz s10
  go_wp2_with fail
  refine (eqIntS_true x1.1 t1.1).mono ?_
  rintro e w11 ⟨rfl, k11⟩
  replace k11 := Quiet.keeps k11
  have s11 := k11.size
  replace h1 := h1.keeps k11
  replace h0 := h0.keeps k11
  replace x0 := x0.keeps k11
  replace x1 := x1.keeps k11
  replace t1 := t1.keeps k11
  replace ba0 := cell_keeps ba0 k11
  replace bx0 := cell_keeps bx0 k11
  replace bel := below_keeps bel sz k11
  replace sz := Nat.le_trans sz s11
  clear t1
  go_wp2_with fail
  go_ret
  exact ⟨rfl, bel⟩
set_option maxRecDepth 100000 in
set_option maxHeartbeats 1000000 in
theorem FnExactIsAdditiveWhole_law (A0 : Option Addr) (n0 c0 : Nat) (z0 : List Int) (A1 : Option Addr) (n1 c1 : Nat) (z1 : List Int) (w : World) (wa0 : IntsArg w A0 n0 z0) (wa1 : IntsArg w A1 n1 z1) :
    Calls Try.prog 7 #[.agg #[.slice A0 n0 c0], .slice A1 n1 c1] w fun e w' => e = .returned (.bool true) ∧ Below w.heap.size w w' := by
  by_cases hn1 : n1 ≤ 1048576
  rotate_left
  · have hlt : (1048576 : Int) < (n1 : Int) := by omega
    go_enter Try.func7, Try.ntmps7
    go_wp2_with fail
    go_ret
    exact ⟨rfl, (keeps_refl w).trans (keeps_alloc w (.cells #[.slice A0 n0 c0] 34))⟩
  have h1 := wa1.ints (by omega)
  by_cases hn0 : n0 ≤ 1048576
  rotate_left
  · have hm := wa0.1
    go_enter Try.func7, Try.ntmps7
    go_wp2_with fail
    refine (szGeo_no _ _ _ _ _ hm (by omega) (by omega) (by omega)).mono ?_
    rintro e w1 ⟨rfl, k1⟩
    go_wp2_with fail
    go_ret
    exact ⟨rfl, alloc_keeps k1⟩
  have h0 := wa0.ints (by omega)
  obtain ⟨r0, r1, HR⟩ : ∃ r0 r1, Hid (iaF z0 z1 = (r0, r1)) := ⟨_, _, rfl⟩
  go_enter Try.func7, Try.ntmps7
  go_wp2_with fail
  go_wp2_with fail
  refine (szGeo_ok _ _ _ _ _ (by omega) (by omega)).mono ?_
  rintro e w1 ⟨rfl, k1⟩
  have ba0 := box_keeps k1
  have sb1 := k1.size
  simp at sb1
  replace k1 := alloc_keeps k1
  have s1 := k1.size
  replace h1 := h1.keeps k1
  replace h0 := h0.keeps k1
  have bel := k1
  have sz := s1
  have t0 : ¬ ((1048576 : Int) - (n0 : Int) < 0) := by omega
  go_wp2_with fail
  refine (toGeo_any h0).mono ?_
  rintro e w2 ⟨By0, rfl, y0, k2⟩
  have s2 := k2.size
  replace h1 := h1.keeps k2
  replace h0 := h0.keeps k2
  replace ba0 := cell_keeps ba0 k2
  replace bel := below_keeps bel sz k2
  replace sz := Nat.le_trans sz s2
  go_wp2_with fail
  refine (toIntS_any h1).mono ?_
  rintro e w3 ⟨By1, rfl, y1, k3⟩
  have s3 := k3.size
  replace h1 := h1.keeps k3
  replace h0 := h0.keeps k3
  replace y0 := y0.keeps k3
  replace ba0 := cell_keeps ba0 k3
  replace bel := below_keeps bel sz k3
  replace sz := Nat.le_trans sz s3
  go_wp2_with fail
  refine (spec_IsAdditiveWhole_any y0.1 y1.1).mono ?_
  rintro e w4 ⟨rfl, k4⟩
  rw [HR.out]
  have s4 := k4.size
  replace h1 := h1.keeps k4
  replace h0 := h0.keeps k4
  replace y0 := y0.keeps k4
  replace y1 := y1.keeps k4
  replace ba0 := cell_keeps ba0 k4
  replace bel := below_keeps bel sz k4
  replace sz := Nat.le_trans sz s4
  clear y0
  clear y1
  go_wp2_with fail
  refine (toGeo_any h0).mono ?_
  rintro e w5 ⟨Bx0, rfl, x0, k5⟩
  have s5 := k5.size
  replace h1 := h1.keeps k5
  replace h0 := h0.keeps k5
  replace ba0 := cell_keeps ba0 k5
  replace bel := below_keeps bel sz k5
  replace sz := Nat.le_trans sz s5
  go_wp2_with fail
  refine (toIntS_any (h1.keeps (keeps_alloc _ _))).mono ?_
  rintro e w6 ⟨Bx1, rfl, x1, k6⟩
  have bx0 := box_keeps k6
  replace x1 := x1.widen (lo' := w5.heap.size + 1) (by simp) (Nat.le_refl _) (Nat.le_refl _)
  have sb6 := k6.size
  simp at sb6
  replace k6 := alloc_keeps k6
  have s6 := k6.size
  replace h1 := h1.keeps k6
  replace h0 := h0.keeps k6
  replace x0 := x0.keeps k6
  replace ba0 := cell_keeps ba0 k6
  replace bel := below_keeps bel sz k6
  replace sz := Nat.le_trans sz s6
  go_wp2_with fail
  refine (impl_IsAdditiveWhole_any x0.1 x1.1).mono ?_
  rintro e w7 ⟨rfl, k7⟩
  rw [HR.out]
  have s7 := k7.size
  replace h1 := h1.keeps k7
  replace h0 := h0.keeps k7
  replace x0 := x0.keeps k7
  replace x1 := x1.keeps k7
  replace ba0 := cell_keeps ba0 k7
  replace bx0 := cell_keeps bx0 k7
  replace bel := below_keeps bel sz k7
  replace sz := Nat.le_trans sz s7
  have e0 : (r0 != r0) = false := by simp
  have e1 : (r1 != r1) = false := by simp
  go_wp2_with fail
  go_region_held3 (fun w' => w'.cell? ⟨w5.heap.size, 0, none⟩ = some (.slice Bx0 n0 n0) ∧ w'.cell? ⟨w.heap.size, 0, none⟩ = some (.slice A0 n0 c0)) (first | exact ⟨bx0, ba0⟩ | exact ⟨q1, q2⟩ | exact ⟨q3, q4⟩ | go_keep)
    ((first | (go_at_call 27; refine (toGeo_any h0.drew).mono ?_; rintro e w8 ⟨Bt0, rfl, t0, k8⟩; have q1 := cell_keeps (w := w7.drew) bx0 k8; have q2 := cell_keeps (w := w7.drew) ba0 k8) | (go_at_call 29; refine (eqGeo_true (x0.1.drew.keeps k8) t0.1).mono ?_; rintro e w9 ⟨rfl, k9⟩; have q3 := cell_keeps q1 k9; have q4 := cell_keeps q2 k9)))
  clear q1 q2 q3 q4 t0
  replace k8 := (Keeps.drewN w7 1).trans k8
  have s8 := k8.size
  replace h1 := h1.keeps k8
  replace h0 := h0.keeps k8
  replace x0 := x0.keeps k8
  replace x1 := x1.keeps k8
  replace ba0 := cell_keeps ba0 k8
  replace bx0 := cell_keeps bx0 k8
  replace bel := below_keeps bel sz k8
  replace sz := Nat.le_trans sz s8
  have s9 := k9.size
  replace h1 := h1.keeps k9
  replace h0 := h0.keeps k9
  replace x0 := x0.keeps k9
  replace x1 := x1.keeps k9
  replace ba0 := cell_keeps ba0 k9
  replace bx0 := cell_keeps bx0 k9
  replace bel := below_keeps bel sz k9
  replace sz := Nat.le_trans sz s9
  go_wp2_with fail
  refine (toIntS_any h1).mono ?_
  rintro e w10 ⟨Bt1, rfl, t1, k10⟩
  have s10 := k10.size
  replace h1 := h1.keeps k10
  replace h0 := h0.keeps k10
  replace x0 := x0.keeps k10
  replace x1 := x1.keeps k10
  replace ba0 := cell_keeps ba0 k10
  replace bx0 := cell_keeps bx0 k10
  replace bel := below_keeps bel sz k10
  replace sz := Nat.le_trans sz s10
  go_wp2_with fail
  refine (eqIntS_true x1.1 t1.1).mono ?_
  rintro e w11 ⟨rfl, k11⟩
  replace k11 := Quiet.keeps k11
  have s11 := k11.size
  replace h1 := h1.keeps k11
  replace h0 := h0.keeps k11
  replace x0 := x0.keeps k11
  replace x1 := x1.keeps k11
  replace t1 := t1.keeps k11
  replace ba0 := cell_keeps ba0 k11
  replace bx0 := cell_keeps bx0 k11
  replace bel := below_keeps bel sz k11
  replace sz := Nat.le_trans sz s11
  clear t1
  go_wp2_with fail
  go_ret
  exact ⟨rfl, bel⟩
end Go.Proofs.Ytdfpgohfnabflaa
