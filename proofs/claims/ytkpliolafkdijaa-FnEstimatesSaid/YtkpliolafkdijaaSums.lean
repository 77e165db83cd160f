/- CheckSums and IsAdditiveWhole, of the reference and of the program; and the laws. -/
import Derived.Test.YtkpliolafkdijaaGeo
import Derived.Test.YtkpliolafkdijaaOpen
namespace Go.Proofs.Ytkpliolafkdijaa
open Go.RowKit
set_option linter.unusedVariables false
set_option linter.unusedSimpArgs false

theorem ret_ib {a c : Int} {p q : Bool} (h1 : a = c) (h3 : p = q) : Ending.returned (.tuple #[.int .i64 a, .bool p]) = .returned (.tuple #[.int .i64 c, .bool q]) := by rw [h1, h3]
theorem ret_bs {a c : Bool} {p q : Bool} (h1 : a = c) (h3 : p = q) : Ending.returned (.tuple #[.bool a, .bool p]) = .returned (.tuple #[.bool c, .bool q]) := by rw [h1, h3]

/-- The elements of vs at the indices ks. -/
def vsAt (vs ks : List Int) : List Int := ks.map fun c => vs.getD c.toNat 0
theorem vsAt_len (vs ks : List Int) : (vsAt vs ks).length = ks.length := by simp [vsAt]
theorem vsAt_getD {vs ks : List Int} {m j : Nat} (hm : m < ks.length) (h : ks.getD m 0 = (j : Int)) : (vsAt vs ks).getD m 0 = vs.getD j 0 := by
  have h2 : ks[m] = (j : Int) := by simpa [List.getD, hm] using h
  simp [vsAt, List.getD, hm, h2]
theorem vsAt_bd {vs ks : List Int} {B : Int} (h : Bd B vs) (h0 : 0 ≤ B) : Bd B (vsAt vs ks) := by
  intro m
  by_cases hm : m < ks.length
  · have := h (ks[m]).toNat
    simpa [vsAt, List.getD, hm] using this
  · simp [vsAt, List.getD, List.getElem?_eq_none (Nat.le_of_not_lt hm)]; exact h0
def okAt (ps vs : List Int) (i : Nat) : Bool := decide ((kids ps i).length = 0) || ((vsAt vs (kids ps i)).sum == vs.getD i 0)
/-- The least number below n that p refuses, or n. -/
def firstNot (p : Nat → Bool) (n : Nat) : Nat := ((List.range n).find? fun i => !p i).getD n
theorem firstNot_at {p : Nat → Bool} {n k : Nat} (hk : k < n) (h : ∀ j, j < k → p j = true) (hp : p k = false) : firstNot p n = k := by
  unfold firstNot
  have : (List.range n).find? (fun i => !p i) = some k := by
    rw [List.find?_range_eq_some]
    exact ⟨by simp [hp], by simpa using hk, fun j hj => by simp [h j hj]⟩
  rw [this]; rfl
theorem firstNot_all {p : Nat → Bool} {n : Nat} (h : ∀ j, j < n → p j = true) : firstNot p n = n := by
  unfold firstNot
  have : (List.range n).find? (fun i => !p i) = none := by
    rw [List.find?_eq_none]
    intro j hj
    simp [h j (by simpa using hj)]
  rw [this]; rfl
theorem firstNot_le (p : Nat → Bool) (n : Nat) : firstNot p n ≤ n := by
  unfold firstNot
  cases h : (List.range n).find? (fun i => !p i) with
  | none => exact Nat.le_refl _
  | some k => have := List.mem_of_find?_eq_some h; simp at this; simp; omega
def OkToS (ps vs : List Int) (k : Nat) : Prop := ∀ j, j < k → okAt ps vs j = true
theorem okToS_succ {ps vs : List Int} {k : Nat} (h : OkToS ps vs k) (h1 : okAt ps vs k = true) : OkToS ps vs (k + 1) := by
  intro j hj
  by_cases hjk : j = k
  · subst hjk; exact h1
  · exact h j (by omega)
theorem okAt_none {ps vs : List Int} {k : Nat} (h : (kids ps k).length = 0) : okAt ps vs k = true := by simp [okAt, h]
theorem okAt_eq {ps vs : List Int} {k : Nat} {x : Int} (hx : x = vs.getD k 0) (h : (vsAt vs (kids ps k)).sum = x) : okAt ps vs k = true := by simp [okAt, h, hx]
theorem okAt_ne {ps vs : List Int} {k : Nat} {x : Int} (hx : x = vs.getD k 0) (h0 : ¬ (kids ps k).length = 0) (h : (vsAt vs (kids ps k)).sum ≠ x) : okAt ps vs k = false := by
  rw [hx] at h
  simp only [okAt, Bool.or_eq_false_iff, decide_eq_false_iff_not, beq_eq_false_iff_ne]
  exact ⟨h0, h⟩

def smallB (vs : List Int) (n : Nat) : Bool := decide (vs.length = n) && within (-1000000) 1000000 vs
theorem smallB_bd {vs : List Int} {n : Nat} (h : smallB vs n = true) : Bd 1000000 vs := by
  simp [smallB] at h
  exact within_bd h.2 (by omega) (by omega) (by omega)

set_option maxHeartbeats 400000 in
theorem areSmallIntegers_any {A : Option Addr} {l h n c m : Nat} {xs : List Int} {w : World} (ha : Ints w l h A n xs) (hm : m ≤ 67108864) :
    Calls Try.prog 155 #[.slice A n c, .int .i64 m] w fun e w' => e = .returned (.bool (smallB xs m)) ∧ w = w' := by
  have hn := ha.le
  have hl := ha.1
  by_cases hnm : n = m
  rotate_left
  · have HF := hid (show smallB xs m = false by simp [smallB]; intro; omega)
    have t1 : ((n : Int) != (m : Int)) = true := by rw [bne_iff_ne]; omega
    go_enter Try.func155, Try.ntmps155
    go_wp2
    go_ret
    exact ⟨ret_bool HF.out.symm, rfl⟩
  subst hnm
  have HF := hid (show smallB xs n = within (-1000000) 1000000 xs by simp [smallB, hl])
  have t1 : ((n : Int) != (n : Int)) = false := by simp
  go_enter Try.func155, Try.ntmps155
  go_wp2_with fail
  go_loop [13] (fun i => ∃ k : Nat, k ≤ n ∧ i = .int .i64 k ∧ Hid (Upto (-1000000) 1000000 xs k)) (fun i => n - (intOf i).toNat)
  case atStart => exact ⟨0, Nat.zero_le _, rfl, fun j hj => absurd hj (by omega)⟩
  case round =>
    obtain ⟨k, hk, rfl, HU⟩ := hrel
    by_cases hlt : k < n
    · obtain ⟨b, off, x, rfl, _, _, hc, hx⟩ := ha.at_ hlt
      by_cases h1 : -1000000 ≤ x
      · by_cases h2 : x ≤ 1000000
        · go_wp2
          go_round
          case rel => exact ⟨k + 1, by omega, by go_num, upto_succ HU.out hx.out h1 h2⟩
          case measure => simp [intOf]; omega
        · go_wp2
          go_ret
          exact ⟨ret_bool (by rw [HF.out]; exact (within_no (by omega) hx.out (.inr (by omega))).symm), rfl⟩
      · go_wp2
        go_ret
        exact ⟨ret_bool (by rw [HF.out]; exact (within_no (by omega) hx.out (.inl (by omega))).symm), rfl⟩
    · obtain rfl : k = n := by omega
      go_wp2
      go_ret
      exact ⟨ret_bool (by rw [HF.out]; exact (within_true.2 (by rw [hl]; exact HU.out)).symm), rfl⟩

set_option maxHeartbeats 2000000 in
theorem iCheck_any {A A' : Option Addr} {l h l' h' n c c' : Nat} {ps vs : List Int} {w : World} (ha : Ints w l h A n ps) (hb : Ints w l' h' A' n vs) (hg : ps.getD 0 0 = -1) (hbd : Bd 1000000 vs) :
    Calls Try.prog 158 #[.agg #[.slice A n c], .slice A' n c'] w fun e w' => e = .returned (.int .i64 (firstNot (okAt ps vs) n)) ∧ Keeps w w' := by
  have hn := ha.le
  have HB := hid hbd
  have HG := hid hg
  clear hbd hg
  have k0 := keeps_alloc w (.cells #[.slice A n c] 51)
  have ha0 := ha.keeps k0
  have hb0 := hb.keeps k0
  have bx0 := hid (cell_new w (.slice A n c) 51)
  clear ha hb
  go_enter Try.func158, Try.ntmps158
  go_wp2_with fail
  have bx0 := bx0.out
  go_loopw [12] (fun i wr => ∃ k : Nat, k ≤ n ∧ i = .int .i64 k ∧ Hid (OkToS ps vs k) ∧ Keeps (w.alloc (.cells #[.slice A n c] 51)) wr) (fun i _ => n - (intOf i).toNat)
  case atStart => exact ⟨0, Nat.zero_le _, rfl, fun j hj => absurd hj (by omega), keeps_refl _⟩
  case round =>
    obtain ⟨k, hk, rfl, hok, hkeep⟩ := hrel
    obtain ⟨wo, rfl⟩ : ∃ wo : World, wo = wr := ⟨_, rfl⟩
    by_cases hlt : k < n
    · obtain ⟨b, off, x, rfl, _, _, hx0, hx⟩ := (hb0.keeps hkeep).at_ hlt
      have bx := cell_keeps bx0 hkeep
      go_wp2_with fail
      refine (gChildren_any (ha0.keeps hkeep) HG.out (by omega)).mono ?_
      rintro e w3 ⟨A2, c2, rfl, hm, hk1⟩
      have hx0 := cell_keeps hx0 hk1
      have hv := (hb0.keeps hkeep).keeps hk1
      have hkk := hid (hkeep.trans hk1)
      have hkl : (kids ps k).length ≤ n := by have := kidsTo_len ps k ps.length; have := ha0.1; unfold kids; omega
      clear hkeep hk1 bx
      go_wp2_with fail
      go_loop [6, 20] (fun s t => ∃ m : Nat, m ≤ (kids ps k).length ∧ t = .int .i64 m ∧ s = .int .i64 ((vsAt vs (kids ps k)).take m).sum) (fun _ t => (kids ps k).length - (intOf t).toNat)
      case atStart => exact ⟨0, Nat.zero_le _, rfl, by simp⟩
      case round =>
        obtain ⟨m, hm1, rfl, rfl⟩ := hrel
        by_cases hltm : m < (kids ps k).length
        · obtain ⟨b2, off2, y, rfl, _, _, hy0, hy⟩ := hm.1.at_ hltm
          obtain ⟨j, hj, hj0, hjn, _⟩ := kids_getD hltm
          obtain rfl : y = (j : Int) := hy.out.trans hj
          have := ha0.1
          obtain ⟨b3, off3, z, hA3, _, _, hz0, hz⟩ := hv.at_ (k := j) (by omega)
          obtain ⟨rfl, rfl⟩ : b = b3 ∧ off = off3 := by simpa using hA3
          clear hA3
          have hjn' : (j : Int) < (n : Int) := by omega
          have hs1 := sum_num (vsAt vs (kids ps k)) _ (vsAt_bd HB.out (by omega)) (by omega) m 67108864 (by rw [vsAt_len]; omega) (by omega)
          have hz1 := HB.out j
          rw [← hz.out] at hz1
          have HS := hid (take_sum_succ (vsAt vs (kids ps k)) m (by rw [vsAt_len]; omega))
          rw [vsAt_getD hltm hj, ← hz.out] at HS
          generalize ((vsAt vs (kids ps k)).take m).sum = s at *
          clear hj this
          go_wp2
          go_round
          case rel => exact ⟨m + 1, by omega, by go_num, by rw [HS.out]⟩
          case measure => simp [intOf]; omega
        · obtain rfl : m = (kids ps k).length := by omega
          have HE := hid (show (vsAt vs (kids ps k)).take (kids ps k).length = vsAt vs (kids ps k) from List.take_of_length_le (by rw [vsAt_len]; omega))
          rw [HE.out]
          by_cases hk0 : (kids ps k).length = 0
          · have t1 : ¬ (0 : Int) < ((kids ps k).length : Int) := by omega
            have HO := hid (okToS_succ hok.out (okAt_none hk0))
            clear hk0
            go_wp2
            go_roundw
            case rel => exact ⟨k + 1, by omega, by go_num, HO, hkk.out⟩
            case measure => simp [intOf]; omega
          · have t1 : (0 : Int) < ((kids ps k).length : Int) := by omega
            by_cases hs : (vsAt vs (kids ps k)).sum = x
            · have HO := hid (okToS_succ hok.out (okAt_eq hx.out hs))
              have t2 : ((vsAt vs (kids ps k)).sum != x) = false := by simp [hs]
              clear hs
              go_wp2
              go_roundw
              case rel => exact ⟨k + 1, by omega, by go_num, HO, hkk.out⟩
              case measure => simp [intOf]; omega
            · have HF := hid (firstNot_at hlt hok.out (okAt_ne hx.out hk0 hs))
              have t2 : ((vsAt vs (kids ps k)).sum != x) = true := by simp [hs]
              clear hs
              go_wp2
              go_ret; exact ⟨ret_int (by rw [HF.out]), k0.trans hkk.out⟩
    · obtain rfl : k = n := by omega
      have HF := hid (firstNot_all hok.out)
      go_wp2
      go_ret; exact ⟨ret_int (by rw [HF.out]), k0.trans hkeep⟩
set_option maxHeartbeats 2000000 in
theorem checkSums_any {A A' : Option Addr} {l h l' h' n c c' : Nat} {ps vs : List Int} {w : World} (ha : Ints w l h A n ps) (hb : Ints w l' h' A' n vs) (hg : ps.getD 0 0 = -1) (hbd : Bd 1000000 vs) :
    Calls Try.prog 156 #[.agg #[.slice A n c], .slice A' n c'] w fun e w' => e = .returned (.int .i64 (firstNot (okAt ps vs) n)) ∧ Keeps w w' := by
  have hn := ha.le
  have HB := hid hbd
  have HG := hid hg
  clear hbd hg
  have k0 := keeps_alloc w (.cells #[.slice A n c] 51)
  have ha0 := ha.keeps k0
  have hb0 := hb.keeps k0
  have bx0 := hid (cell_new w (.slice A n c) 51)
  clear ha hb
  go_enter Try.func156, Try.ntmps156
  go_wp2_with fail
  have bx0 := bx0.out
  go_loopw [13] (fun i wr => ∃ k : Nat, k ≤ n ∧ i = .int .i64 k ∧ Hid (OkToS ps vs k) ∧ Keeps (w.alloc (.cells #[.slice A n c] 51)) wr) (fun i _ => n - (intOf i).toNat)
  case atStart => exact ⟨0, Nat.zero_le _, rfl, fun j hj => absurd hj (by omega), keeps_refl _⟩
  case round =>
    obtain ⟨k, hk, rfl, hok, hkeep⟩ := hrel
    obtain ⟨wo, rfl⟩ : ∃ wo : World, wo = wr := ⟨_, rfl⟩
    by_cases hlt : k < n
    · obtain ⟨b, off, x, rfl, _, _, hx0, hx⟩ := (hb0.keeps hkeep).at_ hlt
      have bx := cell_keeps bx0 hkeep
      go_wp2_with fail
      refine (childrenOf_any (ha0.keeps hkeep) HG.out (by omega)).mono ?_
      rintro e w3 ⟨A2, c2, rfl, hm, hk1⟩
      have hx0 := cell_keeps hx0 hk1
      have hv := (hb0.keeps hkeep).keeps hk1
      have hkk := hid (hkeep.trans hk1)
      have hkl : (kids ps k).length ≤ n := by have := kidsTo_len ps k ps.length; have := ha0.1; unfold kids; omega
      clear hkeep hk1 bx
      go_wp2_with fail
      go_loop [8, 23] (fun s t => ∃ m : Nat, m ≤ (kids ps k).length ∧ t = .int .i64 m ∧ s = .int .i64 ((vsAt vs (kids ps k)).take m).sum) (fun _ t => (kids ps k).length - (intOf t).toNat)
      case atStart => exact ⟨0, Nat.zero_le _, rfl, by simp⟩
      case round =>
        obtain ⟨m, hm1, rfl, rfl⟩ := hrel
        by_cases hltm : m < (kids ps k).length
        · obtain ⟨b2, off2, y, rfl, _, _, hy0, hy⟩ := hm.1.at_ hltm
          obtain ⟨j, hj, hj0, hjn, _⟩ := kids_getD hltm
          obtain rfl : y = (j : Int) := hy.out.trans hj
          have := ha0.1
          obtain ⟨b3, off3, z, hA3, _, _, hz0, hz⟩ := hv.at_ (k := j) (by omega)
          obtain ⟨rfl, rfl⟩ : b = b3 ∧ off = off3 := by simpa using hA3
          clear hA3
          have hjn' : (j : Int) < (n : Int) := by omega
          have hs1 := sum_num (vsAt vs (kids ps k)) _ (vsAt_bd HB.out (by omega)) (by omega) m 67108864 (by rw [vsAt_len]; omega) (by omega)
          have hz1 := HB.out j
          rw [← hz.out] at hz1
          have HS := hid (take_sum_succ (vsAt vs (kids ps k)) m (by rw [vsAt_len]; omega))
          rw [vsAt_getD hltm hj, ← hz.out] at HS
          generalize ((vsAt vs (kids ps k)).take m).sum = s at *
          clear hj this
          go_wp2
          go_round
          case rel => exact ⟨m + 1, by omega, by go_num, by rw [HS.out]⟩
          case measure => simp [intOf]; omega
        · obtain rfl : m = (kids ps k).length := by omega
          have HE := hid (show (vsAt vs (kids ps k)).take (kids ps k).length = vsAt vs (kids ps k) from List.take_of_length_le (by rw [vsAt_len]; omega))
          rw [HE.out]
          by_cases hk0 : (kids ps k).length = 0
          · have t1 : ¬ (0 : Int) < ((kids ps k).length : Int) := by omega
            have HO := hid (okToS_succ hok.out (okAt_none hk0))
            clear hk0
            go_wp2
            go_roundw
            case rel => exact ⟨k + 1, by omega, by go_num, HO, hkk.out⟩
            case measure => simp [intOf]; omega
          · have t1 : (0 : Int) < ((kids ps k).length : Int) := by omega
            by_cases hs : (vsAt vs (kids ps k)).sum = x
            · have HO := hid (okToS_succ hok.out (okAt_eq hx.out hs))
              have t2 : ((vsAt vs (kids ps k)).sum != x) = false := by simp [hs]
              clear hs
              go_wp2
              go_roundw
              case rel => exact ⟨k + 1, by omega, by go_num, HO, hkk.out⟩
              case measure => simp [intOf]; omega
            · have HF := hid (firstNot_at hlt hok.out (okAt_ne hx.out hk0 hs))
              have t2 : ((vsAt vs (kids ps k)).sum != x) = true := by simp [hs]
              clear hs
              go_wp2
              go_ret; exact ⟨ret_int (by rw [HF.out]), k0.trans hkk.out⟩
    · obtain rfl : k = n := by omega
      have HF := hid (firstNot_all hok.out)
      go_wp2
      go_ret; exact ⟨ret_int (by rw [HF.out]), k0.trans hkeep⟩

def csF (ps vs : List Int) : Int × Bool := if geoB ps && smallB vs ps.length then (((firstNot (okAt ps vs) ps.length : Nat) : Int), true) else (0, false)
def iaF (ps vs : List Int) : Bool × Bool := if geoB ps && smallB vs ps.length then (firstNot (okAt ps vs) ps.length == ps.length, true) else (false, false)

set_option maxHeartbeats 800000 in
theorem impl_CheckSums_any {A A' : Option Addr} {l h l' h' n n' c c' : Nat} {ps vs : List Int} {w : World} (ha : Ints w l h A n ps) (hb : Ints w l' h' A' n' vs) :
    Calls Try.prog 65 #[.agg #[.slice A n c], .slice A' n' c'] w fun e w' => e = .returned (.tuple #[.int .i64 (csF ps vs).1, .bool (csF ps vs).2]) ∧ Keeps w w' := by
  have hn := ha.le
  have hn' := hb.le
  have hl := ha.1
  have hl' := hb.1
  have k0 := keeps_alloc w (.cells #[.slice A n c] 51)
  cases h1 : geoB ps with
  | false =>
    have HF := hid (show csF ps vs = (0, false) by simp [csF, h1])
    have H1 := hid h1
    clear h1
    go_enter Try.func65, Try.ntmps65
    go_wp2_with fail
    refine (IsGeo_any (ha.keeps k0)).mono ?_
    rintro e w1 ⟨rfl, k1⟩
    rw [H1.out]
    go_wp2_with fail
    go_ret2
    exact ⟨ret_ib (by rw [HF.out]) (by rw [HF.out]), k0.trans k1⟩
  | true =>
    have hg := (geoB_true.1 h1).2.1
    cases h2 : smallB vs n with
    | false =>
      have HF := hid (show csF ps vs = (0, false) by simp [csF, hl, h2])
      have H1 := hid h1
      have H2 := hid h2
      clear h1 h2 hg
      go_enter Try.func65, Try.ntmps65
      go_wp2_with fail
      refine (IsGeo_any (ha.keeps k0)).mono ?_
      rintro e w1 ⟨rfl, k1⟩
      rw [H1.out]
      have bx := box_keeps k1
      go_wp2_with fail
      refine (areSmallIntegers_any ((hb.keeps k0).keeps k1) hn).mono ?_
      rintro e w2 ⟨rfl, rfl⟩
      rw [H2.out]
      go_wp2_with fail
      go_ret2
      exact ⟨ret_ib (by rw [HF.out]) (by rw [HF.out]), k0.trans k1⟩
    | true =>
      have hn2 : n' = n := by simp [smallB] at h2; omega
      subst hn2
      have HF := hid (show csF ps vs = (((firstNot (okAt ps vs) n' : Nat) : Int), true) by simp [csF, hl, h1, h2])
      have H1 := hid h1
      have H2 := hid h2
      have HG := hid hg
      have HB := hid (smallB_bd h2)
      clear h1 h2 hg
      go_enter Try.func65, Try.ntmps65
      go_wp2_with fail
      refine (IsGeo_any (ha.keeps k0)).mono ?_
      rintro e w1 ⟨rfl, k1⟩
      rw [H1.out]
      have bx := box_keeps k1
      go_wp2_with fail
      refine (areSmallIntegers_any ((hb.keeps k0).keeps k1) hn).mono ?_
      rintro e w2 ⟨rfl, rfl⟩
      rw [H2.out]
      go_wp2_with fail
      refine (checkSums_any ((ha.keeps k0).keeps k1) ((hb.keeps k0).keeps k1) HG.out HB.out).mono ?_
      rintro e w2 ⟨rfl, k2⟩
      go_wp2_with fail
      go_ret2
      exact ⟨ret_ib (by rw [HF.out]) (by rw [HF.out]), (k0.trans k1).trans k2⟩

set_option maxHeartbeats 800000 in
theorem spec_CheckSums_any {A A' : Option Addr} {l h l' h' n n' c c' : Nat} {ps vs : List Int} {w : World} (ha : Ints w l h A n ps) (hb : Ints w l' h' A' n' vs) :
    Calls Try.prog 67 #[.agg #[.slice A n c], .slice A' n' c'] w fun e w' => e = .returned (.tuple #[.int .i64 (csF ps vs).1, .bool (csF ps vs).2]) ∧ Keeps w w' := by
  have hn := ha.le
  have hn' := hb.le
  have hl := ha.1
  have hl' := hb.1
  have k0 := keeps_alloc w (.cells #[.slice A n c] 51)
  cases h1 : geoB ps with
  | false =>
    have HF := hid (show csF ps vs = (0, false) by simp [csF, h1])
    have H1 := hid h1
    clear h1
    go_enter Try.func67, Try.ntmps67
    go_wp2_with fail
    refine (gGood_any (ha.keeps k0)).mono ?_
    rintro e w1 ⟨rfl, k1⟩
    rw [H1.out]
    go_wp2_with fail
    go_ret2
    exact ⟨ret_ib (by rw [HF.out]) (by rw [HF.out]), k0.trans k1⟩
  | true =>
    have hg := (geoB_true.1 h1).2.1
    by_cases hn2 : n' = n
    rotate_left
    · have HF := hid (show csF ps vs = (0, false) by simp [csF, smallB]; intros; omega)
      have H1 := hid h1
      have t1 : ((n' : Int) != (n : Int)) = true := by rw [bne_iff_ne]; omega
      clear h1 hg hn2
      go_enter Try.func67, Try.ntmps67
      go_wp2_with fail
      refine (gGood_any (ha.keeps k0)).mono ?_
      rintro e w1 ⟨rfl, k1⟩
      rw [H1.out]
      have bx := box_keeps k1
      go_wp2_with fail
      go_ret2
      exact ⟨ret_ib (by rw [HF.out]) (by rw [HF.out]), k0.trans k1⟩
    subst hn2
    have t1 : ((n' : Int) != (n' : Int)) = false := by simp
    cases h2 : within (-1000000) 1000000 vs with
    | false =>
      have HF := hid (show csF ps vs = (0, false) by simp [csF, smallB, h2])
      have H1 := hid h1
      have H2 := hid h2
      clear h1 h2 hg
      go_enter Try.func67, Try.ntmps67
      go_wp2_with fail
      refine (gGood_any (ha.keeps k0)).mono ?_
      rintro e w1 ⟨rfl, k1⟩
      rw [H1.out]
      have bx := box_keeps k1
      go_wp2_with fail
      refine (l1All_any _ _ _ _ _ _ _ _ _ ((hb.keeps k0).keeps k1)).mono ?_
      rintro e w2 ⟨rfl, rfl⟩
      rw [H2.out]
      go_wp2_with fail
      go_ret2
      exact ⟨ret_ib (by rw [HF.out]) (by rw [HF.out]), k0.trans k1⟩
    | true =>
      have HF := hid (show csF ps vs = (((firstNot (okAt ps vs) n' : Nat) : Int), true) by simp [csF, smallB, hl, hl', h1, h2])
      have H1 := hid h1
      have H2 := hid h2
      have HG := hid hg
      have HB := hid (within_bd h2 (B := 1000000) (by omega) (by omega) (by omega))
      clear h1 h2 hg
      go_enter Try.func67, Try.ntmps67
      go_wp2_with fail
      refine (gGood_any (ha.keeps k0)).mono ?_
      rintro e w1 ⟨rfl, k1⟩
      rw [H1.out]
      have bx := box_keeps k1
      go_wp2_with fail
      refine (l1All_any _ _ _ _ _ _ _ _ _ ((hb.keeps k0).keeps k1)).mono ?_
      rintro e w2 ⟨rfl, rfl⟩
      rw [H2.out]
      go_wp2_with fail
      refine (iCheck_any ((ha.keeps k0).keeps k1) ((hb.keeps k0).keeps k1) HG.out HB.out).mono ?_
      rintro e w2 ⟨rfl, k2⟩
      go_wp2_with fail
      go_ret2
      exact ⟨ret_ib (by rw [HF.out]) (by rw [HF.out]), (k0.trans k1).trans k2⟩
set_option maxHeartbeats 800000 in
theorem iValues_any {A A' : Option Addr} {l h l' h' n n' c c' : Nat} {ps vs : List Int} {w : World} (ha : Ints w l h A n ps) (hb : Ints w l' h' A' n' vs) :
    Calls Try.prog 153 #[.agg #[.slice A n c], .slice A' n' c'] w fun e w' => e = .returned (.bool (geoB ps && (decide (vs.length = ps.length) && within (-100000) 100000 vs))) ∧ Keeps w w' := by
  have hn := ha.le
  have hn' := hb.le
  have hl := ha.1
  have hl' := hb.1
  have k0 := keeps_alloc w (.cells #[.slice A n c] 51)
  cases h1 : geoB ps with
  | false =>
    have H1 := hid h1
    clear h1
    go_enter Try.func153, Try.ntmps153
    go_wp2_with fail
    refine (gGood_any (ha.keeps k0)).mono ?_
    rintro e w1 ⟨rfl, k1⟩
    rw [H1.out]
    go_wp2_with fail
    go_ret
    exact ⟨rfl, k0.trans k1⟩
  | true =>
    have H1 := hid h1
    clear h1
    by_cases hn2 : n' = n
    rotate_left
    · have HF := hid (show decide (vs.length = ps.length) = false by simp; omega)
      have t1 : ((n' : Int) == (n : Int)) = false := by rw [beq_eq_false_iff_ne]; omega
      clear hn2
      go_enter Try.func153, Try.ntmps153
      go_wp2_with fail
      refine (gGood_any (ha.keeps k0)).mono ?_
      rintro e w1 ⟨rfl, k1⟩
      rw [H1.out]
      have bx := box_keeps k1
      go_wp2_with fail
      go_ret
      exact ⟨ret_bool (by rw [HF.out]; rfl), k0.trans k1⟩
    subst hn2
    have HF := hid (show decide (vs.length = ps.length) = true by simp; omega)
    have t1 : ((n' : Int) == (n' : Int)) = true := by simp
    go_enter Try.func153, Try.ntmps153
    go_wp2_with fail
    refine (gGood_any (ha.keeps k0)).mono ?_
    rintro e w1 ⟨rfl, k1⟩
    rw [H1.out]
    have bx := box_keeps k1
    go_wp2_with fail
    refine (l1All_any _ _ _ _ _ _ _ _ _ ((hb.keeps k0).keeps k1)).mono ?_
    rintro e w2 ⟨rfl, rfl⟩
    go_wp2_with fail
    go_ret
    exact ⟨ret_bool (by rw [HF.out]; rfl), k0.trans k1⟩

end Go.Proofs.Ytkpliolafkdijaa
