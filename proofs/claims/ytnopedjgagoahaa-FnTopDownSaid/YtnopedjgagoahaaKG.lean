/- CheckSums and IsAdditiveWhole, of the reference and of the program; and the laws. -/
import Derived.Test.YtnopedjgagoahaaKB
namespace Go.Proofs.Ytnopedjgagoahaa
open Go.RowKit
set_option linter.unusedVariables false
set_option linter.unusedSimpArgs false

theorem ret_ib {a c : Int} {p q : Bool} (h1 : a = c) (h3 : p = q) : Ending.returned (.tuple #[.int .i64 a, .bool p]) = .returned (.tuple #[.int .i64 c, .bool q]) := by rw [h1, h3]
theorem ret_bs {a c : Bool} {p q : Bool} (h1 : a = c) (h3 : p = q) : Ending.returned (.tuple #[.bool a, .bool p]) = .returned (.tuple #[.bool c, .bool q]) := by rw [h1, h3]

/-- The elements of vs at the indices ks. -/
def vsAt (vs ks : List Int) : List Int := ks.map fun c => vs.getD c.toNat 0
theorem vsAt_len (vs ks : List Int) : (vsAt vs ks).length = ks.length := by simp [vsAt]
theorem vsAt_getD {vs ks : List Int} {m j : Nat} (hm : m < ks.length) (h : ks.getD m 0 = (j : Int)) : (vsAt vs ks).getD m 0 = vs.getD j 0 := by
  have h2 : ks[m] = (j : Int) := by simpa [List.getD, hm] using h
  simp [vsAt, List.getD, hm, h2]
theorem vsAt_bd {vs ks : List Int} {B : Int} (h : Bd B vs) (h0 : 0 ≤ B) : Bd B (vsAt vs ks) := by
  intro m
  by_cases hm : m < ks.length
  · have := h (ks[m]).toNat
    simpa [vsAt, List.getD, hm] using this
  · simp [vsAt, List.getD, List.getElem?_eq_none (Nat.le_of_not_lt hm)]; exact h0
def okAt (ps vs : List Int) (i : Nat) : Bool := decide ((kids ps i).length = 0) || ((vsAt vs (kids ps i)).sum == vs.getD i 0)
/-- The least number below n that p refuses, or n. -/
def firstNot (p : Nat → Bool) (n : Nat) : Nat := ((List.range n).find? fun i => !p i).getD n
theorem firstNot_at {p : Nat → Bool} {n k : Nat} (hk : k < n) (h : ∀ j, j < k → p j = true) (hp : p k = false) : firstNot p n = k := by
  unfold firstNot
  have : (List.range n).find? (fun i => !p i) = some k := by
    rw [List.find?_range_eq_some]
    exact ⟨by simp [hp], by simpa using hk, fun j hj => by simp [h j hj]⟩
  rw [this]; rfl
theorem firstNot_all {p : Nat → Bool} {n : Nat} (h : ∀ j, j < n → p j = true) : firstNot p n = n := by
  unfold firstNot
  have : (List.range n).find? (fun i => !p i) = none := by
    rw [List.find?_eq_none]
    intro j hj
    simp [h j (by simpa using hj)]
  rw [this]; rfl
theorem firstNot_le (p : Nat → Bool) (n : Nat) : firstNot p n ≤ n := by
  unfold firstNot
  cases h : (List.range n).find? (fun i => !p i) with
  | none => exact Nat.le_refl _
  | some k => have := List.mem_of_find?_eq_some h; simp at this; simp; omega
def OkToS (ps vs : List Int) (k : Nat) : Prop := ∀ j, j < k → okAt ps vs j = true
theorem okToS_succ {ps vs : List Int} {k : Nat} (h : OkToS ps vs k) (h1 : okAt ps vs k = true) : OkToS ps vs (k + 1) := by
  intro j hj
  by_cases hjk : j = k
  · subst hjk; exact h1
  · exact h j (by omega)
theorem okAt_none {ps vs : List Int} {k : Nat} (h : (kids ps k).length = 0) : okAt ps vs k = true := by simp [okAt, h]
theorem okAt_eq {ps vs : List Int} {k : Nat} {x : Int} (hx : x = vs.getD k 0) (h : (vsAt vs (kids ps k)).sum = x) : okAt ps vs k = true := by simp [okAt, h, hx]
theorem okAt_ne {ps vs : List Int} {k : Nat} {x : Int} (hx : x = vs.getD k 0) (h0 : ¬ (kids ps k).length = 0) (h : (vsAt vs (kids ps k)).sum ≠ x) : okAt ps vs k = false := by
  rw [hx] at h
  simp only [okAt, Bool.or_eq_false_iff, decide_eq_false_iff_not, beq_eq_false_iff_ne]
  exact ⟨h0, h⟩

def smallB (vs : List Int) (n : Nat) : Bool := decide (vs.length = n) && within (-1000000) 1000000 vs
theorem smallB_bd {vs : List Int} {n : Nat} (h : smallB vs n = true) : Bd 1000000 vs := by
  simp [smallB] at h
  exact within_bd h.2 (by omega) (by omega) (by omega)

set_option maxHeartbeats 400000 in
theorem areSmallIntegers_any {A : Option Addr} {l h n c m : Nat} {xs : List Int} {w : World} (ha : Ints w l h A n xs) (hm : m ≤ 67108864) :
    Calls Try.prog 125 #[.slice A n c, .int .i64 m] w fun e w' => e = .returned (.bool (smallB xs m)) ∧ w = w' := by
  have hn := ha.le
  have hl := ha.1
  by_cases hnm : n = m
  rotate_left
  · have HF := hid (show smallB xs m = false by simp [smallB]; intro; omega)
    have t1 : ((n : Int) != (m : Int)) = true := by rw [bne_iff_ne]; omega
    go_enter Try.func125, Try.ntmps125
    go_wp2
    go_ret
    exact ⟨ret_bool HF.out.symm, rfl⟩
  subst hnm
  have HF := hid (show smallB xs n = within (-1000000) 1000000 xs by simp [smallB, hl])
  have t1 : ((n : Int) != (n : Int)) = false := by simp
  go_enter Try.func125, Try.ntmps125
  go_wp2_with fail
  go_loop [13] (fun i => ∃ k : Nat, k ≤ n ∧ i = .int .i64 k ∧ Hid (Upto (-1000000) 1000000 xs k)) (fun i => n - (intOf i).toNat)
  case atStart => exact ⟨0, Nat.zero_le _, rfl, fun j hj => absurd hj (by omega)⟩
  case round =>
    obtain ⟨k, hk, rfl, HU⟩ := hrel
    by_cases hlt : k < n
    · obtain ⟨b, off, x, rfl, _, _, hc, hx⟩ := ha.at_ hlt
      by_cases h1 : -1000000 ≤ x
      · by_cases h2 : x ≤ 1000000
        · go_wp2
          go_round
          case rel => exact ⟨k + 1, by omega, by go_num, upto_succ HU.out hx.out h1 h2⟩
          case measure => simp [intOf]; omega
        · go_wp2
          go_ret
          exact ⟨ret_bool (by rw [HF.out]; exact (within_no (by omega) hx.out (.inr (by omega))).symm), rfl⟩
      · go_wp2
        go_ret
        exact ⟨ret_bool (by rw [HF.out]; exact (within_no (by omega) hx.out (.inl (by omega))).symm), rfl⟩
    · obtain rfl : k = n := by omega
      go_wp2
      go_ret
      exact ⟨ret_bool (by rw [HF.out]; exact (within_true.2 (by rw [hl]; exact HU.out)).symm), rfl⟩

set_option maxHeartbeats 2000000 in
theorem checkSums_any {A A' : Option Addr} {l h l' h' n c c' : Nat} {ps vs : List Int} {w : World} (ha : Ints w l h A n ps) (hb : Ints w l' h' A' n vs) (hg : ps.getD 0 0 = -1) (hbd : Bd 1000000 vs) :
    Calls Try.prog 130 #[.agg #[.slice A n c], .slice A' n c'] w fun e w' => e = .returned (.int .i64 (firstNot (okAt ps vs) n)) ∧ Keeps w w' := by
  have hn := ha.le
  have HB := hid hbd
  have HG := hid hg
  clear hbd hg
  have k0 := keeps_alloc w (.cells #[.slice A n c] 53)
  have ha0 := ha.keeps k0
  have hb0 := hb.keeps k0
  have bx0 := hid (cell_new w (.slice A n c) 53)
  clear ha hb
  go_enter Try.func130, Try.ntmps130
  go_wp2_with fail
  have bx0 := bx0.out
  go_loopw [13] (fun i wr => ∃ k : Nat, k ≤ n ∧ i = .int .i64 k ∧ Hid (OkToS ps vs k) ∧ Keeps (w.alloc (.cells #[.slice A n c] 53)) wr) (fun i _ => n - (intOf i).toNat)
  case atStart => exact ⟨0, Nat.zero_le _, rfl, fun j hj => absurd hj (by omega), keeps_refl _⟩
  case round =>
    obtain ⟨k, hk, rfl, hok, hkeep⟩ := hrel
    obtain ⟨wo, rfl⟩ : ∃ wo : World, wo = wr := ⟨_, rfl⟩
    by_cases hlt : k < n
    · obtain ⟨b, off, x, rfl, _, _, hx0, hx⟩ := (hb0.keeps hkeep).at_ hlt
      have bx := cell_keeps bx0 hkeep
      go_wp2_with fail
      refine (childrenOf_any (ha0.keeps hkeep) HG.out (by omega)).mono ?_
      rintro e w3 ⟨A2, c2, rfl, hm, hk1⟩
      have hx0 := cell_keeps hx0 hk1
      have hv := (hb0.keeps hkeep).keeps hk1
      have hkk := hid (hkeep.trans hk1)
      have hkl : (kids ps k).length ≤ n := by have := kidsTo_len ps k ps.length; have := ha0.1; unfold kids; omega
      clear hkeep hk1 bx
      go_wp2_with fail
      go_loop [8, 23] (fun s t => ∃ m : Nat, m ≤ (kids ps k).length ∧ t = .int .i64 m ∧ s = .int .i64 ((vsAt vs (kids ps k)).take m).sum) (fun _ t => (kids ps k).length - (intOf t).toNat)
      case atStart => exact ⟨0, Nat.zero_le _, rfl, by simp⟩
      case round =>
        obtain ⟨m, hm1, rfl, rfl⟩ := hrel
        by_cases hltm : m < (kids ps k).length
        · obtain ⟨b2, off2, y, rfl, _, _, hy0, hy⟩ := hm.1.at_ hltm
          obtain ⟨j, hj, hj0, hjn, _⟩ := kids_getD hltm
          obtain rfl : y = (j : Int) := hy.out.trans hj
          have := ha0.1
          obtain ⟨b3, off3, z, hA3, _, _, hz0, hz⟩ := hv.at_ (k := j) (by omega)
          obtain ⟨rfl, rfl⟩ : b = b3 ∧ off = off3 := by simpa using hA3
          clear hA3
          have hjn' : (j : Int) < (n : Int) := by omega
          have hs1 := sum_num (vsAt vs (kids ps k)) _ (vsAt_bd HB.out (by omega)) (by omega) m 67108864 (by rw [vsAt_len]; omega) (by omega)
          have hz1 := HB.out j
          rw [← hz.out] at hz1
          have HS := hid (take_sum_succ (vsAt vs (kids ps k)) m (by rw [vsAt_len]; omega))
          rw [vsAt_getD hltm hj, ← hz.out] at HS
          generalize ((vsAt vs (kids ps k)).take m).sum = s at *
          clear hj this
          go_wp2
          go_round
          case rel => exact ⟨m + 1, by omega, by go_num, by rw [HS.out]⟩
          case measure => simp [intOf]; omega
        · obtain rfl : m = (kids ps k).length := by omega
          have HE := hid (show (vsAt vs (kids ps k)).take (kids ps k).length = vsAt vs (kids ps k) from List.take_of_length_le (by rw [vsAt_len]; omega))
          rw [HE.out]
          by_cases hk0 : (kids ps k).length = 0
          · have t1 : ¬ (0 : Int) < ((kids ps k).length : Int) := by omega
            have HO := hid (okToS_succ hok.out (okAt_none hk0))
            clear hk0
            go_wp2
            go_roundw
            case rel => exact ⟨k + 1, by omega, by go_num, HO, hkk.out⟩
            case measure => simp [intOf]; omega
          · have t1 : (0 : Int) < ((kids ps k).length : Int) := by omega
            by_cases hs : (vsAt vs (kids ps k)).sum = x
            · have HO := hid (okToS_succ hok.out (okAt_eq hx.out hs))
              have t2 : ((vsAt vs (kids ps k)).sum != x) = false := by simp [hs]
              clear hs
              go_wp2
              go_roundw
              case rel => exact ⟨k + 1, by omega, by go_num, HO, hkk.out⟩
              case measure => simp [intOf]; omega
            · have HF := hid (firstNot_at hlt hok.out (okAt_ne hx.out hk0 hs))
              have t2 : ((vsAt vs (kids ps k)).sum != x) = true := by simp [hs]
              clear hs
              go_wp2
              go_ret; exact ⟨ret_int (by rw [HF.out]), k0.trans hkk.out⟩
    · obtain rfl : k = n := by omega
      have HF := hid (firstNot_all hok.out)
      go_wp2
      go_ret; exact ⟨ret_int (by rw [HF.out]), k0.trans hkeep⟩

def csF (ps vs : List Int) : Int × Bool := if geoB ps && smallB vs ps.length then (((firstNot (okAt ps vs) ps.length : Nat) : Int), true) else (0, false)
def iaF (ps vs : List Int) : Bool × Bool := if geoB ps && smallB vs ps.length then (firstNot (okAt ps vs) ps.length == ps.length, true) else (false, false)

set_option maxHeartbeats 800000 in
theorem wInts_any {A A' : Option Addr} {l h l' h' n n' c c' : Nat} {ps vs : List Int} {w : World} (ha : Ints w l h A n ps) (hb : Ints w l' h' A' n' vs) :
    Calls Try.prog 127 #[.agg #[.slice A n c], .slice A' n' c'] w fun e w' => e = .returned (.bool (geoB ps && (decide (vs.length = ps.length) && within (-1000000) 1000000 vs))) ∧ Keeps w w' := by
  have hn := ha.le
  have hn' := hb.le
  have hl := ha.1
  have hl' := hb.1
  have k0 := keeps_alloc w (.cells #[.slice A n c] 53)
  cases h1 : geoB ps with
  | false =>
    have H1 := hid h1
    clear h1
    go_enter Try.func127, Try.ntmps127
    go_wp2_with fail
    refine (gGood_any (ha.keeps k0)).mono ?_
    rintro e w1 ⟨rfl, k1⟩
    rw [H1.out]
    go_wp2_with fail
    go_ret
    exact ⟨rfl, k0.trans k1⟩
  | true =>
    have H1 := hid h1
    clear h1
    by_cases hn2 : n' = n
    rotate_left
    · have HF := hid (show decide (vs.length = ps.length) = false by simp; omega)
      have t1 : ((n' : Int) == (n : Int)) = false := by rw [beq_eq_false_iff_ne]; omega
      clear hn2
      go_enter Try.func127, Try.ntmps127
      go_wp2_with fail
      refine (gGood_any (ha.keeps k0)).mono ?_
      rintro e w1 ⟨rfl, k1⟩
      rw [H1.out]
      have bx := box_keeps k1
      go_wp2_with fail
      go_ret
      exact ⟨ret_bool (by rw [HF.out]; rfl), k0.trans k1⟩
    subst hn2
    have HF := hid (show decide (vs.length = ps.length) = true by simp; omega)
    have t1 : ((n' : Int) == (n' : Int)) = true := by simp
    go_enter Try.func127, Try.ntmps127
    go_wp2_with fail
    refine (gGood_any (ha.keeps k0)).mono ?_
    rintro e w1 ⟨rfl, k1⟩
    rw [H1.out]
    have bx := box_keeps k1
    go_wp2_with fail
    refine (l1All_any _ _ _ _ _ _ _ _ _ ((hb.keeps k0).keeps k1)).mono ?_
    rintro e w2 ⟨rfl, rfl⟩
    go_wp2_with fail
    go_ret
    exact ⟨ret_bool (by rw [HF.out]; rfl), k0.trans k1⟩
set_option maxHeartbeats 800000 in
theorem impl_IsAdditiveWhole_any {A A' : Option Addr} {l h l' h' n n' c c' : Nat} {ps vs : List Int} {w : World} (ha : Ints w l h A n ps) (hb : Ints w l' h' A' n' vs) :
    Calls Try.prog 43 #[.agg #[.slice A n c], .slice A' n' c'] w fun e w' => e = .returned (.tuple #[.bool (iaF ps vs).1, .bool (iaF ps vs).2]) ∧ Keeps w w' := by
  have hn := ha.le
  have hn' := hb.le
  have hl := ha.1
  have hl' := hb.1
  have k0 := keeps_alloc w (.cells #[.slice A n c] 53)
  cases h1 : geoB ps with
  | false =>
    have HF := hid (show iaF ps vs = (false, false) by simp [iaF, h1])
    have H1 := hid h1
    clear h1
    go_enter Try.func43, Try.ntmps43
    go_wp2_with fail
    refine (IsGeo_any (ha.keeps k0)).mono ?_
    rintro e w1 ⟨rfl, k1⟩
    rw [H1.out]
    go_wp2_with fail
    go_ret2
    exact ⟨ret_bs (by rw [HF.out]) (by rw [HF.out]), k0.trans k1⟩
  | true =>
    have hg := (geoB_true.1 h1).2.1
    cases h2 : smallB vs n with
    | false =>
      have HF := hid (show iaF ps vs = (false, false) by simp [iaF, hl, h2])
      have H1 := hid h1
      have H2 := hid h2
      clear h1 h2 hg
      go_enter Try.func43, Try.ntmps43
      go_wp2_with fail
      refine (IsGeo_any (ha.keeps k0)).mono ?_
      rintro e w1 ⟨rfl, k1⟩
      rw [H1.out]
      have bx := box_keeps k1
      go_wp2_with fail
      refine (areSmallIntegers_any ((hb.keeps k0).keeps k1) hn).mono ?_
      rintro e w2 ⟨rfl, rfl⟩
      rw [H2.out]
      go_wp2_with fail
      go_ret2
      exact ⟨ret_bs (by rw [HF.out]) (by rw [HF.out]), k0.trans k1⟩
    | true =>
      have hn2 : n' = n := by simp [smallB] at h2; omega
      subst hn2
      obtain ⟨f, HN⟩ : ∃ f, Hid (firstNot (okAt ps vs) n' = f) := ⟨_, rfl⟩
      have HF := hid (show iaF ps vs = (f == n', true) by simp [iaF, hl, h1, h2, HN.out])
      have H1 := hid h1
      have H2 := hid h2
      have HG := hid hg
      have HB := hid (smallB_bd h2)
      have HT := hid (show ((f : Int) == (n' : Int)) = (f == n') by rw [Bool.eq_iff_iff]; simp; omega)
      clear h1 h2 hg
      go_enter Try.func43, Try.ntmps43
      go_wp2_with fail
      refine (IsGeo_any (ha.keeps k0)).mono ?_
      rintro e w1 ⟨rfl, k1⟩
      rw [H1.out]
      have bx := box_keeps k1
      go_wp2_with fail
      refine (areSmallIntegers_any ((hb.keeps k0).keeps k1) hn).mono ?_
      rintro e w2 ⟨rfl, rfl⟩
      rw [H2.out]
      go_wp2_with fail
      refine (checkSums_any ((ha.keeps k0).keeps k1) ((hb.keeps k0).keeps k1) HG.out HB.out).mono ?_
      rintro e w2 ⟨rfl, k2⟩
      rw [HN.out]
      go_wp2_with fail
      go_ret2
      exact ⟨ret_bs (by rw [HF.out, HT.out]) (by rw [HF.out]), (k0.trans k1).trans k2⟩


end Go.Proofs.Ytnopedjgagoahaa

/- Children of areas by number; numbers handed down from parents to children. Plain lemmas, no walk. -/
namespace Go.Proofs.Ytnopedjgagoahaa
open Go.RowKit
set_option linter.unusedVariables false
set_option linter.unusedSimpArgs false

def kid (ps : List Int) (i m : Nat) : Nat := ((kids ps i).getD m 0).toNat
theorem kid_cast {ps : List Int} {i m : Nat} (hm : m < (kids ps i).length) : ((kid ps i m : Nat) : Int) = (kids ps i).getD m 0 := by
  obtain ⟨j, e, _⟩ := kids_getD hm
  unfold kid; rw [e, Int.toNat_natCast]
theorem kid_lt {ps : List Int} {i m : Nat} (hg : geoB ps = true) (hm : m < (kids ps i).length) : i < kid ps i m ∧ kid ps i m < ps.length ∧ ps.getD (kid ps i m) 0 = i := by
  obtain ⟨j, e, h0, hj, hp⟩ := kids_getD hm
  have := (geoB_true.1 hg).2.2 j hj h0
  unfold kid
  rw [e, Int.toNat_natCast]
  exact ⟨by omega, hj, hp⟩
theorem kids_has {ps : List Int} {i j : Nat} (h0 : 0 < j) (hj : j < ps.length) (hp : ps.getD j 0 = i) : ∃ m, m < (kids ps i).length ∧ kid ps i m = j := by
  have hm : (j : Int) ∈ kids ps i := by
    unfold kids kidsTo
    refine List.mem_map.2 ⟨j, List.mem_filter.2 ⟨List.mem_range.2 hj, ?_⟩, rfl⟩
    unfold isKid; rw [hp]; simp [h0]
  obtain ⟨m, hm1, hm2⟩ := List.getElem_of_mem hm
  refine ⟨m, hm1, ?_⟩
  unfold kid
  simp only [List.getD, List.getElem?_eq_getElem hm1, Option.getD_some, hm2, Int.toNat_natCast]
theorem kids_rising (ps : List Int) (i : Int) : (kids ps i).Pairwise (· < ·) := by
  unfold kids kidsTo
  rw [List.pairwise_map]
  exact (List.pairwise_lt_range.filter _).imp (fun h => by omega)
theorem kid_mono {ps : List Int} {i p q : Nat} (hq : q < (kids ps i).length) (h : p < q) : kid ps i p < kid ps i q := by
  have h1 := List.pairwise_iff_getElem.1 (kids_rising ps i) p q (by omega) hq h
  have e1 := kid_cast (ps := ps) (i := i) (m := p) (by omega)
  have e2 := kid_cast hq
  have g1 : (kids ps i).getD p 0 = (kids ps i)[p]'(by omega) := by simp [List.getD, show p < (kids ps i).length by omega]
  have g2 : (kids ps i).getD q 0 = (kids ps i)[q] := by simp [List.getD, hq]
  omega
theorem kid_inj {ps : List Int} {i p q : Nat} (hp : p < (kids ps i).length) (hq : q < (kids ps i).length) (h : kid ps i p = kid ps i q) : p = q := by
  rcases Nat.lt_trichotomy p q with h1 | h1 | h1
  · have := kid_mono hq h1; omega
  · exact h1
  · have := kid_mono hp h1; omega
theorem getD_setI (x : List Int) (i j : Nat) (v : Int) : (x.set i v).getD j 0 = if i = j ∧ j < x.length then v else x.getD j 0 := by
  simp only [List.getD, List.getElem?_set]
  by_cases h : i = j
  · subst h
    by_cases h2 : i < x.length
    · simp [h2]
    · simp [h2]
  · simp [h]
/-- The first m children of ks get the numbers ys. -/
def putK (x ks ys : List Int) : Nat → List Int
  | 0 => x
  | m + 1 => (putK x ks ys m).set (ks.getD m 0).toNat (ys.getD m 0)
theorem putK_len (x ks ys : List Int) (m : Nat) : (putK x ks ys m).length = x.length := by
  induction m with
  | zero => rfl
  | succ m ih => simp [putK, ih]
theorem putK_at {ps x ys : List Int} {i : Nat} (hg : geoB ps = true) (hl : x.length = ps.length) : ∀ m, m ≤ (kids ps i).length →
    (∀ j, (∀ q, q < m → kid ps i q ≠ j) → (putK x (kids ps i) ys m).getD j 0 = x.getD j 0) ∧ ∀ q, q < m → (putK x (kids ps i) ys m).getD (kid ps i q) 0 = ys.getD q 0
  | 0, _ => ⟨fun j _ => rfl, fun q hq => absurd hq (by omega)⟩
  | m + 1, hm => by
    obtain ⟨h1, h2⟩ := putK_at (i := i) (ys := ys) hg hl m (by omega)
    have hk := kid_lt hg (show m < (kids ps i).length by omega)
    have hlen := putK_len x (kids ps i) ys m
    refine ⟨fun j hj => ?_, fun q hq => ?_⟩
    · show ((putK x (kids ps i) ys m).set (kid ps i m) (ys.getD m 0)).getD j 0 = _
      rw [getD_setI, if_neg (fun h => hj m (by omega) h.1)]
      exact h1 j fun q hq => hj q (by omega)
    · show ((putK x (kids ps i) ys m).set (kid ps i m) (ys.getD m 0)).getD (kid ps i q) 0 = _
      rw [getD_setI]
      by_cases hqm : q = m
      · subst hqm; rw [if_pos ⟨rfl, by omega⟩]
      · rw [if_neg (fun h => hqm (kid_inj (ps := ps) (i := i) (p := q) (q := m) (by omega) (by omega) h.1.symm))]
        exact h2 q (by omega)
theorem vsAt_kid {ps vs : List Int} {i m : Nat} (hm : m < (kids ps i).length) : (vsAt vs (kids ps i)).getD m 0 = vs.getD (kid ps i m) 0 := vsAt_getD hm (kid_cast hm).symm
theorem ext_getD {x y : List Int} (hl : x.length = y.length) (h : ∀ m, m < x.length → x.getD m 0 = y.getD m 0) : x = y := by
  apply List.ext_getElem hl
  intro i h1 h2
  have := h i h1
  simpa [List.getD, h1, h2] using this
theorem vsAt_put {ps x ys : List Int} {i : Nat} (hg : geoB ps = true) (hl : x.length = ps.length) (hy : ys.length = (kids ps i).length) : vsAt (putK x (kids ps i) ys (kids ps i).length) (kids ps i) = ys := by
  refine ext_getD (by rw [vsAt_len, hy]) fun m hm => ?_
  rw [vsAt_len] at hm
  rw [vsAt_kid hm]
  exact (putK_at hg hl _ (Nat.le_refl _)).2 m hm
theorem vsAt_congr {ps x y : List Int} {i : Nat} (h : ∀ m, m < (kids ps i).length → x.getD (kid ps i m) 0 = y.getD (kid ps i m) 0) : vsAt x (kids ps i) = vsAt y (kids ps i) := by
  refine ext_getD (by rw [vsAt_len, vsAt_len]) fun m hm => ?_
  rw [vsAt_len] at hm
  rw [vsAt_kid hm, vsAt_kid hm]; exact h m hm
/-- Area k has handed its number down. -/
def HandK (ps x y : List Int) (k : Nat) : Prop :=
  ((kids ps k).length = 0 → y = x) ∧ (¬ (kids ps k).length = 0 → ∃ ys, ys.length = (kids ps k).length ∧ ys.sum = x.getD k 0 ∧ y = putK x (kids ps k) ys (kids ps k).length)
theorem HandK.keep {ps x y : List Int} {k : Nat} (hg : geoB ps = true) (hl : x.length = ps.length) (h : HandK ps x y k) : y.length = ps.length ∧ ∀ j, ps.getD j 0 ≠ (k : Int) → y.getD j 0 = x.getD j 0 := by
  by_cases hk : (kids ps k).length = 0
  · rw [h.1 hk]; exact ⟨hl, fun j _ => rfl⟩
  · obtain ⟨ys, h1, h2, rfl⟩ := h.2 hk
    exact ⟨by rw [putK_len, hl], fun j hj => (putK_at hg hl _ (Nat.le_refl _)).1 j fun q hq e => hj (by rw [← e]; exact (kid_lt hg hq).2.2)⟩
/-- The first k areas are the sums of their children; the root stays. -/
def HandTo (ps x : List Int) (root : Int) (k : Nat) : Prop := x.length = ps.length ∧ x.getD 0 0 = root ∧ ∀ i, i < k → okAt ps x i = true
theorem HandTo.step {ps x y : List Int} {root : Int} {k : Nat} (hg : geoB ps = true) (hk : k < ps.length) (h : HandTo ps x root k) (s : HandK ps x y k) : HandTo ps y root (k + 1) := by
  obtain ⟨h1, h2, h3⟩ := h
  obtain ⟨g1, g2⟩ := s.keep hg h1
  have hroot : ps.getD 0 0 = -1 := (geoB_true.1 hg).2.1
  refine ⟨g1, by rw [g2 0 (by rw [hroot]; omega)]; exact h2, fun i hi => ?_⟩
  have par : ∀ j, j ≤ k → ps.getD j 0 ≠ (k : Int) := fun j hj => by
    rcases Nat.eq_zero_or_pos j with h | h
    · subst h; rw [hroot]; omega
    · have := (geoB_true.1 hg).2.2 j (by omega) h; omega
  by_cases hik : i = k
  · subst hik
    by_cases hki : (kids ps i).length = 0
    · exact okAt_none hki
    · obtain ⟨ys, e1, e2, rfl⟩ := s.2 hki
      refine okAt_eq rfl ?_
      rw [vsAt_put hg h1 e1, e2, g2 i (par i (Nat.le_refl _))]
  · by_cases hki : (kids ps i).length = 0
    · exact okAt_none hki
    · have := h3 i (by omega)
      simp only [okAt, Bool.or_eq_true, decide_eq_true_eq, beq_iff_eq] at this
      refine okAt_eq rfl ?_
      rw [vsAt_congr (y := x) fun m hm => g2 _ (by rw [(kid_lt hg hm).2.2]; omega), g2 i (par i (by omega))]
      rcases this with h | h
      · exact absurd h hki
      · exact h
end Go.Proofs.Ytnopedjgagoahaa

