/- adjusted, of the program: the nearest integers within bounds that have a sum. -/
import Derived.Test.YtkpliolafkdijaaAdj0
namespace Go.Proofs.Ytkpliolafkdijaa
open Go.RowKit
set_option linter.unusedVariables false
set_option linter.unusedSimpArgs false

theorem clampL_low {vs lo hi : List Int} (hv : Bd 1000000 vs) (hl : Bd 1000000 lo) (ho : Ordered lo hi) (h1 : lo.length = vs.length) : clampL vs lo hi (-4000000) = lo := by
  apply List.ext_getElem
  · rw [clampL_len]; exact h1.symm
  · intro i a b
    rw [clampL_len] at a
    have := clampL_getD vs lo hi (-4000000) i a
    have h2 := hv i
    have h3 := hl i
    have h4 := ho i
    have e : (clampL vs lo hi (-4000000)).getD i 0 = lo.getD i 0 := by rw [this]; omega
    simpa [List.getD, a, b, clampL_len] using e
theorem clampL_high {vs lo hi : List Int} (hv : Bd 1000000 vs) (hl : Bd 1000000 hi) (ho : Ordered lo hi) (h1 : hi.length = vs.length) : clampL vs lo hi 4000000 = hi := by
  apply List.ext_getElem
  · rw [clampL_len]; exact h1.symm
  · intro i a b
    rw [clampL_len] at a
    have := clampL_getD vs lo hi 4000000 i a
    have h2 := hv i
    have h3 := hl i
    have h4 := ho i
    have e : (clampL vs lo hi 4000000).getD i 0 = hi.getD i 0 := by rw [this]; omega
    simpa [List.getD, a, b, clampL_len] using e
theorem clampL_bd {vs lo hi : List Int} {b : Int} (hl : Bd 1000000 lo) (hh : Bd 1000000 hi) (ho : Ordered lo hi) : Bd 1000000 (clampL vs lo hi b) := by
  intro i
  by_cases hi' : i < vs.length
  · rw [clampL_getD _ _ _ _ _ hi']
    have h2 := hh i
    have h3 := hl i
    have h4 := ho i
    omega
  · simp [List.getD, List.getElem?_eq_none (show (clampL vs lo hi b).length ≤ i by rw [clampL_len]; omega)]

/-- Of the elements at level b the first k have been looked at, m units are still to be given. -/
def Stage (n : Nat) (v lo hi : Nat → Int) (b t : Int) (x : Nat → Int) (k : Nat) (m : Int) : Prop :=
  (∀ i, k ≤ i → i < n → x i = cl v lo hi b i) ∧ (∀ i, i < k → i < n → x i = cl v lo hi b i ∨ (x i = v i + b + 1 ∧ lo i ≤ v i + b ∧ v i + b < hi i)) ∧
  (∀ i j, i < j → j < k → j < n → x j = v j + b + 1 → lo j ≤ v j + b → v j + b < hi j → lo i ≤ v i + b → v i + b < hi i → x i = v i + b + 1) ∧
  (0 < m → ∀ i, i < k → i < n → lo i ≤ v i + b → v i + b < hi i → x i = v i + b + 1) ∧ sumTo x n + m = t ∧ 0 ≤ m
section
variable {n : Nat} {v lo hi x x' : Nat → Int} {b t m : Int} {k : Nat}
theorem sumTo_set {x x' : Nat → Int} {k : Nat} (h1 : x' k = x k + 1) (h2 : ∀ i, i ≠ k → x' i = x i) : ∀ n, sumTo x' n = sumTo x n + (if k < n then 1 else 0) := by
  intro n
  induction n with
  | zero => simp [sumTo]
  | succ n ih =>
    simp only [sumTo]
    rw [ih]
    by_cases hn : n = k
    · subst hn; rw [h1, if_neg (by omega), if_pos (by omega)]; omega
    · rw [h2 n hn]
      by_cases hk : k < n
      · rw [if_pos hk, if_pos (by omega)]; omega
      · rw [if_neg hk, if_neg (by omega)]; omega
theorem stage_skip (h : Stage n v lo hi b t x k m) (hk : k < n) (hle : lo k ≤ hi k) (hno : 0 < m → cl v lo hi (b + 1) k ≤ x k) : Stage n v lo hi b t x (k + 1) m := by
  obtain ⟨h1, h2, h3, h4, h5, h6⟩ := h
  have hk1 := h1 k (Nat.le_refl _) hk
  refine ⟨fun i hi hn => h1 i (by omega) hn, fun i hi hn => ?_, fun i j hij hj hjn a b' c d e => ?_, fun hm i hi hn a b' => ?_, h5, h6⟩
  · by_cases hik : i = k
    · subst hik; exact .inl hk1
    · exact h2 i (by omega) hn
  · by_cases hjk : j = k
    · subst hjk; unfold cl at hk1; omega
    · exact h3 i j hij (by omega) hjn a b' c d e
  · by_cases hik : i = k
    · subst hik; have := hno hm; unfold cl at *; omega
    · exact h4 hm i (by omega) hn a b'
theorem stage_take (h : Stage n v lo hi b t x k m) (hk : k < n) (hm : 0 < m) (hyes : x k < cl v lo hi (b + 1) k) (hle : lo k ≤ hi k) (e1 : x' k = x k + 1) (e2 : ∀ i, i ≠ k → x' i = x i) : Stage n v lo hi b t x' (k + 1) (m - 1) := by
  obtain ⟨h1, h2, h3, h4, h5, h6⟩ := h
  have hk1 := h1 k (Nat.le_refl _) hk
  have hel : lo k ≤ v k + b ∧ v k + b < hi k ∧ x k = v k + b := by unfold cl at *; omega
  refine ⟨fun i hi hn => by rw [e2 i (by omega)]; exact h1 i (by omega) hn, fun i hi hn => ?_, fun i j hij hj hjn a b' c d e => ?_, fun hm' i hi hn a b' => ?_, ?_, by omega⟩
  · by_cases hik : i = k
    · subst hik; right; omega
    · rw [e2 i hik]; exact h2 i (by omega) hn
  · rw [e2 i (by omega)]
    exact h4 hm i (by omega) (by omega) d e
  · by_cases hik : i = k
    · subst hik; omega
    · rw [e2 i hik]; exact h4 hm i (by omega) hn a b'
  · rw [sumTo_set e1 e2 n, if_pos hk]; omega
theorem stage_start (hx : ∀ i, i < n → x i = cl v lo hi b i) (hm : sumTo x n + m = t) (h0 : 0 ≤ m) : Stage n v lo hi b t x 0 m :=
  ⟨fun i _ hn => hx i hn, fun i hi => absurd hi (by omega), fun i j hij hj => absurd hj (by omega), fun _ i hi => absurd hi (by omega), hm, h0⟩
theorem stage_end (h : Stage n v lo hi b t x n m) (hle : ∀ i, i < n → lo i ≤ hi i) (hs : t ≤ sumTo (cl v lo hi (b + 1)) n) : At n v lo hi b x ∧ sumTo x n = t := by
  obtain ⟨h1, h2, h3, h4, h5, h6⟩ := h
  have hm : m = 0 := by
    rcases Int.lt_or_le 0 m with hm | hm
    · have : sumTo x n = sumTo (cl v lo hi (b + 1)) n := sumTo_congr fun i hi' => by
        have := hle i hi'
        by_cases he : lo i ≤ v i + b ∧ v i + b < hi i
        · have := h4 hm i hi' hi' he.1 he.2
          unfold cl; omega
        · rcases h2 i hi' hi' with e | e
          · unfold cl at *; omega
          · omega
      omega
    · omega
  exact ⟨⟨fun i hi' => h2 i hi' hi', fun i k hik hk a b' c d e => h3 i k hik hk hk a b' c d e⟩, by omega⟩
end

theorem adjusted_none {A A1 A2 : Option Addr} {l h l1 h1 l2 h2 n c c1 c2 : Nat} {vs lo hi : List Int} {t : Int} {w : World} (hb : Ints w l1 h1 A1 n lo) (hc : Ints w l2 h2 A2 n hi)
    (bl : Bd 1000000 lo) (bh : Bd 1000000 hi) (ht : t < lo.sum ∨ hi.sum < t) :
    Calls Try.prog 131 #[.slice A n c, .slice A1 n c1, .slice A2 n c2, .int .i64 t] w fun e w' => e = .returned (.slice none 0 0) ∧ w = w' := by
  have BL := hid (bl.mono (B' := 10000000000) (by omega))
  have BH := hid (bh.mono (B' := 10000000000) (by omega))
  clear bl bh
  by_cases h1 : t < lo.sum
  · go_enter Try.func131, Try.ntmps131
    go_wp2_with fail
    refine (total_any _ _ _ _ _ _ _ hb BL.out).mono ?_
    rintro e w' ⟨rfl, rfl⟩
    go_wp2_with fail
    go_ret
    exact ⟨rfl, rfl⟩
  · have h2 : hi.sum < t := by omega
    go_enter Try.func131, Try.ntmps131
    go_wp2_with fail
    refine (total_any _ _ _ _ _ _ _ hb BL.out).mono ?_
    rintro e w' ⟨rfl, rfl⟩
    go_wp2_with fail
    refine (total_any _ _ _ _ _ _ _ hc BH.out).mono ?_
    rintro e w' ⟨rfl, rfl⟩
    go_wp2_with fail
    go_ret
    exact ⟨rfl, rfl⟩
set_option maxHeartbeats 2000000 in
theorem adjusted_any {A A1 A2 : Option Addr} {l h l1 h1 l2 h2 n c c1 c2 : Nat} {vs lo hi : List Int} {t : Int} {w : World} (ha : Ints w l h A n vs) (hb : Ints w l1 h1 A1 n lo) (hc : Ints w l2 h2 A2 n hi)
    (bv : Bd 1000000 vs) (bl : Bd 1000000 lo) (bh : Bd 1000000 hi) (ho : Ordered lo hi) (ht : lo.sum ≤ t) (ht2 : t ≤ hi.sum) :
    Calls Try.prog 131 #[.slice A n c, .slice A1 n c1, .slice A2 n c2, .int .i64 t] w fun e w' => ∃ A' xs, e = .returned (.slice A' n n) ∧ Mine w' w.heap.size w'.heap.size A' n xs ∧ IsAdj vs lo hi t xs ∧ Keeps w w' := by
  have hn := ha.le
  have hl := ha.1
  have hl1 := hb.1
  have hl2 := hc.1
  have hsl := sum_num lo _ bl (by omega) lo.length 67108864 (Nat.le_refl _) (by omega)
  have hsh := sum_num hi _ bh (by omega) hi.length 67108864 (Nat.le_refl _) (by omega)
  rw [List.take_length] at hsl hsh
  have BV := hid bv
  have BL := hid bl
  have BH := hid bh
  have HO := hid ho
  have C1 := hid (clampL_low bv bl ho (by omega))
  have C2 := hid (clampL_high bv bh ho (by omega))
  have tb1 : -67108864000000 ≤ t := by omega
  have tb2 : t ≤ 67108864000000 := by omega
  have g1 : ¬ t < lo.sum := by omega
  have g2 : ¬ hi.sum < t := by omega
  clear bv bl bh ho
  go_enter Try.func131, Try.ntmps131
  go_wp2_with fail
  refine (total_any _ _ _ _ _ _ _ hb (BL.out.mono (by omega))).mono ?_
  rintro e w' ⟨rfl, rfl⟩
  go_wp2_with fail
  refine (total_any _ _ _ _ _ _ _ hc (BH.out.mono (by omega))).mono ?_
  rintro e w' ⟨rfl, rfl⟩
  go_wp2_with fail
  clear g1 g2
  go_loopw [9, 10] (fun p q wr => ∃ b a : Int, p = .int .i64 b ∧ q = .int .i64 a ∧ -4000000 ≤ b ∧ b < a ∧ a ≤ 4000000 ∧ Hid ((clampL vs lo hi b).sum ≤ t ∧ t ≤ (clampL vs lo hi a).sum) ∧ Keeps w wr) (fun p q _ => (intOf q - intOf p).toNat)
  case atStart => exact ⟨_, _, rfl, rfl, by omega, by omega, by omega, by unfold Hid; rw [C1.out, C2.out]; exact ⟨ht, ht2⟩, keeps_refl _⟩
  case round =>
    obtain ⟨b, a, rfl, rfl, hb1, hba, ha1, hS, hkeep⟩ := hrel
    by_cases hgo : 1 < a - b
    · go_wp2_with fail
      refine (shifted_any _ _ _ _ _ _ _ _ _ _ _ _ _ _ _ _ _ _ (ha.keeps hkeep) (hb.keeps hkeep) (hc.keeps hkeep) (BV.out.mono (by omega)) (by omega) (by omega)).mono ?_
      rintro e w1 ⟨A3, rfl, m3, k3⟩
      go_wp2_with fail
      refine (total_any _ _ _ _ _ _ _ m3.1 ((clampL_bd BL.out BH.out HO.out).mono (by omega))).mono ?_
      rintro e w2 ⟨rfl, rfl⟩
      obtain ⟨S, HS⟩ : ∃ S, Hid ((clampL vs lo hi (b + (a - b) / 2)).sum = S) := ⟨_, rfl⟩
      rw [HS.out]
      have hk := hid (hkeep.trans k3)
      clear m3 k3 hkeep
      by_cases hle : S ≤ t
      · have HS2 := hid (show (clampL vs lo hi (b + (a - b) / 2)).sum ≤ t ∧ t ≤ (clampL vs lo hi a).sum by rw [HS.out]; exact ⟨hle, hS.out.2⟩)
        go_wp2
        go_roundw
        case rel => exact ⟨_, a, rfl, rfl, by omega, by omega, ha1, HS2, hk.out⟩
        case measure => simp [intOf]; omega
      · have HS2 := hid (show (clampL vs lo hi b).sum ≤ t ∧ t ≤ (clampL vs lo hi (b + (a - b) / 2)).sum by rw [HS.out]; exact ⟨hS.out.1, by omega⟩)
        go_wp2
        go_roundw
        case rel => exact ⟨b, _, rfl, rfl, hb1, by omega, by omega, HS2, hk.out⟩
        case measure => simp [intOf]; omega
    · obtain rfl : a = b + 1 := by omega
      obtain ⟨wo, rfl⟩ : ∃ wo : World, wo = wr := ⟨_, rfl⟩
      go_wp2_with fail
      refine (shifted_any _ _ _ _ _ _ _ _ _ _ _ _ _ _ _ _ _ _ (ha.keeps hkeep) (hb.keeps hkeep) (hc.keeps hkeep) (BV.out.mono (by omega)) (by omega) (by omega)).mono ?_
      rintro e w1 ⟨A3, rfl, m3, k3⟩
      go_wp2_with fail
      refine (shifted_any _ _ _ _ _ _ _ _ _ _ _ _ _ _ _ _ _ _ ((ha.keeps hkeep).keeps k3) ((hb.keeps hkeep).keeps k3) ((hc.keeps hkeep).keeps k3) (BV.out.mono (by omega)) (by omega) (by omega)).mono ?_
      rintro e w2 ⟨A4, rfl, m4, k4⟩
      have m3' := m3.keeps k4
      have s0 := hkeep.size
      have s3 := k3.size
      have s4 := k4.size
      have hbel : Below w.heap.size w w2 := (hkeep.trans k3).trans k4
      clear ha hb hc hkeep k3 k4 m3
      go_wp2_with fail
      refine (total_any _ _ _ _ _ _ _ m3'.1 ((clampL_bd BL.out BH.out HO.out).mono (by omega))).mono ?_
      rintro e w3 ⟨rfl, rfl⟩
      have hsb := sum_num (clampL vs lo hi b) _ (clampL_bd BL.out BH.out HO.out) (by omega) n 67108864 (by rw [clampL_len]; omega) (by omega)
      rw [List.take_of_length_le (by rw [clampL_len]; omega)] at hsb
      have hm0 := hS.out.1
      have HST := hid (stage_start (n := n) (v := fn vs) (lo := fn lo) (hi := fn hi) (b := b) (t := t) (x := fn (clampL vs lo hi b)) (m := t - (clampL vs lo hi b).sum)
        (fun i hi' => clampL_cl _ _ _ _ _ (by omega)) (by have := sumTo_list (clampL vs lo hi b); rw [clampL_len, hl] at this; omega) (by omega))
      obtain ⟨M, HM⟩ : ∃ M, Hid (t - (clampL vs lo hi b).sum = M) := ⟨_, rfl⟩
      rw [HM.out] at HST
      have hMb : 0 ≤ M ∧ M ≤ 140000000000000 := by have := HM.out; omega
      have hnx : t ≤ sumTo (cl (fn vs) (fn lo) (fn hi) (b + 1)) n := by
        have := clampL_sum vs lo hi (b + 1); rw [hl] at this; rw [← this]; exact hS.out.2
      have HNX := hid hnx
      clear hnx hm0
      generalize (clampL vs lo hi b).sum = S0 at *
      go_wp2_with fail
      rw [HM.out]
      clear HM hsb
      obtain ⟨wo2, rfl⟩ : ∃ wo2 : World, wo2 = w2 := ⟨_, rfl⟩
      go_loopw [14, 63] (fun p i wr => ∃ (k : Nat) (m : Int) (xs : List Int), k ≤ n ∧ i = .int .i64 k ∧ p = .int .i64 m ∧ 0 ≤ m ∧ m ≤ 140000000000000 ∧ Mine wr wo.heap.size w1.heap.size A3 n xs ∧ Hid (Stage n (fn vs) (fn lo) (fn hi) b t (fn xs) k m) ∧ Fr wo.heap.size w1.heap.size wo2 wr) (fun _ i _ => n - (intOf i).toNat)
      case atStart => exact ⟨0, M, _, Nat.zero_le _, rfl, rfl, hMb.1, hMb.2, m3', HST, Fr.refl _ _ _⟩
      case round =>
        obtain ⟨k, m, xs, hk, rfl, rfl, hm0, hm1, hx, hst, hfr⟩ := hrel
        by_cases hlt : k < n
        · obtain ⟨b1, off1, x, rfl, _, hb1', hx1, hx1'⟩ := hx.1.at_ hlt
          obtain ⟨b2, off2, y, rfl, _, hb2', hy1, hy1'⟩ := (m4.1.fr hfr (by omega)).at_ hlt
          rw [clampL_getD _ _ _ _ _ (by omega)] at hy1'
          have hfz := hx.2 b1 off1 rfl k hlt
          have hlek := HO.out k
          by_cases hm : 0 < m
          · by_cases hxy : x < y
            · have HS2 := hid (stage_take (x' := fn (xs.set k (x + 1))) hst.out hlt hm (by unfold cl fn; have := hx1'.out; have := hy1'.out; omega) hlek (by simp [fn, List.getD, show k < xs.length by have := hx.1.1; omega]; have := hx1'.out; simpa [List.getD, show k < xs.length by have := hx.1.1; omega] using this) (fun i hi' => by simp [fn, List.getD, List.getElem?_set_ne (Ne.symm hi')]))
              have hset := hx.set_ hlt (x + 1)
              have H1 := hid hset.1
              have H2 := hid (hfr.trans hset.2)
              have xb : -1000000 ≤ x ∧ x ≤ 1000000 := by
                have e1 := BL.out k; have e2 := BH.out k
                have := hst.out.1 k (Nat.le_refl _) hlt
                have := hx1'.out
                unfold cl fn at *; omega
              clear hset hx hfr
              go_wp2
              go_roundw
              case rel => exact ⟨k + 1, m - 1, xs.set k (x + 1), by omega, by go_num, rfl, by omega, by omega, H1.out, HS2, H2.out⟩
              case measure => simp [intOf]; omega
            · have HS2 := hid (stage_skip hst.out hlt hlek (fun _ => by unfold cl fn; have := hx1'.out; have := hy1'.out; omega))
              go_wp2
              go_roundw
              case rel => exact ⟨k + 1, m, xs, by omega, by go_num, rfl, hm0, hm1, hx, HS2, hfr⟩
              case measure => simp [intOf]; omega
          · have HS2 := hid (stage_skip hst.out hlt hlek (fun h => absurd h hm))
            go_wp2
            go_roundw
            case rel => exact ⟨k + 1, m, xs, by omega, by go_num, rfl, hm0, hm1, hx, HS2, hfr⟩
            case measure => simp [intOf]; omega
        · obtain rfl : k = n := by omega
          have HE := stage_end hst.out (fun i _ => HO.out i) HNX.out
          have hxl := hx.1.1
          have HA := hid (show IsAdj vs lo hi t xs from ⟨by omega, by have := sumTo_list xs; rw [hxl] at this; rw [← this]; exact HE.2, b, by rw [hl]; exact HE.1⟩)
          have HB := hid (below_fr hbel (Nat.le_trans hbel.size (Nat.le_refl _)) (by omega) hfr)
          have HM := hid (hx.widen (lo' := w.heap.size) (hi' := wr.heap.size) (by omega) (by have := hfr.size; omega) (Nat.le_refl _))
          clear HE hst hx hfr
          go_wp2
          go_ret
          exact ⟨_, xs, rfl, HM.out, HA.out, HB.out⟩
end Go.Proofs.Ytkpliolafkdijaa
