/- Tables of the same meaning: of the program; equal slices of ints. -/
import Derived.Test.YtellocnplemjmaaNrm
import Derived.Deep.RegionLaw
namespace Go.Proofs.Ytellocnplemjmaa
open Go.RowKit Go.Sort
set_option linter.unusedVariables false
set_option linter.unusedSimpArgs false

theorem ne_at {xs ys : List Int} {k : Nat} (h : xs.getD k 0 ≠ ys.getD k 0) : xs ≠ ys := fun e => h (by rw [e])
theorem ne_len {xs ys : List Int} {n m : Nat} (h1 : xs.length = n) (h2 : ys.length = m) (h : n ≠ m) : xs ≠ ys := fun e => h (by rw [← h1, ← h2, e])
/-- Tables of the same meaning. -/
def smB (l : List VV) (t u : TT) : Bool := decide (t.1 = u.1) && decide (t.2.2.2 = u.2.2.2) && decide (t.2.1 = u.2.1) && decide (nmL l t.2.2.1 = nmL l u.2.2.1)

set_option maxRecDepth 100000 in
set_option maxHeartbeats 3200000 in
theorem equalI_any {A B : Option Addr} {lo hi lo' hi' n m c d : Nat} {xs ys : List Int} {w : World} (h : Ints w lo hi A n xs) (h' : Ints w lo' hi' B m ys) :
    Calls Try.prog 98 #[.slice A n c, .slice B m d] w fun e w' => e = .returned (.bool (decide (xs = ys))) ∧ Keeps w w' := by
  have hn := h.le
  have hm := h'.le
  have HL := hid h.1
  have HL' := hid h'.1
  obtain ⟨p, HP⟩ : ∃ p, Hid (decide (xs = ys) = p) := ⟨_, rfl⟩
  rw [HP.out]
  by_cases hnm : n = m
  rotate_left
  · obtain rfl : p = false := HP.out.symm.trans (decide_eq_false (ne_len HL.out HL'.out hnm))
    have t0 : ((n : Int) == (m : Int)) = false := by rw [beq_eq_false_iff_ne]; omega
    have t9 : ((n : Int) != (m : Int)) = true := by rw [bne, t0]; rfl
    go_enter Try.func98, Try.ntmps98
    have kw := keeps_refl w
    go_wp2_with fail
    go_ret
    exact ⟨ret_bool rfl, kw⟩
  subst hnm
  have t0 : ((n : Int) == (n : Int)) = true := by simp
  have t9 : ((n : Int) != (n : Int)) = false := by rw [bne, t0]; rfl
  go_enter Try.func98, Try.ntmps98
  have kw := keeps_refl w
  go_wp2_with fail
  go_loopw [13] (fun i wr => ∃ k : Nat, k ≤ n ∧ i = .int .i64 k ∧ Hid (∀ j, j < k → xs.getD j 0 = ys.getD j 0) ∧ Keeps w wr) (fun i _ => n - (intOf i).toNat)
  case atStart => exact ⟨0, Nat.zero_le _, rfl, hid (fun j hj => absurd hj (by omega)), kw⟩
  clear kw
  case round =>
    obtain ⟨k, hk, rfl, HK, kw⟩ := hrel
    by_cases hlt : k < n
    · obtain ⟨b, off, x, rfl, _, _, hcx, hx⟩ := (h.keeps kw).at_ hlt
      obtain ⟨b', off', y, rfl, _, _, hcy, hy⟩ := (h'.keeps kw).at_ hlt
      have HX := hid hx.out
      have HY := hid hy.out
      clear hx hy
      have hi1 : (k : Int) < (n : Int) := by omega
      go_wp2_with fail
      have r_hcx := fun d os => cell_regrown hcx d os
      have r_hcy := fun d os => cell_regrown hcy d os
      refine wp_region_quiet_below (by kernel_rfl) (by kernel_rfl) ?_
      iterate 9 (go_big_quiet_step ((first | fail)))
      refine wpQuiet_nil ?_
      intro _ hw'
      obtain ⟨⟨dq, osq⟩, hw''⟩ := hw'
      subst hw''
      clear r_hcx r_hcy
      have kQ := below_regrown wr dq osq
      obtain ⟨wQ1, hwQ⟩ : ∃ u, u = grow (redrawn wr dq) osq := ⟨_, rfl⟩
      rw [← hwQ] at kQ
      rw [← hwQ]
      clear hwQ
      replace kw := Keeps.trans kw kQ
      have sz2 := kw.size
      clear kQ
      clear hcx hcy
      by_cases exy : x = y
      · have t1 : (x == y) = true := by rw [beq_iff_eq]; exact exy
        have t2 : (x != y) = false := by rw [bne, t1]; rfl
        have HN := hid (show ∀ j, j < k + 1 → xs.getD j 0 = ys.getD j 0 from fun j hj => by
          rcases Nat.lt_or_ge j k with h1 | h1
          · exact HK.out j h1
          · obtain rfl : j = k := by omega
            rw [← HX.out, ← HY.out]; exact exy)
        clear exy
        go_wp2_with fail
        go_roundw
        case rel => exact ⟨k + 1, by omega, by go_num, HN, kw⟩
        case measure => simp [intOf]; omega
      have t1 : (x == y) = false := by rw [beq_eq_false_iff_ne]; exact exy
      have t2 : (x != y) = true := by rw [bne, t1]; rfl
      obtain rfl : p = false := HP.out.symm.trans (decide_eq_false (ne_at (k := k) (by rw [← HX.out, ← HY.out]; exact exy)))
      clear exy
      go_wp2_with fail
      go_ret
      exact ⟨ret_bool rfl, kw⟩
    · obtain rfl : n = k := by omega
      have HE := hid (list_ext HL.out HL'.out HK.out)
      obtain rfl : p = true := HP.out.symm.trans (decide_eq_true HE.out)
      go_wp2
      go_ret
      exact ⟨ret_bool rfl, kw⟩
set_option maxRecDepth 100000 in
set_option maxHeartbeats 3200000 in
theorem l1Same_any {A B : Option Addr} {lo hi lo' hi' n m c d : Nat} {xs ys : List Int} {w : World} (h : Ints w lo hi A n xs) (h' : Ints w lo' hi' B m ys) :
    Calls Try.prog 93 #[.slice A n c, .slice B m d] w fun e w' => e = .returned (.bool (decide (xs = ys))) ∧ Keeps w w' := by
  have hn := h.le
  have hm := h'.le
  have HL := hid h.1
  have HL' := hid h'.1
  obtain ⟨p, HP⟩ : ∃ p, Hid (decide (xs = ys) = p) := ⟨_, rfl⟩
  rw [HP.out]
  by_cases hnm : n = m
  rotate_left
  · obtain rfl : p = false := HP.out.symm.trans (decide_eq_false (ne_len HL.out HL'.out hnm))
    have t0 : ((n : Int) == (m : Int)) = false := by rw [beq_eq_false_iff_ne]; omega
    have t9 : ((n : Int) != (m : Int)) = true := by rw [bne, t0]; rfl
    go_enter Try.func93, Try.ntmps93
    have kw := keeps_refl w
    go_wp2_with fail
    go_ret
    exact ⟨ret_bool rfl, kw⟩
  subst hnm
  have t0 : ((n : Int) == (n : Int)) = true := by simp
  have t9 : ((n : Int) != (n : Int)) = false := by rw [bne, t0]; rfl
  go_enter Try.func93, Try.ntmps93
  have kw := keeps_refl w
  go_wp2_with fail
  go_loopw [13] (fun i wr => ∃ k : Nat, k ≤ n ∧ i = .int .i64 k ∧ Hid (∀ j, j < k → xs.getD j 0 = ys.getD j 0) ∧ Keeps w wr) (fun i _ => n - (intOf i).toNat)
  case atStart => exact ⟨0, Nat.zero_le _, rfl, hid (fun j hj => absurd hj (by omega)), kw⟩
  clear kw
  case round =>
    obtain ⟨k, hk, rfl, HK, kw⟩ := hrel
    by_cases hlt : k < n
    · obtain ⟨b, off, x, rfl, _, _, hcx, hx⟩ := (h.keeps kw).at_ hlt
      obtain ⟨b', off', y, rfl, _, _, hcy, hy⟩ := (h'.keeps kw).at_ hlt
      have HX := hid hx.out
      have HY := hid hy.out
      clear hx hy
      have hi1 : (k : Int) < (n : Int) := by omega
      go_wp2_with fail
      have r_hcx := fun d os => cell_regrown hcx d os
      have r_hcy := fun d os => cell_regrown hcy d os
      refine wp_region_quiet_below (by kernel_rfl) (by kernel_rfl) ?_
      iterate 9 (go_big_quiet_step ((first | fail)))
      refine wpQuiet_nil ?_
      intro _ hw'
      obtain ⟨⟨dq, osq⟩, hw''⟩ := hw'
      subst hw''
      clear r_hcx r_hcy
      have kQ := below_regrown wr dq osq
      obtain ⟨wQ1, hwQ⟩ : ∃ u, u = grow (redrawn wr dq) osq := ⟨_, rfl⟩
      rw [← hwQ] at kQ
      rw [← hwQ]
      clear hwQ
      replace kw := Keeps.trans kw kQ
      have sz2 := kw.size
      clear kQ
      clear hcx hcy
      by_cases exy : x = y
      · have t1 : (x == y) = true := by rw [beq_iff_eq]; exact exy
        have t2 : (x != y) = false := by rw [bne, t1]; rfl
        have HN := hid (show ∀ j, j < k + 1 → xs.getD j 0 = ys.getD j 0 from fun j hj => by
          rcases Nat.lt_or_ge j k with h1 | h1
          · exact HK.out j h1
          · obtain rfl : j = k := by omega
            rw [← HX.out, ← HY.out]; exact exy)
        clear exy
        go_wp2_with fail
        go_roundw
        case rel => exact ⟨k + 1, by omega, by go_num, HN, kw⟩
        case measure => simp [intOf]; omega
      have t1 : (x == y) = false := by rw [beq_eq_false_iff_ne]; exact exy
      have t2 : (x != y) = true := by rw [bne, t1]; rfl
      obtain rfl : p = false := HP.out.symm.trans (decide_eq_false (ne_at (k := k) (by rw [← HX.out, ← HY.out]; exact exy)))
      clear exy
      go_wp2_with fail
      go_ret
      exact ⟨ret_bool rfl, kw⟩
    · obtain rfl : n = k := by omega
      have HE := hid (list_ext HL.out HL'.out HK.out)
      obtain rfl : p = true := HP.out.symm.trans (decide_eq_true HE.out)
      go_wp2
      go_ret
      exact ⟨ret_bool rfl, kw⟩
end Go.Proofs.Ytellocnplemjmaa
