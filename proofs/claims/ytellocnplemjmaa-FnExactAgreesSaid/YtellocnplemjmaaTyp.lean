/- The number of combinations, values of an index, leaves, types: of the program and of the reference. -/
import Derived.Test.YtellocnplemjmaaSchB
import Derived.Test.YtellocnplemjmaaKB
import Derived.Test.YtellocnplemjmaaKA
namespace Go.Proofs.Ytellocnplemjmaa
open Go.RowKit
set_option linter.unusedVariables false
set_option linter.unusedSimpArgs false

/-- The product of the first k numbers of levels. -/
def prodTo (l : List VV) : Nat → Int
  | 0 => 1
  | k + 1 => prodTo l k * (l.getD k v0).2
/-- All of them have from 2 to 8 levels. -/
def LvOk (l : List VV) (n : Nat) : Prop := ∀ j, j < n → 2 ≤ (l.getD j v0).2 ∧ (l.getD j v0).2 ≤ 8
theorem schTo_lv {l : List VV} : ∀ k, schTo l k = true → LvOk l k
  | 0, _ => fun j hj => absurd hj (by omega)
  | k + 1, h => fun j hj => by
    unfold schTo at h
    simp only [Bool.and_eq_true] at h
    rcases Nat.lt_or_ge j k with h1 | h1
    · exact schTo_lv k h.1 j h1
    · obtain rfl : j = k := by omega
      have h2 := h.2
      unfold schRow at h2
      simp only [Bool.and_eq_true] at h2
      exact inB_true.1 h2.1.2
theorem schB_lv {l : List VV} {n : Nat} (hl : l.length = n) (h : schB l = true) : LvOk l n ∧ 1 ≤ n ∧ n ≤ 6 := by
  unfold schB at h
  simp only [Bool.and_eq_true] at h
  have := inB_true.1 h.1
  rw [hl] at h this
  exact ⟨schTo_lv n h.2, by omega, by omega⟩
theorem prodTo_bd {l : List VV} {n : Nat} (h : LvOk l n) : ∀ k, k ≤ n → 1 ≤ prodTo l k ∧ prodTo l k ≤ 8 ^ k
  | 0, _ => by simp [prodTo]
  | k + 1, hk => by
    have ih := prodTo_bd h k (by omega)
    have hv := h k (by omega)
    unfold prodTo
    refine ⟨by have := Int.mul_le_mul ih.1 (show 1 ≤ (l.getD k v0).2 by omega) (by omega) (by omega); omega, ?_⟩
    have := Int.mul_le_mul ih.2 hv.2 (by omega) (by have : (0 : Int) ≤ 8 ^ k := Int.pow_nonneg (by omega); exact this)
    rw [Int.pow_succ]; exact this
theorem pow8 {k : Nat} (h : k ≤ 6) : (8 : Int) ^ k ≤ 262144 := by
  rcases k with _ | _ | _ | _ | _ | _ | _ | k <;> first | decide | omega
set_option maxRecDepth 100000 in
set_option maxHeartbeats 1600000 in
theorem combinations_any {A : Option Addr} {lo hi n c : Nat} {l : List VV} {w : World} (h : Vars w lo hi A n l) (hv : LvOk l n) (h6 : n ≤ 6) :
    Calls Try.prog 86 #[.slice A n c] w fun e w' => e = .returned (.int .i64 (prodTo l n)) ∧ Keeps w w' := by
  have hn := h.le
  have HV := hid hv
  clear hv
  go_enter Try.func86, Try.ntmps86
  go_wp2_with fail
  go_loopw [3, 8] (fun p i wr => ∃ k : Nat, k ≤ n ∧ i = .int .i64 k ∧ p = .int .i64 (prodTo l k) ∧ Keeps w wr) (fun _ i _ => n - (intOf i).toNat)
  case atStart => exact ⟨0, Nat.zero_le _, rfl, rfl, keeps_refl _⟩
  case round =>
    obtain ⟨k, hk, rfl, rfl, kw⟩ := hrel
    by_cases hlt : k < n
    · obtain ⟨b, off, x, y, rfl, _, _, hc, hd, hx⟩ := Vars.at_ (h.keeps kw) hlt
      have hi1 : (k : Int) < (n : Int) := by omega
      have HY := hid (show y = (l.getD k v0).2 from congrArg Prod.snd hx.out)
      have hP := prodTo_bd HV.out k (by omega)
      have hP2 := prodTo_bd HV.out (k + 1) (by omega)
      have hp6 := pow8 (k := k) (by omega)
      have hp7 := pow8 (k := k + 1) (by omega)
      have e1 : prodTo l (k + 1) = prodTo l k * y := by show prodTo l k * (l.getD k v0).2 = _; rw [HY.out]
      rw [e1] at hP2
      have E1 := hid e1
      clear e1 hx
      obtain ⟨P, hPe⟩ : ∃ P, prodTo l k = P := ⟨_, rfl⟩
      rw [hPe] at hP hP2 E1 ⊢
      clear hPe
      have hb1 : 1 ≤ P * y := hP2.1
      have hb2 : P * y ≤ 262144 := by omega
      clear hP hP2 hp6 hp7
      go_wp2_with fail
      go_roundw
      case rel => exact ⟨k + 1, by omega, by go_num, by rw [E1.out], kw.trans (keeps_alloc _ _)⟩
      case measure => simp [intOf]; omega
    · obtain rfl : k = n := by omega
      go_wp2
      go_ret
      exact ⟨rfl, kw⟩
set_option maxRecDepth 100000 in
set_option maxHeartbeats 1600000 in
theorem sCount_any {A : Option Addr} {lo hi n c : Nat} {l : List VV} {w : World} (h : Vars w lo hi A n l) (hv : LvOk l n) (h6 : n ≤ 6) :
    Calls Try.prog 80 #[.slice A n c] w fun e w' => e = .returned (.int .i64 (prodTo l n)) ∧ Keeps w w' := by
  have hn := h.le
  have HV := hid hv
  clear hv
  go_enter Try.func80, Try.ntmps80
  go_wp2_with fail
  go_loopw [3, 8] (fun p i wr => ∃ k : Nat, k ≤ n ∧ i = .int .i64 k ∧ p = .int .i64 (prodTo l k) ∧ Keeps w wr) (fun _ i _ => n - (intOf i).toNat)
  case atStart => exact ⟨0, Nat.zero_le _, rfl, rfl, keeps_refl _⟩
  case round =>
    obtain ⟨k, hk, rfl, rfl, kw⟩ := hrel
    by_cases hlt : k < n
    · obtain ⟨b, off, x, y, rfl, _, _, hc, hd, hx⟩ := Vars.at_ (h.keeps kw) hlt
      have hi1 : (k : Int) < (n : Int) := by omega
      have HY := hid (show y = (l.getD k v0).2 from congrArg Prod.snd hx.out)
      have hP := prodTo_bd HV.out k (by omega)
      have hP2 := prodTo_bd HV.out (k + 1) (by omega)
      have hp6 := pow8 (k := k) (by omega)
      have hp7 := pow8 (k := k + 1) (by omega)
      have e1 : prodTo l (k + 1) = prodTo l k * y := by show prodTo l k * (l.getD k v0).2 = _; rw [HY.out]
      rw [e1] at hP2
      have E1 := hid e1
      clear e1 hx
      obtain ⟨P, hPe⟩ : ∃ P, prodTo l k = P := ⟨_, rfl⟩
      rw [hPe] at hP hP2 E1 ⊢
      clear hPe
      have hb1 : 1 ≤ P * y := hP2.1
      have hb2 : P * y ≤ 262144 := by omega
      clear hP hP2 hp6 hp7
      go_wp2_with fail
      go_roundw
      case rel => exact ⟨k + 1, by omega, by go_num, by rw [E1.out], kw.trans (keeps_alloc _ _)⟩
      case measure => simp [intOf]; omega
    · obtain rfl : k = n := by omega
      go_wp2
      go_ret
      exact ⟨rfl, kw⟩
/-- What is left of an index behind t places. -/
def vI (l : List VV) (n : Nat) (i : Int) : Nat → Int
  | 0 => i
  | t + 1 => vI l n i t / (l.getD (n - 1 - t) v0).2
def vals (l : List VV) (n : Nat) (i : Int) : List Int := (List.range n).map fun k => vI l n i (n - 1 - k) % (l.getD k v0).2
def valsTo (l : List VV) (n : Nat) (i : Int) (t : Nat) : List Int := (List.range n).map fun k => if n - t ≤ k then vI l n i (n - 1 - k) % (l.getD k v0).2 else 0
theorem valsTo_len (l : List VV) (n : Nat) (i : Int) (t : Nat) : (valsTo l n i t).length = n := by simp [valsTo]
theorem vals_len (l : List VV) (n : Nat) (i : Int) : (vals l n i).length = n := by simp [vals]
theorem valsTo_zero (l : List VV) (n : Nat) (i : Int) : valsTo l n i 0 = List.replicate n 0 := by
  apply List.ext_getElem
  · simp [valsTo]
  · intro j h1 h2
    simp only [valsTo, List.getElem_map, List.getElem_range, List.getElem_replicate]
    rw [if_neg]; simp [valsTo] at h1; omega
theorem valsTo_all (l : List VV) (n : Nat) (i : Int) : valsTo l n i n = vals l n i := by
  unfold valsTo vals
  apply List.map_congr_left
  intro k hk
  rw [if_pos (by omega)]
theorem valsTo_succ {l : List VV} {n q t : Nat} {i y : Int} (h : q + 1 + t = n) (hy : y = (l.getD q v0).2) : (valsTo l n i t).set q (vI l n i t % y) = valsTo l n i (t + 1) := by
  apply List.ext_getElem
  · simp [valsTo]
  · intro j h1 h2
    simp [valsTo] at h2
    simp only [valsTo, List.getElem_set, List.getElem_map, List.getElem_range]
    by_cases e : q = j
    · subst e
      rw [if_pos rfl, if_pos (by omega), show n - 1 - q = t by omega, hy]
    · rw [if_neg e]
      by_cases e2 : n - t ≤ j
      · rw [if_pos e2, if_pos (by omega)]
      · rw [if_neg e2, if_neg (by omega)]
theorem vI_bd {l : List VV} {n : Nat} {i : Int} (h : LvOk l n) (h0 : 0 ≤ i) (h1 : i ≤ 1000000) : ∀ t, t ≤ n → 0 ≤ vI l n i t ∧ vI l n i t ≤ 1000000
  | 0, _ => ⟨h0, h1⟩
  | t + 1, ht => by
    have ih := vI_bd h h0 h1 t (by omega)
    have hv := h (n - 1 - t) (by omega)
    unfold vI
    exact ⟨Int.ediv_nonneg ih.1 (by omega), Int.le_trans (Int.ediv_le_self _ ih.1) ih.2⟩
set_option maxRecDepth 100000 in
set_option maxHeartbeats 3200000 in
theorem valuesAt_any {A : Option Addr} {lo hi n c : Nat} {l : List VV} {i : Int} {w : World} (h : Vars w lo hi A n l) (hv : LvOk l n) (h0 : 0 ≤ i) (h1 : i ≤ 1000000) :
    Calls Try.prog 115 #[.slice A n c, .int .i64 i] w fun e w' => ∃ A', e = .returned (.slice A' n n) ∧ Mine w' w.heap.size w'.heap.size A' n (vals l n i) ∧ Keeps w w' := by
  have hn := h.le
  have hmk := make_ints n hn
  have HV := hid hv
  have HI := hid (fun t ht => vI_bd (i := i) hv h0 h1 t ht)
  clear hv
  go_enter Try.func115, Try.ntmps115
  go_wp2_with fail
  clear hmk
  go_loopw [1, 6] (fun p s wr => ∃ m t : Nat, m + t = n ∧ s = .int .i64 ((m : Int) - 1) ∧ p = .int .i64 (vI l n i t) ∧ Own wr w.heap.size (valsTo l n i t) ∧ Keeps w wr) (fun _ s _ => (intOf s + 1).toNat)
  case atStart => exact ⟨n, 0, by omega, rfl, rfl, by rw [valsTo_zero]; exact Own.new w n, keeps_alloc _ _⟩
  case round =>
    obtain ⟨m, t, hmt, rfl, rfl, hown, kw⟩ := hrel
    have hlt := hown.lt
    by_cases hm : 0 < m
    · obtain ⟨q, rfl⟩ : ∃ q, m = q + 1 := ⟨m - 1, by omega⟩
      have eq1 : (((q + 1 : Nat) : Int) - 1) = (q : Int) := by omega
      rw [eq1]
      clear eq1
      have hqn : q < n := by omega
      obtain ⟨b, off, x, y, rfl, hlo, hhi, hc, hd, hx⟩ := Vars.at_ (h.keeps kw) hqn
      have hi1 : (q : Int) < (n : Int) := by omega
      have hy0 : y = (l.getD q v0).2 := congrArg Prod.snd hx.out
      have hyb := HV.out q hqn
      rw [← hy0] at hyb
      have hvb := HI.out t (by omega)
      have e1 : vI l n i (t + 1) = vI l n i t / y := by show vI l n i t / (l.getD (n - 1 - t) v0).2 = _; rw [show n - 1 - t = q by omega, hy0]
      have e2 := valsTo_succ (i := i) hmt hy0
      have E1 := hid e1
      have E2 := hid e2
      clear e1 e2 hx hy0
      obtain ⟨V, hV⟩ : ∃ V, vI l n i t = V := ⟨_, rfl⟩
      rw [hV] at hvb E1 E2 ⊢
      clear hV
      have t0 : (y == 0) = false := by rw [beq_eq_false_iff_ne]; omega
      obtain ⟨z0, hoc, -⟩ := hown.at_ q (by rw [valsTo_len]; exact hqn)
      have hof := hown.frozen q
      have H1 := hid (hown.set_ q (V % y))
      rw [E2.out] at H1
      have H2 := hid (kw.setCell (p := ⟨w.heap.size, q, none⟩) (Nat.le_refl _) (.int .i64 (V % y)))
      have hne : b ≠ w.heap.size := by have := h.top; omega
      clear hown kw
      go_wp2_with fail
      go_roundw
      case rel => exact ⟨q, t + 1, by omega, by go_num, by rw [E1.out], H1.out, H2.out⟩
      case measure => simp [intOf]
    · obtain rfl : m = 0 := by omega
      obtain rfl : t = n := by omega
      go_wp2
      go_ret
      rw [valsTo_all] at hown
      exact ⟨_, rfl, hown.mine (vals_len _ _ _) hn (Nat.le_refl _) hlt (Nat.le_refl _), kw⟩
set_option maxRecDepth 100000 in
set_option maxHeartbeats 3200000 in
theorem sAt_any {A : Option Addr} {lo hi n c : Nat} {l : List VV} {i : Int} {w : World} (h : Vars w lo hi A n l) (hv : LvOk l n) (h0 : 0 ≤ i) (h1 : i ≤ 1000000) :
    Calls Try.prog 109 #[.slice A n c, .int .i64 i] w fun e w' => ∃ A', e = .returned (.slice A' n n) ∧ Mine w' w.heap.size w'.heap.size A' n (vals l n i) ∧ Keeps w w' := by
  have hn := h.le
  have hmk := make_ints n hn
  have HV := hid hv
  have HI := hid (fun t ht => vI_bd (i := i) hv h0 h1 t ht)
  clear hv
  go_enter Try.func109, Try.ntmps109
  go_wp2_with fail
  clear hmk
  go_loopw [1, 6] (fun p s wr => ∃ m t : Nat, m + t = n ∧ s = .int .i64 ((m : Int) - 1) ∧ p = .int .i64 (vI l n i t) ∧ Own wr w.heap.size (valsTo l n i t) ∧ Keeps w wr) (fun _ s _ => (intOf s + 1).toNat)
  case atStart => exact ⟨n, 0, by omega, rfl, rfl, by rw [valsTo_zero]; exact Own.new w n, keeps_alloc _ _⟩
  case round =>
    obtain ⟨m, t, hmt, rfl, rfl, hown, kw⟩ := hrel
    have hlt := hown.lt
    by_cases hm : 0 < m
    · obtain ⟨q, rfl⟩ : ∃ q, m = q + 1 := ⟨m - 1, by omega⟩
      have eq1 : (((q + 1 : Nat) : Int) - 1) = (q : Int) := by omega
      rw [eq1]
      clear eq1
      have hqn : q < n := by omega
      obtain ⟨b, off, x, y, rfl, hlo, hhi, hc, hd, hx⟩ := Vars.at_ (h.keeps kw) hqn
      have hi1 : (q : Int) < (n : Int) := by omega
      have hy0 : y = (l.getD q v0).2 := congrArg Prod.snd hx.out
      have hyb := HV.out q hqn
      rw [← hy0] at hyb
      have hvb := HI.out t (by omega)
      have e1 : vI l n i (t + 1) = vI l n i t / y := by show vI l n i t / (l.getD (n - 1 - t) v0).2 = _; rw [show n - 1 - t = q by omega, hy0]
      have e2 := valsTo_succ (i := i) hmt hy0
      have E1 := hid e1
      have E2 := hid e2
      clear e1 e2 hx hy0
      obtain ⟨V, hV⟩ : ∃ V, vI l n i t = V := ⟨_, rfl⟩
      rw [hV] at hvb E1 E2 ⊢
      clear hV
      have t0 : (y == 0) = false := by rw [beq_eq_false_iff_ne]; omega
      obtain ⟨z0, hoc, -⟩ := hown.at_ q (by rw [valsTo_len]; exact hqn)
      have hof := hown.frozen q
      have H1 := hid (hown.set_ q (V % y))
      rw [E2.out] at H1
      have H2 := hid (kw.setCell (p := ⟨w.heap.size, q, none⟩) (Nat.le_refl _) (.int .i64 (V % y)))
      have hne : b ≠ w.heap.size := by have := h.top; omega
      clear hown kw
      go_wp2_with fail
      go_roundw
      case rel => exact ⟨q, t + 1, by omega, by go_num, by rw [E1.out], H1.out, H2.out⟩
      case measure => simp [intOf]
    · obtain rfl : m = 0 := by omega
      obtain rfl : t = n := by omega
      go_wp2
      go_ret
      rw [valsTo_all] at hown
      exact ⟨_, rfl, hown.mine (vals_len _ _ _) hn (Nat.le_refl _) hlt (Nat.le_refl _), kw⟩
end Go.Proofs.Ytellocnplemjmaa
