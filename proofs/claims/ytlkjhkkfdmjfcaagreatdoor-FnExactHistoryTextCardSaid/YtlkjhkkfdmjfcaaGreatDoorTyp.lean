/- The number of combinations, values of an index, leaves, types: of the program and of the reference. -/
import Derived.Test.YtlkjhkkfdmjfcaaGreatDoorSchB
import Derived.Test.YtlkjhkkfdmjfcaaGreatDoorKB
import Derived.Test.YtlkjhkkfdmjfcaaGreatDoorKA
namespace Go.Proofs.YtlkjhkkfdmjfcaaGreatDoor
open Go.RowKit
set_option linter.unusedVariables false
set_option linter.unusedSimpArgs false

/-- The product of the first k numbers of levels. -/
def prodTo (l : List VV) : Nat → Int
  | 0 => 1
  | k + 1 => prodTo l k * (l.getD k v0).2
/-- All of them have from 2 to 8 levels. -/
def LvOk (l : List VV) (n : Nat) : Prop := ∀ j, j < n → 2 ≤ (l.getD j v0).2 ∧ (l.getD j v0).2 ≤ 8
theorem schTo_lv {l : List VV} : ∀ k, schTo l k = true → LvOk l k
  | 0, _ => fun j hj => absurd hj (by omega)
  | k + 1, h => fun j hj => by
    unfold schTo at h
    simp only [Bool.and_eq_true] at h
    rcases Nat.lt_or_ge j k with h1 | h1
    · exact schTo_lv k h.1 j h1
    · obtain rfl : j = k := by omega
      have h2 := h.2
      unfold schRow at h2
      simp only [Bool.and_eq_true] at h2
      exact inB_true.1 h2.1.2
theorem schB_lv {l : List VV} {n : Nat} (hl : l.length = n) (h : schB l = true) : LvOk l n ∧ 1 ≤ n ∧ n ≤ 6 := by
  unfold schB at h
  simp only [Bool.and_eq_true] at h
  have := inB_true.1 h.1
  rw [hl] at h this
  exact ⟨schTo_lv n h.2, by omega, by omega⟩
theorem prodTo_bd {l : List VV} {n : Nat} (h : LvOk l n) : ∀ k, k ≤ n → 1 ≤ prodTo l k ∧ prodTo l k ≤ 8 ^ k
  | 0, _ => by simp [prodTo]
  | k + 1, hk => by
    have ih := prodTo_bd h k (by omega)
    have hv := h k (by omega)
    unfold prodTo
    refine ⟨by have := Int.mul_le_mul ih.1 (show 1 ≤ (l.getD k v0).2 by omega) (by omega) (by omega); omega, ?_⟩
    have := Int.mul_le_mul ih.2 hv.2 (by omega) (by have : (0 : Int) ≤ 8 ^ k := Int.pow_nonneg (by omega); exact this)
    rw [Int.pow_succ]; exact this
theorem pow8 {k : Nat} (h : k ≤ 6) : (8 : Int) ^ k ≤ 262144 := by
  rcases k with _ | _ | _ | _ | _ | _ | _ | k <;> first | decide | omega
set_option maxRecDepth 100000 in
set_option maxHeartbeats 1600000 in
theorem combinations_any {A : Option Addr} {lo hi n c : Nat} {l : List VV} {w : World} (h : Vars w lo hi A n l) (hv : LvOk l n) (h6 : n ≤ 6) :
    Calls Tryz.prog 141 #[.slice A n c] w fun e w' => e = .returned (.int .i64 (prodTo l n)) ∧ Keeps w w' := by
  have hn := h.le
  have HV := hid hv
  clear hv
  go_enter Tryz.func141, Tryz.ntmps141
  go_wp2_with fail
  go_loopw [3, 8] (fun p i wr => ∃ k : Nat, k ≤ n ∧ i = .int .i64 k ∧ p = .int .i64 (prodTo l k) ∧ Keeps w wr) (fun _ i _ => n - (intOf i).toNat)
  case atStart => exact ⟨0, Nat.zero_le _, rfl, rfl, keeps_refl _⟩
  case round =>
    obtain ⟨k, hk, rfl, rfl, kw⟩ := hrel
    by_cases hlt : k < n
    · obtain ⟨b, off, x, y, rfl, _, _, hc, hd, hx⟩ := Vars.at_ (h.keeps kw) hlt
      have hi1 : (k : Int) < (n : Int) := by omega
      have HY := hid (show y = (l.getD k v0).2 from congrArg Prod.snd hx.out)
      have hP := prodTo_bd HV.out k (by omega)
      have hP2 := prodTo_bd HV.out (k + 1) (by omega)
      have hp6 := pow8 (k := k) (by omega)
      have hp7 := pow8 (k := k + 1) (by omega)
      have e1 : prodTo l (k + 1) = prodTo l k * y := by show prodTo l k * (l.getD k v0).2 = _; rw [HY.out]
      rw [e1] at hP2
      have E1 := hid e1
      clear e1 hx
      obtain ⟨P, hPe⟩ : ∃ P, prodTo l k = P := ⟨_, rfl⟩
      rw [hPe] at hP hP2 E1 ⊢
      clear hPe
      have hb1 : 1 ≤ P * y := hP2.1
      have hb2 : P * y ≤ 262144 := by omega
      clear hP hP2 hp6 hp7
      go_wp2_with fail
      go_roundw
      case rel => exact ⟨k + 1, by omega, by go_num, by rw [E1.out], kw.trans (keeps_alloc _ _)⟩
      case measure => simp [intOf]; omega
    · obtain rfl : k = n := by omega
      go_wp2
      go_ret
      exact ⟨rfl, kw⟩
set_option maxRecDepth 100000 in
set_option maxHeartbeats 1600000 in
theorem sCount_any {A : Option Addr} {lo hi n c : Nat} {l : List VV} {w : World} (h : Vars w lo hi A n l) (hv : LvOk l n) (h6 : n ≤ 6) :
    Calls Tryz.prog 161 #[.slice A n c] w fun e w' => e = .returned (.int .i64 (prodTo l n)) ∧ Keeps w w' := by
  have hn := h.le
  have HV := hid hv
  clear hv
  go_enter Tryz.func161, Tryz.ntmps161
  go_wp2_with fail
  go_loopw [3, 8] (fun p i wr => ∃ k : Nat, k ≤ n ∧ i = .int .i64 k ∧ p = .int .i64 (prodTo l k) ∧ Keeps w wr) (fun _ i _ => n - (intOf i).toNat)
  case atStart => exact ⟨0, Nat.zero_le _, rfl, rfl, keeps_refl _⟩
  case round =>
    obtain ⟨k, hk, rfl, rfl, kw⟩ := hrel
    by_cases hlt : k < n
    · obtain ⟨b, off, x, y, rfl, _, _, hc, hd, hx⟩ := Vars.at_ (h.keeps kw) hlt
      have hi1 : (k : Int) < (n : Int) := by omega
      have HY := hid (show y = (l.getD k v0).2 from congrArg Prod.snd hx.out)
      have hP := prodTo_bd HV.out k (by omega)
      have hP2 := prodTo_bd HV.out (k + 1) (by omega)
      have hp6 := pow8 (k := k) (by omega)
      have hp7 := pow8 (k := k + 1) (by omega)
      have e1 : prodTo l (k + 1) = prodTo l k * y := by show prodTo l k * (l.getD k v0).2 = _; rw [HY.out]
      rw [e1] at hP2
      have E1 := hid e1
      clear e1 hx
      obtain ⟨P, hPe⟩ : ∃ P, prodTo l k = P := ⟨_, rfl⟩
      rw [hPe] at hP hP2 E1 ⊢
      clear hPe
      have hb1 : 1 ≤ P * y := hP2.1
      have hb2 : P * y ≤ 262144 := by omega
      clear hP hP2 hp6 hp7
      go_wp2_with fail
      go_roundw
      case rel => exact ⟨k + 1, by omega, by go_num, by rw [E1.out], kw.trans (keeps_alloc _ _)⟩
      case measure => simp [intOf]; omega
    · obtain rfl : k = n := by omega
      go_wp2
      go_ret
      exact ⟨rfl, kw⟩
/-- What is left of an index behind t places. -/
def vI (l : List VV) (n : Nat) (i : Int) : Nat → Int
  | 0 => i
  | t + 1 => vI l n i t / (l.getD (n - 1 - t) v0).2
def vals (l : List VV) (n : Nat) (i : Int) : List Int := (List.range n).map fun k => vI l n i (n - 1 - k) % (l.getD k v0).2
def valsTo (l : List VV) (n : Nat) (i : Int) (t : Nat) : List Int := (List.range n).map fun k => if n - t ≤ k then vI l n i (n - 1 - k) % (l.getD k v0).2 else 0
theorem valsTo_len (l : List VV) (n : Nat) (i : Int) (t : Nat) : (valsTo l n i t).length = n := by simp [valsTo]
theorem vals_len (l : List VV) (n : Nat) (i : Int) : (vals l n i).length = n := by simp [vals]
theorem valsTo_zero (l : List VV) (n : Nat) (i : Int) : valsTo l n i 0 = List.replicate n 0 := by
  apply List.ext_getElem
  · simp [valsTo]
  · intro j h1 h2
    simp only [valsTo, List.getElem_map, List.getElem_range, List.getElem_replicate]
    rw [if_neg]; simp [valsTo] at h1; omega
theorem valsTo_all (l : List VV) (n : Nat) (i : Int) : valsTo l n i n = vals l n i := by
  unfold valsTo vals
  apply List.map_congr_left
  intro k hk
  rw [if_pos (by omega)]
theorem valsTo_succ {l : List VV} {n q t : Nat} {i y : Int} (h : q + 1 + t = n) (hy : y = (l.getD q v0).2) : (valsTo l n i t).set q (vI l n i t % y) = valsTo l n i (t + 1) := by
  apply List.ext_getElem
  · simp [valsTo]
  · intro j h1 h2
    simp [valsTo] at h2
    simp only [valsTo, List.getElem_set, List.getElem_map, List.getElem_range]
    by_cases e : q = j
    · subst e
      rw [if_pos rfl, if_pos (by omega), show n - 1 - q = t by omega, hy]
    · rw [if_neg e]
      by_cases e2 : n - t ≤ j
      · rw [if_pos e2, if_pos (by omega)]
      · rw [if_neg e2, if_neg (by omega)]
theorem vI_bd {l : List VV} {n : Nat} {i : Int} (h : LvOk l n) (h0 : 0 ≤ i) (h1 : i ≤ 1000000) : ∀ t, t ≤ n → 0 ≤ vI l n i t ∧ vI l n i t ≤ 1000000
  | 0, _ => ⟨h0, h1⟩
  | t + 1, ht => by
    have ih := vI_bd h h0 h1 t (by omega)
    have hv := h (n - 1 - t) (by omega)
    unfold vI
    exact ⟨Int.ediv_nonneg ih.1 (by omega), Int.le_trans (Int.ediv_le_self _ ih.1) ih.2⟩
end Go.Proofs.YtlkjhkkfdmjfcaaGreatDoor
