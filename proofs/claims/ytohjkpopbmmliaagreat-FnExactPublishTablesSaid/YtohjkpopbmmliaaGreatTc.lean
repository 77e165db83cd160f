/- TypeCounts: the plain part, and the place of a number in a list. -/
import Derived.Test.YtohjkpopbmmliaaGreatIdx
namespace Go.Proofs.YtohjkpopbmmliaaGreat
open Go.RowKit
set_option linter.unusedVariables false
set_option linter.unusedSimpArgs false

/-- The first place of a number. -/
def posN (xs : List Int) (v : Int) : Nat := xs.findIdx (fun x => x == v)
theorem posN_lt {xs : List Int} {v : Int} (h : v ∈ xs) : posN xs v < xs.length := List.findIdx_lt_length_of_exists ⟨v, h, by simp⟩
theorem posN_at {xs : List Int} {v : Int} (h : v ∈ xs) : xs.getD (posN xs v) 0 = v := by
  have h1 := posN_lt h
  have h2 := List.findIdx_getElem (p := fun x => x == v) (xs := xs) (w := h1)
  simp only [List.getD, List.getElem?_eq_getElem h1, Option.getD_some]
  have h3 : (xs[List.findIdx (fun x => x == v) xs]'h1 == v) = true := h2
  exact eq_of_beq h3
theorem posN_ne {xs : List Int} {v : Int} {j : Nat} (h : j < posN xs v) : xs.getD j 0 ≠ v := by
  have h0 : posN xs v ≤ xs.length := List.findIdx_le_length
  have h1 : j < xs.length := by omega
  have h2 := List.not_of_lt_findIdx (p := fun x => x == v) (xs := xs) h
  simp only [List.getD, List.getElem?_eq_getElem h1, Option.getD_some]
  simpa using h2
theorem leaves_inc (ps : List Int) {i j : Nat} (h : i < j) (hj : j < (leaves ps).length) : (leaves ps).getD i 0 < (leaves ps).getD j 0 := by
  have h1 : (leaves ps).Pairwise (· < ·) := by
    unfold leaves leavesTo
    rw [List.pairwise_map]
    refine List.Pairwise.filter _ ?_
    exact List.Pairwise.imp (fun h => by omega) List.pairwise_lt_range
  have h2 := List.pairwise_iff_getElem.1 h1 i j (by omega) hj h
  simpa [List.getD, List.getElem?_eq_getElem hj, List.getElem?_eq_getElem (show i < (leaves ps).length by omega)] using h2
theorem leaves_one {ps : List Int} {a : Int} {j : Nat} (ha : a ∈ leaves ps) (hj : j < (leaves ps).length) (h : (leaves ps).getD j 0 = a) : j = posN (leaves ps) a := by
  have h1 := posN_lt ha
  have h2 := posN_at ha
  rcases Nat.lt_trichotomy j (posN (leaves ps) a) with h3 | h3 | h3
  · exact absurd h (posN_ne h3)
  · exact h3
  · have := leaves_inc ps h3 hj; omega
/-- The type of a record, as a place. -/
def tcP (ps : List Int) (l : List VV) (r : RR) : Int := (posN (leaves ps) r.1 : Int) * prodTo l l.length + ixTo l r.2.2 l.length
def tcUp (c : List Int) (p : Nat) : List Int := c.set p (c.getD p 0 + 1)
def tcTo (ps : List Int) (l : List VV) (rs : List RR) : Nat → List Int
  | 0 => List.replicate (tyN ps l).toNat 0
  | k + 1 => tcUp (tcTo ps l rs k) (tcP ps l (rs.getD k r0)).toNat
def tcQ (ps : List Int) (l : List VV) (rs : List RR) : List Int × Bool := if (tyB ps l && survB ps l rs) = true then (tcTo ps l rs rs.length, true) else ([], false)
theorem tcQ_no {ps : List Int} {l : List VV} {rs : List RR} (h : (tyB ps l && survB ps l rs) = false) : tcQ ps l rs = ([], false) := if_neg (by rw [h]; simp)
theorem tcQ_yes {ps : List Int} {l : List VV} {rs : List RR} (h : (tyB ps l && survB ps l rs) = true) : tcQ ps l rs = (tcTo ps l rs rs.length, true) := if_pos h
theorem tcTo_len (ps : List Int) (l : List VV) (rs : List RR) : ∀ k, (tcTo ps l rs k).length = (tyN ps l).toNat
  | 0 => by simp [tcTo]
  | k + 1 => by unfold tcTo tcUp; rw [List.length_set]; exact tcTo_len ps l rs k
theorem tcTo_bd (ps : List Int) (l : List VV) (rs : List RR) : ∀ k j, 0 ≤ (tcTo ps l rs k).getD j 0 ∧ (tcTo ps l rs k).getD j 0 ≤ (k : Int)
  | 0, j => by
    rcases Nat.lt_or_ge j (tyN ps l).toNat with h | h
    · simp [tcTo, List.getD, h]
    · simp [tcTo, List.getD, Nat.not_lt.2 h]
  | k + 1, j => by
    have ih := tcTo_bd ps l rs k
    unfold tcTo tcUp
    generalize (tcP ps l (rs.getD k r0)).toNat = p
    by_cases h : p = j
    · subst h
      rcases Nat.lt_or_ge p (tcTo ps l rs k).length with h2 | h2
      · rw [getD_set_same h2]; have := ih p; omega
      · have e : (tcTo ps l rs k).set p ((tcTo ps l rs k).getD p 0 + 1) = tcTo ps l rs k := List.set_eq_of_length_le h2
        rw [e]; have := ih p; omega
    · rw [getD_set_other h]; have := ih j; omega
/-- The parts of a survey's record. -/
theorem survB_row {ps : List Int} {l : List VV} {rs : List RR} {k : Nat} (h : survB ps l rs = true) (hk : k < rs.length) :
    rs.length ≤ 40 ∧ (rs.getD k r0).1 ∈ leaves ps ∧ fitB l (rs.getD k r0).2.2 = true := by
  unfold survB datB at h
  simp only [Bool.and_eq_true, decide_eq_true_eq] at h
  have h1 := datTo_row _ k h.1.1 hk
  have h2 := surTo_row _ k h.2 hk
  unfold recB at h1
  simp only [Bool.and_eq_true] at h1
  exact ⟨h.1.2, of_decide_eq_true h2, h1.2⟩
theorem tcP_bd {ps : List Int} {l : List VV} {r : RR} (ha : r.1 ∈ leaves ps) (hf : fitB l r.2.2 = true) (hv : LvOk l l.length) : 0 ≤ tcP ps l r ∧ tcP ps l r < tyN ps l := by
  have h1 := posN_lt ha
  have h2 := ixTo_bd hf hv _ (Nat.le_refl _)
  have h3 := prodTo_bd hv _ (Nat.le_refl _)
  unfold tcP tyN
  generalize prodTo l l.length = P at *
  generalize ixTo l r.2.2 l.length = I at *
  generalize posN (leaves ps) r.1 = q at *
  have h4 : ((q : Int) + 1) * P ≤ ((leaves ps).length : Int) * P := Int.mul_le_mul_of_nonneg_right (by omega) (by omega)
  have h5 : 0 ≤ (q : Int) * P := Int.mul_nonneg (by omega) (by omega)
  rw [Int.add_mul, Int.one_mul] at h4
  omega
set_option maxHeartbeats 1600000 in
theorem l1Find_any {A : Option Addr} {lo hi n c : Nat} {xs : List Int} {v : Int} {w : World} (h : Ints w lo hi A n xs) (hm : v ∈ xs) :
    Calls Tryz.prog 165 #[.slice A n c, .int .i64 v] w fun e w' => e = .returned (.int .i64 (posN xs v)) ∧ w = w' := by
  have hn := h.le
  have HP := hid (posN_lt hm)
  have HA := hid (posN_at hm)
  have HN := hid (fun j (hj : j < posN xs v) => posN_ne hj)
  rw [h.1] at HP
  clear hm
  obtain ⟨p, hp⟩ : ∃ p, posN xs v = p := ⟨_, rfl⟩
  rw [hp] at HP HA HN
  have HQ := hid hp
  clear hp
  have hpn := HP.out
  go_enter Tryz.func165, Tryz.ntmps165
  go_wp2_with fail
  go_loop [9] (fun i => ∃ k : Nat, k ≤ p ∧ i = .int .i64 k) (fun i => n - (intOf i).toNat)
  case atStart => exact ⟨0, Nat.zero_le _, rfl⟩
  case round =>
    obtain ⟨k, hk, rfl⟩ := hrel
    have hlt : k < n := by omega
    obtain ⟨b, off, x, rfl, _, _, hc, hx⟩ := h.at_ hlt
    have hi1 : (k : Int) < (n : Int) := by omega
    by_cases he : k = p
    · subst he
      have hxv : x = v := hx.out.trans HA.out
      have t1 : (x == v) = true := by simp [hxv]
      clear hx hxv
      go_wp2
      go_ret
      exact ⟨ret_int (by rw [HQ.out]), rfl⟩
    · have t1 : (x == v) = false := by rw [beq_eq_false_iff_ne, hx.out]; exact HN.out k (by omega)
      clear hx
      go_wp2
      go_round
      case rel => exact ⟨k + 1, by omega, by go_num⟩
      case measure => simp [intOf]; omega
end Go.Proofs.YtohjkpopbmmliaaGreat
