/- Surveys: valid or not; of the program and of the reference. -/
import Derived.Test.YtlkjhkkfdmjfcaaGreatDoorSurv
namespace Go.Proofs.YtlkjhkkfdmjfcaaGreatDoor
open Go.RowKit
set_option linter.unusedVariables false
set_option linter.unusedSimpArgs false

theorem mem_leaves {ps : List Int} {a : Int} : a ∈ leaves ps ↔ (0 ≤ a ∧ a < (ps.length : Int)) ∧ leafB ps a.toNat = true := by
  unfold leaves leavesTo
  rw [List.mem_map]
  constructor
  · rintro ⟨j, hj, rfl⟩
    rw [List.mem_filter, List.mem_range] at hj
    exact ⟨by omega, by simpa using hj.2⟩
  · rintro ⟨⟨h1, h2⟩, h3⟩
    exact ⟨a.toNat, by rw [List.mem_filter, List.mem_range]; exact ⟨by omega, h3⟩, by omega⟩
/-- An area without children. -/
def lvB (ps : List Int) (a : Int) : Bool := decide (a ∈ leaves ps)
theorem lvB_no {ps : List Int} {a : Int} (h : ¬ (0 ≤ a ∧ a < (ps.length : Int))) : lvB ps a = false := decide_eq_false fun e => h (mem_leaves.1 e).1
theorem lvB_eq {ps : List Int} {i : Nat} (h : i < ps.length) : lvB ps (i : Int) = leafB ps i := by
  unfold lvB
  rcases Bool.eq_false_or_eq_true (leafB ps i) with e | e
  · rw [e]; exact decide_eq_true (mem_leaves.2 ⟨by omega, by simpa using e⟩)
  · rw [e]; exact decide_eq_false fun q => by have := (mem_leaves.1 q).2; simp [e] at this
def surTo (ps : List Int) (rs : List RR) : Nat → Bool
  | 0 => true
  | k + 1 => surTo ps rs k && lvB ps (rs.getD k r0).1
/-- A survey, where the areas and the schema are valid. -/
def survB (ps : List Int) (l : List VV) (rs : List RR) : Bool := datB l rs && surTo ps rs rs.length
theorem surTo_bad {ps : List Int} {rs : List RR} {k n : Nat} (h : surTo ps rs k = false) (hn : k ≤ n) : surTo ps rs n = false := by
  induction n with
  | zero => obtain rfl : k = 0 := by omega
            exact h
  | succ n ih =>
    rcases Nat.lt_or_ge n k with h1 | h1
    · obtain rfl : k = n + 1 := by omega
      exact h
    · unfold surTo; rw [ih h1]; rfl
theorem surTo_row {ps : List Int} {rs : List RR} : ∀ n k, surTo ps rs n = true → k < n → lvB ps (rs.getD k r0).1 = true
  | 0, k, _, hk => absurd hk (by omega)
  | n + 1, k, h, hk => by
    unfold surTo at h
    simp only [Bool.and_eq_true] at h
    rcases Nat.lt_or_ge k n with h1 | h1
    · exact surTo_row n k h.1 h1
    · obtain rfl : k = n := by omega
      exact h.2
theorem survB_no {ps : List Int} {l : List VV} {rs : List RR} {n k : Nat} (hl : rs.length = n) (hk : k < n) (h : lvB ps (rs.getD k r0).1 = false) : survB ps l rs = false := by
  unfold survB; rw [hl, surTo_bad (k := k + 1) (by unfold surTo; rw [h, Bool.and_false]) hk, Bool.and_false]
theorem survB_dat {ps : List Int} {l : List VV} {rs : List RR} (h : datB l rs = false) : survB ps l rs = false := by unfold survB; rw [h]; rfl
theorem survB_yes {ps : List Int} {l : List VV} {rs : List RR} {n : Nat} (hl : rs.length = n) (h : datB l rs = true) (h2 : surTo ps rs n = true) : survB ps l rs = true := by unfold survB; rw [hl, h, h2]; rfl

set_option maxRecDepth 100000 in
set_option maxHeartbeats 1600000 in
theorem l1Has_any {A : Option Addr} {lo hi n c : Nat} {xs : List Int} {v : Int} {w : World} (h : Ints w lo hi A n xs) :
    Calls Tryz.prog 137 #[.slice A n c, .int .i64 v] w fun e w' => e = .returned (.bool (decide (v ∈ xs))) ∧ w = w' := by
  have hn := h.le
  have HL := hid h.1
  go_enter Tryz.func137, Tryz.ntmps137
  go_wp2_with fail
  go_loop [9] (fun i => ∃ k : Nat, k ≤ n ∧ i = .int .i64 k ∧ Hid (∀ j, j < k → v ≠ xs.getD j 0)) (fun i => n - (intOf i).toNat)
  case atStart => exact ⟨0, Nat.zero_le _, rfl, fun j hj => absurd hj (by omega)⟩
  case round =>
    obtain ⟨k, hk, rfl, HN⟩ := hrel
    by_cases hlt : k < n
    · obtain ⟨b, off, x, rfl, _, _, hc, hx⟩ := h.at_ hlt
      have hi1 : (k : Int) < (n : Int) := by omega
      by_cases he : x = v
      · subst he
        have HM := hid (mem_of_at HL.out hlt hx.out)
        clear hx
        have t1 : (x == x) = true := by simp
        go_wp2
        go_ret
        exact ⟨ret_bool (decide_eq_true HM.out).symm, rfl⟩
      · have t1 : (x == v) = false := by rw [beq_eq_false_iff_ne]; exact he
        have HE := hid he
        have HX := hid (show ∀ j, j < k + 1 → v ≠ xs.getD j 0 from fun j hj => by
          rcases Nat.lt_or_ge j k with h1 | h1
          · exact HN.out j h1
          · obtain rfl : j = k := by omega
            rw [← hx.out]; exact fun e => HE.out e.symm)
        clear he
        go_wp2
        go_round
        case rel => exact ⟨k + 1, by omega, by go_num, HX⟩
        case measure => simp [intOf]; omega
    · obtain rfl : k = n := by omega
      have HM := hid (not_mem_of HL.out HN.out)
      go_wp2
      go_ret
      exact ⟨ret_bool (decide_eq_false HM.out).symm, rfl⟩
theorem isLeafX_any {A : Option Addr} {lo hi n c : Nat} {x : Int} {ps : List Int} {w : World} (h : Ints w lo hi A n ps) (hg : ps.getD 0 0 = -1) (h0 : 0 ≤ x) :
    Calls Tryz.prog 159 #[.agg #[.slice A n c], .int .i64 x] w fun e w' => e = .returned (.bool (leafB ps x.toNat)) ∧ Keeps w w' := by
  have := isLeaf_any (c := c) (i := x.toNat) h hg
  rwa [Int.toNat_of_nonneg h0] at this
theorem lvB_at {ps : List Int} {x : Int} (h : 0 ≤ x ∧ x < (ps.length : Int)) : lvB ps x = leafB ps x.toNat := by
  have := lvB_eq (ps := ps) (i := x.toNat) (by omega)
  rwa [Int.toNat_of_nonneg h.1] at this
end Go.Proofs.YtlkjhkkfdmjfcaaGreatDoor
