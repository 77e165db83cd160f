/- Schemas: of the reference and of the program. -/
import Derived.Test.YtlkjhkkfdmjfcaaGreatDoorVar
import Derived.Test.YtlkjhkkfdmjfcaaGreatDoorBl
namespace Go.Proofs.YtlkjhkkfdmjfcaaGreatDoor
open Go.RowKit
set_option linter.unusedVariables false
set_option linter.unusedSimpArgs false

/-- The first variable with a name, among the first k. -/
def findTo (l : List VV) (nm : ByteArray) : Nat → Int
  | 0 => -1
  | k + 1 => if 0 ≤ findTo l nm k then findTo l nm k else if ((l.getD k v0).1.toList == nm.toList) = true then (k : Int) else -1
theorem findTo_no {l : List VV} {nm : ByteArray} {k : Nat} (h : findTo l nm k = -1) (e : ((l.getD k v0).1.toList == nm.toList) = false) : findTo l nm (k + 1) = -1 := by
  unfold findTo; rw [h, if_neg (by omega), e]; rfl
theorem findTo_yes {l : List VV} {nm : ByteArray} {k : Nat} (h : findTo l nm k = -1) (e : ((l.getD k v0).1.toList == nm.toList) = true) : findTo l nm (k + 1) = k := by
  unfold findTo; rw [h, if_neg (by omega), e]; rfl
theorem findTo_stay {l : List VV} {nm : ByteArray} {k n : Nat} {j : Int} (h : findTo l nm k = j) (hj : 0 ≤ j) (hn : k ≤ n) : findTo l nm n = j := by
  induction n with
  | zero => obtain rfl : k = 0 := by omega
            exact h
  | succ n ih =>
    rcases Nat.lt_or_ge n k with h1 | h1
    · obtain rfl : k = n + 1 := by omega
      exact h
    · unfold findTo; rw [ih h1, if_pos hj]
theorem findTo_ge (l : List VV) (nm : ByteArray) (k : Nat) : -1 ≤ findTo l nm k ∧ findTo l nm k < (k : Int) := by
  induction k with
  | zero => simp [findTo]
  | succ k ih => unfold findTo; split
                 · omega
                 · split <;> omega
set_option maxRecDepth 100000 in
set_option maxHeartbeats 1600000 in
theorem sFind_any {A : Option Addr} {lo hi n c : Nat} {l : List VV} {nm : ByteArray} {w : World} (h : Vars w lo hi A n l) :
    Calls Tryz.prog 125 #[.slice A n c, .string nm] w fun e w' => e = .returned (.int .i64 (findTo l nm n)) ∧ Keeps w w' := by
  have hn := h.le
  go_enter Tryz.func125, Tryz.ntmps125
  go_wp2_with fail
  go_loopw [9] (fun i wr => ∃ k : Nat, k ≤ n ∧ i = .int .i64 k ∧ Hid (findTo l nm k = -1) ∧ Keeps w wr) (fun i _ => n - (intOf i).toNat)
  case atStart => exact ⟨0, Nat.zero_le _, rfl, rfl, keeps_refl _⟩
  case round =>
    obtain ⟨k, hk, rfl, HF, kw⟩ := hrel
    by_cases hlt : k < n
    · obtain ⟨b, off, x, y, rfl, _, _, hc, hd, hx⟩ := Vars.at_ (h.keeps kw) hlt
      have hi1 : (k : Int) < (n : Int) := by omega
      rcases Bool.eq_false_or_eq_true (x.toList == nm.toList) with he | he
      · have HY := hid (findTo_stay (findTo_yes HF.out (by rw [← hx.out]; exact he)) (by omega) hlt)
        go_wp2_with fail
        go_ret
        exact ⟨ret_int HY.out.symm, kw.trans (keeps_alloc _ _)⟩
      · have HN := hid (findTo_no HF.out (by rw [← hx.out]; exact he))
        go_wp2_with fail
        go_roundw
        case rel => exact ⟨k + 1, by omega, by go_num, HN, kw.trans (keeps_alloc _ _)⟩
        case measure => simp [intOf]; omega
    · obtain rfl : k = n := by omega
      go_wp2
      go_ret
      exact ⟨ret_int HF.out.symm, kw⟩
/-- Letters a to z. -/
def chB (c : UInt8) : Bool := decide (97 ≤ (c.toNat : Int)) && decide ((c.toNat : Int) ≤ 122)
def wordTo (s : ByteArray) : Nat → Bool
  | 0 => true
  | k + 1 => wordTo s k && chB (s.data.toList.getD k 0)
def wordB (s : ByteArray) : Bool := wordTo s s.size && inB (s.size : Int) 1 8
theorem getD_byte {s : ByteArray} {k : Nat} (h : k < s.size) : s.data.toList.getD k 0 = s[k] := by
  have h2 : k < s.data.size := h
  have e : s.data.toList.getD k 0 = s.data[k]?.getD 0 := by simp [List.getD]
  rw [e, Array.getElem?_eq_getElem h2]; rfl
theorem wordTo_bad {s : ByteArray} {k n : Nat} (h : wordTo s k = false) (hn : k ≤ n) : wordTo s n = false := by
  induction n with
  | zero => obtain rfl : k = 0 := by omega
            exact h
  | succ n ih =>
    rcases Nat.lt_or_ge n k with h1 | h1
    · obtain rfl : k = n + 1 := by omega
      exact h
    · unfold wordTo; rw [ih h1]; rfl
theorem word_lo {s : ByteArray} {k : Nat} (h : k < s.size) (a : (s[k].toNat : Int) < 97) : wordTo s s.size = false := by
  refine wordTo_bad (k := k + 1) ?_ h
  unfold wordTo chB; rw [getD_byte h, decide_eq_false (by omega), Bool.false_and, Bool.and_false]
theorem word_hi {s : ByteArray} {k : Nat} (h : k < s.size) (a : 122 < (s[k].toNat : Int)) : wordTo s s.size = false := by
  refine wordTo_bad (k := k + 1) ?_ h
  unfold wordTo chB; rw [getD_byte h, decide_eq_false (p := (s[k].toNat : Int) ≤ 122) (by omega), Bool.and_false, Bool.and_false]
theorem word_ok {s : ByteArray} {k : Nat} (h : k < s.size) (a : ¬ (s[k].toNat : Int) < 97) (b : ¬ 122 < (s[k].toNat : Int)) (e : wordTo s k = true) : wordTo s (k + 1) = true := by
  unfold wordTo chB; rw [getD_byte h, e, decide_eq_true (by omega), decide_eq_true (p := (s[k].toNat : Int) ≤ 122) (by omega)]; rfl
set_option maxHeartbeats 1600000 in
theorem isWord_any {s : ByteArray} {w : World} (hs : s.size ≤ maxLen) :
    Calls Tryz.prog 80 #[.string s] w fun e w' => e = .returned (.bool (wordB s)) ∧ w' = w := by
  unfold maxLen at hs
  have HB := hid (show wordB s = (wordTo s s.size && inB (s.size : Int) 1 8) from rfl)
  by_cases h1 : (s.size : Int) < 1
  · go_enter Tryz.func80, Tryz.ntmps80
    go_wp2
    go_ret
    exact ⟨ret_bool (by rw [HB.out, show inB (s.size : Int) 1 8 = false by rw [Bool.eq_false_iff]; intro e; have := inB_true.1 e; omega, Bool.and_false]), rfl⟩
  by_cases h2 : (8 : Int) < (s.size : Int)
  · go_enter Tryz.func80, Tryz.ntmps80
    go_wp2
    go_ret
    exact ⟨ret_bool (by rw [HB.out, show inB (s.size : Int) 1 8 = false by rw [Bool.eq_false_iff]; intro e; have := inB_true.1 e; omega, Bool.and_false]), rfl⟩
  have HI := hid (show inB (s.size : Int) 1 8 = true from inB_true.2 (by omega))
  go_enter Tryz.func80, Tryz.ntmps80
  go_wp2_with fail
  go_loop [14] (fun i => ∃ k : Nat, k ≤ s.size ∧ i = .int .i64 k ∧ Hid (wordTo s k = true)) (fun i => s.size - (intOf i).toNat)
  case atStart => exact ⟨0, Nat.zero_le _, rfl, rfl⟩
  case round =>
    obtain ⟨k, hk, rfl, HW⟩ := hrel
    by_cases hlt : k < s.size
    · have hi1 : (k : Int) < (s.size : Int) := by omega
      by_cases a : (s[k].toNat : Int) < 97
      · have HX := hid (word_lo hlt a)
        go_wp2
        go_ret
        exact ⟨ret_bool (by rw [HB.out, HX.out]; rfl), rfl⟩
      by_cases b : 122 < (s[k].toNat : Int)
      · have HX := hid (word_hi hlt b)
        go_wp2
        go_ret
        exact ⟨ret_bool (by rw [HB.out, HX.out]; rfl), rfl⟩
      have HX := hid (word_ok hlt a b HW.out)
      go_wp2
      go_round
      case rel => exact ⟨k + 1, by omega, by go_num, HX⟩
      case measure => simp [intOf]; omega
    · obtain rfl : k = s.size := by omega
      go_wp2
      go_ret
      exact ⟨ret_bool (by rw [HB.out, HW.out, HI.out]; rfl), rfl⟩
set_option maxHeartbeats 1600000 in
theorem sName_any {s : ByteArray} {w : World} (hs : s.size ≤ maxLen) :
    Calls Tryz.prog 124 #[.string s] w fun e w' => e = .returned (.bool (wordB s)) ∧ w' = w := by
  unfold maxLen at hs
  have HB := hid (show wordB s = (wordTo s s.size && inB (s.size : Int) 1 8) from rfl)
  go_enter Tryz.func124, Tryz.ntmps124
  go_wp2_with fail
  go_loop [4, 3] (fun i0 i => ∃ k : Nat, k ≤ s.size ∧ i = .int .i64 k ∧ Hid (wordTo s k = true)) (fun _ i => s.size - (intOf i).toNat)
  case atStart => exact ⟨0, Nat.zero_le _, rfl, rfl⟩
  case round =>
    obtain ⟨k, hk, rfl, HW⟩ := hrel
    by_cases hlt : k < s.size
    · have hi1 : (k : Int) < (s.size : Int) := by omega
      by_cases a : (s[k].toNat : Int) < 97
      · have HX := hid (word_lo hlt a)
        go_wp2
        go_ret
        exact ⟨ret_bool (by rw [HB.out, HX.out]; rfl), rfl⟩
      by_cases b : 122 < (s[k].toNat : Int)
      · have HX := hid (word_hi hlt b)
        go_wp2
        go_ret
        exact ⟨ret_bool (by rw [HB.out, HX.out]; rfl), rfl⟩
      have HX := hid (word_ok hlt a b HW.out)
      go_wp2
      go_round
      case rel => exact ⟨k + 1, by omega, by go_num, HX⟩
      case measure => simp [intOf]; omega
    · obtain rfl : k = s.size := by omega
      go_wp2_with fail
      refine (l1In_any _ _ _ _).mono ?_
      rintro e w' ⟨rfl, rfl⟩
      go_wp2
      go_ret
      exact ⟨ret_bool (by rw [HB.out, HW.out]; rfl), rfl⟩
end Go.Proofs.YtlkjhkkfdmjfcaaGreatDoor
