/- What the proof of the statement leans on, part 2: walks of functions and plain lemmas, with no condition. -/
import Derived.Lib.QuietBelow
import Derived.BigQuiet
import Derived.Deep.RegionHeld3
import Derived.IntWalk
import Derived.Deep.RegionLaw
import Derived.Deep.QuietTactic
import Derived.BigRegion
import Derived.Test.YtlkjhkkfdmjfcaaGreatDoorQ0
namespace Go.Proofs.YtlkjhkkfdmjfcaaGreatDoor
open Go.RowKit
set_option linter.unusedVariables false
set_option linter.unusedSimpArgs false
/-- The first variable with a name, among the first k. -/
def findTo (l : List VV) (nm : ByteArray) : Nat → Int
  | 0 => -1
  | k + 1 => if 0 ≤ findTo l nm k then findTo l nm k else if ((l.getD k v0).1.toList == nm.toList) = true then (k : Int) else -1
theorem findTo_no {l : List VV} {nm : ByteArray} {k : Nat} (h : findTo l nm k = -1) (e : ((l.getD k v0).1.toList == nm.toList) = false) : findTo l nm (k + 1) = -1 := by
  unfold findTo; rw [h, if_neg (by omega), e]; rfl
theorem findTo_yes {l : List VV} {nm : ByteArray} {k : Nat} (h : findTo l nm k = -1) (e : ((l.getD k v0).1.toList == nm.toList) = true) : findTo l nm (k + 1) = k := by
  unfold findTo; rw [h, if_neg (by omega), e]; rfl
theorem findTo_stay {l : List VV} {nm : ByteArray} {k n : Nat} {j : Int} (h : findTo l nm k = j) (hj : 0 ≤ j) (hn : k ≤ n) : findTo l nm n = j := by
  induction n with
  | zero => obtain rfl : k = 0 := by omega
            exact h
  | succ n ih =>
    rcases Nat.lt_or_ge n k with h1 | h1
    · obtain rfl : k = n + 1 := by omega
      exact h
    · unfold findTo; rw [ih h1, if_pos hj]
theorem findTo_ge (l : List VV) (nm : ByteArray) (k : Nat) : -1 ≤ findTo l nm k ∧ findTo l nm k < (k : Int) := by
  induction k with
  | zero => simp [findTo]
  | succ k ih => unfold findTo; split
                 · omega
                 · split <;> omega
set_option maxRecDepth 100000 in
set_option maxHeartbeats 1600000 in
theorem sFind_any {A : Option Addr} {lo hi n c : Nat} {l : List VV} {nm : ByteArray} {w : World} (h : Vars w lo hi A n l) :
    Calls Tryz.prog 125 #[.slice A n c, .string nm] w fun e w' => e = .returned (.int .i64 (findTo l nm n)) ∧ Keeps w w' := by
  have hn := h.le
  go_enter Tryz.func125, Tryz.ntmps125
  go_wp2_with fail
  go_loopw [9] (fun i wr => ∃ k : Nat, k ≤ n ∧ i = .int .i64 k ∧ Hid (findTo l nm k = -1) ∧ Keeps w wr) (fun i _ => n - (intOf i).toNat)
  case atStart => exact ⟨0, Nat.zero_le _, rfl, rfl, keeps_refl _⟩
  case round =>
    obtain ⟨k, hk, rfl, HF, kw⟩ := hrel
    by_cases hlt : k < n
    · obtain ⟨b, off, x, y, rfl, _, _, hc, hd, hx⟩ := Vars.at_ (h.keeps kw) hlt
      have hi1 : (k : Int) < (n : Int) := by omega
      rcases Bool.eq_false_or_eq_true (x.toList == nm.toList) with he | he
      · have HY := hid (findTo_stay (findTo_yes HF.out (by rw [← hx.out]; exact he)) (by omega) hlt)
        go_wp2_with fail
        go_ret
        exact ⟨ret_int HY.out.symm, kw.trans (keeps_alloc _ _)⟩
      · have HN := hid (findTo_no HF.out (by rw [← hx.out]; exact he))
        go_wp2_with fail
        go_roundw
        case rel => exact ⟨k + 1, by omega, by go_num, HN, kw.trans (keeps_alloc _ _)⟩
        case measure => simp [intOf]; omega
    · obtain rfl : k = n := by omega
      go_wp2
      go_ret
      exact ⟨ret_int HF.out.symm, kw⟩
/-- Letters a to z. -/
def chB (c : UInt8) : Bool := decide (97 ≤ (c.toNat : Int)) && decide ((c.toNat : Int) ≤ 122)
def wordTo (s : ByteArray) : Nat → Bool
  | 0 => true
  | k + 1 => wordTo s k && chB (s.data.toList.getD k 0)
def wordB (s : ByteArray) : Bool := wordTo s s.size && inB (s.size : Int) 1 8
theorem getD_byte {s : ByteArray} {k : Nat} (h : k < s.size) : s.data.toList.getD k 0 = s[k] := by
  have h2 : k < s.data.size := h
  have e : s.data.toList.getD k 0 = s.data[k]?.getD 0 := by simp [List.getD]
  rw [e, Array.getElem?_eq_getElem h2]; rfl
theorem wordTo_bad {s : ByteArray} {k n : Nat} (h : wordTo s k = false) (hn : k ≤ n) : wordTo s n = false := by
  induction n with
  | zero => obtain rfl : k = 0 := by omega
            exact h
  | succ n ih =>
    rcases Nat.lt_or_ge n k with h1 | h1
    · obtain rfl : k = n + 1 := by omega
      exact h
    · unfold wordTo; rw [ih h1]; rfl
theorem word_lo {s : ByteArray} {k : Nat} (h : k < s.size) (a : (s[k].toNat : Int) < 97) : wordTo s s.size = false := by
  refine wordTo_bad (k := k + 1) ?_ h
  unfold wordTo chB; rw [getD_byte h, decide_eq_false (by omega), Bool.false_and, Bool.and_false]
theorem word_hi {s : ByteArray} {k : Nat} (h : k < s.size) (a : 122 < (s[k].toNat : Int)) : wordTo s s.size = false := by
  refine wordTo_bad (k := k + 1) ?_ h
  unfold wordTo chB; rw [getD_byte h, decide_eq_false (p := (s[k].toNat : Int) ≤ 122) (by omega), Bool.and_false, Bool.and_false]
theorem word_ok {s : ByteArray} {k : Nat} (h : k < s.size) (a : ¬ (s[k].toNat : Int) < 97) (b : ¬ 122 < (s[k].toNat : Int)) (e : wordTo s k = true) : wordTo s (k + 1) = true := by
  unfold wordTo chB; rw [getD_byte h, e, decide_eq_true (by omega), decide_eq_true (p := (s[k].toNat : Int) ≤ 122) (by omega)]; rfl
set_option maxHeartbeats 1600000 in
theorem isWord_any {s : ByteArray} {w : World} (hs : s.size ≤ maxLen) :
    Calls Tryz.prog 80 #[.string s] w fun e w' => e = .returned (.bool (wordB s)) ∧ w' = w := by
  unfold maxLen at hs
  have HB := hid (show wordB s = (wordTo s s.size && inB (s.size : Int) 1 8) from rfl)
  by_cases h1 : (s.size : Int) < 1
  · go_enter Tryz.func80, Tryz.ntmps80
    go_wp2
    go_ret
    exact ⟨ret_bool (by rw [HB.out, show inB (s.size : Int) 1 8 = false by rw [Bool.eq_false_iff]; intro e; have := inB_true.1 e; omega, Bool.and_false]), rfl⟩
  by_cases h2 : (8 : Int) < (s.size : Int)
  · go_enter Tryz.func80, Tryz.ntmps80
    go_wp2
    go_ret
    exact ⟨ret_bool (by rw [HB.out, show inB (s.size : Int) 1 8 = false by rw [Bool.eq_false_iff]; intro e; have := inB_true.1 e; omega, Bool.and_false]), rfl⟩
  have HI := hid (show inB (s.size : Int) 1 8 = true from inB_true.2 (by omega))
  go_enter Tryz.func80, Tryz.ntmps80
  go_wp2_with fail
  go_loop [14] (fun i => ∃ k : Nat, k ≤ s.size ∧ i = .int .i64 k ∧ Hid (wordTo s k = true)) (fun i => s.size - (intOf i).toNat)
  case atStart => exact ⟨0, Nat.zero_le _, rfl, rfl⟩
  case round =>
    obtain ⟨k, hk, rfl, HW⟩ := hrel
    by_cases hlt : k < s.size
    · have hi1 : (k : Int) < (s.size : Int) := by omega
      by_cases a : (s[k].toNat : Int) < 97
      · have HX := hid (word_lo hlt a)
        go_wp2
        go_ret
        exact ⟨ret_bool (by rw [HB.out, HX.out]; rfl), rfl⟩
      by_cases b : 122 < (s[k].toNat : Int)
      · have HX := hid (word_hi hlt b)
        go_wp2
        go_ret
        exact ⟨ret_bool (by rw [HB.out, HX.out]; rfl), rfl⟩
      have HX := hid (word_ok hlt a b HW.out)
      go_wp2
      go_round
      case rel => exact ⟨k + 1, by omega, by go_num, HX⟩
      case measure => simp [intOf]; omega
    · obtain rfl : k = s.size := by omega
      go_wp2
      go_ret
      exact ⟨ret_bool (by rw [HB.out, HW.out, HI.out]; rfl), rfl⟩
set_option maxHeartbeats 1600000 in
theorem sName_any {s : ByteArray} {w : World} (hs : s.size ≤ maxLen) :
    Calls Tryz.prog 124 #[.string s] w fun e w' => e = .returned (.bool (wordB s)) ∧ w' = w := by
  unfold maxLen at hs
  have HB := hid (show wordB s = (wordTo s s.size && inB (s.size : Int) 1 8) from rfl)
  go_enter Tryz.func124, Tryz.ntmps124
  go_wp2_with fail
  go_loop [4, 3] (fun i0 i => ∃ k : Nat, k ≤ s.size ∧ i = .int .i64 k ∧ Hid (wordTo s k = true)) (fun _ i => s.size - (intOf i).toNat)
  case atStart => exact ⟨0, Nat.zero_le _, rfl, rfl⟩
  case round =>
    obtain ⟨k, hk, rfl, HW⟩ := hrel
    by_cases hlt : k < s.size
    · have hi1 : (k : Int) < (s.size : Int) := by omega
      by_cases a : (s[k].toNat : Int) < 97
      · have HX := hid (word_lo hlt a)
        go_wp2
        go_ret
        exact ⟨ret_bool (by rw [HB.out, HX.out]; rfl), rfl⟩
      by_cases b : 122 < (s[k].toNat : Int)
      · have HX := hid (word_hi hlt b)
        go_wp2
        go_ret
        exact ⟨ret_bool (by rw [HB.out, HX.out]; rfl), rfl⟩
      have HX := hid (word_ok hlt a b HW.out)
      go_wp2
      go_round
      case rel => exact ⟨k + 1, by omega, by go_num, HX⟩
      case measure => simp [intOf]; omega
    · obtain rfl : k = s.size := by omega
      go_wp2_with fail
      refine (l1In_any _ _ _ _).mono ?_
      rintro e w' ⟨rfl, rfl⟩
      go_wp2
      go_ret
      exact ⟨ret_bool (by rw [HB.out, HW.out]; rfl), rfl⟩
end Go.Proofs.YtlkjhkkfdmjfcaaGreatDoor
namespace Go.Proofs.YtlkjhkkfdmjfcaaGreatDoor
open Go.RowKit Go.Sort
set_option linter.unusedVariables false
set_option linter.unusedSimpArgs false
def schRow (l : List VV) (k : Nat) : Bool := wordB (l.getD k v0).1 && inB (l.getD k v0).2 2 8 && decide (findTo l (l.getD k v0).1 k < 0)
def schTo (l : List VV) : Nat → Bool
  | 0 => true
  | k + 1 => schTo l k && schRow l k
/-- A schema. -/
def schB (l : List VV) : Bool := inB (l.length : Int) 1 6 && schTo l l.length
theorem schTo_bad {l : List VV} {k n : Nat} (h : schTo l k = false) (hn : k ≤ n) : schTo l n = false := by
  induction n with
  | zero => obtain rfl : k = 0 := by omega
            exact h
  | succ n ih =>
    rcases Nat.lt_or_ge n k with h1 | h1
    · obtain rfl : k = n + 1 := by omega
      exact h
    · unfold schTo; rw [ih h1]; rfl
theorem schB_no {l : List VV} {n k : Nat} (hl : l.length = n) (hk : k < n) (h : schRow l k = false) : schB l = false := by
  unfold schB; rw [hl, schTo_bad (k := k + 1) (by unfold schTo; rw [h, Bool.and_false]) hk, Bool.and_false]
theorem schB_len {l : List VV} (h : ¬ (1 ≤ l.length ∧ l.length ≤ 6)) : schB l = false := by
  unfold schB; rw [show inB (l.length : Int) 1 6 = false by rw [Bool.eq_false_iff]; intro e; have := inB_true.1 e; omega]; rfl
theorem schB_yes {l : List VV} {n : Nat} (hl : l.length = n) (h1 : 1 ≤ n) (h6 : n ≤ 6) (h : schTo l n = true) : schB l = true := by
  unfold schB; rw [hl, h, Bool.and_true]; exact inB_true.2 (by omega)
section
variable {l : List VV} {k : Nat} {x : ByteArray} {y : Int}
theorem schRow_no1 (hx : (x, y) = l.getD k v0) (h : wordB x = false) : schRow l k = false := by unfold schRow; rw [← hx]; simp [h]
theorem schRow_no2 (hx : (x, y) = l.getD k v0) (h : inB y 2 8 = false) : schRow l k = false := by unfold schRow; rw [← hx]; simp [h]
theorem schRow_no3 (hx : (x, y) = l.getD k v0) (h : 0 ≤ findTo l x k) : schRow l k = false := by unfold schRow; rw [← hx]; simp [decide_eq_false (show ¬ findTo l x k < 0 by omega)]
theorem schTo_yes (e : schTo l k = true) (hx : (x, y) = l.getD k v0) (h : wordB x = true) (h2 : inB y 2 8 = true) (h3 : findTo l x k = -1) : schTo l (k + 1) = true := by
  unfold schTo schRow; rw [← hx]; simp [e, h, h2, h3]
end
/-- Names of lengths that there are. -/
def NamesOk (l : List VV) : Prop := ∀ j, (l.getD j v0).1.size ≤ maxLen
theorem Vars.front {w : World} {lo hi n k : Nat} {A : Option Addr} {l : List VV} (h : Vars w lo hi A n l) (hk : k ≤ n) : Vars w lo hi A k (l.take k) := by
  have hl := Vars.len h
  have hlt : (l.take k).length = k := by simp; omega
  refine ⟨by rw [vrs_len, hlt], Nat.le_trans hk h.2.1, h.2.2.1, fun h0 => ?_⟩
  obtain ⟨b, off, e, h1, h2, h3⟩ := h.2.2.2 (by omega)
  refine ⟨b, off, e, h1, h2, fun j hj => ?_⟩
  rw [h3 j (by omega)]
  have e1 : vrs l = vrs (l.take k) ++ vrs (l.drop k) := by simp [vrs, ← List.flatMap_append, List.take_append_drop]
  rw [e1]
  simp only [List.getD]
  rw [List.getElem?_append_left (by rw [vrs_len, hlt]; exact hj)]
theorem findTo_take (l : List VV) (nm : ByteArray) {k : Nat} (hk : k ≤ l.length) : ∀ j, j ≤ k → findTo (l.take k) nm j = findTo l nm j
  | 0, _ => rfl
  | j + 1, hj => by
    unfold findTo
    rw [findTo_take l nm hk j (by omega)]
    have : (l.take k).getD j v0 = l.getD j v0 := by simp [List.getD, show j < k by omega]
    rw [this]
set_option maxRecDepth 100000 in
set_option maxHeartbeats 3200000 in
theorem IsSchema_any {A : Option Addr} {lo hi n c : Nat} {l : List VV} {w : World} (h : Vars w lo hi A n l) (hs : NamesOk l) (hcap : n ≤ c) (hc64 : c ≤ maxLen) :
    Calls Tryz.prog 50 #[.slice A n c] w fun e w' => e = .returned (.bool (schB l)) ∧ Keeps w w' := by
  have hn := h.le
  have hl := Vars.len h
  unfold maxLen at hc64
  have HL := hid hl
  have HS := hid hs
  clear hl hs
  have hcap2 : (n : Int) ≤ (c : Int) := by omega
  by_cases h1 : (n : Int) < 1
  · go_enter Tryz.func50, Tryz.ntmps50
    go_wp2
    go_ret
    exact ⟨ret_bool (schB_len (by rw [HL.out]; omega)).symm, keeps_refl _⟩
  by_cases h6 : (6 : Int) < (n : Int)
  · go_enter Tryz.func50, Tryz.ntmps50
    go_wp2
    go_ret
    exact ⟨ret_bool (schB_len (by rw [HL.out]; omega)).symm, keeps_refl _⟩
  go_enter Tryz.func50, Tryz.ntmps50
  go_wp2_with fail
  go_loopw [17] (fun i wr => ∃ k : Nat, k ≤ n ∧ i = .int .i64 k ∧ Hid (schTo l k = true) ∧ Keeps w wr) (fun i _ => n - (intOf i).toNat)
  case atStart => exact ⟨0, Nat.zero_le _, rfl, rfl, keeps_refl _⟩
  case round =>
    obtain ⟨k, hk, rfl, HT, kw⟩ := hrel
    obtain ⟨wo, rfl⟩ : ∃ u : World, u = wr := ⟨_, rfl⟩
    by_cases hlt : k < n
    · obtain ⟨b, off, x, y, rfl, _, _, hc, hd, hx⟩ := Vars.at_ (h.keeps kw) hlt
      have hi1 : (k : Int) < (n : Int) := by omega
      have hxs : x.size ≤ maxLen := by have := HS.out k; rw [← hx.out] at this; exact this
      have b4 : Bl (wo.alloc (.cells #[.string x, .int .i64 y] 82)) wo.heap.size [.string x, .int .i64 y] := Bl.new' rfl (by simp)
      have kA := kw.trans (keeps_alloc wo (.cells #[.string x, .int .i64 y] 82))
      go_wp2_with fail
      refine (isWord_any hxs).mono ?_
      rintro e w' ⟨rfl, rfl⟩
      obtain ⟨p1, H1⟩ : ∃ p, Hid (wordB x = p) := ⟨_, rfl⟩
      rw [H1.out]
      cases p1
      · have HX := hid (schB_no HL.out hlt (schRow_no1 hx.out H1.out))
        go_wp2
        go_ret
        exact ⟨ret_bool HX.out.symm, kA⟩
      by_cases y2 : y < 2
      · have HX := hid (schB_no HL.out hlt (schRow_no2 hx.out (by rw [Bool.eq_false_iff]; intro e; have := inB_true.1 e; omega)))
        go_wp2
        go_ret
        exact ⟨ret_bool HX.out.symm, kA⟩
      by_cases y8 : 8 < y
      · have HX := hid (schB_no HL.out hlt (schRow_no2 hx.out (by rw [Bool.eq_false_iff]; intro e; have := inB_true.1 e; omega)))
        go_wp2
        go_ret
        exact ⟨ret_bool HX.out.symm, kA⟩
      have H2 := hid (show inB y 2 8 = true from inB_true.2 (by omega))
      have hkc : (k : Int) ≤ (c : Int) := by omega
      have hvk := Vars.front (h.keeps kA) (k := k) (by omega)
      go_wp2_with fail
      clear hc hd
      go_loopw [40] (fun i wv => ∃ j : Nat, j ≤ k ∧ i = .int .i64 j ∧ Hid (findTo l x j = -1) ∧ Bl wv wo.heap.size [.string x, .int .i64 y] ∧ Keeps w wv) (fun i _ => k - (intOf i).toNat)
      case atStart => exact ⟨0, Nat.zero_le _, rfl, rfl, b4, kA⟩
      clear b4 kA kw hvk
      case round =>
        obtain ⟨j, hj, rfl, HF, b4, kv⟩ := hrel
        by_cases hjt : j < k
        · obtain ⟨b', off', x', y', e', _, _, hc, hd, hx'⟩ := Vars.at_ (h.keeps kv) (k := j) (by omega)
          obtain ⟨rfl, rfl⟩ : b = b' ∧ off = off' := by simpa using e'
          clear e'
          have hj1 : (j : Int) < (k : Int) := by omega
          have ca0 := (b4.2 0 _ rfl).1
          have lt4 := b4.lt
          have kB := kv.trans (keeps_alloc wr (.cells #[.string x', .int .i64 y'] 82))
          have b4B := b4.keeps (keeps_alloc wr (.cells #[.string x', .int .i64 y'] 82))
          rcases Bool.eq_false_or_eq_true (x'.toList == x.toList) with he | he
          · have HY := hid (findTo_stay (findTo_yes HF.out (by rw [← hx'.out]; exact he)) (by omega) hjt)
            have HX := hid (schB_no HL.out hlt (schRow_no3 hx.out (by rw [HY.out]; omega)))
            go_wp2_with fail
            go_ret
            exact ⟨ret_bool HX.out.symm, kB⟩
          · have HN := hid (findTo_no HF.out (by rw [← hx'.out]; exact he))
            go_wp2_with fail
            go_roundw
            case rel => exact ⟨j + 1, by omega, by go_num, HN, b4B, kB⟩
            case measure => simp [intOf]; omega
        · obtain rfl : j = k := by omega
          have HN := hid (schTo_yes HT.out hx.out H1.out H2.out HF.out)
          go_wp2_with fail
          go_roundw
          case rel => exact ⟨j + 1, by omega, by go_num, HN, kv⟩
          case measure => simp [intOf]; omega
    · obtain rfl : k = n := by omega
      go_wp2
      go_ret
      exact ⟨ret_bool (schB_yes HL.out (by omega) (by omega) HT.out).symm, kw⟩
set_option maxRecDepth 100000 in
set_option maxHeartbeats 6400000 in
theorem sGood_any {A : Option Addr} {lo hi n c : Nat} {l : List VV} {w : World} (h : Vars w lo hi A n l) (hs : NamesOk l) (hcap : n ≤ c) (hc64 : c ≤ maxLen) :
    Calls Tryz.prog 86 #[.slice A n c] w fun e w' => e = .returned (.bool (schB l)) ∧ Keeps w w' := by
  have hn := h.le
  have hl := Vars.len h
  unfold maxLen at hc64
  have HL := hid hl
  have HS := hid hs
  clear hl hs
  have hcap2 : (n : Int) ≤ (c : Int) := by omega
  obtain ⟨p0, H0⟩ : ∃ p, Hid (inB (n : Int) 1 6 = p) := ⟨_, rfl⟩
  go_enter Tryz.func86, Tryz.ntmps86
  go_wp2_with fail
  refine (l1In_any _ _ _ _).mono ?_
  rintro e w' ⟨rfl, rfl⟩
  rw [H0.out]
  cases p0
  · go_wp2
    go_ret
    exact ⟨ret_bool (schB_len (by rw [HL.out]; intro e; have := inB_true.2 (show (1 : Int) ≤ (n : Int) ∧ (n : Int) ≤ 6 by omega); rw [H0.out] at this; cases this)).symm, keeps_refl _⟩
  have h16 := inB_true.1 H0.out
  go_wp2_with fail
  go_loopw [11] (fun i wr => ∃ k : Nat, k ≤ n ∧ i = .int .i64 k ∧ Hid (schTo l k = true) ∧ Keeps w wr) (fun i _ => n - (intOf i).toNat)
  case atStart => exact ⟨0, Nat.zero_le _, rfl, rfl, keeps_refl _⟩
  case round =>
    obtain ⟨k, hk, rfl, HT, kw⟩ := hrel
    by_cases hlt : k < n
    · obtain ⟨b, off, x, y, rfl, _, _, hc, hd, hx⟩ := Vars.at_ (h.keeps kw) hlt
      have hi1 : (k : Int) < (n : Int) := by omega
      have hkc : (k : Int) ≤ (c : Int) := by omega
      have hxs : x.size ≤ maxLen := by have := HS.out k; rw [← hx.out] at this; exact this
      have b4 : Bl (wr.alloc (.cells #[.string x, .int .i64 y] 82)) wr.heap.size [.string x, .int .i64 y] := Bl.new' rfl (by simp)
      have kA := kw.trans (keeps_alloc wr (.cells #[.string x, .int .i64 y] 82))
      have r1 := fun d os => cell_regrown (b4.2 0 _ rfl).1 d os
      have r2 := fun d os => cell_regrown (b4.2 1 _ rfl).1 d os
      have hvk := fun (d : Nat) (os : Array Obj) => Vars.front (h.keeps (kA.trans (below_regrown (wr.alloc (.cells #[.string x, .int .i64 y] 82)) d os))) (k := k) (by omega)
      have cN := hid (fun (d : Nat) (os : Array Obj) => (sName_any (w := grow (redrawn (wr.alloc (.cells #[.string x, .int .i64 y] 82)) d) os) hxs).mono (fun e w' h => (⟨h.1, by rw [h.2]; exact keeps_refl _⟩ : e = .returned (.bool (wordB x)) ∧ Keeps (grow (redrawn (wr.alloc (.cells #[.string x, .int .i64 y] 82)) d) os) w')))
      have cI := hid (fun (d : Nat) (os : Array Obj) => (l1In_any y 2 8 (grow (redrawn (wr.alloc (.cells #[.string x, .int .i64 y] 82)) d) os)).mono (fun e w' h => (⟨h.1, by rw [← h.2]; exact keeps_refl _⟩ : e = .returned (.bool (inB y 2 8)) ∧ Keeps (grow (redrawn (wr.alloc (.cells #[.string x, .int .i64 y] 82)) d) os) w')))
      have cF := hid (fun (d : Nat) (os : Array Obj) => sFind_any (c := c) (nm := x) (hvk d os))
      obtain ⟨p1, H1⟩ : ∃ p, Hid (wordB x = p) := ⟨_, rfl⟩
      obtain ⟨p2, H2⟩ : ∃ p, Hid (inB y 2 8 = p) := ⟨_, rfl⟩
      obtain ⟨F, HF0⟩ : ∃ F : Int, Hid (findTo (l.take k) x k = F) := ⟨_, rfl⟩
      have HF := hid ((findTo_take l x (k := k) (by rw [HL.out]; omega) k (Nat.le_refl _)).symm.trans HF0.out)
      have hge := findTo_ge l x k
      rw [HF.out] at hge
      rw [H1.out] at cN
      rw [H2.out] at cI
      rw [HF0.out] at cF
      clear b4 hvk
      cases p1
      · have HX := hid (schB_no HL.out hlt (schRow_no1 hx.out H1.out))
        go_wp2_with fail
        refine wp_region_quiet_below (by kernel_rfl) (by kernel_rfl) ?_
        iterate 19 (go_big_quiet_step ((first | with_reducible exact Calls.regrown_of (cN.out _ _) | with_reducible exact Calls.regrown_of (cI.out _ _) | with_reducible exact Calls.regrown_of (cF.out _ _))))
        refine wpQuiet_nil ?_
        intro _ hw'
        obtain ⟨⟨dq, osq⟩, hw''⟩ := hw'
        subst hw''
        clear r1 r2 cN cI cF
        have kQ := below_regrown (wr.alloc (.cells #[.string x, .int .i64 y] 82)) dq osq
        obtain ⟨wQ, hwQ⟩ : ∃ u, u = grow (redrawn (wr.alloc (.cells #[.string x, .int .i64 y] 82)) dq) osq := ⟨_, rfl⟩
        rw [← hwQ] at kQ
        rw [← hwQ]
        clear hwQ
        have kw2 := kA.trans kQ
        clear kA kQ
        go_wp2
        go_ret
        exact ⟨ret_bool HX.out.symm, kw2⟩
      cases p2
      · have HX := hid (schB_no HL.out hlt (schRow_no2 hx.out H2.out))
        go_wp2_with fail
        refine wp_region_quiet_below (by kernel_rfl) (by kernel_rfl) ?_
        iterate 19 (go_big_quiet_step ((first | with_reducible exact Calls.regrown_of (cN.out _ _) | with_reducible exact Calls.regrown_of (cI.out _ _) | with_reducible exact Calls.regrown_of (cF.out _ _))))
        refine wpQuiet_nil ?_
        intro _ hw'
        obtain ⟨⟨dq, osq⟩, hw''⟩ := hw'
        subst hw''
        clear r1 r2 cN cI cF
        have kQ := below_regrown (wr.alloc (.cells #[.string x, .int .i64 y] 82)) dq osq
        obtain ⟨wQ, hwQ⟩ : ∃ u, u = grow (redrawn (wr.alloc (.cells #[.string x, .int .i64 y] 82)) dq) osq := ⟨_, rfl⟩
        rw [← hwQ] at kQ
        rw [← hwQ]
        clear hwQ
        have kw2 := kA.trans kQ
        clear kA kQ
        go_wp2
        go_ret
        exact ⟨ret_bool HX.out.symm, kw2⟩
      by_cases hF : 0 ≤ F
      · have HX := hid (schB_no HL.out hlt (schRow_no3 hx.out (by rw [HF.out]; exact hF)))
        go_wp2_with fail
        refine wp_region_quiet_below (by kernel_rfl) (by kernel_rfl) ?_
        iterate 19 (go_big_quiet_step ((first | with_reducible exact Calls.regrown_of (cN.out _ _) | with_reducible exact Calls.regrown_of (cI.out _ _) | with_reducible exact Calls.regrown_of (cF.out _ _))))
        refine wpQuiet_nil ?_
        intro _ hw'
        obtain ⟨⟨dq, osq⟩, hw''⟩ := hw'
        subst hw''
        clear r1 r2 cN cI cF
        have kQ := below_regrown (wr.alloc (.cells #[.string x, .int .i64 y] 82)) dq osq
        obtain ⟨wQ, hwQ⟩ : ∃ u, u = grow (redrawn (wr.alloc (.cells #[.string x, .int .i64 y] 82)) dq) osq := ⟨_, rfl⟩
        rw [← hwQ] at kQ
        rw [← hwQ]
        clear hwQ
        have kw2 := kA.trans kQ
        clear kA kQ
        go_wp2
        go_ret
        exact ⟨ret_bool HX.out.symm, kw2⟩
      · have HN := hid (schTo_yes HT.out hx.out H1.out H2.out (by rw [HF.out]; omega))
        go_wp2_with fail
        refine wp_region_quiet_below (by kernel_rfl) (by kernel_rfl) ?_
        iterate 19 (go_big_quiet_step ((first | with_reducible exact Calls.regrown_of (cN.out _ _) | with_reducible exact Calls.regrown_of (cI.out _ _) | with_reducible exact Calls.regrown_of (cF.out _ _))))
        refine wpQuiet_nil ?_
        intro _ hw'
        obtain ⟨⟨dq, osq⟩, hw''⟩ := hw'
        subst hw''
        clear r1 r2 cN cI cF
        have kQ := below_regrown (wr.alloc (.cells #[.string x, .int .i64 y] 82)) dq osq
        obtain ⟨wQ, hwQ⟩ : ∃ u, u = grow (redrawn (wr.alloc (.cells #[.string x, .int .i64 y] 82)) dq) osq := ⟨_, rfl⟩
        rw [← hwQ] at kQ
        rw [← hwQ]
        clear hwQ
        have kw2 := kA.trans kQ
        clear kA kQ
        go_wp2_with fail
        go_roundw
        case rel => exact ⟨k + 1, by omega, by go_num, HN, kw2⟩
        case measure => simp [intOf]; omega
    · obtain rfl : k = n := by omega
      go_wp2
      go_ret
      exact ⟨ret_bool (schB_yes HL.out (by omega) (by omega) HT.out).symm, kw⟩
end Go.Proofs.YtlkjhkkfdmjfcaaGreatDoor
namespace Go.Proofs.YtlkjhkkfdmjfcaaGreatDoor
open Go.RowKit
set_option linter.unusedVariables false
set_option linter.unusedSimpArgs false
/-- The product of the first k numbers of levels. -/
def prodTo (l : List VV) : Nat → Int
  | 0 => 1
  | k + 1 => prodTo l k * (l.getD k v0).2
/-- All of them have from 2 to 8 levels. -/
def LvOk (l : List VV) (n : Nat) : Prop := ∀ j, j < n → 2 ≤ (l.getD j v0).2 ∧ (l.getD j v0).2 ≤ 8
theorem schTo_lv {l : List VV} : ∀ k, schTo l k = true → LvOk l k
  | 0, _ => fun j hj => absurd hj (by omega)
  | k + 1, h => fun j hj => by
    unfold schTo at h
    simp only [Bool.and_eq_true] at h
    rcases Nat.lt_or_ge j k with h1 | h1
    · exact schTo_lv k h.1 j h1
    · obtain rfl : j = k := by omega
      have h2 := h.2
      unfold schRow at h2
      simp only [Bool.and_eq_true] at h2
      exact inB_true.1 h2.1.2
theorem schB_lv {l : List VV} {n : Nat} (hl : l.length = n) (h : schB l = true) : LvOk l n ∧ 1 ≤ n ∧ n ≤ 6 := by
  unfold schB at h
  simp only [Bool.and_eq_true] at h
  have := inB_true.1 h.1
  rw [hl] at h this
  exact ⟨schTo_lv n h.2, by omega, by omega⟩
theorem prodTo_bd {l : List VV} {n : Nat} (h : LvOk l n) : ∀ k, k ≤ n → 1 ≤ prodTo l k ∧ prodTo l k ≤ 8 ^ k
  | 0, _ => by simp [prodTo]
  | k + 1, hk => by
    have ih := prodTo_bd h k (by omega)
    have hv := h k (by omega)
    unfold prodTo
    refine ⟨by have := Int.mul_le_mul ih.1 (show 1 ≤ (l.getD k v0).2 by omega) (by omega) (by omega); omega, ?_⟩
    have := Int.mul_le_mul ih.2 hv.2 (by omega) (by have : (0 : Int) ≤ 8 ^ k := Int.pow_nonneg (by omega); exact this)
    rw [Int.pow_succ]; exact this
theorem pow8 {k : Nat} (h : k ≤ 6) : (8 : Int) ^ k ≤ 262144 := by
  rcases k with _ | _ | _ | _ | _ | _ | _ | k <;> first | decide | omega
set_option maxRecDepth 100000 in
set_option maxHeartbeats 1600000 in
theorem combinations_any {A : Option Addr} {lo hi n c : Nat} {l : List VV} {w : World} (h : Vars w lo hi A n l) (hv : LvOk l n) (h6 : n ≤ 6) :
    Calls Tryz.prog 141 #[.slice A n c] w fun e w' => e = .returned (.int .i64 (prodTo l n)) ∧ Keeps w w' := by
  have hn := h.le
  have HV := hid hv
  clear hv
  go_enter Tryz.func141, Tryz.ntmps141
  go_wp2_with fail
  go_loopw [3, 8] (fun p i wr => ∃ k : Nat, k ≤ n ∧ i = .int .i64 k ∧ p = .int .i64 (prodTo l k) ∧ Keeps w wr) (fun _ i _ => n - (intOf i).toNat)
  case atStart => exact ⟨0, Nat.zero_le _, rfl, rfl, keeps_refl _⟩
  case round =>
    obtain ⟨k, hk, rfl, rfl, kw⟩ := hrel
    by_cases hlt : k < n
    · obtain ⟨b, off, x, y, rfl, _, _, hc, hd, hx⟩ := Vars.at_ (h.keeps kw) hlt
      have hi1 : (k : Int) < (n : Int) := by omega
      have HY := hid (show y = (l.getD k v0).2 from congrArg Prod.snd hx.out)
      have hP := prodTo_bd HV.out k (by omega)
      have hP2 := prodTo_bd HV.out (k + 1) (by omega)
      have hp6 := pow8 (k := k) (by omega)
      have hp7 := pow8 (k := k + 1) (by omega)
      have e1 : prodTo l (k + 1) = prodTo l k * y := by show prodTo l k * (l.getD k v0).2 = _; rw [HY.out]
      rw [e1] at hP2
      have E1 := hid e1
      clear e1 hx
      obtain ⟨P, hPe⟩ : ∃ P, prodTo l k = P := ⟨_, rfl⟩
      rw [hPe] at hP hP2 E1 ⊢
      clear hPe
      have hb1 : 1 ≤ P * y := hP2.1
      have hb2 : P * y ≤ 262144 := by omega
      clear hP hP2 hp6 hp7
      go_wp2_with fail
      go_roundw
      case rel => exact ⟨k + 1, by omega, by go_num, by rw [E1.out], kw.trans (keeps_alloc _ _)⟩
      case measure => simp [intOf]; omega
    · obtain rfl : k = n := by omega
      go_wp2
      go_ret
      exact ⟨rfl, kw⟩
set_option maxRecDepth 100000 in
set_option maxHeartbeats 1600000 in
theorem sCount_any {A : Option Addr} {lo hi n c : Nat} {l : List VV} {w : World} (h : Vars w lo hi A n l) (hv : LvOk l n) (h6 : n ≤ 6) :
    Calls Tryz.prog 161 #[.slice A n c] w fun e w' => e = .returned (.int .i64 (prodTo l n)) ∧ Keeps w w' := by
  have hn := h.le
  have HV := hid hv
  clear hv
  go_enter Tryz.func161, Tryz.ntmps161
  go_wp2_with fail
  go_loopw [3, 8] (fun p i wr => ∃ k : Nat, k ≤ n ∧ i = .int .i64 k ∧ p = .int .i64 (prodTo l k) ∧ Keeps w wr) (fun _ i _ => n - (intOf i).toNat)
  case atStart => exact ⟨0, Nat.zero_le _, rfl, rfl, keeps_refl _⟩
  case round =>
    obtain ⟨k, hk, rfl, rfl, kw⟩ := hrel
    by_cases hlt : k < n
    · obtain ⟨b, off, x, y, rfl, _, _, hc, hd, hx⟩ := Vars.at_ (h.keeps kw) hlt
      have hi1 : (k : Int) < (n : Int) := by omega
      have HY := hid (show y = (l.getD k v0).2 from congrArg Prod.snd hx.out)
      have hP := prodTo_bd HV.out k (by omega)
      have hP2 := prodTo_bd HV.out (k + 1) (by omega)
      have hp6 := pow8 (k := k) (by omega)
      have hp7 := pow8 (k := k + 1) (by omega)
      have e1 : prodTo l (k + 1) = prodTo l k * y := by show prodTo l k * (l.getD k v0).2 = _; rw [HY.out]
      rw [e1] at hP2
      have E1 := hid e1
      clear e1 hx
      obtain ⟨P, hPe⟩ : ∃ P, prodTo l k = P := ⟨_, rfl⟩
      rw [hPe] at hP hP2 E1 ⊢
      clear hPe
      have hb1 : 1 ≤ P * y := hP2.1
      have hb2 : P * y ≤ 262144 := by omega
      clear hP hP2 hp6 hp7
      go_wp2_with fail
      go_roundw
      case rel => exact ⟨k + 1, by omega, by go_num, by rw [E1.out], kw.trans (keeps_alloc _ _)⟩
      case measure => simp [intOf]; omega
    · obtain rfl : k = n := by omega
      go_wp2
      go_ret
      exact ⟨rfl, kw⟩
end Go.Proofs.YtlkjhkkfdmjfcaaGreatDoor
namespace Go.Proofs.YtlkjhkkfdmjfcaaGreatDoor
open Go.RowKit
set_option linter.unusedVariables false
set_option linter.unusedSimpArgs false
/-- An index that tells whether a number is in a list. -/
def IdxRes (w : World) (p : Prop) (e : Ending) (w' : World) : Prop := ∃ r : Int, e = .returned (.int .i64 r) ∧ (0 ≤ r ↔ p) ∧ w' = w
theorem mem_of_at {xs : List Int} {k n : Nat} {v : Int} (hl : xs.length = n) (hk : k < n) (e : v = xs.getD k 0) : v ∈ xs := by
  rw [e]; simp only [List.getD, List.getElem?_eq_getElem (show k < xs.length by omega), Option.getD_some]; exact List.getElem_mem _
theorem not_mem_of {xs : List Int} {n : Nat} {v : Int} (hl : xs.length = n) (h : ∀ j, j < n → v ≠ xs.getD j 0) : v ∉ xs := fun hm => by
  obtain ⟨j, hj, e⟩ := List.mem_iff_getElem.1 hm
  exact h j (by omega) (by simp [List.getD, hj, e])
set_option maxHeartbeats 1600000 in
theorem indexI_any {A : Option Addr} {lo hi n c : Nat} {xs : List Int} {v : Int} {w : World} (h : Ints w lo hi A n xs) :
    Calls Tryz.prog 160 #[.slice A n c, .int .i64 v] w (IdxRes w (v ∈ xs)) := by
  have hn := h.le
  have hl := h.1
  have HL := hid hl
  clear hl
  go_enter Tryz.func160, Tryz.ntmps160
  go_wp2_with fail
  go_loop [8] (fun i => ∃ k : Nat, k ≤ n ∧ i = .int .i64 k ∧ Hid (∀ j, j < k → v ≠ xs.getD j 0)) (fun i => n - (intOf i).toNat)
  case atStart => exact ⟨0, Nat.zero_le _, rfl, fun j hj => absurd hj (by omega)⟩
  case round =>
    obtain ⟨k, hk, rfl, HN⟩ := hrel
    by_cases hlt : k < n
    · obtain ⟨b, off, x, rfl, _, _, hc, hx⟩ := h.at_ hlt
      have hi1 : (k : Int) < (n : Int) := by omega
      by_cases he : v = x
      · subst he
        have HM := hid (mem_of_at HL.out hlt hx.out)
        clear hx
        have t1 : (v == v) = true := by simp
        go_wp2
        go_ret
        exact ⟨_, rfl, ⟨fun _ => HM.out, fun _ => by omega⟩, rfl⟩
      · have t1 : (v == x) = false := by rw [beq_eq_false_iff_ne]; exact he
        have HE := hid he
        have HX := hid (show ∀ j, j < k + 1 → v ≠ xs.getD j 0 from fun j hj => by
          rcases Nat.lt_or_ge j k with h1 | h1
          · exact HN.out j h1
          · obtain rfl : j = k := by omega
            rw [← hx.out]; exact HE.out)
        clear he
        go_wp2
        go_round
        case rel => exact ⟨k + 1, by omega, by go_num, HX⟩
        case measure => simp [intOf]; omega
    · obtain rfl : k = n := by omega
      have HM := hid (not_mem_of HL.out HN.out)
      go_wp2
      go_ret
      exact ⟨_, rfl, ⟨fun h => absurd h (by omega), fun h => absurd h HM.out⟩, rfl⟩
set_option maxHeartbeats 800000 in
theorem containsI_any {A : Option Addr} {lo hi n c : Nat} {xs : List Int} {v : Int} {w : World} (h : Ints w lo hi A n xs) :
    Calls Tryz.prog 131 #[.slice A n c, .int .i64 v] w fun e w' => e = .returned (.bool (decide (v ∈ xs))) ∧ w' = w := by
  go_enter Tryz.func131, Tryz.ntmps131
  go_wp2_with fail
  refine (indexI_any h).mono ?_
  rintro e w' ⟨r, rfl, hr, rfl⟩
  have HR := hid hr
  clear hr
  by_cases h0 : 0 ≤ r
  · have HM := hid (HR.out.1 h0)
    go_wp2
    go_ret
    exact ⟨ret_bool (decide_eq_true HM.out).symm, rfl⟩
  · have HM := hid (show ¬ v ∈ xs from fun hm => h0 (HR.out.2 hm))
    have t1 : decide (0 ≤ r) = false := decide_eq_false h0
    go_wp2
    go_ret
    exact ⟨ret_bool (decide_eq_false HM.out).symm, rfl⟩
/-- An area without children. -/
def leafB (ps : List Int) (j : Nat) : Bool := decide ((kids ps (j : Int)).length = 0)
theorem kids_none {ps : List Int} {v : Int} (hg : ps.getD 0 0 = -1) (h0 : 0 ≤ v) : (kids ps v).length = 0 ↔ v ∉ ps := by
  unfold kids kidsTo
  rw [List.length_map, List.length_eq_zero_iff, List.filter_eq_nil_iff]
  constructor
  · intro h hm
    obtain ⟨j, hj, e⟩ := List.mem_iff_getElem.1 hm
    have hgd : ps.getD j 0 = v := by simp [List.getD, hj, e]
    have := h j (List.mem_range.2 hj)
    apply this
    unfold isKid
    rw [hgd]
    simp
    rcases Nat.eq_zero_or_pos j with h1 | h1
    · subst h1; omega
    · exact h1
  · intro h j hj
    have hj' := List.mem_range.1 hj
    unfold isKid
    simp only [Bool.and_eq_true, decide_eq_true_eq, beq_iff_eq, not_and]
    intro _ e
    exact h (e ▸ mem_of_at rfl hj' rfl)
def leavesTo (ps : List Int) (k : Nat) : List Int := ((List.range k).filter (leafB ps)).map fun (j : Nat) => (j : Int)
def leaves (ps : List Int) : List Int := leavesTo ps ps.length
theorem leavesTo_yes {ps : List Int} {k : Nat} (h : leafB ps k = true) : leavesTo ps (k + 1) = leavesTo ps k ++ [(k : Int)] := by
  unfold leavesTo; rw [List.range_succ, List.filter_append, List.map_append, List.filter_cons_of_pos h]; simp
theorem leavesTo_no {ps : List Int} {k : Nat} (h : leafB ps k = false) : leavesTo ps (k + 1) = leavesTo ps k := by
  unfold leavesTo; rw [List.range_succ, List.filter_append, List.map_append, List.filter_cons_of_neg (by simp [h])]; simp
theorem leavesTo_len (ps : List Int) (k : Nat) : (leavesTo ps k).length ≤ k := by
  unfold leavesTo; rw [List.length_map]
  exact Nat.le_trans (List.length_filter_le _ _) (by simp)
set_option maxHeartbeats 800000 in
theorem isLeaf_any {A : Option Addr} {lo hi n c i : Nat} {ps : List Int} {w : World} (h : Ints w lo hi A n ps) (hg : ps.getD 0 0 = -1) :
    Calls Tryz.prog 159 #[.agg #[.slice A n c], .int .i64 (i : Int)] w fun e w' => e = .returned (.bool (leafB ps i)) ∧ Keeps w w' := by
  have HG := hid (show leafB ps i = !decide ((i : Int) ∈ ps) by unfold leafB; rw [decide_eq_decide.2 (kids_none hg (by omega)), decide_not])
  clear hg
  have b2 : B1 (w.alloc (.cells #[.slice A n c] 32)) w.heap.size (.slice A n c) := B1.new' rfl
  go_enter Tryz.func159, Tryz.ntmps159
  obtain ⟨ca, fa⟩ := id b2
  go_wp2_with fail
  refine (containsI_any (h.keeps (keeps_alloc _ _))).mono ?_
  rintro e w' ⟨rfl, rfl⟩
  obtain ⟨p, hp⟩ : ∃ p, decide ((i : Int) ∈ ps) = p := ⟨_, rfl⟩
  rw [hp] at HG ⊢
  clear hp
  go_wp2
  go_ret
  exact ⟨ret_bool HG.out.symm, keeps_alloc _ _⟩
/-- A slice of ints of one's own, grown by append. -/
def LeafRes (w : World) (xs : List Int) (e : Ending) (w' : World) : Prop := ∃ A c, e = .returned (.slice A xs.length c) ∧ Mine w' w.heap.size w'.heap.size A xs.length xs ∧ Keeps w w'
set_option maxRecDepth 100000 in
set_option maxHeartbeats 3200000 in
theorem leavesOf_any {A : Option Addr} {lo hi n c : Nat} {ps : List Int} {w : World} (h : Ints w lo hi A n ps) (hg : geoB ps = true) :
    Calls Tryz.prog 129 #[.agg #[.slice A n c]] w (LeafRes w (leaves ps)) := by
  have hn := h.le
  have hl := h.1
  have hgt := geoB_true.1 hg
  have hg0 := hgt.2.1
  have hn30 : n ≤ 30 := by omega
  have HL := hid hl
  have HG := hid hg0
  clear hl hgt hg0 hg
  have b1 : B1 (w.alloc (.cells #[.slice A n c] 32)) w.heap.size (.slice A n c) := B1.new' rfl
  have kw := keeps_alloc w (.cells #[.slice A n c] 32)
  have s0 : w.heap.size + 1 ≤ (w.alloc (.cells #[.slice A n c] 32)).heap.size := by simp
  go_enter Tryz.func129, Tryz.ntmps129
  obtain ⟨ca, fa⟩ := id b1
  go_wp2_with fail
  clear ca fa
  go_loopw [3, 8] (fun v i wr => ∃ k : Nat, k ≤ n ∧ i = .int .i64 k ∧ Has wr (w.heap.size + 1) 3 1 v (leavesTo ps k).length ((leavesTo ps k).map (Value.int .i64)) ∧ B1 wr w.heap.size (.slice A n c) ∧ Keeps w wr ∧ w.heap.size + 1 ≤ wr.heap.size) (fun _ i _ => n - (intOf i).toNat)
  case atStart => exact ⟨0, Nat.zero_le _, rfl, World.ownsRow_nil _ _ _ _, b1, kw, s0⟩
  clear b1 kw s0
  case round =>
    obtain ⟨k, hk, rfl, hown, b1, kw, s0⟩ := hrel
    have hlen := leavesTo_len ps k
    by_cases hlt : k < n
    · have hi1 : (k : Int) < (n : Int) := by omega
      obtain ⟨ca, fa⟩ := id b1
      go_wp2_with fail
      clear ca fa
      refine (isLeaf_any (i := k) (h.keeps kw) HG.out).mono ?_
      rintro e w1 ⟨rfl, k1⟩
      have hown1 := Has.below hown k1
      have b11 := b1.keeps k1
      have kw1 := kw.trans k1
      have s1 := Nat.le_trans s0 k1.size
      clear hown b1 kw k1 s0
      obtain ⟨p, HP⟩ : ∃ p, Hid (leafB ps k = p) := ⟨_, rfl⟩
      rw [HP.out]
      cases p
      · have HE := hid (leavesTo_no HP.out)
        skip
        go_wp2_with fail
        go_roundw
        case rel => exact ⟨k + 1, by omega, by go_num, by rw [HE.out]; exact hown1, b11, kw1, s1⟩
        case measure => simp [intOf]; omega
      · have HE := hid (leavesTo_yes HP.out)
        have HLn := hid (show (leavesTo ps (k + 1)).length = (leavesTo ps k).length + 1 by rw [HE.out, List.length_append]; rfl)
        skip
        go_wp2_with (at_builtin; refine append_int (xs := leavesTo ps k) (u := (k : Int)) hown1 (by omega) (by omega) _ _ rfl rfl rfl (by first | rfl | (simp <;> rfl)) ?_; intro v' w4 hown4 hb4)
        rw [← HE.out, ← HLn.out] at hown4
        have b14 := b11.below hb4 (by omega)
        have kw4 : Keeps w w4 := Below.trans kw1 (hb4.mono (by omega))
        have s4 := Nat.le_trans s1 hb4.size
        clear hown1 b11 kw1 s1 hb4
        go_wp2
        go_roundw
        case rel => exact ⟨k + 1, by omega, by go_num, hown4, b14, kw4, s4⟩
        case measure => simp [intOf]; omega
    · obtain rfl : k = n := by omega
      have HE := hid (show leavesTo ps k = leaves ps by unfold leaves; rw [HL.out])
      rw [HE.out] at hown hlen
      obtain ⟨A1, C1, rfl⟩ := hown.form
      have hm := (Mine.of_own hown (by omega)).widen (lo' := w.heap.size) (by omega) (Nat.le_refl _) (Nat.le_refl _)
      clear hown
      go_wp2
      go_ret
      exact ⟨_, _, rfl, hm, kw⟩
set_option maxRecDepth 100000 in
set_option maxHeartbeats 3200000 in
theorem gLeaves_any {A : Option Addr} {lo hi n c : Nat} {ps : List Int} {w : World} (h : Ints w lo hi A n ps) (hg : geoB ps = true) :
    Calls Tryz.prog 152 #[.agg #[.slice A n c]] w (LeafRes w (leaves ps)) := by
  have hn := h.le
  have hl := h.1
  have hgt := geoB_true.1 hg
  have hg0 := hgt.2.1
  have hn30 : n ≤ 30 := by omega
  have HL := hid hl
  have HG := hid hg0
  clear hl hgt hg0 hg
  have b1 : B1 (w.alloc (.cells #[.slice A n c] 32)) w.heap.size (.slice A n c) := B1.new' rfl
  have kw := keeps_alloc w (.cells #[.slice A n c] 32)
  have s0 : w.heap.size + 1 ≤ (w.alloc (.cells #[.slice A n c] 32)).heap.size := by simp
  go_enter Tryz.func152, Tryz.ntmps152
  obtain ⟨ca, fa⟩ := id b1
  go_wp2_with fail
  clear ca fa
  go_loopw [3, 8] (fun v i wr => ∃ k : Nat, k ≤ n ∧ i = .int .i64 k ∧ Has wr (w.heap.size + 1) 3 1 v (leavesTo ps k).length ((leavesTo ps k).map (Value.int .i64)) ∧ B1 wr w.heap.size (.slice A n c) ∧ Keeps w wr ∧ w.heap.size + 1 ≤ wr.heap.size) (fun _ i _ => n - (intOf i).toNat)
  case atStart => exact ⟨0, Nat.zero_le _, rfl, World.ownsRow_nil _ _ _ _, b1, kw, s0⟩
  clear b1 kw s0
  case round =>
    obtain ⟨k, hk, rfl, hown, b1, kw, s0⟩ := hrel
    have hlen := leavesTo_len ps k
    by_cases hlt : k < n
    · have hi1 : (k : Int) < (n : Int) := by omega
      obtain ⟨ca, fa⟩ := id b1
      go_wp2_with fail
      clear ca fa
      refine (gChildren_any (i := (k : Int)) (h.keeps kw) HG.out (by omega)).mono ?_
      rintro e w1 ⟨A', c', rfl, m1, k1⟩; clear m1
      have hown1 := Has.below hown k1
      have b11 := b1.keeps k1
      have kw1 := kw.trans k1
      have s1 := Nat.le_trans s0 k1.size
      clear hown b1 kw k1 s0
      obtain ⟨p, HP⟩ : ∃ p, Hid (leafB ps k = p) := ⟨_, rfl⟩
      skip
      cases p
      · have HE := hid (leavesTo_no HP.out)
        have hz : (((kids ps (k : Int)).length : Int) == 0) = false := by have := of_decide_eq_false (show decide ((kids ps (k : Int)).length = 0) = false from HP.out); rw [beq_eq_false_iff_ne]; omega
        go_wp2_with fail
        go_roundw
        case rel => exact ⟨k + 1, by omega, by go_num, by rw [HE.out]; exact hown1, b11, kw1, s1⟩
        case measure => simp [intOf]; omega
      · have HE := hid (leavesTo_yes HP.out)
        have HLn := hid (show (leavesTo ps (k + 1)).length = (leavesTo ps k).length + 1 by rw [HE.out, List.length_append]; rfl)
        have hz : (((kids ps (k : Int)).length : Int) == 0) = true := by have := of_decide_eq_true (show decide ((kids ps (k : Int)).length = 0) = true from HP.out); rw [beq_iff_eq]; omega
        go_wp2_with (at_builtin; refine append_int (xs := leavesTo ps k) (u := (k : Int)) hown1 (by omega) (by omega) _ _ rfl rfl rfl (by first | rfl | (simp <;> rfl)) ?_; intro v' w4 hown4 hb4)
        rw [← HE.out, ← HLn.out] at hown4
        have b14 := b11.below hb4 (by omega)
        have kw4 : Keeps w w4 := Below.trans kw1 (hb4.mono (by omega))
        have s4 := Nat.le_trans s1 hb4.size
        clear hown1 b11 kw1 s1 hb4
        go_wp2
        go_roundw
        case rel => exact ⟨k + 1, by omega, by go_num, hown4, b14, kw4, s4⟩
        case measure => simp [intOf]; omega
    · obtain rfl : k = n := by omega
      have HE := hid (show leavesTo ps k = leaves ps by unfold leaves; rw [HL.out])
      rw [HE.out] at hown hlen
      obtain ⟨A1, C1, rfl⟩ := hown.form
      have hm := (Mine.of_own hown (by omega)).widen (lo' := w.heap.size) (by omega) (Nat.le_refl _) (Nat.le_refl _)
      clear hown
      go_wp2
      go_ret
      exact ⟨_, _, rfl, hm, kw⟩
end Go.Proofs.YtlkjhkkfdmjfcaaGreatDoor
namespace Go.Proofs.YtlkjhkkfdmjfcaaGreatDoor
open Go.RowKit
set_option linter.unusedVariables false
set_option linter.unusedSimpArgs false
/-- The parts of schemas that the walks ask for. -/
structure Sch (w : World) (A : Option Addr) (n c : Nat) (l : List VV) : Prop where
  v : ∃ lo hi, Vars w lo hi A n l
  ok : NamesOk l
  cap : n ≤ c
  c64 : c ≤ maxLen
theorem Sch.keeps {w w' : World} {A : Option Addr} {n c : Nat} {l : List VV} (h : Sch w A n c l) (k : Keeps w w') : Sch w' A n c l := by
  obtain ⟨⟨lo, hi, hv⟩, h1, h2, h3⟩ := h
  exact ⟨⟨lo, hi, Sl.keeps hv k⟩, h1, h2, h3⟩
/-- A call in a region, by its contract. -/
theorem step_any {W : World} {ops : Array Oper} {o : Oper} {a : Act} {K : Act → World → Prop} {Q : Exit → Act → World → Prop} {E : Prop} {f : FuncId} {args : Array Value} {R : Ending → World → Prop}
    (hc : Calls Tryz.prog f args W R) (hr : ∀ e w', R e w' → ∃ v, e = .returned v) (hgd : o.guard = none)
    (hrun : (execOp a.eval o).run Tryz.prog W = .ok (.enter f args) W)
    (h : ∀ v w', R (.returned v) w' → K (a.put o.dst v) w') :
    if Region.wanted o (yielded ops a.tmps) = true then Oper.wp Tryz.prog o a W K Q else E := by
  have hw : Region.wanted o (yielded ops a.tmps) = true := by simp [Region.wanted, hgd]
  rw [if_pos hw]
  unfold Oper.wp
  rw [hrun, Oper.upon_enter]
  refine hc.mono fun e w' hh => ?_
  obtain ⟨v, rfl⟩ := hr e w' hh
  exact h v w' hh
end Go.Proofs.YtlkjhkkfdmjfcaaGreatDoor
namespace Go.Proofs.YtlkjhkkfdmjfcaaGreatDoor
open Go.ChangeShapes Go.WideShapes Go.ChangeAt Go.RowKit
set_option linter.unusedVariables false
set_option linter.unusedSimpArgs false
/-- A leaf, values of one's own, and whether they are fine. -/
def TaRes (w : World) (R : Int × List Int × Bool) (e : Ending) (w' : World) : Prop := ∃ A n c, e = .returned (.tuple #[.int .i64 R.1, .slice A n c, .bool R.2.2]) ∧ Mine w' w.heap.size w'.heap.size A n R.2.1 ∧ Keeps w w'
end Go.Proofs.YtlkjhkkfdmjfcaaGreatDoor
namespace Go.Proofs.YtlkjhkkfdmjfcaaGreatDoor
open Go.RowKit
set_option linter.unusedVariables false
set_option linter.unusedSimpArgs false
theorem inB_not {a lo hi : Int} (h : ¬ (lo ≤ a ∧ a ≤ hi)) : inB a lo hi = false := by rw [Bool.eq_false_iff]; intro e; exact h (inB_true.1 e)
end Go.Proofs.YtlkjhkkfdmjfcaaGreatDoor
namespace Go.Proofs.YtlkjhkkfdmjfcaaGreatDoor
open Go.RowKit
set_option linter.unusedVariables false
set_option linter.unusedSimpArgs false
theorem mem_leaves {ps : List Int} {a : Int} : a ∈ leaves ps ↔ (0 ≤ a ∧ a < (ps.length : Int)) ∧ leafB ps a.toNat = true := by
  unfold leaves leavesTo
  rw [List.mem_map]
  constructor
  · rintro ⟨j, hj, rfl⟩
    rw [List.mem_filter, List.mem_range] at hj
    exact ⟨by omega, by simpa using hj.2⟩
  · rintro ⟨⟨h1, h2⟩, h3⟩
    exact ⟨a.toNat, by rw [List.mem_filter, List.mem_range]; exact ⟨by omega, h3⟩, by omega⟩
set_option maxRecDepth 100000 in
set_option maxHeartbeats 1600000 in
theorem l1Has_any {A : Option Addr} {lo hi n c : Nat} {xs : List Int} {v : Int} {w : World} (h : Ints w lo hi A n xs) :
    Calls Tryz.prog 137 #[.slice A n c, .int .i64 v] w fun e w' => e = .returned (.bool (decide (v ∈ xs))) ∧ w = w' := by
  have hn := h.le
  have HL := hid h.1
  go_enter Tryz.func137, Tryz.ntmps137
  go_wp2_with fail
  go_loop [9] (fun i => ∃ k : Nat, k ≤ n ∧ i = .int .i64 k ∧ Hid (∀ j, j < k → v ≠ xs.getD j 0)) (fun i => n - (intOf i).toNat)
  case atStart => exact ⟨0, Nat.zero_le _, rfl, fun j hj => absurd hj (by omega)⟩
  case round =>
    obtain ⟨k, hk, rfl, HN⟩ := hrel
    by_cases hlt : k < n
    · obtain ⟨b, off, x, rfl, _, _, hc, hx⟩ := h.at_ hlt
      have hi1 : (k : Int) < (n : Int) := by omega
      by_cases he : x = v
      · subst he
        have HM := hid (mem_of_at HL.out hlt hx.out)
        clear hx
        have t1 : (x == x) = true := by simp
        go_wp2
        go_ret
        exact ⟨ret_bool (decide_eq_true HM.out).symm, rfl⟩
      · have t1 : (x == v) = false := by rw [beq_eq_false_iff_ne]; exact he
        have HE := hid he
        have HX := hid (show ∀ j, j < k + 1 → v ≠ xs.getD j 0 from fun j hj => by
          rcases Nat.lt_or_ge j k with h1 | h1
          · exact HN.out j h1
          · obtain rfl : j = k := by omega
            rw [← hx.out]; exact fun e => HE.out e.symm)
        clear he
        go_wp2
        go_round
        case rel => exact ⟨k + 1, by omega, by go_num, HX⟩
        case measure => simp [intOf]; omega
    · obtain rfl : k = n := by omega
      have HM := hid (not_mem_of HL.out HN.out)
      go_wp2
      go_ret
      exact ⟨ret_bool (decide_eq_false HM.out).symm, rfl⟩
end Go.Proofs.YtlkjhkkfdmjfcaaGreatDoor
namespace Go.Proofs.YtlkjhkkfdmjfcaaGreatDoor
open Go.RowKit
set_option linter.unusedVariables false
set_option linter.unusedSimpArgs false
def vsRow (n : Nat) (vs : List Int) (k : Nat) : Bool := inB (vs.getD k 0) 0 ((n : Int) - 1) && (decide (k = 0) || decide (vs.getD (k - 1) 0 < vs.getD k 0))
def vsTo (n : Nat) (vs : List Int) : Nat → Bool
  | 0 => true
  | k + 1 => vsTo n vs k && vsRow n vs k
/-- Variables of a schema of n, increasing. -/
def vsB (n : Nat) (vs : List Int) : Bool := vsTo n vs vs.length
theorem vsTo_bad {n : Nat} {vs : List Int} {k m : Nat} (h : vsTo n vs k = false) (hn : k ≤ m) : vsTo n vs m = false := by
  induction m with
  | zero => obtain rfl : k = 0 := by omega
            exact h
  | succ m ih =>
    rcases Nat.lt_or_ge m k with h1 | h1
    · obtain rfl : k = m + 1 := by omega
      exact h
    · unfold vsTo; rw [ih h1]; rfl
theorem vsTo_row {n : Nat} {vs : List Int} : ∀ m k, vsTo n vs m = true → k < m → vsRow n vs k = true
  | 0, k, _, hk => absurd hk (by omega)
  | m + 1, k, h, hk => by
    unfold vsTo at h
    simp only [Bool.and_eq_true] at h
    rcases Nat.lt_or_ge k m with h1 | h1
    · exact vsTo_row m k h.1 h1
    · obtain rfl : k = m := by omega
      exact h.2
theorem vsB_no {n m : Nat} {vs : List Int} {k : Nat} (hl : vs.length = m) (hk : k < m) (h : vsRow n vs k = false) : vsB n vs = false := by
  unfold vsB; rw [hl, vsTo_bad (k := k + 1) (by unfold vsTo; rw [h, Bool.and_false]) hk]
theorem vsRow_bd {n : Nat} {vs : List Int} {k : Nat} (h : vsRow n vs k = true) : 0 ≤ vs.getD k 0 ∧ vs.getD k 0 < (n : Int) ∧ (k = 0 ∨ vs.getD (k - 1) 0 < vs.getD k 0) := by
  unfold vsRow at h
  simp only [Bool.and_eq_true, Bool.or_eq_true, decide_eq_true_eq] at h
  have := inB_true.1 h.1
  omega
theorem vsTo_ge {n : Nat} {vs : List Int} : ∀ m, vsTo n vs m = true → ∀ k, k < m → (k : Int) ≤ vs.getD k 0
  | m, h, 0, hk => (vsRow_bd (vsTo_row m 0 h hk)).1
  | m, h, k + 1, hk => by
    have h1 := vsTo_ge m h k (by omega)
    have h2 := (vsRow_bd (vsTo_row m (k + 1) h hk)).2.2
    rw [Nat.add_sub_cancel] at h2
    omega
theorem vsB_at {n : Nat} {vs : List Int} {k : Nat} (h : vsB n vs = true) (hk : k < vs.length) : 0 ≤ vs.getD k 0 ∧ vs.getD k 0 < (n : Int) := by
  have := vsRow_bd (vsTo_row _ k h hk); omega
theorem vsB_len {n : Nat} {vs : List Int} (h : vsB n vs = true) : vs.length ≤ n := by
  rcases Nat.eq_zero_or_pos vs.length with e | e
  · omega
  · have h1 := vsTo_ge _ h (vs.length - 1) (by omega)
    have h2 := (vsB_at h (k := vs.length - 1) (by omega)).2
    omega
def partL (l : List VV) (vs : List Int) : List VV := vs.map fun v => l.getD v.toNat v0
theorem partL_len (l : List VV) (vs : List Int) : (partL l vs).length = vs.length := by simp [partL]
theorem partL_at (l : List VV) (vs : List Int) {k : Nat} (h : k < vs.length) : (partL l vs).getD k v0 = l.getD (vs.getD k 0).toNat v0 := by simp [partL, List.getD, h]
theorem partL_lv {l : List VV} {n : Nat} {vs : List Int} (hv : LvOk l n) (h : vsB n vs = true) : LvOk (partL l vs) vs.length := fun j hj => by
  rw [partL_at l vs hj]
  have := vsB_at h hj
  exact hv _ (by omega)
theorem vs_bad1 {m k : Nat} {vs : List Int} {x z : Int} (hz : z = if k = 0 then -1 else vs.getD (k - 1) 0) (hx : x = vs.getD k 0) (h : x ≤ z) : vsRow m vs k = false := by
  rw [Bool.eq_false_iff]; intro e
  have h1 := vsRow_bd e
  rw [← hx] at h1
  by_cases h0 : k = 0
  · rw [if_pos h0] at hz; omega
  · rw [if_neg h0] at hz; omega
theorem vs_bad2 {m k : Nat} {vs : List Int} {x : Int} (hx : x = vs.getD k 0) (h : (m : Int) ≤ x) : vsRow m vs k = false := by
  rw [Bool.eq_false_iff]; intro e
  have h1 := vsRow_bd e
  omega
theorem vs_good {m k : Nat} {vs : List Int} {x z : Int} (hT : vsTo m vs k = true) (hz : z = if k = 0 then -1 else vs.getD (k - 1) 0) (hx : x = vs.getD k 0) (h1 : ¬ x ≤ z) (h2 : ¬ (m : Int) ≤ x) : vsTo m vs (k + 1) = true := by
  unfold vsTo vsRow
  rw [hT, ← hx, Bool.true_and, Bool.and_eq_true, Bool.or_eq_true, decide_eq_true_eq, decide_eq_true_eq]
  by_cases h0 : k = 0
  · rw [if_pos h0] at hz; exact ⟨inB_true.2 (by omega), .inl h0⟩
  · rw [if_neg h0] at hz
    have h3 := vsRow_bd (vsTo_row k (k - 1) hT (by omega))
    exact ⟨inB_true.2 (by omega), .inr (by omega)⟩
theorem vs_next {m k : Nat} {vs : List Int} {x : Int} (hT : vsTo m vs k = true) (hx : x = vs.getD k 0) (h1 : inB x 0 ((m : Int) - 1) = true) (h2 : k = 0 ∨ vs.getD (k - 1) 0 < x) : vsTo m vs (k + 1) = true := by
  unfold vsTo vsRow
  rw [hT, ← hx, h1]
  rw [Bool.true_and, Bool.true_and, Bool.or_eq_true, decide_eq_true_eq, decide_eq_true_eq]
  exact h2
theorem vs_bad3 {m k : Nat} {vs : List Int} {x : Int} (hx : x = vs.getD k 0) (h1 : inB x 0 ((m : Int) - 1) = false) : vsRow m vs k = false := by
  unfold vsRow; rw [← hx, h1]; rfl
theorem vs_bad4 {m k : Nat} {vs : List Int} {x y : Int} (hx : x = vs.getD (k + 1) 0) (hy : y = vs.getD k 0) (h : x ≤ y) : vsRow m vs (k + 1) = false := by
  rw [Bool.eq_false_iff]; intro e
  have h1 := vsRow_bd e
  rw [Nat.add_sub_cancel] at h1
  omega
set_option maxRecDepth 100000 in
set_option maxHeartbeats 1600000 in
theorem areVars_any {A A' : Option Addr} {lo hi n c m d : Nat} {vs : List Int} {w : World} (h : Ints w lo hi A n vs) (hm : m ≤ 67108864) :
    Calls Tryz.prog 95 #[.slice A' m d, .slice A n c] w fun e w' => e = .returned (.bool (vsB m vs)) ∧ w = w' := by
  have hn := h.le
  have HL := hid h.1
  go_enter Tryz.func95, Tryz.ntmps95
  go_wp2_with fail
  go_loop [5, 10] (fun last i => ∃ (k : Nat) (z : Int), k ≤ n ∧ i = .int .i64 k ∧ last = .int .i64 z ∧ Hid (z = if k = 0 then -1 else vs.getD (k - 1) 0) ∧ Hid (vsTo m vs k = true)) (fun _ i => n - (intOf i).toNat)
  case atStart => exact ⟨0, -1, Nat.zero_le _, rfl, rfl, hid rfl, hid rfl⟩
  case round =>
    obtain ⟨k, z, hk, rfl, rfl, HZ, HT⟩ := hrel
    by_cases hlt : k < n
    · obtain ⟨b, off, x, rfl, _, _, hc, hx⟩ := h.at_ hlt
      have hi1 : (k : Int) < (n : Int) := by omega
      by_cases h1 : x ≤ z
      · have HX := hid (vsB_no HL.out hlt (vs_bad1 (m := m) HZ.out hx.out h1))
        clear hx
        go_wp2
        go_ret
        exact ⟨ret_bool HX.out.symm, rfl⟩
      by_cases h2 : (m : Int) ≤ x
      · have HX := hid (vsB_no HL.out hlt (vs_bad2 (m := m) hx.out h2))
        clear hx
        go_wp2
        go_ret
        exact ⟨ret_bool HX.out.symm, rfl⟩
      have HN := hid (vs_good HT.out HZ.out hx.out h1 h2)
      go_wp2
      go_round
      case rel => exact ⟨k + 1, x, by omega, by go_num, rfl, hid (by rw [if_neg (by omega), Nat.add_sub_cancel]; exact hx.out), HN⟩
      case measure => simp [intOf]; omega
    · obtain rfl : k = n := by omega
      have HX := hid (show vsB m vs = true by unfold vsB; rw [HL.out]; exact HT.out)
      go_wp2
      go_ret
      exact ⟨ret_bool HX.out.symm, rfl⟩
set_option maxRecDepth 100000 in
set_option maxHeartbeats 1600000 in
theorem l1Rising_any {A : Option Addr} {lo hi n c m : Nat} {vs : List Int} {w : World} (h : Ints w lo hi A n vs) (hm : m ≤ 67108864) :
    Calls Tryz.prog 133 #[.slice A n c, .int .i64 0, .int .i64 ((m : Int) - 1)] w fun e w' => e = .returned (.bool (vsB m vs)) ∧ w = w' := by
  have hn := h.le
  have HL := hid h.1
  go_enter Tryz.func133, Tryz.ntmps133
  go_wp2_with fail
  go_loop [11] (fun i => ∃ k : Nat, k ≤ n ∧ i = .int .i64 k ∧ Hid (vsTo m vs k = true)) (fun i => n - (intOf i).toNat)
  case atStart => exact ⟨0, Nat.zero_le _, rfl, hid rfl⟩
  case round =>
    obtain ⟨k, hk, rfl, HT⟩ := hrel
    by_cases hlt : k < n
    · obtain ⟨b, off, x, rfl, _, _, hc, hx⟩ := h.at_ hlt
      have hi1 : (k : Int) < (n : Int) := by omega
      obtain ⟨p, HP⟩ : ∃ p, Hid (inB x 0 ((m : Int) - 1) = p) := ⟨_, rfl⟩
      go_wp2_with fail
      refine (l1In_any _ _ _ _).mono ?_
      rintro e w' ⟨rfl, rfl⟩
      rw [HP.out]
      cases p
      · have HX := hid (vsB_no HL.out hlt (vs_bad3 (m := m) hx.out HP.out))
        go_wp2
        go_ret
        exact ⟨ret_bool HX.out.symm, rfl⟩
      cases k with
      | zero =>
        have HN := hid (vs_next HT.out hx.out HP.out (.inl rfl))
        go_wp2
        go_round
        case rel => exact ⟨1, by omega, by go_num, HN⟩
        case measure => simp [intOf]; omega
      | succ j =>
        obtain ⟨b', off', y, eA, _, _, hcy, hy⟩ := h.at_ (k := j) (by omega)
        injection eA with eA
        injection eA with e1 e2
        subst e1 e2
        have hj1 : (j : Int) < (n : Int) := by omega
        by_cases hxy : x ≤ y
        · have HX := hid (vsB_no HL.out hlt (vs_bad4 (m := m) hx.out hy.out hxy))
          clear hx hy
          go_wp2
          go_ret
          exact ⟨ret_bool HX.out.symm, rfl⟩
        · have HN := hid (vs_next HT.out hx.out HP.out (.inr (by rw [Nat.add_sub_cancel, ← hy.out]; omega)))
          clear hx hy
          go_wp2
          go_round
          case rel => exact ⟨j + 1 + 1, by omega, by go_num, HN⟩
          case measure => simp [intOf]; omega
    · obtain rfl : k = n := by omega
      have HX := hid (show vsB m vs = true by unfold vsB; rw [HL.out]; exact HT.out)
      go_wp2
      go_ret
      exact ⟨ret_bool HX.out.symm, rfl⟩
/-- What append has made may serve as a schema. -/
theorem Has.cap_ {w : World} {B e size n c : Nat} {A : Option Addr} {cs : List Value} (h : Has w B e size (.slice A n c) n cs) : n ≤ c ∧ c ≤ maxLen := by
  rcases h.2 with ⟨e1, rfl⟩ | ⟨g, cap, cur, e1, _, _, h1, h2, _⟩
  · injection e1 with _ _ e3; subst e3; exact ⟨Nat.le_refl _, Nat.zero_le _⟩
  · injection e1 with _ _ e3; subst e3; exact ⟨h1, h2⟩
theorem vrs_append (xs ys : List VV) : vrs (xs ++ ys) = vrs xs ++ vrs ys := by simp [vrs]
/-- append of a variable. -/
theorem append_var {w0 : World} {ops : Array Oper} {rest : List Oper} {o : Oper} {a : Act} {Q : Exit → Act → World → Prop} {B : Nat} {v : Value} {n : Nat} {xs : List VV} {x : ByteArray} {y : Int}
    (hown : Has w0 B 82 2 v n (vrs xs)) (hn : n ≤ 67108864) (hB : B ≤ w0.heap.size)
    (s u : Operand) (hgd : o.guard = none)
    (ho : o.op = .call { callee := .builtin .append, args := #[s, u], argTypes := #[34, 34] })
    (hs : a.eval s = v) (hx : a.eval u = .slice (some ⟨w0.heap.size, 0, none⟩) 1 1)
    (h : ∀ v' w', Has w' B 82 2 v' (n + 1) (vrs (xs ++ [(x, y)])) → Below B w0 w' → wpList Tryz.prog ops Q rest (a.put o.dst v') w') : wpList Tryz.prog ops Q (o :: rest) a (w0.alloc (.cells #[.string x, .int .i64 y] 82)) :=
  append_one (cs := [.string x, .int .i64 y]) hown rfl info_var rfl (by omega) s u 34 hgd ho Tryz.underlying34 hs hx (fun y hy => by simp at hy; rcases hy with rfl | rfl <;> rfl) hn (by omega) hB
    (fun v' w' h2 h3 => h v' w' (by rw [vrs_append]; simpa [vrs, vr2] using h2) h3)
/-- A schema of one's own. -/
def PartRes (w : World) (l : List VV) (n : Nat) (e : Ending) (w' : World) : Prop := ∃ A C, e = .returned (.slice A n C) ∧ VarsM w' w.heap.size w'.heap.size A n l ∧ n ≤ C ∧ C ≤ maxLen ∧ Keeps w w'
set_option maxRecDepth 100000 in
set_option maxHeartbeats 1600000 in
theorem sPart_any {A A' : Option Addr} {lo hi n c m d : Nat} {vs : List Int} {l : List VV} {w : World} (h : Ints w lo hi A n vs) (h' : Sch w A' m d l) (hvs : vsB m vs = true) :
    Calls Tryz.prog 162 #[.slice A' m d, .slice A n c] w (PartRes w (partL l vs) n) := by
  obtain ⟨lo', hi', hv⟩ := h'.v
  have hn := h.le
  have HL := hid h.1
  have HV := hid (fun (k : Nat) (hk : k < n) => vsB_at hvs (k := k) (by rw [h.1]; exact hk))
  clear hvs
  go_enter Tryz.func162, Tryz.ntmps162
  go_wp2_with fail
  go_loopw [5, 10] (fun v i wr => ∃ k : Nat, k ≤ n ∧ i = .int .i64 k ∧ Has wr w.heap.size 82 2 v k (vrs ((partL l vs).take k)) ∧ Keeps w wr) (fun _ i _ => n - (intOf i).toNat)
  case atStart => exact ⟨0, Nat.zero_le _, rfl, World.ownsRow_nil _ _ _ _, keeps_refl _⟩
  case round =>
    obtain ⟨k, hk, rfl, hown, kw⟩ := hrel
    by_cases hlt : k < n
    · obtain ⟨b, off, z, rfl, _, _, hc, hz⟩ := (h.keeps kw).at_ hlt
      have hi1 : (k : Int) < (n : Int) := by omega
      have hz2 := HV.out k hlt
      rw [← hz.out] at hz2
      obtain ⟨j, rfl⟩ : ∃ j : Nat, z = (j : Int) := ⟨z.toNat, by omega⟩
      have hjm : j < m := by omega
      have hj1 : (j : Int) < (m : Int) := by omega
      obtain ⟨b', off', x, y, rfl, _, _, hcx, hcy, hx⟩ := Vars.at_ (Sl.keeps hv kw) hjm
      have HT := hid (show (partL l vs).take (k + 1) = (partL l vs).take k ++ [(x, y)] by
        rw [take_snoc (partL l vs) k v0 (by rw [partL_len, HL.out]; exact hlt), partL_at l vs (by rw [HL.out]; exact hlt), ← hz.out, hx.out]; rfl)
      have hsz := kw.size
      clear hz hx hz2
      go_wp2_with (at_builtin; refine append_var (xs := (partL l vs).take k) hown (by omega) (by omega) _ _ rfl rfl rfl (by first | rfl | (simp <;> rfl)) ?_; intro v' w' hown' hb')
      rw [← HT.out] at hown'
      have H1 := hid hown'
      have H2 := hid (Below.trans kw hb')
      clear hown' hb' kw hown hc hcx hcy
      go_wp2
      go_roundw
      case rel => exact ⟨k + 1, by omega, by go_num, H1.out, H2.out⟩
      case measure => simp [intOf]; omega
    · obtain rfl : k = n := by omega
      rw [List.take_of_length_le (by rw [partL_len, HL.out]; exact Nat.le_refl _)] at hown
      obtain ⟨A1, C1, rfl⟩ := hown.form
      have HC := hid hown.cap_
      have HM := hid (SlM.of_own hown hn (by omega))
      clear hown
      go_wp2
      go_ret
      exact ⟨A1, C1, rfl, HM.out, HC.out.1, HC.out.2, kw⟩
end Go.Proofs.YtlkjhkkfdmjfcaaGreatDoor
namespace Go.Proofs.YtlkjhkkfdmjfcaaGreatDoor
open Go.RowKit
set_option linter.unusedVariables false
set_option linter.unusedSimpArgs false
/-- The elements of vs at the indices ks. -/
def vsAt (vs ks : List Int) : List Int := ks.map fun c => vs.getD c.toNat 0
def okAt (ps vs : List Int) (i : Nat) : Bool := decide ((kids ps i).length = 0) || ((vsAt vs (kids ps i)).sum == vs.getD i 0)
end Go.Proofs.YtlkjhkkfdmjfcaaGreatDoor
namespace Go.Proofs.YtlkjhkkfdmjfcaaGreatDoor
open Go.RowKit
set_option linter.unusedVariables false
set_option linter.unusedSimpArgs false
def kid (ps : List Int) (i m : Nat) : Nat := ((kids ps i).getD m 0).toNat
/-- The first m children of ks get the numbers ys. -/
def putK (x ks ys : List Int) : Nat → List Int
  | 0 => x
  | m + 1 => (putK x ks ys m).set (ks.getD m 0).toNat (ys.getD m 0)
/-- Area k has handed its number down. -/
def HandK (ps x y : List Int) (k : Nat) : Prop :=
  ((kids ps k).length = 0 → y = x) ∧ (¬ (kids ps k).length = 0 → ∃ ys, ys.length = (kids ps k).length ∧ ys.sum = x.getD k 0 ∧ y = putK x (kids ps k) ys (kids ps k).length)
/-- The first k areas are the sums of their children; the root stays. -/
def HandTo (ps x : List Int) (root : Int) (k : Nat) : Prop := x.length = ps.length ∧ x.getD 0 0 = root ∧ ∀ i, i < k → okAt ps x i = true
end Go.Proofs.YtlkjhkkfdmjfcaaGreatDoor
namespace Go.Proofs.YtlkjhkkfdmjfcaaGreatDoor
open Go.RowKit
set_option linter.unusedVariables false
set_option linter.unusedSimpArgs false
/-- The root has no parent, each other area an earlier one. -/
def Tree (ps : List Int) : Prop := ps.getD 0 0 = -1 ∧ ParTo ps ps.length
theorem tree_of {ps : List Int} (h : geoB ps = true) : Tree ps := (geoB_true.1 h).2
def depF (ps : List Int) : Nat → Nat → Nat
  | 0, _ => 0
  | f + 1, i => if i = 0 then 0 else depF ps f (ps.getD i 0).toNat + 1
def dep (ps : List Int) (i : Nat) : Nat := depF ps i i
theorem depF_stable {ps : List Int} (ht : Tree ps) (f : Nat) : ∀ i, i ≤ f → i < ps.length → depF ps f i = dep ps i := by
  induction f with
  | zero => intro i h _; obtain rfl : i = 0 := by omega
            rfl
  | succ f ih =>
    intro i h hl
    by_cases h0 : i = 0
    · subst h0; simp [depF, dep]
    · have hp := ht.2 i hl (by omega)
      obtain ⟨j, rfl⟩ : ∃ j, i = j + 1 := ⟨i - 1, by omega⟩
      simp only [depF, dep, if_neg h0]
      have a := ih (ps.getD (j + 1) 0).toNat (by omega) (by omega)
      rw [a]
      have b : depF ps j (ps.getD (j + 1) 0).toNat = dep ps (ps.getD (j + 1) 0).toNat := by
        by_cases hj : j = f
        · subst hj; exact a
        · -- the same by a smaller fuel
          have : ∀ g, (ps.getD (j + 1) 0).toNat ≤ g → g ≤ f → depF ps g (ps.getD (j + 1) 0).toNat = dep ps (ps.getD (j + 1) 0).toNat := by
            intro g hg hgf
            clear a
            have key : ∀ (m g i : Nat), i ≤ m → i ≤ g → i < ps.length → depF ps g i = dep ps i := by
              intro m
              induction m with
              | zero => intro g i hi _ _; obtain rfl : i = 0 := by omega
                        cases g <;> simp [depF, dep]
              | succ m im =>
                intro g i hi hig hil
                by_cases hi0 : i = 0
                · subst hi0; cases g <;> simp [depF, dep]
                · have hpi := ht.2 i hil (by omega)
                  obtain ⟨g', rfl⟩ : ∃ g', g = g' + 1 := ⟨g - 1, by omega⟩
                  obtain ⟨i', rfl⟩ : ∃ i', i = i' + 1 := ⟨i - 1, by omega⟩
                  simp only [depF, dep, if_neg hi0]
                  rw [im g' _ (by omega) (by omega) (by omega), im i' _ (by omega) (by omega) (by omega)]
            exact key _ g _ (Nat.le_refl _) hg (by omega)
          exact this j (by omega) (by omega)
      rw [b]
theorem dep_zero (ps : List Int) : dep ps 0 = 0 := rfl
theorem dep_up {ps : List Int} (ht : Tree ps) {i : Nat} (h0 : 0 < i) (hl : i < ps.length) {j : Nat} (hj : ps.getD i 0 = (j : Int)) : dep ps i = dep ps j + 1 := by
  have hp := ht.2 i hl h0
  obtain ⟨i', rfl⟩ : ∃ i', i = i' + 1 := ⟨i - 1, by omega⟩
  have : depF ps (i' + 1) (i' + 1) = depF ps i' j + 1 := by
    simp only [depF]
    rw [if_neg (by omega), hj]; simp
  unfold dep at *
  rw [this, depF_stable ht i' j (by omega) (by omega)]
  rfl
theorem dep_le {ps : List Int} (ht : Tree ps) (i : Nat) : i < ps.length → dep ps i ≤ i := by
  induction i using Nat.strongRecOn with
  | ind i ih =>
    intro hl
    by_cases h0 : i = 0
    · subst h0; simp [dep, depF]
    · have hp := ht.2 i hl (by omega)
      obtain ⟨j, hj⟩ : ∃ j : Nat, ps.getD i 0 = (j : Int) := ⟨(ps.getD i 0).toNat, by omega⟩
      rw [dep_up ht (by omega) hl hj]
      have := ih j (by omega) (by omega)
      omega
set_option maxHeartbeats 800000 in
theorem depthOf_any {A : Option Addr} {lo hi n c i : Nat} {ps : List Int} {w : World} (h : Ints w lo hi A n ps) (ht : Tree ps) (hin : i < n) :
    Calls Tryz.prog 130 #[.agg #[.slice A n c], .int .i64 (i : Int)] w fun e w' => e = .returned (.int .i64 (dep ps i)) ∧ Keeps w w' := by
  have hn := h.le
  have hl := h.1
  have HT := hid ht
  clear ht
  have k0 := keeps_alloc w (.cells #[.slice A n c] 32)
  have h0 := h.keeps k0
  have hd := dep_le HT.out i (by omega)
  go_enter Tryz.func130, Tryz.ntmps130
  go_wp2_with fail
  go_loop [1, 5] (fun a b => ∃ j d : Nat, j < n ∧ a = .int .i64 j ∧ b = .int .i64 d ∧ Hid (d + dep ps j = dep ps i)) (fun a _ => (intOf a).toNat)
  case atStart => exact ⟨i, 0, hin, rfl, rfl, Nat.zero_add _⟩
  case round =>
    obtain ⟨j, d, hjn, rfl, rfl, hd2⟩ := hrel
    have hdd : d ≤ dep ps i := by have := hd2.out; omega
    by_cases hj0 : 0 < j
    · obtain ⟨b, off, x, rfl, _, _, hx0, hx⟩ := h0.at_ hjn
      have hp := HT.out.2 j (by omega) hj0
      rw [← hx.out] at hp
      obtain ⟨m, rfl⟩ : ∃ m : Nat, x = (m : Int) := ⟨x.toNat, by omega⟩
      have HU := hid (dep_up HT.out hj0 (by omega) hx.out.symm)
      have hj1 : (j : Int) < (n : Int) := by omega
      have hj2 : (0 : Int) < (j : Int) := by omega
      go_wp2
      go_round
      case rel => exact ⟨m, d + 1, by omega, rfl, by go_num, by have := HU.out; have := hd2.out; unfold Hid; omega⟩
      case measure => simp [intOf]; omega
    · obtain rfl : j = 0 := by omega
      have hj2 : ¬ (0 : Int) < ((0 : Nat) : Int) := by omega
      go_wp2
      go_ret
      exact ⟨ret_int (by have := hd2.out; rw [dep_zero] at this; omega), k0⟩
set_option maxHeartbeats 800000 in
theorem gDepth_any {A : Option Addr} {lo hi n c i : Nat} {ps : List Int} {w : World} (h : Ints w lo hi A n ps) (ht : Tree ps) (hin : i < n) :
    Calls Tryz.prog 155 #[.agg #[.slice A n c], .int .i64 (i : Int)] w fun e w' => e = .returned (.int .i64 (dep ps i)) ∧ Keeps w w' := by
  have hn := h.le
  have hl := h.1
  have HT := hid ht
  clear ht
  have k0 := keeps_alloc w (.cells #[.slice A n c] 32)
  have h0 := h.keeps k0
  have hd := dep_le HT.out i (by omega)
  go_enter Tryz.func155, Tryz.ntmps155
  go_wp2_with fail
  go_loop [1, 5] (fun a b => ∃ j d : Nat, j < n ∧ a = .int .i64 j ∧ b = .int .i64 d ∧ Hid (d + dep ps j = dep ps i)) (fun a _ => (intOf a).toNat)
  case atStart => exact ⟨i, 0, hin, rfl, rfl, Nat.zero_add _⟩
  case round =>
    obtain ⟨j, d, hjn, rfl, rfl, hd2⟩ := hrel
    have hdd : d ≤ dep ps i := by have := hd2.out; omega
    have hj1 : (j : Int) < (n : Int) := by omega
    by_cases hj0 : 0 < j
    · obtain ⟨b, off, x, rfl, _, _, hx0, hx⟩ := h0.at_ hjn
      have hp := HT.out.2 j (by omega) hj0
      rw [← hx.out] at hp
      obtain ⟨m, rfl⟩ : ∃ m : Nat, x = (m : Int) := ⟨x.toNat, by omega⟩
      have HU := hid (dep_up HT.out hj0 (by omega) hx.out.symm)
      have hj2 : (0 : Int) ≤ (m : Int) := by omega
      go_wp2
      go_round
      case rel => exact ⟨m, d + 1, by omega, rfl, by go_num, by have := HU.out; have := hd2.out; unfold Hid; omega⟩
      case measure => simp [intOf]; omega
    · obtain rfl : j = 0 := by omega
      obtain ⟨b, off, x, rfl, _, _, hx0, hx⟩ := h0.at_ hjn
      obtain rfl : x = -1 := hx.out.trans HT.out.1
      rw [Nat.add_zero] at hx0
      have hj2 : ¬ (0 : Int) ≤ (-1 : Int) := by omega
      go_wp2
      go_ret
      exact ⟨ret_int (by have := hd2.out; rw [dep_zero] at this; omega), k0⟩
def isAt (ps : List Int) (lv : Int) (j : Nat) : Bool := (dep ps j : Int) == lv
def levTo (ps : List Int) (lv : Int) (k : Nat) : List Int := ((List.range k).filter (isAt ps lv)).map fun (j : Nat) => (j : Int)
def lev (ps : List Int) (lv : Int) : List Int := levTo ps lv ps.length
theorem levTo_yes {ps : List Int} {lv : Int} {k : Nat} (h : (dep ps k : Int) = lv) : levTo ps lv (k + 1) = levTo ps lv k ++ [(k : Int)] := by
  unfold levTo
  rw [List.range_succ, List.filter_append, List.map_append]
  have e : isAt ps lv k = true := by unfold isAt; simpa using h
  rw [List.filter_cons_of_pos e]; simp
theorem levTo_no {ps : List Int} {lv : Int} {k : Nat} (h : (dep ps k : Int) ≠ lv) : levTo ps lv (k + 1) = levTo ps lv k := by
  unfold levTo
  rw [List.range_succ, List.filter_append, List.map_append]
  have e : ¬ isAt ps lv k = true := by unfold isAt; simpa using h
  rw [List.filter_cons_of_neg e]; simp
theorem levTo_len (ps : List Int) (lv : Int) (k : Nat) : (levTo ps lv k).length ≤ k := by
  unfold levTo
  rw [List.length_map]
  exact Nat.le_trans (List.length_filter_le _ _) (by simp)
set_option maxHeartbeats 1600000 in
theorem areasAt_any {A : Option Addr} {lo hi n c : Nat} {ps : List Int} {lv : Int} {w : World} (h : Ints w lo hi A n ps) (ht : Tree ps) :
    Calls Tryz.prog 140 #[.agg #[.slice A n c], .int .i64 lv] w fun e w' => ∃ A' c', e = .returned (.slice A' (lev ps lv).length c') ∧ Mine w' w.heap.size w'.heap.size A' (lev ps lv).length (lev ps lv) ∧ Keeps w w' := by
  have hn := h.le
  have hl := h.1
  have HT := hid ht
  clear ht
  have k0 := keeps_alloc w (.cells #[.slice A n c] 32)
  have bx0 := hid (cell_new w (.slice A n c) 32)
  go_enter Tryz.func140, Tryz.ntmps140
  go_wp2_with fail
  have bx0 := bx0.out
  go_loopw [5, 10] (fun v t wr => ∃ k : Nat, k ≤ n ∧ t = .int .i64 k ∧ Has wr (w.heap.size + 1) 3 1 v (levTo ps lv k).length ((levTo ps lv k).map (Value.int .i64)) ∧ Keeps (w.alloc (.cells #[.slice A n c] 32)) wr) (fun _ t _ => n - (intOf t).toNat)
  case atStart => exact ⟨0, Nat.zero_le _, rfl, World.ownsRow_nil _ _ _ _, keeps_refl _⟩
  case round =>
    obtain ⟨k, hk, rfl, hown, hkeep⟩ := hrel
    have hkl := levTo_len ps lv k
    by_cases hlt : k < n
    · have bx := cell_keeps bx0 hkeep
      have hs := hkeep.size
      simp at hs
      go_wp2_with fail
      refine (depthOf_any ((h.keeps k0).keeps hkeep) HT.out hlt).mono ?_
      rintro e w1 ⟨rfl, hk1⟩
      have hs1 := hk1.size
      have hown := hown.below hk1
      have hkeep := hkeep.trans hk1
      by_cases hxi : (dep ps k : Int) = lv
      · have t1 : ((dep ps k : Int) == lv) = true := by rw [beq_iff_eq]; exact hxi
        have HK := hid (levTo_yes hxi)
        clear hxi
        go_wp2_with (at_builtin; refine append_int (xs := levTo ps lv k) hown (by omega) (by omega) _ _ rfl rfl rfl rfl ?_; intro v' w' hown' hb')
        have H1 := hid hown'
        rw [show (levTo ps lv k).length + 1 = (levTo ps lv k ++ [(k : Int)]).length by simp, ← HK.out] at H1
        have H2 := hid (Below.trans hkeep (hb'.mono (by simp)))
        clear hown' hb' hkeep hown
        go_wp2
        go_roundw
        case rel => exact ⟨k + 1, by omega, by go_num, H1.out, H2.out⟩
        case measure => simp [intOf]; omega
      · have t1 : ((dep ps k : Int) == lv) = false := by rw [beq_eq_false_iff_ne]; exact hxi
        have HK := hid (levTo_no hxi)
        have H1 := hid hown
        rw [← HK.out] at H1
        clear hxi hown
        go_wp2
        go_roundw
        case rel => exact ⟨k + 1, by omega, by go_num, H1.out, hkeep⟩
        case measure => simp [intOf]; omega
    · obtain rfl : k = n := by omega
      rw [← hl] at hown hkl
      obtain ⟨A', c', rfl⟩ := hown.form
      have HM := hid ((Mine.of_own hown (by omega)).widen (lo' := w.heap.size) (by omega) (Nat.le_refl _) (Nat.le_refl _))
      clear hown
      go_wp2
      go_ret
      exact ⟨A', c', rfl, HM.out, k0.trans hkeep⟩
set_option maxHeartbeats 1600000 in
theorem gLevel_any {A : Option Addr} {lo hi n c : Nat} {ps : List Int} {lv : Int} {w : World} (h : Ints w lo hi A n ps) (ht : Tree ps) :
    Calls Tryz.prog 118 #[.agg #[.slice A n c], .int .i64 lv] w fun e w' => ∃ A' c', e = .returned (.slice A' (lev ps lv).length c') ∧ Mine w' w.heap.size w'.heap.size A' (lev ps lv).length (lev ps lv) ∧ Keeps w w' := by
  have hn := h.le
  have hl := h.1
  have HT := hid ht
  clear ht
  have k0 := keeps_alloc w (.cells #[.slice A n c] 32)
  have bx0 := hid (cell_new w (.slice A n c) 32)
  go_enter Tryz.func118, Tryz.ntmps118
  go_wp2_with fail
  have bx0 := bx0.out
  go_loopw [5, 10] (fun v t wr => ∃ k : Nat, k ≤ n ∧ t = .int .i64 k ∧ Has wr (w.heap.size + 1) 3 1 v (levTo ps lv k).length ((levTo ps lv k).map (Value.int .i64)) ∧ Keeps (w.alloc (.cells #[.slice A n c] 32)) wr) (fun _ t _ => n - (intOf t).toNat)
  case atStart => exact ⟨0, Nat.zero_le _, rfl, World.ownsRow_nil _ _ _ _, keeps_refl _⟩
  case round =>
    obtain ⟨k, hk, rfl, hown, hkeep⟩ := hrel
    have hkl := levTo_len ps lv k
    by_cases hlt : k < n
    · have bx := cell_keeps bx0 hkeep
      have hs := hkeep.size
      simp at hs
      go_wp2_with fail
      refine (gDepth_any ((h.keeps k0).keeps hkeep) HT.out hlt).mono ?_
      rintro e w1 ⟨rfl, hk1⟩
      have hs1 := hk1.size
      have hown := hown.below hk1
      have hkeep := hkeep.trans hk1
      by_cases hxi : (dep ps k : Int) = lv
      · have t1 : ((dep ps k : Int) == lv) = true := by rw [beq_iff_eq]; exact hxi
        have HK := hid (levTo_yes hxi)
        clear hxi
        go_wp2_with (at_builtin; refine append_int (xs := levTo ps lv k) hown (by omega) (by omega) _ _ rfl rfl rfl rfl ?_; intro v' w' hown' hb')
        have H1 := hid hown'
        rw [show (levTo ps lv k).length + 1 = (levTo ps lv k ++ [(k : Int)]).length by simp, ← HK.out] at H1
        have H2 := hid (Below.trans hkeep (hb'.mono (by simp)))
        clear hown' hb' hkeep hown
        go_wp2
        go_roundw
        case rel => exact ⟨k + 1, by omega, by go_num, H1.out, H2.out⟩
        case measure => simp [intOf]; omega
      · have t1 : ((dep ps k : Int) == lv) = false := by rw [beq_eq_false_iff_ne]; exact hxi
        have HK := hid (levTo_no hxi)
        have H1 := hid hown
        rw [← HK.out] at H1
        clear hxi hown
        go_wp2
        go_roundw
        case rel => exact ⟨k + 1, by omega, by go_num, H1.out, hkeep⟩
        case measure => simp [intOf]; omega
    · obtain rfl : k = n := by omega
      rw [← hl] at hown hkl
      obtain ⟨A', c', rfl⟩ := hown.form
      have HM := hid ((Mine.of_own hown (by omega)).widen (lo' := w.heap.size) (by omega) (Nat.le_refl _) (Nat.le_refl _))
      clear hown
      go_wp2
      go_ret
      exact ⟨A', c', rfl, HM.out, k0.trans hkeep⟩
end Go.Proofs.YtlkjhkkfdmjfcaaGreatDoor
namespace Go.Proofs.YtlkjhkkfdmjfcaaGreatDoor
open Go.RowKit
set_option linter.unusedVariables false
set_option linter.unusedSimpArgs false
end Go.Proofs.YtlkjhkkfdmjfcaaGreatDoor
namespace Go.Proofs.YtlkjhkkfdmjfcaaGreatDoor
open Go.RowKit
set_option linter.unusedVariables false
set_option linter.unusedSimpArgs false
end Go.Proofs.YtlkjhkkfdmjfcaaGreatDoor
namespace Go.Proofs.YtlkjhkkfdmjfcaaGreatDoor
open Go.ChangeShapes Go.WideShapes Go.ChangeAt Go.RowKit Go.Deep
set_option linter.unusedVariables false
set_option linter.unusedSimpArgs false
mutual
/-- The value v has the shape of d, in blocks from lo to hi; ex: it reads as d; un: its cells may be written. -/
def Rg (ex un : Bool) (w : World) (lo hi : Nat) : D → Value → Prop
  | .i x, v => ∃ y, v = .int .i64 y ∧ (ex = true → y = x)
  | .s b, v => ∃ y, v = .string y ∧ (ex = true → y = b)
  | .sl n ds, v => ∃ A c, v = .slice A n c ∧ hi ≤ w.heap.size ∧ (0 < n → ∃ b off, A = some ⟨b, off, none⟩ ∧ lo ≤ b ∧ b < hi ∧ RgL ex un w lo hi b off ds)
def RgL (ex un : Bool) (w : World) (lo hi b : Nat) : Nat → List D → Prop
  | _, [] => True
  | off, d :: ds => (∃ u, w.cell? ⟨b, off, none⟩ = some u ∧ (un = true → w.frozen? ⟨b, off, none⟩ = false) ∧ Rg ex un w lo hi d u) ∧ RgL ex un w lo hi b (off + 1) ds
end
/-- The slice (A, n) holds the cells ds. -/
def RgS (ex un : Bool) (w : World) (lo hi : Nat) (A : Option Addr) (n : Nat) (ds : List D) : Prop :=
  hi ≤ w.heap.size ∧ (0 < n → ∃ b off, A = some ⟨b, off, none⟩ ∧ lo ≤ b ∧ b < hi ∧ RgL ex un w lo hi b off ds)
theorem Rg.sl {ex un : Bool} {w : World} {lo hi n : Nat} {ds : List D} {v : Value} (h : Rg ex un w lo hi (.sl n ds) v) : ∃ A c, v = .slice A n c ∧ RgS ex un w lo hi A n ds := by
  unfold Rg at h
  obtain ⟨A, c, e, h1, h2⟩ := h
  exact ⟨A, c, e, h1, h2⟩
theorem RgS.rg {ex un : Bool} {w : World} {lo hi n c : Nat} {ds : List D} {A : Option Addr} (h : RgS ex un w lo hi A n ds) : Rg ex un w lo hi (.sl n ds) (.slice A n c) := by
  unfold Rg
  exact ⟨A, c, rfl, h.1, h.2⟩
theorem Rg.i_ {un : Bool} {w : World} {lo hi : Nat} {x : Int} {v : Value} (h : Rg true un w lo hi (.i x) v) : v = .int .i64 x := by
  unfold Rg at h; obtain ⟨y, e, h1⟩ := h; rw [e, h1 rfl]
theorem Rg.of_i {ex un : Bool} {w : World} {lo hi : Nat} (x : Int) : Rg ex un w lo hi (.i x) (.int .i64 x) := by
  unfold Rg; exact ⟨x, rfl, fun _ => rfl⟩
section
variable {ex un : Bool} {w w' : World} {lo hi l h' : Nat}
mutual
theorem Rg.fr (hf : Fr l h' w w') (ho : h' ≤ lo ∨ hi ≤ l ∨ h' ≤ l) : ∀ (d : D) (v : Value), Rg ex un w lo hi d v → Rg ex un w' lo hi d v
  | .i x, v, h => by unfold Rg at h ⊢; exact h
  | .s b, v, h => by unfold Rg at h ⊢; exact h
  | .sl n ds, v, h => by
    unfold Rg at h ⊢
    obtain ⟨A, c, e, ht, hr⟩ := h
    refine ⟨A, c, e, Nat.le_trans ht hf.size, fun hn => ?_⟩
    obtain ⟨b, off, e2, h1, h2, h3⟩ := hr hn
    exact ⟨b, off, e2, h1, h2, RgL.fr hf ho h1 h2 ht ds off h3⟩
theorem RgL.fr (hf : Fr l h' w w') (ho : h' ≤ lo ∨ hi ≤ l ∨ h' ≤ l) {b : Nat} (h1 : lo ≤ b) (h2 : b < hi) (ht : hi ≤ w.heap.size) : ∀ (ds : List D) (off : Nat), RgL ex un w lo hi b off ds → RgL ex un w' lo hi b off ds
  | [], off, h => by unfold RgL; trivial
  | d :: ds, off, h => by
    unfold RgL at h ⊢
    obtain ⟨⟨u, h3, hz, h4⟩, h5⟩ := h
    exact ⟨⟨u, (hf.cell (p := ⟨b, off, none⟩) (by show b < _; omega) (by show b < _ ∨ _ ≤ b; omega)).trans h3, fun e => (hf.frozen (p := ⟨b, off, none⟩) (by show b < _; omega) (by show b < _ ∨ _ ≤ b; omega)).trans (hz e), Rg.fr hf ho d u h4⟩, RgL.fr hf ho h1 h2 ht ds (off + 1) h5⟩
end
mutual
theorem Rg.widen {lo' hi' : Nat} (h1 : lo' ≤ lo) (h2 : hi ≤ hi') (h3 : hi' ≤ w.heap.size) : ∀ (d : D) (v : Value), Rg ex un w lo hi d v → Rg ex un w lo' hi' d v
  | .i x, v, h => by unfold Rg at h ⊢; exact h
  | .s b, v, h => by unfold Rg at h ⊢; exact h
  | .sl n ds, v, h => by
    unfold Rg at h ⊢
    obtain ⟨A, c, e, ht, hr⟩ := h
    refine ⟨A, c, e, h3, fun hn => ?_⟩
    obtain ⟨b, off, e2, g1, g2, g3⟩ := hr hn
    exact ⟨b, off, e2, by omega, by omega, RgL.widen h1 h2 h3 ds off g3⟩
theorem RgL.widen {lo' hi' b : Nat} (h1 : lo' ≤ lo) (h2 : hi ≤ hi') (h3 : hi' ≤ w.heap.size) : ∀ (ds : List D) (off : Nat), RgL ex un w lo hi b off ds → RgL ex un w lo' hi' b off ds
  | [], off, h => by unfold RgL; trivial
  | d :: ds, off, h => by
    unfold RgL at h ⊢
    obtain ⟨⟨u, g3, gz, g4⟩, g5⟩ := h
    exact ⟨⟨u, g3, gz, Rg.widen h1 h2 h3 d u g4⟩, RgL.widen h1 h2 h3 ds (off + 1) g5⟩
end
theorem RgL.at_ {b : Nat} : ∀ (ds : List D) (off j : Nat), RgL ex un w lo hi b off ds → j < ds.length → ∃ u, w.cell? ⟨b, off + j, none⟩ = some u ∧ (un = true → w.frozen? ⟨b, off + j, none⟩ = false) ∧ Rg ex un w lo hi (ds.getD j (.i 0)) u
  | [], off, j, h, hj => absurd hj (by simp)
  | d :: ds, off, 0, h, hj => by
    unfold RgL at h
    obtain ⟨⟨u, h1, hz, h2⟩, _⟩ := h
    exact ⟨u, h1, hz, h2⟩
  | d :: ds, off, j + 1, h, hj => by
    unfold RgL at h
    obtain ⟨u, h1, hz, h2⟩ := RgL.at_ ds (off + 1) j h.2 (by simpa using hj)
    rw [show off + 1 + j = off + (j + 1) by omega] at h1 hz
    exact ⟨u, h1, hz, by simpa using h2⟩
theorem RgL.of_at {b : Nat} : ∀ (ds : List D) (off : Nat), (∀ j, j < ds.length → ∃ u, w.cell? ⟨b, off + j, none⟩ = some u ∧ (un = true → w.frozen? ⟨b, off + j, none⟩ = false) ∧ Rg ex un w lo hi (ds.getD j (.i 0)) u) → RgL ex un w lo hi b off ds
  | [], off, h => by unfold RgL; trivial
  | d :: ds, off, h => by
    unfold RgL
    refine ⟨by have := h 0 (by simp); simpa using this, RgL.of_at ds (off + 1) fun j hj => ?_⟩
    obtain ⟨u, h1, hz, h2⟩ := h (j + 1) (by simpa using hj)
    rw [show off + (j + 1) = off + 1 + j by omega] at h1 hz
    exact ⟨u, h1, hz, by simpa using h2⟩
end
section
variable {ex un : Bool} {w w' : World} {lo hi n : Nat} {A : Option Addr} {ds : List D}
theorem RgS.fr {l h' : Nat} (h : RgS ex un w lo hi A n ds) (f : Fr l h' w w') (ho : h' ≤ lo ∨ hi ≤ l ∨ h' ≤ l) : RgS ex un w' lo hi A n ds :=
  ⟨Nat.le_trans h.1 f.size, fun hn => by obtain ⟨b, off, e, h1, h2, h3⟩ := h.2 hn; exact ⟨b, off, e, h1, h2, RgL.fr f ho h1 h2 h.1 ds off h3⟩⟩
theorem RgS.keeps (h : RgS ex un w lo hi A n ds) (k : Keeps w w') : RgS ex un w' lo hi A n ds := h.fr (Fr.of_keeps k 0 0) (by omega)
theorem RgS.widen {lo' hi' : Nat} (h : RgS ex un w lo hi A n ds) (h1 : lo' ≤ lo) (h2 : hi ≤ hi') (h3 : hi' ≤ w.heap.size) : RgS ex un w lo' hi' A n ds :=
  ⟨h3, fun hn => by obtain ⟨b, off, e, g1, g2, g3⟩ := h.2 hn; exact ⟨b, off, e, by omega, by omega, RgL.widen h1 h2 h3 ds off g3⟩⟩
/-- Row k of a slice of rows. -/
theorem RgS.row {α : Type} {f : α → List D} {sz k : Nat} (hf : ∀ a, (f a).length = sz) (z : α) {ts : List α} (h : RgS ex un w lo hi A n (ts.flatMap f)) (hl : ts.length = n) (hk : k < n) :
    ∃ b off, A = some ⟨b, off, none⟩ ∧ lo ≤ b ∧ b < hi ∧ ∀ j, j < sz → ∃ u, w.cell? ⟨b, off + (k * sz + j), none⟩ = some u ∧ (un = true → w.frozen? ⟨b, off + (k * sz + j), none⟩ = false) ∧ Rg ex un w lo hi ((f (ts.getD k z)).getD j (.i 0)) u := by
  obtain ⟨b, off, rfl, h1, h2, h3⟩ := h.2 (by omega)
  refine ⟨b, off, rfl, h1, h2, fun j hj => ?_⟩
  have hlt : k * sz + j < (ts.flatMap f).length := by
    rw [flat_len hf, hl]
    have : (k + 1) * sz ≤ n * sz := Nat.mul_le_mul_right _ hk
    rw [Nat.succ_mul] at this
    omega
  have := RgL.at_ _ off (k * sz + j) h3 hlt
  rwa [flat_at hf _ z ts k j (by omega) hj] at this
theorem RgS.ints {xs : List Int} (h : RgS true un w lo hi A n (xs.map D.i)) (hl : xs.length = n) (hn : n ≤ 67108864) : Ints w lo hi A n xs :=
  ⟨hl, hn, h.1, fun h0 => by
    obtain ⟨b, off, e, h1, h2, h3⟩ := h.2 h0
    refine ⟨b, off, e, h1, h2, fun j hj => ?_⟩
    obtain ⟨u, h4, _, h5⟩ := RgL.at_ _ off j h3 (by simpa [hl] using hj)
    have e : (xs.map D.i).getD j (.i 0) = .i (xs.getD j 0) := by simp [List.getD, hl, hj]
    rw [e] at h5
    rw [h4, h5.i_]⟩
theorem Ints.rgs {xs : List Int} (h : Ints w lo hi A n xs) : RgS true false w lo hi A n (xs.map D.i) :=
  ⟨h.top, fun h0 => by
    obtain ⟨b, off, e, h1, h2, h3⟩ := h.2.2.2 h0
    refine ⟨b, off, e, h1, h2, RgL.of_at _ off fun j hj => ?_⟩
    have hl := h.1
    have hj' : j < n := by simpa [hl] using hj
    have e : (xs.map D.i).getD j (.i 0) = .i (xs.getD j 0) := by simp [List.getD, hl, hj']
    exact ⟨_, h3 j hj', (fun e => by cases e), by rw [e]; exact Rg.of_i _⟩⟩
end
/-- Of the old cells only numbers may have turned, into numbers. -/
structure Sp (w w' : World) : Prop where
  size : w.heap.size ≤ w'.heap.size
  cell : ∀ p v, w.cell? p = some v → (∀ x, v ≠ .int .i64 x) → w'.cell? p = some v
  ints : ∀ p x, w.cell? p = some (.int .i64 x) → ∃ y, w'.cell? p = some (.int .i64 y)
  fz : ∀ p : Addr, p.block < w.heap.size → w'.frozen? p = w.frozen? p
section
variable {un : Bool} {w w' : World} {lo hi : Nat}
end
/-- The first k rows are copied into block g. -/
def FillD {α : Type} (f : α → List D) (sz : Nat) (z : α) (w : World) (g n : Nat) (T : TypeId) (l : List α) (k : Nat) : Prop :=
  ∃ cs : List Value, OwnC w g T cs ∧ cs.length = n * sz ∧ ∀ j i, j < k → i < sz → Rg true true w (g + 1) w.heap.size ((f (l.getD j z)).getD i (.i 0)) (cs.getD (j * sz + i) undef)
section
variable {α : Type} {f : α → List D} {sz : Nat} {z : α} {w w' : World} {g n k : Nat} {T : TypeId} {l : List α}
end
end Go.Proofs.YtlkjhkkfdmjfcaaGreatDoor
namespace Go.Proofs.YtlkjhkkfdmjfcaaGreatDoor
open Go.ChangeShapes Go.WideShapes Go.ChangeAt Go.RowKit Go.Deep
set_option linter.unusedVariables false
set_option linter.unusedSimpArgs false
abbrev TT := Int × List Int × List Int × Int
def t0 : TT := (0, [], [], 0)
def dT (t : TT) : List D := [.i t.1, .sl t.2.1.length (t.2.1.map D.i), .sl t.2.2.1.length (t.2.2.1.map D.i), .i t.2.2.2]
theorem dT_len (t : TT) : (dT t).length = 4 := rfl
def smT (t : TT) : Prop := t.2.1.length ≤ 67108864 ∧ t.2.2.1.length ≤ 67108864
structure Tabs (ex un : Bool) (w : World) (lo hi : Nat) (A : Option Addr) (n : Nat) (l : List TT) : Prop where
  r : RgS ex un w lo hi A n (l.flatMap dT)
  len : l.length = n
  le : n ≤ 67108864
  sm : ∀ j, smT (l.getD j t0)
section
variable {ex un : Bool} {w w' : World} {lo hi n : Nat} {A : Option Addr} {l : List TT}
theorem Tabs.fr {a b : Nat} (h : Tabs ex un w lo hi A n l) (f : Fr a b w w') (ho : b ≤ lo ∨ hi ≤ a ∨ b ≤ a) : Tabs ex un w' lo hi A n l := ⟨h.r.fr f ho, h.len, h.le, h.sm⟩
theorem Tabs.keeps (h : Tabs ex un w lo hi A n l) (k : Keeps w w') : Tabs ex un w' lo hi A n l := ⟨h.r.keeps k, h.len, h.le, h.sm⟩
theorem Tabs.at_ {k : Nat} (h : Tabs true un w lo hi A n l) (hk : k < n) :
    ∃ b off lv V nv cv H nh ch sm vs hs, A = some ⟨b, off, none⟩ ∧ lo ≤ b ∧ b < hi ∧ w.cell? ⟨b, off + k * 4, none⟩ = some (.int .i64 lv) ∧ w.cell? ⟨b, off + k * 4 + 1, none⟩ = some (.slice V nv cv) ∧ w.cell? ⟨b, off + k * 4 + 2, none⟩ = some (.slice H nh ch) ∧ w.cell? ⟨b, off + k * 4 + 3, none⟩ = some (.int .i64 sm) ∧ Ints w lo hi V nv vs ∧ Ints w lo hi H nh hs ∧ Hid ((lv, vs, hs, sm) = l.getD k t0) := by
  obtain ⟨b, off, e, h1, h2, h3⟩ := h.r.row dT_len t0 h.len hk
  obtain ⟨u0, c0, _, g0⟩ := h3 0 (by omega)
  obtain ⟨u1, c1, _, g1⟩ := h3 1 (by omega)
  obtain ⟨u2, c2, _, g2⟩ := h3 2 (by omega)
  obtain ⟨u3, c3, _, g3⟩ := h3 3 (by omega)
  obtain rfl := Rg.i_ (x := (l.getD k t0).1) g0
  obtain rfl := Rg.i_ (x := (l.getD k t0).2.2.2) g3
  obtain ⟨V, cv, rfl, gv⟩ := Rg.sl (n := (l.getD k t0).2.1.length) (ds := (l.getD k t0).2.1.map D.i) g1
  obtain ⟨H, ch, rfl, gh⟩ := Rg.sl (n := (l.getD k t0).2.2.1.length) (ds := (l.getD k t0).2.2.1.map D.i) g2
  exact ⟨b, off, _, V, _, cv, H, _, ch, _, _, _, e, h1, h2, c0, c1, c2, c3, gv.ints rfl (h.sm k).1, gh.ints rfl (h.sm k).2, rfl⟩
end
/-- Sizes, as the laws count them. -/
def szT (t : TT) : Nat := t.2.1.length + t.2.2.1.length
def tsz (l : List TT) : Nat → Nat := szR dT l
/-- Tables that came in. -/
structure TabsArg (w : World) (A : Option Addr) (n : Nat) (l : List TT) : Prop where
  r : RgS true false w 0 w.heap.size A n (l.flatMap dT)
  len : l.length = n
  le : n ≤ maxLen
  sm : ∀ j, (l.getD j t0).2.1.length ≤ maxLen ∧ (l.getD j t0).2.2.1.length ≤ maxLen
theorem getD_out {α : Type} {l : List α} {j : Nat} {z : α} (h : l.length ≤ j) : l.getD j z = z := by simp [List.getD, Nat.not_lt.2 h]
abbrev RL := Int × List TT × Int × Int × Int × Int
def rl0 : RL := (0, [], 0, 0, 0, 0)
def dR (r : RL) : List D := [.i r.1, .sl r.2.1.length (r.2.1.flatMap dT), .i r.2.2.1, .i r.2.2.2.1, .i r.2.2.2.2.1, .i r.2.2.2.2.2]
theorem dR_len (r : RL) : (dR r).length = 6 := rfl
def smR (r : RL) : Prop := r.2.1.length ≤ 67108864 ∧ ∀ j, smT (r.2.1.getD j t0)
structure Rels (ex un : Bool) (w : World) (lo hi : Nat) (A : Option Addr) (n : Nat) (l : List RL) : Prop where
  r : RgS ex un w lo hi A n (l.flatMap dR)
  len : l.length = n
  le : n ≤ 67108864
  sm : ∀ j, smR (l.getD j rl0)
section
variable {ex un : Bool} {w w' : World} {lo hi n : Nat} {A : Option Addr} {l : List RL}
theorem Rels.fr {a b : Nat} (h : Rels ex un w lo hi A n l) (f : Fr a b w w') (ho : b ≤ lo ∨ hi ≤ a ∨ b ≤ a) : Rels ex un w' lo hi A n l := ⟨h.r.fr f ho, h.len, h.le, h.sm⟩
theorem Rels.keeps (h : Rels ex un w lo hi A n l) (k : Keeps w w') : Rels ex un w' lo hi A n l := ⟨h.r.keeps k, h.len, h.le, h.sm⟩
theorem Rels.at_ {k : Nat} (h : Rels true un w lo hi A n l) (hk : k < n) :
    ∃ b off v P np cp x1 x2 x3 x4 pl, A = some ⟨b, off, none⟩ ∧ lo ≤ b ∧ b < hi ∧ w.cell? ⟨b, off + k * 6, none⟩ = some (.int .i64 v) ∧ w.cell? ⟨b, off + k * 6 + 1, none⟩ = some (.slice P np cp) ∧ w.cell? ⟨b, off + k * 6 + 2, none⟩ = some (.int .i64 x1) ∧ w.cell? ⟨b, off + k * 6 + 3, none⟩ = some (.int .i64 x2) ∧ w.cell? ⟨b, off + k * 6 + 4, none⟩ = some (.int .i64 x3) ∧ w.cell? ⟨b, off + k * 6 + 5, none⟩ = some (.int .i64 x4) ∧ Tabs true un w lo hi P np pl ∧ Hid ((v, pl, x1, x2, x3, x4) = l.getD k rl0) := by
  obtain ⟨b, off, e, h1, h2, h3⟩ := h.r.row dR_len rl0 h.len hk
  obtain ⟨u0, c0, _, g0⟩ := h3 0 (by omega)
  obtain ⟨u1, c1, _, g1⟩ := h3 1 (by omega)
  obtain ⟨u2, c2, _, g2⟩ := h3 2 (by omega)
  obtain ⟨u3, c3, _, g3⟩ := h3 3 (by omega)
  obtain ⟨u4, c4, _, g4⟩ := h3 4 (by omega)
  obtain ⟨u5, c5, _, g5⟩ := h3 5 (by omega)
  obtain rfl := Rg.i_ (x := (l.getD k rl0).1) g0
  obtain rfl := Rg.i_ (x := (l.getD k rl0).2.2.1) g2
  obtain rfl := Rg.i_ (x := (l.getD k rl0).2.2.2.1) g3
  obtain rfl := Rg.i_ (x := (l.getD k rl0).2.2.2.2.1) g4
  obtain rfl := Rg.i_ (x := (l.getD k rl0).2.2.2.2.2) g5
  obtain ⟨P, cp, rfl, gp⟩ := Rg.sl (n := (l.getD k rl0).2.1.length) (ds := (l.getD k rl0).2.1.flatMap dT) g1
  exact ⟨b, off, _, P, _, cp, _, _, _, _, _, e, h1, h2, c0, c1, c2, c3, c4, c5, ⟨gp, rfl, (h.sm k).1, (h.sm k).2⟩, rfl⟩
end
def szRl (r : RL) : Nat := r.2.1.length + tsz r.2.1 r.2.1.length
def rlsz (l : List RL) : Nat → Nat := szR dR l
/-- Releases that came in. -/
structure RelsArg (w : World) (A : Option Addr) (n : Nat) (l : List RL) : Prop where
  r : RgS true false w 0 w.heap.size A n (l.flatMap dR)
  len : l.length = n
  le : n ≤ maxLen
  sm : ∀ j, (l.getD j rl0).2.1.length ≤ maxLen ∧ ∀ i, ((l.getD j rl0).2.1.getD i t0).2.1.length ≤ maxLen ∧ ((l.getD j rl0).2.1.getD i t0).2.2.1.length ≤ maxLen
/-- A table that came in. -/
def TabArg (w : World) (A : Option Addr) (n : Nat) (l : List Int) (B : Option Addr) (m : Nat) (l' : List Int) : Prop :=
  n ≤ maxLen ∧ m ≤ maxLen ∧ (n + m ≤ 67108864 → Ints w 0 w.heap.size A n l ∧ Ints w 0 w.heap.size B m l')
/-- The two slices of a table. -/
structure IntsPair (w : World) (L U : Nat) (A : Option Addr) (n : Nat) (l : List Int) (B : Option Addr) (m : Nat) (l' : List Int) : Prop where
  a' : Mine w L U A n l
  b' : Mine w L U B m l'
def okT (t : TT) : Prop := t.2.1.length ≤ maxLen ∧ t.2.2.1.length ≤ maxLen
def okR (r : RL) : Prop := r.2.1.length ≤ maxLen ∧ ∀ a, a ∈ r.2.1 → okT a
section
variable {H : Type} {enc : TypeId × Value → H} {w : World} {held : Bool}
end
end Go.Proofs.YtlkjhkkfdmjfcaaGreatDoor
