/- Schemas: of the program and of the reference. -/
import Derived.Test.YtlkjhkkfdmjfcaaGreatDoorSch
import Derived.Lib.QuietBelow
import Derived.BigQuiet
namespace Go.Proofs.YtlkjhkkfdmjfcaaGreatDoor
open Go.RowKit Go.Sort
set_option linter.unusedVariables false
set_option linter.unusedSimpArgs false

def schRow (l : List VV) (k : Nat) : Bool := wordB (l.getD k v0).1 && inB (l.getD k v0).2 2 8 && decide (findTo l (l.getD k v0).1 k < 0)
def schTo (l : List VV) : Nat → Bool
  | 0 => true
  | k + 1 => schTo l k && schRow l k
/-- A schema. -/
def schB (l : List VV) : Bool := inB (l.length : Int) 1 6 && schTo l l.length
theorem schTo_bad {l : List VV} {k n : Nat} (h : schTo l k = false) (hn : k ≤ n) : schTo l n = false := by
  induction n with
  | zero => obtain rfl : k = 0 := by omega
            exact h
  | succ n ih =>
    rcases Nat.lt_or_ge n k with h1 | h1
    · obtain rfl : k = n + 1 := by omega
      exact h
    · unfold schTo; rw [ih h1]; rfl
theorem schB_no {l : List VV} {n k : Nat} (hl : l.length = n) (hk : k < n) (h : schRow l k = false) : schB l = false := by
  unfold schB; rw [hl, schTo_bad (k := k + 1) (by unfold schTo; rw [h, Bool.and_false]) hk, Bool.and_false]
theorem schB_len {l : List VV} (h : ¬ (1 ≤ l.length ∧ l.length ≤ 6)) : schB l = false := by
  unfold schB; rw [show inB (l.length : Int) 1 6 = false by rw [Bool.eq_false_iff]; intro e; have := inB_true.1 e; omega]; rfl
theorem schB_yes {l : List VV} {n : Nat} (hl : l.length = n) (h1 : 1 ≤ n) (h6 : n ≤ 6) (h : schTo l n = true) : schB l = true := by
  unfold schB; rw [hl, h, Bool.and_true]; exact inB_true.2 (by omega)
section
variable {l : List VV} {k : Nat} {x : ByteArray} {y : Int}
theorem schRow_no1 (hx : (x, y) = l.getD k v0) (h : wordB x = false) : schRow l k = false := by unfold schRow; rw [← hx]; simp [h]
theorem schRow_no2 (hx : (x, y) = l.getD k v0) (h : inB y 2 8 = false) : schRow l k = false := by unfold schRow; rw [← hx]; simp [h]
theorem schRow_no3 (hx : (x, y) = l.getD k v0) (h : 0 ≤ findTo l x k) : schRow l k = false := by unfold schRow; rw [← hx]; simp [decide_eq_false (show ¬ findTo l x k < 0 by omega)]
theorem schTo_yes (e : schTo l k = true) (hx : (x, y) = l.getD k v0) (h : wordB x = true) (h2 : inB y 2 8 = true) (h3 : findTo l x k = -1) : schTo l (k + 1) = true := by
  unfold schTo schRow; rw [← hx]; simp [e, h, h2, h3]
end
/-- Names of lengths that there are. -/
def NamesOk (l : List VV) : Prop := ∀ j, (l.getD j v0).1.size ≤ maxLen
theorem Vars.front {w : World} {lo hi n k : Nat} {A : Option Addr} {l : List VV} (h : Vars w lo hi A n l) (hk : k ≤ n) : Vars w lo hi A k (l.take k) := by
  have hl := Vars.len h
  have hlt : (l.take k).length = k := by simp; omega
  refine ⟨by rw [vrs_len, hlt], Nat.le_trans hk h.2.1, h.2.2.1, fun h0 => ?_⟩
  obtain ⟨b, off, e, h1, h2, h3⟩ := h.2.2.2 (by omega)
  refine ⟨b, off, e, h1, h2, fun j hj => ?_⟩
  rw [h3 j (by omega)]
  have e1 : vrs l = vrs (l.take k) ++ vrs (l.drop k) := by simp [vrs, ← List.flatMap_append, List.take_append_drop]
  rw [e1]
  simp only [List.getD]
  rw [List.getElem?_append_left (by rw [vrs_len, hlt]; exact hj)]
theorem findTo_take (l : List VV) (nm : ByteArray) {k : Nat} (hk : k ≤ l.length) : ∀ j, j ≤ k → findTo (l.take k) nm j = findTo l nm j
  | 0, _ => rfl
  | j + 1, hj => by
    unfold findTo
    rw [findTo_take l nm hk j (by omega)]
    have : (l.take k).getD j v0 = l.getD j v0 := by simp [List.getD, show j < k by omega]
    rw [this]

set_option maxRecDepth 100000 in
set_option maxHeartbeats 3200000 in
theorem IsSchema_any {A : Option Addr} {lo hi n c : Nat} {l : List VV} {w : World} (h : Vars w lo hi A n l) (hs : NamesOk l) (hcap : n ≤ c) (hc64 : c ≤ maxLen) :
    Calls Tryz.prog 50 #[.slice A n c] w fun e w' => e = .returned (.bool (schB l)) ∧ Keeps w w' := by
  have hn := h.le
  have hl := Vars.len h
  unfold maxLen at hc64
  have HL := hid hl
  have HS := hid hs
  clear hl hs
  have hcap2 : (n : Int) ≤ (c : Int) := by omega
  by_cases h1 : (n : Int) < 1
  · go_enter Tryz.func50, Tryz.ntmps50
    go_wp2
    go_ret
    exact ⟨ret_bool (schB_len (by rw [HL.out]; omega)).symm, keeps_refl _⟩
  by_cases h6 : (6 : Int) < (n : Int)
  · go_enter Tryz.func50, Tryz.ntmps50
    go_wp2
    go_ret
    exact ⟨ret_bool (schB_len (by rw [HL.out]; omega)).symm, keeps_refl _⟩
  go_enter Tryz.func50, Tryz.ntmps50
  go_wp2_with fail
  go_loopw [17] (fun i wr => ∃ k : Nat, k ≤ n ∧ i = .int .i64 k ∧ Hid (schTo l k = true) ∧ Keeps w wr) (fun i _ => n - (intOf i).toNat)
  case atStart => exact ⟨0, Nat.zero_le _, rfl, rfl, keeps_refl _⟩
  case round =>
    obtain ⟨k, hk, rfl, HT, kw⟩ := hrel
    obtain ⟨wo, rfl⟩ : ∃ u : World, u = wr := ⟨_, rfl⟩
    by_cases hlt : k < n
    · obtain ⟨b, off, x, y, rfl, _, _, hc, hd, hx⟩ := Vars.at_ (h.keeps kw) hlt
      have hi1 : (k : Int) < (n : Int) := by omega
      have hxs : x.size ≤ maxLen := by have := HS.out k; rw [← hx.out] at this; exact this
      have b4 : Bl (wo.alloc (.cells #[.string x, .int .i64 y] 82)) wo.heap.size [.string x, .int .i64 y] := Bl.new' rfl (by simp)
      have kA := kw.trans (keeps_alloc wo (.cells #[.string x, .int .i64 y] 82))
      go_wp2_with fail
      refine (isWord_any hxs).mono ?_
      rintro e w' ⟨rfl, rfl⟩
      obtain ⟨p1, H1⟩ : ∃ p, Hid (wordB x = p) := ⟨_, rfl⟩
      rw [H1.out]
      cases p1
      · have HX := hid (schB_no HL.out hlt (schRow_no1 hx.out H1.out))
        go_wp2
        go_ret
        exact ⟨ret_bool HX.out.symm, kA⟩
      by_cases y2 : y < 2
      · have HX := hid (schB_no HL.out hlt (schRow_no2 hx.out (by rw [Bool.eq_false_iff]; intro e; have := inB_true.1 e; omega)))
        go_wp2
        go_ret
        exact ⟨ret_bool HX.out.symm, kA⟩
      by_cases y8 : 8 < y
      · have HX := hid (schB_no HL.out hlt (schRow_no2 hx.out (by rw [Bool.eq_false_iff]; intro e; have := inB_true.1 e; omega)))
        go_wp2
        go_ret
        exact ⟨ret_bool HX.out.symm, kA⟩
      have H2 := hid (show inB y 2 8 = true from inB_true.2 (by omega))
      have hkc : (k : Int) ≤ (c : Int) := by omega
      have hvk := Vars.front (h.keeps kA) (k := k) (by omega)
      go_wp2_with fail
      clear hc hd
      go_loopw [40] (fun i wv => ∃ j : Nat, j ≤ k ∧ i = .int .i64 j ∧ Hid (findTo l x j = -1) ∧ Bl wv wo.heap.size [.string x, .int .i64 y] ∧ Keeps w wv) (fun i _ => k - (intOf i).toNat)
      case atStart => exact ⟨0, Nat.zero_le _, rfl, rfl, b4, kA⟩
      clear b4 kA kw hvk
      case round =>
        obtain ⟨j, hj, rfl, HF, b4, kv⟩ := hrel
        by_cases hjt : j < k
        · obtain ⟨b', off', x', y', e', _, _, hc, hd, hx'⟩ := Vars.at_ (h.keeps kv) (k := j) (by omega)
          obtain ⟨rfl, rfl⟩ : b = b' ∧ off = off' := by simpa using e'
          clear e'
          have hj1 : (j : Int) < (k : Int) := by omega
          have ca0 := (b4.2 0 _ rfl).1
          have lt4 := b4.lt
          have kB := kv.trans (keeps_alloc wr (.cells #[.string x', .int .i64 y'] 82))
          have b4B := b4.keeps (keeps_alloc wr (.cells #[.string x', .int .i64 y'] 82))
          rcases Bool.eq_false_or_eq_true (x'.toList == x.toList) with he | he
          · have HY := hid (findTo_stay (findTo_yes HF.out (by rw [← hx'.out]; exact he)) (by omega) hjt)
            have HX := hid (schB_no HL.out hlt (schRow_no3 hx.out (by rw [HY.out]; omega)))
            go_wp2_with fail
            go_ret
            exact ⟨ret_bool HX.out.symm, kB⟩
          · have HN := hid (findTo_no HF.out (by rw [← hx'.out]; exact he))
            go_wp2_with fail
            go_roundw
            case rel => exact ⟨j + 1, by omega, by go_num, HN, b4B, kB⟩
            case measure => simp [intOf]; omega
        · obtain rfl : j = k := by omega
          have HN := hid (schTo_yes HT.out hx.out H1.out H2.out HF.out)
          go_wp2_with fail
          go_roundw
          case rel => exact ⟨j + 1, by omega, by go_num, HN, kv⟩
          case measure => simp [intOf]; omega
    · obtain rfl : k = n := by omega
      go_wp2
      go_ret
      exact ⟨ret_bool (schB_yes HL.out (by omega) (by omega) HT.out).symm, kw⟩
set_option maxRecDepth 100000 in
set_option maxHeartbeats 6400000 in
theorem sGood_any {A : Option Addr} {lo hi n c : Nat} {l : List VV} {w : World} (h : Vars w lo hi A n l) (hs : NamesOk l) (hcap : n ≤ c) (hc64 : c ≤ maxLen) :
    Calls Tryz.prog 86 #[.slice A n c] w fun e w' => e = .returned (.bool (schB l)) ∧ Keeps w w' := by
  have hn := h.le
  have hl := Vars.len h
  unfold maxLen at hc64
  have HL := hid hl
  have HS := hid hs
  clear hl hs
  have hcap2 : (n : Int) ≤ (c : Int) := by omega
  obtain ⟨p0, H0⟩ : ∃ p, Hid (inB (n : Int) 1 6 = p) := ⟨_, rfl⟩
  go_enter Tryz.func86, Tryz.ntmps86
  go_wp2_with fail
  refine (l1In_any _ _ _ _).mono ?_
  rintro e w' ⟨rfl, rfl⟩
  rw [H0.out]
  cases p0
  · go_wp2
    go_ret
    exact ⟨ret_bool (schB_len (by rw [HL.out]; intro e; have := inB_true.2 (show (1 : Int) ≤ (n : Int) ∧ (n : Int) ≤ 6 by omega); rw [H0.out] at this; cases this)).symm, keeps_refl _⟩
  have h16 := inB_true.1 H0.out
  go_wp2_with fail
  go_loopw [11] (fun i wr => ∃ k : Nat, k ≤ n ∧ i = .int .i64 k ∧ Hid (schTo l k = true) ∧ Keeps w wr) (fun i _ => n - (intOf i).toNat)
  case atStart => exact ⟨0, Nat.zero_le _, rfl, rfl, keeps_refl _⟩
  case round =>
    obtain ⟨k, hk, rfl, HT, kw⟩ := hrel
    by_cases hlt : k < n
    · obtain ⟨b, off, x, y, rfl, _, _, hc, hd, hx⟩ := Vars.at_ (h.keeps kw) hlt
      have hi1 : (k : Int) < (n : Int) := by omega
      have hkc : (k : Int) ≤ (c : Int) := by omega
      have hxs : x.size ≤ maxLen := by have := HS.out k; rw [← hx.out] at this; exact this
      have b4 : Bl (wr.alloc (.cells #[.string x, .int .i64 y] 82)) wr.heap.size [.string x, .int .i64 y] := Bl.new' rfl (by simp)
      have kA := kw.trans (keeps_alloc wr (.cells #[.string x, .int .i64 y] 82))
      have r1 := fun d os => cell_regrown (b4.2 0 _ rfl).1 d os
      have r2 := fun d os => cell_regrown (b4.2 1 _ rfl).1 d os
      have hvk := fun (d : Nat) (os : Array Obj) => Vars.front (h.keeps (kA.trans (below_regrown (wr.alloc (.cells #[.string x, .int .i64 y] 82)) d os))) (k := k) (by omega)
      have cN := hid (fun (d : Nat) (os : Array Obj) => (sName_any (w := grow (redrawn (wr.alloc (.cells #[.string x, .int .i64 y] 82)) d) os) hxs).mono (fun e w' h => (⟨h.1, by rw [h.2]; exact keeps_refl _⟩ : e = .returned (.bool (wordB x)) ∧ Keeps (grow (redrawn (wr.alloc (.cells #[.string x, .int .i64 y] 82)) d) os) w')))
      have cI := hid (fun (d : Nat) (os : Array Obj) => (l1In_any y 2 8 (grow (redrawn (wr.alloc (.cells #[.string x, .int .i64 y] 82)) d) os)).mono (fun e w' h => (⟨h.1, by rw [← h.2]; exact keeps_refl _⟩ : e = .returned (.bool (inB y 2 8)) ∧ Keeps (grow (redrawn (wr.alloc (.cells #[.string x, .int .i64 y] 82)) d) os) w')))
      have cF := hid (fun (d : Nat) (os : Array Obj) => sFind_any (c := c) (nm := x) (hvk d os))
      obtain ⟨p1, H1⟩ : ∃ p, Hid (wordB x = p) := ⟨_, rfl⟩
      obtain ⟨p2, H2⟩ : ∃ p, Hid (inB y 2 8 = p) := ⟨_, rfl⟩
      obtain ⟨F, HF0⟩ : ∃ F : Int, Hid (findTo (l.take k) x k = F) := ⟨_, rfl⟩
      have HF := hid ((findTo_take l x (k := k) (by rw [HL.out]; omega) k (Nat.le_refl _)).symm.trans HF0.out)
      have hge := findTo_ge l x k
      rw [HF.out] at hge
      rw [H1.out] at cN
      rw [H2.out] at cI
      rw [HF0.out] at cF
      clear b4 hvk
      cases p1
      · have HX := hid (schB_no HL.out hlt (schRow_no1 hx.out H1.out))
        go_wp2_with fail
        refine wp_region_quiet_below (by kernel_rfl) (by kernel_rfl) ?_
        iterate 19 (go_big_quiet_step ((first | with_reducible exact Calls.regrown_of (cN.out _ _) | with_reducible exact Calls.regrown_of (cI.out _ _) | with_reducible exact Calls.regrown_of (cF.out _ _))))
        refine wpQuiet_nil ?_
        intro _ hw'
        obtain ⟨⟨dq, osq⟩, hw''⟩ := hw'
        subst hw''
        clear r1 r2 cN cI cF
        have kQ := below_regrown (wr.alloc (.cells #[.string x, .int .i64 y] 82)) dq osq
        obtain ⟨wQ, hwQ⟩ : ∃ u, u = grow (redrawn (wr.alloc (.cells #[.string x, .int .i64 y] 82)) dq) osq := ⟨_, rfl⟩
        rw [← hwQ] at kQ
        rw [← hwQ]
        clear hwQ
        have kw2 := kA.trans kQ
        clear kA kQ
        go_wp2
        go_ret
        exact ⟨ret_bool HX.out.symm, kw2⟩
      cases p2
      · have HX := hid (schB_no HL.out hlt (schRow_no2 hx.out H2.out))
        go_wp2_with fail
        refine wp_region_quiet_below (by kernel_rfl) (by kernel_rfl) ?_
        iterate 19 (go_big_quiet_step ((first | with_reducible exact Calls.regrown_of (cN.out _ _) | with_reducible exact Calls.regrown_of (cI.out _ _) | with_reducible exact Calls.regrown_of (cF.out _ _))))
        refine wpQuiet_nil ?_
        intro _ hw'
        obtain ⟨⟨dq, osq⟩, hw''⟩ := hw'
        subst hw''
        clear r1 r2 cN cI cF
        have kQ := below_regrown (wr.alloc (.cells #[.string x, .int .i64 y] 82)) dq osq
        obtain ⟨wQ, hwQ⟩ : ∃ u, u = grow (redrawn (wr.alloc (.cells #[.string x, .int .i64 y] 82)) dq) osq := ⟨_, rfl⟩
        rw [← hwQ] at kQ
        rw [← hwQ]
        clear hwQ
        have kw2 := kA.trans kQ
        clear kA kQ
        go_wp2
        go_ret
        exact ⟨ret_bool HX.out.symm, kw2⟩
      by_cases hF : 0 ≤ F
      · have HX := hid (schB_no HL.out hlt (schRow_no3 hx.out (by rw [HF.out]; exact hF)))
        go_wp2_with fail
        refine wp_region_quiet_below (by kernel_rfl) (by kernel_rfl) ?_
        iterate 19 (go_big_quiet_step ((first | with_reducible exact Calls.regrown_of (cN.out _ _) | with_reducible exact Calls.regrown_of (cI.out _ _) | with_reducible exact Calls.regrown_of (cF.out _ _))))
        refine wpQuiet_nil ?_
        intro _ hw'
        obtain ⟨⟨dq, osq⟩, hw''⟩ := hw'
        subst hw''
        clear r1 r2 cN cI cF
        have kQ := below_regrown (wr.alloc (.cells #[.string x, .int .i64 y] 82)) dq osq
        obtain ⟨wQ, hwQ⟩ : ∃ u, u = grow (redrawn (wr.alloc (.cells #[.string x, .int .i64 y] 82)) dq) osq := ⟨_, rfl⟩
        rw [← hwQ] at kQ
        rw [← hwQ]
        clear hwQ
        have kw2 := kA.trans kQ
        clear kA kQ
        go_wp2
        go_ret
        exact ⟨ret_bool HX.out.symm, kw2⟩
      · have HN := hid (schTo_yes HT.out hx.out H1.out H2.out (by rw [HF.out]; omega))
        go_wp2_with fail
        refine wp_region_quiet_below (by kernel_rfl) (by kernel_rfl) ?_
        iterate 19 (go_big_quiet_step ((first | with_reducible exact Calls.regrown_of (cN.out _ _) | with_reducible exact Calls.regrown_of (cI.out _ _) | with_reducible exact Calls.regrown_of (cF.out _ _))))
        refine wpQuiet_nil ?_
        intro _ hw'
        obtain ⟨⟨dq, osq⟩, hw''⟩ := hw'
        subst hw''
        clear r1 r2 cN cI cF
        have kQ := below_regrown (wr.alloc (.cells #[.string x, .int .i64 y] 82)) dq osq
        obtain ⟨wQ, hwQ⟩ : ∃ u, u = grow (redrawn (wr.alloc (.cells #[.string x, .int .i64 y] 82)) dq) osq := ⟨_, rfl⟩
        rw [← hwQ] at kQ
        rw [← hwQ]
        clear hwQ
        have kw2 := kA.trans kQ
        clear kA kQ
        go_wp2_with fail
        go_roundw
        case rel => exact ⟨k + 1, by omega, by go_num, HN, kw2⟩
        case measure => simp [intOf]; omega
    · obtain rfl : k = n := by omega
      go_wp2
      go_ret
      exact ⟨ret_bool (schB_yes HL.out (by omega) (by omega) HT.out).symm, kw⟩
end Go.Proofs.YtlkjhkkfdmjfcaaGreatDoor
