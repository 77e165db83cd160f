/- Losses, releases, histories: valid or not; of the program and of the reference. -/
import Derived.Test.YtlkjhkkfdmjfcaaGreatDoorTbm
import Derived.Test.YtlkjhkkfdmjfcaaGreatDoorKC
namespace Go.Proofs.YtlkjhkkfdmjfcaaGreatDoor
open Go.RowKit
set_option linter.unusedVariables false
set_option linter.unusedSimpArgs false
theorem Has.keeps {w w' : World} {B e size n : Nat} {v : Value} {cs : List Value} (h : Has w B e size v n cs) (hb : Keeps w w') : Has w' B e size v n cs := h.below hb

def lossB (a b c d : Int) : Bool := fracB a b && fracB c d && (decide (b ≤ a) && decide (0 ≤ c))
def relB (ps : List Int) (l : List VV) (r : RL) : Bool := inB r.1 1 999 && plB ps l r.2.1 && lossB r.2.2.1 r.2.2.2.1 r.2.2.2.2.1 r.2.2.2.2.2
def hisTo (ps : List Int) (l : List VV) (rs : List RL) : Nat → Bool
  | 0 => true
  | k + 1 => hisTo ps l rs k && (decide ((rs.getD k rl0).1 = (k : Int) + 1) && relB ps l (rs.getD k rl0))
/-- A history. -/
def hisB (ps : List Int) (l : List VV) (rs : List RL) : Bool := geoB ps && schB l && decide (rs.length ≤ 12) && hisTo ps l rs rs.length
theorem hisTo_bad {ps : List Int} {l : List VV} {rs : List RL} {k n : Nat} (h : hisTo ps l rs k = false) (hn : k ≤ n) : hisTo ps l rs n = false := by
  induction n with
  | zero => obtain rfl : k = 0 := by omega
            exact h
  | succ n ih =>
    rcases Nat.lt_or_ge n k with h1 | h1
    · obtain rfl : k = n + 1 := by omega
      exact h
    · unfold hisTo; rw [ih h1]; rfl
theorem hisTo_row {ps : List Int} {l : List VV} {rs : List RL} : ∀ n k, hisTo ps l rs n = true → k < n → (rs.getD k rl0).1 = (k : Int) + 1 ∧ relB ps l (rs.getD k rl0) = true
  | 0, k, _, hk => absurd hk (by omega)
  | n + 1, k, h, hk => by
    unfold hisTo at h
    simp only [Bool.and_eq_true, decide_eq_true_eq] at h
    rcases Nat.lt_or_ge k n with h1 | h1
    · exact hisTo_row n k h.1 h1
    · obtain rfl : k = n := by omega
      exact h.2
theorem hisB_no {ps : List Int} {l : List VV} {rs : List RL} {n k : Nat} (hl : rs.length = n) (hk : k < n) (h : (decide ((rs.getD k rl0).1 = (k : Int) + 1) && relB ps l (rs.getD k rl0)) = false) : hisB ps l rs = false := by
  unfold hisB; rw [hl, hisTo_bad (k := k + 1) (by unfold hisTo; rw [h, Bool.and_false]) hk, Bool.and_false]
theorem hisB_len {ps : List Int} {l : List VV} {rs : List RL} (h : ¬ rs.length ≤ 12) : hisB ps l rs = false := by unfold hisB; rw [decide_eq_false h]; simp
theorem hisB_in {ps : List Int} {l : List VV} {rs : List RL} (h : (geoB ps && schB l) = false) : hisB ps l rs = false := by unfold hisB; rw [h]; rfl
theorem hisB_yes {ps : List Int} {l : List VV} {rs : List RL} {n : Nat} (hg : geoB ps = true) (hs : schB l = true) (hl : rs.length = n) (h2 : n ≤ 12) (h : hisTo ps l rs n = true) : hisB ps l rs = true := by unfold hisB; rw [hg, hs, hl, h, decide_eq_true h2]; rfl
theorem hisB_parts {ps : List Int} {l : List VV} {rs : List RL} (h : hisB ps l rs = true) : geoB ps = true ∧ schB l = true ∧ rs.length ≤ 12 ∧ ∀ k, k < rs.length → (rs.getD k rl0).1 = (k : Int) + 1 ∧ relB ps l (rs.getD k rl0) = true := by
  unfold hisB at h
  simp only [Bool.and_eq_true, decide_eq_true_eq] at h
  exact ⟨h.1.1.1, h.1.1.2, h.1.2, fun k hk => hisTo_row _ k h.2 hk⟩
def irQ (ps : List Int) (l : List VV) (r : RL) : Bool × Bool := if (geoB ps && schB l) = true then (relB ps l r, true) else (false, false)
theorem irQ_no {ps : List Int} {l : List VV} {r : RL} (h : (geoB ps && schB l) = false) : irQ ps l r = (false, false) := if_neg (by rw [h]; simp)
theorem irQ_yes {ps : List Int} {l : List VV} {r : RL} (h : (geoB ps && schB l) = true) : irQ ps l r = (relB ps l r, true) := if_pos h
def ihQ (ps : List Int) (l : List VV) (rs : List RL) : Bool × Bool := if (geoB ps && schB l) = true then (hisB ps l rs, true) else (false, false)
theorem ihQ_no {ps : List Int} {l : List VV} {rs : List RL} (h : (geoB ps && schB l) = false) : ihQ ps l rs = (false, false) := if_neg (by rw [h]; simp)
theorem ihQ_yes {ps : List Int} {l : List VV} {rs : List RL} (h : (geoB ps && schB l) = true) : ihQ ps l rs = (hisB ps l rs, true) := if_pos h
theorem ne_ver {x : Int} {k : Nat} (h : x ≠ (k : Int) + 1) : (x != (k : Int) + 1) = true := by rw [bne_iff_ne]; exact h
theorem eq_ver {x : Int} {k : Nat} (h : x = (k : Int) + 1) : (x != (k : Int) + 1) = false := by subst h; simp

set_option maxRecDepth 100000 in
set_option maxHeartbeats 1600000 in
theorem IsLoss_any {x1 x2 x3 x4 : Int} {w : World} :
    Calls Tryz.prog 81 #[.agg #[.int .i64 x1, .int .i64 x2, .int .i64 x3, .int .i64 x4]] w fun e w' => e = .returned (.bool (lossB x1 x2 x3 x4)) ∧ Keeps w w' := by
  obtain ⟨X, hX⟩ : ∃ X, lossB x1 x2 x3 x4 = X := ⟨_, rfl⟩
  rw [hX]
  have HB := hid (show (fracB x1 x2 && fracB x3 x4 && (decide (x2 ≤ x1) && decide (0 ≤ x3))) = X from hX)
  clear hX
  go_enter Tryz.func81, Tryz.ntmps81
  have kw := keeps_refl w
  replace kw := Keeps.trans kw (keeps_alloc w (.cells #[.int .i64 x1, .int .i64 x2, .int .i64 x3, .int .i64 x4] 48))
  have b1 : Bl (w.alloc (.cells #[.int .i64 x1, .int .i64 x2, .int .i64 x3, .int .i64 x4] 48)) w.heap.size [.int .i64 x1, .int .i64 x2, .int .i64 x3, .int .i64 x4] := Bl.new' (by simp) (by simp)
  have ca1_0 : (w.alloc (.cells #[.int .i64 x1, .int .i64 x2, .int .i64 x3, .int .i64 x4] 48)).cell? ⟨w.heap.size, 0, none⟩ = some (.int .i64 x1) := (b1.2 0 _ rfl).1
  have fa1_0 : (w.alloc (.cells #[.int .i64 x1, .int .i64 x2, .int .i64 x3, .int .i64 x4] 48)).frozen? ⟨w.heap.size, 0, none⟩ = false := (b1.2 0 _ rfl).2
  have ca1_1 : (w.alloc (.cells #[.int .i64 x1, .int .i64 x2, .int .i64 x3, .int .i64 x4] 48)).cell? ⟨w.heap.size, 1, none⟩ = some (.int .i64 x2) := (b1.2 1 _ rfl).1
  have fa1_1 : (w.alloc (.cells #[.int .i64 x1, .int .i64 x2, .int .i64 x3, .int .i64 x4] 48)).frozen? ⟨w.heap.size, 1, none⟩ = false := (b1.2 1 _ rfl).2
  have ca1_2 : (w.alloc (.cells #[.int .i64 x1, .int .i64 x2, .int .i64 x3, .int .i64 x4] 48)).cell? ⟨w.heap.size, 2, none⟩ = some (.int .i64 x3) := (b1.2 2 _ rfl).1
  have fa1_2 : (w.alloc (.cells #[.int .i64 x1, .int .i64 x2, .int .i64 x3, .int .i64 x4] 48)).frozen? ⟨w.heap.size, 2, none⟩ = false := (b1.2 2 _ rfl).2
  have ca1_3 : (w.alloc (.cells #[.int .i64 x1, .int .i64 x2, .int .i64 x3, .int .i64 x4] 48)).cell? ⟨w.heap.size, 3, none⟩ = some (.int .i64 x4) := (b1.2 3 _ rfl).1
  have fa1_3 : (w.alloc (.cells #[.int .i64 x1, .int .i64 x2, .int .i64 x3, .int .i64 x4] 48)).frozen? ⟨w.heap.size, 3, none⟩ = false := (b1.2 3 _ rfl).2
  go_wp2_with fail
  clear ca1_0 fa1_0 ca1_1 fa1_1 ca1_2 fa1_2 ca1_3 fa1_3
  obtain ⟨pH1, H1⟩ : ∃ pB, Hid (fracB x1 x2 = pB) := ⟨_, rfl⟩
  refine (IsFrac_any).mono ?_
  rintro e w2 ⟨rfl, k2⟩
  rw [H1.out]
  replace b1 := b1.keeps k2
  replace kw := Keeps.trans kw k2
  have lt3 := b1.lt
  have sz4 := kw.size
  clear k2
  cases pH1
  · have ca5_0 : w2.cell? ⟨w.heap.size, 0, none⟩ = some (.int .i64 x1) := (b1.2 0 _ rfl).1
    have fa5_0 : w2.frozen? ⟨w.heap.size, 0, none⟩ = false := (b1.2 0 _ rfl).2
    have ca5_1 : w2.cell? ⟨w.heap.size, 1, none⟩ = some (.int .i64 x2) := (b1.2 1 _ rfl).1
    have fa5_1 : w2.frozen? ⟨w.heap.size, 1, none⟩ = false := (b1.2 1 _ rfl).2
    have ca5_2 : w2.cell? ⟨w.heap.size, 2, none⟩ = some (.int .i64 x3) := (b1.2 2 _ rfl).1
    have fa5_2 : w2.frozen? ⟨w.heap.size, 2, none⟩ = false := (b1.2 2 _ rfl).2
    have ca5_3 : w2.cell? ⟨w.heap.size, 3, none⟩ = some (.int .i64 x4) := (b1.2 3 _ rfl).1
    have fa5_3 : w2.frozen? ⟨w.heap.size, 3, none⟩ = false := (b1.2 3 _ rfl).2
    go_wp2_with fail
    clear ca5_0 fa5_0 ca5_1 fa5_1 ca5_2 fa5_2 ca5_3 fa5_3
    go_ret
    exact ⟨ret_bool (by rw [← HB.out, H1.out]; rfl), kw⟩
  · skip
    have ca5_0 : w2.cell? ⟨w.heap.size, 0, none⟩ = some (.int .i64 x1) := (b1.2 0 _ rfl).1
    have fa5_0 : w2.frozen? ⟨w.heap.size, 0, none⟩ = false := (b1.2 0 _ rfl).2
    have ca5_1 : w2.cell? ⟨w.heap.size, 1, none⟩ = some (.int .i64 x2) := (b1.2 1 _ rfl).1
    have fa5_1 : w2.frozen? ⟨w.heap.size, 1, none⟩ = false := (b1.2 1 _ rfl).2
    have ca5_2 : w2.cell? ⟨w.heap.size, 2, none⟩ = some (.int .i64 x3) := (b1.2 2 _ rfl).1
    have fa5_2 : w2.frozen? ⟨w.heap.size, 2, none⟩ = false := (b1.2 2 _ rfl).2
    have ca5_3 : w2.cell? ⟨w.heap.size, 3, none⟩ = some (.int .i64 x4) := (b1.2 3 _ rfl).1
    have fa5_3 : w2.frozen? ⟨w.heap.size, 3, none⟩ = false := (b1.2 3 _ rfl).2
    go_wp2_with fail
    clear ca5_0 fa5_0 ca5_1 fa5_1 ca5_2 fa5_2 ca5_3 fa5_3
    obtain ⟨pH2, H2⟩ : ∃ pB, Hid (fracB x3 x4 = pB) := ⟨_, rfl⟩
    refine (IsFrac_any).mono ?_
    rintro e w6 ⟨rfl, k6⟩
    rw [H2.out]
    replace b1 := b1.keeps k6
    replace kw := Keeps.trans kw k6
    have lt7 := b1.lt
    have sz8 := kw.size
    clear k6
    cases pH2
    · have ca9_0 : w6.cell? ⟨w.heap.size, 0, none⟩ = some (.int .i64 x1) := (b1.2 0 _ rfl).1
      have fa9_0 : w6.frozen? ⟨w.heap.size, 0, none⟩ = false := (b1.2 0 _ rfl).2
      have ca9_1 : w6.cell? ⟨w.heap.size, 1, none⟩ = some (.int .i64 x2) := (b1.2 1 _ rfl).1
      have fa9_1 : w6.frozen? ⟨w.heap.size, 1, none⟩ = false := (b1.2 1 _ rfl).2
      have ca9_2 : w6.cell? ⟨w.heap.size, 2, none⟩ = some (.int .i64 x3) := (b1.2 2 _ rfl).1
      have fa9_2 : w6.frozen? ⟨w.heap.size, 2, none⟩ = false := (b1.2 2 _ rfl).2
      have ca9_3 : w6.cell? ⟨w.heap.size, 3, none⟩ = some (.int .i64 x4) := (b1.2 3 _ rfl).1
      have fa9_3 : w6.frozen? ⟨w.heap.size, 3, none⟩ = false := (b1.2 3 _ rfl).2
      go_wp2_with fail
      clear ca9_0 fa9_0 ca9_1 fa9_1 ca9_2 fa9_2 ca9_3 fa9_3
      go_ret
      exact ⟨ret_bool (by rw [← HB.out, H1.out, H2.out]; rfl), kw⟩
    · skip
      by_cases h1 : x2 ≤ x1
      rotate_left
      · have D1 := hid (decide_eq_false h1)
        have ca9_0 : w6.cell? ⟨w.heap.size, 0, none⟩ = some (.int .i64 x1) := (b1.2 0 _ rfl).1
        have fa9_0 : w6.frozen? ⟨w.heap.size, 0, none⟩ = false := (b1.2 0 _ rfl).2
        have ca9_1 : w6.cell? ⟨w.heap.size, 1, none⟩ = some (.int .i64 x2) := (b1.2 1 _ rfl).1
        have fa9_1 : w6.frozen? ⟨w.heap.size, 1, none⟩ = false := (b1.2 1 _ rfl).2
        have ca9_2 : w6.cell? ⟨w.heap.size, 2, none⟩ = some (.int .i64 x3) := (b1.2 2 _ rfl).1
        have fa9_2 : w6.frozen? ⟨w.heap.size, 2, none⟩ = false := (b1.2 2 _ rfl).2
        have ca9_3 : w6.cell? ⟨w.heap.size, 3, none⟩ = some (.int .i64 x4) := (b1.2 3 _ rfl).1
        have fa9_3 : w6.frozen? ⟨w.heap.size, 3, none⟩ = false := (b1.2 3 _ rfl).2
        go_wp2_with fail
        clear ca9_0 fa9_0 ca9_1 fa9_1 ca9_2 fa9_2 ca9_3 fa9_3
        go_ret
        exact ⟨ret_bool (by rw [← HB.out, H1.out, H2.out, D1.out]; rfl), kw⟩
      have D1 := hid (decide_eq_true h1)
      by_cases h2 : 0 ≤ x3
      · have D2 := hid (decide_eq_true h2)
        have ca9_0 : w6.cell? ⟨w.heap.size, 0, none⟩ = some (.int .i64 x1) := (b1.2 0 _ rfl).1
        have fa9_0 : w6.frozen? ⟨w.heap.size, 0, none⟩ = false := (b1.2 0 _ rfl).2
        have ca9_1 : w6.cell? ⟨w.heap.size, 1, none⟩ = some (.int .i64 x2) := (b1.2 1 _ rfl).1
        have fa9_1 : w6.frozen? ⟨w.heap.size, 1, none⟩ = false := (b1.2 1 _ rfl).2
        have ca9_2 : w6.cell? ⟨w.heap.size, 2, none⟩ = some (.int .i64 x3) := (b1.2 2 _ rfl).1
        have fa9_2 : w6.frozen? ⟨w.heap.size, 2, none⟩ = false := (b1.2 2 _ rfl).2
        have ca9_3 : w6.cell? ⟨w.heap.size, 3, none⟩ = some (.int .i64 x4) := (b1.2 3 _ rfl).1
        have fa9_3 : w6.frozen? ⟨w.heap.size, 3, none⟩ = false := (b1.2 3 _ rfl).2
        go_wp2_with fail
        clear ca9_0 fa9_0 ca9_1 fa9_1 ca9_2 fa9_2 ca9_3 fa9_3
        go_ret
        exact ⟨ret_bool (by rw [← HB.out, H1.out, H2.out, D1.out, D2.out]; rfl), kw⟩
      · have D2 := hid (decide_eq_false h2)
        have ca9_0 : w6.cell? ⟨w.heap.size, 0, none⟩ = some (.int .i64 x1) := (b1.2 0 _ rfl).1
        have fa9_0 : w6.frozen? ⟨w.heap.size, 0, none⟩ = false := (b1.2 0 _ rfl).2
        have ca9_1 : w6.cell? ⟨w.heap.size, 1, none⟩ = some (.int .i64 x2) := (b1.2 1 _ rfl).1
        have fa9_1 : w6.frozen? ⟨w.heap.size, 1, none⟩ = false := (b1.2 1 _ rfl).2
        have ca9_2 : w6.cell? ⟨w.heap.size, 2, none⟩ = some (.int .i64 x3) := (b1.2 2 _ rfl).1
        have fa9_2 : w6.frozen? ⟨w.heap.size, 2, none⟩ = false := (b1.2 2 _ rfl).2
        have ca9_3 : w6.cell? ⟨w.heap.size, 3, none⟩ = some (.int .i64 x4) := (b1.2 3 _ rfl).1
        have fa9_3 : w6.frozen? ⟨w.heap.size, 3, none⟩ = false := (b1.2 3 _ rfl).2
        go_wp2_with fail
        clear ca9_0 fa9_0 ca9_1 fa9_1 ca9_2 fa9_2 ca9_3 fa9_3
        go_ret
        exact ⟨ret_bool (by rw [← HB.out, H1.out, H2.out, D1.out, D2.out]; rfl), kw⟩
set_option maxRecDepth 100000 in
set_option maxHeartbeats 1600000 in
theorem pGood_any {x1 x2 x3 x4 : Int} {w : World} :
    Calls Tryz.prog 88 #[.agg #[.int .i64 x1, .int .i64 x2, .int .i64 x3, .int .i64 x4]] w fun e w' => e = .returned (.bool (lossB x1 x2 x3 x4)) ∧ Keeps w w' := by
  obtain ⟨X, hX⟩ : ∃ X, lossB x1 x2 x3 x4 = X := ⟨_, rfl⟩
  rw [hX]
  have HB := hid (show (fracB x1 x2 && fracB x3 x4 && (decide (x2 ≤ x1) && decide (0 ≤ x3))) = X from hX)
  clear hX
  go_enter Tryz.func88, Tryz.ntmps88
  have kw := keeps_refl w
  replace kw := Keeps.trans kw (keeps_alloc w (.cells #[.int .i64 x1, .int .i64 x2, .int .i64 x3, .int .i64 x4] 48))
  have b1 : Bl (w.alloc (.cells #[.int .i64 x1, .int .i64 x2, .int .i64 x3, .int .i64 x4] 48)) w.heap.size [.int .i64 x1, .int .i64 x2, .int .i64 x3, .int .i64 x4] := Bl.new' (by simp) (by simp)
  have ca1_0 : (w.alloc (.cells #[.int .i64 x1, .int .i64 x2, .int .i64 x3, .int .i64 x4] 48)).cell? ⟨w.heap.size, 0, none⟩ = some (.int .i64 x1) := (b1.2 0 _ rfl).1
  have fa1_0 : (w.alloc (.cells #[.int .i64 x1, .int .i64 x2, .int .i64 x3, .int .i64 x4] 48)).frozen? ⟨w.heap.size, 0, none⟩ = false := (b1.2 0 _ rfl).2
  have ca1_1 : (w.alloc (.cells #[.int .i64 x1, .int .i64 x2, .int .i64 x3, .int .i64 x4] 48)).cell? ⟨w.heap.size, 1, none⟩ = some (.int .i64 x2) := (b1.2 1 _ rfl).1
  have fa1_1 : (w.alloc (.cells #[.int .i64 x1, .int .i64 x2, .int .i64 x3, .int .i64 x4] 48)).frozen? ⟨w.heap.size, 1, none⟩ = false := (b1.2 1 _ rfl).2
  have ca1_2 : (w.alloc (.cells #[.int .i64 x1, .int .i64 x2, .int .i64 x3, .int .i64 x4] 48)).cell? ⟨w.heap.size, 2, none⟩ = some (.int .i64 x3) := (b1.2 2 _ rfl).1
  have fa1_2 : (w.alloc (.cells #[.int .i64 x1, .int .i64 x2, .int .i64 x3, .int .i64 x4] 48)).frozen? ⟨w.heap.size, 2, none⟩ = false := (b1.2 2 _ rfl).2
  have ca1_3 : (w.alloc (.cells #[.int .i64 x1, .int .i64 x2, .int .i64 x3, .int .i64 x4] 48)).cell? ⟨w.heap.size, 3, none⟩ = some (.int .i64 x4) := (b1.2 3 _ rfl).1
  have fa1_3 : (w.alloc (.cells #[.int .i64 x1, .int .i64 x2, .int .i64 x3, .int .i64 x4] 48)).frozen? ⟨w.heap.size, 3, none⟩ = false := (b1.2 3 _ rfl).2
  go_wp2_with fail
  clear ca1_0 fa1_0 ca1_1 fa1_1 ca1_2 fa1_2 ca1_3 fa1_3
  obtain ⟨pH1, H1⟩ : ∃ pB, Hid (fracB x1 x2 = pB) := ⟨_, rfl⟩
  refine (fGood_any).mono ?_
  rintro e w2 ⟨rfl, k2⟩
  rw [H1.out]
  replace b1 := b1.keeps k2
  replace kw := Keeps.trans kw k2
  have lt3 := b1.lt
  have sz4 := kw.size
  clear k2
  cases pH1
  · have ca5_0 : w2.cell? ⟨w.heap.size, 0, none⟩ = some (.int .i64 x1) := (b1.2 0 _ rfl).1
    have fa5_0 : w2.frozen? ⟨w.heap.size, 0, none⟩ = false := (b1.2 0 _ rfl).2
    have ca5_1 : w2.cell? ⟨w.heap.size, 1, none⟩ = some (.int .i64 x2) := (b1.2 1 _ rfl).1
    have fa5_1 : w2.frozen? ⟨w.heap.size, 1, none⟩ = false := (b1.2 1 _ rfl).2
    have ca5_2 : w2.cell? ⟨w.heap.size, 2, none⟩ = some (.int .i64 x3) := (b1.2 2 _ rfl).1
    have fa5_2 : w2.frozen? ⟨w.heap.size, 2, none⟩ = false := (b1.2 2 _ rfl).2
    have ca5_3 : w2.cell? ⟨w.heap.size, 3, none⟩ = some (.int .i64 x4) := (b1.2 3 _ rfl).1
    have fa5_3 : w2.frozen? ⟨w.heap.size, 3, none⟩ = false := (b1.2 3 _ rfl).2
    go_wp2_with fail
    clear ca5_0 fa5_0 ca5_1 fa5_1 ca5_2 fa5_2 ca5_3 fa5_3
    go_ret
    exact ⟨ret_bool (by rw [← HB.out, H1.out]; rfl), kw⟩
  · skip
    have ca5_0 : w2.cell? ⟨w.heap.size, 0, none⟩ = some (.int .i64 x1) := (b1.2 0 _ rfl).1
    have fa5_0 : w2.frozen? ⟨w.heap.size, 0, none⟩ = false := (b1.2 0 _ rfl).2
    have ca5_1 : w2.cell? ⟨w.heap.size, 1, none⟩ = some (.int .i64 x2) := (b1.2 1 _ rfl).1
    have fa5_1 : w2.frozen? ⟨w.heap.size, 1, none⟩ = false := (b1.2 1 _ rfl).2
    have ca5_2 : w2.cell? ⟨w.heap.size, 2, none⟩ = some (.int .i64 x3) := (b1.2 2 _ rfl).1
    have fa5_2 : w2.frozen? ⟨w.heap.size, 2, none⟩ = false := (b1.2 2 _ rfl).2
    have ca5_3 : w2.cell? ⟨w.heap.size, 3, none⟩ = some (.int .i64 x4) := (b1.2 3 _ rfl).1
    have fa5_3 : w2.frozen? ⟨w.heap.size, 3, none⟩ = false := (b1.2 3 _ rfl).2
    go_wp2_with fail
    clear ca5_0 fa5_0 ca5_1 fa5_1 ca5_2 fa5_2 ca5_3 fa5_3
    obtain ⟨pH2, H2⟩ : ∃ pB, Hid (fracB x3 x4 = pB) := ⟨_, rfl⟩
    refine (fGood_any).mono ?_
    rintro e w6 ⟨rfl, k6⟩
    rw [H2.out]
    replace b1 := b1.keeps k6
    replace kw := Keeps.trans kw k6
    have lt7 := b1.lt
    have sz8 := kw.size
    clear k6
    cases pH2
    · have ca9_0 : w6.cell? ⟨w.heap.size, 0, none⟩ = some (.int .i64 x1) := (b1.2 0 _ rfl).1
      have fa9_0 : w6.frozen? ⟨w.heap.size, 0, none⟩ = false := (b1.2 0 _ rfl).2
      have ca9_1 : w6.cell? ⟨w.heap.size, 1, none⟩ = some (.int .i64 x2) := (b1.2 1 _ rfl).1
      have fa9_1 : w6.frozen? ⟨w.heap.size, 1, none⟩ = false := (b1.2 1 _ rfl).2
      have ca9_2 : w6.cell? ⟨w.heap.size, 2, none⟩ = some (.int .i64 x3) := (b1.2 2 _ rfl).1
      have fa9_2 : w6.frozen? ⟨w.heap.size, 2, none⟩ = false := (b1.2 2 _ rfl).2
      have ca9_3 : w6.cell? ⟨w.heap.size, 3, none⟩ = some (.int .i64 x4) := (b1.2 3 _ rfl).1
      have fa9_3 : w6.frozen? ⟨w.heap.size, 3, none⟩ = false := (b1.2 3 _ rfl).2
      go_wp2_with fail
      clear ca9_0 fa9_0 ca9_1 fa9_1 ca9_2 fa9_2 ca9_3 fa9_3
      go_ret
      exact ⟨ret_bool (by rw [← HB.out, H1.out, H2.out]; rfl), kw⟩
    · skip
      by_cases h1 : x2 ≤ x1
      rotate_left
      · have D1 := hid (decide_eq_false h1)
        have ca9_0 : w6.cell? ⟨w.heap.size, 0, none⟩ = some (.int .i64 x1) := (b1.2 0 _ rfl).1
        have fa9_0 : w6.frozen? ⟨w.heap.size, 0, none⟩ = false := (b1.2 0 _ rfl).2
        have ca9_1 : w6.cell? ⟨w.heap.size, 1, none⟩ = some (.int .i64 x2) := (b1.2 1 _ rfl).1
        have fa9_1 : w6.frozen? ⟨w.heap.size, 1, none⟩ = false := (b1.2 1 _ rfl).2
        have ca9_2 : w6.cell? ⟨w.heap.size, 2, none⟩ = some (.int .i64 x3) := (b1.2 2 _ rfl).1
        have fa9_2 : w6.frozen? ⟨w.heap.size, 2, none⟩ = false := (b1.2 2 _ rfl).2
        have ca9_3 : w6.cell? ⟨w.heap.size, 3, none⟩ = some (.int .i64 x4) := (b1.2 3 _ rfl).1
        have fa9_3 : w6.frozen? ⟨w.heap.size, 3, none⟩ = false := (b1.2 3 _ rfl).2
        go_wp2_with fail
        clear ca9_0 fa9_0 ca9_1 fa9_1 ca9_2 fa9_2 ca9_3 fa9_3
        go_ret
        exact ⟨ret_bool (by rw [← HB.out, H1.out, H2.out, D1.out]; rfl), kw⟩
      have D1 := hid (decide_eq_true h1)
      by_cases h2 : 0 ≤ x3
      · have D2 := hid (decide_eq_true h2)
        have ca9_0 : w6.cell? ⟨w.heap.size, 0, none⟩ = some (.int .i64 x1) := (b1.2 0 _ rfl).1
        have fa9_0 : w6.frozen? ⟨w.heap.size, 0, none⟩ = false := (b1.2 0 _ rfl).2
        have ca9_1 : w6.cell? ⟨w.heap.size, 1, none⟩ = some (.int .i64 x2) := (b1.2 1 _ rfl).1
        have fa9_1 : w6.frozen? ⟨w.heap.size, 1, none⟩ = false := (b1.2 1 _ rfl).2
        have ca9_2 : w6.cell? ⟨w.heap.size, 2, none⟩ = some (.int .i64 x3) := (b1.2 2 _ rfl).1
        have fa9_2 : w6.frozen? ⟨w.heap.size, 2, none⟩ = false := (b1.2 2 _ rfl).2
        have ca9_3 : w6.cell? ⟨w.heap.size, 3, none⟩ = some (.int .i64 x4) := (b1.2 3 _ rfl).1
        have fa9_3 : w6.frozen? ⟨w.heap.size, 3, none⟩ = false := (b1.2 3 _ rfl).2
        go_wp2_with fail
        clear ca9_0 fa9_0 ca9_1 fa9_1 ca9_2 fa9_2 ca9_3 fa9_3
        go_ret
        exact ⟨ret_bool (by rw [← HB.out, H1.out, H2.out, D1.out, D2.out]; rfl), kw⟩
      · have D2 := hid (decide_eq_false h2)
        have ca9_0 : w6.cell? ⟨w.heap.size, 0, none⟩ = some (.int .i64 x1) := (b1.2 0 _ rfl).1
        have fa9_0 : w6.frozen? ⟨w.heap.size, 0, none⟩ = false := (b1.2 0 _ rfl).2
        have ca9_1 : w6.cell? ⟨w.heap.size, 1, none⟩ = some (.int .i64 x2) := (b1.2 1 _ rfl).1
        have fa9_1 : w6.frozen? ⟨w.heap.size, 1, none⟩ = false := (b1.2 1 _ rfl).2
        have ca9_2 : w6.cell? ⟨w.heap.size, 2, none⟩ = some (.int .i64 x3) := (b1.2 2 _ rfl).1
        have fa9_2 : w6.frozen? ⟨w.heap.size, 2, none⟩ = false := (b1.2 2 _ rfl).2
        have ca9_3 : w6.cell? ⟨w.heap.size, 3, none⟩ = some (.int .i64 x4) := (b1.2 3 _ rfl).1
        have fa9_3 : w6.frozen? ⟨w.heap.size, 3, none⟩ = false := (b1.2 3 _ rfl).2
        go_wp2_with fail
        clear ca9_0 fa9_0 ca9_1 fa9_1 ca9_2 fa9_2 ca9_3 fa9_3
        go_ret
        exact ⟨ret_bool (by rw [← HB.out, H1.out, H2.out, D1.out, D2.out]; rfl), kw⟩
set_option maxRecDepth 100000 in
set_option maxHeartbeats 3200000 in
theorem isRelease_any {A A' Q : Option Addr} {lo hi a c0 lo3 hi3 n c q e : Nat} {un : Bool} {v x1 x2 x3 x4 : Int} {ps : List Int} {l : List VV} {ts : List TT} {w : World} (h : Ints w lo hi A a ps) (h' : Sch w A' q e l) (ht : Tabs true un w lo3 hi3 Q n ts) (hg : geoB ps = true) (hs : schB l = true) :
    Calls Tryz.prog 51 #[.agg #[.slice A a c0], .slice A' q e, .agg #[.int .i64 v, .slice Q n c, .int .i64 x1, .int .i64 x2, .int .i64 x3, .int .i64 x4]] w fun e w' => e = .returned (.bool (relB ps l (v, ts, x1, x2, x3, x4))) ∧ Keeps w w' := by
  have HG := hid hg
  have HS := hid hs
  clear hg hs
  obtain ⟨X, hX⟩ : ∃ X, relB ps l (v, ts, x1, x2, x3, x4) = X := ⟨_, rfl⟩
  rw [hX]
  have HB := hid (show (inB v 1 999 && plB ps l ts && lossB x1 x2 x3 x4) = X from hX)
  clear hX
  go_enter Tryz.func51, Tryz.ntmps51
  have kw := keeps_refl w
  replace kw := Keeps.trans kw (keeps_alloc w (.cells #[.slice A a c0] 32))
  have b3 : B1 (w.alloc (.cells #[.slice A a c0] 32)) w.heap.size (.slice A a c0) := B1.new' (by simp)
  replace b3 := b3.keeps (keeps_alloc (w.alloc (.cells #[.slice A a c0] 32)) (.cells #[.int .i64 v, .slice Q n c, .int .i64 x1, .int .i64 x2, .int .i64 x3, .int .i64 x4] 50))
  replace kw := Keeps.trans kw (keeps_alloc (w.alloc (.cells #[.slice A a c0] 32)) (.cells #[.int .i64 v, .slice Q n c, .int .i64 x1, .int .i64 x2, .int .i64 x3, .int .i64 x4] 50))
  have b5 : Bl ((w.alloc (.cells #[.slice A a c0] 32)).alloc (.cells #[.int .i64 v, .slice Q n c, .int .i64 x1, .int .i64 x2, .int .i64 x3, .int .i64 x4] 50)) (w.heap.size + 1) [.int .i64 v, .slice Q n c, .int .i64 x1, .int .i64 x2, .int .i64 x3, .int .i64 x4] := Bl.new' (by simp) (by simp)
  obtain ⟨ca1, fa1⟩ := id b3
  have ca2_0 : ((w.alloc (.cells #[.slice A a c0] 32)).alloc (.cells #[.int .i64 v, .slice Q n c, .int .i64 x1, .int .i64 x2, .int .i64 x3, .int .i64 x4] 50)).cell? ⟨w.heap.size + 1, 0, none⟩ = some (.int .i64 v) := (b5.2 0 _ rfl).1
  have fa2_0 : ((w.alloc (.cells #[.slice A a c0] 32)).alloc (.cells #[.int .i64 v, .slice Q n c, .int .i64 x1, .int .i64 x2, .int .i64 x3, .int .i64 x4] 50)).frozen? ⟨w.heap.size + 1, 0, none⟩ = false := (b5.2 0 _ rfl).2
  have ca2_1 : ((w.alloc (.cells #[.slice A a c0] 32)).alloc (.cells #[.int .i64 v, .slice Q n c, .int .i64 x1, .int .i64 x2, .int .i64 x3, .int .i64 x4] 50)).cell? ⟨w.heap.size + 1, 1, none⟩ = some (.slice Q n c) := (b5.2 1 _ rfl).1
  have fa2_1 : ((w.alloc (.cells #[.slice A a c0] 32)).alloc (.cells #[.int .i64 v, .slice Q n c, .int .i64 x1, .int .i64 x2, .int .i64 x3, .int .i64 x4] 50)).frozen? ⟨w.heap.size + 1, 1, none⟩ = false := (b5.2 1 _ rfl).2
  have ca2_2 : ((w.alloc (.cells #[.slice A a c0] 32)).alloc (.cells #[.int .i64 v, .slice Q n c, .int .i64 x1, .int .i64 x2, .int .i64 x3, .int .i64 x4] 50)).cell? ⟨w.heap.size + 1, 2, none⟩ = some (.int .i64 x1) := (b5.2 2 _ rfl).1
  have fa2_2 : ((w.alloc (.cells #[.slice A a c0] 32)).alloc (.cells #[.int .i64 v, .slice Q n c, .int .i64 x1, .int .i64 x2, .int .i64 x3, .int .i64 x4] 50)).frozen? ⟨w.heap.size + 1, 2, none⟩ = false := (b5.2 2 _ rfl).2
  have ca2_3 : ((w.alloc (.cells #[.slice A a c0] 32)).alloc (.cells #[.int .i64 v, .slice Q n c, .int .i64 x1, .int .i64 x2, .int .i64 x3, .int .i64 x4] 50)).cell? ⟨w.heap.size + 1, 3, none⟩ = some (.int .i64 x2) := (b5.2 3 _ rfl).1
  have fa2_3 : ((w.alloc (.cells #[.slice A a c0] 32)).alloc (.cells #[.int .i64 v, .slice Q n c, .int .i64 x1, .int .i64 x2, .int .i64 x3, .int .i64 x4] 50)).frozen? ⟨w.heap.size + 1, 3, none⟩ = false := (b5.2 3 _ rfl).2
  have ca2_4 : ((w.alloc (.cells #[.slice A a c0] 32)).alloc (.cells #[.int .i64 v, .slice Q n c, .int .i64 x1, .int .i64 x2, .int .i64 x3, .int .i64 x4] 50)).cell? ⟨w.heap.size + 1, 4, none⟩ = some (.int .i64 x3) := (b5.2 4 _ rfl).1
  have fa2_4 : ((w.alloc (.cells #[.slice A a c0] 32)).alloc (.cells #[.int .i64 v, .slice Q n c, .int .i64 x1, .int .i64 x2, .int .i64 x3, .int .i64 x4] 50)).frozen? ⟨w.heap.size + 1, 4, none⟩ = false := (b5.2 4 _ rfl).2
  have ca2_5 : ((w.alloc (.cells #[.slice A a c0] 32)).alloc (.cells #[.int .i64 v, .slice Q n c, .int .i64 x1, .int .i64 x2, .int .i64 x3, .int .i64 x4] 50)).cell? ⟨w.heap.size + 1, 5, none⟩ = some (.int .i64 x4) := (b5.2 5 _ rfl).1
  have fa2_5 : ((w.alloc (.cells #[.slice A a c0] 32)).alloc (.cells #[.int .i64 v, .slice Q n c, .int .i64 x1, .int .i64 x2, .int .i64 x3, .int .i64 x4] 50)).frozen? ⟨w.heap.size + 1, 5, none⟩ = false := (b5.2 5 _ rfl).2
  by_cases h1 : 1 ≤ v
  rotate_left
  · have H1 := hid (inB_not (a := v) (lo := 1) (hi := 999) (by omega))
    clear ca1 fa1 ca2_0 fa2_0 ca2_1 fa2_1 ca2_2 fa2_2 ca2_3 fa2_3 ca2_4 fa2_4 ca2_5 fa2_5
    obtain ⟨ca3, fa3⟩ := id b3
    have ca4_0 : ((w.alloc (.cells #[.slice A a c0] 32)).alloc (.cells #[.int .i64 v, .slice Q n c, .int .i64 x1, .int .i64 x2, .int .i64 x3, .int .i64 x4] 50)).cell? ⟨w.heap.size + 1, 0, none⟩ = some (.int .i64 v) := (b5.2 0 _ rfl).1
    have fa4_0 : ((w.alloc (.cells #[.slice A a c0] 32)).alloc (.cells #[.int .i64 v, .slice Q n c, .int .i64 x1, .int .i64 x2, .int .i64 x3, .int .i64 x4] 50)).frozen? ⟨w.heap.size + 1, 0, none⟩ = false := (b5.2 0 _ rfl).2
    have ca4_1 : ((w.alloc (.cells #[.slice A a c0] 32)).alloc (.cells #[.int .i64 v, .slice Q n c, .int .i64 x1, .int .i64 x2, .int .i64 x3, .int .i64 x4] 50)).cell? ⟨w.heap.size + 1, 1, none⟩ = some (.slice Q n c) := (b5.2 1 _ rfl).1
    have fa4_1 : ((w.alloc (.cells #[.slice A a c0] 32)).alloc (.cells #[.int .i64 v, .slice Q n c, .int .i64 x1, .int .i64 x2, .int .i64 x3, .int .i64 x4] 50)).frozen? ⟨w.heap.size + 1, 1, none⟩ = false := (b5.2 1 _ rfl).2
    have ca4_2 : ((w.alloc (.cells #[.slice A a c0] 32)).alloc (.cells #[.int .i64 v, .slice Q n c, .int .i64 x1, .int .i64 x2, .int .i64 x3, .int .i64 x4] 50)).cell? ⟨w.heap.size + 1, 2, none⟩ = some (.int .i64 x1) := (b5.2 2 _ rfl).1
    have fa4_2 : ((w.alloc (.cells #[.slice A a c0] 32)).alloc (.cells #[.int .i64 v, .slice Q n c, .int .i64 x1, .int .i64 x2, .int .i64 x3, .int .i64 x4] 50)).frozen? ⟨w.heap.size + 1, 2, none⟩ = false := (b5.2 2 _ rfl).2
    have ca4_3 : ((w.alloc (.cells #[.slice A a c0] 32)).alloc (.cells #[.int .i64 v, .slice Q n c, .int .i64 x1, .int .i64 x2, .int .i64 x3, .int .i64 x4] 50)).cell? ⟨w.heap.size + 1, 3, none⟩ = some (.int .i64 x2) := (b5.2 3 _ rfl).1
    have fa4_3 : ((w.alloc (.cells #[.slice A a c0] 32)).alloc (.cells #[.int .i64 v, .slice Q n c, .int .i64 x1, .int .i64 x2, .int .i64 x3, .int .i64 x4] 50)).frozen? ⟨w.heap.size + 1, 3, none⟩ = false := (b5.2 3 _ rfl).2
    have ca4_4 : ((w.alloc (.cells #[.slice A a c0] 32)).alloc (.cells #[.int .i64 v, .slice Q n c, .int .i64 x1, .int .i64 x2, .int .i64 x3, .int .i64 x4] 50)).cell? ⟨w.heap.size + 1, 4, none⟩ = some (.int .i64 x3) := (b5.2 4 _ rfl).1
    have fa4_4 : ((w.alloc (.cells #[.slice A a c0] 32)).alloc (.cells #[.int .i64 v, .slice Q n c, .int .i64 x1, .int .i64 x2, .int .i64 x3, .int .i64 x4] 50)).frozen? ⟨w.heap.size + 1, 4, none⟩ = false := (b5.2 4 _ rfl).2
    have ca4_5 : ((w.alloc (.cells #[.slice A a c0] 32)).alloc (.cells #[.int .i64 v, .slice Q n c, .int .i64 x1, .int .i64 x2, .int .i64 x3, .int .i64 x4] 50)).cell? ⟨w.heap.size + 1, 5, none⟩ = some (.int .i64 x4) := (b5.2 5 _ rfl).1
    have fa4_5 : ((w.alloc (.cells #[.slice A a c0] 32)).alloc (.cells #[.int .i64 v, .slice Q n c, .int .i64 x1, .int .i64 x2, .int .i64 x3, .int .i64 x4] 50)).frozen? ⟨w.heap.size + 1, 5, none⟩ = false := (b5.2 5 _ rfl).2
    go_wp2_with fail
    clear ca3 fa3 ca4_0 fa4_0 ca4_1 fa4_1 ca4_2 fa4_2 ca4_3 fa4_3 ca4_4 fa4_4 ca4_5 fa4_5
    go_ret
    exact ⟨ret_bool (by rw [← HB.out, H1.out]; rfl), kw⟩
  by_cases h9 : v ≤ 999
  rotate_left
  · have H1 := hid (inB_not (a := v) (lo := 1) (hi := 999) (by omega))
    clear ca1 fa1 ca2_0 fa2_0 ca2_1 fa2_1 ca2_2 fa2_2 ca2_3 fa2_3 ca2_4 fa2_4 ca2_5 fa2_5
    obtain ⟨ca3, fa3⟩ := id b3
    have ca4_0 : ((w.alloc (.cells #[.slice A a c0] 32)).alloc (.cells #[.int .i64 v, .slice Q n c, .int .i64 x1, .int .i64 x2, .int .i64 x3, .int .i64 x4] 50)).cell? ⟨w.heap.size + 1, 0, none⟩ = some (.int .i64 v) := (b5.2 0 _ rfl).1
    have fa4_0 : ((w.alloc (.cells #[.slice A a c0] 32)).alloc (.cells #[.int .i64 v, .slice Q n c, .int .i64 x1, .int .i64 x2, .int .i64 x3, .int .i64 x4] 50)).frozen? ⟨w.heap.size + 1, 0, none⟩ = false := (b5.2 0 _ rfl).2
    have ca4_1 : ((w.alloc (.cells #[.slice A a c0] 32)).alloc (.cells #[.int .i64 v, .slice Q n c, .int .i64 x1, .int .i64 x2, .int .i64 x3, .int .i64 x4] 50)).cell? ⟨w.heap.size + 1, 1, none⟩ = some (.slice Q n c) := (b5.2 1 _ rfl).1
    have fa4_1 : ((w.alloc (.cells #[.slice A a c0] 32)).alloc (.cells #[.int .i64 v, .slice Q n c, .int .i64 x1, .int .i64 x2, .int .i64 x3, .int .i64 x4] 50)).frozen? ⟨w.heap.size + 1, 1, none⟩ = false := (b5.2 1 _ rfl).2
    have ca4_2 : ((w.alloc (.cells #[.slice A a c0] 32)).alloc (.cells #[.int .i64 v, .slice Q n c, .int .i64 x1, .int .i64 x2, .int .i64 x3, .int .i64 x4] 50)).cell? ⟨w.heap.size + 1, 2, none⟩ = some (.int .i64 x1) := (b5.2 2 _ rfl).1
    have fa4_2 : ((w.alloc (.cells #[.slice A a c0] 32)).alloc (.cells #[.int .i64 v, .slice Q n c, .int .i64 x1, .int .i64 x2, .int .i64 x3, .int .i64 x4] 50)).frozen? ⟨w.heap.size + 1, 2, none⟩ = false := (b5.2 2 _ rfl).2
    have ca4_3 : ((w.alloc (.cells #[.slice A a c0] 32)).alloc (.cells #[.int .i64 v, .slice Q n c, .int .i64 x1, .int .i64 x2, .int .i64 x3, .int .i64 x4] 50)).cell? ⟨w.heap.size + 1, 3, none⟩ = some (.int .i64 x2) := (b5.2 3 _ rfl).1
    have fa4_3 : ((w.alloc (.cells #[.slice A a c0] 32)).alloc (.cells #[.int .i64 v, .slice Q n c, .int .i64 x1, .int .i64 x2, .int .i64 x3, .int .i64 x4] 50)).frozen? ⟨w.heap.size + 1, 3, none⟩ = false := (b5.2 3 _ rfl).2
    have ca4_4 : ((w.alloc (.cells #[.slice A a c0] 32)).alloc (.cells #[.int .i64 v, .slice Q n c, .int .i64 x1, .int .i64 x2, .int .i64 x3, .int .i64 x4] 50)).cell? ⟨w.heap.size + 1, 4, none⟩ = some (.int .i64 x3) := (b5.2 4 _ rfl).1
    have fa4_4 : ((w.alloc (.cells #[.slice A a c0] 32)).alloc (.cells #[.int .i64 v, .slice Q n c, .int .i64 x1, .int .i64 x2, .int .i64 x3, .int .i64 x4] 50)).frozen? ⟨w.heap.size + 1, 4, none⟩ = false := (b5.2 4 _ rfl).2
    have ca4_5 : ((w.alloc (.cells #[.slice A a c0] 32)).alloc (.cells #[.int .i64 v, .slice Q n c, .int .i64 x1, .int .i64 x2, .int .i64 x3, .int .i64 x4] 50)).cell? ⟨w.heap.size + 1, 5, none⟩ = some (.int .i64 x4) := (b5.2 5 _ rfl).1
    have fa4_5 : ((w.alloc (.cells #[.slice A a c0] 32)).alloc (.cells #[.int .i64 v, .slice Q n c, .int .i64 x1, .int .i64 x2, .int .i64 x3, .int .i64 x4] 50)).frozen? ⟨w.heap.size + 1, 5, none⟩ = false := (b5.2 5 _ rfl).2
    go_wp2_with fail
    clear ca3 fa3 ca4_0 fa4_0 ca4_1 fa4_1 ca4_2 fa4_2 ca4_3 fa4_3 ca4_4 fa4_4 ca4_5 fa4_5
    go_ret
    exact ⟨ret_bool (by rw [← HB.out, H1.out]; rfl), kw⟩
  have H1 := hid (inB_true (a := v) (lo := 1) (hi := 999) |>.2 ⟨h1, h9⟩)
  go_wp2_with fail
  clear ca1 fa1 ca2_0 fa2_0 ca2_1 fa2_1 ca2_2 fa2_2 ca2_3 fa2_3 ca2_4 fa2_4 ca2_5 fa2_5
  obtain ⟨pH2, H2⟩ : ∃ pB, Hid (plB ps l ts = pB) := ⟨_, rfl⟩
  refine (isPlan_any (h.keeps kw) (h'.keeps kw) (ht.keeps kw) HG.out HS.out).mono ?_
  rintro e w3 ⟨rfl, k3⟩
  rw [H2.out]
  replace b3 := b3.keeps k3
  replace b5 := b5.keeps k3
  replace kw := Keeps.trans kw k3
  have lt4 := b5.lt
  have sz5 := kw.size
  clear k3
  cases pH2
  · obtain ⟨ca6, fa6⟩ := id b3
    have ca7_0 : w3.cell? ⟨w.heap.size + 1, 0, none⟩ = some (.int .i64 v) := (b5.2 0 _ rfl).1
    have fa7_0 : w3.frozen? ⟨w.heap.size + 1, 0, none⟩ = false := (b5.2 0 _ rfl).2
    have ca7_1 : w3.cell? ⟨w.heap.size + 1, 1, none⟩ = some (.slice Q n c) := (b5.2 1 _ rfl).1
    have fa7_1 : w3.frozen? ⟨w.heap.size + 1, 1, none⟩ = false := (b5.2 1 _ rfl).2
    have ca7_2 : w3.cell? ⟨w.heap.size + 1, 2, none⟩ = some (.int .i64 x1) := (b5.2 2 _ rfl).1
    have fa7_2 : w3.frozen? ⟨w.heap.size + 1, 2, none⟩ = false := (b5.2 2 _ rfl).2
    have ca7_3 : w3.cell? ⟨w.heap.size + 1, 3, none⟩ = some (.int .i64 x2) := (b5.2 3 _ rfl).1
    have fa7_3 : w3.frozen? ⟨w.heap.size + 1, 3, none⟩ = false := (b5.2 3 _ rfl).2
    have ca7_4 : w3.cell? ⟨w.heap.size + 1, 4, none⟩ = some (.int .i64 x3) := (b5.2 4 _ rfl).1
    have fa7_4 : w3.frozen? ⟨w.heap.size + 1, 4, none⟩ = false := (b5.2 4 _ rfl).2
    have ca7_5 : w3.cell? ⟨w.heap.size + 1, 5, none⟩ = some (.int .i64 x4) := (b5.2 5 _ rfl).1
    have fa7_5 : w3.frozen? ⟨w.heap.size + 1, 5, none⟩ = false := (b5.2 5 _ rfl).2
    go_wp2_with fail
    clear ca6 fa6 ca7_0 fa7_0 ca7_1 fa7_1 ca7_2 fa7_2 ca7_3 fa7_3 ca7_4 fa7_4 ca7_5 fa7_5
    go_ret
    exact ⟨ret_bool (by rw [← HB.out, H1.out, H2.out]; rfl), kw⟩
  · skip
    obtain ⟨ca6, fa6⟩ := id b3
    have ca7_0 : w3.cell? ⟨w.heap.size + 1, 0, none⟩ = some (.int .i64 v) := (b5.2 0 _ rfl).1
    have fa7_0 : w3.frozen? ⟨w.heap.size + 1, 0, none⟩ = false := (b5.2 0 _ rfl).2
    have ca7_1 : w3.cell? ⟨w.heap.size + 1, 1, none⟩ = some (.slice Q n c) := (b5.2 1 _ rfl).1
    have fa7_1 : w3.frozen? ⟨w.heap.size + 1, 1, none⟩ = false := (b5.2 1 _ rfl).2
    have ca7_2 : w3.cell? ⟨w.heap.size + 1, 2, none⟩ = some (.int .i64 x1) := (b5.2 2 _ rfl).1
    have fa7_2 : w3.frozen? ⟨w.heap.size + 1, 2, none⟩ = false := (b5.2 2 _ rfl).2
    have ca7_3 : w3.cell? ⟨w.heap.size + 1, 3, none⟩ = some (.int .i64 x2) := (b5.2 3 _ rfl).1
    have fa7_3 : w3.frozen? ⟨w.heap.size + 1, 3, none⟩ = false := (b5.2 3 _ rfl).2
    have ca7_4 : w3.cell? ⟨w.heap.size + 1, 4, none⟩ = some (.int .i64 x3) := (b5.2 4 _ rfl).1
    have fa7_4 : w3.frozen? ⟨w.heap.size + 1, 4, none⟩ = false := (b5.2 4 _ rfl).2
    have ca7_5 : w3.cell? ⟨w.heap.size + 1, 5, none⟩ = some (.int .i64 x4) := (b5.2 5 _ rfl).1
    have fa7_5 : w3.frozen? ⟨w.heap.size + 1, 5, none⟩ = false := (b5.2 5 _ rfl).2
    go_wp2_with fail
    clear ca6 fa6 ca7_0 fa7_0 ca7_1 fa7_1 ca7_2 fa7_2 ca7_3 fa7_3 ca7_4 fa7_4 ca7_5 fa7_5
    obtain ⟨p3, H3⟩ : ∃ pB, Hid (lossB x1 x2 x3 x4 = pB) := ⟨_, rfl⟩
    refine (IsLoss_any).mono ?_
    rintro e w8 ⟨rfl, k8⟩
    rw [H3.out]
    replace b3 := b3.keeps k8
    replace b5 := b5.keeps k8
    replace kw := Keeps.trans kw k8
    have lt9 := b5.lt
    have sz10 := kw.size
    clear k8
    obtain ⟨ca11, fa11⟩ := id b3
    have ca12_0 : w8.cell? ⟨w.heap.size + 1, 0, none⟩ = some (.int .i64 v) := (b5.2 0 _ rfl).1
    have fa12_0 : w8.frozen? ⟨w.heap.size + 1, 0, none⟩ = false := (b5.2 0 _ rfl).2
    have ca12_1 : w8.cell? ⟨w.heap.size + 1, 1, none⟩ = some (.slice Q n c) := (b5.2 1 _ rfl).1
    have fa12_1 : w8.frozen? ⟨w.heap.size + 1, 1, none⟩ = false := (b5.2 1 _ rfl).2
    have ca12_2 : w8.cell? ⟨w.heap.size + 1, 2, none⟩ = some (.int .i64 x1) := (b5.2 2 _ rfl).1
    have fa12_2 : w8.frozen? ⟨w.heap.size + 1, 2, none⟩ = false := (b5.2 2 _ rfl).2
    have ca12_3 : w8.cell? ⟨w.heap.size + 1, 3, none⟩ = some (.int .i64 x2) := (b5.2 3 _ rfl).1
    have fa12_3 : w8.frozen? ⟨w.heap.size + 1, 3, none⟩ = false := (b5.2 3 _ rfl).2
    have ca12_4 : w8.cell? ⟨w.heap.size + 1, 4, none⟩ = some (.int .i64 x3) := (b5.2 4 _ rfl).1
    have fa12_4 : w8.frozen? ⟨w.heap.size + 1, 4, none⟩ = false := (b5.2 4 _ rfl).2
    have ca12_5 : w8.cell? ⟨w.heap.size + 1, 5, none⟩ = some (.int .i64 x4) := (b5.2 5 _ rfl).1
    have fa12_5 : w8.frozen? ⟨w.heap.size + 1, 5, none⟩ = false := (b5.2 5 _ rfl).2
    go_wp2_with fail
    clear ca11 fa11 ca12_0 fa12_0 ca12_1 fa12_1 ca12_2 fa12_2 ca12_3 fa12_3 ca12_4 fa12_4 ca12_5 fa12_5
    go_ret
    exact ⟨ret_bool (by rw [← HB.out, H1.out, H2.out, H3.out]; rfl), kw⟩
set_option maxRecDepth 100000 in
set_option maxHeartbeats 3200000 in
theorem rlGood_any {A A' Q : Option Addr} {lo hi a c0 lo3 hi3 n c q e : Nat} {un : Bool} {v x1 x2 x3 x4 : Int} {ps : List Int} {l : List VV} {ts : List TT} {w : World} (h : Ints w lo hi A a ps) (h' : Sch w A' q e l) (ht : Tabs true un w lo3 hi3 Q n ts) (hg : geoB ps = true) (hs : schB l = true) :
    Calls Tryz.prog 54 #[.agg #[.slice A a c0], .slice A' q e, .agg #[.int .i64 v, .slice Q n c, .int .i64 x1, .int .i64 x2, .int .i64 x3, .int .i64 x4]] w fun e w' => e = .returned (.bool (relB ps l (v, ts, x1, x2, x3, x4))) ∧ Keeps w w' := by
  have HG := hid hg
  have HS := hid hs
  clear hg hs
  obtain ⟨X, hX⟩ : ∃ X, relB ps l (v, ts, x1, x2, x3, x4) = X := ⟨_, rfl⟩
  rw [hX]
  have HB := hid (show (inB v 1 999 && plB ps l ts && lossB x1 x2 x3 x4) = X from hX)
  clear hX
  go_enter Tryz.func54, Tryz.ntmps54
  have kw := keeps_refl w
  replace kw := Keeps.trans kw (keeps_alloc w (.cells #[.slice A a c0] 32))
  have b3 : B1 (w.alloc (.cells #[.slice A a c0] 32)) w.heap.size (.slice A a c0) := B1.new' (by simp)
  replace b3 := b3.keeps (keeps_alloc (w.alloc (.cells #[.slice A a c0] 32)) (.cells #[.int .i64 v, .slice Q n c, .int .i64 x1, .int .i64 x2, .int .i64 x3, .int .i64 x4] 50))
  replace kw := Keeps.trans kw (keeps_alloc (w.alloc (.cells #[.slice A a c0] 32)) (.cells #[.int .i64 v, .slice Q n c, .int .i64 x1, .int .i64 x2, .int .i64 x3, .int .i64 x4] 50))
  have b5 : Bl ((w.alloc (.cells #[.slice A a c0] 32)).alloc (.cells #[.int .i64 v, .slice Q n c, .int .i64 x1, .int .i64 x2, .int .i64 x3, .int .i64 x4] 50)) (w.heap.size + 1) [.int .i64 v, .slice Q n c, .int .i64 x1, .int .i64 x2, .int .i64 x3, .int .i64 x4] := Bl.new' (by simp) (by simp)
  obtain ⟨ca1, fa1⟩ := id b3
  have ca2_0 : ((w.alloc (.cells #[.slice A a c0] 32)).alloc (.cells #[.int .i64 v, .slice Q n c, .int .i64 x1, .int .i64 x2, .int .i64 x3, .int .i64 x4] 50)).cell? ⟨w.heap.size + 1, 0, none⟩ = some (.int .i64 v) := (b5.2 0 _ rfl).1
  have fa2_0 : ((w.alloc (.cells #[.slice A a c0] 32)).alloc (.cells #[.int .i64 v, .slice Q n c, .int .i64 x1, .int .i64 x2, .int .i64 x3, .int .i64 x4] 50)).frozen? ⟨w.heap.size + 1, 0, none⟩ = false := (b5.2 0 _ rfl).2
  have ca2_1 : ((w.alloc (.cells #[.slice A a c0] 32)).alloc (.cells #[.int .i64 v, .slice Q n c, .int .i64 x1, .int .i64 x2, .int .i64 x3, .int .i64 x4] 50)).cell? ⟨w.heap.size + 1, 1, none⟩ = some (.slice Q n c) := (b5.2 1 _ rfl).1
  have fa2_1 : ((w.alloc (.cells #[.slice A a c0] 32)).alloc (.cells #[.int .i64 v, .slice Q n c, .int .i64 x1, .int .i64 x2, .int .i64 x3, .int .i64 x4] 50)).frozen? ⟨w.heap.size + 1, 1, none⟩ = false := (b5.2 1 _ rfl).2
  have ca2_2 : ((w.alloc (.cells #[.slice A a c0] 32)).alloc (.cells #[.int .i64 v, .slice Q n c, .int .i64 x1, .int .i64 x2, .int .i64 x3, .int .i64 x4] 50)).cell? ⟨w.heap.size + 1, 2, none⟩ = some (.int .i64 x1) := (b5.2 2 _ rfl).1
  have fa2_2 : ((w.alloc (.cells #[.slice A a c0] 32)).alloc (.cells #[.int .i64 v, .slice Q n c, .int .i64 x1, .int .i64 x2, .int .i64 x3, .int .i64 x4] 50)).frozen? ⟨w.heap.size + 1, 2, none⟩ = false := (b5.2 2 _ rfl).2
  have ca2_3 : ((w.alloc (.cells #[.slice A a c0] 32)).alloc (.cells #[.int .i64 v, .slice Q n c, .int .i64 x1, .int .i64 x2, .int .i64 x3, .int .i64 x4] 50)).cell? ⟨w.heap.size + 1, 3, none⟩ = some (.int .i64 x2) := (b5.2 3 _ rfl).1
  have fa2_3 : ((w.alloc (.cells #[.slice A a c0] 32)).alloc (.cells #[.int .i64 v, .slice Q n c, .int .i64 x1, .int .i64 x2, .int .i64 x3, .int .i64 x4] 50)).frozen? ⟨w.heap.size + 1, 3, none⟩ = false := (b5.2 3 _ rfl).2
  have ca2_4 : ((w.alloc (.cells #[.slice A a c0] 32)).alloc (.cells #[.int .i64 v, .slice Q n c, .int .i64 x1, .int .i64 x2, .int .i64 x3, .int .i64 x4] 50)).cell? ⟨w.heap.size + 1, 4, none⟩ = some (.int .i64 x3) := (b5.2 4 _ rfl).1
  have fa2_4 : ((w.alloc (.cells #[.slice A a c0] 32)).alloc (.cells #[.int .i64 v, .slice Q n c, .int .i64 x1, .int .i64 x2, .int .i64 x3, .int .i64 x4] 50)).frozen? ⟨w.heap.size + 1, 4, none⟩ = false := (b5.2 4 _ rfl).2
  have ca2_5 : ((w.alloc (.cells #[.slice A a c0] 32)).alloc (.cells #[.int .i64 v, .slice Q n c, .int .i64 x1, .int .i64 x2, .int .i64 x3, .int .i64 x4] 50)).cell? ⟨w.heap.size + 1, 5, none⟩ = some (.int .i64 x4) := (b5.2 5 _ rfl).1
  have fa2_5 : ((w.alloc (.cells #[.slice A a c0] 32)).alloc (.cells #[.int .i64 v, .slice Q n c, .int .i64 x1, .int .i64 x2, .int .i64 x3, .int .i64 x4] 50)).frozen? ⟨w.heap.size + 1, 5, none⟩ = false := (b5.2 5 _ rfl).2
  go_wp2_with fail
  clear ca1 fa1 ca2_0 fa2_0 ca2_1 fa2_1 ca2_2 fa2_2 ca2_3 fa2_3 ca2_4 fa2_4 ca2_5 fa2_5
  obtain ⟨pH1, H1⟩ : ∃ pB, Hid (inB v 1 999 = pB) := ⟨_, rfl⟩
  refine (l1In_any _ _ _ _).mono ?_
  rintro e w' ⟨rfl, rfl⟩
  rw [H1.out]
  cases pH1
  · obtain ⟨ca3, fa3⟩ := id b3
    have ca4_0 : ((w.alloc (.cells #[.slice A a c0] 32)).alloc (.cells #[.int .i64 v, .slice Q n c, .int .i64 x1, .int .i64 x2, .int .i64 x3, .int .i64 x4] 50)).cell? ⟨w.heap.size + 1, 0, none⟩ = some (.int .i64 v) := (b5.2 0 _ rfl).1
    have fa4_0 : ((w.alloc (.cells #[.slice A a c0] 32)).alloc (.cells #[.int .i64 v, .slice Q n c, .int .i64 x1, .int .i64 x2, .int .i64 x3, .int .i64 x4] 50)).frozen? ⟨w.heap.size + 1, 0, none⟩ = false := (b5.2 0 _ rfl).2
    have ca4_1 : ((w.alloc (.cells #[.slice A a c0] 32)).alloc (.cells #[.int .i64 v, .slice Q n c, .int .i64 x1, .int .i64 x2, .int .i64 x3, .int .i64 x4] 50)).cell? ⟨w.heap.size + 1, 1, none⟩ = some (.slice Q n c) := (b5.2 1 _ rfl).1
    have fa4_1 : ((w.alloc (.cells #[.slice A a c0] 32)).alloc (.cells #[.int .i64 v, .slice Q n c, .int .i64 x1, .int .i64 x2, .int .i64 x3, .int .i64 x4] 50)).frozen? ⟨w.heap.size + 1, 1, none⟩ = false := (b5.2 1 _ rfl).2
    have ca4_2 : ((w.alloc (.cells #[.slice A a c0] 32)).alloc (.cells #[.int .i64 v, .slice Q n c, .int .i64 x1, .int .i64 x2, .int .i64 x3, .int .i64 x4] 50)).cell? ⟨w.heap.size + 1, 2, none⟩ = some (.int .i64 x1) := (b5.2 2 _ rfl).1
    have fa4_2 : ((w.alloc (.cells #[.slice A a c0] 32)).alloc (.cells #[.int .i64 v, .slice Q n c, .int .i64 x1, .int .i64 x2, .int .i64 x3, .int .i64 x4] 50)).frozen? ⟨w.heap.size + 1, 2, none⟩ = false := (b5.2 2 _ rfl).2
    have ca4_3 : ((w.alloc (.cells #[.slice A a c0] 32)).alloc (.cells #[.int .i64 v, .slice Q n c, .int .i64 x1, .int .i64 x2, .int .i64 x3, .int .i64 x4] 50)).cell? ⟨w.heap.size + 1, 3, none⟩ = some (.int .i64 x2) := (b5.2 3 _ rfl).1
    have fa4_3 : ((w.alloc (.cells #[.slice A a c0] 32)).alloc (.cells #[.int .i64 v, .slice Q n c, .int .i64 x1, .int .i64 x2, .int .i64 x3, .int .i64 x4] 50)).frozen? ⟨w.heap.size + 1, 3, none⟩ = false := (b5.2 3 _ rfl).2
    have ca4_4 : ((w.alloc (.cells #[.slice A a c0] 32)).alloc (.cells #[.int .i64 v, .slice Q n c, .int .i64 x1, .int .i64 x2, .int .i64 x3, .int .i64 x4] 50)).cell? ⟨w.heap.size + 1, 4, none⟩ = some (.int .i64 x3) := (b5.2 4 _ rfl).1
    have fa4_4 : ((w.alloc (.cells #[.slice A a c0] 32)).alloc (.cells #[.int .i64 v, .slice Q n c, .int .i64 x1, .int .i64 x2, .int .i64 x3, .int .i64 x4] 50)).frozen? ⟨w.heap.size + 1, 4, none⟩ = false := (b5.2 4 _ rfl).2
    have ca4_5 : ((w.alloc (.cells #[.slice A a c0] 32)).alloc (.cells #[.int .i64 v, .slice Q n c, .int .i64 x1, .int .i64 x2, .int .i64 x3, .int .i64 x4] 50)).cell? ⟨w.heap.size + 1, 5, none⟩ = some (.int .i64 x4) := (b5.2 5 _ rfl).1
    have fa4_5 : ((w.alloc (.cells #[.slice A a c0] 32)).alloc (.cells #[.int .i64 v, .slice Q n c, .int .i64 x1, .int .i64 x2, .int .i64 x3, .int .i64 x4] 50)).frozen? ⟨w.heap.size + 1, 5, none⟩ = false := (b5.2 5 _ rfl).2
    go_wp2_with fail
    clear ca3 fa3 ca4_0 fa4_0 ca4_1 fa4_1 ca4_2 fa4_2 ca4_3 fa4_3 ca4_4 fa4_4 ca4_5 fa4_5
    go_ret
    exact ⟨ret_bool (by rw [← HB.out, H1.out]; rfl), kw⟩
  · skip
    obtain ⟨ca3, fa3⟩ := id b3
    have ca4_0 : ((w.alloc (.cells #[.slice A a c0] 32)).alloc (.cells #[.int .i64 v, .slice Q n c, .int .i64 x1, .int .i64 x2, .int .i64 x3, .int .i64 x4] 50)).cell? ⟨w.heap.size + 1, 0, none⟩ = some (.int .i64 v) := (b5.2 0 _ rfl).1
    have fa4_0 : ((w.alloc (.cells #[.slice A a c0] 32)).alloc (.cells #[.int .i64 v, .slice Q n c, .int .i64 x1, .int .i64 x2, .int .i64 x3, .int .i64 x4] 50)).frozen? ⟨w.heap.size + 1, 0, none⟩ = false := (b5.2 0 _ rfl).2
    have ca4_1 : ((w.alloc (.cells #[.slice A a c0] 32)).alloc (.cells #[.int .i64 v, .slice Q n c, .int .i64 x1, .int .i64 x2, .int .i64 x3, .int .i64 x4] 50)).cell? ⟨w.heap.size + 1, 1, none⟩ = some (.slice Q n c) := (b5.2 1 _ rfl).1
    have fa4_1 : ((w.alloc (.cells #[.slice A a c0] 32)).alloc (.cells #[.int .i64 v, .slice Q n c, .int .i64 x1, .int .i64 x2, .int .i64 x3, .int .i64 x4] 50)).frozen? ⟨w.heap.size + 1, 1, none⟩ = false := (b5.2 1 _ rfl).2
    have ca4_2 : ((w.alloc (.cells #[.slice A a c0] 32)).alloc (.cells #[.int .i64 v, .slice Q n c, .int .i64 x1, .int .i64 x2, .int .i64 x3, .int .i64 x4] 50)).cell? ⟨w.heap.size + 1, 2, none⟩ = some (.int .i64 x1) := (b5.2 2 _ rfl).1
    have fa4_2 : ((w.alloc (.cells #[.slice A a c0] 32)).alloc (.cells #[.int .i64 v, .slice Q n c, .int .i64 x1, .int .i64 x2, .int .i64 x3, .int .i64 x4] 50)).frozen? ⟨w.heap.size + 1, 2, none⟩ = false := (b5.2 2 _ rfl).2
    have ca4_3 : ((w.alloc (.cells #[.slice A a c0] 32)).alloc (.cells #[.int .i64 v, .slice Q n c, .int .i64 x1, .int .i64 x2, .int .i64 x3, .int .i64 x4] 50)).cell? ⟨w.heap.size + 1, 3, none⟩ = some (.int .i64 x2) := (b5.2 3 _ rfl).1
    have fa4_3 : ((w.alloc (.cells #[.slice A a c0] 32)).alloc (.cells #[.int .i64 v, .slice Q n c, .int .i64 x1, .int .i64 x2, .int .i64 x3, .int .i64 x4] 50)).frozen? ⟨w.heap.size + 1, 3, none⟩ = false := (b5.2 3 _ rfl).2
    have ca4_4 : ((w.alloc (.cells #[.slice A a c0] 32)).alloc (.cells #[.int .i64 v, .slice Q n c, .int .i64 x1, .int .i64 x2, .int .i64 x3, .int .i64 x4] 50)).cell? ⟨w.heap.size + 1, 4, none⟩ = some (.int .i64 x3) := (b5.2 4 _ rfl).1
    have fa4_4 : ((w.alloc (.cells #[.slice A a c0] 32)).alloc (.cells #[.int .i64 v, .slice Q n c, .int .i64 x1, .int .i64 x2, .int .i64 x3, .int .i64 x4] 50)).frozen? ⟨w.heap.size + 1, 4, none⟩ = false := (b5.2 4 _ rfl).2
    have ca4_5 : ((w.alloc (.cells #[.slice A a c0] 32)).alloc (.cells #[.int .i64 v, .slice Q n c, .int .i64 x1, .int .i64 x2, .int .i64 x3, .int .i64 x4] 50)).cell? ⟨w.heap.size + 1, 5, none⟩ = some (.int .i64 x4) := (b5.2 5 _ rfl).1
    have fa4_5 : ((w.alloc (.cells #[.slice A a c0] 32)).alloc (.cells #[.int .i64 v, .slice Q n c, .int .i64 x1, .int .i64 x2, .int .i64 x3, .int .i64 x4] 50)).frozen? ⟨w.heap.size + 1, 5, none⟩ = false := (b5.2 5 _ rfl).2
    go_wp2_with fail
    clear ca3 fa3 ca4_0 fa4_0 ca4_1 fa4_1 ca4_2 fa4_2 ca4_3 fa4_3 ca4_4 fa4_4 ca4_5 fa4_5
    obtain ⟨pH2, H2⟩ : ∃ pB, Hid (plB ps l ts = pB) := ⟨_, rfl⟩
    refine (nPlan_any (h.keeps kw) (h'.keeps kw) (ht.keeps kw) HG.out HS.out).mono ?_
    rintro e w5 ⟨rfl, k5⟩
    rw [H2.out]
    replace b3 := b3.keeps k5
    replace b5 := b5.keeps k5
    replace kw := Keeps.trans kw k5
    have lt6 := b5.lt
    have sz7 := kw.size
    clear k5
    cases pH2
    · obtain ⟨ca8, fa8⟩ := id b3
      have ca9_0 : w5.cell? ⟨w.heap.size + 1, 0, none⟩ = some (.int .i64 v) := (b5.2 0 _ rfl).1
      have fa9_0 : w5.frozen? ⟨w.heap.size + 1, 0, none⟩ = false := (b5.2 0 _ rfl).2
      have ca9_1 : w5.cell? ⟨w.heap.size + 1, 1, none⟩ = some (.slice Q n c) := (b5.2 1 _ rfl).1
      have fa9_1 : w5.frozen? ⟨w.heap.size + 1, 1, none⟩ = false := (b5.2 1 _ rfl).2
      have ca9_2 : w5.cell? ⟨w.heap.size + 1, 2, none⟩ = some (.int .i64 x1) := (b5.2 2 _ rfl).1
      have fa9_2 : w5.frozen? ⟨w.heap.size + 1, 2, none⟩ = false := (b5.2 2 _ rfl).2
      have ca9_3 : w5.cell? ⟨w.heap.size + 1, 3, none⟩ = some (.int .i64 x2) := (b5.2 3 _ rfl).1
      have fa9_3 : w5.frozen? ⟨w.heap.size + 1, 3, none⟩ = false := (b5.2 3 _ rfl).2
      have ca9_4 : w5.cell? ⟨w.heap.size + 1, 4, none⟩ = some (.int .i64 x3) := (b5.2 4 _ rfl).1
      have fa9_4 : w5.frozen? ⟨w.heap.size + 1, 4, none⟩ = false := (b5.2 4 _ rfl).2
      have ca9_5 : w5.cell? ⟨w.heap.size + 1, 5, none⟩ = some (.int .i64 x4) := (b5.2 5 _ rfl).1
      have fa9_5 : w5.frozen? ⟨w.heap.size + 1, 5, none⟩ = false := (b5.2 5 _ rfl).2
      go_wp2_with fail
      clear ca8 fa8 ca9_0 fa9_0 ca9_1 fa9_1 ca9_2 fa9_2 ca9_3 fa9_3 ca9_4 fa9_4 ca9_5 fa9_5
      go_ret
      exact ⟨ret_bool (by rw [← HB.out, H1.out, H2.out]; rfl), kw⟩
    · skip
      obtain ⟨ca8, fa8⟩ := id b3
      have ca9_0 : w5.cell? ⟨w.heap.size + 1, 0, none⟩ = some (.int .i64 v) := (b5.2 0 _ rfl).1
      have fa9_0 : w5.frozen? ⟨w.heap.size + 1, 0, none⟩ = false := (b5.2 0 _ rfl).2
      have ca9_1 : w5.cell? ⟨w.heap.size + 1, 1, none⟩ = some (.slice Q n c) := (b5.2 1 _ rfl).1
      have fa9_1 : w5.frozen? ⟨w.heap.size + 1, 1, none⟩ = false := (b5.2 1 _ rfl).2
      have ca9_2 : w5.cell? ⟨w.heap.size + 1, 2, none⟩ = some (.int .i64 x1) := (b5.2 2 _ rfl).1
      have fa9_2 : w5.frozen? ⟨w.heap.size + 1, 2, none⟩ = false := (b5.2 2 _ rfl).2
      have ca9_3 : w5.cell? ⟨w.heap.size + 1, 3, none⟩ = some (.int .i64 x2) := (b5.2 3 _ rfl).1
      have fa9_3 : w5.frozen? ⟨w.heap.size + 1, 3, none⟩ = false := (b5.2 3 _ rfl).2
      have ca9_4 : w5.cell? ⟨w.heap.size + 1, 4, none⟩ = some (.int .i64 x3) := (b5.2 4 _ rfl).1
      have fa9_4 : w5.frozen? ⟨w.heap.size + 1, 4, none⟩ = false := (b5.2 4 _ rfl).2
      have ca9_5 : w5.cell? ⟨w.heap.size + 1, 5, none⟩ = some (.int .i64 x4) := (b5.2 5 _ rfl).1
      have fa9_5 : w5.frozen? ⟨w.heap.size + 1, 5, none⟩ = false := (b5.2 5 _ rfl).2
      go_wp2_with fail
      clear ca8 fa8 ca9_0 fa9_0 ca9_1 fa9_1 ca9_2 fa9_2 ca9_3 fa9_3 ca9_4 fa9_4 ca9_5 fa9_5
      obtain ⟨p3, H3⟩ : ∃ pB, Hid (lossB x1 x2 x3 x4 = pB) := ⟨_, rfl⟩
      refine (pGood_any).mono ?_
      rintro e w10 ⟨rfl, k10⟩
      rw [H3.out]
      replace b3 := b3.keeps k10
      replace b5 := b5.keeps k10
      replace kw := Keeps.trans kw k10
      have lt11 := b5.lt
      have sz12 := kw.size
      clear k10
      obtain ⟨ca13, fa13⟩ := id b3
      have ca14_0 : w10.cell? ⟨w.heap.size + 1, 0, none⟩ = some (.int .i64 v) := (b5.2 0 _ rfl).1
      have fa14_0 : w10.frozen? ⟨w.heap.size + 1, 0, none⟩ = false := (b5.2 0 _ rfl).2
      have ca14_1 : w10.cell? ⟨w.heap.size + 1, 1, none⟩ = some (.slice Q n c) := (b5.2 1 _ rfl).1
      have fa14_1 : w10.frozen? ⟨w.heap.size + 1, 1, none⟩ = false := (b5.2 1 _ rfl).2
      have ca14_2 : w10.cell? ⟨w.heap.size + 1, 2, none⟩ = some (.int .i64 x1) := (b5.2 2 _ rfl).1
      have fa14_2 : w10.frozen? ⟨w.heap.size + 1, 2, none⟩ = false := (b5.2 2 _ rfl).2
      have ca14_3 : w10.cell? ⟨w.heap.size + 1, 3, none⟩ = some (.int .i64 x2) := (b5.2 3 _ rfl).1
      have fa14_3 : w10.frozen? ⟨w.heap.size + 1, 3, none⟩ = false := (b5.2 3 _ rfl).2
      have ca14_4 : w10.cell? ⟨w.heap.size + 1, 4, none⟩ = some (.int .i64 x3) := (b5.2 4 _ rfl).1
      have fa14_4 : w10.frozen? ⟨w.heap.size + 1, 4, none⟩ = false := (b5.2 4 _ rfl).2
      have ca14_5 : w10.cell? ⟨w.heap.size + 1, 5, none⟩ = some (.int .i64 x4) := (b5.2 5 _ rfl).1
      have fa14_5 : w10.frozen? ⟨w.heap.size + 1, 5, none⟩ = false := (b5.2 5 _ rfl).2
      go_wp2_with fail
      clear ca13 fa13 ca14_0 fa14_0 ca14_1 fa14_1 ca14_2 fa14_2 ca14_3 fa14_3 ca14_4 fa14_4 ca14_5 fa14_5
      go_ret
      exact ⟨ret_bool (by rw [← HB.out, H1.out, H2.out, H3.out]; rfl), kw⟩
set_option maxRecDepth 100000 in
set_option maxHeartbeats 6400000 in
theorem isHistory_any {A A' R : Option Addr} {lo hi a c0 lo3 hi3 n c q e : Nat} {un : Bool} {ps : List Int} {l : List VV} {rs : List RL} {w : World} (h : Ints w lo hi A a ps) (h' : Sch w A' q e l) (hr : Rels true un w lo3 hi3 R n rs) :
    Calls Tryz.prog 36 #[.agg #[.slice A a c0], .slice A' q e, .slice R n c] w fun e w' => e = .returned (.bool (hisB ps l rs)) ∧ Keeps w w' := by
  obtain ⟨lo9, hi9, hv⟩ := h'.v
  have HRL := hid hr.len
  have hn := hr.le
  go_enter Tryz.func36, Tryz.ntmps36
  have kw := keeps_refl w
  replace kw := Keeps.trans kw (keeps_alloc w (.cells #[.slice A a c0] 32))
  have b3 : B1 (w.alloc (.cells #[.slice A a c0] 32)) w.heap.size (.slice A a c0) := B1.new' (by simp)
  obtain ⟨ca1, fa1⟩ := id b3
  go_wp2_with fail
  clear ca1 fa1
  obtain ⟨pHG, HG⟩ : ∃ pB, Hid (geoB ps = pB) := ⟨_, rfl⟩
  refine (IsGeo_any (h.keeps kw)).mono ?_
  rintro e w2 ⟨rfl, k2⟩
  rw [HG.out]
  replace b3 := b3.keeps k2
  replace kw := Keeps.trans kw k2
  have lt3 := b3.lt
  have sz4 := kw.size
  clear k2
  cases pHG
  · have HX := hid (hisB_in (l := l) (rs := rs) (by rw [HG.out]; rfl))
    obtain ⟨ca5, fa5⟩ := id b3
    go_wp2_with fail
    clear ca5 fa5
    go_ret
    exact ⟨ret_bool HX.out.symm, kw⟩
  · skip
    obtain ⟨ca5, fa5⟩ := id b3
    go_wp2_with fail
    clear ca5 fa5
    obtain ⟨pHS, HS⟩ : ∃ pB, Hid (schB l = pB) := ⟨_, rfl⟩
    refine (IsSchema_any (Sl.keeps hv kw) h'.ok h'.cap h'.c64).mono ?_
    rintro e w6 ⟨rfl, k6⟩
    rw [HS.out]
    replace b3 := b3.keeps k6
    replace kw := Keeps.trans kw k6
    have lt7 := b3.lt
    have sz8 := kw.size
    clear k6
    cases pHS
    · have HX := hid (hisB_in (rs := rs) (by rw [HG.out, HS.out]; rfl))
      obtain ⟨ca9, fa9⟩ := id b3
      go_wp2_with fail
      clear ca9 fa9
      go_ret
      exact ⟨ret_bool HX.out.symm, kw⟩
    · skip
      by_cases h12 : n ≤ 12
      rotate_left
      · have HX := hid (hisB_len (ps := ps) (l := l) (rs := rs) (by rw [HRL.out]; exact h12))
        obtain ⟨ca9, fa9⟩ := id b3
        go_wp2_with fail
        clear ca9 fa9
        go_ret
        exact ⟨ret_bool HX.out.symm, kw⟩
      obtain ⟨ca9, fa9⟩ := id b3
      go_wp2_with fail
      clear ca9 fa9
      go_loopw [24] (fun i wr => ∃ k : Nat, k ≤ n ∧ i = .int .i64 k ∧ Hid (hisTo ps l rs k = true) ∧ B1 wr w.heap.size (.slice A a c0) ∧ Keeps w wr) (fun i _ => n - (intOf i).toNat)
      case atStart => exact ⟨0, Nat.zero_le _, rfl, hid rfl, b3, kw⟩
      clear b3 kw
      case round =>
        obtain ⟨k, hk, rfl, HT, b3, kw⟩ := hrel
        by_cases hlt : k < n
        · obtain ⟨b, off, v, P, np, cp, x1, x2, x3, x4, pl, rfl, _, _, hc0, hc1, hc2, hc3, hc4, hc5, hpl, hx⟩ := (hr.keeps kw).at_ hlt
          have hi1 : (k : Int) < (n : Int) := by omega
          have HX1 := hid (show (rs.getD k rl0).1 = v by rw [← hx.out])
          obtain ⟨p, HP⟩ : ∃ p, Hid (relB ps l (v, pl, x1, x2, x3, x4) = p) := ⟨_, rfl⟩
          have HP2 := hid (show relB ps l (rs.getD k rl0) = p by rw [← hx.out]; exact HP.out)
          clear hx
          have lt3 := b3.lt
          replace b3 := b3.keeps (keeps_alloc wr (.cells #[.int .i64 v, .slice P np cp, .int .i64 x1, .int .i64 x2, .int .i64 x3, .int .i64 x4] 50))
          replace hpl := hpl.keeps (keeps_alloc wr (.cells #[.int .i64 v, .slice P np cp, .int .i64 x1, .int .i64 x2, .int .i64 x3, .int .i64 x4] 50))
          replace kw := Keeps.trans kw (keeps_alloc wr (.cells #[.int .i64 v, .slice P np cp, .int .i64 x1, .int .i64 x2, .int .i64 x3, .int .i64 x4] 50))
          have b8 : Bl (wr.alloc (.cells #[.int .i64 v, .slice P np cp, .int .i64 x1, .int .i64 x2, .int .i64 x3, .int .i64 x4] 50)) wr.heap.size [.int .i64 v, .slice P np cp, .int .i64 x1, .int .i64 x2, .int .i64 x3, .int .i64 x4] := Bl.new' (by simp) (by simp)
          obtain ⟨ca10, fa10⟩ := id b3
          have ca11_0 : (wr.alloc (.cells #[.int .i64 v, .slice P np cp, .int .i64 x1, .int .i64 x2, .int .i64 x3, .int .i64 x4] 50)).cell? ⟨wr.heap.size, 0, none⟩ = some (.int .i64 v) := (b8.2 0 _ rfl).1
          have fa11_0 : (wr.alloc (.cells #[.int .i64 v, .slice P np cp, .int .i64 x1, .int .i64 x2, .int .i64 x3, .int .i64 x4] 50)).frozen? ⟨wr.heap.size, 0, none⟩ = false := (b8.2 0 _ rfl).2
          have ca11_1 : (wr.alloc (.cells #[.int .i64 v, .slice P np cp, .int .i64 x1, .int .i64 x2, .int .i64 x3, .int .i64 x4] 50)).cell? ⟨wr.heap.size, 1, none⟩ = some (.slice P np cp) := (b8.2 1 _ rfl).1
          have fa11_1 : (wr.alloc (.cells #[.int .i64 v, .slice P np cp, .int .i64 x1, .int .i64 x2, .int .i64 x3, .int .i64 x4] 50)).frozen? ⟨wr.heap.size, 1, none⟩ = false := (b8.2 1 _ rfl).2
          have ca11_2 : (wr.alloc (.cells #[.int .i64 v, .slice P np cp, .int .i64 x1, .int .i64 x2, .int .i64 x3, .int .i64 x4] 50)).cell? ⟨wr.heap.size, 2, none⟩ = some (.int .i64 x1) := (b8.2 2 _ rfl).1
          have fa11_2 : (wr.alloc (.cells #[.int .i64 v, .slice P np cp, .int .i64 x1, .int .i64 x2, .int .i64 x3, .int .i64 x4] 50)).frozen? ⟨wr.heap.size, 2, none⟩ = false := (b8.2 2 _ rfl).2
          have ca11_3 : (wr.alloc (.cells #[.int .i64 v, .slice P np cp, .int .i64 x1, .int .i64 x2, .int .i64 x3, .int .i64 x4] 50)).cell? ⟨wr.heap.size, 3, none⟩ = some (.int .i64 x2) := (b8.2 3 _ rfl).1
          have fa11_3 : (wr.alloc (.cells #[.int .i64 v, .slice P np cp, .int .i64 x1, .int .i64 x2, .int .i64 x3, .int .i64 x4] 50)).frozen? ⟨wr.heap.size, 3, none⟩ = false := (b8.2 3 _ rfl).2
          have ca11_4 : (wr.alloc (.cells #[.int .i64 v, .slice P np cp, .int .i64 x1, .int .i64 x2, .int .i64 x3, .int .i64 x4] 50)).cell? ⟨wr.heap.size, 4, none⟩ = some (.int .i64 x3) := (b8.2 4 _ rfl).1
          have fa11_4 : (wr.alloc (.cells #[.int .i64 v, .slice P np cp, .int .i64 x1, .int .i64 x2, .int .i64 x3, .int .i64 x4] 50)).frozen? ⟨wr.heap.size, 4, none⟩ = false := (b8.2 4 _ rfl).2
          have ca11_5 : (wr.alloc (.cells #[.int .i64 v, .slice P np cp, .int .i64 x1, .int .i64 x2, .int .i64 x3, .int .i64 x4] 50)).cell? ⟨wr.heap.size, 5, none⟩ = some (.int .i64 x4) := (b8.2 5 _ rfl).1
          have fa11_5 : (wr.alloc (.cells #[.int .i64 v, .slice P np cp, .int .i64 x1, .int .i64 x2, .int .i64 x3, .int .i64 x4] 50)).frozen? ⟨wr.heap.size, 5, none⟩ = false := (b8.2 5 _ rfl).2
          by_cases hver : v = (k : Int) + 1
          rotate_left
          · have t1 := ne_ver hver
            have HX := hid (hisB_no (ps := ps) (l := l) HRL.out hlt (by rw [HX1.out, decide_eq_false hver]; rfl))
            clear hver
            go_wp2_with fail
            clear ca10 fa10 ca11_0 fa11_0 ca11_1 fa11_1 ca11_2 fa11_2 ca11_3 fa11_3 ca11_4 fa11_4 ca11_5 fa11_5
            go_ret
            exact ⟨ret_bool HX.out.symm, kw⟩
          have t1 := eq_ver hver
          have HV := hid (decide_eq_true hver)
          clear hver
          go_wp2_with fail
          clear ca10 fa10 ca11_0 fa11_0 ca11_1 fa11_1 ca11_2 fa11_2 ca11_3 fa11_3 ca11_4 fa11_4 ca11_5 fa11_5
          refine (isRelease_any (c := cp) (h.keeps kw) (h'.keeps kw) hpl HG.out HS.out).mono ?_
          rintro e w12 ⟨rfl, k12⟩
          rw [HP.out]
          replace b3 := b3.keeps k12
          replace b8 := b8.keeps k12
          replace hpl := hpl.keeps k12
          replace kw := Keeps.trans kw k12
          have lt13 := b8.lt
          have sz14 := kw.size
          clear k12
          clear hc0 hc1 hc2 hc3 hc4 hc5 b8
          cases p
          · have HX := hid (hisB_no (ps := ps) (l := l) HRL.out hlt (by rw [HX1.out, HP2.out, Bool.and_false]))
            obtain ⟨ca15, fa15⟩ := id b3
            go_wp2_with fail
            clear ca15 fa15
            go_ret
            exact ⟨ret_bool HX.out.symm, kw⟩
          have HN := hid (show hisTo ps l rs (k + 1) = true by unfold hisTo; rw [HT.out, HX1.out, HV.out, HP2.out]; rfl)
          obtain ⟨ca15, fa15⟩ := id b3
          go_wp2_with fail
          clear ca15 fa15
          go_roundw
          case rel => exact ⟨k + 1, by omega, by go_num, HN, b3, kw⟩
          case measure => simp [intOf]; omega
        · obtain rfl : k = n := by omega
          have HX := hid (hisB_yes HG.out HS.out HRL.out h12 HT.out)
          go_wp2
          go_ret
          exact ⟨ret_bool HX.out.symm, kw⟩
set_option maxRecDepth 100000 in
set_option maxHeartbeats 6400000 in
theorem rlHistory_any {A A' R : Option Addr} {lo hi a c0 lo3 hi3 n c q e : Nat} {un : Bool} {ps : List Int} {l : List VV} {rs : List RL} {w : World} (h : Ints w lo hi A a ps) (h' : Sch w A' q e l) (hr : Rels true un w lo3 hi3 R n rs) :
    Calls Tryz.prog 29 #[.agg #[.slice A a c0], .slice A' q e, .slice R n c] w fun e w' => e = .returned (.bool (hisB ps l rs)) ∧ Keeps w w' := by
  obtain ⟨lo9, hi9, hv⟩ := h'.v
  have HRL := hid hr.len
  have hn := hr.le
  go_enter Tryz.func29, Tryz.ntmps29
  have kw := keeps_refl w
  replace kw := Keeps.trans kw (keeps_alloc w (.cells #[.slice A a c0] 32))
  have b3 : B1 (w.alloc (.cells #[.slice A a c0] 32)) w.heap.size (.slice A a c0) := B1.new' (by simp)
  obtain ⟨ca1, fa1⟩ := id b3
  go_wp2_with fail
  clear ca1 fa1
  obtain ⟨pH1, H1⟩ : ∃ pB, Hid ((geoB ps && schB l) = pB) := ⟨_, rfl⟩
  refine (nInput_any (h.keeps kw) (h'.keeps kw)).mono ?_
  rintro e w2 ⟨rfl, k2⟩
  rw [H1.out]
  replace b3 := b3.keeps k2
  replace kw := Keeps.trans kw k2
  have lt3 := b3.lt
  have sz4 := kw.size
  clear k2
  cases pH1
  · have HX := hid (hisB_in (rs := rs) H1.out)
    obtain ⟨ca5, fa5⟩ := id b3
    go_wp2_with fail
    clear ca5 fa5
    go_ret
    exact ⟨ret_bool HX.out.symm, kw⟩
  · skip
    have HG := hid (show geoB ps = true by have := H1.out; simp only [Bool.and_eq_true] at this; exact this.1)
    have HS := hid (show schB l = true by have := H1.out; simp only [Bool.and_eq_true] at this; exact this.2)
    by_cases h12 : n ≤ 12
    rotate_left
    · have HX := hid (hisB_len (ps := ps) (l := l) (rs := rs) (by rw [HRL.out]; exact h12))
      obtain ⟨ca5, fa5⟩ := id b3
      go_wp2_with fail
      clear ca5 fa5
      go_ret
      exact ⟨ret_bool HX.out.symm, kw⟩
    obtain ⟨ca5, fa5⟩ := id b3
    go_wp2_with fail
    clear ca5 fa5
    go_loopw [20] (fun i wr => ∃ k : Nat, k ≤ n ∧ i = .int .i64 k ∧ Hid (hisTo ps l rs k = true) ∧ B1 wr w.heap.size (.slice A a c0) ∧ Keeps w wr) (fun i _ => n - (intOf i).toNat)
    case atStart => exact ⟨0, Nat.zero_le _, rfl, hid rfl, b3, kw⟩
    clear b3 kw
    case round =>
      obtain ⟨k, hk, rfl, HT, b3, kw⟩ := hrel
      by_cases hlt : k < n
      · obtain ⟨b, off, v, P, np, cp, x1, x2, x3, x4, pl, rfl, _, _, hc0, hc1, hc2, hc3, hc4, hc5, hpl, hx⟩ := (hr.keeps kw).at_ hlt
        have hi1 : (k : Int) < (n : Int) := by omega
        have HX1 := hid (show (rs.getD k rl0).1 = v by rw [← hx.out])
        obtain ⟨p, HP⟩ : ∃ p, Hid (relB ps l (v, pl, x1, x2, x3, x4) = p) := ⟨_, rfl⟩
        have HP2 := hid (show relB ps l (rs.getD k rl0) = p by rw [← hx.out]; exact HP.out)
        clear hx
        have lt3 := b3.lt
        replace b3 := b3.keeps (keeps_alloc wr (.cells #[.int .i64 v, .slice P np cp, .int .i64 x1, .int .i64 x2, .int .i64 x3, .int .i64 x4] 50))
        replace hpl := hpl.keeps (keeps_alloc wr (.cells #[.int .i64 v, .slice P np cp, .int .i64 x1, .int .i64 x2, .int .i64 x3, .int .i64 x4] 50))
        replace kw := Keeps.trans kw (keeps_alloc wr (.cells #[.int .i64 v, .slice P np cp, .int .i64 x1, .int .i64 x2, .int .i64 x3, .int .i64 x4] 50))
        have b8 : Bl (wr.alloc (.cells #[.int .i64 v, .slice P np cp, .int .i64 x1, .int .i64 x2, .int .i64 x3, .int .i64 x4] 50)) wr.heap.size [.int .i64 v, .slice P np cp, .int .i64 x1, .int .i64 x2, .int .i64 x3, .int .i64 x4] := Bl.new' (by simp) (by simp)
        obtain ⟨ca6, fa6⟩ := id b3
        have ca7_0 : (wr.alloc (.cells #[.int .i64 v, .slice P np cp, .int .i64 x1, .int .i64 x2, .int .i64 x3, .int .i64 x4] 50)).cell? ⟨wr.heap.size, 0, none⟩ = some (.int .i64 v) := (b8.2 0 _ rfl).1
        have fa7_0 : (wr.alloc (.cells #[.int .i64 v, .slice P np cp, .int .i64 x1, .int .i64 x2, .int .i64 x3, .int .i64 x4] 50)).frozen? ⟨wr.heap.size, 0, none⟩ = false := (b8.2 0 _ rfl).2
        have ca7_1 : (wr.alloc (.cells #[.int .i64 v, .slice P np cp, .int .i64 x1, .int .i64 x2, .int .i64 x3, .int .i64 x4] 50)).cell? ⟨wr.heap.size, 1, none⟩ = some (.slice P np cp) := (b8.2 1 _ rfl).1
        have fa7_1 : (wr.alloc (.cells #[.int .i64 v, .slice P np cp, .int .i64 x1, .int .i64 x2, .int .i64 x3, .int .i64 x4] 50)).frozen? ⟨wr.heap.size, 1, none⟩ = false := (b8.2 1 _ rfl).2
        have ca7_2 : (wr.alloc (.cells #[.int .i64 v, .slice P np cp, .int .i64 x1, .int .i64 x2, .int .i64 x3, .int .i64 x4] 50)).cell? ⟨wr.heap.size, 2, none⟩ = some (.int .i64 x1) := (b8.2 2 _ rfl).1
        have fa7_2 : (wr.alloc (.cells #[.int .i64 v, .slice P np cp, .int .i64 x1, .int .i64 x2, .int .i64 x3, .int .i64 x4] 50)).frozen? ⟨wr.heap.size, 2, none⟩ = false := (b8.2 2 _ rfl).2
        have ca7_3 : (wr.alloc (.cells #[.int .i64 v, .slice P np cp, .int .i64 x1, .int .i64 x2, .int .i64 x3, .int .i64 x4] 50)).cell? ⟨wr.heap.size, 3, none⟩ = some (.int .i64 x2) := (b8.2 3 _ rfl).1
        have fa7_3 : (wr.alloc (.cells #[.int .i64 v, .slice P np cp, .int .i64 x1, .int .i64 x2, .int .i64 x3, .int .i64 x4] 50)).frozen? ⟨wr.heap.size, 3, none⟩ = false := (b8.2 3 _ rfl).2
        have ca7_4 : (wr.alloc (.cells #[.int .i64 v, .slice P np cp, .int .i64 x1, .int .i64 x2, .int .i64 x3, .int .i64 x4] 50)).cell? ⟨wr.heap.size, 4, none⟩ = some (.int .i64 x3) := (b8.2 4 _ rfl).1
        have fa7_4 : (wr.alloc (.cells #[.int .i64 v, .slice P np cp, .int .i64 x1, .int .i64 x2, .int .i64 x3, .int .i64 x4] 50)).frozen? ⟨wr.heap.size, 4, none⟩ = false := (b8.2 4 _ rfl).2
        have ca7_5 : (wr.alloc (.cells #[.int .i64 v, .slice P np cp, .int .i64 x1, .int .i64 x2, .int .i64 x3, .int .i64 x4] 50)).cell? ⟨wr.heap.size, 5, none⟩ = some (.int .i64 x4) := (b8.2 5 _ rfl).1
        have fa7_5 : (wr.alloc (.cells #[.int .i64 v, .slice P np cp, .int .i64 x1, .int .i64 x2, .int .i64 x3, .int .i64 x4] 50)).frozen? ⟨wr.heap.size, 5, none⟩ = false := (b8.2 5 _ rfl).2
        by_cases hver : v = (k : Int) + 1
        rotate_left
        · have t1 := ne_ver hver
          have HX := hid (hisB_no (ps := ps) (l := l) HRL.out hlt (by rw [HX1.out, decide_eq_false hver]; rfl))
          clear hver
          go_wp2_with fail
          clear ca6 fa6 ca7_0 fa7_0 ca7_1 fa7_1 ca7_2 fa7_2 ca7_3 fa7_3 ca7_4 fa7_4 ca7_5 fa7_5
          go_ret
          exact ⟨ret_bool HX.out.symm, kw⟩
        have t1 := eq_ver hver
        have HV := hid (decide_eq_true hver)
        clear hver
        go_wp2_with fail
        clear ca6 fa6 ca7_0 fa7_0 ca7_1 fa7_1 ca7_2 fa7_2 ca7_3 fa7_3 ca7_4 fa7_4 ca7_5 fa7_5
        refine (rlGood_any (c := cp) (h.keeps kw) (h'.keeps kw) hpl HG.out HS.out).mono ?_
        rintro e w8 ⟨rfl, k8⟩
        rw [HP.out]
        replace b3 := b3.keeps k8
        replace b8 := b8.keeps k8
        replace hpl := hpl.keeps k8
        replace kw := Keeps.trans kw k8
        have lt9 := b8.lt
        have sz10 := kw.size
        clear k8
        clear hc0 hc1 hc2 hc3 hc4 hc5 b8
        cases p
        · have HX := hid (hisB_no (ps := ps) (l := l) HRL.out hlt (by rw [HX1.out, HP2.out, Bool.and_false]))
          obtain ⟨ca11, fa11⟩ := id b3
          go_wp2_with fail
          clear ca11 fa11
          go_ret
          exact ⟨ret_bool HX.out.symm, kw⟩
        have HN := hid (show hisTo ps l rs (k + 1) = true by unfold hisTo; rw [HT.out, HX1.out, HV.out, HP2.out]; rfl)
        obtain ⟨ca11, fa11⟩ := id b3
        go_wp2_with fail
        clear ca11 fa11
        go_roundw
        case rel => exact ⟨k + 1, by omega, by go_num, HN, b3, kw⟩
        case measure => simp [intOf]; omega
      · obtain rfl : k = n := by omega
        have HX := hid (hisB_yes HG.out HS.out HRL.out h12 HT.out)
        go_wp2
        go_ret
        exact ⟨ret_bool HX.out.symm, kw⟩
end Go.Proofs.YtlkjhkkfdmjfcaaGreatDoor
