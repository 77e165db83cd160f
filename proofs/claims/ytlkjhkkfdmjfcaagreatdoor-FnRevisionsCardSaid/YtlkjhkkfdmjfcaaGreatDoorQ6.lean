/- What the proof of the statement leans on, part 7: walks of functions and plain lemmas, with no condition. -/
import Derived.Test.YtlkjhkkfdmjfcaaGreatDoorQ0
import Derived.Test.YtlkjhkkfdmjfcaaGreatDoorQ2
import Derived.Test.YtlkjhkkfdmjfcaaGreatDoorQ5
namespace Go.Proofs.YtlkjhkkfdmjfcaaGreatDoor
open Go.RowKit
set_option linter.unusedVariables false
set_option linter.unusedSimpArgs false
theorem Has.keeps {w w' : World} {B e size n : Nat} {v : Value} {cs : List Value} (h : Has w B e size v n cs) (hb : Keeps w w') : Has w' B e size v n cs := h.below hb
def lossB (a b c d : Int) : Bool := fracB a b && fracB c d && (decide (b ≤ a) && decide (0 ≤ c))
def relB (ps : List Int) (l : List VV) (r : RL) : Bool := inB r.1 1 999 && plB ps l r.2.1 && lossB r.2.2.1 r.2.2.2.1 r.2.2.2.2.1 r.2.2.2.2.2
def hisTo (ps : List Int) (l : List VV) (rs : List RL) : Nat → Bool
  | 0 => true
  | k + 1 => hisTo ps l rs k && (decide ((rs.getD k rl0).1 = (k : Int) + 1) && relB ps l (rs.getD k rl0))
/-- A history. -/
def hisB (ps : List Int) (l : List VV) (rs : List RL) : Bool := geoB ps && schB l && decide (rs.length ≤ 12) && hisTo ps l rs rs.length
theorem hisTo_bad {ps : List Int} {l : List VV} {rs : List RL} {k n : Nat} (h : hisTo ps l rs k = false) (hn : k ≤ n) : hisTo ps l rs n = false := by
  induction n with
  | zero => obtain rfl : k = 0 := by omega
            exact h
  | succ n ih =>
    rcases Nat.lt_or_ge n k with h1 | h1
    · obtain rfl : k = n + 1 := by omega
      exact h
    · unfold hisTo; rw [ih h1]; rfl
theorem hisTo_row {ps : List Int} {l : List VV} {rs : List RL} : ∀ n k, hisTo ps l rs n = true → k < n → (rs.getD k rl0).1 = (k : Int) + 1 ∧ relB ps l (rs.getD k rl0) = true
  | 0, k, _, hk => absurd hk (by omega)
  | n + 1, k, h, hk => by
    unfold hisTo at h
    simp only [Bool.and_eq_true, decide_eq_true_eq] at h
    rcases Nat.lt_or_ge k n with h1 | h1
    · exact hisTo_row n k h.1 h1
    · obtain rfl : k = n := by omega
      exact h.2
theorem hisB_no {ps : List Int} {l : List VV} {rs : List RL} {n k : Nat} (hl : rs.length = n) (hk : k < n) (h : (decide ((rs.getD k rl0).1 = (k : Int) + 1) && relB ps l (rs.getD k rl0)) = false) : hisB ps l rs = false := by
  unfold hisB; rw [hl, hisTo_bad (k := k + 1) (by unfold hisTo; rw [h, Bool.and_false]) hk, Bool.and_false]
theorem hisB_len {ps : List Int} {l : List VV} {rs : List RL} (h : ¬ rs.length ≤ 12) : hisB ps l rs = false := by unfold hisB; rw [decide_eq_false h]; simp
theorem hisB_in {ps : List Int} {l : List VV} {rs : List RL} (h : (geoB ps && schB l) = false) : hisB ps l rs = false := by unfold hisB; rw [h]; rfl
theorem hisB_yes {ps : List Int} {l : List VV} {rs : List RL} {n : Nat} (hg : geoB ps = true) (hs : schB l = true) (hl : rs.length = n) (h2 : n ≤ 12) (h : hisTo ps l rs n = true) : hisB ps l rs = true := by unfold hisB; rw [hg, hs, hl, h, decide_eq_true h2]; rfl
theorem hisB_parts {ps : List Int} {l : List VV} {rs : List RL} (h : hisB ps l rs = true) : geoB ps = true ∧ schB l = true ∧ rs.length ≤ 12 ∧ ∀ k, k < rs.length → (rs.getD k rl0).1 = (k : Int) + 1 ∧ relB ps l (rs.getD k rl0) = true := by
  unfold hisB at h
  simp only [Bool.and_eq_true, decide_eq_true_eq] at h
  exact ⟨h.1.1.1, h.1.1.2, h.1.2, fun k hk => hisTo_row _ k h.2 hk⟩
theorem ne_ver {x : Int} {k : Nat} (h : x ≠ (k : Int) + 1) : (x != (k : Int) + 1) = true := by rw [bne_iff_ne]; exact h
theorem eq_ver {x : Int} {k : Nat} (h : x = (k : Int) + 1) : (x != (k : Int) + 1) = false := by subst h; simp
set_option maxRecDepth 100000 in
set_option maxHeartbeats 1600000 in
theorem IsLoss_any {x1 x2 x3 x4 : Int} {w : World} :
    Calls Tryz.prog 81 #[.agg #[.int .i64 x1, .int .i64 x2, .int .i64 x3, .int .i64 x4]] w fun e w' => e = .returned (.bool (lossB x1 x2 x3 x4)) ∧ Keeps w w' := by
  obtain ⟨X, hX⟩ : ∃ X, lossB x1 x2 x3 x4 = X := ⟨_, rfl⟩
  rw [hX]
  have HB := hid (show (fracB x1 x2 && fracB x3 x4 && (decide (x2 ≤ x1) && decide (0 ≤ x3))) = X from hX)
  clear hX
  go_enter Tryz.func81, Tryz.ntmps81
  have kw := keeps_refl w
  replace kw := Keeps.trans kw (keeps_alloc w (.cells #[.int .i64 x1, .int .i64 x2, .int .i64 x3, .int .i64 x4] 48))
  have b1 : Bl (w.alloc (.cells #[.int .i64 x1, .int .i64 x2, .int .i64 x3, .int .i64 x4] 48)) w.heap.size [.int .i64 x1, .int .i64 x2, .int .i64 x3, .int .i64 x4] := Bl.new' (by simp) (by simp)
  have ca1_0 := (b1.2 0 _ rfl).1
  have ca1_1 := (b1.2 1 _ rfl).1
  have ca1_2 := (b1.2 2 _ rfl).1
  have ca1_3 := (b1.2 3 _ rfl).1
  go_wp2_with fail
  clear ca1_0 ca1_1 ca1_2 ca1_3
  obtain ⟨pH1, H1⟩ : ∃ pB, Hid (fracB x1 x2 = pB) := ⟨_, rfl⟩
  refine (IsFrac_any).mono ?_
  rintro e w2 ⟨rfl, k2⟩
  rw [H1.out]
  replace b1 := b1.keeps k2
  replace kw := Keeps.trans kw k2
  have lt3 := b1.lt
  have sz4 := kw.size
  clear k2
  cases pH1
  · have ca5_0 := (b1.2 0 _ rfl).1
    have ca5_1 := (b1.2 1 _ rfl).1
    have ca5_2 := (b1.2 2 _ rfl).1
    have ca5_3 := (b1.2 3 _ rfl).1
    go_wp2_with fail
    clear ca5_0 ca5_1 ca5_2 ca5_3
    go_ret
    exact ⟨ret_bool (by rw [← HB.out, H1.out]; rfl), kw⟩
  · skip
    have ca5_0 := (b1.2 0 _ rfl).1
    have ca5_1 := (b1.2 1 _ rfl).1
    have ca5_2 := (b1.2 2 _ rfl).1
    have ca5_3 := (b1.2 3 _ rfl).1
    go_wp2_with fail
    clear ca5_0 ca5_1 ca5_2 ca5_3
    obtain ⟨pH2, H2⟩ : ∃ pB, Hid (fracB x3 x4 = pB) := ⟨_, rfl⟩
    refine (IsFrac_any).mono ?_
    rintro e w6 ⟨rfl, k6⟩
    rw [H2.out]
    replace b1 := b1.keeps k6
    replace kw := Keeps.trans kw k6
    have lt7 := b1.lt
    have sz8 := kw.size
    clear k6
    cases pH2
    · have ca9_0 := (b1.2 0 _ rfl).1
      have ca9_1 := (b1.2 1 _ rfl).1
      have ca9_2 := (b1.2 2 _ rfl).1
      have ca9_3 := (b1.2 3 _ rfl).1
      go_wp2_with fail
      clear ca9_0 ca9_1 ca9_2 ca9_3
      go_ret
      exact ⟨ret_bool (by rw [← HB.out, H1.out, H2.out]; rfl), kw⟩
    · skip
      by_cases h1 : x2 ≤ x1
      rotate_left
      · have D1 := hid (decide_eq_false h1)
        have ca9_0 := (b1.2 0 _ rfl).1
        have ca9_1 := (b1.2 1 _ rfl).1
        have ca9_2 := (b1.2 2 _ rfl).1
        have ca9_3 := (b1.2 3 _ rfl).1
        go_wp2_with fail
        clear ca9_0 ca9_1 ca9_2 ca9_3
        go_ret
        exact ⟨ret_bool (by rw [← HB.out, H1.out, H2.out, D1.out]; rfl), kw⟩
      have D1 := hid (decide_eq_true h1)
      by_cases h2 : 0 ≤ x3
      · have D2 := hid (decide_eq_true h2)
        have ca9_0 := (b1.2 0 _ rfl).1
        have ca9_1 := (b1.2 1 _ rfl).1
        have ca9_2 := (b1.2 2 _ rfl).1
        have ca9_3 := (b1.2 3 _ rfl).1
        go_wp2_with fail
        clear ca9_0 ca9_1 ca9_2 ca9_3
        go_ret
        exact ⟨ret_bool (by rw [← HB.out, H1.out, H2.out, D1.out, D2.out]; rfl), kw⟩
      · have D2 := hid (decide_eq_false h2)
        have ca9_0 := (b1.2 0 _ rfl).1
        have ca9_1 := (b1.2 1 _ rfl).1
        have ca9_2 := (b1.2 2 _ rfl).1
        have ca9_3 := (b1.2 3 _ rfl).1
        go_wp2_with fail
        clear ca9_0 ca9_1 ca9_2 ca9_3
        go_ret
        exact ⟨ret_bool (by rw [← HB.out, H1.out, H2.out, D1.out, D2.out]; rfl), kw⟩
set_option maxRecDepth 100000 in
set_option maxHeartbeats 1600000 in
theorem pGood_any {x1 x2 x3 x4 : Int} {w : World} :
    Calls Tryz.prog 88 #[.agg #[.int .i64 x1, .int .i64 x2, .int .i64 x3, .int .i64 x4]] w fun e w' => e = .returned (.bool (lossB x1 x2 x3 x4)) ∧ Keeps w w' := by
  obtain ⟨X, hX⟩ : ∃ X, lossB x1 x2 x3 x4 = X := ⟨_, rfl⟩
  rw [hX]
  have HB := hid (show (fracB x1 x2 && fracB x3 x4 && (decide (x2 ≤ x1) && decide (0 ≤ x3))) = X from hX)
  clear hX
  go_enter Tryz.func88, Tryz.ntmps88
  have kw := keeps_refl w
  replace kw := Keeps.trans kw (keeps_alloc w (.cells #[.int .i64 x1, .int .i64 x2, .int .i64 x3, .int .i64 x4] 48))
  have b1 : Bl (w.alloc (.cells #[.int .i64 x1, .int .i64 x2, .int .i64 x3, .int .i64 x4] 48)) w.heap.size [.int .i64 x1, .int .i64 x2, .int .i64 x3, .int .i64 x4] := Bl.new' (by simp) (by simp)
  have ca1_0 := (b1.2 0 _ rfl).1
  have ca1_1 := (b1.2 1 _ rfl).1
  have ca1_2 := (b1.2 2 _ rfl).1
  have ca1_3 := (b1.2 3 _ rfl).1
  go_wp2_with fail
  clear ca1_0 ca1_1 ca1_2 ca1_3
  obtain ⟨pH1, H1⟩ : ∃ pB, Hid (fracB x1 x2 = pB) := ⟨_, rfl⟩
  refine (fGood_any).mono ?_
  rintro e w2 ⟨rfl, k2⟩
  rw [H1.out]
  replace b1 := b1.keeps k2
  replace kw := Keeps.trans kw k2
  have lt3 := b1.lt
  have sz4 := kw.size
  clear k2
  cases pH1
  · have ca5_0 := (b1.2 0 _ rfl).1
    have ca5_1 := (b1.2 1 _ rfl).1
    have ca5_2 := (b1.2 2 _ rfl).1
    have ca5_3 := (b1.2 3 _ rfl).1
    go_wp2_with fail
    clear ca5_0 ca5_1 ca5_2 ca5_3
    go_ret
    exact ⟨ret_bool (by rw [← HB.out, H1.out]; rfl), kw⟩
  · skip
    have ca5_0 := (b1.2 0 _ rfl).1
    have ca5_1 := (b1.2 1 _ rfl).1
    have ca5_2 := (b1.2 2 _ rfl).1
    have ca5_3 := (b1.2 3 _ rfl).1
    go_wp2_with fail
    clear ca5_0 ca5_1 ca5_2 ca5_3
    obtain ⟨pH2, H2⟩ : ∃ pB, Hid (fracB x3 x4 = pB) := ⟨_, rfl⟩
    refine (fGood_any).mono ?_
    rintro e w6 ⟨rfl, k6⟩
    rw [H2.out]
    replace b1 := b1.keeps k6
    replace kw := Keeps.trans kw k6
    have lt7 := b1.lt
    have sz8 := kw.size
    clear k6
    cases pH2
    · have ca9_0 := (b1.2 0 _ rfl).1
      have ca9_1 := (b1.2 1 _ rfl).1
      have ca9_2 := (b1.2 2 _ rfl).1
      have ca9_3 := (b1.2 3 _ rfl).1
      go_wp2_with fail
      clear ca9_0 ca9_1 ca9_2 ca9_3
      go_ret
      exact ⟨ret_bool (by rw [← HB.out, H1.out, H2.out]; rfl), kw⟩
    · skip
      by_cases h1 : x2 ≤ x1
      rotate_left
      · have D1 := hid (decide_eq_false h1)
        have ca9_0 := (b1.2 0 _ rfl).1
        have ca9_1 := (b1.2 1 _ rfl).1
        have ca9_2 := (b1.2 2 _ rfl).1
        have ca9_3 := (b1.2 3 _ rfl).1
        go_wp2_with fail
        clear ca9_0 ca9_1 ca9_2 ca9_3
        go_ret
        exact ⟨ret_bool (by rw [← HB.out, H1.out, H2.out, D1.out]; rfl), kw⟩
      have D1 := hid (decide_eq_true h1)
      by_cases h2 : 0 ≤ x3
      · have D2 := hid (decide_eq_true h2)
        have ca9_0 := (b1.2 0 _ rfl).1
        have ca9_1 := (b1.2 1 _ rfl).1
        have ca9_2 := (b1.2 2 _ rfl).1
        have ca9_3 := (b1.2 3 _ rfl).1
        go_wp2_with fail
        clear ca9_0 ca9_1 ca9_2 ca9_3
        go_ret
        exact ⟨ret_bool (by rw [← HB.out, H1.out, H2.out, D1.out, D2.out]; rfl), kw⟩
      · have D2 := hid (decide_eq_false h2)
        have ca9_0 := (b1.2 0 _ rfl).1
        have ca9_1 := (b1.2 1 _ rfl).1
        have ca9_2 := (b1.2 2 _ rfl).1
        have ca9_3 := (b1.2 3 _ rfl).1
        go_wp2_with fail
        clear ca9_0 ca9_1 ca9_2 ca9_3
        go_ret
        exact ⟨ret_bool (by rw [← HB.out, H1.out, H2.out, D1.out, D2.out]; rfl), kw⟩
set_option maxRecDepth 100000 in
set_option maxHeartbeats 3200000 in
theorem isRelease_any {A A' Q : Option Addr} {lo hi a c0 lo3 hi3 n c q e : Nat} {un : Bool} {v x1 x2 x3 x4 : Int} {ps : List Int} {l : List VV} {ts : List TT} {w : World} (h : Ints w lo hi A a ps) (h' : Sch w A' q e l) (ht : Tabs true un w lo3 hi3 Q n ts) (hg : geoB ps = true) (hs : schB l = true) :
    Calls Tryz.prog 51 #[.agg #[.slice A a c0], .slice A' q e, .agg #[.int .i64 v, .slice Q n c, .int .i64 x1, .int .i64 x2, .int .i64 x3, .int .i64 x4]] w fun e w' => e = .returned (.bool (relB ps l (v, ts, x1, x2, x3, x4))) ∧ Keeps w w' := by
  have HG := hid hg
  have HS := hid hs
  clear hg hs
  obtain ⟨X, hX⟩ : ∃ X, relB ps l (v, ts, x1, x2, x3, x4) = X := ⟨_, rfl⟩
  rw [hX]
  have HB := hid (show (inB v 1 999 && plB ps l ts && lossB x1 x2 x3 x4) = X from hX)
  clear hX
  go_enter Tryz.func51, Tryz.ntmps51
  have kw := keeps_refl w
  replace kw := Keeps.trans kw (keeps_alloc w (.cells #[.slice A a c0] 32))
  have b3 : B1 (w.alloc (.cells #[.slice A a c0] 32)) w.heap.size (.slice A a c0) := B1.new' (by simp)
  replace b3 := b3.keeps (keeps_alloc (w.alloc (.cells #[.slice A a c0] 32)) (.cells #[.int .i64 v, .slice Q n c, .int .i64 x1, .int .i64 x2, .int .i64 x3, .int .i64 x4] 50))
  replace kw := Keeps.trans kw (keeps_alloc (w.alloc (.cells #[.slice A a c0] 32)) (.cells #[.int .i64 v, .slice Q n c, .int .i64 x1, .int .i64 x2, .int .i64 x3, .int .i64 x4] 50))
  have b5 : Bl ((w.alloc (.cells #[.slice A a c0] 32)).alloc (.cells #[.int .i64 v, .slice Q n c, .int .i64 x1, .int .i64 x2, .int .i64 x3, .int .i64 x4] 50)) (w.heap.size + 1) [.int .i64 v, .slice Q n c, .int .i64 x1, .int .i64 x2, .int .i64 x3, .int .i64 x4] := Bl.new' (by simp) (by simp)
  obtain ⟨ca1, fa1⟩ := id b3
  have ca2_0 := (b5.2 0 _ rfl).1
  have ca2_1 := (b5.2 1 _ rfl).1
  have ca2_2 := (b5.2 2 _ rfl).1
  have ca2_3 := (b5.2 3 _ rfl).1
  have ca2_4 := (b5.2 4 _ rfl).1
  have ca2_5 := (b5.2 5 _ rfl).1
  by_cases h1 : 1 ≤ v
  rotate_left
  · have H1 := hid (inB_not (a := v) (lo := 1) (hi := 999) (by omega))
    clear ca1 fa1 ca2_0 ca2_1 ca2_2 ca2_3 ca2_4 ca2_5
    obtain ⟨ca3, fa3⟩ := id b3
    have ca4_0 := (b5.2 0 _ rfl).1
    have ca4_1 := (b5.2 1 _ rfl).1
    have ca4_2 := (b5.2 2 _ rfl).1
    have ca4_3 := (b5.2 3 _ rfl).1
    have ca4_4 := (b5.2 4 _ rfl).1
    have ca4_5 := (b5.2 5 _ rfl).1
    go_wp2_with fail
    clear ca3 fa3 ca4_0 ca4_1 ca4_2 ca4_3 ca4_4 ca4_5
    go_ret
    exact ⟨ret_bool (by rw [← HB.out, H1.out]; rfl), kw⟩
  by_cases h9 : v ≤ 999
  rotate_left
  · have H1 := hid (inB_not (a := v) (lo := 1) (hi := 999) (by omega))
    clear ca1 fa1 ca2_0 ca2_1 ca2_2 ca2_3 ca2_4 ca2_5
    obtain ⟨ca3, fa3⟩ := id b3
    have ca4_0 := (b5.2 0 _ rfl).1
    have ca4_1 := (b5.2 1 _ rfl).1
    have ca4_2 := (b5.2 2 _ rfl).1
    have ca4_3 := (b5.2 3 _ rfl).1
    have ca4_4 := (b5.2 4 _ rfl).1
    have ca4_5 := (b5.2 5 _ rfl).1
    go_wp2_with fail
    clear ca3 fa3 ca4_0 ca4_1 ca4_2 ca4_3 ca4_4 ca4_5
    go_ret
    exact ⟨ret_bool (by rw [← HB.out, H1.out]; rfl), kw⟩
  have H1 := hid (inB_true (a := v) (lo := 1) (hi := 999) |>.2 ⟨h1, h9⟩)
  go_wp2_with fail
  clear ca1 fa1 ca2_0 ca2_1 ca2_2 ca2_3 ca2_4 ca2_5
  obtain ⟨pH2, H2⟩ : ∃ pB, Hid (plB ps l ts = pB) := ⟨_, rfl⟩
  refine (isPlan_any (h.keeps kw) (h'.keeps kw) (ht.keeps kw) HG.out HS.out).mono ?_
  rintro e w3 ⟨rfl, k3⟩
  rw [H2.out]
  replace b3 := b3.keeps k3
  replace b5 := b5.keeps k3
  replace kw := Keeps.trans kw k3
  have lt4 := b5.lt
  have sz5 := kw.size
  clear k3
  cases pH2
  · obtain ⟨ca6, fa6⟩ := id b3
    have ca7_0 := (b5.2 0 _ rfl).1
    have ca7_1 := (b5.2 1 _ rfl).1
    have ca7_2 := (b5.2 2 _ rfl).1
    have ca7_3 := (b5.2 3 _ rfl).1
    have ca7_4 := (b5.2 4 _ rfl).1
    have ca7_5 := (b5.2 5 _ rfl).1
    go_wp2_with fail
    clear ca6 fa6 ca7_0 ca7_1 ca7_2 ca7_3 ca7_4 ca7_5
    go_ret
    exact ⟨ret_bool (by rw [← HB.out, H1.out, H2.out]; rfl), kw⟩
  · skip
    obtain ⟨ca6, fa6⟩ := id b3
    have ca7_0 := (b5.2 0 _ rfl).1
    have ca7_1 := (b5.2 1 _ rfl).1
    have ca7_2 := (b5.2 2 _ rfl).1
    have ca7_3 := (b5.2 3 _ rfl).1
    have ca7_4 := (b5.2 4 _ rfl).1
    have ca7_5 := (b5.2 5 _ rfl).1
    go_wp2_with fail
    clear ca6 fa6 ca7_0 ca7_1 ca7_2 ca7_3 ca7_4 ca7_5
    obtain ⟨p3, H3⟩ : ∃ pB, Hid (lossB x1 x2 x3 x4 = pB) := ⟨_, rfl⟩
    refine (IsLoss_any).mono ?_
    rintro e w8 ⟨rfl, k8⟩
    rw [H3.out]
    replace b3 := b3.keeps k8
    replace b5 := b5.keeps k8
    replace kw := Keeps.trans kw k8
    have lt9 := b5.lt
    have sz10 := kw.size
    clear k8
    obtain ⟨ca11, fa11⟩ := id b3
    have ca12_0 := (b5.2 0 _ rfl).1
    have ca12_1 := (b5.2 1 _ rfl).1
    have ca12_2 := (b5.2 2 _ rfl).1
    have ca12_3 := (b5.2 3 _ rfl).1
    have ca12_4 := (b5.2 4 _ rfl).1
    have ca12_5 := (b5.2 5 _ rfl).1
    go_wp2_with fail
    clear ca11 fa11 ca12_0 ca12_1 ca12_2 ca12_3 ca12_4 ca12_5
    go_ret
    exact ⟨ret_bool (by rw [← HB.out, H1.out, H2.out, H3.out]; rfl), kw⟩
set_option maxRecDepth 100000 in
set_option maxHeartbeats 3200000 in
theorem rlGood_any {A A' Q : Option Addr} {lo hi a c0 lo3 hi3 n c q e : Nat} {un : Bool} {v x1 x2 x3 x4 : Int} {ps : List Int} {l : List VV} {ts : List TT} {w : World} (h : Ints w lo hi A a ps) (h' : Sch w A' q e l) (ht : Tabs true un w lo3 hi3 Q n ts) (hg : geoB ps = true) (hs : schB l = true) :
    Calls Tryz.prog 54 #[.agg #[.slice A a c0], .slice A' q e, .agg #[.int .i64 v, .slice Q n c, .int .i64 x1, .int .i64 x2, .int .i64 x3, .int .i64 x4]] w fun e w' => e = .returned (.bool (relB ps l (v, ts, x1, x2, x3, x4))) ∧ Keeps w w' := by
  have HG := hid hg
  have HS := hid hs
  clear hg hs
  obtain ⟨X, hX⟩ : ∃ X, relB ps l (v, ts, x1, x2, x3, x4) = X := ⟨_, rfl⟩
  rw [hX]
  have HB := hid (show (inB v 1 999 && plB ps l ts && lossB x1 x2 x3 x4) = X from hX)
  clear hX
  go_enter Tryz.func54, Tryz.ntmps54
  have kw := keeps_refl w
  replace kw := Keeps.trans kw (keeps_alloc w (.cells #[.slice A a c0] 32))
  have b3 : B1 (w.alloc (.cells #[.slice A a c0] 32)) w.heap.size (.slice A a c0) := B1.new' (by simp)
  replace b3 := b3.keeps (keeps_alloc (w.alloc (.cells #[.slice A a c0] 32)) (.cells #[.int .i64 v, .slice Q n c, .int .i64 x1, .int .i64 x2, .int .i64 x3, .int .i64 x4] 50))
  replace kw := Keeps.trans kw (keeps_alloc (w.alloc (.cells #[.slice A a c0] 32)) (.cells #[.int .i64 v, .slice Q n c, .int .i64 x1, .int .i64 x2, .int .i64 x3, .int .i64 x4] 50))
  have b5 : Bl ((w.alloc (.cells #[.slice A a c0] 32)).alloc (.cells #[.int .i64 v, .slice Q n c, .int .i64 x1, .int .i64 x2, .int .i64 x3, .int .i64 x4] 50)) (w.heap.size + 1) [.int .i64 v, .slice Q n c, .int .i64 x1, .int .i64 x2, .int .i64 x3, .int .i64 x4] := Bl.new' (by simp) (by simp)
  obtain ⟨ca1, fa1⟩ := id b3
  have ca2_0 := (b5.2 0 _ rfl).1
  have ca2_1 := (b5.2 1 _ rfl).1
  have ca2_2 := (b5.2 2 _ rfl).1
  have ca2_3 := (b5.2 3 _ rfl).1
  have ca2_4 := (b5.2 4 _ rfl).1
  have ca2_5 := (b5.2 5 _ rfl).1
  go_wp2_with fail
  clear ca1 fa1 ca2_0 ca2_1 ca2_2 ca2_3 ca2_4 ca2_5
  obtain ⟨pH1, H1⟩ : ∃ pB, Hid (inB v 1 999 = pB) := ⟨_, rfl⟩
  refine (l1In_any _ _ _ _).mono ?_
  rintro e w' ⟨rfl, rfl⟩
  rw [H1.out]
  cases pH1
  · obtain ⟨ca3, fa3⟩ := id b3
    have ca4_0 := (b5.2 0 _ rfl).1
    have ca4_1 := (b5.2 1 _ rfl).1
    have ca4_2 := (b5.2 2 _ rfl).1
    have ca4_3 := (b5.2 3 _ rfl).1
    have ca4_4 := (b5.2 4 _ rfl).1
    have ca4_5 := (b5.2 5 _ rfl).1
    go_wp2_with fail
    clear ca3 fa3 ca4_0 ca4_1 ca4_2 ca4_3 ca4_4 ca4_5
    go_ret
    exact ⟨ret_bool (by rw [← HB.out, H1.out]; rfl), kw⟩
  · skip
    obtain ⟨ca3, fa3⟩ := id b3
    have ca4_0 := (b5.2 0 _ rfl).1
    have ca4_1 := (b5.2 1 _ rfl).1
    have ca4_2 := (b5.2 2 _ rfl).1
    have ca4_3 := (b5.2 3 _ rfl).1
    have ca4_4 := (b5.2 4 _ rfl).1
    have ca4_5 := (b5.2 5 _ rfl).1
    go_wp2_with fail
    clear ca3 fa3 ca4_0 ca4_1 ca4_2 ca4_3 ca4_4 ca4_5
    obtain ⟨pH2, H2⟩ : ∃ pB, Hid (plB ps l ts = pB) := ⟨_, rfl⟩
    refine (nPlan_any (h.keeps kw) (h'.keeps kw) (ht.keeps kw) HG.out HS.out).mono ?_
    rintro e w5 ⟨rfl, k5⟩
    rw [H2.out]
    replace b3 := b3.keeps k5
    replace b5 := b5.keeps k5
    replace kw := Keeps.trans kw k5
    have lt6 := b5.lt
    have sz7 := kw.size
    clear k5
    cases pH2
    · obtain ⟨ca8, fa8⟩ := id b3
      have ca9_0 := (b5.2 0 _ rfl).1
      have ca9_1 := (b5.2 1 _ rfl).1
      have ca9_2 := (b5.2 2 _ rfl).1
      have ca9_3 := (b5.2 3 _ rfl).1
      have ca9_4 := (b5.2 4 _ rfl).1
      have ca9_5 := (b5.2 5 _ rfl).1
      go_wp2_with fail
      clear ca8 fa8 ca9_0 ca9_1 ca9_2 ca9_3 ca9_4 ca9_5
      go_ret
      exact ⟨ret_bool (by rw [← HB.out, H1.out, H2.out]; rfl), kw⟩
    · skip
      obtain ⟨ca8, fa8⟩ := id b3
      have ca9_0 := (b5.2 0 _ rfl).1
      have ca9_1 := (b5.2 1 _ rfl).1
      have ca9_2 := (b5.2 2 _ rfl).1
      have ca9_3 := (b5.2 3 _ rfl).1
      have ca9_4 := (b5.2 4 _ rfl).1
      have ca9_5 := (b5.2 5 _ rfl).1
      go_wp2_with fail
      clear ca8 fa8 ca9_0 ca9_1 ca9_2 ca9_3 ca9_4 ca9_5
      obtain ⟨p3, H3⟩ : ∃ pB, Hid (lossB x1 x2 x3 x4 = pB) := ⟨_, rfl⟩
      refine (pGood_any).mono ?_
      rintro e w10 ⟨rfl, k10⟩
      rw [H3.out]
      replace b3 := b3.keeps k10
      replace b5 := b5.keeps k10
      replace kw := Keeps.trans kw k10
      have lt11 := b5.lt
      have sz12 := kw.size
      clear k10
      obtain ⟨ca13, fa13⟩ := id b3
      have ca14_0 := (b5.2 0 _ rfl).1
      have ca14_1 := (b5.2 1 _ rfl).1
      have ca14_2 := (b5.2 2 _ rfl).1
      have ca14_3 := (b5.2 3 _ rfl).1
      have ca14_4 := (b5.2 4 _ rfl).1
      have ca14_5 := (b5.2 5 _ rfl).1
      go_wp2_with fail
      clear ca13 fa13 ca14_0 ca14_1 ca14_2 ca14_3 ca14_4 ca14_5
      go_ret
      exact ⟨ret_bool (by rw [← HB.out, H1.out, H2.out, H3.out]; rfl), kw⟩
set_option maxRecDepth 100000 in
set_option maxHeartbeats 6400000 in
theorem isHistory_any {A A' R : Option Addr} {lo hi a c0 lo3 hi3 n c q e : Nat} {un : Bool} {ps : List Int} {l : List VV} {rs : List RL} {w : World} (h : Ints w lo hi A a ps) (h' : Sch w A' q e l) (hr : Rels true un w lo3 hi3 R n rs) :
    Calls Tryz.prog 36 #[.agg #[.slice A a c0], .slice A' q e, .slice R n c] w fun e w' => e = .returned (.bool (hisB ps l rs)) ∧ Keeps w w' := by
  obtain ⟨lo9, hi9, hv⟩ := h'.v
  have HRL := hid hr.len
  have hn := hr.le
  go_enter Tryz.func36, Tryz.ntmps36
  have kw := keeps_refl w
  replace kw := Keeps.trans kw (keeps_alloc w (.cells #[.slice A a c0] 32))
  have b3 : B1 (w.alloc (.cells #[.slice A a c0] 32)) w.heap.size (.slice A a c0) := B1.new' (by simp)
  obtain ⟨ca1, fa1⟩ := id b3
  go_wp2_with fail
  clear ca1 fa1
  obtain ⟨pHG, HG⟩ : ∃ pB, Hid (geoB ps = pB) := ⟨_, rfl⟩
  refine (IsGeo_any (h.keeps kw)).mono ?_
  rintro e w2 ⟨rfl, k2⟩
  rw [HG.out]
  replace b3 := b3.keeps k2
  replace kw := Keeps.trans kw k2
  have lt3 := b3.lt
  have sz4 := kw.size
  clear k2
  cases pHG
  · have HX := hid (hisB_in (l := l) (rs := rs) (by rw [HG.out]; rfl))
    obtain ⟨ca5, fa5⟩ := id b3
    go_wp2_with fail
    clear ca5 fa5
    go_ret
    exact ⟨ret_bool HX.out.symm, kw⟩
  · skip
    obtain ⟨ca5, fa5⟩ := id b3
    go_wp2_with fail
    clear ca5 fa5
    obtain ⟨pHS, HS⟩ : ∃ pB, Hid (schB l = pB) := ⟨_, rfl⟩
    refine (IsSchema_any (Sl.keeps hv kw) h'.ok h'.cap h'.c64).mono ?_
    rintro e w6 ⟨rfl, k6⟩
    rw [HS.out]
    replace b3 := b3.keeps k6
    replace kw := Keeps.trans kw k6
    have lt7 := b3.lt
    have sz8 := kw.size
    clear k6
    cases pHS
    · have HX := hid (hisB_in (rs := rs) (by rw [HG.out, HS.out]; rfl))
      obtain ⟨ca9, fa9⟩ := id b3
      go_wp2_with fail
      clear ca9 fa9
      go_ret
      exact ⟨ret_bool HX.out.symm, kw⟩
    · skip
      by_cases h12 : n ≤ 12
      rotate_left
      · have HX := hid (hisB_len (ps := ps) (l := l) (rs := rs) (by rw [HRL.out]; exact h12))
        obtain ⟨ca9, fa9⟩ := id b3
        go_wp2_with fail
        clear ca9 fa9
        go_ret
        exact ⟨ret_bool HX.out.symm, kw⟩
      obtain ⟨ca9, fa9⟩ := id b3
      go_wp2_with fail
      clear ca9 fa9
      go_loopw [24] (fun i wr => ∃ k : Nat, k ≤ n ∧ i = .int .i64 k ∧ Hid (hisTo ps l rs k = true) ∧ B1 wr w.heap.size (.slice A a c0) ∧ Keeps w wr) (fun i _ => n - (intOf i).toNat)
      case atStart => exact ⟨0, Nat.zero_le _, rfl, hid rfl, b3, kw⟩
      clear b3 kw
      case round =>
        obtain ⟨k, hk, rfl, HT, b3, kw⟩ := hrel
        by_cases hlt : k < n
        · obtain ⟨b, off, v, P, np, cp, x1, x2, x3, x4, pl, rfl, _, _, hc0, hc1, hc2, hc3, hc4, hc5, hpl, hx⟩ := (hr.keeps kw).at_ hlt
          have hi1 : (k : Int) < (n : Int) := by omega
          have HX1 := hid (show (rs.getD k rl0).1 = v by rw [← hx.out])
          obtain ⟨p, HP⟩ : ∃ p, Hid (relB ps l (v, pl, x1, x2, x3, x4) = p) := ⟨_, rfl⟩
          have HP2 := hid (show relB ps l (rs.getD k rl0) = p by rw [← hx.out]; exact HP.out)
          clear hx
          have lt3 := b3.lt
          replace b3 := b3.keeps (keeps_alloc wr (.cells #[.int .i64 v, .slice P np cp, .int .i64 x1, .int .i64 x2, .int .i64 x3, .int .i64 x4] 50))
          replace hpl := hpl.keeps (keeps_alloc wr (.cells #[.int .i64 v, .slice P np cp, .int .i64 x1, .int .i64 x2, .int .i64 x3, .int .i64 x4] 50))
          replace kw := Keeps.trans kw (keeps_alloc wr (.cells #[.int .i64 v, .slice P np cp, .int .i64 x1, .int .i64 x2, .int .i64 x3, .int .i64 x4] 50))
          have b8 : Bl (wr.alloc (.cells #[.int .i64 v, .slice P np cp, .int .i64 x1, .int .i64 x2, .int .i64 x3, .int .i64 x4] 50)) wr.heap.size [.int .i64 v, .slice P np cp, .int .i64 x1, .int .i64 x2, .int .i64 x3, .int .i64 x4] := Bl.new' (by simp) (by simp)
          obtain ⟨ca10, fa10⟩ := id b3
          have ca11_0 := (b8.2 0 _ rfl).1
          have ca11_1 := (b8.2 1 _ rfl).1
          have ca11_2 := (b8.2 2 _ rfl).1
          have ca11_3 := (b8.2 3 _ rfl).1
          have ca11_4 := (b8.2 4 _ rfl).1
          have ca11_5 := (b8.2 5 _ rfl).1
          by_cases hver : v = (k : Int) + 1
          rotate_left
          · have t1 := ne_ver hver
            have HX := hid (hisB_no (ps := ps) (l := l) HRL.out hlt (by rw [HX1.out, decide_eq_false hver]; rfl))
            clear hver
            go_wp2_with fail
            clear ca10 fa10 ca11_0 ca11_1 ca11_2 ca11_3 ca11_4 ca11_5
            go_ret
            exact ⟨ret_bool HX.out.symm, kw⟩
          have t1 := eq_ver hver
          have HV := hid (decide_eq_true hver)
          clear hver
          go_wp2_with fail
          clear ca10 fa10 ca11_0 ca11_1 ca11_2 ca11_3 ca11_4 ca11_5
          refine (isRelease_any (c := cp) (h.keeps kw) (h'.keeps kw) hpl HG.out HS.out).mono ?_
          rintro e w12 ⟨rfl, k12⟩
          rw [HP.out]
          replace b3 := b3.keeps k12
          replace b8 := b8.keeps k12
          replace hpl := hpl.keeps k12
          replace kw := Keeps.trans kw k12
          have lt13 := b8.lt
          have sz14 := kw.size
          clear k12
          clear hc0 hc1 hc2 hc3 hc4 hc5 b8
          cases p
          · have HX := hid (hisB_no (ps := ps) (l := l) HRL.out hlt (by rw [HX1.out, HP2.out, Bool.and_false]))
            obtain ⟨ca15, fa15⟩ := id b3
            go_wp2_with fail
            clear ca15 fa15
            go_ret
            exact ⟨ret_bool HX.out.symm, kw⟩
          have HN := hid (show hisTo ps l rs (k + 1) = true by unfold hisTo; rw [HT.out, HX1.out, HV.out, HP2.out]; rfl)
          obtain ⟨ca15, fa15⟩ := id b3
          go_wp2_with fail
          clear ca15 fa15
          go_roundw
          case rel => exact ⟨k + 1, by omega, by go_num, HN, b3, kw⟩
          case measure => simp [intOf]; omega
        · obtain rfl : k = n := by omega
          have HX := hid (hisB_yes HG.out HS.out HRL.out h12 HT.out)
          go_wp2
          go_ret
          exact ⟨ret_bool HX.out.symm, kw⟩
set_option maxRecDepth 100000 in
set_option maxHeartbeats 6400000 in
theorem rlHistory_any {A A' R : Option Addr} {lo hi a c0 lo3 hi3 n c q e : Nat} {un : Bool} {ps : List Int} {l : List VV} {rs : List RL} {w : World} (h : Ints w lo hi A a ps) (h' : Sch w A' q e l) (hr : Rels true un w lo3 hi3 R n rs) :
    Calls Tryz.prog 29 #[.agg #[.slice A a c0], .slice A' q e, .slice R n c] w fun e w' => e = .returned (.bool (hisB ps l rs)) ∧ Keeps w w' := by
  obtain ⟨lo9, hi9, hv⟩ := h'.v
  have HRL := hid hr.len
  have hn := hr.le
  go_enter Tryz.func29, Tryz.ntmps29
  have kw := keeps_refl w
  replace kw := Keeps.trans kw (keeps_alloc w (.cells #[.slice A a c0] 32))
  have b3 : B1 (w.alloc (.cells #[.slice A a c0] 32)) w.heap.size (.slice A a c0) := B1.new' (by simp)
  obtain ⟨ca1, fa1⟩ := id b3
  go_wp2_with fail
  clear ca1 fa1
  obtain ⟨pH1, H1⟩ : ∃ pB, Hid ((geoB ps && schB l) = pB) := ⟨_, rfl⟩
  refine (nInput_any (h.keeps kw) (h'.keeps kw)).mono ?_
  rintro e w2 ⟨rfl, k2⟩
  rw [H1.out]
  replace b3 := b3.keeps k2
  replace kw := Keeps.trans kw k2
  have lt3 := b3.lt
  have sz4 := kw.size
  clear k2
  cases pH1
  · have HX := hid (hisB_in (rs := rs) H1.out)
    obtain ⟨ca5, fa5⟩ := id b3
    go_wp2_with fail
    clear ca5 fa5
    go_ret
    exact ⟨ret_bool HX.out.symm, kw⟩
  · skip
    have HG := hid (show geoB ps = true by have := H1.out; simp only [Bool.and_eq_true] at this; exact this.1)
    have HS := hid (show schB l = true by have := H1.out; simp only [Bool.and_eq_true] at this; exact this.2)
    by_cases h12 : n ≤ 12
    rotate_left
    · have HX := hid (hisB_len (ps := ps) (l := l) (rs := rs) (by rw [HRL.out]; exact h12))
      obtain ⟨ca5, fa5⟩ := id b3
      go_wp2_with fail
      clear ca5 fa5
      go_ret
      exact ⟨ret_bool HX.out.symm, kw⟩
    obtain ⟨ca5, fa5⟩ := id b3
    go_wp2_with fail
    clear ca5 fa5
    go_loopw [20] (fun i wr => ∃ k : Nat, k ≤ n ∧ i = .int .i64 k ∧ Hid (hisTo ps l rs k = true) ∧ B1 wr w.heap.size (.slice A a c0) ∧ Keeps w wr) (fun i _ => n - (intOf i).toNat)
    case atStart => exact ⟨0, Nat.zero_le _, rfl, hid rfl, b3, kw⟩
    clear b3 kw
    case round =>
      obtain ⟨k, hk, rfl, HT, b3, kw⟩ := hrel
      by_cases hlt : k < n
      · obtain ⟨b, off, v, P, np, cp, x1, x2, x3, x4, pl, rfl, _, _, hc0, hc1, hc2, hc3, hc4, hc5, hpl, hx⟩ := (hr.keeps kw).at_ hlt
        have hi1 : (k : Int) < (n : Int) := by omega
        have HX1 := hid (show (rs.getD k rl0).1 = v by rw [← hx.out])
        obtain ⟨p, HP⟩ : ∃ p, Hid (relB ps l (v, pl, x1, x2, x3, x4) = p) := ⟨_, rfl⟩
        have HP2 := hid (show relB ps l (rs.getD k rl0) = p by rw [← hx.out]; exact HP.out)
        clear hx
        have lt3 := b3.lt
        replace b3 := b3.keeps (keeps_alloc wr (.cells #[.int .i64 v, .slice P np cp, .int .i64 x1, .int .i64 x2, .int .i64 x3, .int .i64 x4] 50))
        replace hpl := hpl.keeps (keeps_alloc wr (.cells #[.int .i64 v, .slice P np cp, .int .i64 x1, .int .i64 x2, .int .i64 x3, .int .i64 x4] 50))
        replace kw := Keeps.trans kw (keeps_alloc wr (.cells #[.int .i64 v, .slice P np cp, .int .i64 x1, .int .i64 x2, .int .i64 x3, .int .i64 x4] 50))
        have b8 : Bl (wr.alloc (.cells #[.int .i64 v, .slice P np cp, .int .i64 x1, .int .i64 x2, .int .i64 x3, .int .i64 x4] 50)) wr.heap.size [.int .i64 v, .slice P np cp, .int .i64 x1, .int .i64 x2, .int .i64 x3, .int .i64 x4] := Bl.new' (by simp) (by simp)
        obtain ⟨ca6, fa6⟩ := id b3
        have ca7_0 := (b8.2 0 _ rfl).1
        have ca7_1 := (b8.2 1 _ rfl).1
        have ca7_2 := (b8.2 2 _ rfl).1
        have ca7_3 := (b8.2 3 _ rfl).1
        have ca7_4 := (b8.2 4 _ rfl).1
        have ca7_5 := (b8.2 5 _ rfl).1
        by_cases hver : v = (k : Int) + 1
        rotate_left
        · have t1 := ne_ver hver
          have HX := hid (hisB_no (ps := ps) (l := l) HRL.out hlt (by rw [HX1.out, decide_eq_false hver]; rfl))
          clear hver
          go_wp2_with fail
          clear ca6 fa6 ca7_0 ca7_1 ca7_2 ca7_3 ca7_4 ca7_5
          go_ret
          exact ⟨ret_bool HX.out.symm, kw⟩
        have t1 := eq_ver hver
        have HV := hid (decide_eq_true hver)
        clear hver
        go_wp2_with fail
        clear ca6 fa6 ca7_0 ca7_1 ca7_2 ca7_3 ca7_4 ca7_5
        refine (rlGood_any (c := cp) (h.keeps kw) (h'.keeps kw) hpl HG.out HS.out).mono ?_
        rintro e w8 ⟨rfl, k8⟩
        rw [HP.out]
        replace b3 := b3.keeps k8
        replace b8 := b8.keeps k8
        replace hpl := hpl.keeps k8
        replace kw := Keeps.trans kw k8
        have lt9 := b8.lt
        have sz10 := kw.size
        clear k8
        clear hc0 hc1 hc2 hc3 hc4 hc5 b8
        cases p
        · have HX := hid (hisB_no (ps := ps) (l := l) HRL.out hlt (by rw [HX1.out, HP2.out, Bool.and_false]))
          obtain ⟨ca11, fa11⟩ := id b3
          go_wp2_with fail
          clear ca11 fa11
          go_ret
          exact ⟨ret_bool HX.out.symm, kw⟩
        have HN := hid (show hisTo ps l rs (k + 1) = true by unfold hisTo; rw [HT.out, HX1.out, HV.out, HP2.out]; rfl)
        obtain ⟨ca11, fa11⟩ := id b3
        go_wp2_with fail
        clear ca11 fa11
        go_roundw
        case rel => exact ⟨k + 1, by omega, by go_num, HN, b3, kw⟩
        case measure => simp [intOf]; omega
      · obtain rfl : k = n := by omega
        have HX := hid (hisB_yes HG.out HS.out HRL.out h12 HT.out)
        go_wp2
        go_ret
        exact ⟨ret_bool HX.out.symm, kw⟩
end Go.Proofs.YtlkjhkkfdmjfcaaGreatDoor
namespace Go.Proofs.YtlkjhkkfdmjfcaaGreatDoor
open Go.RowKit Go.Sort
set_option linter.unusedVariables false
set_option linter.unusedSimpArgs false
structure TwoInts (w : World) (lo hi : Nat) (A : Option Addr) (n : Nat) (l : List Int) (B : Option Addr) (m : Nat) (l' : List Int) : Prop where
  a : Ints w lo hi A n l
  b : Ints w lo hi B m l'
theorem enterF_of {P : Program} {f : FuncId} {fn : Func} {c : Code} (hf : P.funcs[f]? = some fn) (hname : (fn.name == "runtime.NumGoroutine") = false) (hb : fn.body = some c) (args : Array Value) (w : World) :
    (callFunc f args).run P w = .ok (.enter f args) w := by
  have h1 : fn.name ≠ "runtime.NumGoroutine" := by simpa using hname
  simp [callFunc, hf, h1, hb]
/-- The first number below n where g holds, or n. -/
def fst (g : Nat → Bool) : Nat → Nat
  | 0 => 0
  | k + 1 => if fst g k < k then fst g k else if g k then k else k + 1
theorem fst_no {g : Nat → Bool} {k : Nat} (h : fst g k = k) (h1 : g k = false) : fst g (k + 1) = k + 1 := by unfold fst; rw [h, if_neg (by omega), h1]; rfl
theorem fst_yes {g : Nat → Bool} {k n : Nat} (h : fst g k = k) (h1 : g k = true) (hn : k < n) : fst g n = k := by
  induction n with
  | zero => omega
  | succ n ih =>
    unfold fst
    rcases Nat.lt_or_ge k n with h2 | h2
    · rw [ih h2, if_pos h2]
    · obtain rfl : k = n := by omega
      rw [h, if_neg (by omega), if_pos h1]
def ixF (g : Nat → Bool) (n : Nat) : Int := if fst g n < n then (fst g n : Int) else -1
def exF (g : Nat → Bool) (n : Nat) : Bool := decide (fst g n < n)
theorem ixF_yes {g : Nat → Bool} {k n : Nat} (h : fst g k = k) (h1 : g k = true) (hn : k < n) : ixF g n = (k : Int) := by unfold ixF; rw [fst_yes h h1 hn, if_pos hn]
theorem ixF_no {g : Nat → Bool} {n : Nat} (h : fst g n = n) : ixF g n = -1 := by unfold ixF; rw [h, if_neg (by omega)]
theorem exF_yes {g : Nat → Bool} {k n : Nat} (h : fst g k = k) (h1 : g k = true) (hn : k < n) : exF g n = true := by unfold exF; rw [fst_yes h h1 hn]; exact decide_eq_true hn
theorem exF_no {g : Nat → Bool} {n : Nat} (h : fst g n = n) : exF g n = false := by unfold exF; rw [h]; exact decide_eq_false (by omega)
theorem ixF_t {g : Nat → Bool} {n : Nat} (h : exF g n = true) : ixF g n = (fst g n : Int) := by unfold exF at h; unfold ixF; rw [if_pos (of_decide_eq_true h)]
theorem ixF_f {g : Nat → Bool} {n : Nat} (h : exF g n = false) : ixF g n = -1 := by unfold exF at h; unfold ixF; rw [if_neg (of_decide_eq_false h)]
theorem exF_lt {g : Nat → Bool} {n : Nat} (h : exF g n = true) : fst g n < n := of_decide_eq_true h
theorem fst_le (g : Nat → Bool) : ∀ n, fst g n ≤ n
  | 0 => Nat.le_refl _
  | n + 1 => by
    have := fst_le g n
    unfold fst; split
    · omega
    · split <;> omega
/-- Whether t follows from a table of release i. -/
def fvG (ps : List Int) (l : List VV) (rs : List RL) (t : TT) (i : Nat) : Bool := exF (fun j => flB ps l t ((rs.getD i rl0).2.1.getD j t0)) (rs.getD i rl0).2.1.length
def svI (g : Nat → Bool) (n : Nat) : Int := if exF g n then (fst g n : Int) + 1 else 0
theorem svI_yes {g : Nat → Bool} {k n : Nat} (h : fst g k = k) (h1 : g k = true) (hn : k < n) : svI g n = (k : Int) + 1 := by unfold svI; rw [exF_yes h h1 hn, fst_yes h h1 hn]; rfl
theorem svI_no {g : Nat → Bool} {n : Nat} (h : fst g n = n) : svI g n = 0 := by unfold svI; rw [exF_no h]; rfl
theorem svI_t {g : Nat → Bool} {n : Nat} (h : exF g n = true) : svI g n = (fst g n : Int) + 1 := by unfold svI; rw [h]; rfl
theorem svI_f {g : Nat → Bool} {n : Nat} (h : exF g n = false) : svI g n = 0 := by unfold svI; rw [h]; rfl
def fvQ (ps : List Int) (l : List VV) (rs : List RL) (t : TT) : Int × Bool :=
  if hisB ps l rs && tabB ps l t then (svI (fvG ps l rs t) rs.length, exF (fvG ps l rs t) rs.length) else (0, false)
theorem fvQ_no {ps : List Int} {l : List VV} {rs : List RL} {t : TT} (h : (hisB ps l rs && tabB ps l t) = false) : fvQ ps l rs t = (0, false) := by unfold fvQ; rw [h]; rfl
theorem fvQ_yes {ps : List Int} {l : List VV} {rs : List RL} {t : TT} {n : Nat} (hl : rs.length = n) (h : hisB ps l rs = true) (h1 : tabB ps l t = true) : fvQ ps l rs t = (svI (fvG ps l rs t) n, exF (fvG ps l rs t) n) := by unfold fvQ; rw [h, h1, hl]; rfl
set_option maxRecDepth 100000 in
set_option maxHeartbeats 3200000 in
theorem indexFuncT_any {A : Option Addr} {lo hi n c : Nat} {K : FuncId} {caps : Array Value} {un : Bool} {ts : List TT} {G : Nat → Bool} {w : World} (h : Tabs true un w lo hi A n ts) (hK : ∀ (args : Array Value) (w : World), (callFunc K args).run Tryz.prog w = .ok (.enter K args) w)
    (hat : ∀ (k : Nat) (w' : World) (lv sm : Int) (V H : Option Addr) (nv cv nh ch : Nat) (vs hs : List Int), k < n → Keeps w w' → Ints w' lo hi V nv vs → Ints w' lo hi H nh hs → Hid ((lv, vs, hs, sm) = ts.getD k t0) → Calls Tryz.prog K (#[.agg #[.int .i64 lv, .slice V nv cv, .slice H nh ch, .int .i64 sm]] ++ caps) w' fun e w'' => e = .returned (.bool (G k)) ∧ Keeps w' w'') :
    Calls Tryz.prog 121 #[.slice A n c, .func (.func K) #[] caps] w fun e w' => e = .returned (.int .i64 (ixF G n)) ∧ Keeps w w' := by
  have HAT := hid hat
  clear hat
  have hn := h.le
  go_enter Tryz.func121, Tryz.ntmps121
  go_wp2_with fail
  go_loopw [8] (fun i wr => ∃ k : Nat, k ≤ n ∧ i = .int .i64 k ∧ Hid (fst G k = k) ∧ Keeps w wr) (fun i _ => n - (intOf i).toNat)
  case atStart => exact ⟨0, Nat.zero_le _, rfl, hid rfl, keeps_refl _⟩
  case round =>
    obtain ⟨k, hk, rfl, HK, kw⟩ := hrel
    by_cases hlt : k < n
    · have hi1 : (k : Int) < (n : Int) := by omega
      obtain ⟨b, off, lv, V, nv, cv, H, nh, ch, sm, vs, hs, rfl, _, _, c0, c1, c2, c3, gv, gh, hx⟩ := (h.keeps kw).at_ hlt
      go_wp2_with fail
      clear c0 c1 c2 c3
      refine (HAT.out k _ lv sm V H nv cv nh ch vs hs hlt kw gv gh hx).mono ?_
      rintro e w1 ⟨rfl, k1⟩
      replace kw := Keeps.trans kw k1
      obtain ⟨p, HP⟩ : ∃ p, Hid (G k = p) := ⟨_, rfl⟩
      rw [HP.out]
      cases p
      · have HN := hid (fst_no HK.out HP.out)
        go_wp2
        go_roundw
        case rel => exact ⟨k + 1, by omega, by go_num, HN, kw⟩
        case measure => simp [intOf]; omega
      · have HX := hid (ixF_yes HK.out HP.out hlt)
        go_wp2
        go_ret
        exact ⟨ret_int HX.out.symm, kw⟩
    · obtain rfl : n = k := by omega
      have HX := hid (ixF_no HK.out)
      go_wp2
      go_ret
      exact ⟨ret_int HX.out.symm, kw⟩
set_option maxRecDepth 100000 in
set_option maxHeartbeats 3200000 in
theorem containsFuncT_any {A : Option Addr} {lo hi n c : Nat} {K : FuncId} {caps : Array Value} {un : Bool} {ts : List TT} {G : Nat → Bool} {w : World} (h : Tabs true un w lo hi A n ts) (hK : ∀ (args : Array Value) (w : World), (callFunc K args).run Tryz.prog w = .ok (.enter K args) w)
    (hat : ∀ (k : Nat) (w' : World) (lv sm : Int) (V H : Option Addr) (nv cv nh ch : Nat) (vs hs : List Int), k < n → Keeps w w' → Ints w' lo hi V nv vs → Ints w' lo hi H nh hs → Hid ((lv, vs, hs, sm) = ts.getD k t0) → Calls Tryz.prog K (#[.agg #[.int .i64 lv, .slice V nv cv, .slice H nh ch, .int .i64 sm]] ++ caps) w' fun e w'' => e = .returned (.bool (G k)) ∧ Keeps w' w'') :
    Calls Tryz.prog 82 #[.slice A n c, .func (.func K) #[] caps] w fun e w' => e = .returned (.bool (exF G n)) ∧ Keeps w w' := by
  have HAT := hid hat
  have HKK := hid hK
  clear hat hK
  obtain ⟨p, HP⟩ : ∃ p, Hid (exF G n = p) := ⟨_, rfl⟩
  rw [HP.out]
  go_enter Tryz.func82, Tryz.ntmps82
  go_wp2_with fail
  cases p
  · refine (indexFuncT_any (c := c) h HKK.out HAT.out).mono ?_
    rintro e w1 ⟨rfl, k1⟩
    rw [ixF_f HP.out]
    go_wp2
    go_ret
    exact ⟨ret_bool rfl, k1⟩
  · refine (indexFuncT_any (c := c) h HKK.out HAT.out).mono ?_
    rintro e w1 ⟨rfl, k1⟩
    rw [ixF_t HP.out]
    have ge : (0 : Int) ≤ (fst G n : Int) := by omega
    go_wp2
    go_ret
    exact ⟨ret_bool rfl, k1⟩
set_option maxRecDepth 100000 in
set_option maxHeartbeats 3200000 in
theorem svClosure {A A' V H V' H' : Option Addr} {lo hi lo1 hi1 lo2 hi2 lo3 hi3 lo4 hi4 a c0 q e n c m d n' c' m' d' : Nat} {ps vs ws us xs : List Int} {l : List VV} {lv sm lu su : Int} {w : World} (h : Ints w lo hi A a ps) (hg : geoB ps = true) (h' : Sch w A' q e l) (hlv : LvOk l q) (hv : Ints w lo1 hi1 V n vs) (hw : Ints w lo2 hi2 H m ws) (hu : Ints w lo3 hi3 V' n' us) (hx : Ints w lo4 hi4 H' m' xs) (h0 : 0 ≤ lv) (h1 : 0 ≤ lu) (hW : whB l ws = true) (hX : whB l xs = true) {g1 g2 g3 : Nat} {p : Bool} (b1 : B1 w g1 (.slice A a c0)) (b2 : B1 w g2 (.slice A' q e)) (b3 : Bl w g3 [.int .i64 lv, .slice V n c, .slice H m d, .int .i64 sm]) (hp : flB ps l (lv, vs, ws, sm) (lu, us, xs, su) = p) :
    Calls Tryz.prog 91 (#[.agg #[.int .i64 lu, .slice V' n' c', .slice H' m' d', .int .i64 su]] ++ #[.pointer (some ⟨g1, 0, none⟩), .pointer (some ⟨g2, 0, none⟩), .pointer (some ⟨g3, 0, none⟩)]) w fun e w' => e = .returned (.bool p) ∧ Keeps w w' := by
  show Calls Tryz.prog 91 #[.agg #[.int .i64 lu, .slice V' n' c', .slice H' m' d', .int .i64 su], .pointer (some ⟨g1, 0, none⟩), .pointer (some ⟨g2, 0, none⟩), .pointer (some ⟨g3, 0, none⟩)] w _
  have HP := hid hp
  clear hp
  have lt1 := b1.lt
  have lt2 := b2.lt
  have lt3 := b3.lt
  go_enter Tryz.func91, Tryz.ntmps91
  have kw := keeps_refl w
  replace b1 := b1.keeps (keeps_alloc w (.cells #[.int .i64 lu, .slice V' n' c', .slice H' m' d', .int .i64 su] 61))
  replace b2 := b2.keeps (keeps_alloc w (.cells #[.int .i64 lu, .slice V' n' c', .slice H' m' d', .int .i64 su] 61))
  replace b3 := b3.keeps (keeps_alloc w (.cells #[.int .i64 lu, .slice V' n' c', .slice H' m' d', .int .i64 su] 61))
  replace kw := Keeps.trans kw (keeps_alloc w (.cells #[.int .i64 lu, .slice V' n' c', .slice H' m' d', .int .i64 su] 61))
  have b4 : Bl (w.alloc (.cells #[.int .i64 lu, .slice V' n' c', .slice H' m' d', .int .i64 su] 61)) w.heap.size [.int .i64 lu, .slice V' n' c', .slice H' m' d', .int .i64 su] := Bl.new' (by simp) (by simp)
  obtain ⟨ca1, fa1⟩ := id b1
  obtain ⟨ca2, fa2⟩ := id b2
  have ca3_0 := (b3.2 0 _ rfl).1
  have ca3_1 := (b3.2 1 _ rfl).1
  have ca3_2 := (b3.2 2 _ rfl).1
  have ca3_3 := (b3.2 3 _ rfl).1
  have ca4_0 := (b4.2 0 _ rfl).1
  have ca4_1 := (b4.2 1 _ rfl).1
  have ca4_2 := (b4.2 2 _ rfl).1
  have ca4_3 := (b4.2 3 _ rfl).1
  go_wp2_with fail
  clear ca1 fa1 ca2 fa2 ca3_0 ca3_1 ca3_2 ca3_3 ca4_0 ca4_1 ca4_2 ca4_3
  refine (followsFrom_any (h.keeps kw) hg (h'.keeps kw) hlv (hv.keeps kw) (hw.keeps kw) (hu.keeps kw) (hx.keeps kw) h0 h1 hW hX).mono ?_
  rintro e w5 ⟨rfl, k5⟩
  rw [HP.out]
  replace b1 := b1.keeps k5
  replace b2 := b2.keeps k5
  replace b3 := b3.keeps k5
  replace b4 := b4.keeps k5
  replace kw := Keeps.trans kw k5
  have lt6 := b4.lt
  have sz7 := kw.size
  clear k5
  go_wp2_with fail
  go_ret
  exact ⟨ret_bool rfl, kw⟩
set_option maxRecDepth 100000 in
set_option maxHeartbeats 6400000 in
theorem sourceVersion_any {A A' V H R : Option Addr} {lo hi lo1 hi1 lo2 hi2 lo3 hi3 a c0 q e n c m d r cr : Nat} {un : Bool} {ps vs ws : List Int} {l : List VV} {rs : List RL} {lv sm : Int} {w : World} (h : Ints w lo hi A a ps) (h' : Sch w A' q e l) (hr : Rels true un w lo3 hi3 R r rs) (hv : Ints w lo1 hi1 V n vs) (hw : Ints w lo2 hi2 H m ws) (hh : hisB ps l rs = true) (hT : tabB ps l (lv, vs, ws, sm) = true) :
    Calls Tryz.prog 59 #[.agg #[.slice A a c0], .slice A' q e, .slice R r cr, .agg #[.int .i64 lv, .slice V n c, .slice H m d, .int .i64 sm]] w fun e w' => e = .returned (.int .i64 (svI (fvG ps l rs (lv, vs, ws, sm)) r)) ∧ Keeps w w' := by
  obtain ⟨lo9, hi9, hz⟩ := h'.v
  have hq := hz.le
  have hn := hr.le
  have HRL := hid hr.len
  have HP := hid (hisB_parts hh)
  have HLV := hid (schB_lv (Vars.len hz) HP.out.2.1).1
  have HT := hid hT
  have h0 := tab_lv hT
  have HW := hid (tabB_parts hT).2.1
  have HPL := hid (fun k (hk : k < r) => show plB ps l (rs.getD k rl0).2.1 = true from (by have h9 := (HP.out.2.2.2 k (by rw [HRL.out]; exact hk)).2; unfold relB at h9; simp only [Bool.and_eq_true] at h9; exact h9.1.2))
  clear hh hT h0
  go_enter Tryz.func59, Tryz.ntmps59
  have kw := keeps_refl w
  replace kw := Keeps.trans kw (keeps_alloc w (.cells #[.slice A a c0] 32))
  have b4 : B1 (w.alloc (.cells #[.slice A a c0] 32)) w.heap.size (.slice A a c0) := B1.new' (by simp)
  replace b4 := b4.keeps (keeps_alloc (w.alloc (.cells #[.slice A a c0] 32)) (.cells #[.slice A' q e] 34))
  replace kw := Keeps.trans kw (keeps_alloc (w.alloc (.cells #[.slice A a c0] 32)) (.cells #[.slice A' q e] 34))
  have b5 : B1 ((w.alloc (.cells #[.slice A a c0] 32)).alloc (.cells #[.slice A' q e] 34)) (w.heap.size + 1) (.slice A' q e) := B1.new' (by simp)
  replace b4 := b4.keeps (keeps_alloc ((w.alloc (.cells #[.slice A a c0] 32)).alloc (.cells #[.slice A' q e] 34)) (.cells #[.int .i64 lv, .slice V n c, .slice H m d, .int .i64 sm] 61))
  replace b5 := b5.keeps (keeps_alloc ((w.alloc (.cells #[.slice A a c0] 32)).alloc (.cells #[.slice A' q e] 34)) (.cells #[.int .i64 lv, .slice V n c, .slice H m d, .int .i64 sm] 61))
  replace kw := Keeps.trans kw (keeps_alloc ((w.alloc (.cells #[.slice A a c0] 32)).alloc (.cells #[.slice A' q e] 34)) (.cells #[.int .i64 lv, .slice V n c, .slice H m d, .int .i64 sm] 61))
  have b7 : Bl (((w.alloc (.cells #[.slice A a c0] 32)).alloc (.cells #[.slice A' q e] 34)).alloc (.cells #[.int .i64 lv, .slice V n c, .slice H m d, .int .i64 sm] 61)) (w.heap.size + 1 + 1) [.int .i64 lv, .slice V n c, .slice H m d, .int .i64 sm] := Bl.new' (by simp) (by simp)
  go_wp2_with fail
  go_loopw [13] (fun i wr => ∃ k : Nat, k ≤ r ∧ i = .int .i64 k ∧ Hid (fst (fvG ps l rs (lv, vs, ws, sm)) k = k) ∧ B1 wr w.heap.size (.slice A a c0) ∧ B1 wr (w.heap.size + 1) (.slice A' q e) ∧ Bl wr (w.heap.size + 1 + 1) [.int .i64 lv, .slice V n c, .slice H m d, .int .i64 sm] ∧ Keeps w wr) (fun i _ => r - (intOf i).toNat)
  case atStart => exact ⟨0, Nat.zero_le _, rfl, hid rfl, b4, b5, b7, kw⟩
  clear b4 b5 b7 kw
  case round =>
    obtain ⟨k, hk, rfl, HK, b4, b5, b7, kw⟩ := hrel
    by_cases hlt : k < r
    · obtain ⟨b, off, v, P, np, cp, x1, x2, x3, x4, pl, rfl, _, _, e0, e1, e2, e3, e4, e5, ht, hx⟩ := hr.at_ hlt
      have HVV := hid (show v = (k : Int) + 1 by have := (HP.out.2.2.2 k (by rw [HRL.out]; exact hlt)).1; rw [← hx.out] at this; exact this)
      have HPB := hid (show plB ps l pl = true by have := HPL.out k hlt; rw [← hx.out] at this; exact this)
      have HTL := hid ht.len
      have HGK := hid (show fvG ps l rs (lv, vs, ws, sm) k = exF (fun j => flB ps l (lv, vs, ws, sm) (pl.getD j t0)) np by unfold fvG; rw [← hx.out, ← HTL.out])
      clear hx
      have hi1 : (k : Int) < (r : Int) := by omega
      have hnp := ht.le
      have d0 := cell_keeps e0 kw
      have d1 := cell_keeps e1 kw
      have d2 := cell_keeps e2 kw
      have d3 := cell_keeps e3 kw
      have d4 := cell_keeps e4 kw
      have d5 := cell_keeps e5 kw
      have lt7 := b7.lt
      have HTJ := hid (fun (j : Nat) (hj : j < np) (lu su : Int) (us xs : List Int) (hx : Hid ((lu, us, xs, su) = pl.getD j t0)) => show tabB ps l (lu, us, xs, su) = true from (by have := (plB_at HPB.out).2 j (by rw [HTL.out]; exact hj); rw [← hx.out] at this; exact this))
      replace b4 := b4.keeps (keeps_alloc wr (.cells #[.int .i64 v, .slice P np cp, .int .i64 x1, .int .i64 x2, .int .i64 x3, .int .i64 x4] 50))
      replace b5 := b5.keeps (keeps_alloc wr (.cells #[.int .i64 v, .slice P np cp, .int .i64 x1, .int .i64 x2, .int .i64 x3, .int .i64 x4] 50))
      replace b7 := b7.keeps (keeps_alloc wr (.cells #[.int .i64 v, .slice P np cp, .int .i64 x1, .int .i64 x2, .int .i64 x3, .int .i64 x4] 50))
      replace kw := Keeps.trans kw (keeps_alloc wr (.cells #[.int .i64 v, .slice P np cp, .int .i64 x1, .int .i64 x2, .int .i64 x3, .int .i64 x4] 50))
      have b10 : Bl (wr.alloc (.cells #[.int .i64 v, .slice P np cp, .int .i64 x1, .int .i64 x2, .int .i64 x3, .int .i64 x4] 50)) wr.heap.size [.int .i64 v, .slice P np cp, .int .i64 x1, .int .i64 x2, .int .i64 x3, .int .i64 x4] := Bl.new' (by simp) (by simp)
      have ca1_0 := (b10.2 0 _ rfl).1
      have ca1_1 := (b10.2 1 _ rfl).1
      have ca1_2 := (b10.2 2 _ rfl).1
      have ca1_3 := (b10.2 3 _ rfl).1
      have ca1_4 := (b10.2 4 _ rfl).1
      have ca1_5 := (b10.2 5 _ rfl).1
      go_wp2_with fail
      clear ca1_0 ca1_1 ca1_2 ca1_3 ca1_4 ca1_5
      clear d0 d1 d2 d3 d4 d5 e0 e1 e2 e3 e4 e5
      have HCL := hid (fun (j : Nat) (w' : World) (lu su : Int) (V' H' : Option Addr) (nv cv nh ch : Nat) (us xs : List Int) (hj : j < np) (kk : Keeps (wr.alloc (.cells #[.int .i64 v, .slice P np cp, .int .i64 x1, .int .i64 x2, .int .i64 x3, .int .i64 x4] 50)) w') (gv : Ints w' lo3 hi3 V' nv us) (gh : Ints w' lo3 hi3 H' nh xs) (hx : Hid ((lu, us, xs, su) = pl.getD j t0)) => svClosure (p := flB ps l (lv, vs, ws, sm) (pl.getD j t0)) (c' := cv) (d' := ch) (c := c) (d := d) (c0 := c0) (e := e) (h.keeps (Keeps.trans kw kk)) HP.out.1 (h'.keeps (Keeps.trans kw kk)) HLV.out (hv.keeps (Keeps.trans kw kk)) (hw.keeps (Keeps.trans kw kk)) gv gh (tab_lv HT.out) (tab_lv (HTJ.out j hj lu su us xs hx)) HW.out (tabB_parts (HTJ.out j hj lu su us xs hx)).2.1 (b4.keeps kk) (b5.keeps kk) (b7.keeps kk) (congrArg (flB ps l (lv, vs, ws, sm)) hx.out))
      refine (containsFuncT_any (c := cp) (n := np) (K := 91) (G := fun j => flB ps l (lv, vs, ws, sm) (pl.getD j t0)) (ht.keeps kw) (fun args w => enterF_of Tryz.func91 (by kernel_rfl) rfl args w) HCL.out).mono ?_
      rintro e w2 ⟨rfl, k2⟩
      rw [← HGK.out]
      replace b4 := b4.keeps k2
      replace b5 := b5.keeps k2
      replace b7 := b7.keeps k2
      replace b10 := b10.keeps k2
      replace kw := Keeps.trans kw k2
      have lt3 := b10.lt
      have sz4 := kw.size
      clear k2
      clear HCL
      obtain ⟨p, HPP⟩ : ∃ p, Hid (fvG ps l rs (lv, vs, ws, sm) k = p) := ⟨_, rfl⟩
      rw [HPP.out]
      cases p
      · have HN := hid (fst_no HK.out HPP.out)
        clear b10
        go_wp2_with fail
        go_roundw
        case rel => exact ⟨k + 1, by omega, by go_num, HN, b4, b5, b7, kw⟩
        case measure => simp [intOf]; omega
      have HX := hid ((svI_yes HK.out HPP.out hlt).trans HVV.out.symm)
      have ca5_0 := (b10.2 0 _ rfl).1
      have ca5_1 := (b10.2 1 _ rfl).1
      have ca5_2 := (b10.2 2 _ rfl).1
      have ca5_3 := (b10.2 3 _ rfl).1
      have ca5_4 := (b10.2 4 _ rfl).1
      have ca5_5 := (b10.2 5 _ rfl).1
      go_wp2_with fail
      clear ca5_0 ca5_1 ca5_2 ca5_3 ca5_4 ca5_5
      go_ret
      exact ⟨ret_int HX.out.symm, kw⟩
    · obtain rfl : r = k := by omega
      have HX := hid (svI_no HK.out)
      go_wp2
      go_ret
      exact ⟨ret_int HX.out.symm, kw⟩
set_option maxRecDepth 100000 in
set_option maxHeartbeats 6400000 in
theorem rlFirst_any {A A' V H R : Option Addr} {lo hi lo1 hi1 lo2 hi2 lo3 hi3 a c0 q e n c m d r cr : Nat} {un : Bool} {ps vs ws : List Int} {l : List VV} {rs : List RL} {lv sm : Int} {w : World} (h : Ints w lo hi A a ps) (h' : Sch w A' q e l) (hr : Rels true un w lo3 hi3 R r rs) (hv : Ints w lo1 hi1 V n vs) (hw : Ints w lo2 hi2 H m ws) (hh : hisB ps l rs = true) (hT : tabB ps l (lv, vs, ws, sm) = true) :
    Calls Tryz.prog 61 #[.agg #[.slice A a c0], .slice A' q e, .slice R r cr, .agg #[.int .i64 lv, .slice V n c, .slice H m d, .int .i64 sm]] w fun e w' => e = .returned (.int .i64 (ixF (fvG ps l rs (lv, vs, ws, sm)) r)) ∧ Keeps w w' := by
  obtain ⟨lo9, hi9, hz⟩ := h'.v
  have hq := hz.le
  have hn := hr.le
  have HRL := hid hr.len
  have HP := hid (hisB_parts hh)
  have HLV := hid (schB_lv (Vars.len hz) HP.out.2.1).1
  have HT := hid hT
  have h0 := tab_lv hT
  have HW := hid (tabB_parts hT).2.1
  have HPL := hid (fun k (hk : k < r) => show plB ps l (rs.getD k rl0).2.1 = true from (by have h9 := (HP.out.2.2.2 k (by rw [HRL.out]; exact hk)).2; unfold relB at h9; simp only [Bool.and_eq_true] at h9; exact h9.1.2))
  clear hh hT h0
  go_enter Tryz.func61, Tryz.ntmps61
  have kw := keeps_refl w
  replace kw := Keeps.trans kw (keeps_alloc w (.cells #[.slice A a c0] 32))
  have b4 : B1 (w.alloc (.cells #[.slice A a c0] 32)) w.heap.size (.slice A a c0) := B1.new' (by simp)
  replace b4 := b4.keeps (keeps_alloc (w.alloc (.cells #[.slice A a c0] 32)) (.cells #[.int .i64 lv, .slice V n c, .slice H m d, .int .i64 sm] 61))
  replace kw := Keeps.trans kw (keeps_alloc (w.alloc (.cells #[.slice A a c0] 32)) (.cells #[.int .i64 lv, .slice V n c, .slice H m d, .int .i64 sm] 61))
  have b7 : Bl ((w.alloc (.cells #[.slice A a c0] 32)).alloc (.cells #[.int .i64 lv, .slice V n c, .slice H m d, .int .i64 sm] 61)) (w.heap.size + 1) [.int .i64 lv, .slice V n c, .slice H m d, .int .i64 sm] := Bl.new' (by simp) (by simp)
  go_wp2_with fail
  go_loopw [15] (fun i wr => ∃ k : Nat, k ≤ r ∧ i = .int .i64 k ∧ Hid (fst (fvG ps l rs (lv, vs, ws, sm)) k = k) ∧ B1 wr w.heap.size (.slice A a c0) ∧ Bl wr (w.heap.size + 1) [.int .i64 lv, .slice V n c, .slice H m d, .int .i64 sm] ∧ Keeps w wr) (fun i _ => r - (intOf i).toNat)
  case atStart => exact ⟨0, Nat.zero_le _, rfl, hid rfl, b4, b7, kw⟩
  clear b4 b7 kw
  case round =>
    obtain ⟨k, hk, rfl, HK, b4, b7, kw⟩ := hrel
    by_cases hlt : k < r
    · obtain ⟨wq, rfl⟩ : ∃ u : World, u = wr := ⟨_, rfl⟩
      obtain ⟨b, off, v, P, np, cp, x1, x2, x3, x4, pl, rfl, _, _, e0, e1, e2, e3, e4, e5, ht, hx⟩ := hr.at_ hlt
      have HVV := hid (show v = (k : Int) + 1 by have := (HP.out.2.2.2 k (by rw [HRL.out]; exact hlt)).1; rw [← hx.out] at this; exact this)
      have HPB := hid (show plB ps l pl = true by have := HPL.out k hlt; rw [← hx.out] at this; exact this)
      have HTL := hid ht.len
      have HGK := hid (show fvG ps l rs (lv, vs, ws, sm) k = exF (fun j => flB ps l (lv, vs, ws, sm) (pl.getD j t0)) np by unfold fvG; rw [← hx.out, ← HTL.out])
      clear hx
      have hi1 : (k : Int) < (r : Int) := by omega
      have hnp := ht.le
      have d0 := cell_keeps e0 kw
      have d1 := cell_keeps e1 kw
      have d2 := cell_keeps e2 kw
      have d3 := cell_keeps e3 kw
      have d4 := cell_keeps e4 kw
      have d5 := cell_keeps e5 kw
      have lt7 := b7.lt
      replace b4 := b4.keeps (keeps_alloc wq (.cells #[.int .i64 v, .slice P np cp, .int .i64 x1, .int .i64 x2, .int .i64 x3, .int .i64 x4] 50))
      replace b7 := b7.keeps (keeps_alloc wq (.cells #[.int .i64 v, .slice P np cp, .int .i64 x1, .int .i64 x2, .int .i64 x3, .int .i64 x4] 50))
      replace kw := Keeps.trans kw (keeps_alloc wq (.cells #[.int .i64 v, .slice P np cp, .int .i64 x1, .int .i64 x2, .int .i64 x3, .int .i64 x4] 50))
      have b10 : Bl (wq.alloc (.cells #[.int .i64 v, .slice P np cp, .int .i64 x1, .int .i64 x2, .int .i64 x3, .int .i64 x4] 50)) wq.heap.size [.int .i64 v, .slice P np cp, .int .i64 x1, .int .i64 x2, .int .i64 x3, .int .i64 x4] := Bl.new' (by simp) (by simp)
      have ca1_0 := (b10.2 0 _ rfl).1
      have ca1_1 := (b10.2 1 _ rfl).1
      have ca1_2 := (b10.2 2 _ rfl).1
      have ca1_3 := (b10.2 3 _ rfl).1
      have ca1_4 := (b10.2 4 _ rfl).1
      have ca1_5 := (b10.2 5 _ rfl).1
      go_wp2_with fail
      clear ca1_0 ca1_1 ca1_2 ca1_3 ca1_4 ca1_5
      clear d0 d1 d2 d3 d4 d5 e0 e1 e2 e3 e4 e5
      go_loopw [23] (fun i wr => ∃ j : Nat, j ≤ np ∧ i = .int .i64 j ∧ Hid (fst (fun j => flB ps l (lv, vs, ws, sm) (pl.getD j t0)) j = j) ∧ B1 wr w.heap.size (.slice A a c0) ∧ Bl wr (w.heap.size + 1) [.int .i64 lv, .slice V n c, .slice H m d, .int .i64 sm] ∧ Keeps w wr) (fun i _ => np - (intOf i).toNat)
      case atStart => exact ⟨0, Nat.zero_le _, rfl, hid rfl, b4, b7, kw⟩
      clear b4 b7 b10 kw
      case round =>
        obtain ⟨j, hj, rfl, HJ, b4, b7, kw⟩ := hrel
        by_cases hjt : j < np
        · obtain ⟨b', off', lu, V', n', c', H', m', d', su, us, xs, rfl, _, _, e0, e1, e2, e3, gv, gh, hx⟩ := ht.at_ hjt
          have HTB := hid (show tabB ps l (lu, us, xs, su) = true by have := (plB_at HPB.out).2 j (by rw [HTL.out]; exact hjt); rw [← hx.out] at this; exact this)
          obtain ⟨p, HPP⟩ : ∃ p, Hid (flB ps l (lv, vs, ws, sm) (lu, us, xs, su) = p) := ⟨_, rfl⟩
          have HPJ := hid (show flB ps l (lv, vs, ws, sm) (pl.getD j t0) = p by rw [← hx.out]; exact HPP.out)
          clear hx
          have hj1 : (j : Int) < (np : Int) := by omega
          have d0 := cell_keeps e0 kw
          have d1 := cell_keeps e1 kw
          have d2 := cell_keeps e2 kw
          have d3 := cell_keeps e3 kw
          have lt7 := b7.lt
          replace b4 := b4.keeps (keeps_alloc wr (.cells #[.int .i64 lu, .slice V' n' c', .slice H' m' d', .int .i64 su] 61))
          replace b7 := b7.keeps (keeps_alloc wr (.cells #[.int .i64 lu, .slice V' n' c', .slice H' m' d', .int .i64 su] 61))
          replace kw := Keeps.trans kw (keeps_alloc wr (.cells #[.int .i64 lu, .slice V' n' c', .slice H' m' d', .int .i64 su] 61))
          have b12 : Bl (wr.alloc (.cells #[.int .i64 lu, .slice V' n' c', .slice H' m' d', .int .i64 su] 61)) wr.heap.size [.int .i64 lu, .slice V' n' c', .slice H' m' d', .int .i64 su] := Bl.new' (by simp) (by simp)
          obtain ⟨ca2, fa2⟩ := id b4
          have ca3_0 := (b7.2 0 _ rfl).1
          have ca3_1 := (b7.2 1 _ rfl).1
          have ca3_2 := (b7.2 2 _ rfl).1
          have ca3_3 := (b7.2 3 _ rfl).1
          have ca4_0 := (b12.2 0 _ rfl).1
          have ca4_1 := (b12.2 1 _ rfl).1
          have ca4_2 := (b12.2 2 _ rfl).1
          have ca4_3 := (b12.2 3 _ rfl).1
          go_wp2_with fail
          clear ca2 fa2 ca3_0 ca3_1 ca3_2 ca3_3 ca4_0 ca4_1 ca4_2 ca4_3
          clear d0 d1 d2 d3 e0 e1 e2 e3
          refine (lFollows_any (h.keeps kw) HP.out.1 (h'.keeps kw) HLV.out (hv.keeps kw) (hw.keeps kw) (gv.keeps kw) (gh.keeps kw) (tab_lv HT.out) (tab_lv HTB.out) HW.out (tabB_parts HTB.out).2.1).mono ?_
          rintro e w5 ⟨rfl, k5⟩
          rw [HPP.out]
          replace b4 := b4.keeps k5
          replace b7 := b7.keeps k5
          replace b12 := b12.keeps k5
          replace kw := Keeps.trans kw k5
          have lt6 := b12.lt
          have sz7 := kw.size
          clear k5
          clear b12
          cases p
          · have HN := hid (fst_no HJ.out HPJ.out)
            go_wp2_with fail
            go_roundw
            case rel => exact ⟨j + 1, by omega, by go_num, HN, b4, b7, kw⟩
            case measure => simp [intOf]; omega
          have HX := hid (ixF_yes HK.out (HGK.out.trans (exF_yes HJ.out HPJ.out hjt)) hlt)
          go_wp2_with fail
          go_ret
          exact ⟨ret_int HX.out.symm, kw⟩
        · obtain rfl : np = j := by omega
          have HN := hid (fst_no HK.out (HGK.out.trans (exF_no HJ.out)))
          go_wp2
          go_roundw
          case rel => exact ⟨k + 1, by omega, by go_num, HN, b4, b7, kw⟩
          case measure => simp [intOf]; omega
    · obtain rfl : r = k := by omega
      have HX := hid (ixF_no HK.out)
      go_wp2
      go_ret
      exact ⟨ret_int HX.out.symm, kw⟩
set_option maxRecDepth 100000 in
set_option maxHeartbeats 3200000 in
theorem implFirstVersionOf_gen {A A' R V H : Option Addr} {lo hi a c0 lo1 hi1 lo2 hi2 lo3 hi3 n q m d r c cq cr : Nat} {un : Bool} {ps vs ws : List Int} {l : List VV} {rs : List RL} {lv sm : Int} {w : World} (h : Ints w lo hi A a ps) (h' : Sch w A' q cq l) (hr : Rels true un w lo3 hi3 R r rs) (hv : Ints w lo1 hi1 V n vs) (hw : Ints w lo2 hi2 H m ws) :
    Calls Tryz.prog 24 #[.agg #[.slice A a c0], .slice A' q cq, .slice R r cr, .agg #[.int .i64 lv, .slice V n c, .slice H m d, .int .i64 sm]] w fun e w' => e = .returned (.tuple #[.int .i64 (fvQ ps l rs (lv, vs, ws, sm)).1, .bool (fvQ ps l rs (lv, vs, ws, sm)).2]) ∧ Keeps w w' := by
  obtain ⟨_, _, hz⟩ := h'.v
  have hq := hz.le
  have hn := hr.le
  have HRL := hid hr.len
  obtain ⟨q0, q1, HQ⟩ : ∃ q0 q1, Hid (fvQ ps l rs (lv, vs, ws, sm) = (q0, q1)) := ⟨_, _, rfl⟩
  rw [HQ.out]
  go_enter Tryz.func24, Tryz.ntmps24
  have kw := keeps_refl w
  replace kw := Keeps.trans kw (keeps_alloc w (.cells #[.slice A a c0] 32))
  have b4 : B1 (w.alloc (.cells #[.slice A a c0] 32)) w.heap.size (.slice A a c0) := B1.new' (by simp)
  replace b4 := b4.keeps (keeps_alloc (w.alloc (.cells #[.slice A a c0] 32)) (.cells #[.int .i64 lv, .slice V n c, .slice H m d, .int .i64 sm] 61))
  replace kw := Keeps.trans kw (keeps_alloc (w.alloc (.cells #[.slice A a c0] 32)) (.cells #[.int .i64 lv, .slice V n c, .slice H m d, .int .i64 sm] 61))
  have b7 : Bl ((w.alloc (.cells #[.slice A a c0] 32)).alloc (.cells #[.int .i64 lv, .slice V n c, .slice H m d, .int .i64 sm] 61)) (w.heap.size + 1) [.int .i64 lv, .slice V n c, .slice H m d, .int .i64 sm] := Bl.new' (by simp) (by simp)
  obtain ⟨ca1, fa1⟩ := id b4
  have ca2_0 := (b7.2 0 _ rfl).1
  have ca2_1 := (b7.2 1 _ rfl).1
  have ca2_2 := (b7.2 2 _ rfl).1
  have ca2_3 := (b7.2 3 _ rfl).1
  go_wp2_with fail
  clear ca1 fa1 ca2_0 ca2_1 ca2_2 ca2_3
  obtain ⟨pHH, HH⟩ : ∃ pB, Hid (hisB ps l rs = pB) := ⟨_, rfl⟩
  refine (isHistory_any (h.keeps kw) (h'.keeps kw) (hr.keeps kw)).mono ?_
  rintro e w3 ⟨rfl, k3⟩
  rw [HH.out]
  replace b4 := b4.keeps k3
  replace b7 := b7.keeps k3
  replace kw := Keeps.trans kw k3
  have lt4 := b7.lt
  have sz5 := kw.size
  clear k3
  cases pHH
  · obtain ⟨e0, e1⟩ : q0 = 0 ∧ q1 = false := by have := HQ.out.symm.trans (fvQ_no (by rw [HH.out]; rfl)); injection this with a b; exact ⟨a, b⟩
    subst e0 e1
    obtain ⟨ca6, fa6⟩ := id b4
    have ca7_0 := (b7.2 0 _ rfl).1
    have ca7_1 := (b7.2 1 _ rfl).1
    have ca7_2 := (b7.2 2 _ rfl).1
    have ca7_3 := (b7.2 3 _ rfl).1
    go_wp2_with fail
    clear ca6 fa6 ca7_0 ca7_1 ca7_2 ca7_3
    go_ret2
    exact ⟨rfl, kw⟩
  · skip
    obtain ⟨ca6, fa6⟩ := id b4
    have ca7_0 := (b7.2 0 _ rfl).1
    have ca7_1 := (b7.2 1 _ rfl).1
    have ca7_2 := (b7.2 2 _ rfl).1
    have ca7_3 := (b7.2 3 _ rfl).1
    go_wp2_with fail
    clear ca6 fa6 ca7_0 ca7_1 ca7_2 ca7_3
    have HGS := hid (hisB_parts HH.out)
    obtain ⟨pHB, HB⟩ : ∃ pB, Hid (tabB ps l (lv, vs, ws, sm) = pB) := ⟨_, rfl⟩
    refine (isTable_any (h.keeps kw) (h'.keeps kw) (hv.keeps kw) (hw.keeps kw) HGS.out.1 HGS.out.2.1).mono ?_
    rintro e w8 ⟨rfl, k8⟩
    rw [HB.out]
    replace b4 := b4.keeps k8
    replace b7 := b7.keeps k8
    replace kw := Keeps.trans kw k8
    have lt9 := b7.lt
    have sz10 := kw.size
    clear k8
    cases pHB
    · obtain ⟨e0, e1⟩ : q0 = 0 ∧ q1 = false := by have := HQ.out.symm.trans (fvQ_no (by rw [HH.out, HB.out]; rfl)); injection this with a b; exact ⟨a, b⟩
      subst e0 e1
      obtain ⟨ca11, fa11⟩ := id b4
      have ca12_0 := (b7.2 0 _ rfl).1
      have ca12_1 := (b7.2 1 _ rfl).1
      have ca12_2 := (b7.2 2 _ rfl).1
      have ca12_3 := (b7.2 3 _ rfl).1
      go_wp2_with fail
      clear ca11 fa11 ca12_0 ca12_1 ca12_2 ca12_3
      go_ret2
      exact ⟨rfl, kw⟩
    · skip
      obtain ⟨e0, e1⟩ : q0 = svI (fvG ps l rs (lv, vs, ws, sm)) r ∧ q1 = exF (fvG ps l rs (lv, vs, ws, sm)) r := by have := HQ.out.symm.trans (fvQ_yes HRL.out HH.out HB.out); injection this with a b; exact ⟨a, b⟩
      have HE0 := hid e0
      have HE1 := hid e1
      clear e0 e1
      obtain ⟨ca11, fa11⟩ := id b4
      have ca12_0 := (b7.2 0 _ rfl).1
      have ca12_1 := (b7.2 1 _ rfl).1
      have ca12_2 := (b7.2 2 _ rfl).1
      have ca12_3 := (b7.2 3 _ rfl).1
      go_wp2_with fail
      clear ca11 fa11 ca12_0 ca12_1 ca12_2 ca12_3
      refine (sourceVersion_any (h.keeps kw) (h'.keeps kw) (hr.keeps kw) (hv.keeps kw) (hw.keeps kw) HH.out HB.out).mono ?_
      rintro e w13 ⟨rfl, k13⟩
      replace b4 := b4.keeps k13
      replace b7 := b7.keeps k13
      replace kw := Keeps.trans kw k13
      have lt14 := b7.lt
      have sz15 := kw.size
      clear k13
      obtain ⟨N, HN⟩ : ∃ N, Hid (fst (fvG ps l rs (lv, vs, ws, sm)) r = N) := ⟨_, rfl⟩
      have hNr : N ≤ r := by rw [← HN.out]; exact fst_le _ _
      cases q1
      · have HZ := hid (HE0.out.trans (svI_f HE1.out.symm))
        obtain rfl := HZ.out
        rw [svI_f HE1.out.symm]
        go_wp2_with fail
        go_ret2
        exact ⟨rfl, kw⟩
      have HZ := hid (HE0.out.trans (svI_t HE1.out.symm))
      rw [HN.out] at HZ
      obtain rfl := HZ.out
      have hNl : N < r := by rw [← HN.out]; exact exF_lt HE1.out.symm
      rw [svI_t HE1.out.symm, HN.out]
      have ge : (0 : Int) < (N : Int) + 1 := by omega
      go_wp2_with fail
      go_ret2
      exact ⟨rfl, kw⟩
end Go.Proofs.YtlkjhkkfdmjfcaaGreatDoor
namespace Go.Proofs.YtlkjhkkfdmjfcaaGreatDoor
open Go.RowKit Go.Sort
set_option linter.unusedVariables false
set_option linter.unusedSimpArgs false
theorem fr_belowN {B : Nat} {w w' : World} (k : Below B w w') : Fr B w.heap.size w w' := ⟨k.os, k.tape, k.output, k.size, fun i hi ho => k.block i (by omega)⟩
/-- The numbers below k where g fails. -/
def ntTo (g : Nat → Bool) : Nat → List Int
  | 0 => []
  | k + 1 => if g k then ntTo g k else ntTo g k ++ [(k : Int)]
theorem ntTo_len (g : Nat → Bool) : ∀ k, (ntTo g k).length ≤ k
  | 0 => Nat.le_refl _
  | k + 1 => by
    have := ntTo_len g k
    unfold ntTo; split
    · omega
    · rw [List.length_append]; simp; omega
theorem ntTo_yes {g : Nat → Bool} {k : Nat} (h : g k = true) : ntTo g (k + 1) = ntTo g k := by show (if g k then ntTo g k else ntTo g k ++ [(k : Int)]) = _; rw [h]; rfl
theorem ntTo_no {g : Nat → Bool} {k : Nat} (h : g k = false) : ntTo g (k + 1) = ntTo g k ++ [(k : Int)] := by show (if g k then ntTo g k else ntTo g k ++ [(k : Int)]) = _; rw [h]; rfl
def ntG (ps : List Int) (l : List VV) (rs : List RL) (ts : List TT) (n : Nat) (i : Nat) : Bool := exF (fvG ps l rs (ts.getD i t0)) n
def ntQ (ps : List Int) (l : List VV) (rs : List RL) (ts : List TT) : List Int × Bool :=
  if hisB ps l rs && plB ps l ts then (ntTo (ntG ps l rs ts rs.length) ts.length, true) else ([], false)
theorem ntQ_no {ps : List Int} {l : List VV} {rs : List RL} {ts : List TT} (h : (hisB ps l rs && plB ps l ts) = false) : ntQ ps l rs ts = ([], false) := by unfold ntQ; rw [h]; rfl
theorem ntQ_yes {ps : List Int} {l : List VV} {rs : List RL} {ts : List TT} {r n : Nat} (hr : rs.length = r) (hl : ts.length = n) (h : hisB ps l rs = true) (h1 : plB ps l ts = true) : ntQ ps l rs ts = (ntTo (ntG ps l rs ts r) n, true) := by unfold ntQ; rw [h, h1, hl, hr]; rfl
set_option maxRecDepth 100000 in
set_option maxHeartbeats 6400000 in
theorem implNewTables_gen {A A' R Q : Option Addr} {lo hi a c0 lo3 hi3 lo4 hi4 k9 q r cq cr ck : Nat} {un un' : Bool} {ps : List Int} {l : List VV} {rs : List RL} {ts : List TT} {w : World} (h : Ints w lo hi A a ps) (h' : Sch w A' q cq l) (hr : Rels true un w lo3 hi3 R r rs) (ht : Tabs true un' w lo4 hi4 Q k9 ts) :
    Calls Tryz.prog 22 #[.agg #[.slice A a c0], .slice A' q cq, .slice R r cr, .slice Q k9 ck] w fun e w' => ∃ A1 N1 C1, e = .returned (.tuple #[.slice A1 N1 C1, .bool (ntQ ps l rs ts).2]) ∧ Mine w' w.heap.size w'.heap.size A1 N1 (ntQ ps l rs ts).1 ∧ Keeps w w' := by
  obtain ⟨_, _, hz⟩ := h'.v
  have hq := hz.le
  have hn := hr.le
  have hk9 := ht.le
  have HRL := hid hr.len
  have HTL := hid ht.len
  obtain ⟨q0, q1, HQ⟩ : ∃ q0 q1, Hid (ntQ ps l rs ts = (q0, q1)) := ⟨_, _, rfl⟩
  rw [HQ.out]
  go_enter Tryz.func22, Tryz.ntmps22
  have kw := keeps_refl w
  replace kw := Keeps.trans kw (keeps_alloc w (.cells #[.slice A a c0] 32))
  have b4 : B1 (w.alloc (.cells #[.slice A a c0] 32)) w.heap.size (.slice A a c0) := B1.new' (by simp)
  obtain ⟨ca1, fa1⟩ := id b4
  go_wp2_with fail
  clear ca1 fa1
  obtain ⟨pHH, HH⟩ : ∃ pB, Hid (hisB ps l rs = pB) := ⟨_, rfl⟩
  refine (isHistory_any (h.keeps kw) (h'.keeps kw) (hr.keeps kw)).mono ?_
  rintro e w2 ⟨rfl, k2⟩
  rw [HH.out]
  replace b4 := b4.keeps k2
  replace kw := Keeps.trans kw k2
  have lt3 := b4.lt
  have sz4 := kw.size
  clear k2
  cases pHH
  · obtain ⟨e0, e1⟩ : q0 = [] ∧ q1 = false := by have := HQ.out.symm.trans (ntQ_no (by rw [HH.out]; rfl)); injection this with a b; exact ⟨a, b⟩
    subst e0 e1
    obtain ⟨ca5, fa5⟩ := id b4
    go_wp2_with fail
    clear ca5 fa5
    go_ret2
    exact ⟨none, 0, 0, rfl, Mine.nil_ _ _, kw⟩
  · skip
    obtain ⟨ca5, fa5⟩ := id b4
    go_wp2_with fail
    clear ca5 fa5
    have HGS := hid (hisB_parts HH.out)
    obtain ⟨pHB, HB⟩ : ∃ pB, Hid (plB ps l ts = pB) := ⟨_, rfl⟩
    refine (isPlan_any (h.keeps kw) (h'.keeps kw) (ht.keeps kw) HGS.out.1 HGS.out.2.1).mono ?_
    rintro e w6 ⟨rfl, k6⟩
    rw [HB.out]
    replace b4 := b4.keeps k6
    replace kw := Keeps.trans kw k6
    have lt7 := b4.lt
    have sz8 := kw.size
    clear k6
    cases pHB
    · obtain ⟨e0, e1⟩ : q0 = [] ∧ q1 = false := by have := HQ.out.symm.trans (ntQ_no (by rw [HH.out, HB.out]; rfl)); injection this with a b; exact ⟨a, b⟩
      subst e0 e1
      obtain ⟨ca9, fa9⟩ := id b4
      go_wp2_with fail
      clear ca9 fa9
      go_ret2
      exact ⟨none, 0, 0, rfl, Mine.nil_ _ _, kw⟩
    · skip
      obtain ⟨e0, e1⟩ : q0 = ntTo (ntG ps l rs ts r) k9 ∧ q1 = true := by have := HQ.out.symm.trans (ntQ_yes HRL.out HTL.out HH.out HB.out); injection this with a b; exact ⟨a, b⟩
      subst e0 e1
      have HPB := hid (plB_at HB.out).2
      obtain ⟨ca9, fa9⟩ := id b4
      go_wp2_with fail
      clear ca9 fa9
      have sz0 := b4.lt
      go_loopw [10, 27] (fun v i wr => ∃ k : Nat, k ≤ k9 ∧ i = .int .i64 k ∧ Has wr (w.heap.size + 1) 3 1 v (ntTo (ntG ps l rs ts r) k).length ((ntTo (ntG ps l rs ts r) k).map (Value.int .i64)) ∧ B1 wr w.heap.size (.slice A a c0) ∧ Keeps w wr) (fun _ i _ => k9 - (intOf i).toNat)
      case atStart => exact ⟨0, Nat.zero_le _, rfl, World.ownsRow_nil _ _ _ _, b4, kw⟩
      clear b4 kw
      case round =>
        obtain ⟨k, hk, rfl, hown, b4, kw⟩ := hrel
        have hkl := ntTo_len (ntG ps l rs ts r) k
        by_cases hlt : k < k9
        · obtain ⟨b', off', lu, V', n', c', H', m', d', su, us, xs, rfl, _, _, e0, e1, e2, e3, gv, gh, hx⟩ := ht.at_ hlt
          have HTB := hid (show tabB ps l (lu, us, xs, su) = true by have := HPB.out k (by rw [HTL.out]; exact hlt); rw [← hx.out] at this; exact this)
          have HGK := hid (show ntG ps l rs ts r k = exF (fvG ps l rs (lu, us, xs, su)) r by unfold ntG; rw [← hx.out])
          clear hx
          have hj1 : (k : Int) < (k9 : Int) := by omega
          have d0 := cell_keeps e0 kw
          have d1 := cell_keeps e1 kw
          have d2 := cell_keeps e2 kw
          have d3 := cell_keeps e3 kw
          have lt4 := b4.lt
          replace b4 := b4.keeps (keeps_alloc wr (.cells #[.int .i64 lu, .slice V' n' c', .slice H' m' d', .int .i64 su] 61))
          replace hown := hown.keeps (keeps_alloc wr (.cells #[.int .i64 lu, .slice V' n' c', .slice H' m' d', .int .i64 su] 61))
          replace kw := Keeps.trans kw (keeps_alloc wr (.cells #[.int .i64 lu, .slice V' n' c', .slice H' m' d', .int .i64 su] 61))
          have b12 : Bl (wr.alloc (.cells #[.int .i64 lu, .slice V' n' c', .slice H' m' d', .int .i64 su] 61)) wr.heap.size [.int .i64 lu, .slice V' n' c', .slice H' m' d', .int .i64 su] := Bl.new' (by simp) (by simp)
          obtain ⟨ca10, fa10⟩ := id b4
          have ca11_0 := (b12.2 0 _ rfl).1
          have ca11_1 := (b12.2 1 _ rfl).1
          have ca11_2 := (b12.2 2 _ rfl).1
          have ca11_3 := (b12.2 3 _ rfl).1
          go_wp2_with fail
          clear ca10 fa10 ca11_0 ca11_1 ca11_2 ca11_3
          clear d0 d1 d2 d3 e0 e1 e2 e3
          refine (sourceVersion_any (h.keeps kw) (h'.keeps kw) (hr.keeps kw) (gv.keeps kw) (gh.keeps kw) HH.out HTB.out).mono ?_
          rintro e w12 ⟨rfl, k12⟩
          replace b4 := b4.keeps k12
          replace b12 := b12.keeps k12
          replace hown := hown.keeps k12
          replace kw := Keeps.trans kw k12
          have lt13 := b12.lt
          have sz14 := kw.size
          clear k12
          clear b12
          obtain ⟨N, HN⟩ : ∃ N, Hid (fst (fvG ps l rs (lu, us, xs, su)) r = N) := ⟨_, rfl⟩
          have hNr : N ≤ r := by rw [← HN.out]; exact fst_le _ _
          have lt5 := b4.lt
          obtain ⟨p, HPP⟩ : ∃ p, Hid (exF (fvG ps l rs (lu, us, xs, su)) r = p) := ⟨_, rfl⟩
          cases p
          · have HT := hid (ntTo_no (HGK.out.trans HPP.out))
            rw [svI_f HPP.out]
            go_wp2_with (at_builtin; refine append_int (xs := ntTo (ntG ps l rs ts r) k) hown (by omega) (by omega) _ _ rfl rfl rfl (by first | rfl | (simp <;> rfl)) ?_; intro v' w' hown' hb')
            have H1 := hid hown'
            rw [show (ntTo (ntG ps l rs ts r) k).length + 1 = (ntTo (ntG ps l rs ts r) k ++ [(k : Int)]).length by simp, ← HT.out] at H1
            have H2 := hid (Below.trans kw (hb'.mono (by omega)))
            have H3 := hid (b4.fr (fr_belowN hb') (by omega))
            clear hown' hb' kw hown b4
            go_wp2
            go_roundw
            case rel => exact ⟨k + 1, by omega, by go_num, H1.out, H3.out, H2.out⟩
            case measure => simp [intOf]; omega
          have HT := hid (ntTo_yes (HGK.out.trans HPP.out))
          have H1 := hid hown
          rw [← HT.out] at H1
          clear hown
          rw [svI_t HPP.out, HN.out]
          have ge : ((N : Int) + 1 == 0) = false := by rw [beq_eq_false_iff_ne]; omega
          go_wp2_with fail
          go_roundw
          case rel => exact ⟨k + 1, by omega, by go_num, H1.out, b4, kw⟩
          case measure => simp [intOf]; omega
        · obtain rfl : k9 = k := by omega
          obtain ⟨A1, C1, rfl⟩ := hown.form
          have sz9 := b4.lt
          have HM := hid ((Mine.of_own hown (by omega)).widen (lo' := w.heap.size) (by omega) (Nat.le_refl _) (Nat.le_refl _))
          clear hown
          go_wp2
          go_ret2
          exact ⟨A1, _, C1, rfl, HM.out, kw⟩
set_option maxRecDepth 100000 in
set_option maxHeartbeats 6400000 in
theorem specNewTables_gen {A A' R Q : Option Addr} {lo hi a c0 lo3 hi3 lo4 hi4 k9 q r cq cr ck : Nat} {un un' : Bool} {ps : List Int} {l : List VV} {rs : List RL} {ts : List TT} {w : World} (h : Ints w lo hi A a ps) (h' : Sch w A' q cq l) (hr : Rels true un w lo3 hi3 R r rs) (ht : Tabs true un' w lo4 hi4 Q k9 ts) :
    Calls Tryz.prog 23 #[.agg #[.slice A a c0], .slice A' q cq, .slice R r cr, .slice Q k9 ck] w fun e w' => ∃ A1 N1 C1, e = .returned (.tuple #[.slice A1 N1 C1, .bool (ntQ ps l rs ts).2]) ∧ Mine w' w.heap.size w'.heap.size A1 N1 (ntQ ps l rs ts).1 ∧ Keeps w w' := by
  obtain ⟨_, _, hz⟩ := h'.v
  have hq := hz.le
  have hn := hr.le
  have hk9 := ht.le
  have HRL := hid hr.len
  have HTL := hid ht.len
  obtain ⟨q0, q1, HQ⟩ : ∃ q0 q1, Hid (ntQ ps l rs ts = (q0, q1)) := ⟨_, _, rfl⟩
  rw [HQ.out]
  go_enter Tryz.func23, Tryz.ntmps23
  have kw := keeps_refl w
  replace kw := Keeps.trans kw (keeps_alloc w (.cells #[.slice A a c0] 32))
  have b4 : B1 (w.alloc (.cells #[.slice A a c0] 32)) w.heap.size (.slice A a c0) := B1.new' (by simp)
  obtain ⟨ca1, fa1⟩ := id b4
  go_wp2_with fail
  clear ca1 fa1
  obtain ⟨pHH, HH⟩ : ∃ pB, Hid (hisB ps l rs = pB) := ⟨_, rfl⟩
  refine (rlHistory_any (h.keeps kw) (h'.keeps kw) (hr.keeps kw)).mono ?_
  rintro e w2 ⟨rfl, k2⟩
  rw [HH.out]
  replace b4 := b4.keeps k2
  replace kw := Keeps.trans kw k2
  have lt3 := b4.lt
  have sz4 := kw.size
  clear k2
  cases pHH
  · obtain ⟨e0, e1⟩ : q0 = [] ∧ q1 = false := by have := HQ.out.symm.trans (ntQ_no (by rw [HH.out]; rfl)); injection this with a b; exact ⟨a, b⟩
    subst e0 e1
    obtain ⟨ca5, fa5⟩ := id b4
    go_wp2_with fail
    clear ca5 fa5
    go_ret2
    exact ⟨none, 0, 0, rfl, Mine.nil_ _ _, kw⟩
  · skip
    obtain ⟨ca5, fa5⟩ := id b4
    go_wp2_with fail
    clear ca5 fa5
    have HGS := hid (hisB_parts HH.out)
    obtain ⟨pHB, HB⟩ : ∃ pB, Hid (plB ps l ts = pB) := ⟨_, rfl⟩
    refine (nPlan_any (h.keeps kw) (h'.keeps kw) (ht.keeps kw) HGS.out.1 HGS.out.2.1).mono ?_
    rintro e w6 ⟨rfl, k6⟩
    rw [HB.out]
    replace b4 := b4.keeps k6
    replace kw := Keeps.trans kw k6
    have lt7 := b4.lt
    have sz8 := kw.size
    clear k6
    cases pHB
    · obtain ⟨e0, e1⟩ : q0 = [] ∧ q1 = false := by have := HQ.out.symm.trans (ntQ_no (by rw [HH.out, HB.out]; rfl)); injection this with a b; exact ⟨a, b⟩
      subst e0 e1
      obtain ⟨ca9, fa9⟩ := id b4
      go_wp2_with fail
      clear ca9 fa9
      go_ret2
      exact ⟨none, 0, 0, rfl, Mine.nil_ _ _, kw⟩
    · skip
      obtain ⟨e0, e1⟩ : q0 = ntTo (ntG ps l rs ts r) k9 ∧ q1 = true := by have := HQ.out.symm.trans (ntQ_yes HRL.out HTL.out HH.out HB.out); injection this with a b; exact ⟨a, b⟩
      subst e0 e1
      have HPB := hid (plB_at HB.out).2
      obtain ⟨ca9, fa9⟩ := id b4
      go_wp2_with fail
      clear ca9 fa9
      have sz0 := b4.lt
      go_loopw [10, 27] (fun v i wr => ∃ k : Nat, k ≤ k9 ∧ i = .int .i64 k ∧ Has wr (w.heap.size + 1) 3 1 v (ntTo (ntG ps l rs ts r) k).length ((ntTo (ntG ps l rs ts r) k).map (Value.int .i64)) ∧ B1 wr w.heap.size (.slice A a c0) ∧ Keeps w wr) (fun _ i _ => k9 - (intOf i).toNat)
      case atStart => exact ⟨0, Nat.zero_le _, rfl, World.ownsRow_nil _ _ _ _, b4, kw⟩
      clear b4 kw
      case round =>
        obtain ⟨k, hk, rfl, hown, b4, kw⟩ := hrel
        have hkl := ntTo_len (ntG ps l rs ts r) k
        by_cases hlt : k < k9
        · obtain ⟨b', off', lu, V', n', c', H', m', d', su, us, xs, rfl, _, _, e0, e1, e2, e3, gv, gh, hx⟩ := ht.at_ hlt
          have HTB := hid (show tabB ps l (lu, us, xs, su) = true by have := HPB.out k (by rw [HTL.out]; exact hlt); rw [← hx.out] at this; exact this)
          have HGK := hid (show ntG ps l rs ts r k = exF (fvG ps l rs (lu, us, xs, su)) r by unfold ntG; rw [← hx.out])
          clear hx
          have hj1 : (k : Int) < (k9 : Int) := by omega
          have d0 := cell_keeps e0 kw
          have d1 := cell_keeps e1 kw
          have d2 := cell_keeps e2 kw
          have d3 := cell_keeps e3 kw
          have lt4 := b4.lt
          replace b4 := b4.keeps (keeps_alloc wr (.cells #[.int .i64 lu, .slice V' n' c', .slice H' m' d', .int .i64 su] 61))
          replace hown := hown.keeps (keeps_alloc wr (.cells #[.int .i64 lu, .slice V' n' c', .slice H' m' d', .int .i64 su] 61))
          replace kw := Keeps.trans kw (keeps_alloc wr (.cells #[.int .i64 lu, .slice V' n' c', .slice H' m' d', .int .i64 su] 61))
          have b12 : Bl (wr.alloc (.cells #[.int .i64 lu, .slice V' n' c', .slice H' m' d', .int .i64 su] 61)) wr.heap.size [.int .i64 lu, .slice V' n' c', .slice H' m' d', .int .i64 su] := Bl.new' (by simp) (by simp)
          obtain ⟨ca10, fa10⟩ := id b4
          have ca11_0 := (b12.2 0 _ rfl).1
          have ca11_1 := (b12.2 1 _ rfl).1
          have ca11_2 := (b12.2 2 _ rfl).1
          have ca11_3 := (b12.2 3 _ rfl).1
          go_wp2_with fail
          clear ca10 fa10 ca11_0 ca11_1 ca11_2 ca11_3
          clear d0 d1 d2 d3 e0 e1 e2 e3
          refine (rlFirst_any (h.keeps kw) (h'.keeps kw) (hr.keeps kw) (gv.keeps kw) (gh.keeps kw) HH.out HTB.out).mono ?_
          rintro e w12 ⟨rfl, k12⟩
          replace b4 := b4.keeps k12
          replace b12 := b12.keeps k12
          replace hown := hown.keeps k12
          replace kw := Keeps.trans kw k12
          have lt13 := b12.lt
          have sz14 := kw.size
          clear k12
          clear b12
          obtain ⟨N, HN⟩ : ∃ N, Hid (fst (fvG ps l rs (lu, us, xs, su)) r = N) := ⟨_, rfl⟩
          have hNr : N ≤ r := by rw [← HN.out]; exact fst_le _ _
          have lt5 := b4.lt
          obtain ⟨p, HPP⟩ : ∃ p, Hid (exF (fvG ps l rs (lu, us, xs, su)) r = p) := ⟨_, rfl⟩
          cases p
          · have HT := hid (ntTo_no (HGK.out.trans HPP.out))
            rw [ixF_f HPP.out]
            go_wp2_with (at_builtin; refine append_int (xs := ntTo (ntG ps l rs ts r) k) hown (by omega) (by omega) _ _ rfl rfl rfl (by first | rfl | (simp <;> rfl)) ?_; intro v' w' hown' hb')
            have H1 := hid hown'
            rw [show (ntTo (ntG ps l rs ts r) k).length + 1 = (ntTo (ntG ps l rs ts r) k ++ [(k : Int)]).length by simp, ← HT.out] at H1
            have H2 := hid (Below.trans kw (hb'.mono (by omega)))
            have H3 := hid (b4.fr (fr_belowN hb') (by omega))
            clear hown' hb' kw hown b4
            go_wp2
            go_roundw
            case rel => exact ⟨k + 1, by omega, by go_num, H1.out, H3.out, H2.out⟩
            case measure => simp [intOf]; omega
          have HT := hid (ntTo_yes (HGK.out.trans HPP.out))
          have H1 := hid hown
          rw [← HT.out] at H1
          clear hown
          rw [ixF_t HPP.out, HN.out]
          have ge : ¬ (N : Int) < 0 := by omega
          go_wp2_with fail
          go_roundw
          case rel => exact ⟨k + 1, by omega, by go_num, H1.out, b4, kw⟩
          case measure => simp [intOf]; omega
        · obtain rfl : k9 = k := by omega
          obtain ⟨A1, C1, rfl⟩ := hown.form
          have sz9 := b4.lt
          have HM := hid ((Mine.of_own hown (by omega)).widen (lo' := w.heap.size) (by omega) (Nat.le_refl _) (Nat.le_refl _))
          clear hown
          go_wp2
          go_ret2
          exact ⟨A1, _, C1, rfl, HM.out, kw⟩
end Go.Proofs.YtlkjhkkfdmjfcaaGreatDoor
