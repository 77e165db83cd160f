/- Lists within bounds: iBounds, areLimits, areBounded; clamping: iClamp, shifted. -/
import Derived.Test.YtkpliolafkdijaaApp
namespace Go.Proofs.Ytkpliolafkdijaa
open Go.RowKit
set_option linter.unusedVariables false
set_option linter.unusedSimpArgs false

theorem l1Least_any (a b : Int) (w : World) : Calls Try.prog 214 #[.int .i64 a, .int .i64 b] w fun e w' => e = .returned (.int .i64 (min a b)) ∧ w = w' := by
  by_cases h : a < b
  · go_enter Try.func214, Try.ntmps214
    go_wp2
    go_ret
    exact ⟨ret_int (by omega), rfl⟩
  · go_enter Try.func214, Try.ntmps214
    go_wp2
    go_ret
    exact ⟨ret_int (by omega), rfl⟩
theorem l1Most_any (a b : Int) (w : World) : Calls Try.prog 128 #[.int .i64 a, .int .i64 b] w fun e w' => e = .returned (.int .i64 (max a b)) ∧ w = w' := by
  by_cases h : b < a
  · go_enter Try.func128, Try.ntmps128
    go_wp2
    go_ret
    exact ⟨ret_int (by omega), rfl⟩
  · go_enter Try.func128, Try.ntmps128
    go_wp2
    go_ret
    exact ⟨ret_int (by omega), rfl⟩

theorem l1Abs_any {a : Int} {w : World} (h1 : -4611686018427387904 ≤ a) (h2 : a ≤ 4611686018427387904) : Calls Try.prog 187 #[.int .i64 a] w fun e w' => e = .returned (.int .i64 (max a (-a))) ∧ w = w' := by
  go_enter Try.func187, Try.ntmps187
  go_wp2_with (go_at_call 128; refine (l1Most_any _ _ _).mono ?_; rintro e w' ⟨rfl, rfl⟩)
  go_ret
  exact ⟨rfl, rfl⟩
theorem go_max (a b : Int) : (if a < b then b else a) = max a b := by omega
theorem go_min (a b : Int) : (if b < a then b else a) = min a b := by omega
/-- The values plus a number, within the bounds. -/
def clampL (xs lo hi : List Int) (by' : Int) : List Int := (List.range xs.length).map fun i => min (max (xs.getD i 0 + by') (lo.getD i 0)) (hi.getD i 0)
theorem clampL_len (xs lo hi : List Int) (b : Int) : (clampL xs lo hi b).length = xs.length := by simp [clampL]
theorem clampL_getD (xs lo hi : List Int) (b : Int) (k : Nat) (h : k < xs.length) : (clampL xs lo hi b).getD k 0 = min (max (xs.getD k 0 + b) (lo.getD k 0)) (hi.getD k 0) := by simp [clampL, List.getD, h]
def Ordered (lo hi : List Int) : Prop := ∀ j, lo.getD j 0 ≤ hi.getD j 0

set_option maxHeartbeats 1600000 in
set_option maxRecDepth 100000 in
theorem iClamp_any (A A1 A2 : Option Addr) (l h l1 h1 l2 h2 n c c1 c2 : Nat) (xs lo hi : List Int) (w : World) (ha : Ints w l h A n xs) (hb : Ints w l1 h1 A1 n lo) (hc : Ints w l2 h2 A2 n hi) (ho : Ordered lo hi) :
    Calls Try.prog 139 #[.slice A n c, .slice A1 n c1, .slice A2 n c2] w fun e w' => ∃ A' c', e = .returned (.slice A' n c') ∧ Mine w' w.heap.size w'.heap.size A' n (clampL xs lo hi 0) ∧ Keeps w w' := by
  have hn := ha.le
  have hl := ha.1
  have HO := hid ho
  clear ho
  go_enter Try.func139, Try.ntmps139
  go_wp2_with fail
  go_loopw [7, 12] (fun v i wr => ∃ k : Nat, k ≤ n ∧ i = .int .i64 k ∧ Has wr w.heap.size 3 1 v k (((clampL xs lo hi 0).take k).map (Value.int .i64)) ∧ Keeps w wr) (fun _ i _ => n - (intOf i).toNat)
  case atStart => exact ⟨0, Nat.zero_le _, rfl, World.ownsRow_nil _ _ _ _, keeps_refl _⟩
  case round =>
    obtain ⟨k, hk, rfl, hown, hkeep⟩ := hrel
    by_cases hlt : k < n
    · obtain ⟨b, off, x, rfl, _, _, hx0, hx⟩ := (ha.keeps hkeep).at_ hlt
      obtain ⟨b1, off1, x1, rfl, _, hlt1, hx1, hx'⟩ := (hb.keeps hkeep).at_ hlt
      obtain ⟨b2, off2, x2, rfl, _, hlt2, hx2, hx''⟩ := (hc.keeps hkeep).at_ hlt
      have hb1' : b1 < w.heap.size := by have := hb.top; omega
      have hb2' : b2 < w.heap.size := by have := hc.top; omega
      have hi1 : (k : Int) < (n : Int) := by omega
      have HT := hid (take_snoc (clampL xs lo hi 0) k 0 (by rw [clampL_len]; omega))
      rw [clampL_getD _ _ _ _ _ (by omega), ← hx.out, ← hx'.out, ← hx''.out] at HT
      have hx12 := HO.out k
      rw [← hx'.out, ← hx''.out] at hx12
      go_wp2_with fail
      go_region_held3 (fun w' => w'.cell? ⟨b1, off1 + k, none⟩ = some (.int .i64 x1) ∧ w'.cell? ⟨b2, off2 + k, none⟩ = some (.int .i64 x2)) (go_keep)
        ((first | (go_at_call 214; refine (l1Least_any _ _ _).mono ?_; rintro e w' ⟨rfl, rfl⟩) | (go_at_call 128; refine (l1Most_any _ _ _).mono ?_; rintro e w' ⟨rfl, rfl⟩) | (refine step_append_int (xs := (clampL xs lo hi 0).take k) (B := w.heap.size) (by exact (hown.alloc _).drew) (by omega) (by have := hkeep.size; simp; omega) _ _ (by rfl) (by rfl) (by rfl) (by rfl) (by exact heap_alloc_new _ _) ?_; intro v' w1 hown1 hb1; have e1 := hb1.cell (p := ⟨b1, off1 + k, none⟩) hb1'; have e2 := hb1.cell (p := ⟨b2, off2 + k, none⟩) hb2')))
      have H1 := hid hown1
      rw [show max x1 (min x2 x) = min (max (x + 0) x1) x2 by omega, ← HT.out] at H1
      have H2 := hid (((hkeep.alloc hkeep.size _).drew).trans hb1)
      clear hown1 hb1 e1 e2 hkeep hown
      go_wp2
      go_roundw
      case rel => exact ⟨k + 1, by omega, by go_num, H1.out, H2.out⟩
      case measure => simp [intOf]; omega
    · obtain rfl : k = n := by omega
      obtain ⟨A', c', rfl⟩ := hown.form
      have HT := hid (List.take_of_length_le (l := clampL xs lo hi 0) (i := k) (by rw [clampL_len]; omega))
      rw [HT.out] at hown
      have HM := hid (Mine.of_own hown (by omega))
      clear hown
      go_wp2
      go_ret
      exact ⟨A', c', rfl, HM.out, hkeep⟩
def clampTo (xs lo hi : List Int) (b : Int) (k : Nat) : List Int := (clampL xs lo hi b).take k ++ List.replicate (xs.length - k) 0
theorem clampTo_eq (xs lo hi : List Int) (b : Int) (k : Nat) : clampTo xs lo hi b k = padTo (clampL xs lo hi b) k := by simp [clampTo, padTo, clampL_len]

set_option maxRecDepth 100000 in
set_option maxHeartbeats 1600000 in
theorem shifted_any (A A1 A2 : Option Addr) (l h l1 h1 l2 h2 n c c1 c2 : Nat) (xs lo hi : List Int) (by' : Int) (w : World) (ha : Ints w l h A n xs) (hb : Ints w l1 h1 A1 n lo) (hc : Ints w l2 h2 A2 n hi)
    (bx : Bd 100000000 xs) (b0 : -100000000 ≤ by') (b1 : by' ≤ 100000000) :
    Calls Try.prog 138 #[.slice A n c, .slice A1 n c1, .slice A2 n c2, .int .i64 by'] w fun e w' => ∃ A', e = .returned (.slice A' n n) ∧ Mine w' w.heap.size w'.heap.size A' n (clampL xs lo hi by') ∧ Keeps w w' := by
  have hn := ha.le
  have hl := ha.1
  have HX := hid bx
  clear bx
  have hmk := make_ints n hn
  go_enter Try.func138, Try.ntmps138
  go_wp2_with fail
  clear hmk
  go_loopw [17] (fun i wr => ∃ k : Nat, k ≤ n ∧ i = .int .i64 k ∧ Own wr w.heap.size (padTo (clampL xs lo hi by') k) ∧ Keeps w wr) (fun i _ => n - (intOf i).toNat)
  case atStart => exact ⟨0, Nat.zero_le _, rfl, by rw [padTo_zero, clampL_len, hl]; exact Own.new w n, (Below.refl _ _).alloc (Nat.le_refl _) _⟩
  case round =>
    obtain ⟨k, hk, rfl, hown, hkeep⟩ := hrel
    by_cases hlt : k < n
    · obtain ⟨b, off, x, rfl, _, _, hx0, hx⟩ := (ha.keeps hkeep).at_ hlt
      obtain ⟨b1, off1, x1, rfl, _, hlt1, hx1, hx'⟩ := (hb.keeps hkeep).at_ hlt
      obtain ⟨b2, off2, x2, rfl, _, hlt2, hx2, hx''⟩ := (hc.keeps hkeep).at_ hlt
      obtain ⟨y, hc2, -⟩ := hown.at_ k (by rw [padTo_len _ _ (by rw [clampL_len]; omega), clampL_len]; omega)
      have hf := hown.frozen k
      have hi1 : (k : Int) < (n : Int) := by omega
      have hxb := HX.out k
      rw [← hx.out] at hxb
      have HC := hid (clampL_getD xs lo hi by' k (by omega))
      rw [← hx.out, ← hx'.out, ← hx''.out] at HC
      have H1 := hid (fun m : Nat => (hown.drewN m).set_ k (min (max (x + by') x1) x2))
      rw [← HC.out, padTo_succ _ _ (by rw [clampL_len]; omega), HC.out] at H1
      have H2 := hid (fun m : Nat => (below_drewN hkeep m).setCell (p := ⟨w.heap.size, k, none⟩) (Nat.le_refl _) (.int .i64 (min (max (x + by') x1) x2)))
      clear hown hkeep
      go_wp2_with fail
      go_region
      rw [go_max, go_min]
      have H3 := H1.out 1
      have H4 := H2.out 1
      have H3 := hid H3
      have H4 := hid H4
      clear H1 H2
      go_wp2
      go_roundw
      case rel => exact ⟨k + 1, by omega, by go_num, H3.out, H4.out⟩
      case measure => simp [intOf]; omega
    · obtain rfl : k = n := by omega
      rw [show k = (clampL xs lo hi by').length by rw [clampL_len, hl], padTo_all] at hown
      have HM := hid (hown.mine (by rw [clampL_len, hl]) hn (Nat.le_refl _) hown.lt (Nat.le_refl _))
      clear hown
      go_wp2
      go_ret
      exact ⟨_, rfl, HM.out, hkeep⟩
/-- The first k lower bounds are not above the upper ones. -/
def Below_ (lo hi : List Int) (k : Nat) : Prop := ∀ j, j < k → lo.getD j 0 ≤ hi.getD j 0
def leB (lo hi : List Int) : Bool := (List.range lo.length).all fun j => decide (lo.getD j 0 ≤ hi.getD j 0)
theorem leB_true {lo hi : List Int} : leB lo hi = true ↔ Below_ lo hi lo.length := by simp [leB, Below_]
theorem leB_no {lo hi : List Int} {k : Nat} (hk : k < lo.length) {x y : Int} (hx : x = lo.getD k 0) (hy : y = hi.getD k 0) (h : y < x) : leB lo hi = false := by
  rw [Bool.eq_false_iff]; intro h1; have := leB_true.1 h1 k hk; omega
theorem below_succ {lo hi : List Int} {k : Nat} (h : Below_ lo hi k) {x y : Int} (hx : x = lo.getD k 0) (hy : y = hi.getD k 0) (h1 : x ≤ y) : Below_ lo hi (k + 1) := by
  intro j hj
  by_cases hjk : j = k
  · subst hjk; omega
  · exact h j (by omega)
theorem ordered_of {lo hi : List Int} (h : leB lo hi = true) (hl : lo.length = hi.length) : Ordered lo hi := by
  intro j
  by_cases hj : j < lo.length
  · exact leB_true.1 h j hj
  · simp [List.getD, List.getElem?_eq_none (Nat.le_of_not_lt hj), List.getElem?_eq_none (show hi.length ≤ j by omega)]
def limitsB (lo hi : List Int) : Bool := partsB lo && partsB hi && decide (lo.length = hi.length) && leB lo hi
def boundedB (vs lo hi : List Int) : Bool := partsB vs && limitsB lo hi && decide (lo.length = vs.length)
theorem limitsB_true {lo hi : List Int} : limitsB lo hi = true ↔ partsB lo = true ∧ partsB hi = true ∧ lo.length = hi.length ∧ leB lo hi = true := by simp [limitsB, and_assoc]
theorem boundedB_true {vs lo hi : List Int} : boundedB vs lo hi = true ↔ partsB vs = true ∧ limitsB lo hi = true ∧ lo.length = vs.length := by simp [boundedB, and_assoc]
theorem boundedB_same (lo hi : List Int) : boundedB lo lo hi = limitsB lo hi := by
  cases h : limitsB lo hi with
  | false => simp [boundedB, h]
  | true => simp [boundedB, h, (limitsB_true.1 h).1]

set_option maxHeartbeats 1600000 in
theorem iBounds_any (A A1 A2 : Option Addr) (l h l1 h1 l2 h2 n n1 n2 c c1 c2 : Nat) (xs lo hi : List Int) (w : World) (ha : Ints w l h A n xs) (hb : Ints w l1 h1 A1 n1 lo) (hc : Ints w l2 h2 A2 n2 hi) :
    Calls Try.prog 132 #[.slice A n c, .slice A1 n1 c1, .slice A2 n2 c2] w fun e w' => e = .returned (.bool (boundedB xs lo hi)) ∧ Quiet w w' := by
  have hn := ha.le
  have hn1 := hb.le
  have hn2 := hc.le
  have hl := ha.1
  have hl1 := hb.1
  have hl2 := hc.1
  obtain ⟨b1, H1⟩ : ∃ b, Hid (partsB xs = b) := ⟨_, rfl⟩
  obtain ⟨b2, H2⟩ : ∃ b, Hid (partsB lo = b) := ⟨_, rfl⟩
  obtain ⟨b3, H3⟩ : ∃ b, Hid (partsB hi = b) := ⟨_, rfl⟩
  cases b1
  · have HF := hid (show boundedB xs lo hi = false by simp [boundedB, H1.out])
    go_enter Try.func132, Try.ntmps132
    go_wp2_with (first | (go_at_call 211; ((with_reducible refine (iList_any A _ _ _ _ _ _ ha).mono ?_); rintro e w' ⟨rfl, rfl⟩; rw [H1.out])) | (go_at_call 211; ((with_reducible refine (iList_any A1 _ _ _ _ _ _ hb).mono ?_); rintro e w' ⟨rfl, rfl⟩; rw [H2.out])) | (go_at_call 211; ((with_reducible refine (iList_any A2 _ _ _ _ _ _ hc).mono ?_); rintro e w' ⟨rfl, rfl⟩; rw [H3.out])))
    go_ret
    exact ⟨ret_bool HF.out.symm, Quiet.refl _⟩
  cases b2
  · have HF := hid (show boundedB xs lo hi = false by simp [boundedB, limitsB, H2.out])
    go_enter Try.func132, Try.ntmps132
    go_wp2_with (first | (go_at_call 211; ((with_reducible refine (iList_any A _ _ _ _ _ _ ha).mono ?_); rintro e w' ⟨rfl, rfl⟩; rw [H1.out])) | (go_at_call 211; ((with_reducible refine (iList_any A1 _ _ _ _ _ _ hb).mono ?_); rintro e w' ⟨rfl, rfl⟩; rw [H2.out])) | (go_at_call 211; ((with_reducible refine (iList_any A2 _ _ _ _ _ _ hc).mono ?_); rintro e w' ⟨rfl, rfl⟩; rw [H3.out])))
    go_ret
    exact ⟨ret_bool HF.out.symm, Quiet.refl _⟩
  cases b3
  · have HF := hid (show boundedB xs lo hi = false by simp [boundedB, limitsB, H3.out])
    go_enter Try.func132, Try.ntmps132
    go_wp2_with (first | (go_at_call 211; ((with_reducible refine (iList_any A _ _ _ _ _ _ ha).mono ?_); rintro e w' ⟨rfl, rfl⟩; rw [H1.out])) | (go_at_call 211; ((with_reducible refine (iList_any A1 _ _ _ _ _ _ hb).mono ?_); rintro e w' ⟨rfl, rfl⟩; rw [H2.out])) | (go_at_call 211; ((with_reducible refine (iList_any A2 _ _ _ _ _ _ hc).mono ?_); rintro e w' ⟨rfl, rfl⟩; rw [H3.out])))
    go_ret
    exact ⟨ret_bool HF.out.symm, Quiet.refl _⟩
  by_cases e1 : n1 = n
  rotate_left
  · have HF := hid (show boundedB xs lo hi = false by simp [boundedB]; intros; omega)
    have hne : ((n1 : Int) != (n : Int)) = true := by rw [bne_iff_ne]; omega
    go_enter Try.func132, Try.ntmps132
    go_wp2_with (first | (go_at_call 211; ((with_reducible refine (iList_any A _ _ _ _ _ _ ha).mono ?_); rintro e w' ⟨rfl, rfl⟩; rw [H1.out])) | (go_at_call 211; ((with_reducible refine (iList_any A1 _ _ _ _ _ _ hb).mono ?_); rintro e w' ⟨rfl, rfl⟩; rw [H2.out])) | (go_at_call 211; ((with_reducible refine (iList_any A2 _ _ _ _ _ _ hc).mono ?_); rintro e w' ⟨rfl, rfl⟩; rw [H3.out])))
    go_ret
    exact ⟨ret_bool HF.out.symm, Quiet.refl _⟩
  subst e1
  by_cases e2 : n2 = n1
  rotate_left
  · have HF := hid (show boundedB xs lo hi = false by simp [boundedB, limitsB]; intros; omega)
    have hne : ((n2 : Int) != (n1 : Int)) = true := by rw [bne_iff_ne]; omega
    have hne' : ((n1 : Int) != (n1 : Int)) = false := by simp
    go_enter Try.func132, Try.ntmps132
    go_wp2_with (first | (go_at_call 211; ((with_reducible refine (iList_any A _ _ _ _ _ _ ha).mono ?_); rintro e w' ⟨rfl, rfl⟩; rw [H1.out])) | (go_at_call 211; ((with_reducible refine (iList_any A1 _ _ _ _ _ _ hb).mono ?_); rintro e w' ⟨rfl, rfl⟩; rw [H2.out])) | (go_at_call 211; ((with_reducible refine (iList_any A2 _ _ _ _ _ _ hc).mono ?_); rintro e w' ⟨rfl, rfl⟩; rw [H3.out])))
    go_ret
    exact ⟨ret_bool HF.out.symm, Quiet.refl _⟩
  subst e2
  have HF := hid (show boundedB xs lo hi = leB lo hi by simp [boundedB, limitsB, H1.out, H2.out, H3.out, hl, hl1, hl2])
  have hne' : ((n2 : Int) != (n2 : Int)) = false := by simp
  go_enter Try.func132, Try.ntmps132
  go_wp2_with (first | (go_at_call 211; ((with_reducible refine (iList_any A _ _ _ _ _ _ ha).mono ?_); rintro e w' ⟨rfl, rfl⟩; rw [H1.out])) | (go_at_call 211; ((with_reducible refine (iList_any A1 _ _ _ _ _ _ hb).mono ?_); rintro e w' ⟨rfl, rfl⟩; rw [H2.out])) | (go_at_call 211; ((with_reducible refine (iList_any A2 _ _ _ _ _ _ hc).mono ?_); rintro e w' ⟨rfl, rfl⟩; rw [H3.out])))
  go_loopw [37] (fun i wr => ∃ k : Nat, k ≤ n2 ∧ i = .int .i64 k ∧ Hid (Below_ lo hi k) ∧ Quiet w wr) (fun i _ => n2 - (intOf i).toNat)
  case atStart => exact ⟨0, Nat.zero_le _, rfl, fun j hj => absurd hj (by omega), Quiet.refl _⟩
  case round =>
    obtain ⟨k, hk, rfl, hbl, hq⟩ := hrel
    by_cases hlt : k < n2
    · obtain ⟨b1, off1, x1, rfl, _, hlt1, hx1, hx'⟩ := (hb.quiet hq).at_ hlt
      obtain ⟨b2, off2, x2, rfl, _, hlt2, hx2, hx''⟩ := (hc.quiet hq).at_ hlt
      have hi1 : (k : Int) < (n2 : Int) := by omega
      by_cases hle : x1 ≤ x2
      · have hle' : ¬ x2 < x1 := by omega
        go_wp2_with fail
        go_quiet (fail)
        go_wp2
        go_roundw
        case rel => exact ⟨k + 1, by omega, by go_num, below_succ hbl.out hx'.out hx''.out hle, hq.step _⟩
        case measure => simp [intOf]; omega
      · have hle' : x2 < x1 := by omega
        go_wp2_with fail
        go_quiet (fail)
        go_wp2
        go_ret
        exact ⟨ret_bool (by rw [HF.out]; exact (leB_no (by omega) hx'.out hx''.out hle').symm), hq.step _⟩
    · obtain rfl : k = n2 := by omega
      go_wp2
      go_ret
      exact ⟨ret_bool (by rw [HF.out]; exact (leB_true.2 (by rw [hl1]; exact hbl.out)).symm), hq⟩
set_option maxHeartbeats 1600000 in
theorem areLimits_any (A1 A2 : Option Addr) (l1 h1 l2 h2 n1 n2 c1 c2 : Nat) (lo hi : List Int) (w : World) (hb : Ints w l1 h1 A1 n1 lo) (hc : Ints w l2 h2 A2 n2 hi) :
    Calls Try.prog 210 #[.slice A1 n1 c1, .slice A2 n2 c2] w fun e w' => e = .returned (.bool (limitsB lo hi)) ∧ w = w' := by
  have hn1 := hb.le
  have hn2 := hc.le
  have hl1 := hb.1
  have hl2 := hc.1
  obtain ⟨b2, H2⟩ : ∃ b, Hid (partsB lo = b) := ⟨_, rfl⟩
  obtain ⟨b3, H3⟩ : ∃ b, Hid (partsB hi = b) := ⟨_, rfl⟩
  cases b2
  · have HF := hid (show limitsB lo hi = false by simp [limitsB, H2.out])
    go_enter Try.func210, Try.ntmps210
    go_wp2_with (first | (go_at_call 151; ((with_reducible refine (areParts_any A1 _ _ _ _ _ _ hb).mono ?_); rintro e w' ⟨rfl, rfl⟩; rw [H2.out])) | (go_at_call 151; ((with_reducible refine (areParts_any A2 _ _ _ _ _ _ hc).mono ?_); rintro e w' ⟨rfl, rfl⟩; rw [H3.out])))
    go_ret
    exact ⟨ret_bool HF.out.symm, rfl⟩
  cases b3
  · have HF := hid (show limitsB lo hi = false by simp [limitsB, H3.out])
    go_enter Try.func210, Try.ntmps210
    go_wp2_with (first | (go_at_call 151; ((with_reducible refine (areParts_any A1 _ _ _ _ _ _ hb).mono ?_); rintro e w' ⟨rfl, rfl⟩; rw [H2.out])) | (go_at_call 151; ((with_reducible refine (areParts_any A2 _ _ _ _ _ _ hc).mono ?_); rintro e w' ⟨rfl, rfl⟩; rw [H3.out])))
    go_ret
    exact ⟨ret_bool HF.out.symm, rfl⟩
  by_cases e2 : n2 = n1
  rotate_left
  · have HF := hid (show limitsB lo hi = false by simp [limitsB]; intros; omega)
    have hne : ((n2 : Int) != (n1 : Int)) = true := by rw [bne_iff_ne]; omega
    go_enter Try.func210, Try.ntmps210
    go_wp2_with (first | (go_at_call 151; ((with_reducible refine (areParts_any A1 _ _ _ _ _ _ hb).mono ?_); rintro e w' ⟨rfl, rfl⟩; rw [H2.out])) | (go_at_call 151; ((with_reducible refine (areParts_any A2 _ _ _ _ _ _ hc).mono ?_); rintro e w' ⟨rfl, rfl⟩; rw [H3.out])))
    go_ret
    exact ⟨ret_bool HF.out.symm, rfl⟩
  subst e2
  have HF := hid (show limitsB lo hi = leB lo hi by simp [limitsB, H2.out, H3.out, hl1, hl2])
  have hne' : ((n2 : Int) != (n2 : Int)) = false := by simp
  go_enter Try.func210, Try.ntmps210
  go_wp2_with (first | (go_at_call 151; ((with_reducible refine (areParts_any A1 _ _ _ _ _ _ hb).mono ?_); rintro e w' ⟨rfl, rfl⟩; rw [H2.out])) | (go_at_call 151; ((with_reducible refine (areParts_any A2 _ _ _ _ _ _ hc).mono ?_); rintro e w' ⟨rfl, rfl⟩; rw [H3.out])))
  go_loop [24] (fun i => ∃ k : Nat, k ≤ n2 ∧ i = .int .i64 k ∧ Hid (Below_ lo hi k)) (fun i => n2 - (intOf i).toNat)
  case atStart => exact ⟨0, Nat.zero_le _, rfl, fun j hj => absurd hj (by omega)⟩
  case round =>
    obtain ⟨k, hk, rfl, hbl⟩ := hrel
    by_cases hlt : k < n2
    · obtain ⟨b1, off1, x1, rfl, _, hlt1, hx1, hx'⟩ := hb.at_ hlt
      obtain ⟨b2, off2, x2, rfl, _, hlt2, hx2, hx''⟩ := hc.at_ hlt
      by_cases hle : x1 ≤ x2
      · have hle' : ¬ x2 < x1 := by omega
        go_wp2
        go_round
        case rel => exact ⟨k + 1, by omega, by go_num, below_succ hbl.out hx'.out hx''.out hle⟩
        case measure => simp [intOf]; omega
      · have hle' : x2 < x1 := by omega
        go_wp2
        go_ret
        exact ⟨ret_bool (by rw [HF.out]; exact (leB_no (by omega) hx'.out hx''.out hle').symm), rfl⟩
    · obtain rfl : k = n2 := by omega
      go_wp2
      go_ret
      exact ⟨ret_bool (by rw [HF.out]; exact (leB_true.2 (by rw [hl1]; exact hbl.out)).symm), rfl⟩
set_option maxHeartbeats 1600000 in
theorem areBounded_any (A A1 A2 : Option Addr) (l h l1 h1 l2 h2 n n1 n2 c c1 c2 : Nat) (xs lo hi : List Int) (w : World) (ha : Ints w l h A n xs) (hb : Ints w l1 h1 A1 n1 lo) (hc : Ints w l2 h2 A2 n2 hi) :
    Calls Try.prog 129 #[.slice A n c, .slice A1 n1 c1, .slice A2 n2 c2] w fun e w' => e = .returned (.bool (boundedB xs lo hi)) ∧ w = w' := by
  have hn := ha.le
  have hn1 := hb.le
  have hl := ha.1
  have hl1 := hb.1
  obtain ⟨b1, H1⟩ : ∃ b, Hid (partsB xs = b) := ⟨_, rfl⟩
  obtain ⟨b2, H2⟩ : ∃ b, Hid (limitsB lo hi = b) := ⟨_, rfl⟩
  cases b1
  · have HF := hid (show boundedB xs lo hi = false by simp [boundedB, H1.out])
    go_enter Try.func129, Try.ntmps129
    go_wp2_with (first | (go_at_call 151; ((with_reducible refine (areParts_any A _ _ _ _ _ _ ha).mono ?_); rintro e w' ⟨rfl, rfl⟩; rw [H1.out])) | (go_at_call 210; ((with_reducible refine (areLimits_any A1 A2 _ _ _ _ _ _ _ _ _ _ _ hb hc).mono ?_); rintro e w' ⟨rfl, rfl⟩; rw [H2.out])))
    go_ret
    exact ⟨ret_bool HF.out.symm, rfl⟩
  cases b2
  · have HF := hid (show boundedB xs lo hi = false by simp [boundedB, H2.out])
    go_enter Try.func129, Try.ntmps129
    go_wp2_with (first | (go_at_call 151; ((with_reducible refine (areParts_any A _ _ _ _ _ _ ha).mono ?_); rintro e w' ⟨rfl, rfl⟩; rw [H1.out])) | (go_at_call 210; ((with_reducible refine (areLimits_any A1 A2 _ _ _ _ _ _ _ _ _ _ _ hb hc).mono ?_); rintro e w' ⟨rfl, rfl⟩; rw [H2.out])))
    go_ret
    exact ⟨ret_bool HF.out.symm, rfl⟩
  by_cases e1 : n1 = n
  · subst e1
    have HF := hid (show boundedB xs lo hi = true by simp [boundedB, H1.out, H2.out]; omega)
    have hne : ((n1 : Int) == (n1 : Int)) = true := by simp
    go_enter Try.func129, Try.ntmps129
    go_wp2_with (first | (go_at_call 151; ((with_reducible refine (areParts_any A _ _ _ _ _ _ ha).mono ?_); rintro e w' ⟨rfl, rfl⟩; rw [H1.out])) | (go_at_call 210; ((with_reducible refine (areLimits_any A1 A2 _ _ _ _ _ _ _ _ _ _ _ hb hc).mono ?_); rintro e w' ⟨rfl, rfl⟩; rw [H2.out])))
    go_ret
    exact ⟨ret_bool HF.out.symm, rfl⟩
  · have HF := hid (show boundedB xs lo hi = false by simp [boundedB]; intros; omega)
    have hne : ((n1 : Int) == (n : Int)) = false := by rw [beq_eq_false_iff_ne]; omega
    go_enter Try.func129, Try.ntmps129
    go_wp2_with (first | (go_at_call 151; ((with_reducible refine (areParts_any A _ _ _ _ _ _ ha).mono ?_); rintro e w' ⟨rfl, rfl⟩; rw [H1.out])) | (go_at_call 210; ((with_reducible refine (areLimits_any A1 A2 _ _ _ _ _ _ _ _ _ _ _ hb hc).mono ?_); rintro e w' ⟨rfl, rfl⟩; rw [H2.out])))
    go_ret
    exact ⟨ret_bool HF.out.symm, rfl⟩
def sgn (a : Int) : Int := if a < 0 then -1 else if 0 < a then 1 else 0
theorem l1Sign_any {a : Int} {w : World} : Calls Try.prog 212 #[.int .i64 a] w fun e w' => e = .returned (.int .i64 (sgn a)) ∧ w = w' := by
  by_cases h1 : a < 0
  · have E := hid (show sgn a = -1 by simp [sgn, h1])
    go_enter Try.func212, Try.ntmps212
    go_wp2
    go_ret
    exact ⟨ret_int E.out.symm, rfl⟩
  · by_cases h2 : 0 < a
    · have E := hid (show sgn a = 1 by simp [sgn, h1, h2])
      go_enter Try.func212, Try.ntmps212
      go_wp2
      go_ret
      exact ⟨ret_int E.out.symm, rfl⟩
    · have E := hid (show sgn a = 0 by simp [sgn, h1, h2])
      go_enter Try.func212, Try.ntmps212
      go_wp2
      go_ret
      exact ⟨ret_int E.out.symm, rfl⟩
end Go.Proofs.Ytkpliolafkdijaa
