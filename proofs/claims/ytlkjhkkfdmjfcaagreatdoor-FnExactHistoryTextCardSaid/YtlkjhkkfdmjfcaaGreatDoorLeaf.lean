/- Leaves, and the number of types: of the program and of the reference. -/
import Derived.Test.YtlkjhkkfdmjfcaaGreatDoorTyp
namespace Go.Proofs.YtlkjhkkfdmjfcaaGreatDoor
open Go.RowKit
set_option linter.unusedVariables false
set_option linter.unusedSimpArgs false

/-- An index that tells whether a number is in a list. -/
def IdxRes (w : World) (p : Prop) (e : Ending) (w' : World) : Prop := ∃ r : Int, e = .returned (.int .i64 r) ∧ (0 ≤ r ↔ p) ∧ w' = w
theorem mem_of_at {xs : List Int} {k n : Nat} {v : Int} (hl : xs.length = n) (hk : k < n) (e : v = xs.getD k 0) : v ∈ xs := by
  rw [e]; simp only [List.getD, List.getElem?_eq_getElem (show k < xs.length by omega), Option.getD_some]; exact List.getElem_mem _
theorem not_mem_of {xs : List Int} {n : Nat} {v : Int} (hl : xs.length = n) (h : ∀ j, j < n → v ≠ xs.getD j 0) : v ∉ xs := fun hm => by
  obtain ⟨j, hj, e⟩ := List.mem_iff_getElem.1 hm
  exact h j (by omega) (by simp [List.getD, hj, e])
set_option maxHeartbeats 1600000 in
theorem indexI_any {A : Option Addr} {lo hi n c : Nat} {xs : List Int} {v : Int} {w : World} (h : Ints w lo hi A n xs) :
    Calls Tryz.prog 160 #[.slice A n c, .int .i64 v] w (IdxRes w (v ∈ xs)) := by
  have hn := h.le
  have hl := h.1
  have HL := hid hl
  clear hl
  go_enter Tryz.func160, Tryz.ntmps160
  go_wp2_with fail
  go_loop [8] (fun i => ∃ k : Nat, k ≤ n ∧ i = .int .i64 k ∧ Hid (∀ j, j < k → v ≠ xs.getD j 0)) (fun i => n - (intOf i).toNat)
  case atStart => exact ⟨0, Nat.zero_le _, rfl, fun j hj => absurd hj (by omega)⟩
  case round =>
    obtain ⟨k, hk, rfl, HN⟩ := hrel
    by_cases hlt : k < n
    · obtain ⟨b, off, x, rfl, _, _, hc, hx⟩ := h.at_ hlt
      have hi1 : (k : Int) < (n : Int) := by omega
      by_cases he : v = x
      · subst he
        have HM := hid (mem_of_at HL.out hlt hx.out)
        clear hx
        have t1 : (v == v) = true := by simp
        go_wp2
        go_ret
        exact ⟨_, rfl, ⟨fun _ => HM.out, fun _ => by omega⟩, rfl⟩
      · have t1 : (v == x) = false := by rw [beq_eq_false_iff_ne]; exact he
        have HE := hid he
        have HX := hid (show ∀ j, j < k + 1 → v ≠ xs.getD j 0 from fun j hj => by
          rcases Nat.lt_or_ge j k with h1 | h1
          · exact HN.out j h1
          · obtain rfl : j = k := by omega
            rw [← hx.out]; exact HE.out)
        clear he
        go_wp2
        go_round
        case rel => exact ⟨k + 1, by omega, by go_num, HX⟩
        case measure => simp [intOf]; omega
    · obtain rfl : k = n := by omega
      have HM := hid (not_mem_of HL.out HN.out)
      go_wp2
      go_ret
      exact ⟨_, rfl, ⟨fun h => absurd h (by omega), fun h => absurd h HM.out⟩, rfl⟩
set_option maxHeartbeats 800000 in
theorem containsI_any {A : Option Addr} {lo hi n c : Nat} {xs : List Int} {v : Int} {w : World} (h : Ints w lo hi A n xs) :
    Calls Tryz.prog 131 #[.slice A n c, .int .i64 v] w fun e w' => e = .returned (.bool (decide (v ∈ xs))) ∧ w' = w := by
  go_enter Tryz.func131, Tryz.ntmps131
  go_wp2_with fail
  refine (indexI_any h).mono ?_
  rintro e w' ⟨r, rfl, hr, rfl⟩
  have HR := hid hr
  clear hr
  by_cases h0 : 0 ≤ r
  · have HM := hid (HR.out.1 h0)
    go_wp2
    go_ret
    exact ⟨ret_bool (decide_eq_true HM.out).symm, rfl⟩
  · have HM := hid (show ¬ v ∈ xs from fun hm => h0 (HR.out.2 hm))
    have t1 : decide (0 ≤ r) = false := decide_eq_false h0
    go_wp2
    go_ret
    exact ⟨ret_bool (decide_eq_false HM.out).symm, rfl⟩
/-- An area without children. -/
def leafB (ps : List Int) (j : Nat) : Bool := decide ((kids ps (j : Int)).length = 0)
theorem kids_none {ps : List Int} {v : Int} (hg : ps.getD 0 0 = -1) (h0 : 0 ≤ v) : (kids ps v).length = 0 ↔ v ∉ ps := by
  unfold kids kidsTo
  rw [List.length_map, List.length_eq_zero_iff, List.filter_eq_nil_iff]
  constructor
  · intro h hm
    obtain ⟨j, hj, e⟩ := List.mem_iff_getElem.1 hm
    have hgd : ps.getD j 0 = v := by simp [List.getD, hj, e]
    have := h j (List.mem_range.2 hj)
    apply this
    unfold isKid
    rw [hgd]
    simp
    rcases Nat.eq_zero_or_pos j with h1 | h1
    · subst h1; omega
    · exact h1
  · intro h j hj
    have hj' := List.mem_range.1 hj
    unfold isKid
    simp only [Bool.and_eq_true, decide_eq_true_eq, beq_iff_eq, not_and]
    intro _ e
    exact h (e ▸ mem_of_at rfl hj' rfl)
def leavesTo (ps : List Int) (k : Nat) : List Int := ((List.range k).filter (leafB ps)).map fun (j : Nat) => (j : Int)
def leaves (ps : List Int) : List Int := leavesTo ps ps.length
theorem leavesTo_yes {ps : List Int} {k : Nat} (h : leafB ps k = true) : leavesTo ps (k + 1) = leavesTo ps k ++ [(k : Int)] := by
  unfold leavesTo; rw [List.range_succ, List.filter_append, List.map_append, List.filter_cons_of_pos h]; simp
theorem leavesTo_no {ps : List Int} {k : Nat} (h : leafB ps k = false) : leavesTo ps (k + 1) = leavesTo ps k := by
  unfold leavesTo; rw [List.range_succ, List.filter_append, List.map_append, List.filter_cons_of_neg (by simp [h])]; simp
theorem leavesTo_len (ps : List Int) (k : Nat) : (leavesTo ps k).length ≤ k := by
  unfold leavesTo; rw [List.length_map]
  exact Nat.le_trans (List.length_filter_le _ _) (by simp)
set_option maxHeartbeats 800000 in
theorem isLeaf_any {A : Option Addr} {lo hi n c i : Nat} {ps : List Int} {w : World} (h : Ints w lo hi A n ps) (hg : ps.getD 0 0 = -1) :
    Calls Tryz.prog 159 #[.agg #[.slice A n c], .int .i64 (i : Int)] w fun e w' => e = .returned (.bool (leafB ps i)) ∧ Keeps w w' := by
  have HG := hid (show leafB ps i = !decide ((i : Int) ∈ ps) by unfold leafB; rw [decide_eq_decide.2 (kids_none hg (by omega)), decide_not])
  clear hg
  have b2 : B1 (w.alloc (.cells #[.slice A n c] 32)) w.heap.size (.slice A n c) := B1.new' rfl
  go_enter Tryz.func159, Tryz.ntmps159
  obtain ⟨ca, fa⟩ := id b2
  go_wp2_with fail
  refine (containsI_any (h.keeps (keeps_alloc _ _))).mono ?_
  rintro e w' ⟨rfl, rfl⟩
  obtain ⟨p, hp⟩ : ∃ p, decide ((i : Int) ∈ ps) = p := ⟨_, rfl⟩
  rw [hp] at HG ⊢
  clear hp
  go_wp2
  go_ret
  exact ⟨ret_bool HG.out.symm, keeps_alloc _ _⟩
/-- A slice of ints of one's own, grown by append. -/
def LeafRes (w : World) (xs : List Int) (e : Ending) (w' : World) : Prop := ∃ A c, e = .returned (.slice A xs.length c) ∧ Mine w' w.heap.size w'.heap.size A xs.length xs ∧ Keeps w w'
theorem B1.belowL {w w' : World} {g B : Nat} {v : Value} (h : B1 w g v) (k : Below B w w') (hg : g < B) : B1 w' g v := h.below k hg
set_option maxRecDepth 100000 in
set_option maxHeartbeats 3200000 in
theorem leavesOf_any {A : Option Addr} {lo hi n c : Nat} {ps : List Int} {w : World} (h : Ints w lo hi A n ps) (hg : geoB ps = true) :
    Calls Tryz.prog 129 #[.agg #[.slice A n c]] w (LeafRes w (leaves ps)) := by
  have hn := h.le
  have hl := h.1
  have hgt := geoB_true.1 hg
  have hg0 := hgt.2.1
  have hn30 : n ≤ 30 := by omega
  have HL := hid hl
  have HG := hid hg0
  clear hl hgt hg0 hg
  have b1 : B1 (w.alloc (.cells #[.slice A n c] 32)) w.heap.size (.slice A n c) := B1.new' rfl
  have kw := keeps_alloc w (.cells #[.slice A n c] 32)
  have s0 : w.heap.size + 1 ≤ (w.alloc (.cells #[.slice A n c] 32)).heap.size := by simp
  go_enter Tryz.func129, Tryz.ntmps129
  obtain ⟨ca, fa⟩ := id b1
  go_wp2_with fail
  clear ca fa
  go_loopw [3, 8] (fun v i wr => ∃ k : Nat, k ≤ n ∧ i = .int .i64 k ∧ Has wr (w.heap.size + 1) 3 1 v (leavesTo ps k).length ((leavesTo ps k).map (Value.int .i64)) ∧ B1 wr w.heap.size (.slice A n c) ∧ Keeps w wr ∧ w.heap.size + 1 ≤ wr.heap.size) (fun _ i _ => n - (intOf i).toNat)
  case atStart => exact ⟨0, Nat.zero_le _, rfl, World.ownsRow_nil _ _ _ _, b1, kw, s0⟩
  clear b1 kw s0
  case round =>
    obtain ⟨k, hk, rfl, hown, b1, kw, s0⟩ := hrel
    have hlen := leavesTo_len ps k
    by_cases hlt : k < n
    · have hi1 : (k : Int) < (n : Int) := by omega
      obtain ⟨ca, fa⟩ := id b1
      go_wp2_with fail
      clear ca fa
      refine (isLeaf_any (i := k) (h.keeps kw) HG.out).mono ?_
      rintro e w1 ⟨rfl, k1⟩
      have hown1 := Has.below hown k1
      have b11 := b1.keeps k1
      have kw1 := kw.trans k1
      have s1 := Nat.le_trans s0 k1.size
      clear hown b1 kw k1 s0
      obtain ⟨p, HP⟩ : ∃ p, Hid (leafB ps k = p) := ⟨_, rfl⟩
      rw [HP.out]
      cases p
      · have HE := hid (leavesTo_no HP.out)
        skip
        go_wp2_with fail
        go_roundw
        case rel => exact ⟨k + 1, by omega, by go_num, by rw [HE.out]; exact hown1, b11, kw1, s1⟩
        case measure => simp [intOf]; omega
      · have HE := hid (leavesTo_yes HP.out)
        have HLn := hid (show (leavesTo ps (k + 1)).length = (leavesTo ps k).length + 1 by rw [HE.out, List.length_append]; rfl)
        skip
        go_wp2_with (at_builtin; refine append_int (xs := leavesTo ps k) (u := (k : Int)) hown1 (by omega) (by omega) _ _ rfl rfl rfl (by first | rfl | (simp <;> rfl)) ?_; intro v' w4 hown4 hb4)
        rw [← HE.out, ← HLn.out] at hown4
        have b14 := b11.below hb4 (by omega)
        have kw4 : Keeps w w4 := Below.trans kw1 (hb4.mono (by omega))
        have s4 := Nat.le_trans s1 hb4.size
        clear hown1 b11 kw1 s1 hb4
        go_wp2
        go_roundw
        case rel => exact ⟨k + 1, by omega, by go_num, hown4, b14, kw4, s4⟩
        case measure => simp [intOf]; omega
    · obtain rfl : k = n := by omega
      have HE := hid (show leavesTo ps k = leaves ps by unfold leaves; rw [HL.out])
      rw [HE.out] at hown hlen
      obtain ⟨A1, C1, rfl⟩ := hown.form
      have hm := (Mine.of_own hown (by omega)).widen (lo' := w.heap.size) (by omega) (Nat.le_refl _) (Nat.le_refl _)
      clear hown
      go_wp2
      go_ret
      exact ⟨_, _, rfl, hm, kw⟩
set_option maxRecDepth 100000 in
set_option maxHeartbeats 3200000 in
theorem gLeaves_any {A : Option Addr} {lo hi n c : Nat} {ps : List Int} {w : World} (h : Ints w lo hi A n ps) (hg : geoB ps = true) :
    Calls Tryz.prog 152 #[.agg #[.slice A n c]] w (LeafRes w (leaves ps)) := by
  have hn := h.le
  have hl := h.1
  have hgt := geoB_true.1 hg
  have hg0 := hgt.2.1
  have hn30 : n ≤ 30 := by omega
  have HL := hid hl
  have HG := hid hg0
  clear hl hgt hg0 hg
  have b1 : B1 (w.alloc (.cells #[.slice A n c] 32)) w.heap.size (.slice A n c) := B1.new' rfl
  have kw := keeps_alloc w (.cells #[.slice A n c] 32)
  have s0 : w.heap.size + 1 ≤ (w.alloc (.cells #[.slice A n c] 32)).heap.size := by simp
  go_enter Tryz.func152, Tryz.ntmps152
  obtain ⟨ca, fa⟩ := id b1
  go_wp2_with fail
  clear ca fa
  go_loopw [3, 8] (fun v i wr => ∃ k : Nat, k ≤ n ∧ i = .int .i64 k ∧ Has wr (w.heap.size + 1) 3 1 v (leavesTo ps k).length ((leavesTo ps k).map (Value.int .i64)) ∧ B1 wr w.heap.size (.slice A n c) ∧ Keeps w wr ∧ w.heap.size + 1 ≤ wr.heap.size) (fun _ i _ => n - (intOf i).toNat)
  case atStart => exact ⟨0, Nat.zero_le _, rfl, World.ownsRow_nil _ _ _ _, b1, kw, s0⟩
  clear b1 kw s0
  case round =>
    obtain ⟨k, hk, rfl, hown, b1, kw, s0⟩ := hrel
    have hlen := leavesTo_len ps k
    by_cases hlt : k < n
    · have hi1 : (k : Int) < (n : Int) := by omega
      obtain ⟨ca, fa⟩ := id b1
      go_wp2_with fail
      clear ca fa
      refine (gChildren_any (i := (k : Int)) (h.keeps kw) HG.out (by omega)).mono ?_
      rintro e w1 ⟨A', c', rfl, m1, k1⟩; clear m1
      have hown1 := Has.below hown k1
      have b11 := b1.keeps k1
      have kw1 := kw.trans k1
      have s1 := Nat.le_trans s0 k1.size
      clear hown b1 kw k1 s0
      obtain ⟨p, HP⟩ : ∃ p, Hid (leafB ps k = p) := ⟨_, rfl⟩
      skip
      cases p
      · have HE := hid (leavesTo_no HP.out)
        have hz : (((kids ps (k : Int)).length : Int) == 0) = false := by have := of_decide_eq_false (show decide ((kids ps (k : Int)).length = 0) = false from HP.out); rw [beq_eq_false_iff_ne]; omega
        go_wp2_with fail
        go_roundw
        case rel => exact ⟨k + 1, by omega, by go_num, by rw [HE.out]; exact hown1, b11, kw1, s1⟩
        case measure => simp [intOf]; omega
      · have HE := hid (leavesTo_yes HP.out)
        have HLn := hid (show (leavesTo ps (k + 1)).length = (leavesTo ps k).length + 1 by rw [HE.out, List.length_append]; rfl)
        have hz : (((kids ps (k : Int)).length : Int) == 0) = true := by have := of_decide_eq_true (show decide ((kids ps (k : Int)).length = 0) = true from HP.out); rw [beq_iff_eq]; omega
        go_wp2_with (at_builtin; refine append_int (xs := leavesTo ps k) (u := (k : Int)) hown1 (by omega) (by omega) _ _ rfl rfl rfl (by first | rfl | (simp <;> rfl)) ?_; intro v' w4 hown4 hb4)
        rw [← HE.out, ← HLn.out] at hown4
        have b14 := b11.below hb4 (by omega)
        have kw4 : Keeps w w4 := Below.trans kw1 (hb4.mono (by omega))
        have s4 := Nat.le_trans s1 hb4.size
        clear hown1 b11 kw1 s1 hb4
        go_wp2
        go_roundw
        case rel => exact ⟨k + 1, by omega, by go_num, hown4, b14, kw4, s4⟩
        case measure => simp [intOf]; omega
    · obtain rfl : k = n := by omega
      have HE := hid (show leavesTo ps k = leaves ps by unfold leaves; rw [HL.out])
      rw [HE.out] at hown hlen
      obtain ⟨A1, C1, rfl⟩ := hown.form
      have hm := (Mine.of_own hown (by omega)).widen (lo' := w.heap.size) (by omega) (Nat.le_refl _) (Nat.le_refl _)
      clear hown
      go_wp2
      go_ret
      exact ⟨_, _, rfl, hm, kw⟩
end Go.Proofs.YtlkjhkkfdmjfcaaGreatDoor
