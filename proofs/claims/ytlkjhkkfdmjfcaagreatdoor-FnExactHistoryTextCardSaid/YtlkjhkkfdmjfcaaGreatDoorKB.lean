/- Geographies: the laws' helpers, validity, children. -/
import Derived.Test.YtlkjhkkfdmjfcaaGreatDoorKA
import Derived.ProofKit
import Derived.OpenShut
import Derived.ShutString
import Derived.ChangeOld
import Derived.Deep.Slices
import Derived.Lib.SmallJoins
namespace Go.Proofs.YtlkjhkkfdmjfcaaGreatDoor
open Go.RowKit
set_option linter.unusedVariables false
set_option linter.unusedSimpArgs false

theorem keeps_alloc (w : World) (o : Obj) : Keeps w (w.alloc o) := (Below.refl _ _).alloc (Nat.le_refl _) o
theorem cell_keeps {w w' : World} {p : Addr} {v : Value} (h : w.cell? p = some v) (k : Keeps w w') : w'.cell? p = some v := (k.cell (World.block_lt_of_cell? w _ h)).trans h
theorem cell_fr {w w' : World} {p : Addr} {v : Value} {l h' : Nat} (h : w.cell? p = some v) (k : Fr l h' w w') (ho : p.block < l ∨ h' ≤ p.block) : w'.cell? p = some v := (k.cell (World.block_lt_of_cell? w _ h) ho).trans h
theorem cell_new (w : World) (v : Value) (t : TypeId) : (w.alloc (.cells #[v] t)).cell? ⟨w.heap.size, 0, none⟩ = some v := by
  rw [cell_of_row _ _ _ _ _ _ (heap_alloc_new w _)]; rfl
/-- A new box of one cell, in all worlds that keep it. -/
theorem box_keeps {w w' : World} {v : Value} {t : TypeId} (k : Keeps (w.alloc (.cells #[v] t)) w') : w'.cell? ⟨w.heap.size, 0, none⟩ = some v := cell_keeps (cell_new w v t) k
theorem alloc_keeps {w w' : World} {o : Obj} (k : Keeps (w.alloc o) w') : Keeps w w' := (keeps_alloc w o).trans k

def szI (left n : Int) : Int := if left - n < 0 then -1 else left - n
theorem szI_no {left n : Int} (h : left - n < 0) : szI left n = -1 := if_pos h
theorem szI_ok {left n : Int} (h : ¬ left - n < 0) : szI left n = left - n := if_neg h
theorem szIntS_any (A : Option Addr) (n c : Nat) (left : Int) (w : World) (h1 : n ≤ maxLen) (h2 : 0 ≤ left) (h3 : left ≤ 1048576) :
    Calls Tryz.prog 26 #[.slice A n c, .int .i64 left] w fun e w' => e = .returned (.int .i64 (szI left n)) ∧ w = w' := by
  unfold maxLen at h1
  by_cases h : left - (n : Int) < 0
  · have E := hid (szI_no h)
    go_enter Tryz.func26, Tryz.ntmps26
    go_wp2
    go_ret
    exact ⟨ret_int E.out.symm, rfl⟩
  · have E := hid (szI_ok h)
    go_enter Tryz.func26, Tryz.ntmps26
    go_wp2
    go_ret
    exact ⟨ret_int E.out.symm, rfl⟩

theorem szGeo_ok (A : Option Addr) (n c : Nat) (left : Int) (w : World) (h2 : left ≤ 1048576) (h3 : (n : Int) ≤ left) :
    Calls Tryz.prog 5 #[.agg #[.slice A n c], .int .i64 left] w fun e w' => e = .returned (.int .i64 (left - n)) ∧ Keeps w w' := by
  have E := hid (szI_ok (left := left) (n := n) (by omega))
  go_enter Tryz.func5, Tryz.ntmps5
  go_wp2_with fail
  refine (szIntS_any _ _ _ _ _ (by unfold maxLen; omega) (by omega) h2).mono ?_
  rintro e w' ⟨rfl, rfl⟩
  rw [E.out]
  go_wp2_with fail
  go_ret
  exact ⟨rfl, keeps_alloc _ _⟩
theorem szGeo_no (A : Option Addr) (n c : Nat) (left : Int) (w : World) (h1 : n ≤ maxLen) (h0 : 0 ≤ left) (h2 : left ≤ 1048576) (h3 : left < (n : Int)) :
    Calls Tryz.prog 5 #[.agg #[.slice A n c], .int .i64 left] w fun e w' => e = .returned (.int .i64 (-1)) ∧ Keeps w w' := by
  have E := hid (szI_no (left := left) (n := n) (by omega))
  go_enter Tryz.func5, Tryz.ntmps5
  go_wp2_with fail
  refine (szIntS_any _ _ _ _ _ h1 (by omega) h2).mono ?_
  rintro e w' ⟨rfl, rfl⟩
  rw [E.out]
  go_wp2_with fail
  go_ret
  exact ⟨rfl, keeps_alloc _ _⟩
theorem toGeo_any {A : Option Addr} {lo hi n c : Nat} {xs : List Int} {w : World} (h : Ints w lo hi A n xs) :
    Calls Tryz.prog 9 #[.agg #[.slice A n c]] w fun e w' => ∃ A', e = .returned (.agg #[.slice A' n n]) ∧ Mine w' w.heap.size w'.heap.size A' n xs ∧ Keeps w w' := by
  have h0 := ((h.keeps (keeps_alloc w (.cells #[.slice A n c] 24))).keeps (keeps_alloc _ (.cells #[.slice none 0 0] 32))).keeps (keeps_alloc _ (.cells #[.slice none 0 0] 32))
  go_enter Tryz.func9, Tryz.ntmps9
  go_wp2_with fail
  refine (toIntS_any h0).mono ?_
  rintro e w' ⟨A', rfl, hm, hk⟩
  have s := hk.size
  have c1 := hk.cell (p := ⟨w.heap.size + 1, 0, none⟩) (by simp)
  have c2 := hk.cell (p := ⟨w.heap.size + 1 + 1, 0, none⟩) (by simp)
  have f1 := hk.frozen (p := ⟨w.heap.size + 1, 0, none⟩) (by simp)
  have f2 := hk.frozen (p := ⟨w.heap.size + 1 + 1, 0, none⟩) (by simp)
  have k1 : Keeps w w' := alloc_keeps (alloc_keeps (alloc_keeps hk))
  simp at s
  have hb1 : Below w.heap.size w ((w'.setCell ⟨w.heap.size + 1 + 1, 0, none⟩ (.slice A' n n)).setCell ⟨w.heap.size + 1, 0, none⟩ (.slice A' n n)) := (k1.setCell (by simp; omega) _).setCell (by simp) _
  have fr : Fr (w.heap.size + 1) (w.heap.size + 3) w' ((w'.setCell ⟨w.heap.size + 1 + 1, 0, none⟩ (.slice A' n n)).setCell ⟨w.heap.size + 1, 0, none⟩ (.slice A' n n)) :=
    ((Fr.refl _ _ w').setCell (p := ⟨w.heap.size + 1 + 1, 0, none⟩) (by simp) (by simp) _).setCell (p := ⟨w.heap.size + 1, 0, none⟩) (by simp) (by simp) _
  have hm2 := ((hm.fr fr (.inl (by simp))).widen (lo' := w.heap.size) (hi' := w'.heap.size) (by simp; omega) (Nat.le_refl _) (by simp [World.setCell]))
  simp [go_sem] at c1 c2 f1 f2
  have HM := hid hm2
  have HB := hid hb1
  clear hm hk hm2 hb1 fr h0 h
  go_wp2_with fail
  refine bodyPost_ret (v := .agg #[.slice A' n n]) (by simp [results, Tryz.results9, go_sem, c1, c2]) rfl ⟨A', rfl, ?_, HB.out⟩
  have := HM.out
  simpa [World.setCell] using this
theorem eqGeo_true {A B : Option Addr} {lo hi lo' hi' n n' c c' : Nat} {xs : List Int} {w : World} (ha : Ints w lo hi A n xs) (hb : Ints w lo' hi' B n' xs) :
    Calls Tryz.prog 13 #[.agg #[.slice A n c], .agg #[.slice B n' c']] w fun e w' => e = .returned (.bool true) ∧ Keeps w w' := by
  have k := (keeps_alloc w (.cells #[.slice A n c] 32)).trans (keeps_alloc _ (.cells #[.slice B n' c'] 32))
  have ha' := ha.keeps k
  have hb' := hb.keeps k
  go_enter Tryz.func13, Tryz.ntmps13
  go_wp2_with fail
  refine (eqIntS_true ha' hb').mono ?_
  rintro e w' ⟨rfl, q⟩
  go_wp2_with fail
  go_ret
  exact ⟨rfl, k.trans q.keeps⟩

/-- 1 to 30 areas; the first is the root; each other one has an earlier parent. -/
def geoB (ps : List Int) : Bool := decide (1 ≤ ps.length ∧ ps.length ≤ 30) && (ps.getD 0 0 == -1) && (List.range ps.length).all fun i => decide (i = 0 ∨ 0 ≤ ps.getD i 0 ∧ ps.getD i 0 < (i : Int))
def ParTo (ps : List Int) (k : Nat) : Prop := ∀ i, i < k → 0 < i → 0 ≤ ps.getD i 0 ∧ ps.getD i 0 < (i : Int)
theorem geoB_true {ps : List Int} : geoB ps = true ↔ (1 ≤ ps.length ∧ ps.length ≤ 30) ∧ ps.getD 0 0 = -1 ∧ ParTo ps ps.length := by
  simp only [geoB, Bool.and_eq_true, decide_eq_true_eq, beq_iff_eq, List.all_eq_true, List.mem_range, ParTo, and_assoc]
  constructor
  · rintro ⟨h1, h2, h3, h4⟩
    exact ⟨h1, h2, h3, fun i hi h0 => by have := h4 i hi; omega⟩
  · rintro ⟨h1, h2, h3, h4⟩
    exact ⟨h1, h2, h3, fun i hi => by
      by_cases h0 : i = 0
      · exact .inl h0
      · exact .inr (h4 i hi (by omega))⟩
theorem geoB_len {ps : List Int} (h : ps.length < 1 ∨ 30 < ps.length) : geoB ps = false := by
  rw [Bool.eq_false_iff]; intro h1; have := (geoB_true.1 h1).1; omega
theorem geoB_root {ps : List Int} {x : Int} (hx : x = ps.getD 0 0) (h : x ≠ -1) : geoB ps = false := by
  rw [Bool.eq_false_iff]; intro h1; exact h (hx.trans (geoB_true.1 h1).2.1)
theorem geoB_par {ps : List Int} {k : Nat} {x : Int} (hk : k < ps.length) (h0 : 0 < k) (hx : x = ps.getD k 0) (h : x < 0 ∨ (k : Int) ≤ x) : geoB ps = false := by
  rw [Bool.eq_false_iff]; intro h1; have := (geoB_true.1 h1).2.2 k hk h0; omega
theorem parTo_succ {ps : List Int} {k : Nat} {x : Int} (h : ParTo ps k) (hx : x = ps.getD k 0) (h1 : 0 < k → 0 ≤ x ∧ x < (k : Int)) : ParTo ps (k + 1) := by
  intro i hi h0
  by_cases hik : i = k
  · subst hik; rw [← hx]; exact h1 h0
  · exact h i (by omega) h0

set_option maxHeartbeats 800000 in
theorem IsGeo_any {A : Option Addr} {lo hi n c : Nat} {ps : List Int} {w : World} (h : Ints w lo hi A n ps) :
    Calls Tryz.prog 49 #[.agg #[.slice A n c]] w fun e w' => e = .returned (.bool (geoB ps)) ∧ Keeps w w' := by
  have hn := h.le
  have hl := h.1
  have k := keeps_alloc w (.cells #[.slice A n c] 32)
  by_cases h1 : 1 ≤ n
  rotate_left
  · have HF := hid (geoB_len (ps := ps) (by omega))
    have t1 : (n : Int) < 1 := by omega
    go_enter Tryz.func49, Tryz.ntmps49
    go_wp2
    go_ret
    exact ⟨ret_bool HF.out.symm, k⟩
  have t1 : ¬ (n : Int) < 1 := by omega
  by_cases h2 : n ≤ 30
  rotate_left
  · have HF := hid (geoB_len (ps := ps) (by omega))
    have t2 : (30 : Int) < (n : Int) := by omega
    go_enter Tryz.func49, Tryz.ntmps49
    go_wp2
    go_ret
    exact ⟨ret_bool HF.out.symm, k⟩
  have t2 : ¬ (30 : Int) < (n : Int) := by omega
  have t0 : (0 : Int) < (n : Int) := by omega
  obtain ⟨b, off, x, rfl, _, hb, hc, hx⟩ := h.at_ (k := 0) (by omega)
  rw [Nat.add_zero] at hc
  have hbs : b < w.heap.size := by have := h.top; omega
  by_cases h3 : x = -1
  rotate_left
  · have HF := hid (geoB_root hx.out h3)
    have t3 : (x != -1) = true := by rw [bne_iff_ne]; exact h3
    go_enter Tryz.func49, Tryz.ntmps49
    go_wp2
    go_ret
    exact ⟨ret_bool HF.out.symm, k⟩
  subst h3
  have t3 : ((-1 : Int) != -1) = false := by decide
  go_enter Tryz.func49, Tryz.ntmps49
  go_wp2_with fail
  go_loop [3] (fun i => ∃ k : Nat, 1 ≤ k ∧ k ≤ n ∧ i = .int .i64 k ∧ Hid (ParTo ps k)) (fun i => n - (intOf i).toNat)
  case atStart => exact ⟨1, Nat.le_refl _, by omega, rfl, fun i hi h0 => by omega⟩
  case round =>
    obtain ⟨j, hj1, hj, rfl, hp⟩ := hrel
    clear hc
    by_cases hlt : j < n
    · obtain ⟨b', off', y, hA, _, hb', hcy, hy⟩ := (h.keeps k).at_ hlt
      obtain ⟨rfl, rfl⟩ : b = b' ∧ off = off' := by simpa using hA
      clear hA
      by_cases h4 : y < 0
      · have HF := hid (geoB_par (by omega) (by omega) hy.out (.inl h4))
        go_wp2
        go_ret
        exact ⟨ret_bool HF.out.symm, k⟩
      · by_cases h5 : (j : Int) ≤ y
        · have HF := hid (geoB_par (by omega) (by omega) hy.out (.inr h5))
          go_wp2
          go_ret
          exact ⟨ret_bool HF.out.symm, k⟩
        · have HP := hid (parTo_succ hp.out hy.out (fun _ => by omega))
          go_wp2
          go_round
          case rel => exact ⟨j + 1, by omega, by omega, by go_num, HP⟩
          case measure => simp [intOf]; omega
    · obtain rfl : j = n := by omega
      have HF := hid (geoB_true.2 ⟨⟨by omega, by omega⟩, hx.out.symm, by rw [hl]; exact hp.out⟩)
      go_wp2
      go_ret
      exact ⟨ret_bool HF.out.symm, k⟩
set_option maxHeartbeats 800000 in
theorem gGood_any {A : Option Addr} {lo hi n c : Nat} {ps : List Int} {w : World} (h : Ints w lo hi A n ps) :
    Calls Tryz.prog 85 #[.agg #[.slice A n c]] w fun e w' => e = .returned (.bool (geoB ps)) ∧ Keeps w w' := by
  have hn := h.le
  have hl := h.1
  have k := keeps_alloc w (.cells #[.slice A n c] 32)
  by_cases h1 : inB n 1 30 = true
  rotate_left
  · have h1 : inB n 1 30 = false := by simpa using h1
    have HF := hid (geoB_len (ps := ps) (by have := inB_false.1 h1; omega))
    have H1 := hid h1
    clear h1
    go_enter Tryz.func85, Tryz.ntmps85
    go_wp2_with (go_at_call 87; refine (l1In_any _ _ _ _).mono ?_; rintro e w' ⟨rfl, rfl⟩; rw [H1.out])
    go_ret
    exact ⟨ret_bool HF.out.symm, k⟩
  have h12 := inB_true.1 h1
  have H1 := hid h1
  clear h1
  have t0 : (0 : Int) < (n : Int) := by omega
  obtain ⟨b, off, x, rfl, _, hb, hc, hx⟩ := h.at_ (k := 0) (by omega)
  rw [Nat.add_zero] at hc
  have hbs : b < w.heap.size := by have := h.top; omega
  by_cases h3 : x = -1
  rotate_left
  · have HF := hid (geoB_root hx.out h3)
    have t3 : (x != -1) = true := by rw [bne_iff_ne]; exact h3
    go_enter Tryz.func85, Tryz.ntmps85
    go_wp2_with (go_at_call 87; refine (l1In_any _ _ _ _).mono ?_; rintro e w' ⟨rfl, rfl⟩; rw [H1.out])
    go_ret
    exact ⟨ret_bool HF.out.symm, k⟩
  subst h3
  have t3 : ((-1 : Int) != -1) = false := by decide
  go_enter Tryz.func85, Tryz.ntmps85
  go_wp2_with (go_at_call 87; refine (l1In_any _ _ _ _).mono ?_; rintro e w' ⟨rfl, rfl⟩; rw [H1.out])
  go_loop [20] (fun i => ∃ k : Nat, k ≤ n ∧ i = .int .i64 k ∧ Hid (ParTo ps k)) (fun i => n - (intOf i).toNat)
  case atStart => exact ⟨0, by omega, rfl, fun i hi h0 => by omega⟩
  case round =>
    obtain ⟨j, hj, rfl, hp⟩ := hrel
    clear hc
    by_cases hlt : j < n
    · obtain ⟨b', off', y, hA, _, hb', hcy, hy⟩ := (h.keeps k).at_ hlt
      obtain ⟨rfl, rfl⟩ : b = b' ∧ off = off' := by simpa using hA
      clear hA
      by_cases hj0 : 0 < j
      · have t4 : (0 : Int) < (j : Int) := by omega
        cases hin : inB y 0 ((j : Int) - 1) with
        | true =>
          have hi2 := inB_true.1 hin
          have HP := hid (parTo_succ hp.out hy.out (fun _ => by omega))
          have HI := hid hin
          clear hin
          go_wp2_with (go_at_call 87; refine (l1In_any _ _ _ _).mono ?_; rintro e w' ⟨rfl, rfl⟩; rw [HI.out])
          go_round
          case rel => exact ⟨j + 1, by omega, by go_num, HP⟩
          case measure => simp [intOf]; omega
        | false =>
          have hi2 := inB_false.1 hin
          have HF := hid (geoB_par (by omega) hj0 hy.out (by omega))
          have HI := hid hin
          clear hin hi2
          go_wp2_with (go_at_call 87; refine (l1In_any _ _ _ _).mono ?_; rintro e w' ⟨rfl, rfl⟩; rw [HI.out])
          go_ret
          exact ⟨ret_bool HF.out.symm, k⟩
      · obtain rfl : j = 0 := by omega
        rw [Nat.add_zero] at hcy
        have HP := hid (parTo_succ hp.out hy.out (fun h => by omega))
        go_wp2_with fail
        go_round
        case rel => exact ⟨0 + 1, by omega, by go_num, HP⟩
        case measure => simp [intOf]; omega
    · obtain rfl : j = n := by omega
      have HF := hid (geoB_true.2 ⟨⟨by omega, by omega⟩, hx.out.symm, by rw [hl]; exact hp.out⟩)
      go_wp2
      go_ret
      exact ⟨ret_bool HF.out.symm, k⟩
/-- The first k areas' children of i. -/
def isKid (ps : List Int) (i : Int) (j : Nat) : Bool := decide (0 < j) && (ps.getD j 0 == i)
def kidsTo (ps : List Int) (i : Int) (k : Nat) : List Int := ((List.range k).filter (isKid ps i)).map fun (j : Nat) => (j : Int)
def kids (ps : List Int) (i : Int) : List Int := kidsTo ps i ps.length
theorem kidsTo_yes {ps : List Int} {i x : Int} {k : Nat} (hx : x = ps.getD k 0) (h0 : 0 < k) (h : x = i) : kidsTo ps i (k + 1) = kidsTo ps i k ++ [(k : Int)] := by
  unfold kidsTo
  rw [List.range_succ, List.filter_append, List.map_append]
  have e : isKid ps i k = true := by unfold isKid; rw [← hx, h]; simp [h0]
  rw [List.filter_cons_of_pos e]; simp
theorem kidsTo_no {ps : List Int} {i x : Int} {k : Nat} (hx : x = ps.getD k 0) (h : k = 0 ∨ x ≠ i) : kidsTo ps i (k + 1) = kidsTo ps i k := by
  unfold kidsTo
  rw [List.range_succ, List.filter_append, List.map_append]
  have e : ¬ isKid ps i k = true := by unfold isKid; rw [← hx]; simp; omega
  rw [List.filter_cons_of_neg e]; simp
theorem kidsTo_len (ps : List Int) (i : Int) (k : Nat) : (kidsTo ps i k).length ≤ k := by
  unfold kidsTo
  rw [List.length_map]
  exact Nat.le_trans (List.length_filter_le _ _) (by simp)
theorem kidsTo_mem {ps : List Int} {i : Int} {k : Nat} {c : Int} (h : c ∈ kidsTo ps i k) : ∃ j : Nat, c = j ∧ 0 < j ∧ j < k ∧ ps.getD j 0 = i := by
  unfold kidsTo at h
  obtain ⟨j, hj, rfl⟩ := List.mem_map.1 h
  simp [isKid] at hj
  exact ⟨j, rfl, hj.2.1, hj.1, by simpa [List.getD] using hj.2.2⟩
theorem kids_getD {ps : List Int} {i : Int} {m : Nat} (h : m < (kids ps i).length) : ∃ j : Nat, (kids ps i).getD m 0 = j ∧ 0 < j ∧ j < ps.length ∧ ps.getD j 0 = i :=
  kidsTo_mem (by simp only [List.getD, List.getElem?_eq_getElem h, Option.getD_some]; exact List.getElem_mem h)

set_option maxHeartbeats 1600000 in
theorem gChildren_any {A : Option Addr} {lo hi n c : Nat} {ps : List Int} {i : Int} {w : World} (h : Ints w lo hi A n ps) (hg : ps.getD 0 0 = -1) (hi0 : 0 ≤ i) :
    Calls Tryz.prog 172 #[.agg #[.slice A n c], .int .i64 i] w fun e w' => ∃ A' c', e = .returned (.slice A' (kids ps i).length c') ∧ Mine w' w.heap.size w'.heap.size A' (kids ps i).length (kids ps i) ∧ Keeps w w' := by
  have hn := h.le
  have hl := h.1
  have HG := hid hg
  clear hg
  have k0 := keeps_alloc w (.cells #[.slice A n c] 32)
  go_enter Tryz.func172, Tryz.ntmps172
  go_wp2_with fail
  go_loopw [5, 11] (fun v t wr => ∃ k : Nat, k ≤ n ∧ t = .int .i64 k ∧ Has wr (w.heap.size + 1) 3 1 v (kidsTo ps i k).length ((kidsTo ps i k).map (Value.int .i64)) ∧ Keeps (w.alloc (.cells #[.slice A n c] 32)) wr) (fun _ t _ => n - (intOf t).toNat)
  case atStart => exact ⟨0, Nat.zero_le _, rfl, World.ownsRow_nil _ _ _ _, keeps_refl _⟩
  case round =>
    obtain ⟨k, hk, rfl, hown, hkeep⟩ := hrel
    have hkl := kidsTo_len ps i k
    by_cases hlt : k < n
    · obtain ⟨b, off, x, rfl, _, _, hx0, hx⟩ := ((h.keeps k0).keeps hkeep).at_ hlt
      have hs := hkeep.size
      simp at hs
      by_cases hxi : x = i
      · have t1 : (x == i) = true := by rw [beq_iff_eq]; exact hxi
        have hk0 : 0 < k := by
          rcases Nat.eq_zero_or_pos k with h0 | h0
          · subst h0; have := hx.out; have := HG.out; omega
          · exact h0
        have t2 : (0 : Int) < (k : Int) := by omega
        have HK := hid (kidsTo_yes hx.out hk0 hxi)
        clear hxi
        go_wp2_with (at_builtin; refine append_int (xs := kidsTo ps i k) hown (by omega) (by omega) _ _ rfl rfl rfl rfl ?_; intro v' w' hown' hb')
        have H1 := hid hown'
        rw [show (kidsTo ps i k).length + 1 = (kidsTo ps i k ++ [(k : Int)]).length by simp, ← HK.out] at H1
        have H2 := hid (Below.trans hkeep (hb'.mono (by simp)))
        clear hown' hb' hkeep hown
        go_wp2
        go_roundw
        case rel => exact ⟨k + 1, by omega, by go_num, H1.out, H2.out⟩
        case measure => simp [intOf]; omega
      · have t1 : (x == i) = false := by rw [beq_eq_false_iff_ne]; exact hxi
        have HK := hid (kidsTo_no hx.out (.inr hxi))
        have H1 := hid hown
        rw [← HK.out] at H1
        clear hxi hown
        go_wp2
        go_roundw
        case rel => exact ⟨k + 1, by omega, by go_num, H1.out, hkeep⟩
        case measure => simp [intOf]; omega
    · obtain rfl : k = n := by omega
      rw [← hl] at hown hkl
      obtain ⟨A', c', rfl⟩ := hown.form
      have HM := hid ((Mine.of_own hown (by omega)).widen (lo' := w.heap.size) (by omega) (Nat.le_refl _) (Nat.le_refl _))
      clear hown
      go_wp2
      go_ret
      exact ⟨A', c', rfl, HM.out, k0.trans hkeep⟩
end Go.Proofs.YtlkjhkkfdmjfcaaGreatDoor

/- Lists within bounds: iBounds, areLimits, areBounded; clamping: iClamp, shifted. -/
namespace Go.Proofs.YtlkjhkkfdmjfcaaGreatDoor
open Go.RowKit
set_option linter.unusedVariables false
set_option linter.unusedSimpArgs false

theorem l1Most_any (a b : Int) (w : World) : Calls Tryz.prog 174 #[.int .i64 a, .int .i64 b] w fun e w' => e = .returned (.int .i64 (max a b)) ∧ w = w' := by
  by_cases h : b < a
  · go_enter Tryz.func174, Tryz.ntmps174
    go_wp2
    go_ret
    exact ⟨ret_int (by omega), rfl⟩
  · go_enter Tryz.func174, Tryz.ntmps174
    go_wp2
    go_ret
    exact ⟨ret_int (by omega), rfl⟩

theorem l1Abs_any {a : Int} {w : World} (h1 : -4611686018427387904 ≤ a) (h2 : a ≤ 4611686018427387904) : Calls Tryz.prog 156 #[.int .i64 a] w fun e w' => e = .returned (.int .i64 (max a (-a))) ∧ w = w' := by
  go_enter Tryz.func156, Tryz.ntmps156
  go_wp2_with (go_at_call 174; refine (l1Most_any _ _ _).mono ?_; rintro e w' ⟨rfl, rfl⟩)
  go_ret
  exact ⟨rfl, rfl⟩
theorem go_max (a b : Int) : (if a < b then b else a) = max a b := by omega
theorem go_min (a b : Int) : (if b < a then b else a) = min a b := by omega
/-- The values plus a number, within the bounds. -/
def clampL (xs lo hi : List Int) (by' : Int) : List Int := (List.range xs.length).map fun i => min (max (xs.getD i 0 + by') (lo.getD i 0)) (hi.getD i 0)
theorem clampL_len (xs lo hi : List Int) (b : Int) : (clampL xs lo hi b).length = xs.length := by simp [clampL]
theorem clampL_getD (xs lo hi : List Int) (b : Int) (k : Nat) (h : k < xs.length) : (clampL xs lo hi b).getD k 0 = min (max (xs.getD k 0 + b) (lo.getD k 0)) (hi.getD k 0) := by simp [clampL, List.getD, h]
def Ordered (lo hi : List Int) : Prop := ∀ j, lo.getD j 0 ≤ hi.getD j 0

/-- The first k lower bounds are not above the upper ones. -/
def Below_ (lo hi : List Int) (k : Nat) : Prop := ∀ j, j < k → lo.getD j 0 ≤ hi.getD j 0
def leB (lo hi : List Int) : Bool := (List.range lo.length).all fun j => decide (lo.getD j 0 ≤ hi.getD j 0)
theorem leB_true {lo hi : List Int} : leB lo hi = true ↔ Below_ lo hi lo.length := by simp [leB, Below_]
theorem leB_no {lo hi : List Int} {k : Nat} (hk : k < lo.length) {x y : Int} (hx : x = lo.getD k 0) (hy : y = hi.getD k 0) (h : y < x) : leB lo hi = false := by
  rw [Bool.eq_false_iff]; intro h1; have := leB_true.1 h1 k hk; omega
theorem below_succ {lo hi : List Int} {k : Nat} (h : Below_ lo hi k) {x y : Int} (hx : x = lo.getD k 0) (hy : y = hi.getD k 0) (h1 : x ≤ y) : Below_ lo hi (k + 1) := by
  intro j hj
  by_cases hjk : j = k
  · subst hjk; omega
  · exact h j (by omega)
theorem ordered_of {lo hi : List Int} (h : leB lo hi = true) (hl : lo.length = hi.length) : Ordered lo hi := by
  intro j
  by_cases hj : j < lo.length
  · exact leB_true.1 h j hj
  · simp [List.getD, List.getElem?_eq_none (Nat.le_of_not_lt hj), List.getElem?_eq_none (show hi.length ≤ j by omega)]
def limitsB (lo hi : List Int) : Bool := partsB lo && partsB hi && decide (lo.length = hi.length) && leB lo hi
def boundedB (vs lo hi : List Int) : Bool := partsB vs && limitsB lo hi && decide (lo.length = vs.length)
theorem limitsB_true {lo hi : List Int} : limitsB lo hi = true ↔ partsB lo = true ∧ partsB hi = true ∧ lo.length = hi.length ∧ leB lo hi = true := by simp [limitsB, and_assoc]
theorem boundedB_true {vs lo hi : List Int} : boundedB vs lo hi = true ↔ partsB vs = true ∧ limitsB lo hi = true ∧ lo.length = vs.length := by simp [boundedB, and_assoc]
theorem boundedB_same (lo hi : List Int) : boundedB lo lo hi = limitsB lo hi := by
  cases h : limitsB lo hi with
  | false => simp [boundedB, h]
  | true => simp [boundedB, h, (limitsB_true.1 h).1]

def sgn (a : Int) : Int := if a < 0 then -1 else if 0 < a then 1 else 0
end Go.Proofs.YtlkjhkkfdmjfcaaGreatDoor

/- How a law's arguments are opened: what the walk is told of each. -/
namespace Go.Proofs.YtlkjhkkfdmjfcaaGreatDoor
open Go.ChangeShapes Go.WideShapes Go.ChangeAt Go.RowKit
set_option linter.unusedVariables false
set_option linter.unusedSimpArgs false

theorem own : ownKnob Tryz.prog.godebug = none := by kernel_rfl
theorem laidOut : laidOutB Tryz.prog = true := by kernel_rfl

/-- A slice of ints that came in: where it is not beyond all bounds it reads as xs. -/
def IntsArg (w : World) (A : Option Addr) (n : Nat) (xs : List Int) : Prop :=
  n ≤ maxLen ∧ (n ≤ 67108864 → Ints w 0 w.heap.size A n xs) ∧ ∀ j, -9223372036854775808 ≤ xs.getD j 0 ∧ xs.getD j 0 ≤ 9223372036854775807
theorem IntsArg.ints {w : World} {A : Option Addr} {n : Nat} {xs : List Int} (h : IntsArg w A n xs) (hn : n ≤ 67108864) : Ints w 0 w.heap.size A n xs := h.2.1 hn

section
variable {H : Type} {enc : TypeId × Value → H} {w : World} {spare : Nat → Bool} {held : Bool}
theorem open_ints_cell {fuel : Nat} {A : Option Addr} {n c : Nat} {x : DataW H × List MemPlace} (hs : ∀ b, spare b = true)
    (h : DataW.trod enc Tryz.prog w 0 spare held fuel 22 [.slice A n c] = some x) : ∃ xs, IntsArg w A n xs := by
  rcases open_ints Tryz.underlying22 Tryz.underlying3 (by kernel_rfl) h with ⟨hcs, _⟩ | ⟨a, l, c', zs, hcs, _, hl, hm, hz, _, hcell, hwz⟩
  · simp at hcs
    obtain ⟨rfl, rfl, rfl⟩ := hcs
    refine ⟨[], by simp, fun _ => Ints.nil_ w _ _, fun j => by simp⟩
  · simp at hcs
    obtain ⟨rfl, rfl, rfl⟩ := hcs
    have hzl : n ≤ zs.length := by simp [hs] at hz; omega
    refine ⟨zs.take n, by omega, fun hn => ⟨by simp; omega, by omega, Nat.le_refl _, fun h0 => ?_⟩, fun j => ?_⟩
    · obtain ⟨b, off, spot⟩ := a
      have hc0 := hcell 0 (by omega)
      have hsp : spot = none := by simpa [Addr.add] using World.cell?_spot hc0
      subst hsp
      refine ⟨b, off, rfl, Nat.zero_le _, ?_, fun j hj => ?_⟩
      · rcases Nat.lt_or_ge b w.heap.size with h1 | h1
        · exact h1
        · simp [World.cell?, Addr.add, Array.getElem?_eq_none h1] at hc0
      · have := hcell j (by omega)
        rw [Addr.add_lit] at this
        rw [this]
        simp [List.getD, List.getElem?_take, hj]
    · by_cases hj : j < (zs.take n).length
      · have hmem : (zs.take n).getD j 0 ∈ zs := by
          simp only [List.getD, List.getElem?_eq_getElem hj, Option.getD_some]
          exact List.mem_of_mem_take (List.getElem_mem hj)
        have := hwz _ hmem
        exact bounds_i64 this
      · simp [List.getD, List.getElem?_eq_none (Nat.le_of_not_lt hj)]
set_option maxRecDepth 100000 in
theorem open_arg_ints {r : Reach} {b0 : Nat} {v : Value} {d : DataW H} {p : List MemPlace} (hv : Value.okWide Tryz.prog w r b0 22 v) (h : DataW.Trod enc Tryz.prog w 0 (fun _ => true) held 22 v d p) :
    ∃ A n c xs, v = .slice A n c ∧ IntsArg w A n xs := by
  obtain ⟨A, n, c, rfl⟩ := okWide_slice Tryz.underlying22 hv
  obtain ⟨fuel, hf⟩ := h
  obtain ⟨xs, hx⟩ := open_ints_cell (fun _ => rfl) hf
  exact ⟨A, n, c, xs, rfl, hx⟩
set_option maxRecDepth 100000 in
/-- One cell read as a slice of ints. -/
theorem open_ints_list {fuel : Nat} {cs : List Value} {x : DataW H × List MemPlace} (hs : ∀ b, spare b = true)
    (h : DataW.trod enc Tryz.prog w 0 spare held fuel 22 cs = some x) : ∃ A n c xs, cs = [.slice A n c] ∧ IntsArg w A n xs := by
  rcases open_ints Tryz.underlying22 Tryz.underlying3 (by kernel_rfl) h with ⟨hcs, _⟩ | ⟨a, l, c', zs, hcs, _⟩
  · subst hcs
    obtain ⟨xs, hx⟩ := open_ints_cell hs h
    exact ⟨_, _, _, xs, rfl, hx⟩
  · subst hcs
    obtain ⟨xs, hx⟩ := open_ints_cell hs h
    exact ⟨_, _, _, xs, rfl, hx⟩
theorem cells_geo : Tryz.prog.cellsOf 24 = 1 := by kernel_rfl
theorem cells_ints : Tryz.prog.cellsOf 22 = 1 := by kernel_rfl
set_option maxRecDepth 100000 in
theorem open_arg_geo {r : Reach} {b0 : Nat} {v : Value} {d : DataW H} {p : List MemPlace} (hv : Value.okWide Tryz.prog w r b0 24 v) (h : DataW.Trod enc Tryz.prog w 0 (fun _ => true) held 24 v d p) :
    ∃ A n c xs, v = .agg #[.slice A n c] ∧ IntsArg w A n xs := by
  obtain ⟨cs, rfl, hsz⟩ := okWide_struct Tryz.underlying24 hv
  rw [cells_geo] at hsz
  obtain ⟨l⟩ := cs
  match l, hsz with
  | [c0], _ =>
    obtain ⟨fuel, hf⟩ := h
    obtain ⟨y0, m, _, _, hy⟩ := trod_struct1 Tryz.underlying24 hf
    obtain ⟨A, n, c, xs, hcs, hx⟩ := open_ints_list (fun _ => rfl) hy
    refine ⟨A, n, c, xs, ?_, hx⟩
    simp [Value.cells, cells_ints] at hcs
    rw [hcs]
end
end Go.Proofs.YtlkjhkkfdmjfcaaGreatDoor

/- Fractions: plain facts on greatest common divisors and reducing; slices of fractions in memory. No walk. -/
namespace Go.Proofs.YtlkjhkkfdmjfcaaGreatDoor
open Go.RowKit
set_option linter.unusedVariables false
set_option linter.unusedSimpArgs false

theorem gcd_emod (a b : Int) : Int.gcd b (a % b) = Int.gcd a b := by
  rw [Int.emod_def, show a - b * (a / b) = a - (a / b) * b by rw [Int.mul_comm], Int.gcd_sub_mul_right_right, Int.gcd_comm]
theorem gcd_tmod (a b : Int) : Int.gcd b (a.tmod b) = Int.gcd a b := by
  rw [Int.tmod_def, show a - b * a.tdiv b = a - (a.tdiv b) * b by rw [Int.mul_comm], Int.gcd_sub_mul_right_right, Int.gcd_comm]
theorem tmod_abs_lt (a b : Int) (h : b ≠ 0) : (a.tmod b).natAbs < b.natAbs := by
  rw [Int.natAbs_tmod]; exact Nat.mod_lt _ (by omega)

/-- n/d in lowest terms with a positive denominator, where it is a valid fraction. -/
def redN (n d : Int) : Int := if d < 0 then -(n / (Int.gcd n d : Int)) else n / (Int.gcd n d : Int)
def redD (n d : Int) : Int := if d < 0 then -(d / (Int.gcd n d : Int)) else d / (Int.gcd n d : Int)
def redOk (n d : Int) : Bool := decide (-1000000000 ≤ redN n d ∧ redN n d ≤ 1000000000 ∧ redD n d ≤ 1000000000)
def red (n d : Int) : Int × Int × Bool := if redOk n d then (redN n d, redD n d, true) else (0, 0, false)
theorem gcd_pos {n d : Int} (h : d ≠ 0) : 0 < Int.gcd n d := Int.gcd_pos_of_ne_zero_right _ h
theorem redD_pos {n d : Int} (h : d ≠ 0) : 1 ≤ redD n d := by
  have hg := gcd_pos (n := n) h
  obtain ⟨q, hq⟩ := Int.gcd_dvd_right n d
  have hd : d / (Int.gcd n d : Int) = q := by
    rw [Int.ediv_eq_of_eq_mul_right (by omega) hq]
  unfold redD
  rw [hd]
  by_cases h0 : d < 0
  · rw [if_pos h0]
    have : q < 0 := by
      rcases Int.lt_or_le q 0 with h1 | h1
      · exact h1
      · have := Int.mul_nonneg (Int.natCast_nonneg (Int.gcd n d)) h1; omega
    omega
  · rw [if_neg h0]
    have : 0 < q := by
      rcases Int.lt_or_le 0 q with h1 | h1
      · exact h1
      · have := Int.mul_nonpos_of_nonneg_of_nonpos (Int.natCast_nonneg (Int.gcd n d)) h1; omega
    omega
theorem red_gcd {n d : Int} (h : d ≠ 0) : Int.gcd (redN n d) (redD n d) = 1 := by
  have := Int.gcd_ediv_gcd_ediv_gcd (i := n) (j := d) (gcd_pos h)
  unfold redN redD
  split
  · rw [Int.gcd_neg, Int.neg_gcd]; exact this
  · exact this
theorem quo_le {n g B : Int} (hg : 1 ≤ g) (h : -B ≤ n ∧ n ≤ B) : -B ≤ n / g ∧ n / g ≤ B := by
  have h0 : 0 ≤ B := by omega
  constructor
  · rw [Int.le_ediv_iff_mul_le (by omega)]
    have := Int.mul_le_mul_of_nonneg_left hg h0
    rw [Int.neg_mul]; omega
  · apply Int.le_of_lt_add_one
    rw [Int.ediv_lt_iff_lt_mul (by omega)]
    have h1 := Int.mul_le_mul_of_nonneg_left hg (show 0 ≤ B + 1 by omega)
    omega
theorem gcd_le {n d B : Int} (hd : d ≠ 0) (h : -B ≤ d ∧ d ≤ B) : (Int.gcd n d : Int) ≤ B := by
  have h1 : Int.gcd n d ≤ d.natAbs := Nat.le_of_dvd (by omega) (Nat.gcd_dvd_right _ _)
  omega

theorem tdiv_gcd_left (n d : Int) : n.tdiv (Int.gcd n d : Int) = n / (Int.gcd n d : Int) := Int.tdiv_eq_ediv_of_dvd (Int.gcd_dvd_left _ _)
theorem tdiv_gcd_right (n d : Int) : d.tdiv (Int.gcd n d : Int) = d / (Int.gcd n d : Int) := Int.tdiv_eq_ediv_of_dvd (Int.gcd_dvd_right _ _)
theorem red_yes {n d : Int} (h1 : redN n d ≤ 1000000000) (h2 : -1000000000 ≤ redN n d) (h3 : redD n d ≤ 1000000000) : red n d = (redN n d, redD n d, true) := by
  have : redOk n d = true := by simp [redOk, h1, h2, h3]
  simp [red, this]
theorem red_no {n d : Int} (h : 1000000000 < redN n d ∨ redN n d < -1000000000 ∨ 1000000000 < redD n d) : red n d = (0, 0, false) := by
  have : redOk n d = false := by simp only [redOk, decide_eq_false_iff_not]; omega
  simp [red, this]
/-- A valid fraction. -/
def fracB (n d : Int) : Bool := decide (1 ≤ d ∧ d ≤ 1000000000) && decide (-1000000000 ≤ n ∧ n ≤ 1000000000) && (Int.gcd n d == 1)
theorem fracB_true {n d : Int} : fracB n d = true ↔ (1 ≤ d ∧ d ≤ 1000000000) ∧ (-1000000000 ≤ n ∧ n ≤ 1000000000) ∧ Int.gcd n d = 1 := by simp [fracB, and_assoc]
theorem red_frac {n d : Int} (h : d ≠ 0) : fracB (redN n d) (redD n d) = redOk n d := by
  rw [Bool.eq_iff_iff, fracB_true]
  simp only [redOk, decide_eq_true_eq]
  have := redD_pos (n := n) h
  have := red_gcd (n := n) h
  omega

/-- The slice (A, n) reads as the cells cs, sz of them an element, in blocks from lo to hi. -/
def Sl (sz : Nat) (w : World) (lo hi : Nat) (A : Option Addr) (n : Nat) (cs : List Value) : Prop :=
  cs.length = n * sz ∧ n ≤ 67108864 ∧ hi ≤ w.heap.size ∧
  (0 < n → ∃ b off, A = some ⟨b, off, none⟩ ∧ lo ≤ b ∧ b < hi ∧ ∀ j, j < n * sz → w.cell? ⟨b, off + j, none⟩ = some (cs.getD j undef))
/-- The same, and its cells may be written. -/
def SlM (sz : Nat) (w : World) (lo hi : Nat) (A : Option Addr) (n : Nat) (cs : List Value) : Prop :=
  Sl sz w lo hi A n cs ∧ (∀ b off, A = some ⟨b, off, none⟩ → ∀ j, j < n * sz → w.frozen? ⟨b, off + j, none⟩ = false)
section
variable {w w' : World} {lo hi n sz : Nat} {A : Option Addr} {cs : List Value}
theorem Sl.le (h : Sl sz w lo hi A n cs) : n ≤ 67108864 := h.2.1
theorem Sl.top (h : Sl sz w lo hi A n cs) : hi ≤ w.heap.size := h.2.2.1
theorem Sl.fr {l h' : Nat} (h : Sl sz w lo hi A n cs) (hf : Fr l h' w w') (ho : h' ≤ lo ∨ hi ≤ l ∨ h' ≤ l) : Sl sz w' lo hi A n cs :=
  ⟨h.1, h.2.1, Nat.le_trans h.top hf.size, fun hn => by
    obtain ⟨b, off, e, hl, hb, hc⟩ := h.2.2.2 hn
    have := h.top
    exact ⟨b, off, e, hl, hb, fun j hj => (hf.cell (p := ⟨b, off + j, none⟩) (by show b < _; omega) (by show b < _ ∨ _ ≤ b; omega)).trans (hc j hj)⟩⟩
theorem Sl.keeps (h : Sl sz w lo hi A n cs) (hb : Keeps w w') : Sl sz w' lo hi A n cs := h.fr (Fr.of_keeps hb 0 0) (by omega)
theorem Sl.quiet (h : Sl sz w lo hi A n cs) (hb : Quiet w w') : Sl sz w' lo hi A n cs := h.keeps hb.keeps
theorem Sl.drew (h : Sl sz w lo hi A n cs) : Sl sz w.drew lo hi A n cs := h
theorem Sl.widen {lo' hi' : Nat} (h : Sl sz w lo hi A n cs) (h1 : lo' ≤ lo) (h2 : hi ≤ hi') (h3 : hi' ≤ w.heap.size) : Sl sz w lo' hi' A n cs :=
  ⟨h.1, h.2.1, h3, fun hn => by
    obtain ⟨b, off, e, hl, hb, hc⟩ := h.2.2.2 hn
    exact ⟨b, off, e, by omega, by omega, hc⟩⟩
theorem Sl.nil_ (w : World) (A : Option Addr) (lo : Nat) : Sl sz w lo w.heap.size A 0 [] := ⟨by simp, by omega, Nat.le_refl _, fun h => absurd h (by omega)⟩
theorem SlM.sl (h : SlM sz w lo hi A n cs) : Sl sz w lo hi A n cs := h.1
theorem SlM.fr {l h' : Nat} (h : SlM sz w lo hi A n cs) (hf : Fr l h' w w') (ho : h' ≤ lo ∨ hi ≤ l ∨ h' ≤ l) : SlM sz w' lo hi A n cs :=
  ⟨h.1.fr hf ho, fun b off e j hj => by
    have hn : 0 < n := by
      rcases Nat.eq_zero_or_pos n with h0 | h0
      · subst h0; simp at hj
      · exact h0
    obtain ⟨b', off', e', hl, hb, _⟩ := h.1.2.2.2 hn
    have := h.1.top
    rw [e] at e'
    obtain ⟨rfl, rfl⟩ : b = b' ∧ off = off' := by simpa using e'
    exact (hf.frozen (p := ⟨b, off + j, none⟩) (by show b < _; omega) (by show b < _ ∨ _ ≤ b; omega)).trans (h.2 b off e j hj)⟩
theorem SlM.keeps (h : SlM sz w lo hi A n cs) (hb : Keeps w w') : SlM sz w' lo hi A n cs := h.fr (Fr.of_keeps hb 0 0) (by omega)
theorem SlM.quiet (h : SlM sz w lo hi A n cs) (hb : Quiet w w') : SlM sz w' lo hi A n cs := h.keeps hb.keeps
theorem SlM.drew (h : SlM sz w lo hi A n cs) : SlM sz w.drew lo hi A n cs := h
theorem SlM.widen {lo' hi' : Nat} (h : SlM sz w lo hi A n cs) (h1 : lo' ≤ lo) (h2 : hi ≤ hi') (h3 : hi' ≤ w.heap.size) : SlM sz w lo' hi' A n cs := ⟨h.1.widen h1 h2 h3, h.2⟩
theorem SlM.nil_ (w : World) (lo : Nat) : SlM sz w lo w.heap.size none 0 [] := ⟨Sl.nil_ w _ lo, fun b off e => by cases e⟩
/-- A store into cell k. -/
theorem SlM.set_ {k b off : Nat} (h : SlM sz w lo hi (some ⟨b, off, none⟩) n cs) (hk : k < n * sz) (u : Value) :
    SlM sz (w.setCell ⟨b, off + k, none⟩ u) lo hi (some ⟨b, off, none⟩) n (cs.set k u) ∧ Fr lo hi w (w.setCell ⟨b, off + k, none⟩ u) := by
  obtain ⟨⟨h1, h2, h3, h4⟩, h5⟩ := h
  have hn : 0 < n := by
    rcases Nat.eq_zero_or_pos n with h0 | h0
    · subst h0; simp at hk
    · exact h0
  obtain ⟨b', off', e, hl, hb, hc⟩ := h4 hn
  obtain ⟨rfl, rfl⟩ : b = b' ∧ off = off' := by simpa using e
  refine ⟨⟨⟨by simpa using h1, h2, by simpa [World.setCell] using h3, fun _ => ⟨b, off, rfl, hl, hb, fun j hj => ?_⟩⟩, fun b' off' e' j hj => ?_⟩, (Fr.refl lo hi w).setCell (p := ⟨b, off + k, none⟩) hl hb _⟩
  · by_cases hjk : j = k
    · subst hjk
      rw [World.cell?_setCell_same _ _ _ (hc j hj)]
      simp [List.getD, h1, hj]
    · rw [World.cell?_setCell_other w _ _ _ (by intro e; injection e with _ e; omega), hc j hj]
      simp [List.getD, List.getElem?_set_ne (Ne.symm hjk)]
  · rw [World.frozen?_setCell]; exact h5 b' off' e' j hj
end
/-- An owned row (the kit's word for what append makes) is a slice that may be written. -/
theorem SlM.of_own {w : World} {base n sz c : Nat} {A : Option Addr} {e : TypeId} {cs : List Value} (h : w.ownsRow base e sz (.slice A n c) n cs) (hs : n ≤ 67108864) (hsz : 0 < sz) : SlM sz w base w.heap.size A n cs := by
  obtain ⟨h1, h2⟩ := h
  rcases h2 with ⟨h2, rfl⟩ | ⟨g, cap, cur, hv, hg, hh, hnc, hcm, hcs, htake⟩
  · refine ⟨⟨h1, hs, Nat.le_refl _, fun h => absurd h (by omega)⟩, fun b off e j hj => absurd hj (by simp)⟩
  · have hA : A = some ⟨g, 0, none⟩ := by injection hv
    subst hA
    have hlt : g < w.heap.size := (Array.getElem?_eq_some_iff.1 hh).1
    refine ⟨⟨h1, hs, Nat.le_refl _, fun _ => ⟨g, 0, rfl, hg, hlt, fun j hj => ?_⟩⟩, fun b off e j hj => ?_⟩
    · rw [Nat.zero_add, cell_of_row w g j cur _ _ hh]
      have h3 : (cur.toList.take (n * sz))[j]? = some (cs.getD j undef) := by
        rw [htake]; simp [List.getD, h1, hj]
      rw [List.getElem?_take, if_pos (by omega)] at h3
      simpa using h3
    · obtain ⟨rfl, rfl⟩ : g = b ∧ 0 = off := by simpa using e
      simp [World.frozen?, hh]
/-- Block g is just the cells cs of element type t, none frozen. -/
def OwnC (w : World) (g : Nat) (t : TypeId) (cs : List Value) : Prop := w.heap[g]? = some (.cells cs.toArray t (0, 0))
section
variable {w w' : World} {g : Nat} {t : TypeId} {cs : List Value}
theorem OwnC.lt (h : OwnC w g t cs) : g < w.heap.size := (Array.getElem?_eq_some_iff.1 h).1
theorem OwnC.cell (h : OwnC w g t cs) (j : Nat) (hj : j < cs.length) : w.cell? ⟨g, j, none⟩ = some (cs.getD j undef) := by
  rw [cell_of_row w g j _ _ _ h]; simp [List.getD, hj]
theorem OwnC.frozen (h : OwnC w g t cs) (i : Nat) : w.frozen? ⟨g, i, none⟩ = false := by unfold OwnC at h; simp [World.frozen?, h]
theorem OwnC.slm (h : OwnC w g t cs) {n sz lo hi : Nat} (hn : cs.length = n * sz) (hs : n ≤ 67108864) (h1 : lo ≤ g) (h2 : g < hi) (h3 : hi ≤ w.heap.size) : SlM sz w lo hi (some ⟨g, 0, none⟩) n cs :=
  ⟨⟨hn, hs, h3, fun _ => ⟨g, 0, rfl, h1, h2, fun j hj => by rw [Nat.zero_add]; exact h.cell j (by omega)⟩⟩, fun b off e j hj => by
    obtain ⟨rfl, rfl⟩ : g = b ∧ 0 = off := by simpa using e
    exact h.frozen _⟩
theorem OwnC.below {B : Nat} (h : OwnC w g t cs) (hb : Below B w w') (hg : g < B) : OwnC w' g t cs := (hb.block g hg).trans h
theorem OwnC.keeps (h : OwnC w g t cs) (hb : Keeps w w') : OwnC w' g t cs := h.below hb h.lt
theorem OwnC.drewN (h : OwnC w g t cs) (n : Nat) : OwnC (w.drewN n) g t cs := h
theorem OwnC.set_ (h : OwnC w g t cs) (i : Nat) (u : Value) : OwnC (w.setCell ⟨g, i, none⟩ u) g t (cs.set i u) := by
  unfold OwnC at h ⊢
  simp [World.setCell, Array.getElem?_modify, h]
theorem OwnC.far (h : OwnC w g t cs) {p : Addr} (hp : g ≠ p.block) (u : Value) : OwnC (w.setCell p u) g t cs := (Below.heap_setCell w p u g hp).trans h
end

/-- A fraction's two cells. -/
def fr2 (f : Int × Int) : List Value := [.int .i64 f.1, .int .i64 f.2]
def frs (l : List (Int × Int)) : List Value := l.flatMap fr2
theorem frs_len (l : List (Int × Int)) : (frs l).length = l.length * 2 := by
  induction l with
  | nil => rfl
  | cons a r ih =>
    have e : (frs (a :: r)).length = 2 + (frs r).length := by simp [frs, fr2]; omega
    rw [e, ih, List.length_cons]; omega
theorem frs_at (l : List (Int × Int)) (k : Nat) (h : k < l.length) : (frs l).getD (k * 2) undef = .int .i64 (l.getD k (0, 0)).1 ∧ (frs l).getD (k * 2 + 1) undef = .int .i64 (l.getD k (0, 0)).2 := by
  induction l generalizing k with
  | nil => simp at h
  | cons a r ih =>
    cases k with
    | zero => simp [frs, fr2]
    | succ k =>
      have := ih k (by simpa using h)
      have e1 : (k + 1) * 2 = k * 2 + 2 := by omega
      have e2 : (k + 1) * 2 + 1 = k * 2 + 1 + 2 := by omega
      rw [e1, show k * 2 + 2 + 1 = k * 2 + 1 + 2 by omega]
      simpa [frs, fr2, List.getD] using this
theorem frs_append (l r : List (Int × Int)) : frs (l ++ r) = frs l ++ frs r := by simp [frs]
abbrev Fracs (w : World) (lo hi : Nat) (A : Option Addr) (n : Nat) (l : List (Int × Int)) : Prop := Sl 2 w lo hi A n (frs l)
abbrev FracsM (w : World) (lo hi : Nat) (A : Option Addr) (n : Nat) (l : List (Int × Int)) : Prop := SlM 2 w lo hi A n (frs l)
theorem Fracs.len {w : World} {lo hi n : Nat} {A : Option Addr} {l : List (Int × Int)} (h : Fracs w lo hi A n l) : l.length = n := by
  have := h.1; rw [frs_len] at this; omega
theorem Fracs.at_ {w : World} {lo hi n k : Nat} {A : Option Addr} {l : List (Int × Int)} (h : Fracs w lo hi A n l) (hk : k < n) :
    ∃ b off x y, A = some ⟨b, off, none⟩ ∧ lo ≤ b ∧ b < hi ∧ w.cell? ⟨b, off + k * 2, none⟩ = some (.int .i64 x) ∧ w.cell? ⟨b, off + k * 2 + 1, none⟩ = some (.int .i64 y) ∧ Hid ((x, y) = l.getD k (0, 0)) := by
  obtain ⟨b, off, e, hl, hb, hc⟩ := h.2.2.2 (by omega)
  have h1 := hc (k * 2) (by omega)
  have h2 := hc (k * 2 + 1) (by omega)
  have := h.len
  have h3 := frs_at l k (by omega)
  rw [h3.1] at h1
  rw [h3.2] at h2
  exact ⟨b, off, _, _, e, hl, hb, h1, h2, rfl⟩
theorem frs_set (l : List (Int × Int)) (k : Nat) (x y : Int) : ((frs l).set (k * 2) (.int .i64 x)).set (k * 2 + 1) (.int .i64 y) = frs (l.set k (x, y)) := by
  induction l generalizing k with
  | nil => simp [frs]
  | cons a r ih =>
    cases k with
    | zero => simp [frs, fr2]
    | succ k =>
      have e1 : (k + 1) * 2 = k * 2 + 2 := by omega
      have e2 : (k + 1) * 2 + 1 = k * 2 + 1 + 2 := by omega
      rw [e1, show k * 2 + 2 + 1 = k * 2 + 1 + 2 by omega]
      have := ih k
      simpa [frs, fr2] using this
/-- Pairs of successive numbers. -/
def pio (k : Int) (n : Nat) : List (Int × Int) := (List.range n).map fun (j : Nat) => (k + 2 * (j : Int), k + 2 * (j : Int) + 1)
def pmark (k : Int) (xs : List (Int × Int)) (j : Nat) : List (Int × Int) := pio k j ++ xs.drop j
theorem pmark_zero (k : Int) (xs : List (Int × Int)) : pmark k xs 0 = xs := by simp [pmark, pio]
theorem pmark_all (k : Int) (xs : List (Int × Int)) : pmark k xs xs.length = pio k xs.length := by simp [pmark]
theorem pmark_succ (k : Int) (xs : List (Int × Int)) (j : Nat) (h : j < xs.length) : (pmark k xs j).set j (k + 2 * j, k + 2 * j + 1) = pmark k xs (j + 1) := by
  apply List.ext_getElem
  · simp [pmark, pio]; omega
  · intro i h1 h2
    simp only [pmark, pio, List.getElem_set, List.getElem_append, List.length_map, List.length_range, List.getElem_map, List.getElem_range, List.getElem_drop]
    split
    · subst_vars; rw [dif_pos (by omega)]
    · rename_i hne
      by_cases hik : i < j
      · rw [dif_pos (by omega), dif_pos (by omega)]
      · rw [dif_neg (by omega), dif_neg (by omega)]; congr 1; omega
theorem pio_getD (k : Int) (n j : Nat) (h : j < n) : (pio k n).getD j (0, 0) = (k + 2 * j, k + 2 * j + 1) := by simp [pio, List.getD, h]
theorem FracsM.set_ {w : World} {lo hi n k b off : Nat} {l : List (Int × Int)} (h : FracsM w lo hi (some ⟨b, off, none⟩) n l) (hk : k < n) (x y : Int) :
    FracsM ((w.setCell ⟨b, off + k * 2, none⟩ (.int .i64 x)).setCell ⟨b, off + (k * 2 + 1), none⟩ (.int .i64 y)) lo hi (some ⟨b, off, none⟩) n (l.set k (x, y)) ∧
      Fr lo hi w ((w.setCell ⟨b, off + k * 2, none⟩ (.int .i64 x)).setCell ⟨b, off + (k * 2 + 1), none⟩ (.int .i64 y)) := by
  have h1 := SlM.set_ h (k := k * 2) (by omega) (.int .i64 x)
  have h2 := SlM.set_ h1.1 (k := k * 2 + 1) (by omega) (.int .i64 y)
  rw [frs_set] at h2
  exact ⟨h2.1, h1.2.trans h2.2⟩
/-- The first k of xs, d behind. -/
def padD {α : Type} (d : α) (xs : List α) (k : Nat) : List α := xs.take k ++ List.replicate (xs.length - k) d
theorem padD_len {α : Type} (d : α) (xs : List α) (k : Nat) (h : k ≤ xs.length) : (padD d xs k).length = xs.length := by simp [padD]; omega
theorem padD_zero {α : Type} (d : α) (xs : List α) : padD d xs 0 = List.replicate xs.length d := by simp [padD]
theorem padD_all {α : Type} (d : α) (xs : List α) : padD d xs xs.length = xs := by simp [padD]
theorem padD_succ {α : Type} (d : α) (xs : List α) (k : Nat) (h : k < xs.length) : (padD d xs k).set k (xs.getD k d) = padD d xs (k + 1) := by
  apply List.ext_getElem
  · simp [padD]; omega
  · intro i h1 h2
    simp only [padD, List.getElem_set, List.getElem_append, List.length_take]
    split
    · subst_vars; simp [List.getD, h]; omega
    · rename_i hne
      by_cases hik : i < k
      · rw [dif_pos (by omega), dif_pos (by omega)]; simp
      · rw [dif_neg (by omega), dif_neg (by omega)]; simp
theorem info_frac : (Tryz.prog.info? 46).map (fun i => (i.zero, i.size, i.bytes)) = some (some (.agg #[.int .i64 0, .int .i64 0]), 2, 16) := by kernel_rfl
theorem frs_replicate (n : Nat) : frs (List.replicate n (0, 0)) = (madeCells #[.int .i64 0, .int .i64 0] (n * 2)).toList := by
  apply List.ext_getElem
  · simp [frs_len, size_madeCells]
  · intro i h1 h2
    rw [frs_len, List.length_replicate] at h1
    have hk : i / 2 < (List.replicate n ((0 : Int), (0 : Int))).length := by simp; omega
    have h3 := frs_at (List.replicate n (0, 0)) (i / 2) hk
    have h4 : (List.replicate n ((0 : Int), (0 : Int))).getD (i / 2) (0, 0) = (0, 0) := by
      simp [List.getD, show i / 2 < n by omega]
    rw [h4] at h3
    have e : (madeCells #[Value.int .i64 0, Value.int .i64 0] (n * 2)).toList[i] = .int .i64 0 := by
      simp only [madeCells, Array.toList_map, Array.toList_range, List.getElem_map, List.getElem_range]
      rcases Nat.mod_two_eq_zero_or_one i with h | h <;> simp [h]
    rw [e]
    have hgd : (frs (List.replicate n (0, 0))).getD i undef = (frs (List.replicate n (0, 0)))[i]'(by rw [frs_len, List.length_replicate]; exact h1) := by
      simp [List.getD, show i < (frs (List.replicate n (0, 0))).length by rw [frs_len, List.length_replicate]; exact h1]
    rw [← hgd]
    rcases Nat.mod_two_eq_zero_or_one i with h | h
    · have : i = i / 2 * 2 := by omega
      rw [this]; exact h3.1
    · have : i = i / 2 * 2 + 1 := by omega
      rw [this]; exact h3.2
theorem OwnC.newF (w : World) (n : Nat) : OwnC (w.alloc (.cells (madeCells #[.int .i64 0, .int .i64 0] (n * 2)) 46)) w.heap.size 46 (frs (List.replicate n (0, 0))) := by
  unfold OwnC
  rw [heap_alloc_new, frs_replicate]
theorem OwnC.setF {w : World} {g k : Nat} {t : TypeId} {l : List (Int × Int)} (h : OwnC w g t (frs l)) (x y : Int) :
    OwnC ((w.setCell ⟨g, k * 2, none⟩ (.int .i64 x)).setCell ⟨g, k * 2 + 1, none⟩ (.int .i64 y)) g t (frs (l.set k (x, y))) := by
  have := (h.set_ (k * 2) (.int .i64 x)).set_ (k * 2 + 1) (.int .i64 y)
  rwa [frs_set] at this
end Go.Proofs.YtlkjhkkfdmjfcaaGreatDoor

