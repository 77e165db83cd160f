/- Geographies: the laws' helpers, validity, children. -/
import Derived.Test.YtkpliolafkdijaaApp
namespace Go.Proofs.Ytkpliolafkdijaa
open Go.RowKit
set_option linter.unusedVariables false
set_option linter.unusedSimpArgs false

theorem keeps_alloc (w : World) (o : Obj) : Keeps w (w.alloc o) := (Below.refl _ _).alloc (Nat.le_refl _) o
theorem cell_keeps {w w' : World} {p : Addr} {v : Value} (h : w.cell? p = some v) (k : Keeps w w') : w'.cell? p = some v := (k.cell (World.block_lt_of_cell? w _ h)).trans h
theorem cell_fr {w w' : World} {p : Addr} {v : Value} {l h' : Nat} (h : w.cell? p = some v) (k : Fr l h' w w') (ho : p.block < l ∨ h' ≤ p.block) : w'.cell? p = some v := (k.cell (World.block_lt_of_cell? w _ h) ho).trans h
theorem cell_new (w : World) (v : Value) (t : TypeId) : (w.alloc (.cells #[v] t)).cell? ⟨w.heap.size, 0, none⟩ = some v := by
  rw [cell_of_row _ _ _ _ _ _ (heap_alloc_new w _)]; rfl
/-- A new box of one cell, in all worlds that keep it. -/
theorem box_keeps {w w' : World} {v : Value} {t : TypeId} (k : Keeps (w.alloc (.cells #[v] t)) w') : w'.cell? ⟨w.heap.size, 0, none⟩ = some v := cell_keeps (cell_new w v t) k
theorem alloc_keeps {w w' : World} {o : Obj} (k : Keeps (w.alloc o) w') : Keeps w w' := (keeps_alloc w o).trans k

def szI (left n : Int) : Int := if left - n < 0 then -1 else left - n
theorem szI_no {left n : Int} (h : left - n < 0) : szI left n = -1 := if_pos h
theorem szI_ok {left n : Int} (h : ¬ left - n < 0) : szI left n = left - n := if_neg h
theorem szIntS_any (A : Option Addr) (n c : Nat) (left : Int) (w : World) (h1 : n ≤ maxLen) (h2 : 0 ≤ left) (h3 : left ≤ 1048576) :
    Calls Try.prog 112 #[.slice A n c, .int .i64 left] w fun e w' => e = .returned (.int .i64 (szI left n)) ∧ w = w' := by
  unfold maxLen at h1
  by_cases h : left - (n : Int) < 0
  · have E := hid (szI_no h)
    go_enter Try.func112, Try.ntmps112
    go_wp2
    go_ret
    exact ⟨ret_int E.out.symm, rfl⟩
  · have E := hid (szI_ok h)
    go_enter Try.func112, Try.ntmps112
    go_wp2
    go_ret
    exact ⟨ret_int E.out.symm, rfl⟩

theorem szGeo_ok (A : Option Addr) (n c : Nat) (left : Int) (w : World) (h2 : left ≤ 1048576) (h3 : (n : Int) ≤ left) :
    Calls Try.prog 30 #[.agg #[.slice A n c], .int .i64 left] w fun e w' => e = .returned (.int .i64 (left - n)) ∧ Keeps w w' := by
  have E := hid (szI_ok (left := left) (n := n) (by omega))
  go_enter Try.func30, Try.ntmps30
  go_wp2_with fail
  refine (szIntS_any _ _ _ _ _ (by unfold maxLen; omega) (by omega) h2).mono ?_
  rintro e w' ⟨rfl, rfl⟩
  rw [E.out]
  go_wp2_with fail
  go_ret
  exact ⟨rfl, keeps_alloc _ _⟩
theorem szGeo_no (A : Option Addr) (n c : Nat) (left : Int) (w : World) (h1 : n ≤ maxLen) (h0 : 0 ≤ left) (h2 : left ≤ 1048576) (h3 : left < (n : Int)) :
    Calls Try.prog 30 #[.agg #[.slice A n c], .int .i64 left] w fun e w' => e = .returned (.int .i64 (-1)) ∧ Keeps w w' := by
  have E := hid (szI_no (left := left) (n := n) (by omega))
  go_enter Try.func30, Try.ntmps30
  go_wp2_with fail
  refine (szIntS_any _ _ _ _ _ h1 (by omega) h2).mono ?_
  rintro e w' ⟨rfl, rfl⟩
  rw [E.out]
  go_wp2_with fail
  go_ret
  exact ⟨rfl, keeps_alloc _ _⟩
theorem toGeo_any {A : Option Addr} {lo hi n c : Nat} {xs : List Int} {w : World} (h : Ints w lo hi A n xs) :
    Calls Try.prog 32 #[.agg #[.slice A n c]] w fun e w' => ∃ A', e = .returned (.agg #[.slice A' n n]) ∧ Mine w' w.heap.size w'.heap.size A' n xs ∧ Keeps w w' := by
  have h0 := ((h.keeps (keeps_alloc w (.cells #[.slice A n c] 47))).keeps (keeps_alloc _ (.cells #[.slice none 0 0] 51))).keeps (keeps_alloc _ (.cells #[.slice none 0 0] 51))
  go_enter Try.func32, Try.ntmps32
  go_wp2_with fail
  refine (toIntS_any h0).mono ?_
  rintro e w' ⟨A', rfl, hm, hk⟩
  have s := hk.size
  have c1 := hk.cell (p := ⟨w.heap.size + 1, 0, none⟩) (by simp)
  have c2 := hk.cell (p := ⟨w.heap.size + 1 + 1, 0, none⟩) (by simp)
  have f1 := hk.frozen (p := ⟨w.heap.size + 1, 0, none⟩) (by simp)
  have f2 := hk.frozen (p := ⟨w.heap.size + 1 + 1, 0, none⟩) (by simp)
  have k1 : Keeps w w' := alloc_keeps (alloc_keeps (alloc_keeps hk))
  simp at s
  have hb1 : Below w.heap.size w ((w'.setCell ⟨w.heap.size + 1 + 1, 0, none⟩ (.slice A' n n)).setCell ⟨w.heap.size + 1, 0, none⟩ (.slice A' n n)) := (k1.setCell (by simp; omega) _).setCell (by simp) _
  have fr : Fr (w.heap.size + 1) (w.heap.size + 3) w' ((w'.setCell ⟨w.heap.size + 1 + 1, 0, none⟩ (.slice A' n n)).setCell ⟨w.heap.size + 1, 0, none⟩ (.slice A' n n)) :=
    ((Fr.refl _ _ w').setCell (p := ⟨w.heap.size + 1 + 1, 0, none⟩) (by simp) (by simp) _).setCell (p := ⟨w.heap.size + 1, 0, none⟩) (by simp) (by simp) _
  have hm2 := ((hm.fr fr (.inl (by simp))).widen (lo' := w.heap.size) (hi' := w'.heap.size) (by simp; omega) (Nat.le_refl _) (by simp [World.setCell]))
  simp [go_sem] at c1 c2 f1 f2
  have HM := hid hm2
  have HB := hid hb1
  clear hm hk hm2 hb1 fr h0 h
  go_wp2_with fail
  refine bodyPost_ret (v := .agg #[.slice A' n n]) (by simp [results, Try.results32, go_sem, c1, c2]) rfl ⟨A', rfl, ?_, HB.out⟩
  have := HM.out
  simpa [World.setCell] using this
theorem eqGeo_true {A B : Option Addr} {lo hi lo' hi' n n' c c' : Nat} {xs : List Int} {w : World} (ha : Ints w lo hi A n xs) (hb : Ints w lo' hi' B n' xs) :
    Calls Try.prog 35 #[.agg #[.slice A n c], .agg #[.slice B n' c']] w fun e w' => e = .returned (.bool true) ∧ Keeps w w' := by
  have k := (keeps_alloc w (.cells #[.slice A n c] 51)).trans (keeps_alloc _ (.cells #[.slice B n' c'] 51))
  have ha' := ha.keeps k
  have hb' := hb.keeps k
  go_enter Try.func35, Try.ntmps35
  go_wp2_with fail
  refine (eqIntS_true ha' hb').mono ?_
  rintro e w' ⟨rfl, q⟩
  go_wp2_with fail
  go_ret
  exact ⟨rfl, k.trans q.keeps⟩
theorem markGeo_any {A : Option Addr} {lo hi n c : Nat} {xs : List Int} {k0 : Int} {w : World} (h : Mine w lo hi A n xs) (h0 : 0 ≤ k0) (h1 : k0 ≤ 1000000000000) :
    Calls Try.prog 36 #[.agg #[.slice A n c], .int .i64 k0] w fun e w' => e = .returned (.int .i64 (k0 + n)) ∧ Mine w' lo hi A n (iota k0 n) ∧ Fr lo hi w w' := by
  have h' := h.keeps (keeps_alloc w (.cells #[.slice A n c] 51))
  go_enter Try.func36, Try.ntmps36
  go_wp2_with fail
  refine (markIntS_any h' h0 h1).mono ?_
  rintro e w' ⟨rfl, hm, hf⟩
  go_wp2_with fail
  go_ret
  exact ⟨rfl, hm, (Fr.of_keeps (keeps_alloc _ _) _ _).trans hf⟩

/-- 1 to 30 areas; the first is the root; each other one has an earlier parent. -/
def geoB (ps : List Int) : Bool := decide (1 ≤ ps.length ∧ ps.length ≤ 30) && (ps.getD 0 0 == -1) && (List.range ps.length).all fun i => decide (i = 0 ∨ 0 ≤ ps.getD i 0 ∧ ps.getD i 0 < (i : Int))
def ParTo (ps : List Int) (k : Nat) : Prop := ∀ i, i < k → 0 < i → 0 ≤ ps.getD i 0 ∧ ps.getD i 0 < (i : Int)
theorem geoB_true {ps : List Int} : geoB ps = true ↔ (1 ≤ ps.length ∧ ps.length ≤ 30) ∧ ps.getD 0 0 = -1 ∧ ParTo ps ps.length := by
  simp only [geoB, Bool.and_eq_true, decide_eq_true_eq, beq_iff_eq, List.all_eq_true, List.mem_range, ParTo, and_assoc]
  constructor
  · rintro ⟨h1, h2, h3, h4⟩
    exact ⟨h1, h2, h3, fun i hi h0 => by have := h4 i hi; omega⟩
  · rintro ⟨h1, h2, h3, h4⟩
    exact ⟨h1, h2, h3, fun i hi => by
      by_cases h0 : i = 0
      · exact .inl h0
      · exact .inr (h4 i hi (by omega))⟩
theorem geoB_len {ps : List Int} (h : ps.length < 1 ∨ 30 < ps.length) : geoB ps = false := by
  rw [Bool.eq_false_iff]; intro h1; have := (geoB_true.1 h1).1; omega
theorem geoB_root {ps : List Int} {x : Int} (hx : x = ps.getD 0 0) (h : x ≠ -1) : geoB ps = false := by
  rw [Bool.eq_false_iff]; intro h1; exact h (hx.trans (geoB_true.1 h1).2.1)
theorem geoB_par {ps : List Int} {k : Nat} {x : Int} (hk : k < ps.length) (h0 : 0 < k) (hx : x = ps.getD k 0) (h : x < 0 ∨ (k : Int) ≤ x) : geoB ps = false := by
  rw [Bool.eq_false_iff]; intro h1; have := (geoB_true.1 h1).2.2 k hk h0; omega
theorem parTo_succ {ps : List Int} {k : Nat} {x : Int} (h : ParTo ps k) (hx : x = ps.getD k 0) (h1 : 0 < k → 0 ≤ x ∧ x < (k : Int)) : ParTo ps (k + 1) := by
  intro i hi h0
  by_cases hik : i = k
  · subst hik; rw [← hx]; exact h1 h0
  · exact h i (by omega) h0

set_option maxHeartbeats 800000 in
theorem IsGeo_any {A : Option Addr} {lo hi n c : Nat} {ps : List Int} {w : World} (h : Ints w lo hi A n ps) :
    Calls Try.prog 119 #[.agg #[.slice A n c]] w fun e w' => e = .returned (.bool (geoB ps)) ∧ Keeps w w' := by
  have hn := h.le
  have hl := h.1
  have k := keeps_alloc w (.cells #[.slice A n c] 51)
  by_cases h1 : 1 ≤ n
  rotate_left
  · have HF := hid (geoB_len (ps := ps) (by omega))
    have t1 : (n : Int) < 1 := by omega
    go_enter Try.func119, Try.ntmps119
    go_wp2
    go_ret
    exact ⟨ret_bool HF.out.symm, k⟩
  have t1 : ¬ (n : Int) < 1 := by omega
  by_cases h2 : n ≤ 30
  rotate_left
  · have HF := hid (geoB_len (ps := ps) (by omega))
    have t2 : (30 : Int) < (n : Int) := by omega
    go_enter Try.func119, Try.ntmps119
    go_wp2
    go_ret
    exact ⟨ret_bool HF.out.symm, k⟩
  have t2 : ¬ (30 : Int) < (n : Int) := by omega
  have t0 : (0 : Int) < (n : Int) := by omega
  obtain ⟨b, off, x, rfl, _, hb, hc, hx⟩ := h.at_ (k := 0) (by omega)
  rw [Nat.add_zero] at hc
  have hbs : b < w.heap.size := by have := h.top; omega
  by_cases h3 : x = -1
  rotate_left
  · have HF := hid (geoB_root hx.out h3)
    have t3 : (x != -1) = true := by rw [bne_iff_ne]; exact h3
    go_enter Try.func119, Try.ntmps119
    go_wp2
    go_ret
    exact ⟨ret_bool HF.out.symm, k⟩
  subst h3
  have t3 : ((-1 : Int) != -1) = false := by decide
  go_enter Try.func119, Try.ntmps119
  go_wp2_with fail
  go_loop [3] (fun i => ∃ k : Nat, 1 ≤ k ∧ k ≤ n ∧ i = .int .i64 k ∧ Hid (ParTo ps k)) (fun i => n - (intOf i).toNat)
  case atStart => exact ⟨1, Nat.le_refl _, by omega, rfl, fun i hi h0 => by omega⟩
  case round =>
    obtain ⟨j, hj1, hj, rfl, hp⟩ := hrel
    clear hc
    by_cases hlt : j < n
    · obtain ⟨b', off', y, hA, _, hb', hcy, hy⟩ := (h.keeps k).at_ hlt
      obtain ⟨rfl, rfl⟩ : b = b' ∧ off = off' := by simpa using hA
      clear hA
      by_cases h4 : y < 0
      · have HF := hid (geoB_par (by omega) (by omega) hy.out (.inl h4))
        go_wp2
        go_ret
        exact ⟨ret_bool HF.out.symm, k⟩
      · by_cases h5 : (j : Int) ≤ y
        · have HF := hid (geoB_par (by omega) (by omega) hy.out (.inr h5))
          go_wp2
          go_ret
          exact ⟨ret_bool HF.out.symm, k⟩
        · have HP := hid (parTo_succ hp.out hy.out (fun _ => by omega))
          go_wp2
          go_round
          case rel => exact ⟨j + 1, by omega, by omega, by go_num, HP⟩
          case measure => simp [intOf]; omega
    · obtain rfl : j = n := by omega
      have HF := hid (geoB_true.2 ⟨⟨by omega, by omega⟩, hx.out.symm, by rw [hl]; exact hp.out⟩)
      go_wp2
      go_ret
      exact ⟨ret_bool HF.out.symm, k⟩
set_option maxHeartbeats 800000 in
theorem gGood_any {A : Option Addr} {lo hi n c : Nat} {ps : List Int} {w : World} (h : Ints w lo hi A n ps) :
    Calls Try.prog 157 #[.agg #[.slice A n c]] w fun e w' => e = .returned (.bool (geoB ps)) ∧ Keeps w w' := by
  have hn := h.le
  have hl := h.1
  have k := keeps_alloc w (.cells #[.slice A n c] 51)
  by_cases h1 : inB n 1 30 = true
  rotate_left
  · have h1 : inB n 1 30 = false := by simpa using h1
    have HF := hid (geoB_len (ps := ps) (by have := inB_false.1 h1; omega))
    have H1 := hid h1
    clear h1
    go_enter Try.func157, Try.ntmps157
    go_wp2_with (go_at_call 96; refine (l1In_any _ _ _ _).mono ?_; rintro e w' ⟨rfl, rfl⟩; rw [H1.out])
    go_ret
    exact ⟨ret_bool HF.out.symm, k⟩
  have h12 := inB_true.1 h1
  have H1 := hid h1
  clear h1
  have t0 : (0 : Int) < (n : Int) := by omega
  obtain ⟨b, off, x, rfl, _, hb, hc, hx⟩ := h.at_ (k := 0) (by omega)
  rw [Nat.add_zero] at hc
  have hbs : b < w.heap.size := by have := h.top; omega
  by_cases h3 : x = -1
  rotate_left
  · have HF := hid (geoB_root hx.out h3)
    have t3 : (x != -1) = true := by rw [bne_iff_ne]; exact h3
    go_enter Try.func157, Try.ntmps157
    go_wp2_with (go_at_call 96; refine (l1In_any _ _ _ _).mono ?_; rintro e w' ⟨rfl, rfl⟩; rw [H1.out])
    go_ret
    exact ⟨ret_bool HF.out.symm, k⟩
  subst h3
  have t3 : ((-1 : Int) != -1) = false := by decide
  go_enter Try.func157, Try.ntmps157
  go_wp2_with (go_at_call 96; refine (l1In_any _ _ _ _).mono ?_; rintro e w' ⟨rfl, rfl⟩; rw [H1.out])
  go_loop [20] (fun i => ∃ k : Nat, k ≤ n ∧ i = .int .i64 k ∧ Hid (ParTo ps k)) (fun i => n - (intOf i).toNat)
  case atStart => exact ⟨0, by omega, rfl, fun i hi h0 => by omega⟩
  case round =>
    obtain ⟨j, hj, rfl, hp⟩ := hrel
    clear hc
    by_cases hlt : j < n
    · obtain ⟨b', off', y, hA, _, hb', hcy, hy⟩ := (h.keeps k).at_ hlt
      obtain ⟨rfl, rfl⟩ : b = b' ∧ off = off' := by simpa using hA
      clear hA
      by_cases hj0 : 0 < j
      · have t4 : (0 : Int) < (j : Int) := by omega
        cases hin : inB y 0 ((j : Int) - 1) with
        | true =>
          have hi2 := inB_true.1 hin
          have HP := hid (parTo_succ hp.out hy.out (fun _ => by omega))
          have HI := hid hin
          clear hin
          go_wp2_with (go_at_call 96; refine (l1In_any _ _ _ _).mono ?_; rintro e w' ⟨rfl, rfl⟩; rw [HI.out])
          go_round
          case rel => exact ⟨j + 1, by omega, by go_num, HP⟩
          case measure => simp [intOf]; omega
        | false =>
          have hi2 := inB_false.1 hin
          have HF := hid (geoB_par (by omega) hj0 hy.out (by omega))
          have HI := hid hin
          clear hin hi2
          go_wp2_with (go_at_call 96; refine (l1In_any _ _ _ _).mono ?_; rintro e w' ⟨rfl, rfl⟩; rw [HI.out])
          go_ret
          exact ⟨ret_bool HF.out.symm, k⟩
      · obtain rfl : j = 0 := by omega
        rw [Nat.add_zero] at hcy
        have HP := hid (parTo_succ hp.out hy.out (fun h => by omega))
        go_wp2_with fail
        go_round
        case rel => exact ⟨0 + 1, by omega, by go_num, HP⟩
        case measure => simp [intOf]; omega
    · obtain rfl : j = n := by omega
      have HF := hid (geoB_true.2 ⟨⟨by omega, by omega⟩, hx.out.symm, by rw [hl]; exact hp.out⟩)
      go_wp2
      go_ret
      exact ⟨ret_bool HF.out.symm, k⟩
/-- The first k areas' children of i. -/
def isKid (ps : List Int) (i : Int) (j : Nat) : Bool := decide (0 < j) && (ps.getD j 0 == i)
def kidsTo (ps : List Int) (i : Int) (k : Nat) : List Int := ((List.range k).filter (isKid ps i)).map fun (j : Nat) => (j : Int)
def kids (ps : List Int) (i : Int) : List Int := kidsTo ps i ps.length
theorem kidsTo_yes {ps : List Int} {i x : Int} {k : Nat} (hx : x = ps.getD k 0) (h0 : 0 < k) (h : x = i) : kidsTo ps i (k + 1) = kidsTo ps i k ++ [(k : Int)] := by
  unfold kidsTo
  rw [List.range_succ, List.filter_append, List.map_append]
  have e : isKid ps i k = true := by unfold isKid; rw [← hx, h]; simp [h0]
  rw [List.filter_cons_of_pos e]; simp
theorem kidsTo_no {ps : List Int} {i x : Int} {k : Nat} (hx : x = ps.getD k 0) (h : k = 0 ∨ x ≠ i) : kidsTo ps i (k + 1) = kidsTo ps i k := by
  unfold kidsTo
  rw [List.range_succ, List.filter_append, List.map_append]
  have e : ¬ isKid ps i k = true := by unfold isKid; rw [← hx]; simp; omega
  rw [List.filter_cons_of_neg e]; simp
theorem kidsTo_len (ps : List Int) (i : Int) (k : Nat) : (kidsTo ps i k).length ≤ k := by
  unfold kidsTo
  rw [List.length_map]
  exact Nat.le_trans (List.length_filter_le _ _) (by simp)
theorem kidsTo_mem {ps : List Int} {i : Int} {k : Nat} {c : Int} (h : c ∈ kidsTo ps i k) : ∃ j : Nat, c = j ∧ 0 < j ∧ j < k ∧ ps.getD j 0 = i := by
  unfold kidsTo at h
  obtain ⟨j, hj, rfl⟩ := List.mem_map.1 h
  simp [isKid] at hj
  exact ⟨j, rfl, hj.2.1, hj.1, by simpa [List.getD] using hj.2.2⟩
theorem kids_getD {ps : List Int} {i : Int} {m : Nat} (h : m < (kids ps i).length) : ∃ j : Nat, (kids ps i).getD m 0 = j ∧ 0 < j ∧ j < ps.length ∧ ps.getD j 0 = i :=
  kidsTo_mem (by simp only [List.getD, List.getElem?_eq_getElem h, Option.getD_some]; exact List.getElem_mem h)

set_option maxHeartbeats 1600000 in
theorem childrenOf_any {A : Option Addr} {lo hi n c : Nat} {ps : List Int} {i : Int} {w : World} (h : Ints w lo hi A n ps) (hg : ps.getD 0 0 = -1) (hi0 : 0 ≤ i) :
    Calls Try.prog 152 #[.agg #[.slice A n c], .int .i64 i] w fun e w' => ∃ A' c', e = .returned (.slice A' (kids ps i).length c') ∧ Mine w' w.heap.size w'.heap.size A' (kids ps i).length (kids ps i) ∧ Keeps w w' := by
  have hn := h.le
  have hl := h.1
  have HG := hid hg
  clear hg
  have k0 := keeps_alloc w (.cells #[.slice A n c] 51)
  go_enter Try.func152, Try.ntmps152
  go_wp2_with fail
  go_loopw [5, 11] (fun v t wr => ∃ k : Nat, k ≤ n ∧ t = .int .i64 k ∧ Has wr (w.heap.size + 1) 3 1 v (kidsTo ps i k).length ((kidsTo ps i k).map (Value.int .i64)) ∧ Keeps (w.alloc (.cells #[.slice A n c] 51)) wr) (fun _ t _ => n - (intOf t).toNat)
  case atStart => exact ⟨0, Nat.zero_le _, rfl, World.ownsRow_nil _ _ _ _, keeps_refl _⟩
  case round =>
    obtain ⟨k, hk, rfl, hown, hkeep⟩ := hrel
    have hkl := kidsTo_len ps i k
    by_cases hlt : k < n
    · obtain ⟨b, off, x, rfl, _, _, hx0, hx⟩ := ((h.keeps k0).keeps hkeep).at_ hlt
      have hs := hkeep.size
      simp at hs
      by_cases hxi : x = i
      · have t1 : (x == i) = true := by rw [beq_iff_eq]; exact hxi
        have hk0 : 0 < k := by
          rcases Nat.eq_zero_or_pos k with h0 | h0
          · subst h0; have := hx.out; have := HG.out; omega
          · exact h0
        have t2 : (0 : Int) < (k : Int) := by omega
        have HK := hid (kidsTo_yes hx.out hk0 hxi)
        clear hxi
        go_wp2_with (at_builtin; refine append_int (xs := kidsTo ps i k) hown (by omega) (by omega) _ _ rfl rfl rfl rfl ?_; intro v' w' hown' hb')
        have H1 := hid hown'
        rw [show (kidsTo ps i k).length + 1 = (kidsTo ps i k ++ [(k : Int)]).length by simp, ← HK.out] at H1
        have H2 := hid (Below.trans hkeep (hb'.mono (by simp)))
        clear hown' hb' hkeep hown
        go_wp2
        go_roundw
        case rel => exact ⟨k + 1, by omega, by go_num, H1.out, H2.out⟩
        case measure => simp [intOf]; omega
      · have t1 : (x == i) = false := by rw [beq_eq_false_iff_ne]; exact hxi
        have HK := hid (kidsTo_no hx.out (.inr hxi))
        have H1 := hid hown
        rw [← HK.out] at H1
        clear hxi hown
        go_wp2
        go_roundw
        case rel => exact ⟨k + 1, by omega, by go_num, H1.out, hkeep⟩
        case measure => simp [intOf]; omega
    · obtain rfl : k = n := by omega
      rw [← hl] at hown hkl
      obtain ⟨A', c', rfl⟩ := hown.form
      have HM := hid ((Mine.of_own hown (by omega)).widen (lo' := w.heap.size) (by omega) (Nat.le_refl _) (Nat.le_refl _))
      clear hown
      go_wp2
      go_ret
      exact ⟨A', c', rfl, HM.out, k0.trans hkeep⟩
set_option maxHeartbeats 1600000 in
theorem gChildren_any {A : Option Addr} {lo hi n c : Nat} {ps : List Int} {i : Int} {w : World} (h : Ints w lo hi A n ps) (hg : ps.getD 0 0 = -1) (hi0 : 0 ≤ i) :
    Calls Try.prog 199 #[.agg #[.slice A n c], .int .i64 i] w fun e w' => ∃ A' c', e = .returned (.slice A' (kids ps i).length c') ∧ Mine w' w.heap.size w'.heap.size A' (kids ps i).length (kids ps i) ∧ Keeps w w' := by
  have hn := h.le
  have hl := h.1
  have HG := hid hg
  clear hg
  have k0 := keeps_alloc w (.cells #[.slice A n c] 51)
  go_enter Try.func199, Try.ntmps199
  go_wp2_with fail
  go_loopw [5, 11] (fun v t wr => ∃ k : Nat, k ≤ n ∧ t = .int .i64 k ∧ Has wr (w.heap.size + 1) 3 1 v (kidsTo ps i k).length ((kidsTo ps i k).map (Value.int .i64)) ∧ Keeps (w.alloc (.cells #[.slice A n c] 51)) wr) (fun _ t _ => n - (intOf t).toNat)
  case atStart => exact ⟨0, Nat.zero_le _, rfl, World.ownsRow_nil _ _ _ _, keeps_refl _⟩
  case round =>
    obtain ⟨k, hk, rfl, hown, hkeep⟩ := hrel
    have hkl := kidsTo_len ps i k
    by_cases hlt : k < n
    · obtain ⟨b, off, x, rfl, _, _, hx0, hx⟩ := ((h.keeps k0).keeps hkeep).at_ hlt
      have hs := hkeep.size
      simp at hs
      by_cases hxi : x = i
      · have t1 : (x == i) = true := by rw [beq_iff_eq]; exact hxi
        have hk0 : 0 < k := by
          rcases Nat.eq_zero_or_pos k with h0 | h0
          · subst h0; have := hx.out; have := HG.out; omega
          · exact h0
        have t2 : (0 : Int) < (k : Int) := by omega
        have HK := hid (kidsTo_yes hx.out hk0 hxi)
        clear hxi
        go_wp2_with (at_builtin; refine append_int (xs := kidsTo ps i k) hown (by omega) (by omega) _ _ rfl rfl rfl rfl ?_; intro v' w' hown' hb')
        have H1 := hid hown'
        rw [show (kidsTo ps i k).length + 1 = (kidsTo ps i k ++ [(k : Int)]).length by simp, ← HK.out] at H1
        have H2 := hid (Below.trans hkeep (hb'.mono (by simp)))
        clear hown' hb' hkeep hown
        go_wp2
        go_roundw
        case rel => exact ⟨k + 1, by omega, by go_num, H1.out, H2.out⟩
        case measure => simp [intOf]; omega
      · have t1 : (x == i) = false := by rw [beq_eq_false_iff_ne]; exact hxi
        have HK := hid (kidsTo_no hx.out (.inr hxi))
        have H1 := hid hown
        rw [← HK.out] at H1
        clear hxi hown
        go_wp2
        go_roundw
        case rel => exact ⟨k + 1, by omega, by go_num, H1.out, hkeep⟩
        case measure => simp [intOf]; omega
    · obtain rfl : k = n := by omega
      rw [← hl] at hown hkl
      obtain ⟨A', c', rfl⟩ := hown.form
      have HM := hid ((Mine.of_own hown (by omega)).widen (lo' := w.heap.size) (by omega) (Nat.le_refl _) (Nat.le_refl _))
      clear hown
      go_wp2
      go_ret
      exact ⟨A', c', rfl, HM.out, k0.trans hkeep⟩
end Go.Proofs.Ytkpliolafkdijaa
