/- Classes of records with equal keys: their sizes, the least; of the program and of the reference. -/
import Derived.Test.YtogdfgnolpfelaaKey
import Derived.Lib.QuietBelow
namespace Go.Proofs.Ytogdfgnolpfelaa
open Go.RowKit Go.Sort
set_option linter.unusedVariables false
set_option linter.unusedSimpArgs false

/-- Two records of one class. -/
def clB (l : List VV) (vs : List Int) (a b : RR) : Bool := (a.1 == b.1) && (ky l a.2.2 vs == ky l b.2.2 vs)
theorem clB_self (l : List VV) (vs : List Int) (a : RR) : clB l vs a a = true := by simp [clB]
theorem clB_area {l : List VV} {vs : List Int} {a b : RR} (h : a.1 ≠ b.1) : clB l vs a b = false := by simp [clB, h]
theorem clB_key {l : List VV} {vs : List Int} {x x' y y' K1 K2 : Int} {zs zs' : List Int} {p : Bool} (hx : x = x') (h1 : ky l zs vs = K1) (h2 : ky l zs' vs = K2) (h : (K1 == K2) = p) : clB l vs (x, y, zs) (x', y', zs') = p := by
  subst hx h1 h2
  unfold clB
  dsimp only
  rw [h]; simp
/-- The number of the first k records of record i's class. -/
def clN (l : List VV) (vs : List Int) (rs : List RR) (i : Nat) : Nat → Nat
  | 0 => 0
  | k + 1 => if clB l vs (rs.getD i r0) (rs.getD k r0) = true then clN l vs rs i k + 1 else clN l vs rs i k
theorem clN_yes {l : List VV} {vs : List Int} {rs : List RR} {i k : Nat} (h : clB l vs (rs.getD i r0) (rs.getD k r0) = true) : clN l vs rs i (k + 1) = clN l vs rs i k + 1 := if_pos h
theorem clN_no {l : List VV} {vs : List Int} {rs : List RR} {i k : Nat} (h : clB l vs (rs.getD i r0) (rs.getD k r0) = false) : clN l vs rs i (k + 1) = clN l vs rs i k := if_neg (by rw [h]; simp)
theorem clN_le (l : List VV) (vs : List Int) (rs : List RR) (i : Nat) : ∀ k, clN l vs rs i k ≤ k
  | 0 => Nat.le_refl _
  | k + 1 => by
    have := clN_le l vs rs i k
    unfold clN; split <;> omega
theorem clN_pos (l : List VV) (vs : List Int) (rs : List RR) {i : Nat} : ∀ k, i < k → 1 ≤ clN l vs rs i k
  | 0, h => absurd h (by omega)
  | k + 1, h => by
    rcases Nat.lt_or_ge i k with h1 | h1
    · have := clN_pos l vs rs k h1
      unfold clN; split <;> omega
    · obtain rfl : i = k := by omega
      rw [clN_yes (clB_self _ _ _)]; omega
/-- The sizes, as far as they are counted. -/
def clS (l : List VV) (vs : List Int) (rs : List RR) (n i k : Nat) : List Int := (List.range n).map fun j => if j < i then (clN l vs rs j n : Int) else if j = i then (clN l vs rs i k : Int) else 0
def clF (l : List VV) (vs : List Int) (rs : List RR) (n : Nat) : List Int := (List.range n).map fun i => (clN l vs rs i n : Int)
theorem clS_len (l : List VV) (vs : List Int) (rs : List RR) (n i k : Nat) : (clS l vs rs n i k).length = n := by simp [clS]
theorem clF_len (l : List VV) (vs : List Int) (rs : List RR) (n : Nat) : (clF l vs rs n).length = n := by simp [clF]
theorem clF_at (l : List VV) (vs : List Int) (rs : List RR) {n k : Nat} (h : k < n) : (clF l vs rs n).getD k 0 = (clN l vs rs k n : Int) := by simp [clF, List.getD, h]
theorem clS_start (l : List VV) (vs : List Int) (rs : List RR) (n : Nat) : clS l vs rs n 0 0 = List.replicate n 0 := by
  unfold clS
  rw [List.eq_replicate_iff]
  refine ⟨by simp, fun b hb => ?_⟩
  obtain ⟨j, _, rfl⟩ := List.mem_map.1 hb
  rw [if_neg (by omega)]
  split <;> simp [clN]
theorem clS_row (l : List VV) (vs : List Int) (rs : List RR) (n i : Nat) : clS l vs rs n i n = clS l vs rs n (i + 1) 0 := by
  unfold clS
  refine List.map_congr_left fun j _ => ?_
  by_cases h : j < i
  · rw [if_pos h, if_pos (by omega)]
  · rw [if_neg h]
    by_cases h2 : j = i
    · subst h2; rw [if_pos rfl, if_pos (by omega)]
    · rw [if_neg h2, if_neg (by omega)]
      split <;> simp [clN]
theorem clS_end (l : List VV) (vs : List Int) (rs : List RR) (n : Nat) : clS l vs rs n n 0 = clF l vs rs n := by
  unfold clS clF
  refine List.map_congr_left fun j hj => ?_
  rw [if_pos (by simpa using hj)]
theorem clS_at {l : List VV} {vs : List Int} {rs : List RR} {n i k : Nat} (h : i < n) : (clS l vs rs n i k).getD i 0 = (clN l vs rs i k : Int) := by simp [clS, List.getD, h]
theorem clS_stay {l : List VV} {vs : List Int} {rs : List RR} {n i k : Nat} (h : clB l vs (rs.getD i r0) (rs.getD k r0) = false) : clS l vs rs n i k = clS l vs rs n i (k + 1) := by
  unfold clS; rw [clN_no h]
theorem clS_step {l : List VV} {vs : List Int} {rs : List RR} {n i k : Nat} (hi : i < n) (h : clB l vs (rs.getD i r0) (rs.getD k r0) = true) : (clS l vs rs n i k).set i ((clN l vs rs i k : Int) + 1) = clS l vs rs n i (k + 1) := by
  refine List.ext_getElem (by simp [clS]) fun j h1 h2 => ?_
  have hj : j < n := by simpa [clS] using h2
  rw [List.getElem_set]
  by_cases e : i = j
  · subst e
    rw [if_pos rfl]; simp [clS, clN_yes h]
  · rw [if_neg e]
    simp only [clS, List.getElem_map, List.getElem_range]
    rw [if_neg (show ¬ j = i by omega), if_neg (show ¬ j = i by omega)]
/-- The least of the first k numbers. -/
def mnTo (xs : List Int) : Nat → Int
  | 0 => xs.getD 0 0
  | k + 1 => if xs.getD k 0 < mnTo xs k then xs.getD k 0 else mnTo xs k
theorem mnTo_one (xs : List Int) : mnTo xs 1 = xs.getD 0 0 := by simp [mnTo]
theorem mnTo_pos {xs : List Int} {n : Nat} (h : ∀ j, j < n → 1 ≤ xs.getD j 0) : ∀ k, 0 < k → k ≤ n → 1 ≤ mnTo xs k
  | 0, h0, _ => absurd h0 (by omega)
  | k + 1, _, hk => by
    by_cases h0 : k = 0
    · subst h0; rw [mnTo_one]; exact h 0 (by omega)
    · have := mnTo_pos h k (by omega) (by omega)
      have := h k (by omega)
      unfold mnTo; split <;> omega
def lcQ (l : List VV) (rs : List RR) (vs : List Int) : Int × Bool := if kdB l rs vs = true then (if rs.length = 0 then 0 else mnTo (clF l vs rs rs.length) rs.length, true) else (0, false)
theorem lcQ_no {l : List VV} {rs : List RR} {vs : List Int} (h : kdB l rs vs = false) : lcQ l rs vs = (0, false) := if_neg (by rw [h]; simp)
theorem lcQ_nil {l : List VV} {rs : List RR} {vs : List Int} (h : kdB l rs vs = true) (h0 : rs.length = 0) : lcQ l rs vs = (0, true) := by unfold lcQ; rw [if_pos h, if_pos h0]
theorem lcQ_yes {l : List VV} {rs : List RR} {vs : List Int} (h : kdB l rs vs = true) (h0 : rs.length ≠ 0) : lcQ l rs vs = (mnTo (clF l vs rs rs.length) rs.length, true) := by unfold lcQ; rw [if_pos h, if_neg h0]
theorem kdB_parts {l : List VV} {rs : List RR} {vs : List Int} (h : kdB l rs vs = true) : schB l = true ∧ rs.length ≤ 40 ∧ vsB l.length vs = true ∧ ∀ k, k < rs.length → fitB l (rs.getD k r0).2.2 = true := by
  unfold kdB datB at h
  simp only [Bool.and_eq_true, decide_eq_true_eq] at h
  refine ⟨h.1.1, h.1.2.2, h.2, fun k hk => ?_⟩
  have h1 := datTo_row _ k h.1.2.1 hk
  unfold recB at h1
  simp only [Bool.and_eq_true] at h1
  exact h1.2

set_option maxRecDepth 100000 in
set_option maxHeartbeats 3200000 in
theorem sameClass_any {A A' B B' : Option Addr} {lo hi n c m d lo3 hi3 q e lo4 hi4 q' e' : Nat} {vs zs zs' : List Int} {l : List VV} {x y x' y' : Int} {w : World} (h : Ints w lo hi A n vs) (h' : Sch w A' m d l) (hz : Ints w lo3 hi3 B q zs) (hz' : Ints w lo4 hi4 B' q' zs') (hs : schB l = true) (hf : fitB l zs = true) (hf' : fitB l zs' = true) (hvs : vsB m vs = true) :
    Calls Try.prog 85 #[.slice A' m d, .agg #[.int .i64 x, .int .i64 y, .slice B q e], .agg #[.int .i64 x', .int .i64 y', .slice B' q' e'], .slice A n c] w fun e w' => e = .returned (.bool (clB l vs (x, y, zs) (x', y', zs'))) ∧ Keeps w w' := by
  have HS := hid hs
  have HF := hid hf
  have HF' := hid hf'
  have HV := hid hvs
  clear hs hf hf' hvs
  go_enter Try.func85, Try.ntmps85
  have kw := keeps_refl w
  replace kw := Keeps.trans kw (keeps_alloc w (.cells #[.int .i64 x, .int .i64 y, .slice B q e] 77))
  have b5 : Bl (w.alloc (.cells #[.int .i64 x, .int .i64 y, .slice B q e] 77)) w.heap.size [.int .i64 x, .int .i64 y, .slice B q e] := Bl.new' (by simp) (by simp)
  replace b5 := b5.keeps (keeps_alloc (w.alloc (.cells #[.int .i64 x, .int .i64 y, .slice B q e] 77)) (.cells #[.int .i64 x', .int .i64 y', .slice B' q' e'] 77))
  replace kw := Keeps.trans kw (keeps_alloc (w.alloc (.cells #[.int .i64 x, .int .i64 y, .slice B q e] 77)) (.cells #[.int .i64 x', .int .i64 y', .slice B' q' e'] 77))
  have b6 : Bl ((w.alloc (.cells #[.int .i64 x, .int .i64 y, .slice B q e] 77)).alloc (.cells #[.int .i64 x', .int .i64 y', .slice B' q' e'] 77)) (w.heap.size + 1) [.int .i64 x', .int .i64 y', .slice B' q' e'] := Bl.new' (by simp) (by simp)
  by_cases hx : x = x'
  rotate_left
  · have HX := hid (clB_area (l := l) (vs := vs) (a := (x, y, zs)) (b := (x', y', zs')) hx)
    have t1 : (x == x') = false := by rw [beq_eq_false_iff_ne]; exact hx
    clear hx
    have q0_b5 : ((w.alloc (.cells #[.int .i64 x, .int .i64 y, .slice B q e] 77)).alloc (.cells #[.int .i64 x', .int .i64 y', .slice B' q' e'] 77)).cell? ⟨w.heap.size, 0, none⟩ = some (.int .i64 x) := (b5.2 0 _ rfl).1
    have rq0_b5 := fun d os => cell_regrown q0_b5 d os
    have q1_b5 : ((w.alloc (.cells #[.int .i64 x, .int .i64 y, .slice B q e] 77)).alloc (.cells #[.int .i64 x', .int .i64 y', .slice B' q' e'] 77)).cell? ⟨w.heap.size, 1, none⟩ = some (.int .i64 y) := (b5.2 1 _ rfl).1
    have rq1_b5 := fun d os => cell_regrown q1_b5 d os
    have q2_b5 : ((w.alloc (.cells #[.int .i64 x, .int .i64 y, .slice B q e] 77)).alloc (.cells #[.int .i64 x', .int .i64 y', .slice B' q' e'] 77)).cell? ⟨w.heap.size, 2, none⟩ = some (.slice B q e) := (b5.2 2 _ rfl).1
    have rq2_b5 := fun d os => cell_regrown q2_b5 d os
    have q0_b6 : ((w.alloc (.cells #[.int .i64 x, .int .i64 y, .slice B q e] 77)).alloc (.cells #[.int .i64 x', .int .i64 y', .slice B' q' e'] 77)).cell? ⟨w.heap.size + 1, 0, none⟩ = some (.int .i64 x') := (b6.2 0 _ rfl).1
    have rq0_b6 := fun d os => cell_regrown q0_b6 d os
    have q1_b6 : ((w.alloc (.cells #[.int .i64 x, .int .i64 y, .slice B q e] 77)).alloc (.cells #[.int .i64 x', .int .i64 y', .slice B' q' e'] 77)).cell? ⟨w.heap.size + 1, 1, none⟩ = some (.int .i64 y') := (b6.2 1 _ rfl).1
    have rq1_b6 := fun d os => cell_regrown q1_b6 d os
    have q2_b6 : ((w.alloc (.cells #[.int .i64 x, .int .i64 y, .slice B q e] 77)).alloc (.cells #[.int .i64 x', .int .i64 y', .slice B' q' e'] 77)).cell? ⟨w.heap.size + 1, 2, none⟩ = some (.slice B' q' e') := (b6.2 2 _ rfl).1
    have rq2_b6 := fun d os => cell_regrown q2_b6 d os
    go_wp2_with fail
    refine wp_region_quiet_below (by kernel_rfl) (by kernel_rfl) ?_
    iterate 17 (go_big_quiet_step ((first | fail)))
    refine wpQuiet_nil ?_
    intro _ hw'
    obtain ⟨⟨dq, osq⟩, hw''⟩ := hw'
    subst hw''
    clear q0_b5 rq0_b5 q1_b5 rq1_b5 q2_b5 rq2_b5 q0_b6 rq0_b6 q1_b6 rq1_b6 q2_b6 rq2_b6
    have kQ := below_regrown ((w.alloc (.cells #[.int .i64 x, .int .i64 y, .slice B q e] 77)).alloc (.cells #[.int .i64 x', .int .i64 y', .slice B' q' e'] 77)) dq osq
    obtain ⟨wQ1, hwQ⟩ : ∃ u, u = grow (redrawn ((w.alloc (.cells #[.int .i64 x, .int .i64 y, .slice B q e] 77)).alloc (.cells #[.int .i64 x', .int .i64 y', .slice B' q' e'] 77)) dq) osq := ⟨_, rfl⟩
    rw [← hwQ] at kQ
    rw [← hwQ]
    clear hwQ
    replace b5 := b5.keeps kQ
    replace b6 := b6.keeps kQ
    replace kw := Keeps.trans kw kQ
    have lt2 := b6.lt
    have sz3 := kw.size
    clear kQ
    go_wp2_with fail
    go_ret
    exact ⟨ret_bool HX.out.symm, kw⟩
  have t1 : (x == x') = true := by rw [beq_iff_eq]; exact hx
  have HXX := hid hx
  clear hx
  obtain ⟨K1, HK1⟩ : ∃ K, Hid (ky l zs vs = K) := ⟨_, rfl⟩
  obtain ⟨K2, HK2⟩ : ∃ K, Hid (ky l zs' vs = K) := ⟨_, rfl⟩
  by_cases hk : K1 = K2
  · have t2 : (K1 == K2) = true := by rw [beq_iff_eq]; exact hk
    have HX := hid (clB_key (y := y) (y' := y') HXX.out HK1.out HK2.out t2)
    clear hk
    have q0_b5 : ((w.alloc (.cells #[.int .i64 x, .int .i64 y, .slice B q e] 77)).alloc (.cells #[.int .i64 x', .int .i64 y', .slice B' q' e'] 77)).cell? ⟨w.heap.size, 0, none⟩ = some (.int .i64 x) := (b5.2 0 _ rfl).1
    have rq0_b5 := fun d os => cell_regrown q0_b5 d os
    have q1_b5 : ((w.alloc (.cells #[.int .i64 x, .int .i64 y, .slice B q e] 77)).alloc (.cells #[.int .i64 x', .int .i64 y', .slice B' q' e'] 77)).cell? ⟨w.heap.size, 1, none⟩ = some (.int .i64 y) := (b5.2 1 _ rfl).1
    have rq1_b5 := fun d os => cell_regrown q1_b5 d os
    have q2_b5 : ((w.alloc (.cells #[.int .i64 x, .int .i64 y, .slice B q e] 77)).alloc (.cells #[.int .i64 x', .int .i64 y', .slice B' q' e'] 77)).cell? ⟨w.heap.size, 2, none⟩ = some (.slice B q e) := (b5.2 2 _ rfl).1
    have rq2_b5 := fun d os => cell_regrown q2_b5 d os
    have q0_b6 : ((w.alloc (.cells #[.int .i64 x, .int .i64 y, .slice B q e] 77)).alloc (.cells #[.int .i64 x', .int .i64 y', .slice B' q' e'] 77)).cell? ⟨w.heap.size + 1, 0, none⟩ = some (.int .i64 x') := (b6.2 0 _ rfl).1
    have rq0_b6 := fun d os => cell_regrown q0_b6 d os
    have q1_b6 : ((w.alloc (.cells #[.int .i64 x, .int .i64 y, .slice B q e] 77)).alloc (.cells #[.int .i64 x', .int .i64 y', .slice B' q' e'] 77)).cell? ⟨w.heap.size + 1, 1, none⟩ = some (.int .i64 y') := (b6.2 1 _ rfl).1
    have rq1_b6 := fun d os => cell_regrown q1_b6 d os
    have q2_b6 : ((w.alloc (.cells #[.int .i64 x, .int .i64 y, .slice B q e] 77)).alloc (.cells #[.int .i64 x', .int .i64 y', .slice B' q' e'] 77)).cell? ⟨w.heap.size + 1, 2, none⟩ = some (.slice B' q' e') := (b6.2 2 _ rfl).1
    have rq2_b6 := fun d os => cell_regrown q2_b6 d os
    have cQ0 := hid (fun (dQ : Nat) (oQ : Array Obj) => keyOf_any (x := x) (y := y) (e := e) (c := c) (d := d) (h.keeps (Keeps.trans kw (below_regrown ((w.alloc (.cells #[.int .i64 x, .int .i64 y, .slice B q e] 77)).alloc (.cells #[.int .i64 x', .int .i64 y', .slice B' q' e'] 77)) dQ oQ))) (h'.keeps (Keeps.trans kw (below_regrown ((w.alloc (.cells #[.int .i64 x, .int .i64 y, .slice B q e] 77)).alloc (.cells #[.int .i64 x', .int .i64 y', .slice B' q' e'] 77)) dQ oQ))) (hz.keeps (Keeps.trans kw (below_regrown ((w.alloc (.cells #[.int .i64 x, .int .i64 y, .slice B q e] 77)).alloc (.cells #[.int .i64 x', .int .i64 y', .slice B' q' e'] 77)) dQ oQ))) HS.out HF.out HV.out)
    rw [HK1.out] at cQ0
    have cQ1 := hid (fun (dQ : Nat) (oQ : Array Obj) => keyOf_any (x := x') (y := y') (e := e') (c := c) (d := d) (h.keeps (Keeps.trans kw (below_regrown ((w.alloc (.cells #[.int .i64 x, .int .i64 y, .slice B q e] 77)).alloc (.cells #[.int .i64 x', .int .i64 y', .slice B' q' e'] 77)) dQ oQ))) (h'.keeps (Keeps.trans kw (below_regrown ((w.alloc (.cells #[.int .i64 x, .int .i64 y, .slice B q e] 77)).alloc (.cells #[.int .i64 x', .int .i64 y', .slice B' q' e'] 77)) dQ oQ))) (hz'.keeps (Keeps.trans kw (below_regrown ((w.alloc (.cells #[.int .i64 x, .int .i64 y, .slice B q e] 77)).alloc (.cells #[.int .i64 x', .int .i64 y', .slice B' q' e'] 77)) dQ oQ))) HS.out HF'.out HV.out)
    rw [HK2.out] at cQ1
    go_wp2_with fail
    refine wp_region_quiet_below (by kernel_rfl) (by kernel_rfl) ?_
    iterate 17 (go_big_quiet_step ((first | with_reducible exact Calls.regrown_of (cQ0.out _ _) | with_reducible exact Calls.regrown_of (cQ1.out _ _))))
    refine wpQuiet_nil ?_
    intro _ hw'
    obtain ⟨⟨dq, osq⟩, hw''⟩ := hw'
    subst hw''
    clear q0_b5 rq0_b5 q1_b5 rq1_b5 q2_b5 rq2_b5 q0_b6 rq0_b6 q1_b6 rq1_b6 q2_b6 rq2_b6 cQ0 cQ1
    have kQ := below_regrown ((w.alloc (.cells #[.int .i64 x, .int .i64 y, .slice B q e] 77)).alloc (.cells #[.int .i64 x', .int .i64 y', .slice B' q' e'] 77)) dq osq
    obtain ⟨wQ1, hwQ⟩ : ∃ u, u = grow (redrawn ((w.alloc (.cells #[.int .i64 x, .int .i64 y, .slice B q e] 77)).alloc (.cells #[.int .i64 x', .int .i64 y', .slice B' q' e'] 77)) dq) osq := ⟨_, rfl⟩
    rw [← hwQ] at kQ
    rw [← hwQ]
    clear hwQ
    replace b5 := b5.keeps kQ
    replace b6 := b6.keeps kQ
    replace kw := Keeps.trans kw kQ
    have lt2 := b6.lt
    have sz3 := kw.size
    clear kQ
    go_wp2_with fail
    go_ret
    exact ⟨ret_bool HX.out.symm, kw⟩
  · have t2 : (K1 == K2) = false := by rw [beq_eq_false_iff_ne]; exact hk
    have HX := hid (clB_key (y := y) (y' := y') HXX.out HK1.out HK2.out t2)
    clear hk
    have q0_b5 : ((w.alloc (.cells #[.int .i64 x, .int .i64 y, .slice B q e] 77)).alloc (.cells #[.int .i64 x', .int .i64 y', .slice B' q' e'] 77)).cell? ⟨w.heap.size, 0, none⟩ = some (.int .i64 x) := (b5.2 0 _ rfl).1
    have rq0_b5 := fun d os => cell_regrown q0_b5 d os
    have q1_b5 : ((w.alloc (.cells #[.int .i64 x, .int .i64 y, .slice B q e] 77)).alloc (.cells #[.int .i64 x', .int .i64 y', .slice B' q' e'] 77)).cell? ⟨w.heap.size, 1, none⟩ = some (.int .i64 y) := (b5.2 1 _ rfl).1
    have rq1_b5 := fun d os => cell_regrown q1_b5 d os
    have q2_b5 : ((w.alloc (.cells #[.int .i64 x, .int .i64 y, .slice B q e] 77)).alloc (.cells #[.int .i64 x', .int .i64 y', .slice B' q' e'] 77)).cell? ⟨w.heap.size, 2, none⟩ = some (.slice B q e) := (b5.2 2 _ rfl).1
    have rq2_b5 := fun d os => cell_regrown q2_b5 d os
    have q0_b6 : ((w.alloc (.cells #[.int .i64 x, .int .i64 y, .slice B q e] 77)).alloc (.cells #[.int .i64 x', .int .i64 y', .slice B' q' e'] 77)).cell? ⟨w.heap.size + 1, 0, none⟩ = some (.int .i64 x') := (b6.2 0 _ rfl).1
    have rq0_b6 := fun d os => cell_regrown q0_b6 d os
    have q1_b6 : ((w.alloc (.cells #[.int .i64 x, .int .i64 y, .slice B q e] 77)).alloc (.cells #[.int .i64 x', .int .i64 y', .slice B' q' e'] 77)).cell? ⟨w.heap.size + 1, 1, none⟩ = some (.int .i64 y') := (b6.2 1 _ rfl).1
    have rq1_b6 := fun d os => cell_regrown q1_b6 d os
    have q2_b6 : ((w.alloc (.cells #[.int .i64 x, .int .i64 y, .slice B q e] 77)).alloc (.cells #[.int .i64 x', .int .i64 y', .slice B' q' e'] 77)).cell? ⟨w.heap.size + 1, 2, none⟩ = some (.slice B' q' e') := (b6.2 2 _ rfl).1
    have rq2_b6 := fun d os => cell_regrown q2_b6 d os
    have cQ0 := hid (fun (dQ : Nat) (oQ : Array Obj) => keyOf_any (x := x) (y := y) (e := e) (c := c) (d := d) (h.keeps (Keeps.trans kw (below_regrown ((w.alloc (.cells #[.int .i64 x, .int .i64 y, .slice B q e] 77)).alloc (.cells #[.int .i64 x', .int .i64 y', .slice B' q' e'] 77)) dQ oQ))) (h'.keeps (Keeps.trans kw (below_regrown ((w.alloc (.cells #[.int .i64 x, .int .i64 y, .slice B q e] 77)).alloc (.cells #[.int .i64 x', .int .i64 y', .slice B' q' e'] 77)) dQ oQ))) (hz.keeps (Keeps.trans kw (below_regrown ((w.alloc (.cells #[.int .i64 x, .int .i64 y, .slice B q e] 77)).alloc (.cells #[.int .i64 x', .int .i64 y', .slice B' q' e'] 77)) dQ oQ))) HS.out HF.out HV.out)
    rw [HK1.out] at cQ0
    have cQ1 := hid (fun (dQ : Nat) (oQ : Array Obj) => keyOf_any (x := x') (y := y') (e := e') (c := c) (d := d) (h.keeps (Keeps.trans kw (below_regrown ((w.alloc (.cells #[.int .i64 x, .int .i64 y, .slice B q e] 77)).alloc (.cells #[.int .i64 x', .int .i64 y', .slice B' q' e'] 77)) dQ oQ))) (h'.keeps (Keeps.trans kw (below_regrown ((w.alloc (.cells #[.int .i64 x, .int .i64 y, .slice B q e] 77)).alloc (.cells #[.int .i64 x', .int .i64 y', .slice B' q' e'] 77)) dQ oQ))) (hz'.keeps (Keeps.trans kw (below_regrown ((w.alloc (.cells #[.int .i64 x, .int .i64 y, .slice B q e] 77)).alloc (.cells #[.int .i64 x', .int .i64 y', .slice B' q' e'] 77)) dQ oQ))) HS.out HF'.out HV.out)
    rw [HK2.out] at cQ1
    go_wp2_with fail
    refine wp_region_quiet_below (by kernel_rfl) (by kernel_rfl) ?_
    iterate 17 (go_big_quiet_step ((first | with_reducible exact Calls.regrown_of (cQ0.out _ _) | with_reducible exact Calls.regrown_of (cQ1.out _ _))))
    refine wpQuiet_nil ?_
    intro _ hw'
    obtain ⟨⟨dq, osq⟩, hw''⟩ := hw'
    subst hw''
    clear q0_b5 rq0_b5 q1_b5 rq1_b5 q2_b5 rq2_b5 q0_b6 rq0_b6 q1_b6 rq1_b6 q2_b6 rq2_b6 cQ0 cQ1
    have kQ := below_regrown ((w.alloc (.cells #[.int .i64 x, .int .i64 y, .slice B q e] 77)).alloc (.cells #[.int .i64 x', .int .i64 y', .slice B' q' e'] 77)) dq osq
    obtain ⟨wQ1, hwQ⟩ : ∃ u, u = grow (redrawn ((w.alloc (.cells #[.int .i64 x, .int .i64 y, .slice B q e] 77)).alloc (.cells #[.int .i64 x', .int .i64 y', .slice B' q' e'] 77)) dq) osq := ⟨_, rfl⟩
    rw [← hwQ] at kQ
    rw [← hwQ]
    clear hwQ
    replace b5 := b5.keeps kQ
    replace b6 := b6.keeps kQ
    replace kw := Keeps.trans kw kQ
    have lt2 := b6.lt
    have sz3 := kw.size
    clear kQ
    go_wp2_with fail
    go_ret
    exact ⟨ret_bool HX.out.symm, kw⟩
set_option maxRecDepth 100000 in
set_option maxHeartbeats 3200000 in
theorem liSame_any {A A' B B' : Option Addr} {lo hi n c m d lo3 hi3 q e lo4 hi4 q' e' : Nat} {vs zs zs' : List Int} {l : List VV} {x y x' y' : Int} {w : World} (h : Ints w lo hi A n vs) (h' : Sch w A' m d l) (hz : Ints w lo3 hi3 B q zs) (hz' : Ints w lo4 hi4 B' q' zs') (hs : schB l = true) (hf : fitB l zs = true) (hf' : fitB l zs' = true) (hvs : vsB m vs = true) :
    Calls Try.prog 103 #[.slice A' m d, .agg #[.int .i64 x, .int .i64 y, .slice B q e], .agg #[.int .i64 x', .int .i64 y', .slice B' q' e'], .slice A n c] w fun e w' => e = .returned (.bool (clB l vs (x, y, zs) (x', y', zs'))) ∧ Keeps w w' := by
  have HS := hid hs
  have HF := hid hf
  have HF' := hid hf'
  have HV := hid hvs
  clear hs hf hf' hvs
  go_enter Try.func103, Try.ntmps103
  have kw := keeps_refl w
  replace kw := Keeps.trans kw (keeps_alloc w (.cells #[.int .i64 x, .int .i64 y, .slice B q e] 77))
  have b5 : Bl (w.alloc (.cells #[.int .i64 x, .int .i64 y, .slice B q e] 77)) w.heap.size [.int .i64 x, .int .i64 y, .slice B q e] := Bl.new' (by simp) (by simp)
  replace b5 := b5.keeps (keeps_alloc (w.alloc (.cells #[.int .i64 x, .int .i64 y, .slice B q e] 77)) (.cells #[.int .i64 x', .int .i64 y', .slice B' q' e'] 77))
  replace kw := Keeps.trans kw (keeps_alloc (w.alloc (.cells #[.int .i64 x, .int .i64 y, .slice B q e] 77)) (.cells #[.int .i64 x', .int .i64 y', .slice B' q' e'] 77))
  have b6 : Bl ((w.alloc (.cells #[.int .i64 x, .int .i64 y, .slice B q e] 77)).alloc (.cells #[.int .i64 x', .int .i64 y', .slice B' q' e'] 77)) (w.heap.size + 1) [.int .i64 x', .int .i64 y', .slice B' q' e'] := Bl.new' (by simp) (by simp)
  by_cases hx : x = x'
  rotate_left
  · have HX := hid (clB_area (l := l) (vs := vs) (a := (x, y, zs)) (b := (x', y', zs')) hx)
    have t1 : (x == x') = false := by rw [beq_eq_false_iff_ne]; exact hx
    clear hx
    have q0_b5 : ((w.alloc (.cells #[.int .i64 x, .int .i64 y, .slice B q e] 77)).alloc (.cells #[.int .i64 x', .int .i64 y', .slice B' q' e'] 77)).cell? ⟨w.heap.size, 0, none⟩ = some (.int .i64 x) := (b5.2 0 _ rfl).1
    have rq0_b5 := fun d os => cell_regrown q0_b5 d os
    have q1_b5 : ((w.alloc (.cells #[.int .i64 x, .int .i64 y, .slice B q e] 77)).alloc (.cells #[.int .i64 x', .int .i64 y', .slice B' q' e'] 77)).cell? ⟨w.heap.size, 1, none⟩ = some (.int .i64 y) := (b5.2 1 _ rfl).1
    have rq1_b5 := fun d os => cell_regrown q1_b5 d os
    have q2_b5 : ((w.alloc (.cells #[.int .i64 x, .int .i64 y, .slice B q e] 77)).alloc (.cells #[.int .i64 x', .int .i64 y', .slice B' q' e'] 77)).cell? ⟨w.heap.size, 2, none⟩ = some (.slice B q e) := (b5.2 2 _ rfl).1
    have rq2_b5 := fun d os => cell_regrown q2_b5 d os
    have q0_b6 : ((w.alloc (.cells #[.int .i64 x, .int .i64 y, .slice B q e] 77)).alloc (.cells #[.int .i64 x', .int .i64 y', .slice B' q' e'] 77)).cell? ⟨w.heap.size + 1, 0, none⟩ = some (.int .i64 x') := (b6.2 0 _ rfl).1
    have rq0_b6 := fun d os => cell_regrown q0_b6 d os
    have q1_b6 : ((w.alloc (.cells #[.int .i64 x, .int .i64 y, .slice B q e] 77)).alloc (.cells #[.int .i64 x', .int .i64 y', .slice B' q' e'] 77)).cell? ⟨w.heap.size + 1, 1, none⟩ = some (.int .i64 y') := (b6.2 1 _ rfl).1
    have rq1_b6 := fun d os => cell_regrown q1_b6 d os
    have q2_b6 : ((w.alloc (.cells #[.int .i64 x, .int .i64 y, .slice B q e] 77)).alloc (.cells #[.int .i64 x', .int .i64 y', .slice B' q' e'] 77)).cell? ⟨w.heap.size + 1, 2, none⟩ = some (.slice B' q' e') := (b6.2 2 _ rfl).1
    have rq2_b6 := fun d os => cell_regrown q2_b6 d os
    go_wp2_with fail
    refine wp_region_quiet_below (by kernel_rfl) (by kernel_rfl) ?_
    iterate 19 (go_big_quiet_step ((first | fail)))
    refine wpQuiet_nil ?_
    intro _ hw'
    obtain ⟨⟨dq, osq⟩, hw''⟩ := hw'
    subst hw''
    clear q0_b5 rq0_b5 q1_b5 rq1_b5 q2_b5 rq2_b5 q0_b6 rq0_b6 q1_b6 rq1_b6 q2_b6 rq2_b6
    have kQ := below_regrown ((w.alloc (.cells #[.int .i64 x, .int .i64 y, .slice B q e] 77)).alloc (.cells #[.int .i64 x', .int .i64 y', .slice B' q' e'] 77)) dq osq
    obtain ⟨wQ1, hwQ⟩ : ∃ u, u = grow (redrawn ((w.alloc (.cells #[.int .i64 x, .int .i64 y, .slice B q e] 77)).alloc (.cells #[.int .i64 x', .int .i64 y', .slice B' q' e'] 77)) dq) osq := ⟨_, rfl⟩
    rw [← hwQ] at kQ
    rw [← hwQ]
    clear hwQ
    replace b5 := b5.keeps kQ
    replace b6 := b6.keeps kQ
    replace kw := Keeps.trans kw kQ
    have lt2 := b6.lt
    have sz3 := kw.size
    clear kQ
    go_wp2_with fail
    go_ret
    exact ⟨ret_bool HX.out.symm, kw⟩
  have t1 : (x == x') = true := by rw [beq_iff_eq]; exact hx
  have HXX := hid hx
  clear hx
  obtain ⟨K1, HK1⟩ : ∃ K, Hid (ky l zs vs = K) := ⟨_, rfl⟩
  obtain ⟨K2, HK2⟩ : ∃ K, Hid (ky l zs' vs = K) := ⟨_, rfl⟩
  by_cases hk : K1 = K2
  · have t2 : (K1 == K2) = true := by rw [beq_iff_eq]; exact hk
    have HX := hid (clB_key (y := y) (y' := y') HXX.out HK1.out HK2.out t2)
    clear hk
    have q0_b5 : ((w.alloc (.cells #[.int .i64 x, .int .i64 y, .slice B q e] 77)).alloc (.cells #[.int .i64 x', .int .i64 y', .slice B' q' e'] 77)).cell? ⟨w.heap.size, 0, none⟩ = some (.int .i64 x) := (b5.2 0 _ rfl).1
    have rq0_b5 := fun d os => cell_regrown q0_b5 d os
    have q1_b5 : ((w.alloc (.cells #[.int .i64 x, .int .i64 y, .slice B q e] 77)).alloc (.cells #[.int .i64 x', .int .i64 y', .slice B' q' e'] 77)).cell? ⟨w.heap.size, 1, none⟩ = some (.int .i64 y) := (b5.2 1 _ rfl).1
    have rq1_b5 := fun d os => cell_regrown q1_b5 d os
    have q2_b5 : ((w.alloc (.cells #[.int .i64 x, .int .i64 y, .slice B q e] 77)).alloc (.cells #[.int .i64 x', .int .i64 y', .slice B' q' e'] 77)).cell? ⟨w.heap.size, 2, none⟩ = some (.slice B q e) := (b5.2 2 _ rfl).1
    have rq2_b5 := fun d os => cell_regrown q2_b5 d os
    have q0_b6 : ((w.alloc (.cells #[.int .i64 x, .int .i64 y, .slice B q e] 77)).alloc (.cells #[.int .i64 x', .int .i64 y', .slice B' q' e'] 77)).cell? ⟨w.heap.size + 1, 0, none⟩ = some (.int .i64 x') := (b6.2 0 _ rfl).1
    have rq0_b6 := fun d os => cell_regrown q0_b6 d os
    have q1_b6 : ((w.alloc (.cells #[.int .i64 x, .int .i64 y, .slice B q e] 77)).alloc (.cells #[.int .i64 x', .int .i64 y', .slice B' q' e'] 77)).cell? ⟨w.heap.size + 1, 1, none⟩ = some (.int .i64 y') := (b6.2 1 _ rfl).1
    have rq1_b6 := fun d os => cell_regrown q1_b6 d os
    have q2_b6 : ((w.alloc (.cells #[.int .i64 x, .int .i64 y, .slice B q e] 77)).alloc (.cells #[.int .i64 x', .int .i64 y', .slice B' q' e'] 77)).cell? ⟨w.heap.size + 1, 2, none⟩ = some (.slice B' q' e') := (b6.2 2 _ rfl).1
    have rq2_b6 := fun d os => cell_regrown q2_b6 d os
    have cQ0 := hid (fun (dQ : Nat) (oQ : Array Obj) => swKey_any (e := e) (c := c) (d := d) (h.keeps (Keeps.trans kw (below_regrown ((w.alloc (.cells #[.int .i64 x, .int .i64 y, .slice B q e] 77)).alloc (.cells #[.int .i64 x', .int .i64 y', .slice B' q' e'] 77)) dQ oQ))) (h'.keeps (Keeps.trans kw (below_regrown ((w.alloc (.cells #[.int .i64 x, .int .i64 y, .slice B q e] 77)).alloc (.cells #[.int .i64 x', .int .i64 y', .slice B' q' e'] 77)) dQ oQ))) (hz.keeps (Keeps.trans kw (below_regrown ((w.alloc (.cells #[.int .i64 x, .int .i64 y, .slice B q e] 77)).alloc (.cells #[.int .i64 x', .int .i64 y', .slice B' q' e'] 77)) dQ oQ))) HS.out HF.out HV.out)
    rw [HK1.out] at cQ0
    have cQ1 := hid (fun (dQ : Nat) (oQ : Array Obj) => swKey_any (e := e') (c := c) (d := d) (h.keeps (Keeps.trans kw (below_regrown ((w.alloc (.cells #[.int .i64 x, .int .i64 y, .slice B q e] 77)).alloc (.cells #[.int .i64 x', .int .i64 y', .slice B' q' e'] 77)) dQ oQ))) (h'.keeps (Keeps.trans kw (below_regrown ((w.alloc (.cells #[.int .i64 x, .int .i64 y, .slice B q e] 77)).alloc (.cells #[.int .i64 x', .int .i64 y', .slice B' q' e'] 77)) dQ oQ))) (hz'.keeps (Keeps.trans kw (below_regrown ((w.alloc (.cells #[.int .i64 x, .int .i64 y, .slice B q e] 77)).alloc (.cells #[.int .i64 x', .int .i64 y', .slice B' q' e'] 77)) dQ oQ))) HS.out HF'.out HV.out)
    rw [HK2.out] at cQ1
    go_wp2_with fail
    refine wp_region_quiet_below (by kernel_rfl) (by kernel_rfl) ?_
    iterate 19 (go_big_quiet_step ((first | with_reducible exact Calls.regrown_of (cQ0.out _ _) | with_reducible exact Calls.regrown_of (cQ1.out _ _))))
    refine wpQuiet_nil ?_
    intro _ hw'
    obtain ⟨⟨dq, osq⟩, hw''⟩ := hw'
    subst hw''
    clear q0_b5 rq0_b5 q1_b5 rq1_b5 q2_b5 rq2_b5 q0_b6 rq0_b6 q1_b6 rq1_b6 q2_b6 rq2_b6 cQ0 cQ1
    have kQ := below_regrown ((w.alloc (.cells #[.int .i64 x, .int .i64 y, .slice B q e] 77)).alloc (.cells #[.int .i64 x', .int .i64 y', .slice B' q' e'] 77)) dq osq
    obtain ⟨wQ1, hwQ⟩ : ∃ u, u = grow (redrawn ((w.alloc (.cells #[.int .i64 x, .int .i64 y, .slice B q e] 77)).alloc (.cells #[.int .i64 x', .int .i64 y', .slice B' q' e'] 77)) dq) osq := ⟨_, rfl⟩
    rw [← hwQ] at kQ
    rw [← hwQ]
    clear hwQ
    replace b5 := b5.keeps kQ
    replace b6 := b6.keeps kQ
    replace kw := Keeps.trans kw kQ
    have lt2 := b6.lt
    have sz3 := kw.size
    clear kQ
    go_wp2_with fail
    go_ret
    exact ⟨ret_bool HX.out.symm, kw⟩
  · have t2 : (K1 == K2) = false := by rw [beq_eq_false_iff_ne]; exact hk
    have HX := hid (clB_key (y := y) (y' := y') HXX.out HK1.out HK2.out t2)
    clear hk
    have q0_b5 : ((w.alloc (.cells #[.int .i64 x, .int .i64 y, .slice B q e] 77)).alloc (.cells #[.int .i64 x', .int .i64 y', .slice B' q' e'] 77)).cell? ⟨w.heap.size, 0, none⟩ = some (.int .i64 x) := (b5.2 0 _ rfl).1
    have rq0_b5 := fun d os => cell_regrown q0_b5 d os
    have q1_b5 : ((w.alloc (.cells #[.int .i64 x, .int .i64 y, .slice B q e] 77)).alloc (.cells #[.int .i64 x', .int .i64 y', .slice B' q' e'] 77)).cell? ⟨w.heap.size, 1, none⟩ = some (.int .i64 y) := (b5.2 1 _ rfl).1
    have rq1_b5 := fun d os => cell_regrown q1_b5 d os
    have q2_b5 : ((w.alloc (.cells #[.int .i64 x, .int .i64 y, .slice B q e] 77)).alloc (.cells #[.int .i64 x', .int .i64 y', .slice B' q' e'] 77)).cell? ⟨w.heap.size, 2, none⟩ = some (.slice B q e) := (b5.2 2 _ rfl).1
    have rq2_b5 := fun d os => cell_regrown q2_b5 d os
    have q0_b6 : ((w.alloc (.cells #[.int .i64 x, .int .i64 y, .slice B q e] 77)).alloc (.cells #[.int .i64 x', .int .i64 y', .slice B' q' e'] 77)).cell? ⟨w.heap.size + 1, 0, none⟩ = some (.int .i64 x') := (b6.2 0 _ rfl).1
    have rq0_b6 := fun d os => cell_regrown q0_b6 d os
    have q1_b6 : ((w.alloc (.cells #[.int .i64 x, .int .i64 y, .slice B q e] 77)).alloc (.cells #[.int .i64 x', .int .i64 y', .slice B' q' e'] 77)).cell? ⟨w.heap.size + 1, 1, none⟩ = some (.int .i64 y') := (b6.2 1 _ rfl).1
    have rq1_b6 := fun d os => cell_regrown q1_b6 d os
    have q2_b6 : ((w.alloc (.cells #[.int .i64 x, .int .i64 y, .slice B q e] 77)).alloc (.cells #[.int .i64 x', .int .i64 y', .slice B' q' e'] 77)).cell? ⟨w.heap.size + 1, 2, none⟩ = some (.slice B' q' e') := (b6.2 2 _ rfl).1
    have rq2_b6 := fun d os => cell_regrown q2_b6 d os
    have cQ0 := hid (fun (dQ : Nat) (oQ : Array Obj) => swKey_any (e := e) (c := c) (d := d) (h.keeps (Keeps.trans kw (below_regrown ((w.alloc (.cells #[.int .i64 x, .int .i64 y, .slice B q e] 77)).alloc (.cells #[.int .i64 x', .int .i64 y', .slice B' q' e'] 77)) dQ oQ))) (h'.keeps (Keeps.trans kw (below_regrown ((w.alloc (.cells #[.int .i64 x, .int .i64 y, .slice B q e] 77)).alloc (.cells #[.int .i64 x', .int .i64 y', .slice B' q' e'] 77)) dQ oQ))) (hz.keeps (Keeps.trans kw (below_regrown ((w.alloc (.cells #[.int .i64 x, .int .i64 y, .slice B q e] 77)).alloc (.cells #[.int .i64 x', .int .i64 y', .slice B' q' e'] 77)) dQ oQ))) HS.out HF.out HV.out)
    rw [HK1.out] at cQ0
    have cQ1 := hid (fun (dQ : Nat) (oQ : Array Obj) => swKey_any (e := e') (c := c) (d := d) (h.keeps (Keeps.trans kw (below_regrown ((w.alloc (.cells #[.int .i64 x, .int .i64 y, .slice B q e] 77)).alloc (.cells #[.int .i64 x', .int .i64 y', .slice B' q' e'] 77)) dQ oQ))) (h'.keeps (Keeps.trans kw (below_regrown ((w.alloc (.cells #[.int .i64 x, .int .i64 y, .slice B q e] 77)).alloc (.cells #[.int .i64 x', .int .i64 y', .slice B' q' e'] 77)) dQ oQ))) (hz'.keeps (Keeps.trans kw (below_regrown ((w.alloc (.cells #[.int .i64 x, .int .i64 y, .slice B q e] 77)).alloc (.cells #[.int .i64 x', .int .i64 y', .slice B' q' e'] 77)) dQ oQ))) HS.out HF'.out HV.out)
    rw [HK2.out] at cQ1
    go_wp2_with fail
    refine wp_region_quiet_below (by kernel_rfl) (by kernel_rfl) ?_
    iterate 19 (go_big_quiet_step ((first | with_reducible exact Calls.regrown_of (cQ0.out _ _) | with_reducible exact Calls.regrown_of (cQ1.out _ _))))
    refine wpQuiet_nil ?_
    intro _ hw'
    obtain ⟨⟨dq, osq⟩, hw''⟩ := hw'
    subst hw''
    clear q0_b5 rq0_b5 q1_b5 rq1_b5 q2_b5 rq2_b5 q0_b6 rq0_b6 q1_b6 rq1_b6 q2_b6 rq2_b6 cQ0 cQ1
    have kQ := below_regrown ((w.alloc (.cells #[.int .i64 x, .int .i64 y, .slice B q e] 77)).alloc (.cells #[.int .i64 x', .int .i64 y', .slice B' q' e'] 77)) dq osq
    obtain ⟨wQ1, hwQ⟩ : ∃ u, u = grow (redrawn ((w.alloc (.cells #[.int .i64 x, .int .i64 y, .slice B q e] 77)).alloc (.cells #[.int .i64 x', .int .i64 y', .slice B' q' e'] 77)) dq) osq := ⟨_, rfl⟩
    rw [← hwQ] at kQ
    rw [← hwQ]
    clear hwQ
    replace b5 := b5.keeps kQ
    replace b6 := b6.keeps kQ
    replace kw := Keeps.trans kw kQ
    have lt2 := b6.lt
    have sz3 := kw.size
    clear kQ
    go_wp2_with fail
    go_ret
    exact ⟨ret_bool HX.out.symm, kw⟩
set_option maxRecDepth 100000 in
set_option maxHeartbeats 6400000 in
theorem classSizes_any {A A' R : Option Addr} {lo hi n c m d lo3 hi3 q e : Nat} {vs : List Int} {l : List VV} {rs : List RR} {w : World} (h : Ints w lo hi A n vs) (h' : Sch w A' m d l) (hr : Recs w lo3 hi3 R q rs) (hk : kdB l rs vs = true) :
    Calls Try.prog 54 #[.slice A' m d, .slice R q e, .slice A n c] w fun e w' => ∃ A1, e = .returned (.slice A1 q q) ∧ Mine w' w.heap.size w'.heap.size A1 q (clF l vs rs q) ∧ Keeps w w' := by
  have hq := hr.le
  obtain ⟨hs, h40, hvs, hfit⟩ := kdB_parts hk
  have hl : l.length = m := by obtain ⟨lo', hi', hv⟩ := h'.v; exact Vars.len hv
  rw [hl] at hvs
  rw [hr.len] at h40 hfit
  have HS := hid hs
  have HV := hid hvs
  have HFIT := hid hfit
  clear hs hvs hfit hl hk
  have hmk := make_ints q hq
  have HC0 := hid (clS_start l vs rs q)
  go_enter Try.func54, Try.ntmps54
  have kw := keeps_refl w
  go_wp2_with fail
  replace kw := Keeps.trans kw (keeps_alloc w (.cells (madeCells #[.int .i64 0] q) 3))
  clear hmk
  have own : Own (w.alloc (.cells (madeCells #[.int .i64 0] q) 3)) w.heap.size (clS l vs rs q 0 0) := by rw [HC0.out]; exact Own.new _ _
  go_loopw [17] (fun i wr => ∃ k : Nat, k ≤ q ∧ i = .int .i64 k ∧ Own wr w.heap.size (clS l vs rs q k 0) ∧ Keeps w wr) (fun i _ => q - (intOf i).toNat)
  case atStart => exact ⟨0, Nat.zero_le _, rfl, own, kw⟩
  clear kw own
  case round =>
    obtain ⟨i, hi, rfl, own, kw⟩ := hrel
    by_cases hlt : i < q
    · obtain ⟨b1, off1, x1, y1, B1, z1, c1, zs1, eR1, _, _, hc1, hd1, hvv1, hvi1, hx1⟩ := hr.at_ hlt
      subst eR1
      have hf1 : fitB l zs1 = true := by have := HFIT.out i hlt; rw [← hx1.out] at this; exact this
      have HF1 := hid hf1
      clear hf1
      replace hc1 := cell_keeps hc1 kw
      replace hd1 := cell_keeps hd1 kw
      replace hvv1 := cell_keeps hvv1 kw
      have hi1 : (i : Int) < (q : Int) := by omega
      have lt3 := own.lt
      replace own := own.keeps (keeps_alloc wr (.cells #[.int .i64 x1, .int .i64 y1, .slice B1 z1 c1] 77))
      replace kw := Keeps.trans kw (keeps_alloc wr (.cells #[.int .i64 x1, .int .i64 y1, .slice B1 z1 c1] 77))
      have b9 : Bl (wr.alloc (.cells #[.int .i64 x1, .int .i64 y1, .slice B1 z1 c1] 77)) wr.heap.size [.int .i64 x1, .int .i64 y1, .slice B1 z1 c1] := Bl.new' (by simp) (by simp)
      go_wp2_with fail
      have lt9 := b9.lt
      obtain ⟨RB, hRB⟩ : ∃ a, wr.heap.size = a := ⟨_, rfl⟩
      rw [hRB] at b9 lt9 lt3 ⊢
      clear hRB
      clear hc1 hd1 hvv1
      obtain ⟨wo, hwo⟩ : ∃ u : World, u = wr := ⟨_, rfl⟩
      go_loopw [24] (fun j wv => ∃ k : Nat, k ≤ q ∧ j = .int .i64 k ∧ Own wv w.heap.size (clS l vs rs q i k) ∧ Bl wv RB [.int .i64 x1, .int .i64 y1, .slice B1 z1 c1] ∧ Keeps w wv) (fun j _ => q - (intOf j).toNat)
      case atStart => exact ⟨0, Nat.zero_le _, rfl, own, b9, kw⟩
      clear own b9 kw lt9
      case round =>
        obtain ⟨k, hk, rfl, own, b9, kw⟩ := hrel
        by_cases hkt : k < q
        rotate_left
        · obtain rfl : k = q := by omega
          rw [clS_row] at own
          go_wp2_with fail
          go_roundw
          case rel => exact ⟨i + 1, by omega, by go_num, own, kw⟩
          case measure => simp [intOf]; omega
        obtain ⟨b2, off2, x2, y2, B2, z2, c2, zs2, eR2, _, _, hc2, hd2, hvv2, hvi2, hx2⟩ := hr.at_ hkt
        injection eR2 with eR2
        injection eR2 with eb2 eo2
        subst eb2 eo2
        have hf2 : fitB l zs2 = true := by have := HFIT.out k hkt; rw [← hx2.out] at this; exact this
        have HF2 := hid hf2
        clear hf2
        replace hc2 := cell_keeps hc2 kw
        replace hd2 := cell_keeps hd2 kw
        replace hvv2 := cell_keeps hvv2 kw
        have hk1 : (k : Int) < (q : Int) := by omega
        have lt9 := b9.lt
        obtain ⟨p, HP⟩ : ∃ p, Hid (clB l vs (x1, y1, zs1) (x2, y2, zs2) = p) := ⟨_, rfl⟩
        have HP2 := hid (show clB l vs (rs.getD i r0) (rs.getD k r0) = p by rw [← hx1.out, ← hx2.out]; exact HP.out)
        replace b9 := b9.keeps (keeps_alloc wr (.cells #[.int .i64 x2, .int .i64 y2, .slice B2 z2 c2] 77))
        replace own := own.keeps (keeps_alloc wr (.cells #[.int .i64 x2, .int .i64 y2, .slice B2 z2 c2] 77))
        replace kw := Keeps.trans kw (keeps_alloc wr (.cells #[.int .i64 x2, .int .i64 y2, .slice B2 z2 c2] 77))
        have b11 : Bl (wr.alloc (.cells #[.int .i64 x2, .int .i64 y2, .slice B2 z2 c2] 77)) wr.heap.size [.int .i64 x2, .int .i64 y2, .slice B2 z2 c2] := Bl.new' (by simp) (by simp)
        have ca1_0 : (wr.alloc (.cells #[.int .i64 x2, .int .i64 y2, .slice B2 z2 c2] 77)).cell? ⟨RB, 0, none⟩ = some (.int .i64 x1) := (b9.2 0 _ rfl).1
        have fa1_0 : (wr.alloc (.cells #[.int .i64 x2, .int .i64 y2, .slice B2 z2 c2] 77)).frozen? ⟨RB, 0, none⟩ = false := (b9.2 0 _ rfl).2
        have ca1_1 : (wr.alloc (.cells #[.int .i64 x2, .int .i64 y2, .slice B2 z2 c2] 77)).cell? ⟨RB, 1, none⟩ = some (.int .i64 y1) := (b9.2 1 _ rfl).1
        have fa1_1 : (wr.alloc (.cells #[.int .i64 x2, .int .i64 y2, .slice B2 z2 c2] 77)).frozen? ⟨RB, 1, none⟩ = false := (b9.2 1 _ rfl).2
        have ca1_2 : (wr.alloc (.cells #[.int .i64 x2, .int .i64 y2, .slice B2 z2 c2] 77)).cell? ⟨RB, 2, none⟩ = some (.slice B1 z1 c1) := (b9.2 2 _ rfl).1
        have fa1_2 : (wr.alloc (.cells #[.int .i64 x2, .int .i64 y2, .slice B2 z2 c2] 77)).frozen? ⟨RB, 2, none⟩ = false := (b9.2 2 _ rfl).2
        have ca2_0 : (wr.alloc (.cells #[.int .i64 x2, .int .i64 y2, .slice B2 z2 c2] 77)).cell? ⟨wr.heap.size, 0, none⟩ = some (.int .i64 x2) := (b11.2 0 _ rfl).1
        have fa2_0 : (wr.alloc (.cells #[.int .i64 x2, .int .i64 y2, .slice B2 z2 c2] 77)).frozen? ⟨wr.heap.size, 0, none⟩ = false := (b11.2 0 _ rfl).2
        have ca2_1 : (wr.alloc (.cells #[.int .i64 x2, .int .i64 y2, .slice B2 z2 c2] 77)).cell? ⟨wr.heap.size, 1, none⟩ = some (.int .i64 y2) := (b11.2 1 _ rfl).1
        have fa2_1 : (wr.alloc (.cells #[.int .i64 x2, .int .i64 y2, .slice B2 z2 c2] 77)).frozen? ⟨wr.heap.size, 1, none⟩ = false := (b11.2 1 _ rfl).2
        have ca2_2 : (wr.alloc (.cells #[.int .i64 x2, .int .i64 y2, .slice B2 z2 c2] 77)).cell? ⟨wr.heap.size, 2, none⟩ = some (.slice B2 z2 c2) := (b11.2 2 _ rfl).1
        have fa2_2 : (wr.alloc (.cells #[.int .i64 x2, .int .i64 y2, .slice B2 z2 c2] 77)).frozen? ⟨wr.heap.size, 2, none⟩ = false := (b11.2 2 _ rfl).2
        go_wp2_with fail
        clear ca1_0 fa1_0 ca1_1 fa1_1 ca1_2 fa1_2 ca2_0 fa2_0 ca2_1 fa2_1 ca2_2 fa2_2
        refine (sameClass_any (h.keeps kw) (h'.keeps kw) (hvi1.keeps kw) (hvi2.keeps kw) HS.out HF1.out HF2.out HV.out).mono ?_
        rintro e w3 ⟨rfl, k3⟩
        rw [HP.out]
        replace b9 := b9.keeps k3
        replace b11 := b11.keeps k3
        replace own := own.keeps k3
        replace kw := Keeps.trans kw k3
        have lt4 := b11.lt
        have sz5 := kw.size
        clear k3
        clear hc2 hd2 hvv2 b11
        cases p
        · rw [clS_stay HP2.out] at own
          go_wp2_with fail
          go_roundw
          case rel => exact ⟨k + 1, by omega, by go_num, own, b9, kw⟩
          case measure => simp [intOf]; omega
        have hce := own.cell i (by rw [clS_len]; exact hlt)
        rw [clS_at hlt] at hce
        have hfe := own.frozen i
        have O1 := hid (own.set_ i ((clN l vs rs i k : Int) + 1))
        rw [clS_step hlt HP2.out] at O1
        have hb := clN_le l vs rs i k
        have X9 := hid (b9.far (p := ⟨w.heap.size, i, none⟩) (by show RB ≠ w.heap.size; omega) (.int .i64 ((clN l vs rs i k : Int) + 1)))
        have K9 := hid (kw.setCell (p := ⟨w.heap.size, i, none⟩) (Nat.le_refl _) (.int .i64 ((clN l vs rs i k : Int) + 1)))
        obtain ⟨N, hN⟩ : ∃ N, clN l vs rs i k = N := ⟨_, rfl⟩
        rw [hN] at hce hb O1 X9 K9
        clear hN own b9 kw
        go_wp2_with fail
        go_roundw
        case rel => exact ⟨k + 1, by omega, by go_num, O1.out, X9.out, K9.out⟩
        case measure => simp [intOf]; omega
    · obtain rfl : i = q := by omega
      rw [clS_end] at own
      have lt9 := own.lt
      have HM := hid (own.mine (clF_len l vs rs i) hq (Nat.le_refl _) lt9 (Nat.le_refl _))
      go_wp2
      go_ret
      exact ⟨_, rfl, HM.out, kw⟩
/-- Block g holds the heads of q slices: those ahead of i have the lengths f, those behind it are nil. -/
def Hds (w : World) (g q : Nat) (f : Nat → Nat) (i : Nat) (cs : List Value) : Prop :=
  OwnC w g 22 cs ∧ cs.length = q ∧ (∀ j, j < q → j < i → ∃ A c, cs.getD j undef = .slice A (f j) c) ∧ ∀ j, i < j → j < q → cs.getD j undef = .slice none 0 0
theorem Hds.below {w w' : World} {g q i B : Nat} {f : Nat → Nat} {cs : List Value} (h : Hds w g q f i cs) (k : Below B w w') (hg : g < B) : Hds w' g q f i cs := ⟨h.1.below k hg, h.2⟩
theorem Hds.keeps {w w' : World} {g q i : Nat} {f : Nat → Nat} {cs : List Value} (h : Hds w g q f i cs) (k : Keeps w w') : Hds w' g q f i cs := h.below k h.1.lt
theorem Hds.set_ {w : World} {g q i : Nat} {f : Nat → Nat} {cs : List Value} (h : Hds w g q f i cs) (v : Value) : Hds (w.setCell ⟨g, i, none⟩ v) g q f i (cs.set i v) := by
  refine ⟨h.1.set_ i v, by simpa using h.2.1, fun j h1 h2 => ?_, fun j h1 h2 => ?_⟩
  · rw [getD_set_other (by omega)]; exact h.2.2.1 j h1 h2
  · rw [getD_set_other (by omega)]; exact h.2.2.2 j h1 h2
theorem Has.store {w : World} {B e size n g i : Nat} {v u : Value} {cs : List Value} (h : Has w B e size v n cs) (hg : g < B) : Has (w.setCell ⟨g, i, none⟩ u) B e size v n cs := by
  refine ⟨h.1, ?_⟩
  rcases h.2 with h3 | ⟨g', cap, cur, hv, hb, hh, rest⟩
  · exact .inl h3
  · exact .inr ⟨g', cap, cur, hv, hb, (Below.heap_setCell w ⟨g, i, none⟩ u g' (by show g' ≠ g; omega)).trans hh, rest⟩
theorem Has.keeps {w w' : World} {B e size n : Nat} {v : Value} {cs : List Value} (h : Has w B e size v n cs) (hb : Keeps w w') : Has w' B e size v n cs := h.below hb
theorem info_islice : (Try.prog.info? 22).map (fun i => (i.zero, i.size, i.bytes)) = some (some (.slice none 0 0), 1, 24) := by kernel_rfl
theorem make_irows (n : Nat) (hn : n ≤ 67108864) (w : World) :
    (Instr.makeSlice 102 (.int .i64 (n : Int)) (.int .i64 (n : Int))).run Try.prog w = .ok (.slice (some ⟨w.heap.size, 0, none⟩) n n) (w.alloc (.cells (madeCells #[.slice none 0 0] n) 22)) := by
  obtain ⟨i, hi, hz0, hz1, hz2⟩ := info_parts info_islice
  have h := run_make_rowN (P := Try.prog) 102 22 i _ Try.underlying102 hi hz0 .i64 .i64 n n (Nat.le_refl _) (by rw [hz2]; omega) (by omega) w
  rw [hz1] at h
  simpa [Value.cells] using h
theorem Hds.new (w : World) (q : Nat) (f : Nat → Nat) : ∃ cs, Hds (w.alloc (.cells (madeCells #[.slice none 0 0] q) 22)) w.heap.size q f 0 cs ∧ ∀ j, j < q → cs.getD j undef = .slice none 0 0 := by
  refine ⟨(madeCells #[.slice none 0 0] q).toList, ⟨by unfold OwnC; rw [heap_alloc_new], by simp [size_madeCells], fun j _ h => absurd h (by omega), fun j h1 h2 => ?_⟩, fun j h2 => ?_⟩ <;>
  · have : j < (madeCells #[Value.slice none 0 0] q).size := by simpa [size_madeCells] using h2
    simp [List.getD, this, madeCells, Nat.mod_one, h2]
set_option maxRecDepth 100000 in
set_option maxHeartbeats 6400000 in
theorem liSets_any {A A' R : Option Addr} {lo hi n c m d lo3 hi3 q e : Nat} {vs : List Int} {l : List VV} {rs : List RR} {w : World} (h : Ints w lo hi A n vs) (h' : Sch w A' m d l) (hr : Recs w lo3 hi3 R q rs) (hk : kdB l rs vs = true) :
    Calls Try.prog 81 #[.slice A' m d, .slice R q e, .slice R q e, .slice A n c] w fun e w' => ∃ g cs, e = .returned (.slice (some ⟨g, 0, none⟩) q q) ∧ Hds w' g q (fun j => clN l vs rs j q) q cs ∧ Keeps w w' := by
  have hq := hr.le
  obtain ⟨hs, h40, hvs, hfit⟩ := kdB_parts hk
  have hl : l.length = m := by obtain ⟨lo', hi', hv⟩ := h'.v; exact Vars.len hv
  rw [hl] at hvs
  rw [hr.len] at h40 hfit
  have HS := hid hs
  have HV := hid hvs
  have HFIT := hid hfit
  clear hs hvs hfit hl hk
  have hmk := make_irows q hq
  obtain ⟨F, hF⟩ : ∃ F : Nat → Nat, F = fun j => clN l vs rs j q := ⟨_, rfl⟩
  have HFE := hid hF
  rw [← hF]
  clear hF
  go_enter Try.func81, Try.ntmps81
  have kw := keeps_refl w
  go_wp2_with fail
  have hd0 := Hds.new w q F
  replace kw := Keeps.trans kw (keeps_alloc w (.cells (madeCells #[.slice none 0 0] q) 22))
  clear hmk
  go_loopw [19] (fun i wr => ∃ (k : Nat) (cs : List Value), k ≤ q ∧ i = .int .i64 k ∧ Hds wr w.heap.size q F k cs ∧ (k < q → cs.getD k undef = .slice none 0 0) ∧ Keeps w wr) (fun i _ => q - (intOf i).toNat)
  case atStart => obtain ⟨cs, d1, d2⟩ := hd0; exact ⟨0, cs, Nat.zero_le _, rfl, d1, fun h => d2 0 h, kw⟩
  clear kw hd0
  case round =>
    obtain ⟨i, cs, hi, rfl, own, hnil, kw⟩ := hrel
    by_cases hlt : i < q
    · obtain ⟨b1, off1, x1, y1, B1, z1, c1, zs1, eR1, _, _, hc1, hd1, hvv1, hvi1, hx1⟩ := hr.at_ hlt
      subst eR1
      have hf1 : fitB l zs1 = true := by have := HFIT.out i hlt; rw [← hx1.out] at this; exact this
      have HF1 := hid hf1
      clear hf1
      replace hc1 := cell_keeps hc1 kw
      replace hd1 := cell_keeps hd1 kw
      replace hvv1 := cell_keeps hvv1 kw
      have hi1 : (i : Int) < (q : Int) := by omega
      have hn0 := hnil hlt
      clear hnil
      have lt3 := own.1.lt
      replace own := own.keeps (keeps_alloc wr (.cells #[.int .i64 x1, .int .i64 y1, .slice B1 z1 c1] 77))
      replace kw := Keeps.trans kw (keeps_alloc wr (.cells #[.int .i64 x1, .int .i64 y1, .slice B1 z1 c1] 77))
      have b9 : Bl (wr.alloc (.cells #[.int .i64 x1, .int .i64 y1, .slice B1 z1 c1] 77)) wr.heap.size [.int .i64 x1, .int .i64 y1, .slice B1 z1 c1] := Bl.new' (by simp) (by simp)
      go_wp2_with fail
      have lt9 := b9.lt
      obtain ⟨RB, hRB⟩ : ∃ a, wr.heap.size = a := ⟨_, rfl⟩
      rw [hRB] at b9 lt9 lt3 ⊢
      clear hRB
      clear hc1 hd1 hvv1
      obtain ⟨wo, hwo⟩ : ∃ u : World, u = wr := ⟨_, rfl⟩
      go_loopw [26] (fun j wv => ∃ (k : Nat) (cs : List Value) (xs : List Int), k ≤ q ∧ j = .int .i64 k ∧ Hds wv w.heap.size q F i cs ∧ Has wv (RB + 1) 3 1 (cs.getD i undef) (clN l vs rs i k) (xs.map (Value.int .i64)) ∧ Bl wv RB [.int .i64 x1, .int .i64 y1, .slice B1 z1 c1] ∧ Keeps w wv) (fun j _ => q - (intOf j).toNat)
      case atStart => exact ⟨0, cs, [], Nat.zero_le _, rfl, own, by rw [hn0]; exact World.ownsRow_nil _ _ _ _, b9, kw⟩
      clear own b9 kw lt9 hn0 cs
      case round =>
        obtain ⟨k, cs, xs, hk, rfl, own, hs, b9, kw⟩ := hrel
        by_cases hkt : k < q
        rotate_left
        · obtain rfl : k = q := by omega
          have HE : ∃ A c, cs.getD i undef = .slice A (F i) c := by
            obtain ⟨A1, c1, e1⟩ := hs.form
            exact ⟨A1, c1, by rw [e1, HFE.out]⟩
          have H1 : Hds wr w.heap.size k F (i + 1) cs := ⟨own.1, own.2.1, fun j h1 h2 => by
            by_cases hj : j = i
            · subst hj; exact HE
            · exact own.2.2.1 j h1 (by omega), fun j h1 h2 => own.2.2.2 j (by omega) h2⟩
          have H2 := hid (fun (h9 : i + 1 < k) => own.2.2.2 (i + 1) (by omega) h9)
          replace H1 := hid H1
          clear own hs HE b9
          go_wp2_with fail
          go_roundw
          case rel => exact ⟨i + 1, cs, by omega, by go_num, H1.out, H2.out, kw⟩
          case measure => simp [intOf]; omega
        obtain ⟨b2, off2, x2, y2, B2, z2, c2, zs2, eR2, _, _, hc2, hd2, hvv2, hvi2, hx2⟩ := hr.at_ hkt
        injection eR2 with eR2
        injection eR2 with eb2 eo2
        subst eb2 eo2
        have hf2 : fitB l zs2 = true := by have := HFIT.out k hkt; rw [← hx2.out] at this; exact this
        have HF2 := hid hf2
        clear hf2
        replace hc2 := cell_keeps hc2 kw
        replace hd2 := cell_keeps hd2 kw
        replace hvv2 := cell_keeps hvv2 kw
        have hk1 : (k : Int) < (q : Int) := by omega
        have lt9 := b9.lt
        have hsz := own.1.lt
        obtain ⟨p, HP⟩ : ∃ p, Hid (clB l vs (x1, y1, zs1) (x2, y2, zs2) = p) := ⟨_, rfl⟩
        have HP2 := hid (show clB l vs (rs.getD i r0) (rs.getD k r0) = p by rw [← hx1.out, ← hx2.out]; exact HP.out)
        replace b9 := b9.keeps (keeps_alloc wr (.cells #[.int .i64 x2, .int .i64 y2, .slice B2 z2 c2] 77))
        replace own := own.keeps (keeps_alloc wr (.cells #[.int .i64 x2, .int .i64 y2, .slice B2 z2 c2] 77))
        replace hs := hs.keeps (keeps_alloc wr (.cells #[.int .i64 x2, .int .i64 y2, .slice B2 z2 c2] 77))
        replace kw := Keeps.trans kw (keeps_alloc wr (.cells #[.int .i64 x2, .int .i64 y2, .slice B2 z2 c2] 77))
        have b11 : Bl (wr.alloc (.cells #[.int .i64 x2, .int .i64 y2, .slice B2 z2 c2] 77)) wr.heap.size [.int .i64 x2, .int .i64 y2, .slice B2 z2 c2] := Bl.new' (by simp) (by simp)
        have ca1_0 : (wr.alloc (.cells #[.int .i64 x2, .int .i64 y2, .slice B2 z2 c2] 77)).cell? ⟨RB, 0, none⟩ = some (.int .i64 x1) := (b9.2 0 _ rfl).1
        have fa1_0 : (wr.alloc (.cells #[.int .i64 x2, .int .i64 y2, .slice B2 z2 c2] 77)).frozen? ⟨RB, 0, none⟩ = false := (b9.2 0 _ rfl).2
        have ca1_1 : (wr.alloc (.cells #[.int .i64 x2, .int .i64 y2, .slice B2 z2 c2] 77)).cell? ⟨RB, 1, none⟩ = some (.int .i64 y1) := (b9.2 1 _ rfl).1
        have fa1_1 : (wr.alloc (.cells #[.int .i64 x2, .int .i64 y2, .slice B2 z2 c2] 77)).frozen? ⟨RB, 1, none⟩ = false := (b9.2 1 _ rfl).2
        have ca1_2 : (wr.alloc (.cells #[.int .i64 x2, .int .i64 y2, .slice B2 z2 c2] 77)).cell? ⟨RB, 2, none⟩ = some (.slice B1 z1 c1) := (b9.2 2 _ rfl).1
        have fa1_2 : (wr.alloc (.cells #[.int .i64 x2, .int .i64 y2, .slice B2 z2 c2] 77)).frozen? ⟨RB, 2, none⟩ = false := (b9.2 2 _ rfl).2
        have ca2_0 : (wr.alloc (.cells #[.int .i64 x2, .int .i64 y2, .slice B2 z2 c2] 77)).cell? ⟨wr.heap.size, 0, none⟩ = some (.int .i64 x2) := (b11.2 0 _ rfl).1
        have fa2_0 : (wr.alloc (.cells #[.int .i64 x2, .int .i64 y2, .slice B2 z2 c2] 77)).frozen? ⟨wr.heap.size, 0, none⟩ = false := (b11.2 0 _ rfl).2
        have ca2_1 : (wr.alloc (.cells #[.int .i64 x2, .int .i64 y2, .slice B2 z2 c2] 77)).cell? ⟨wr.heap.size, 1, none⟩ = some (.int .i64 y2) := (b11.2 1 _ rfl).1
        have fa2_1 : (wr.alloc (.cells #[.int .i64 x2, .int .i64 y2, .slice B2 z2 c2] 77)).frozen? ⟨wr.heap.size, 1, none⟩ = false := (b11.2 1 _ rfl).2
        have ca2_2 : (wr.alloc (.cells #[.int .i64 x2, .int .i64 y2, .slice B2 z2 c2] 77)).cell? ⟨wr.heap.size, 2, none⟩ = some (.slice B2 z2 c2) := (b11.2 2 _ rfl).1
        have fa2_2 : (wr.alloc (.cells #[.int .i64 x2, .int .i64 y2, .slice B2 z2 c2] 77)).frozen? ⟨wr.heap.size, 2, none⟩ = false := (b11.2 2 _ rfl).2
        go_wp2_with fail
        clear ca1_0 fa1_0 ca1_1 fa1_1 ca1_2 fa1_2 ca2_0 fa2_0 ca2_1 fa2_1 ca2_2 fa2_2
        refine (liSame_any (h.keeps kw) (h'.keeps kw) (hvi1.keeps kw) (hvi2.keeps kw) HS.out HF1.out HF2.out HV.out).mono ?_
        rintro e w3 ⟨rfl, k3⟩
        rw [HP.out]
        replace b9 := b9.keeps k3
        replace b11 := b11.keeps k3
        replace own := own.keeps k3
        replace hs := hs.keeps k3
        replace kw := Keeps.trans kw k3
        have lt4 := b11.lt
        have sz5 := kw.size
        clear k3
        clear hc2 hd2 hvv2 b11
        cases p
        · rw [← clN_no HP2.out] at hs
          go_wp2_with fail
          go_roundw
          case rel => exact ⟨k + 1, cs, xs, by omega, by go_num, own, hs, b9, kw⟩
          case measure => simp [intOf]; omega
        have HCN := hid (clN_yes HP2.out)
        have hb := clN_le l vs rs i k
        obtain ⟨N, hN⟩ : ∃ N, clN l vs rs i k = N := ⟨_, rfl⟩
        rw [hN] at hs hb HCN
        clear hN
        obtain ⟨A9, c9, e9⟩ := hs.form
        have hce := own.1.cell i (by rw [own.2.1]; exact hlt)
        rw [e9] at hs hce
        have hcl := own.2.1
        have LT := hid (show w.heap.size < RB + 1 by omega)
        go_wp2_with (at_builtin; refine append_int (xs := xs) (u := (k : Int)) hs (by omega) (by omega) _ _ rfl rfl rfl (by first | rfl | (simp <;> rfl)) ?_; intro v' w9 hs9 hb9; have fm := hs9.form; obtain ⟨A8, c8, e8⟩ := fm; subst e8; have own9 := own.below hb9 (by omega); have hcx := own9.1.cell i (by rw [own9.2.1]; exact hlt); have hfx := own9.1.frozen i)
        have sz9 := hb9.size
        have b99 : Bl w9 RB [.int .i64 x1, .int .i64 y1, .slice B1 z1 c1] := b9.fr (l := RB + 1) (h' := w9.heap.size + RB + 1) ⟨hb9.os, hb9.tape, hb9.output, hb9.size, fun j h1 h2 => hb9.block j (by omega)⟩ (by omega)
        have kw9 : Keeps w w9 := Below.trans kw (hb9.mono (by omega))
        have O1 := hid (own9.set_ (.slice A8 (N + 1) c8))
        have HH := hid (hs9.store (g := w.heap.size) (i := i) (u := .slice A8 (N + 1) c8) (by omega))
        have X9 := hid (b99.far (p := ⟨w.heap.size, i, none⟩) (by show RB ≠ w.heap.size; omega) (.slice A8 (N + 1) c8))
        have K9 := hid (kw9.setCell (p := ⟨w.heap.size, i, none⟩) (Nat.le_refl _) (.slice A8 (N + 1) c8))
        have HG := hid (show (cs.set i (.slice A8 (N + 1) c8)).getD i undef = .slice A8 (N + 1) c8 from getD_set_same (by rw [hcl]; exact hlt))
        clear own b9 kw own9 b99 kw9 hb9 hs9 hs hce hcx hfx
        go_wp2_with fail
        go_roundw
        case rel => exact ⟨k + 1, _, xs ++ [(k : Int)], by omega, by go_num, O1.out, by rw [HG.out, HCN.out]; exact HH.out, X9.out, K9.out⟩
        case measure => simp [intOf]; omega
    · obtain rfl : i = q := by omega
      go_wp2
      go_ret
      exact ⟨_, _, rfl, own, kw⟩
/-- Sizes of one's own, or none. -/
def CsRes (w : World) (q : Nat) (xs : List Int) (b : Bool) (e : Ending) (w' : World) : Prop :=
  ∃ A1 C1, e = .returned (.tuple #[.slice A1 (if b = true then q else 0) C1, .bool b]) ∧ (b = true → Mine w' w.heap.size w'.heap.size A1 q xs) ∧ Keeps w w'
set_option maxRecDepth 100000 in
set_option maxHeartbeats 3200000 in
theorem ClassSizes_any {A A' R : Option Addr} {lo hi n c m d lo3 hi3 q e : Nat} {vs : List Int} {l : List VV} {rs : List RR} {w : World} (h : Ints w lo hi A n vs) (h' : Sch w A' m d l) (hr : Recs w lo3 hi3 R q rs) :
    Calls Try.prog 49 #[.slice A' m d, .slice R q e, .slice A n c] w (CsRes w q (clF l vs rs q) (kdB l rs vs)) := by
  have hq := hr.le
  go_enter Try.func49, Try.ntmps49
  have kw := keeps_refl w
  go_wp2_with fail
  obtain ⟨pH1, H1⟩ : ∃ pB, Hid (kdB l rs vs = pB) := ⟨_, rfl⟩
  refine (swInput_any (h.keeps kw) (h'.keeps kw) (hr.keeps kw)).mono ?_
  rintro e w1 ⟨rfl, k1⟩
  rw [H1.out]
  replace kw := Keeps.trans kw k1
  have sz2 := kw.size
  clear k1
  cases pH1
  · go_wp2_with fail
    go_ret2
    rw [H1.out]
    exact ⟨none, 0, rfl, (fun h => by cases h), kw⟩
  · skip
    go_wp2_with fail
    refine (liSets_any (h.keeps kw) (h'.keeps kw) (hr.keeps kw) H1.out).mono ?_
    rintro e w3 ⟨gh, cs, rfl, hh, k3⟩
    replace kw := Keeps.trans kw k3
    have sz4 := kw.size
    clear k3
    go_wp2_with fail
    have HH := hid hh
    clear hh
    go_loopw [8, 22] (fun v i wr => ∃ k : Nat, k ≤ q ∧ i = .int .i64 k ∧ Has wr w3.heap.size 3 1 v k (((clF l vs rs q).take k).map (Value.int .i64)) ∧ Keeps w3 wr) (fun _ i _ => q - (intOf i).toNat)
    case atStart => exact ⟨0, Nat.zero_le _, rfl, World.ownsRow_nil _ _ _ _, keeps_refl _⟩
    case round =>
      obtain ⟨k, hk, rfl, hown, kv⟩ := hrel
      by_cases hlt : k < q
      · have hi1 : (k : Int) < (q : Int) := by omega
        have hce := (HH.out.keeps kv).1.cell k (by rw [HH.out.2.1]; exact hlt)
        obtain ⟨A9, c9, e9⟩ := HH.out.2.2.1 k hlt hlt
        rw [e9] at hce
        dsimp only at hce
        have HT := hid (show (clF l vs rs q).take (k + 1) = (clF l vs rs q).take k ++ [(clN l vs rs k q : Int)] by
          rw [take_snoc (clF l vs rs q) k 0 (by rw [clF_len]; exact hlt), clF_at l vs rs hlt])
        have hsz := kv.size
        obtain ⟨N, hN⟩ : ∃ N, clN l vs rs k q = N := ⟨_, rfl⟩
        rw [hN] at hce HT
        clear hN e9
        go_wp2_with (at_builtin; refine append_int (xs := (clF l vs rs q).take k) hown (by omega) (by omega) _ _ rfl rfl rfl (by first | rfl | (simp <;> rfl)) ?_; intro v' w' hown' hb')
        rw [← HT.out] at hown'
        have H2 := hid hown'
        have H3 := hid (Below.trans kv hb')
        clear hown' hb' kv hown hce
        go_wp2
        go_roundw
        case rel => exact ⟨k + 1, by omega, by go_num, H2.out, H3.out⟩
        case measure => simp [intOf]; omega
      · obtain rfl : k = q := by omega
        rw [List.take_of_length_le (by rw [clF_len]; exact Nat.le_refl _)] at hown
        obtain ⟨A1, C1, rfl⟩ := hown.form
        have HM := hid ((Mine.of_own hown hq).widen (lo' := w.heap.size) (by have := kw.size; omega) (Nat.le_refl _) (Nat.le_refl _))
        have K9 := hid (Keeps.trans kw kv)
        clear hown kw kv
        go_wp2
        go_ret2
        rw [H1.out]
        exact ⟨A1, C1, rfl, fun _ => HM.out, K9.out⟩
set_option maxRecDepth 100000 in
set_option maxHeartbeats 1600000 in
theorem Min_any {A : Option Addr} {lo hi n c : Nat} {xs : List Int} {w : World} (h : Ints w lo hi A n xs) (h0 : 0 < n) :
    Calls Try.prog 53 #[.slice A n c] w fun e w' => e = .returned (.int .i64 (mnTo xs n)) ∧ w = w' := by
  have hn := h.le
  obtain ⟨b0, off0, x0, eA, _, _, hc0, hx0⟩ := h.at_ h0
  subst eA
  have hn1 : ¬ ((n : Int) < 1) := by omega
  have hi0 : (0 : Int) < (n : Int) := by omega
  have H1 := hid (show mnTo xs 1 = x0 by rw [mnTo_one, ← hx0.out])
  go_enter Try.func53, Try.ntmps53
  rw [Nat.add_zero] at hc0
  go_wp2_with fail
  clear hc0
  go_loop [3, 4] (fun m i => ∃ k : Nat, 1 ≤ k ∧ k ≤ n ∧ i = .int .i64 k ∧ m = .int .i64 (mnTo xs k)) (fun _ i => n - (intOf i).toNat)
  case atStart => exact ⟨1, Nat.le_refl _, h0, rfl, by rw [H1.out]⟩
  case round =>
    obtain ⟨k, hk1, hk, rfl, rfl⟩ := hrel
    by_cases hlt : k < n
    · obtain ⟨b, off, x, eA, _, _, hc, hx⟩ := h.at_ hlt
      injection eA with eA
      injection eA with e1 e2
      subst e1 e2
      have hi1 : (k : Int) < (n : Int) := by omega
      have HN := hid (show mnTo xs (k + 1) = if x < mnTo xs k then x else mnTo xs k by show (if xs.getD k 0 < mnTo xs k then xs.getD k 0 else mnTo xs k) = _; rw [← hx.out])
      obtain ⟨M, hM⟩ : ∃ M, mnTo xs k = M := ⟨_, rfl⟩
      rw [hM] at HN
      rw [hM]
      clear hx hM
      by_cases hxm : x < M
      · have HN2 := hid (HN.out.trans (if_pos hxm))
        clear HN
        go_wp2
        go_round
        case rel => exact ⟨k + 1, by omega, by omega, by go_num, by rw [HN2.out]⟩
        case measure => simp [intOf]; omega
      · have HN2 := hid (HN.out.trans (if_neg hxm))
        clear HN
        go_wp2
        go_round
        case rel => exact ⟨k + 1, by omega, by omega, by go_num, by rw [HN2.out]⟩
        case measure => simp [intOf]; omega
    · obtain rfl : k = n := by omega
      go_wp2
      go_ret
      exact ⟨rfl, rfl⟩
set_option maxRecDepth 100000 in
set_option maxHeartbeats 3200000 in
theorem implLeastClass_any {A A' R : Option Addr} {lo hi n m lo3 hi3 q lo' hi' : Nat} {vs : List Int} {l : List VV} {rs : List RR} {w : World} (hv : Vars w lo' hi' A' m l) (ok : NamesOk l) (hr : Recs w lo3 hi3 R q rs) (h : Ints w lo hi A n vs) :
    Calls Try.prog 18 #[.slice A' m m, .slice R q q, .slice A n n] w fun e w' => e = .returned (.tuple #[.int .i64 (lcQ l rs vs).1, .bool (lcQ l rs vs).2]) ∧ Keeps w w' := by
  have hm := hv.le
  have hq := hr.le
  have h' : Sch w A' m m l := ⟨⟨_, _, hv⟩, ok, Nat.le_refl _, by unfold maxLen; omega⟩
  have HRL := hid hr.len
  go_enter Try.func18, Try.ntmps18
  have kw := keeps_refl w
  go_wp2_with fail
  obtain ⟨pH1, H1⟩ : ∃ pB, Hid (kdB l rs vs = pB) := ⟨_, rfl⟩
  refine (areKeyed_any (h.keeps kw) (h'.keeps kw) (hr.keeps kw)).mono ?_
  rintro e w1 ⟨rfl, k1⟩
  rw [H1.out]
  replace kw := Keeps.trans kw k1
  have sz2 := kw.size
  clear k1
  cases pH1
  · have HN := hid (lcQ_no H1.out)
    go_wp2_with fail
    go_ret2
    rw [HN.out]
    exact ⟨rfl, kw⟩
  · skip
    by_cases hq0 : q = 0
    · subst hq0
      have HN := hid (lcQ_nil H1.out HRL.out)
      go_wp2_with fail
      go_ret2
      rw [HN.out]
      exact ⟨rfl, kw⟩
    have HN := hid (lcQ_yes H1.out (by rw [HRL.out]; exact hq0))
    rw [HRL.out] at HN
    have t1 : ((q : Int) == 0) = false := by rw [beq_eq_false_iff_ne]; omega
    go_wp2_with fail
    refine (classSizes_any (h.keeps kw) (h'.keeps kw) (hr.keeps kw) H1.out).mono ?_
    rintro e w3 ⟨A1, rfl, m1, k3⟩
    replace kw := Keeps.trans kw k3
    have sz4 := kw.size
    clear k3
    go_wp2_with fail
    obtain ⟨M, hM⟩ : ∃ M, mnTo (clF l vs rs q) q = M := ⟨_, rfl⟩
    rw [hM] at HN
    have HM := hid hM
    clear hM
    refine (Min_any m1.1 (by omega)).mono ?_
    rintro e w' ⟨rfl, rfl⟩
    rw [HM.out]
    go_wp2_with fail
    go_ret2
    rw [HN.out]
    exact ⟨rfl, kw⟩
set_option maxRecDepth 100000 in
set_option maxHeartbeats 3200000 in
theorem specLeastClass_any {A A' R : Option Addr} {lo hi n m lo3 hi3 q lo' hi' : Nat} {vs : List Int} {l : List VV} {rs : List RR} {w : World} (hv : Vars w lo' hi' A' m l) (ok : NamesOk l) (hr : Recs w lo3 hi3 R q rs) (h : Ints w lo hi A n vs) :
    Calls Try.prog 15 #[.slice A' m m, .slice R q q, .slice A n n] w fun e w' => e = .returned (.tuple #[.int .i64 (lcQ l rs vs).1, .bool (lcQ l rs vs).2]) ∧ Keeps w w' := by
  have hm := hv.le
  have hq := hr.le
  have h' : Sch w A' m m l := ⟨⟨_, _, hv⟩, ok, Nat.le_refl _, by unfold maxLen; omega⟩
  have HRL := hid hr.len
  go_enter Try.func15, Try.ntmps15
  have kw := keeps_refl w
  go_wp2_with fail
  obtain ⟨p1, H1⟩ : ∃ pB, Hid (kdB l rs vs = pB) := ⟨_, rfl⟩
  refine (ClassSizes_any (h.keeps kw) (h'.keeps kw) (hr.keeps kw)).mono ?_
  rintro e w1 ⟨A1, C1, rfl, m1, k1⟩
  replace kw := Keeps.trans kw k1
  have sz2 := kw.size
  clear k1
  rw [H1.out] at m1
  rw [H1.out]
  cases p1
  · have HN := hid (lcQ_no H1.out)
    clear m1
    go_wp2_with fail
    go_ret2
    rw [HN.out]
    exact ⟨rfl, kw⟩
  replace m1 := m1 rfl
  have HPOS := hid (fun j (hj : j < q) => (show 1 ≤ (clF l vs rs q).getD j 0 by rw [clF_at l vs rs hj]; have := clN_pos l vs rs q hj; omega))
  obtain ⟨X, hX⟩ : ∃ X, clF l vs rs q = X := ⟨_, rfl⟩
  have HX := hid hX
  rw [hX] at m1 HPOS
  clear hX
  have HMP := hid (mnTo_pos HPOS.out)
  have m1i := m1.1
  clear m1
  rw [show (if true = true then q else 0) = q from if_pos rfl]
  go_wp2_with fail
  go_loop [10, 24] (fun bst i => ∃ k : Nat, k ≤ q ∧ i = .int .i64 k ∧ bst = .int .i64 (if k = 0 then 0 else mnTo X k)) (fun _ i => q - (intOf i).toNat)
  case atStart => exact ⟨0, Nat.zero_le _, rfl, rfl⟩
  case round =>
    obtain ⟨k, hk, rfl, rfl⟩ := hrel
    by_cases hlt : k < q
    · obtain ⟨b, off, x, rfl, _, _, hc, hx⟩ := m1i.at_ hlt
      have hi1 : (k : Int) < (q : Int) := by omega
      by_cases hk0 : k = 0
      · subst hk0
        have HE := hid (show mnTo X 1 = x by rw [mnTo_one]; exact hx.out.symm)
        rw [if_pos rfl]
        rw [Nat.add_zero] at hc
        clear hx
        go_wp2
        go_round
        case rel => exact ⟨1, by omega, by go_num, by rw [if_neg (by omega), HE.out]⟩
        case measure => simp [intOf]; omega
      · have hmp := HMP.out k (by omega) hk
        rw [if_neg hk0]
        have HN := hid (show mnTo X (k + 1) = if x < mnTo X k then x else mnTo X k by show (if X.getD k 0 < mnTo X k then X.getD k 0 else mnTo X k) = _; rw [← hx.out])
        obtain ⟨M, hM⟩ : ∃ M, mnTo X k = M := ⟨_, rfl⟩
        rw [hM] at HN hmp
        rw [hM]
        clear hx hM hk0
        have t1 : (M == 0) = false := by rw [beq_eq_false_iff_ne]; omega
        by_cases hxm : x < M
        · have HN2 := hid (HN.out.trans (if_pos hxm))
          clear HN
          go_wp2
          go_round
          case rel => exact ⟨k + 1, by omega, by go_num, by rw [if_neg (by omega), HN2.out]⟩
          case measure => simp [intOf]; omega
        · have HN2 := hid (HN.out.trans (if_neg hxm))
          clear HN
          go_wp2
          go_round
          case rel => exact ⟨k + 1, by omega, by go_num, by rw [if_neg (by omega), HN2.out]⟩
          case measure => simp [intOf]; omega
    · obtain rfl : k = q := by omega
      by_cases hk0 : k = 0
      · subst hk0
        have HN := hid (lcQ_nil H1.out HRL.out)
        rw [if_pos rfl]
        go_wp2
        go_ret2
        rw [HN.out]
        exact ⟨rfl, kw⟩
      · have HN := hid (lcQ_yes H1.out (by rw [HRL.out]; exact hk0))
        rw [HRL.out, HX.out] at HN
        rw [if_neg hk0]
        obtain ⟨M, hM⟩ : ∃ M, mnTo X k = M := ⟨_, rfl⟩
        rw [hM] at HN
        rw [hM]
        clear hM
        go_wp2
        go_ret2
        rw [HN.out]
        exact ⟨rfl, kw⟩
end Go.Proofs.Ytogdfgnolpfelaa
