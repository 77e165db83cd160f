/- Published tables: valid or not; of the program and of the reference. -/
import Derived.Test.YtellocnplemjmaaPub
import Derived.Test.YtellocnplemjmaaCtb
import Derived.Lib.QuietBelow
namespace Go.Proofs.Ytellocnplemjmaa
open Go.RowKit Go.Sort
set_option linter.unusedVariables false
set_option linter.unusedSimpArgs false

def apR (ps : List Int) (l : List VV) (p : PP) : Bool := tabB ps l p.1 && decide ((p.2.length : Int) = tabN ps l p.1) && within (-1) 1000000 p.2
def apTo (ps : List Int) (l : List VV) (ts : List PP) : Nat → Bool
  | 0 => true
  | k + 1 => apTo ps l ts k && apR ps l (ts.getD k p0)
def apB (ps : List Int) (l : List VV) (ts : List PP) : Bool := apTo ps l ts ts.length && decide (ts.length ≤ 20)
theorem apTo_bad {ps : List Int} {l : List VV} {ts : List PP} {k n : Nat} (h : apTo ps l ts k = false) (hn : k ≤ n) : apTo ps l ts n = false := by
  induction n with
  | zero => obtain rfl : k = 0 := by omega
            exact h
  | succ n ih =>
    rcases Nat.lt_or_ge n k with h1 | h1
    · obtain rfl : k = n + 1 := by omega
      exact h
    · unfold apTo; rw [ih h1]; rfl
theorem apTo_row {ps : List Int} {l : List VV} {ts : List PP} : ∀ n k, apTo ps l ts n = true → k < n → apR ps l (ts.getD k p0) = true
  | 0, k, _, hk => absurd hk (by omega)
  | n + 1, k, h, hk => by
    unfold apTo at h
    simp only [Bool.and_eq_true] at h
    rcases Nat.lt_or_ge k n with h1 | h1
    · exact apTo_row n k h.1 h1
    · obtain rfl : k = n := by omega
      exact h.2
theorem apB_no {ps : List Int} {l : List VV} {ts : List PP} {n k : Nat} (hl : ts.length = n) (hk : k < n) (h : apR ps l (ts.getD k p0) = false) : apB ps l ts = false := by
  unfold apB; rw [hl, apTo_bad (k := k + 1) (by unfold apTo; rw [h, Bool.and_false]) hk, Bool.false_and]
theorem apB_len {ps : List Int} {l : List VV} {ts : List PP} (h : ¬ ts.length ≤ 20) : apB ps l ts = false := by unfold apB; rw [decide_eq_false h, Bool.and_false]
theorem apB_yes {ps : List Int} {l : List VV} {ts : List PP} {n : Nat} (hl : ts.length = n) (h : apTo ps l ts n = true) : apB ps l ts = decide (n ≤ 20) := by unfold apB; rw [hl, h]; rfl
theorem apR_parts {ps : List Int} {l : List VV} {p : PP} (h : apR ps l p = true) : tabB ps l p.1 = true ∧ (p.2.length : Int) = tabN ps l p.1 ∧ within (-1) 1000000 p.2 = true := by
  unfold apR at h
  simp only [Bool.and_eq_true, decide_eq_true_eq] at h
  exact ⟨h.1.1, h.1.2, h.2⟩
theorem apB_at {ps : List Int} {l : List VV} {ts : List PP} (h : apB ps l ts = true) : ts.length ≤ 20 ∧ ∀ k, k < ts.length → apR ps l (ts.getD k p0) = true := by
  unfold apB at h
  simp only [Bool.and_eq_true, decide_eq_true_eq] at h
  exact ⟨h.2, fun k hk => apTo_row _ k h.1 hk⟩
theorem apR_1 {ps : List Int} {l : List VV} {p : PP} (h : tabB ps l p.1 = false) : apR ps l p = false := by unfold apR; rw [h]; rfl
theorem apR_2 {ps : List Int} {l : List VV} {p : PP} {n : Nat} {N : Int} (hn : p.2.length = n) (hN : tabN ps l p.1 = N) (h : ¬ (n : Int) = N) : apR ps l p = false := by unfold apR; rw [hn, hN, decide_eq_false h]; simp
theorem apR_3 {ps : List Int} {l : List VV} {p : PP} (h : within (-1) 1000000 p.2 = false) : apR ps l p = false := by unfold apR; rw [h]; simp
theorem apR_y {ps : List Int} {l : List VV} {p : PP} {n : Nat} {N : Int} (h1 : tabB ps l p.1 = true) (hn : p.2.length = n) (hN : tabN ps l p.1 = N) (h : (n : Int) = N) (h3 : within (-1) 1000000 p.2 = true) : apR ps l p = true := by unfold apR; rw [h1, h3, hn, hN, decide_eq_true h]; rfl

set_option maxRecDepth 100000 in
set_option maxHeartbeats 12800000 in
theorem arePublished_any {A A' Q : Option Addr} {lo hi a c0 lo3 hi3 n c q e : Nat} {un : Bool} {ps : List Int} {l : List VV} {ts : List PP} {w : World} (h : Ints w lo hi A a ps) (h' : Sch w A' q e l) (ht : Pubs true un w lo3 hi3 Q n ts) (hg : geoB ps = true) (hs : schB l = true) :
    Calls Try.prog 84 #[.agg #[.slice A a c0], .slice A' q e, .slice Q n c] w fun e w' => e = .returned (.bool (apB ps l ts)) ∧ Keeps w w' := by
  obtain ⟨lo9, hi9, hv⟩ := h'.v
  have HQL := hid (Vars.len hv)
  have HG := hid hg
  have HS := hid hs
  have HTL := hid ht.len
  have hn := ht.le
  clear hg hs
  go_enter Try.func84, Try.ntmps84
  have kw := keeps_refl w
  replace kw := Keeps.trans kw (keeps_alloc w (.cells #[.slice A a c0] 38))
  have b3 : B1 (w.alloc (.cells #[.slice A a c0] 38)) w.heap.size (.slice A a c0) := B1.new' (by simp)
  by_cases h20 : n ≤ 20
  rotate_left
  · have HX := hid (apB_len (ps := ps) (l := l) (ts := ts) (by rw [HTL.out]; exact h20))
    have h21 : (20 : Int) < (n : Int) := by omega
    obtain ⟨ca1, fa1⟩ := id b3
    go_wp2_with fail
    clear ca1 fa1
    go_ret
    exact ⟨ret_bool HX.out.symm, kw⟩
  have h21 : ¬ (20 : Int) < (n : Int) := by omega
  obtain ⟨ca1, fa1⟩ := id b3
  go_wp2_with fail
  clear ca1 fa1
  go_loopw [14] (fun i wr => ∃ k : Nat, k ≤ n ∧ i = .int .i64 k ∧ Hid (apTo ps l ts k = true) ∧ B1 wr w.heap.size (.slice A a c0) ∧ Keeps w wr) (fun i _ => n - (intOf i).toNat)
  case atStart => exact ⟨0, Nat.zero_le _, rfl, hid rfl, b3, kw⟩
  clear b3 kw
  case round =>
    obtain ⟨k, hk, rfl, HT, b3, kw⟩ := hrel
    by_cases hlt : k < n
    · obtain ⟨b, off, lv, V, nv, cv, H, nh, ch, sm, K, nk, ck, vs, ws, zs, rfl, _, _, hc0, hc1, hc2, hc3, hc4, hvv, hhh, hkk, hx⟩ := (ht.keeps kw).at_ hlt
      have hi1 : (k : Int) < (n : Int) := by omega
      have hnk9 := hkk.le
      have HKL := hid hkk.1
      have hz0 := hid (show zs.length = nk from hkk.1)
      obtain ⟨p1, HP1⟩ : ∃ p, Hid (tabB ps l (lv, vs, ws, sm) = p) := ⟨_, rfl⟩
      obtain ⟨N, HN⟩ : ∃ N, Hid (tabN ps l (lv, vs, ws, sm) = N) := ⟨_, rfl⟩
      obtain ⟨p3, HP3⟩ : ∃ p, Hid (within (-1) 1000000 zs = p) := ⟨_, rfl⟩
      have HR1 := hid (fun e => (show apR ps l (ts.getD k p0) = false by rw [← hx.out]; exact apR_1 (p := ((lv, vs, ws, sm), zs)) e))
      have HR2 := hid (fun e => (show apR ps l (ts.getD k p0) = false by rw [← hx.out]; exact apR_2 (p := ((lv, vs, ws, sm), zs)) HKL.out HN.out e))
      have HR3 := hid (fun e => (show apR ps l (ts.getD k p0) = false by rw [← hx.out]; exact apR_3 (p := ((lv, vs, ws, sm), zs)) e))
      have HR4 := hid (fun e1 e2 e3 => (show apR ps l (ts.getD k p0) = true by rw [← hx.out]; exact apR_y (p := ((lv, vs, ws, sm), zs)) e1 HKL.out HN.out e2 e3))
      clear hx
      have lt3 := b3.lt
      replace b3 := b3.keeps (keeps_alloc wr (.cells #[.int .i64 lv, .slice V nv cv, .slice H nh ch, .int .i64 sm, .slice K nk ck] 100))
      replace hvv := hvv.keeps (keeps_alloc wr (.cells #[.int .i64 lv, .slice V nv cv, .slice H nh ch, .int .i64 sm, .slice K nk ck] 100))
      replace hhh := hhh.keeps (keeps_alloc wr (.cells #[.int .i64 lv, .slice V nv cv, .slice H nh ch, .int .i64 sm, .slice K nk ck] 100))
      replace hkk := hkk.keeps (keeps_alloc wr (.cells #[.int .i64 lv, .slice V nv cv, .slice H nh ch, .int .i64 sm, .slice K nk ck] 100))
      replace kw := Keeps.trans kw (keeps_alloc wr (.cells #[.int .i64 lv, .slice V nv cv, .slice H nh ch, .int .i64 sm, .slice K nk ck] 100))
      have b8 : Bl (wr.alloc (.cells #[.int .i64 lv, .slice V nv cv, .slice H nh ch, .int .i64 sm, .slice K nk ck] 100)) wr.heap.size [.int .i64 lv, .slice V nv cv, .slice H nh ch, .int .i64 sm, .slice K nk ck] := Bl.new' (by simp) (by simp)
      obtain ⟨ca2, fa2⟩ := id b3
      have ca3_0 : (wr.alloc (.cells #[.int .i64 lv, .slice V nv cv, .slice H nh ch, .int .i64 sm, .slice K nk ck] 100)).cell? ⟨wr.heap.size, 0, none⟩ = some (.int .i64 lv) := (b8.2 0 _ rfl).1
      have fa3_0 : (wr.alloc (.cells #[.int .i64 lv, .slice V nv cv, .slice H nh ch, .int .i64 sm, .slice K nk ck] 100)).frozen? ⟨wr.heap.size, 0, none⟩ = false := (b8.2 0 _ rfl).2
      have ca3_1 : (wr.alloc (.cells #[.int .i64 lv, .slice V nv cv, .slice H nh ch, .int .i64 sm, .slice K nk ck] 100)).cell? ⟨wr.heap.size, 1, none⟩ = some (.slice V nv cv) := (b8.2 1 _ rfl).1
      have fa3_1 : (wr.alloc (.cells #[.int .i64 lv, .slice V nv cv, .slice H nh ch, .int .i64 sm, .slice K nk ck] 100)).frozen? ⟨wr.heap.size, 1, none⟩ = false := (b8.2 1 _ rfl).2
      have ca3_2 : (wr.alloc (.cells #[.int .i64 lv, .slice V nv cv, .slice H nh ch, .int .i64 sm, .slice K nk ck] 100)).cell? ⟨wr.heap.size, 2, none⟩ = some (.slice H nh ch) := (b8.2 2 _ rfl).1
      have fa3_2 : (wr.alloc (.cells #[.int .i64 lv, .slice V nv cv, .slice H nh ch, .int .i64 sm, .slice K nk ck] 100)).frozen? ⟨wr.heap.size, 2, none⟩ = false := (b8.2 2 _ rfl).2
      have ca3_3 : (wr.alloc (.cells #[.int .i64 lv, .slice V nv cv, .slice H nh ch, .int .i64 sm, .slice K nk ck] 100)).cell? ⟨wr.heap.size, 3, none⟩ = some (.int .i64 sm) := (b8.2 3 _ rfl).1
      have fa3_3 : (wr.alloc (.cells #[.int .i64 lv, .slice V nv cv, .slice H nh ch, .int .i64 sm, .slice K nk ck] 100)).frozen? ⟨wr.heap.size, 3, none⟩ = false := (b8.2 3 _ rfl).2
      have ca3_4 : (wr.alloc (.cells #[.int .i64 lv, .slice V nv cv, .slice H nh ch, .int .i64 sm, .slice K nk ck] 100)).cell? ⟨wr.heap.size, 4, none⟩ = some (.slice K nk ck) := (b8.2 4 _ rfl).1
      have fa3_4 : (wr.alloc (.cells #[.int .i64 lv, .slice V nv cv, .slice H nh ch, .int .i64 sm, .slice K nk ck] 100)).frozen? ⟨wr.heap.size, 4, none⟩ = false := (b8.2 4 _ rfl).2
      cases p1
      · have HX := hid (apB_no HTL.out hlt (HR1.out HP1.out))
        obtain ⟨qa_b3, -⟩ := id b3
        have rqa_b3 := fun d os => cell_regrown qa_b3 d os
        have q0_b8 : (wr.alloc (.cells #[.int .i64 lv, .slice V nv cv, .slice H nh ch, .int .i64 sm, .slice K nk ck] 100)).cell? ⟨wr.heap.size, 0, none⟩ = some (.int .i64 lv) := (b8.2 0 _ rfl).1
        have rq0_b8 := fun d os => cell_regrown q0_b8 d os
        have q1_b8 : (wr.alloc (.cells #[.int .i64 lv, .slice V nv cv, .slice H nh ch, .int .i64 sm, .slice K nk ck] 100)).cell? ⟨wr.heap.size, 1, none⟩ = some (.slice V nv cv) := (b8.2 1 _ rfl).1
        have rq1_b8 := fun d os => cell_regrown q1_b8 d os
        have q2_b8 : (wr.alloc (.cells #[.int .i64 lv, .slice V nv cv, .slice H nh ch, .int .i64 sm, .slice K nk ck] 100)).cell? ⟨wr.heap.size, 2, none⟩ = some (.slice H nh ch) := (b8.2 2 _ rfl).1
        have rq2_b8 := fun d os => cell_regrown q2_b8 d os
        have q3_b8 : (wr.alloc (.cells #[.int .i64 lv, .slice V nv cv, .slice H nh ch, .int .i64 sm, .slice K nk ck] 100)).cell? ⟨wr.heap.size, 3, none⟩ = some (.int .i64 sm) := (b8.2 3 _ rfl).1
        have rq3_b8 := fun d os => cell_regrown q3_b8 d os
        have q4_b8 : (wr.alloc (.cells #[.int .i64 lv, .slice V nv cv, .slice H nh ch, .int .i64 sm, .slice K nk ck] 100)).cell? ⟨wr.heap.size, 4, none⟩ = some (.slice K nk ck) := (b8.2 4 _ rfl).1
        have rq4_b8 := fun d os => cell_regrown q4_b8 d os
        have cQ0 := hid (fun (dQ : Nat) (oQ : Array Obj) => isTable_any (c0 := c0) (lv := lv) (sm := sm) (c := cv) (d := ch) (h.keeps (Keeps.trans kw (below_regrown (wr.alloc (.cells #[.int .i64 lv, .slice V nv cv, .slice H nh ch, .int .i64 sm, .slice K nk ck] 100)) dQ oQ))) (h'.keeps (Keeps.trans kw (below_regrown (wr.alloc (.cells #[.int .i64 lv, .slice V nv cv, .slice H nh ch, .int .i64 sm, .slice K nk ck] 100)) dQ oQ))) (hvv.keeps (below_regrown (wr.alloc (.cells #[.int .i64 lv, .slice V nv cv, .slice H nh ch, .int .i64 sm, .slice K nk ck] 100)) dQ oQ)) (hhh.keeps (below_regrown (wr.alloc (.cells #[.int .i64 lv, .slice V nv cv, .slice H nh ch, .int .i64 sm, .slice K nk ck] 100)) dQ oQ)) HG.out HS.out)
        rw [HP1.out] at cQ0
        go_wp2_with fail
        clear ca2 fa2 ca3_0 fa3_0 ca3_1 fa3_1 ca3_2 fa3_2 ca3_3 fa3_3 ca3_4 fa3_4
        refine wp_region_quiet_below (by kernel_rfl) (by kernel_rfl) ?_
        iterate 23 (go_big_quiet_step ((first | with_reducible exact Calls.regrown_of (cQ0.out _ _))))
        refine wpQuiet_nil ?_
        intro _ hw'
        obtain ⟨⟨dq, osq⟩, hw''⟩ := hw'
        subst hw''
        clear qa_b3 rqa_b3 q0_b8 rq0_b8 q1_b8 rq1_b8 q2_b8 rq2_b8 q3_b8 rq3_b8 q4_b8 rq4_b8 cQ0
        have kQ := below_regrown (wr.alloc (.cells #[.int .i64 lv, .slice V nv cv, .slice H nh ch, .int .i64 sm, .slice K nk ck] 100)) dq osq
        obtain ⟨wQ4, hwQ⟩ : ∃ u, u = grow (redrawn (wr.alloc (.cells #[.int .i64 lv, .slice V nv cv, .slice H nh ch, .int .i64 sm, .slice K nk ck] 100)) dq) osq := ⟨_, rfl⟩
        rw [← hwQ] at kQ
        rw [← hwQ]
        clear hwQ
        replace b3 := b3.keeps kQ
        replace b8 := b8.keeps kQ
        replace hvv := hvv.keeps kQ
        replace hhh := hhh.keeps kQ
        replace hkk := hkk.keeps kQ
        replace kw := Keeps.trans kw kQ
        have lt5 := b8.lt
        have sz6 := kw.size
        clear kQ
        obtain ⟨ca7, fa7⟩ := id b3
        go_wp2_with fail
        clear ca7 fa7
        go_ret
        exact ⟨ret_bool HX.out.symm, kw⟩
      have HVS := hid (show vsB q vs = true by have e := (tabB_parts HP1.out).1; rw [HQL.out] at e; exact e)
      by_cases hN : (nk : Int) = N
      rotate_left
      · have t2 : ((nk : Int) != N) = true := by rw [bne_iff_ne]; exact hN
        have HR := hid (HR2.out hN)
        clear hN
        have HX := hid (apB_no HTL.out hlt (HR.out))
        obtain ⟨qa_b3, -⟩ := id b3
        have rqa_b3 := fun d os => cell_regrown qa_b3 d os
        have q0_b8 : (wr.alloc (.cells #[.int .i64 lv, .slice V nv cv, .slice H nh ch, .int .i64 sm, .slice K nk ck] 100)).cell? ⟨wr.heap.size, 0, none⟩ = some (.int .i64 lv) := (b8.2 0 _ rfl).1
        have rq0_b8 := fun d os => cell_regrown q0_b8 d os
        have q1_b8 : (wr.alloc (.cells #[.int .i64 lv, .slice V nv cv, .slice H nh ch, .int .i64 sm, .slice K nk ck] 100)).cell? ⟨wr.heap.size, 1, none⟩ = some (.slice V nv cv) := (b8.2 1 _ rfl).1
        have rq1_b8 := fun d os => cell_regrown q1_b8 d os
        have q2_b8 : (wr.alloc (.cells #[.int .i64 lv, .slice V nv cv, .slice H nh ch, .int .i64 sm, .slice K nk ck] 100)).cell? ⟨wr.heap.size, 2, none⟩ = some (.slice H nh ch) := (b8.2 2 _ rfl).1
        have rq2_b8 := fun d os => cell_regrown q2_b8 d os
        have q3_b8 : (wr.alloc (.cells #[.int .i64 lv, .slice V nv cv, .slice H nh ch, .int .i64 sm, .slice K nk ck] 100)).cell? ⟨wr.heap.size, 3, none⟩ = some (.int .i64 sm) := (b8.2 3 _ rfl).1
        have rq3_b8 := fun d os => cell_regrown q3_b8 d os
        have q4_b8 : (wr.alloc (.cells #[.int .i64 lv, .slice V nv cv, .slice H nh ch, .int .i64 sm, .slice K nk ck] 100)).cell? ⟨wr.heap.size, 4, none⟩ = some (.slice K nk ck) := (b8.2 4 _ rfl).1
        have rq4_b8 := fun d os => cell_regrown q4_b8 d os
        have cQ0 := hid (fun (dQ : Nat) (oQ : Array Obj) => isTable_any (c0 := c0) (lv := lv) (sm := sm) (c := cv) (d := ch) (h.keeps (Keeps.trans kw (below_regrown (wr.alloc (.cells #[.int .i64 lv, .slice V nv cv, .slice H nh ch, .int .i64 sm, .slice K nk ck] 100)) dQ oQ))) (h'.keeps (Keeps.trans kw (below_regrown (wr.alloc (.cells #[.int .i64 lv, .slice V nv cv, .slice H nh ch, .int .i64 sm, .slice K nk ck] 100)) dQ oQ))) (hvv.keeps (below_regrown (wr.alloc (.cells #[.int .i64 lv, .slice V nv cv, .slice H nh ch, .int .i64 sm, .slice K nk ck] 100)) dQ oQ)) (hhh.keeps (below_regrown (wr.alloc (.cells #[.int .i64 lv, .slice V nv cv, .slice H nh ch, .int .i64 sm, .slice K nk ck] 100)) dQ oQ)) HG.out HS.out)
        rw [HP1.out] at cQ0
        have cQ1 := hid (fun (dQ : Nat) (oQ : Array Obj) => cellCount_any (ws := ws) (sm := sm) (c0 := c0) (lv := lv) (c := cv) (H := H) (m := nh) (d := ch) (h.keeps (Keeps.trans kw (below_regrown (wr.alloc (.cells #[.int .i64 lv, .slice V nv cv, .slice H nh ch, .int .i64 sm, .slice K nk ck] 100)) dQ oQ))) (h'.keeps (Keeps.trans kw (below_regrown (wr.alloc (.cells #[.int .i64 lv, .slice V nv cv, .slice H nh ch, .int .i64 sm, .slice K nk ck] 100)) dQ oQ))) (hvv.keeps (below_regrown (wr.alloc (.cells #[.int .i64 lv, .slice V nv cv, .slice H nh ch, .int .i64 sm, .slice K nk ck] 100)) dQ oQ)) HG.out HS.out HVS.out)
        rw [HN.out] at cQ1
        go_wp2_with fail
        clear ca2 fa2 ca3_0 fa3_0 ca3_1 fa3_1 ca3_2 fa3_2 ca3_3 fa3_3 ca3_4 fa3_4
        refine wp_region_quiet_below (by kernel_rfl) (by kernel_rfl) ?_
        iterate 23 (go_big_quiet_step ((first | with_reducible exact Calls.regrown_of (cQ0.out _ _) | with_reducible exact Calls.regrown_of (cQ1.out _ _))))
        refine wpQuiet_nil ?_
        intro _ hw'
        obtain ⟨⟨dq, osq⟩, hw''⟩ := hw'
        subst hw''
        clear qa_b3 rqa_b3 q0_b8 rq0_b8 q1_b8 rq1_b8 q2_b8 rq2_b8 q3_b8 rq3_b8 q4_b8 rq4_b8 cQ0 cQ1
        have kQ := below_regrown (wr.alloc (.cells #[.int .i64 lv, .slice V nv cv, .slice H nh ch, .int .i64 sm, .slice K nk ck] 100)) dq osq
        obtain ⟨wQ4, hwQ⟩ : ∃ u, u = grow (redrawn (wr.alloc (.cells #[.int .i64 lv, .slice V nv cv, .slice H nh ch, .int .i64 sm, .slice K nk ck] 100)) dq) osq := ⟨_, rfl⟩
        rw [← hwQ] at kQ
        rw [← hwQ]
        clear hwQ
        replace b3 := b3.keeps kQ
        replace b8 := b8.keeps kQ
        replace hvv := hvv.keeps kQ
        replace hhh := hhh.keeps kQ
        replace hkk := hkk.keeps kQ
        replace kw := Keeps.trans kw kQ
        have lt5 := b8.lt
        have sz6 := kw.size
        clear kQ
        obtain ⟨ca7, fa7⟩ := id b3
        go_wp2_with fail
        clear ca7 fa7
        go_ret
        exact ⟨ret_bool HX.out.symm, kw⟩
      have t2 : ((nk : Int) != N) = false := by rw [hN]; simp
      have HNN := hid hN
      clear hN
      cases p3
      · have HX := hid (apB_no HTL.out hlt (HR3.out HP3.out))
        obtain ⟨qa_b3, -⟩ := id b3
        have rqa_b3 := fun d os => cell_regrown qa_b3 d os
        have q0_b8 : (wr.alloc (.cells #[.int .i64 lv, .slice V nv cv, .slice H nh ch, .int .i64 sm, .slice K nk ck] 100)).cell? ⟨wr.heap.size, 0, none⟩ = some (.int .i64 lv) := (b8.2 0 _ rfl).1
        have rq0_b8 := fun d os => cell_regrown q0_b8 d os
        have q1_b8 : (wr.alloc (.cells #[.int .i64 lv, .slice V nv cv, .slice H nh ch, .int .i64 sm, .slice K nk ck] 100)).cell? ⟨wr.heap.size, 1, none⟩ = some (.slice V nv cv) := (b8.2 1 _ rfl).1
        have rq1_b8 := fun d os => cell_regrown q1_b8 d os
        have q2_b8 : (wr.alloc (.cells #[.int .i64 lv, .slice V nv cv, .slice H nh ch, .int .i64 sm, .slice K nk ck] 100)).cell? ⟨wr.heap.size, 2, none⟩ = some (.slice H nh ch) := (b8.2 2 _ rfl).1
        have rq2_b8 := fun d os => cell_regrown q2_b8 d os
        have q3_b8 : (wr.alloc (.cells #[.int .i64 lv, .slice V nv cv, .slice H nh ch, .int .i64 sm, .slice K nk ck] 100)).cell? ⟨wr.heap.size, 3, none⟩ = some (.int .i64 sm) := (b8.2 3 _ rfl).1
        have rq3_b8 := fun d os => cell_regrown q3_b8 d os
        have q4_b8 : (wr.alloc (.cells #[.int .i64 lv, .slice V nv cv, .slice H nh ch, .int .i64 sm, .slice K nk ck] 100)).cell? ⟨wr.heap.size, 4, none⟩ = some (.slice K nk ck) := (b8.2 4 _ rfl).1
        have rq4_b8 := fun d os => cell_regrown q4_b8 d os
        have cQ0 := hid (fun (dQ : Nat) (oQ : Array Obj) => isTable_any (c0 := c0) (lv := lv) (sm := sm) (c := cv) (d := ch) (h.keeps (Keeps.trans kw (below_regrown (wr.alloc (.cells #[.int .i64 lv, .slice V nv cv, .slice H nh ch, .int .i64 sm, .slice K nk ck] 100)) dQ oQ))) (h'.keeps (Keeps.trans kw (below_regrown (wr.alloc (.cells #[.int .i64 lv, .slice V nv cv, .slice H nh ch, .int .i64 sm, .slice K nk ck] 100)) dQ oQ))) (hvv.keeps (below_regrown (wr.alloc (.cells #[.int .i64 lv, .slice V nv cv, .slice H nh ch, .int .i64 sm, .slice K nk ck] 100)) dQ oQ)) (hhh.keeps (below_regrown (wr.alloc (.cells #[.int .i64 lv, .slice V nv cv, .slice H nh ch, .int .i64 sm, .slice K nk ck] 100)) dQ oQ)) HG.out HS.out)
        rw [HP1.out] at cQ0
        have cQ1 := hid (fun (dQ : Nat) (oQ : Array Obj) => cellCount_any (ws := ws) (sm := sm) (c0 := c0) (lv := lv) (c := cv) (H := H) (m := nh) (d := ch) (h.keeps (Keeps.trans kw (below_regrown (wr.alloc (.cells #[.int .i64 lv, .slice V nv cv, .slice H nh ch, .int .i64 sm, .slice K nk ck] 100)) dQ oQ))) (h'.keeps (Keeps.trans kw (below_regrown (wr.alloc (.cells #[.int .i64 lv, .slice V nv cv, .slice H nh ch, .int .i64 sm, .slice K nk ck] 100)) dQ oQ))) (hvv.keeps (below_regrown (wr.alloc (.cells #[.int .i64 lv, .slice V nv cv, .slice H nh ch, .int .i64 sm, .slice K nk ck] 100)) dQ oQ)) HG.out HS.out HVS.out)
        rw [HN.out] at cQ1
        have cQ2 := hid (fun (dQ : Nat) (oQ : Array Obj) => callsK (areWithin_any _ _ _ _ ck _ (-1) 1000000 _ (hkk.keeps (below_regrown (wr.alloc (.cells #[.int .i64 lv, .slice V nv cv, .slice H nh ch, .int .i64 sm, .slice K nk ck] 100)) dQ oQ))))
        rw [HP3.out] at cQ2
        go_wp2_with fail
        clear ca2 fa2 ca3_0 fa3_0 ca3_1 fa3_1 ca3_2 fa3_2 ca3_3 fa3_3 ca3_4 fa3_4
        refine wp_region_quiet_below (by kernel_rfl) (by kernel_rfl) ?_
        iterate 23 (go_big_quiet_step ((first | with_reducible exact Calls.regrown_of (cQ0.out _ _) | with_reducible exact Calls.regrown_of (cQ1.out _ _) | with_reducible exact Calls.regrown_of (cQ2.out _ _))))
        refine wpQuiet_nil ?_
        intro _ hw'
        obtain ⟨⟨dq, osq⟩, hw''⟩ := hw'
        subst hw''
        clear qa_b3 rqa_b3 q0_b8 rq0_b8 q1_b8 rq1_b8 q2_b8 rq2_b8 q3_b8 rq3_b8 q4_b8 rq4_b8 cQ0 cQ1 cQ2
        have kQ := below_regrown (wr.alloc (.cells #[.int .i64 lv, .slice V nv cv, .slice H nh ch, .int .i64 sm, .slice K nk ck] 100)) dq osq
        obtain ⟨wQ4, hwQ⟩ : ∃ u, u = grow (redrawn (wr.alloc (.cells #[.int .i64 lv, .slice V nv cv, .slice H nh ch, .int .i64 sm, .slice K nk ck] 100)) dq) osq := ⟨_, rfl⟩
        rw [← hwQ] at kQ
        rw [← hwQ]
        clear hwQ
        replace b3 := b3.keeps kQ
        replace b8 := b8.keeps kQ
        replace hvv := hvv.keeps kQ
        replace hhh := hhh.keeps kQ
        replace hkk := hkk.keeps kQ
        replace kw := Keeps.trans kw kQ
        have lt5 := b8.lt
        have sz6 := kw.size
        clear kQ
        obtain ⟨ca7, fa7⟩ := id b3
        go_wp2_with fail
        clear ca7 fa7
        go_ret
        exact ⟨ret_bool HX.out.symm, kw⟩
      have HNX := hid (show apTo ps l ts (k + 1) = true by unfold apTo; rw [HT.out, HR4.out HP1.out HNN.out HP3.out]; rfl)
      obtain ⟨qa_b3, -⟩ := id b3
      have rqa_b3 := fun d os => cell_regrown qa_b3 d os
      have q0_b8 : (wr.alloc (.cells #[.int .i64 lv, .slice V nv cv, .slice H nh ch, .int .i64 sm, .slice K nk ck] 100)).cell? ⟨wr.heap.size, 0, none⟩ = some (.int .i64 lv) := (b8.2 0 _ rfl).1
      have rq0_b8 := fun d os => cell_regrown q0_b8 d os
      have q1_b8 : (wr.alloc (.cells #[.int .i64 lv, .slice V nv cv, .slice H nh ch, .int .i64 sm, .slice K nk ck] 100)).cell? ⟨wr.heap.size, 1, none⟩ = some (.slice V nv cv) := (b8.2 1 _ rfl).1
      have rq1_b8 := fun d os => cell_regrown q1_b8 d os
      have q2_b8 : (wr.alloc (.cells #[.int .i64 lv, .slice V nv cv, .slice H nh ch, .int .i64 sm, .slice K nk ck] 100)).cell? ⟨wr.heap.size, 2, none⟩ = some (.slice H nh ch) := (b8.2 2 _ rfl).1
      have rq2_b8 := fun d os => cell_regrown q2_b8 d os
      have q3_b8 : (wr.alloc (.cells #[.int .i64 lv, .slice V nv cv, .slice H nh ch, .int .i64 sm, .slice K nk ck] 100)).cell? ⟨wr.heap.size, 3, none⟩ = some (.int .i64 sm) := (b8.2 3 _ rfl).1
      have rq3_b8 := fun d os => cell_regrown q3_b8 d os
      have q4_b8 : (wr.alloc (.cells #[.int .i64 lv, .slice V nv cv, .slice H nh ch, .int .i64 sm, .slice K nk ck] 100)).cell? ⟨wr.heap.size, 4, none⟩ = some (.slice K nk ck) := (b8.2 4 _ rfl).1
      have rq4_b8 := fun d os => cell_regrown q4_b8 d os
      have cQ0 := hid (fun (dQ : Nat) (oQ : Array Obj) => isTable_any (c0 := c0) (lv := lv) (sm := sm) (c := cv) (d := ch) (h.keeps (Keeps.trans kw (below_regrown (wr.alloc (.cells #[.int .i64 lv, .slice V nv cv, .slice H nh ch, .int .i64 sm, .slice K nk ck] 100)) dQ oQ))) (h'.keeps (Keeps.trans kw (below_regrown (wr.alloc (.cells #[.int .i64 lv, .slice V nv cv, .slice H nh ch, .int .i64 sm, .slice K nk ck] 100)) dQ oQ))) (hvv.keeps (below_regrown (wr.alloc (.cells #[.int .i64 lv, .slice V nv cv, .slice H nh ch, .int .i64 sm, .slice K nk ck] 100)) dQ oQ)) (hhh.keeps (below_regrown (wr.alloc (.cells #[.int .i64 lv, .slice V nv cv, .slice H nh ch, .int .i64 sm, .slice K nk ck] 100)) dQ oQ)) HG.out HS.out)
      rw [HP1.out] at cQ0
      have cQ1 := hid (fun (dQ : Nat) (oQ : Array Obj) => cellCount_any (ws := ws) (sm := sm) (c0 := c0) (lv := lv) (c := cv) (H := H) (m := nh) (d := ch) (h.keeps (Keeps.trans kw (below_regrown (wr.alloc (.cells #[.int .i64 lv, .slice V nv cv, .slice H nh ch, .int .i64 sm, .slice K nk ck] 100)) dQ oQ))) (h'.keeps (Keeps.trans kw (below_regrown (wr.alloc (.cells #[.int .i64 lv, .slice V nv cv, .slice H nh ch, .int .i64 sm, .slice K nk ck] 100)) dQ oQ))) (hvv.keeps (below_regrown (wr.alloc (.cells #[.int .i64 lv, .slice V nv cv, .slice H nh ch, .int .i64 sm, .slice K nk ck] 100)) dQ oQ)) HG.out HS.out HVS.out)
      rw [HN.out] at cQ1
      have cQ2 := hid (fun (dQ : Nat) (oQ : Array Obj) => callsK (areWithin_any _ _ _ _ ck _ (-1) 1000000 _ (hkk.keeps (below_regrown (wr.alloc (.cells #[.int .i64 lv, .slice V nv cv, .slice H nh ch, .int .i64 sm, .slice K nk ck] 100)) dQ oQ))))
      rw [HP3.out] at cQ2
      go_wp2_with fail
      clear ca2 fa2 ca3_0 fa3_0 ca3_1 fa3_1 ca3_2 fa3_2 ca3_3 fa3_3 ca3_4 fa3_4
      refine wp_region_quiet_below (by kernel_rfl) (by kernel_rfl) ?_
      iterate 23 (go_big_quiet_step ((first | with_reducible exact Calls.regrown_of (cQ0.out _ _) | with_reducible exact Calls.regrown_of (cQ1.out _ _) | with_reducible exact Calls.regrown_of (cQ2.out _ _))))
      refine wpQuiet_nil ?_
      intro _ hw'
      obtain ⟨⟨dq, osq⟩, hw''⟩ := hw'
      subst hw''
      clear qa_b3 rqa_b3 q0_b8 rq0_b8 q1_b8 rq1_b8 q2_b8 rq2_b8 q3_b8 rq3_b8 q4_b8 rq4_b8 cQ0 cQ1 cQ2
      have kQ := below_regrown (wr.alloc (.cells #[.int .i64 lv, .slice V nv cv, .slice H nh ch, .int .i64 sm, .slice K nk ck] 100)) dq osq
      obtain ⟨wQ4, hwQ⟩ : ∃ u, u = grow (redrawn (wr.alloc (.cells #[.int .i64 lv, .slice V nv cv, .slice H nh ch, .int .i64 sm, .slice K nk ck] 100)) dq) osq := ⟨_, rfl⟩
      rw [← hwQ] at kQ
      rw [← hwQ]
      clear hwQ
      replace b3 := b3.keeps kQ
      replace b8 := b8.keeps kQ
      replace hvv := hvv.keeps kQ
      replace hhh := hhh.keeps kQ
      replace hkk := hkk.keeps kQ
      replace kw := Keeps.trans kw kQ
      have lt5 := b8.lt
      have sz6 := kw.size
      clear kQ
      obtain ⟨ca7, fa7⟩ := id b3
      go_wp2_with fail
      clear ca7 fa7
      go_roundw
      case rel => exact ⟨k + 1, by omega, by go_num, HNX, b3, kw⟩
      case measure => simp [intOf]; omega
    · obtain rfl : k = n := by omega
      have HX := hid ((apB_yes HTL.out HT.out).trans (decide_eq_true h20))
      go_wp2
      go_ret
      exact ⟨ret_bool HX.out.symm, kw⟩
set_option maxRecDepth 100000 in
set_option maxHeartbeats 12800000 in
theorem aPublished_any {A A' Q : Option Addr} {lo hi a c0 lo3 hi3 n c q e : Nat} {un : Bool} {ps : List Int} {l : List VV} {ts : List PP} {w : World} (h : Ints w lo hi A a ps) (h' : Sch w A' q e l) (ht : Pubs true un w lo3 hi3 Q n ts) (hg : geoB ps = true) (hs : schB l = true) :
    Calls Try.prog 48 #[.agg #[.slice A a c0], .slice A' q e, .slice Q n c] w fun e w' => e = .returned (.bool (apB ps l ts)) ∧ Keeps w w' := by
  obtain ⟨lo9, hi9, hv⟩ := h'.v
  have HQL := hid (Vars.len hv)
  have HG := hid hg
  have HS := hid hs
  have HTL := hid ht.len
  have hn := ht.le
  clear hg hs
  go_enter Try.func48, Try.ntmps48
  have kw := keeps_refl w
  replace kw := Keeps.trans kw (keeps_alloc w (.cells #[.slice A a c0] 38))
  have b3 : B1 (w.alloc (.cells #[.slice A a c0] 38)) w.heap.size (.slice A a c0) := B1.new' (by simp)
  obtain ⟨ca1, fa1⟩ := id b3
  go_wp2_with fail
  clear ca1 fa1
  go_loopw [11] (fun i wr => ∃ k : Nat, k ≤ n ∧ i = .int .i64 k ∧ Hid (apTo ps l ts k = true) ∧ B1 wr w.heap.size (.slice A a c0) ∧ Keeps w wr) (fun i _ => n - (intOf i).toNat)
  case atStart => exact ⟨0, Nat.zero_le _, rfl, hid rfl, b3, kw⟩
  clear b3 kw
  case round =>
    obtain ⟨k, hk, rfl, HT, b3, kw⟩ := hrel
    by_cases hlt : k < n
    · obtain ⟨b, off, lv, V, nv, cv, H, nh, ch, sm, K, nk, ck, vs, ws, zs, rfl, _, _, hc0, hc1, hc2, hc3, hc4, hvv, hhh, hkk, hx⟩ := (ht.keeps kw).at_ hlt
      have hi1 : (k : Int) < (n : Int) := by omega
      have hnk9 := hkk.le
      have HKL := hid hkk.1
      have hz0 := hid (show zs.length = nk from hkk.1)
      obtain ⟨p1, HP1⟩ : ∃ p, Hid (tabB ps l (lv, vs, ws, sm) = p) := ⟨_, rfl⟩
      obtain ⟨N, HN⟩ : ∃ N, Hid (tabN ps l (lv, vs, ws, sm) = N) := ⟨_, rfl⟩
      obtain ⟨p3, HP3⟩ : ∃ p, Hid (within (-1) 1000000 zs = p) := ⟨_, rfl⟩
      have HR1 := hid (fun e => (show apR ps l (ts.getD k p0) = false by rw [← hx.out]; exact apR_1 (p := ((lv, vs, ws, sm), zs)) e))
      have HR2 := hid (fun e => (show apR ps l (ts.getD k p0) = false by rw [← hx.out]; exact apR_2 (p := ((lv, vs, ws, sm), zs)) HKL.out HN.out e))
      have HR3 := hid (fun e => (show apR ps l (ts.getD k p0) = false by rw [← hx.out]; exact apR_3 (p := ((lv, vs, ws, sm), zs)) e))
      have HR4 := hid (fun e1 e2 e3 => (show apR ps l (ts.getD k p0) = true by rw [← hx.out]; exact apR_y (p := ((lv, vs, ws, sm), zs)) e1 HKL.out HN.out e2 e3))
      clear hx
      have lt3 := b3.lt
      replace b3 := b3.keeps (keeps_alloc wr (.cells #[.int .i64 lv, .slice V nv cv, .slice H nh ch, .int .i64 sm, .slice K nk ck] 100))
      replace hvv := hvv.keeps (keeps_alloc wr (.cells #[.int .i64 lv, .slice V nv cv, .slice H nh ch, .int .i64 sm, .slice K nk ck] 100))
      replace hhh := hhh.keeps (keeps_alloc wr (.cells #[.int .i64 lv, .slice V nv cv, .slice H nh ch, .int .i64 sm, .slice K nk ck] 100))
      replace hkk := hkk.keeps (keeps_alloc wr (.cells #[.int .i64 lv, .slice V nv cv, .slice H nh ch, .int .i64 sm, .slice K nk ck] 100))
      replace kw := Keeps.trans kw (keeps_alloc wr (.cells #[.int .i64 lv, .slice V nv cv, .slice H nh ch, .int .i64 sm, .slice K nk ck] 100))
      have b8 : Bl (wr.alloc (.cells #[.int .i64 lv, .slice V nv cv, .slice H nh ch, .int .i64 sm, .slice K nk ck] 100)) wr.heap.size [.int .i64 lv, .slice V nv cv, .slice H nh ch, .int .i64 sm, .slice K nk ck] := Bl.new' (by simp) (by simp)
      obtain ⟨ca2, fa2⟩ := id b3
      have ca3_0 : (wr.alloc (.cells #[.int .i64 lv, .slice V nv cv, .slice H nh ch, .int .i64 sm, .slice K nk ck] 100)).cell? ⟨wr.heap.size, 0, none⟩ = some (.int .i64 lv) := (b8.2 0 _ rfl).1
      have fa3_0 : (wr.alloc (.cells #[.int .i64 lv, .slice V nv cv, .slice H nh ch, .int .i64 sm, .slice K nk ck] 100)).frozen? ⟨wr.heap.size, 0, none⟩ = false := (b8.2 0 _ rfl).2
      have ca3_1 : (wr.alloc (.cells #[.int .i64 lv, .slice V nv cv, .slice H nh ch, .int .i64 sm, .slice K nk ck] 100)).cell? ⟨wr.heap.size, 1, none⟩ = some (.slice V nv cv) := (b8.2 1 _ rfl).1
      have fa3_1 : (wr.alloc (.cells #[.int .i64 lv, .slice V nv cv, .slice H nh ch, .int .i64 sm, .slice K nk ck] 100)).frozen? ⟨wr.heap.size, 1, none⟩ = false := (b8.2 1 _ rfl).2
      have ca3_2 : (wr.alloc (.cells #[.int .i64 lv, .slice V nv cv, .slice H nh ch, .int .i64 sm, .slice K nk ck] 100)).cell? ⟨wr.heap.size, 2, none⟩ = some (.slice H nh ch) := (b8.2 2 _ rfl).1
      have fa3_2 : (wr.alloc (.cells #[.int .i64 lv, .slice V nv cv, .slice H nh ch, .int .i64 sm, .slice K nk ck] 100)).frozen? ⟨wr.heap.size, 2, none⟩ = false := (b8.2 2 _ rfl).2
      have ca3_3 : (wr.alloc (.cells #[.int .i64 lv, .slice V nv cv, .slice H nh ch, .int .i64 sm, .slice K nk ck] 100)).cell? ⟨wr.heap.size, 3, none⟩ = some (.int .i64 sm) := (b8.2 3 _ rfl).1
      have fa3_3 : (wr.alloc (.cells #[.int .i64 lv, .slice V nv cv, .slice H nh ch, .int .i64 sm, .slice K nk ck] 100)).frozen? ⟨wr.heap.size, 3, none⟩ = false := (b8.2 3 _ rfl).2
      have ca3_4 : (wr.alloc (.cells #[.int .i64 lv, .slice V nv cv, .slice H nh ch, .int .i64 sm, .slice K nk ck] 100)).cell? ⟨wr.heap.size, 4, none⟩ = some (.slice K nk ck) := (b8.2 4 _ rfl).1
      have fa3_4 : (wr.alloc (.cells #[.int .i64 lv, .slice V nv cv, .slice H nh ch, .int .i64 sm, .slice K nk ck] 100)).frozen? ⟨wr.heap.size, 4, none⟩ = false := (b8.2 4 _ rfl).2
      cases p1
      · have HX := hid (apB_no HTL.out hlt (HR1.out HP1.out))
        obtain ⟨qa_b3, -⟩ := id b3
        have rqa_b3 := fun d os => cell_regrown qa_b3 d os
        have q0_b8 : (wr.alloc (.cells #[.int .i64 lv, .slice V nv cv, .slice H nh ch, .int .i64 sm, .slice K nk ck] 100)).cell? ⟨wr.heap.size, 0, none⟩ = some (.int .i64 lv) := (b8.2 0 _ rfl).1
        have rq0_b8 := fun d os => cell_regrown q0_b8 d os
        have q1_b8 : (wr.alloc (.cells #[.int .i64 lv, .slice V nv cv, .slice H nh ch, .int .i64 sm, .slice K nk ck] 100)).cell? ⟨wr.heap.size, 1, none⟩ = some (.slice V nv cv) := (b8.2 1 _ rfl).1
        have rq1_b8 := fun d os => cell_regrown q1_b8 d os
        have q2_b8 : (wr.alloc (.cells #[.int .i64 lv, .slice V nv cv, .slice H nh ch, .int .i64 sm, .slice K nk ck] 100)).cell? ⟨wr.heap.size, 2, none⟩ = some (.slice H nh ch) := (b8.2 2 _ rfl).1
        have rq2_b8 := fun d os => cell_regrown q2_b8 d os
        have q3_b8 : (wr.alloc (.cells #[.int .i64 lv, .slice V nv cv, .slice H nh ch, .int .i64 sm, .slice K nk ck] 100)).cell? ⟨wr.heap.size, 3, none⟩ = some (.int .i64 sm) := (b8.2 3 _ rfl).1
        have rq3_b8 := fun d os => cell_regrown q3_b8 d os
        have q4_b8 : (wr.alloc (.cells #[.int .i64 lv, .slice V nv cv, .slice H nh ch, .int .i64 sm, .slice K nk ck] 100)).cell? ⟨wr.heap.size, 4, none⟩ = some (.slice K nk ck) := (b8.2 4 _ rfl).1
        have rq4_b8 := fun d os => cell_regrown q4_b8 d os
        have cQ0 := hid (fun (dQ : Nat) (oQ : Array Obj) => uGood_any (c0 := c0) (lv := lv) (sm := sm) (c := cv) (d := ch) (h.keeps (Keeps.trans kw (below_regrown (wr.alloc (.cells #[.int .i64 lv, .slice V nv cv, .slice H nh ch, .int .i64 sm, .slice K nk ck] 100)) dQ oQ))) (h'.keeps (Keeps.trans kw (below_regrown (wr.alloc (.cells #[.int .i64 lv, .slice V nv cv, .slice H nh ch, .int .i64 sm, .slice K nk ck] 100)) dQ oQ))) (hvv.keeps (below_regrown (wr.alloc (.cells #[.int .i64 lv, .slice V nv cv, .slice H nh ch, .int .i64 sm, .slice K nk ck] 100)) dQ oQ)) (hhh.keeps (below_regrown (wr.alloc (.cells #[.int .i64 lv, .slice V nv cv, .slice H nh ch, .int .i64 sm, .slice K nk ck] 100)) dQ oQ)) HG.out HS.out)
        rw [HP1.out] at cQ0
        go_wp2_with fail
        clear ca2 fa2 ca3_0 fa3_0 ca3_1 fa3_1 ca3_2 fa3_2 ca3_3 fa3_3 ca3_4 fa3_4
        refine wp_region_quiet_below (by kernel_rfl) (by kernel_rfl) ?_
        iterate 23 (go_big_quiet_step ((first | with_reducible exact Calls.regrown_of (cQ0.out _ _))))
        refine wpQuiet_nil ?_
        intro _ hw'
        obtain ⟨⟨dq, osq⟩, hw''⟩ := hw'
        subst hw''
        clear qa_b3 rqa_b3 q0_b8 rq0_b8 q1_b8 rq1_b8 q2_b8 rq2_b8 q3_b8 rq3_b8 q4_b8 rq4_b8 cQ0
        have kQ := below_regrown (wr.alloc (.cells #[.int .i64 lv, .slice V nv cv, .slice H nh ch, .int .i64 sm, .slice K nk ck] 100)) dq osq
        obtain ⟨wQ4, hwQ⟩ : ∃ u, u = grow (redrawn (wr.alloc (.cells #[.int .i64 lv, .slice V nv cv, .slice H nh ch, .int .i64 sm, .slice K nk ck] 100)) dq) osq := ⟨_, rfl⟩
        rw [← hwQ] at kQ
        rw [← hwQ]
        clear hwQ
        replace b3 := b3.keeps kQ
        replace b8 := b8.keeps kQ
        replace hvv := hvv.keeps kQ
        replace hhh := hhh.keeps kQ
        replace hkk := hkk.keeps kQ
        replace kw := Keeps.trans kw kQ
        have lt5 := b8.lt
        have sz6 := kw.size
        clear kQ
        obtain ⟨ca7, fa7⟩ := id b3
        go_wp2_with fail
        clear ca7 fa7
        go_ret
        exact ⟨ret_bool HX.out.symm, kw⟩
      have HVS := hid (show vsB q vs = true by have e := (tabB_parts HP1.out).1; rw [HQL.out] at e; exact e)
      by_cases hN : (nk : Int) = N
      rotate_left
      · have t2 : ((nk : Int) != N) = true := by rw [bne_iff_ne]; exact hN
        have HR := hid (HR2.out hN)
        clear hN
        have HX := hid (apB_no HTL.out hlt (HR.out))
        obtain ⟨qa_b3, -⟩ := id b3
        have rqa_b3 := fun d os => cell_regrown qa_b3 d os
        have q0_b8 : (wr.alloc (.cells #[.int .i64 lv, .slice V nv cv, .slice H nh ch, .int .i64 sm, .slice K nk ck] 100)).cell? ⟨wr.heap.size, 0, none⟩ = some (.int .i64 lv) := (b8.2 0 _ rfl).1
        have rq0_b8 := fun d os => cell_regrown q0_b8 d os
        have q1_b8 : (wr.alloc (.cells #[.int .i64 lv, .slice V nv cv, .slice H nh ch, .int .i64 sm, .slice K nk ck] 100)).cell? ⟨wr.heap.size, 1, none⟩ = some (.slice V nv cv) := (b8.2 1 _ rfl).1
        have rq1_b8 := fun d os => cell_regrown q1_b8 d os
        have q2_b8 : (wr.alloc (.cells #[.int .i64 lv, .slice V nv cv, .slice H nh ch, .int .i64 sm, .slice K nk ck] 100)).cell? ⟨wr.heap.size, 2, none⟩ = some (.slice H nh ch) := (b8.2 2 _ rfl).1
        have rq2_b8 := fun d os => cell_regrown q2_b8 d os
        have q3_b8 : (wr.alloc (.cells #[.int .i64 lv, .slice V nv cv, .slice H nh ch, .int .i64 sm, .slice K nk ck] 100)).cell? ⟨wr.heap.size, 3, none⟩ = some (.int .i64 sm) := (b8.2 3 _ rfl).1
        have rq3_b8 := fun d os => cell_regrown q3_b8 d os
        have q4_b8 : (wr.alloc (.cells #[.int .i64 lv, .slice V nv cv, .slice H nh ch, .int .i64 sm, .slice K nk ck] 100)).cell? ⟨wr.heap.size, 4, none⟩ = some (.slice K nk ck) := (b8.2 4 _ rfl).1
        have rq4_b8 := fun d os => cell_regrown q4_b8 d os
        have cQ0 := hid (fun (dQ : Nat) (oQ : Array Obj) => uGood_any (c0 := c0) (lv := lv) (sm := sm) (c := cv) (d := ch) (h.keeps (Keeps.trans kw (below_regrown (wr.alloc (.cells #[.int .i64 lv, .slice V nv cv, .slice H nh ch, .int .i64 sm, .slice K nk ck] 100)) dQ oQ))) (h'.keeps (Keeps.trans kw (below_regrown (wr.alloc (.cells #[.int .i64 lv, .slice V nv cv, .slice H nh ch, .int .i64 sm, .slice K nk ck] 100)) dQ oQ))) (hvv.keeps (below_regrown (wr.alloc (.cells #[.int .i64 lv, .slice V nv cv, .slice H nh ch, .int .i64 sm, .slice K nk ck] 100)) dQ oQ)) (hhh.keeps (below_regrown (wr.alloc (.cells #[.int .i64 lv, .slice V nv cv, .slice H nh ch, .int .i64 sm, .slice K nk ck] 100)) dQ oQ)) HG.out HS.out)
        rw [HP1.out] at cQ0
        have cQ1 := hid (fun (dQ : Nat) (oQ : Array Obj) => uCount_any (ws := ws) (sm := sm) (c0 := c0) (lv := lv) (c := cv) (H := H) (m := nh) (d := ch) (h.keeps (Keeps.trans kw (below_regrown (wr.alloc (.cells #[.int .i64 lv, .slice V nv cv, .slice H nh ch, .int .i64 sm, .slice K nk ck] 100)) dQ oQ))) (h'.keeps (Keeps.trans kw (below_regrown (wr.alloc (.cells #[.int .i64 lv, .slice V nv cv, .slice H nh ch, .int .i64 sm, .slice K nk ck] 100)) dQ oQ))) (hvv.keeps (below_regrown (wr.alloc (.cells #[.int .i64 lv, .slice V nv cv, .slice H nh ch, .int .i64 sm, .slice K nk ck] 100)) dQ oQ)) HG.out HS.out HVS.out)
        rw [HN.out] at cQ1
        go_wp2_with fail
        clear ca2 fa2 ca3_0 fa3_0 ca3_1 fa3_1 ca3_2 fa3_2 ca3_3 fa3_3 ca3_4 fa3_4
        refine wp_region_quiet_below (by kernel_rfl) (by kernel_rfl) ?_
        iterate 23 (go_big_quiet_step ((first | with_reducible exact Calls.regrown_of (cQ0.out _ _) | with_reducible exact Calls.regrown_of (cQ1.out _ _))))
        refine wpQuiet_nil ?_
        intro _ hw'
        obtain ⟨⟨dq, osq⟩, hw''⟩ := hw'
        subst hw''
        clear qa_b3 rqa_b3 q0_b8 rq0_b8 q1_b8 rq1_b8 q2_b8 rq2_b8 q3_b8 rq3_b8 q4_b8 rq4_b8 cQ0 cQ1
        have kQ := below_regrown (wr.alloc (.cells #[.int .i64 lv, .slice V nv cv, .slice H nh ch, .int .i64 sm, .slice K nk ck] 100)) dq osq
        obtain ⟨wQ4, hwQ⟩ : ∃ u, u = grow (redrawn (wr.alloc (.cells #[.int .i64 lv, .slice V nv cv, .slice H nh ch, .int .i64 sm, .slice K nk ck] 100)) dq) osq := ⟨_, rfl⟩
        rw [← hwQ] at kQ
        rw [← hwQ]
        clear hwQ
        replace b3 := b3.keeps kQ
        replace b8 := b8.keeps kQ
        replace hvv := hvv.keeps kQ
        replace hhh := hhh.keeps kQ
        replace hkk := hkk.keeps kQ
        replace kw := Keeps.trans kw kQ
        have lt5 := b8.lt
        have sz6 := kw.size
        clear kQ
        obtain ⟨ca7, fa7⟩ := id b3
        go_wp2_with fail
        clear ca7 fa7
        go_ret
        exact ⟨ret_bool HX.out.symm, kw⟩
      have t2 : ((nk : Int) != N) = false := by rw [hN]; simp
      have HNN := hid hN
      clear hN
      cases p3
      · have HX := hid (apB_no HTL.out hlt (HR3.out HP3.out))
        obtain ⟨qa_b3, -⟩ := id b3
        have rqa_b3 := fun d os => cell_regrown qa_b3 d os
        have q0_b8 : (wr.alloc (.cells #[.int .i64 lv, .slice V nv cv, .slice H nh ch, .int .i64 sm, .slice K nk ck] 100)).cell? ⟨wr.heap.size, 0, none⟩ = some (.int .i64 lv) := (b8.2 0 _ rfl).1
        have rq0_b8 := fun d os => cell_regrown q0_b8 d os
        have q1_b8 : (wr.alloc (.cells #[.int .i64 lv, .slice V nv cv, .slice H nh ch, .int .i64 sm, .slice K nk ck] 100)).cell? ⟨wr.heap.size, 1, none⟩ = some (.slice V nv cv) := (b8.2 1 _ rfl).1
        have rq1_b8 := fun d os => cell_regrown q1_b8 d os
        have q2_b8 : (wr.alloc (.cells #[.int .i64 lv, .slice V nv cv, .slice H nh ch, .int .i64 sm, .slice K nk ck] 100)).cell? ⟨wr.heap.size, 2, none⟩ = some (.slice H nh ch) := (b8.2 2 _ rfl).1
        have rq2_b8 := fun d os => cell_regrown q2_b8 d os
        have q3_b8 : (wr.alloc (.cells #[.int .i64 lv, .slice V nv cv, .slice H nh ch, .int .i64 sm, .slice K nk ck] 100)).cell? ⟨wr.heap.size, 3, none⟩ = some (.int .i64 sm) := (b8.2 3 _ rfl).1
        have rq3_b8 := fun d os => cell_regrown q3_b8 d os
        have q4_b8 : (wr.alloc (.cells #[.int .i64 lv, .slice V nv cv, .slice H nh ch, .int .i64 sm, .slice K nk ck] 100)).cell? ⟨wr.heap.size, 4, none⟩ = some (.slice K nk ck) := (b8.2 4 _ rfl).1
        have rq4_b8 := fun d os => cell_regrown q4_b8 d os
        have cQ0 := hid (fun (dQ : Nat) (oQ : Array Obj) => uGood_any (c0 := c0) (lv := lv) (sm := sm) (c := cv) (d := ch) (h.keeps (Keeps.trans kw (below_regrown (wr.alloc (.cells #[.int .i64 lv, .slice V nv cv, .slice H nh ch, .int .i64 sm, .slice K nk ck] 100)) dQ oQ))) (h'.keeps (Keeps.trans kw (below_regrown (wr.alloc (.cells #[.int .i64 lv, .slice V nv cv, .slice H nh ch, .int .i64 sm, .slice K nk ck] 100)) dQ oQ))) (hvv.keeps (below_regrown (wr.alloc (.cells #[.int .i64 lv, .slice V nv cv, .slice H nh ch, .int .i64 sm, .slice K nk ck] 100)) dQ oQ)) (hhh.keeps (below_regrown (wr.alloc (.cells #[.int .i64 lv, .slice V nv cv, .slice H nh ch, .int .i64 sm, .slice K nk ck] 100)) dQ oQ)) HG.out HS.out)
        rw [HP1.out] at cQ0
        have cQ1 := hid (fun (dQ : Nat) (oQ : Array Obj) => uCount_any (ws := ws) (sm := sm) (c0 := c0) (lv := lv) (c := cv) (H := H) (m := nh) (d := ch) (h.keeps (Keeps.trans kw (below_regrown (wr.alloc (.cells #[.int .i64 lv, .slice V nv cv, .slice H nh ch, .int .i64 sm, .slice K nk ck] 100)) dQ oQ))) (h'.keeps (Keeps.trans kw (below_regrown (wr.alloc (.cells #[.int .i64 lv, .slice V nv cv, .slice H nh ch, .int .i64 sm, .slice K nk ck] 100)) dQ oQ))) (hvv.keeps (below_regrown (wr.alloc (.cells #[.int .i64 lv, .slice V nv cv, .slice H nh ch, .int .i64 sm, .slice K nk ck] 100)) dQ oQ)) HG.out HS.out HVS.out)
        rw [HN.out] at cQ1
        have cQ2 := hid (fun (dQ : Nat) (oQ : Array Obj) => callsK (l1All_any _ _ _ _ ck _ (-1) 1000000 _ (hkk.keeps (below_regrown (wr.alloc (.cells #[.int .i64 lv, .slice V nv cv, .slice H nh ch, .int .i64 sm, .slice K nk ck] 100)) dQ oQ))))
        rw [HP3.out] at cQ2
        go_wp2_with fail
        clear ca2 fa2 ca3_0 fa3_0 ca3_1 fa3_1 ca3_2 fa3_2 ca3_3 fa3_3 ca3_4 fa3_4
        refine wp_region_quiet_below (by kernel_rfl) (by kernel_rfl) ?_
        iterate 23 (go_big_quiet_step ((first | with_reducible exact Calls.regrown_of (cQ0.out _ _) | with_reducible exact Calls.regrown_of (cQ1.out _ _) | with_reducible exact Calls.regrown_of (cQ2.out _ _))))
        refine wpQuiet_nil ?_
        intro _ hw'
        obtain ⟨⟨dq, osq⟩, hw''⟩ := hw'
        subst hw''
        clear qa_b3 rqa_b3 q0_b8 rq0_b8 q1_b8 rq1_b8 q2_b8 rq2_b8 q3_b8 rq3_b8 q4_b8 rq4_b8 cQ0 cQ1 cQ2
        have kQ := below_regrown (wr.alloc (.cells #[.int .i64 lv, .slice V nv cv, .slice H nh ch, .int .i64 sm, .slice K nk ck] 100)) dq osq
        obtain ⟨wQ4, hwQ⟩ : ∃ u, u = grow (redrawn (wr.alloc (.cells #[.int .i64 lv, .slice V nv cv, .slice H nh ch, .int .i64 sm, .slice K nk ck] 100)) dq) osq := ⟨_, rfl⟩
        rw [← hwQ] at kQ
        rw [← hwQ]
        clear hwQ
        replace b3 := b3.keeps kQ
        replace b8 := b8.keeps kQ
        replace hvv := hvv.keeps kQ
        replace hhh := hhh.keeps kQ
        replace hkk := hkk.keeps kQ
        replace kw := Keeps.trans kw kQ
        have lt5 := b8.lt
        have sz6 := kw.size
        clear kQ
        obtain ⟨ca7, fa7⟩ := id b3
        go_wp2_with fail
        clear ca7 fa7
        go_ret
        exact ⟨ret_bool HX.out.symm, kw⟩
      have HNX := hid (show apTo ps l ts (k + 1) = true by unfold apTo; rw [HT.out, HR4.out HP1.out HNN.out HP3.out]; rfl)
      obtain ⟨qa_b3, -⟩ := id b3
      have rqa_b3 := fun d os => cell_regrown qa_b3 d os
      have q0_b8 : (wr.alloc (.cells #[.int .i64 lv, .slice V nv cv, .slice H nh ch, .int .i64 sm, .slice K nk ck] 100)).cell? ⟨wr.heap.size, 0, none⟩ = some (.int .i64 lv) := (b8.2 0 _ rfl).1
      have rq0_b8 := fun d os => cell_regrown q0_b8 d os
      have q1_b8 : (wr.alloc (.cells #[.int .i64 lv, .slice V nv cv, .slice H nh ch, .int .i64 sm, .slice K nk ck] 100)).cell? ⟨wr.heap.size, 1, none⟩ = some (.slice V nv cv) := (b8.2 1 _ rfl).1
      have rq1_b8 := fun d os => cell_regrown q1_b8 d os
      have q2_b8 : (wr.alloc (.cells #[.int .i64 lv, .slice V nv cv, .slice H nh ch, .int .i64 sm, .slice K nk ck] 100)).cell? ⟨wr.heap.size, 2, none⟩ = some (.slice H nh ch) := (b8.2 2 _ rfl).1
      have rq2_b8 := fun d os => cell_regrown q2_b8 d os
      have q3_b8 : (wr.alloc (.cells #[.int .i64 lv, .slice V nv cv, .slice H nh ch, .int .i64 sm, .slice K nk ck] 100)).cell? ⟨wr.heap.size, 3, none⟩ = some (.int .i64 sm) := (b8.2 3 _ rfl).1
      have rq3_b8 := fun d os => cell_regrown q3_b8 d os
      have q4_b8 : (wr.alloc (.cells #[.int .i64 lv, .slice V nv cv, .slice H nh ch, .int .i64 sm, .slice K nk ck] 100)).cell? ⟨wr.heap.size, 4, none⟩ = some (.slice K nk ck) := (b8.2 4 _ rfl).1
      have rq4_b8 := fun d os => cell_regrown q4_b8 d os
      have cQ0 := hid (fun (dQ : Nat) (oQ : Array Obj) => uGood_any (c0 := c0) (lv := lv) (sm := sm) (c := cv) (d := ch) (h.keeps (Keeps.trans kw (below_regrown (wr.alloc (.cells #[.int .i64 lv, .slice V nv cv, .slice H nh ch, .int .i64 sm, .slice K nk ck] 100)) dQ oQ))) (h'.keeps (Keeps.trans kw (below_regrown (wr.alloc (.cells #[.int .i64 lv, .slice V nv cv, .slice H nh ch, .int .i64 sm, .slice K nk ck] 100)) dQ oQ))) (hvv.keeps (below_regrown (wr.alloc (.cells #[.int .i64 lv, .slice V nv cv, .slice H nh ch, .int .i64 sm, .slice K nk ck] 100)) dQ oQ)) (hhh.keeps (below_regrown (wr.alloc (.cells #[.int .i64 lv, .slice V nv cv, .slice H nh ch, .int .i64 sm, .slice K nk ck] 100)) dQ oQ)) HG.out HS.out)
      rw [HP1.out] at cQ0
      have cQ1 := hid (fun (dQ : Nat) (oQ : Array Obj) => uCount_any (ws := ws) (sm := sm) (c0 := c0) (lv := lv) (c := cv) (H := H) (m := nh) (d := ch) (h.keeps (Keeps.trans kw (below_regrown (wr.alloc (.cells #[.int .i64 lv, .slice V nv cv, .slice H nh ch, .int .i64 sm, .slice K nk ck] 100)) dQ oQ))) (h'.keeps (Keeps.trans kw (below_regrown (wr.alloc (.cells #[.int .i64 lv, .slice V nv cv, .slice H nh ch, .int .i64 sm, .slice K nk ck] 100)) dQ oQ))) (hvv.keeps (below_regrown (wr.alloc (.cells #[.int .i64 lv, .slice V nv cv, .slice H nh ch, .int .i64 sm, .slice K nk ck] 100)) dQ oQ)) HG.out HS.out HVS.out)
      rw [HN.out] at cQ1
      have cQ2 := hid (fun (dQ : Nat) (oQ : Array Obj) => callsK (l1All_any _ _ _ _ ck _ (-1) 1000000 _ (hkk.keeps (below_regrown (wr.alloc (.cells #[.int .i64 lv, .slice V nv cv, .slice H nh ch, .int .i64 sm, .slice K nk ck] 100)) dQ oQ))))
      rw [HP3.out] at cQ2
      go_wp2_with fail
      clear ca2 fa2 ca3_0 fa3_0 ca3_1 fa3_1 ca3_2 fa3_2 ca3_3 fa3_3 ca3_4 fa3_4
      refine wp_region_quiet_below (by kernel_rfl) (by kernel_rfl) ?_
      iterate 23 (go_big_quiet_step ((first | with_reducible exact Calls.regrown_of (cQ0.out _ _) | with_reducible exact Calls.regrown_of (cQ1.out _ _) | with_reducible exact Calls.regrown_of (cQ2.out _ _))))
      refine wpQuiet_nil ?_
      intro _ hw'
      obtain ⟨⟨dq, osq⟩, hw''⟩ := hw'
      subst hw''
      clear qa_b3 rqa_b3 q0_b8 rq0_b8 q1_b8 rq1_b8 q2_b8 rq2_b8 q3_b8 rq3_b8 q4_b8 rq4_b8 cQ0 cQ1 cQ2
      have kQ := below_regrown (wr.alloc (.cells #[.int .i64 lv, .slice V nv cv, .slice H nh ch, .int .i64 sm, .slice K nk ck] 100)) dq osq
      obtain ⟨wQ4, hwQ⟩ : ∃ u, u = grow (redrawn (wr.alloc (.cells #[.int .i64 lv, .slice V nv cv, .slice H nh ch, .int .i64 sm, .slice K nk ck] 100)) dq) osq := ⟨_, rfl⟩
      rw [← hwQ] at kQ
      rw [← hwQ]
      clear hwQ
      replace b3 := b3.keeps kQ
      replace b8 := b8.keeps kQ
      replace hvv := hvv.keeps kQ
      replace hhh := hhh.keeps kQ
      replace hkk := hkk.keeps kQ
      replace kw := Keeps.trans kw kQ
      have lt5 := b8.lt
      have sz6 := kw.size
      clear kQ
      obtain ⟨ca7, fa7⟩ := id b3
      go_wp2_with fail
      clear ca7 fa7
      go_roundw
      case rel => exact ⟨k + 1, by omega, by go_num, HNX, b3, kw⟩
      case measure => simp [intOf]; omega
    · obtain rfl : k = n := by omega
      have HX := hid (apB_yes HTL.out HT.out)
      by_cases h20 : k ≤ 20
      · have HY := hid (HX.out.trans (decide_eq_true h20))
        have h21 : (k : Int) ≤ 20 := by omega
        go_wp2
        go_ret
        exact ⟨ret_bool HY.out.symm, kw⟩
      · have HY := hid (HX.out.trans (decide_eq_false h20))
        have h21 : ¬ (k : Int) ≤ 20 := by omega
        go_wp2
        go_ret
        exact ⟨ret_bool HY.out.symm, kw⟩
end Go.Proofs.Ytellocnplemjmaa
