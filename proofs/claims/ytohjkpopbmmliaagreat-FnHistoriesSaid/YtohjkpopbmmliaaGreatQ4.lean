/- What the proof of the statement leans on, part 5: walks of functions and plain lemmas, with no condition. -/
import Derived.Laws.AppendOwnNone
import Derived.Test.YtohjkpopbmmliaaGreatQ3
namespace Go.Proofs.YtohjkpopbmmliaaGreat
open Go.RowKit
set_option linter.unusedVariables false
set_option linter.unusedSimpArgs false
/-- A loss within a budget. -/
def wiB (b x : LQ) : Bool := decide (cmpQ x.1 x.2.1 b.1 b.2.1 ≤ 0) && decide (cmpQ x.2.2.1 x.2.2.2 b.2.2.1 b.2.2.2 ≤ 0)
def lfB (b : LQ) (q : LQ × Bool) : Bool := q.2 && wiB b q.1
/-- How many go well, of n. -/
def cn (b : LQ) (q : Nat → LQ × Bool) : Nat → Nat
  | 0 => 0
  | k + 1 => if cn b q k < k then cn b q k else if lfB b (q (k + 1)) = true then k + 1 else k
theorem cn_le (b : LQ) (q : Nat → LQ × Bool) : ∀ k, cn b q k ≤ k
  | 0 => Nat.le_refl _
  | k + 1 => by unfold cn; split <;> (try split) <;> omega
theorem cn_yes {b : LQ} {q : Nat → LQ × Bool} {k : Nat} (h : cn b q k = k) (e : lfB b (q (k + 1)) = true) : cn b q (k + 1) = k + 1 := by unfold cn; rw [if_neg (by omega), if_pos e]
theorem cn_no {b : LQ} {q : Nat → LQ × Bool} {k n : Nat} (h : cn b q k = k) (e : lfB b (q (k + 1)) = false) (hn : k < n) : cn b q n = k := by
  induction n with
  | zero => omega
  | succ n ih =>
    by_cases hk : k = n
    · subst hk; unfold cn; rw [if_neg (by omega), if_neg (by rw [e]; simp)]
    · have := ih (by omega)
      unfold cn; rw [if_pos (by omega)]; exact this
theorem cn_pos {b : LQ} {q : Nat → LQ × Bool} {n : Nat} : 0 < cn b q n ↔ 0 < n ∧ lfB b (q 1) = true := by
  by_cases h0 : n = 0
  · subst h0; simp [cn]
  · cases e : lfB b (q 1) with
    | false => rw [cn_no (k := 0) rfl e (by omega)]; simp
    | true =>
      have : ∀ m, 0 < m → 0 < cn b q m := fun m => by
        induction m with
        | zero => intro h; omega
        | succ m ih =>
          intro _
          by_cases hm : m = 0
          · subst hm; unfold cn; simp [cn, e]
          · have := ih (by omega)
            unfold cn; split <;> (try split) <;> omega
      exact ⟨fun _ => ⟨by omega, rfl⟩, fun _ => this n (by omega)⟩
/-- Losses and k times another one. -/
def exq (ls : List LQ) (x : LQ) (k : Nat) : LQ × Bool := comTo (ls ++ List.replicate k x) (ls.length + k)
theorem comTo_app {ls ms : List LQ} : ∀ k, k ≤ ls.length → comTo (ls ++ ms) k = comTo ls k
  | 0, _ => rfl
  | k + 1, h => by
    show (if (comTo (ls ++ ms) k).2 = true then two (comTo (ls ++ ms) k).1 ((ls ++ ms).getD k lz) else (lz, false)) = _
    rw [comTo_app k (by omega)]
    have : (ls ++ ms).getD k lz = ls.getD k lz := by simp [List.getD, List.getElem?_append_left (show k < ls.length by omega)]
    rw [this]; rfl
theorem comTo_take {ls : List LQ} {k : Nat} (h : k ≤ ls.length) : comTo (ls.take k) k = comTo ls k := by
  have := comTo_app (ls := ls.take k) (ms := ls.drop k) k (by rw [List.length_take]; omega)
  rw [List.take_append_drop] at this
  exact this.symm
theorem exq_zero (ls : List LQ) (x : LQ) : exq ls x 0 = comTo ls ls.length := by simp [exq]
theorem exq_next {ls : List LQ} {x s : LQ} {k : Nat} (h : exq ls x k = (s, true)) : exq ls x (k + 1) = two s x := by
  unfold exq at h ⊢
  have e1 : comTo (ls ++ List.replicate (k + 1) x) (ls.length + k) = (s, true) := by
    rw [← h, List.replicate_succ', ← List.append_assoc]
    exact comTo_app _ (by simp)
  have e2 : x = (ls ++ List.replicate (k + 1) x).getD (ls.length + k) lz := by
    simp [List.getD, List.getElem?_append_right]
  exact comTo_next e1 e2
theorem exq_stop {ls : List LQ} {x : LQ} {k : Nat} (h : comTo ls ls.length = (lz, false)) : exq ls x k = (lz, false) := by
  unfold exq
  exact comTo_stop (k := ls.length) (by rw [comTo_app _ (Nat.le_refl _)]; exact h) (by omega)
theorem lfB_no {b : LQ} {q : LQ × Bool} (h : q.2 = false) : lfB b q = false := by unfold lfB; rw [h]; rfl
def foQ (ps : List Int) (l : List VV) (rs : List RL) (b : LQ) : Int × Bool := if (hisB ps l rs && lsB b) = true then ((cn b (comTo (rlLs rs)) rs.length : Int), true) else (0, false)
theorem foQ_no {ps : List Int} {l : List VV} {rs : List RL} {b : LQ} (h : (hisB ps l rs && lsB b) = false) : foQ ps l rs b = (0, false) := if_neg (by rw [h]; simp)
theorem foQ_yes {ps : List Int} {l : List VV} {rs : List RL} {b : LQ} (h : (hisB ps l rs && lsB b) = true) : foQ ps l rs b = ((cn b (comTo (rlLs rs)) rs.length : Int), true) := if_pos h
def rqQ (ps : List Int) (l : List VV) (rs : List RL) (b x : LQ) : Int × Bool := if (hisB ps l rs && lsB b && lsB x) = true then ((cn b (exq (rlLs rs) x) (12 - rs.length) : Int), true) else (0, false)
theorem rqQ_no {ps : List Int} {l : List VV} {rs : List RL} {b x : LQ} (h : (hisB ps l rs && lsB b && lsB x) = false) : rqQ ps l rs b x = (0, false) := if_neg (by rw [h]; simp)
theorem rqQ_yes {ps : List Int} {l : List VV} {rs : List RL} {b x : LQ} (h : (hisB ps l rs && lsB b && lsB x) = true) : rqQ ps l rs b x = ((cn b (exq (rlLs rs) x) (12 - rs.length) : Int), true) := if_pos h
def caQ (ps : List Int) (l : List VV) (rs : List RL) (b : LQ) (ts : List TT) (x : LQ) : Bool × Bool := if (hisB ps l rs && lsB b && plB ps l ts && lsB x) = true then (decide (0 < cn b (exq (rlLs rs) x) (12 - rs.length)), true) else (false, false)
theorem caQ_no {ps : List Int} {l : List VV} {rs : List RL} {b x : LQ} {ts : List TT} (h : (hisB ps l rs && lsB b && plB ps l ts && lsB x) = false) : caQ ps l rs b ts x = (false, false) := if_neg (by rw [h]; simp)
theorem caQ_yes {ps : List Int} {l : List VV} {rs : List RL} {b x : LQ} {ts : List TT} (h : (hisB ps l rs && lsB b && plB ps l ts && lsB x) = true) : caQ ps l rs b ts x = (decide (0 < cn b (exq (rlLs rs) x) (12 - rs.length)), true) := if_pos h
/-- The losses of a history are valid. -/
theorem his_loss {ps : List Int} {l : List VV} {rs : List RL} (h : hisB ps l rs = true) : rs.length ≤ 12 ∧ ∀ k, k < rs.length → lsB ((rlLs rs).getD k lz) = true := by
  have := hisB_parts h
  exact ⟨this.2.2.1, fun k hk => by rw [rlLs_at]; exact relB_loss (this.2.2.2 k hk).2⟩
theorem comQ_of {ls : List LQ} (h1 : ls.length ≤ 30) (h2 : ∀ k, k < ls.length → lsB (ls.getD k lz) = true) : comQ ls = comTo ls ls.length :=
  comQ_yes (by unfold lsAll; rw [lsTo_of _ h2, decide_eq_true h1]; rfl)
theorem rep_at (x : LQ) {m k : Nat} (h : k < m) : (List.replicate m x).getD k lz = x := by simp [List.getD, h]
theorem app_good {ls : List LQ} {x : LQ} {m : Nat} (h : ∀ k, k < ls.length → lsB (ls.getD k lz) = true) (hx : lsB x = true) : ∀ k, k < (ls ++ List.replicate m x).length → lsB ((ls ++ List.replicate m x).getD k lz) = true := fun k hk => by
  rcases Nat.lt_or_ge k ls.length with h1 | h1
  · have : (ls ++ List.replicate m x).getD k lz = ls.getD k lz := by simp [List.getD, List.getElem?_append_left h1]
    rw [this]; exact h k h1
  · have : (ls ++ List.replicate m x).getD k lz = x := by
      simp at hk
      simp only [List.getD, List.getElem?_append_right h1]
      exact rep_at x (by omega)
    rw [this]; exact hx
theorem exq_com {ls : List LQ} {x : LQ} {m : Nat} (h1 : ls.length ≤ 12) (hm : m ≤ 12) (h : ∀ k, k < ls.length → lsB (ls.getD k lz) = true) (hx : lsB x = true) : comQ (ls ++ List.replicate m x) = exq ls x m := by
  rw [comQ_of (by simp; omega) (app_good h hx)]
  unfold exq; simp
theorem exq_good {ls : List LQ} {x s : LQ} {m : Nat} (h : ∀ k, k < ls.length → lsB (ls.getD k lz) = true) (hx : lsB x = true) (e : exq ls x m = (s, true)) : lsB s = true :=
  comTo_good (n := (ls ++ List.replicate m x).length) (app_good h hx) (ls.length + m) (by simp) s e
theorem RgL.front {ex un : Bool} {w : World} {lo hi b : Nat} : ∀ (xs ys : List D) (off : Nat), RgL ex un w lo hi b off (xs ++ ys) → RgL ex un w lo hi b off xs
  | [], ys, off, h => by unfold RgL; trivial
  | x :: xs, ys, off, h => by
    rw [List.cons_append] at h
    unfold RgL at h ⊢
    exact ⟨h.1, RgL.front xs ys (off + 1) h.2⟩
theorem Rels.front {ex un : Bool} {w : World} {lo hi n k : Nat} {A : Option Addr} {l : List RL} (h : Rels ex un w lo hi A n l) (hk : k ≤ n) : Rels ex un w lo hi A k (l.take k) := by
  refine ⟨⟨h.r.1, fun h0 => ?_⟩, by rw [List.length_take, h.len]; omega, Nat.le_trans hk h.le, fun j => ?_⟩
  · obtain ⟨b, off, e, h1, h2, h3⟩ := h.r.2 (by omega)
    refine ⟨b, off, e, h1, h2, ?_⟩
    rw [← List.take_append_drop k l, List.flatMap_append] at h3
    exact RgL.front _ _ off h3
  · rcases Nat.lt_or_ge j k with hj | hj
    · have : (l.take k).getD j rl0 = l.getD j rl0 := by simp [List.getD, List.getElem?_take, hj]
      rw [this]; exact h.sm j
    · rw [getD_out (by rw [List.length_take]; omega)]
      exact ⟨Nat.zero_le _, fun i => by rw [show rl0.2.1 = [] from rfl]; simp [smT, t0]⟩
theorem rlLs_take (rs : List RL) (k : Nat) : rlLs (rs.take k) = (rlLs rs).take k := by simp [rlLs, List.map_take]
set_option maxRecDepth 100000 in
set_option maxHeartbeats 1600000 in
theorem isWithin_any {d1 d2 d3 d4 x1 x2 x3 x4 : Int} {w : World} (hb : lsB (d1, d2, d3, d4) = true) (hx : lsB (x1, x2, x3, x4) = true) :
    Calls Tryz.prog 59 #[.agg #[.int .i64 d1, .int .i64 d2, .int .i64 d3, .int .i64 d4], .agg #[.int .i64 x1, .int .i64 x2, .int .i64 x3, .int .i64 x4]] w fun e w' => e = .returned (.bool (wiB (d1, d2, d3, d4) (x1, x2, x3, x4))) ∧ Keeps w w' := by
  have HB := hid (frac_of_loss hb)
  have HX := hid (frac_of_loss hx)
  clear hb hx
  obtain ⟨c1, H1⟩ : ∃ c, Hid (cmpQ x1 x2 d1 d2 = c) := ⟨_, rfl⟩
  obtain ⟨c2, H2⟩ : ∃ c, Hid (cmpQ x3 x4 d3 d4 = c) := ⟨_, rfl⟩
  have HW := hid (show wiB (d1, d2, d3, d4) (x1, x2, x3, x4) = (decide (c1 ≤ 0) && decide (c2 ≤ 0)) by rw [← H1.out, ← H2.out]; rfl)
  go_enter Tryz.func59, Tryz.ntmps59
  have kw := keeps_refl w
  replace kw := Keeps.trans kw (keeps_alloc w (.cells #[.int .i64 d1, .int .i64 d2, .int .i64 d3, .int .i64 d4] 32))
  have b2 : Bl (w.alloc (.cells #[.int .i64 d1, .int .i64 d2, .int .i64 d3, .int .i64 d4] 32)) w.heap.size [.int .i64 d1, .int .i64 d2, .int .i64 d3, .int .i64 d4] := Bl.new' (by simp) (by simp)
  replace b2 := b2.keeps (keeps_alloc (w.alloc (.cells #[.int .i64 d1, .int .i64 d2, .int .i64 d3, .int .i64 d4] 32)) (.cells #[.int .i64 x1, .int .i64 x2, .int .i64 x3, .int .i64 x4] 32))
  replace kw := Keeps.trans kw (keeps_alloc (w.alloc (.cells #[.int .i64 d1, .int .i64 d2, .int .i64 d3, .int .i64 d4] 32)) (.cells #[.int .i64 x1, .int .i64 x2, .int .i64 x3, .int .i64 x4] 32))
  have b3 : Bl ((w.alloc (.cells #[.int .i64 d1, .int .i64 d2, .int .i64 d3, .int .i64 d4] 32)).alloc (.cells #[.int .i64 x1, .int .i64 x2, .int .i64 x3, .int .i64 x4] 32)) (w.heap.size + 1) [.int .i64 x1, .int .i64 x2, .int .i64 x3, .int .i64 x4] := Bl.new' (by simp) (by simp)
  have ca1_0 : ((w.alloc (.cells #[.int .i64 d1, .int .i64 d2, .int .i64 d3, .int .i64 d4] 32)).alloc (.cells #[.int .i64 x1, .int .i64 x2, .int .i64 x3, .int .i64 x4] 32)).cell? ⟨w.heap.size, 0, none⟩ = some (.int .i64 d1) := (b2.2 0 _ rfl).1
  have ca1_1 : ((w.alloc (.cells #[.int .i64 d1, .int .i64 d2, .int .i64 d3, .int .i64 d4] 32)).alloc (.cells #[.int .i64 x1, .int .i64 x2, .int .i64 x3, .int .i64 x4] 32)).cell? ⟨w.heap.size, 1, none⟩ = some (.int .i64 d2) := (b2.2 1 _ rfl).1
  have ca1_2 : ((w.alloc (.cells #[.int .i64 d1, .int .i64 d2, .int .i64 d3, .int .i64 d4] 32)).alloc (.cells #[.int .i64 x1, .int .i64 x2, .int .i64 x3, .int .i64 x4] 32)).cell? ⟨w.heap.size, 2, none⟩ = some (.int .i64 d3) := (b2.2 2 _ rfl).1
  have ca1_3 : ((w.alloc (.cells #[.int .i64 d1, .int .i64 d2, .int .i64 d3, .int .i64 d4] 32)).alloc (.cells #[.int .i64 x1, .int .i64 x2, .int .i64 x3, .int .i64 x4] 32)).cell? ⟨w.heap.size, 3, none⟩ = some (.int .i64 d4) := (b2.2 3 _ rfl).1
  have ca2_0 : ((w.alloc (.cells #[.int .i64 d1, .int .i64 d2, .int .i64 d3, .int .i64 d4] 32)).alloc (.cells #[.int .i64 x1, .int .i64 x2, .int .i64 x3, .int .i64 x4] 32)).cell? ⟨w.heap.size + 1, 0, none⟩ = some (.int .i64 x1) := (b3.2 0 _ rfl).1
  have ca2_1 : ((w.alloc (.cells #[.int .i64 d1, .int .i64 d2, .int .i64 d3, .int .i64 d4] 32)).alloc (.cells #[.int .i64 x1, .int .i64 x2, .int .i64 x3, .int .i64 x4] 32)).cell? ⟨w.heap.size + 1, 1, none⟩ = some (.int .i64 x2) := (b3.2 1 _ rfl).1
  have ca2_2 : ((w.alloc (.cells #[.int .i64 d1, .int .i64 d2, .int .i64 d3, .int .i64 d4] 32)).alloc (.cells #[.int .i64 x1, .int .i64 x2, .int .i64 x3, .int .i64 x4] 32)).cell? ⟨w.heap.size + 1, 2, none⟩ = some (.int .i64 x3) := (b3.2 2 _ rfl).1
  have ca2_3 : ((w.alloc (.cells #[.int .i64 d1, .int .i64 d2, .int .i64 d3, .int .i64 d4] 32)).alloc (.cells #[.int .i64 x1, .int .i64 x2, .int .i64 x3, .int .i64 x4] 32)).cell? ⟨w.heap.size + 1, 3, none⟩ = some (.int .i64 x4) := (b3.2 3 _ rfl).1
  go_wp2_with fail
  clear ca1_0 ca1_1 ca1_2 ca1_3 ca2_0 ca2_1 ca2_2 ca2_3
  refine (cmpFrac_any HX.out.2.1 HB.out.2.1).mono ?_
  rintro e w3 ⟨rfl, k3⟩
  rw [H1.out]
  replace b2 := b2.keeps k3
  replace b3 := b3.keeps k3
  replace kw := Keeps.trans kw k3
  have lt4 := b3.lt
  have sz5 := kw.size
  clear k3
  by_cases h1 : c1 ≤ 0
  rotate_left
  · have D1 := hid (decide_eq_false h1)
    have ca6_0 : w3.cell? ⟨w.heap.size, 0, none⟩ = some (.int .i64 d1) := (b2.2 0 _ rfl).1
    have ca6_1 : w3.cell? ⟨w.heap.size, 1, none⟩ = some (.int .i64 d2) := (b2.2 1 _ rfl).1
    have ca6_2 : w3.cell? ⟨w.heap.size, 2, none⟩ = some (.int .i64 d3) := (b2.2 2 _ rfl).1
    have ca6_3 : w3.cell? ⟨w.heap.size, 3, none⟩ = some (.int .i64 d4) := (b2.2 3 _ rfl).1
    have ca7_0 : w3.cell? ⟨w.heap.size + 1, 0, none⟩ = some (.int .i64 x1) := (b3.2 0 _ rfl).1
    have ca7_1 : w3.cell? ⟨w.heap.size + 1, 1, none⟩ = some (.int .i64 x2) := (b3.2 1 _ rfl).1
    have ca7_2 : w3.cell? ⟨w.heap.size + 1, 2, none⟩ = some (.int .i64 x3) := (b3.2 2 _ rfl).1
    have ca7_3 : w3.cell? ⟨w.heap.size + 1, 3, none⟩ = some (.int .i64 x4) := (b3.2 3 _ rfl).1
    go_wp2_with fail
    clear ca6_0 ca6_1 ca6_2 ca6_3 ca7_0 ca7_1 ca7_2 ca7_3
    go_ret
    exact ⟨ret_bool (by rw [HW.out, D1.out]; rfl), kw⟩
  have D1 := hid (decide_eq_true h1)
  have ca6_0 : w3.cell? ⟨w.heap.size, 0, none⟩ = some (.int .i64 d1) := (b2.2 0 _ rfl).1
  have ca6_1 : w3.cell? ⟨w.heap.size, 1, none⟩ = some (.int .i64 d2) := (b2.2 1 _ rfl).1
  have ca6_2 : w3.cell? ⟨w.heap.size, 2, none⟩ = some (.int .i64 d3) := (b2.2 2 _ rfl).1
  have ca6_3 : w3.cell? ⟨w.heap.size, 3, none⟩ = some (.int .i64 d4) := (b2.2 3 _ rfl).1
  have ca7_0 : w3.cell? ⟨w.heap.size + 1, 0, none⟩ = some (.int .i64 x1) := (b3.2 0 _ rfl).1
  have ca7_1 : w3.cell? ⟨w.heap.size + 1, 1, none⟩ = some (.int .i64 x2) := (b3.2 1 _ rfl).1
  have ca7_2 : w3.cell? ⟨w.heap.size + 1, 2, none⟩ = some (.int .i64 x3) := (b3.2 2 _ rfl).1
  have ca7_3 : w3.cell? ⟨w.heap.size + 1, 3, none⟩ = some (.int .i64 x4) := (b3.2 3 _ rfl).1
  go_wp2_with fail
  clear ca6_0 ca6_1 ca6_2 ca6_3 ca7_0 ca7_1 ca7_2 ca7_3
  refine (cmpFrac_any HX.out.2.2 HB.out.2.2).mono ?_
  rintro e w8 ⟨rfl, k8⟩
  rw [H2.out]
  replace b2 := b2.keeps k8
  replace b3 := b3.keeps k8
  replace kw := Keeps.trans kw k8
  have lt9 := b3.lt
  have sz10 := kw.size
  clear k8
  by_cases h2 : c2 ≤ 0
  · have D2 := hid (decide_eq_true h2)
    go_wp2_with fail
    go_ret
    exact ⟨ret_bool (by rw [HW.out, D1.out, D2.out]; first | rfl | (simp; omega)), kw⟩
  · have D2 := hid (decide_eq_false h2)
    go_wp2_with fail
    go_ret
    exact ⟨ret_bool (by rw [HW.out, D1.out, D2.out]; first | rfl | (simp; omega)), kw⟩
set_option maxRecDepth 100000 in
set_option maxHeartbeats 1600000 in
theorem pWithin_any {d1 d2 d3 d4 x1 x2 x3 x4 : Int} {w : World} (hb : lsB (d1, d2, d3, d4) = true) (hx : lsB (x1, x2, x3, x4) = true) :
    Calls Tryz.prog 146 #[.agg #[.int .i64 d1, .int .i64 d2, .int .i64 d3, .int .i64 d4], .agg #[.int .i64 x1, .int .i64 x2, .int .i64 x3, .int .i64 x4]] w fun e w' => e = .returned (.bool (wiB (d1, d2, d3, d4) (x1, x2, x3, x4))) ∧ Keeps w w' := by
  have HB := hid (frac_of_loss hb)
  have HX := hid (frac_of_loss hx)
  clear hb hx
  obtain ⟨c1, H1⟩ : ∃ c, Hid (cmpQ x1 x2 d1 d2 = c) := ⟨_, rfl⟩
  obtain ⟨c2, H2⟩ : ∃ c, Hid (cmpQ x3 x4 d3 d4 = c) := ⟨_, rfl⟩
  have HW := hid (show wiB (d1, d2, d3, d4) (x1, x2, x3, x4) = (decide (c1 ≤ 0) && decide (c2 ≤ 0)) by rw [← H1.out, ← H2.out]; rfl)
  go_enter Tryz.func146, Tryz.ntmps146
  have kw := keeps_refl w
  replace kw := Keeps.trans kw (keeps_alloc w (.cells #[.int .i64 d1, .int .i64 d2, .int .i64 d3, .int .i64 d4] 32))
  have b2 : Bl (w.alloc (.cells #[.int .i64 d1, .int .i64 d2, .int .i64 d3, .int .i64 d4] 32)) w.heap.size [.int .i64 d1, .int .i64 d2, .int .i64 d3, .int .i64 d4] := Bl.new' (by simp) (by simp)
  replace b2 := b2.keeps (keeps_alloc (w.alloc (.cells #[.int .i64 d1, .int .i64 d2, .int .i64 d3, .int .i64 d4] 32)) (.cells #[.int .i64 x1, .int .i64 x2, .int .i64 x3, .int .i64 x4] 32))
  replace kw := Keeps.trans kw (keeps_alloc (w.alloc (.cells #[.int .i64 d1, .int .i64 d2, .int .i64 d3, .int .i64 d4] 32)) (.cells #[.int .i64 x1, .int .i64 x2, .int .i64 x3, .int .i64 x4] 32))
  have b3 : Bl ((w.alloc (.cells #[.int .i64 d1, .int .i64 d2, .int .i64 d3, .int .i64 d4] 32)).alloc (.cells #[.int .i64 x1, .int .i64 x2, .int .i64 x3, .int .i64 x4] 32)) (w.heap.size + 1) [.int .i64 x1, .int .i64 x2, .int .i64 x3, .int .i64 x4] := Bl.new' (by simp) (by simp)
  have ca1_0 : ((w.alloc (.cells #[.int .i64 d1, .int .i64 d2, .int .i64 d3, .int .i64 d4] 32)).alloc (.cells #[.int .i64 x1, .int .i64 x2, .int .i64 x3, .int .i64 x4] 32)).cell? ⟨w.heap.size, 0, none⟩ = some (.int .i64 d1) := (b2.2 0 _ rfl).1
  have ca1_1 : ((w.alloc (.cells #[.int .i64 d1, .int .i64 d2, .int .i64 d3, .int .i64 d4] 32)).alloc (.cells #[.int .i64 x1, .int .i64 x2, .int .i64 x3, .int .i64 x4] 32)).cell? ⟨w.heap.size, 1, none⟩ = some (.int .i64 d2) := (b2.2 1 _ rfl).1
  have ca1_2 : ((w.alloc (.cells #[.int .i64 d1, .int .i64 d2, .int .i64 d3, .int .i64 d4] 32)).alloc (.cells #[.int .i64 x1, .int .i64 x2, .int .i64 x3, .int .i64 x4] 32)).cell? ⟨w.heap.size, 2, none⟩ = some (.int .i64 d3) := (b2.2 2 _ rfl).1
  have ca1_3 : ((w.alloc (.cells #[.int .i64 d1, .int .i64 d2, .int .i64 d3, .int .i64 d4] 32)).alloc (.cells #[.int .i64 x1, .int .i64 x2, .int .i64 x3, .int .i64 x4] 32)).cell? ⟨w.heap.size, 3, none⟩ = some (.int .i64 d4) := (b2.2 3 _ rfl).1
  have ca2_0 : ((w.alloc (.cells #[.int .i64 d1, .int .i64 d2, .int .i64 d3, .int .i64 d4] 32)).alloc (.cells #[.int .i64 x1, .int .i64 x2, .int .i64 x3, .int .i64 x4] 32)).cell? ⟨w.heap.size + 1, 0, none⟩ = some (.int .i64 x1) := (b3.2 0 _ rfl).1
  have ca2_1 : ((w.alloc (.cells #[.int .i64 d1, .int .i64 d2, .int .i64 d3, .int .i64 d4] 32)).alloc (.cells #[.int .i64 x1, .int .i64 x2, .int .i64 x3, .int .i64 x4] 32)).cell? ⟨w.heap.size + 1, 1, none⟩ = some (.int .i64 x2) := (b3.2 1 _ rfl).1
  have ca2_2 : ((w.alloc (.cells #[.int .i64 d1, .int .i64 d2, .int .i64 d3, .int .i64 d4] 32)).alloc (.cells #[.int .i64 x1, .int .i64 x2, .int .i64 x3, .int .i64 x4] 32)).cell? ⟨w.heap.size + 1, 2, none⟩ = some (.int .i64 x3) := (b3.2 2 _ rfl).1
  have ca2_3 : ((w.alloc (.cells #[.int .i64 d1, .int .i64 d2, .int .i64 d3, .int .i64 d4] 32)).alloc (.cells #[.int .i64 x1, .int .i64 x2, .int .i64 x3, .int .i64 x4] 32)).cell? ⟨w.heap.size + 1, 3, none⟩ = some (.int .i64 x4) := (b3.2 3 _ rfl).1
  go_wp2_with fail
  clear ca1_0 ca1_1 ca1_2 ca1_3 ca2_0 ca2_1 ca2_2 ca2_3
  refine (fCmp_any HX.out.2.1 HB.out.2.1).mono ?_
  rintro e w3 ⟨rfl, k3⟩
  rw [H1.out]
  replace b2 := b2.keeps k3
  replace b3 := b3.keeps k3
  replace kw := Keeps.trans kw k3
  have lt4 := b3.lt
  have sz5 := kw.size
  clear k3
  by_cases h1 : c1 ≤ 0
  rotate_left
  · have D1 := hid (decide_eq_false h1)
    have ca6_0 : w3.cell? ⟨w.heap.size, 0, none⟩ = some (.int .i64 d1) := (b2.2 0 _ rfl).1
    have ca6_1 : w3.cell? ⟨w.heap.size, 1, none⟩ = some (.int .i64 d2) := (b2.2 1 _ rfl).1
    have ca6_2 : w3.cell? ⟨w.heap.size, 2, none⟩ = some (.int .i64 d3) := (b2.2 2 _ rfl).1
    have ca6_3 : w3.cell? ⟨w.heap.size, 3, none⟩ = some (.int .i64 d4) := (b2.2 3 _ rfl).1
    have ca7_0 : w3.cell? ⟨w.heap.size + 1, 0, none⟩ = some (.int .i64 x1) := (b3.2 0 _ rfl).1
    have ca7_1 : w3.cell? ⟨w.heap.size + 1, 1, none⟩ = some (.int .i64 x2) := (b3.2 1 _ rfl).1
    have ca7_2 : w3.cell? ⟨w.heap.size + 1, 2, none⟩ = some (.int .i64 x3) := (b3.2 2 _ rfl).1
    have ca7_3 : w3.cell? ⟨w.heap.size + 1, 3, none⟩ = some (.int .i64 x4) := (b3.2 3 _ rfl).1
    go_wp2_with fail
    clear ca6_0 ca6_1 ca6_2 ca6_3 ca7_0 ca7_1 ca7_2 ca7_3
    go_ret
    exact ⟨ret_bool (by rw [HW.out, D1.out]; rfl), kw⟩
  have D1 := hid (decide_eq_true h1)
  have ca6_0 : w3.cell? ⟨w.heap.size, 0, none⟩ = some (.int .i64 d1) := (b2.2 0 _ rfl).1
  have ca6_1 : w3.cell? ⟨w.heap.size, 1, none⟩ = some (.int .i64 d2) := (b2.2 1 _ rfl).1
  have ca6_2 : w3.cell? ⟨w.heap.size, 2, none⟩ = some (.int .i64 d3) := (b2.2 2 _ rfl).1
  have ca6_3 : w3.cell? ⟨w.heap.size, 3, none⟩ = some (.int .i64 d4) := (b2.2 3 _ rfl).1
  have ca7_0 : w3.cell? ⟨w.heap.size + 1, 0, none⟩ = some (.int .i64 x1) := (b3.2 0 _ rfl).1
  have ca7_1 : w3.cell? ⟨w.heap.size + 1, 1, none⟩ = some (.int .i64 x2) := (b3.2 1 _ rfl).1
  have ca7_2 : w3.cell? ⟨w.heap.size + 1, 2, none⟩ = some (.int .i64 x3) := (b3.2 2 _ rfl).1
  have ca7_3 : w3.cell? ⟨w.heap.size + 1, 3, none⟩ = some (.int .i64 x4) := (b3.2 3 _ rfl).1
  go_wp2_with fail
  clear ca6_0 ca6_1 ca6_2 ca6_3 ca7_0 ca7_1 ca7_2 ca7_3
  refine (fCmp_any HX.out.2.2 HB.out.2.2).mono ?_
  rintro e w8 ⟨rfl, k8⟩
  rw [H2.out]
  replace b2 := b2.keeps k8
  replace b3 := b3.keeps k8
  replace kw := Keeps.trans kw k8
  have lt9 := b3.lt
  have sz10 := kw.size
  clear k8
  by_cases h2 : c2 ≤ 0
  · have D2 := hid (decide_eq_true h2)
    go_wp2_with fail
    go_ret
    exact ⟨ret_bool (by rw [HW.out, D1.out, D2.out]; first | rfl | (simp; omega)), kw⟩
  · have D2 := hid (decide_eq_false h2)
    go_wp2_with fail
    go_ret
    exact ⟨ret_bool (by rw [HW.out, D1.out, D2.out]; first | rfl | (simp; omega)), kw⟩
set_option maxRecDepth 100000 in
set_option maxHeartbeats 1600000 in
theorem IsWithin_any {d1 d2 d3 d4 x1 x2 x3 x4 : Int} {w : World} (hb : lsB (d1, d2, d3, d4) = true) (hx : lsB (x1, x2, x3, x4) = true) :
    Calls Tryz.prog 105 #[.agg #[.int .i64 d1, .int .i64 d2, .int .i64 d3, .int .i64 d4], .agg #[.int .i64 x1, .int .i64 x2, .int .i64 x3, .int .i64 x4]] w fun e w' => e = .returned (.tuple #[.bool (wiB (d1, d2, d3, d4) (x1, x2, x3, x4)), .bool true]) ∧ Keeps w w' := by
  have HB := hid hb
  have HX := hid hx
  have HB2 := hid (show lossB d1 d2 d3 d4 = true from hb)
  have HX2 := hid (show lossB x1 x2 x3 x4 = true from hx)
  clear hb hx
  obtain ⟨p, HP⟩ : ∃ p, Hid (wiB (d1, d2, d3, d4) (x1, x2, x3, x4) = p) := ⟨_, rfl⟩
  rw [HP.out]
  go_enter Tryz.func105, Tryz.ntmps105
  have kw := keeps_refl w
  replace kw := Keeps.trans kw (keeps_alloc w (.cells #[.int .i64 d1, .int .i64 d2, .int .i64 d3, .int .i64 d4] 32))
  have b2 : Bl (w.alloc (.cells #[.int .i64 d1, .int .i64 d2, .int .i64 d3, .int .i64 d4] 32)) w.heap.size [.int .i64 d1, .int .i64 d2, .int .i64 d3, .int .i64 d4] := Bl.new' (by simp) (by simp)
  replace b2 := b2.keeps (keeps_alloc (w.alloc (.cells #[.int .i64 d1, .int .i64 d2, .int .i64 d3, .int .i64 d4] 32)) (.cells #[.int .i64 x1, .int .i64 x2, .int .i64 x3, .int .i64 x4] 32))
  replace kw := Keeps.trans kw (keeps_alloc (w.alloc (.cells #[.int .i64 d1, .int .i64 d2, .int .i64 d3, .int .i64 d4] 32)) (.cells #[.int .i64 x1, .int .i64 x2, .int .i64 x3, .int .i64 x4] 32))
  have b3 : Bl ((w.alloc (.cells #[.int .i64 d1, .int .i64 d2, .int .i64 d3, .int .i64 d4] 32)).alloc (.cells #[.int .i64 x1, .int .i64 x2, .int .i64 x3, .int .i64 x4] 32)) (w.heap.size + 1) [.int .i64 x1, .int .i64 x2, .int .i64 x3, .int .i64 x4] := Bl.new' (by simp) (by simp)
  have ca1_0 : ((w.alloc (.cells #[.int .i64 d1, .int .i64 d2, .int .i64 d3, .int .i64 d4] 32)).alloc (.cells #[.int .i64 x1, .int .i64 x2, .int .i64 x3, .int .i64 x4] 32)).cell? ⟨w.heap.size, 0, none⟩ = some (.int .i64 d1) := (b2.2 0 _ rfl).1
  have ca1_1 : ((w.alloc (.cells #[.int .i64 d1, .int .i64 d2, .int .i64 d3, .int .i64 d4] 32)).alloc (.cells #[.int .i64 x1, .int .i64 x2, .int .i64 x3, .int .i64 x4] 32)).cell? ⟨w.heap.size, 1, none⟩ = some (.int .i64 d2) := (b2.2 1 _ rfl).1
  have ca1_2 : ((w.alloc (.cells #[.int .i64 d1, .int .i64 d2, .int .i64 d3, .int .i64 d4] 32)).alloc (.cells #[.int .i64 x1, .int .i64 x2, .int .i64 x3, .int .i64 x4] 32)).cell? ⟨w.heap.size, 2, none⟩ = some (.int .i64 d3) := (b2.2 2 _ rfl).1
  have ca1_3 : ((w.alloc (.cells #[.int .i64 d1, .int .i64 d2, .int .i64 d3, .int .i64 d4] 32)).alloc (.cells #[.int .i64 x1, .int .i64 x2, .int .i64 x3, .int .i64 x4] 32)).cell? ⟨w.heap.size, 3, none⟩ = some (.int .i64 d4) := (b2.2 3 _ rfl).1
  have ca2_0 : ((w.alloc (.cells #[.int .i64 d1, .int .i64 d2, .int .i64 d3, .int .i64 d4] 32)).alloc (.cells #[.int .i64 x1, .int .i64 x2, .int .i64 x3, .int .i64 x4] 32)).cell? ⟨w.heap.size + 1, 0, none⟩ = some (.int .i64 x1) := (b3.2 0 _ rfl).1
  have ca2_1 : ((w.alloc (.cells #[.int .i64 d1, .int .i64 d2, .int .i64 d3, .int .i64 d4] 32)).alloc (.cells #[.int .i64 x1, .int .i64 x2, .int .i64 x3, .int .i64 x4] 32)).cell? ⟨w.heap.size + 1, 1, none⟩ = some (.int .i64 x2) := (b3.2 1 _ rfl).1
  have ca2_2 : ((w.alloc (.cells #[.int .i64 d1, .int .i64 d2, .int .i64 d3, .int .i64 d4] 32)).alloc (.cells #[.int .i64 x1, .int .i64 x2, .int .i64 x3, .int .i64 x4] 32)).cell? ⟨w.heap.size + 1, 2, none⟩ = some (.int .i64 x3) := (b3.2 2 _ rfl).1
  have ca2_3 : ((w.alloc (.cells #[.int .i64 d1, .int .i64 d2, .int .i64 d3, .int .i64 d4] 32)).alloc (.cells #[.int .i64 x1, .int .i64 x2, .int .i64 x3, .int .i64 x4] 32)).cell? ⟨w.heap.size + 1, 3, none⟩ = some (.int .i64 x4) := (b3.2 3 _ rfl).1
  go_wp2_with fail
  clear ca1_0 ca1_1 ca1_2 ca1_3 ca2_0 ca2_1 ca2_2 ca2_3
  refine (pGood_any).mono ?_
  rintro e w3 ⟨rfl, k3⟩
  rw [HB2.out]
  replace b2 := b2.keeps k3
  replace b3 := b3.keeps k3
  replace kw := Keeps.trans kw k3
  have lt4 := b3.lt
  have sz5 := kw.size
  clear k3
  have ca6_0 : w3.cell? ⟨w.heap.size, 0, none⟩ = some (.int .i64 d1) := (b2.2 0 _ rfl).1
  have ca6_1 : w3.cell? ⟨w.heap.size, 1, none⟩ = some (.int .i64 d2) := (b2.2 1 _ rfl).1
  have ca6_2 : w3.cell? ⟨w.heap.size, 2, none⟩ = some (.int .i64 d3) := (b2.2 2 _ rfl).1
  have ca6_3 : w3.cell? ⟨w.heap.size, 3, none⟩ = some (.int .i64 d4) := (b2.2 3 _ rfl).1
  have ca7_0 : w3.cell? ⟨w.heap.size + 1, 0, none⟩ = some (.int .i64 x1) := (b3.2 0 _ rfl).1
  have ca7_1 : w3.cell? ⟨w.heap.size + 1, 1, none⟩ = some (.int .i64 x2) := (b3.2 1 _ rfl).1
  have ca7_2 : w3.cell? ⟨w.heap.size + 1, 2, none⟩ = some (.int .i64 x3) := (b3.2 2 _ rfl).1
  have ca7_3 : w3.cell? ⟨w.heap.size + 1, 3, none⟩ = some (.int .i64 x4) := (b3.2 3 _ rfl).1
  go_wp2_with fail
  clear ca6_0 ca6_1 ca6_2 ca6_3 ca7_0 ca7_1 ca7_2 ca7_3
  refine (pGood_any).mono ?_
  rintro e w8 ⟨rfl, k8⟩
  rw [HX2.out]
  replace b2 := b2.keeps k8
  replace b3 := b3.keeps k8
  replace kw := Keeps.trans kw k8
  have lt9 := b3.lt
  have sz10 := kw.size
  clear k8
  have ca11_0 : w8.cell? ⟨w.heap.size, 0, none⟩ = some (.int .i64 d1) := (b2.2 0 _ rfl).1
  have ca11_1 : w8.cell? ⟨w.heap.size, 1, none⟩ = some (.int .i64 d2) := (b2.2 1 _ rfl).1
  have ca11_2 : w8.cell? ⟨w.heap.size, 2, none⟩ = some (.int .i64 d3) := (b2.2 2 _ rfl).1
  have ca11_3 : w8.cell? ⟨w.heap.size, 3, none⟩ = some (.int .i64 d4) := (b2.2 3 _ rfl).1
  have ca12_0 : w8.cell? ⟨w.heap.size + 1, 0, none⟩ = some (.int .i64 x1) := (b3.2 0 _ rfl).1
  have ca12_1 : w8.cell? ⟨w.heap.size + 1, 1, none⟩ = some (.int .i64 x2) := (b3.2 1 _ rfl).1
  have ca12_2 : w8.cell? ⟨w.heap.size + 1, 2, none⟩ = some (.int .i64 x3) := (b3.2 2 _ rfl).1
  have ca12_3 : w8.cell? ⟨w.heap.size + 1, 3, none⟩ = some (.int .i64 x4) := (b3.2 3 _ rfl).1
  go_wp2_with fail
  clear ca11_0 ca11_1 ca11_2 ca11_3 ca12_0 ca12_1 ca12_2 ca12_3
  refine (pWithin_any HB.out HX.out).mono ?_
  rintro e w13 ⟨rfl, k13⟩
  rw [HP.out]
  replace b2 := b2.keeps k13
  replace b3 := b3.keeps k13
  replace kw := Keeps.trans kw k13
  have lt14 := b3.lt
  have sz15 := kw.size
  clear k13
  have ca16_0 : w13.cell? ⟨w.heap.size, 0, none⟩ = some (.int .i64 d1) := (b2.2 0 _ rfl).1
  have ca16_1 : w13.cell? ⟨w.heap.size, 1, none⟩ = some (.int .i64 d2) := (b2.2 1 _ rfl).1
  have ca16_2 : w13.cell? ⟨w.heap.size, 2, none⟩ = some (.int .i64 d3) := (b2.2 2 _ rfl).1
  have ca16_3 : w13.cell? ⟨w.heap.size, 3, none⟩ = some (.int .i64 d4) := (b2.2 3 _ rfl).1
  have ca17_0 : w13.cell? ⟨w.heap.size + 1, 0, none⟩ = some (.int .i64 x1) := (b3.2 0 _ rfl).1
  have ca17_1 : w13.cell? ⟨w.heap.size + 1, 1, none⟩ = some (.int .i64 x2) := (b3.2 1 _ rfl).1
  have ca17_2 : w13.cell? ⟨w.heap.size + 1, 2, none⟩ = some (.int .i64 x3) := (b3.2 2 _ rfl).1
  have ca17_3 : w13.cell? ⟨w.heap.size + 1, 3, none⟩ = some (.int .i64 x4) := (b3.2 3 _ rfl).1
  go_wp2_with fail
  clear ca16_0 ca16_1 ca16_2 ca16_3 ca17_0 ca17_1 ca17_2 ca17_3
  go_ret2
  exact ⟨rfl, kw⟩
theorem info_loss : (Tryz.prog.info? 32).map (fun i => (i.zero, i.size, i.bytes)) = some (some (.agg #[.int .i64 0, .int .i64 0, .int .i64 0, .int .i64 0]), 4, 32) := by kernel_rfl
theorem make_losses (n : Nat) (hn : n ≤ 67108864) (w : World) :
    (Instr.makeSlice 96 (.int .i64 (n : Int)) (.int .i64 (n : Int))).run Tryz.prog w = .ok (.slice (some ⟨w.heap.size, 0, none⟩) n n) (w.alloc (.cells (madeCells #[.int .i64 0, .int .i64 0, .int .i64 0, .int .i64 0] (n * 4)) 32)) := by
  obtain ⟨i, hi, hz0, hz1, hz2⟩ := info_parts info_loss
  have h := run_make_rowN (P := Tryz.prog) 96 32 i _ Tryz.underlying96 hi hz0 .i64 .i64 n n (Nat.le_refl _) (by rw [hz2]; omega) (by omega) w
  rw [hz1] at h
  simpa [Value.cells] using h
theorem lcs_replicate (n : Nat) : lcs (List.replicate n lz) = (madeCells #[.int .i64 0, .int .i64 0, .int .i64 0, .int .i64 0] (n * 4)).toList := by
  apply List.ext_getElem
  · simp [lcs_len, size_madeCells]
  · intro i h1 h2
    rw [lcs_len, List.length_replicate] at h1
    have h3 := lcs_at (List.replicate n lz) (k := i / 4) (j := i % 4) (by simp; omega) (Nat.mod_lt _ (by omega))
    have h4 : (List.replicate n lz).getD (i / 4) lz = lz := by simp [List.getD, show i / 4 < n by omega]
    rw [h4, show i / 4 * 4 + i % 4 = i by omega] at h3
    have e : (madeCells #[Value.int .i64 0, Value.int .i64 0, Value.int .i64 0, Value.int .i64 0] (n * 4)).toList[i] = .int .i64 0 := by
      simp only [madeCells, Array.toList_map, Array.toList_range, List.getElem_map, List.getElem_range]
      have : i % 4 = 0 ∨ i % 4 = 1 ∨ i % 4 = 2 ∨ i % 4 = 3 := by omega
      rcases this with h | h | h | h <;> simp [h]
    rw [e]
    have hgd : (lcs (List.replicate n lz)).getD i undef = (lcs (List.replicate n lz))[i]'(by rw [lcs_len, List.length_replicate]; exact h1) := by
      simp [List.getD, show i < (lcs (List.replicate n lz)).length by rw [lcs_len, List.length_replicate]; exact h1]
    rw [← hgd, h3]
    have : i % 4 = 0 ∨ i % 4 = 1 ∨ i % 4 = 2 ∨ i % 4 = 3 := by omega
    rcases this with h | h | h | h <;> rw [h] <;> rfl
theorem OwnC.newL (w : World) (n : Nat) : OwnC (w.alloc (.cells (madeCells #[.int .i64 0, .int .i64 0, .int .i64 0, .int .i64 0] (n * 4)) 32)) w.heap.size 32 (lcs (List.replicate n lz)) := by
  unfold OwnC
  rw [heap_alloc_new, lcs_replicate]
/-- append of a loss. -/
theorem append_loss {w0 : World} {ops : Array Oper} {rest : List Oper} {o : Oper} {a : Act} {Q : Exit → Act → World → Prop} {B : Nat} {v : Value} {n : Nat} {xs : List LQ} {x1 x2 x3 x4 : Int}
    (hown : Has w0 B 32 4 v n (lcs xs)) (hn : n ≤ 67108864) (hB : B ≤ w0.heap.size)
    (s u : Operand) (hgd : o.guard = none)
    (ho : o.op = .call { callee := .builtin .append, args := #[s, u], argTypes := #[96, 96] })
    (hs : a.eval s = v) (hx : a.eval u = .slice (some ⟨w0.heap.size, 0, none⟩) 1 1)
    (h : ∀ v' w', Has w' B 32 4 v' (n + 1) (lcs (xs ++ [(x1, x2, x3, x4)])) → Below B w0 w' → wpList Tryz.prog ops Q rest (a.put o.dst v') w') : wpList Tryz.prog ops Q (o :: rest) a (w0.alloc (.cells #[.int .i64 x1, .int .i64 x2, .int .i64 x3, .int .i64 x4] 32)) :=
  append_one (cs := [.int .i64 x1, .int .i64 x2, .int .i64 x3, .int .i64 x4]) hown rfl info_loss rfl (by omega) s u 96 hgd ho Tryz.underlying96 hs hx (fun y hy => by simp at hy; rcases hy with rfl | rfl | rfl | rfl <;> rfl) hn (by omega) hB
    (fun v' w' h2 h3 => h v' w' (by rw [lcs_append]; simpa [lcs, lc4] using h2) h3)
/-- append of several elements to what the call has gathered. -/
theorem append_many {P : Program} {w0 : World} {ops : Array Oper} {rest : List Oper} {o : Oper} {a : Act} {Q : Exit → Act → World → Prop} {e size bytes : Nat} {z : Value} {B : Nat} {v : Value} {n m c : Nat} {p : Addr} {xs cs : List Value}
    (hown : Has w0 B e size v n xs) (hcs : cs.length = m * size)
    (hinfo : (P.info? e).map (fun i => (i.zero, i.size, i.bytes)) = some (some z, size, bytes)) (hz : z.cells.size = size) (hsz : 0 < size)
    (s x : Operand) (t : TypeId) (hgd : o.guard = none)
    (ho : o.op = .call { callee := .builtin .append, args := #[s, x], argTypes := #[t, t] }) (ht : P.underlying t = some (.slice e))
    (hs : a.eval s = v) (hx : a.eval x = .slice (some p) m c) (hr : ∀ j u, cs[j]? = some u → w0.cell? (p.add j) = some u) (h1 : ∀ u ∈ cs, u.oneCell' = true)
    (hn : n ≤ 1000) (hm : m ≤ 1000) (hb : bytes ≤ 1024) (hB : B ≤ w0.heap.size)
    (h : ∀ v' w', Has w' B e size v' (n + m) (xs ++ cs) → Below B w0 w' → wpList P ops Q rest (a.put o.dst v') w') : wpList P ops Q (o :: rest) a w0 := by
  obtain ⟨i, hi, hz0, hz1, hz2⟩ := info_parts hinfo
  have hbytes : (n + m) * bytes ≤ 140737488355328 := Nat.le_trans (Nat.mul_le_mul (show n + m ≤ 2000 by omega) hb) (by omega)
  exact wpList_append_own _ hgd s x t ho B e i z size bytes ht hi hz0 hz1 hz2 hz hsz v n xs hs hown p m c cs hx hcs hr h1 (by unfold maxLen; omega) hbytes hB (fun v' w' h2 h3 h4 => h v' w' h2 ((Below.refl B w0).grown h3 hB (fun k hk => (hown.lt k hk).1)))
theorem lcs_one (l : List LQ) : ∀ u ∈ lcs l, u.oneCell' = true := fun u hu => by
  unfold lcs at hu
  obtain ⟨x, _, hx⟩ := List.mem_flatMap.1 hu
  unfold lc4 at hx
  simp at hx
  rcases hx with rfl | rfl | rfl | rfl <;> rfl
/-- append of losses. -/
theorem append_losses {w0 : World} {ops : Array Oper} {rest : List Oper} {o : Oper} {a : Act} {Q : Exit → Act → World → Prop} {B lo hi m c b off : Nat} {v : Value} {n : Nat} {xs ms : List LQ}
    (hown : Has w0 B 32 4 v n (lcs xs)) (h : Los w0 lo hi (some ⟨b, off, none⟩) m ms) (hn : n ≤ 1000) (hm : m ≤ 1000) (h0 : 0 < m) (hB : B ≤ w0.heap.size)
    (s u : Operand) (hgd : o.guard = none)
    (ho : o.op = .call { callee := .builtin .append, args := #[s, u], argTypes := #[96, 96] })
    (hs : a.eval s = v) (hx : a.eval u = .slice (some ⟨b, off, none⟩) m c)
    (k : ∀ v' w', Has w' B 32 4 v' (n + m) (lcs (xs ++ ms)) → Below B w0 w' → wpList Tryz.prog ops Q rest (a.put o.dst v') w') : wpList Tryz.prog ops Q (o :: rest) a w0 := by
  refine append_many hown (show (lcs ms).length = m * 4 by rw [lcs_len, Los.len h]) info_loss rfl (by omega) s u 96 hgd ho Tryz.underlying96 hs hx (fun j u hu => ?_) (lcs_one ms) hn hm (by omega) hB (fun v' w' h2 h3 => k v' w' (by rw [lcs_append]; exact h2) h3)
  obtain ⟨b', off', e, _, _, hc⟩ := h.2.2.2 h0
  injection e with e
  injection e with e1 e2
  subst e1 e2
  have hj : j < m * 4 := by
    rcases Nat.lt_or_ge j (m * 4) with hj | hj
    · exact hj
    · rw [List.getElem?_eq_none (by rw [lcs_len, Los.len h]; exact hj)] at hu; cases hu
  rw [Addr.add_lit, hc j hj]
  simp only [List.getD, hu, Option.getD_some]
theorem hown_los {w : World} {g n : Nat} {t : TypeId} {l : List LQ} (h : OwnC w g t (lcs l)) (hl : l.length = n) (hn : n ≤ 67108864) (hg : g < w.heap.size) : Los w 0 w.heap.size (some ⟨g, 0, none⟩) n l :=
  (h.slm (by rw [lcs_len, hl]) hn (Nat.zero_le _) hg (Nat.le_refl _)).1
set_option maxRecDepth 100000 in
set_option maxHeartbeats 6400000 in
theorem historyLoss_any {R : Option Addr} {lo hi n c : Nat} {un : Bool} {rs : List RL} {w : World} (hr : Rels true un w lo hi R n rs) :
    Calls Tryz.prog 58 #[.slice R n c] w fun e w' => e = .returned (lossV (comQ (rlLs rs))) ∧ Keeps w w' := by
  have hn := hr.le
  have HL := hid (show (rlLs rs).length = n by rw [rlLs_len, hr.len])
  have hmk := make_losses n hn
  go_enter Tryz.func58, Tryz.ntmps58
  have kw := keeps_refl w
  replace kw := Keeps.trans kw (keeps_alloc w (.cells #[.int .i64 0, .int .i64 0, .int .i64 0, .int .i64 0] 32))
  have b2 : Bl (w.alloc (.cells #[.int .i64 0, .int .i64 0, .int .i64 0, .int .i64 0] 32)) w.heap.size [.int .i64 0, .int .i64 0, .int .i64 0, .int .i64 0] := Bl.new' (by simp) (by simp)
  go_wp2_with fail
  replace b2 := b2.keeps (keeps_alloc (w.alloc (.cells #[.int .i64 0, .int .i64 0, .int .i64 0, .int .i64 0] 32)) (.cells (madeCells #[.int .i64 0, .int .i64 0, .int .i64 0, .int .i64 0] (n * 4)) 32))
  replace kw := Keeps.trans kw (keeps_alloc (w.alloc (.cells #[.int .i64 0, .int .i64 0, .int .i64 0, .int .i64 0] 32)) (.cells (madeCells #[.int .i64 0, .int .i64 0, .int .i64 0, .int .i64 0] (n * 4)) 32))
  clear hmk
  have own : OwnC ((w.alloc (.cells #[.int .i64 0, .int .i64 0, .int .i64 0, .int .i64 0] 32)).alloc (.cells (madeCells #[.int .i64 0, .int .i64 0, .int .i64 0, .int .i64 0] (n * 4)) 32)) (w.heap.size + 1) 32 (lcs (padD lz (rlLs rs) 0)) := by
    rw [padD_zero, HL.out]
    have q := OwnC.newL (w.alloc (.cells #[.int .i64 0, .int .i64 0, .int .i64 0, .int .i64 0] 32)) n
    rwa [show (w.alloc (.cells #[.int .i64 0, .int .i64 0, .int .i64 0, .int .i64 0] 32)).heap.size = w.heap.size + 1 by simp] at q
  go_loopw [12] (fun i wr => ∃ k : Nat, k ≤ n ∧ i = .int .i64 k ∧ OwnC wr (w.heap.size + 1) 32 (lcs (padD lz (rlLs rs) k)) ∧ Bl wr w.heap.size [.int .i64 0, .int .i64 0, .int .i64 0, .int .i64 0] ∧ Keeps w wr) (fun i _ => n - (intOf i).toNat)
  case atStart => exact ⟨0, Nat.zero_le _, rfl, own, b2, kw⟩
  clear own b2 kw
  case round =>
    obtain ⟨k, hk, rfl, own, b2, kw⟩ := hrel
    have hgs := own.lt
    by_cases hlt : k < n
    · obtain ⟨b, off, v, P, np, cp, x1, x2, x3, x4, pl, rfl, _, _, hc0, hc1, hc2, hc3, hc4, hc5, hpl, hx⟩ := (hr.keeps kw).at_ hlt
      have hi1 : (k : Int) < (n : Int) := by omega
      have HX := hid (padD_succ lz (rlLs rs) k (by rw [HL.out]; exact hlt))
      rw [rlLs_at, ← hx.out] at HX
      replace HX := hid (show (padD lz (rlLs rs) k).set k (x1, x2, x3, x4) = _ from HX.out)
      clear hx hpl
      have hll : (lcs (padD lz (rlLs rs) k)).length = n * 4 := by rw [lcs_len, padD_len _ _ _ (by rw [HL.out]; omega), HL.out]
      replace b2 := b2.keeps (keeps_alloc wr (.cells #[.int .i64 v, .slice P np cp, .int .i64 x1, .int .i64 x2, .int .i64 x3, .int .i64 x4] 87))
      replace own := own.keeps (keeps_alloc wr (.cells #[.int .i64 v, .slice P np cp, .int .i64 x1, .int .i64 x2, .int .i64 x3, .int .i64 x4] 87))
      replace kw := Keeps.trans kw (keeps_alloc wr (.cells #[.int .i64 v, .slice P np cp, .int .i64 x1, .int .i64 x2, .int .i64 x3, .int .i64 x4] 87))
      have b6 : Bl (wr.alloc (.cells #[.int .i64 v, .slice P np cp, .int .i64 x1, .int .i64 x2, .int .i64 x3, .int .i64 x4] 87)) wr.heap.size [.int .i64 v, .slice P np cp, .int .i64 x1, .int .i64 x2, .int .i64 x3, .int .i64 x4] := Bl.new' (by simp) (by simp)
      have ca1_0 : (wr.alloc (.cells #[.int .i64 v, .slice P np cp, .int .i64 x1, .int .i64 x2, .int .i64 x3, .int .i64 x4] 87)).cell? ⟨wr.heap.size, 0, none⟩ = some (.int .i64 v) := (b6.2 0 _ rfl).1
      have fa1_0 : (wr.alloc (.cells #[.int .i64 v, .slice P np cp, .int .i64 x1, .int .i64 x2, .int .i64 x3, .int .i64 x4] 87)).frozen? ⟨wr.heap.size, 0, none⟩ = false := (b6.2 0 _ rfl).2
      have ca1_1 : (wr.alloc (.cells #[.int .i64 v, .slice P np cp, .int .i64 x1, .int .i64 x2, .int .i64 x3, .int .i64 x4] 87)).cell? ⟨wr.heap.size, 1, none⟩ = some (.slice P np cp) := (b6.2 1 _ rfl).1
      have fa1_1 : (wr.alloc (.cells #[.int .i64 v, .slice P np cp, .int .i64 x1, .int .i64 x2, .int .i64 x3, .int .i64 x4] 87)).frozen? ⟨wr.heap.size, 1, none⟩ = false := (b6.2 1 _ rfl).2
      have ca1_2 : (wr.alloc (.cells #[.int .i64 v, .slice P np cp, .int .i64 x1, .int .i64 x2, .int .i64 x3, .int .i64 x4] 87)).cell? ⟨wr.heap.size, 2, none⟩ = some (.int .i64 x1) := (b6.2 2 _ rfl).1
      have fa1_2 : (wr.alloc (.cells #[.int .i64 v, .slice P np cp, .int .i64 x1, .int .i64 x2, .int .i64 x3, .int .i64 x4] 87)).frozen? ⟨wr.heap.size, 2, none⟩ = false := (b6.2 2 _ rfl).2
      have ca1_3 : (wr.alloc (.cells #[.int .i64 v, .slice P np cp, .int .i64 x1, .int .i64 x2, .int .i64 x3, .int .i64 x4] 87)).cell? ⟨wr.heap.size, 3, none⟩ = some (.int .i64 x2) := (b6.2 3 _ rfl).1
      have fa1_3 : (wr.alloc (.cells #[.int .i64 v, .slice P np cp, .int .i64 x1, .int .i64 x2, .int .i64 x3, .int .i64 x4] 87)).frozen? ⟨wr.heap.size, 3, none⟩ = false := (b6.2 3 _ rfl).2
      have ca1_4 : (wr.alloc (.cells #[.int .i64 v, .slice P np cp, .int .i64 x1, .int .i64 x2, .int .i64 x3, .int .i64 x4] 87)).cell? ⟨wr.heap.size, 4, none⟩ = some (.int .i64 x3) := (b6.2 4 _ rfl).1
      have fa1_4 : (wr.alloc (.cells #[.int .i64 v, .slice P np cp, .int .i64 x1, .int .i64 x2, .int .i64 x3, .int .i64 x4] 87)).frozen? ⟨wr.heap.size, 4, none⟩ = false := (b6.2 4 _ rfl).2
      have ca1_5 : (wr.alloc (.cells #[.int .i64 v, .slice P np cp, .int .i64 x1, .int .i64 x2, .int .i64 x3, .int .i64 x4] 87)).cell? ⟨wr.heap.size, 5, none⟩ = some (.int .i64 x4) := (b6.2 5 _ rfl).1
      have fa1_5 : (wr.alloc (.cells #[.int .i64 v, .slice P np cp, .int .i64 x1, .int .i64 x2, .int .i64 x3, .int .i64 x4] 87)).frozen? ⟨wr.heap.size, 5, none⟩ = false := (b6.2 5 _ rfl).2
      have d0 := own.cell (k * 4) (by omega)
      have f0 := own.frozen (k * 4)
      have d1 := own.cell (k * 4 + 1) (by omega)
      have f1 := own.frozen (k * 4 + 1)
      have d2 := own.cell (k * 4 + 2) (by omega)
      have f2 := own.frozen (k * 4 + 2)
      have d3 := own.cell (k * 4 + 3) (by omega)
      have f3 := own.frozen (k * 4 + 3)
      have O1 := (OwnC.set_ (OwnC.set_ (OwnC.set_ (OwnC.set_ own (k * 4) (.int .i64 x1)) (k * 4 + 1) (.int .i64 x2)) (k * 4 + 2) (.int .i64 x3)) (k * 4 + 3) (.int .i64 x4))
      rw [lcs_set, HX.out] at O1
      replace O1 := hid O1
      have H2 := hid (Below.setCell (Below.setCell (Below.setCell (Below.setCell kw (p := ⟨(w.heap.size + 1), k * 4, none⟩) (Nat.le_succ _) (.int .i64 x1)) (p := ⟨(w.heap.size + 1), k * 4 + 1, none⟩) (Nat.le_succ _) (.int .i64 x2)) (p := ⟨(w.heap.size + 1), k * 4 + 2, none⟩) (Nat.le_succ _) (.int .i64 x3)) (p := ⟨(w.heap.size + 1), k * 4 + 3, none⟩) (Nat.le_succ _) (.int .i64 x4))
      have X2 := hid (Bl.far (Bl.far (Bl.far (Bl.far b2 (p := ⟨(w.heap.size + 1), k * 4, none⟩) (by show _ ≠ (w.heap.size + 1); omega) (.int .i64 x1)) (p := ⟨(w.heap.size + 1), k * 4 + 1, none⟩) (by show _ ≠ (w.heap.size + 1); omega) (.int .i64 x2)) (p := ⟨(w.heap.size + 1), k * 4 + 2, none⟩) (by show _ ≠ (w.heap.size + 1); omega) (.int .i64 x3)) (p := ⟨(w.heap.size + 1), k * 4 + 3, none⟩) (by show _ ≠ (w.heap.size + 1); omega) (.int .i64 x4))
      have l6 := b6.lt
      clear own b2 kw b6 hgs l6
      go_wp2_with fail
      go_roundw
      case rel => exact ⟨k + 1, by omega, by go_num, O1.out, X2.out, H2.out⟩
      case measure => simp [intOf]; omega
    · obtain rfl : k = n := by omega
      rw [show padD lz (rlLs rs) k = rlLs rs by rw [← HL.out]; exact padD_all _ _] at own
      have hsl := hown_los own HL.out hn hgs
      clear own hgs
      obtain ⟨r1, r2, r3, r4, p, HR⟩ : ∃ r1 r2 r3 r4 p, Hid (comQ (rlLs rs) = ((r1, r2, r3, r4), p)) := ⟨_, _, _, _, _, rfl⟩
      have lt2 := b2.lt
      go_wp2_with fail
      refine (implCompose_any hsl).mono ?_
      rintro e w1 ⟨rfl, k1⟩
      rw [HR.out]
      replace b2 := b2.keeps k1
      replace kw := Keeps.trans kw k1
      have lt2 := b2.lt
      have sz3 := kw.size
      clear k1
      clear hsl
      have ca4_0 : w1.cell? ⟨w.heap.size, 0, none⟩ = some (.int .i64 0) := (b2.2 0 _ rfl).1
      have fa4_0 : w1.frozen? ⟨w.heap.size, 0, none⟩ = false := (b2.2 0 _ rfl).2
      have ca4_1 : w1.cell? ⟨w.heap.size, 1, none⟩ = some (.int .i64 0) := (b2.2 1 _ rfl).1
      have fa4_1 : w1.frozen? ⟨w.heap.size, 1, none⟩ = false := (b2.2 1 _ rfl).2
      have ca4_2 : w1.cell? ⟨w.heap.size, 2, none⟩ = some (.int .i64 0) := (b2.2 2 _ rfl).1
      have fa4_2 : w1.frozen? ⟨w.heap.size, 2, none⟩ = false := (b2.2 2 _ rfl).2
      have ca4_3 : w1.cell? ⟨w.heap.size, 3, none⟩ = some (.int .i64 0) := (b2.2 3 _ rfl).1
      have fa4_3 : w1.frozen? ⟨w.heap.size, 3, none⟩ = false := (b2.2 3 _ rfl).2
      replace kw := Below.setCell kw (p := ⟨w.heap.size, 0, none⟩) (by show _ ≤ w.heap.size; omega) (.int .i64 r1)
      replace b2 : Bl (w1.setCell ⟨w.heap.size, 0, none⟩ (.int .i64 r1)) w.heap.size [.int .i64 r1, .int .i64 0, .int .i64 0, .int .i64 0] := b2.set 0 (.int .i64 r1)
      replace kw := Below.setCell kw (p := ⟨w.heap.size, 1, none⟩) (by show _ ≤ w.heap.size; omega) (.int .i64 r2)
      replace b2 : Bl ((w1.setCell ⟨w.heap.size, 0, none⟩ (.int .i64 r1)).setCell ⟨w.heap.size, 1, none⟩ (.int .i64 r2)) w.heap.size [.int .i64 r1, .int .i64 r2, .int .i64 0, .int .i64 0] := b2.set 1 (.int .i64 r2)
      replace kw := Below.setCell kw (p := ⟨w.heap.size, 2, none⟩) (by show _ ≤ w.heap.size; omega) (.int .i64 r3)
      replace b2 : Bl (((w1.setCell ⟨w.heap.size, 0, none⟩ (.int .i64 r1)).setCell ⟨w.heap.size, 1, none⟩ (.int .i64 r2)).setCell ⟨w.heap.size, 2, none⟩ (.int .i64 r3)) w.heap.size [.int .i64 r1, .int .i64 r2, .int .i64 r3, .int .i64 0] := b2.set 2 (.int .i64 r3)
      replace kw := Below.setCell kw (p := ⟨w.heap.size, 3, none⟩) (by show _ ≤ w.heap.size; omega) (.int .i64 r4)
      replace b2 : Bl ((((w1.setCell ⟨w.heap.size, 0, none⟩ (.int .i64 r1)).setCell ⟨w.heap.size, 1, none⟩ (.int .i64 r2)).setCell ⟨w.heap.size, 2, none⟩ (.int .i64 r3)).setCell ⟨w.heap.size, 3, none⟩ (.int .i64 r4)) w.heap.size [.int .i64 r1, .int .i64 r2, .int .i64 r3, .int .i64 r4] := b2.set 3 (.int .i64 r4)
      have HK := hid kw
      clear kw
      go_wp2_with fail
      clear ca4_0 fa4_0 ca4_1 fa4_1 ca4_2 fa4_2 ca4_3 fa4_3
      have ca0_0 : ((((w1.setCell ⟨w.heap.size, 0, none⟩ (.int .i64 r1)).setCell ⟨w.heap.size, 1, none⟩ (.int .i64 r2)).setCell ⟨w.heap.size, 2, none⟩ (.int .i64 r3)).setCell ⟨w.heap.size, 3, none⟩ (.int .i64 r4)).cell? ⟨w.heap.size, 0, none⟩ = some (.int .i64 r1) := (b2.2 0 _ rfl).1
      have ca0_1 : ((((w1.setCell ⟨w.heap.size, 0, none⟩ (.int .i64 r1)).setCell ⟨w.heap.size, 1, none⟩ (.int .i64 r2)).setCell ⟨w.heap.size, 2, none⟩ (.int .i64 r3)).setCell ⟨w.heap.size, 3, none⟩ (.int .i64 r4)).cell? ⟨w.heap.size, 1, none⟩ = some (.int .i64 r2) := (b2.2 1 _ rfl).1
      have ca0_2 : ((((w1.setCell ⟨w.heap.size, 0, none⟩ (.int .i64 r1)).setCell ⟨w.heap.size, 1, none⟩ (.int .i64 r2)).setCell ⟨w.heap.size, 2, none⟩ (.int .i64 r3)).setCell ⟨w.heap.size, 3, none⟩ (.int .i64 r4)).cell? ⟨w.heap.size, 2, none⟩ = some (.int .i64 r3) := (b2.2 2 _ rfl).1
      have ca0_3 : ((((w1.setCell ⟨w.heap.size, 0, none⟩ (.int .i64 r1)).setCell ⟨w.heap.size, 1, none⟩ (.int .i64 r2)).setCell ⟨w.heap.size, 2, none⟩ (.int .i64 r3)).setCell ⟨w.heap.size, 3, none⟩ (.int .i64 r4)).cell? ⟨w.heap.size, 3, none⟩ = some (.int .i64 r4) := (b2.2 3 _ rfl).1
      try simp only [Exit.inBlock, Exit.then]
      exact bodyPost_ret (v := .tuple #[.agg #[.int .i64 r1, .int .i64 r2, .int .i64 r3, .int .i64 r4], .bool p]) (by simp [results, Tryz.results58, go_sem, ca0_0, ca0_1, ca0_2, ca0_3]) rfl ⟨ls_ret HR.out, HK.out⟩
/-- A slice of losses, or nil. -/
def More (w : World) (M : Option Addr) (m c : Nat) (ms : List LQ) : Prop := (M = none ∧ m = 0 ∧ c = 0 ∧ ms = []) ∨ (0 < m ∧ m ≤ 1000 ∧ ∃ lo hi b off, M = some ⟨b, off, none⟩ ∧ Los w lo hi M m ms)
theorem More.keeps {w w' : World} {M : Option Addr} {m c : Nat} {ms : List LQ} (h : More w M m c ms) (k : Keeps w w') : More w' M m c ms := by
  rcases h with h | ⟨h0, h1, lo, hi, b, off, e, h2⟩
  · exact .inl h
  · exact .inr ⟨h0, h1, lo, hi, b, off, e, Sl.keeps h2 k⟩
set_option maxRecDepth 100000 in
set_option maxHeartbeats 6400000 in
theorem rlSpent_any {R M : Option Addr} {lo hi n c m cm : Nat} {un : Bool} {rs : List RL} {ms : List LQ} {w : World} (hr : Rels true un w lo hi R n rs) (hm : More w M m cm ms) (hn : n ≤ 1000) :
    Calls Tryz.prog 104 #[.slice R n c, .slice M m cm] w fun e w' => e = .returned (lossV (comQ (rlLs rs ++ ms))) ∧ Keeps w w' := by
  have HL := hid (show (rlLs rs).length = n by rw [rlLs_len, hr.len])
  go_enter Tryz.func104, Tryz.ntmps104
  have kw := keeps_refl w
  replace kw := Keeps.trans kw (keeps_alloc w (.cells #[.int .i64 0, .int .i64 0, .int .i64 0, .int .i64 0] 32))
  have b4 : Bl (w.alloc (.cells #[.int .i64 0, .int .i64 0, .int .i64 0, .int .i64 0] 32)) w.heap.size [.int .i64 0, .int .i64 0, .int .i64 0, .int .i64 0] := Bl.new' (by simp) (by simp)
  go_wp2_with fail
  go_loopw [6, 11] (fun v i wr => ∃ k : Nat, k ≤ n ∧ i = .int .i64 k ∧ Has wr (w.heap.size + 1) 32 4 v k (lcs ((rlLs rs).take k)) ∧ Bl wr w.heap.size [.int .i64 0, .int .i64 0, .int .i64 0, .int .i64 0] ∧ Keeps w wr) (fun _ i _ => n - (intOf i).toNat)
  case atStart => exact ⟨0, Nat.zero_le _, rfl, World.ownsRow_nil _ _ _ _, b4, kw⟩
  clear b4 kw
  case round =>
    obtain ⟨k, hk, rfl, hown, b4, kw⟩ := hrel
    by_cases hlt : k < n
    · obtain ⟨b, off, v, P, np, cp, x1, x2, x3, x4, pl, rfl, _, _, hc0, hc1, hc2, hc3, hc4, hc5, hpl, hx⟩ := (hr.keeps kw).at_ hlt
      have hi1 : (k : Int) < (n : Int) := by omega
      have HT := hid (show (rlLs rs).take (k + 1) = (rlLs rs).take k ++ [(x1, x2, x3, x4)] by
        rw [take_snoc (rlLs rs) k lz (by rw [HL.out]; exact hlt), rlLs_at, ← hx.out]; rfl)
      clear hx hpl
      have lt4 := b4.lt
      replace hown := hown.below (keeps_alloc wr (.cells #[.int .i64 v, .slice P np cp, .int .i64 x1, .int .i64 x2, .int .i64 x3, .int .i64 x4] 87))
      replace b4 := b4.keeps (keeps_alloc wr (.cells #[.int .i64 v, .slice P np cp, .int .i64 x1, .int .i64 x2, .int .i64 x3, .int .i64 x4] 87))
      replace kw := Keeps.trans kw (keeps_alloc wr (.cells #[.int .i64 v, .slice P np cp, .int .i64 x1, .int .i64 x2, .int .i64 x3, .int .i64 x4] 87))
      have b8 : Bl (wr.alloc (.cells #[.int .i64 v, .slice P np cp, .int .i64 x1, .int .i64 x2, .int .i64 x3, .int .i64 x4] 87)) wr.heap.size [.int .i64 v, .slice P np cp, .int .i64 x1, .int .i64 x2, .int .i64 x3, .int .i64 x4] := Bl.new' (by simp) (by simp)
      have ca1_0 : (wr.alloc (.cells #[.int .i64 v, .slice P np cp, .int .i64 x1, .int .i64 x2, .int .i64 x3, .int .i64 x4] 87)).cell? ⟨wr.heap.size, 0, none⟩ = some (.int .i64 v) := (b8.2 0 _ rfl).1
      have fa1_0 : (wr.alloc (.cells #[.int .i64 v, .slice P np cp, .int .i64 x1, .int .i64 x2, .int .i64 x3, .int .i64 x4] 87)).frozen? ⟨wr.heap.size, 0, none⟩ = false := (b8.2 0 _ rfl).2
      have ca1_1 : (wr.alloc (.cells #[.int .i64 v, .slice P np cp, .int .i64 x1, .int .i64 x2, .int .i64 x3, .int .i64 x4] 87)).cell? ⟨wr.heap.size, 1, none⟩ = some (.slice P np cp) := (b8.2 1 _ rfl).1
      have fa1_1 : (wr.alloc (.cells #[.int .i64 v, .slice P np cp, .int .i64 x1, .int .i64 x2, .int .i64 x3, .int .i64 x4] 87)).frozen? ⟨wr.heap.size, 1, none⟩ = false := (b8.2 1 _ rfl).2
      have ca1_2 : (wr.alloc (.cells #[.int .i64 v, .slice P np cp, .int .i64 x1, .int .i64 x2, .int .i64 x3, .int .i64 x4] 87)).cell? ⟨wr.heap.size, 2, none⟩ = some (.int .i64 x1) := (b8.2 2 _ rfl).1
      have fa1_2 : (wr.alloc (.cells #[.int .i64 v, .slice P np cp, .int .i64 x1, .int .i64 x2, .int .i64 x3, .int .i64 x4] 87)).frozen? ⟨wr.heap.size, 2, none⟩ = false := (b8.2 2 _ rfl).2
      have ca1_3 : (wr.alloc (.cells #[.int .i64 v, .slice P np cp, .int .i64 x1, .int .i64 x2, .int .i64 x3, .int .i64 x4] 87)).cell? ⟨wr.heap.size, 3, none⟩ = some (.int .i64 x2) := (b8.2 3 _ rfl).1
      have fa1_3 : (wr.alloc (.cells #[.int .i64 v, .slice P np cp, .int .i64 x1, .int .i64 x2, .int .i64 x3, .int .i64 x4] 87)).frozen? ⟨wr.heap.size, 3, none⟩ = false := (b8.2 3 _ rfl).2
      have ca1_4 : (wr.alloc (.cells #[.int .i64 v, .slice P np cp, .int .i64 x1, .int .i64 x2, .int .i64 x3, .int .i64 x4] 87)).cell? ⟨wr.heap.size, 4, none⟩ = some (.int .i64 x3) := (b8.2 4 _ rfl).1
      have fa1_4 : (wr.alloc (.cells #[.int .i64 v, .slice P np cp, .int .i64 x1, .int .i64 x2, .int .i64 x3, .int .i64 x4] 87)).frozen? ⟨wr.heap.size, 4, none⟩ = false := (b8.2 4 _ rfl).2
      have ca1_5 : (wr.alloc (.cells #[.int .i64 v, .slice P np cp, .int .i64 x1, .int .i64 x2, .int .i64 x3, .int .i64 x4] 87)).cell? ⟨wr.heap.size, 5, none⟩ = some (.int .i64 x4) := (b8.2 5 _ rfl).1
      have fa1_5 : (wr.alloc (.cells #[.int .i64 v, .slice P np cp, .int .i64 x1, .int .i64 x2, .int .i64 x3, .int .i64 x4] 87)).frozen? ⟨wr.heap.size, 5, none⟩ = false := (b8.2 5 _ rfl).2
      go_wp2_with (at_builtin; refine append_loss (xs := (rlLs rs).take k) hown (by omega) (by simp; omega) _ _ rfl rfl rfl (by first | rfl | (simp <;> rfl)) ?_; intro v' w' hown' hb')
      rw [← HT.out] at hown'
      have H1 := hid hown'
      have sz' := hb'.size
      simp at sz'
      have X4 := hid (b4.fr (l := w.heap.size + 1) (h' := w'.heap.size + w.heap.size + 1) ⟨hb'.os, hb'.tape, hb'.output, hb'.size, fun j h1 h2 => hb'.block j (by simp at h1; omega)⟩ (by omega))
      have H2 := hid (Below.trans kw (hb'.mono (by omega)))
      clear hown' hb' kw hown hc0 hc1 hc2 hc3 hc4 hc5 b4 b8
      go_wp2
      go_roundw
      case rel => exact ⟨k + 1, by omega, by go_num, H1.out, X4.out, H2.out⟩
      case measure => simp [intOf]; omega
    · obtain rfl : k = n := by omega
      rw [List.take_of_length_le (by rw [HL.out]; exact Nat.le_refl _)] at hown
      obtain ⟨r1, r2, r3, r4, p, HR⟩ : ∃ r1 r2 r3 r4 p, Hid (comQ (rlLs rs ++ ms) = ((r1, r2, r3, r4), p)) := ⟨_, _, _, _, _, rfl⟩
      obtain ⟨A1, C1, rfl⟩ := hown.form
      have lt4 := b4.lt
      rcases hm with ⟨rfl, rfl, rfl, rfl⟩ | ⟨h0, h1000, lo2, hi2, b2, off2, rfl, hlo⟩
      · rw [List.append_nil] at HR
        have hsl : Los wr (w.heap.size + 1) wr.heap.size A1 k (rlLs rs) := (SlM.of_own hown (by omega) (by omega)).1
        go_wp2_with (at_builtin; refine wpList_append_own_none rfl _ _ 96 rfl (w.heap.size + 1) 32 _ 4 Tryz.underlying96 (info_parts info_loss).choose_spec.1 (.slice A1 k C1) k _ rfl hown rfl ?_)
        clear hown
        refine (specCompose_any hsl).mono ?_
        rintro e w1 ⟨rfl, k1⟩
        rw [HR.out]
        replace b4 := b4.keeps k1
        replace kw := Keeps.trans kw k1
        have lt2 := b4.lt
        have sz3 := kw.size
        clear k1
        clear hsl
        have ca4_0 : w1.cell? ⟨w.heap.size, 0, none⟩ = some (.int .i64 0) := (b4.2 0 _ rfl).1
        have fa4_0 : w1.frozen? ⟨w.heap.size, 0, none⟩ = false := (b4.2 0 _ rfl).2
        have ca4_1 : w1.cell? ⟨w.heap.size, 1, none⟩ = some (.int .i64 0) := (b4.2 1 _ rfl).1
        have fa4_1 : w1.frozen? ⟨w.heap.size, 1, none⟩ = false := (b4.2 1 _ rfl).2
        have ca4_2 : w1.cell? ⟨w.heap.size, 2, none⟩ = some (.int .i64 0) := (b4.2 2 _ rfl).1
        have fa4_2 : w1.frozen? ⟨w.heap.size, 2, none⟩ = false := (b4.2 2 _ rfl).2
        have ca4_3 : w1.cell? ⟨w.heap.size, 3, none⟩ = some (.int .i64 0) := (b4.2 3 _ rfl).1
        have fa4_3 : w1.frozen? ⟨w.heap.size, 3, none⟩ = false := (b4.2 3 _ rfl).2
        replace kw := Below.setCell kw (p := ⟨w.heap.size, 0, none⟩) (by show _ ≤ w.heap.size; omega) (.int .i64 r1)
        replace b4 : Bl (w1.setCell ⟨w.heap.size, 0, none⟩ (.int .i64 r1)) w.heap.size [.int .i64 r1, .int .i64 0, .int .i64 0, .int .i64 0] := b4.set 0 (.int .i64 r1)
        replace kw := Below.setCell kw (p := ⟨w.heap.size, 1, none⟩) (by show _ ≤ w.heap.size; omega) (.int .i64 r2)
        replace b4 : Bl ((w1.setCell ⟨w.heap.size, 0, none⟩ (.int .i64 r1)).setCell ⟨w.heap.size, 1, none⟩ (.int .i64 r2)) w.heap.size [.int .i64 r1, .int .i64 r2, .int .i64 0, .int .i64 0] := b4.set 1 (.int .i64 r2)
        replace kw := Below.setCell kw (p := ⟨w.heap.size, 2, none⟩) (by show _ ≤ w.heap.size; omega) (.int .i64 r3)
        replace b4 : Bl (((w1.setCell ⟨w.heap.size, 0, none⟩ (.int .i64 r1)).setCell ⟨w.heap.size, 1, none⟩ (.int .i64 r2)).setCell ⟨w.heap.size, 2, none⟩ (.int .i64 r3)) w.heap.size [.int .i64 r1, .int .i64 r2, .int .i64 r3, .int .i64 0] := b4.set 2 (.int .i64 r3)
        replace kw := Below.setCell kw (p := ⟨w.heap.size, 3, none⟩) (by show _ ≤ w.heap.size; omega) (.int .i64 r4)
        replace b4 : Bl ((((w1.setCell ⟨w.heap.size, 0, none⟩ (.int .i64 r1)).setCell ⟨w.heap.size, 1, none⟩ (.int .i64 r2)).setCell ⟨w.heap.size, 2, none⟩ (.int .i64 r3)).setCell ⟨w.heap.size, 3, none⟩ (.int .i64 r4)) w.heap.size [.int .i64 r1, .int .i64 r2, .int .i64 r3, .int .i64 r4] := b4.set 3 (.int .i64 r4)
        have HK := hid kw
        clear kw
        go_wp2_with fail
        clear ca4_0 fa4_0 ca4_1 fa4_1 ca4_2 fa4_2 ca4_3 fa4_3
        have ca0_0 : ((((w1.setCell ⟨w.heap.size, 0, none⟩ (.int .i64 r1)).setCell ⟨w.heap.size, 1, none⟩ (.int .i64 r2)).setCell ⟨w.heap.size, 2, none⟩ (.int .i64 r3)).setCell ⟨w.heap.size, 3, none⟩ (.int .i64 r4)).cell? ⟨w.heap.size, 0, none⟩ = some (.int .i64 r1) := (b4.2 0 _ rfl).1
        have ca0_1 : ((((w1.setCell ⟨w.heap.size, 0, none⟩ (.int .i64 r1)).setCell ⟨w.heap.size, 1, none⟩ (.int .i64 r2)).setCell ⟨w.heap.size, 2, none⟩ (.int .i64 r3)).setCell ⟨w.heap.size, 3, none⟩ (.int .i64 r4)).cell? ⟨w.heap.size, 1, none⟩ = some (.int .i64 r2) := (b4.2 1 _ rfl).1
        have ca0_2 : ((((w1.setCell ⟨w.heap.size, 0, none⟩ (.int .i64 r1)).setCell ⟨w.heap.size, 1, none⟩ (.int .i64 r2)).setCell ⟨w.heap.size, 2, none⟩ (.int .i64 r3)).setCell ⟨w.heap.size, 3, none⟩ (.int .i64 r4)).cell? ⟨w.heap.size, 2, none⟩ = some (.int .i64 r3) := (b4.2 2 _ rfl).1
        have ca0_3 : ((((w1.setCell ⟨w.heap.size, 0, none⟩ (.int .i64 r1)).setCell ⟨w.heap.size, 1, none⟩ (.int .i64 r2)).setCell ⟨w.heap.size, 2, none⟩ (.int .i64 r3)).setCell ⟨w.heap.size, 3, none⟩ (.int .i64 r4)).cell? ⟨w.heap.size, 3, none⟩ = some (.int .i64 r4) := (b4.2 3 _ rfl).1
        try simp only [Exit.inBlock, Exit.then]
        exact bodyPost_ret (v := .tuple #[.agg #[.int .i64 r1, .int .i64 r2, .int .i64 r3, .int .i64 r4], .bool p]) (by simp [results, Tryz.results104, go_sem, ca0_0, ca0_1, ca0_2, ca0_3]) rfl ⟨(by rw [List.append_nil]; exact ls_ret HR.out), HK.out⟩
      · have hlo2 := Sl.keeps hlo kw
        go_wp2_with (at_builtin; refine append_losses (xs := rlLs rs) (ms := ms) hown hlo2 (by omega) (by omega) h0 (by omega) _ _ rfl rfl rfl rfl ?_; intro v' w' hown' hb'; have fm := hown'.form; obtain ⟨A2, C2, e2⟩ := fm; subst e2)
        have sz' := hb'.size
        replace b4 := b4.fr (l := w.heap.size + 1) (h' := w'.heap.size + w.heap.size + 1) ⟨hb'.os, hb'.tape, hb'.output, hb'.size, fun j h1 h2 => hb'.block j (by omega)⟩ (by omega)
        replace kw : Keeps w w' := Below.trans kw (hb'.mono (by omega))
        have hsl : Los w' (w.heap.size + 1) w'.heap.size A2 (k + m) (rlLs rs ++ ms) := (SlM.of_own hown' (by omega) (by omega)).1
        clear hown hown' hb' hlo2 lt4
        refine (specCompose_any hsl).mono ?_
        rintro e w1 ⟨rfl, k1⟩
        rw [HR.out]
        replace b4 := b4.keeps k1
        replace kw := Keeps.trans kw k1
        have lt2 := b4.lt
        have sz3 := kw.size
        clear k1
        clear hsl
        have ca4_0 : w1.cell? ⟨w.heap.size, 0, none⟩ = some (.int .i64 0) := (b4.2 0 _ rfl).1
        have fa4_0 : w1.frozen? ⟨w.heap.size, 0, none⟩ = false := (b4.2 0 _ rfl).2
        have ca4_1 : w1.cell? ⟨w.heap.size, 1, none⟩ = some (.int .i64 0) := (b4.2 1 _ rfl).1
        have fa4_1 : w1.frozen? ⟨w.heap.size, 1, none⟩ = false := (b4.2 1 _ rfl).2
        have ca4_2 : w1.cell? ⟨w.heap.size, 2, none⟩ = some (.int .i64 0) := (b4.2 2 _ rfl).1
        have fa4_2 : w1.frozen? ⟨w.heap.size, 2, none⟩ = false := (b4.2 2 _ rfl).2
        have ca4_3 : w1.cell? ⟨w.heap.size, 3, none⟩ = some (.int .i64 0) := (b4.2 3 _ rfl).1
        have fa4_3 : w1.frozen? ⟨w.heap.size, 3, none⟩ = false := (b4.2 3 _ rfl).2
        replace kw := Below.setCell kw (p := ⟨w.heap.size, 0, none⟩) (by show _ ≤ w.heap.size; omega) (.int .i64 r1)
        replace b4 : Bl (w1.setCell ⟨w.heap.size, 0, none⟩ (.int .i64 r1)) w.heap.size [.int .i64 r1, .int .i64 0, .int .i64 0, .int .i64 0] := b4.set 0 (.int .i64 r1)
        replace kw := Below.setCell kw (p := ⟨w.heap.size, 1, none⟩) (by show _ ≤ w.heap.size; omega) (.int .i64 r2)
        replace b4 : Bl ((w1.setCell ⟨w.heap.size, 0, none⟩ (.int .i64 r1)).setCell ⟨w.heap.size, 1, none⟩ (.int .i64 r2)) w.heap.size [.int .i64 r1, .int .i64 r2, .int .i64 0, .int .i64 0] := b4.set 1 (.int .i64 r2)
        replace kw := Below.setCell kw (p := ⟨w.heap.size, 2, none⟩) (by show _ ≤ w.heap.size; omega) (.int .i64 r3)
        replace b4 : Bl (((w1.setCell ⟨w.heap.size, 0, none⟩ (.int .i64 r1)).setCell ⟨w.heap.size, 1, none⟩ (.int .i64 r2)).setCell ⟨w.heap.size, 2, none⟩ (.int .i64 r3)) w.heap.size [.int .i64 r1, .int .i64 r2, .int .i64 r3, .int .i64 0] := b4.set 2 (.int .i64 r3)
        replace kw := Below.setCell kw (p := ⟨w.heap.size, 3, none⟩) (by show _ ≤ w.heap.size; omega) (.int .i64 r4)
        replace b4 : Bl ((((w1.setCell ⟨w.heap.size, 0, none⟩ (.int .i64 r1)).setCell ⟨w.heap.size, 1, none⟩ (.int .i64 r2)).setCell ⟨w.heap.size, 2, none⟩ (.int .i64 r3)).setCell ⟨w.heap.size, 3, none⟩ (.int .i64 r4)) w.heap.size [.int .i64 r1, .int .i64 r2, .int .i64 r3, .int .i64 r4] := b4.set 3 (.int .i64 r4)
        have HK := hid kw
        clear kw
        go_wp2_with fail
        clear ca4_0 fa4_0 ca4_1 fa4_1 ca4_2 fa4_2 ca4_3 fa4_3
        have ca0_0 : ((((w1.setCell ⟨w.heap.size, 0, none⟩ (.int .i64 r1)).setCell ⟨w.heap.size, 1, none⟩ (.int .i64 r2)).setCell ⟨w.heap.size, 2, none⟩ (.int .i64 r3)).setCell ⟨w.heap.size, 3, none⟩ (.int .i64 r4)).cell? ⟨w.heap.size, 0, none⟩ = some (.int .i64 r1) := (b4.2 0 _ rfl).1
        have ca0_1 : ((((w1.setCell ⟨w.heap.size, 0, none⟩ (.int .i64 r1)).setCell ⟨w.heap.size, 1, none⟩ (.int .i64 r2)).setCell ⟨w.heap.size, 2, none⟩ (.int .i64 r3)).setCell ⟨w.heap.size, 3, none⟩ (.int .i64 r4)).cell? ⟨w.heap.size, 1, none⟩ = some (.int .i64 r2) := (b4.2 1 _ rfl).1
        have ca0_2 : ((((w1.setCell ⟨w.heap.size, 0, none⟩ (.int .i64 r1)).setCell ⟨w.heap.size, 1, none⟩ (.int .i64 r2)).setCell ⟨w.heap.size, 2, none⟩ (.int .i64 r3)).setCell ⟨w.heap.size, 3, none⟩ (.int .i64 r4)).cell? ⟨w.heap.size, 2, none⟩ = some (.int .i64 r3) := (b4.2 2 _ rfl).1
        have ca0_3 : ((((w1.setCell ⟨w.heap.size, 0, none⟩ (.int .i64 r1)).setCell ⟨w.heap.size, 1, none⟩ (.int .i64 r2)).setCell ⟨w.heap.size, 2, none⟩ (.int .i64 r3)).setCell ⟨w.heap.size, 3, none⟩ (.int .i64 r4)).cell? ⟨w.heap.size, 3, none⟩ = some (.int .i64 r4) := (b4.2 3 _ rfl).1
        try simp only [Exit.inBlock, Exit.then]
        exact bodyPost_ret (v := .tuple #[.agg #[.int .i64 r1, .int .i64 r2, .int .i64 r3, .int .i64 r4], .bool p]) (by simp [results, Tryz.results104, go_sem, ca0_0, ca0_1, ca0_2, ca0_3]) rfl ⟨ls_ret HR.out, HK.out⟩
end Go.Proofs.YtohjkpopbmmliaaGreat
