/- What the proof of the statement leans on, part 4: walks of functions and plain lemmas, with no condition. -/
import Derived.Test.YtohjkpopbmmliaaGreatQ2
namespace Go.Proofs.YtohjkpopbmmliaaGreat
open Go.RowKit
set_option linter.unusedVariables false
set_option linter.unusedSimpArgs false
abbrev LQ := Int × Int × Int × Int
def lz : LQ := (0, 0, 0, 0)
def lone : LQ := (1, 1, 0, 1)
def lsB (x : LQ) : Bool := lossB x.1 x.2.1 x.2.2.1 x.2.2.2
abbrev lossV (q : LQ × Bool) : Value := .tuple #[.agg #[.int .i64 q.1.1, .int .i64 q.1.2.1, .int .i64 q.1.2.2.1, .int .i64 q.1.2.2.2], .bool q.2]
theorem ls_ret {q r : LQ × Bool} (h : q = r) : Ending.returned (lossV r) = Ending.returned (lossV q) := by rw [h]
/-- Two losses composed. -/
def two (a b : LQ) : LQ × Bool :=
  if ((mkF (a.1 * b.1) (a.2.1 * b.2.1)).2.2 && (mkF (a.2.2.1 * b.2.2.2 + b.2.2.1 * a.2.2.2) (a.2.2.2 * b.2.2.2)).2.2) = true then
    (((mkF (a.1 * b.1) (a.2.1 * b.2.1)).1, (mkF (a.1 * b.1) (a.2.1 * b.2.1)).2.1, (mkF (a.2.2.1 * b.2.2.2 + b.2.2.1 * a.2.2.2) (a.2.2.2 * b.2.2.2)).1, (mkF (a.2.2.1 * b.2.2.2 + b.2.2.1 * a.2.2.2) (a.2.2.2 * b.2.2.2)).2.1), true) else (lz, false)
theorem two_yes {a1 a2 a3 a4 b1 b2 b3 b4 r1 r2 s1 s2 : Int} (h1 : mkF (a1 * b1) (a2 * b2) = (r1, r2, true)) (h2 : mkF (a3 * b4 + b3 * a4) (a4 * b4) = (s1, s2, true)) : two (a1, a2, a3, a4) (b1, b2, b3, b4) = ((r1, r2, s1, s2), true) := by unfold two; dsimp only; rw [h1, h2]; simp
theorem two_no1 {a1 a2 a3 a4 b1 b2 b3 b4 r1 r2 : Int} (h1 : mkF (a1 * b1) (a2 * b2) = (r1, r2, false)) : two (a1, a2, a3, a4) (b1, b2, b3, b4) = (lz, false) := by unfold two; dsimp only; rw [h1]; simp
theorem two_no2 {a1 a2 a3 a4 b1 b2 b3 b4 s1 s2 : Int} (h2 : mkF (a3 * b4 + b3 * a4) (a4 * b4) = (s1, s2, false)) : two (a1, a2, a3, a4) (b1, b2, b3, b4) = (lz, false) := by unfold two; dsimp only; rw [h2]; simp
theorem lossB_parts {a b c d : Int} (h : lossB a b c d = true) : fracB a b = true ∧ fracB c d = true ∧ b ≤ a ∧ 0 ≤ c := by
  unfold lossB at h
  simp only [Bool.and_eq_true, decide_eq_true_eq] at h
  exact ⟨h.1.1, h.1.2, h.2.1, h.2.2⟩
theorem lossB_mk {a b c d : Int} (h1 : fracB a b = true) (h2 : fracB c d = true) (h3 : b ≤ a) (h4 : 0 ≤ c) : lossB a b c d = true := by
  unfold lossB; rw [h1, h2, decide_eq_true h3, decide_eq_true h4]; rfl
theorem lone_ok : lsB lone = true := by decide
theorem mkF_cross1 {n d a b : Int} (hd : 0 < d) (h : mkF n d = (a, b, true)) : a * d = n * b ∧ 1 ≤ b := by
  rw [mkF_red (by omega)] at h
  have hy := redD_pos (n := n) (d := d) (by omega)
  unfold red at h
  split at h
  · injection h with e1 e2
    injection e2 with e2 _
    subst e1 e2
    refine ⟨?_, hy⟩
    have hg := gcd_pos (n := n) (d := d) (by omega)
    obtain ⟨p, hp⟩ := Int.gcd_dvd_left n d
    obtain ⟨q, hq⟩ := Int.gcd_dvd_right n d
    unfold redN redD
    rw [if_neg (by omega), if_neg (by omega), Int.ediv_eq_of_eq_mul_right (by omega) hp, Int.ediv_eq_of_eq_mul_right (by omega) hq]
    conv => lhs; rw [hq]
    conv => rhs; rw [hp]
    generalize (Int.gcd n d : Int) = g
    rw [Int.mul_comm g p, Int.mul_assoc, Int.mul_left_comm p g q]
  · injection h with _ e2
    injection e2 with _ e3
    cases e3
theorem two_good {a b r : LQ} (ha : lsB a = true) (hb : lsB b = true) (h : two a b = (r, true)) : lsB r = true := by
  obtain ⟨a1, a2, a3, a4⟩ := a
  obtain ⟨b1, b2, b3, b4⟩ := b
  obtain ⟨hp, hq, ha3, ha4⟩ := lossB_parts (show lossB a1 a2 a3 a4 = true from ha)
  obtain ⟨hp', hq', hb3, hb4⟩ := lossB_parts (show lossB b1 b2 b3 b4 = true from hb)
  have pa2 := (fracB_true.1 hp).1
  have pa4 := (fracB_true.1 hq).1
  have pb2 := (fracB_true.1 hp').1
  have pb4 := (fracB_true.1 hq').1
  obtain ⟨r1, r2, r3, e1⟩ : ∃ r1 r2 r3, mkF (a1 * b1) (a2 * b2) = (r1, r2, r3) := ⟨_, _, _, rfl⟩
  obtain ⟨s1, s2, s3, e2⟩ : ∃ r1 r2 r3, mkF (a3 * b4 + b3 * a4) (a4 * b4) = (r1, r2, r3) := ⟨_, _, _, rfl⟩
  cases r3 with
  | false => rw [two_no1 e1] at h; cases h
  | true =>
    cases s3 with
    | false => rw [two_no2 e2] at h; cases h
    | true =>
      rw [two_yes e1 e2] at h
      injection h with h _
      subst h
      have f1 := (Fine.mk (a1 * b1) (a2 * b2)).ok e1
      have f2 := (Fine.mk (a3 * b4 + b3 * a4) (a4 * b4)).ok e2
      have hD : 0 < a2 * b2 := Int.mul_pos (by omega) (by omega)
      have hE : 0 < a4 * b4 := Int.mul_pos (by omega) (by omega)
      have c1 := mkF_cross1 hD e1
      have c2 := mkF_cross1 hE e2
      refine lossB_mk f1 f2 ?_ ?_
      · have hN : a2 * b2 ≤ a1 * b1 := Int.mul_le_mul ha3 hb3 (by omega) (by omega)
        have h3 : r2 * (a2 * b2) ≤ r1 * (a2 * b2) := by
          rw [c1.1, Int.mul_comm (a1 * b1) r2]
          exact Int.mul_le_mul_of_nonneg_left hN (by omega)
        exact Int.le_of_mul_le_mul_right h3 hD
      · have hN : 0 ≤ a3 * b4 + b3 * a4 := Int.add_nonneg (Int.mul_nonneg ha4 (by omega)) (Int.mul_nonneg hb4 (by omega))
        have h3 : 0 * (a4 * b4) ≤ s1 * (a4 * b4) := by
          rw [c2.1, Int.zero_mul]
          exact Int.mul_nonneg hN (by omega)
        exact Int.le_of_mul_le_mul_right h3 hE
/-- The first k losses composed. -/
def comTo (ls : List LQ) : Nat → LQ × Bool
  | 0 => (lone, true)
  | k + 1 => if (comTo ls k).2 = true then two (comTo ls k).1 (ls.getD k lz) else (lz, false)
theorem comTo_next {ls : List LQ} {k : Nat} {s x : LQ} (h : comTo ls k = (s, true)) (hx : x = ls.getD k lz) : comTo ls (k + 1) = two s x := by
  show (if (comTo ls k).2 = true then two (comTo ls k).1 (ls.getD k lz) else (lz, false)) = _
  rw [h, if_pos rfl, hx]
theorem comTo_stop {ls : List LQ} {k n : Nat} (h : comTo ls k = (lz, false)) (hn : k ≤ n) : comTo ls n = (lz, false) := by
  induction n with
  | zero => obtain rfl : k = 0 := by omega
            exact h
  | succ n ih =>
    rcases Nat.lt_or_ge n k with h1 | h1
    · obtain rfl : k = n + 1 := by omega
      exact h
    · show (if (comTo ls n).2 = true then two (comTo ls n).1 (ls.getD n lz) else (lz, false)) = _
      rw [ih h1]; simp
theorem two_fine (a b : LQ) : (two a b).2 = true ∨ two a b = (lz, false) := by
  unfold two
  split
  · exact .inl rfl
  · exact .inr rfl
theorem comTo_fine (ls : List LQ) (k : Nat) : (comTo ls k).2 = true ∨ comTo ls k = (lz, false) := by
  cases k with
  | zero => exact .inl rfl
  | succ k =>
    show (if (comTo ls k).2 = true then two (comTo ls k).1 (ls.getD k lz) else (lz, false)).2 = true ∨ (if (comTo ls k).2 = true then two (comTo ls k).1 (ls.getD k lz) else (lz, false)) = _
    split
    · exact two_fine _ _
    · exact .inr rfl
theorem comTo_good {ls : List LQ} {n : Nat} (h : ∀ k, k < n → lsB (ls.getD k lz) = true) : ∀ k, k ≤ n → ∀ s, comTo ls k = (s, true) → lsB s = true
  | 0, _, s, e => by
    have : s = lone := by injection e with e _; exact e.symm
    subst this; exact lone_ok
  | k + 1, hk, s, e => by
    obtain ⟨s', p, e'⟩ : ∃ s' p, comTo ls k = (s', p) := ⟨_, _, rfl⟩
    cases p with
    | false =>
      have := comTo_fine ls k
      rw [e'] at this
      rcases this with h2 | h2
      · cases h2
      · rw [h2] at e'
        rw [comTo_stop e' (Nat.le_succ k)] at e; cases e
    | true =>
      rw [comTo_next e' rfl] at e
      exact two_good (comTo_good h k (by omega) s' e') (h k (by omega)) e
def lsTo (ls : List LQ) : Nat → Bool
  | 0 => true
  | k + 1 => lsTo ls k && lsB (ls.getD k lz)
def lsAll (ls : List LQ) : Bool := lsTo ls ls.length && decide (ls.length ≤ 30)
theorem lsTo_bad {ls : List LQ} {k n : Nat} (h : lsTo ls k = false) (hn : k ≤ n) : lsTo ls n = false := by
  induction n with
  | zero => obtain rfl : k = 0 := by omega
            exact h
  | succ n ih =>
    rcases Nat.lt_or_ge n k with h1 | h1
    · obtain rfl : k = n + 1 := by omega
      exact h
    · unfold lsTo; rw [ih h1]; rfl
theorem lsTo_row {ls : List LQ} : ∀ n k, lsTo ls n = true → k < n → lsB (ls.getD k lz) = true
  | 0, k, _, hk => absurd hk (by omega)
  | n + 1, k, h, hk => by
    unfold lsTo at h
    simp only [Bool.and_eq_true] at h
    rcases Nat.lt_or_ge k n with h1 | h1
    · exact lsTo_row n k h.1 h1
    · obtain rfl : k = n := by omega
      exact h.2
theorem lsTo_of {ls : List LQ} : ∀ n, (∀ k, k < n → lsB (ls.getD k lz) = true) → lsTo ls n = true
  | 0, _ => rfl
  | n + 1, h => by
    unfold lsTo; rw [lsTo_of n (fun k hk => h k (by omega)), h n (by omega)]; rfl
theorem lsAll_no {ls : List LQ} {n k : Nat} (hl : ls.length = n) (hk : k < n) (h : lsB (ls.getD k lz) = false) : lsAll ls = false := by
  unfold lsAll; rw [hl, lsTo_bad (k := k + 1) (by unfold lsTo; rw [h, Bool.and_false]) hk]; rfl
theorem lsAll_len {ls : List LQ} (h : ¬ ls.length ≤ 30) : lsAll ls = false := by unfold lsAll; rw [decide_eq_false h, Bool.and_false]
theorem lsAll_yes {ls : List LQ} {n : Nat} (hl : ls.length = n) (h : lsTo ls n = true) : lsAll ls = decide (n ≤ 30) := by unfold lsAll; rw [hl, h]; rfl
/-- Losses composed. -/
def comQ (ls : List LQ) : LQ × Bool := if lsAll ls = true then comTo ls ls.length else (lz, false)
theorem comQ_no {ls : List LQ} (h : lsAll ls = false) : comQ ls = (lz, false) := if_neg (by rw [h]; simp)
theorem comQ_yes {ls : List LQ} (h : lsAll ls = true) : comQ ls = comTo ls ls.length := if_pos h
def lc4 (x : LQ) : List Value := [.int .i64 x.1, .int .i64 x.2.1, .int .i64 x.2.2.1, .int .i64 x.2.2.2]
def lcs (l : List LQ) : List Value := l.flatMap lc4
theorem lc4_len (x : LQ) : (lc4 x).length = 4 := rfl
theorem lcs_len (l : List LQ) : (lcs l).length = l.length * 4 := flat_len lc4_len l
theorem lcs_at (l : List LQ) {k j : Nat} (h : k < l.length) (hj : j < 4) : (lcs l).getD (k * 4 + j) undef = (lc4 (l.getD k lz)).getD j undef := flat_at lc4_len undef lz l k j h hj
theorem lcs_append (a b : List LQ) : lcs (a ++ b) = lcs a ++ lcs b := by simp [lcs]
theorem lcs_set (l : List LQ) (k : Nat) (a b c d : Int) : ((((lcs l).set (k * 4) (.int .i64 a)).set (k * 4 + 1) (.int .i64 b)).set (k * 4 + 2) (.int .i64 c)).set (k * 4 + 3) (.int .i64 d) = lcs (l.set k (a, b, c, d)) := by
  induction l generalizing k with
  | nil => simp [lcs]
  | cons x r ih =>
    cases k with
    | zero => simp [lcs, lc4]
    | succ k =>
      have := ih k
      rw [show (k + 1) * 4 = k * 4 + 4 by omega, show k * 4 + 4 + 1 = k * 4 + 1 + 4 by omega, show k * 4 + 4 + 2 = k * 4 + 2 + 4 by omega, show k * 4 + 4 + 3 = k * 4 + 3 + 4 by omega]
      simpa [lcs, lc4] using this
abbrev Los (w : World) (lo hi : Nat) (A : Option Addr) (n : Nat) (l : List LQ) : Prop := Sl 4 w lo hi A n (lcs l)
theorem Los.len {w : World} {lo hi n : Nat} {A : Option Addr} {l : List LQ} (h : Los w lo hi A n l) : l.length = n := by
  have := h.1; rw [lcs_len] at this; omega
theorem Los.at_ {w : World} {lo hi n k : Nat} {A : Option Addr} {l : List LQ} (h : Los w lo hi A n l) (hk : k < n) :
    ∃ b off x1 x2 x3 x4, A = some ⟨b, off, none⟩ ∧ lo ≤ b ∧ b < hi ∧ w.cell? ⟨b, off + k * 4, none⟩ = some (.int .i64 x1) ∧ w.cell? ⟨b, off + k * 4 + 1, none⟩ = some (.int .i64 x2) ∧ w.cell? ⟨b, off + k * 4 + 2, none⟩ = some (.int .i64 x3) ∧ w.cell? ⟨b, off + k * 4 + 3, none⟩ = some (.int .i64 x4) ∧ Hid ((x1, x2, x3, x4) = l.getD k lz) := by
  obtain ⟨b, off, e, hl, hb, hc⟩ := h.2.2.2 (by omega)
  have hn := Los.len h
  have q : ∀ j, j < 4 → w.cell? ⟨b, off + (k * 4 + j), none⟩ = some ((lc4 (l.getD k lz)).getD j undef) := fun j hj => by
    rw [hc (k * 4 + j) (by omega), lcs_at l (by omega) hj]
  exact ⟨b, off, _, _, _, _, e, hl, hb, q 0 (by omega), q 1 (by omega), q 2 (by omega), q 3 (by omega), rfl⟩
/-- The losses of releases. -/
def rlL (r : RL) : LQ := (r.2.2.1, r.2.2.2.1, r.2.2.2.2.1, r.2.2.2.2.2)
def rlLs (rs : List RL) : List LQ := rs.map rlL
theorem rlLs_len (rs : List RL) : (rlLs rs).length = rs.length := by simp [rlLs]
theorem rlLs_at (rs : List RL) (k : Nat) : (rlLs rs).getD k lz = rlL (rs.getD k rl0) := by
  rcases Nat.lt_or_ge k rs.length with h | h
  · simp [rlLs, List.getD, h]
  · rw [getD_out (by rw [rlLs_len]; exact h), getD_out h]; rfl
theorem relB_loss {ps : List Int} {l : List VV} {r : RL} (h : relB ps l r = true) : lsB (rlL r) = true := by
  unfold relB at h
  simp only [Bool.and_eq_true] at h
  exact h.2
def hlQ (ps : List Int) (l : List VV) (rs : List RL) : LQ × Bool := if hisB ps l rs = true then comQ (rlLs rs) else (lz, false)
theorem hlQ_no {ps : List Int} {l : List VV} {rs : List RL} (h : hisB ps l rs = false) : hlQ ps l rs = (lz, false) := if_neg (by rw [h]; simp)
theorem hlQ_yes {ps : List Int} {l : List VV} {rs : List RL} (h : hisB ps l rs = true) : hlQ ps l rs = comQ (rlLs rs) := if_pos h
theorem frac_of_loss {a b c d : Int} (h : lsB (a, b, c, d) = true) : (fracB a b = true ∧ fracB c d = true) ∧ QB a b ∧ QB c d := by
  have := lossB_parts (show lossB a b c d = true from h)
  exact ⟨⟨this.1, this.2.1⟩, fracB_qb this.1, fracB_qb this.2.1⟩
set_option maxRecDepth 100000 in
set_option maxHeartbeats 3200000 in
theorem composed_any {a1 a2 a3 a4 b1 b2 b3 b4 : Int} {w : World} (ha : lsB (a1, a2, a3, a4) = true) (hb : lsB (b1, b2, b3, b4) = true) :
    Calls Tryz.prog 144 #[.agg #[.int .i64 a1, .int .i64 a2, .int .i64 a3, .int .i64 a4], .agg #[.int .i64 b1, .int .i64 b2, .int .i64 b3, .int .i64 b4]] w fun e w' => e = .returned (lossV (two (a1, a2, a3, a4) (b1, b2, b3, b4))) ∧ Keeps w w' := by
  have HA := hid (frac_of_loss ha)
  have HB := hid (frac_of_loss hb)
  clear ha hb
  obtain ⟨r1, r2, r3, H1⟩ : ∃ r1 r2 r3, Hid (mkF (a1 * b1) (a2 * b2) = (r1, r2, r3)) := ⟨_, _, _, rfl⟩
  obtain ⟨s1, s2, s3, H2⟩ : ∃ r1 r2 r3, Hid (mkF (a3 * b4 + b3 * a4) (a4 * b4) = (r1, r2, r3)) := ⟨_, _, _, rfl⟩
  go_enter Tryz.func144, Tryz.ntmps144
  have kw := keeps_refl w
  replace kw := Keeps.trans kw (keeps_alloc w (.cells #[.int .i64 a1, .int .i64 a2, .int .i64 a3, .int .i64 a4] 32))
  have o2 : Bl (w.alloc (.cells #[.int .i64 a1, .int .i64 a2, .int .i64 a3, .int .i64 a4] 32)) w.heap.size [.int .i64 a1, .int .i64 a2, .int .i64 a3, .int .i64 a4] := Bl.new' (by simp) (by simp)
  replace o2 := o2.keeps (keeps_alloc (w.alloc (.cells #[.int .i64 a1, .int .i64 a2, .int .i64 a3, .int .i64 a4] 32)) (.cells #[.int .i64 b1, .int .i64 b2, .int .i64 b3, .int .i64 b4] 32))
  replace kw := Keeps.trans kw (keeps_alloc (w.alloc (.cells #[.int .i64 a1, .int .i64 a2, .int .i64 a3, .int .i64 a4] 32)) (.cells #[.int .i64 b1, .int .i64 b2, .int .i64 b3, .int .i64 b4] 32))
  have o3 : Bl ((w.alloc (.cells #[.int .i64 a1, .int .i64 a2, .int .i64 a3, .int .i64 a4] 32)).alloc (.cells #[.int .i64 b1, .int .i64 b2, .int .i64 b3, .int .i64 b4] 32)) (w.heap.size + 1) [.int .i64 b1, .int .i64 b2, .int .i64 b3, .int .i64 b4] := Bl.new' (by simp) (by simp)
  replace o2 := o2.keeps (keeps_alloc ((w.alloc (.cells #[.int .i64 a1, .int .i64 a2, .int .i64 a3, .int .i64 a4] 32)).alloc (.cells #[.int .i64 b1, .int .i64 b2, .int .i64 b3, .int .i64 b4] 32)) (.cells #[.int .i64 0, .int .i64 0, .int .i64 0, .int .i64 0] 32))
  replace o3 := o3.keeps (keeps_alloc ((w.alloc (.cells #[.int .i64 a1, .int .i64 a2, .int .i64 a3, .int .i64 a4] 32)).alloc (.cells #[.int .i64 b1, .int .i64 b2, .int .i64 b3, .int .i64 b4] 32)) (.cells #[.int .i64 0, .int .i64 0, .int .i64 0, .int .i64 0] 32))
  replace kw := Keeps.trans kw (keeps_alloc ((w.alloc (.cells #[.int .i64 a1, .int .i64 a2, .int .i64 a3, .int .i64 a4] 32)).alloc (.cells #[.int .i64 b1, .int .i64 b2, .int .i64 b3, .int .i64 b4] 32)) (.cells #[.int .i64 0, .int .i64 0, .int .i64 0, .int .i64 0] 32))
  have o4 : Bl (((w.alloc (.cells #[.int .i64 a1, .int .i64 a2, .int .i64 a3, .int .i64 a4] 32)).alloc (.cells #[.int .i64 b1, .int .i64 b2, .int .i64 b3, .int .i64 b4] 32)).alloc (.cells #[.int .i64 0, .int .i64 0, .int .i64 0, .int .i64 0] 32)) (w.heap.size + 1 + 1) [.int .i64 0, .int .i64 0, .int .i64 0, .int .i64 0] := Bl.new' (by simp) (by simp)
  have ca1_0 : (((w.alloc (.cells #[.int .i64 a1, .int .i64 a2, .int .i64 a3, .int .i64 a4] 32)).alloc (.cells #[.int .i64 b1, .int .i64 b2, .int .i64 b3, .int .i64 b4] 32)).alloc (.cells #[.int .i64 0, .int .i64 0, .int .i64 0, .int .i64 0] 32)).cell? ⟨w.heap.size, 0, none⟩ = some (.int .i64 a1) := (o2.2 0 _ rfl).1
  have ca1_1 : (((w.alloc (.cells #[.int .i64 a1, .int .i64 a2, .int .i64 a3, .int .i64 a4] 32)).alloc (.cells #[.int .i64 b1, .int .i64 b2, .int .i64 b3, .int .i64 b4] 32)).alloc (.cells #[.int .i64 0, .int .i64 0, .int .i64 0, .int .i64 0] 32)).cell? ⟨w.heap.size, 1, none⟩ = some (.int .i64 a2) := (o2.2 1 _ rfl).1
  have ca1_2 : (((w.alloc (.cells #[.int .i64 a1, .int .i64 a2, .int .i64 a3, .int .i64 a4] 32)).alloc (.cells #[.int .i64 b1, .int .i64 b2, .int .i64 b3, .int .i64 b4] 32)).alloc (.cells #[.int .i64 0, .int .i64 0, .int .i64 0, .int .i64 0] 32)).cell? ⟨w.heap.size, 2, none⟩ = some (.int .i64 a3) := (o2.2 2 _ rfl).1
  have ca1_3 : (((w.alloc (.cells #[.int .i64 a1, .int .i64 a2, .int .i64 a3, .int .i64 a4] 32)).alloc (.cells #[.int .i64 b1, .int .i64 b2, .int .i64 b3, .int .i64 b4] 32)).alloc (.cells #[.int .i64 0, .int .i64 0, .int .i64 0, .int .i64 0] 32)).cell? ⟨w.heap.size, 3, none⟩ = some (.int .i64 a4) := (o2.2 3 _ rfl).1
  have ca2_0 : (((w.alloc (.cells #[.int .i64 a1, .int .i64 a2, .int .i64 a3, .int .i64 a4] 32)).alloc (.cells #[.int .i64 b1, .int .i64 b2, .int .i64 b3, .int .i64 b4] 32)).alloc (.cells #[.int .i64 0, .int .i64 0, .int .i64 0, .int .i64 0] 32)).cell? ⟨w.heap.size + 1, 0, none⟩ = some (.int .i64 b1) := (o3.2 0 _ rfl).1
  have ca2_1 : (((w.alloc (.cells #[.int .i64 a1, .int .i64 a2, .int .i64 a3, .int .i64 a4] 32)).alloc (.cells #[.int .i64 b1, .int .i64 b2, .int .i64 b3, .int .i64 b4] 32)).alloc (.cells #[.int .i64 0, .int .i64 0, .int .i64 0, .int .i64 0] 32)).cell? ⟨w.heap.size + 1, 1, none⟩ = some (.int .i64 b2) := (o3.2 1 _ rfl).1
  have ca2_2 : (((w.alloc (.cells #[.int .i64 a1, .int .i64 a2, .int .i64 a3, .int .i64 a4] 32)).alloc (.cells #[.int .i64 b1, .int .i64 b2, .int .i64 b3, .int .i64 b4] 32)).alloc (.cells #[.int .i64 0, .int .i64 0, .int .i64 0, .int .i64 0] 32)).cell? ⟨w.heap.size + 1, 2, none⟩ = some (.int .i64 b3) := (o3.2 2 _ rfl).1
  have ca2_3 : (((w.alloc (.cells #[.int .i64 a1, .int .i64 a2, .int .i64 a3, .int .i64 a4] 32)).alloc (.cells #[.int .i64 b1, .int .i64 b2, .int .i64 b3, .int .i64 b4] 32)).alloc (.cells #[.int .i64 0, .int .i64 0, .int .i64 0, .int .i64 0] 32)).cell? ⟨w.heap.size + 1, 3, none⟩ = some (.int .i64 b4) := (o3.2 3 _ rfl).1
  go_wp2_with fail
  clear ca1_0 ca1_1 ca1_2 ca1_3 ca2_0 ca2_1 ca2_2 ca2_3
  refine (MulFrac_any HA.out.1.1 HB.out.1.1).mono ?_
  rintro e w3 ⟨rfl, k3⟩
  rw [H1.out]
  replace o2 := o2.keeps k3
  replace o3 := o3.keeps k3
  replace o4 := o4.keeps k3
  replace kw := Keeps.trans kw k3
  have lt4 := o4.lt
  have sz5 := kw.size
  clear k3
  replace o2 := o2.keeps (keeps_alloc w3 (.cells #[.int .i64 r1, .int .i64 r2] 30))
  replace o3 := o3.keeps (keeps_alloc w3 (.cells #[.int .i64 r1, .int .i64 r2] 30))
  replace o4 := o4.keeps (keeps_alloc w3 (.cells #[.int .i64 r1, .int .i64 r2] 30))
  replace kw := Keeps.trans kw (keeps_alloc w3 (.cells #[.int .i64 r1, .int .i64 r2] 30))
  have o6 : Bx (w3.alloc (.cells #[.int .i64 r1, .int .i64 r2] 30)) w3.heap.size r1 r2 := Bx.new' (by simp)
  cases r3
  · have HX := hid (two_no1 (a3 := a3) (a4 := a4) (b3 := b3) (b4 := b4) H1.out)
    have ca6_0 : (w3.alloc (.cells #[.int .i64 r1, .int .i64 r2] 30)).cell? ⟨w.heap.size + 1 + 1, 0, none⟩ = some (.int .i64 0) := (o4.2 0 _ rfl).1
    have fa6_0 : (w3.alloc (.cells #[.int .i64 r1, .int .i64 r2] 30)).frozen? ⟨w.heap.size + 1 + 1, 0, none⟩ = false := (o4.2 0 _ rfl).2
    have ca6_1 : (w3.alloc (.cells #[.int .i64 r1, .int .i64 r2] 30)).cell? ⟨w.heap.size + 1 + 1, 1, none⟩ = some (.int .i64 0) := (o4.2 1 _ rfl).1
    have fa6_1 : (w3.alloc (.cells #[.int .i64 r1, .int .i64 r2] 30)).frozen? ⟨w.heap.size + 1 + 1, 1, none⟩ = false := (o4.2 1 _ rfl).2
    have ca6_2 : (w3.alloc (.cells #[.int .i64 r1, .int .i64 r2] 30)).cell? ⟨w.heap.size + 1 + 1, 2, none⟩ = some (.int .i64 0) := (o4.2 2 _ rfl).1
    have fa6_2 : (w3.alloc (.cells #[.int .i64 r1, .int .i64 r2] 30)).frozen? ⟨w.heap.size + 1 + 1, 2, none⟩ = false := (o4.2 2 _ rfl).2
    have ca6_3 : (w3.alloc (.cells #[.int .i64 r1, .int .i64 r2] 30)).cell? ⟨w.heap.size + 1 + 1, 3, none⟩ = some (.int .i64 0) := (o4.2 3 _ rfl).1
    have fa6_3 : (w3.alloc (.cells #[.int .i64 r1, .int .i64 r2] 30)).frozen? ⟨w.heap.size + 1 + 1, 3, none⟩ = false := (o4.2 3 _ rfl).2
    replace o2 := o2.far (p := ⟨w.heap.size + 1 + 1, 0, none⟩) (by show _ ≠ (w.heap.size + 1 + 1); omega) (.int .i64 0)
    replace o3 := o3.far (p := ⟨w.heap.size + 1 + 1, 0, none⟩) (by show _ ≠ (w.heap.size + 1 + 1); omega) (.int .i64 0)
    replace o6 := o6.far (p := ⟨w.heap.size + 1 + 1, 0, none⟩) (by show _ ≠ (w.heap.size + 1 + 1); omega) (.int .i64 0)
    replace kw := Below.setCell kw (p := ⟨w.heap.size + 1 + 1, 0, none⟩) (by show _ ≤ (w.heap.size + 1 + 1); omega) (.int .i64 0)
    replace o4 : Bl ((w3.alloc (.cells #[.int .i64 r1, .int .i64 r2] 30)).setCell ⟨w.heap.size + 1 + 1, 0, none⟩ (.int .i64 0)) (w.heap.size + 1 + 1) [.int .i64 0, .int .i64 0, .int .i64 0, .int .i64 0] := o4.set 0 (.int .i64 0)
    replace o2 := o2.far (p := ⟨w.heap.size + 1 + 1, 1, none⟩) (by show _ ≠ (w.heap.size + 1 + 1); omega) (.int .i64 0)
    replace o3 := o3.far (p := ⟨w.heap.size + 1 + 1, 1, none⟩) (by show _ ≠ (w.heap.size + 1 + 1); omega) (.int .i64 0)
    replace o6 := o6.far (p := ⟨w.heap.size + 1 + 1, 1, none⟩) (by show _ ≠ (w.heap.size + 1 + 1); omega) (.int .i64 0)
    replace kw := Below.setCell kw (p := ⟨w.heap.size + 1 + 1, 1, none⟩) (by show _ ≤ (w.heap.size + 1 + 1); omega) (.int .i64 0)
    replace o4 : Bl (((w3.alloc (.cells #[.int .i64 r1, .int .i64 r2] 30)).setCell ⟨w.heap.size + 1 + 1, 0, none⟩ (.int .i64 0)).setCell ⟨w.heap.size + 1 + 1, 1, none⟩ (.int .i64 0)) (w.heap.size + 1 + 1) [.int .i64 0, .int .i64 0, .int .i64 0, .int .i64 0] := o4.set 1 (.int .i64 0)
    replace o2 := o2.far (p := ⟨w.heap.size + 1 + 1, 2, none⟩) (by show _ ≠ (w.heap.size + 1 + 1); omega) (.int .i64 0)
    replace o3 := o3.far (p := ⟨w.heap.size + 1 + 1, 2, none⟩) (by show _ ≠ (w.heap.size + 1 + 1); omega) (.int .i64 0)
    replace o6 := o6.far (p := ⟨w.heap.size + 1 + 1, 2, none⟩) (by show _ ≠ (w.heap.size + 1 + 1); omega) (.int .i64 0)
    replace kw := Below.setCell kw (p := ⟨w.heap.size + 1 + 1, 2, none⟩) (by show _ ≤ (w.heap.size + 1 + 1); omega) (.int .i64 0)
    replace o4 : Bl ((((w3.alloc (.cells #[.int .i64 r1, .int .i64 r2] 30)).setCell ⟨w.heap.size + 1 + 1, 0, none⟩ (.int .i64 0)).setCell ⟨w.heap.size + 1 + 1, 1, none⟩ (.int .i64 0)).setCell ⟨w.heap.size + 1 + 1, 2, none⟩ (.int .i64 0)) (w.heap.size + 1 + 1) [.int .i64 0, .int .i64 0, .int .i64 0, .int .i64 0] := o4.set 2 (.int .i64 0)
    replace o2 := o2.far (p := ⟨w.heap.size + 1 + 1, 3, none⟩) (by show _ ≠ (w.heap.size + 1 + 1); omega) (.int .i64 0)
    replace o3 := o3.far (p := ⟨w.heap.size + 1 + 1, 3, none⟩) (by show _ ≠ (w.heap.size + 1 + 1); omega) (.int .i64 0)
    replace o6 := o6.far (p := ⟨w.heap.size + 1 + 1, 3, none⟩) (by show _ ≠ (w.heap.size + 1 + 1); omega) (.int .i64 0)
    replace kw := Below.setCell kw (p := ⟨w.heap.size + 1 + 1, 3, none⟩) (by show _ ≤ (w.heap.size + 1 + 1); omega) (.int .i64 0)
    replace o4 : Bl (((((w3.alloc (.cells #[.int .i64 r1, .int .i64 r2] 30)).setCell ⟨w.heap.size + 1 + 1, 0, none⟩ (.int .i64 0)).setCell ⟨w.heap.size + 1 + 1, 1, none⟩ (.int .i64 0)).setCell ⟨w.heap.size + 1 + 1, 2, none⟩ (.int .i64 0)).setCell ⟨w.heap.size + 1 + 1, 3, none⟩ (.int .i64 0)) (w.heap.size + 1 + 1) [.int .i64 0, .int .i64 0, .int .i64 0, .int .i64 0] := o4.set 3 (.int .i64 0)
    have HK := hid kw
    clear kw lt4
    go_wp2_with fail
    clear ca6_0 fa6_0 ca6_1 fa6_1 ca6_2 fa6_2 ca6_3 fa6_3
    have ca0_0 : (((((w3.alloc (.cells #[.int .i64 r1, .int .i64 r2] 30)).setCell ⟨w.heap.size + 1 + 1, 0, none⟩ (.int .i64 0)).setCell ⟨w.heap.size + 1 + 1, 1, none⟩ (.int .i64 0)).setCell ⟨w.heap.size + 1 + 1, 2, none⟩ (.int .i64 0)).setCell ⟨w.heap.size + 1 + 1, 3, none⟩ (.int .i64 0)).cell? ⟨w.heap.size + 1 + 1, 0, none⟩ = some (.int .i64 0) := (o4.2 0 _ rfl).1
    have ca0_1 : (((((w3.alloc (.cells #[.int .i64 r1, .int .i64 r2] 30)).setCell ⟨w.heap.size + 1 + 1, 0, none⟩ (.int .i64 0)).setCell ⟨w.heap.size + 1 + 1, 1, none⟩ (.int .i64 0)).setCell ⟨w.heap.size + 1 + 1, 2, none⟩ (.int .i64 0)).setCell ⟨w.heap.size + 1 + 1, 3, none⟩ (.int .i64 0)).cell? ⟨w.heap.size + 1 + 1, 1, none⟩ = some (.int .i64 0) := (o4.2 1 _ rfl).1
    have ca0_2 : (((((w3.alloc (.cells #[.int .i64 r1, .int .i64 r2] 30)).setCell ⟨w.heap.size + 1 + 1, 0, none⟩ (.int .i64 0)).setCell ⟨w.heap.size + 1 + 1, 1, none⟩ (.int .i64 0)).setCell ⟨w.heap.size + 1 + 1, 2, none⟩ (.int .i64 0)).setCell ⟨w.heap.size + 1 + 1, 3, none⟩ (.int .i64 0)).cell? ⟨w.heap.size + 1 + 1, 2, none⟩ = some (.int .i64 0) := (o4.2 2 _ rfl).1
    have ca0_3 : (((((w3.alloc (.cells #[.int .i64 r1, .int .i64 r2] 30)).setCell ⟨w.heap.size + 1 + 1, 0, none⟩ (.int .i64 0)).setCell ⟨w.heap.size + 1 + 1, 1, none⟩ (.int .i64 0)).setCell ⟨w.heap.size + 1 + 1, 2, none⟩ (.int .i64 0)).setCell ⟨w.heap.size + 1 + 1, 3, none⟩ (.int .i64 0)).cell? ⟨w.heap.size + 1 + 1, 3, none⟩ = some (.int .i64 0) := (o4.2 3 _ rfl).1
    try simp only [Exit.inBlock, Exit.then]
    exact bodyPost_ret (v := .tuple #[.agg #[.int .i64 0, .int .i64 0, .int .i64 0, .int .i64 0], .bool false]) (by simp [results, Tryz.results144, go_sem, ca0_0, ca0_1, ca0_2, ca0_3]) rfl ⟨ls_ret HX.out, HK.out⟩
  · skip
    have ca6_0 : (w3.alloc (.cells #[.int .i64 r1, .int .i64 r2] 30)).cell? ⟨w.heap.size, 0, none⟩ = some (.int .i64 a1) := (o2.2 0 _ rfl).1
    have ca6_1 : (w3.alloc (.cells #[.int .i64 r1, .int .i64 r2] 30)).cell? ⟨w.heap.size, 1, none⟩ = some (.int .i64 a2) := (o2.2 1 _ rfl).1
    have ca6_2 : (w3.alloc (.cells #[.int .i64 r1, .int .i64 r2] 30)).cell? ⟨w.heap.size, 2, none⟩ = some (.int .i64 a3) := (o2.2 2 _ rfl).1
    have ca6_3 : (w3.alloc (.cells #[.int .i64 r1, .int .i64 r2] 30)).cell? ⟨w.heap.size, 3, none⟩ = some (.int .i64 a4) := (o2.2 3 _ rfl).1
    have ca7_0 : (w3.alloc (.cells #[.int .i64 r1, .int .i64 r2] 30)).cell? ⟨w.heap.size + 1, 0, none⟩ = some (.int .i64 b1) := (o3.2 0 _ rfl).1
    have ca7_1 : (w3.alloc (.cells #[.int .i64 r1, .int .i64 r2] 30)).cell? ⟨w.heap.size + 1, 1, none⟩ = some (.int .i64 b2) := (o3.2 1 _ rfl).1
    have ca7_2 : (w3.alloc (.cells #[.int .i64 r1, .int .i64 r2] 30)).cell? ⟨w.heap.size + 1, 2, none⟩ = some (.int .i64 b3) := (o3.2 2 _ rfl).1
    have ca7_3 : (w3.alloc (.cells #[.int .i64 r1, .int .i64 r2] 30)).cell? ⟨w.heap.size + 1, 3, none⟩ = some (.int .i64 b4) := (o3.2 3 _ rfl).1
    go_wp2_with fail
    clear ca6_0 ca6_1 ca6_2 ca6_3 ca7_0 ca7_1 ca7_2 ca7_3
    refine (AddFrac_any HA.out.1.2 HB.out.1.2).mono ?_
    rintro e w8 ⟨rfl, k8⟩
    rw [H2.out]
    replace o2 := o2.keeps k8
    replace o3 := o3.keeps k8
    replace o4 := o4.keeps k8
    replace o6 := o6.keeps k8
    replace kw := Keeps.trans kw k8
    have lt9 := o6.lt
    have sz10 := kw.size
    clear k8
    replace o2 := o2.keeps (keeps_alloc w8 (.cells #[.int .i64 s1, .int .i64 s2] 30))
    replace o3 := o3.keeps (keeps_alloc w8 (.cells #[.int .i64 s1, .int .i64 s2] 30))
    replace o4 := o4.keeps (keeps_alloc w8 (.cells #[.int .i64 s1, .int .i64 s2] 30))
    replace o6 := o6.keeps (keeps_alloc w8 (.cells #[.int .i64 s1, .int .i64 s2] 30))
    replace kw := Keeps.trans kw (keeps_alloc w8 (.cells #[.int .i64 s1, .int .i64 s2] 30))
    have o8 : Bx (w8.alloc (.cells #[.int .i64 s1, .int .i64 s2] 30)) w8.heap.size s1 s2 := Bx.new' (by simp)
    cases s3
    · have HX := hid (two_no2 (a1 := a1) (a2 := a2) (b1 := b1) (b2 := b2) H2.out)
      have ca11_0 : (w8.alloc (.cells #[.int .i64 s1, .int .i64 s2] 30)).cell? ⟨w.heap.size + 1 + 1, 0, none⟩ = some (.int .i64 0) := (o4.2 0 _ rfl).1
      have fa11_0 : (w8.alloc (.cells #[.int .i64 s1, .int .i64 s2] 30)).frozen? ⟨w.heap.size + 1 + 1, 0, none⟩ = false := (o4.2 0 _ rfl).2
      have ca11_1 : (w8.alloc (.cells #[.int .i64 s1, .int .i64 s2] 30)).cell? ⟨w.heap.size + 1 + 1, 1, none⟩ = some (.int .i64 0) := (o4.2 1 _ rfl).1
      have fa11_1 : (w8.alloc (.cells #[.int .i64 s1, .int .i64 s2] 30)).frozen? ⟨w.heap.size + 1 + 1, 1, none⟩ = false := (o4.2 1 _ rfl).2
      have ca11_2 : (w8.alloc (.cells #[.int .i64 s1, .int .i64 s2] 30)).cell? ⟨w.heap.size + 1 + 1, 2, none⟩ = some (.int .i64 0) := (o4.2 2 _ rfl).1
      have fa11_2 : (w8.alloc (.cells #[.int .i64 s1, .int .i64 s2] 30)).frozen? ⟨w.heap.size + 1 + 1, 2, none⟩ = false := (o4.2 2 _ rfl).2
      have ca11_3 : (w8.alloc (.cells #[.int .i64 s1, .int .i64 s2] 30)).cell? ⟨w.heap.size + 1 + 1, 3, none⟩ = some (.int .i64 0) := (o4.2 3 _ rfl).1
      have fa11_3 : (w8.alloc (.cells #[.int .i64 s1, .int .i64 s2] 30)).frozen? ⟨w.heap.size + 1 + 1, 3, none⟩ = false := (o4.2 3 _ rfl).2
      replace o2 := o2.far (p := ⟨w.heap.size + 1 + 1, 0, none⟩) (by show _ ≠ (w.heap.size + 1 + 1); omega) (.int .i64 0)
      replace o3 := o3.far (p := ⟨w.heap.size + 1 + 1, 0, none⟩) (by show _ ≠ (w.heap.size + 1 + 1); omega) (.int .i64 0)
      replace o6 := o6.far (p := ⟨w.heap.size + 1 + 1, 0, none⟩) (by show _ ≠ (w.heap.size + 1 + 1); omega) (.int .i64 0)
      replace o8 := o8.far (p := ⟨w.heap.size + 1 + 1, 0, none⟩) (by show _ ≠ (w.heap.size + 1 + 1); omega) (.int .i64 0)
      replace kw := Below.setCell kw (p := ⟨w.heap.size + 1 + 1, 0, none⟩) (by show _ ≤ (w.heap.size + 1 + 1); omega) (.int .i64 0)
      replace o4 : Bl ((w8.alloc (.cells #[.int .i64 s1, .int .i64 s2] 30)).setCell ⟨w.heap.size + 1 + 1, 0, none⟩ (.int .i64 0)) (w.heap.size + 1 + 1) [.int .i64 0, .int .i64 0, .int .i64 0, .int .i64 0] := o4.set 0 (.int .i64 0)
      replace o2 := o2.far (p := ⟨w.heap.size + 1 + 1, 1, none⟩) (by show _ ≠ (w.heap.size + 1 + 1); omega) (.int .i64 0)
      replace o3 := o3.far (p := ⟨w.heap.size + 1 + 1, 1, none⟩) (by show _ ≠ (w.heap.size + 1 + 1); omega) (.int .i64 0)
      replace o6 := o6.far (p := ⟨w.heap.size + 1 + 1, 1, none⟩) (by show _ ≠ (w.heap.size + 1 + 1); omega) (.int .i64 0)
      replace o8 := o8.far (p := ⟨w.heap.size + 1 + 1, 1, none⟩) (by show _ ≠ (w.heap.size + 1 + 1); omega) (.int .i64 0)
      replace kw := Below.setCell kw (p := ⟨w.heap.size + 1 + 1, 1, none⟩) (by show _ ≤ (w.heap.size + 1 + 1); omega) (.int .i64 0)
      replace o4 : Bl (((w8.alloc (.cells #[.int .i64 s1, .int .i64 s2] 30)).setCell ⟨w.heap.size + 1 + 1, 0, none⟩ (.int .i64 0)).setCell ⟨w.heap.size + 1 + 1, 1, none⟩ (.int .i64 0)) (w.heap.size + 1 + 1) [.int .i64 0, .int .i64 0, .int .i64 0, .int .i64 0] := o4.set 1 (.int .i64 0)
      replace o2 := o2.far (p := ⟨w.heap.size + 1 + 1, 2, none⟩) (by show _ ≠ (w.heap.size + 1 + 1); omega) (.int .i64 0)
      replace o3 := o3.far (p := ⟨w.heap.size + 1 + 1, 2, none⟩) (by show _ ≠ (w.heap.size + 1 + 1); omega) (.int .i64 0)
      replace o6 := o6.far (p := ⟨w.heap.size + 1 + 1, 2, none⟩) (by show _ ≠ (w.heap.size + 1 + 1); omega) (.int .i64 0)
      replace o8 := o8.far (p := ⟨w.heap.size + 1 + 1, 2, none⟩) (by show _ ≠ (w.heap.size + 1 + 1); omega) (.int .i64 0)
      replace kw := Below.setCell kw (p := ⟨w.heap.size + 1 + 1, 2, none⟩) (by show _ ≤ (w.heap.size + 1 + 1); omega) (.int .i64 0)
      replace o4 : Bl ((((w8.alloc (.cells #[.int .i64 s1, .int .i64 s2] 30)).setCell ⟨w.heap.size + 1 + 1, 0, none⟩ (.int .i64 0)).setCell ⟨w.heap.size + 1 + 1, 1, none⟩ (.int .i64 0)).setCell ⟨w.heap.size + 1 + 1, 2, none⟩ (.int .i64 0)) (w.heap.size + 1 + 1) [.int .i64 0, .int .i64 0, .int .i64 0, .int .i64 0] := o4.set 2 (.int .i64 0)
      replace o2 := o2.far (p := ⟨w.heap.size + 1 + 1, 3, none⟩) (by show _ ≠ (w.heap.size + 1 + 1); omega) (.int .i64 0)
      replace o3 := o3.far (p := ⟨w.heap.size + 1 + 1, 3, none⟩) (by show _ ≠ (w.heap.size + 1 + 1); omega) (.int .i64 0)
      replace o6 := o6.far (p := ⟨w.heap.size + 1 + 1, 3, none⟩) (by show _ ≠ (w.heap.size + 1 + 1); omega) (.int .i64 0)
      replace o8 := o8.far (p := ⟨w.heap.size + 1 + 1, 3, none⟩) (by show _ ≠ (w.heap.size + 1 + 1); omega) (.int .i64 0)
      replace kw := Below.setCell kw (p := ⟨w.heap.size + 1 + 1, 3, none⟩) (by show _ ≤ (w.heap.size + 1 + 1); omega) (.int .i64 0)
      replace o4 : Bl (((((w8.alloc (.cells #[.int .i64 s1, .int .i64 s2] 30)).setCell ⟨w.heap.size + 1 + 1, 0, none⟩ (.int .i64 0)).setCell ⟨w.heap.size + 1 + 1, 1, none⟩ (.int .i64 0)).setCell ⟨w.heap.size + 1 + 1, 2, none⟩ (.int .i64 0)).setCell ⟨w.heap.size + 1 + 1, 3, none⟩ (.int .i64 0)) (w.heap.size + 1 + 1) [.int .i64 0, .int .i64 0, .int .i64 0, .int .i64 0] := o4.set 3 (.int .i64 0)
      have HK := hid kw
      clear kw lt9
      go_wp2_with fail
      clear ca11_0 fa11_0 ca11_1 fa11_1 ca11_2 fa11_2 ca11_3 fa11_3
      have ca0_0 : (((((w8.alloc (.cells #[.int .i64 s1, .int .i64 s2] 30)).setCell ⟨w.heap.size + 1 + 1, 0, none⟩ (.int .i64 0)).setCell ⟨w.heap.size + 1 + 1, 1, none⟩ (.int .i64 0)).setCell ⟨w.heap.size + 1 + 1, 2, none⟩ (.int .i64 0)).setCell ⟨w.heap.size + 1 + 1, 3, none⟩ (.int .i64 0)).cell? ⟨w.heap.size + 1 + 1, 0, none⟩ = some (.int .i64 0) := (o4.2 0 _ rfl).1
      have ca0_1 : (((((w8.alloc (.cells #[.int .i64 s1, .int .i64 s2] 30)).setCell ⟨w.heap.size + 1 + 1, 0, none⟩ (.int .i64 0)).setCell ⟨w.heap.size + 1 + 1, 1, none⟩ (.int .i64 0)).setCell ⟨w.heap.size + 1 + 1, 2, none⟩ (.int .i64 0)).setCell ⟨w.heap.size + 1 + 1, 3, none⟩ (.int .i64 0)).cell? ⟨w.heap.size + 1 + 1, 1, none⟩ = some (.int .i64 0) := (o4.2 1 _ rfl).1
      have ca0_2 : (((((w8.alloc (.cells #[.int .i64 s1, .int .i64 s2] 30)).setCell ⟨w.heap.size + 1 + 1, 0, none⟩ (.int .i64 0)).setCell ⟨w.heap.size + 1 + 1, 1, none⟩ (.int .i64 0)).setCell ⟨w.heap.size + 1 + 1, 2, none⟩ (.int .i64 0)).setCell ⟨w.heap.size + 1 + 1, 3, none⟩ (.int .i64 0)).cell? ⟨w.heap.size + 1 + 1, 2, none⟩ = some (.int .i64 0) := (o4.2 2 _ rfl).1
      have ca0_3 : (((((w8.alloc (.cells #[.int .i64 s1, .int .i64 s2] 30)).setCell ⟨w.heap.size + 1 + 1, 0, none⟩ (.int .i64 0)).setCell ⟨w.heap.size + 1 + 1, 1, none⟩ (.int .i64 0)).setCell ⟨w.heap.size + 1 + 1, 2, none⟩ (.int .i64 0)).setCell ⟨w.heap.size + 1 + 1, 3, none⟩ (.int .i64 0)).cell? ⟨w.heap.size + 1 + 1, 3, none⟩ = some (.int .i64 0) := (o4.2 3 _ rfl).1
      try simp only [Exit.inBlock, Exit.then]
      exact bodyPost_ret (v := .tuple #[.agg #[.int .i64 0, .int .i64 0, .int .i64 0, .int .i64 0], .bool false]) (by simp [results, Tryz.results144, go_sem, ca0_0, ca0_1, ca0_2, ca0_3]) rfl ⟨ls_ret HX.out, HK.out⟩
    · skip
      have HX := hid (two_yes H1.out H2.out)
      obtain ⟨ca11, cb11, fa11, fb11⟩ := id o6
      obtain ⟨ca12, cb12, fa12, fb12⟩ := id o8
      have ca13_0 : (w8.alloc (.cells #[.int .i64 s1, .int .i64 s2] 30)).cell? ⟨w.heap.size + 1 + 1, 0, none⟩ = some (.int .i64 0) := (o4.2 0 _ rfl).1
      have fa13_0 : (w8.alloc (.cells #[.int .i64 s1, .int .i64 s2] 30)).frozen? ⟨w.heap.size + 1 + 1, 0, none⟩ = false := (o4.2 0 _ rfl).2
      have ca13_1 : (w8.alloc (.cells #[.int .i64 s1, .int .i64 s2] 30)).cell? ⟨w.heap.size + 1 + 1, 1, none⟩ = some (.int .i64 0) := (o4.2 1 _ rfl).1
      have fa13_1 : (w8.alloc (.cells #[.int .i64 s1, .int .i64 s2] 30)).frozen? ⟨w.heap.size + 1 + 1, 1, none⟩ = false := (o4.2 1 _ rfl).2
      have ca13_2 : (w8.alloc (.cells #[.int .i64 s1, .int .i64 s2] 30)).cell? ⟨w.heap.size + 1 + 1, 2, none⟩ = some (.int .i64 0) := (o4.2 2 _ rfl).1
      have fa13_2 : (w8.alloc (.cells #[.int .i64 s1, .int .i64 s2] 30)).frozen? ⟨w.heap.size + 1 + 1, 2, none⟩ = false := (o4.2 2 _ rfl).2
      have ca13_3 : (w8.alloc (.cells #[.int .i64 s1, .int .i64 s2] 30)).cell? ⟨w.heap.size + 1 + 1, 3, none⟩ = some (.int .i64 0) := (o4.2 3 _ rfl).1
      have fa13_3 : (w8.alloc (.cells #[.int .i64 s1, .int .i64 s2] 30)).frozen? ⟨w.heap.size + 1 + 1, 3, none⟩ = false := (o4.2 3 _ rfl).2
      replace o2 := o2.far (p := ⟨w.heap.size + 1 + 1, 0, none⟩) (by show _ ≠ (w.heap.size + 1 + 1); omega) (.int .i64 r1)
      replace o3 := o3.far (p := ⟨w.heap.size + 1 + 1, 0, none⟩) (by show _ ≠ (w.heap.size + 1 + 1); omega) (.int .i64 r1)
      replace o6 := o6.far (p := ⟨w.heap.size + 1 + 1, 0, none⟩) (by show _ ≠ (w.heap.size + 1 + 1); omega) (.int .i64 r1)
      replace o8 := o8.far (p := ⟨w.heap.size + 1 + 1, 0, none⟩) (by show _ ≠ (w.heap.size + 1 + 1); omega) (.int .i64 r1)
      replace kw := Below.setCell kw (p := ⟨w.heap.size + 1 + 1, 0, none⟩) (by show _ ≤ (w.heap.size + 1 + 1); omega) (.int .i64 r1)
      replace o4 : Bl ((w8.alloc (.cells #[.int .i64 s1, .int .i64 s2] 30)).setCell ⟨w.heap.size + 1 + 1, 0, none⟩ (.int .i64 r1)) (w.heap.size + 1 + 1) [.int .i64 r1, .int .i64 0, .int .i64 0, .int .i64 0] := o4.set 0 (.int .i64 r1)
      replace o2 := o2.far (p := ⟨w.heap.size + 1 + 1, 1, none⟩) (by show _ ≠ (w.heap.size + 1 + 1); omega) (.int .i64 r2)
      replace o3 := o3.far (p := ⟨w.heap.size + 1 + 1, 1, none⟩) (by show _ ≠ (w.heap.size + 1 + 1); omega) (.int .i64 r2)
      replace o6 := o6.far (p := ⟨w.heap.size + 1 + 1, 1, none⟩) (by show _ ≠ (w.heap.size + 1 + 1); omega) (.int .i64 r2)
      replace o8 := o8.far (p := ⟨w.heap.size + 1 + 1, 1, none⟩) (by show _ ≠ (w.heap.size + 1 + 1); omega) (.int .i64 r2)
      replace kw := Below.setCell kw (p := ⟨w.heap.size + 1 + 1, 1, none⟩) (by show _ ≤ (w.heap.size + 1 + 1); omega) (.int .i64 r2)
      replace o4 : Bl (((w8.alloc (.cells #[.int .i64 s1, .int .i64 s2] 30)).setCell ⟨w.heap.size + 1 + 1, 0, none⟩ (.int .i64 r1)).setCell ⟨w.heap.size + 1 + 1, 1, none⟩ (.int .i64 r2)) (w.heap.size + 1 + 1) [.int .i64 r1, .int .i64 r2, .int .i64 0, .int .i64 0] := o4.set 1 (.int .i64 r2)
      replace o2 := o2.far (p := ⟨w.heap.size + 1 + 1, 2, none⟩) (by show _ ≠ (w.heap.size + 1 + 1); omega) (.int .i64 s1)
      replace o3 := o3.far (p := ⟨w.heap.size + 1 + 1, 2, none⟩) (by show _ ≠ (w.heap.size + 1 + 1); omega) (.int .i64 s1)
      replace o6 := o6.far (p := ⟨w.heap.size + 1 + 1, 2, none⟩) (by show _ ≠ (w.heap.size + 1 + 1); omega) (.int .i64 s1)
      replace o8 := o8.far (p := ⟨w.heap.size + 1 + 1, 2, none⟩) (by show _ ≠ (w.heap.size + 1 + 1); omega) (.int .i64 s1)
      replace kw := Below.setCell kw (p := ⟨w.heap.size + 1 + 1, 2, none⟩) (by show _ ≤ (w.heap.size + 1 + 1); omega) (.int .i64 s1)
      replace o4 : Bl ((((w8.alloc (.cells #[.int .i64 s1, .int .i64 s2] 30)).setCell ⟨w.heap.size + 1 + 1, 0, none⟩ (.int .i64 r1)).setCell ⟨w.heap.size + 1 + 1, 1, none⟩ (.int .i64 r2)).setCell ⟨w.heap.size + 1 + 1, 2, none⟩ (.int .i64 s1)) (w.heap.size + 1 + 1) [.int .i64 r1, .int .i64 r2, .int .i64 s1, .int .i64 0] := o4.set 2 (.int .i64 s1)
      replace o2 := o2.far (p := ⟨w.heap.size + 1 + 1, 3, none⟩) (by show _ ≠ (w.heap.size + 1 + 1); omega) (.int .i64 s2)
      replace o3 := o3.far (p := ⟨w.heap.size + 1 + 1, 3, none⟩) (by show _ ≠ (w.heap.size + 1 + 1); omega) (.int .i64 s2)
      replace o6 := o6.far (p := ⟨w.heap.size + 1 + 1, 3, none⟩) (by show _ ≠ (w.heap.size + 1 + 1); omega) (.int .i64 s2)
      replace o8 := o8.far (p := ⟨w.heap.size + 1 + 1, 3, none⟩) (by show _ ≠ (w.heap.size + 1 + 1); omega) (.int .i64 s2)
      replace kw := Below.setCell kw (p := ⟨w.heap.size + 1 + 1, 3, none⟩) (by show _ ≤ (w.heap.size + 1 + 1); omega) (.int .i64 s2)
      replace o4 : Bl (((((w8.alloc (.cells #[.int .i64 s1, .int .i64 s2] 30)).setCell ⟨w.heap.size + 1 + 1, 0, none⟩ (.int .i64 r1)).setCell ⟨w.heap.size + 1 + 1, 1, none⟩ (.int .i64 r2)).setCell ⟨w.heap.size + 1 + 1, 2, none⟩ (.int .i64 s1)).setCell ⟨w.heap.size + 1 + 1, 3, none⟩ (.int .i64 s2)) (w.heap.size + 1 + 1) [.int .i64 r1, .int .i64 r2, .int .i64 s1, .int .i64 s2] := o4.set 3 (.int .i64 s2)
      have HK := hid kw
      clear kw
      go_wp2_with fail
      clear ca11 cb11 fa11 fb11 ca12 cb12 fa12 fb12 ca13_0 fa13_0 ca13_1 fa13_1 ca13_2 fa13_2 ca13_3 fa13_3
      have ca0_0 : (((((w8.alloc (.cells #[.int .i64 s1, .int .i64 s2] 30)).setCell ⟨w.heap.size + 1 + 1, 0, none⟩ (.int .i64 r1)).setCell ⟨w.heap.size + 1 + 1, 1, none⟩ (.int .i64 r2)).setCell ⟨w.heap.size + 1 + 1, 2, none⟩ (.int .i64 s1)).setCell ⟨w.heap.size + 1 + 1, 3, none⟩ (.int .i64 s2)).cell? ⟨w.heap.size + 1 + 1, 0, none⟩ = some (.int .i64 r1) := (o4.2 0 _ rfl).1
      have ca0_1 : (((((w8.alloc (.cells #[.int .i64 s1, .int .i64 s2] 30)).setCell ⟨w.heap.size + 1 + 1, 0, none⟩ (.int .i64 r1)).setCell ⟨w.heap.size + 1 + 1, 1, none⟩ (.int .i64 r2)).setCell ⟨w.heap.size + 1 + 1, 2, none⟩ (.int .i64 s1)).setCell ⟨w.heap.size + 1 + 1, 3, none⟩ (.int .i64 s2)).cell? ⟨w.heap.size + 1 + 1, 1, none⟩ = some (.int .i64 r2) := (o4.2 1 _ rfl).1
      have ca0_2 : (((((w8.alloc (.cells #[.int .i64 s1, .int .i64 s2] 30)).setCell ⟨w.heap.size + 1 + 1, 0, none⟩ (.int .i64 r1)).setCell ⟨w.heap.size + 1 + 1, 1, none⟩ (.int .i64 r2)).setCell ⟨w.heap.size + 1 + 1, 2, none⟩ (.int .i64 s1)).setCell ⟨w.heap.size + 1 + 1, 3, none⟩ (.int .i64 s2)).cell? ⟨w.heap.size + 1 + 1, 2, none⟩ = some (.int .i64 s1) := (o4.2 2 _ rfl).1
      have ca0_3 : (((((w8.alloc (.cells #[.int .i64 s1, .int .i64 s2] 30)).setCell ⟨w.heap.size + 1 + 1, 0, none⟩ (.int .i64 r1)).setCell ⟨w.heap.size + 1 + 1, 1, none⟩ (.int .i64 r2)).setCell ⟨w.heap.size + 1 + 1, 2, none⟩ (.int .i64 s1)).setCell ⟨w.heap.size + 1 + 1, 3, none⟩ (.int .i64 s2)).cell? ⟨w.heap.size + 1 + 1, 3, none⟩ = some (.int .i64 s2) := (o4.2 3 _ rfl).1
      try simp only [Exit.inBlock, Exit.then]
      exact bodyPost_ret (v := .tuple #[.agg #[.int .i64 r1, .int .i64 r2, .int .i64 s1, .int .i64 s2], .bool true]) (by simp [results, Tryz.results144, go_sem, ca0_0, ca0_1, ca0_2, ca0_3]) rfl ⟨ls_ret HX.out, HK.out⟩
set_option maxRecDepth 100000 in
set_option maxHeartbeats 3200000 in
theorem pTwo_any {a1 a2 a3 a4 b1 b2 b3 b4 : Int} {w : World} (ha : lsB (a1, a2, a3, a4) = true) (hb : lsB (b1, b2, b3, b4) = true) :
    Calls Tryz.prog 198 #[.agg #[.int .i64 a1, .int .i64 a2, .int .i64 a3, .int .i64 a4], .agg #[.int .i64 b1, .int .i64 b2, .int .i64 b3, .int .i64 b4]] w fun e w' => e = .returned (lossV (two (a1, a2, a3, a4) (b1, b2, b3, b4))) ∧ Keeps w w' := by
  have HA := hid (frac_of_loss ha)
  have HB := hid (frac_of_loss hb)
  clear ha hb
  obtain ⟨r1, r2, r3, H1⟩ : ∃ r1 r2 r3, Hid (mkF (a1 * b1) (a2 * b2) = (r1, r2, r3)) := ⟨_, _, _, rfl⟩
  obtain ⟨s1, s2, s3, H2⟩ : ∃ r1 r2 r3, Hid (mkF (a3 * b4 + b3 * a4) (a4 * b4) = (r1, r2, r3)) := ⟨_, _, _, rfl⟩
  go_enter Tryz.func198, Tryz.ntmps198
  have kw := keeps_refl w
  replace kw := Keeps.trans kw (keeps_alloc w (.cells #[.int .i64 a1, .int .i64 a2, .int .i64 a3, .int .i64 a4] 32))
  have o2 : Bl (w.alloc (.cells #[.int .i64 a1, .int .i64 a2, .int .i64 a3, .int .i64 a4] 32)) w.heap.size [.int .i64 a1, .int .i64 a2, .int .i64 a3, .int .i64 a4] := Bl.new' (by simp) (by simp)
  replace o2 := o2.keeps (keeps_alloc (w.alloc (.cells #[.int .i64 a1, .int .i64 a2, .int .i64 a3, .int .i64 a4] 32)) (.cells #[.int .i64 b1, .int .i64 b2, .int .i64 b3, .int .i64 b4] 32))
  replace kw := Keeps.trans kw (keeps_alloc (w.alloc (.cells #[.int .i64 a1, .int .i64 a2, .int .i64 a3, .int .i64 a4] 32)) (.cells #[.int .i64 b1, .int .i64 b2, .int .i64 b3, .int .i64 b4] 32))
  have o3 : Bl ((w.alloc (.cells #[.int .i64 a1, .int .i64 a2, .int .i64 a3, .int .i64 a4] 32)).alloc (.cells #[.int .i64 b1, .int .i64 b2, .int .i64 b3, .int .i64 b4] 32)) (w.heap.size + 1) [.int .i64 b1, .int .i64 b2, .int .i64 b3, .int .i64 b4] := Bl.new' (by simp) (by simp)
  replace o2 := o2.keeps (keeps_alloc ((w.alloc (.cells #[.int .i64 a1, .int .i64 a2, .int .i64 a3, .int .i64 a4] 32)).alloc (.cells #[.int .i64 b1, .int .i64 b2, .int .i64 b3, .int .i64 b4] 32)) (.cells #[.int .i64 0, .int .i64 0, .int .i64 0, .int .i64 0] 32))
  replace o3 := o3.keeps (keeps_alloc ((w.alloc (.cells #[.int .i64 a1, .int .i64 a2, .int .i64 a3, .int .i64 a4] 32)).alloc (.cells #[.int .i64 b1, .int .i64 b2, .int .i64 b3, .int .i64 b4] 32)) (.cells #[.int .i64 0, .int .i64 0, .int .i64 0, .int .i64 0] 32))
  replace kw := Keeps.trans kw (keeps_alloc ((w.alloc (.cells #[.int .i64 a1, .int .i64 a2, .int .i64 a3, .int .i64 a4] 32)).alloc (.cells #[.int .i64 b1, .int .i64 b2, .int .i64 b3, .int .i64 b4] 32)) (.cells #[.int .i64 0, .int .i64 0, .int .i64 0, .int .i64 0] 32))
  have o4 : Bl (((w.alloc (.cells #[.int .i64 a1, .int .i64 a2, .int .i64 a3, .int .i64 a4] 32)).alloc (.cells #[.int .i64 b1, .int .i64 b2, .int .i64 b3, .int .i64 b4] 32)).alloc (.cells #[.int .i64 0, .int .i64 0, .int .i64 0, .int .i64 0] 32)) (w.heap.size + 1 + 1) [.int .i64 0, .int .i64 0, .int .i64 0, .int .i64 0] := Bl.new' (by simp) (by simp)
  have ca1_0 : (((w.alloc (.cells #[.int .i64 a1, .int .i64 a2, .int .i64 a3, .int .i64 a4] 32)).alloc (.cells #[.int .i64 b1, .int .i64 b2, .int .i64 b3, .int .i64 b4] 32)).alloc (.cells #[.int .i64 0, .int .i64 0, .int .i64 0, .int .i64 0] 32)).cell? ⟨w.heap.size, 0, none⟩ = some (.int .i64 a1) := (o2.2 0 _ rfl).1
  have ca1_1 : (((w.alloc (.cells #[.int .i64 a1, .int .i64 a2, .int .i64 a3, .int .i64 a4] 32)).alloc (.cells #[.int .i64 b1, .int .i64 b2, .int .i64 b3, .int .i64 b4] 32)).alloc (.cells #[.int .i64 0, .int .i64 0, .int .i64 0, .int .i64 0] 32)).cell? ⟨w.heap.size, 1, none⟩ = some (.int .i64 a2) := (o2.2 1 _ rfl).1
  have ca1_2 : (((w.alloc (.cells #[.int .i64 a1, .int .i64 a2, .int .i64 a3, .int .i64 a4] 32)).alloc (.cells #[.int .i64 b1, .int .i64 b2, .int .i64 b3, .int .i64 b4] 32)).alloc (.cells #[.int .i64 0, .int .i64 0, .int .i64 0, .int .i64 0] 32)).cell? ⟨w.heap.size, 2, none⟩ = some (.int .i64 a3) := (o2.2 2 _ rfl).1
  have ca1_3 : (((w.alloc (.cells #[.int .i64 a1, .int .i64 a2, .int .i64 a3, .int .i64 a4] 32)).alloc (.cells #[.int .i64 b1, .int .i64 b2, .int .i64 b3, .int .i64 b4] 32)).alloc (.cells #[.int .i64 0, .int .i64 0, .int .i64 0, .int .i64 0] 32)).cell? ⟨w.heap.size, 3, none⟩ = some (.int .i64 a4) := (o2.2 3 _ rfl).1
  have ca2_0 : (((w.alloc (.cells #[.int .i64 a1, .int .i64 a2, .int .i64 a3, .int .i64 a4] 32)).alloc (.cells #[.int .i64 b1, .int .i64 b2, .int .i64 b3, .int .i64 b4] 32)).alloc (.cells #[.int .i64 0, .int .i64 0, .int .i64 0, .int .i64 0] 32)).cell? ⟨w.heap.size + 1, 0, none⟩ = some (.int .i64 b1) := (o3.2 0 _ rfl).1
  have ca2_1 : (((w.alloc (.cells #[.int .i64 a1, .int .i64 a2, .int .i64 a3, .int .i64 a4] 32)).alloc (.cells #[.int .i64 b1, .int .i64 b2, .int .i64 b3, .int .i64 b4] 32)).alloc (.cells #[.int .i64 0, .int .i64 0, .int .i64 0, .int .i64 0] 32)).cell? ⟨w.heap.size + 1, 1, none⟩ = some (.int .i64 b2) := (o3.2 1 _ rfl).1
  have ca2_2 : (((w.alloc (.cells #[.int .i64 a1, .int .i64 a2, .int .i64 a3, .int .i64 a4] 32)).alloc (.cells #[.int .i64 b1, .int .i64 b2, .int .i64 b3, .int .i64 b4] 32)).alloc (.cells #[.int .i64 0, .int .i64 0, .int .i64 0, .int .i64 0] 32)).cell? ⟨w.heap.size + 1, 2, none⟩ = some (.int .i64 b3) := (o3.2 2 _ rfl).1
  have ca2_3 : (((w.alloc (.cells #[.int .i64 a1, .int .i64 a2, .int .i64 a3, .int .i64 a4] 32)).alloc (.cells #[.int .i64 b1, .int .i64 b2, .int .i64 b3, .int .i64 b4] 32)).alloc (.cells #[.int .i64 0, .int .i64 0, .int .i64 0, .int .i64 0] 32)).cell? ⟨w.heap.size + 1, 3, none⟩ = some (.int .i64 b4) := (o3.2 3 _ rfl).1
  go_wp2_with fail
  clear ca1_0 ca1_1 ca1_2 ca1_3 ca2_0 ca2_1 ca2_2 ca2_3
  refine (fMul_any HA.out.2.1 HB.out.2.1).mono ?_
  rintro e w3 ⟨rfl, k3⟩
  rw [H1.out]
  replace o2 := o2.keeps k3
  replace o3 := o3.keeps k3
  replace o4 := o4.keeps k3
  replace kw := Keeps.trans kw k3
  have lt4 := o4.lt
  have sz5 := kw.size
  clear k3
  replace o2 := o2.keeps (keeps_alloc w3 (.cells #[.int .i64 r1, .int .i64 r2] 30))
  replace o3 := o3.keeps (keeps_alloc w3 (.cells #[.int .i64 r1, .int .i64 r2] 30))
  replace o4 := o4.keeps (keeps_alloc w3 (.cells #[.int .i64 r1, .int .i64 r2] 30))
  replace kw := Keeps.trans kw (keeps_alloc w3 (.cells #[.int .i64 r1, .int .i64 r2] 30))
  have o6 : Bx (w3.alloc (.cells #[.int .i64 r1, .int .i64 r2] 30)) w3.heap.size r1 r2 := Bx.new' (by simp)
  have ca6_0 : (w3.alloc (.cells #[.int .i64 r1, .int .i64 r2] 30)).cell? ⟨w.heap.size, 0, none⟩ = some (.int .i64 a1) := (o2.2 0 _ rfl).1
  have ca6_1 : (w3.alloc (.cells #[.int .i64 r1, .int .i64 r2] 30)).cell? ⟨w.heap.size, 1, none⟩ = some (.int .i64 a2) := (o2.2 1 _ rfl).1
  have ca6_2 : (w3.alloc (.cells #[.int .i64 r1, .int .i64 r2] 30)).cell? ⟨w.heap.size, 2, none⟩ = some (.int .i64 a3) := (o2.2 2 _ rfl).1
  have ca6_3 : (w3.alloc (.cells #[.int .i64 r1, .int .i64 r2] 30)).cell? ⟨w.heap.size, 3, none⟩ = some (.int .i64 a4) := (o2.2 3 _ rfl).1
  have ca7_0 : (w3.alloc (.cells #[.int .i64 r1, .int .i64 r2] 30)).cell? ⟨w.heap.size + 1, 0, none⟩ = some (.int .i64 b1) := (o3.2 0 _ rfl).1
  have ca7_1 : (w3.alloc (.cells #[.int .i64 r1, .int .i64 r2] 30)).cell? ⟨w.heap.size + 1, 1, none⟩ = some (.int .i64 b2) := (o3.2 1 _ rfl).1
  have ca7_2 : (w3.alloc (.cells #[.int .i64 r1, .int .i64 r2] 30)).cell? ⟨w.heap.size + 1, 2, none⟩ = some (.int .i64 b3) := (o3.2 2 _ rfl).1
  have ca7_3 : (w3.alloc (.cells #[.int .i64 r1, .int .i64 r2] 30)).cell? ⟨w.heap.size + 1, 3, none⟩ = some (.int .i64 b4) := (o3.2 3 _ rfl).1
  go_wp2_with fail
  clear ca6_0 ca6_1 ca6_2 ca6_3 ca7_0 ca7_1 ca7_2 ca7_3
  refine (fAdd_any HA.out.2.2 HB.out.2.2).mono ?_
  rintro e w8 ⟨rfl, k8⟩
  rw [H2.out]
  replace o2 := o2.keeps k8
  replace o3 := o3.keeps k8
  replace o4 := o4.keeps k8
  replace o6 := o6.keeps k8
  replace kw := Keeps.trans kw k8
  have lt9 := o6.lt
  have sz10 := kw.size
  clear k8
  replace o2 := o2.keeps (keeps_alloc w8 (.cells #[.int .i64 s1, .int .i64 s2] 30))
  replace o3 := o3.keeps (keeps_alloc w8 (.cells #[.int .i64 s1, .int .i64 s2] 30))
  replace o4 := o4.keeps (keeps_alloc w8 (.cells #[.int .i64 s1, .int .i64 s2] 30))
  replace o6 := o6.keeps (keeps_alloc w8 (.cells #[.int .i64 s1, .int .i64 s2] 30))
  replace kw := Keeps.trans kw (keeps_alloc w8 (.cells #[.int .i64 s1, .int .i64 s2] 30))
  have o8 : Bx (w8.alloc (.cells #[.int .i64 s1, .int .i64 s2] 30)) w8.heap.size s1 s2 := Bx.new' (by simp)
  cases r3
  · have HX := hid (two_no1 (a3 := a3) (a4 := a4) (b3 := b3) (b4 := b4) H1.out)
    have ca11_0 : (w8.alloc (.cells #[.int .i64 s1, .int .i64 s2] 30)).cell? ⟨w.heap.size + 1 + 1, 0, none⟩ = some (.int .i64 0) := (o4.2 0 _ rfl).1
    have fa11_0 : (w8.alloc (.cells #[.int .i64 s1, .int .i64 s2] 30)).frozen? ⟨w.heap.size + 1 + 1, 0, none⟩ = false := (o4.2 0 _ rfl).2
    have ca11_1 : (w8.alloc (.cells #[.int .i64 s1, .int .i64 s2] 30)).cell? ⟨w.heap.size + 1 + 1, 1, none⟩ = some (.int .i64 0) := (o4.2 1 _ rfl).1
    have fa11_1 : (w8.alloc (.cells #[.int .i64 s1, .int .i64 s2] 30)).frozen? ⟨w.heap.size + 1 + 1, 1, none⟩ = false := (o4.2 1 _ rfl).2
    have ca11_2 : (w8.alloc (.cells #[.int .i64 s1, .int .i64 s2] 30)).cell? ⟨w.heap.size + 1 + 1, 2, none⟩ = some (.int .i64 0) := (o4.2 2 _ rfl).1
    have fa11_2 : (w8.alloc (.cells #[.int .i64 s1, .int .i64 s2] 30)).frozen? ⟨w.heap.size + 1 + 1, 2, none⟩ = false := (o4.2 2 _ rfl).2
    have ca11_3 : (w8.alloc (.cells #[.int .i64 s1, .int .i64 s2] 30)).cell? ⟨w.heap.size + 1 + 1, 3, none⟩ = some (.int .i64 0) := (o4.2 3 _ rfl).1
    have fa11_3 : (w8.alloc (.cells #[.int .i64 s1, .int .i64 s2] 30)).frozen? ⟨w.heap.size + 1 + 1, 3, none⟩ = false := (o4.2 3 _ rfl).2
    replace o2 := o2.far (p := ⟨w.heap.size + 1 + 1, 0, none⟩) (by show _ ≠ (w.heap.size + 1 + 1); omega) (.int .i64 0)
    replace o3 := o3.far (p := ⟨w.heap.size + 1 + 1, 0, none⟩) (by show _ ≠ (w.heap.size + 1 + 1); omega) (.int .i64 0)
    replace o6 := o6.far (p := ⟨w.heap.size + 1 + 1, 0, none⟩) (by show _ ≠ (w.heap.size + 1 + 1); omega) (.int .i64 0)
    replace o8 := o8.far (p := ⟨w.heap.size + 1 + 1, 0, none⟩) (by show _ ≠ (w.heap.size + 1 + 1); omega) (.int .i64 0)
    replace kw := Below.setCell kw (p := ⟨w.heap.size + 1 + 1, 0, none⟩) (by show _ ≤ (w.heap.size + 1 + 1); omega) (.int .i64 0)
    replace o4 : Bl ((w8.alloc (.cells #[.int .i64 s1, .int .i64 s2] 30)).setCell ⟨w.heap.size + 1 + 1, 0, none⟩ (.int .i64 0)) (w.heap.size + 1 + 1) [.int .i64 0, .int .i64 0, .int .i64 0, .int .i64 0] := o4.set 0 (.int .i64 0)
    replace o2 := o2.far (p := ⟨w.heap.size + 1 + 1, 1, none⟩) (by show _ ≠ (w.heap.size + 1 + 1); omega) (.int .i64 0)
    replace o3 := o3.far (p := ⟨w.heap.size + 1 + 1, 1, none⟩) (by show _ ≠ (w.heap.size + 1 + 1); omega) (.int .i64 0)
    replace o6 := o6.far (p := ⟨w.heap.size + 1 + 1, 1, none⟩) (by show _ ≠ (w.heap.size + 1 + 1); omega) (.int .i64 0)
    replace o8 := o8.far (p := ⟨w.heap.size + 1 + 1, 1, none⟩) (by show _ ≠ (w.heap.size + 1 + 1); omega) (.int .i64 0)
    replace kw := Below.setCell kw (p := ⟨w.heap.size + 1 + 1, 1, none⟩) (by show _ ≤ (w.heap.size + 1 + 1); omega) (.int .i64 0)
    replace o4 : Bl (((w8.alloc (.cells #[.int .i64 s1, .int .i64 s2] 30)).setCell ⟨w.heap.size + 1 + 1, 0, none⟩ (.int .i64 0)).setCell ⟨w.heap.size + 1 + 1, 1, none⟩ (.int .i64 0)) (w.heap.size + 1 + 1) [.int .i64 0, .int .i64 0, .int .i64 0, .int .i64 0] := o4.set 1 (.int .i64 0)
    replace o2 := o2.far (p := ⟨w.heap.size + 1 + 1, 2, none⟩) (by show _ ≠ (w.heap.size + 1 + 1); omega) (.int .i64 0)
    replace o3 := o3.far (p := ⟨w.heap.size + 1 + 1, 2, none⟩) (by show _ ≠ (w.heap.size + 1 + 1); omega) (.int .i64 0)
    replace o6 := o6.far (p := ⟨w.heap.size + 1 + 1, 2, none⟩) (by show _ ≠ (w.heap.size + 1 + 1); omega) (.int .i64 0)
    replace o8 := o8.far (p := ⟨w.heap.size + 1 + 1, 2, none⟩) (by show _ ≠ (w.heap.size + 1 + 1); omega) (.int .i64 0)
    replace kw := Below.setCell kw (p := ⟨w.heap.size + 1 + 1, 2, none⟩) (by show _ ≤ (w.heap.size + 1 + 1); omega) (.int .i64 0)
    replace o4 : Bl ((((w8.alloc (.cells #[.int .i64 s1, .int .i64 s2] 30)).setCell ⟨w.heap.size + 1 + 1, 0, none⟩ (.int .i64 0)).setCell ⟨w.heap.size + 1 + 1, 1, none⟩ (.int .i64 0)).setCell ⟨w.heap.size + 1 + 1, 2, none⟩ (.int .i64 0)) (w.heap.size + 1 + 1) [.int .i64 0, .int .i64 0, .int .i64 0, .int .i64 0] := o4.set 2 (.int .i64 0)
    replace o2 := o2.far (p := ⟨w.heap.size + 1 + 1, 3, none⟩) (by show _ ≠ (w.heap.size + 1 + 1); omega) (.int .i64 0)
    replace o3 := o3.far (p := ⟨w.heap.size + 1 + 1, 3, none⟩) (by show _ ≠ (w.heap.size + 1 + 1); omega) (.int .i64 0)
    replace o6 := o6.far (p := ⟨w.heap.size + 1 + 1, 3, none⟩) (by show _ ≠ (w.heap.size + 1 + 1); omega) (.int .i64 0)
    replace o8 := o8.far (p := ⟨w.heap.size + 1 + 1, 3, none⟩) (by show _ ≠ (w.heap.size + 1 + 1); omega) (.int .i64 0)
    replace kw := Below.setCell kw (p := ⟨w.heap.size + 1 + 1, 3, none⟩) (by show _ ≤ (w.heap.size + 1 + 1); omega) (.int .i64 0)
    replace o4 : Bl (((((w8.alloc (.cells #[.int .i64 s1, .int .i64 s2] 30)).setCell ⟨w.heap.size + 1 + 1, 0, none⟩ (.int .i64 0)).setCell ⟨w.heap.size + 1 + 1, 1, none⟩ (.int .i64 0)).setCell ⟨w.heap.size + 1 + 1, 2, none⟩ (.int .i64 0)).setCell ⟨w.heap.size + 1 + 1, 3, none⟩ (.int .i64 0)) (w.heap.size + 1 + 1) [.int .i64 0, .int .i64 0, .int .i64 0, .int .i64 0] := o4.set 3 (.int .i64 0)
    have HK := hid kw
    clear kw lt9
    go_wp2_with fail
    clear ca11_0 fa11_0 ca11_1 fa11_1 ca11_2 fa11_2 ca11_3 fa11_3
    have ca0_0 : (((((w8.alloc (.cells #[.int .i64 s1, .int .i64 s2] 30)).setCell ⟨w.heap.size + 1 + 1, 0, none⟩ (.int .i64 0)).setCell ⟨w.heap.size + 1 + 1, 1, none⟩ (.int .i64 0)).setCell ⟨w.heap.size + 1 + 1, 2, none⟩ (.int .i64 0)).setCell ⟨w.heap.size + 1 + 1, 3, none⟩ (.int .i64 0)).cell? ⟨w.heap.size + 1 + 1, 0, none⟩ = some (.int .i64 0) := (o4.2 0 _ rfl).1
    have ca0_1 : (((((w8.alloc (.cells #[.int .i64 s1, .int .i64 s2] 30)).setCell ⟨w.heap.size + 1 + 1, 0, none⟩ (.int .i64 0)).setCell ⟨w.heap.size + 1 + 1, 1, none⟩ (.int .i64 0)).setCell ⟨w.heap.size + 1 + 1, 2, none⟩ (.int .i64 0)).setCell ⟨w.heap.size + 1 + 1, 3, none⟩ (.int .i64 0)).cell? ⟨w.heap.size + 1 + 1, 1, none⟩ = some (.int .i64 0) := (o4.2 1 _ rfl).1
    have ca0_2 : (((((w8.alloc (.cells #[.int .i64 s1, .int .i64 s2] 30)).setCell ⟨w.heap.size + 1 + 1, 0, none⟩ (.int .i64 0)).setCell ⟨w.heap.size + 1 + 1, 1, none⟩ (.int .i64 0)).setCell ⟨w.heap.size + 1 + 1, 2, none⟩ (.int .i64 0)).setCell ⟨w.heap.size + 1 + 1, 3, none⟩ (.int .i64 0)).cell? ⟨w.heap.size + 1 + 1, 2, none⟩ = some (.int .i64 0) := (o4.2 2 _ rfl).1
    have ca0_3 : (((((w8.alloc (.cells #[.int .i64 s1, .int .i64 s2] 30)).setCell ⟨w.heap.size + 1 + 1, 0, none⟩ (.int .i64 0)).setCell ⟨w.heap.size + 1 + 1, 1, none⟩ (.int .i64 0)).setCell ⟨w.heap.size + 1 + 1, 2, none⟩ (.int .i64 0)).setCell ⟨w.heap.size + 1 + 1, 3, none⟩ (.int .i64 0)).cell? ⟨w.heap.size + 1 + 1, 3, none⟩ = some (.int .i64 0) := (o4.2 3 _ rfl).1
    try simp only [Exit.inBlock, Exit.then]
    exact bodyPost_ret (v := .tuple #[.agg #[.int .i64 0, .int .i64 0, .int .i64 0, .int .i64 0], .bool false]) (by simp [results, Tryz.results198, go_sem, ca0_0, ca0_1, ca0_2, ca0_3]) rfl ⟨ls_ret HX.out, HK.out⟩
  · skip
    cases s3
    · have HX := hid (two_no2 (a1 := a1) (a2 := a2) (b1 := b1) (b2 := b2) H2.out)
      have ca11_0 : (w8.alloc (.cells #[.int .i64 s1, .int .i64 s2] 30)).cell? ⟨w.heap.size + 1 + 1, 0, none⟩ = some (.int .i64 0) := (o4.2 0 _ rfl).1
      have fa11_0 : (w8.alloc (.cells #[.int .i64 s1, .int .i64 s2] 30)).frozen? ⟨w.heap.size + 1 + 1, 0, none⟩ = false := (o4.2 0 _ rfl).2
      have ca11_1 : (w8.alloc (.cells #[.int .i64 s1, .int .i64 s2] 30)).cell? ⟨w.heap.size + 1 + 1, 1, none⟩ = some (.int .i64 0) := (o4.2 1 _ rfl).1
      have fa11_1 : (w8.alloc (.cells #[.int .i64 s1, .int .i64 s2] 30)).frozen? ⟨w.heap.size + 1 + 1, 1, none⟩ = false := (o4.2 1 _ rfl).2
      have ca11_2 : (w8.alloc (.cells #[.int .i64 s1, .int .i64 s2] 30)).cell? ⟨w.heap.size + 1 + 1, 2, none⟩ = some (.int .i64 0) := (o4.2 2 _ rfl).1
      have fa11_2 : (w8.alloc (.cells #[.int .i64 s1, .int .i64 s2] 30)).frozen? ⟨w.heap.size + 1 + 1, 2, none⟩ = false := (o4.2 2 _ rfl).2
      have ca11_3 : (w8.alloc (.cells #[.int .i64 s1, .int .i64 s2] 30)).cell? ⟨w.heap.size + 1 + 1, 3, none⟩ = some (.int .i64 0) := (o4.2 3 _ rfl).1
      have fa11_3 : (w8.alloc (.cells #[.int .i64 s1, .int .i64 s2] 30)).frozen? ⟨w.heap.size + 1 + 1, 3, none⟩ = false := (o4.2 3 _ rfl).2
      replace o2 := o2.far (p := ⟨w.heap.size + 1 + 1, 0, none⟩) (by show _ ≠ (w.heap.size + 1 + 1); omega) (.int .i64 0)
      replace o3 := o3.far (p := ⟨w.heap.size + 1 + 1, 0, none⟩) (by show _ ≠ (w.heap.size + 1 + 1); omega) (.int .i64 0)
      replace o6 := o6.far (p := ⟨w.heap.size + 1 + 1, 0, none⟩) (by show _ ≠ (w.heap.size + 1 + 1); omega) (.int .i64 0)
      replace o8 := o8.far (p := ⟨w.heap.size + 1 + 1, 0, none⟩) (by show _ ≠ (w.heap.size + 1 + 1); omega) (.int .i64 0)
      replace kw := Below.setCell kw (p := ⟨w.heap.size + 1 + 1, 0, none⟩) (by show _ ≤ (w.heap.size + 1 + 1); omega) (.int .i64 0)
      replace o4 : Bl ((w8.alloc (.cells #[.int .i64 s1, .int .i64 s2] 30)).setCell ⟨w.heap.size + 1 + 1, 0, none⟩ (.int .i64 0)) (w.heap.size + 1 + 1) [.int .i64 0, .int .i64 0, .int .i64 0, .int .i64 0] := o4.set 0 (.int .i64 0)
      replace o2 := o2.far (p := ⟨w.heap.size + 1 + 1, 1, none⟩) (by show _ ≠ (w.heap.size + 1 + 1); omega) (.int .i64 0)
      replace o3 := o3.far (p := ⟨w.heap.size + 1 + 1, 1, none⟩) (by show _ ≠ (w.heap.size + 1 + 1); omega) (.int .i64 0)
      replace o6 := o6.far (p := ⟨w.heap.size + 1 + 1, 1, none⟩) (by show _ ≠ (w.heap.size + 1 + 1); omega) (.int .i64 0)
      replace o8 := o8.far (p := ⟨w.heap.size + 1 + 1, 1, none⟩) (by show _ ≠ (w.heap.size + 1 + 1); omega) (.int .i64 0)
      replace kw := Below.setCell kw (p := ⟨w.heap.size + 1 + 1, 1, none⟩) (by show _ ≤ (w.heap.size + 1 + 1); omega) (.int .i64 0)
      replace o4 : Bl (((w8.alloc (.cells #[.int .i64 s1, .int .i64 s2] 30)).setCell ⟨w.heap.size + 1 + 1, 0, none⟩ (.int .i64 0)).setCell ⟨w.heap.size + 1 + 1, 1, none⟩ (.int .i64 0)) (w.heap.size + 1 + 1) [.int .i64 0, .int .i64 0, .int .i64 0, .int .i64 0] := o4.set 1 (.int .i64 0)
      replace o2 := o2.far (p := ⟨w.heap.size + 1 + 1, 2, none⟩) (by show _ ≠ (w.heap.size + 1 + 1); omega) (.int .i64 0)
      replace o3 := o3.far (p := ⟨w.heap.size + 1 + 1, 2, none⟩) (by show _ ≠ (w.heap.size + 1 + 1); omega) (.int .i64 0)
      replace o6 := o6.far (p := ⟨w.heap.size + 1 + 1, 2, none⟩) (by show _ ≠ (w.heap.size + 1 + 1); omega) (.int .i64 0)
      replace o8 := o8.far (p := ⟨w.heap.size + 1 + 1, 2, none⟩) (by show _ ≠ (w.heap.size + 1 + 1); omega) (.int .i64 0)
      replace kw := Below.setCell kw (p := ⟨w.heap.size + 1 + 1, 2, none⟩) (by show _ ≤ (w.heap.size + 1 + 1); omega) (.int .i64 0)
      replace o4 : Bl ((((w8.alloc (.cells #[.int .i64 s1, .int .i64 s2] 30)).setCell ⟨w.heap.size + 1 + 1, 0, none⟩ (.int .i64 0)).setCell ⟨w.heap.size + 1 + 1, 1, none⟩ (.int .i64 0)).setCell ⟨w.heap.size + 1 + 1, 2, none⟩ (.int .i64 0)) (w.heap.size + 1 + 1) [.int .i64 0, .int .i64 0, .int .i64 0, .int .i64 0] := o4.set 2 (.int .i64 0)
      replace o2 := o2.far (p := ⟨w.heap.size + 1 + 1, 3, none⟩) (by show _ ≠ (w.heap.size + 1 + 1); omega) (.int .i64 0)
      replace o3 := o3.far (p := ⟨w.heap.size + 1 + 1, 3, none⟩) (by show _ ≠ (w.heap.size + 1 + 1); omega) (.int .i64 0)
      replace o6 := o6.far (p := ⟨w.heap.size + 1 + 1, 3, none⟩) (by show _ ≠ (w.heap.size + 1 + 1); omega) (.int .i64 0)
      replace o8 := o8.far (p := ⟨w.heap.size + 1 + 1, 3, none⟩) (by show _ ≠ (w.heap.size + 1 + 1); omega) (.int .i64 0)
      replace kw := Below.setCell kw (p := ⟨w.heap.size + 1 + 1, 3, none⟩) (by show _ ≤ (w.heap.size + 1 + 1); omega) (.int .i64 0)
      replace o4 : Bl (((((w8.alloc (.cells #[.int .i64 s1, .int .i64 s2] 30)).setCell ⟨w.heap.size + 1 + 1, 0, none⟩ (.int .i64 0)).setCell ⟨w.heap.size + 1 + 1, 1, none⟩ (.int .i64 0)).setCell ⟨w.heap.size + 1 + 1, 2, none⟩ (.int .i64 0)).setCell ⟨w.heap.size + 1 + 1, 3, none⟩ (.int .i64 0)) (w.heap.size + 1 + 1) [.int .i64 0, .int .i64 0, .int .i64 0, .int .i64 0] := o4.set 3 (.int .i64 0)
      have HK := hid kw
      clear kw lt9
      go_wp2_with fail
      clear ca11_0 fa11_0 ca11_1 fa11_1 ca11_2 fa11_2 ca11_3 fa11_3
      have ca0_0 : (((((w8.alloc (.cells #[.int .i64 s1, .int .i64 s2] 30)).setCell ⟨w.heap.size + 1 + 1, 0, none⟩ (.int .i64 0)).setCell ⟨w.heap.size + 1 + 1, 1, none⟩ (.int .i64 0)).setCell ⟨w.heap.size + 1 + 1, 2, none⟩ (.int .i64 0)).setCell ⟨w.heap.size + 1 + 1, 3, none⟩ (.int .i64 0)).cell? ⟨w.heap.size + 1 + 1, 0, none⟩ = some (.int .i64 0) := (o4.2 0 _ rfl).1
      have ca0_1 : (((((w8.alloc (.cells #[.int .i64 s1, .int .i64 s2] 30)).setCell ⟨w.heap.size + 1 + 1, 0, none⟩ (.int .i64 0)).setCell ⟨w.heap.size + 1 + 1, 1, none⟩ (.int .i64 0)).setCell ⟨w.heap.size + 1 + 1, 2, none⟩ (.int .i64 0)).setCell ⟨w.heap.size + 1 + 1, 3, none⟩ (.int .i64 0)).cell? ⟨w.heap.size + 1 + 1, 1, none⟩ = some (.int .i64 0) := (o4.2 1 _ rfl).1
      have ca0_2 : (((((w8.alloc (.cells #[.int .i64 s1, .int .i64 s2] 30)).setCell ⟨w.heap.size + 1 + 1, 0, none⟩ (.int .i64 0)).setCell ⟨w.heap.size + 1 + 1, 1, none⟩ (.int .i64 0)).setCell ⟨w.heap.size + 1 + 1, 2, none⟩ (.int .i64 0)).setCell ⟨w.heap.size + 1 + 1, 3, none⟩ (.int .i64 0)).cell? ⟨w.heap.size + 1 + 1, 2, none⟩ = some (.int .i64 0) := (o4.2 2 _ rfl).1
      have ca0_3 : (((((w8.alloc (.cells #[.int .i64 s1, .int .i64 s2] 30)).setCell ⟨w.heap.size + 1 + 1, 0, none⟩ (.int .i64 0)).setCell ⟨w.heap.size + 1 + 1, 1, none⟩ (.int .i64 0)).setCell ⟨w.heap.size + 1 + 1, 2, none⟩ (.int .i64 0)).setCell ⟨w.heap.size + 1 + 1, 3, none⟩ (.int .i64 0)).cell? ⟨w.heap.size + 1 + 1, 3, none⟩ = some (.int .i64 0) := (o4.2 3 _ rfl).1
      try simp only [Exit.inBlock, Exit.then]
      exact bodyPost_ret (v := .tuple #[.agg #[.int .i64 0, .int .i64 0, .int .i64 0, .int .i64 0], .bool false]) (by simp [results, Tryz.results198, go_sem, ca0_0, ca0_1, ca0_2, ca0_3]) rfl ⟨ls_ret HX.out, HK.out⟩
    · skip
      have HX := hid (two_yes H1.out H2.out)
      obtain ⟨ca11, cb11, fa11, fb11⟩ := id o6
      obtain ⟨ca12, cb12, fa12, fb12⟩ := id o8
      have ca13_0 : (w8.alloc (.cells #[.int .i64 s1, .int .i64 s2] 30)).cell? ⟨w.heap.size + 1 + 1, 0, none⟩ = some (.int .i64 0) := (o4.2 0 _ rfl).1
      have fa13_0 : (w8.alloc (.cells #[.int .i64 s1, .int .i64 s2] 30)).frozen? ⟨w.heap.size + 1 + 1, 0, none⟩ = false := (o4.2 0 _ rfl).2
      have ca13_1 : (w8.alloc (.cells #[.int .i64 s1, .int .i64 s2] 30)).cell? ⟨w.heap.size + 1 + 1, 1, none⟩ = some (.int .i64 0) := (o4.2 1 _ rfl).1
      have fa13_1 : (w8.alloc (.cells #[.int .i64 s1, .int .i64 s2] 30)).frozen? ⟨w.heap.size + 1 + 1, 1, none⟩ = false := (o4.2 1 _ rfl).2
      have ca13_2 : (w8.alloc (.cells #[.int .i64 s1, .int .i64 s2] 30)).cell? ⟨w.heap.size + 1 + 1, 2, none⟩ = some (.int .i64 0) := (o4.2 2 _ rfl).1
      have fa13_2 : (w8.alloc (.cells #[.int .i64 s1, .int .i64 s2] 30)).frozen? ⟨w.heap.size + 1 + 1, 2, none⟩ = false := (o4.2 2 _ rfl).2
      have ca13_3 : (w8.alloc (.cells #[.int .i64 s1, .int .i64 s2] 30)).cell? ⟨w.heap.size + 1 + 1, 3, none⟩ = some (.int .i64 0) := (o4.2 3 _ rfl).1
      have fa13_3 : (w8.alloc (.cells #[.int .i64 s1, .int .i64 s2] 30)).frozen? ⟨w.heap.size + 1 + 1, 3, none⟩ = false := (o4.2 3 _ rfl).2
      replace o2 := o2.far (p := ⟨w.heap.size + 1 + 1, 0, none⟩) (by show _ ≠ (w.heap.size + 1 + 1); omega) (.int .i64 r1)
      replace o3 := o3.far (p := ⟨w.heap.size + 1 + 1, 0, none⟩) (by show _ ≠ (w.heap.size + 1 + 1); omega) (.int .i64 r1)
      replace o6 := o6.far (p := ⟨w.heap.size + 1 + 1, 0, none⟩) (by show _ ≠ (w.heap.size + 1 + 1); omega) (.int .i64 r1)
      replace o8 := o8.far (p := ⟨w.heap.size + 1 + 1, 0, none⟩) (by show _ ≠ (w.heap.size + 1 + 1); omega) (.int .i64 r1)
      replace kw := Below.setCell kw (p := ⟨w.heap.size + 1 + 1, 0, none⟩) (by show _ ≤ (w.heap.size + 1 + 1); omega) (.int .i64 r1)
      replace o4 : Bl ((w8.alloc (.cells #[.int .i64 s1, .int .i64 s2] 30)).setCell ⟨w.heap.size + 1 + 1, 0, none⟩ (.int .i64 r1)) (w.heap.size + 1 + 1) [.int .i64 r1, .int .i64 0, .int .i64 0, .int .i64 0] := o4.set 0 (.int .i64 r1)
      replace o2 := o2.far (p := ⟨w.heap.size + 1 + 1, 1, none⟩) (by show _ ≠ (w.heap.size + 1 + 1); omega) (.int .i64 r2)
      replace o3 := o3.far (p := ⟨w.heap.size + 1 + 1, 1, none⟩) (by show _ ≠ (w.heap.size + 1 + 1); omega) (.int .i64 r2)
      replace o6 := o6.far (p := ⟨w.heap.size + 1 + 1, 1, none⟩) (by show _ ≠ (w.heap.size + 1 + 1); omega) (.int .i64 r2)
      replace o8 := o8.far (p := ⟨w.heap.size + 1 + 1, 1, none⟩) (by show _ ≠ (w.heap.size + 1 + 1); omega) (.int .i64 r2)
      replace kw := Below.setCell kw (p := ⟨w.heap.size + 1 + 1, 1, none⟩) (by show _ ≤ (w.heap.size + 1 + 1); omega) (.int .i64 r2)
      replace o4 : Bl (((w8.alloc (.cells #[.int .i64 s1, .int .i64 s2] 30)).setCell ⟨w.heap.size + 1 + 1, 0, none⟩ (.int .i64 r1)).setCell ⟨w.heap.size + 1 + 1, 1, none⟩ (.int .i64 r2)) (w.heap.size + 1 + 1) [.int .i64 r1, .int .i64 r2, .int .i64 0, .int .i64 0] := o4.set 1 (.int .i64 r2)
      replace o2 := o2.far (p := ⟨w.heap.size + 1 + 1, 2, none⟩) (by show _ ≠ (w.heap.size + 1 + 1); omega) (.int .i64 s1)
      replace o3 := o3.far (p := ⟨w.heap.size + 1 + 1, 2, none⟩) (by show _ ≠ (w.heap.size + 1 + 1); omega) (.int .i64 s1)
      replace o6 := o6.far (p := ⟨w.heap.size + 1 + 1, 2, none⟩) (by show _ ≠ (w.heap.size + 1 + 1); omega) (.int .i64 s1)
      replace o8 := o8.far (p := ⟨w.heap.size + 1 + 1, 2, none⟩) (by show _ ≠ (w.heap.size + 1 + 1); omega) (.int .i64 s1)
      replace kw := Below.setCell kw (p := ⟨w.heap.size + 1 + 1, 2, none⟩) (by show _ ≤ (w.heap.size + 1 + 1); omega) (.int .i64 s1)
      replace o4 : Bl ((((w8.alloc (.cells #[.int .i64 s1, .int .i64 s2] 30)).setCell ⟨w.heap.size + 1 + 1, 0, none⟩ (.int .i64 r1)).setCell ⟨w.heap.size + 1 + 1, 1, none⟩ (.int .i64 r2)).setCell ⟨w.heap.size + 1 + 1, 2, none⟩ (.int .i64 s1)) (w.heap.size + 1 + 1) [.int .i64 r1, .int .i64 r2, .int .i64 s1, .int .i64 0] := o4.set 2 (.int .i64 s1)
      replace o2 := o2.far (p := ⟨w.heap.size + 1 + 1, 3, none⟩) (by show _ ≠ (w.heap.size + 1 + 1); omega) (.int .i64 s2)
      replace o3 := o3.far (p := ⟨w.heap.size + 1 + 1, 3, none⟩) (by show _ ≠ (w.heap.size + 1 + 1); omega) (.int .i64 s2)
      replace o6 := o6.far (p := ⟨w.heap.size + 1 + 1, 3, none⟩) (by show _ ≠ (w.heap.size + 1 + 1); omega) (.int .i64 s2)
      replace o8 := o8.far (p := ⟨w.heap.size + 1 + 1, 3, none⟩) (by show _ ≠ (w.heap.size + 1 + 1); omega) (.int .i64 s2)
      replace kw := Below.setCell kw (p := ⟨w.heap.size + 1 + 1, 3, none⟩) (by show _ ≤ (w.heap.size + 1 + 1); omega) (.int .i64 s2)
      replace o4 : Bl (((((w8.alloc (.cells #[.int .i64 s1, .int .i64 s2] 30)).setCell ⟨w.heap.size + 1 + 1, 0, none⟩ (.int .i64 r1)).setCell ⟨w.heap.size + 1 + 1, 1, none⟩ (.int .i64 r2)).setCell ⟨w.heap.size + 1 + 1, 2, none⟩ (.int .i64 s1)).setCell ⟨w.heap.size + 1 + 1, 3, none⟩ (.int .i64 s2)) (w.heap.size + 1 + 1) [.int .i64 r1, .int .i64 r2, .int .i64 s1, .int .i64 s2] := o4.set 3 (.int .i64 s2)
      have HK := hid kw
      clear kw
      go_wp2_with fail
      clear ca11 cb11 fa11 fb11 ca12 cb12 fa12 fb12 ca13_0 fa13_0 ca13_1 fa13_1 ca13_2 fa13_2 ca13_3 fa13_3
      have ca0_0 : (((((w8.alloc (.cells #[.int .i64 s1, .int .i64 s2] 30)).setCell ⟨w.heap.size + 1 + 1, 0, none⟩ (.int .i64 r1)).setCell ⟨w.heap.size + 1 + 1, 1, none⟩ (.int .i64 r2)).setCell ⟨w.heap.size + 1 + 1, 2, none⟩ (.int .i64 s1)).setCell ⟨w.heap.size + 1 + 1, 3, none⟩ (.int .i64 s2)).cell? ⟨w.heap.size + 1 + 1, 0, none⟩ = some (.int .i64 r1) := (o4.2 0 _ rfl).1
      have ca0_1 : (((((w8.alloc (.cells #[.int .i64 s1, .int .i64 s2] 30)).setCell ⟨w.heap.size + 1 + 1, 0, none⟩ (.int .i64 r1)).setCell ⟨w.heap.size + 1 + 1, 1, none⟩ (.int .i64 r2)).setCell ⟨w.heap.size + 1 + 1, 2, none⟩ (.int .i64 s1)).setCell ⟨w.heap.size + 1 + 1, 3, none⟩ (.int .i64 s2)).cell? ⟨w.heap.size + 1 + 1, 1, none⟩ = some (.int .i64 r2) := (o4.2 1 _ rfl).1
      have ca0_2 : (((((w8.alloc (.cells #[.int .i64 s1, .int .i64 s2] 30)).setCell ⟨w.heap.size + 1 + 1, 0, none⟩ (.int .i64 r1)).setCell ⟨w.heap.size + 1 + 1, 1, none⟩ (.int .i64 r2)).setCell ⟨w.heap.size + 1 + 1, 2, none⟩ (.int .i64 s1)).setCell ⟨w.heap.size + 1 + 1, 3, none⟩ (.int .i64 s2)).cell? ⟨w.heap.size + 1 + 1, 2, none⟩ = some (.int .i64 s1) := (o4.2 2 _ rfl).1
      have ca0_3 : (((((w8.alloc (.cells #[.int .i64 s1, .int .i64 s2] 30)).setCell ⟨w.heap.size + 1 + 1, 0, none⟩ (.int .i64 r1)).setCell ⟨w.heap.size + 1 + 1, 1, none⟩ (.int .i64 r2)).setCell ⟨w.heap.size + 1 + 1, 2, none⟩ (.int .i64 s1)).setCell ⟨w.heap.size + 1 + 1, 3, none⟩ (.int .i64 s2)).cell? ⟨w.heap.size + 1 + 1, 3, none⟩ = some (.int .i64 s2) := (o4.2 3 _ rfl).1
      try simp only [Exit.inBlock, Exit.then]
      exact bodyPost_ret (v := .tuple #[.agg #[.int .i64 r1, .int .i64 r2, .int .i64 s1, .int .i64 s2], .bool true]) (by simp [results, Tryz.results198, go_sem, ca0_0, ca0_1, ca0_2, ca0_3]) rfl ⟨ls_ret HX.out, HK.out⟩
set_option maxRecDepth 100000 in
set_option maxHeartbeats 1600000 in
theorem NoLoss_any {w : World} :
    Calls Tryz.prog 148 #[] w fun e w' => e = .returned (.agg #[.int .i64 1, .int .i64 1, .int .i64 0, .int .i64 1]) ∧ Keeps w w' := by
  go_enter Tryz.func148, Tryz.ntmps148
  have kw := keeps_refl w
  replace kw := Keeps.trans kw (keeps_alloc w (.cells #[.int .i64 0, .int .i64 0, .int .i64 0, .int .i64 0] 32))
  have b0 : Bl (w.alloc (.cells #[.int .i64 0, .int .i64 0, .int .i64 0, .int .i64 0] 32)) w.heap.size [.int .i64 0, .int .i64 0, .int .i64 0, .int .i64 0] := Bl.new' (by simp) (by simp)
  clear b0 kw
  go_wp2_with fail
  exact bodyPost_ret (v := .agg #[.int .i64 1, .int .i64 1, .int .i64 0, .int .i64 1]) (by simp [results, Tryz.results148, go_sem]) rfl ⟨rfl, keeps_alloc _ _⟩
set_option maxRecDepth 100000 in
set_option maxHeartbeats 1600000 in
theorem pNone_any {w : World} :
    Calls Tryz.prog 187 #[] w fun e w' => e = .returned (.agg #[.int .i64 1, .int .i64 1, .int .i64 0, .int .i64 1]) ∧ Keeps w w' := by
  go_enter Tryz.func187, Tryz.ntmps187
  have kw := keeps_refl w
  replace kw := Keeps.trans kw (keeps_alloc w (.cells #[.int .i64 0, .int .i64 0, .int .i64 0, .int .i64 0] 32))
  have b0 : Bl (w.alloc (.cells #[.int .i64 0, .int .i64 0, .int .i64 0, .int .i64 0] 32)) w.heap.size [.int .i64 0, .int .i64 0, .int .i64 0, .int .i64 0] := Bl.new' (by simp) (by simp)
  go_wp2_with fail
  refine (fInt_any).mono ?_
  rintro e w1 ⟨rfl, k1⟩
  replace b0 := b0.keeps k1
  replace kw := Keeps.trans kw k1
  have lt2 := b0.lt
  have sz3 := kw.size
  clear k1
  go_wp2_with fail
  refine (fInt_any).mono ?_
  rintro e w4 ⟨rfl, k4⟩
  replace b0 := b0.keeps k4
  replace kw := Keeps.trans kw k4
  have lt5 := b0.lt
  have sz6 := kw.size
  clear k4
  have ca7_0 : w4.cell? ⟨w.heap.size, 0, none⟩ = some (.int .i64 0) := (b0.2 0 _ rfl).1
  have fa7_0 : w4.frozen? ⟨w.heap.size, 0, none⟩ = false := (b0.2 0 _ rfl).2
  have ca7_1 : w4.cell? ⟨w.heap.size, 1, none⟩ = some (.int .i64 0) := (b0.2 1 _ rfl).1
  have fa7_1 : w4.frozen? ⟨w.heap.size, 1, none⟩ = false := (b0.2 1 _ rfl).2
  have ca7_2 : w4.cell? ⟨w.heap.size, 2, none⟩ = some (.int .i64 0) := (b0.2 2 _ rfl).1
  have fa7_2 : w4.frozen? ⟨w.heap.size, 2, none⟩ = false := (b0.2 2 _ rfl).2
  have ca7_3 : w4.cell? ⟨w.heap.size, 3, none⟩ = some (.int .i64 0) := (b0.2 3 _ rfl).1
  have fa7_3 : w4.frozen? ⟨w.heap.size, 3, none⟩ = false := (b0.2 3 _ rfl).2
  replace kw := Below.setCell kw (p := ⟨w.heap.size, 0, none⟩) (by show _ ≤ w.heap.size; omega) (.int .i64 1)
  replace b0 : Bl (w4.setCell ⟨w.heap.size, 0, none⟩ (.int .i64 1)) w.heap.size [.int .i64 1, .int .i64 0, .int .i64 0, .int .i64 0] := b0.set 0 (.int .i64 1)
  replace kw := Below.setCell kw (p := ⟨w.heap.size, 1, none⟩) (by show _ ≤ w.heap.size; omega) (.int .i64 1)
  replace b0 : Bl ((w4.setCell ⟨w.heap.size, 0, none⟩ (.int .i64 1)).setCell ⟨w.heap.size, 1, none⟩ (.int .i64 1)) w.heap.size [.int .i64 1, .int .i64 1, .int .i64 0, .int .i64 0] := b0.set 1 (.int .i64 1)
  replace kw := Below.setCell kw (p := ⟨w.heap.size, 2, none⟩) (by show _ ≤ w.heap.size; omega) (.int .i64 0)
  replace b0 : Bl (((w4.setCell ⟨w.heap.size, 0, none⟩ (.int .i64 1)).setCell ⟨w.heap.size, 1, none⟩ (.int .i64 1)).setCell ⟨w.heap.size, 2, none⟩ (.int .i64 0)) w.heap.size [.int .i64 1, .int .i64 1, .int .i64 0, .int .i64 0] := b0.set 2 (.int .i64 0)
  replace kw := Below.setCell kw (p := ⟨w.heap.size, 3, none⟩) (by show _ ≤ w.heap.size; omega) (.int .i64 1)
  replace b0 : Bl ((((w4.setCell ⟨w.heap.size, 0, none⟩ (.int .i64 1)).setCell ⟨w.heap.size, 1, none⟩ (.int .i64 1)).setCell ⟨w.heap.size, 2, none⟩ (.int .i64 0)).setCell ⟨w.heap.size, 3, none⟩ (.int .i64 1)) w.heap.size [.int .i64 1, .int .i64 1, .int .i64 0, .int .i64 1] := b0.set 3 (.int .i64 1)
  have HK := hid kw
  clear kw
  go_wp2_with fail
  clear ca7_0 fa7_0 ca7_1 fa7_1 ca7_2 fa7_2 ca7_3 fa7_3
  have ca0_0 : ((((w4.setCell ⟨w.heap.size, 0, none⟩ (.int .i64 1)).setCell ⟨w.heap.size, 1, none⟩ (.int .i64 1)).setCell ⟨w.heap.size, 2, none⟩ (.int .i64 0)).setCell ⟨w.heap.size, 3, none⟩ (.int .i64 1)).cell? ⟨w.heap.size, 0, none⟩ = some (.int .i64 1) := (b0.2 0 _ rfl).1
  have ca0_1 : ((((w4.setCell ⟨w.heap.size, 0, none⟩ (.int .i64 1)).setCell ⟨w.heap.size, 1, none⟩ (.int .i64 1)).setCell ⟨w.heap.size, 2, none⟩ (.int .i64 0)).setCell ⟨w.heap.size, 3, none⟩ (.int .i64 1)).cell? ⟨w.heap.size, 1, none⟩ = some (.int .i64 1) := (b0.2 1 _ rfl).1
  have ca0_2 : ((((w4.setCell ⟨w.heap.size, 0, none⟩ (.int .i64 1)).setCell ⟨w.heap.size, 1, none⟩ (.int .i64 1)).setCell ⟨w.heap.size, 2, none⟩ (.int .i64 0)).setCell ⟨w.heap.size, 3, none⟩ (.int .i64 1)).cell? ⟨w.heap.size, 2, none⟩ = some (.int .i64 0) := (b0.2 2 _ rfl).1
  have ca0_3 : ((((w4.setCell ⟨w.heap.size, 0, none⟩ (.int .i64 1)).setCell ⟨w.heap.size, 1, none⟩ (.int .i64 1)).setCell ⟨w.heap.size, 2, none⟩ (.int .i64 0)).setCell ⟨w.heap.size, 3, none⟩ (.int .i64 1)).cell? ⟨w.heap.size, 3, none⟩ = some (.int .i64 1) := (b0.2 3 _ rfl).1
  try simp only [Exit.inBlock, Exit.then]
  exact bodyPost_ret (v := .agg #[.int .i64 1, .int .i64 1, .int .i64 0, .int .i64 1]) (by simp [results, Tryz.results187, go_sem, ca0_0, ca0_1, ca0_2, ca0_3]) rfl ⟨rfl, HK.out⟩
set_option maxRecDepth 100000 in
set_option maxHeartbeats 3200000 in
theorem areLosses_any {A : Option Addr} {lo hi n c : Nat} {ls : List LQ} {w : World} (h : Los w lo hi A n ls) :
    Calls Tryz.prog 147 #[.slice A n c] w fun e w' => e = .returned (.bool (lsAll ls)) ∧ Keeps w w' := by
  have hn := h.le
  have HL := hid (Los.len h)
  by_cases h30 : n ≤ 30
  rotate_left
  · have HX := hid (lsAll_len (ls := ls) (by rw [HL.out]; exact h30))
    go_enter Tryz.func147, Tryz.ntmps147
    have kw := keeps_refl w
    go_wp2_with fail
    go_ret
    exact ⟨ret_bool HX.out.symm, kw⟩
  go_enter Tryz.func147, Tryz.ntmps147
  have kw := keeps_refl w
  go_wp2_with fail
  go_loopw [10] (fun i wr => ∃ k : Nat, k ≤ n ∧ i = .int .i64 k ∧ Hid (lsTo ls k = true) ∧ Keeps w wr) (fun i _ => n - (intOf i).toNat)
  case atStart => exact ⟨0, Nat.zero_le _, rfl, hid rfl, kw⟩
  clear kw
  case round =>
    obtain ⟨k, hk, rfl, HT, kw⟩ := hrel
    by_cases hlt : k < n
    · obtain ⟨b, off, x1, x2, x3, x4, rfl, _, _, hc0, hc1, hc2, hc3, hx⟩ := Los.at_ (Sl.keeps h kw) hlt
      have hi1 : (k : Int) < (n : Int) := by omega
      obtain ⟨p, HP⟩ : ∃ p, Hid (lossB x1 x2 x3 x4 = p) := ⟨_, rfl⟩
      have HP2 := hid (show lsB (ls.getD k lz) = p by rw [← hx.out]; exact HP.out)
      clear hx
      replace kw := Keeps.trans kw (keeps_alloc wr (.cells #[.int .i64 x1, .int .i64 x2, .int .i64 x3, .int .i64 x4] 32))
      have b4 : Bl (wr.alloc (.cells #[.int .i64 x1, .int .i64 x2, .int .i64 x3, .int .i64 x4] 32)) wr.heap.size [.int .i64 x1, .int .i64 x2, .int .i64 x3, .int .i64 x4] := Bl.new' (by simp) (by simp)
      have ca1_0 : (wr.alloc (.cells #[.int .i64 x1, .int .i64 x2, .int .i64 x3, .int .i64 x4] 32)).cell? ⟨wr.heap.size, 0, none⟩ = some (.int .i64 x1) := (b4.2 0 _ rfl).1
      have ca1_1 : (wr.alloc (.cells #[.int .i64 x1, .int .i64 x2, .int .i64 x3, .int .i64 x4] 32)).cell? ⟨wr.heap.size, 1, none⟩ = some (.int .i64 x2) := (b4.2 1 _ rfl).1
      have ca1_2 : (wr.alloc (.cells #[.int .i64 x1, .int .i64 x2, .int .i64 x3, .int .i64 x4] 32)).cell? ⟨wr.heap.size, 2, none⟩ = some (.int .i64 x3) := (b4.2 2 _ rfl).1
      have ca1_3 : (wr.alloc (.cells #[.int .i64 x1, .int .i64 x2, .int .i64 x3, .int .i64 x4] 32)).cell? ⟨wr.heap.size, 3, none⟩ = some (.int .i64 x4) := (b4.2 3 _ rfl).1
      go_wp2_with fail
      clear ca1_0 ca1_1 ca1_2 ca1_3
      refine (IsLoss_any).mono ?_
      rintro e w2 ⟨rfl, k2⟩
      rw [HP.out]
      replace b4 := b4.keeps k2
      replace kw := Keeps.trans kw k2
      have lt3 := b4.lt
      have sz4 := kw.size
      clear k2
      clear hc0 hc1 hc2 hc3 b4
      cases p
      · have HX := hid (lsAll_no HL.out hlt HP2.out)
        go_wp2_with fail
        go_ret
        exact ⟨ret_bool HX.out.symm, kw⟩
      have HN := hid (show lsTo ls (k + 1) = true by unfold lsTo; rw [HT.out, HP2.out]; rfl)
      go_wp2_with fail
      go_roundw
      case rel => exact ⟨k + 1, by omega, by go_num, HN, kw⟩
      case measure => simp [intOf]; omega
    · obtain rfl : k = n := by omega
      have HX := hid ((lsAll_yes HL.out HT.out).trans (decide_eq_true h30))
      go_wp2
      go_ret
      exact ⟨ret_bool HX.out.symm, kw⟩
set_option maxRecDepth 100000 in
set_option maxHeartbeats 3200000 in
theorem pList_any {A : Option Addr} {lo hi n c : Nat} {ls : List LQ} {w : World} (h : Los w lo hi A n ls) :
    Calls Tryz.prog 180 #[.slice A n c] w fun e w' => e = .returned (.bool (lsAll ls)) ∧ Keeps w w' := by
  have hn := h.le
  have HL := hid (Los.len h)
  go_enter Tryz.func180, Tryz.ntmps180
  have kw := keeps_refl w
  go_wp2_with fail
  go_loopw [7] (fun i wr => ∃ k : Nat, k ≤ n ∧ i = .int .i64 k ∧ Hid (lsTo ls k = true) ∧ Keeps w wr) (fun i _ => n - (intOf i).toNat)
  case atStart => exact ⟨0, Nat.zero_le _, rfl, hid rfl, kw⟩
  clear kw
  case round =>
    obtain ⟨k, hk, rfl, HT, kw⟩ := hrel
    by_cases hlt : k < n
    · obtain ⟨b, off, x1, x2, x3, x4, rfl, _, _, hc0, hc1, hc2, hc3, hx⟩ := Los.at_ (Sl.keeps h kw) hlt
      have hi1 : (k : Int) < (n : Int) := by omega
      obtain ⟨p, HP⟩ : ∃ p, Hid (lossB x1 x2 x3 x4 = p) := ⟨_, rfl⟩
      have HP2 := hid (show lsB (ls.getD k lz) = p by rw [← hx.out]; exact HP.out)
      clear hx
      replace kw := Keeps.trans kw (keeps_alloc wr (.cells #[.int .i64 x1, .int .i64 x2, .int .i64 x3, .int .i64 x4] 32))
      have b4 : Bl (wr.alloc (.cells #[.int .i64 x1, .int .i64 x2, .int .i64 x3, .int .i64 x4] 32)) wr.heap.size [.int .i64 x1, .int .i64 x2, .int .i64 x3, .int .i64 x4] := Bl.new' (by simp) (by simp)
      have ca1_0 : (wr.alloc (.cells #[.int .i64 x1, .int .i64 x2, .int .i64 x3, .int .i64 x4] 32)).cell? ⟨wr.heap.size, 0, none⟩ = some (.int .i64 x1) := (b4.2 0 _ rfl).1
      have ca1_1 : (wr.alloc (.cells #[.int .i64 x1, .int .i64 x2, .int .i64 x3, .int .i64 x4] 32)).cell? ⟨wr.heap.size, 1, none⟩ = some (.int .i64 x2) := (b4.2 1 _ rfl).1
      have ca1_2 : (wr.alloc (.cells #[.int .i64 x1, .int .i64 x2, .int .i64 x3, .int .i64 x4] 32)).cell? ⟨wr.heap.size, 2, none⟩ = some (.int .i64 x3) := (b4.2 2 _ rfl).1
      have ca1_3 : (wr.alloc (.cells #[.int .i64 x1, .int .i64 x2, .int .i64 x3, .int .i64 x4] 32)).cell? ⟨wr.heap.size, 3, none⟩ = some (.int .i64 x4) := (b4.2 3 _ rfl).1
      go_wp2_with fail
      clear ca1_0 ca1_1 ca1_2 ca1_3
      refine (pGood_any).mono ?_
      rintro e w2 ⟨rfl, k2⟩
      rw [HP.out]
      replace b4 := b4.keeps k2
      replace kw := Keeps.trans kw k2
      have lt3 := b4.lt
      have sz4 := kw.size
      clear k2
      clear hc0 hc1 hc2 hc3 b4
      cases p
      · have HX := hid (lsAll_no HL.out hlt HP2.out)
        go_wp2_with fail
        go_ret
        exact ⟨ret_bool HX.out.symm, kw⟩
      have HN := hid (show lsTo ls (k + 1) = true by unfold lsTo; rw [HT.out, HP2.out]; rfl)
      go_wp2_with fail
      go_roundw
      case rel => exact ⟨k + 1, by omega, by go_num, HN, kw⟩
      case measure => simp [intOf]; omega
    · obtain rfl : k = n := by omega
      by_cases h30 : k ≤ 30
      · have HX := hid ((lsAll_yes HL.out HT.out).trans (decide_eq_true h30))
        go_wp2
        go_ret
        exact ⟨ret_bool (by rw [HX.out]; exact decide_eq_true (by omega)), kw⟩
      · have HX := hid ((lsAll_yes HL.out HT.out).trans (decide_eq_false h30))
        go_wp2
        go_ret
        exact ⟨ret_bool (by rw [HX.out]; exact decide_eq_false (by omega)), kw⟩
set_option maxRecDepth 100000 in
set_option maxHeartbeats 6400000 in
theorem implCompose_any {A : Option Addr} {lo hi n c : Nat} {ls : List LQ} {w : World} (h : Los w lo hi A n ls) :
    Calls Tryz.prog 106 #[.slice A n c] w fun e w' => e = .returned (lossV (comQ ls)) ∧ Keeps w w' := by
  have hn := h.le
  have HL := hid (Los.len h)
  go_enter Tryz.func106, Tryz.ntmps106
  have kw := keeps_refl w
  replace kw := Keeps.trans kw (keeps_alloc w (.cells #[.int .i64 0, .int .i64 0, .int .i64 0, .int .i64 0] 32))
  have b2 : Bl (w.alloc (.cells #[.int .i64 0, .int .i64 0, .int .i64 0, .int .i64 0] 32)) w.heap.size [.int .i64 0, .int .i64 0, .int .i64 0, .int .i64 0] := Bl.new' (by simp) (by simp)
  go_wp2_with fail
  obtain ⟨pH1, H1⟩ : ∃ pB, Hid (lsAll ls = pB) := ⟨_, rfl⟩
  refine (areLosses_any (Sl.keeps h kw)).mono ?_
  rintro e w1 ⟨rfl, k1⟩
  rw [H1.out]
  replace b2 := b2.keeps k1
  replace kw := Keeps.trans kw k1
  have lt2 := b2.lt
  have sz3 := kw.size
  clear k1
  cases pH1
  · have HX := hid (comQ_no H1.out)
    have ca4_0 : w1.cell? ⟨w.heap.size, 0, none⟩ = some (.int .i64 0) := (b2.2 0 _ rfl).1
    have fa4_0 : w1.frozen? ⟨w.heap.size, 0, none⟩ = false := (b2.2 0 _ rfl).2
    have ca4_1 : w1.cell? ⟨w.heap.size, 1, none⟩ = some (.int .i64 0) := (b2.2 1 _ rfl).1
    have fa4_1 : w1.frozen? ⟨w.heap.size, 1, none⟩ = false := (b2.2 1 _ rfl).2
    have ca4_2 : w1.cell? ⟨w.heap.size, 2, none⟩ = some (.int .i64 0) := (b2.2 2 _ rfl).1
    have fa4_2 : w1.frozen? ⟨w.heap.size, 2, none⟩ = false := (b2.2 2 _ rfl).2
    have ca4_3 : w1.cell? ⟨w.heap.size, 3, none⟩ = some (.int .i64 0) := (b2.2 3 _ rfl).1
    have fa4_3 : w1.frozen? ⟨w.heap.size, 3, none⟩ = false := (b2.2 3 _ rfl).2
    replace kw := Below.setCell kw (p := ⟨w.heap.size, 0, none⟩) (by show _ ≤ w.heap.size; omega) (.int .i64 0)
    replace b2 : Bl (w1.setCell ⟨w.heap.size, 0, none⟩ (.int .i64 0)) w.heap.size [.int .i64 0, .int .i64 0, .int .i64 0, .int .i64 0] := b2.set 0 (.int .i64 0)
    replace kw := Below.setCell kw (p := ⟨w.heap.size, 1, none⟩) (by show _ ≤ w.heap.size; omega) (.int .i64 0)
    replace b2 : Bl ((w1.setCell ⟨w.heap.size, 0, none⟩ (.int .i64 0)).setCell ⟨w.heap.size, 1, none⟩ (.int .i64 0)) w.heap.size [.int .i64 0, .int .i64 0, .int .i64 0, .int .i64 0] := b2.set 1 (.int .i64 0)
    replace kw := Below.setCell kw (p := ⟨w.heap.size, 2, none⟩) (by show _ ≤ w.heap.size; omega) (.int .i64 0)
    replace b2 : Bl (((w1.setCell ⟨w.heap.size, 0, none⟩ (.int .i64 0)).setCell ⟨w.heap.size, 1, none⟩ (.int .i64 0)).setCell ⟨w.heap.size, 2, none⟩ (.int .i64 0)) w.heap.size [.int .i64 0, .int .i64 0, .int .i64 0, .int .i64 0] := b2.set 2 (.int .i64 0)
    replace kw := Below.setCell kw (p := ⟨w.heap.size, 3, none⟩) (by show _ ≤ w.heap.size; omega) (.int .i64 0)
    replace b2 : Bl ((((w1.setCell ⟨w.heap.size, 0, none⟩ (.int .i64 0)).setCell ⟨w.heap.size, 1, none⟩ (.int .i64 0)).setCell ⟨w.heap.size, 2, none⟩ (.int .i64 0)).setCell ⟨w.heap.size, 3, none⟩ (.int .i64 0)) w.heap.size [.int .i64 0, .int .i64 0, .int .i64 0, .int .i64 0] := b2.set 3 (.int .i64 0)
    have HK := hid kw
    clear kw
    go_wp2_with fail
    clear ca4_0 fa4_0 ca4_1 fa4_1 ca4_2 fa4_2 ca4_3 fa4_3
    have ca0_0 : ((((w1.setCell ⟨w.heap.size, 0, none⟩ (.int .i64 0)).setCell ⟨w.heap.size, 1, none⟩ (.int .i64 0)).setCell ⟨w.heap.size, 2, none⟩ (.int .i64 0)).setCell ⟨w.heap.size, 3, none⟩ (.int .i64 0)).cell? ⟨w.heap.size, 0, none⟩ = some (.int .i64 0) := (b2.2 0 _ rfl).1
    have ca0_1 : ((((w1.setCell ⟨w.heap.size, 0, none⟩ (.int .i64 0)).setCell ⟨w.heap.size, 1, none⟩ (.int .i64 0)).setCell ⟨w.heap.size, 2, none⟩ (.int .i64 0)).setCell ⟨w.heap.size, 3, none⟩ (.int .i64 0)).cell? ⟨w.heap.size, 1, none⟩ = some (.int .i64 0) := (b2.2 1 _ rfl).1
    have ca0_2 : ((((w1.setCell ⟨w.heap.size, 0, none⟩ (.int .i64 0)).setCell ⟨w.heap.size, 1, none⟩ (.int .i64 0)).setCell ⟨w.heap.size, 2, none⟩ (.int .i64 0)).setCell ⟨w.heap.size, 3, none⟩ (.int .i64 0)).cell? ⟨w.heap.size, 2, none⟩ = some (.int .i64 0) := (b2.2 2 _ rfl).1
    have ca0_3 : ((((w1.setCell ⟨w.heap.size, 0, none⟩ (.int .i64 0)).setCell ⟨w.heap.size, 1, none⟩ (.int .i64 0)).setCell ⟨w.heap.size, 2, none⟩ (.int .i64 0)).setCell ⟨w.heap.size, 3, none⟩ (.int .i64 0)).cell? ⟨w.heap.size, 3, none⟩ = some (.int .i64 0) := (b2.2 3 _ rfl).1
    try simp only [Exit.inBlock, Exit.then]
    exact bodyPost_ret (v := .tuple #[.agg #[.int .i64 0, .int .i64 0, .int .i64 0, .int .i64 0], .bool false]) (by simp [results, Tryz.results106, go_sem, ca0_0, ca0_1, ca0_2, ca0_3]) rfl ⟨ls_ret HX.out, HK.out⟩
  · skip
    have HLS := hid (fun k (hk : k < n) => (show lsB (ls.getD k lz) = true by have := H1.out; unfold lsAll at this; simp only [Bool.and_eq_true] at this; rw [HL.out] at this; exact lsTo_row _ k this.1 hk))
    have HCG := hid (comTo_good HLS.out)
    have HCQ := hid (show comQ ls = comTo ls n by rw [comQ_yes H1.out, HL.out])
    go_wp2_with fail
    refine (NoLoss_any).mono ?_
    rintro e w4 ⟨rfl, k4⟩
    replace b2 := b2.keeps k4
    replace kw := Keeps.trans kw k4
    have lt5 := b2.lt
    have sz6 := kw.size
    clear k4
    replace b2 := b2.keeps (keeps_alloc w4 (.cells #[.int .i64 1, .int .i64 1, .int .i64 0, .int .i64 1] 32))
    replace kw := Keeps.trans kw (keeps_alloc w4 (.cells #[.int .i64 1, .int .i64 1, .int .i64 0, .int .i64 1] 32))
    have b4 : Bl (w4.alloc (.cells #[.int .i64 1, .int .i64 1, .int .i64 0, .int .i64 1] 32)) w4.heap.size [.int .i64 1, .int .i64 1, .int .i64 0, .int .i64 1] := Bl.new' (by simp) (by simp)
    go_wp2_with fail
    obtain ⟨G4, hG4⟩ : ∃ a, w4.heap.size = a := ⟨_, rfl⟩
    have hg4 : w.heap.size < G4 := by have := b4.lt; omega
    rw [hG4] at b4 ⊢
    clear hG4
    go_loopw [15, 5] (fun i ok wr => ∃ (k : Nat) (s1 s2 s3 s4 : Int), k ≤ n ∧ i = .int .i64 k ∧ ok = .bool true ∧ Hid (comTo ls k = ((s1, s2, s3, s4), true)) ∧ Bl wr w.heap.size [.int .i64 0, .int .i64 0, .int .i64 0, .int .i64 0] ∧ Bl wr G4 [.int .i64 s1, .int .i64 s2, .int .i64 s3, .int .i64 s4] ∧ Keeps w wr) (fun i _ _ => n - (intOf i).toNat)
    case atStart => exact ⟨0, 1, 1, 0, 1, Nat.zero_le _, rfl, rfl, hid rfl, b2, b4, kw⟩
    clear b2 b4 kw
    case round =>
      obtain ⟨k, s1, s2, s3, s4, hk, rfl, rfl, HT, b2, b4, kw⟩ := hrel
      by_cases hlt : k < n
      · obtain ⟨b, off, x1, x2, x3, x4, rfl, _, _, hc0, hc1, hc2, hc3, hx⟩ := Los.at_ (Sl.keeps h kw) hlt
        have hi1 : (k : Int) < (n : Int) := by omega
        have HS := hid (HCG.out k (by omega) _ HT.out)
        have HLX := hid (show lsB (x1, x2, x3, x4) = true by rw [hx.out]; exact HLS.out k hlt)
        have HN := hid (comTo_next HT.out hx.out)
        clear hx
        obtain ⟨r1, r2, r3, r4, p, HR⟩ : ∃ r1 r2 r3 r4 p, Hid (two (s1, s2, s3, s4) (x1, x2, x3, x4) = ((r1, r2, r3, r4), p)) := ⟨_, _, _, _, _, rfl⟩
        rw [HR.out] at HN
        have lt2 := b2.lt
        have lt4 := b4.lt
        replace b2 := b2.keeps (keeps_alloc wr (.cells #[.int .i64 x1, .int .i64 x2, .int .i64 x3, .int .i64 x4] 32))
        replace b4 := b4.keeps (keeps_alloc wr (.cells #[.int .i64 x1, .int .i64 x2, .int .i64 x3, .int .i64 x4] 32))
        replace kw := Keeps.trans kw (keeps_alloc wr (.cells #[.int .i64 x1, .int .i64 x2, .int .i64 x3, .int .i64 x4] 32))
        have b7 : Bl (wr.alloc (.cells #[.int .i64 x1, .int .i64 x2, .int .i64 x3, .int .i64 x4] 32)) wr.heap.size [.int .i64 x1, .int .i64 x2, .int .i64 x3, .int .i64 x4] := Bl.new' (by simp) (by simp)
        have ca7_0 : (wr.alloc (.cells #[.int .i64 x1, .int .i64 x2, .int .i64 x3, .int .i64 x4] 32)).cell? ⟨G4, 0, none⟩ = some (.int .i64 s1) := (b4.2 0 _ rfl).1
        have ca7_1 : (wr.alloc (.cells #[.int .i64 x1, .int .i64 x2, .int .i64 x3, .int .i64 x4] 32)).cell? ⟨G4, 1, none⟩ = some (.int .i64 s2) := (b4.2 1 _ rfl).1
        have ca7_2 : (wr.alloc (.cells #[.int .i64 x1, .int .i64 x2, .int .i64 x3, .int .i64 x4] 32)).cell? ⟨G4, 2, none⟩ = some (.int .i64 s3) := (b4.2 2 _ rfl).1
        have ca7_3 : (wr.alloc (.cells #[.int .i64 x1, .int .i64 x2, .int .i64 x3, .int .i64 x4] 32)).cell? ⟨G4, 3, none⟩ = some (.int .i64 s4) := (b4.2 3 _ rfl).1
        have ca8_0 : (wr.alloc (.cells #[.int .i64 x1, .int .i64 x2, .int .i64 x3, .int .i64 x4] 32)).cell? ⟨wr.heap.size, 0, none⟩ = some (.int .i64 x1) := (b7.2 0 _ rfl).1
        have ca8_1 : (wr.alloc (.cells #[.int .i64 x1, .int .i64 x2, .int .i64 x3, .int .i64 x4] 32)).cell? ⟨wr.heap.size, 1, none⟩ = some (.int .i64 x2) := (b7.2 1 _ rfl).1
        have ca8_2 : (wr.alloc (.cells #[.int .i64 x1, .int .i64 x2, .int .i64 x3, .int .i64 x4] 32)).cell? ⟨wr.heap.size, 2, none⟩ = some (.int .i64 x3) := (b7.2 2 _ rfl).1
        have ca8_3 : (wr.alloc (.cells #[.int .i64 x1, .int .i64 x2, .int .i64 x3, .int .i64 x4] 32)).cell? ⟨wr.heap.size, 3, none⟩ = some (.int .i64 x4) := (b7.2 3 _ rfl).1
        go_wp2_with fail
        clear ca7_0 ca7_1 ca7_2 ca7_3 ca8_0 ca8_1 ca8_2 ca8_3
        refine (composed_any HS.out HLX.out).mono ?_
        rintro e w9 ⟨rfl, k9⟩
        rw [HR.out]
        replace b2 := b2.keeps k9
        replace b4 := b4.keeps k9
        replace b7 := b7.keeps k9
        replace kw := Keeps.trans kw k9
        have lt10 := b7.lt
        have sz11 := kw.size
        clear k9
        clear hc0 hc1 hc2 hc3 b7
        have ca12_0 : w9.cell? ⟨G4, 0, none⟩ = some (.int .i64 s1) := (b4.2 0 _ rfl).1
        have fa12_0 : w9.frozen? ⟨G4, 0, none⟩ = false := (b4.2 0 _ rfl).2
        have ca12_1 : w9.cell? ⟨G4, 1, none⟩ = some (.int .i64 s2) := (b4.2 1 _ rfl).1
        have fa12_1 : w9.frozen? ⟨G4, 1, none⟩ = false := (b4.2 1 _ rfl).2
        have ca12_2 : w9.cell? ⟨G4, 2, none⟩ = some (.int .i64 s3) := (b4.2 2 _ rfl).1
        have fa12_2 : w9.frozen? ⟨G4, 2, none⟩ = false := (b4.2 2 _ rfl).2
        have ca12_3 : w9.cell? ⟨G4, 3, none⟩ = some (.int .i64 s4) := (b4.2 3 _ rfl).1
        have fa12_3 : w9.frozen? ⟨G4, 3, none⟩ = false := (b4.2 3 _ rfl).2
        replace b2 := b2.far (p := ⟨G4, 0, none⟩) (by show _ ≠ G4; omega) (.int .i64 r1)
        replace kw := Below.setCell kw (p := ⟨G4, 0, none⟩) (by show _ ≤ G4; omega) (.int .i64 r1)
        replace b4 : Bl (w9.setCell ⟨G4, 0, none⟩ (.int .i64 r1)) G4 [.int .i64 r1, .int .i64 s2, .int .i64 s3, .int .i64 s4] := b4.set 0 (.int .i64 r1)
        replace b2 := b2.far (p := ⟨G4, 1, none⟩) (by show _ ≠ G4; omega) (.int .i64 r2)
        replace kw := Below.setCell kw (p := ⟨G4, 1, none⟩) (by show _ ≤ G4; omega) (.int .i64 r2)
        replace b4 : Bl ((w9.setCell ⟨G4, 0, none⟩ (.int .i64 r1)).setCell ⟨G4, 1, none⟩ (.int .i64 r2)) G4 [.int .i64 r1, .int .i64 r2, .int .i64 s3, .int .i64 s4] := b4.set 1 (.int .i64 r2)
        replace b2 := b2.far (p := ⟨G4, 2, none⟩) (by show _ ≠ G4; omega) (.int .i64 r3)
        replace kw := Below.setCell kw (p := ⟨G4, 2, none⟩) (by show _ ≤ G4; omega) (.int .i64 r3)
        replace b4 : Bl (((w9.setCell ⟨G4, 0, none⟩ (.int .i64 r1)).setCell ⟨G4, 1, none⟩ (.int .i64 r2)).setCell ⟨G4, 2, none⟩ (.int .i64 r3)) G4 [.int .i64 r1, .int .i64 r2, .int .i64 r3, .int .i64 s4] := b4.set 2 (.int .i64 r3)
        replace b2 := b2.far (p := ⟨G4, 3, none⟩) (by show _ ≠ G4; omega) (.int .i64 r4)
        replace kw := Below.setCell kw (p := ⟨G4, 3, none⟩) (by show _ ≤ G4; omega) (.int .i64 r4)
        replace b4 : Bl ((((w9.setCell ⟨G4, 0, none⟩ (.int .i64 r1)).setCell ⟨G4, 1, none⟩ (.int .i64 r2)).setCell ⟨G4, 2, none⟩ (.int .i64 r3)).setCell ⟨G4, 3, none⟩ (.int .i64 r4)) G4 [.int .i64 r1, .int .i64 r2, .int .i64 r3, .int .i64 r4] := b4.set 3 (.int .i64 r4)
        cases p
        · have HZ := hid (show comTo ls (k + 1) = (lz, false) by rcases comTo_fine ls (k + 1) with q | q; (rw [HN.out] at q; cases q); exact q)
          have HX := hid (comTo_stop HZ.out (show k + 1 ≤ n from hlt))
          replace HX := hid (HCQ.out.trans HX.out)
          have ca13_0 : ((((w9.setCell ⟨G4, 0, none⟩ (.int .i64 r1)).setCell ⟨G4, 1, none⟩ (.int .i64 r2)).setCell ⟨G4, 2, none⟩ (.int .i64 r3)).setCell ⟨G4, 3, none⟩ (.int .i64 r4)).cell? ⟨w.heap.size, 0, none⟩ = some (.int .i64 0) := (b2.2 0 _ rfl).1
          have fa13_0 : ((((w9.setCell ⟨G4, 0, none⟩ (.int .i64 r1)).setCell ⟨G4, 1, none⟩ (.int .i64 r2)).setCell ⟨G4, 2, none⟩ (.int .i64 r3)).setCell ⟨G4, 3, none⟩ (.int .i64 r4)).frozen? ⟨w.heap.size, 0, none⟩ = false := (b2.2 0 _ rfl).2
          have ca13_1 : ((((w9.setCell ⟨G4, 0, none⟩ (.int .i64 r1)).setCell ⟨G4, 1, none⟩ (.int .i64 r2)).setCell ⟨G4, 2, none⟩ (.int .i64 r3)).setCell ⟨G4, 3, none⟩ (.int .i64 r4)).cell? ⟨w.heap.size, 1, none⟩ = some (.int .i64 0) := (b2.2 1 _ rfl).1
          have fa13_1 : ((((w9.setCell ⟨G4, 0, none⟩ (.int .i64 r1)).setCell ⟨G4, 1, none⟩ (.int .i64 r2)).setCell ⟨G4, 2, none⟩ (.int .i64 r3)).setCell ⟨G4, 3, none⟩ (.int .i64 r4)).frozen? ⟨w.heap.size, 1, none⟩ = false := (b2.2 1 _ rfl).2
          have ca13_2 : ((((w9.setCell ⟨G4, 0, none⟩ (.int .i64 r1)).setCell ⟨G4, 1, none⟩ (.int .i64 r2)).setCell ⟨G4, 2, none⟩ (.int .i64 r3)).setCell ⟨G4, 3, none⟩ (.int .i64 r4)).cell? ⟨w.heap.size, 2, none⟩ = some (.int .i64 0) := (b2.2 2 _ rfl).1
          have fa13_2 : ((((w9.setCell ⟨G4, 0, none⟩ (.int .i64 r1)).setCell ⟨G4, 1, none⟩ (.int .i64 r2)).setCell ⟨G4, 2, none⟩ (.int .i64 r3)).setCell ⟨G4, 3, none⟩ (.int .i64 r4)).frozen? ⟨w.heap.size, 2, none⟩ = false := (b2.2 2 _ rfl).2
          have ca13_3 : ((((w9.setCell ⟨G4, 0, none⟩ (.int .i64 r1)).setCell ⟨G4, 1, none⟩ (.int .i64 r2)).setCell ⟨G4, 2, none⟩ (.int .i64 r3)).setCell ⟨G4, 3, none⟩ (.int .i64 r4)).cell? ⟨w.heap.size, 3, none⟩ = some (.int .i64 0) := (b2.2 3 _ rfl).1
          have fa13_3 : ((((w9.setCell ⟨G4, 0, none⟩ (.int .i64 r1)).setCell ⟨G4, 1, none⟩ (.int .i64 r2)).setCell ⟨G4, 2, none⟩ (.int .i64 r3)).setCell ⟨G4, 3, none⟩ (.int .i64 r4)).frozen? ⟨w.heap.size, 3, none⟩ = false := (b2.2 3 _ rfl).2
          replace b4 := b4.far (p := ⟨w.heap.size, 0, none⟩) (by show _ ≠ w.heap.size; omega) (.int .i64 0)
          replace kw := Below.setCell kw (p := ⟨w.heap.size, 0, none⟩) (by show _ ≤ w.heap.size; omega) (.int .i64 0)
          replace b2 : Bl (((((w9.setCell ⟨G4, 0, none⟩ (.int .i64 r1)).setCell ⟨G4, 1, none⟩ (.int .i64 r2)).setCell ⟨G4, 2, none⟩ (.int .i64 r3)).setCell ⟨G4, 3, none⟩ (.int .i64 r4)).setCell ⟨w.heap.size, 0, none⟩ (.int .i64 0)) w.heap.size [.int .i64 0, .int .i64 0, .int .i64 0, .int .i64 0] := b2.set 0 (.int .i64 0)
          replace b4 := b4.far (p := ⟨w.heap.size, 1, none⟩) (by show _ ≠ w.heap.size; omega) (.int .i64 0)
          replace kw := Below.setCell kw (p := ⟨w.heap.size, 1, none⟩) (by show _ ≤ w.heap.size; omega) (.int .i64 0)
          replace b2 : Bl ((((((w9.setCell ⟨G4, 0, none⟩ (.int .i64 r1)).setCell ⟨G4, 1, none⟩ (.int .i64 r2)).setCell ⟨G4, 2, none⟩ (.int .i64 r3)).setCell ⟨G4, 3, none⟩ (.int .i64 r4)).setCell ⟨w.heap.size, 0, none⟩ (.int .i64 0)).setCell ⟨w.heap.size, 1, none⟩ (.int .i64 0)) w.heap.size [.int .i64 0, .int .i64 0, .int .i64 0, .int .i64 0] := b2.set 1 (.int .i64 0)
          replace b4 := b4.far (p := ⟨w.heap.size, 2, none⟩) (by show _ ≠ w.heap.size; omega) (.int .i64 0)
          replace kw := Below.setCell kw (p := ⟨w.heap.size, 2, none⟩) (by show _ ≤ w.heap.size; omega) (.int .i64 0)
          replace b2 : Bl (((((((w9.setCell ⟨G4, 0, none⟩ (.int .i64 r1)).setCell ⟨G4, 1, none⟩ (.int .i64 r2)).setCell ⟨G4, 2, none⟩ (.int .i64 r3)).setCell ⟨G4, 3, none⟩ (.int .i64 r4)).setCell ⟨w.heap.size, 0, none⟩ (.int .i64 0)).setCell ⟨w.heap.size, 1, none⟩ (.int .i64 0)).setCell ⟨w.heap.size, 2, none⟩ (.int .i64 0)) w.heap.size [.int .i64 0, .int .i64 0, .int .i64 0, .int .i64 0] := b2.set 2 (.int .i64 0)
          replace b4 := b4.far (p := ⟨w.heap.size, 3, none⟩) (by show _ ≠ w.heap.size; omega) (.int .i64 0)
          replace kw := Below.setCell kw (p := ⟨w.heap.size, 3, none⟩) (by show _ ≤ w.heap.size; omega) (.int .i64 0)
          replace b2 : Bl ((((((((w9.setCell ⟨G4, 0, none⟩ (.int .i64 r1)).setCell ⟨G4, 1, none⟩ (.int .i64 r2)).setCell ⟨G4, 2, none⟩ (.int .i64 r3)).setCell ⟨G4, 3, none⟩ (.int .i64 r4)).setCell ⟨w.heap.size, 0, none⟩ (.int .i64 0)).setCell ⟨w.heap.size, 1, none⟩ (.int .i64 0)).setCell ⟨w.heap.size, 2, none⟩ (.int .i64 0)).setCell ⟨w.heap.size, 3, none⟩ (.int .i64 0)) w.heap.size [.int .i64 0, .int .i64 0, .int .i64 0, .int .i64 0] := b2.set 3 (.int .i64 0)
          have HK := hid kw
          clear kw
          go_wp2_with fail
          clear ca12_0 fa12_0 ca12_1 fa12_1 ca12_2 fa12_2 ca12_3 fa12_3 ca13_0 fa13_0 ca13_1 fa13_1 ca13_2 fa13_2 ca13_3 fa13_3
          have ca0_0 : ((((((((w9.setCell ⟨G4, 0, none⟩ (.int .i64 r1)).setCell ⟨G4, 1, none⟩ (.int .i64 r2)).setCell ⟨G4, 2, none⟩ (.int .i64 r3)).setCell ⟨G4, 3, none⟩ (.int .i64 r4)).setCell ⟨w.heap.size, 0, none⟩ (.int .i64 0)).setCell ⟨w.heap.size, 1, none⟩ (.int .i64 0)).setCell ⟨w.heap.size, 2, none⟩ (.int .i64 0)).setCell ⟨w.heap.size, 3, none⟩ (.int .i64 0)).cell? ⟨w.heap.size, 0, none⟩ = some (.int .i64 0) := (b2.2 0 _ rfl).1
          have ca0_1 : ((((((((w9.setCell ⟨G4, 0, none⟩ (.int .i64 r1)).setCell ⟨G4, 1, none⟩ (.int .i64 r2)).setCell ⟨G4, 2, none⟩ (.int .i64 r3)).setCell ⟨G4, 3, none⟩ (.int .i64 r4)).setCell ⟨w.heap.size, 0, none⟩ (.int .i64 0)).setCell ⟨w.heap.size, 1, none⟩ (.int .i64 0)).setCell ⟨w.heap.size, 2, none⟩ (.int .i64 0)).setCell ⟨w.heap.size, 3, none⟩ (.int .i64 0)).cell? ⟨w.heap.size, 1, none⟩ = some (.int .i64 0) := (b2.2 1 _ rfl).1
          have ca0_2 : ((((((((w9.setCell ⟨G4, 0, none⟩ (.int .i64 r1)).setCell ⟨G4, 1, none⟩ (.int .i64 r2)).setCell ⟨G4, 2, none⟩ (.int .i64 r3)).setCell ⟨G4, 3, none⟩ (.int .i64 r4)).setCell ⟨w.heap.size, 0, none⟩ (.int .i64 0)).setCell ⟨w.heap.size, 1, none⟩ (.int .i64 0)).setCell ⟨w.heap.size, 2, none⟩ (.int .i64 0)).setCell ⟨w.heap.size, 3, none⟩ (.int .i64 0)).cell? ⟨w.heap.size, 2, none⟩ = some (.int .i64 0) := (b2.2 2 _ rfl).1
          have ca0_3 : ((((((((w9.setCell ⟨G4, 0, none⟩ (.int .i64 r1)).setCell ⟨G4, 1, none⟩ (.int .i64 r2)).setCell ⟨G4, 2, none⟩ (.int .i64 r3)).setCell ⟨G4, 3, none⟩ (.int .i64 r4)).setCell ⟨w.heap.size, 0, none⟩ (.int .i64 0)).setCell ⟨w.heap.size, 1, none⟩ (.int .i64 0)).setCell ⟨w.heap.size, 2, none⟩ (.int .i64 0)).setCell ⟨w.heap.size, 3, none⟩ (.int .i64 0)).cell? ⟨w.heap.size, 3, none⟩ = some (.int .i64 0) := (b2.2 3 _ rfl).1
          try simp only [Exit.inBlock, Exit.then]
          exact bodyPost_ret (v := .tuple #[.agg #[.int .i64 0, .int .i64 0, .int .i64 0, .int .i64 0], .bool false]) (by simp [results, Tryz.results106, go_sem, ca0_0, ca0_1, ca0_2, ca0_3]) rfl ⟨ls_ret HX.out, HK.out⟩
        · skip
          go_wp2_with fail
          clear ca12_0 fa12_0 ca12_1 fa12_1 ca12_2 fa12_2 ca12_3 fa12_3
          go_roundw
          case rel => exact ⟨k + 1, r1, r2, r3, r4, by omega, by go_num, rfl, HN, b2, b4, kw⟩
          case measure => simp [intOf]; omega
      · obtain rfl : k = n := by omega
        have HX := hid (HCQ.out.trans HT.out)
        have ca7_0 : wr.cell? ⟨G4, 0, none⟩ = some (.int .i64 s1) := (b4.2 0 _ rfl).1
        have ca7_1 : wr.cell? ⟨G4, 1, none⟩ = some (.int .i64 s2) := (b4.2 1 _ rfl).1
        have ca7_2 : wr.cell? ⟨G4, 2, none⟩ = some (.int .i64 s3) := (b4.2 2 _ rfl).1
        have ca7_3 : wr.cell? ⟨G4, 3, none⟩ = some (.int .i64 s4) := (b4.2 3 _ rfl).1
        have ca8_0 : wr.cell? ⟨w.heap.size, 0, none⟩ = some (.int .i64 0) := (b2.2 0 _ rfl).1
        have fa8_0 : wr.frozen? ⟨w.heap.size, 0, none⟩ = false := (b2.2 0 _ rfl).2
        have ca8_1 : wr.cell? ⟨w.heap.size, 1, none⟩ = some (.int .i64 0) := (b2.2 1 _ rfl).1
        have fa8_1 : wr.frozen? ⟨w.heap.size, 1, none⟩ = false := (b2.2 1 _ rfl).2
        have ca8_2 : wr.cell? ⟨w.heap.size, 2, none⟩ = some (.int .i64 0) := (b2.2 2 _ rfl).1
        have fa8_2 : wr.frozen? ⟨w.heap.size, 2, none⟩ = false := (b2.2 2 _ rfl).2
        have ca8_3 : wr.cell? ⟨w.heap.size, 3, none⟩ = some (.int .i64 0) := (b2.2 3 _ rfl).1
        have fa8_3 : wr.frozen? ⟨w.heap.size, 3, none⟩ = false := (b2.2 3 _ rfl).2
        replace b4 := b4.far (p := ⟨w.heap.size, 0, none⟩) (by show _ ≠ w.heap.size; omega) (.int .i64 s1)
        replace kw := Below.setCell kw (p := ⟨w.heap.size, 0, none⟩) (by show _ ≤ w.heap.size; omega) (.int .i64 s1)
        replace b2 : Bl (wr.setCell ⟨w.heap.size, 0, none⟩ (.int .i64 s1)) w.heap.size [.int .i64 s1, .int .i64 0, .int .i64 0, .int .i64 0] := b2.set 0 (.int .i64 s1)
        replace b4 := b4.far (p := ⟨w.heap.size, 1, none⟩) (by show _ ≠ w.heap.size; omega) (.int .i64 s2)
        replace kw := Below.setCell kw (p := ⟨w.heap.size, 1, none⟩) (by show _ ≤ w.heap.size; omega) (.int .i64 s2)
        replace b2 : Bl ((wr.setCell ⟨w.heap.size, 0, none⟩ (.int .i64 s1)).setCell ⟨w.heap.size, 1, none⟩ (.int .i64 s2)) w.heap.size [.int .i64 s1, .int .i64 s2, .int .i64 0, .int .i64 0] := b2.set 1 (.int .i64 s2)
        replace b4 := b4.far (p := ⟨w.heap.size, 2, none⟩) (by show _ ≠ w.heap.size; omega) (.int .i64 s3)
        replace kw := Below.setCell kw (p := ⟨w.heap.size, 2, none⟩) (by show _ ≤ w.heap.size; omega) (.int .i64 s3)
        replace b2 : Bl (((wr.setCell ⟨w.heap.size, 0, none⟩ (.int .i64 s1)).setCell ⟨w.heap.size, 1, none⟩ (.int .i64 s2)).setCell ⟨w.heap.size, 2, none⟩ (.int .i64 s3)) w.heap.size [.int .i64 s1, .int .i64 s2, .int .i64 s3, .int .i64 0] := b2.set 2 (.int .i64 s3)
        replace b4 := b4.far (p := ⟨w.heap.size, 3, none⟩) (by show _ ≠ w.heap.size; omega) (.int .i64 s4)
        replace kw := Below.setCell kw (p := ⟨w.heap.size, 3, none⟩) (by show _ ≤ w.heap.size; omega) (.int .i64 s4)
        replace b2 : Bl ((((wr.setCell ⟨w.heap.size, 0, none⟩ (.int .i64 s1)).setCell ⟨w.heap.size, 1, none⟩ (.int .i64 s2)).setCell ⟨w.heap.size, 2, none⟩ (.int .i64 s3)).setCell ⟨w.heap.size, 3, none⟩ (.int .i64 s4)) w.heap.size [.int .i64 s1, .int .i64 s2, .int .i64 s3, .int .i64 s4] := b2.set 3 (.int .i64 s4)
        have HK := hid kw
        clear kw
        go_wp2_with fail
        clear ca7_0 ca7_1 ca7_2 ca7_3 ca8_0 fa8_0 ca8_1 fa8_1 ca8_2 fa8_2 ca8_3 fa8_3
        have ca0_0 : ((((wr.setCell ⟨w.heap.size, 0, none⟩ (.int .i64 s1)).setCell ⟨w.heap.size, 1, none⟩ (.int .i64 s2)).setCell ⟨w.heap.size, 2, none⟩ (.int .i64 s3)).setCell ⟨w.heap.size, 3, none⟩ (.int .i64 s4)).cell? ⟨w.heap.size, 0, none⟩ = some (.int .i64 s1) := (b2.2 0 _ rfl).1
        have ca0_1 : ((((wr.setCell ⟨w.heap.size, 0, none⟩ (.int .i64 s1)).setCell ⟨w.heap.size, 1, none⟩ (.int .i64 s2)).setCell ⟨w.heap.size, 2, none⟩ (.int .i64 s3)).setCell ⟨w.heap.size, 3, none⟩ (.int .i64 s4)).cell? ⟨w.heap.size, 1, none⟩ = some (.int .i64 s2) := (b2.2 1 _ rfl).1
        have ca0_2 : ((((wr.setCell ⟨w.heap.size, 0, none⟩ (.int .i64 s1)).setCell ⟨w.heap.size, 1, none⟩ (.int .i64 s2)).setCell ⟨w.heap.size, 2, none⟩ (.int .i64 s3)).setCell ⟨w.heap.size, 3, none⟩ (.int .i64 s4)).cell? ⟨w.heap.size, 2, none⟩ = some (.int .i64 s3) := (b2.2 2 _ rfl).1
        have ca0_3 : ((((wr.setCell ⟨w.heap.size, 0, none⟩ (.int .i64 s1)).setCell ⟨w.heap.size, 1, none⟩ (.int .i64 s2)).setCell ⟨w.heap.size, 2, none⟩ (.int .i64 s3)).setCell ⟨w.heap.size, 3, none⟩ (.int .i64 s4)).cell? ⟨w.heap.size, 3, none⟩ = some (.int .i64 s4) := (b2.2 3 _ rfl).1
        try simp only [Exit.inBlock, Exit.then]
        exact bodyPost_ret (v := .tuple #[.agg #[.int .i64 s1, .int .i64 s2, .int .i64 s3, .int .i64 s4], .bool true]) (by simp [results, Tryz.results106, go_sem, ca0_0, ca0_1, ca0_2, ca0_3]) rfl ⟨ls_ret HX.out, HK.out⟩
set_option maxRecDepth 100000 in
set_option maxHeartbeats 6400000 in
theorem pCompose_any {A : Option Addr} {lo hi n c : Nat} {ls : List LQ} {w : World} (h : Los w lo hi A n ls) (hall : lsAll ls = true) :
    Calls Tryz.prog 181 #[.slice A n c] w fun e w' => e = .returned (lossV (comTo ls n)) ∧ Keeps w w' := by
  have hn := h.le
  have HL := hid (Los.len h)
  go_enter Tryz.func181, Tryz.ntmps181
  have kw := keeps_refl w
  replace kw := Keeps.trans kw (keeps_alloc w (.cells #[.int .i64 0, .int .i64 0, .int .i64 0, .int .i64 0] 32))
  have b2 : Bl (w.alloc (.cells #[.int .i64 0, .int .i64 0, .int .i64 0, .int .i64 0] 32)) w.heap.size [.int .i64 0, .int .i64 0, .int .i64 0, .int .i64 0] := Bl.new' (by simp) (by simp)
  go_wp2_with fail
  have H1 := hid hall
  clear hall
  have HLS := hid (fun k (hk : k < n) => (show lsB (ls.getD k lz) = true by have := H1.out; unfold lsAll at this; simp only [Bool.and_eq_true] at this; rw [HL.out] at this; exact lsTo_row _ k this.1 hk))
  have HCG := hid (comTo_good HLS.out)
  go_wp2_with fail
  refine (pNone_any).mono ?_
  rintro e w1 ⟨rfl, k1⟩
  replace b2 := b2.keeps k1
  replace kw := Keeps.trans kw k1
  have lt2 := b2.lt
  have sz3 := kw.size
  clear k1
  replace b2 := b2.keeps (keeps_alloc w1 (.cells #[.int .i64 1, .int .i64 1, .int .i64 0, .int .i64 1] 32))
  replace kw := Keeps.trans kw (keeps_alloc w1 (.cells #[.int .i64 1, .int .i64 1, .int .i64 0, .int .i64 1] 32))
  have b4 : Bl (w1.alloc (.cells #[.int .i64 1, .int .i64 1, .int .i64 0, .int .i64 1] 32)) w1.heap.size [.int .i64 1, .int .i64 1, .int .i64 0, .int .i64 1] := Bl.new' (by simp) (by simp)
  go_wp2_with fail
  obtain ⟨G4, hG4⟩ : ∃ a, w1.heap.size = a := ⟨_, rfl⟩
  have hg4 : w.heap.size < G4 := by have := b4.lt; omega
  rw [hG4] at b4 ⊢
  clear hG4
  go_loopw [12] (fun i wr => ∃ (k : Nat) (s1 s2 s3 s4 : Int), k ≤ n ∧ i = .int .i64 k ∧ Hid (comTo ls k = ((s1, s2, s3, s4), true)) ∧ Bl wr w.heap.size [.int .i64 0, .int .i64 0, .int .i64 0, .int .i64 0] ∧ Bl wr G4 [.int .i64 s1, .int .i64 s2, .int .i64 s3, .int .i64 s4] ∧ Keeps w wr) (fun i _ => n - (intOf i).toNat)
  case atStart => exact ⟨0, 1, 1, 0, 1, Nat.zero_le _, rfl, hid rfl, b2, b4, kw⟩
  clear b2 b4 kw
  case round =>
    obtain ⟨k, s1, s2, s3, s4, hk, rfl, HT, b2, b4, kw⟩ := hrel
    by_cases hlt : k < n
    · obtain ⟨b, off, x1, x2, x3, x4, rfl, _, _, hc0, hc1, hc2, hc3, hx⟩ := Los.at_ (Sl.keeps h kw) hlt
      have hi1 : (k : Int) < (n : Int) := by omega
      have HS := hid (HCG.out k (by omega) _ HT.out)
      have HLX := hid (show lsB (x1, x2, x3, x4) = true by rw [hx.out]; exact HLS.out k hlt)
      have HN := hid (comTo_next HT.out hx.out)
      clear hx
      obtain ⟨r1, r2, r3, r4, p, HR⟩ : ∃ r1 r2 r3 r4 p, Hid (two (s1, s2, s3, s4) (x1, x2, x3, x4) = ((r1, r2, r3, r4), p)) := ⟨_, _, _, _, _, rfl⟩
      rw [HR.out] at HN
      have lt2 := b2.lt
      have lt4 := b4.lt
      replace b2 := b2.keeps (keeps_alloc wr (.cells #[.int .i64 x1, .int .i64 x2, .int .i64 x3, .int .i64 x4] 32))
      replace b4 := b4.keeps (keeps_alloc wr (.cells #[.int .i64 x1, .int .i64 x2, .int .i64 x3, .int .i64 x4] 32))
      replace kw := Keeps.trans kw (keeps_alloc wr (.cells #[.int .i64 x1, .int .i64 x2, .int .i64 x3, .int .i64 x4] 32))
      have b7 : Bl (wr.alloc (.cells #[.int .i64 x1, .int .i64 x2, .int .i64 x3, .int .i64 x4] 32)) wr.heap.size [.int .i64 x1, .int .i64 x2, .int .i64 x3, .int .i64 x4] := Bl.new' (by simp) (by simp)
      have ca4_0 : (wr.alloc (.cells #[.int .i64 x1, .int .i64 x2, .int .i64 x3, .int .i64 x4] 32)).cell? ⟨G4, 0, none⟩ = some (.int .i64 s1) := (b4.2 0 _ rfl).1
      have fa4_0 : (wr.alloc (.cells #[.int .i64 x1, .int .i64 x2, .int .i64 x3, .int .i64 x4] 32)).frozen? ⟨G4, 0, none⟩ = false := (b4.2 0 _ rfl).2
      have ca4_1 : (wr.alloc (.cells #[.int .i64 x1, .int .i64 x2, .int .i64 x3, .int .i64 x4] 32)).cell? ⟨G4, 1, none⟩ = some (.int .i64 s2) := (b4.2 1 _ rfl).1
      have fa4_1 : (wr.alloc (.cells #[.int .i64 x1, .int .i64 x2, .int .i64 x3, .int .i64 x4] 32)).frozen? ⟨G4, 1, none⟩ = false := (b4.2 1 _ rfl).2
      have ca4_2 : (wr.alloc (.cells #[.int .i64 x1, .int .i64 x2, .int .i64 x3, .int .i64 x4] 32)).cell? ⟨G4, 2, none⟩ = some (.int .i64 s3) := (b4.2 2 _ rfl).1
      have fa4_2 : (wr.alloc (.cells #[.int .i64 x1, .int .i64 x2, .int .i64 x3, .int .i64 x4] 32)).frozen? ⟨G4, 2, none⟩ = false := (b4.2 2 _ rfl).2
      have ca4_3 : (wr.alloc (.cells #[.int .i64 x1, .int .i64 x2, .int .i64 x3, .int .i64 x4] 32)).cell? ⟨G4, 3, none⟩ = some (.int .i64 s4) := (b4.2 3 _ rfl).1
      have fa4_3 : (wr.alloc (.cells #[.int .i64 x1, .int .i64 x2, .int .i64 x3, .int .i64 x4] 32)).frozen? ⟨G4, 3, none⟩ = false := (b4.2 3 _ rfl).2
      have ca5_0 : (wr.alloc (.cells #[.int .i64 x1, .int .i64 x2, .int .i64 x3, .int .i64 x4] 32)).cell? ⟨wr.heap.size, 0, none⟩ = some (.int .i64 x1) := (b7.2 0 _ rfl).1
      have ca5_1 : (wr.alloc (.cells #[.int .i64 x1, .int .i64 x2, .int .i64 x3, .int .i64 x4] 32)).cell? ⟨wr.heap.size, 1, none⟩ = some (.int .i64 x2) := (b7.2 1 _ rfl).1
      have ca5_2 : (wr.alloc (.cells #[.int .i64 x1, .int .i64 x2, .int .i64 x3, .int .i64 x4] 32)).cell? ⟨wr.heap.size, 2, none⟩ = some (.int .i64 x3) := (b7.2 2 _ rfl).1
      have ca5_3 : (wr.alloc (.cells #[.int .i64 x1, .int .i64 x2, .int .i64 x3, .int .i64 x4] 32)).cell? ⟨wr.heap.size, 3, none⟩ = some (.int .i64 x4) := (b7.2 3 _ rfl).1
      go_wp2_with fail
      clear ca4_0 fa4_0 ca4_1 fa4_1 ca4_2 fa4_2 ca4_3 fa4_3 ca5_0 ca5_1 ca5_2 ca5_3
      refine (pTwo_any HS.out HLX.out).mono ?_
      rintro e w6 ⟨rfl, k6⟩
      rw [HR.out]
      replace b2 := b2.keeps k6
      replace b4 := b4.keeps k6
      replace b7 := b7.keeps k6
      replace kw := Keeps.trans kw k6
      have lt7 := b7.lt
      have sz8 := kw.size
      clear k6
      clear hc0 hc1 hc2 hc3 b7
      replace b2 := b2.keeps (keeps_alloc w6 (.cells #[.int .i64 r1, .int .i64 r2, .int .i64 r3, .int .i64 r4] 32))
      replace b4 := b4.keeps (keeps_alloc w6 (.cells #[.int .i64 r1, .int .i64 r2, .int .i64 r3, .int .i64 r4] 32))
      replace kw := Keeps.trans kw (keeps_alloc w6 (.cells #[.int .i64 r1, .int .i64 r2, .int .i64 r3, .int .i64 r4] 32))
      have b7 : Bl (w6.alloc (.cells #[.int .i64 r1, .int .i64 r2, .int .i64 r3, .int .i64 r4] 32)) w6.heap.size [.int .i64 r1, .int .i64 r2, .int .i64 r3, .int .i64 r4] := Bl.new' (by simp) (by simp)
      cases p
      · have HZ := hid (show comTo ls (k + 1) = (lz, false) by rcases comTo_fine ls (k + 1) with q | q; (rw [HN.out] at q; cases q); exact q)
        have HX := hid (comTo_stop HZ.out (show k + 1 ≤ n from hlt))
        have ca9_0 : (w6.alloc (.cells #[.int .i64 r1, .int .i64 r2, .int .i64 r3, .int .i64 r4] 32)).cell? ⟨w.heap.size, 0, none⟩ = some (.int .i64 0) := (b2.2 0 _ rfl).1
        have fa9_0 : (w6.alloc (.cells #[.int .i64 r1, .int .i64 r2, .int .i64 r3, .int .i64 r4] 32)).frozen? ⟨w.heap.size, 0, none⟩ = false := (b2.2 0 _ rfl).2
        have ca9_1 : (w6.alloc (.cells #[.int .i64 r1, .int .i64 r2, .int .i64 r3, .int .i64 r4] 32)).cell? ⟨w.heap.size, 1, none⟩ = some (.int .i64 0) := (b2.2 1 _ rfl).1
        have fa9_1 : (w6.alloc (.cells #[.int .i64 r1, .int .i64 r2, .int .i64 r3, .int .i64 r4] 32)).frozen? ⟨w.heap.size, 1, none⟩ = false := (b2.2 1 _ rfl).2
        have ca9_2 : (w6.alloc (.cells #[.int .i64 r1, .int .i64 r2, .int .i64 r3, .int .i64 r4] 32)).cell? ⟨w.heap.size, 2, none⟩ = some (.int .i64 0) := (b2.2 2 _ rfl).1
        have fa9_2 : (w6.alloc (.cells #[.int .i64 r1, .int .i64 r2, .int .i64 r3, .int .i64 r4] 32)).frozen? ⟨w.heap.size, 2, none⟩ = false := (b2.2 2 _ rfl).2
        have ca9_3 : (w6.alloc (.cells #[.int .i64 r1, .int .i64 r2, .int .i64 r3, .int .i64 r4] 32)).cell? ⟨w.heap.size, 3, none⟩ = some (.int .i64 0) := (b2.2 3 _ rfl).1
        have fa9_3 : (w6.alloc (.cells #[.int .i64 r1, .int .i64 r2, .int .i64 r3, .int .i64 r4] 32)).frozen? ⟨w.heap.size, 3, none⟩ = false := (b2.2 3 _ rfl).2
        replace b4 := b4.far (p := ⟨w.heap.size, 0, none⟩) (by show _ ≠ w.heap.size; omega) (.int .i64 0)
        replace b7 := b7.far (p := ⟨w.heap.size, 0, none⟩) (by show _ ≠ w.heap.size; omega) (.int .i64 0)
        replace kw := Below.setCell kw (p := ⟨w.heap.size, 0, none⟩) (by show _ ≤ w.heap.size; omega) (.int .i64 0)
        replace b2 : Bl ((w6.alloc (.cells #[.int .i64 r1, .int .i64 r2, .int .i64 r3, .int .i64 r4] 32)).setCell ⟨w.heap.size, 0, none⟩ (.int .i64 0)) w.heap.size [.int .i64 0, .int .i64 0, .int .i64 0, .int .i64 0] := b2.set 0 (.int .i64 0)
        replace b4 := b4.far (p := ⟨w.heap.size, 1, none⟩) (by show _ ≠ w.heap.size; omega) (.int .i64 0)
        replace b7 := b7.far (p := ⟨w.heap.size, 1, none⟩) (by show _ ≠ w.heap.size; omega) (.int .i64 0)
        replace kw := Below.setCell kw (p := ⟨w.heap.size, 1, none⟩) (by show _ ≤ w.heap.size; omega) (.int .i64 0)
        replace b2 : Bl (((w6.alloc (.cells #[.int .i64 r1, .int .i64 r2, .int .i64 r3, .int .i64 r4] 32)).setCell ⟨w.heap.size, 0, none⟩ (.int .i64 0)).setCell ⟨w.heap.size, 1, none⟩ (.int .i64 0)) w.heap.size [.int .i64 0, .int .i64 0, .int .i64 0, .int .i64 0] := b2.set 1 (.int .i64 0)
        replace b4 := b4.far (p := ⟨w.heap.size, 2, none⟩) (by show _ ≠ w.heap.size; omega) (.int .i64 0)
        replace b7 := b7.far (p := ⟨w.heap.size, 2, none⟩) (by show _ ≠ w.heap.size; omega) (.int .i64 0)
        replace kw := Below.setCell kw (p := ⟨w.heap.size, 2, none⟩) (by show _ ≤ w.heap.size; omega) (.int .i64 0)
        replace b2 : Bl ((((w6.alloc (.cells #[.int .i64 r1, .int .i64 r2, .int .i64 r3, .int .i64 r4] 32)).setCell ⟨w.heap.size, 0, none⟩ (.int .i64 0)).setCell ⟨w.heap.size, 1, none⟩ (.int .i64 0)).setCell ⟨w.heap.size, 2, none⟩ (.int .i64 0)) w.heap.size [.int .i64 0, .int .i64 0, .int .i64 0, .int .i64 0] := b2.set 2 (.int .i64 0)
        replace b4 := b4.far (p := ⟨w.heap.size, 3, none⟩) (by show _ ≠ w.heap.size; omega) (.int .i64 0)
        replace b7 := b7.far (p := ⟨w.heap.size, 3, none⟩) (by show _ ≠ w.heap.size; omega) (.int .i64 0)
        replace kw := Below.setCell kw (p := ⟨w.heap.size, 3, none⟩) (by show _ ≤ w.heap.size; omega) (.int .i64 0)
        replace b2 : Bl (((((w6.alloc (.cells #[.int .i64 r1, .int .i64 r2, .int .i64 r3, .int .i64 r4] 32)).setCell ⟨w.heap.size, 0, none⟩ (.int .i64 0)).setCell ⟨w.heap.size, 1, none⟩ (.int .i64 0)).setCell ⟨w.heap.size, 2, none⟩ (.int .i64 0)).setCell ⟨w.heap.size, 3, none⟩ (.int .i64 0)) w.heap.size [.int .i64 0, .int .i64 0, .int .i64 0, .int .i64 0] := b2.set 3 (.int .i64 0)
        have HK := hid kw
        clear kw
        go_wp2_with fail
        clear ca9_0 fa9_0 ca9_1 fa9_1 ca9_2 fa9_2 ca9_3 fa9_3
        have ca0_0 : (((((w6.alloc (.cells #[.int .i64 r1, .int .i64 r2, .int .i64 r3, .int .i64 r4] 32)).setCell ⟨w.heap.size, 0, none⟩ (.int .i64 0)).setCell ⟨w.heap.size, 1, none⟩ (.int .i64 0)).setCell ⟨w.heap.size, 2, none⟩ (.int .i64 0)).setCell ⟨w.heap.size, 3, none⟩ (.int .i64 0)).cell? ⟨w.heap.size, 0, none⟩ = some (.int .i64 0) := (b2.2 0 _ rfl).1
        have ca0_1 : (((((w6.alloc (.cells #[.int .i64 r1, .int .i64 r2, .int .i64 r3, .int .i64 r4] 32)).setCell ⟨w.heap.size, 0, none⟩ (.int .i64 0)).setCell ⟨w.heap.size, 1, none⟩ (.int .i64 0)).setCell ⟨w.heap.size, 2, none⟩ (.int .i64 0)).setCell ⟨w.heap.size, 3, none⟩ (.int .i64 0)).cell? ⟨w.heap.size, 1, none⟩ = some (.int .i64 0) := (b2.2 1 _ rfl).1
        have ca0_2 : (((((w6.alloc (.cells #[.int .i64 r1, .int .i64 r2, .int .i64 r3, .int .i64 r4] 32)).setCell ⟨w.heap.size, 0, none⟩ (.int .i64 0)).setCell ⟨w.heap.size, 1, none⟩ (.int .i64 0)).setCell ⟨w.heap.size, 2, none⟩ (.int .i64 0)).setCell ⟨w.heap.size, 3, none⟩ (.int .i64 0)).cell? ⟨w.heap.size, 2, none⟩ = some (.int .i64 0) := (b2.2 2 _ rfl).1
        have ca0_3 : (((((w6.alloc (.cells #[.int .i64 r1, .int .i64 r2, .int .i64 r3, .int .i64 r4] 32)).setCell ⟨w.heap.size, 0, none⟩ (.int .i64 0)).setCell ⟨w.heap.size, 1, none⟩ (.int .i64 0)).setCell ⟨w.heap.size, 2, none⟩ (.int .i64 0)).setCell ⟨w.heap.size, 3, none⟩ (.int .i64 0)).cell? ⟨w.heap.size, 3, none⟩ = some (.int .i64 0) := (b2.2 3 _ rfl).1
        try simp only [Exit.inBlock, Exit.then]
        exact bodyPost_ret (v := .tuple #[.agg #[.int .i64 0, .int .i64 0, .int .i64 0, .int .i64 0], .bool false]) (by simp [results, Tryz.results181, go_sem, ca0_0, ca0_1, ca0_2, ca0_3]) rfl ⟨ls_ret HX.out, HK.out⟩
      · skip
        have ca9_0 : (w6.alloc (.cells #[.int .i64 r1, .int .i64 r2, .int .i64 r3, .int .i64 r4] 32)).cell? ⟨w6.heap.size, 0, none⟩ = some (.int .i64 r1) := (b7.2 0 _ rfl).1
        have ca9_1 : (w6.alloc (.cells #[.int .i64 r1, .int .i64 r2, .int .i64 r3, .int .i64 r4] 32)).cell? ⟨w6.heap.size, 1, none⟩ = some (.int .i64 r2) := (b7.2 1 _ rfl).1
        have ca9_2 : (w6.alloc (.cells #[.int .i64 r1, .int .i64 r2, .int .i64 r3, .int .i64 r4] 32)).cell? ⟨w6.heap.size, 2, none⟩ = some (.int .i64 r3) := (b7.2 2 _ rfl).1
        have ca9_3 : (w6.alloc (.cells #[.int .i64 r1, .int .i64 r2, .int .i64 r3, .int .i64 r4] 32)).cell? ⟨w6.heap.size, 3, none⟩ = some (.int .i64 r4) := (b7.2 3 _ rfl).1
        have ca10_0 : (w6.alloc (.cells #[.int .i64 r1, .int .i64 r2, .int .i64 r3, .int .i64 r4] 32)).cell? ⟨G4, 0, none⟩ = some (.int .i64 s1) := (b4.2 0 _ rfl).1
        have fa10_0 : (w6.alloc (.cells #[.int .i64 r1, .int .i64 r2, .int .i64 r3, .int .i64 r4] 32)).frozen? ⟨G4, 0, none⟩ = false := (b4.2 0 _ rfl).2
        have ca10_1 : (w6.alloc (.cells #[.int .i64 r1, .int .i64 r2, .int .i64 r3, .int .i64 r4] 32)).cell? ⟨G4, 1, none⟩ = some (.int .i64 s2) := (b4.2 1 _ rfl).1
        have fa10_1 : (w6.alloc (.cells #[.int .i64 r1, .int .i64 r2, .int .i64 r3, .int .i64 r4] 32)).frozen? ⟨G4, 1, none⟩ = false := (b4.2 1 _ rfl).2
        have ca10_2 : (w6.alloc (.cells #[.int .i64 r1, .int .i64 r2, .int .i64 r3, .int .i64 r4] 32)).cell? ⟨G4, 2, none⟩ = some (.int .i64 s3) := (b4.2 2 _ rfl).1
        have fa10_2 : (w6.alloc (.cells #[.int .i64 r1, .int .i64 r2, .int .i64 r3, .int .i64 r4] 32)).frozen? ⟨G4, 2, none⟩ = false := (b4.2 2 _ rfl).2
        have ca10_3 : (w6.alloc (.cells #[.int .i64 r1, .int .i64 r2, .int .i64 r3, .int .i64 r4] 32)).cell? ⟨G4, 3, none⟩ = some (.int .i64 s4) := (b4.2 3 _ rfl).1
        have fa10_3 : (w6.alloc (.cells #[.int .i64 r1, .int .i64 r2, .int .i64 r3, .int .i64 r4] 32)).frozen? ⟨G4, 3, none⟩ = false := (b4.2 3 _ rfl).2
        replace b2 := b2.far (p := ⟨G4, 0, none⟩) (by show _ ≠ G4; omega) (.int .i64 r1)
        replace b7 := b7.far (p := ⟨G4, 0, none⟩) (by show _ ≠ G4; omega) (.int .i64 r1)
        replace kw := Below.setCell kw (p := ⟨G4, 0, none⟩) (by show _ ≤ G4; omega) (.int .i64 r1)
        replace b4 : Bl ((w6.alloc (.cells #[.int .i64 r1, .int .i64 r2, .int .i64 r3, .int .i64 r4] 32)).setCell ⟨G4, 0, none⟩ (.int .i64 r1)) G4 [.int .i64 r1, .int .i64 s2, .int .i64 s3, .int .i64 s4] := b4.set 0 (.int .i64 r1)
        replace b2 := b2.far (p := ⟨G4, 1, none⟩) (by show _ ≠ G4; omega) (.int .i64 r2)
        replace b7 := b7.far (p := ⟨G4, 1, none⟩) (by show _ ≠ G4; omega) (.int .i64 r2)
        replace kw := Below.setCell kw (p := ⟨G4, 1, none⟩) (by show _ ≤ G4; omega) (.int .i64 r2)
        replace b4 : Bl (((w6.alloc (.cells #[.int .i64 r1, .int .i64 r2, .int .i64 r3, .int .i64 r4] 32)).setCell ⟨G4, 0, none⟩ (.int .i64 r1)).setCell ⟨G4, 1, none⟩ (.int .i64 r2)) G4 [.int .i64 r1, .int .i64 r2, .int .i64 s3, .int .i64 s4] := b4.set 1 (.int .i64 r2)
        replace b2 := b2.far (p := ⟨G4, 2, none⟩) (by show _ ≠ G4; omega) (.int .i64 r3)
        replace b7 := b7.far (p := ⟨G4, 2, none⟩) (by show _ ≠ G4; omega) (.int .i64 r3)
        replace kw := Below.setCell kw (p := ⟨G4, 2, none⟩) (by show _ ≤ G4; omega) (.int .i64 r3)
        replace b4 : Bl ((((w6.alloc (.cells #[.int .i64 r1, .int .i64 r2, .int .i64 r3, .int .i64 r4] 32)).setCell ⟨G4, 0, none⟩ (.int .i64 r1)).setCell ⟨G4, 1, none⟩ (.int .i64 r2)).setCell ⟨G4, 2, none⟩ (.int .i64 r3)) G4 [.int .i64 r1, .int .i64 r2, .int .i64 r3, .int .i64 s4] := b4.set 2 (.int .i64 r3)
        replace b2 := b2.far (p := ⟨G4, 3, none⟩) (by show _ ≠ G4; omega) (.int .i64 r4)
        replace b7 := b7.far (p := ⟨G4, 3, none⟩) (by show _ ≠ G4; omega) (.int .i64 r4)
        replace kw := Below.setCell kw (p := ⟨G4, 3, none⟩) (by show _ ≤ G4; omega) (.int .i64 r4)
        replace b4 : Bl (((((w6.alloc (.cells #[.int .i64 r1, .int .i64 r2, .int .i64 r3, .int .i64 r4] 32)).setCell ⟨G4, 0, none⟩ (.int .i64 r1)).setCell ⟨G4, 1, none⟩ (.int .i64 r2)).setCell ⟨G4, 2, none⟩ (.int .i64 r3)).setCell ⟨G4, 3, none⟩ (.int .i64 r4)) G4 [.int .i64 r1, .int .i64 r2, .int .i64 r3, .int .i64 r4] := b4.set 3 (.int .i64 r4)
        clear b7
        go_wp2_with fail
        clear ca9_0 ca9_1 ca9_2 ca9_3 ca10_0 fa10_0 ca10_1 fa10_1 ca10_2 fa10_2 ca10_3 fa10_3
        go_roundw
        case rel => exact ⟨k + 1, r1, r2, r3, r4, by omega, by go_num, HN, b2, b4, kw⟩
        case measure => simp [intOf]; omega
    · obtain rfl : k = n := by omega
      have HX := hid (HT.out)
      have ca4_0 : wr.cell? ⟨G4, 0, none⟩ = some (.int .i64 s1) := (b4.2 0 _ rfl).1
      have ca4_1 : wr.cell? ⟨G4, 1, none⟩ = some (.int .i64 s2) := (b4.2 1 _ rfl).1
      have ca4_2 : wr.cell? ⟨G4, 2, none⟩ = some (.int .i64 s3) := (b4.2 2 _ rfl).1
      have ca4_3 : wr.cell? ⟨G4, 3, none⟩ = some (.int .i64 s4) := (b4.2 3 _ rfl).1
      have ca5_0 : wr.cell? ⟨w.heap.size, 0, none⟩ = some (.int .i64 0) := (b2.2 0 _ rfl).1
      have fa5_0 : wr.frozen? ⟨w.heap.size, 0, none⟩ = false := (b2.2 0 _ rfl).2
      have ca5_1 : wr.cell? ⟨w.heap.size, 1, none⟩ = some (.int .i64 0) := (b2.2 1 _ rfl).1
      have fa5_1 : wr.frozen? ⟨w.heap.size, 1, none⟩ = false := (b2.2 1 _ rfl).2
      have ca5_2 : wr.cell? ⟨w.heap.size, 2, none⟩ = some (.int .i64 0) := (b2.2 2 _ rfl).1
      have fa5_2 : wr.frozen? ⟨w.heap.size, 2, none⟩ = false := (b2.2 2 _ rfl).2
      have ca5_3 : wr.cell? ⟨w.heap.size, 3, none⟩ = some (.int .i64 0) := (b2.2 3 _ rfl).1
      have fa5_3 : wr.frozen? ⟨w.heap.size, 3, none⟩ = false := (b2.2 3 _ rfl).2
      replace b4 := b4.far (p := ⟨w.heap.size, 0, none⟩) (by show _ ≠ w.heap.size; omega) (.int .i64 s1)
      replace kw := Below.setCell kw (p := ⟨w.heap.size, 0, none⟩) (by show _ ≤ w.heap.size; omega) (.int .i64 s1)
      replace b2 : Bl (wr.setCell ⟨w.heap.size, 0, none⟩ (.int .i64 s1)) w.heap.size [.int .i64 s1, .int .i64 0, .int .i64 0, .int .i64 0] := b2.set 0 (.int .i64 s1)
      replace b4 := b4.far (p := ⟨w.heap.size, 1, none⟩) (by show _ ≠ w.heap.size; omega) (.int .i64 s2)
      replace kw := Below.setCell kw (p := ⟨w.heap.size, 1, none⟩) (by show _ ≤ w.heap.size; omega) (.int .i64 s2)
      replace b2 : Bl ((wr.setCell ⟨w.heap.size, 0, none⟩ (.int .i64 s1)).setCell ⟨w.heap.size, 1, none⟩ (.int .i64 s2)) w.heap.size [.int .i64 s1, .int .i64 s2, .int .i64 0, .int .i64 0] := b2.set 1 (.int .i64 s2)
      replace b4 := b4.far (p := ⟨w.heap.size, 2, none⟩) (by show _ ≠ w.heap.size; omega) (.int .i64 s3)
      replace kw := Below.setCell kw (p := ⟨w.heap.size, 2, none⟩) (by show _ ≤ w.heap.size; omega) (.int .i64 s3)
      replace b2 : Bl (((wr.setCell ⟨w.heap.size, 0, none⟩ (.int .i64 s1)).setCell ⟨w.heap.size, 1, none⟩ (.int .i64 s2)).setCell ⟨w.heap.size, 2, none⟩ (.int .i64 s3)) w.heap.size [.int .i64 s1, .int .i64 s2, .int .i64 s3, .int .i64 0] := b2.set 2 (.int .i64 s3)
      replace b4 := b4.far (p := ⟨w.heap.size, 3, none⟩) (by show _ ≠ w.heap.size; omega) (.int .i64 s4)
      replace kw := Below.setCell kw (p := ⟨w.heap.size, 3, none⟩) (by show _ ≤ w.heap.size; omega) (.int .i64 s4)
      replace b2 : Bl ((((wr.setCell ⟨w.heap.size, 0, none⟩ (.int .i64 s1)).setCell ⟨w.heap.size, 1, none⟩ (.int .i64 s2)).setCell ⟨w.heap.size, 2, none⟩ (.int .i64 s3)).setCell ⟨w.heap.size, 3, none⟩ (.int .i64 s4)) w.heap.size [.int .i64 s1, .int .i64 s2, .int .i64 s3, .int .i64 s4] := b2.set 3 (.int .i64 s4)
      have HK := hid kw
      clear kw
      go_wp2_with fail
      clear ca4_0 ca4_1 ca4_2 ca4_3 ca5_0 fa5_0 ca5_1 fa5_1 ca5_2 fa5_2 ca5_3 fa5_3
      have ca0_0 : ((((wr.setCell ⟨w.heap.size, 0, none⟩ (.int .i64 s1)).setCell ⟨w.heap.size, 1, none⟩ (.int .i64 s2)).setCell ⟨w.heap.size, 2, none⟩ (.int .i64 s3)).setCell ⟨w.heap.size, 3, none⟩ (.int .i64 s4)).cell? ⟨w.heap.size, 0, none⟩ = some (.int .i64 s1) := (b2.2 0 _ rfl).1
      have ca0_1 : ((((wr.setCell ⟨w.heap.size, 0, none⟩ (.int .i64 s1)).setCell ⟨w.heap.size, 1, none⟩ (.int .i64 s2)).setCell ⟨w.heap.size, 2, none⟩ (.int .i64 s3)).setCell ⟨w.heap.size, 3, none⟩ (.int .i64 s4)).cell? ⟨w.heap.size, 1, none⟩ = some (.int .i64 s2) := (b2.2 1 _ rfl).1
      have ca0_2 : ((((wr.setCell ⟨w.heap.size, 0, none⟩ (.int .i64 s1)).setCell ⟨w.heap.size, 1, none⟩ (.int .i64 s2)).setCell ⟨w.heap.size, 2, none⟩ (.int .i64 s3)).setCell ⟨w.heap.size, 3, none⟩ (.int .i64 s4)).cell? ⟨w.heap.size, 2, none⟩ = some (.int .i64 s3) := (b2.2 2 _ rfl).1
      have ca0_3 : ((((wr.setCell ⟨w.heap.size, 0, none⟩ (.int .i64 s1)).setCell ⟨w.heap.size, 1, none⟩ (.int .i64 s2)).setCell ⟨w.heap.size, 2, none⟩ (.int .i64 s3)).setCell ⟨w.heap.size, 3, none⟩ (.int .i64 s4)).cell? ⟨w.heap.size, 3, none⟩ = some (.int .i64 s4) := (b2.2 3 _ rfl).1
      try simp only [Exit.inBlock, Exit.then]
      exact bodyPost_ret (v := .tuple #[.agg #[.int .i64 s1, .int .i64 s2, .int .i64 s3, .int .i64 s4], .bool true]) (by simp [results, Tryz.results181, go_sem, ca0_0, ca0_1, ca0_2, ca0_3]) rfl ⟨ls_ret HX.out, HK.out⟩
set_option maxRecDepth 100000 in
set_option maxHeartbeats 3200000 in
theorem specCompose_any {A : Option Addr} {lo hi n c : Nat} {ls : List LQ} {w : World} (h : Los w lo hi A n ls) :
    Calls Tryz.prog 145 #[.slice A n c] w fun e w' => e = .returned (lossV (comQ ls)) ∧ Keeps w w' := by
  have HL := hid (Los.len h)
  go_enter Tryz.func145, Tryz.ntmps145
  have kw := keeps_refl w
  replace kw := Keeps.trans kw (keeps_alloc w (.cells #[.int .i64 0, .int .i64 0, .int .i64 0, .int .i64 0] 32))
  have b2 : Bl (w.alloc (.cells #[.int .i64 0, .int .i64 0, .int .i64 0, .int .i64 0] 32)) w.heap.size [.int .i64 0, .int .i64 0, .int .i64 0, .int .i64 0] := Bl.new' (by simp) (by simp)
  go_wp2_with fail
  obtain ⟨pH1, H1⟩ : ∃ pB, Hid (lsAll ls = pB) := ⟨_, rfl⟩
  refine (pList_any (Sl.keeps h kw)).mono ?_
  rintro e w1 ⟨rfl, k1⟩
  rw [H1.out]
  replace b2 := b2.keeps k1
  replace kw := Keeps.trans kw k1
  have lt2 := b2.lt
  have sz3 := kw.size
  clear k1
  cases pH1
  · have HX := hid (comQ_no H1.out)
    have ca4_0 : w1.cell? ⟨w.heap.size, 0, none⟩ = some (.int .i64 0) := (b2.2 0 _ rfl).1
    have fa4_0 : w1.frozen? ⟨w.heap.size, 0, none⟩ = false := (b2.2 0 _ rfl).2
    have ca4_1 : w1.cell? ⟨w.heap.size, 1, none⟩ = some (.int .i64 0) := (b2.2 1 _ rfl).1
    have fa4_1 : w1.frozen? ⟨w.heap.size, 1, none⟩ = false := (b2.2 1 _ rfl).2
    have ca4_2 : w1.cell? ⟨w.heap.size, 2, none⟩ = some (.int .i64 0) := (b2.2 2 _ rfl).1
    have fa4_2 : w1.frozen? ⟨w.heap.size, 2, none⟩ = false := (b2.2 2 _ rfl).2
    have ca4_3 : w1.cell? ⟨w.heap.size, 3, none⟩ = some (.int .i64 0) := (b2.2 3 _ rfl).1
    have fa4_3 : w1.frozen? ⟨w.heap.size, 3, none⟩ = false := (b2.2 3 _ rfl).2
    replace kw := Below.setCell kw (p := ⟨w.heap.size, 0, none⟩) (by show _ ≤ w.heap.size; omega) (.int .i64 0)
    replace b2 : Bl (w1.setCell ⟨w.heap.size, 0, none⟩ (.int .i64 0)) w.heap.size [.int .i64 0, .int .i64 0, .int .i64 0, .int .i64 0] := b2.set 0 (.int .i64 0)
    replace kw := Below.setCell kw (p := ⟨w.heap.size, 1, none⟩) (by show _ ≤ w.heap.size; omega) (.int .i64 0)
    replace b2 : Bl ((w1.setCell ⟨w.heap.size, 0, none⟩ (.int .i64 0)).setCell ⟨w.heap.size, 1, none⟩ (.int .i64 0)) w.heap.size [.int .i64 0, .int .i64 0, .int .i64 0, .int .i64 0] := b2.set 1 (.int .i64 0)
    replace kw := Below.setCell kw (p := ⟨w.heap.size, 2, none⟩) (by show _ ≤ w.heap.size; omega) (.int .i64 0)
    replace b2 : Bl (((w1.setCell ⟨w.heap.size, 0, none⟩ (.int .i64 0)).setCell ⟨w.heap.size, 1, none⟩ (.int .i64 0)).setCell ⟨w.heap.size, 2, none⟩ (.int .i64 0)) w.heap.size [.int .i64 0, .int .i64 0, .int .i64 0, .int .i64 0] := b2.set 2 (.int .i64 0)
    replace kw := Below.setCell kw (p := ⟨w.heap.size, 3, none⟩) (by show _ ≤ w.heap.size; omega) (.int .i64 0)
    replace b2 : Bl ((((w1.setCell ⟨w.heap.size, 0, none⟩ (.int .i64 0)).setCell ⟨w.heap.size, 1, none⟩ (.int .i64 0)).setCell ⟨w.heap.size, 2, none⟩ (.int .i64 0)).setCell ⟨w.heap.size, 3, none⟩ (.int .i64 0)) w.heap.size [.int .i64 0, .int .i64 0, .int .i64 0, .int .i64 0] := b2.set 3 (.int .i64 0)
    have HK := hid kw
    clear kw
    go_wp2_with fail
    clear ca4_0 fa4_0 ca4_1 fa4_1 ca4_2 fa4_2 ca4_3 fa4_3
    have ca0_0 : ((((w1.setCell ⟨w.heap.size, 0, none⟩ (.int .i64 0)).setCell ⟨w.heap.size, 1, none⟩ (.int .i64 0)).setCell ⟨w.heap.size, 2, none⟩ (.int .i64 0)).setCell ⟨w.heap.size, 3, none⟩ (.int .i64 0)).cell? ⟨w.heap.size, 0, none⟩ = some (.int .i64 0) := (b2.2 0 _ rfl).1
    have ca0_1 : ((((w1.setCell ⟨w.heap.size, 0, none⟩ (.int .i64 0)).setCell ⟨w.heap.size, 1, none⟩ (.int .i64 0)).setCell ⟨w.heap.size, 2, none⟩ (.int .i64 0)).setCell ⟨w.heap.size, 3, none⟩ (.int .i64 0)).cell? ⟨w.heap.size, 1, none⟩ = some (.int .i64 0) := (b2.2 1 _ rfl).1
    have ca0_2 : ((((w1.setCell ⟨w.heap.size, 0, none⟩ (.int .i64 0)).setCell ⟨w.heap.size, 1, none⟩ (.int .i64 0)).setCell ⟨w.heap.size, 2, none⟩ (.int .i64 0)).setCell ⟨w.heap.size, 3, none⟩ (.int .i64 0)).cell? ⟨w.heap.size, 2, none⟩ = some (.int .i64 0) := (b2.2 2 _ rfl).1
    have ca0_3 : ((((w1.setCell ⟨w.heap.size, 0, none⟩ (.int .i64 0)).setCell ⟨w.heap.size, 1, none⟩ (.int .i64 0)).setCell ⟨w.heap.size, 2, none⟩ (.int .i64 0)).setCell ⟨w.heap.size, 3, none⟩ (.int .i64 0)).cell? ⟨w.heap.size, 3, none⟩ = some (.int .i64 0) := (b2.2 3 _ rfl).1
    try simp only [Exit.inBlock, Exit.then]
    exact bodyPost_ret (v := .tuple #[.agg #[.int .i64 0, .int .i64 0, .int .i64 0, .int .i64 0], .bool false]) (by simp [results, Tryz.results145, go_sem, ca0_0, ca0_1, ca0_2, ca0_3]) rfl ⟨ls_ret HX.out, HK.out⟩
  · skip
    have HCQ := hid (show comQ ls = comTo ls n by rw [comQ_yes H1.out, HL.out])
    obtain ⟨r1, r2, r3, r4, p, HR⟩ : ∃ r1 r2 r3 r4 p, Hid (comTo ls n = ((r1, r2, r3, r4), p)) := ⟨_, _, _, _, _, rfl⟩
    have HX := hid (HCQ.out.trans HR.out)
    go_wp2_with fail
    refine (pCompose_any (Sl.keeps h kw) H1.out).mono ?_
    rintro e w4 ⟨rfl, k4⟩
    rw [HR.out]
    replace b2 := b2.keeps k4
    replace kw := Keeps.trans kw k4
    have lt5 := b2.lt
    have sz6 := kw.size
    clear k4
    have ca7_0 : w4.cell? ⟨w.heap.size, 0, none⟩ = some (.int .i64 0) := (b2.2 0 _ rfl).1
    have fa7_0 : w4.frozen? ⟨w.heap.size, 0, none⟩ = false := (b2.2 0 _ rfl).2
    have ca7_1 : w4.cell? ⟨w.heap.size, 1, none⟩ = some (.int .i64 0) := (b2.2 1 _ rfl).1
    have fa7_1 : w4.frozen? ⟨w.heap.size, 1, none⟩ = false := (b2.2 1 _ rfl).2
    have ca7_2 : w4.cell? ⟨w.heap.size, 2, none⟩ = some (.int .i64 0) := (b2.2 2 _ rfl).1
    have fa7_2 : w4.frozen? ⟨w.heap.size, 2, none⟩ = false := (b2.2 2 _ rfl).2
    have ca7_3 : w4.cell? ⟨w.heap.size, 3, none⟩ = some (.int .i64 0) := (b2.2 3 _ rfl).1
    have fa7_3 : w4.frozen? ⟨w.heap.size, 3, none⟩ = false := (b2.2 3 _ rfl).2
    replace kw := Below.setCell kw (p := ⟨w.heap.size, 0, none⟩) (by show _ ≤ w.heap.size; omega) (.int .i64 r1)
    replace b2 : Bl (w4.setCell ⟨w.heap.size, 0, none⟩ (.int .i64 r1)) w.heap.size [.int .i64 r1, .int .i64 0, .int .i64 0, .int .i64 0] := b2.set 0 (.int .i64 r1)
    replace kw := Below.setCell kw (p := ⟨w.heap.size, 1, none⟩) (by show _ ≤ w.heap.size; omega) (.int .i64 r2)
    replace b2 : Bl ((w4.setCell ⟨w.heap.size, 0, none⟩ (.int .i64 r1)).setCell ⟨w.heap.size, 1, none⟩ (.int .i64 r2)) w.heap.size [.int .i64 r1, .int .i64 r2, .int .i64 0, .int .i64 0] := b2.set 1 (.int .i64 r2)
    replace kw := Below.setCell kw (p := ⟨w.heap.size, 2, none⟩) (by show _ ≤ w.heap.size; omega) (.int .i64 r3)
    replace b2 : Bl (((w4.setCell ⟨w.heap.size, 0, none⟩ (.int .i64 r1)).setCell ⟨w.heap.size, 1, none⟩ (.int .i64 r2)).setCell ⟨w.heap.size, 2, none⟩ (.int .i64 r3)) w.heap.size [.int .i64 r1, .int .i64 r2, .int .i64 r3, .int .i64 0] := b2.set 2 (.int .i64 r3)
    replace kw := Below.setCell kw (p := ⟨w.heap.size, 3, none⟩) (by show _ ≤ w.heap.size; omega) (.int .i64 r4)
    replace b2 : Bl ((((w4.setCell ⟨w.heap.size, 0, none⟩ (.int .i64 r1)).setCell ⟨w.heap.size, 1, none⟩ (.int .i64 r2)).setCell ⟨w.heap.size, 2, none⟩ (.int .i64 r3)).setCell ⟨w.heap.size, 3, none⟩ (.int .i64 r4)) w.heap.size [.int .i64 r1, .int .i64 r2, .int .i64 r3, .int .i64 r4] := b2.set 3 (.int .i64 r4)
    have HK := hid kw
    clear kw
    go_wp2_with fail
    clear ca7_0 fa7_0 ca7_1 fa7_1 ca7_2 fa7_2 ca7_3 fa7_3
    have ca0_0 : ((((w4.setCell ⟨w.heap.size, 0, none⟩ (.int .i64 r1)).setCell ⟨w.heap.size, 1, none⟩ (.int .i64 r2)).setCell ⟨w.heap.size, 2, none⟩ (.int .i64 r3)).setCell ⟨w.heap.size, 3, none⟩ (.int .i64 r4)).cell? ⟨w.heap.size, 0, none⟩ = some (.int .i64 r1) := (b2.2 0 _ rfl).1
    have ca0_1 : ((((w4.setCell ⟨w.heap.size, 0, none⟩ (.int .i64 r1)).setCell ⟨w.heap.size, 1, none⟩ (.int .i64 r2)).setCell ⟨w.heap.size, 2, none⟩ (.int .i64 r3)).setCell ⟨w.heap.size, 3, none⟩ (.int .i64 r4)).cell? ⟨w.heap.size, 1, none⟩ = some (.int .i64 r2) := (b2.2 1 _ rfl).1
    have ca0_2 : ((((w4.setCell ⟨w.heap.size, 0, none⟩ (.int .i64 r1)).setCell ⟨w.heap.size, 1, none⟩ (.int .i64 r2)).setCell ⟨w.heap.size, 2, none⟩ (.int .i64 r3)).setCell ⟨w.heap.size, 3, none⟩ (.int .i64 r4)).cell? ⟨w.heap.size, 2, none⟩ = some (.int .i64 r3) := (b2.2 2 _ rfl).1
    have ca0_3 : ((((w4.setCell ⟨w.heap.size, 0, none⟩ (.int .i64 r1)).setCell ⟨w.heap.size, 1, none⟩ (.int .i64 r2)).setCell ⟨w.heap.size, 2, none⟩ (.int .i64 r3)).setCell ⟨w.heap.size, 3, none⟩ (.int .i64 r4)).cell? ⟨w.heap.size, 3, none⟩ = some (.int .i64 r4) := (b2.2 3 _ rfl).1
    try simp only [Exit.inBlock, Exit.then]
    exact bodyPost_ret (v := .tuple #[.agg #[.int .i64 r1, .int .i64 r2, .int .i64 r3, .int .i64 r4], .bool p]) (by simp [results, Tryz.results145, go_sem, ca0_0, ca0_1, ca0_2, ca0_3]) rfl ⟨ls_ret HX.out, HK.out⟩
end Go.Proofs.YtohjkpopbmmliaaGreat
