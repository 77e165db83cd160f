/- The texts of tables, plans and histories: plain lemmas, no walk. -/
import Derived.Test.YtlkjhkkfdmjfcaaGreatDoorTxn
import Derived.Test.YtlkjhkkfdmjfcaaGreatDoorRls
import Derived.Lib.Join
namespace Go.Proofs.YtlkjhkkfdmjfcaaGreatDoor
open Go.RowKit
set_option linter.unusedVariables false
set_option linter.unusedSimpArgs false
theorem schTo_row {l : List VV} : ∀ n k, schTo l n = true → k < n → schRow l k = true
  | 0, k, _, hk => absurd hk (by omega)
  | n + 1, k, h, hk => by
    unfold schTo at h
    simp only [Bool.and_eq_true] at h
    rcases Nat.lt_or_ge k n with h1 | h1
    · exact schTo_row n k h.1 h1
    · obtain rfl : k = n := by omega
      exact h.2
/-- The name of a variable. -/
def nmT (l : List VV) (j : Nat) : List UInt8 := (l.getD j v0).1.data.toList
theorem nmT_bs (l : List VV) (j : Nat) : (l.getD j v0).1 = bs (nmT l j) := by
  apply ByteArray.ext
  simp [bs, nmT]
theorem nmT_len {l : List VV} {j : Nat} (h : schB l = true) (hj : j < l.length) : (nmT l j).length ≤ 8 := by
  have hr : schRow l j = true := by
    unfold schB at h
    simp only [Bool.and_eq_true] at h
    exact schTo_row _ _ h.2 hj
  unfold schRow at hr
  simp only [Bool.and_eq_true] at hr
  have hw := hr.1.1
  unfold wordB at hw
  simp only [Bool.and_eq_true] at hw
  have := inB_true.1 hw.2
  have e : (nmT l j).length = (l.getD j v0).1.size := by unfold nmT; rw [Array.length_toList]; rfl
  omega
/-- A level is in a set. -/
def bitB (s : Int) (x : Nat) : Bool := bits BinOp.and IntKind.i64 (s / 2 ^ x) 1 == 1
theorem bitB_none {s : Int} {x : Nat} (h0 : 0 ≤ s) (h : ¬ 0 < s / 2 ^ x) : bitB s x = false := by
  have e : s / 2 ^ x = 0 := by
    have h3 := Int.ediv_nonneg h0 (show (0 : Int) ≤ 2 ^ x from Int.le_of_lt (Int.pow_pos (by omega)))
    exact Int.le_antisymm (Int.not_lt.1 h) h3
  unfold bitB
  rw [e]
  decide
theorem div_pow_le {s : Int} {k n : Nat} (h0 : 0 ≤ s) (h : ¬ 0 < s / 2 ^ k) (hn : k ≤ n) : ¬ 0 < s / 2 ^ n := by
  have h1 : s < 2 ^ k := by
    rcases Int.lt_or_le s (2 ^ k) with h2 | h2
    · exact h2
    · have h3 : 1 ≤ s / 2 ^ k := Int.le_ediv_of_mul_le (Int.pow_pos (by omega)) (by rw [Int.one_mul]; exact h2)
      exact absurd (show 0 < s / 2 ^ k from h3) h
  have h2 : (2 : Int) ^ k ≤ 2 ^ n := by
    have : (2 : Nat) ^ k ≤ 2 ^ n := Nat.pow_le_pow_right (by omega) hn
    exact_mod_cast this
  rw [Int.ediv_eq_zero_of_lt h0 (by omega)]
  omega
def bitsTo (s : Int) : Nat → List Nat
  | 0 => []
  | k + 1 => if bitB s k = true then bitsTo s k ++ [k] else bitsTo s k
theorem bitsTo_yes {s : Int} {k : Nat} (h : bitB s k = true) : bitsTo s (k + 1) = bitsTo s k ++ [k] := if_pos h
theorem bitsTo_no {s : Int} {k : Nat} (h : bitB s k = false) : bitsTo s (k + 1) = bitsTo s k := if_neg (by rw [h]; simp)
theorem bitsTo_len (s : Int) : ∀ k, (bitsTo s k).length ≤ k
  | 0 => Nat.le_refl _
  | k + 1 => by
    have := bitsTo_len s k
    unfold bitsTo; split
    · rw [List.length_append, List.length_singleton]; omega
    · omega
theorem bitsTo_lt (s : Int) : ∀ k x, x ∈ bitsTo s k → x < k
  | 0, x, h => absurd h (by simp [bitsTo])
  | k + 1, x, h => by
    unfold bitsTo at h; split at h
    · rcases List.mem_append.1 h with h | h
      · have := bitsTo_lt s k x h; omega
      · rw [List.mem_singleton.1 h]; omega
    · have := bitsTo_lt s k x h; omega
theorem bitsTo_stop {s : Int} {k : Nat} (h0 : 0 ≤ s) (h : ¬ 0 < s / 2 ^ k) : ∀ n, k ≤ n → bitsTo s n = bitsTo s k := by
  intro n
  induction n with
  | zero => intro hn; obtain rfl : k = 0 := by omega
            rfl
  | succ n ih =>
    intro hn
    rcases Nat.lt_or_ge k (n + 1) with h1 | h1
    · rw [bitsTo_no (bitB_none h0 (div_pow_le h0 h (by omega)))]; exact ih (by omega)
    · obtain rfl : k = n + 1 := by omega
      rfl
def digs (s : Int) (k : Nat) : List (List UInt8) := (bitsTo s k).map Lib.decDigits
def joinC (xs : List (List UInt8)) : List UInt8 := Lib.join xs [44]
theorem joinTail_snoc (sep : List UInt8) (r : List (List UInt8)) (y : List UInt8) : Lib.joinTail sep (r ++ [y]) = Lib.joinTail sep r ++ (sep ++ y) := by simp [Lib.joinTail]
theorem joinC_nil : joinC [] = [] := rfl
theorem joinC_one (x : List UInt8) : joinC [x] = x := Lib.join_one x [44]
theorem joinC_snoc {xs : List (List UInt8)} (h : xs ≠ []) (y : List UInt8) : joinC (xs ++ [y]) = joinC xs ++ ([44] ++ y) := by
  cases xs with
  | nil => exact absurd rfl h
  | cons x r =>
    unfold joinC
    rw [List.cons_append, Lib.join_cons, Lib.join_cons, joinTail_snoc, List.append_assoc]
theorem joinTail_len (m : Nat) : ∀ r : List (List UInt8), (∀ x ∈ r, x.length ≤ m) → (Lib.joinTail [44] r).length ≤ r.length * (m + 1)
  | [], _ => by simp [Lib.joinTail]
  | x :: r, h => by
    have h1 := joinTail_len m r (fun y hy => h y (List.mem_cons_of_mem _ hy))
    have h2 := h x List.mem_cons_self
    have e : Lib.joinTail [44] (x :: r) = [44] ++ x ++ Lib.joinTail [44] r := by simp [Lib.joinTail]
    rw [e, List.length_append, List.length_append, List.length_singleton, show (x :: r).length = r.length + 1 from rfl, Nat.succ_mul]
    omega
theorem joinC_len {m : Nat} {xs : List (List UInt8)} (h : ∀ x ∈ xs, x.length ≤ m) : (joinC xs).length ≤ xs.length * (m + 1) := by
  cases xs with
  | nil => simp [joinC_nil]
  | cons x r =>
    have h1 := joinTail_len m r (fun y hy => h y (List.mem_cons_of_mem _ hy))
    have h2 := h x List.mem_cons_self
    unfold joinC
    rw [Lib.join_cons, List.length_append, List.length_cons, Nat.succ_mul]
    omega
/-- The text of a set. -/
def setT (s : Int) : List UInt8 := joinC (digs s 8)
theorem digs_small (s : Int) {k : Nat} (hk : k ≤ 8) : ∀ x ∈ digs s k, x.length ≤ 1 := by
  intro x hx
  obtain ⟨j, hj, rfl⟩ := List.mem_map.1 hx
  have := bitsTo_lt s k j hj
  rw [Lib.decDigits_one (by omega)]; simp
theorem digs_len (s : Int) (k : Nat) : (digs s k).length ≤ k := by unfold digs; rw [List.length_map]; exact bitsTo_len s k
theorem joinC_digs (s : Int) {k : Nat} (hk : k ≤ 8) : (joinC (digs s k)).length ≤ 16 := by
  have h1 := joinC_len (digs_small s hk)
  have h2 := digs_len s k
  omega
theorem setT_len (s : Int) : (setT s).length ≤ 16 := joinC_digs s (Nat.le_refl _)
/-- The text of the conditions; whether there was one. -/
def wT (l : List VV) (ws : List Int) : Nat → List UInt8 × Bool
  | 0 => ([], false)
  | k + 1 => if ws.getD k 0 = 0 then wT l ws k else ((wT l ws k).1 ++ ((if (wT l ws k).2 = true then [] else [32, 119, 104, 101, 114, 101]) ++ ([32] ++ (nmT l k ++ ([61] ++ setT (ws.getD k 0))))), true)
theorem wT_no {l : List VV} {ws : List Int} {k : Nat} (h : ws.getD k 0 = 0) : wT l ws (k + 1) = wT l ws k := if_pos h
theorem wT_yes {l : List VV} {ws : List Int} {k : Nat} (h : ¬ ws.getD k 0 = 0) : wT l ws (k + 1) = ((wT l ws k).1 ++ ((if (wT l ws k).2 = true then [] else [32, 119, 104, 101, 114, 101]) ++ ([32] ++ (nmT l k ++ ([61] ++ setT (ws.getD k 0))))), true) := if_neg h
theorem wT_len {l : List VV} {ws : List Int} (h : schB l = true) : ∀ k, k ≤ l.length → (wT l ws k).1.length ≤ 40 * k
  | 0, _ => by simp [wT]
  | k + 1, hk => by
    have h1 := wT_len h (ws := ws) k (by omega)
    have h2 := nmT_len h (show k < l.length by omega)
    have h3 := setT_len (ws.getD k 0)
    unfold wT
    split
    · omega
    · have h4 : (if (wT l ws k).2 = true then ([] : List UInt8) else [32, 119, 104, 101, 114, 101]).length ≤ 6 := by split <;> simp
      simp only [List.length_append, List.length_cons, List.length_nil]
      omega
def hdT (l : List VV) (t : TT) : List UInt8 := if 0 ≤ t.2.2.2 then [115, 117, 109, 32] ++ nmT l t.2.2.2.toNat else [99, 111, 117, 110, 116]
def lvT (t : TT) : List UInt8 := [32, 108, 101, 118, 101, 108, 32] ++ Lib.decDigits t.1.toNat
def nms (l : List VV) (vs : List Int) : List (List UInt8) := vs.map fun v => nmT l v.toNat
def byT (l : List VV) (t : TT) : List UInt8 := if t.2.1.length = 0 then [] else [32, 98, 121, 32] ++ joinC (nms l t.2.1)
/-- The text of a table. -/
def tabT (l : List VV) (t : TT) : List UInt8 := hdT l t ++ (lvT t ++ (byT l t ++ (wT l t.2.2.1 t.2.2.1.length).1))
theorem lev_bd {ps : List Int} {lv : Int} (h : (lev ps lv).length ≠ 0) : 0 ≤ lv ∧ lv ≤ ps.length := by
  have h2 : 0 < (lev ps lv).length := by omega
  have hm : (lev ps lv)[0] ∈ levTo ps lv ps.length := List.getElem_mem h2
  obtain ⟨j, hj, _⟩ := List.mem_map.1 hm
  rw [List.mem_filter] at hj
  have e : (dep ps j : Int) = lv := by have := hj.2; unfold isAt at this; simpa using this
  have h3 := List.mem_range.1 hj.1
  have : ∀ f i, depF ps f i ≤ f := by
    intro f
    induction f with
    | zero => intro i; exact Nat.le_refl _
    | succ f ih => intro i; unfold depF; split
                   · omega
                   · have := ih (ps.getD i 0).toNat; omega
  have h4 := this j j
  unfold dep at e
  omega
theorem tab_bd {ps : List Int} {l : List VV} {t : TT} (hg : geoB ps = true) (ht : tabB ps l t = true) : 0 ≤ t.1 ∧ t.1 ≤ 30 := by
  have h1 := (tabB_parts ht).2.2.2.1
  have h2 := (geoB_true.1 hg).1
  by_cases h : (lev ps t.1).length = 0
  · rw [tabN_zero h] at h1; omega
  · have := lev_bd h; omega
theorem nms_len {l : List VV} {vs : List Int} (h : schB l = true) (hv : vsB l.length vs = true) : ∀ x ∈ nms l vs, x.length ≤ 8 := by
  intro x hx
  obtain ⟨v, hv1, rfl⟩ := List.mem_map.1 hx
  obtain ⟨j, hj, rfl⟩ := List.getElem_of_mem hv1
  have := vsB_at hv hj
  have e : vs.getD j 0 = vs[j] := by simp [List.getD, hj]
  rw [e] at this
  exact nmT_len h (by omega)
theorem joinC_nms {l : List VV} {vs : List Int} (h : schB l = true) (hv : vsB l.length vs = true) (k : Nat) : (joinC ((nms l vs).take k)).length ≤ 54 := by
  have h1 := joinC_len (m := 8) (xs := (nms l vs).take k) (fun x hx => nms_len h hv x (List.mem_of_mem_take hx))
  have h2 := vsB_len hv
  have h3 := (schB_lv rfl h).2.2
  have h4 : ((nms l vs).take k).length ≤ vs.length := by rw [List.length_take]; unfold nms; rw [List.length_map]; omega
  omega
theorem tabT_len {ps : List Int} {l : List VV} {t : TT} (hg : geoB ps = true) (h : schB l = true) (ht : tabB ps l t = true) : (tabT l t).length ≤ 400 := by
  have hp := tabB_parts ht
  have h3 := (schB_lv rfl h).2
  have h1 : (hdT l t).length ≤ 12 := by
    unfold hdT; split
    · have := nmT_len h (j := t.2.2.2.toNat) (by omega)
      simp only [List.length_append, List.length_cons, List.length_nil]; omega
    · simp
  have h2 : (lvT t).length ≤ 27 := by
    have := tab_bd hg ht
    have := dec_len t.1.toNat (by omega)
    unfold lvT; simp only [List.length_append, List.length_cons, List.length_nil]; omega
  have h4 : (byT l t).length ≤ 58 := by
    have h5 := joinC_nms h hp.1 (nms l t.2.1).length
    rw [List.take_length] at h5
    unfold byT; split
    · simp
    · simp only [List.length_append, List.length_cons, List.length_nil]; omega
  have h6 := (whB_at hp.2.1 (k := 0) (by omega)).1
  have h7 := wT_len (ws := t.2.2.1) h t.2.2.1.length (by omega)
  unfold tabT
  simp only [List.length_append]
  omega
def planTo (l : List VV) (ts : List TT) : Nat → List UInt8
  | 0 => []
  | k + 1 => planTo l ts k ++ (tabT l (ts.getD k t0) ++ [10])
theorem planTo_len {ps : List Int} {l : List VV} {ts : List TT} (hg : geoB ps = true) (h : schB l = true) (ht : plB ps l ts = true) : ∀ k, k ≤ ts.length → (planTo l ts k).length ≤ 401 * k
  | 0, _ => by simp [planTo]
  | k + 1, hk => by
    have h1 := planTo_len hg h ht k (by omega)
    have h2 := tabT_len hg h ((plB_at ht).2 k (by omega))
    unfold planTo
    simp only [List.length_append, List.length_cons, List.length_nil]
    omega
/-- The text of a fraction. -/
def fracT (a b : Int) : List UInt8 := if b = 1 then Lib.itoa a else Lib.itoa a ++ ([47] ++ Lib.itoa b)
theorem fracT_len {a b : Int} (ha : -9223372036854775808 ≤ a ∧ a ≤ 9223372036854775807) (hb : -9223372036854775808 ≤ b ∧ b ≤ 9223372036854775807) : (fracT a b).length ≤ 43 := by
  have h1 := Lib.itoa_length_le a ha.1 ha.2
  have h2 := Lib.itoa_length_le b hb.1 hb.2
  unfold fracT; split
  · omega
  · simp only [List.length_append, List.length_cons, List.length_nil]; omega
/-- The text of a release. -/
def relT (l : List VV) (r : RL) : List UInt8 := [118, 101, 114, 115, 105, 111, 110, 32] ++ (Lib.itoa r.1 ++ ([32] ++ (fracT r.2.2.1 r.2.2.2.1 ++ ([32] ++ (fracT r.2.2.2.2.1 r.2.2.2.2.2 ++ ([10] ++ planTo l r.2.1 r.2.1.length))))))
theorem relT_len {ps : List Int} {l : List VV} {r : RL} (hg : geoB ps = true) (h : schB l = true) (hr : relB ps l r = true) : (relT l r).length ≤ 8200 := by
  unfold relB at hr
  simp only [Bool.and_eq_true] at hr
  have h1 := inB_true.1 hr.1.1
  have h2 := hr.2
  unfold lossB at h2
  simp only [Bool.and_eq_true] at h2
  have h8 := fracB_true.1 h2.1.1
  have h9 := fracB_true.1 h2.1.2
  have h3 := (plB_at hr.1.2).1
  have h4 := planTo_len hg h hr.1.2 r.2.1.length (Nat.le_refl _)
  have h5 := Lib.itoa_length_le r.1 (by omega) (by omega)
  have h6 := fracT_len (a := r.2.2.1) (b := r.2.2.2.1) (by omega) (by omega)
  have h7 := fracT_len (a := r.2.2.2.2.1) (b := r.2.2.2.2.2) (by omega) (by omega)
  unfold relT
  simp only [List.length_append, List.length_cons, List.length_nil]
  omega
def hisT (l : List VV) (rs : List RL) : Nat → List UInt8
  | 0 => []
  | k + 1 => hisT l rs k ++ relT l (rs.getD k rl0)
theorem hisT_len {ps : List Int} {l : List VV} {rs : List RL} (h : hisB ps l rs = true) : ∀ k, k ≤ rs.length → (hisT l rs k).length ≤ 8200 * k
  | 0, _ => by simp [hisT]
  | k + 1, hk => by
    have hp := hisB_parts h
    have h1 := hisT_len h k (by omega)
    have h2 := relT_len hp.1 hp.2.1 (hp.2.2.2 k (by omega)).2
    unfold hisT
    simp only [List.length_append]
    omega
/-- What HistoryText says. -/
def htQ (ps : List Int) (l : List VV) (rs : List RL) : ByteArray × Bool := if hisB ps l rs = true then (bs (hisT l rs rs.length), true) else (bs [], false)
theorem htQ_no {ps : List Int} {l : List VV} {rs : List RL} (h : hisB ps l rs = false) : htQ ps l rs = (bs [], false) := if_neg (by rw [h]; simp)
theorem htQ_yes {ps : List Int} {l : List VV} {rs : List RL} (h : hisB ps l rs = true) : htQ ps l rs = (bs (hisT l rs rs.length), true) := if_pos h
end Go.Proofs.YtlkjhkkfdmjfcaaGreatDoor
