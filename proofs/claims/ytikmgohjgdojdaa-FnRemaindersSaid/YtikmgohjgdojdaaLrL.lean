/- The largest remainders: the plain law. -/
import Derived.Test.YtikmgohjgdojdaaStL
import Derived.Test.YtikmgohjgdojdaaKA
namespace Go.Proofs.Ytikmgohjgdojdaa
open Go.RowKit
set_option linter.unusedVariables false
set_option linter.unusedSimpArgs false

/-- The share of a weight, rounded down, and what is left over of it. -/
def lq (ws : List Int) (t : Int) (i : Nat) : Int := t * ws.getD i 0 / ws.sum
def lr (ws : List Int) (t : Int) (i : Nat) : Int := t * ws.getD i 0 % ws.sum
def lk (ws : List Int) (t : Int) (x : Int) : Int := lr ws t x.toNat
def iot (n : Nat) : List Int := ri n (fun j => (j : Int))
theorem mem_iot {n : Nat} {x : Int} : x ∈ iot n ↔ 0 ≤ x ∧ x < n := by
  unfold iot ri
  simp only [List.mem_map, List.mem_range]
  constructor
  · rintro ⟨j, hj, rfl⟩; omega
  · intro h; exact ⟨x.toNat, by omega, by omega⟩
theorem iot_inc {n s t : Nat} (h : s < t) (ht : t < n) : (iot n).getD s 0 < (iot n).getD t 0 := by unfold iot; rw [ri_at (by omega), ri_at ht]; omega
/-- An order of the numbers below n: by falling keys. -/
structure Ord (key : Int → Int) (n : Nat) (Z : List Int) : Prop where
  pm : Z.Perm (iot n)
  st : Srt key Z
theorem Ord.of_merged {key : Int → Int} {n : Nat} {Z : List Int} (h : Merged key (iot n) Z 0 n) : Ord key n Z := by
  obtain ⟨Z', rfl, hp, hs⟩ := h
  have hl : (iot n).length = n := ri_len _ _
  have e : (iot n).drop n = [] := by rw [List.drop_eq_nil_iff]; omega
  have e2 : seg (iot n) 0 n = iot n := by unfold seg; rw [List.drop_zero, Nat.sub_zero]; exact List.take_of_length_le (by omega)
  simp only [List.take_zero, List.nil_append, e, List.append_nil]
  rw [e2] at hp
  exact ⟨hp, hs⟩
section
variable {key : Int → Int} {n : Nat} {Z : List Int}
theorem Ord.len (h : Ord key n Z) : Z.length = n := by rw [h.pm.length_eq]; exact ri_len _ _
theorem Ord.bd (h : Ord key n Z) {x : Int} (hx : x ∈ Z) : 0 ≤ x ∧ x < n := mem_iot.1 (h.pm.mem_iff.1 hx)
theorem Ord.mem (h : Ord key n Z) {i : Nat} (hi : i < n) : (i : Int) ∈ Z := h.pm.mem_iff.2 (mem_iot.2 ⟨by omega, by omega⟩)
theorem Ord.at_mem (h : Ord key n Z) {k : Nat} (hk : k < n) : Z.getD k 0 ∈ Z := by
  have := h.len
  have e : Z.getD k 0 = Z[k] := by simp [List.getD, this, hk]
  rw [e]; exact List.getElem_mem _
theorem Ord.rk (h : Ord key n Z) {i j : Nat} (hij : i < j) (hj : j < n) : Rk key (Z.getD i 0) (Z.getD j 0) := by
  have hl := h.len
  have := List.pairwise_iff_getElem.1 h.st i j (by omega) (by omega) hij
  have e1 : Z.getD i 0 = Z[i] := by simp [List.getD, hl, show i < n by omega]
  have e2 : Z.getD j 0 = Z[j] := by simp [List.getD, hl, hj]
  rw [e1, e2]; exact this
theorem mem_take {x : Int} {k : Nat} : x ∈ Z.take k ↔ ∃ j, j < k ∧ j < Z.length ∧ x = Z.getD j 0 := by
  constructor
  · intro h
    obtain ⟨j, hj, rfl⟩ := List.mem_iff_getElem.1 h
    have : j < k ∧ j < Z.length := by rw [List.length_take] at hj; omega
    exact ⟨j, this.1, this.2, by simp [List.getD, this.2]⟩
  · rintro ⟨j, h1, h2, rfl⟩
    have hj : j < (Z.take k).length := by simp; omega
    have := List.getElem_mem hj
    simpa [List.getD, h2] using this
theorem Ord.inj (h : Ord key n Z) {i j : Nat} (hi : i < n) (hj : j < n) (e : Z.getD i 0 = Z.getD j 0) : i = j := by
  rcases Nat.lt_trichotomy i j with q | q | q
  · have := h.rk q hj; rw [e] at this; exact (Rk.irr this).elim
  · exact q
  · have := h.rk q hi; rw [e] at this; exact (Rk.irr this).elim
theorem Ord.now (h : Ord key n Z) {k : Nat} (hk : k < n) : Z.getD k 0 ∉ Z.take k := fun q => by
  obtain ⟨j, h1, h2, e⟩ := mem_take.1 q
  have := h.inj hk (by have := h.len; omega) e
  omega
theorem Ord.next (h : Ord key n Z) {k : Nat} (hk : k < n) (x : Int) : x ∈ Z.take (k + 1) ↔ x ∈ Z.take k ∨ x = Z.getD k 0 := by
  have hl := h.len
  rw [mem_take, mem_take]
  constructor
  · rintro ⟨j, h1, h2, rfl⟩
    rcases Nat.lt_or_ge j k with q | q
    · exact .inl ⟨j, q, h2, rfl⟩
    · obtain rfl : j = k := by omega
      exact .inr rfl
  · rintro (⟨j, h1, h2, rfl⟩ | rfl)
    · exact ⟨j, by omega, h2, rfl⟩
    · exact ⟨k, by omega, by omega, rfl⟩
theorem Ord.later (h : Ord key n Z) {k : Nat} (hk : k < n) {x : Int} (hx : x ∈ Z) (hn : x ∉ Z.take k) (hne : x ≠ Z.getD k 0) : Rk key (Z.getD k 0) x := by
  have hl := h.len
  have : x ∈ Z.take n := by rwa [List.take_of_length_le (by omega)]
  obtain ⟨j, h1, h2, rfl⟩ := mem_take.1 this
  rcases Nat.lt_trichotomy j k with q | q | q
  · exact absurd (mem_take.2 ⟨j, q, h2, rfl⟩) hn
  · subst q; exact absurd rfl hne
  · exact h.rk q h1
/-- Which come first does not depend on the order that was found. -/
theorem Ord.one (h : Ord key n Z) {Y : List Int} (h' : Ord key n Y) : Z = Y := by
  refine li_ext h.len h'.len fun k => ?_
  induction k using Nat.strongRecOn with
  | ind k ih =>
    intro hk
    have hz := h.at_mem hk
    have hy := h'.at_mem hk
    have hzy : ∀ x, x ∈ Z ↔ x ∈ Y := fun x => h.pm.mem_iff.trans h'.pm.mem_iff.symm
    have hl := h.len
    have hl' := h'.len
    have hn : ∀ x, x ∈ Z.take k ↔ x ∈ Y.take k := fun x => by
      rw [mem_take, mem_take]
      constructor
      · rintro ⟨j, h1, h2, rfl⟩; exact ⟨j, h1, by omega, ih j h1 (by omega)⟩
      · rintro ⟨j, h1, h2, rfl⟩; exact ⟨j, h1, by omega, (ih j h1 (by omega)).symm⟩
    by_cases e : Z.getD k 0 = Y.getD k 0
    · exact e
    · have h1 := h.later hk ((hzy _).2 hy) (fun q => h'.now hk ((hn _).1 q)) (Ne.symm e)
      have h2 := h'.later hk ((hzy _).1 hz) (fun q => h.now hk ((hn _).2 q)) e
      exact (Rk.irr (h1.trans h2)).elim
end
/-- An order by falling keys. -/
def insZ (key : Int → Int) (x : Int) : List Int → List Int
  | [] => [x]
  | y :: l => if key x < key y ∨ (key x = key y ∧ y < x) then y :: insZ key x l else x :: y :: l
theorem insZ_perm (key : Int → Int) (x : Int) : ∀ l, (insZ key x l).Perm (x :: l)
  | [] => List.Perm.refl _
  | y :: l => by
    unfold insZ; split
    · exact ((insZ_perm key x l).cons y).trans (List.Perm.swap _ _ _)
    · exact List.Perm.refl _
theorem insZ_srt {key : Int → Int} {x : Int} : ∀ {l}, Srt key l → x ∉ l → Srt key (insZ key x l)
  | [], _, _ => pair_one
  | y :: l, h, hn => by
    have hy := List.pairwise_cons.1 h
    unfold insZ; split
    · rename_i q
      refine List.pairwise_cons.2 ⟨fun z hz => ?_, insZ_srt hy.2 (fun e => hn (List.mem_cons_of_mem _ e))⟩
      rcases List.mem_cons.1 ((insZ_perm key x l).mem_iff.1 hz) with rfl | hz
      · unfold Rk; omega
      · exact hy.1 z hz
    · rename_i q
      have hxy : x ≠ y := fun e => hn (e ▸ List.mem_cons_self)
      have hr : Rk key x y := by unfold Rk; omega
      refine List.pairwise_cons.2 ⟨fun z hz => ?_, h⟩
      rcases List.mem_cons.1 hz with rfl | hz
      · exact hr
      · exact hr.trans (hy.1 z hz)
def srtZ (key : Int → Int) : List Int → List Int
  | [] => []
  | x :: l => insZ key x (srtZ key l)
theorem srtZ_perm (key : Int → Int) : ∀ l, (srtZ key l).Perm l
  | [] => List.Perm.refl _
  | x :: l => (insZ_perm key x _).trans ((srtZ_perm key l).cons x)
theorem srtZ_srt {key : Int → Int} : ∀ {l : List Int}, l.Nodup → Srt key (srtZ key l)
  | [], _ => List.Pairwise.nil
  | x :: l, h => by
    have h1 := List.nodup_cons.1 h
    exact insZ_srt (srtZ_srt h1.2) (fun e => h1.1 ((srtZ_perm key l).mem_iff.1 e))
def ordZ (key : Int → Int) (n : Nat) : List Int := srtZ key (iot n)
theorem iot_nodup (n : Nat) : (iot n).Nodup := by
  unfold iot ri
  refine List.Pairwise.map _ (fun a b h e => h (by omega)) (List.nodup_range (n := n))
theorem ordZ_ord (key : Int → Int) (n : Nat) : Ord key n (ordZ key n) := ⟨srtZ_perm _ _, srtZ_srt (iot_nodup n)⟩

/-- The numbers after k of the order have got one more. -/
def loF (ws : List Int) (t : Int) (Z : List Int) (k i : Nat) : Int := lq ws t i + if (i : Int) ∈ Z.take k then 1 else 0
def loL (ws : List Int) (t : Int) (Z : List Int) (n k : Nat) : List Int := ri n (loF ws t Z k)
def reF (ws : List Int) (t : Int) (Z : List Int) (k i : Nat) : Int := if (i : Int) ∈ Z.take k then -1 else lr ws t i
def reL (ws : List Int) (t : Int) (Z : List Int) (n k : Nat) : List Int := ri n (reF ws t Z k)
def lLeft (ws : List Int) (t : Int) : Int := t - (ri ws.length (lq ws t)).sum
def lrB (ws : List Int) (t : Int) : Bool := partsB ws && within 0 100000 ws && decide (ws.sum ≠ 0) && inB t 0 1000000
def lrQ (ws : List Int) (t : Int) : List Int × Bool :=
  if lrB ws t then (loL ws t (ordZ (lk ws t) ws.length) ws.length (lLeft ws t).toNat, true) else ([], false)
theorem lrQ_no {ws : List Int} {t : Int} (h : lrB ws t = false) : lrQ ws t = ([], false) := by unfold lrQ; rw [h]; rfl
theorem lrQ_yes {ws : List Int} {t : Int} {n k : Nat} {Z : List Int} (h : lrB ws t = true) (hl : ws.length = n) (hz : Ord (lk ws t) n Z) (hk : lLeft ws t = (k : Int)) : lrQ ws t = (loL ws t Z n k, true) := by
  subst hl
  unfold lrQ; rw [h, (ordZ_ord _ _).one hz, hk]; rfl
theorem loL_zero {ws : List Int} {t : Int} {Z : List Int} {n : Nat} : loL ws t Z n 0 = ri n (lq ws t) := ri_congr fun i _ => by unfold loF; simp
theorem reL_zero {ws : List Int} {t : Int} {Z : List Int} {n : Nat} : reL ws t Z n 0 = ri n (lr ws t) := ri_congr fun i _ => by unfold reF; simp
section
variable {ws : List Int} {t : Int} {Z : List Int} {n k : Nat}
theorem loL_step (h : Ord (lk ws t) n Z) (hk : k < n) {z : Nat} (hz : Z.getD k 0 = (z : Int)) : z < n ∧ (loL ws t Z n k).set z ((loL ws t Z n k).getD z 0 + 1) = loL ws t Z n (k + 1) := by
  have hb := h.bd (h.at_mem hk)
  rw [hz] at hb
  have hzn : z < n := by omega
  have hno : (z : Int) ∉ Z.take k := by rw [← hz]; exact h.now hk
  refine ⟨hzn, ?_⟩
  unfold loL
  rw [ri_at hzn, ri_set hzn]
  refine ri_congr fun i hi => ?_
  by_cases e : i = z
  · subst e
    rw [if_pos rfl]; unfold loF
    rw [if_neg hno, if_pos ((h.next hk _).2 (.inr hz.symm))]; omega
  · rw [if_neg e]; unfold loF
    have : ((i : Int) ∈ Z.take (k + 1)) ↔ ((i : Int) ∈ Z.take k) := by
      rw [h.next hk, hz]
      constructor
      · rintro (q | q)
        · exact q
        · omega
      · exact .inl
    simp only [this]
theorem reL_step (h : Ord (lk ws t) n Z) (hk : k < n) {z : Nat} (hz : Z.getD k 0 = (z : Int)) : (reL ws t Z n k).set z (-1) = reL ws t Z n (k + 1) := by
  have hb := h.bd (h.at_mem hk)
  rw [hz] at hb
  have hzn : z < n := by omega
  unfold reL
  rw [ri_set hzn]
  refine ri_congr fun i hi => ?_
  by_cases e : i = z
  · subst e
    rw [if_pos rfl]; unfold reF
    rw [if_pos ((h.next hk _).2 (.inr hz.symm))]
  · rw [if_neg e]; unfold reF
    have : ((i : Int) ∈ Z.take (k + 1)) ↔ ((i : Int) ∈ Z.take k) := by
      rw [h.next hk, hz]
      constructor
      · rintro (q | q)
        · exact q
        · omega
      · exact .inl
    simp only [this]
theorem lr_bd (hs : 0 < ws.sum) (i : Nat) : 0 ≤ lr ws t i ∧ lr ws t i < ws.sum := ⟨Int.emod_nonneg _ (by omega), Int.emod_lt_of_pos _ hs⟩
/-- The first of the greatest remainders is the next of the order. -/
theorem best_is (h : Ord (lk ws t) n Z) (hs : 0 < ws.sum) (hk : k < n) {b : Nat} (hb : b < n) (h1 : ∀ i, i < n → (reL ws t Z n k).getD i 0 ≤ (reL ws t Z n k).getD b 0) (h2 : ∀ i, i < b → (reL ws t Z n k).getD i 0 < (reL ws t Z n k).getD b 0) :
    Z.getD k 0 = (b : Int) := by
  have hm := h.at_mem hk
  have hzb := h.bd hm
  obtain ⟨z, hz⟩ : ∃ z : Nat, Z.getD k 0 = (z : Int) := ⟨(Z.getD k 0).toNat, by omega⟩
  rw [hz] at hzb hm
  have hzn : z < n := by omega
  have hno : (z : Int) ∉ Z.take k := by rw [← hz]; exact h.now hk
  have ez : (reL ws t Z n k).getD z 0 = lr ws t z := by unfold reL; rw [ri_at hzn]; unfold reF; rw [if_neg hno]
  have h0 := lr_bd (t := t) hs z
  rw [hz]
  by_cases e : (b : Int) = z
  · exact e.symm
  · exfalso
    have h3 := h1 z hzn
    rw [ez] at h3
    by_cases hbt : (b : Int) ∈ Z.take k
    · have eb : (reL ws t Z n k).getD b 0 = -1 := by unfold reL; rw [ri_at hb]; unfold reF; rw [if_pos hbt]
      omega
    · have eb : (reL ws t Z n k).getD b 0 = lr ws t b := by unfold reL; rw [ri_at hb]; unfold reF; rw [if_neg hbt]
      have hr := h.later hk (h.mem hb) hbt (by rw [hz]; exact e)
      rw [hz] at hr
      unfold Rk lk at hr
      simp only [Int.toNat_natCast] at hr
      rw [eb] at h3
      rcases hr with hr | ⟨hr, hl⟩
      · omega
      · have := h2 z (by omega)
        rw [ez, eb] at this
        omega
end
theorem sum_map_add (f g : Nat → Int) : ∀ n, (ri n (fun i => f i + g i)).sum = (ri n f).sum + (ri n g).sum
  | 0 => rfl
  | n + 1 => by
    have := sum_map_add f g n
    unfold ri at *
    simp only [List.range_succ, List.map_append, List.sum_append, List.map_cons, List.map_nil, List.sum_cons, List.sum_nil] at *
    omega
theorem ri_succ (n : Nat) (f : Nat → Int) : (ri (n + 1) f).sum = (ri n f).sum + f n := by
  unfold ri
  simp only [List.range_succ, List.map_append, List.sum_append, List.map_cons, List.map_nil, List.sum_cons, List.sum_nil]
  omega
theorem sum_map_mul (c : Int) (f : Nat → Int) : ∀ n, (ri n (fun i => c * f i)).sum = c * (ri n f).sum
  | 0 => by simp [ri]
  | n + 1 => by rw [ri_succ, ri_succ, sum_map_mul c f n, Int.mul_add]
theorem sum_le {f g : Nat → Int} : ∀ n, (∀ i, i < n → f i ≤ g i) → (ri n f).sum ≤ (ri n g).sum
  | 0, _ => Int.le_refl _
  | n + 1, h => by have := sum_le n (fun i hi => h i (by omega)); have := h n (by omega); rw [ri_succ, ri_succ]; omega
theorem sum_const (c : Int) : ∀ n, (ri n (fun _ => c)).sum = c * n
  | 0 => by simp [ri]
  | n + 1 => by rw [ri_succ, sum_const c n, Int.natCast_succ, Int.mul_add, Int.mul_one]
theorem lq_lr (ws : List Int) (t : Int) (i : Nat) : t * ws.getD i 0 = ws.sum * lq ws t i + lr ws t i := (Int.mul_ediv_add_emod _ _).symm
theorem lrB_parts {ws : List Int} {t : Int} (h : lrB ws t = true) : (1 ≤ ws.length ∧ ws.length ≤ 30) ∧ (∀ j, j < ws.length → 0 ≤ ws.getD j 0 ∧ ws.getD j 0 ≤ 100000) ∧ (0 < ws.sum ∧ ws.sum ≤ 3000000) ∧ 0 ≤ t ∧ t ≤ 1000000 := by
  unfold lrB at h
  simp only [Bool.and_eq_true, decide_eq_true_eq] at h
  have hp := partsB_true.1 h.1.1.1
  have hw := within_true.1 h.1.1.2
  have h0 : (ri ws.length (fun j => ws.getD j 0)).sum = ws.sum := by rw [ri_self rfl]
  have h1 := sum_le (f := fun _ => 0) (g := fun j => ws.getD j 0) ws.length (fun i hi => (hw i hi).1)
  have h2 := sum_le (f := fun j => ws.getD j 0) (g := fun _ => 100000) ws.length (fun i hi => (hw i hi).2)
  rw [sum_const] at h1 h2
  have := h.1.2
  exact ⟨⟨hp.1, hp.2.1⟩, hw, by omega, inB_true.1 h.2⟩
/-- What is left is less than the number of the weights. -/
theorem lLeft_bd {ws : List Int} {t : Int} (h : lrB ws t = true) : 0 ≤ lLeft ws t ∧ lLeft ws t < ws.length := by
  obtain ⟨h1, h2, h3, h4, h5⟩ := lrB_parts h
  have e1 : (ri ws.length (fun j => t * ws.getD j 0)).sum = t * ws.sum := by rw [sum_map_mul, ri_self rfl]
  have e2 : (ri ws.length (fun j => t * ws.getD j 0)).sum = ws.sum * (ri ws.length (lq ws t)).sum + (ri ws.length (lr ws t)).sum := by
    rw [← sum_map_mul, ← sum_map_add]; congr 1; exact ri_congr fun i _ => lq_lr ws t i
  have b1 := sum_le (f := fun _ => 0) (g := lr ws t) ws.length (fun i _ => (lr_bd h3.1 i).1)
  have b2 := sum_le (f := lr ws t) (g := fun _ => ws.sum - 1) ws.length (fun i _ => by have := (lr_bd (t := t) h3.1 i).2; omega)
  rw [sum_const] at b1 b2
  have e3 : ws.sum * lLeft ws t = (ri ws.length (lr ws t)).sum := by unfold lLeft; rw [Int.mul_sub]; have := Int.mul_comm t ws.sum; omega
  constructor
  · refine Int.not_lt.1 fun hn => ?_
    have := Int.mul_neg_of_pos_of_neg h3.1 hn
    omega
  · refine Int.not_le.1 fun hn => ?_
    have := Int.mul_le_mul_of_nonneg_left hn (Int.le_of_lt h3.1)
    have e4 : (ws.sum - 1) * (ws.length : Int) = ws.sum * ws.length - ws.length := by rw [Int.sub_mul, Int.one_mul]
    omega
theorem lq_bd {ws : List Int} {t : Int} (h : lrB ws t = true) {i : Nat} (hi : i < ws.length) : 0 ≤ lq ws t i ∧ lq ws t i ≤ 1000000 * 100000 ∧ 0 ≤ t * ws.getD i 0 ∧ t * ws.getD i 0 ≤ 1000000 * 100000 := by
  obtain ⟨h1, h2, h3, h4, h5⟩ := lrB_parts h
  have h6 := h2 i hi
  have a := Int.mul_nonneg h4 h6.1
  have b : t * ws.getD i 0 ≤ 1000000 * 100000 := Int.mul_le_mul h5 h6.2 h6.1 (by omega)
  refine ⟨Int.ediv_nonneg a (by omega), ?_, a, b⟩
  exact Int.le_trans (Int.ediv_le_self _ a) b
/-- How many of an order's first k there are. -/
theorem sum_ind {key : Int → Int} {n : Nat} {Z : List Int} (h : Ord key n Z) : ∀ k, k ≤ n → (ri n (fun i => if (i : Int) ∈ Z.take k then 1 else 0)).sum = k
  | 0, _ => by
    have e : ri n (fun i => if (i : Int) ∈ Z.take 0 then 1 else 0) = ri n (fun _ => 0) := ri_congr fun i _ => by simp
    rw [e, sum_const]; simp
  | k + 1, hk => by
    have ih := sum_ind h k (by omega)
    have hb := h.bd (h.at_mem (show k < n by omega))
    have hno := h.now (show k < n by omega)
    have e : ri n (fun i => if (i : Int) ∈ Z.take (k + 1) then 1 else 0) = ri n (fun i => (if (i : Int) ∈ Z.take k then 1 else 0) + (if i = (Z.getD k 0).toNat then 1 else 0)) := ri_congr fun i hi => by
      have := h.next (show k < n by omega) (i : Int)
      by_cases q : (i : Int) = Z.getD k 0
      · rw [if_pos (this.2 (.inr q)), if_neg (by rw [q]; exact hno), if_pos (by omega)]; rfl
      · have h2 : ((i : Int) ∈ Z.take (k + 1)) ↔ ((i : Int) ∈ Z.take k) := this.trans ⟨fun r => r.resolve_right q, .inl⟩
        simp only [h2]
        rw [if_neg (show ¬ i = (Z.getD k 0).toNat by omega)]; omega
    have one : ∀ m, m < n → ∀ N, m < N → (ri N (fun i => if i = m then (1 : Int) else 0)).sum = 1 := fun m hm N => by
      induction N with
      | zero => intro q; omega
      | succ N ihN =>
        intro q
        rw [ri_succ]
        rcases Nat.lt_or_ge m N with r | r
        · rw [ihN r, if_neg (by omega)]; rfl
        · obtain rfl : m = N := by omega
          have z : ri m (fun i => if i = m then (1 : Int) else 0) = ri m (fun _ => 0) := ri_congr fun i hi => by rw [if_neg (by omega)]
          rw [z, sum_const, if_pos rfl]; simp
    rw [e, sum_map_add, ih, one _ (show (Z.getD k 0).toNat < n by omega) n (by omega)]
    omega
/-- The law: the parts have the sum; each is within one of its share; greater weights never get less. -/
theorem lr_sum {ws : List Int} {t : Int} (h : lrB ws t = true) : (lrQ ws t).1.sum = t ∧ (lrQ ws t).1.length = ws.length := by
  have hb := lLeft_bd h
  have hk : lLeft ws t = ((lLeft ws t).toNat : Int) := by omega
  rw [lrQ_yes h rfl (ordZ_ord _ _) hk]
  refine ⟨?_, ri_len _ _⟩
  show (loL ws t _ _ _).sum = t
  unfold loL loF
  rw [sum_map_add, sum_ind (ordZ_ord _ _) _ (by omega), ← hk]
  unfold lLeft
  omega
theorem lr_share {ws : List Int} {t : Int} (h : lrB ws t = true) {i : Nat} (hi : i < ws.length) : (lrQ ws t).1.getD i 0 * ws.sum - t * ws.getD i 0 < ws.sum ∧ t * ws.getD i 0 - (lrQ ws t).1.getD i 0 * ws.sum < ws.sum := by
  have hb := lLeft_bd h
  have hk : lLeft ws t = ((lLeft ws t).toNat : Int) := by omega
  obtain ⟨h1, h2, h3, h4, h5⟩ := lrB_parts h
  rw [lrQ_yes h rfl (ordZ_ord _ _) hk]
  show (loL ws t _ _ _).getD i 0 * _ - _ < _ ∧ _ - (loL ws t _ _ _).getD i 0 * _ < _
  unfold loL
  rw [ri_at hi]
  unfold loF
  have e := lq_lr ws t i
  have r := lr_bd (t := t) h3.1 i
  rw [e]
  have e2 := Int.mul_comm ws.sum (lq ws t i)
  -- a part of remainder 0 gets nothing more
  by_cases q : (i : Int) ∈ (ordZ (lk ws t) ws.length).take (lLeft ws t).toNat
  · rw [if_pos q, Int.add_mul, Int.one_mul]
    refine ⟨?_, by omega⟩
    suffices hp : 0 < lr ws t i by omega
    refine Int.not_le.1 fun hz => ?_
    -- then all that come later have remainder 0, and the sum of the remainders is too small
    have o := ordZ_ord (lk ws t) ws.length
    generalize ordZ (lk ws t) ws.length = Z at o q
    obtain ⟨j, j1, j2, je⟩ := mem_take.1 q
    have ol := o.len
    have hzero : ∀ u, u < ws.length → (u : Int) ∉ Z.take j → lr ws t u = 0 := fun u hu hn => by
      have r2 := lr_bd (t := t) h3.1 u
      by_cases e3 : (u : Int) = Z.getD j 0
      · have : u = i := by omega
        subst this; omega
      · have := o.later (by omega) (o.mem hu) hn e3
        rw [← je] at this
        unfold Rk lk at this
        simp only [Int.toNat_natCast] at this
        omega
    have e1 : (ri ws.length (fun j => t * ws.getD j 0)).sum = t * ws.sum := by rw [sum_map_mul, ri_self rfl]
    have e2 : (ri ws.length (fun j => t * ws.getD j 0)).sum = ws.sum * (ri ws.length (lq ws t)).sum + (ri ws.length (lr ws t)).sum := by
      rw [← sum_map_mul, ← sum_map_add]; congr 1; exact ri_congr fun i _ => lq_lr ws t i
    have e3 : ws.sum * lLeft ws t = (ri ws.length (lr ws t)).sum := by unfold lLeft; rw [Int.mul_sub]; have := Int.mul_comm t ws.sum; omega
    have b2 := sum_le (f := lr ws t) (g := fun u => ws.sum * (if (u : Int) ∈ Z.take j then 1 else 0)) ws.length (fun u hu => by
      have r2 := lr_bd (t := t) h3.1 u
      by_cases hn : (u : Int) ∈ Z.take j
      · rw [if_pos hn]; omega
      · rw [if_neg hn, hzero u hu hn]; simp)
    rw [sum_map_mul, sum_ind o j (by omega)] at b2
    have b3 : ws.sum * lLeft ws t ≤ ws.sum * (j : Int) := by omega
    have := Int.le_of_mul_le_mul_left b3 h3.1
    omega
  · rw [if_neg q, Int.add_zero]; omega
theorem lr_mono {ws : List Int} {t : Int} (h : lrB ws t = true) {i k : Nat} (hi : i < ws.length) (hk : k < ws.length) (hw : ws.getD k 0 < ws.getD i 0) : (lrQ ws t).1.getD k 0 ≤ (lrQ ws t).1.getD i 0 := by
  have hb := lLeft_bd h
  have hl : lLeft ws t = ((lLeft ws t).toNat : Int) := by omega
  obtain ⟨h1, h2, h3, h4, h5⟩ := lrB_parts h
  have hsum := (lr_sum h).1
  rw [lrQ_yes h rfl (ordZ_ord _ _) hl]
  show (loL ws t _ _ _).getD k 0 ≤ (loL ws t _ _ _).getD i 0
  unfold loL
  rw [ri_at hi, ri_at hk]
  have hm : t * ws.getD k 0 ≤ t * ws.getD i 0 := Int.mul_le_mul_of_nonneg_left (by omega) h4
  have hq : lq ws t k ≤ lq ws t i := Int.ediv_le_ediv h3.1 hm
  unfold loF
  rcases Int.lt_or_eq_of_le hq with q | q
  · split <;> split <;> omega
  · rcases Int.lt_or_eq_of_le h4 with t0 | t0
    · have hm2 : t * ws.getD k 0 < t * ws.getD i 0 := Int.mul_lt_mul_of_pos_left hw t0
      rw [lq_lr ws t k, lq_lr ws t i, q] at hm2
      have hr : lr ws t k < lr ws t i := by omega
      have o := ordZ_ord (lk ws t) ws.length
      generalize ordZ (lk ws t) ws.length = Z at o
      suffices himp : (k : Int) ∈ Z.take (lLeft ws t).toNat → (i : Int) ∈ Z.take (lLeft ws t).toNat by
        by_cases hh : (k : Int) ∈ Z.take (lLeft ws t).toNat
        · rw [if_pos hh, if_pos (himp hh)]; omega
        · rw [if_neg hh]; split <;> omega
      intro hh
      obtain ⟨j, j1, j2, je⟩ := mem_take.1 hh
      have ol := o.len
      refine Classical.byContradiction fun hn => ?_
      have hn2 : (i : Int) ∉ Z.take j := fun hx => hn (by obtain ⟨u, u1, u2, ue⟩ := mem_take.1 hx; exact mem_take.2 ⟨u, by omega, u2, ue⟩)
      have := o.later (by omega) (o.mem hi) hn2 (fun e => by rw [← je] at e; have : i = k := by omega
                                                             subst this; omega)
      rw [← je] at this
      unfold Rk lk at this
      simp only [Int.toNat_natCast] at this
      omega
    · -- nothing to divide
      have hz : lLeft ws t = 0 := by
        unfold lLeft
        have : ri ws.length (lq ws t) = ri ws.length (fun _ => 0) := ri_congr fun u _ => by unfold lq; rw [← t0]; simp
        rw [this, sum_const]; omega
      rw [hz]
      simp only [Int.toNat_zero, List.take_zero, List.not_mem_nil, if_false]
      omega
end Go.Proofs.Ytikmgohjgdojdaa
