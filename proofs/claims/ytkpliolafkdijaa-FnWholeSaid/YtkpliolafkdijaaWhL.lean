/- Nearest whole numbers: no exchange of one between two of them is nearer. Plain lemmas, no walk. -/
import Derived.Test.YtkpliolafkdijaaQv
import Derived.Test.YtkpliolafkdijaaNwL
import Derived.Test.YtkpliolafkdijaaDist
namespace Go.Proofs.Ytkpliolafkdijaa
open Go.RowKit
set_option linter.unusedVariables false
set_option linter.unusedSimpArgs false

/-- What is left of the fraction behind the whole number. -/
def rest (l : QL) (x : List Int) (i : Nat) : Rat := qv (l.getD i (0, 0)).1 (l.getD i (0, 0)).2 - (x.getD i 0 : Int)
def Pos2 (l : QL) : Prop := ∀ j, j < l.length → 1 ≤ (l.getD j (0, 0)).2
theorem gap_rest {p q m r s k : Int} (hq : 1 ≤ q) (hs : 1 ≤ s) : ((gapZ p q m r s k : Int) : Rat) = (q : Rat) * s * ((qv p q - m) - (qv r s - k)) := by
  have hq' := rat_pos (show 0 < q by omega)
  have hs' := rat_pos (show 0 < s by omega)
  unfold gapZ qv
  simp only [Rat.intCast_sub, Rat.intCast_mul]
  grind
theorem gap_pos {p q m r s k : Int} (hq : 1 ≤ q) (hs : 1 ≤ s) : 0 < gapZ p q m r s k ↔ qv r s - k < qv p q - m := by
  have hq' := rat_pos (show 0 < q by omega)
  have hs' := rat_pos (show 0 < s by omega)
  have hqs := rat_mul_pos hq' hs'
  have e := gap_rest (p := p) (m := m) (r := r) (k := k) hq hs
  have h1 : 0 < gapZ p q m r s k ↔ (0 : Rat) < ((gapZ p q m r s k : Int) : Rat) := by
    constructor
    · intro h; exact_mod_cast h
    · intro h; exact_mod_cast h
  rw [h1, e, Rat.mul_pos_iff_of_pos_left hqs]
  constructor <;> intro h <;> grind
theorem sgn_pos {z : Int} : 0 < sgn z ↔ 0 < z := by unfold sgn; split <;> (try split) <;> omega
theorem sgn_neg {z : Int} : sgn z < 0 ↔ z < 0 := by unfold sgn; split <;> (try split) <;> omega
theorem gapS_pos {l : QL} {x : List Int} {i j : Nat} (h : Pos2 l) (hi : i < l.length) (hj : j < l.length) : 0 < gapS l x i j ↔ rest l x j < rest l x i := by
  unfold gapS; rw [sgn_pos, gap_pos (h i hi) (h j hj)]; exact Iff.rfl
theorem gapZ_neg (p q m r s k : Int) : gapZ r s k p q m = -gapZ p q m r s k := by unfold gapZ; grind
theorem gapS_neg {l : QL} {x : List Int} {i j : Nat} (h : Pos2 l) (hi : i < l.length) (hj : j < l.length) : gapS l x i j < 0 ↔ rest l x i < rest l x j := by
  have h1 := gapS_pos (x := x) h hj hi
  rw [← h1]
  unfold gapS; rw [sgn_pos, sgn_neg, gapZ_neg]
  constructor <;> intro h <;> omega
theorem upAt_max {l : QL} {x : List Int} (h : Pos2 l) : ∀ k, k ≤ l.length → ∀ j, j < k → rest l x j ≤ rest l x (upAt l x k)
  | 0, _, j, hj => absurd hj (by omega)
  | k + 1, hk, j, hj => by
    have hu : upAt l x k < l.length := by have := (upAt_lt l x k).1; omega
    have ih := upAt_max (x := x) h k (by omega)
    have hg := gapS_pos (x := x) h (show k < l.length by omega) hu
    simp only [upAt]
    split
    · rename_i h0
      have h1 := hg.1 h0
      by_cases e : j = k
      · subst e; exact Rat.le_refl
      · have := ih j (by omega); grind
    · rename_i h0
      have h1 : ¬ rest l x (upAt l x k) < rest l x k := fun hh => h0 (hg.2 hh)
      by_cases e : j = k
      · subst e; grind
      · exact ih j (by omega)
theorem dnAt_min {l : QL} {x : List Int} (h : Pos2 l) : ∀ k, k ≤ l.length → ∀ j, j < k → 0 < x.getD j 0 → 0 ≤ dnAt l x k ∧ rest l x (dnAt l x k).toNat ≤ rest l x j
  | 0, _, j, hj, _ => absurd hj (by omega)
  | k + 1, hk, j, hj, h0 => by
    have ih := dnAt_min (x := x) h k (by omega)
    have hb := dnAt_bd l x k
    simp only [dnAt]
    split
    · rename_i hc
      refine ⟨by omega, ?_⟩
      rw [Int.toNat_natCast]
      by_cases e : j = k
      · subst e; exact Rat.le_refl
      · obtain ⟨h1, h2⟩ := ih j (by omega) h0
        rcases hc.2 with h3 | h3
        · omega
        · have := (gapS_neg h (show k < l.length by omega) (show (dnAt l x k).toNat < l.length by omega)).1 h3
          grind
    · rename_i hc
      by_cases e : j = k
      · subst e
        have h1 : ¬ (dnAt l x j < 0) := fun hh => hc ⟨h0, .inl hh⟩
        have h2 : ¬ gapS l x j (dnAt l x j).toNat < 0 := fun hh => hc ⟨h0, .inr hh⟩
        refine ⟨by omega, ?_⟩
        have h3 : ¬ rest l x j < rest l x (dnAt l x j).toNat := fun hh => h2 ((gapS_neg h (show j < l.length by omega) (show (dnAt l x j).toNat < l.length by omega)).2 hh)
        grind
      · exact ih j (by omega) h0
/-- No exchange of one is nearer. -/
def Ex (l : QL) (x : List Int) : Prop := x.length = l.length ∧ ∀ i k, i < l.length → k < l.length → 0 < x.getD i 0 → rest l x k - rest l x i ≤ 1
theorem rest_set {l : QL} {x : List Int} {u j : Nat} {v : Int} (hu : u < x.length) : rest l (x.set u v) j = if j = u then qv (l.getD u (0, 0)).1 (l.getD u (0, 0)).2 - (v : Int) else rest l x j := by
  unfold rest
  rw [getD_set_int]
  by_cases h : j = u
  · subst h; rw [if_pos ⟨rfl, hu⟩, if_pos rfl]
  · rw [if_neg (by omega), if_neg h]
theorem Ex.up {l : QL} {x : List Int} (hp : Pos2 l) (h : Ex l x) (h0 : 0 < l.length) (hx : ∀ j, 0 ≤ x.getD j 0) : Ex l (upX l x) := by
  obtain ⟨hl, he⟩ := h
  have hu := (upAt_lt l x l.length).2 h0
  have hm := upAt_max (x := x) hp l.length (Nat.le_refl _)
  unfold upX
  generalize upAt l x l.length = u at *
  have hr : ∀ j, rest l (x.set u (x.getD u 0 + 1)) j = if j = u then rest l x u - 1 else rest l x j := fun j => by
    rw [rest_set (by omega)]
    split
    · unfold rest; simp only [Rat.intCast_add]; grind
    · rfl
  refine ⟨by simpa using hl, fun i k hi hk hpos => ?_⟩
  rw [hr, hr]
  rw [getD_set_int] at hpos
  have m1 := hm k hk
  have m2 := hm i hi
  by_cases ei : i = u
  · rw [if_pos ei]
    split <;> grind
  · rw [if_neg (by omega)] at hpos
    rw [if_neg ei]
    have := he i k hi hk hpos
    split
    · subst k; grind
    · exact this
theorem Ex.dn {l : QL} {x : List Int} (hp : Pos2 l) (h : Ex l x) (hx : ∀ j, 0 ≤ x.getD j 0) (hd : 0 ≤ dnAt l x l.length) : Ex l (dnX l x) := by
  obtain ⟨hl, he⟩ := h
  have hu : (dnAt l x l.length).toNat < l.length := by have := dnAt_bd l x l.length; omega
  have hx0 := dnAt_pos l x l.length hd
  have hm := dnAt_min (x := x) hp l.length (Nat.le_refl _)
  unfold dnX
  generalize (dnAt l x l.length).toNat = u at *
  have hr : ∀ j, rest l (x.set u (x.getD u 0 - 1)) j = if j = u then rest l x u + 1 else rest l x j := fun j => by
    rw [rest_set (by omega)]
    split
    · unfold rest; simp only [Rat.intCast_sub]; grind
    · rfl
  refine ⟨by simpa using hl, fun i k hi hk hpos => ?_⟩
  rw [hr, hr]
  rw [getD_set_int] at hpos
  by_cases ei : i = u
  · rw [if_pos ei]
    have := he u k hu hk hx0
    split <;> grind
  · rw [if_neg (by omega)] at hpos
    rw [if_neg ei]
    have := he i k hi hk hpos
    have m2 := (hm i hi hpos).2
    split
    · grind
    · exact this
theorem floor_rest {f : Int × Int} (hf : 1 ≤ f.2) : (0 < flr f → 0 ≤ qv f.1 f.2 - (flr f : Int) ∧ qv f.1 f.2 - (flr f : Int) < 1) ∧ qv f.1 f.2 - (flr f : Int) < 1 := by
  have hq := Int.lt_ediv_add_one_mul_self f.1 (show 0 < f.2 by omega)
  have hq2 := Int.ediv_mul_le f.1 (show f.2 ≠ 0 by omega)
  have key : qv f.1 f.2 < ((flr f + 1 : Int) : Rat) := by
    rw [← qv_one (flr f + 1), qv_lt (by omega) (by omega)]
    have : f.1 / f.2 + 1 ≤ flr f + 1 := by unfold flr; omega
    have := Int.mul_le_mul_of_nonneg_right this (show 0 ≤ f.2 by omega)
    omega
  have k2 : qv f.1 f.2 - (flr f : Int) < 1 := by simp only [Rat.intCast_add] at key; grind
  refine ⟨fun h0 => ⟨?_, k2⟩, k2⟩
  have e : flr f = f.1 / f.2 := by unfold flr at *; omega
  have : ((flr f : Int) : Rat) ≤ qv f.1 f.2 := by
    rw [← qv_one (flr f), qv_le (by omega) (by omega), e]; omega
  grind
theorem Ex.floors {l : QL} (hp : Pos2 l) : Ex l (floors l) := by
  refine ⟨by simp [Go.Proofs.Ytkpliolafkdijaa.floors], fun i k hi hk hpos => ?_⟩
  rw [floors_getD _ _ hi] at hpos
  unfold rest
  rw [floors_getD _ _ hi, floors_getD _ _ hk]
  have h1 := (floor_rest (hp i hi)).1 hpos
  have h2 := (floor_rest (hp k hk)).2
  grind
theorem near_round {l : QL} {z : Int} (h : nearB l z = true) : roundB l = true := by
  simp only [nearB, Bool.and_eq_true] at h; exact h.1
theorem pos2_of {l : QL} (h : roundB l = true) : Pos2 l := fun j hj => (fracB_true.1 (roundB_at h hj (x := (l.getD j (0, 0)).1) (y := (l.getD j (0, 0)).2) rfl)).1.1
theorem Ex.ups {l : QL} {z : Int} (h : nearB l z = true) : ∀ t, t ≤ nT l z → Ex l (nwX l t 0)
  | 0, _ => Ex.floors (pos2_of (near_round h))
  | t + 1, ht => by
    have hr := near_round h
    rw [nw_up]
    have hi := nw_inv h (t := t) (d := 0) (by omega) (by omega)
    exact Ex.up (pos2_of hr) (Ex.ups h t (by omega)) (roundB_all hr).1.1 (fun j => (hi.bd j).1)
theorem Ex.near {l : QL} {z : Int} (h : nearB l z = true) : Ex l (nearX l z) := by
  have hr := near_round h
  rw [← nw_end]
  have key : ∀ d, d ≤ nD l z → Ex l (nwX l (nT l z) d) := by
    intro d
    induction d with
    | zero => intro _; exact Ex.ups h _ (Nat.le_refl _)
    | succ d ih =>
      intro hd
      rw [nw_dn]
      have hi := nw_inv h (t := nT l z) (d := d) (Nat.le_refl _) (by omega)
      have hz : 0 ≤ z := by unfold nearB at h; simp only [Bool.and_eq_true] at h; exact (inB_true.1 h.2).1
      have hs : 0 < (Go.Proofs.Ytkpliolafkdijaa.floors l).sum + (nT l z : Int) - (d : Int) := by unfold nT nD at *; omega
      exact Ex.dn (pos2_of hr) (ih (by omega)) (fun j => (hi.bd j).1) (hi.pos hs)
  exact key _ (Nat.le_refl _)
theorem dwSt_qv {l : QL} {x : List Int} (h : Pos2 l) (k : Nat) (p q r s : Int) (hk : k < l.length) (hq : 1 ≤ q) (e : dwSt l x k p q = (r, s, true)) : qv r s = qv p q + rest l x k * rest l x k ∧ 1 ≤ s := by
  unfold dwSt at e
  obtain ⟨a, b, o, e1⟩ : ∃ a b o, sqrQ (l.getD k (0, 0)).1 (l.getD k (0, 0)).2 (x.getD k 0) = (a, b, o) := ⟨_, _, _, rfl⟩
  cases o with
  | false => rw [wsqQ_bad e1] at e; cases e
  | true =>
    rw [wsqQ_sqr e1] at e
    have h1 := sqrQ_qv (h k hk) e1
    have h2 := mkF_add hq h1.2 e
    refine ⟨?_, h2.2⟩
    rw [h2.1, h1.1]; rfl
theorem dwQ_qv {l : QL} {x : List Int} {a b : Int} (e : dwQ l x = (a, b, true)) : qv a b = qsum (fun k => rest l x k * rest l x k) l.length ∧ 1 ≤ b := by
  by_cases h : roundB l = true ∧ x.length = l.length ∧ within 0 5000 x = true
  · rw [dwQ_yes h] at e
    have := accQ_qv l.length a b (fun k p q r s hk hq ee => dwSt_qv (pos2_of h.1) k p q r s hk hq ee) (by omega) e
    refine ⟨?_, this.2⟩
    rw [this.1, qv_one]; grind
  · rw [dwQ_no h] at e; cases e
theorem near_best {l : QL} {z : Int} {i k : Nat} {a b c d : Int} (h : nearB l z = true) (hi : i < l.length) (hk : k < l.length) (hik : i ≠ k) (h0 : (nearX l z).getD i 0 ≠ 0)
    (e1 : dwQ l (nearX l z) = (a, b, true)) (e2 : dwQ l (((nearX l z).set i ((nearX l z).getD i 0 - 1)).set k ((nearX l z).getD k 0 + 1)) = (c, d, true)) : cmpQ a b c d ≤ 0 := by
  have hx := Ex.near h
  have hn := nw_inv h (t := nT l z) (d := nD l z) (Nat.le_refl _) (Nat.le_refl _)
  rw [nw_end] at hn
  generalize nearX l z = x at *
  have hp := pos2_of (near_round h)
  have h1 := dwQ_qv e1
  have h2 := dwQ_qv e2
  refine cmpQ_le h1.2 h2.2 ?_
  rw [h1.1, h2.1]
  have hl := hx.1
  have hg := hx.2 i k hi hk (by have := (hn.bd i).1; omega)
  have r1 : ∀ j, rest l ((x.set i (x.getD i 0 - 1)).set k (x.getD k 0 + 1)) j = if j = k then rest l x k - 1 else if j = i then rest l x i + 1 else rest l x j := fun j => by
    rw [rest_set (by simp; omega)]
    split
    · unfold rest; simp only [Rat.intCast_add]; grind
    · rw [rest_set (by omega)]
      split
      · unfold rest; simp only [Rat.intCast_sub]; grind
      · rfl
  have s1 := qsum_one (t := fun j => rest l x j * rest l x j) (t' := fun j => if j = i then (rest l x i + 1) * (rest l x i + 1) else rest l x j * rest l x j) (i := i) (fun j hj => if_neg hj) l.length hi
  have s2 := qsum_one (t := fun j => if j = i then (rest l x i + 1) * (rest l x i + 1) else rest l x j * rest l x j) (t' := fun j => rest l ((x.set i (x.getD i 0 - 1)).set k (x.getD k 0 + 1)) j * rest l ((x.set i (x.getD i 0 - 1)).set k (x.getD k 0 + 1)) j) (i := k) (fun j hj => by
    simp only [r1, if_neg hj]; split <;> rfl) l.length hk
  rw [s2, s1]
  simp only [r1, if_pos rfl, if_neg (Ne.symm hik)]
  grind
end Go.Proofs.Ytkpliolafkdijaa
