/- Subtree estimates as lists: no walk. -/
import Derived.Test.YtnopedjgagoahaaSub0
namespace Go.Proofs.Ytnopedjgagoahaa
open Go.RowKit
set_option linter.unusedVariables false
set_option linter.unusedSimpArgs false

abbrev TS := List (Int × Int) × List (Int × Int)
theorem getD_setL {α : Type} (l : List α) (i j : Nat) (v d : α) : (l.set i v).getD j d = if i = j ∧ j < l.length then v else l.getD j d := by
  simp only [List.getD, List.getElem?_set]
  by_cases h : i = j
  · subst h
    by_cases h2 : i < l.length
    · simp [h2]
    · simp [h2]
  · simp [h]
theorem accQ_congr {st st' : Nat → Int → Int → Int × Int × Bool} {a b : Int} {n : Nat} (h : ∀ m, m < n → ∀ x y, st m x y = st' m x y) : accQ st a b n = accQ st' a b n := by
  induction n with
  | zero => rfl
  | succ n ih =>
    have e := ih (fun m hm => h m (by omega))
    simp only [accQ]
    rw [e, h n (by omega)]
/-- One area: its own estimate, or that made of its children's. -/
def subSt (ps y v : List Int) (i : Nat) (s : TS) : Option TS :=
  if (kids ps i).length = 0 then some (s.1.set i (y.getD i 0, 1), s.2.set i (v.getD i 0, 1))
  else (sums2 s.1 s.2 (kids ps i)).bind fun m => (meanQ (y.getD i 0) (v.getD i 0) m.1.1 m.1.2 m.2.1 m.2.2).map fun r => (s.1.set i r.1, s.2.set i r.2)
theorem subSt_leaf {ps y v : List Int} {i : Nat} {s : TS} {a b : Int} (h : (kids ps i).length = 0) (ha : a = y.getD i 0) (hb : b = v.getD i 0) : subSt ps y v i s = some (s.1.set i (a, 1), s.2.set i (b, 1)) := by unfold subSt; rw [if_pos h, ha, hb]
theorem subSt_no1 {ps y v : List Int} {i : Nat} {s : TS} (h : ¬ (kids ps i).length = 0) (e : sums2 s.1 s.2 (kids ps i) = none) : subSt ps y v i s = none := by unfold subSt; rw [if_neg h, e]; rfl
theorem subSt_no2 {ps y v : List Int} {i : Nat} {s : TS} {a b s1 s2 v1 v2 : Int} (h : ¬ (kids ps i).length = 0) (ha : a = y.getD i 0) (hb : b = v.getD i 0) (e : sums2 s.1 s.2 (kids ps i) = some ((s1, s2), (v1, v2))) (k : meanQ a b s1 s2 v1 v2 = none) : subSt ps y v i s = none := by
  unfold subSt; rw [if_neg h, e, ← ha, ← hb]; simp [k]
theorem subSt_yes {ps y v : List Int} {i : Nat} {s : TS} {a b s1 s2 v1 v2 : Int} {r : (Int × Int) × (Int × Int)} (h : ¬ (kids ps i).length = 0) (ha : a = y.getD i 0) (hb : b = v.getD i 0) (e : sums2 s.1 s.2 (kids ps i) = some ((s1, s2), (v1, v2))) (k : meanQ a b s1 s2 v1 v2 = some r) : subSt ps y v i s = some (s.1.set i r.1, s.2.set i r.2) := by
  unfold subSt; rw [if_neg h, e, ← ha, ← hb]; simp [k]
/-- Behind the last k areas of n. -/
def subT (ps y v : List Int) (n : Nat) : Nat → Option TS
  | 0 => some (List.replicate n (0, 0), List.replicate n (0, 0))
  | k + 1 => (subT ps y v n k).bind (subSt ps y v (n - 1 - k))
theorem subT_at {ps y v : List Int} {n i : Nat} {s : TS} {r : Option TS} (h : subT ps y v n (n - (i + 1)) = some s) (hi : i < n) (e : subSt ps y v i s = r) : subT ps y v n (n - i) = r := by
  rw [show n - i = (n - (i + 1)) + 1 by omega, subT, h, show n - 1 - (n - (i + 1)) = i by omega]; exact e
theorem subT_stuck {ps y v : List Int} {n k m : Nat} (h : subT ps y v n k = none) (hk : k ≤ m) : subT ps y v n m = none := by
  induction m with
  | zero => obtain rfl : k = 0 := by omega
            exact h
  | succ m ih =>
    by_cases e : k = m + 1
    · subst e; exact h
    · rw [subT, ih (by omega)]; rfl
theorem subT_fail {ps y v : List Int} {n i : Nat} {s : TS} (h : subT ps y v n (n - (i + 1)) = some s) (hi : i < n) (e : subSt ps y v i s = none) : subT ps y v n n = none :=
  subT_stuck (subT_at h hi e) (by omega)
/-- From i on all are valid fractions. -/
structure SInv (n i : Nat) (s : TS) : Prop where
  l1 : s.1.length = n
  l2 : s.2.length = n
  f1 : ∀ j, i ≤ j → j < n → fracB (s.1.getD j (0, 0)).1 (s.1.getD j (0, 0)).2 = true
  f2 : ∀ j, i ≤ j → j < n → fracB (s.2.getD j (0, 0)).1 (s.2.getD j (0, 0)).2 = true
theorem SInv.start (n : Nat) : SInv n n (List.replicate n (0, 0), List.replicate n (0, 0)) := ⟨by simp, by simp, fun j h k => by omega, fun j h k => by omega⟩
theorem SInv.put {n i : Nat} {s : TS} {a b c d : Int} (h : SInv n (i + 1) s) (hi : i < n) (h1 : fracB a b = true) (h2 : fracB c d = true) : SInv n i (s.1.set i (a, b), s.2.set i (c, d)) := by
  refine ⟨by simp [h.l1], by simp [h.l2], fun j hj hn => ?_, fun j hj hn => ?_⟩
  · show fracB ((s.1.set i (a, b)).getD j (0, 0)).1 ((s.1.set i (a, b)).getD j (0, 0)).2 = true
    rw [getD_setL]
    split
    · exact h1
    · have := h.l1; exact h.f1 j (by omega) hn
  · show fracB ((s.2.set i (c, d)).getD j (0, 0)).1 ((s.2.set i (c, d)).getD j (0, 0)).2 = true
    rw [getD_setL]
    split
    · exact h2
    · have := h.l2; exact h.f2 j (by omega) hn
theorem SInv.up {n i : Nat} {s : TS} (h : SInv n i s) : SInv n (i + 1) s := ⟨h.l1, h.l2, fun j hj hn => h.f1 j (by omega) hn, fun j hj hn => h.f2 j (by omega) hn⟩
theorem kids_up {ps : List Int} {i m j : Nat} (hg : geoB ps = true) (hm : m < (kids ps i).length) (hj : (j : Int) = (kids ps i).getD m 0) : i + 1 ≤ j ∧ j < ps.length := by
  obtain ⟨j', h1, h2, h3, h4⟩ := kids_getD hm
  have := (geoB_true.1 hg).2.2 j' h3 h2
  have e : j = j' := by omega
  subst e
  omega
theorem SInv.good {ps : List Int} {n i : Nat} {s : TS} (h : SInv n (i + 1) s) (hg : geoB ps = true) (hl : ps.length = n) : GoodAt s.1 (kids ps i) ∧ GoodAt s.2 (kids ps i) := by
  constructor
  · intro m j x y hm hj hx
    have := kids_up hg hm hj
    have := h.f1 j this.1 (by omega)
    rwa [← hx] at this
  · intro m j x y hm hj hx
    have := kids_up hg hm hj
    have := h.f2 j this.1 (by omega)
    rwa [← hx] at this
/-- What stands at i does not matter for the children's sums. -/
theorem sumQ_set {ps : List Int} {i : Nat} {l : List (Int × Int)} {f : Int × Int} (hg : geoB ps = true) : sumQ (l.set i f) (kids ps i) = sumQ l (kids ps i) := by
  unfold sumQ
  refine accQ_congr (fun m hm x y => ?_)
  obtain ⟨j, h1, h2, h3, h4⟩ := kids_getD hm
  have := kids_up hg hm h1.symm
  unfold suSt
  rw [h1]
  simp only [Int.toNat_natCast]
  rw [getD_setL, if_neg (by omega)]
theorem sums2_set {ps : List Int} {i : Nat} {z u : List (Int × Int)} {f g : Int × Int} (hg : geoB ps = true) : sums2 (z.set i f) (u.set i g) (kids ps i) = sums2 z u (kids ps i) := by
  unfold sums2; rw [sumQ_set hg, sumQ_set hg]
theorem sums2_fine {z u : List (Int × Int)} {ks : List Int} {m : (Int × Int) × (Int × Int)} (h : sums2 z u ks = some m) : fracB m.1.1 m.1.2 = true ∧ fracB m.2.1 m.2.2 = true := by
  unfold sums2 at h
  obtain ⟨a1, a2, a3, ha⟩ : ∃ a1 a2 a3, sumQ z ks = (a1, a2, a3) := ⟨_, _, _, rfl⟩
  obtain ⟨b1, b2, b3, hb⟩ : ∃ b1 b2 b3, sumQ u ks = (b1, b2, b3) := ⟨_, _, _, rfl⟩
  cases a3 with
  | false => rw [bindQ_no ha] at h; cases h
  | true =>
    rw [bindQ_yes ha] at h
    cases b3 with
    | false => rw [bindQ_no hb] at h; cases h
    | true =>
      rw [bindQ_yes hb] at h
      injection h with h
      subst h
      exact ⟨(sumQ_fine z ks).ok ha, (sumQ_fine u ks).ok hb⟩
/-- What SubtreeEstimates answers. -/
def subQ (ps y v : List Int) : List (Int × Int) × List (Int × Int) × Bool :=
  if treeB ps y v = true then (match subT ps y v ps.length ps.length with
    | some s => (s.1, s.2, true)
    | none => ([], [], false)) else ([], [], false)
theorem subQ_no {ps y v : List Int} (h : treeB ps y v = false) : subQ ps y v = ([], [], false) := if_neg (by rw [h]; simp)
theorem subQ_none {ps y v : List Int} {n : Nat} (h : treeB ps y v = true) (hl : ps.length = n) (e : subT ps y v n n = none) : subQ ps y v = ([], [], false) := by unfold subQ; rw [if_pos h, hl, e]
theorem subQ_some {ps y v : List Int} {n : Nat} {s : TS} (h : treeB ps y v = true) (hl : ps.length = n) (e : subT ps y v n n = some s) : subQ ps y v = (s.1, s.2, true) := by unfold subQ; rw [if_pos h, hl, e]
/-- A cell pair of a row of fractions. -/
theorem OwnC.pair {w : World} {g k : Nat} {t : TypeId} {l : List (Int × Int)} (h : OwnC w g t (frs l)) (hk : k < l.length) :
    ∃ x y, w.cell? ⟨g, k * 2, none⟩ = some (.int .i64 x) ∧ w.cell? ⟨g, k * 2 + 1, none⟩ = some (.int .i64 y) ∧ w.frozen? ⟨g, k * 2, none⟩ = false ∧ w.frozen? ⟨g, k * 2 + 1, none⟩ = false ∧ Hid ((x, y) = l.getD k (0, 0)) := by
  have h1 := h.cell (k * 2) (by rw [frs_len]; omega)
  have h2 := h.cell (k * 2 + 1) (by rw [frs_len]; omega)
  have h3 := frs_at l k hk
  rw [h3.1] at h1
  rw [h3.2] at h2
  exact ⟨_, _, h1, h2, h.frozen _, h.frozen _, rfl⟩
theorem OwnC.pair_set {w : World} {g k : Nat} {t : TypeId} {l : List (Int × Int)} {x y : Int} (h : OwnC w g t (frs (l.set k (x, y)))) (hk : k < l.length) :
    w.cell? ⟨g, k * 2, none⟩ = some (.int .i64 x) ∧ w.cell? ⟨g, k * 2 + 1, none⟩ = some (.int .i64 y) ∧ w.frozen? ⟨g, k * 2, none⟩ = false ∧ w.frozen? ⟨g, k * 2 + 1, none⟩ = false := by
  obtain ⟨a, b, h1, h2, h3, h4, h5⟩ := h.pair (k := k) (by simpa using hk)
  have e := h5.out
  rw [getD_setL, if_pos ⟨rfl, hk⟩] at e
  injection e with e1 e2
  subst e1; subst e2
  exact ⟨h1, h2, h3, h4⟩
theorem OwnC.fracs {w : World} {g n : Nat} {t : TypeId} {l : List (Int × Int)} (h : OwnC w g t (frs l)) (hl : l.length = n) (hn : n ≤ 67108864) : FracsM w g (g + 1) (some ⟨g, 0, none⟩) n l :=
  h.slm (by rw [frs_len, hl]) hn (Nat.le_refl _) (Nat.lt_succ_self _) h.lt
theorem OwnC.far2 {w : World} {g p i j : Nat} {t : TypeId} {cs : List Value} (h : OwnC w g t cs) (hp : g ≠ p) (a b : Value) : OwnC ((w.setCell ⟨p, i, none⟩ a).setCell ⟨p, j, none⟩ b) g t cs := (h.far (p := ⟨p, i, none⟩) hp a).far (p := ⟨p, j, none⟩) hp b
theorem B1.far2 {w : World} {g p i j : Nat} {v : Value} (h : B1 w g v) (hp : g ≠ p) (a b : Value) : B1 ((w.setCell ⟨p, i, none⟩ a).setCell ⟨p, j, none⟩ b) g v := (h.far (p := ⟨p, i, none⟩) hp a).far (p := ⟨p, j, none⟩) hp b
theorem Bx.far2 {w : World} {g p i j : Nat} {x y : Int} (h : Bx w g x y) (hp : g ≠ p) (a b : Value) : Bx ((w.setCell ⟨p, i, none⟩ a).setCell ⟨p, j, none⟩ b) g x y := (h.far (p := ⟨p, i, none⟩) hp a).far (p := ⟨p, j, none⟩) hp b
theorem below_setP {B p i j : Nat} {a w : World} (h : Below B a w) (hp : B ≤ p) (x y : Value) : Below B a ((w.setCell ⟨p, i, none⟩ x).setCell ⟨p, j, none⟩ y) := (h.setCell (p := ⟨p, i, none⟩) hp x).setCell (p := ⟨p, j, none⟩) hp y
/-- Two new boxes. -/
structure NewTwo (W wy : World) (g g' : Nat) (x1 x2 y1 y2 : Int) : Prop where
  b1 : Bx wy g x1 x2
  b2 : Bx wy g' y1 y2
  ne : g ≠ g'
  l1 : W.heap.size ≤ g
  l2 : W.heap.size ≤ g'
  k : Keeps W wy
section
variable {W w : World} {t : TypeId} {x1 x2 y1 y2 : Int}
theorem nt1 (k : Keeps W w) : NewTwo W ((w.alloc (.cells #[.int .i64 x1, .int .i64 x2] t)).alloc (.cells #[.int .i64 y1, .int .i64 y2] t)) w.heap.size (w.heap.size + 1) x1 x2 y1 y2 :=
  ⟨(Bx.new' rfl).keeps (keeps_alloc _ _), Bx.new' (by simp), by omega, k.size, by have := k.size; omega, k.trans ((keeps_alloc _ _).trans (keeps_alloc _ _))⟩
theorem nt2 (k : Keeps W w) : NewTwo W ((w.alloc (.cells #[.int .i64 y1, .int .i64 y2] t)).alloc (.cells #[.int .i64 x1, .int .i64 x2] t)) (w.heap.size + 1) w.heap.size x1 x2 y1 y2 :=
  ⟨Bx.new' (by simp), (Bx.new' rfl).keeps (keeps_alloc _ _), by omega, by have := k.size; omega, k.size, k.trans ((keeps_alloc _ _).trans (keeps_alloc _ _))⟩
theorem nt3 (k : Keeps W w) (z : Bx w W.heap.size 0 0) : NewTwo W (((w.setCell ⟨W.heap.size, 0, none⟩ (.int .i64 x1)).setCell ⟨W.heap.size, 1, none⟩ (.int .i64 x2)).alloc (.cells #[.int .i64 y1, .int .i64 y2] t)) W.heap.size w.heap.size x1 x2 y1 y2 :=
  ⟨(z.set x1 x2).keeps (keeps_alloc _ _), Bx.new' (by simp), by have := z.lt; omega, Nat.le_refl _, k.size, Keeps.trans (below_set2 k (Nat.le_refl _) _ _) (keeps_alloc _ _)⟩
theorem nt4 (k : Keeps W w) (z : Bx w W.heap.size 0 0) : NewTwo W (((w.setCell ⟨W.heap.size, 0, none⟩ (.int .i64 y1)).setCell ⟨W.heap.size, 1, none⟩ (.int .i64 y2)).alloc (.cells #[.int .i64 x1, .int .i64 x2] t)) w.heap.size W.heap.size x1 x2 y1 y2 :=
  ⟨Bx.new' (by simp), (z.set y1 y2).keeps (keeps_alloc _ _), by have := z.lt; omega, k.size, Nat.le_refl _, Keeps.trans (below_set2 k (Nat.le_refl _) _ _) (keeps_alloc _ _)⟩
theorem nt5 (k : Keeps W w) (z : Bx w W.heap.size 0 0) (u : Bx w (W.heap.size + 1) 0 0) : NewTwo W ((((w.setCell ⟨W.heap.size, 0, none⟩ (.int .i64 x1)).setCell ⟨W.heap.size, 1, none⟩ (.int .i64 x2)).setCell ⟨W.heap.size + 1, 0, none⟩ (.int .i64 y1)).setCell ⟨W.heap.size + 1, 1, none⟩ (.int .i64 y2)) W.heap.size (W.heap.size + 1) x1 x2 y1 y2 :=
  ⟨(z.set x1 x2).set2 (by omega) _ _, (u.set2 (by omega) _ _).set y1 y2, by omega, Nat.le_refl _, by omega, below_set2 (below_set2 k (Nat.le_refl _) _ _) (Nat.le_succ _) _ _⟩
theorem nt6 (k : Keeps W w) (z : Bx w W.heap.size 0 0) (u : Bx w (W.heap.size + 1) 0 0) : NewTwo W ((((w.setCell ⟨W.heap.size + 1, 0, none⟩ (.int .i64 x1)).setCell ⟨W.heap.size + 1, 1, none⟩ (.int .i64 x2)).setCell ⟨W.heap.size, 0, none⟩ (.int .i64 y1)).setCell ⟨W.heap.size, 1, none⟩ (.int .i64 y2)) (W.heap.size + 1) W.heap.size x1 x2 y1 y2 :=
  ⟨(u.set x1 x2).set2 (by omega) _ _, (z.set2 (by omega) _ _).set y1 y2, by omega, by omega, Nat.le_refl _, below_set2 (below_set2 k (Nat.le_succ _) _ _) (Nat.le_refl _) _ _⟩
end
def o1 (R : Option TS) : List (Int × Int) := match R with | some s => s.1 | none => []
def o2 (R : Option TS) : List (Int × Int) := match R with | some s => s.2 | none => []
/-- Two slices of fractions of one's own, apart from each other, and whether they are fine. -/
def TwoS (w : World) (l1 l2 : List (Int × Int)) (ok : Bool) (e : Ending) (w' : World) : Prop :=
  ∃ A N C A' N' C' L1 U1 L2 U2, e = .returned (.tuple #[.slice A N C, .slice A' N' C', .bool ok]) ∧ (w.heap.size ≤ L1 ∧ U1 ≤ w'.heap.size ∧ w.heap.size ≤ L2 ∧ U2 ≤ w'.heap.size ∧ (U1 ≤ L2 ∨ U2 ≤ L1)) ∧ FracsM w' L1 U1 A N l1 ∧ FracsM w' L2 U2 A' N' l2 ∧ Keeps w w'
theorem TwoS.none {w w' : World} {l1 l2 : List (Int × Int)} {ok : Bool} (h : (l1, l2, ok) = ([], [], false)) (k : Keeps w w') : TwoS w l1 l2 ok (.returned (.tuple #[.slice none 0 0, .slice none 0 0, .bool false])) w' := by
  injection h with h1 h2
  injection h2 with h2 h3
  subst h1; subst h2; subst h3
  have := k.size
  exact ⟨_, _, _, _, _, _, w'.heap.size, w'.heap.size, w'.heap.size, w'.heap.size, rfl, by omega, SlM.nil_ w' _, SlM.nil_ w' _, k⟩
theorem TwoS.some {w w' : World} {l1 l2 z u : List (Int × Int)} {ok : Bool} {g1 g2 n : Nat} (h : (l1, l2, ok) = (z, u, true)) (o1 : OwnC w' g1 31 (frs z)) (o2 : OwnC w' g2 31 (frs u)) (hz : z.length = n) (hu : u.length = n) (hn : n ≤ 67108864)
    (h1 : w.heap.size ≤ g1) (h2 : w.heap.size ≤ g2) (h3 : g1 ≠ g2) (k : Keeps w w') : TwoS w l1 l2 ok (.returned (.tuple #[.slice (some ⟨g1, 0, Option.none⟩) n n, .slice (some ⟨g2, 0, Option.none⟩) n n, .bool true])) w' := by
  injection h with e1 e2
  injection e2 with e2 e3
  subst e1; subst e2; subst e3
  have := o2.lt
  have := o1.lt
  exact ⟨_, _, _, _, _, _, g1, g1 + 1, g2, g2 + 1, rfl, by omega, o1.fracs hz hn, o2.fracs hu hn, k⟩
/-- Two rows of zeros, in either order. -/
theorem two_newF (w : World) (n : Nat) :
    OwnC ((w.alloc (.cells (madeCells #[.int .i64 0, .int .i64 0] (n * 2)) 31)).alloc (.cells (madeCells #[.int .i64 0, .int .i64 0] (n * 2)) 31)) w.heap.size 31 (frs (List.replicate n (0, 0))) ∧
    OwnC ((w.alloc (.cells (madeCells #[.int .i64 0, .int .i64 0] (n * 2)) 31)).alloc (.cells (madeCells #[.int .i64 0, .int .i64 0] (n * 2)) 31)) (w.heap.size + 1) 31 (frs (List.replicate n (0, 0))) := by
  have h2 := OwnC.newF (w.alloc (.cells (madeCells #[.int .i64 0, .int .i64 0] (n * 2)) 31)) n
  rw [show (w.alloc (.cells (madeCells #[.int .i64 0, .int .i64 0] (n * 2)) 31)).heap.size = w.heap.size + 1 by simp] at h2
  exact ⟨(OwnC.newF w n).keeps (keeps_alloc _ _), h2⟩
end Go.Proofs.Ytnopedjgagoahaa
