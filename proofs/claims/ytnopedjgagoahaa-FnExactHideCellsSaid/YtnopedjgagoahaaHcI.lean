/- HideCells: of the reference and of the program, and the law. -/
import Derived.Test.YtnopedjgagoahaaHcT
import Derived.Test.YtnopedjgagoahaaKC
namespace Go.Proofs.Ytnopedjgagoahaa
open Go.RowKit
set_option linter.unusedVariables false
set_option linter.unusedSimpArgs false

/-- A cell hidden below t. -/
def hv (t v : Int) : Int := if 1 ≤ v ∧ v < t then -1 else v
theorem hv_yes {t v : Int} (h1 : 1 ≤ v) (h2 : v < t) : hv t v = -1 := if_pos ⟨h1, h2⟩
theorem hv_no1 {t v : Int} (h1 : ¬ 1 ≤ v) : hv t v = v := if_neg (fun h => h1 h.1)
theorem hv_no2 {t v : Int} (h1 : ¬ v < t) : hv t v = v := if_neg (fun h => h1 h.2)
def hcB (zs : List Int) (t : Int) : Bool := decide (zs.length ≤ 600) && within (-1) 1000000 zs && inB t 0 1000000
def hcQ (lv sm : Int) (xs ys zs : List Int) (t : Int) : Int × Int × List Int × List Int × List Int × Bool := if hcB zs t = true then (lv, sm, xs, ys, zs.map (hv t), true) else (0, 0, [], [], [], false)
theorem hcQ_no {lv sm t : Int} {xs ys zs : List Int} (h : hcB zs t = false) : hcQ lv sm xs ys zs t = (0, 0, [], [], [], false) := if_neg (by rw [h]; simp)
theorem hcQ_yes {lv sm t : Int} {xs ys zs : List Int} (h : hcB zs t = true) : hcQ lv sm xs ys zs t = (lv, sm, xs, ys, zs.map (hv t), true) := if_pos h
/-- A published table of one's own and whether it is fine. -/
def HcRes (w : World) (R : Int × Int × List Int × List Int × List Int × Bool) (e : Ending) (w' : World) : Prop :=
  ∃ A1 n1 c1 A2 n2 c2 A3 n3 c3, e = .returned (.tuple #[.agg #[.int .i64 R.1, .slice A1 n1 c1, .slice A2 n2 c2, .int .i64 R.2.1, .slice A3 n3 c3], .bool R.2.2.2.2.2]) ∧ PubM w' w.heap.size w'.heap.size A1 n1 R.2.2.1 A2 n2 R.2.2.2.1 A3 n3 R.2.2.2.2.1 ∧ Keeps w w'
theorem HcRes.no {w w' : World} {R : Int × Int × List Int × List Int × List Int × Bool} (h : R = (0, 0, [], [], [], false)) (k : Keeps w w') : HcRes w R (.returned (.tuple #[.agg #[.int .i64 0, .slice none 0 0, .slice none 0 0, .int .i64 0, .slice none 0 0], .bool false])) w' := by
  subst h
  have m : Mine w' w.heap.size w.heap.size none 0 [] := ⟨⟨rfl, by omega, k.size, fun h => absurd h (by omega)⟩, fun b off e => by cases e⟩
  exact ⟨_, _, _, _, _, _, _, _, _, rfl, ⟨Nat.le_refl _, _, _, _, _, _, _, ⟨Nat.le_refl _, k.size, Nat.le_refl _, k.size, Nat.le_refl _, k.size⟩, .inl (Nat.le_refl _), .inl (Nat.le_refl _), .inl (Nat.le_refl _), m, m, m⟩, k⟩
theorem hv_pad {t z : Int} {zs : List Int} {k : Nat} (h : k < zs.length) (e : z = zs.getD k 0) : (padD 0 (zs.map (hv t)) k).set k (hv t z) = padD 0 (zs.map (hv t)) (k + 1) := by
  have := padD_succ 0 (zs.map (hv t)) k (by simpa using h)
  rw [← this]; congr 1; rw [e]; simp [List.getD, h]
theorem hv_snoc {t z : Int} {zs : List Int} {k : Nat} (h : k < zs.length) (e : z = zs.getD k 0) : (zs.take k).map (hv t) ++ [hv t z] = (zs.take (k + 1)).map (hv t) := by
  rw [List.take_succ_eq_append_getElem h, List.map_append]; rw [e]; simp [List.getD, h]
theorem fr_below {B : Nat} {w w' : World} (k : Below B w w') : Fr B w.heap.size w w' := ⟨k.os, k.tape, k.output, k.size, fun i hi ho => k.block i (by omega)⟩
theorem keeps_ad0' (W : World) (o : Obj) : Keeps W (W.drew.alloc o) := (keeps_d0 W).trans (keeps_alloc _ _)
theorem keeps_aad0 (W : World) (o p : Obj) : Keeps W ((W.drew.alloc o).alloc p) := (keeps_ad0' W o).trans (keeps_alloc _ _)
theorem Has.frB {w w' : World} {B e size n l u : Nat} {v : Value} {cs : List Value} (h : Has w B e size v n cs) (f : Fr l u w w') (ho : u ≤ B) : Has w' B e size v n cs := by
  obtain ⟨h1, h2⟩ := h
  refine ⟨h1, ?_⟩
  rcases h2 with h2 | ⟨g, cap, cur, hv, hg, hh, rest⟩
  · exact .inl h2
  · exact .inr ⟨g, cap, cur, hv, hg, (f.block g (Array.getElem?_eq_some_iff.1 hh).1 (by omega)).trans hh, rest⟩
theorem Own.fr {w w' : World} {g l h' : Nat} {xs : List Int} (h : Own w g xs) (f : Fr l h' w w') (ho : g < l ∨ h' ≤ g) : Own w' g xs := (f.block g h.lt ho).trans h

theorem step_copyTable {W : World} {ops : Array Oper} {o : Oper} {a : Act} {K : Act → World → Prop} {Q : Exit → Act → World → Prop} {E : Prop} {A1 A2 : Option Addr} {n1 n2 c1 c2 : Nat} {lv sm : Int} {l1 u1 l2 u2 : Nat} {xs ys : List Int}
    (h1 : Ints W l1 u1 A1 n1 xs) (h2 : Ints W l2 u2 A2 n2 ys) (g1 : NilOk A1 n1 c1) (g2 : NilOk A2 n2 c2) (hgd : o.guard = none)
    (hrun : (execOp a.eval o).run Try.prog W = .ok (.enter 203 #[.agg #[.int .i64 lv, .slice A1 n1 c1, .slice A2 n2 c2, .int .i64 sm]]) W)
    (h : ∀ B1_ C1_ B2_ C2_ w', TabM w' W.heap.size w'.heap.size B1_ n1 xs B2_ n2 ys → NilOk B1_ n1 C1_ → NilOk B2_ n2 C2_ → Keeps W w' → K (a.put o.dst (.agg #[.int .i64 lv, .slice B1_ n1 C1_, .slice B2_ n2 C2_, .int .i64 sm])) w') :
    if Region.wanted o (yielded ops a.tmps) = true then Oper.wp Try.prog o a W K Q else E := by
  have hw : Region.wanted o (yielded ops a.tmps) = true := by simp [Region.wanted, hgd]
  rw [if_pos hw]
  unfold Oper.wp
  rw [hrun, Oper.upon_enter]
  refine (copyTable_any h1 h2 g1 g2).mono fun e w' hh => ?_
  obtain ⟨B1_, C1_, B2_, C2_, rfl, q1, q2, q3, q4⟩ := hh
  exact h B1_ C1_ B2_ C2_ w' q1 q2 q3 q4
/-- A new published table: its box, its cells, the copied slices. -/
structure HcNew (W wy : World) (g C : Nat) (lv sm : Int) (B1_ : Option Addr) (n1 C1_ : Nat) (xs : List Int) (B2_ : Option Addr) (n2 C2_ : Nat) (ys : List Int) (n3 : Nat) : Prop where
  b : Bl wy g [.int .i64 lv, .slice B1_ n1 C1_, .slice B2_ n2 C2_, .int .i64 sm, .slice (some ⟨C, 0, none⟩) n3 n3]
  o : Own wy C (List.replicate n3 0)
  t : ∃ lo hi, TabM wy lo hi B1_ n1 xs B2_ n2 ys ∧ W.heap.size ≤ lo ∧ (C < lo ∨ hi ≤ C) ∧ (g < lo ∨ hi ≤ g)
  ne : g ≠ C
  lg : W.heap.size ≤ g
  lc : W.heap.size ≤ C
  k : Keeps W wy
theorem fr_set5 {w : World} {g : Nat} (v0 v1 v2 v3 v4 : Value) : Fr g (g + 1) w (((((w.setCell ⟨g, 0, none⟩ (v0)).setCell ⟨g, 1, none⟩ (v1)).setCell ⟨g, 2, none⟩ (v2)).setCell ⟨g, 3, none⟩ (v3)).setCell ⟨g, 4, none⟩ (v4)) := ((((fr_one v0).trans (fr_one v1)).trans (fr_one v2)).trans (fr_one v3)).trans (fr_one v4)
theorem Bl.set5 {w : World} {g : Nat} {u0 u1 u2 u3 u4 : Value} (h : Bl w g [u0, u1, u2, u3, u4]) (v0 v1 v2 v3 v4 : Value) : Bl (((((w.setCell ⟨g, 0, none⟩ (v0)).setCell ⟨g, 1, none⟩ (v1)).setCell ⟨g, 2, none⟩ (v2)).setCell ⟨g, 3, none⟩ (v3)).setCell ⟨g, 4, none⟩ (v4)) g [v0, v1, v2, v3, v4] := ((((h.set 0 v0).set 1 v1).set 2 v2).set 3 v3).set 4 v4
theorem below_set5 {B : Nat} {a w : World} (k : Below B a w) {g : Nat} (hg : B ≤ g) (v0 v1 v2 v3 v4 : Value) : Below B a (((((w.setCell ⟨g, 0, none⟩ (v0)).setCell ⟨g, 1, none⟩ (v1)).setCell ⟨g, 2, none⟩ (v2)).setCell ⟨g, 3, none⟩ (v3)).setCell ⟨g, 4, none⟩ (v4)) := ((((k.setCell hg v0).setCell hg v1).setCell hg v2).setCell hg v3).setCell hg v4
theorem hn1 {W w : World} {lv sm : Int} {B1_ : Option Addr} {n1 C1_ : Nat} {xs : List Int} {B2_ : Option Addr} {n2 C2_ : Nat} {ys : List Int} {n3 : Nat} (m : TabM w W.heap.size w.heap.size B1_ n1 xs B2_ n2 ys) (k : Keeps W.drew w) : HcNew W ((w.alloc (.cells #[.int .i64 lv, .slice B1_ n1 C1_, .slice B2_ n2 C2_, .int .i64 sm, .slice (some ⟨w.heap.size + 1, 0, none⟩) n3 n3] 74)).alloc (.cells (madeCells #[.int .i64 0] n3) 3)) w.heap.size (w.heap.size + 1) lv sm B1_ n1 C1_ xs B2_ n2 C2_ ys n3 :=
  ⟨(Bl.new' rfl (by simp)).keeps (keeps_alloc _ _), by have := Own.new (w.alloc (.cells #[.int .i64 lv, .slice B1_ n1 C1_, .slice B2_ n2 C2_, .int .i64 sm, .slice (some ⟨w.heap.size + 1, 0, none⟩) n3 n3] 74)) n3; simpa using this, ⟨_, _, (m.keeps (keeps_alloc _ _)).keeps (keeps_alloc _ _), Nat.le_refl _, .inr (by omega), .inr (Nat.le_refl _)⟩, by omega, (keeps_d k).size, by have := (keeps_d k).size; omega, (keeps_d k).trans ((keeps_alloc _ _).trans (keeps_alloc _ _))⟩
theorem hn2 {W w : World} {lv sm : Int} {B1_ : Option Addr} {n1 C1_ : Nat} {xs : List Int} {B2_ : Option Addr} {n2 C2_ : Nat} {ys : List Int} {n3 : Nat} (m : TabM w W.heap.size w.heap.size B1_ n1 xs B2_ n2 ys) (k : Keeps W.drew w) : HcNew W ((w.alloc (.cells (madeCells #[.int .i64 0] n3) 3)).alloc (.cells #[.int .i64 lv, .slice B1_ n1 C1_, .slice B2_ n2 C2_, .int .i64 sm, .slice (some ⟨w.heap.size, 0, none⟩) n3 n3] 74)) (w.heap.size + 1) w.heap.size lv sm B1_ n1 C1_ xs B2_ n2 C2_ ys n3 :=
  ⟨Bl.new' (by simp) (by simp), (Own.new w n3).keeps (keeps_alloc _ _), ⟨_, _, (m.keeps (keeps_alloc _ _)).keeps (keeps_alloc _ _), Nat.le_refl _, .inr (Nat.le_refl _), .inr (by omega)⟩, by omega, by have := (keeps_d k).size; omega, (keeps_d k).size, (keeps_d k).trans ((keeps_alloc _ _).trans (keeps_alloc _ _))⟩
theorem hn3 {W w : World} {lv sm : Int} {B1_ : Option Addr} {n1 C1_ : Nat} {xs : List Int} {B2_ : Option Addr} {n2 C2_ : Nat} {ys : List Int} {n3 : Nat} (m : TabM w (W.heap.size + 1) w.heap.size B1_ n1 xs B2_ n2 ys) (k : Keeps (W.drew.alloc (.cells #[.int .i64 0, .slice none 0 0, .slice none 0 0, .int .i64 0, .slice none 0 0] 74)) w) : HcNew W ((((((w.setCell ⟨W.heap.size, 0, none⟩ (.int .i64 lv)).setCell ⟨W.heap.size, 1, none⟩ (.slice B1_ n1 C1_)).setCell ⟨W.heap.size, 2, none⟩ (.slice B2_ n2 C2_)).setCell ⟨W.heap.size, 3, none⟩ (.int .i64 sm)).setCell ⟨W.heap.size, 4, none⟩ (.slice (some ⟨w.heap.size, 0, none⟩) n3 n3)).alloc (.cells (madeCells #[.int .i64 0] n3) 3)) W.heap.size w.heap.size lv sm B1_ n1 C1_ xs B2_ n2 C2_ ys n3 := by
  have z := Bl.keepsA k (by simp)
  have kW : Keeps W w := keeps_d ((keeps_alloc _ _).trans k)
  have hs : W.heap.size + 1 ≤ w.heap.size := by have := k.size; simpa using this
  have es : ∀ v0 v1 v2 v3 v4 : Value, (((((w.setCell ⟨W.heap.size, 0, none⟩ (v0)).setCell ⟨W.heap.size, 1, none⟩ (v1)).setCell ⟨W.heap.size, 2, none⟩ (v2)).setCell ⟨W.heap.size, 3, none⟩ (v3)).setCell ⟨W.heap.size, 4, none⟩ (v4)).heap.size = w.heap.size := fun _ _ _ _ _ => by simp [World.setCell]
  refine ⟨(z.set5 _ _ _ _ _).keeps (keeps_alloc _ _), ?_, ⟨_, _, (m.fr (fr_set5 _ _ _ _ _) (.inl (Nat.le_refl _))).keeps (keeps_alloc _ _), Nat.le_succ _, .inr (Nat.le_refl _), .inl (Nat.lt_succ_self _)⟩, by omega, Nat.le_refl _, by omega, Keeps.trans (below_set5 kW (Nat.le_refl _) _ _ _ _ _) (keeps_alloc _ _)⟩
  have := Own.new (((((w.setCell ⟨W.heap.size, 0, none⟩ (.int .i64 lv)).setCell ⟨W.heap.size, 1, none⟩ (.slice B1_ n1 C1_)).setCell ⟨W.heap.size, 2, none⟩ (.slice B2_ n2 C2_)).setCell ⟨W.heap.size, 3, none⟩ (.int .i64 sm)).setCell ⟨W.heap.size, 4, none⟩ (.slice (some ⟨w.heap.size, 0, none⟩) n3 n3)) n3
  rwa [es] at this
theorem hn4 {W w : World} {lv sm : Int} {B1_ : Option Addr} {n1 C1_ : Nat} {xs : List Int} {B2_ : Option Addr} {n2 C2_ : Nat} {ys : List Int} {n3 : Nat} (m : TabM w (W.heap.size + 1) w.heap.size B1_ n1 xs B2_ n2 ys) (k : Keeps (W.drew.alloc (.cells (madeCells #[.int .i64 0] n3) 3)) w) : HcNew W (w.alloc (.cells #[.int .i64 lv, .slice B1_ n1 C1_, .slice B2_ n2 C2_, .int .i64 sm, .slice (some ⟨W.heap.size, 0, none⟩) n3 n3] 74)) w.heap.size W.heap.size lv sm B1_ n1 C1_ xs B2_ n2 C2_ ys n3 := by
  have z : Own w W.heap.size (List.replicate n3 0) := (Own.new W.drew n3).keeps k
  have kW : Keeps W w := keeps_d ((keeps_alloc _ _).trans k)
  have hs : W.heap.size + 1 ≤ w.heap.size := by have := k.size; simpa using this
  exact ⟨Bl.new' rfl (by simp), z.keeps (keeps_alloc _ _), ⟨_, _, m.keeps (keeps_alloc _ _), Nat.le_succ _, .inl (Nat.lt_succ_self _), .inr (Nat.le_refl _)⟩, by omega, by omega, Nat.le_refl _, kW.trans (keeps_alloc _ _)⟩
theorem hn5 {W w : World} {lv sm : Int} {B1_ : Option Addr} {n1 C1_ : Nat} {xs : List Int} {B2_ : Option Addr} {n2 C2_ : Nat} {ys : List Int} {n3 : Nat} (m : TabM w (W.heap.size + 1 + 1) w.heap.size B1_ n1 xs B2_ n2 ys) (k : Keeps ((W.drew.alloc (.cells #[.int .i64 0, .slice none 0 0, .slice none 0 0, .int .i64 0, .slice none 0 0] 74)).alloc (.cells (madeCells #[.int .i64 0] n3) 3)) w) : HcNew W (((((w.setCell ⟨W.heap.size, 0, none⟩ (.int .i64 lv)).setCell ⟨W.heap.size, 1, none⟩ (.slice B1_ n1 C1_)).setCell ⟨W.heap.size, 2, none⟩ (.slice B2_ n2 C2_)).setCell ⟨W.heap.size, 3, none⟩ (.int .i64 sm)).setCell ⟨W.heap.size, 4, none⟩ (.slice (some ⟨W.heap.size + 1, 0, none⟩) n3 n3)) W.heap.size (W.heap.size + 1) lv sm B1_ n1 C1_ xs B2_ n2 C2_ ys n3 := by
  have z : Bl w W.heap.size [.int .i64 0, .slice none 0 0, .slice none 0 0, .int .i64 0, .slice none 0 0] := ((Bl.new' (w := W.drew) rfl (by simp)).keeps (keeps_alloc _ _)).keeps k
  have o : Own w (W.heap.size + 1) (List.replicate n3 0) := by
    have := (Own.new (W.drew.alloc (.cells #[.int .i64 0, .slice none 0 0, .slice none 0 0, .int .i64 0, .slice none 0 0] 74)) n3).keeps k
    simpa using this
  have kW : Keeps W w := keeps_d ((keeps_alloc _ _).trans ((keeps_alloc _ _).trans k))
  exact ⟨z.set5 _ _ _ _ _, o.fr (fr_set5 _ _ _ _ _) (.inr (Nat.le_refl _)), ⟨_, _, m.fr (fr_set5 _ _ _ _ _) (.inl (Nat.le_succ _)), by omega, .inl (Nat.lt_succ_self _), .inl (by omega)⟩, by omega, Nat.le_refl _, by omega, below_set5 kW (Nat.le_refl _) _ _ _ _ _⟩
theorem hn6 {W w : World} {lv sm : Int} {B1_ : Option Addr} {n1 C1_ : Nat} {xs : List Int} {B2_ : Option Addr} {n2 C2_ : Nat} {ys : List Int} {n3 : Nat} (m : TabM w (W.heap.size + 1 + 1) w.heap.size B1_ n1 xs B2_ n2 ys) (k : Keeps ((W.drew.alloc (.cells (madeCells #[.int .i64 0] n3) 3)).alloc (.cells #[.int .i64 0, .slice none 0 0, .slice none 0 0, .int .i64 0, .slice none 0 0] 74)) w) : HcNew W (((((w.setCell ⟨W.heap.size + 1, 0, none⟩ (.int .i64 lv)).setCell ⟨W.heap.size + 1, 1, none⟩ (.slice B1_ n1 C1_)).setCell ⟨W.heap.size + 1, 2, none⟩ (.slice B2_ n2 C2_)).setCell ⟨W.heap.size + 1, 3, none⟩ (.int .i64 sm)).setCell ⟨W.heap.size + 1, 4, none⟩ (.slice (some ⟨W.heap.size, 0, none⟩) n3 n3)) (W.heap.size + 1) W.heap.size lv sm B1_ n1 C1_ xs B2_ n2 C2_ ys n3 := by
  have z : Bl w (W.heap.size + 1) [.int .i64 0, .slice none 0 0, .slice none 0 0, .int .i64 0, .slice none 0 0] := (Bl.new' (by simp) (by simp)).keeps k
  have o : Own w W.heap.size (List.replicate n3 0) := ((Own.new W.drew n3).keeps (keeps_alloc _ _)).keeps k
  have kW : Keeps W w := keeps_d ((keeps_alloc _ _).trans ((keeps_alloc _ _).trans k))
  exact ⟨z.set5 _ _ _ _ _, o.fr (fr_set5 _ _ _ _ _) (.inl (Nat.lt_succ_self _)), ⟨_, _, m.fr (fr_set5 _ _ _ _ _) (.inl (Nat.le_refl _)), by omega, .inl (by omega), .inl (Nat.lt_succ_self _)⟩, by omega, by omega, Nat.le_refl _, below_set5 kW (Nat.le_succ _) _ _ _ _ _⟩
set_option maxRecDepth 100000 in
set_option maxHeartbeats 6400000 in
theorem hideCells_any {A1 A2 A3 : Option Addr} {n1 n2 n3 c1 c2 c3 : Nat} {lv sm : Int} {w : World} {t : Int} {lo hi : Nat} {xs ys zs : List Int} (h : PubI w lo hi A1 n1 xs A2 n2 ys A3 n3 zs) (g1 : NilOk A1 n1 c1) (g2 : NilOk A2 n2 c2) (hz : within (-1) 1000000 zs = true) :
    Calls Try.prog 138 #[.agg #[.int .i64 lv, .slice A1 n1 c1, .slice A2 n2 c2, .int .i64 sm, .slice A3 n3 c3], .int .i64 t] w (PubRes w lv sm n1 xs n2 ys n3 (zs.map (hv t))) := by
  have hn := h.i3.le
  have hl := h.i3.1
  have HZB := hid (within_true.1 hz)
  clear hz
  go_enter Try.func138, Try.ntmps138
  have kw := keeps_refl w
  replace kw := Keeps.trans kw (keeps_alloc w (.cells #[.int .i64 lv, .slice A1 n1 c1, .slice A2 n2 c2, .int .i64 sm, .slice A3 n3 c3] 74))
  have b2 : Bl (w.alloc (.cells #[.int .i64 lv, .slice A1 n1 c1, .slice A2 n2 c2, .int .i64 sm, .slice A3 n3 c3] 74)) w.heap.size [.int .i64 lv, .slice A1 n1 c1, .slice A2 n2 c2, .int .i64 sm, .slice A3 n3 c3] := Bl.new' (by simp) (by simp)
  replace b2 := b2.keeps (keeps_alloc (w.alloc (.cells #[.int .i64 lv, .slice A1 n1 c1, .slice A2 n2 c2, .int .i64 sm, .slice A3 n3 c3] 74)) (.cells #[.int .i64 0, .slice none 0 0, .slice none 0 0, .int .i64 0, .slice none 0 0] 74))
  replace kw := Keeps.trans kw (keeps_alloc (w.alloc (.cells #[.int .i64 lv, .slice A1 n1 c1, .slice A2 n2 c2, .int .i64 sm, .slice A3 n3 c3] 74)) (.cells #[.int .i64 0, .slice none 0 0, .slice none 0 0, .int .i64 0, .slice none 0 0] 74))
  have b4 : Bl ((w.alloc (.cells #[.int .i64 lv, .slice A1 n1 c1, .slice A2 n2 c2, .int .i64 sm, .slice A3 n3 c3] 74)).alloc (.cells #[.int .i64 0, .slice none 0 0, .slice none 0 0, .int .i64 0, .slice none 0 0] 74)) (w.heap.size + 1) [.int .i64 0, .slice none 0 0, .slice none 0 0, .int .i64 0, .slice none 0 0] := Bl.new' (by simp) (by simp)
  go_wp2_with fail
  obtain ⟨W, hX⟩ : ∃ u : World, u = ((w.alloc (.cells #[.int .i64 lv, .slice A1 n1 c1, .slice A2 n2 c2, .int .i64 sm, .slice A3 n3 c3] 74)).alloc (.cells #[.int .i64 0, .slice none 0 0, .slice none 0 0, .int .i64 0, .slice none 0 0] 74)) := ⟨_, rfl⟩
  have szX0 := hid (show W.heap.size = w.heap.size + 1 + 1 by rw [hX]; simp)
  rw [← hX] at b2
  rw [← hX] at b4
  rw [← hX] at kw
  rw [← hX]
  clear hX
  have sz2 := kw.size
  have hmk := make_ints n3 hn
  have G1 := hid g1
  have G2 := hid g2
  clear g1 g2
  have hD := h.keeps (kw.trans (keeps_d0 W))
  have b2D := b2.keeps (keeps_d0 W)
  have lt2 := b2.lt
  have hD1 := h.keeps (kw.trans (keeps_ad0' W (.cells #[.int .i64 0, .slice none 0 0, .slice none 0 0, .int .i64 0, .slice none 0 0] 74)))
  have hD2 := h.keeps (kw.trans (keeps_ad0' W (.cells (madeCells #[.int .i64 0] n3) 3)))
  have hD3 := h.keeps (kw.trans (keeps_aad0 W (.cells #[.int .i64 0, .slice none 0 0, .slice none 0 0, .int .i64 0, .slice none 0 0] 74) (.cells (madeCells #[.int .i64 0] n3) 3)))
  have hD4 := h.keeps (kw.trans (keeps_aad0 W (.cells (madeCells #[.int .i64 0] n3) 3) (.cells #[.int .i64 0, .slice none 0 0, .slice none 0 0, .int .i64 0, .slice none 0 0] 74)))
  have z0 : W.drew.cell? ⟨w.heap.size, 0, none⟩ = some (.int .i64 lv) := (b2D.2 0 _ rfl).1
  have x0 : W.cell? ⟨w.heap.size, 0, none⟩ = some (.int .i64 lv) := (b2.2 0 _ rfl).1
  have z1 : W.drew.cell? ⟨w.heap.size, 1, none⟩ = some (.slice A1 n1 c1) := (b2D.2 1 _ rfl).1
  have x1 : W.cell? ⟨w.heap.size, 1, none⟩ = some (.slice A1 n1 c1) := (b2.2 1 _ rfl).1
  have z2 : W.drew.cell? ⟨w.heap.size, 2, none⟩ = some (.slice A2 n2 c2) := (b2D.2 2 _ rfl).1
  have x2 : W.cell? ⟨w.heap.size, 2, none⟩ = some (.slice A2 n2 c2) := (b2.2 2 _ rfl).1
  have z3 : W.drew.cell? ⟨w.heap.size, 3, none⟩ = some (.int .i64 sm) := (b2D.2 3 _ rfl).1
  have x3 : W.cell? ⟨w.heap.size, 3, none⟩ = some (.int .i64 sm) := (b2.2 3 _ rfl).1
  have z4 : W.drew.cell? ⟨w.heap.size, 4, none⟩ = some (.slice A3 n3 c3) := (b2D.2 4 _ rfl).1
  have x4 : W.cell? ⟨w.heap.size, 4, none⟩ = some (.slice A3 n3 c3) := (b2.2 4 _ rfl).1
  go_cut [5] (fun sp wq => ∃ wy g A1' C1' A2' C2' C, wy = wq ∧ sp = .pointer (some ⟨g, 0, none⟩) ∧ HcNew W wy g C lv sm A1' n1 C1' xs A2' n2 C2' ys n3 ∧ NilOk A1' n1 C1' ∧ NilOk A2' n2 C2')
  case first =>
    go_region_law ((first | (refine step_copyTable (lv := lv) (sm := sm) hD.i1 hD.i2 G1.out G2.out rfl (by kernel_rfl) ?_; intro B1_ C1_ B2_ C2_ wC tm no1 no2 kC; have b2C : Bl wC w.heap.size [.int .i64 lv, .slice A1 n1 c1, .slice A2 n2 c2, .int .i64 sm, .slice A3 n3 c3] := b2D.keeps kC; have ltC := b2C.lt; have y0 : wC.cell? ⟨w.heap.size, 0, none⟩ = some (.int .i64 lv) := (b2C.2 0 _ rfl).1; have y1 : wC.cell? ⟨w.heap.size, 1, none⟩ = some (.slice A1 n1 c1) := (b2C.2 1 _ rfl).1; have y2 : wC.cell? ⟨w.heap.size, 2, none⟩ = some (.slice A2 n2 c2) := (b2C.2 2 _ rfl).1; have y3 : wC.cell? ⟨w.heap.size, 3, none⟩ = some (.int .i64 sm) := (b2C.2 3 _ rfl).1; have y4 : wC.cell? ⟨w.heap.size, 4, none⟩ = some (.slice A3 n3 c3) := (b2C.2 4 _ rfl).1; skip; (try simp at tm); have NA := hid (hn1 (lv := lv) (sm := sm) (C1_ := C1_) (C2_ := C2_) (n3 := n3) tm kC); have NB := hid (hn2 (lv := lv) (sm := sm) (C1_ := C1_) (C2_ := C2_) (n3 := n3) tm kC)) | (refine step_copyTable (lv := lv) (sm := sm) hD1.i1 hD1.i2 G1.out G2.out rfl (by kernel_rfl) ?_; intro B1_ C1_ B2_ C2_ wC tm no1 no2 kC; have b2C : Bl wC w.heap.size [.int .i64 lv, .slice A1 n1 c1, .slice A2 n2 c2, .int .i64 sm, .slice A3 n3 c3] := b2D.keeps ((keeps_alloc _ _).trans kC); have ltC := b2C.lt; have y0 : wC.cell? ⟨w.heap.size, 0, none⟩ = some (.int .i64 lv) := (b2C.2 0 _ rfl).1; have y1 : wC.cell? ⟨w.heap.size, 1, none⟩ = some (.slice A1 n1 c1) := (b2C.2 1 _ rfl).1; have y2 : wC.cell? ⟨w.heap.size, 2, none⟩ = some (.slice A2 n2 c2) := (b2C.2 2 _ rfl).1; have y3 : wC.cell? ⟨w.heap.size, 3, none⟩ = some (.int .i64 sm) := (b2C.2 3 _ rfl).1; have y4 : wC.cell? ⟨w.heap.size, 4, none⟩ = some (.slice A3 n3 c3) := (b2C.2 4 _ rfl).1; have bz : Bl wC W.heap.size [.int .i64 0, .slice none 0 0, .slice none 0 0, .int .i64 0, .slice none 0 0] := Bl.keepsA (w := W.drew) kC (by simp); have ltz := bz.lt; have q0 : wC.cell? ⟨W.heap.size, 0, none⟩ = some (.int .i64 0) := (bz.2 0 _ rfl).1; have r0 : wC.frozen? ⟨W.heap.size, 0, none⟩ = false := (bz.2 0 _ rfl).2; have q1 : wC.cell? ⟨W.heap.size, 1, none⟩ = some (.slice none 0 0) := (bz.2 1 _ rfl).1; have r1 : wC.frozen? ⟨W.heap.size, 1, none⟩ = false := (bz.2 1 _ rfl).2; have q2 : wC.cell? ⟨W.heap.size, 2, none⟩ = some (.slice none 0 0) := (bz.2 2 _ rfl).1; have r2 : wC.frozen? ⟨W.heap.size, 2, none⟩ = false := (bz.2 2 _ rfl).2; have q3 : wC.cell? ⟨W.heap.size, 3, none⟩ = some (.int .i64 0) := (bz.2 3 _ rfl).1; have r3 : wC.frozen? ⟨W.heap.size, 3, none⟩ = false := (bz.2 3 _ rfl).2; have q4 : wC.cell? ⟨W.heap.size, 4, none⟩ = some (.slice none 0 0) := (bz.2 4 _ rfl).1; have r4 : wC.frozen? ⟨W.heap.size, 4, none⟩ = false := (bz.2 4 _ rfl).2; (try simp at tm); have NA := hid (hn3 (lv := lv) (sm := sm) (C1_ := C1_) (C2_ := C2_) (n3 := n3) tm kC); have NB := hid (hn3 (lv := lv) (sm := sm) (C1_ := C1_) (C2_ := C2_) (n3 := n3) tm kC)) | (refine step_copyTable (lv := lv) (sm := sm) hD2.i1 hD2.i2 G1.out G2.out rfl (by kernel_rfl) ?_; intro B1_ C1_ B2_ C2_ wC tm no1 no2 kC; have b2C : Bl wC w.heap.size [.int .i64 lv, .slice A1 n1 c1, .slice A2 n2 c2, .int .i64 sm, .slice A3 n3 c3] := b2D.keeps ((keeps_alloc _ _).trans kC); have ltC := b2C.lt; have y0 : wC.cell? ⟨w.heap.size, 0, none⟩ = some (.int .i64 lv) := (b2C.2 0 _ rfl).1; have y1 : wC.cell? ⟨w.heap.size, 1, none⟩ = some (.slice A1 n1 c1) := (b2C.2 1 _ rfl).1; have y2 : wC.cell? ⟨w.heap.size, 2, none⟩ = some (.slice A2 n2 c2) := (b2C.2 2 _ rfl).1; have y3 : wC.cell? ⟨w.heap.size, 3, none⟩ = some (.int .i64 sm) := (b2C.2 3 _ rfl).1; have y4 : wC.cell? ⟨w.heap.size, 4, none⟩ = some (.slice A3 n3 c3) := (b2C.2 4 _ rfl).1; skip; (try simp at tm); have NA := hid (hn4 (lv := lv) (sm := sm) (C1_ := C1_) (C2_ := C2_) (n3 := n3) tm kC); have NB := hid (hn4 (lv := lv) (sm := sm) (C1_ := C1_) (C2_ := C2_) (n3 := n3) tm kC)) | (refine step_copyTable (lv := lv) (sm := sm) hD3.i1 hD3.i2 G1.out G2.out rfl (by kernel_rfl) ?_; intro B1_ C1_ B2_ C2_ wC tm no1 no2 kC; have b2C : Bl wC w.heap.size [.int .i64 lv, .slice A1 n1 c1, .slice A2 n2 c2, .int .i64 sm, .slice A3 n3 c3] := b2D.keeps (((keeps_alloc _ _).trans (keeps_alloc _ _)).trans kC); have ltC := b2C.lt; have y0 : wC.cell? ⟨w.heap.size, 0, none⟩ = some (.int .i64 lv) := (b2C.2 0 _ rfl).1; have y1 : wC.cell? ⟨w.heap.size, 1, none⟩ = some (.slice A1 n1 c1) := (b2C.2 1 _ rfl).1; have y2 : wC.cell? ⟨w.heap.size, 2, none⟩ = some (.slice A2 n2 c2) := (b2C.2 2 _ rfl).1; have y3 : wC.cell? ⟨w.heap.size, 3, none⟩ = some (.int .i64 sm) := (b2C.2 3 _ rfl).1; have y4 : wC.cell? ⟨w.heap.size, 4, none⟩ = some (.slice A3 n3 c3) := (b2C.2 4 _ rfl).1; have bz : Bl wC W.heap.size [.int .i64 0, .slice none 0 0, .slice none 0 0, .int .i64 0, .slice none 0 0] := ((Bl.new' (w := W.drew) rfl (by simp)).keeps (keeps_alloc _ _)).keeps kC; have ltz := bz.lt; have q0 : wC.cell? ⟨W.heap.size, 0, none⟩ = some (.int .i64 0) := (bz.2 0 _ rfl).1; have r0 : wC.frozen? ⟨W.heap.size, 0, none⟩ = false := (bz.2 0 _ rfl).2; have q1 : wC.cell? ⟨W.heap.size, 1, none⟩ = some (.slice none 0 0) := (bz.2 1 _ rfl).1; have r1 : wC.frozen? ⟨W.heap.size, 1, none⟩ = false := (bz.2 1 _ rfl).2; have q2 : wC.cell? ⟨W.heap.size, 2, none⟩ = some (.slice none 0 0) := (bz.2 2 _ rfl).1; have r2 : wC.frozen? ⟨W.heap.size, 2, none⟩ = false := (bz.2 2 _ rfl).2; have q3 : wC.cell? ⟨W.heap.size, 3, none⟩ = some (.int .i64 0) := (bz.2 3 _ rfl).1; have r3 : wC.frozen? ⟨W.heap.size, 3, none⟩ = false := (bz.2 3 _ rfl).2; have q4 : wC.cell? ⟨W.heap.size, 4, none⟩ = some (.slice none 0 0) := (bz.2 4 _ rfl).1; have r4 : wC.frozen? ⟨W.heap.size, 4, none⟩ = false := (bz.2 4 _ rfl).2; (try simp at tm); have NA := hid (hn5 (lv := lv) (sm := sm) (C1_ := C1_) (C2_ := C2_) (n3 := n3) tm kC); have NB := hid (hn5 (lv := lv) (sm := sm) (C1_ := C1_) (C2_ := C2_) (n3 := n3) tm kC)) | (refine step_copyTable (lv := lv) (sm := sm) hD4.i1 hD4.i2 G1.out G2.out rfl (by kernel_rfl) ?_; intro B1_ C1_ B2_ C2_ wC tm no1 no2 kC; have b2C : Bl wC w.heap.size [.int .i64 lv, .slice A1 n1 c1, .slice A2 n2 c2, .int .i64 sm, .slice A3 n3 c3] := b2D.keeps (((keeps_alloc _ _).trans (keeps_alloc _ _)).trans kC); have ltC := b2C.lt; have y0 : wC.cell? ⟨w.heap.size, 0, none⟩ = some (.int .i64 lv) := (b2C.2 0 _ rfl).1; have y1 : wC.cell? ⟨w.heap.size, 1, none⟩ = some (.slice A1 n1 c1) := (b2C.2 1 _ rfl).1; have y2 : wC.cell? ⟨w.heap.size, 2, none⟩ = some (.slice A2 n2 c2) := (b2C.2 2 _ rfl).1; have y3 : wC.cell? ⟨w.heap.size, 3, none⟩ = some (.int .i64 sm) := (b2C.2 3 _ rfl).1; have y4 : wC.cell? ⟨w.heap.size, 4, none⟩ = some (.slice A3 n3 c3) := (b2C.2 4 _ rfl).1; have bz : Bl wC (W.heap.size + 1) [.int .i64 0, .slice none 0 0, .slice none 0 0, .int .i64 0, .slice none 0 0] := (Bl.new' (w := W.drew.alloc (.cells (madeCells #[.int .i64 0] n3) 3)) (by simp) (by simp)).keeps kC; have ltz := bz.lt; have q0 : wC.cell? ⟨(W.heap.size + 1), 0, none⟩ = some (.int .i64 0) := (bz.2 0 _ rfl).1; have r0 : wC.frozen? ⟨(W.heap.size + 1), 0, none⟩ = false := (bz.2 0 _ rfl).2; have q1 : wC.cell? ⟨(W.heap.size + 1), 1, none⟩ = some (.slice none 0 0) := (bz.2 1 _ rfl).1; have r1 : wC.frozen? ⟨(W.heap.size + 1), 1, none⟩ = false := (bz.2 1 _ rfl).2; have q2 : wC.cell? ⟨(W.heap.size + 1), 2, none⟩ = some (.slice none 0 0) := (bz.2 2 _ rfl).1; have r2 : wC.frozen? ⟨(W.heap.size + 1), 2, none⟩ = false := (bz.2 2 _ rfl).2; have q3 : wC.cell? ⟨(W.heap.size + 1), 3, none⟩ = some (.int .i64 0) := (bz.2 3 _ rfl).1; have r3 : wC.frozen? ⟨(W.heap.size + 1), 3, none⟩ = false := (bz.2 3 _ rfl).2; have q4 : wC.cell? ⟨(W.heap.size + 1), 4, none⟩ = some (.slice none 0 0) := (bz.2 4 _ rfl).1; have r4 : wC.frozen? ⟨(W.heap.size + 1), 4, none⟩ = false := (bz.2 4 _ rfl).2; (try simp at tm); have NA := hid (hn6 (lv := lv) (sm := sm) (C1_ := C1_) (C2_ := C2_) (n3 := n3) tm kC); have NB := hid (hn6 (lv := lv) (sm := sm) (C1_ := C1_) (C2_ := C2_) (n3 := n3) tm kC))))
    all_goals (go_wp2_with fail; go_meet; first | with_reducible exact ⟨_, _, B1_, C1_, B2_, C2_, _, rfl, rfl, NA.out, no1, no2⟩ | with_reducible exact ⟨_, _, B1_, C1_, B2_, C2_, _, rfl, rfl, NB.out, no1, no2⟩ | (trace_state; sorry))
  case rest =>
    clear hD hD1 hD2 hD3 hD4 b2D hmk z0 x0 z1 x1 z2 x2 z3 x3 z4 x4
    obtain ⟨wy, gg, B1_, C1_, B2_, C2_, CC, rfl, rfl, hnw, no1, no2⟩ := hcut
    obtain ⟨bo, ob, ⟨tlo, thi, tm, tl1, tl2, tl3⟩, ne, lg, lc, kY⟩ := hnw
    have s0 := b4.lt
    replace b2 := b2.keeps kY
    replace b4 := b4.keeps kY
    replace kw := Keeps.trans kw kY
    have lt3 := b4.lt
    have sz4 := kw.size
    clear kY
    have ca5_0 : wy.cell? ⟨w.heap.size, 0, none⟩ = some (.int .i64 lv) := (b2.2 0 _ rfl).1
    have fa5_0 : wy.frozen? ⟨w.heap.size, 0, none⟩ = false := (b2.2 0 _ rfl).2
    have ca5_1 : wy.cell? ⟨w.heap.size, 1, none⟩ = some (.slice A1 n1 c1) := (b2.2 1 _ rfl).1
    have fa5_1 : wy.frozen? ⟨w.heap.size, 1, none⟩ = false := (b2.2 1 _ rfl).2
    have ca5_2 : wy.cell? ⟨w.heap.size, 2, none⟩ = some (.slice A2 n2 c2) := (b2.2 2 _ rfl).1
    have fa5_2 : wy.frozen? ⟨w.heap.size, 2, none⟩ = false := (b2.2 2 _ rfl).2
    have ca5_3 : wy.cell? ⟨w.heap.size, 3, none⟩ = some (.int .i64 sm) := (b2.2 3 _ rfl).1
    have fa5_3 : wy.frozen? ⟨w.heap.size, 3, none⟩ = false := (b2.2 3 _ rfl).2
    have ca5_4 : wy.cell? ⟨w.heap.size, 4, none⟩ = some (.slice A3 n3 c3) := (b2.2 4 _ rfl).1
    have fa5_4 : wy.frozen? ⟨w.heap.size, 4, none⟩ = false := (b2.2 4 _ rfl).2
    go_wp2_with fail
    clear ca5_0 fa5_0 ca5_1 fa5_1 ca5_2 fa5_2 ca5_3 fa5_3 ca5_4 fa5_4
    clear b2
    have hs : ∀ k, k ≤ n3 → (padD 0 (zs.map (hv t)) k).length = n3 := fun k hk => by rw [padD_len _ _ _ (by simp; omega)]; simp [hl]
    have HS := hid hs
    clear hs
    have HL := hid hl
    clear hl
    go_loopw [19] (fun si wr => ∃ k : Nat, k ≤ n3 ∧ si = .int .i64 k ∧ Own wr CC (padD 0 (zs.map (hv t)) k) ∧ Bl wr gg [.int .i64 lv, .slice B1_ n1 C1_, .slice B2_ n2 C2_, .int .i64 sm, .slice (some ⟨CC, 0, none⟩) n3 n3] ∧ TabM wr tlo thi B1_ n1 xs B2_ n2 ys ∧ Bl wr (w.heap.size + 1) [.int .i64 0, .slice none 0 0, .slice none 0 0, .int .i64 0, .slice none 0 0] ∧ Keeps w wr) (fun si _ => n3 - (intOf si).toNat)
    case atStart => exact ⟨0, Nat.zero_le _, rfl, by rw [padD_zero]; simpa [HL.out] using ob, bo, tm, b4, kw⟩
    clear ob bo tm b4 kw
    case round =>
      obtain ⟨k, hk, rfl, ob, bo, tm, b4, kw⟩ := hrel
      have sz := kw.size
      have lb := bo.lt
      have lo := ob.lt
      by_cases hlt : k < n3
      · have hki : (k : Int) < (n3 : Int) := by omega
        obtain ⟨b, off, z, rfl, _, _, hcz, hz⟩ := (h.i3.keeps kw).at_ hlt
        have zb := HZB.out k (by rw [HL.out]; exact hlt)
        rw [← hz.out] at zb
        obtain ⟨z0, hoc, -⟩ := ob.at_ k (by rw [HS.out k hk]; exact hlt)
        have hof := ob.frozen k
        by_cases c1 : 1 ≤ z
        · by_cases c2 : z < t
          · have HV := hid (show hv t z = (-1) from hv_yes c1 c2)
            have ca6_0 : wr.cell? ⟨gg, 0, none⟩ = some (.int .i64 lv) := (bo.2 0 _ rfl).1
            have fa6_0 : wr.frozen? ⟨gg, 0, none⟩ = false := (bo.2 0 _ rfl).2
            have ca6_1 : wr.cell? ⟨gg, 1, none⟩ = some (.slice B1_ n1 C1_) := (bo.2 1 _ rfl).1
            have fa6_1 : wr.frozen? ⟨gg, 1, none⟩ = false := (bo.2 1 _ rfl).2
            have ca6_2 : wr.cell? ⟨gg, 2, none⟩ = some (.slice B2_ n2 C2_) := (bo.2 2 _ rfl).1
            have fa6_2 : wr.frozen? ⟨gg, 2, none⟩ = false := (bo.2 2 _ rfl).2
            have ca6_3 : wr.cell? ⟨gg, 3, none⟩ = some (.int .i64 sm) := (bo.2 3 _ rfl).1
            have fa6_3 : wr.frozen? ⟨gg, 3, none⟩ = false := (bo.2 3 _ rfl).2
            have ca6_4 : wr.cell? ⟨gg, 4, none⟩ = some (.slice (some ⟨CC, 0, none⟩) n3 n3) := (bo.2 4 _ rfl).1
            have fa6_4 : wr.frozen? ⟨gg, 4, none⟩ = false := (bo.2 4 _ rfl).2
            go_wp2_with fail
            clear ca6_0 fa6_0 ca6_1 fa6_1 ca6_2 fa6_2 ca6_3 fa6_3 ca6_4 fa6_4
            clear hcz hoc hof
            have HP := hv_pad (t := t) (by rw [HL.out]; exact hlt) hz.out
            rw [HV.out] at HP
            have ob2 := ob.set_ k (-1)
            rw [HP] at ob2
            have HP2 := hid HP
            clear HP
            have OB := hid ob2
            have BO := hid (bo.far (p := ⟨CC, k, none⟩) ne (.int .i64 (-1)))
            have B4 := hid (b4.far (p := ⟨CC, k, none⟩) (by show _ ≠ CC; omega) (.int .i64 (-1)))
            have TM := hid (tm.fr (fr_one (p := CC) (i := k) (.int .i64 (-1))) (by omega))
            have KW := hid (Below.setCell kw (p := ⟨CC, k, none⟩) (by show _ ≤ CC; omega) (.int .i64 (-1)))
            clear ob2 ob bo b4 tm kw hz
            go_roundw
            case rel => exact ⟨k + 1, by omega, by go_num, OB.out, BO.out, TM.out, B4.out, KW.out⟩
            case measure => simp [intOf]; omega
          · have HV := hid (show hv t z = z from hv_no2 c2)
            have ca6_0 : wr.cell? ⟨gg, 0, none⟩ = some (.int .i64 lv) := (bo.2 0 _ rfl).1
            have fa6_0 : wr.frozen? ⟨gg, 0, none⟩ = false := (bo.2 0 _ rfl).2
            have ca6_1 : wr.cell? ⟨gg, 1, none⟩ = some (.slice B1_ n1 C1_) := (bo.2 1 _ rfl).1
            have fa6_1 : wr.frozen? ⟨gg, 1, none⟩ = false := (bo.2 1 _ rfl).2
            have ca6_2 : wr.cell? ⟨gg, 2, none⟩ = some (.slice B2_ n2 C2_) := (bo.2 2 _ rfl).1
            have fa6_2 : wr.frozen? ⟨gg, 2, none⟩ = false := (bo.2 2 _ rfl).2
            have ca6_3 : wr.cell? ⟨gg, 3, none⟩ = some (.int .i64 sm) := (bo.2 3 _ rfl).1
            have fa6_3 : wr.frozen? ⟨gg, 3, none⟩ = false := (bo.2 3 _ rfl).2
            have ca6_4 : wr.cell? ⟨gg, 4, none⟩ = some (.slice (some ⟨CC, 0, none⟩) n3 n3) := (bo.2 4 _ rfl).1
            have fa6_4 : wr.frozen? ⟨gg, 4, none⟩ = false := (bo.2 4 _ rfl).2
            go_wp2_with fail
            clear ca6_0 fa6_0 ca6_1 fa6_1 ca6_2 fa6_2 ca6_3 fa6_3 ca6_4 fa6_4
            clear hcz hoc hof
            have HP := hv_pad (t := t) (by rw [HL.out]; exact hlt) hz.out
            rw [HV.out] at HP
            have ob2 := ob.set_ k z
            rw [HP] at ob2
            have HP2 := hid HP
            clear HP
            have OB := hid ob2
            have BO := hid (bo.far (p := ⟨CC, k, none⟩) ne (.int .i64 z))
            have B4 := hid (b4.far (p := ⟨CC, k, none⟩) (by show _ ≠ CC; omega) (.int .i64 z))
            have TM := hid (tm.fr (fr_one (p := CC) (i := k) (.int .i64 z)) (by omega))
            have KW := hid (Below.setCell kw (p := ⟨CC, k, none⟩) (by show _ ≤ CC; omega) (.int .i64 z))
            clear ob2 ob bo b4 tm kw hz
            go_roundw
            case rel => exact ⟨k + 1, by omega, by go_num, OB.out, BO.out, TM.out, B4.out, KW.out⟩
            case measure => simp [intOf]; omega
        · have HV := hid (show hv t z = z from hv_no1 c1)
          have ca6_0 : wr.cell? ⟨gg, 0, none⟩ = some (.int .i64 lv) := (bo.2 0 _ rfl).1
          have fa6_0 : wr.frozen? ⟨gg, 0, none⟩ = false := (bo.2 0 _ rfl).2
          have ca6_1 : wr.cell? ⟨gg, 1, none⟩ = some (.slice B1_ n1 C1_) := (bo.2 1 _ rfl).1
          have fa6_1 : wr.frozen? ⟨gg, 1, none⟩ = false := (bo.2 1 _ rfl).2
          have ca6_2 : wr.cell? ⟨gg, 2, none⟩ = some (.slice B2_ n2 C2_) := (bo.2 2 _ rfl).1
          have fa6_2 : wr.frozen? ⟨gg, 2, none⟩ = false := (bo.2 2 _ rfl).2
          have ca6_3 : wr.cell? ⟨gg, 3, none⟩ = some (.int .i64 sm) := (bo.2 3 _ rfl).1
          have fa6_3 : wr.frozen? ⟨gg, 3, none⟩ = false := (bo.2 3 _ rfl).2
          have ca6_4 : wr.cell? ⟨gg, 4, none⟩ = some (.slice (some ⟨CC, 0, none⟩) n3 n3) := (bo.2 4 _ rfl).1
          have fa6_4 : wr.frozen? ⟨gg, 4, none⟩ = false := (bo.2 4 _ rfl).2
          go_wp2_with fail
          clear ca6_0 fa6_0 ca6_1 fa6_1 ca6_2 fa6_2 ca6_3 fa6_3 ca6_4 fa6_4
          clear hcz hoc hof
          have HP := hv_pad (t := t) (by rw [HL.out]; exact hlt) hz.out
          rw [HV.out] at HP
          have ob2 := ob.set_ k z
          rw [HP] at ob2
          have HP2 := hid HP
          clear HP
          have OB := hid ob2
          have BO := hid (bo.far (p := ⟨CC, k, none⟩) ne (.int .i64 z))
          have B4 := hid (b4.far (p := ⟨CC, k, none⟩) (by show _ ≠ CC; omega) (.int .i64 z))
          have TM := hid (tm.fr (fr_one (p := CC) (i := k) (.int .i64 z)) (by omega))
          have KW := hid (Below.setCell kw (p := ⟨CC, k, none⟩) (by show _ ≤ CC; omega) (.int .i64 z))
          clear ob2 ob bo b4 tm kw hz
          go_roundw
          case rel => exact ⟨k + 1, by omega, by go_num, OB.out, BO.out, TM.out, B4.out, KW.out⟩
          case measure => simp [intOf]; omega
      · obtain rfl : k = n3 := by omega
        have HE := hid (show padD 0 (zs.map (hv t)) k = zs.map (hv t) by have := padD_all 0 (zs.map (hv t)); rwa [List.length_map, HL.out] at this)
        rw [HE.out] at ob
        have hm : Mine wr CC (CC + 1) (some ⟨CC, 0, none⟩) k (zs.map (hv t)) := ob.mine (by simp [HL.out]) hn (Nat.le_refl _) (Nat.lt_succ_self _) lo
        have tt := tm.top
        have HP := tm.pub (l := w.heap.size + 2) (h' := wr.heap.size) hm (by omega) (by omega) (by omega) (by omega) (by omega) (Nat.le_refl _)
        clear ob tm hm
        have ca6_0 : wr.cell? ⟨gg, 0, none⟩ = some (.int .i64 lv) := (bo.2 0 _ rfl).1
        have fa6_0 : wr.frozen? ⟨gg, 0, none⟩ = false := (bo.2 0 _ rfl).2
        have ca6_1 : wr.cell? ⟨gg, 1, none⟩ = some (.slice B1_ n1 C1_) := (bo.2 1 _ rfl).1
        have fa6_1 : wr.frozen? ⟨gg, 1, none⟩ = false := (bo.2 1 _ rfl).2
        have ca6_2 : wr.cell? ⟨gg, 2, none⟩ = some (.slice B2_ n2 C2_) := (bo.2 2 _ rfl).1
        have fa6_2 : wr.frozen? ⟨gg, 2, none⟩ = false := (bo.2 2 _ rfl).2
        have ca6_3 : wr.cell? ⟨gg, 3, none⟩ = some (.int .i64 sm) := (bo.2 3 _ rfl).1
        have fa6_3 : wr.frozen? ⟨gg, 3, none⟩ = false := (bo.2 3 _ rfl).2
        have ca6_4 : wr.cell? ⟨gg, 4, none⟩ = some (.slice (some ⟨CC, 0, none⟩) k k) := (bo.2 4 _ rfl).1
        have fa6_4 : wr.frozen? ⟨gg, 4, none⟩ = false := (bo.2 4 _ rfl).2
        have ca7_0 : wr.cell? ⟨w.heap.size + 1, 0, none⟩ = some (.int .i64 0) := (b4.2 0 _ rfl).1
        have fa7_0 : wr.frozen? ⟨w.heap.size + 1, 0, none⟩ = false := (b4.2 0 _ rfl).2
        have ca7_1 : wr.cell? ⟨w.heap.size + 1, 1, none⟩ = some (.slice none 0 0) := (b4.2 1 _ rfl).1
        have fa7_1 : wr.frozen? ⟨w.heap.size + 1, 1, none⟩ = false := (b4.2 1 _ rfl).2
        have ca7_2 : wr.cell? ⟨w.heap.size + 1, 2, none⟩ = some (.slice none 0 0) := (b4.2 2 _ rfl).1
        have fa7_2 : wr.frozen? ⟨w.heap.size + 1, 2, none⟩ = false := (b4.2 2 _ rfl).2
        have ca7_3 : wr.cell? ⟨w.heap.size + 1, 3, none⟩ = some (.int .i64 0) := (b4.2 3 _ rfl).1
        have fa7_3 : wr.frozen? ⟨w.heap.size + 1, 3, none⟩ = false := (b4.2 3 _ rfl).2
        have ca7_4 : wr.cell? ⟨w.heap.size + 1, 4, none⟩ = some (.slice none 0 0) := (b4.2 4 _ rfl).1
        have fa7_4 : wr.frozen? ⟨w.heap.size + 1, 4, none⟩ = false := (b4.2 4 _ rfl).2
        replace bo := bo.far (p := ⟨w.heap.size + 1, 0, none⟩) (by show _ ≠ (w.heap.size + 1); omega) (.int .i64 lv)
        replace HP := HP.fr (fr_one (p := (w.heap.size + 1)) (i := 0) (.int .i64 lv)) (by omega)
        replace kw := Below.setCell kw (p := ⟨w.heap.size + 1, 0, none⟩) (by show _ ≤ (w.heap.size + 1); omega) (.int .i64 lv)
        replace b4 : Bl (wr.setCell ⟨w.heap.size + 1, 0, none⟩ (.int .i64 lv)) (w.heap.size + 1) [.int .i64 lv, .slice none 0 0, .slice none 0 0, .int .i64 0, .slice none 0 0] := b4.set 0 (.int .i64 lv)
        replace bo := bo.far (p := ⟨w.heap.size + 1, 1, none⟩) (by show _ ≠ (w.heap.size + 1); omega) (.slice B1_ n1 C1_)
        replace HP := HP.fr (fr_one (p := (w.heap.size + 1)) (i := 1) (.slice B1_ n1 C1_)) (by omega)
        replace kw := Below.setCell kw (p := ⟨w.heap.size + 1, 1, none⟩) (by show _ ≤ (w.heap.size + 1); omega) (.slice B1_ n1 C1_)
        replace b4 : Bl ((wr.setCell ⟨w.heap.size + 1, 0, none⟩ (.int .i64 lv)).setCell ⟨w.heap.size + 1, 1, none⟩ (.slice B1_ n1 C1_)) (w.heap.size + 1) [.int .i64 lv, .slice B1_ n1 C1_, .slice none 0 0, .int .i64 0, .slice none 0 0] := b4.set 1 (.slice B1_ n1 C1_)
        replace bo := bo.far (p := ⟨w.heap.size + 1, 2, none⟩) (by show _ ≠ (w.heap.size + 1); omega) (.slice B2_ n2 C2_)
        replace HP := HP.fr (fr_one (p := (w.heap.size + 1)) (i := 2) (.slice B2_ n2 C2_)) (by omega)
        replace kw := Below.setCell kw (p := ⟨w.heap.size + 1, 2, none⟩) (by show _ ≤ (w.heap.size + 1); omega) (.slice B2_ n2 C2_)
        replace b4 : Bl (((wr.setCell ⟨w.heap.size + 1, 0, none⟩ (.int .i64 lv)).setCell ⟨w.heap.size + 1, 1, none⟩ (.slice B1_ n1 C1_)).setCell ⟨w.heap.size + 1, 2, none⟩ (.slice B2_ n2 C2_)) (w.heap.size + 1) [.int .i64 lv, .slice B1_ n1 C1_, .slice B2_ n2 C2_, .int .i64 0, .slice none 0 0] := b4.set 2 (.slice B2_ n2 C2_)
        replace bo := bo.far (p := ⟨w.heap.size + 1, 3, none⟩) (by show _ ≠ (w.heap.size + 1); omega) (.int .i64 sm)
        replace HP := HP.fr (fr_one (p := (w.heap.size + 1)) (i := 3) (.int .i64 sm)) (by omega)
        replace kw := Below.setCell kw (p := ⟨w.heap.size + 1, 3, none⟩) (by show _ ≤ (w.heap.size + 1); omega) (.int .i64 sm)
        replace b4 : Bl ((((wr.setCell ⟨w.heap.size + 1, 0, none⟩ (.int .i64 lv)).setCell ⟨w.heap.size + 1, 1, none⟩ (.slice B1_ n1 C1_)).setCell ⟨w.heap.size + 1, 2, none⟩ (.slice B2_ n2 C2_)).setCell ⟨w.heap.size + 1, 3, none⟩ (.int .i64 sm)) (w.heap.size + 1) [.int .i64 lv, .slice B1_ n1 C1_, .slice B2_ n2 C2_, .int .i64 sm, .slice none 0 0] := b4.set 3 (.int .i64 sm)
        replace bo := bo.far (p := ⟨w.heap.size + 1, 4, none⟩) (by show _ ≠ (w.heap.size + 1); omega) (.slice (some ⟨CC, 0, none⟩) k k)
        replace HP := HP.fr (fr_one (p := (w.heap.size + 1)) (i := 4) (.slice (some ⟨CC, 0, none⟩) k k)) (by omega)
        replace kw := Below.setCell kw (p := ⟨w.heap.size + 1, 4, none⟩) (by show _ ≤ (w.heap.size + 1); omega) (.slice (some ⟨CC, 0, none⟩) k k)
        replace b4 : Bl (((((wr.setCell ⟨w.heap.size + 1, 0, none⟩ (.int .i64 lv)).setCell ⟨w.heap.size + 1, 1, none⟩ (.slice B1_ n1 C1_)).setCell ⟨w.heap.size + 1, 2, none⟩ (.slice B2_ n2 C2_)).setCell ⟨w.heap.size + 1, 3, none⟩ (.int .i64 sm)).setCell ⟨w.heap.size + 1, 4, none⟩ (.slice (some ⟨CC, 0, none⟩) k k)) (w.heap.size + 1) [.int .i64 lv, .slice B1_ n1 C1_, .slice B2_ n2 C2_, .int .i64 sm, .slice (some ⟨CC, 0, none⟩) k k] := b4.set 4 (.slice (some ⟨CC, 0, none⟩) k k)
        have HP2 := hid (HP.widen (lo' := w.heap.size) (hi' := (((((wr.setCell ⟨w.heap.size + 1, 0, none⟩ (.int .i64 lv)).setCell ⟨w.heap.size + 1, 1, none⟩ (.slice B1_ n1 C1_)).setCell ⟨w.heap.size + 1, 2, none⟩ (.slice B2_ n2 C2_)).setCell ⟨w.heap.size + 1, 3, none⟩ (.int .i64 sm)).setCell ⟨w.heap.size + 1, 4, none⟩ (.slice (some ⟨CC, 0, none⟩) k k)).heap.size) (by omega) (by simp [World.setCell]) (Nat.le_refl _))
        have HK := hid kw
        clear HP kw
        go_wp2_with fail
        clear ca6_0 fa6_0 ca6_1 fa6_1 ca6_2 fa6_2 ca6_3 fa6_3 ca6_4 fa6_4 ca7_0 fa7_0 ca7_1 fa7_1 ca7_2 fa7_2 ca7_3 fa7_3 ca7_4 fa7_4
        have ca0_0 : (((((wr.setCell ⟨w.heap.size + 1, 0, none⟩ (.int .i64 lv)).setCell ⟨w.heap.size + 1, 1, none⟩ (.slice B1_ n1 C1_)).setCell ⟨w.heap.size + 1, 2, none⟩ (.slice B2_ n2 C2_)).setCell ⟨w.heap.size + 1, 3, none⟩ (.int .i64 sm)).setCell ⟨w.heap.size + 1, 4, none⟩ (.slice (some ⟨CC, 0, none⟩) k k)).cell? ⟨w.heap.size + 1, 0, none⟩ = some (.int .i64 lv) := (b4.2 0 _ rfl).1
        have ca0_1 : (((((wr.setCell ⟨w.heap.size + 1, 0, none⟩ (.int .i64 lv)).setCell ⟨w.heap.size + 1, 1, none⟩ (.slice B1_ n1 C1_)).setCell ⟨w.heap.size + 1, 2, none⟩ (.slice B2_ n2 C2_)).setCell ⟨w.heap.size + 1, 3, none⟩ (.int .i64 sm)).setCell ⟨w.heap.size + 1, 4, none⟩ (.slice (some ⟨CC, 0, none⟩) k k)).cell? ⟨w.heap.size + 1, 1, none⟩ = some (.slice B1_ n1 C1_) := (b4.2 1 _ rfl).1
        have ca0_2 : (((((wr.setCell ⟨w.heap.size + 1, 0, none⟩ (.int .i64 lv)).setCell ⟨w.heap.size + 1, 1, none⟩ (.slice B1_ n1 C1_)).setCell ⟨w.heap.size + 1, 2, none⟩ (.slice B2_ n2 C2_)).setCell ⟨w.heap.size + 1, 3, none⟩ (.int .i64 sm)).setCell ⟨w.heap.size + 1, 4, none⟩ (.slice (some ⟨CC, 0, none⟩) k k)).cell? ⟨w.heap.size + 1, 2, none⟩ = some (.slice B2_ n2 C2_) := (b4.2 2 _ rfl).1
        have ca0_3 : (((((wr.setCell ⟨w.heap.size + 1, 0, none⟩ (.int .i64 lv)).setCell ⟨w.heap.size + 1, 1, none⟩ (.slice B1_ n1 C1_)).setCell ⟨w.heap.size + 1, 2, none⟩ (.slice B2_ n2 C2_)).setCell ⟨w.heap.size + 1, 3, none⟩ (.int .i64 sm)).setCell ⟨w.heap.size + 1, 4, none⟩ (.slice (some ⟨CC, 0, none⟩) k k)).cell? ⟨w.heap.size + 1, 3, none⟩ = some (.int .i64 sm) := (b4.2 3 _ rfl).1
        have ca0_4 : (((((wr.setCell ⟨w.heap.size + 1, 0, none⟩ (.int .i64 lv)).setCell ⟨w.heap.size + 1, 1, none⟩ (.slice B1_ n1 C1_)).setCell ⟨w.heap.size + 1, 2, none⟩ (.slice B2_ n2 C2_)).setCell ⟨w.heap.size + 1, 3, none⟩ (.int .i64 sm)).setCell ⟨w.heap.size + 1, 4, none⟩ (.slice (some ⟨CC, 0, none⟩) k k)).cell? ⟨w.heap.size + 1, 4, none⟩ = some (.slice (some ⟨CC, 0, none⟩) k k) := (b4.2 4 _ rfl).1
        try simp only [Exit.inBlock, Exit.then]
        exact bodyPost_ret (v := .agg #[.int .i64 lv, .slice B1_ n1 C1_, .slice B2_ n2 C2_, .int .i64 sm, .slice (some ⟨CC, 0, none⟩) k k]) (by simp [results, Try.results138, go_sem, ca0_0, ca0_1, ca0_2, ca0_3, ca0_4]) rfl ⟨_, _, _, _, _, _, rfl, HP2.out, no1, no2, (fun e => by cases e), HK.out⟩
end Go.Proofs.Ytnopedjgagoahaa
