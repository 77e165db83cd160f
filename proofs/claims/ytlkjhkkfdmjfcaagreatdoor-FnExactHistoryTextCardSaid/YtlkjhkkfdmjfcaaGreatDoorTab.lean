/- Tables and releases in memory. No walk. -/
import Derived.Test.YtlkjhkkfdmjfcaaGreatDoorRg
namespace Go.Proofs.YtlkjhkkfdmjfcaaGreatDoor
open Go.ChangeShapes Go.WideShapes Go.ChangeAt Go.RowKit Go.Deep
set_option linter.unusedVariables false
set_option linter.unusedSimpArgs false

abbrev TT := Int × List Int × List Int × Int
def t0 : TT := (0, [], [], 0)
def dT (t : TT) : List D := [.i t.1, .sl t.2.1.length (t.2.1.map D.i), .sl t.2.2.1.length (t.2.2.1.map D.i), .i t.2.2.2]
theorem dT_len (t : TT) : (dT t).length = 4 := rfl
def smT (t : TT) : Prop := t.2.1.length ≤ 67108864 ∧ t.2.2.1.length ≤ 67108864
structure Tabs (ex un : Bool) (w : World) (lo hi : Nat) (A : Option Addr) (n : Nat) (l : List TT) : Prop where
  r : RgS ex un w lo hi A n (l.flatMap dT)
  len : l.length = n
  le : n ≤ 67108864
  sm : ∀ j, smT (l.getD j t0)
section
variable {ex un : Bool} {w w' : World} {lo hi n : Nat} {A : Option Addr} {l : List TT}
theorem Tabs.top (h : Tabs ex un w lo hi A n l) : hi ≤ w.heap.size := h.r.1
theorem Tabs.fr {a b : Nat} (h : Tabs ex un w lo hi A n l) (f : Fr a b w w') (ho : b ≤ lo ∨ hi ≤ a ∨ b ≤ a) : Tabs ex un w' lo hi A n l := ⟨h.r.fr f ho, h.len, h.le, h.sm⟩
theorem Tabs.keeps (h : Tabs ex un w lo hi A n l) (k : Keeps w w') : Tabs ex un w' lo hi A n l := ⟨h.r.keeps k, h.len, h.le, h.sm⟩
theorem Tabs.widen {lo' hi' : Nat} (h : Tabs ex un w lo hi A n l) (h1 : lo' ≤ lo) (h2 : hi ≤ hi') (h3 : hi' ≤ w.heap.size) : Tabs ex un w lo' hi' A n l := ⟨h.r.widen h1 h2 h3, h.len, h.le, h.sm⟩
theorem Tabs.weak {ex' un' : Bool} (h : Tabs ex un w lo hi A n l) (h1 : ex' = true → ex = true) (h2 : un' = true → un = true) : Tabs ex' un' w lo hi A n l := ⟨h.r.weak h1 h2, h.len, h.le, h.sm⟩
theorem Tabs.read (h : Tabs true un w lo hi A n l) : Tabs true false w lo hi A n l := h.weak (fun e => e) (fun e => by cases e)
theorem Tabs.shape (h : Tabs ex true w lo hi A n l) : Tabs false true w lo hi A n l := h.weak (fun e => by cases e) (fun e => e)
theorem Tabs.sp (h : Tabs false un w lo hi A n l) (s : Sp w w') : Tabs false un w' lo hi A n l := ⟨h.r.sp s, h.len, h.le, h.sm⟩
theorem Tabs.at_ {k : Nat} (h : Tabs true un w lo hi A n l) (hk : k < n) :
    ∃ b off lv V nv cv H nh ch sm vs hs, A = some ⟨b, off, none⟩ ∧ lo ≤ b ∧ b < hi ∧ w.cell? ⟨b, off + k * 4, none⟩ = some (.int .i64 lv) ∧ w.cell? ⟨b, off + k * 4 + 1, none⟩ = some (.slice V nv cv) ∧ w.cell? ⟨b, off + k * 4 + 2, none⟩ = some (.slice H nh ch) ∧ w.cell? ⟨b, off + k * 4 + 3, none⟩ = some (.int .i64 sm) ∧ Ints w lo hi V nv vs ∧ Ints w lo hi H nh hs ∧ Hid ((lv, vs, hs, sm) = l.getD k t0) := by
  obtain ⟨b, off, e, h1, h2, h3⟩ := h.r.row dT_len t0 h.len hk
  obtain ⟨u0, c0, _, g0⟩ := h3 0 (by omega)
  obtain ⟨u1, c1, _, g1⟩ := h3 1 (by omega)
  obtain ⟨u2, c2, _, g2⟩ := h3 2 (by omega)
  obtain ⟨u3, c3, _, g3⟩ := h3 3 (by omega)
  obtain rfl := Rg.i_ (x := (l.getD k t0).1) g0
  obtain rfl := Rg.i_ (x := (l.getD k t0).2.2.2) g3
  obtain ⟨V, cv, rfl, gv⟩ := Rg.sl (n := (l.getD k t0).2.1.length) (ds := (l.getD k t0).2.1.map D.i) g1
  obtain ⟨H, ch, rfl, gh⟩ := Rg.sl (n := (l.getD k t0).2.2.1.length) (ds := (l.getD k t0).2.2.1.map D.i) g2
  exact ⟨b, off, _, V, _, cv, H, _, ch, _, _, _, e, h1, h2, c0, c1, c2, c3, gv.ints rfl (h.sm k).1, gh.ints rfl (h.sm k).2, rfl⟩
/-- The cells of a table of which the shape alone is known. -/
theorem Tabs.sat {k : Nat} (h : Tabs false true w lo hi A n l) (hk : k < n) :
    ∃ b off lv V nv cv H nh ch sm vs hs, A = some ⟨b, off, none⟩ ∧ lo ≤ b ∧ b < hi ∧ w.cell? ⟨b, off + k * 4, none⟩ = some (.int .i64 lv) ∧ w.cell? ⟨b, off + k * 4 + 1, none⟩ = some (.slice V nv cv) ∧ w.cell? ⟨b, off + k * 4 + 2, none⟩ = some (.slice H nh ch) ∧ w.cell? ⟨b, off + k * 4 + 3, none⟩ = some (.int .i64 sm) ∧ w.frozen? ⟨b, off + k * 4, none⟩ = false ∧ w.frozen? ⟨b, off + k * 4 + 3, none⟩ = false ∧
      (RgS false true w lo hi V nv (List.map D.i vs) ∧ vs.length = nv ∧ nv ≤ 67108864) ∧ (RgS false true w lo hi H nh (List.map D.i hs) ∧ hs.length = nh ∧ nh ≤ 67108864) ∧ Hid (nv = (l.getD k t0).2.1.length ∧ nh = (l.getD k t0).2.2.1.length) := by
  obtain ⟨b, off, e, h1, h2, h3⟩ := h.r.row dT_len t0 h.len hk
  obtain ⟨u0, c0, z0, g0⟩ := h3 0 (by omega)
  obtain ⟨u1, c1, _, g1⟩ := h3 1 (by omega)
  obtain ⟨u2, c2, _, g2⟩ := h3 2 (by omega)
  obtain ⟨u3, c3, z3, g3⟩ := h3 3 (by omega)
  obtain ⟨x0, rfl⟩ := Rg.iS (x := (l.getD k t0).1) g0
  obtain ⟨x3, rfl⟩ := Rg.iS (x := (l.getD k t0).2.2.2) g3
  obtain ⟨V, cv, rfl, gv⟩ := Rg.sl (n := (l.getD k t0).2.1.length) (ds := (l.getD k t0).2.1.map D.i) g1
  obtain ⟨H, ch, rfl, gh⟩ := Rg.sl (n := (l.getD k t0).2.2.1.length) (ds := (l.getD k t0).2.2.1.map D.i) g2
  exact ⟨b, off, _, V, _, cv, H, _, ch, _, _, _, e, h1, h2, c0, c1, c2, c3, z0 rfl, z3 rfl, ⟨gv, rfl, (h.sm k).1⟩, ⟨gh, rfl, (h.sm k).2⟩, ⟨rfl, rfl⟩⟩
end
/-- Sizes, as the laws count them. -/
def szT (t : TT) : Nat := t.2.1.length + t.2.2.1.length
theorem szL_dT (t : TT) : szL (dT t) = szT t := by simp [dT, szL, szD, szL_ints, szT]
def tsz (l : List TT) : Nat → Nat := szR dT l
theorem tsz_zero (l : List TT) : tsz l 0 = 0 := szR_zero dT l
theorem tsz_succ {l : List TT} {k : Nat} (h : k < l.length) : tsz l (k + 1) = tsz l k + szT (l.getD k t0) := by unfold tsz; rw [szR_succ dT t0 l k h, szL_dT]
theorem tsz_mono {l : List TT} {i j : Nat} (h : i ≤ j) (hj : j ≤ l.length) : tsz l i ≤ tsz l j := szR_mono dT t0 l h hj
/-- What is left of a size. -/
def szQ (left : Int) (s : Nat) : Int := if (s : Int) ≤ left then left - s else -1
theorem szQ_ok {left : Int} {s : Nat} (h : (s : Int) ≤ left) : szQ left s = left - s := if_pos h
theorem szQ_no {left : Int} {s : Nat} (h : ¬ (s : Int) ≤ left) : szQ left s = -1 := if_neg h
/-- Tables that came in. -/
structure TabsArg (w : World) (A : Option Addr) (n : Nat) (l : List TT) : Prop where
  r : RgS true false w 0 w.heap.size A n (l.flatMap dT)
  len : l.length = n
  le : n ≤ maxLen
  sm : ∀ j, (l.getD j t0).2.1.length ≤ maxLen ∧ (l.getD j t0).2.2.1.length ≤ maxLen
theorem getD_out {α : Type} {l : List α} {j : Nat} {z : α} (h : l.length ≤ j) : l.getD j z = z := by simp [List.getD, Nat.not_lt.2 h]
theorem tsz_at {l : List TT} {n : Nat} (hl : l.length = n) (j : Nat) : szT (l.getD j t0) ≤ tsz l n := by
  rcases Nat.lt_or_ge j n with h | h
  · have h1 := tsz_succ (l := l) (k := j) (by omega)
    have h2 := tsz_mono (l := l) (i := j + 1) (j := n) (by omega) (by omega)
    omega
  · rw [getD_out (by omega)]; simp [szT, t0]
theorem TabsArg.keeps {w w' : World} {A : Option Addr} {n : Nat} {l : List TT} (h : TabsArg w A n l) (k : Keeps w w') : TabsArg w' A n l := ⟨(h.r.keeps k).widen (Nat.le_refl _) k.size (Nat.le_refl _), h.len, h.le, h.sm⟩
theorem TabsArg.tabs {w : World} {A : Option Addr} {n : Nat} {l : List TT} (h : TabsArg w A n l) (hs : n + tsz l n ≤ 67108864) : Tabs true false w 0 w.heap.size A n l :=
  ⟨h.r, h.len, by omega, fun j => by have := tsz_at h.len j; unfold szT at this; exact ⟨by omega, by omega⟩⟩
/-- The head of a table that came in. -/
theorem TabsArg.at_ {w : World} {A : Option Addr} {n k : Nat} {l : List TT} (h : TabsArg w A n l) (hk : k < n) :
    ∃ b off lv V nv cv H nh ch sm, A = some ⟨b, off, none⟩ ∧ b < w.heap.size ∧ w.cell? ⟨b, off + k * 4, none⟩ = some (.int .i64 lv) ∧ w.cell? ⟨b, off + k * 4 + 1, none⟩ = some (.slice V nv cv) ∧ w.cell? ⟨b, off + k * 4 + 2, none⟩ = some (.slice H nh ch) ∧ w.cell? ⟨b, off + k * 4 + 3, none⟩ = some (.int .i64 sm) ∧ nv ≤ maxLen ∧ nh ≤ maxLen ∧ Hid (szT (l.getD k t0) = nv + nh) := by
  obtain ⟨b, off, e, h1, h2, h3⟩ := h.r.row dT_len t0 h.len hk
  obtain ⟨u0, c0, _, g0⟩ := h3 0 (by omega)
  obtain ⟨u1, c1, _, g1⟩ := h3 1 (by omega)
  obtain ⟨u2, c2, _, g2⟩ := h3 2 (by omega)
  obtain ⟨u3, c3, _, g3⟩ := h3 3 (by omega)
  obtain rfl := Rg.i_ (x := (l.getD k t0).1) g0
  obtain rfl := Rg.i_ (x := (l.getD k t0).2.2.2) g3
  obtain ⟨V, cv, rfl, gv⟩ := Rg.sl (n := (l.getD k t0).2.1.length) (ds := (l.getD k t0).2.1.map D.i) g1
  obtain ⟨H, ch, rfl, gh⟩ := Rg.sl (n := (l.getD k t0).2.2.1.length) (ds := (l.getD k t0).2.2.1.map D.i) g2
  exact ⟨b, off, _, V, _, cv, H, _, ch, _, e, h2, c0, c1, c2, c3, (h.sm k).1, (h.sm k).2, rfl⟩

abbrev RL := Int × List TT × Int × Int × Int × Int
def rl0 : RL := (0, [], 0, 0, 0, 0)
def dR (r : RL) : List D := [.i r.1, .sl r.2.1.length (r.2.1.flatMap dT), .i r.2.2.1, .i r.2.2.2.1, .i r.2.2.2.2.1, .i r.2.2.2.2.2]
theorem dR_len (r : RL) : (dR r).length = 6 := rfl
def smR (r : RL) : Prop := r.2.1.length ≤ 67108864 ∧ ∀ j, smT (r.2.1.getD j t0)
structure Rels (ex un : Bool) (w : World) (lo hi : Nat) (A : Option Addr) (n : Nat) (l : List RL) : Prop where
  r : RgS ex un w lo hi A n (l.flatMap dR)
  len : l.length = n
  le : n ≤ 67108864
  sm : ∀ j, smR (l.getD j rl0)
section
variable {ex un : Bool} {w w' : World} {lo hi n : Nat} {A : Option Addr} {l : List RL}
theorem Rels.top (h : Rels ex un w lo hi A n l) : hi ≤ w.heap.size := h.r.1
theorem Rels.fr {a b : Nat} (h : Rels ex un w lo hi A n l) (f : Fr a b w w') (ho : b ≤ lo ∨ hi ≤ a ∨ b ≤ a) : Rels ex un w' lo hi A n l := ⟨h.r.fr f ho, h.len, h.le, h.sm⟩
theorem Rels.keeps (h : Rels ex un w lo hi A n l) (k : Keeps w w') : Rels ex un w' lo hi A n l := ⟨h.r.keeps k, h.len, h.le, h.sm⟩
theorem Rels.widen {lo' hi' : Nat} (h : Rels ex un w lo hi A n l) (h1 : lo' ≤ lo) (h2 : hi ≤ hi') (h3 : hi' ≤ w.heap.size) : Rels ex un w lo' hi' A n l := ⟨h.r.widen h1 h2 h3, h.len, h.le, h.sm⟩
theorem Rels.weak {ex' un' : Bool} (h : Rels ex un w lo hi A n l) (h1 : ex' = true → ex = true) (h2 : un' = true → un = true) : Rels ex' un' w lo hi A n l := ⟨h.r.weak h1 h2, h.len, h.le, h.sm⟩
theorem Rels.read (h : Rels true un w lo hi A n l) : Rels true false w lo hi A n l := h.weak (fun e => e) (fun e => by cases e)
theorem Rels.shape (h : Rels ex true w lo hi A n l) : Rels false true w lo hi A n l := h.weak (fun e => by cases e) (fun e => e)
theorem Rels.sp (h : Rels false un w lo hi A n l) (s : Sp w w') : Rels false un w' lo hi A n l := ⟨h.r.sp s, h.len, h.le, h.sm⟩
theorem Rels.at_ {k : Nat} (h : Rels true un w lo hi A n l) (hk : k < n) :
    ∃ b off v P np cp x1 x2 x3 x4 pl, A = some ⟨b, off, none⟩ ∧ lo ≤ b ∧ b < hi ∧ w.cell? ⟨b, off + k * 6, none⟩ = some (.int .i64 v) ∧ w.cell? ⟨b, off + k * 6 + 1, none⟩ = some (.slice P np cp) ∧ w.cell? ⟨b, off + k * 6 + 2, none⟩ = some (.int .i64 x1) ∧ w.cell? ⟨b, off + k * 6 + 3, none⟩ = some (.int .i64 x2) ∧ w.cell? ⟨b, off + k * 6 + 4, none⟩ = some (.int .i64 x3) ∧ w.cell? ⟨b, off + k * 6 + 5, none⟩ = some (.int .i64 x4) ∧ Tabs true un w lo hi P np pl ∧ Hid ((v, pl, x1, x2, x3, x4) = l.getD k rl0) := by
  obtain ⟨b, off, e, h1, h2, h3⟩ := h.r.row dR_len rl0 h.len hk
  obtain ⟨u0, c0, _, g0⟩ := h3 0 (by omega)
  obtain ⟨u1, c1, _, g1⟩ := h3 1 (by omega)
  obtain ⟨u2, c2, _, g2⟩ := h3 2 (by omega)
  obtain ⟨u3, c3, _, g3⟩ := h3 3 (by omega)
  obtain ⟨u4, c4, _, g4⟩ := h3 4 (by omega)
  obtain ⟨u5, c5, _, g5⟩ := h3 5 (by omega)
  obtain rfl := Rg.i_ (x := (l.getD k rl0).1) g0
  obtain rfl := Rg.i_ (x := (l.getD k rl0).2.2.1) g2
  obtain rfl := Rg.i_ (x := (l.getD k rl0).2.2.2.1) g3
  obtain rfl := Rg.i_ (x := (l.getD k rl0).2.2.2.2.1) g4
  obtain rfl := Rg.i_ (x := (l.getD k rl0).2.2.2.2.2) g5
  obtain ⟨P, cp, rfl, gp⟩ := Rg.sl (n := (l.getD k rl0).2.1.length) (ds := (l.getD k rl0).2.1.flatMap dT) g1
  exact ⟨b, off, _, P, _, cp, _, _, _, _, _, e, h1, h2, c0, c1, c2, c3, c4, c5, ⟨gp, rfl, (h.sm k).1, (h.sm k).2⟩, rfl⟩
theorem Rels.sat {k : Nat} (h : Rels false true w lo hi A n l) (hk : k < n) :
    ∃ b off v P np cp x1 x2 x3 x4 pl, A = some ⟨b, off, none⟩ ∧ lo ≤ b ∧ b < hi ∧ w.cell? ⟨b, off + k * 6, none⟩ = some (.int .i64 v) ∧ w.cell? ⟨b, off + k * 6 + 1, none⟩ = some (.slice P np cp) ∧ w.cell? ⟨b, off + k * 6 + 2, none⟩ = some (.int .i64 x1) ∧ w.cell? ⟨b, off + k * 6 + 3, none⟩ = some (.int .i64 x2) ∧ w.cell? ⟨b, off + k * 6 + 4, none⟩ = some (.int .i64 x3) ∧ w.cell? ⟨b, off + k * 6 + 5, none⟩ = some (.int .i64 x4) ∧
      (w.frozen? ⟨b, off + k * 6, none⟩ = false ∧ w.frozen? ⟨b, off + k * 6 + 2, none⟩ = false ∧ w.frozen? ⟨b, off + k * 6 + 3, none⟩ = false ∧ w.frozen? ⟨b, off + k * 6 + 4, none⟩ = false ∧ w.frozen? ⟨b, off + k * 6 + 5, none⟩ = false) ∧ Tabs false true w lo hi P np pl ∧ Hid (pl = (l.getD k rl0).2.1) := by
  obtain ⟨b, off, e, h1, h2, h3⟩ := h.r.row dR_len rl0 h.len hk
  obtain ⟨u0, c0, z0, g0⟩ := h3 0 (by omega)
  obtain ⟨u1, c1, _, g1⟩ := h3 1 (by omega)
  obtain ⟨u2, c2, z2, g2⟩ := h3 2 (by omega)
  obtain ⟨u3, c3, z3, g3⟩ := h3 3 (by omega)
  obtain ⟨u4, c4, z4, g4⟩ := h3 4 (by omega)
  obtain ⟨u5, c5, z5, g5⟩ := h3 5 (by omega)
  obtain ⟨_, rfl⟩ := Rg.iS (x := (l.getD k rl0).1) g0
  obtain ⟨_, rfl⟩ := Rg.iS (x := (l.getD k rl0).2.2.1) g2
  obtain ⟨_, rfl⟩ := Rg.iS (x := (l.getD k rl0).2.2.2.1) g3
  obtain ⟨_, rfl⟩ := Rg.iS (x := (l.getD k rl0).2.2.2.2.1) g4
  obtain ⟨_, rfl⟩ := Rg.iS (x := (l.getD k rl0).2.2.2.2.2) g5
  obtain ⟨P, cp, rfl, gp⟩ := Rg.sl (n := (l.getD k rl0).2.1.length) (ds := (l.getD k rl0).2.1.flatMap dT) g1
  exact ⟨b, off, _, P, _, cp, _, _, _, _, _, e, h1, h2, c0, c1, c2, c3, c4, c5, ⟨z0 rfl, z2 rfl, z3 rfl, z4 rfl, z5 rfl⟩, ⟨gp, rfl, (h.sm k).1, (h.sm k).2⟩, rfl⟩
end
def szRl (r : RL) : Nat := r.2.1.length + tsz r.2.1 r.2.1.length
theorem szL_dR (r : RL) : szL (dR r) = szRl r := by
  simp [dR, szL, szD, szRl]
  unfold tsz; rw [szR_all]
def rlsz (l : List RL) : Nat → Nat := szR dR l
theorem rlsz_zero (l : List RL) : rlsz l 0 = 0 := szR_zero dR l
theorem rlsz_succ {l : List RL} {k : Nat} (h : k < l.length) : rlsz l (k + 1) = rlsz l k + szRl (l.getD k rl0) := by unfold rlsz; rw [szR_succ dR rl0 l k h, szL_dR]
theorem rlsz_mono {l : List RL} {i j : Nat} (h : i ≤ j) (hj : j ≤ l.length) : rlsz l i ≤ rlsz l j := szR_mono dR rl0 l h hj
theorem rlsz_at {l : List RL} {n : Nat} (hl : l.length = n) (j : Nat) : szRl (l.getD j rl0) ≤ rlsz l n := by
  rcases Nat.lt_or_ge j n with h | h
  · have h1 := rlsz_succ (l := l) (k := j) (by omega)
    have h2 := rlsz_mono (l := l) (i := j + 1) (j := n) (by omega) (by omega)
    omega
  · rw [getD_out (by omega)]; simp [szRl, rl0, tsz_zero]
/-- Releases that came in. -/
structure RelsArg (w : World) (A : Option Addr) (n : Nat) (l : List RL) : Prop where
  r : RgS true false w 0 w.heap.size A n (l.flatMap dR)
  len : l.length = n
  le : n ≤ maxLen
  sm : ∀ j, (l.getD j rl0).2.1.length ≤ maxLen ∧ ∀ i, ((l.getD j rl0).2.1.getD i t0).2.1.length ≤ maxLen ∧ ((l.getD j rl0).2.1.getD i t0).2.2.1.length ≤ maxLen
theorem RelsArg.keeps {w w' : World} {A : Option Addr} {n : Nat} {l : List RL} (h : RelsArg w A n l) (k : Keeps w w') : RelsArg w' A n l := ⟨(h.r.keeps k).widen (Nat.le_refl _) k.size (Nat.le_refl _), h.len, h.le, h.sm⟩
theorem RelsArg.rels {w : World} {A : Option Addr} {n : Nat} {l : List RL} (h : RelsArg w A n l) (hs : n + rlsz l n ≤ 67108864) : Rels true false w 0 w.heap.size A n l :=
  ⟨h.r, h.len, by omega, fun j => by
    have h1 := rlsz_at h.len j
    unfold szRl at h1
    refine ⟨by omega, fun i => ?_⟩
    have h2 := tsz_at (l := (l.getD j rl0).2.1) rfl i
    unfold szT at h2
    exact ⟨by omega, by omega⟩⟩
theorem RelsArg.at_ {w : World} {A : Option Addr} {n k : Nat} {l : List RL} (h : RelsArg w A n l) (hk : k < n) :
    ∃ b off v P np cp x1 x2 x3 x4 pl, A = some ⟨b, off, none⟩ ∧ b < w.heap.size ∧ w.cell? ⟨b, off + k * 6, none⟩ = some (.int .i64 v) ∧ w.cell? ⟨b, off + k * 6 + 1, none⟩ = some (.slice P np cp) ∧ w.cell? ⟨b, off + k * 6 + 2, none⟩ = some (.int .i64 x1) ∧ w.cell? ⟨b, off + k * 6 + 3, none⟩ = some (.int .i64 x2) ∧ w.cell? ⟨b, off + k * 6 + 4, none⟩ = some (.int .i64 x3) ∧ w.cell? ⟨b, off + k * 6 + 5, none⟩ = some (.int .i64 x4) ∧ TabsArg w P np pl ∧ Hid (szRl (l.getD k rl0) = np + tsz pl np) := by
  obtain ⟨b, off, e, h1, h2, h3⟩ := h.r.row dR_len rl0 h.len hk
  obtain ⟨u0, c0, _, g0⟩ := h3 0 (by omega)
  obtain ⟨u1, c1, _, g1⟩ := h3 1 (by omega)
  obtain ⟨u2, c2, _, g2⟩ := h3 2 (by omega)
  obtain ⟨u3, c3, _, g3⟩ := h3 3 (by omega)
  obtain ⟨u4, c4, _, g4⟩ := h3 4 (by omega)
  obtain ⟨u5, c5, _, g5⟩ := h3 5 (by omega)
  obtain rfl := Rg.i_ (x := (l.getD k rl0).1) g0
  obtain rfl := Rg.i_ (x := (l.getD k rl0).2.2.1) g2
  obtain rfl := Rg.i_ (x := (l.getD k rl0).2.2.2.1) g3
  obtain rfl := Rg.i_ (x := (l.getD k rl0).2.2.2.2.1) g4
  obtain rfl := Rg.i_ (x := (l.getD k rl0).2.2.2.2.2) g5
  obtain ⟨P, cp, rfl, gp⟩ := Rg.sl (n := (l.getD k rl0).2.1.length) (ds := (l.getD k rl0).2.1.flatMap dT) g1
  exact ⟨b, off, _, P, _, cp, _, _, _, _, _, e, h2, c0, c1, c2, c3, c4, c5, ⟨gp, rfl, (h.sm k).1, (h.sm k).2⟩, rfl⟩
/-- A table that came in. -/
def TabArg (w : World) (A : Option Addr) (n : Nat) (l : List Int) (B : Option Addr) (m : Nat) (l' : List Int) : Prop :=
  n ≤ maxLen ∧ m ≤ maxLen ∧ (n + m ≤ 67108864 → Ints w 0 w.heap.size A n l ∧ Ints w 0 w.heap.size B m l')
/-- The two slices of a table. -/
structure IntsPair (w : World) (L U : Nat) (A : Option Addr) (n : Nat) (l : List Int) (B : Option Addr) (m : Nat) (l' : List Int) : Prop where
  a' : Mine w L U A n l
  b' : Mine w L U B m l'
theorem IntsPair.a {w : World} {L U n m : Nat} {A B : Option Addr} {l l' : List Int} (h : IntsPair w L U A n l B m l') : Ints w L U A n l := h.a'.1
theorem IntsPair.b {w : World} {L U n m : Nat} {A B : Option Addr} {l l' : List Int} (h : IntsPair w L U A n l B m l') : Ints w L U B m l' := h.b'.1
theorem IntsPair.keeps {w w' : World} {L U n m : Nat} {A B : Option Addr} {l l' : List Int} (h : IntsPair w L U A n l B m l') (k : Keeps w w') : IntsPair w' L U A n l B m l' := ⟨h.a'.keeps k, h.b'.keeps k⟩
theorem IntsPair.widen {w : World} {L U L' U' n m : Nat} {A B : Option Addr} {l l' : List Int} (h : IntsPair w L U A n l B m l') (h1 : L' ≤ L) (h2 : U ≤ U') (h3 : U' ≤ w.heap.size) : IntsPair w L' U' A n l B m l' := ⟨h.a'.widen h1 h2 h3, h.b'.widen h1 h2 h3⟩
theorem TabArg.ok {w : World} {A B : Option Addr} {n m : Nat} {l l' : List Int} (h : TabArg w A n l B m l') (hs : n + m ≤ 67108864) : Ints w 0 w.heap.size A n l ∧ Ints w 0 w.heap.size B m l' := h.2.2 hs
/-- Rows of a kind. -/
theorem rows_of {α : Type} {f : α → List D} {ks : List K} {P : α → Prop} (H : ∀ r, HkL ks r → ∃ a, r = f a ∧ P a) : ∀ rows : List (List D), (∀ r, r ∈ rows → HkL ks r) → ∃ l : List α, rows.flatten = l.flatMap f ∧ l.length = rows.length ∧ ∀ a, a ∈ l → P a
  | [], _ => ⟨[], rfl, rfl, fun a h => by simp at h⟩
  | r :: rows, h => by
    obtain ⟨l, h1, h2, h3⟩ := rows_of H rows (fun r hr => h r (by simp [hr]))
    obtain ⟨a, rfl, ha⟩ := H r (h r (by simp))
    exact ⟨a :: l, by simp [h1], by simp [h2], fun b hb => by
      rcases List.mem_cons.1 hb with rfl | hb
      · exact ha
      · exact h3 b hb⟩
theorem all_getD {α : Type} {P : α → Prop} {l : List α} {z : α} (h : ∀ a, a ∈ l → P a) (hz : P z) (j : Nat) : P (l.getD j z) := by
  rcases Nat.lt_or_ge j l.length with hj | hj
  · simp only [List.getD, List.getElem?_eq_getElem hj, Option.getD_some]; exact h _ (List.getElem_mem hj)
  · rw [getD_out hj]; exact hz
def okT (t : TT) : Prop := t.2.1.length ≤ maxLen ∧ t.2.2.1.length ≤ maxLen
def okR (r : RL) : Prop := r.2.1.length ≤ maxLen ∧ ∀ a, a ∈ r.2.1 → okT a
theorem Hk.ints_ {d : D} (h : Hk (.sl [.i]) d) : ∃ xs : List Int, d = .sl xs.length (xs.map D.i) ∧ xs.length ≤ maxLen := by
  obtain ⟨m, rw', rfl, q1, q2, q3⟩ := h.inv_sl
  obtain ⟨zs, e1, e2, e3⟩ := rows_ints rw' q3
  obtain rfl : zs.length = m := by omega
  exact ⟨zs, by rw [e1], q1⟩
theorem HkL.tab {r : List D} (h : HkL [.i, .sl [.i], .sl [.i], .i] r) : ∃ t : TT, r = dT t ∧ okT t := by
  obtain ⟨d1, ds1, rfl, g1, h1⟩ := h.inv
  obtain ⟨d2, ds2, rfl, g2, h2⟩ := h1.inv
  obtain ⟨d3, ds3, rfl, g3, h3⟩ := h2.inv
  obtain ⟨d4, ds4, rfl, g4, h4⟩ := h3.inv
  obtain rfl := h4.inv0
  obtain ⟨x, rfl, hx⟩ := g1.inv_i
  obtain ⟨y, rfl, hy⟩ := g4.inv_i
  obtain ⟨vs, rfl, hv⟩ := g2.ints_
  obtain ⟨ws, rfl, hw⟩ := g3.ints_
  exact ⟨(x, vs, ws, y), rfl, hv, hw⟩
theorem Hk.tabs {d : D} (h : Hk (.sl [.i, .sl [.i], .sl [.i], .i]) d) : ∃ l : List TT, d = .sl l.length (l.flatMap dT) ∧ l.length ≤ maxLen ∧ ∀ a, a ∈ l → okT a := by
  obtain ⟨n, rows, rfl, h1, h2, h3⟩ := h.inv_sl
  obtain ⟨l, e1, e2, e3⟩ := rows_of (f := dT) (fun r hr => hr.tab) rows h3
  obtain rfl : l.length = n := by omega
  exact ⟨l, by rw [e1], h1, e3⟩
theorem HkL.rel {r : List D} (h : HkL [.i, .sl [.i, .sl [.i], .sl [.i], .i], .i, .i, .i, .i] r) : ∃ t : RL, r = dR t ∧ okR t := by
  obtain ⟨d1, ds1, rfl, g1, h1⟩ := h.inv
  obtain ⟨d2, ds2, rfl, g2, h2⟩ := h1.inv
  obtain ⟨d3, ds3, rfl, g3, h3⟩ := h2.inv
  obtain ⟨d4, ds4, rfl, g4, h4⟩ := h3.inv
  obtain ⟨d5, ds5, rfl, g5, h5⟩ := h4.inv
  obtain ⟨d6, ds6, rfl, g6, h6⟩ := h5.inv
  obtain rfl := h6.inv0
  obtain ⟨x, rfl, hx⟩ := g1.inv_i
  obtain ⟨y1, rfl, hy1⟩ := g3.inv_i
  obtain ⟨y2, rfl, hy2⟩ := g4.inv_i
  obtain ⟨y3, rfl, hy3⟩ := g5.inv_i
  obtain ⟨y4, rfl, hy4⟩ := g6.inv_i
  obtain ⟨l, rfl, hl, ha⟩ := g2.tabs
  exact ⟨(x, l, y1, y2, y3, y4), rfl, hl, ha⟩
theorem Hk.rels {d : D} (h : Hk (.sl [.i, .sl [.i, .sl [.i], .sl [.i], .i], .i, .i, .i, .i]) d) : ∃ l : List RL, d = .sl l.length (l.flatMap dR) ∧ l.length ≤ maxLen ∧ ∀ a, a ∈ l → okR a := by
  obtain ⟨n, rows, rfl, h1, h2, h3⟩ := h.inv_sl
  obtain ⟨l, e1, e2, e3⟩ := rows_of (f := dR) (fun r hr => hr.rel) rows h3
  obtain rfl : l.length = n := by omega
  exact ⟨l, by rw [e1], h1, e3⟩
theorem tabsArg_of {w : World} {l : List TT} {v : Value} (h : Rd w 0 w.heap.size (.sl l.length (l.flatMap dT)) v) (hn : l.length ≤ maxLen) (ha : ∀ a, a ∈ l → okT a) : ∃ A c, v = .slice A l.length c ∧ TabsArg w A l.length l := by
  obtain ⟨A, c, e, hr⟩ := (Rd.rg _ _ h).sl
  exact ⟨A, c, e, hr, rfl, hn, fun j => all_getD ha (by simp [okT, t0]) j⟩
theorem relsArg_of {w : World} {l : List RL} {v : Value} (h : Rd w 0 w.heap.size (.sl l.length (l.flatMap dR)) v) (hn : l.length ≤ maxLen) (ha : ∀ a, a ∈ l → okR a) : ∃ A c, v = .slice A l.length c ∧ RelsArg w A l.length l := by
  obtain ⟨A, c, e, hr⟩ := (Rd.rg _ _ h).sl
  refine ⟨A, c, e, hr, rfl, hn, fun j => ?_⟩
  have h1 := all_getD ha (z := rl0) (by simp [okR, rl0]) j
  exact ⟨h1.1, fun i => all_getD h1.2 (by simp [okT, t0]) i⟩
section
variable {H : Type} {enc : TypeId × Value → H} {w : World} {held : Bool}
theorem kinds_tabs : kinds Tryz.prog 5 71 = some [.sl [.i, .sl [.i], .sl [.i], .i]] := by kernel_rfl
set_option maxRecDepth 100000 in
theorem open_arg_tabs {r : Reach} {b0 : Nat} {v : Value} {d : DataW H} {p : List MemPlace} (hv : Value.okWide Tryz.prog w r b0 71 v) (h : DataW.Trod enc Tryz.prog w 0 (fun _ => true) held 71 v d p) :
    ∃ A n c l, v = .slice A n c ∧ TabsArg w A n l := by
  obtain ⟨A, n, c, rfl⟩ := okWide_slice Tryz.underlying71 hv
  obtain ⟨fuel, hf⟩ := h
  obtain ⟨ds, g1, g2⟩ := open_data 5 fuel _ _ _ _ kinds_tabs hf
  obtain ⟨d1, ds, rfl, k1, g1⟩ := g1.inv
  obtain rfl := g1.inv0
  have g3 : RdV w 0 w.heap.size [d1] [.slice A n c] := g2
  obtain ⟨l, rfl, hl, ha⟩ := k1.tabs
  obtain ⟨A', c', e, hA⟩ := tabsArg_of g3.1 hl ha
  exact ⟨A', _, c', l, e, hA⟩
theorem kinds_rels : kinds Tryz.prog 7 26 = some [.sl [.i, .sl [.i, .sl [.i], .sl [.i], .i], .i, .i, .i, .i]] := by kernel_rfl
set_option maxRecDepth 100000 in
theorem open_arg_rels {r : Reach} {b0 : Nat} {v : Value} {d : DataW H} {p : List MemPlace} (hv : Value.okWide Tryz.prog w r b0 26 v) (h : DataW.Trod enc Tryz.prog w 0 (fun _ => true) held 26 v d p) :
    ∃ A n c l, v = .slice A n c ∧ RelsArg w A n l := by
  obtain ⟨A, n, c, rfl⟩ := okWide_slice Tryz.underlying26 hv
  obtain ⟨fuel, hf⟩ := h
  obtain ⟨ds, g1, g2⟩ := open_data 7 fuel _ _ _ _ kinds_rels hf
  obtain ⟨d1, ds, rfl, k1, g1⟩ := g1.inv
  obtain rfl := g1.inv0
  have g3 : RdV w 0 w.heap.size [d1] [.slice A n c] := g2
  obtain ⟨l, rfl, hl, ha⟩ := k1.rels
  obtain ⟨A', c', e, hA⟩ := relsArg_of g3.1 hl ha
  exact ⟨A', _, c', l, e, hA⟩
theorem kinds_rel : kinds Tryz.prog 7 76 = some [.i, .sl [.i, .sl [.i], .sl [.i], .i], .i, .i, .i, .i] := by kernel_rfl
set_option maxRecDepth 100000 in
theorem open_arg_rel {r : Reach} {b0 : Nat} {v : Value} {d : DataW H} {p : List MemPlace} (hv : Value.okWide Tryz.prog w r b0 76 v) (h : DataW.Trod enc Tryz.prog w 0 (fun _ => true) held 76 v d p) :
    ∃ x A n c l a1 a2 a3 a4, v = .agg #[.int .i64 x, .slice A n c, .int .i64 a1, .int .i64 a2, .int .i64 a3, .int .i64 a4] ∧ TabsArg w A n l := by
  obtain ⟨cs, rfl, hsz⟩ := okWide_struct Tryz.underlying76 hv
  obtain ⟨fuel, hf⟩ := h
  obtain ⟨ds, g1, g2⟩ := open_data 7 fuel _ _ _ _ kinds_rel hf
  obtain ⟨t, rfl, ht⟩ := g1.rel
  obtain ⟨l⟩ := cs
  have g2' : RdV w 0 w.heap.size [.i t.1, .sl t.2.1.length (t.2.1.flatMap dT), .i t.2.2.1, .i t.2.2.2.1, .i t.2.2.2.2.1, .i t.2.2.2.2.2] l := g2
  match l, g2' with
  | [v1, v2, v3, v4, v5, v6], g2 =>
    obtain ⟨r1, r2, r3, r4, r5, r6, _⟩ := g2
    unfold Rd at r1 r3 r4 r5 r6
    subst r1 r3 r4 r5 r6
    obtain ⟨A, c, rfl, hA⟩ := tabsArg_of r2 ht.1 ht.2
    exact ⟨_, A, _, c, _, _, _, _, _, rfl, hA⟩
theorem kinds_tab : kinds Tryz.prog 5 142 = some [.i, .sl [.i], .sl [.i], .i] := by kernel_rfl
set_option maxRecDepth 100000 in
theorem open_arg_tab {r : Reach} {b0 : Nat} {v : Value} {d : DataW H} {p : List MemPlace} (hv : Value.okWide Tryz.prog w r b0 142 v) (h : DataW.Trod enc Tryz.prog w 0 (fun _ => true) held 142 v d p) :
    ∃ x A n c l B m e l' s, v = .agg #[.int .i64 x, .slice A n c, .slice B m e, .int .i64 s] ∧ TabArg w A n l B m l' := by
  obtain ⟨cs, rfl, hsz⟩ := okWide_struct Tryz.underlying142 hv
  obtain ⟨fuel, hf⟩ := h
  obtain ⟨ds, g1, g2⟩ := open_data 5 fuel _ _ _ _ kinds_tab hf
  obtain ⟨t, rfl, ht⟩ := g1.tab
  obtain ⟨l⟩ := cs
  have g2' : RdV w 0 w.heap.size [.i t.1, .sl t.2.1.length (t.2.1.map D.i), .sl t.2.2.1.length (t.2.2.1.map D.i), .i t.2.2.2] l := g2
  match l, g2' with
  | [v1, v2, v3, v4], g2 =>
    obtain ⟨r1, r2, r3, r4, _⟩ := g2
    unfold Rd at r1 r4
    subst r1 r4
    obtain ⟨A, c, rfl, hA⟩ := (Rd.rg _ _ r2).sl
    obtain ⟨B, e, rfl, hB⟩ := (Rd.rg _ _ r3).sl
    exact ⟨_, A, _, c, _, B, _, e, _, _, rfl, ht.1, ht.2, fun hn => ⟨hA.ints rfl (by omega), hB.ints rfl (by omega)⟩⟩
theorem kinds_loss : kinds Tryz.prog 5 74 = some [.i, .i, .i, .i] := by kernel_rfl
set_option maxRecDepth 100000 in
theorem open_arg_loss {r : Reach} {b0 : Nat} {v : Value} {d : DataW H} {p : List MemPlace} (hv : Value.okWide Tryz.prog w r b0 74 v) (h : DataW.Trod enc Tryz.prog w 0 (fun _ => true) held 74 v d p) :
    ∃ a1 a2 a3 a4, v = .agg #[.int .i64 a1, .int .i64 a2, .int .i64 a3, .int .i64 a4] ∧ True := by
  obtain ⟨cs, rfl, hsz⟩ := okWide_struct Tryz.underlying74 hv
  obtain ⟨fuel, hf⟩ := h
  obtain ⟨ds, g1, g2⟩ := open_data 5 fuel _ _ _ _ kinds_loss hf
  obtain ⟨d1, ds, rfl, k1, g1⟩ := g1.inv
  obtain ⟨d2, ds, rfl, k2, g1⟩ := g1.inv
  obtain ⟨d3, ds, rfl, k3, g1⟩ := g1.inv
  obtain ⟨d4, ds, rfl, k4, g1⟩ := g1.inv
  obtain rfl := g1.inv0
  obtain ⟨l⟩ := cs
  match l, g2 with
  | [v1, v2, v3, v4], g2 =>
    obtain ⟨r1, r2, r3, r4, _⟩ := g2
    obtain ⟨x1, rfl, _⟩ := k1.inv_i
    obtain ⟨x2, rfl, _⟩ := k2.inv_i
    obtain ⟨x3, rfl, _⟩ := k3.inv_i
    obtain ⟨x4, rfl, _⟩ := k4.inv_i
    unfold Rd at r1 r2 r3 r4
    subst r1 r2 r3 r4
    exact ⟨_, _, _, _, rfl, trivial⟩
end
end Go.Proofs.YtlkjhkkfdmjfcaaGreatDoor
