/- What the proof of the statement leans on, part 13: walks of functions and plain lemmas, with no condition. -/
import Derived.Test.YtlkjhkkfdmjfcaaGreatDoorQ11
namespace Go.Proofs.YtlkjhkkfdmjfcaaGreatDoor
open Go.RowKit Go.Sort Go.Deep
set_option linter.unusedVariables false
set_option linter.unusedSimpArgs false
/-- What DrawIsRelease leaves. -/
def DrawsIr (w : World) (e : Ending) (w' : World) : Prop :=
  ∃ A N C ps S q cq l v P n c x1 x2 x3 x4 ts, e = .returned (.tuple #[.agg #[.slice A N C], .slice S q cq, .agg #[.int .i64 v, .slice P n c, .int .i64 x1, .int .i64 x2, .int .i64 x3, .int .i64 x4]]) ∧ Ints w' w.heap.size w'.heap.size A N ps ∧ N ≤ 45 ∧ Vars w' w.heap.size w'.heap.size S q l ∧ (q ≤ cq ∧ cq ≤ maxLen) ∧ SchD l ∧ Tabs true false w' w.heap.size w'.heap.size P n ts ∧ Keeps w w'
/-- What DrawPlanChanges leaves. -/
def DrawsPc (w : World) (e : Ending) (w' : World) : Prop :=
  ∃ A N C ps S q cq l v P n c x1 x2 x3 x4 ts v' P' n' c' y1 y2 y3 y4 us, e = .returned (.tuple #[.agg #[.slice A N C], .slice S q cq, .agg #[.int .i64 v, .slice P n c, .int .i64 x1, .int .i64 x2, .int .i64 x3, .int .i64 x4], .agg #[.int .i64 v', .slice P' n' c', .int .i64 y1, .int .i64 y2, .int .i64 y3, .int .i64 y4]]) ∧ Ints w' w.heap.size w'.heap.size A N ps ∧ N ≤ 45 ∧ Vars w' w.heap.size w'.heap.size S q l ∧ (q ≤ cq ∧ cq ≤ maxLen) ∧ SchD l ∧ Tabs true false w' w.heap.size w'.heap.size P n ts ∧ Tabs true false w' w.heap.size w'.heap.size P' n' us ∧ Keeps w w'
theorem tabs_none (w : World) (lo : Nat) : Tabs true false w lo w.heap.size none 0 [] := ⟨⟨Nat.le_refl _, fun h => absurd h (by simp)⟩, rfl, by omega, fun j => ⟨by simp [List.getD, t0], by simp [List.getD, t0]⟩⟩
theorem GrowR.lowQ {α : Type} {sz : Nat} {z : α} {R : RowP α} {w : World} {m m' B E : Nat} {v : Value} {cs : List Value} {L U : Nat → Nat} {l : List α} (h : GrowR sz z R w m B E v cs L U l) (hm : m' ≤ m) : GrowR sz z R w m' B E v cs L U l :=
  ⟨h.has, Nat.le_trans hm h.mB, fun j hj => ⟨Nat.le_trans hm (h.iv j hj).1, (h.iv j hj).2⟩, h.row⟩
theorem fr_belowQ {B : Nat} {w w' : World} (k : Below B w w') : Fr B w.heap.size w w' := ⟨k.os, k.tape, k.output, k.size, fun i hi ho => k.block i (by omega)⟩
/-- Rows that lie below a block. -/
def RwU {α : Type} (R : RowP α) (p : Nat) : RowP α := fun w lo hi u t => R w lo hi u t ∧ hi ≤ p
theorem RwU.ok {α : Type} {R : RowP α} {p : Nat} (ok : RwOk R) : RwOk (RwU R p) := fun w w' lo hi u t h s => ⟨ok _ _ _ _ _ _ h.1 s, h.2⟩
theorem GrowR.cap {α : Type} {sz : Nat} {z : α} {R : RowP α} {w : World} {m B E p : Nat} {v : Value} {cs : List Value} {L U : Nat → Nat} {l : List α} (h : GrowR sz z R w m B E v cs L U l) (hp : w.heap.size ≤ p) : GrowR sz z (RwU R p) w m B E v cs L U l :=
  ⟨h.has, h.mB, h.iv, fun j hj => by obtain ⟨u, h1, h2⟩ := h.row j hj; exact ⟨u, h1, h2, Nat.le_trans (h.iv j hj).2.1 hp⟩⟩
theorem GrowR.uncap {α : Type} {sz : Nat} {z : α} {R : RowP α} {w : World} {m B E p : Nat} {v : Value} {cs : List Value} {L U : Nat → Nat} {l : List α} (h : GrowR sz z (RwU R p) w m B E v cs L U l) : GrowR sz z R w m B E v cs L U l :=
  ⟨h.has, h.mB, h.iv, fun j hj => by obtain ⟨u, h1, h2⟩ := h.row j hj; exact ⟨u, h1, h2.1⟩⟩
theorem GrowR.stow {α : Type} {sz : Nat} {z : α} {R : RowP α} {w : World} {m B E p i : Nat} {v x : Value} {cs : List Value} {L U : Nat → Nat} {l : List α} (h : GrowR sz z (RwU R p) w m B E v cs L U l) (ok : RwOk R) (hne : v.ownBlock ≠ some p) : GrowR sz z R (w.setCell ⟨p, i, none⟩ x) m B E v cs L U l := by
  refine ⟨⟨h.has.1, ?_⟩, h.mB, fun j hj => by simpa [World.setCell] using h.iv j hj, fun j hj => ?_⟩
  · rcases h.has.2 with h3 | ⟨g', cap, cur, hv, hb, hh, rest⟩
    · exact .inl h3
    · exact .inr ⟨g', cap, cur, hv, hb, (Below.heap_setCell w ⟨p, i, none⟩ x g' (fun e => hne (by rw [hv]; exact congrArg some e))).trans hh, rest⟩
  · obtain ⟨u, h1, h2, h3⟩ := h.row j hj
    exact ⟨u, h1, ok _ _ _ _ _ _ h2 (SmB.of_fr (fr_one (p := p) (i := i) x) (h.iv j hj).2.1 (by omega))⟩
set_option maxRecDepth 100000 in
set_option maxHeartbeats 3200000 in
theorem DrawIsRelease_any {A : Option Addr} {hi n c : Nat} {w : World} (hb : Bytes w hi A n) :
    Calls Tryz.prog 45 #[.slice A n c] w (DrawsIr w) := by
  go_enter Tryz.func45, Tryz.ntmps45
  have kw := keeps_refl w
  replace kw := Keeps.trans kw (keeps_alloc w (.cells #[.slice none 0 0] 32))
  have b2 : Bl (w.alloc (.cells #[.slice none 0 0] 32)) (w.heap.size) [.slice none 0 0] := Bl.new' (by simp) (by simp)
  replace b2 := b2.keeps (keeps_alloc (w.alloc (.cells #[.slice none 0 0] 32)) (.cells #[.int .i64 0, .slice none 0 0, .int .i64 0, .int .i64 0, .int .i64 0, .int .i64 0] 50))
  replace kw := Keeps.trans kw (keeps_alloc (w.alloc (.cells #[.slice none 0 0] 32)) (.cells #[.int .i64 0, .slice none 0 0, .int .i64 0, .int .i64 0, .int .i64 0, .int .i64 0] 50))
  have b4 : Bl ((w.alloc (.cells #[.slice none 0 0] 32)).alloc (.cells #[.int .i64 0, .slice none 0 0, .int .i64 0, .int .i64 0, .int .i64 0, .int .i64 0] 50)) (w.heap.size + 1) [.int .i64 0, .slice none 0 0, .int .i64 0, .int .i64 0, .int .i64 0, .int .i64 0] := Bl.new' (by simp) (by simp)
  have hc := Cur.new (t := 99) (c := c) (hb.keeps kw)
  rw [show ((w.alloc (.cells #[.slice none 0 0] 32)).alloc (.cells #[.int .i64 0, .slice none 0 0, .int .i64 0, .int .i64 0, .int .i64 0, .int .i64 0] 50)).heap.size = w.heap.size + 1 + 1 by simp] at hc
  replace b2 := b2.keeps (keeps_alloc ((w.alloc (.cells #[.slice none 0 0] 32)).alloc (.cells #[.int .i64 0, .slice none 0 0, .int .i64 0, .int .i64 0, .int .i64 0, .int .i64 0] 50)) (.cells #[.slice A n c, .int .i64 0, .int .u64 0] 99))
  replace b4 := b4.keeps (keeps_alloc ((w.alloc (.cells #[.slice none 0 0] 32)).alloc (.cells #[.int .i64 0, .slice none 0 0, .int .i64 0, .int .i64 0, .int .i64 0, .int .i64 0] 50)) (.cells #[.slice A n c, .int .i64 0, .int .u64 0] 99))
  replace kw := Keeps.trans kw (keeps_alloc ((w.alloc (.cells #[.slice none 0 0] 32)).alloc (.cells #[.int .i64 0, .slice none 0 0, .int .i64 0, .int .i64 0, .int .i64 0, .int .i64 0] 50)) (.cells #[.slice A n c, .int .i64 0, .int .u64 0] 99))
  have hbW := hb.keeps kw
  have E0 := hid (show (((w.alloc (.cells #[.slice none 0 0] 32)).alloc (.cells #[.int .i64 0, .slice none 0 0, .int .i64 0, .int .i64 0, .int .i64 0, .int .i64 0] 50)).alloc (.cells #[.slice A n c, .int .i64 0, .int .u64 0] 99)).heap.size = w.heap.size + 3 by simp)
  go_wp2_with fail
  refine (anySurvey_any hc (by omega)).mono ?_
  rintro e w1 ⟨A1, N1, C1, ps, S1, q, cq, l, D1, nd, cd, rfl, iG, hN, iS, hcap, hSD, hc1, ff⟩
  have sf1 := ff.size
  rw [E0.out] at iG iS sf1
  replace kw : Keeps w w1 := below_fr kw kw.size (by omega) ff
  replace b2 := b2.fr ff (by omega)
  replace b4 := b4.fr ff (by omega)
  have HSD := hid hSD
  have HCAP := hid hcap
  clear hc ff hSD hcap E0 hbW
  have hc := hc1
  clear hc1
  replace b2 := b2.keeps (keeps_alloc w1 (.cells #[.slice A1 N1 C1] 32))
  replace b4 := b4.keeps (keeps_alloc w1 (.cells #[.slice A1 N1 C1] 32))
  replace hc := hc.keeps (keeps_alloc w1 (.cells #[.slice A1 N1 C1] 32))
  replace iG := iG.keeps (keeps_alloc w1 (.cells #[.slice A1 N1 C1] 32))
  replace iS := iS.keeps (keeps_alloc w1 (.cells #[.slice A1 N1 C1] 32))
  replace kw := Keeps.trans kw (keeps_alloc w1 (.cells #[.slice A1 N1 C1] 32))
  have b9 : Bl (w1.alloc (.cells #[.slice A1 N1 C1] 32)) w1.heap.size [.slice A1 N1 C1] := Bl.new' (by simp) (by simp)
  go_wp2_with fail
  obtain ⟨w2, hX⟩ : ∃ u : World, u = w1.alloc (.cells #[.slice A1 N1 C1] 32) := ⟨_, rfl⟩
  have szX := hid (show w2.heap.size = w1.heap.size + 1 by rw [hX]; simp)
  rw [← hX] at b2
  rw [← hX] at b4
  rw [← hX] at hc
  rw [← hX] at iG
  rw [← hX] at iS
  rw [← hX] at kw
  rw [← hX] at b9
  rw [← hX]
  clear hX
  have sX := szX.out
  refine (history_any (a := N1) (c0 := C1) hc (by omega) iG (by omega) iS (by omega) HSD.out).mono ?_
  rintro e w3 ⟨R, n7, cr, cs, L, U, rs, rfl, hR, hrl, hr14, hc3, ff⟩
  have s3 := ff.size
  replace kw : Keeps w w3 := below_fr kw kw.size (by omega) ff
  replace b2 := b2.fr ff (by omega)
  replace b4 := b4.fr ff (by omega)
  replace b9 := b9.fr ff (by omega)
  replace iG := iG.fr ff (by omega)
  replace iS := Sl.fr iS ff (by omega)
  clear hc ff
  have hc := hc3
  clear hc3
  obtain ⟨R8, cr8, eq8, hcr8, hRR⟩ := hR.rels (by omega) (by omega)
  injection eq8 with eq1 eq9 eq2
  subst eq1 eq2
  rw [hrl] at hRR hcr8
  clear eq9 hR hcr8
  by_cases h0 : n7 = 0
  · skip
    subst h0
    clear hRR
    have sD : w3.drew.heap.size = w3.heap.size := rfl
    have hcD := hc.keeps (keeps_d0 w3)
    have iGD := iG.keeps (keeps_d0 w3)
    have iSD := Sl.keeps iS (keeps_d0 w3)
    have kwD := Keeps.trans kw (keeps_d0 w3)
    have b2D := b2.keeps (keeps_d0 w3)
    have b4D := b4.keeps (keeps_d0 w3)
    have b9D := b9.keeps (keeps_d0 w3)
    have F0 := Fr.refl w.heap.size (w.heap.size + 3) w3.drew
    have cD : w3.drew.cell? ⟨w1.heap.size, 0, none⟩ = some (.slice A1 N1 C1) := (b9D.2 0 _ rfl).1
    clear hc b2 b4 b9 iG iS kw
    go_wp2_with fail
    go_region_held3 (fun w' => w'.cell? ⟨w1.heap.size, 0, none⟩ = some (.slice A1 N1 C1)) (first | with_reducible exact cD | with_reducible exact cA | with_reducible exact cB | with_reducible exact cF0 | with_reducible exact cF1 | with_reducible exact cF2 | with_reducible exact cF3 | with_reducible exact cF4 | with_reducible exact cF5 | with_reducible exact cF6 | go_keep)
      ((first | (go_at_call 76; refine (pick_any hcD (by omega) (by omega)).mono ?_; rintro e wA ⟨x0, rfl, hx0, hcA, fA⟩; have sA : _ ≤ wA.heap.size := fA.size; have FA := Fr.trans F0 (fA.widen (lo' := w.heap.size) (hi' := w.heap.size + 3) (by omega) (by omega)); have b2A := b2D.fr fA (by omega); have b4A := b4D.fr fA (by omega); have b9A := b9D.fr fA (by omega); have cA := (b9A.2 0 _ rfl).1) | (go_at_call 47; refine (loss_any hcA (by omega)).mono ?_; rintro e wB ⟨y1, y2, y3, y4, rfl, hcB, fB⟩; have sB : _ ≤ wB.heap.size := fB.size; have FB := Fr.trans FA (fB.widen (lo' := w.heap.size) (hi' := w.heap.size + 3) (by omega) (by omega)); have b2B := b2A.fr fB (by omega); have b4B := b4A.fr fB (by omega); have b9B := b9A.fr fB (by omega); have cB := (b9B.2 0 _ rfl).1; have zb2_0 := (b2B.2 0 _ rfl).1; have yb2_0 := (b2B.2 0 _ rfl).2; have zb4_0 := (b4B.2 0 _ rfl).1; have yb4_0 := (b4B.2 0 _ rfl).2; have zb4_1 := (b4B.2 1 _ rfl).1; have yb4_1 := (b4B.2 1 _ rfl).2; have zb4_2 := (b4B.2 2 _ rfl).1; have yb4_2 := (b4B.2 2 _ rfl).2; have zb4_3 := (b4B.2 3 _ rfl).1; have yb4_3 := (b4B.2 3 _ rfl).2; have zb4_4 := (b4B.2 4 _ rfl).1; have yb4_4 := (b4B.2 4 _ rfl).2; have zb4_5 := (b4B.2 5 _ rfl).1; have yb4_5 := (b4B.2 5 _ rfl).2; have cF0 := ((b9B.far (p := ⟨w.heap.size, 0, none⟩) (by show w1.heap.size ≠ w.heap.size; omega) (.slice A1 N1 C1)).2 0 _ rfl).1; have cF1 := (((b9B.far (p := ⟨w.heap.size, 0, none⟩) (by show w1.heap.size ≠ w.heap.size; omega) (.slice A1 N1 C1)).far (p := ⟨w.heap.size + 1, 0, none⟩) (by show w1.heap.size ≠ w.heap.size + 1; omega) (.int .i64 x0)).2 0 _ rfl).1; have cF2 := ((((b9B.far (p := ⟨w.heap.size, 0, none⟩) (by show w1.heap.size ≠ w.heap.size; omega) (.slice A1 N1 C1)).far (p := ⟨w.heap.size + 1, 0, none⟩) (by show w1.heap.size ≠ w.heap.size + 1; omega) (.int .i64 x0)).far (p := ⟨w.heap.size + 1, 1, none⟩) (by show w1.heap.size ≠ w.heap.size + 1; omega) (.slice none 0 0)).2 0 _ rfl).1; have cF3 := (((((b9B.far (p := ⟨w.heap.size, 0, none⟩) (by show w1.heap.size ≠ w.heap.size; omega) (.slice A1 N1 C1)).far (p := ⟨w.heap.size + 1, 0, none⟩) (by show w1.heap.size ≠ w.heap.size + 1; omega) (.int .i64 x0)).far (p := ⟨w.heap.size + 1, 1, none⟩) (by show w1.heap.size ≠ w.heap.size + 1; omega) (.slice none 0 0)).far (p := ⟨w.heap.size + 1, 2, none⟩) (by show w1.heap.size ≠ w.heap.size + 1; omega) (.int .i64 y1)).2 0 _ rfl).1; have cF4 := ((((((b9B.far (p := ⟨w.heap.size, 0, none⟩) (by show w1.heap.size ≠ w.heap.size; omega) (.slice A1 N1 C1)).far (p := ⟨w.heap.size + 1, 0, none⟩) (by show w1.heap.size ≠ w.heap.size + 1; omega) (.int .i64 x0)).far (p := ⟨w.heap.size + 1, 1, none⟩) (by show w1.heap.size ≠ w.heap.size + 1; omega) (.slice none 0 0)).far (p := ⟨w.heap.size + 1, 2, none⟩) (by show w1.heap.size ≠ w.heap.size + 1; omega) (.int .i64 y1)).far (p := ⟨w.heap.size + 1, 3, none⟩) (by show w1.heap.size ≠ w.heap.size + 1; omega) (.int .i64 y2)).2 0 _ rfl).1; have cF5 := (((((((b9B.far (p := ⟨w.heap.size, 0, none⟩) (by show w1.heap.size ≠ w.heap.size; omega) (.slice A1 N1 C1)).far (p := ⟨w.heap.size + 1, 0, none⟩) (by show w1.heap.size ≠ w.heap.size + 1; omega) (.int .i64 x0)).far (p := ⟨w.heap.size + 1, 1, none⟩) (by show w1.heap.size ≠ w.heap.size + 1; omega) (.slice none 0 0)).far (p := ⟨w.heap.size + 1, 2, none⟩) (by show w1.heap.size ≠ w.heap.size + 1; omega) (.int .i64 y1)).far (p := ⟨w.heap.size + 1, 3, none⟩) (by show w1.heap.size ≠ w.heap.size + 1; omega) (.int .i64 y2)).far (p := ⟨w.heap.size + 1, 4, none⟩) (by show w1.heap.size ≠ w.heap.size + 1; omega) (.int .i64 y3)).2 0 _ rfl).1; have cF6 := ((((((((b9B.far (p := ⟨w.heap.size, 0, none⟩) (by show w1.heap.size ≠ w.heap.size; omega) (.slice A1 N1 C1)).far (p := ⟨w.heap.size + 1, 0, none⟩) (by show w1.heap.size ≠ w.heap.size + 1; omega) (.int .i64 x0)).far (p := ⟨w.heap.size + 1, 1, none⟩) (by show w1.heap.size ≠ w.heap.size + 1; omega) (.slice none 0 0)).far (p := ⟨w.heap.size + 1, 2, none⟩) (by show w1.heap.size ≠ w.heap.size + 1; omega) (.int .i64 y1)).far (p := ⟨w.heap.size + 1, 3, none⟩) (by show w1.heap.size ≠ w.heap.size + 1; omega) (.int .i64 y2)).far (p := ⟨w.heap.size + 1, 4, none⟩) (by show w1.heap.size ≠ w.heap.size + 1; omega) (.int .i64 y3)).far (p := ⟨w.heap.size + 1, 5, none⟩) (by show w1.heap.size ≠ w.heap.size + 1; omega) (.int .i64 y4)).2 0 _ rfl).1)))
    have cS0 := cB
    have FZ := hid (Fr.setCell (Fr.setCell (Fr.setCell (Fr.setCell (Fr.setCell (Fr.setCell (Fr.setCell FB (p := ⟨w.heap.size, 0, none⟩) (by show w.heap.size ≤ w.heap.size; omega) (by show w.heap.size < w.heap.size + 3; omega) (.slice A1 N1 C1)) (p := ⟨w.heap.size + 1, 0, none⟩) (by show w.heap.size ≤ w.heap.size + 1; omega) (by show w.heap.size + 1 < w.heap.size + 3; omega) (.int .i64 x0)) (p := ⟨w.heap.size + 1, 1, none⟩) (by show w.heap.size ≤ w.heap.size + 1; omega) (by show w.heap.size + 1 < w.heap.size + 3; omega) (.slice none 0 0)) (p := ⟨w.heap.size + 1, 2, none⟩) (by show w.heap.size ≤ w.heap.size + 1; omega) (by show w.heap.size + 1 < w.heap.size + 3; omega) (.int .i64 y1)) (p := ⟨w.heap.size + 1, 3, none⟩) (by show w.heap.size ≤ w.heap.size + 1; omega) (by show w.heap.size + 1 < w.heap.size + 3; omega) (.int .i64 y2)) (p := ⟨w.heap.size + 1, 4, none⟩) (by show w.heap.size ≤ w.heap.size + 1; omega) (by show w.heap.size + 1 < w.heap.size + 3; omega) (.int .i64 y3)) (p := ⟨w.heap.size + 1, 5, none⟩) (by show w.heap.size ≤ w.heap.size + 1; omega) (by show w.heap.size + 1 < w.heap.size + 3; omega) (.int .i64 y4))
    have sZ : (((((((wB.setCell ⟨w.heap.size, 0, none⟩ (.slice A1 N1 C1)).setCell ⟨w.heap.size + 1, 0, none⟩ (.int .i64 x0)).setCell ⟨w.heap.size + 1, 1, none⟩ (.slice none 0 0)).setCell ⟨w.heap.size + 1, 2, none⟩ (.int .i64 y1)).setCell ⟨w.heap.size + 1, 3, none⟩ (.int .i64 y2)).setCell ⟨w.heap.size + 1, 4, none⟩ (.int .i64 y3)).setCell ⟨w.heap.size + 1, 5, none⟩ (.int .i64 y4)).heap.size = wB.heap.size := by simp [World.setCell]
    have Bb2 := hid (((((((b2B.set 0 (.slice A1 N1 C1)).far (p := ⟨w.heap.size + 1, 0, none⟩) (by show w.heap.size ≠ w.heap.size + 1; omega) (.int .i64 x0)).far (p := ⟨w.heap.size + 1, 1, none⟩) (by show w.heap.size ≠ w.heap.size + 1; omega) (.slice none 0 0)).far (p := ⟨w.heap.size + 1, 2, none⟩) (by show w.heap.size ≠ w.heap.size + 1; omega) (.int .i64 y1)).far (p := ⟨w.heap.size + 1, 3, none⟩) (by show w.heap.size ≠ w.heap.size + 1; omega) (.int .i64 y2)).far (p := ⟨w.heap.size + 1, 4, none⟩) (by show w.heap.size ≠ w.heap.size + 1; omega) (.int .i64 y3)).far (p := ⟨w.heap.size + 1, 5, none⟩) (by show w.heap.size ≠ w.heap.size + 1; omega) (.int .i64 y4))
    have Bb4 := hid (((((((b4B.far (p := ⟨w.heap.size, 0, none⟩) (by show w.heap.size + 1 ≠ w.heap.size; omega) (.slice A1 N1 C1)).set 0 (.int .i64 x0)).set 1 (.slice none 0 0)).set 2 (.int .i64 y1)).set 3 (.int .i64 y2)).set 4 (.int .i64 y3)).set 5 (.int .i64 y4))
    have sw : w3.drew.heap.size ≤ wB.heap.size := Nat.le_trans fA.size fB.size
    have KW := hid (show Keeps w (((((((wB.setCell ⟨w.heap.size, 0, none⟩ (.slice A1 N1 C1)).setCell ⟨w.heap.size + 1, 0, none⟩ (.int .i64 x0)).setCell ⟨w.heap.size + 1, 1, none⟩ (.slice none 0 0)).setCell ⟨w.heap.size + 1, 2, none⟩ (.int .i64 y1)).setCell ⟨w.heap.size + 1, 3, none⟩ (.int .i64 y2)).setCell ⟨w.heap.size + 1, 4, none⟩ (.int .i64 y3)).setCell ⟨w.heap.size + 1, 5, none⟩ (.int .i64 y4)) from below_fr kwD kwD.size (Nat.le_refl _) FZ.out)
    have HI9 := hid ((iGD.fr FZ.out (by omega)).widen (lo' := w.heap.size) (hi' := (((((((wB.setCell ⟨w.heap.size, 0, none⟩ (.slice A1 N1 C1)).setCell ⟨w.heap.size + 1, 0, none⟩ (.int .i64 x0)).setCell ⟨w.heap.size + 1, 1, none⟩ (.slice none 0 0)).setCell ⟨w.heap.size + 1, 2, none⟩ (.int .i64 y1)).setCell ⟨w.heap.size + 1, 3, none⟩ (.int .i64 y2)).setCell ⟨w.heap.size + 1, 4, none⟩ (.int .i64 y3)).setCell ⟨w.heap.size + 1, 5, none⟩ (.int .i64 y4)).heap.size) (by omega) (by omega) (Nat.le_refl _))
    have HV9 := hid (Sl.widen (lo' := w.heap.size) (hi' := (((((((wB.setCell ⟨w.heap.size, 0, none⟩ (.slice A1 N1 C1)).setCell ⟨w.heap.size + 1, 0, none⟩ (.int .i64 x0)).setCell ⟨w.heap.size + 1, 1, none⟩ (.slice none 0 0)).setCell ⟨w.heap.size + 1, 2, none⟩ (.int .i64 y1)).setCell ⟨w.heap.size + 1, 3, none⟩ (.int .i64 y2)).setCell ⟨w.heap.size + 1, 4, none⟩ (.int .i64 y3)).setCell ⟨w.heap.size + 1, 5, none⟩ (.int .i64 y4)).heap.size) (Sl.fr iSD FZ.out (by omega)) (by omega) (by omega) (Nat.le_refl _))
    have HT9 := hid (Tabs.wide (lo' := w.heap.size) (hi' := (((((((wB.setCell ⟨w.heap.size, 0, none⟩ (.slice A1 N1 C1)).setCell ⟨w.heap.size + 1, 0, none⟩ (.int .i64 x0)).setCell ⟨w.heap.size + 1, 1, none⟩ (.slice none 0 0)).setCell ⟨w.heap.size + 1, 2, none⟩ (.int .i64 y1)).setCell ⟨w.heap.size + 1, 3, none⟩ (.int .i64 y2)).setCell ⟨w.heap.size + 1, 4, none⟩ (.int .i64 y3)).setCell ⟨w.heap.size + 1, 5, none⟩ (.int .i64 y4)).heap.size) (tabs_none (((((((wB.setCell ⟨w.heap.size, 0, none⟩ (.slice A1 N1 C1)).setCell ⟨w.heap.size + 1, 0, none⟩ (.int .i64 x0)).setCell ⟨w.heap.size + 1, 1, none⟩ (.slice none 0 0)).setCell ⟨w.heap.size + 1, 2, none⟩ (.int .i64 y1)).setCell ⟨w.heap.size + 1, 3, none⟩ (.int .i64 y2)).setCell ⟨w.heap.size + 1, 4, none⟩ (.int .i64 y3)).setCell ⟨w.heap.size + 1, 5, none⟩ (.int .i64 y4)) w.heap.size) (by omega) (by omega) (Nat.le_refl _))
    have qb2_0 : (((((((wB.setCell ⟨w.heap.size, 0, none⟩ (.slice A1 N1 C1)).setCell ⟨w.heap.size + 1, 0, none⟩ (.int .i64 x0)).setCell ⟨w.heap.size + 1, 1, none⟩ (.slice none 0 0)).setCell ⟨w.heap.size + 1, 2, none⟩ (.int .i64 y1)).setCell ⟨w.heap.size + 1, 3, none⟩ (.int .i64 y2)).setCell ⟨w.heap.size + 1, 4, none⟩ (.int .i64 y3)).setCell ⟨w.heap.size + 1, 5, none⟩ (.int .i64 y4)).cell? ⟨w.heap.size, 0, none⟩ = some (.slice A1 N1 C1) := (Bb2.out.2 0 _ rfl).1
    have qb4_0 : (((((((wB.setCell ⟨w.heap.size, 0, none⟩ (.slice A1 N1 C1)).setCell ⟨w.heap.size + 1, 0, none⟩ (.int .i64 x0)).setCell ⟨w.heap.size + 1, 1, none⟩ (.slice none 0 0)).setCell ⟨w.heap.size + 1, 2, none⟩ (.int .i64 y1)).setCell ⟨w.heap.size + 1, 3, none⟩ (.int .i64 y2)).setCell ⟨w.heap.size + 1, 4, none⟩ (.int .i64 y3)).setCell ⟨w.heap.size + 1, 5, none⟩ (.int .i64 y4)).cell? ⟨w.heap.size + 1, 0, none⟩ = some (.int .i64 x0) := (Bb4.out.2 0 _ rfl).1
    have qb4_1 : (((((((wB.setCell ⟨w.heap.size, 0, none⟩ (.slice A1 N1 C1)).setCell ⟨w.heap.size + 1, 0, none⟩ (.int .i64 x0)).setCell ⟨w.heap.size + 1, 1, none⟩ (.slice none 0 0)).setCell ⟨w.heap.size + 1, 2, none⟩ (.int .i64 y1)).setCell ⟨w.heap.size + 1, 3, none⟩ (.int .i64 y2)).setCell ⟨w.heap.size + 1, 4, none⟩ (.int .i64 y3)).setCell ⟨w.heap.size + 1, 5, none⟩ (.int .i64 y4)).cell? ⟨w.heap.size + 1, 1, none⟩ = some (.slice none 0 0) := (Bb4.out.2 1 _ rfl).1
    have qb4_2 : (((((((wB.setCell ⟨w.heap.size, 0, none⟩ (.slice A1 N1 C1)).setCell ⟨w.heap.size + 1, 0, none⟩ (.int .i64 x0)).setCell ⟨w.heap.size + 1, 1, none⟩ (.slice none 0 0)).setCell ⟨w.heap.size + 1, 2, none⟩ (.int .i64 y1)).setCell ⟨w.heap.size + 1, 3, none⟩ (.int .i64 y2)).setCell ⟨w.heap.size + 1, 4, none⟩ (.int .i64 y3)).setCell ⟨w.heap.size + 1, 5, none⟩ (.int .i64 y4)).cell? ⟨w.heap.size + 1, 2, none⟩ = some (.int .i64 y1) := (Bb4.out.2 2 _ rfl).1
    have qb4_3 : (((((((wB.setCell ⟨w.heap.size, 0, none⟩ (.slice A1 N1 C1)).setCell ⟨w.heap.size + 1, 0, none⟩ (.int .i64 x0)).setCell ⟨w.heap.size + 1, 1, none⟩ (.slice none 0 0)).setCell ⟨w.heap.size + 1, 2, none⟩ (.int .i64 y1)).setCell ⟨w.heap.size + 1, 3, none⟩ (.int .i64 y2)).setCell ⟨w.heap.size + 1, 4, none⟩ (.int .i64 y3)).setCell ⟨w.heap.size + 1, 5, none⟩ (.int .i64 y4)).cell? ⟨w.heap.size + 1, 3, none⟩ = some (.int .i64 y2) := (Bb4.out.2 3 _ rfl).1
    have qb4_4 : (((((((wB.setCell ⟨w.heap.size, 0, none⟩ (.slice A1 N1 C1)).setCell ⟨w.heap.size + 1, 0, none⟩ (.int .i64 x0)).setCell ⟨w.heap.size + 1, 1, none⟩ (.slice none 0 0)).setCell ⟨w.heap.size + 1, 2, none⟩ (.int .i64 y1)).setCell ⟨w.heap.size + 1, 3, none⟩ (.int .i64 y2)).setCell ⟨w.heap.size + 1, 4, none⟩ (.int .i64 y3)).setCell ⟨w.heap.size + 1, 5, none⟩ (.int .i64 y4)).cell? ⟨w.heap.size + 1, 4, none⟩ = some (.int .i64 y3) := (Bb4.out.2 4 _ rfl).1
    have qb4_5 : (((((((wB.setCell ⟨w.heap.size, 0, none⟩ (.slice A1 N1 C1)).setCell ⟨w.heap.size + 1, 0, none⟩ (.int .i64 x0)).setCell ⟨w.heap.size + 1, 1, none⟩ (.slice none 0 0)).setCell ⟨w.heap.size + 1, 2, none⟩ (.int .i64 y1)).setCell ⟨w.heap.size + 1, 3, none⟩ (.int .i64 y2)).setCell ⟨w.heap.size + 1, 4, none⟩ (.int .i64 y3)).setCell ⟨w.heap.size + 1, 5, none⟩ (.int .i64 y4)).cell? ⟨w.heap.size + 1, 5, none⟩ = some (.int .i64 y4) := (Bb4.out.2 5 _ rfl).1
    clear cS0 hcD hcA hcB fA fB F0 FA FB cD cA cB iGD iSD kwD FZ zb2_0 yb2_0 zb4_0 yb4_0 zb4_1 yb4_1 zb4_2 yb4_2 zb4_3 yb4_3 zb4_4 yb4_4 zb4_5 yb4_5 b2D b2A b2B b4D b4A b4B b9D b9A b9B cF0 cF1 cF2 cF3 cF4 cF5 cF6
    go_wp2_with fail
    try simp only [Exit.inBlock, Exit.then]
    exact bodyPost_ret (v := .tuple #[.agg #[.slice A1 N1 C1], .slice S1 q cq, .agg #[.int .i64 x0, .slice none 0 0, .int .i64 y1, .int .i64 y2, .int .i64 y3, .int .i64 y4]]) (by simp [results, Tryz.results45, go_sem, qb2_0, qb4_0, qb4_1, qb4_2, qb4_3, qb4_4, qb4_5]) rfl ⟨_, _, _, _, _, _, _, _, _, _, _, _, _, _, _, _, _, rfl, HI9.out, hN, HV9.out, HCAP.out, HSD.out, HT9.out, KW.out⟩
  have hn0 : 0 < n7 := by omega
  have hn9 : ((n7 : Int) == 0) = false := by rw [beq_eq_false_iff_ne]; omega
  have hn8 : (0 : Int) < (n7 : Int) := by omega
  obtain ⟨b, off, v, P2, np2, cp2, x1, x2, x3, x4, pl, rfl, hb1, hb2, e0, e1, e2, e3, e4, e5, htp, hx⟩ := hRR.at_ hn0
  clear hRR hx
  rw [Nat.zero_mul, Nat.add_zero] at e0 e1 e2 e3 e4 e5
  clear hc
  have zab2_0 := (b2.2 0 _ rfl).1
  have zfb2_0 := (b2.2 0 _ rfl).2
  have zdb2_0 := ((b2.keeps (keeps_d0 w3)).2 0 _ rfl).1
  have zeb2_0 := ((b2.keeps (keeps_d0 w3)).2 0 _ rfl).2
  have zab4_0 := (b4.2 0 _ rfl).1
  have zfb4_0 := (b4.2 0 _ rfl).2
  have zdb4_0 := ((b4.keeps (keeps_d0 w3)).2 0 _ rfl).1
  have zeb4_0 := ((b4.keeps (keeps_d0 w3)).2 0 _ rfl).2
  have zab4_1 := (b4.2 1 _ rfl).1
  have zfb4_1 := (b4.2 1 _ rfl).2
  have zdb4_1 := ((b4.keeps (keeps_d0 w3)).2 1 _ rfl).1
  have zeb4_1 := ((b4.keeps (keeps_d0 w3)).2 1 _ rfl).2
  have zab4_2 := (b4.2 2 _ rfl).1
  have zfb4_2 := (b4.2 2 _ rfl).2
  have zdb4_2 := ((b4.keeps (keeps_d0 w3)).2 2 _ rfl).1
  have zeb4_2 := ((b4.keeps (keeps_d0 w3)).2 2 _ rfl).2
  have zab4_3 := (b4.2 3 _ rfl).1
  have zfb4_3 := (b4.2 3 _ rfl).2
  have zdb4_3 := ((b4.keeps (keeps_d0 w3)).2 3 _ rfl).1
  have zeb4_3 := ((b4.keeps (keeps_d0 w3)).2 3 _ rfl).2
  have zab4_4 := (b4.2 4 _ rfl).1
  have zfb4_4 := (b4.2 4 _ rfl).2
  have zdb4_4 := ((b4.keeps (keeps_d0 w3)).2 4 _ rfl).1
  have zeb4_4 := ((b4.keeps (keeps_d0 w3)).2 4 _ rfl).2
  have zab4_5 := (b4.2 5 _ rfl).1
  have zfb4_5 := (b4.2 5 _ rfl).2
  have zdb4_5 := ((b4.keeps (keeps_d0 w3)).2 5 _ rfl).1
  have zeb4_5 := ((b4.keeps (keeps_d0 w3)).2 5 _ rfl).2
  have zr0 : w3.cell? ⟨w1.heap.size, 0, none⟩ = some (.slice A1 N1 C1) := (b9.2 0 _ rfl).1
  have zs0 : w3.drew.cell? ⟨w1.heap.size, 0, none⟩ = some (.slice A1 N1 C1) := zr0
  have zr1 : w3.cell? ⟨b, off, none⟩ = some (.int .i64 v) := e0
  have zs1 : w3.drew.cell? ⟨b, off, none⟩ = some (.int .i64 v) := zr1
  have zr2 : w3.cell? ⟨b, off + 1, none⟩ = some (.slice P2 np2 cp2) := e1
  have zs2 : w3.drew.cell? ⟨b, off + 1, none⟩ = some (.slice P2 np2 cp2) := zr2
  have zr3 : w3.cell? ⟨b, off + 2, none⟩ = some (.int .i64 x1) := e2
  have zs3 : w3.drew.cell? ⟨b, off + 2, none⟩ = some (.int .i64 x1) := zr3
  have zr4 : w3.cell? ⟨b, off + 3, none⟩ = some (.int .i64 x2) := e3
  have zs4 : w3.drew.cell? ⟨b, off + 3, none⟩ = some (.int .i64 x2) := zr4
  have zr5 : w3.cell? ⟨b, off + 4, none⟩ = some (.int .i64 x3) := e4
  have zs5 : w3.drew.cell? ⟨b, off + 4, none⟩ = some (.int .i64 x3) := zr5
  have zr6 : w3.cell? ⟨b, off + 5, none⟩ = some (.int .i64 x4) := e5
  have zs6 : w3.drew.cell? ⟨b, off + 5, none⟩ = some (.int .i64 x4) := zr6
  have nq0_0 : b ≠ w.heap.size := by omega
  have nr0_0 : w.heap.size ≠ b := by omega
  have nq0_1 : b ≠ w.heap.size + 1 := by omega
  have nr0_1 : w.heap.size + 1 ≠ b := by omega
  have nq1_0 : w1.heap.size ≠ w.heap.size := by omega
  have nr1_0 : w.heap.size ≠ w1.heap.size := by omega
  have nq1_1 : w1.heap.size ≠ w.heap.size + 1 := by omega
  have nr1_1 : w.heap.size + 1 ≠ w1.heap.size := by omega
  go_wp2_with fail
  go_region
  have FZ := (Fr.setCell (Fr.setCell (Fr.setCell (Fr.setCell (Fr.setCell (Fr.setCell (Fr.setCell (Fr.refl w.heap.size (w.heap.size + 3) w3) (p := ⟨w.heap.size, 0, none⟩) (by show w.heap.size ≤ w.heap.size; omega) (by show w.heap.size < w.heap.size + 3; omega) (.slice A1 N1 C1)) (p := ⟨w.heap.size + 1, 0, none⟩) (by show w.heap.size ≤ w.heap.size + 1; omega) (by show w.heap.size + 1 < w.heap.size + 3; omega) (.int .i64 v)) (p := ⟨w.heap.size + 1, 1, none⟩) (by show w.heap.size ≤ w.heap.size + 1; omega) (by show w.heap.size + 1 < w.heap.size + 3; omega) (.slice P2 np2 cp2)) (p := ⟨w.heap.size + 1, 2, none⟩) (by show w.heap.size ≤ w.heap.size + 1; omega) (by show w.heap.size + 1 < w.heap.size + 3; omega) (.int .i64 x1)) (p := ⟨w.heap.size + 1, 3, none⟩) (by show w.heap.size ≤ w.heap.size + 1; omega) (by show w.heap.size + 1 < w.heap.size + 3; omega) (.int .i64 x2)) (p := ⟨w.heap.size + 1, 4, none⟩) (by show w.heap.size ≤ w.heap.size + 1; omega) (by show w.heap.size + 1 < w.heap.size + 3; omega) (.int .i64 x3)) (p := ⟨w.heap.size + 1, 5, none⟩) (by show w.heap.size ≤ w.heap.size + 1; omega) (by show w.heap.size + 1 < w.heap.size + 3; omega) (.int .i64 x4))
  have Bb2 := (((((((b2.set 0 (.slice A1 N1 C1)).far (p := ⟨w.heap.size + 1, 0, none⟩) (by show w.heap.size ≠ w.heap.size + 1; omega) (.int .i64 v)).far (p := ⟨w.heap.size + 1, 1, none⟩) (by show w.heap.size ≠ w.heap.size + 1; omega) (.slice P2 np2 cp2)).far (p := ⟨w.heap.size + 1, 2, none⟩) (by show w.heap.size ≠ w.heap.size + 1; omega) (.int .i64 x1)).far (p := ⟨w.heap.size + 1, 3, none⟩) (by show w.heap.size ≠ w.heap.size + 1; omega) (.int .i64 x2)).far (p := ⟨w.heap.size + 1, 4, none⟩) (by show w.heap.size ≠ w.heap.size + 1; omega) (.int .i64 x3)).far (p := ⟨w.heap.size + 1, 5, none⟩) (by show w.heap.size ≠ w.heap.size + 1; omega) (.int .i64 x4))
  have Bb4 := (((((((b4.far (p := ⟨w.heap.size, 0, none⟩) (by show w.heap.size + 1 ≠ w.heap.size; omega) (.slice A1 N1 C1)).set 0 (.int .i64 v)).set 1 (.slice P2 np2 cp2)).set 2 (.int .i64 x1)).set 3 (.int .i64 x2)).set 4 (.int .i64 x3)).set 5 (.int .i64 x4))
  have sZ : (((((((w3.setCell ⟨w.heap.size, 0, none⟩ (.slice A1 N1 C1)).setCell ⟨w.heap.size + 1, 0, none⟩ (.int .i64 v)).setCell ⟨w.heap.size + 1, 1, none⟩ (.slice P2 np2 cp2)).setCell ⟨w.heap.size + 1, 2, none⟩ (.int .i64 x1)).setCell ⟨w.heap.size + 1, 3, none⟩ (.int .i64 x2)).setCell ⟨w.heap.size + 1, 4, none⟩ (.int .i64 x3)).setCell ⟨w.heap.size + 1, 5, none⟩ (.int .i64 x4)).heap.size = w3.heap.size := by simp [World.setCell]
  obtain ⟨wz, hX⟩ : ∃ u : World, u = (((((((w3.setCell ⟨w.heap.size, 0, none⟩ (.slice A1 N1 C1)).setCell ⟨w.heap.size + 1, 0, none⟩ (.int .i64 v)).setCell ⟨w.heap.size + 1, 1, none⟩ (.slice P2 np2 cp2)).setCell ⟨w.heap.size + 1, 2, none⟩ (.int .i64 x1)).setCell ⟨w.heap.size + 1, 3, none⟩ (.int .i64 x2)).setCell ⟨w.heap.size + 1, 4, none⟩ (.int .i64 x3)).setCell ⟨w.heap.size + 1, 5, none⟩ (.int .i64 x4)) := ⟨_, rfl⟩
  rw [← hX] at FZ sZ Bb2 Bb4
  rw [← hX]
  clear hX
  have sE : wz.drew.heap.size = wz.heap.size := rfl
  have KW := hid (show Keeps w wz.drew from Keeps.trans (below_fr kw kw.size (Nat.le_refl _) FZ) (keeps_d0 wz))
  have HI9 := hid (((iG.fr FZ (by omega)).keeps (keeps_d0 wz)).widen (lo' := w.heap.size) (hi' := wz.drew.heap.size) (by omega) (by omega) (Nat.le_refl _))
  have HV9 := hid (Sl.widen (lo' := w.heap.size) (hi' := wz.drew.heap.size) (Sl.keeps (Sl.fr iS FZ (by omega)) (keeps_d0 wz)) (by omega) (by omega) (Nat.le_refl _))
  have HT9 := hid (Tabs.wide (lo' := w.heap.size) (hi' := wz.drew.heap.size) ((htp.fr FZ (by omega)).keeps (keeps_d0 wz)) (by omega) (by omega) (Nat.le_refl _))
  have qb2_0 : wz.drew.cell? ⟨w.heap.size, 0, none⟩ = some (.slice A1 N1 C1) := (Bb2.2 0 _ rfl).1
  have qb4_0 : wz.drew.cell? ⟨w.heap.size + 1, 0, none⟩ = some (.int .i64 v) := (Bb4.2 0 _ rfl).1
  have qb4_1 : wz.drew.cell? ⟨w.heap.size + 1, 1, none⟩ = some (.slice P2 np2 cp2) := (Bb4.2 1 _ rfl).1
  have qb4_2 : wz.drew.cell? ⟨w.heap.size + 1, 2, none⟩ = some (.int .i64 x1) := (Bb4.2 2 _ rfl).1
  have qb4_3 : wz.drew.cell? ⟨w.heap.size + 1, 3, none⟩ = some (.int .i64 x2) := (Bb4.2 3 _ rfl).1
  have qb4_4 : wz.drew.cell? ⟨w.heap.size + 1, 4, none⟩ = some (.int .i64 x3) := (Bb4.2 4 _ rfl).1
  have qb4_5 : wz.drew.cell? ⟨w.heap.size + 1, 5, none⟩ = some (.int .i64 x4) := (Bb4.2 5 _ rfl).1
  clear FZ kw Bb2 Bb4 b2 b4 zr0 zs0 zr1 zs1 zr2 zs2 zr3 zs3 zr4 zs4 zr5 zs5 zr6 zs6 zab2_0 zfb2_0 zdb2_0 zeb2_0 zab4_0 zfb4_0 zdb4_0 zeb4_0 zab4_1 zfb4_1 zdb4_1 zeb4_1 zab4_2 zfb4_2 zdb4_2 zeb4_2 zab4_3 zfb4_3 zdb4_3 zeb4_3 zab4_4 zfb4_4 zdb4_4 zeb4_4 zab4_5 zfb4_5 zdb4_5 zeb4_5
  go_wp2_with fail
  try simp only [Exit.inBlock, Exit.then]
  exact bodyPost_ret (v := .tuple #[.agg #[.slice A1 N1 C1], .slice S1 q cq, .agg #[.int .i64 v, .slice P2 np2 cp2, .int .i64 x1, .int .i64 x2, .int .i64 x3, .int .i64 x4]]) (by simp [results, Tryz.results45, go_sem, qb2_0, qb4_0, qb4_1, qb4_2, qb4_3, qb4_4, qb4_5]) rfl ⟨_, _, _, _, _, _, _, _, _, _, _, _, _, _, _, _, _, rfl, HI9.out, hN, HV9.out, HCAP.out, HSD.out, HT9.out, KW.out⟩
set_option maxRecDepth 100000 in
set_option maxHeartbeats 3200000 in
theorem DrawPlanChanges_any {A : Option Addr} {hi n c : Nat} {w : World} (hb : Bytes w hi A n) :
    Calls Tryz.prog 17 #[.slice A n c] w (DrawsPc w) := by
  go_enter Tryz.func17, Tryz.ntmps17
  have kw := keeps_refl w
  replace kw := Keeps.trans kw (keeps_alloc w (.cells #[.slice none 0 0] 32))
  have b2 : Bl (w.alloc (.cells #[.slice none 0 0] 32)) (w.heap.size) [.slice none 0 0] := Bl.new' (by simp) (by simp)
  replace b2 := b2.keeps (keeps_alloc (w.alloc (.cells #[.slice none 0 0] 32)) (.cells #[.int .i64 0, .slice none 0 0, .int .i64 0, .int .i64 0, .int .i64 0, .int .i64 0] 50))
  replace kw := Keeps.trans kw (keeps_alloc (w.alloc (.cells #[.slice none 0 0] 32)) (.cells #[.int .i64 0, .slice none 0 0, .int .i64 0, .int .i64 0, .int .i64 0, .int .i64 0] 50))
  have b4 : Bl ((w.alloc (.cells #[.slice none 0 0] 32)).alloc (.cells #[.int .i64 0, .slice none 0 0, .int .i64 0, .int .i64 0, .int .i64 0, .int .i64 0] 50)) (w.heap.size + 1) [.int .i64 0, .slice none 0 0, .int .i64 0, .int .i64 0, .int .i64 0, .int .i64 0] := Bl.new' (by simp) (by simp)
  replace b2 := b2.keeps (keeps_alloc ((w.alloc (.cells #[.slice none 0 0] 32)).alloc (.cells #[.int .i64 0, .slice none 0 0, .int .i64 0, .int .i64 0, .int .i64 0, .int .i64 0] 50)) (.cells #[.int .i64 0, .slice none 0 0, .int .i64 0, .int .i64 0, .int .i64 0, .int .i64 0] 50))
  replace b4 := b4.keeps (keeps_alloc ((w.alloc (.cells #[.slice none 0 0] 32)).alloc (.cells #[.int .i64 0, .slice none 0 0, .int .i64 0, .int .i64 0, .int .i64 0, .int .i64 0] 50)) (.cells #[.int .i64 0, .slice none 0 0, .int .i64 0, .int .i64 0, .int .i64 0, .int .i64 0] 50))
  replace kw := Keeps.trans kw (keeps_alloc ((w.alloc (.cells #[.slice none 0 0] 32)).alloc (.cells #[.int .i64 0, .slice none 0 0, .int .i64 0, .int .i64 0, .int .i64 0, .int .i64 0] 50)) (.cells #[.int .i64 0, .slice none 0 0, .int .i64 0, .int .i64 0, .int .i64 0, .int .i64 0] 50))
  have b5 : Bl (((w.alloc (.cells #[.slice none 0 0] 32)).alloc (.cells #[.int .i64 0, .slice none 0 0, .int .i64 0, .int .i64 0, .int .i64 0, .int .i64 0] 50)).alloc (.cells #[.int .i64 0, .slice none 0 0, .int .i64 0, .int .i64 0, .int .i64 0, .int .i64 0] 50)) (w.heap.size + 1 + 1) [.int .i64 0, .slice none 0 0, .int .i64 0, .int .i64 0, .int .i64 0, .int .i64 0] := Bl.new' (by simp) (by simp)
  have hc := Cur.new (t := 99) (c := c) (hb.keeps kw)
  rw [show (((w.alloc (.cells #[.slice none 0 0] 32)).alloc (.cells #[.int .i64 0, .slice none 0 0, .int .i64 0, .int .i64 0, .int .i64 0, .int .i64 0] 50)).alloc (.cells #[.int .i64 0, .slice none 0 0, .int .i64 0, .int .i64 0, .int .i64 0, .int .i64 0] 50)).heap.size = w.heap.size + 1 + 1 + 1 by simp] at hc
  replace b2 := b2.keeps (keeps_alloc (((w.alloc (.cells #[.slice none 0 0] 32)).alloc (.cells #[.int .i64 0, .slice none 0 0, .int .i64 0, .int .i64 0, .int .i64 0, .int .i64 0] 50)).alloc (.cells #[.int .i64 0, .slice none 0 0, .int .i64 0, .int .i64 0, .int .i64 0, .int .i64 0] 50)) (.cells #[.slice A n c, .int .i64 0, .int .u64 0] 99))
  replace b4 := b4.keeps (keeps_alloc (((w.alloc (.cells #[.slice none 0 0] 32)).alloc (.cells #[.int .i64 0, .slice none 0 0, .int .i64 0, .int .i64 0, .int .i64 0, .int .i64 0] 50)).alloc (.cells #[.int .i64 0, .slice none 0 0, .int .i64 0, .int .i64 0, .int .i64 0, .int .i64 0] 50)) (.cells #[.slice A n c, .int .i64 0, .int .u64 0] 99))
  replace b5 := b5.keeps (keeps_alloc (((w.alloc (.cells #[.slice none 0 0] 32)).alloc (.cells #[.int .i64 0, .slice none 0 0, .int .i64 0, .int .i64 0, .int .i64 0, .int .i64 0] 50)).alloc (.cells #[.int .i64 0, .slice none 0 0, .int .i64 0, .int .i64 0, .int .i64 0, .int .i64 0] 50)) (.cells #[.slice A n c, .int .i64 0, .int .u64 0] 99))
  replace kw := Keeps.trans kw (keeps_alloc (((w.alloc (.cells #[.slice none 0 0] 32)).alloc (.cells #[.int .i64 0, .slice none 0 0, .int .i64 0, .int .i64 0, .int .i64 0, .int .i64 0] 50)).alloc (.cells #[.int .i64 0, .slice none 0 0, .int .i64 0, .int .i64 0, .int .i64 0, .int .i64 0] 50)) (.cells #[.slice A n c, .int .i64 0, .int .u64 0] 99))
  have hbW := hb.keeps kw
  have E0 := hid (show ((((w.alloc (.cells #[.slice none 0 0] 32)).alloc (.cells #[.int .i64 0, .slice none 0 0, .int .i64 0, .int .i64 0, .int .i64 0, .int .i64 0] 50)).alloc (.cells #[.int .i64 0, .slice none 0 0, .int .i64 0, .int .i64 0, .int .i64 0, .int .i64 0] 50)).alloc (.cells #[.slice A n c, .int .i64 0, .int .u64 0] 99)).heap.size = w.heap.size + 4 by simp)
  have HIT := hid info_tab9
  go_wp2_with fail
  refine (DrawIsRelease_any hbW).mono ?_
  rintro e w1 ⟨A1, N1, C1, ps, S1, q, cq, l, v, P, n7, cr, x1, x2, x3, x4, ts, rfl, iG, hN, iS, hcap, hSD, hT, kk⟩
  have sf1 := kk.size
  rw [E0.out] at iG iS hT sf1
  replace kw : Keeps w w1 := Keeps.trans kw kk
  replace hc := hc.keeps kk
  replace b2 := b2.keeps kk
  replace b4 := b4.keeps kk
  replace b5 := b5.keeps kk
  have HSD := hid hSD
  have HCAP := hid hcap
  clear kk hSD hcap E0 hbW
  replace b2 := (b2.keeps (keeps_alloc w1 (.cells #[.slice A1 N1 C1] 32))).keeps (keeps_alloc (w1.alloc (.cells #[.slice A1 N1 C1] 32)) (.cells #[.int .i64 v, .slice P n7 cr, .int .i64 x1, .int .i64 x2, .int .i64 x3, .int .i64 x4] 50))
  replace b4 := (b4.keeps (keeps_alloc w1 (.cells #[.slice A1 N1 C1] 32))).keeps (keeps_alloc (w1.alloc (.cells #[.slice A1 N1 C1] 32)) (.cells #[.int .i64 v, .slice P n7 cr, .int .i64 x1, .int .i64 x2, .int .i64 x3, .int .i64 x4] 50))
  replace b5 := (b5.keeps (keeps_alloc w1 (.cells #[.slice A1 N1 C1] 32))).keeps (keeps_alloc (w1.alloc (.cells #[.slice A1 N1 C1] 32)) (.cells #[.int .i64 v, .slice P n7 cr, .int .i64 x1, .int .i64 x2, .int .i64 x3, .int .i64 x4] 50))
  replace hc := (hc.keeps (keeps_alloc w1 (.cells #[.slice A1 N1 C1] 32))).keeps (keeps_alloc (w1.alloc (.cells #[.slice A1 N1 C1] 32)) (.cells #[.int .i64 v, .slice P n7 cr, .int .i64 x1, .int .i64 x2, .int .i64 x3, .int .i64 x4] 50))
  replace iG := (iG.keeps (keeps_alloc w1 (.cells #[.slice A1 N1 C1] 32))).keeps (keeps_alloc (w1.alloc (.cells #[.slice A1 N1 C1] 32)) (.cells #[.int .i64 v, .slice P n7 cr, .int .i64 x1, .int .i64 x2, .int .i64 x3, .int .i64 x4] 50))
  replace iS := (iS.keeps (keeps_alloc w1 (.cells #[.slice A1 N1 C1] 32))).keeps (keeps_alloc (w1.alloc (.cells #[.slice A1 N1 C1] 32)) (.cells #[.int .i64 v, .slice P n7 cr, .int .i64 x1, .int .i64 x2, .int .i64 x3, .int .i64 x4] 50))
  replace hT := (hT.keeps (keeps_alloc w1 (.cells #[.slice A1 N1 C1] 32))).keeps (keeps_alloc (w1.alloc (.cells #[.slice A1 N1 C1] 32)) (.cells #[.int .i64 v, .slice P n7 cr, .int .i64 x1, .int .i64 x2, .int .i64 x3, .int .i64 x4] 50))
  replace kw := Keeps.trans (Keeps.trans kw (keeps_alloc w1 (.cells #[.slice A1 N1 C1] 32))) (keeps_alloc (w1.alloc (.cells #[.slice A1 N1 C1] 32)) (.cells #[.int .i64 v, .slice P n7 cr, .int .i64 x1, .int .i64 x2, .int .i64 x3, .int .i64 x4] 50))
  have b9 : Bl ((w1.alloc (.cells #[.slice A1 N1 C1] 32)).alloc (.cells #[.int .i64 v, .slice P n7 cr, .int .i64 x1, .int .i64 x2, .int .i64 x3, .int .i64 x4] 50)) w1.heap.size [.slice A1 N1 C1] := (show Bl (w1.alloc (.cells #[.slice A1 N1 C1] 32)) w1.heap.size [.slice A1 N1 C1] from Bl.new' (by simp) (by simp)).keeps (keeps_alloc (w1.alloc (.cells #[.slice A1 N1 C1] 32)) (.cells #[.int .i64 v, .slice P n7 cr, .int .i64 x1, .int .i64 x2, .int .i64 x3, .int .i64 x4] 50))
  have b10 : Bl ((w1.alloc (.cells #[.slice A1 N1 C1] 32)).alloc (.cells #[.int .i64 v, .slice P n7 cr, .int .i64 x1, .int .i64 x2, .int .i64 x3, .int .i64 x4] 50)) (w1.heap.size + 1) [.int .i64 v, .slice P n7 cr, .int .i64 x1, .int .i64 x2, .int .i64 x3, .int .i64 x4] := Bl.new' (by simp) (by simp)
  go_wp2_with fail
  obtain ⟨w2, hX⟩ : ∃ u : World, u = ((w1.alloc (.cells #[.slice A1 N1 C1] 32)).alloc (.cells #[.int .i64 v, .slice P n7 cr, .int .i64 x1, .int .i64 x2, .int .i64 x3, .int .i64 x4] 50)) := ⟨_, rfl⟩
  have szX := hid (show w2.heap.size = w1.heap.size + 2 by rw [hX]; simp)
  rw [← hX] at b2
  rw [← hX] at b4
  rw [← hX] at b5
  rw [← hX] at hc
  rw [← hX] at iG
  rw [← hX] at iS
  rw [← hX] at hT
  rw [← hX] at kw
  rw [← hX] at b9
  rw [← hX] at b10
  rw [← hX]
  clear hX
  have sX := szX.out
  refine (tables_any (a := N1) (c0 := C1) hc (by omega) iG (by omega) iS (by omega) HSD.out).mono ?_
  rintro e w3 ⟨P2, np, cp, cs, L, U, us, rfl, hF, hTL, hT21, hc3, ff⟩
  have sw3 := ff.size
  replace kw : Keeps w w3 := below_fr kw kw.size (by omega) ff
  replace b2 := b2.fr ff (by omega)
  replace b4 := b4.fr ff (by omega)
  replace b5 := b5.fr ff (by omega)
  replace b9 := b9.fr ff (by omega)
  replace b10 := b10.fr ff (by omega)
  replace iG := iG.fr ff (by omega)
  replace iS := Sl.fr iS ff (by omega)
  replace hT := hT.fr ff (by omega)
  clear hc ff
  have hc := hc3
  clear hc3
  go_wp2_with fail
  refine (loss_any hc (by omega)).mono ?_
  rintro e w4 ⟨y1, y2, y3, y4, rfl, hc4, ff⟩
  have sw4 := ff.size
  replace kw : Keeps w w4 := below_fr kw kw.size (by omega) ff
  replace b2 := b2.fr ff (by omega)
  replace b4 := b4.fr ff (by omega)
  replace b5 := b5.fr ff (by omega)
  replace b9 := b9.fr ff (by omega)
  replace b10 := b10.fr ff (by omega)
  replace iG := iG.fr ff (by omega)
  replace iS := Sl.fr iS ff (by omega)
  replace hT := hT.fr ff (by omega)
  replace hF := hF.fr RwdT.ok ff (by omega)
  clear hc ff
  have hc := hc4
  clear hc4
  have HLR := hid hF.lt
  replace hF := hF.cap (p := w4.heap.size) (Nat.le_refl _)
  replace b2 := b2.keeps (keeps_alloc w4 (.cells #[.int .i64 2, .slice P2 np cp, .int .i64 y1, .int .i64 y2, .int .i64 y3, .int .i64 y4] 50))
  replace b4 := b4.keeps (keeps_alloc w4 (.cells #[.int .i64 2, .slice P2 np cp, .int .i64 y1, .int .i64 y2, .int .i64 y3, .int .i64 y4] 50))
  replace b5 := b5.keeps (keeps_alloc w4 (.cells #[.int .i64 2, .slice P2 np cp, .int .i64 y1, .int .i64 y2, .int .i64 y3, .int .i64 y4] 50))
  replace b9 := b9.keeps (keeps_alloc w4 (.cells #[.int .i64 2, .slice P2 np cp, .int .i64 y1, .int .i64 y2, .int .i64 y3, .int .i64 y4] 50))
  replace b10 := b10.keeps (keeps_alloc w4 (.cells #[.int .i64 2, .slice P2 np cp, .int .i64 y1, .int .i64 y2, .int .i64 y3, .int .i64 y4] 50))
  replace hc := hc.keeps (keeps_alloc w4 (.cells #[.int .i64 2, .slice P2 np cp, .int .i64 y1, .int .i64 y2, .int .i64 y3, .int .i64 y4] 50))
  replace iG := iG.keeps (keeps_alloc w4 (.cells #[.int .i64 2, .slice P2 np cp, .int .i64 y1, .int .i64 y2, .int .i64 y3, .int .i64 y4] 50))
  replace iS := iS.keeps (keeps_alloc w4 (.cells #[.int .i64 2, .slice P2 np cp, .int .i64 y1, .int .i64 y2, .int .i64 y3, .int .i64 y4] 50))
  replace hT := hT.keeps (keeps_alloc w4 (.cells #[.int .i64 2, .slice P2 np cp, .int .i64 y1, .int .i64 y2, .int .i64 y3, .int .i64 y4] 50))
  replace hF := hF.keeps (RwU.ok RwdT.ok) (keeps_alloc w4 (.cells #[.int .i64 2, .slice P2 np cp, .int .i64 y1, .int .i64 y2, .int .i64 y3, .int .i64 y4] 50))
  replace kw := Keeps.trans kw (keeps_alloc w4 (.cells #[.int .i64 2, .slice P2 np cp, .int .i64 y1, .int .i64 y2, .int .i64 y3, .int .i64 y4] 50))
  have b11 : Bl (w4.alloc (.cells #[.int .i64 2, .slice P2 np cp, .int .i64 y1, .int .i64 y2, .int .i64 y3, .int .i64 y4] 50)) w4.heap.size [.int .i64 2, .slice P2 np cp, .int .i64 y1, .int .i64 y2, .int .i64 y3, .int .i64 y4] := Bl.new' (by simp) (by simp)
  by_cases h0 : 0 < n7
  rotate_left
  · skip
    obtain rfl : n7 = 0 := by omega
    have hn9 : ¬ ((0 : Nat) : Int) > 0 := by omega
    have ca0 := (b10.2 0 _ rfl).1
    have ca1 := (b10.2 1 _ rfl).1
    have ca2 := (b10.2 2 _ rfl).1
    have ca3 := (b10.2 3 _ rfl).1
    have ca4 := (b10.2 4 _ rfl).1
    have ca5 := (b10.2 5 _ rfl).1
    go_wp2_with fail
    obtain ⟨w5, hX⟩ : ∃ u : World, u = w4.alloc (.cells #[.int .i64 2, .slice P2 np cp, .int .i64 y1, .int .i64 y2, .int .i64 y3, .int .i64 y4] 50) := ⟨_, rfl⟩
    have szY := hid (show w5.heap.size = w4.heap.size + 1 by rw [hX]; simp)
    clear ca0 ca1 ca2 ca3 ca4 ca5
    rw [← hX] at b2
    rw [← hX] at b4
    rw [← hX] at b5
    rw [← hX] at b9
    rw [← hX] at b10
    rw [← hX] at hc
    rw [← hX] at iG
    rw [← hX] at iS
    rw [← hX] at hT
    rw [← hX] at hF
    rw [← hX] at kw
    rw [← hX] at b11
    try rw [← hX]
    clear hX
    have sY := szY.out
    replace hF := hF.uncap
    obtain ⟨P8, cp8, eq8, hcp8, hTT⟩ := hF.tabs (by omega) (by omega)
    injection eq8 with eq1 eq9 eq2
    subst eq1 eq2
    rw [hTL] at hTT
    clear eq9 hcp8 hF hc
    have zab2_0 := (b2.2 0 _ rfl).1
    have zfb2_0 := (b2.2 0 _ rfl).2
    have zdb2_0 := ((b2.keeps (keeps_d0 w5)).2 0 _ rfl).1
    have zeb2_0 := ((b2.keeps (keeps_d0 w5)).2 0 _ rfl).2
    have zab4_0 := (b4.2 0 _ rfl).1
    have zfb4_0 := (b4.2 0 _ rfl).2
    have zdb4_0 := ((b4.keeps (keeps_d0 w5)).2 0 _ rfl).1
    have zeb4_0 := ((b4.keeps (keeps_d0 w5)).2 0 _ rfl).2
    have zab4_1 := (b4.2 1 _ rfl).1
    have zfb4_1 := (b4.2 1 _ rfl).2
    have zdb4_1 := ((b4.keeps (keeps_d0 w5)).2 1 _ rfl).1
    have zeb4_1 := ((b4.keeps (keeps_d0 w5)).2 1 _ rfl).2
    have zab4_2 := (b4.2 2 _ rfl).1
    have zfb4_2 := (b4.2 2 _ rfl).2
    have zdb4_2 := ((b4.keeps (keeps_d0 w5)).2 2 _ rfl).1
    have zeb4_2 := ((b4.keeps (keeps_d0 w5)).2 2 _ rfl).2
    have zab4_3 := (b4.2 3 _ rfl).1
    have zfb4_3 := (b4.2 3 _ rfl).2
    have zdb4_3 := ((b4.keeps (keeps_d0 w5)).2 3 _ rfl).1
    have zeb4_3 := ((b4.keeps (keeps_d0 w5)).2 3 _ rfl).2
    have zab4_4 := (b4.2 4 _ rfl).1
    have zfb4_4 := (b4.2 4 _ rfl).2
    have zdb4_4 := ((b4.keeps (keeps_d0 w5)).2 4 _ rfl).1
    have zeb4_4 := ((b4.keeps (keeps_d0 w5)).2 4 _ rfl).2
    have zab4_5 := (b4.2 5 _ rfl).1
    have zfb4_5 := (b4.2 5 _ rfl).2
    have zdb4_5 := ((b4.keeps (keeps_d0 w5)).2 5 _ rfl).1
    have zeb4_5 := ((b4.keeps (keeps_d0 w5)).2 5 _ rfl).2
    have zab5_0 := (b5.2 0 _ rfl).1
    have zfb5_0 := (b5.2 0 _ rfl).2
    have zdb5_0 := ((b5.keeps (keeps_d0 w5)).2 0 _ rfl).1
    have zeb5_0 := ((b5.keeps (keeps_d0 w5)).2 0 _ rfl).2
    have zab5_1 := (b5.2 1 _ rfl).1
    have zfb5_1 := (b5.2 1 _ rfl).2
    have zdb5_1 := ((b5.keeps (keeps_d0 w5)).2 1 _ rfl).1
    have zeb5_1 := ((b5.keeps (keeps_d0 w5)).2 1 _ rfl).2
    have zab5_2 := (b5.2 2 _ rfl).1
    have zfb5_2 := (b5.2 2 _ rfl).2
    have zdb5_2 := ((b5.keeps (keeps_d0 w5)).2 2 _ rfl).1
    have zeb5_2 := ((b5.keeps (keeps_d0 w5)).2 2 _ rfl).2
    have zab5_3 := (b5.2 3 _ rfl).1
    have zfb5_3 := (b5.2 3 _ rfl).2
    have zdb5_3 := ((b5.keeps (keeps_d0 w5)).2 3 _ rfl).1
    have zeb5_3 := ((b5.keeps (keeps_d0 w5)).2 3 _ rfl).2
    have zab5_4 := (b5.2 4 _ rfl).1
    have zfb5_4 := (b5.2 4 _ rfl).2
    have zdb5_4 := ((b5.keeps (keeps_d0 w5)).2 4 _ rfl).1
    have zeb5_4 := ((b5.keeps (keeps_d0 w5)).2 4 _ rfl).2
    have zab5_5 := (b5.2 5 _ rfl).1
    have zfb5_5 := (b5.2 5 _ rfl).2
    have zdb5_5 := ((b5.keeps (keeps_d0 w5)).2 5 _ rfl).1
    have zeb5_5 := ((b5.keeps (keeps_d0 w5)).2 5 _ rfl).2
    have zr0 : w5.cell? ⟨w1.heap.size, 0, none⟩ = some (.slice A1 N1 C1) := (b9.2 0 _ rfl).1
    have zs0 : w5.drew.cell? ⟨w1.heap.size, 0, none⟩ = some (.slice A1 N1 C1) := zr0
    have zr1 : w5.cell? ⟨w1.heap.size + 1, 0, none⟩ = some (.int .i64 v) := (b10.2 0 _ rfl).1
    have zs1 : w5.drew.cell? ⟨w1.heap.size + 1, 0, none⟩ = some (.int .i64 v) := zr1
    have zr2 : w5.cell? ⟨w1.heap.size + 1, 1, none⟩ = some (.slice P 0 cr) := (b10.2 1 _ rfl).1
    have zs2 : w5.drew.cell? ⟨w1.heap.size + 1, 1, none⟩ = some (.slice P 0 cr) := zr2
    have zr3 : w5.cell? ⟨w1.heap.size + 1, 2, none⟩ = some (.int .i64 x1) := (b10.2 2 _ rfl).1
    have zs3 : w5.drew.cell? ⟨w1.heap.size + 1, 2, none⟩ = some (.int .i64 x1) := zr3
    have zr4 : w5.cell? ⟨w1.heap.size + 1, 3, none⟩ = some (.int .i64 x2) := (b10.2 3 _ rfl).1
    have zs4 : w5.drew.cell? ⟨w1.heap.size + 1, 3, none⟩ = some (.int .i64 x2) := zr4
    have zr5 : w5.cell? ⟨w1.heap.size + 1, 4, none⟩ = some (.int .i64 x3) := (b10.2 4 _ rfl).1
    have zs5 : w5.drew.cell? ⟨w1.heap.size + 1, 4, none⟩ = some (.int .i64 x3) := zr5
    have zr6 : w5.cell? ⟨w1.heap.size + 1, 5, none⟩ = some (.int .i64 x4) := (b10.2 5 _ rfl).1
    have zs6 : w5.drew.cell? ⟨w1.heap.size + 1, 5, none⟩ = some (.int .i64 x4) := zr6
    have zr7 : w5.cell? ⟨w4.heap.size, 0, none⟩ = some (.int .i64 2) := (b11.2 0 _ rfl).1
    have zs7 : w5.drew.cell? ⟨w4.heap.size, 0, none⟩ = some (.int .i64 2) := zr7
    have zr8 : w5.cell? ⟨w4.heap.size, 1, none⟩ = some (.slice P2 np cp) := (b11.2 1 _ rfl).1
    have zs8 : w5.drew.cell? ⟨w4.heap.size, 1, none⟩ = some (.slice P2 np cp) := zr8
    have zr9 : w5.cell? ⟨w4.heap.size, 2, none⟩ = some (.int .i64 y1) := (b11.2 2 _ rfl).1
    have zs9 : w5.drew.cell? ⟨w4.heap.size, 2, none⟩ = some (.int .i64 y1) := zr9
    have zr10 : w5.cell? ⟨w4.heap.size, 3, none⟩ = some (.int .i64 y2) := (b11.2 3 _ rfl).1
    have zs10 : w5.drew.cell? ⟨w4.heap.size, 3, none⟩ = some (.int .i64 y2) := zr10
    have zr11 : w5.cell? ⟨w4.heap.size, 4, none⟩ = some (.int .i64 y3) := (b11.2 4 _ rfl).1
    have zs11 : w5.drew.cell? ⟨w4.heap.size, 4, none⟩ = some (.int .i64 y3) := zr11
    have zr12 : w5.cell? ⟨w4.heap.size, 5, none⟩ = some (.int .i64 y4) := (b11.2 5 _ rfl).1
    have zs12 : w5.drew.cell? ⟨w4.heap.size, 5, none⟩ = some (.int .i64 y4) := zr12
    have nq0_0 : w1.heap.size ≠ w.heap.size := by omega
    have nr0_0 : w.heap.size ≠ w1.heap.size := by omega
    have nq0_1 : w1.heap.size ≠ w.heap.size + 1 := by omega
    have nr0_1 : w.heap.size + 1 ≠ w1.heap.size := by omega
    have nq0_2 : w1.heap.size ≠ w.heap.size + 1 + 1 := by omega
    have nr0_2 : w.heap.size + 1 + 1 ≠ w1.heap.size := by omega
    have nq1_0 : w1.heap.size + 1 ≠ w.heap.size := by omega
    have nr1_0 : w.heap.size ≠ w1.heap.size + 1 := by omega
    have nq1_1 : w1.heap.size + 1 ≠ w.heap.size + 1 := by omega
    have nr1_1 : w.heap.size + 1 ≠ w1.heap.size + 1 := by omega
    have nq1_2 : w1.heap.size + 1 ≠ w.heap.size + 1 + 1 := by omega
    have nr1_2 : w.heap.size + 1 + 1 ≠ w1.heap.size + 1 := by omega
    have nq2_0 : w4.heap.size ≠ w.heap.size := by omega
    have nr2_0 : w.heap.size ≠ w4.heap.size := by omega
    have nq2_1 : w4.heap.size ≠ w.heap.size + 1 := by omega
    have nr2_1 : w.heap.size + 1 ≠ w4.heap.size := by omega
    have nq2_2 : w4.heap.size ≠ w.heap.size + 1 + 1 := by omega
    have nr2_2 : w.heap.size + 1 + 1 ≠ w4.heap.size := by omega
    go_wp2_with fail
    go_region
    have FZ := (Fr.setCell (Fr.setCell (Fr.setCell (Fr.setCell (Fr.setCell (Fr.setCell (Fr.setCell (Fr.setCell (Fr.setCell (Fr.setCell (Fr.setCell (Fr.setCell (Fr.setCell (Fr.refl w.heap.size (w.heap.size + 4) w5) (p := ⟨w.heap.size, 0, none⟩) (by show w.heap.size ≤ w.heap.size; omega) (by show w.heap.size < w.heap.size + 4; omega) (.slice A1 N1 C1)) (p := ⟨w.heap.size + 1, 0, none⟩) (by show w.heap.size ≤ w.heap.size + 1; omega) (by show w.heap.size + 1 < w.heap.size + 4; omega) (.int .i64 v)) (p := ⟨w.heap.size + 1, 1, none⟩) (by show w.heap.size ≤ w.heap.size + 1; omega) (by show w.heap.size + 1 < w.heap.size + 4; omega) (.slice P 0 cr)) (p := ⟨w.heap.size + 1, 2, none⟩) (by show w.heap.size ≤ w.heap.size + 1; omega) (by show w.heap.size + 1 < w.heap.size + 4; omega) (.int .i64 x1)) (p := ⟨w.heap.size + 1, 3, none⟩) (by show w.heap.size ≤ w.heap.size + 1; omega) (by show w.heap.size + 1 < w.heap.size + 4; omega) (.int .i64 x2)) (p := ⟨w.heap.size + 1, 4, none⟩) (by show w.heap.size ≤ w.heap.size + 1; omega) (by show w.heap.size + 1 < w.heap.size + 4; omega) (.int .i64 x3)) (p := ⟨w.heap.size + 1, 5, none⟩) (by show w.heap.size ≤ w.heap.size + 1; omega) (by show w.heap.size + 1 < w.heap.size + 4; omega) (.int .i64 x4)) (p := ⟨w.heap.size + 1 + 1, 0, none⟩) (by show w.heap.size ≤ w.heap.size + 1 + 1; omega) (by show w.heap.size + 1 + 1 < w.heap.size + 4; omega) (.int .i64 2)) (p := ⟨w.heap.size + 1 + 1, 1, none⟩) (by show w.heap.size ≤ w.heap.size + 1 + 1; omega) (by show w.heap.size + 1 + 1 < w.heap.size + 4; omega) (.slice P2 np cp)) (p := ⟨w.heap.size + 1 + 1, 2, none⟩) (by show w.heap.size ≤ w.heap.size + 1 + 1; omega) (by show w.heap.size + 1 + 1 < w.heap.size + 4; omega) (.int .i64 y1)) (p := ⟨w.heap.size + 1 + 1, 3, none⟩) (by show w.heap.size ≤ w.heap.size + 1 + 1; omega) (by show w.heap.size + 1 + 1 < w.heap.size + 4; omega) (.int .i64 y2)) (p := ⟨w.heap.size + 1 + 1, 4, none⟩) (by show w.heap.size ≤ w.heap.size + 1 + 1; omega) (by show w.heap.size + 1 + 1 < w.heap.size + 4; omega) (.int .i64 y3)) (p := ⟨w.heap.size + 1 + 1, 5, none⟩) (by show w.heap.size ≤ w.heap.size + 1 + 1; omega) (by show w.heap.size + 1 + 1 < w.heap.size + 4; omega) (.int .i64 y4))
    have Bb2 := (((((((((((((b2.set 0 (.slice A1 N1 C1)).far (p := ⟨w.heap.size + 1, 0, none⟩) (by show w.heap.size ≠ w.heap.size + 1; omega) (.int .i64 v)).far (p := ⟨w.heap.size + 1, 1, none⟩) (by show w.heap.size ≠ w.heap.size + 1; omega) (.slice P 0 cr)).far (p := ⟨w.heap.size + 1, 2, none⟩) (by show w.heap.size ≠ w.heap.size + 1; omega) (.int .i64 x1)).far (p := ⟨w.heap.size + 1, 3, none⟩) (by show w.heap.size ≠ w.heap.size + 1; omega) (.int .i64 x2)).far (p := ⟨w.heap.size + 1, 4, none⟩) (by show w.heap.size ≠ w.heap.size + 1; omega) (.int .i64 x3)).far (p := ⟨w.heap.size + 1, 5, none⟩) (by show w.heap.size ≠ w.heap.size + 1; omega) (.int .i64 x4)).far (p := ⟨w.heap.size + 1 + 1, 0, none⟩) (by show w.heap.size ≠ w.heap.size + 1 + 1; omega) (.int .i64 2)).far (p := ⟨w.heap.size + 1 + 1, 1, none⟩) (by show w.heap.size ≠ w.heap.size + 1 + 1; omega) (.slice P2 np cp)).far (p := ⟨w.heap.size + 1 + 1, 2, none⟩) (by show w.heap.size ≠ w.heap.size + 1 + 1; omega) (.int .i64 y1)).far (p := ⟨w.heap.size + 1 + 1, 3, none⟩) (by show w.heap.size ≠ w.heap.size + 1 + 1; omega) (.int .i64 y2)).far (p := ⟨w.heap.size + 1 + 1, 4, none⟩) (by show w.heap.size ≠ w.heap.size + 1 + 1; omega) (.int .i64 y3)).far (p := ⟨w.heap.size + 1 + 1, 5, none⟩) (by show w.heap.size ≠ w.heap.size + 1 + 1; omega) (.int .i64 y4))
    have Bb4 := (((((((((((((b4.far (p := ⟨w.heap.size, 0, none⟩) (by show w.heap.size + 1 ≠ w.heap.size; omega) (.slice A1 N1 C1)).set 0 (.int .i64 v)).set 1 (.slice P 0 cr)).set 2 (.int .i64 x1)).set 3 (.int .i64 x2)).set 4 (.int .i64 x3)).set 5 (.int .i64 x4)).far (p := ⟨w.heap.size + 1 + 1, 0, none⟩) (by show w.heap.size + 1 ≠ w.heap.size + 1 + 1; omega) (.int .i64 2)).far (p := ⟨w.heap.size + 1 + 1, 1, none⟩) (by show w.heap.size + 1 ≠ w.heap.size + 1 + 1; omega) (.slice P2 np cp)).far (p := ⟨w.heap.size + 1 + 1, 2, none⟩) (by show w.heap.size + 1 ≠ w.heap.size + 1 + 1; omega) (.int .i64 y1)).far (p := ⟨w.heap.size + 1 + 1, 3, none⟩) (by show w.heap.size + 1 ≠ w.heap.size + 1 + 1; omega) (.int .i64 y2)).far (p := ⟨w.heap.size + 1 + 1, 4, none⟩) (by show w.heap.size + 1 ≠ w.heap.size + 1 + 1; omega) (.int .i64 y3)).far (p := ⟨w.heap.size + 1 + 1, 5, none⟩) (by show w.heap.size + 1 ≠ w.heap.size + 1 + 1; omega) (.int .i64 y4))
    have Bb5 := (((((((((((((b5.far (p := ⟨w.heap.size, 0, none⟩) (by show w.heap.size + 1 + 1 ≠ w.heap.size; omega) (.slice A1 N1 C1)).far (p := ⟨w.heap.size + 1, 0, none⟩) (by show w.heap.size + 1 + 1 ≠ w.heap.size + 1; omega) (.int .i64 v)).far (p := ⟨w.heap.size + 1, 1, none⟩) (by show w.heap.size + 1 + 1 ≠ w.heap.size + 1; omega) (.slice P 0 cr)).far (p := ⟨w.heap.size + 1, 2, none⟩) (by show w.heap.size + 1 + 1 ≠ w.heap.size + 1; omega) (.int .i64 x1)).far (p := ⟨w.heap.size + 1, 3, none⟩) (by show w.heap.size + 1 + 1 ≠ w.heap.size + 1; omega) (.int .i64 x2)).far (p := ⟨w.heap.size + 1, 4, none⟩) (by show w.heap.size + 1 + 1 ≠ w.heap.size + 1; omega) (.int .i64 x3)).far (p := ⟨w.heap.size + 1, 5, none⟩) (by show w.heap.size + 1 + 1 ≠ w.heap.size + 1; omega) (.int .i64 x4)).set 0 (.int .i64 2)).set 1 (.slice P2 np cp)).set 2 (.int .i64 y1)).set 3 (.int .i64 y2)).set 4 (.int .i64 y3)).set 5 (.int .i64 y4))
    have sZ : (((((((((((((w5.setCell ⟨w.heap.size, 0, none⟩ (.slice A1 N1 C1)).setCell ⟨w.heap.size + 1, 0, none⟩ (.int .i64 v)).setCell ⟨w.heap.size + 1, 1, none⟩ (.slice P 0 cr)).setCell ⟨w.heap.size + 1, 2, none⟩ (.int .i64 x1)).setCell ⟨w.heap.size + 1, 3, none⟩ (.int .i64 x2)).setCell ⟨w.heap.size + 1, 4, none⟩ (.int .i64 x3)).setCell ⟨w.heap.size + 1, 5, none⟩ (.int .i64 x4)).setCell ⟨w.heap.size + 1 + 1, 0, none⟩ (.int .i64 2)).setCell ⟨w.heap.size + 1 + 1, 1, none⟩ (.slice P2 np cp)).setCell ⟨w.heap.size + 1 + 1, 2, none⟩ (.int .i64 y1)).setCell ⟨w.heap.size + 1 + 1, 3, none⟩ (.int .i64 y2)).setCell ⟨w.heap.size + 1 + 1, 4, none⟩ (.int .i64 y3)).setCell ⟨w.heap.size + 1 + 1, 5, none⟩ (.int .i64 y4)).heap.size = w5.heap.size := by simp [World.setCell]
    obtain ⟨wz, hX⟩ : ∃ u : World, u = (((((((((((((w5.setCell ⟨w.heap.size, 0, none⟩ (.slice A1 N1 C1)).setCell ⟨w.heap.size + 1, 0, none⟩ (.int .i64 v)).setCell ⟨w.heap.size + 1, 1, none⟩ (.slice P 0 cr)).setCell ⟨w.heap.size + 1, 2, none⟩ (.int .i64 x1)).setCell ⟨w.heap.size + 1, 3, none⟩ (.int .i64 x2)).setCell ⟨w.heap.size + 1, 4, none⟩ (.int .i64 x3)).setCell ⟨w.heap.size + 1, 5, none⟩ (.int .i64 x4)).setCell ⟨w.heap.size + 1 + 1, 0, none⟩ (.int .i64 2)).setCell ⟨w.heap.size + 1 + 1, 1, none⟩ (.slice P2 np cp)).setCell ⟨w.heap.size + 1 + 1, 2, none⟩ (.int .i64 y1)).setCell ⟨w.heap.size + 1 + 1, 3, none⟩ (.int .i64 y2)).setCell ⟨w.heap.size + 1 + 1, 4, none⟩ (.int .i64 y3)).setCell ⟨w.heap.size + 1 + 1, 5, none⟩ (.int .i64 y4)) := ⟨_, rfl⟩
    rw [← hX] at FZ sZ Bb2 Bb4 Bb5
    rw [← hX]
    clear hX
    have sE : wz.drew.heap.size = wz.heap.size := rfl
    have KW := hid (show Keeps w wz.drew from Keeps.trans (below_fr kw kw.size (Nat.le_refl _) FZ) (keeps_d0 wz))
    have HI9 := hid (((iG.fr FZ (by omega)).keeps (keeps_d0 wz)).widen (lo' := w.heap.size) (hi' := wz.drew.heap.size) (by omega) (by omega) (Nat.le_refl _))
    have HV9 := hid (Sl.widen (lo' := w.heap.size) (hi' := wz.drew.heap.size) (Sl.keeps (Sl.fr iS FZ (by omega)) (keeps_d0 wz)) (by omega) (by omega) (Nat.le_refl _))
    have HT8 := hid (Tabs.wide (lo' := w.heap.size) (hi' := wz.drew.heap.size) ((hT.fr FZ (by omega)).keeps (keeps_d0 wz)) (by omega) (by omega) (Nat.le_refl _))
    have HT9 := hid (Tabs.wide (lo' := w.heap.size) (hi' := wz.drew.heap.size) ((hTT.fr FZ (by omega)).keeps (keeps_d0 wz)) (by omega) (by omega) (Nat.le_refl _))
    have qb2_0 : wz.drew.cell? ⟨w.heap.size, 0, none⟩ = some (.slice A1 N1 C1) := (Bb2.2 0 _ rfl).1
    have qb4_0 : wz.drew.cell? ⟨w.heap.size + 1, 0, none⟩ = some (.int .i64 v) := (Bb4.2 0 _ rfl).1
    have qb4_1 : wz.drew.cell? ⟨w.heap.size + 1, 1, none⟩ = some (.slice P 0 cr) := (Bb4.2 1 _ rfl).1
    have qb4_2 : wz.drew.cell? ⟨w.heap.size + 1, 2, none⟩ = some (.int .i64 x1) := (Bb4.2 2 _ rfl).1
    have qb4_3 : wz.drew.cell? ⟨w.heap.size + 1, 3, none⟩ = some (.int .i64 x2) := (Bb4.2 3 _ rfl).1
    have qb4_4 : wz.drew.cell? ⟨w.heap.size + 1, 4, none⟩ = some (.int .i64 x3) := (Bb4.2 4 _ rfl).1
    have qb4_5 : wz.drew.cell? ⟨w.heap.size + 1, 5, none⟩ = some (.int .i64 x4) := (Bb4.2 5 _ rfl).1
    have qb5_0 : wz.drew.cell? ⟨w.heap.size + 1 + 1, 0, none⟩ = some (.int .i64 2) := (Bb5.2 0 _ rfl).1
    have qb5_1 : wz.drew.cell? ⟨w.heap.size + 1 + 1, 1, none⟩ = some (.slice P2 np cp) := (Bb5.2 1 _ rfl).1
    have qb5_2 : wz.drew.cell? ⟨w.heap.size + 1 + 1, 2, none⟩ = some (.int .i64 y1) := (Bb5.2 2 _ rfl).1
    have qb5_3 : wz.drew.cell? ⟨w.heap.size + 1 + 1, 3, none⟩ = some (.int .i64 y2) := (Bb5.2 3 _ rfl).1
    have qb5_4 : wz.drew.cell? ⟨w.heap.size + 1 + 1, 4, none⟩ = some (.int .i64 y3) := (Bb5.2 4 _ rfl).1
    have qb5_5 : wz.drew.cell? ⟨w.heap.size + 1 + 1, 5, none⟩ = some (.int .i64 y4) := (Bb5.2 5 _ rfl).1
    clear FZ kw Bb2 Bb4 Bb5 b2 b4 b5 zr0 zs0 zr1 zs1 zr2 zs2 zr3 zs3 zr4 zs4 zr5 zs5 zr6 zs6 zr7 zs7 zr8 zs8 zr9 zs9 zr10 zs10 zr11 zs11 zr12 zs12 zab2_0 zfb2_0 zdb2_0 zeb2_0 zab4_0 zfb4_0 zdb4_0 zeb4_0 zab4_1 zfb4_1 zdb4_1 zeb4_1 zab4_2 zfb4_2 zdb4_2 zeb4_2 zab4_3 zfb4_3 zdb4_3 zeb4_3 zab4_4 zfb4_4 zdb4_4 zeb4_4 zab4_5 zfb4_5 zdb4_5 zeb4_5 zab5_0 zfb5_0 zdb5_0 zeb5_0 zab5_1 zfb5_1 zdb5_1 zeb5_1 zab5_2 zfb5_2 zdb5_2 zeb5_2 zab5_3 zfb5_3 zdb5_3 zeb5_3 zab5_4 zfb5_4 zdb5_4 zeb5_4 zab5_5 zfb5_5 zdb5_5 zeb5_5
    go_wp2_with fail
    try simp only [Exit.inBlock, Exit.then]
    exact bodyPost_ret (v := .tuple #[.agg #[.slice A1 N1 C1], .slice S1 q cq, .agg #[.int .i64 v, .slice P 0 cr, .int .i64 x1, .int .i64 x2, .int .i64 x3, .int .i64 x4], .agg #[.int .i64 2, .slice P2 np cp, .int .i64 y1, .int .i64 y2, .int .i64 y3, .int .i64 y4]]) (by simp [results, Tryz.results17, go_sem, qb2_0, qb4_0, qb4_1, qb4_2, qb4_3, qb4_4, qb4_5, qb5_0, qb5_1, qb5_2, qb5_3, qb5_4, qb5_5]) rfl ⟨_, _, _, _, _, _, _, _, _, _, _, _, _, _, _, _, ts, _, _, _, _, _, _, _, _, us, rfl, HI9.out, hN, HV9.out, HCAP.out, HSD.out, HT8.out, HT9.out, KW.out⟩
  have hn9 : (n7 : Int) > 0 := by omega
  have hn8 : (0 : Int) < (n7 : Int) := by omega
  have ca0 := (b10.2 0 _ rfl).1
  have ca1 := (b10.2 1 _ rfl).1
  have ca2 := (b10.2 2 _ rfl).1
  have ca3 := (b10.2 3 _ rfl).1
  have ca4 := (b10.2 4 _ rfl).1
  have ca5 := (b10.2 5 _ rfl).1
  go_wp2_with fail
  obtain ⟨w5, hX⟩ : ∃ u : World, u = w4.alloc (.cells #[.int .i64 2, .slice P2 np cp, .int .i64 y1, .int .i64 y2, .int .i64 y3, .int .i64 y4] 50) := ⟨_, rfl⟩
  have szY := hid (show w5.heap.size = w4.heap.size + 1 by rw [hX]; simp)
  clear ca0 ca1 ca2 ca3 ca4 ca5
  rw [← hX] at b2
  rw [← hX] at b4
  rw [← hX] at b5
  rw [← hX] at b9
  rw [← hX] at b10
  rw [← hX] at hc
  rw [← hX] at iG
  rw [← hX] at iS
  rw [← hX] at hT
  rw [← hX] at hF
  rw [← hX] at kw
  rw [← hX] at b11
  try rw [← hX]
  clear hX
  have sY := szY.out
  refine (one_any hc (by omega) (by omega)).mono ?_
  rintro e w6 ⟨p, rfl, hc6, ff⟩
  have sw6 := ff.size
  replace kw : Keeps w w6 := below_fr kw kw.size (by omega) ff
  replace b2 := b2.fr ff (by omega)
  replace b4 := b4.fr ff (by omega)
  replace b5 := b5.fr ff (by omega)
  replace b9 := b9.fr ff (by omega)
  replace b10 := b10.fr ff (by omega)
  replace b11 := b11.fr ff (by omega)
  replace iG := iG.fr ff (by omega)
  replace iS := Sl.fr iS ff (by omega)
  replace hT := hT.fr ff (by omega)
  replace hF := hF.fr (RwU.ok RwdT.ok) ff (by omega)
  clear hc ff
  have hc := hc6
  clear hc6
  cases p
  · skip
    replace hF := hF.uncap
    obtain ⟨P8, cp8, eq8, hcp8, hTT⟩ := hF.tabs (by omega) (by omega)
    injection eq8 with eq1 eq9 eq2
    subst eq1 eq2
    rw [hTL] at hTT
    clear eq9 hcp8 hF hc
    have zab2_0 := (b2.2 0 _ rfl).1
    have zfb2_0 := (b2.2 0 _ rfl).2
    have zdb2_0 := ((b2.keeps (keeps_d0 w6)).2 0 _ rfl).1
    have zeb2_0 := ((b2.keeps (keeps_d0 w6)).2 0 _ rfl).2
    have zab4_0 := (b4.2 0 _ rfl).1
    have zfb4_0 := (b4.2 0 _ rfl).2
    have zdb4_0 := ((b4.keeps (keeps_d0 w6)).2 0 _ rfl).1
    have zeb4_0 := ((b4.keeps (keeps_d0 w6)).2 0 _ rfl).2
    have zab4_1 := (b4.2 1 _ rfl).1
    have zfb4_1 := (b4.2 1 _ rfl).2
    have zdb4_1 := ((b4.keeps (keeps_d0 w6)).2 1 _ rfl).1
    have zeb4_1 := ((b4.keeps (keeps_d0 w6)).2 1 _ rfl).2
    have zab4_2 := (b4.2 2 _ rfl).1
    have zfb4_2 := (b4.2 2 _ rfl).2
    have zdb4_2 := ((b4.keeps (keeps_d0 w6)).2 2 _ rfl).1
    have zeb4_2 := ((b4.keeps (keeps_d0 w6)).2 2 _ rfl).2
    have zab4_3 := (b4.2 3 _ rfl).1
    have zfb4_3 := (b4.2 3 _ rfl).2
    have zdb4_3 := ((b4.keeps (keeps_d0 w6)).2 3 _ rfl).1
    have zeb4_3 := ((b4.keeps (keeps_d0 w6)).2 3 _ rfl).2
    have zab4_4 := (b4.2 4 _ rfl).1
    have zfb4_4 := (b4.2 4 _ rfl).2
    have zdb4_4 := ((b4.keeps (keeps_d0 w6)).2 4 _ rfl).1
    have zeb4_4 := ((b4.keeps (keeps_d0 w6)).2 4 _ rfl).2
    have zab4_5 := (b4.2 5 _ rfl).1
    have zfb4_5 := (b4.2 5 _ rfl).2
    have zdb4_5 := ((b4.keeps (keeps_d0 w6)).2 5 _ rfl).1
    have zeb4_5 := ((b4.keeps (keeps_d0 w6)).2 5 _ rfl).2
    have zab5_0 := (b5.2 0 _ rfl).1
    have zfb5_0 := (b5.2 0 _ rfl).2
    have zdb5_0 := ((b5.keeps (keeps_d0 w6)).2 0 _ rfl).1
    have zeb5_0 := ((b5.keeps (keeps_d0 w6)).2 0 _ rfl).2
    have zab5_1 := (b5.2 1 _ rfl).1
    have zfb5_1 := (b5.2 1 _ rfl).2
    have zdb5_1 := ((b5.keeps (keeps_d0 w6)).2 1 _ rfl).1
    have zeb5_1 := ((b5.keeps (keeps_d0 w6)).2 1 _ rfl).2
    have zab5_2 := (b5.2 2 _ rfl).1
    have zfb5_2 := (b5.2 2 _ rfl).2
    have zdb5_2 := ((b5.keeps (keeps_d0 w6)).2 2 _ rfl).1
    have zeb5_2 := ((b5.keeps (keeps_d0 w6)).2 2 _ rfl).2
    have zab5_3 := (b5.2 3 _ rfl).1
    have zfb5_3 := (b5.2 3 _ rfl).2
    have zdb5_3 := ((b5.keeps (keeps_d0 w6)).2 3 _ rfl).1
    have zeb5_3 := ((b5.keeps (keeps_d0 w6)).2 3 _ rfl).2
    have zab5_4 := (b5.2 4 _ rfl).1
    have zfb5_4 := (b5.2 4 _ rfl).2
    have zdb5_4 := ((b5.keeps (keeps_d0 w6)).2 4 _ rfl).1
    have zeb5_4 := ((b5.keeps (keeps_d0 w6)).2 4 _ rfl).2
    have zab5_5 := (b5.2 5 _ rfl).1
    have zfb5_5 := (b5.2 5 _ rfl).2
    have zdb5_5 := ((b5.keeps (keeps_d0 w6)).2 5 _ rfl).1
    have zeb5_5 := ((b5.keeps (keeps_d0 w6)).2 5 _ rfl).2
    have zr0 : w6.cell? ⟨w1.heap.size, 0, none⟩ = some (.slice A1 N1 C1) := (b9.2 0 _ rfl).1
    have zs0 : w6.drew.cell? ⟨w1.heap.size, 0, none⟩ = some (.slice A1 N1 C1) := zr0
    have zr1 : w6.cell? ⟨w1.heap.size + 1, 0, none⟩ = some (.int .i64 v) := (b10.2 0 _ rfl).1
    have zs1 : w6.drew.cell? ⟨w1.heap.size + 1, 0, none⟩ = some (.int .i64 v) := zr1
    have zr2 : w6.cell? ⟨w1.heap.size + 1, 1, none⟩ = some (.slice P n7 cr) := (b10.2 1 _ rfl).1
    have zs2 : w6.drew.cell? ⟨w1.heap.size + 1, 1, none⟩ = some (.slice P n7 cr) := zr2
    have zr3 : w6.cell? ⟨w1.heap.size + 1, 2, none⟩ = some (.int .i64 x1) := (b10.2 2 _ rfl).1
    have zs3 : w6.drew.cell? ⟨w1.heap.size + 1, 2, none⟩ = some (.int .i64 x1) := zr3
    have zr4 : w6.cell? ⟨w1.heap.size + 1, 3, none⟩ = some (.int .i64 x2) := (b10.2 3 _ rfl).1
    have zs4 : w6.drew.cell? ⟨w1.heap.size + 1, 3, none⟩ = some (.int .i64 x2) := zr4
    have zr5 : w6.cell? ⟨w1.heap.size + 1, 4, none⟩ = some (.int .i64 x3) := (b10.2 4 _ rfl).1
    have zs5 : w6.drew.cell? ⟨w1.heap.size + 1, 4, none⟩ = some (.int .i64 x3) := zr5
    have zr6 : w6.cell? ⟨w1.heap.size + 1, 5, none⟩ = some (.int .i64 x4) := (b10.2 5 _ rfl).1
    have zs6 : w6.drew.cell? ⟨w1.heap.size + 1, 5, none⟩ = some (.int .i64 x4) := zr6
    have zr7 : w6.cell? ⟨w4.heap.size, 0, none⟩ = some (.int .i64 2) := (b11.2 0 _ rfl).1
    have zs7 : w6.drew.cell? ⟨w4.heap.size, 0, none⟩ = some (.int .i64 2) := zr7
    have zr8 : w6.cell? ⟨w4.heap.size, 1, none⟩ = some (.slice P2 np cp) := (b11.2 1 _ rfl).1
    have zs8 : w6.drew.cell? ⟨w4.heap.size, 1, none⟩ = some (.slice P2 np cp) := zr8
    have zr9 : w6.cell? ⟨w4.heap.size, 2, none⟩ = some (.int .i64 y1) := (b11.2 2 _ rfl).1
    have zs9 : w6.drew.cell? ⟨w4.heap.size, 2, none⟩ = some (.int .i64 y1) := zr9
    have zr10 : w6.cell? ⟨w4.heap.size, 3, none⟩ = some (.int .i64 y2) := (b11.2 3 _ rfl).1
    have zs10 : w6.drew.cell? ⟨w4.heap.size, 3, none⟩ = some (.int .i64 y2) := zr10
    have zr11 : w6.cell? ⟨w4.heap.size, 4, none⟩ = some (.int .i64 y3) := (b11.2 4 _ rfl).1
    have zs11 : w6.drew.cell? ⟨w4.heap.size, 4, none⟩ = some (.int .i64 y3) := zr11
    have zr12 : w6.cell? ⟨w4.heap.size, 5, none⟩ = some (.int .i64 y4) := (b11.2 5 _ rfl).1
    have zs12 : w6.drew.cell? ⟨w4.heap.size, 5, none⟩ = some (.int .i64 y4) := zr12
    have nq0_0 : w1.heap.size ≠ w.heap.size := by omega
    have nr0_0 : w.heap.size ≠ w1.heap.size := by omega
    have nq0_1 : w1.heap.size ≠ w.heap.size + 1 := by omega
    have nr0_1 : w.heap.size + 1 ≠ w1.heap.size := by omega
    have nq0_2 : w1.heap.size ≠ w.heap.size + 1 + 1 := by omega
    have nr0_2 : w.heap.size + 1 + 1 ≠ w1.heap.size := by omega
    have nq1_0 : w1.heap.size + 1 ≠ w.heap.size := by omega
    have nr1_0 : w.heap.size ≠ w1.heap.size + 1 := by omega
    have nq1_1 : w1.heap.size + 1 ≠ w.heap.size + 1 := by omega
    have nr1_1 : w.heap.size + 1 ≠ w1.heap.size + 1 := by omega
    have nq1_2 : w1.heap.size + 1 ≠ w.heap.size + 1 + 1 := by omega
    have nr1_2 : w.heap.size + 1 + 1 ≠ w1.heap.size + 1 := by omega
    have nq2_0 : w4.heap.size ≠ w.heap.size := by omega
    have nr2_0 : w.heap.size ≠ w4.heap.size := by omega
    have nq2_1 : w4.heap.size ≠ w.heap.size + 1 := by omega
    have nr2_1 : w.heap.size + 1 ≠ w4.heap.size := by omega
    have nq2_2 : w4.heap.size ≠ w.heap.size + 1 + 1 := by omega
    have nr2_2 : w.heap.size + 1 + 1 ≠ w4.heap.size := by omega
    go_wp2_with fail
    go_region
    have FZ := (Fr.setCell (Fr.setCell (Fr.setCell (Fr.setCell (Fr.setCell (Fr.setCell (Fr.setCell (Fr.setCell (Fr.setCell (Fr.setCell (Fr.setCell (Fr.setCell (Fr.setCell (Fr.refl w.heap.size (w.heap.size + 4) w6) (p := ⟨w.heap.size, 0, none⟩) (by show w.heap.size ≤ w.heap.size; omega) (by show w.heap.size < w.heap.size + 4; omega) (.slice A1 N1 C1)) (p := ⟨w.heap.size + 1, 0, none⟩) (by show w.heap.size ≤ w.heap.size + 1; omega) (by show w.heap.size + 1 < w.heap.size + 4; omega) (.int .i64 v)) (p := ⟨w.heap.size + 1, 1, none⟩) (by show w.heap.size ≤ w.heap.size + 1; omega) (by show w.heap.size + 1 < w.heap.size + 4; omega) (.slice P n7 cr)) (p := ⟨w.heap.size + 1, 2, none⟩) (by show w.heap.size ≤ w.heap.size + 1; omega) (by show w.heap.size + 1 < w.heap.size + 4; omega) (.int .i64 x1)) (p := ⟨w.heap.size + 1, 3, none⟩) (by show w.heap.size ≤ w.heap.size + 1; omega) (by show w.heap.size + 1 < w.heap.size + 4; omega) (.int .i64 x2)) (p := ⟨w.heap.size + 1, 4, none⟩) (by show w.heap.size ≤ w.heap.size + 1; omega) (by show w.heap.size + 1 < w.heap.size + 4; omega) (.int .i64 x3)) (p := ⟨w.heap.size + 1, 5, none⟩) (by show w.heap.size ≤ w.heap.size + 1; omega) (by show w.heap.size + 1 < w.heap.size + 4; omega) (.int .i64 x4)) (p := ⟨w.heap.size + 1 + 1, 0, none⟩) (by show w.heap.size ≤ w.heap.size + 1 + 1; omega) (by show w.heap.size + 1 + 1 < w.heap.size + 4; omega) (.int .i64 2)) (p := ⟨w.heap.size + 1 + 1, 1, none⟩) (by show w.heap.size ≤ w.heap.size + 1 + 1; omega) (by show w.heap.size + 1 + 1 < w.heap.size + 4; omega) (.slice P2 np cp)) (p := ⟨w.heap.size + 1 + 1, 2, none⟩) (by show w.heap.size ≤ w.heap.size + 1 + 1; omega) (by show w.heap.size + 1 + 1 < w.heap.size + 4; omega) (.int .i64 y1)) (p := ⟨w.heap.size + 1 + 1, 3, none⟩) (by show w.heap.size ≤ w.heap.size + 1 + 1; omega) (by show w.heap.size + 1 + 1 < w.heap.size + 4; omega) (.int .i64 y2)) (p := ⟨w.heap.size + 1 + 1, 4, none⟩) (by show w.heap.size ≤ w.heap.size + 1 + 1; omega) (by show w.heap.size + 1 + 1 < w.heap.size + 4; omega) (.int .i64 y3)) (p := ⟨w.heap.size + 1 + 1, 5, none⟩) (by show w.heap.size ≤ w.heap.size + 1 + 1; omega) (by show w.heap.size + 1 + 1 < w.heap.size + 4; omega) (.int .i64 y4))
    have Bb2 := (((((((((((((b2.set 0 (.slice A1 N1 C1)).far (p := ⟨w.heap.size + 1, 0, none⟩) (by show w.heap.size ≠ w.heap.size + 1; omega) (.int .i64 v)).far (p := ⟨w.heap.size + 1, 1, none⟩) (by show w.heap.size ≠ w.heap.size + 1; omega) (.slice P n7 cr)).far (p := ⟨w.heap.size + 1, 2, none⟩) (by show w.heap.size ≠ w.heap.size + 1; omega) (.int .i64 x1)).far (p := ⟨w.heap.size + 1, 3, none⟩) (by show w.heap.size ≠ w.heap.size + 1; omega) (.int .i64 x2)).far (p := ⟨w.heap.size + 1, 4, none⟩) (by show w.heap.size ≠ w.heap.size + 1; omega) (.int .i64 x3)).far (p := ⟨w.heap.size + 1, 5, none⟩) (by show w.heap.size ≠ w.heap.size + 1; omega) (.int .i64 x4)).far (p := ⟨w.heap.size + 1 + 1, 0, none⟩) (by show w.heap.size ≠ w.heap.size + 1 + 1; omega) (.int .i64 2)).far (p := ⟨w.heap.size + 1 + 1, 1, none⟩) (by show w.heap.size ≠ w.heap.size + 1 + 1; omega) (.slice P2 np cp)).far (p := ⟨w.heap.size + 1 + 1, 2, none⟩) (by show w.heap.size ≠ w.heap.size + 1 + 1; omega) (.int .i64 y1)).far (p := ⟨w.heap.size + 1 + 1, 3, none⟩) (by show w.heap.size ≠ w.heap.size + 1 + 1; omega) (.int .i64 y2)).far (p := ⟨w.heap.size + 1 + 1, 4, none⟩) (by show w.heap.size ≠ w.heap.size + 1 + 1; omega) (.int .i64 y3)).far (p := ⟨w.heap.size + 1 + 1, 5, none⟩) (by show w.heap.size ≠ w.heap.size + 1 + 1; omega) (.int .i64 y4))
    have Bb4 := (((((((((((((b4.far (p := ⟨w.heap.size, 0, none⟩) (by show w.heap.size + 1 ≠ w.heap.size; omega) (.slice A1 N1 C1)).set 0 (.int .i64 v)).set 1 (.slice P n7 cr)).set 2 (.int .i64 x1)).set 3 (.int .i64 x2)).set 4 (.int .i64 x3)).set 5 (.int .i64 x4)).far (p := ⟨w.heap.size + 1 + 1, 0, none⟩) (by show w.heap.size + 1 ≠ w.heap.size + 1 + 1; omega) (.int .i64 2)).far (p := ⟨w.heap.size + 1 + 1, 1, none⟩) (by show w.heap.size + 1 ≠ w.heap.size + 1 + 1; omega) (.slice P2 np cp)).far (p := ⟨w.heap.size + 1 + 1, 2, none⟩) (by show w.heap.size + 1 ≠ w.heap.size + 1 + 1; omega) (.int .i64 y1)).far (p := ⟨w.heap.size + 1 + 1, 3, none⟩) (by show w.heap.size + 1 ≠ w.heap.size + 1 + 1; omega) (.int .i64 y2)).far (p := ⟨w.heap.size + 1 + 1, 4, none⟩) (by show w.heap.size + 1 ≠ w.heap.size + 1 + 1; omega) (.int .i64 y3)).far (p := ⟨w.heap.size + 1 + 1, 5, none⟩) (by show w.heap.size + 1 ≠ w.heap.size + 1 + 1; omega) (.int .i64 y4))
    have Bb5 := (((((((((((((b5.far (p := ⟨w.heap.size, 0, none⟩) (by show w.heap.size + 1 + 1 ≠ w.heap.size; omega) (.slice A1 N1 C1)).far (p := ⟨w.heap.size + 1, 0, none⟩) (by show w.heap.size + 1 + 1 ≠ w.heap.size + 1; omega) (.int .i64 v)).far (p := ⟨w.heap.size + 1, 1, none⟩) (by show w.heap.size + 1 + 1 ≠ w.heap.size + 1; omega) (.slice P n7 cr)).far (p := ⟨w.heap.size + 1, 2, none⟩) (by show w.heap.size + 1 + 1 ≠ w.heap.size + 1; omega) (.int .i64 x1)).far (p := ⟨w.heap.size + 1, 3, none⟩) (by show w.heap.size + 1 + 1 ≠ w.heap.size + 1; omega) (.int .i64 x2)).far (p := ⟨w.heap.size + 1, 4, none⟩) (by show w.heap.size + 1 + 1 ≠ w.heap.size + 1; omega) (.int .i64 x3)).far (p := ⟨w.heap.size + 1, 5, none⟩) (by show w.heap.size + 1 + 1 ≠ w.heap.size + 1; omega) (.int .i64 x4)).set 0 (.int .i64 2)).set 1 (.slice P2 np cp)).set 2 (.int .i64 y1)).set 3 (.int .i64 y2)).set 4 (.int .i64 y3)).set 5 (.int .i64 y4))
    have sZ : (((((((((((((w6.setCell ⟨w.heap.size, 0, none⟩ (.slice A1 N1 C1)).setCell ⟨w.heap.size + 1, 0, none⟩ (.int .i64 v)).setCell ⟨w.heap.size + 1, 1, none⟩ (.slice P n7 cr)).setCell ⟨w.heap.size + 1, 2, none⟩ (.int .i64 x1)).setCell ⟨w.heap.size + 1, 3, none⟩ (.int .i64 x2)).setCell ⟨w.heap.size + 1, 4, none⟩ (.int .i64 x3)).setCell ⟨w.heap.size + 1, 5, none⟩ (.int .i64 x4)).setCell ⟨w.heap.size + 1 + 1, 0, none⟩ (.int .i64 2)).setCell ⟨w.heap.size + 1 + 1, 1, none⟩ (.slice P2 np cp)).setCell ⟨w.heap.size + 1 + 1, 2, none⟩ (.int .i64 y1)).setCell ⟨w.heap.size + 1 + 1, 3, none⟩ (.int .i64 y2)).setCell ⟨w.heap.size + 1 + 1, 4, none⟩ (.int .i64 y3)).setCell ⟨w.heap.size + 1 + 1, 5, none⟩ (.int .i64 y4)).heap.size = w6.heap.size := by simp [World.setCell]
    obtain ⟨wz, hX⟩ : ∃ u : World, u = (((((((((((((w6.setCell ⟨w.heap.size, 0, none⟩ (.slice A1 N1 C1)).setCell ⟨w.heap.size + 1, 0, none⟩ (.int .i64 v)).setCell ⟨w.heap.size + 1, 1, none⟩ (.slice P n7 cr)).setCell ⟨w.heap.size + 1, 2, none⟩ (.int .i64 x1)).setCell ⟨w.heap.size + 1, 3, none⟩ (.int .i64 x2)).setCell ⟨w.heap.size + 1, 4, none⟩ (.int .i64 x3)).setCell ⟨w.heap.size + 1, 5, none⟩ (.int .i64 x4)).setCell ⟨w.heap.size + 1 + 1, 0, none⟩ (.int .i64 2)).setCell ⟨w.heap.size + 1 + 1, 1, none⟩ (.slice P2 np cp)).setCell ⟨w.heap.size + 1 + 1, 2, none⟩ (.int .i64 y1)).setCell ⟨w.heap.size + 1 + 1, 3, none⟩ (.int .i64 y2)).setCell ⟨w.heap.size + 1 + 1, 4, none⟩ (.int .i64 y3)).setCell ⟨w.heap.size + 1 + 1, 5, none⟩ (.int .i64 y4)) := ⟨_, rfl⟩
    rw [← hX] at FZ sZ Bb2 Bb4 Bb5
    rw [← hX]
    clear hX
    have sE : wz.drew.heap.size = wz.heap.size := rfl
    have KW := hid (show Keeps w wz.drew from Keeps.trans (below_fr kw kw.size (Nat.le_refl _) FZ) (keeps_d0 wz))
    have HI9 := hid (((iG.fr FZ (by omega)).keeps (keeps_d0 wz)).widen (lo' := w.heap.size) (hi' := wz.drew.heap.size) (by omega) (by omega) (Nat.le_refl _))
    have HV9 := hid (Sl.widen (lo' := w.heap.size) (hi' := wz.drew.heap.size) (Sl.keeps (Sl.fr iS FZ (by omega)) (keeps_d0 wz)) (by omega) (by omega) (Nat.le_refl _))
    have HT8 := hid (Tabs.wide (lo' := w.heap.size) (hi' := wz.drew.heap.size) ((hT.fr FZ (by omega)).keeps (keeps_d0 wz)) (by omega) (by omega) (Nat.le_refl _))
    have HT9 := hid (Tabs.wide (lo' := w.heap.size) (hi' := wz.drew.heap.size) ((hTT.fr FZ (by omega)).keeps (keeps_d0 wz)) (by omega) (by omega) (Nat.le_refl _))
    have qb2_0 : wz.drew.cell? ⟨w.heap.size, 0, none⟩ = some (.slice A1 N1 C1) := (Bb2.2 0 _ rfl).1
    have qb4_0 : wz.drew.cell? ⟨w.heap.size + 1, 0, none⟩ = some (.int .i64 v) := (Bb4.2 0 _ rfl).1
    have qb4_1 : wz.drew.cell? ⟨w.heap.size + 1, 1, none⟩ = some (.slice P n7 cr) := (Bb4.2 1 _ rfl).1
    have qb4_2 : wz.drew.cell? ⟨w.heap.size + 1, 2, none⟩ = some (.int .i64 x1) := (Bb4.2 2 _ rfl).1
    have qb4_3 : wz.drew.cell? ⟨w.heap.size + 1, 3, none⟩ = some (.int .i64 x2) := (Bb4.2 3 _ rfl).1
    have qb4_4 : wz.drew.cell? ⟨w.heap.size + 1, 4, none⟩ = some (.int .i64 x3) := (Bb4.2 4 _ rfl).1
    have qb4_5 : wz.drew.cell? ⟨w.heap.size + 1, 5, none⟩ = some (.int .i64 x4) := (Bb4.2 5 _ rfl).1
    have qb5_0 : wz.drew.cell? ⟨w.heap.size + 1 + 1, 0, none⟩ = some (.int .i64 2) := (Bb5.2 0 _ rfl).1
    have qb5_1 : wz.drew.cell? ⟨w.heap.size + 1 + 1, 1, none⟩ = some (.slice P2 np cp) := (Bb5.2 1 _ rfl).1
    have qb5_2 : wz.drew.cell? ⟨w.heap.size + 1 + 1, 2, none⟩ = some (.int .i64 y1) := (Bb5.2 2 _ rfl).1
    have qb5_3 : wz.drew.cell? ⟨w.heap.size + 1 + 1, 3, none⟩ = some (.int .i64 y2) := (Bb5.2 3 _ rfl).1
    have qb5_4 : wz.drew.cell? ⟨w.heap.size + 1 + 1, 4, none⟩ = some (.int .i64 y3) := (Bb5.2 4 _ rfl).1
    have qb5_5 : wz.drew.cell? ⟨w.heap.size + 1 + 1, 5, none⟩ = some (.int .i64 y4) := (Bb5.2 5 _ rfl).1
    clear FZ kw Bb2 Bb4 Bb5 b2 b4 b5 zr0 zs0 zr1 zs1 zr2 zs2 zr3 zs3 zr4 zs4 zr5 zs5 zr6 zs6 zr7 zs7 zr8 zs8 zr9 zs9 zr10 zs10 zr11 zs11 zr12 zs12 zab2_0 zfb2_0 zdb2_0 zeb2_0 zab4_0 zfb4_0 zdb4_0 zeb4_0 zab4_1 zfb4_1 zdb4_1 zeb4_1 zab4_2 zfb4_2 zdb4_2 zeb4_2 zab4_3 zfb4_3 zdb4_3 zeb4_3 zab4_4 zfb4_4 zdb4_4 zeb4_4 zab4_5 zfb4_5 zdb4_5 zeb4_5 zab5_0 zfb5_0 zdb5_0 zeb5_0 zab5_1 zfb5_1 zdb5_1 zeb5_1 zab5_2 zfb5_2 zdb5_2 zeb5_2 zab5_3 zfb5_3 zdb5_3 zeb5_3 zab5_4 zfb5_4 zdb5_4 zeb5_4 zab5_5 zfb5_5 zdb5_5 zeb5_5
    go_wp2_with fail
    try simp only [Exit.inBlock, Exit.then]
    exact bodyPost_ret (v := .tuple #[.agg #[.slice A1 N1 C1], .slice S1 q cq, .agg #[.int .i64 v, .slice P n7 cr, .int .i64 x1, .int .i64 x2, .int .i64 x3, .int .i64 x4], .agg #[.int .i64 2, .slice P2 np cp, .int .i64 y1, .int .i64 y2, .int .i64 y3, .int .i64 y4]]) (by simp [results, Tryz.results17, go_sem, qb2_0, qb4_0, qb4_1, qb4_2, qb4_3, qb4_4, qb4_5, qb5_0, qb5_1, qb5_2, qb5_3, qb5_4, qb5_5]) rfl ⟨_, _, _, _, _, _, _, _, _, _, _, _, _, _, _, _, ts, _, _, _, _, _, _, _, _, us, rfl, HI9.out, hN, HV9.out, HCAP.out, HSD.out, HT8.out, HT9.out, KW.out⟩
  obtain ⟨b', off', lu, V', n', c', H', m', d', su, vs', xs', rfl, hb1, hb2, f0, f1, f2, f3, gv, gh, hx2⟩ := hT.at_ h0
  clear hx2
  rw [Nat.zero_mul, Nat.add_zero] at f0 f1 f2 f3
  go_wp2_with fail
  have f0D : w6.drew.cell? ⟨b', off', none⟩ = some (.int .i64 lu) := f0
  have f1D : w6.drew.cell? ⟨b', off' + 1, none⟩ = some (.slice V' n' c') := f1
  have f2D : w6.drew.cell? ⟨b', off' + 2, none⟩ = some (.slice H' m' d') := f2
  have f3D : w6.drew.cell? ⟨b', off' + 3, none⟩ = some (.int .i64 su) := f3
  have a1D : w6.drew.cell? ⟨w1.heap.size + 1, 1, none⟩ = some (.slice (some ⟨b', off', none⟩) n7 cr) := ((b10.keeps (keeps_d0 w6)).2 1 _ rfl).1
  have b1D : w6.drew.cell? ⟨w4.heap.size, 1, none⟩ = some (.slice P2 np cp) := ((b11.keeps (keeps_d0 w6)).2 1 _ rfl).1
  have hFD := (hF.keeps (RwU.ok RwdT.ok) (keeps_d0 w6)).lowQ (m' := w.heap.size + 4) (by omega)
  have sD : w6.drew.heap.size = w6.heap.size := rfl
  have e5 := gv.1
  have e6 := gh.1
  subst e5 e6
  have gvD := gv.keeps (keeps_d0 w6)
  have ghD := gh.keeps (keeps_d0 w6)
  have b11D := b11.keeps (keeps_d0 w6)
  have HNE := hid (show (Value.slice P2 np cp).ownBlock ≠ some w4.heap.size from fun e => by have := HLR.out _ e; omega)
  have eR : (w6.drew.alloc (.cells #[.int .i64 lu, .slice V' vs'.length c', .slice H' xs'.length d', .int .i64 su] 61)).cell? ⟨w4.heap.size, 1, none⟩ = some (.slice P2 np cp) := ((b11D.keeps (keeps_alloc w6.drew (.cells #[.int .i64 lu, .slice V' vs'.length c', .slice H' xs'.length d', .int .i64 su] 61))).2 1 _ rfl).1
  have a1W : w6.cell? ⟨w1.heap.size + 1, 1, none⟩ = some (.slice (some ⟨b', off', none⟩) n7 cr) := a1D
  have b1W : w6.cell? ⟨w4.heap.size, 1, none⟩ = some (.slice P2 np cp) := b1D
  have eR2 : (w6.alloc (.cells #[.int .i64 lu, .slice V' vs'.length c', .slice H' xs'.length d', .int .i64 su] 61)).cell? ⟨w4.heap.size, 1, none⟩ = some (.slice P2 np cp) := ((b11.keeps (keeps_alloc w6 (.cells #[.int .i64 lu, .slice V' vs'.length c', .slice H' xs'.length d', .int .i64 su] 61))).2 1 _ rfl).1
  go_region_law ((first | (refine step_rowB (a0 := (lu, vs', xs', su)) (x := w.heap.size + 4) (y := w1.heap.size) (new := [.int .i64 lu, .slice V' vs'.length c', .slice H' xs'.length d', .int .i64 su]) HIT.out rfl (by decide) (by decide) (RwU.ok RwdT.ok) hFD (by omega) (by omega) rfl (fun y hy => by simp at hy; rcases hy with rfl | rfl | rfl | rfl <;> rfl) (by omega) (by omega) (fun g e => .inr (by have := (HLR.out g e).1; omega)) ⟨⟨V', c', H', d', rfl, rfl, rfl, rfl, gvD, ghD⟩, by omega⟩ _ _ rfl rfl Tryz.underlying44 rfl rfl ?_; intro v9 w9 cs9 L9 U9 hF9 hg9 hb9; obtain ⟨A9, CQ9, e9⟩ := hF9.has.form; obtain ⟨nt, hnt⟩ : ∃ x, (us ++ [(lu, vs', xs', su)]).length = x := ⟨_, rfl⟩; rw [hnt] at e9; subst e9; have B11 := bl_grown b11D hg9 HNE.out; have z1 := (B11.2 1 _ rfl).1; have z2 := (B11.2 1 _ rfl).2)))
  all_goals (
    have HOB := hid (show (Value.slice A9 nt CQ9).ownBlock ≠ some w4.heap.size from fun e => by rcases hb9 with h2 | h2; (exact HNE.out (h2 ▸ e)); (rw [e] at h2; injection h2 with h2; omega))
    have KB := hFD.below (by omega) hg9
    have FB := hid (fr_belowQ KB)
    have s9 : w6.heap.size ≤ w9.heap.size := KB.size
    have HTS := hid (show (us ++ [(lu, vs', xs', su)]).length ≤ 22 by simp; omega)
    have F1 := hid (fr_one (w := w9) (p := w4.heap.size) (i := 1) (.slice A9 nt CQ9))
    have KW9 := hid (show Keeps w (w9.setCell ⟨w4.heap.size, 1, none⟩ (.slice A9 nt CQ9)) from below_fr (below_fr (Keeps.trans kw (keeps_d0 w6)) (by have := kw.size; omega) (by omega) FB.out) (by omega) (by omega) F1.out)
    have Nb2 := hid (((b2.keeps (keeps_d0 w6)).fr FB.out (by omega)).fr F1.out (by omega))
    have Nb4 := hid (((b4.keeps (keeps_d0 w6)).fr FB.out (by omega)).fr F1.out (by omega))
    have Nb5 := hid (((b5.keeps (keeps_d0 w6)).fr FB.out (by omega)).fr F1.out (by omega))
    have Nb9 := hid (((b9.keeps (keeps_d0 w6)).fr FB.out (by omega)).fr F1.out (by omega))
    have Nb10 := hid (((b10.keeps (keeps_d0 w6)).fr FB.out (by omega)).fr F1.out (by omega))
    have Nb11 := hid (B11.set 1 (.slice A9 nt CQ9))
    have IG := hid (((iG.keeps (keeps_d0 w6)).fr FB.out (by omega)).fr F1.out (by omega))
    have IS := hid (Sl.fr (Sl.fr (Sl.keeps iS (keeps_d0 w6)) FB.out (by omega)) F1.out (by omega))
    have HTT := hid (((hT.keeps (keeps_d0 w6)).fr FB.out (by omega)).fr F1.out (by omega))
    have HF := hid (hF9.stow (i := 1) (x := (.slice A9 nt CQ9)) RwdT.ok HOB.out)
    have sX9 : (w9.setCell ⟨w4.heap.size, 1, none⟩ (.slice A9 nt CQ9)).heap.size = w9.heap.size := by simp [World.setCell]
    clear b2 b4 b5 b9 b10 b11 iG iS hT hF kw f0 f1 f2 f3 f0D f1D f2D f3D a1D b1D hFD gv gh gvD ghD b11D eR a1W b1W eR2 hF9 hg9 hb9 B11 z1 z2 KB FB F1 hc
    have hc := trivial
    have b2 := Nb2.out
    clear Nb2
    have b4 := Nb4.out
    clear Nb4
    have b5 := Nb5.out
    clear Nb5
    have b9 := Nb9.out
    clear Nb9
    have b10 := Nb10.out
    clear Nb10
    have b11 := Nb11.out
    clear Nb11
    have iG := IG.out
    have iS := IS.out
    have hT := HTT.out
    have hF := HF.out
    have kw := KW9.out
    clear IG IS HTT HF KW9
    have h22 := HTS.out
    obtain ⟨wz, hX⟩ : ∃ u : World, u = (w9.setCell ⟨w4.heap.size, 1, none⟩ (.slice A9 nt CQ9)) := ⟨_, rfl⟩
    rw [← hX] at b2
    rw [← hX] at b4
    rw [← hX] at b5
    rw [← hX] at b9
    rw [← hX] at b10
    rw [← hX] at b11
    rw [← hX] at iG
    rw [← hX] at iS
    rw [← hX] at hT
    rw [← hX] at hF
    rw [← hX] at kw
    rw [← hX] at sX9
    rw [← hX]
    clear hX
    obtain ⟨P8, cp8, eq8, hcp8, hTT⟩ := hF.tabs (by omega) (by omega)
    injection eq8 with eq1 eq9 eq2
    subst eq1 eq2
    rw [hnt] at hTT
    clear eq9 hcp8 hF hc
    have zab2_0 := (b2.2 0 _ rfl).1
    have zfb2_0 := (b2.2 0 _ rfl).2
    have zdb2_0 := ((b2.keeps (keeps_d0 wz)).2 0 _ rfl).1
    have zeb2_0 := ((b2.keeps (keeps_d0 wz)).2 0 _ rfl).2
    have zab4_0 := (b4.2 0 _ rfl).1
    have zfb4_0 := (b4.2 0 _ rfl).2
    have zdb4_0 := ((b4.keeps (keeps_d0 wz)).2 0 _ rfl).1
    have zeb4_0 := ((b4.keeps (keeps_d0 wz)).2 0 _ rfl).2
    have zab4_1 := (b4.2 1 _ rfl).1
    have zfb4_1 := (b4.2 1 _ rfl).2
    have zdb4_1 := ((b4.keeps (keeps_d0 wz)).2 1 _ rfl).1
    have zeb4_1 := ((b4.keeps (keeps_d0 wz)).2 1 _ rfl).2
    have zab4_2 := (b4.2 2 _ rfl).1
    have zfb4_2 := (b4.2 2 _ rfl).2
    have zdb4_2 := ((b4.keeps (keeps_d0 wz)).2 2 _ rfl).1
    have zeb4_2 := ((b4.keeps (keeps_d0 wz)).2 2 _ rfl).2
    have zab4_3 := (b4.2 3 _ rfl).1
    have zfb4_3 := (b4.2 3 _ rfl).2
    have zdb4_3 := ((b4.keeps (keeps_d0 wz)).2 3 _ rfl).1
    have zeb4_3 := ((b4.keeps (keeps_d0 wz)).2 3 _ rfl).2
    have zab4_4 := (b4.2 4 _ rfl).1
    have zfb4_4 := (b4.2 4 _ rfl).2
    have zdb4_4 := ((b4.keeps (keeps_d0 wz)).2 4 _ rfl).1
    have zeb4_4 := ((b4.keeps (keeps_d0 wz)).2 4 _ rfl).2
    have zab4_5 := (b4.2 5 _ rfl).1
    have zfb4_5 := (b4.2 5 _ rfl).2
    have zdb4_5 := ((b4.keeps (keeps_d0 wz)).2 5 _ rfl).1
    have zeb4_5 := ((b4.keeps (keeps_d0 wz)).2 5 _ rfl).2
    have zab5_0 := (b5.2 0 _ rfl).1
    have zfb5_0 := (b5.2 0 _ rfl).2
    have zdb5_0 := ((b5.keeps (keeps_d0 wz)).2 0 _ rfl).1
    have zeb5_0 := ((b5.keeps (keeps_d0 wz)).2 0 _ rfl).2
    have zab5_1 := (b5.2 1 _ rfl).1
    have zfb5_1 := (b5.2 1 _ rfl).2
    have zdb5_1 := ((b5.keeps (keeps_d0 wz)).2 1 _ rfl).1
    have zeb5_1 := ((b5.keeps (keeps_d0 wz)).2 1 _ rfl).2
    have zab5_2 := (b5.2 2 _ rfl).1
    have zfb5_2 := (b5.2 2 _ rfl).2
    have zdb5_2 := ((b5.keeps (keeps_d0 wz)).2 2 _ rfl).1
    have zeb5_2 := ((b5.keeps (keeps_d0 wz)).2 2 _ rfl).2
    have zab5_3 := (b5.2 3 _ rfl).1
    have zfb5_3 := (b5.2 3 _ rfl).2
    have zdb5_3 := ((b5.keeps (keeps_d0 wz)).2 3 _ rfl).1
    have zeb5_3 := ((b5.keeps (keeps_d0 wz)).2 3 _ rfl).2
    have zab5_4 := (b5.2 4 _ rfl).1
    have zfb5_4 := (b5.2 4 _ rfl).2
    have zdb5_4 := ((b5.keeps (keeps_d0 wz)).2 4 _ rfl).1
    have zeb5_4 := ((b5.keeps (keeps_d0 wz)).2 4 _ rfl).2
    have zab5_5 := (b5.2 5 _ rfl).1
    have zfb5_5 := (b5.2 5 _ rfl).2
    have zdb5_5 := ((b5.keeps (keeps_d0 wz)).2 5 _ rfl).1
    have zeb5_5 := ((b5.keeps (keeps_d0 wz)).2 5 _ rfl).2
    have zr0 : wz.cell? ⟨w1.heap.size, 0, none⟩ = some (.slice A1 N1 C1) := (b9.2 0 _ rfl).1
    have zs0 : wz.drew.cell? ⟨w1.heap.size, 0, none⟩ = some (.slice A1 N1 C1) := zr0
    have zr1 : wz.cell? ⟨w1.heap.size + 1, 0, none⟩ = some (.int .i64 v) := (b10.2 0 _ rfl).1
    have zs1 : wz.drew.cell? ⟨w1.heap.size + 1, 0, none⟩ = some (.int .i64 v) := zr1
    have zr2 : wz.cell? ⟨w1.heap.size + 1, 1, none⟩ = some (.slice (some ⟨b', off', none⟩) n7 cr) := (b10.2 1 _ rfl).1
    have zs2 : wz.drew.cell? ⟨w1.heap.size + 1, 1, none⟩ = some (.slice (some ⟨b', off', none⟩) n7 cr) := zr2
    have zr3 : wz.cell? ⟨w1.heap.size + 1, 2, none⟩ = some (.int .i64 x1) := (b10.2 2 _ rfl).1
    have zs3 : wz.drew.cell? ⟨w1.heap.size + 1, 2, none⟩ = some (.int .i64 x1) := zr3
    have zr4 : wz.cell? ⟨w1.heap.size + 1, 3, none⟩ = some (.int .i64 x2) := (b10.2 3 _ rfl).1
    have zs4 : wz.drew.cell? ⟨w1.heap.size + 1, 3, none⟩ = some (.int .i64 x2) := zr4
    have zr5 : wz.cell? ⟨w1.heap.size + 1, 4, none⟩ = some (.int .i64 x3) := (b10.2 4 _ rfl).1
    have zs5 : wz.drew.cell? ⟨w1.heap.size + 1, 4, none⟩ = some (.int .i64 x3) := zr5
    have zr6 : wz.cell? ⟨w1.heap.size + 1, 5, none⟩ = some (.int .i64 x4) := (b10.2 5 _ rfl).1
    have zs6 : wz.drew.cell? ⟨w1.heap.size + 1, 5, none⟩ = some (.int .i64 x4) := zr6
    have zr7 : wz.cell? ⟨w4.heap.size, 0, none⟩ = some (.int .i64 2) := (b11.2 0 _ rfl).1
    have zs7 : wz.drew.cell? ⟨w4.heap.size, 0, none⟩ = some (.int .i64 2) := zr7
    have zr8 : wz.cell? ⟨w4.heap.size, 1, none⟩ = some (.slice A9 nt CQ9) := (b11.2 1 _ rfl).1
    have zs8 : wz.drew.cell? ⟨w4.heap.size, 1, none⟩ = some (.slice A9 nt CQ9) := zr8
    have zr9 : wz.cell? ⟨w4.heap.size, 2, none⟩ = some (.int .i64 y1) := (b11.2 2 _ rfl).1
    have zs9 : wz.drew.cell? ⟨w4.heap.size, 2, none⟩ = some (.int .i64 y1) := zr9
    have zr10 : wz.cell? ⟨w4.heap.size, 3, none⟩ = some (.int .i64 y2) := (b11.2 3 _ rfl).1
    have zs10 : wz.drew.cell? ⟨w4.heap.size, 3, none⟩ = some (.int .i64 y2) := zr10
    have zr11 : wz.cell? ⟨w4.heap.size, 4, none⟩ = some (.int .i64 y3) := (b11.2 4 _ rfl).1
    have zs11 : wz.drew.cell? ⟨w4.heap.size, 4, none⟩ = some (.int .i64 y3) := zr11
    have zr12 : wz.cell? ⟨w4.heap.size, 5, none⟩ = some (.int .i64 y4) := (b11.2 5 _ rfl).1
    have zs12 : wz.drew.cell? ⟨w4.heap.size, 5, none⟩ = some (.int .i64 y4) := zr12
    have nq0_0 : w1.heap.size ≠ w.heap.size := by omega
    have nr0_0 : w.heap.size ≠ w1.heap.size := by omega
    have nq0_1 : w1.heap.size ≠ w.heap.size + 1 := by omega
    have nr0_1 : w.heap.size + 1 ≠ w1.heap.size := by omega
    have nq0_2 : w1.heap.size ≠ w.heap.size + 1 + 1 := by omega
    have nr0_2 : w.heap.size + 1 + 1 ≠ w1.heap.size := by omega
    have nq1_0 : w1.heap.size + 1 ≠ w.heap.size := by omega
    have nr1_0 : w.heap.size ≠ w1.heap.size + 1 := by omega
    have nq1_1 : w1.heap.size + 1 ≠ w.heap.size + 1 := by omega
    have nr1_1 : w.heap.size + 1 ≠ w1.heap.size + 1 := by omega
    have nq1_2 : w1.heap.size + 1 ≠ w.heap.size + 1 + 1 := by omega
    have nr1_2 : w.heap.size + 1 + 1 ≠ w1.heap.size + 1 := by omega
    have nq2_0 : w4.heap.size ≠ w.heap.size := by omega
    have nr2_0 : w.heap.size ≠ w4.heap.size := by omega
    have nq2_1 : w4.heap.size ≠ w.heap.size + 1 := by omega
    have nr2_1 : w.heap.size + 1 ≠ w4.heap.size := by omega
    have nq2_2 : w4.heap.size ≠ w.heap.size + 1 + 1 := by omega
    have nr2_2 : w.heap.size + 1 + 1 ≠ w4.heap.size := by omega
    go_wp2_with fail
    go_region
    have FZ := (Fr.setCell (Fr.setCell (Fr.setCell (Fr.setCell (Fr.setCell (Fr.setCell (Fr.setCell (Fr.setCell (Fr.setCell (Fr.setCell (Fr.setCell (Fr.setCell (Fr.setCell (Fr.refl w.heap.size (w.heap.size + 4) wz) (p := ⟨w.heap.size, 0, none⟩) (by show w.heap.size ≤ w.heap.size; omega) (by show w.heap.size < w.heap.size + 4; omega) (.slice A1 N1 C1)) (p := ⟨w.heap.size + 1, 0, none⟩) (by show w.heap.size ≤ w.heap.size + 1; omega) (by show w.heap.size + 1 < w.heap.size + 4; omega) (.int .i64 v)) (p := ⟨w.heap.size + 1, 1, none⟩) (by show w.heap.size ≤ w.heap.size + 1; omega) (by show w.heap.size + 1 < w.heap.size + 4; omega) (.slice (some ⟨b', off', none⟩) n7 cr)) (p := ⟨w.heap.size + 1, 2, none⟩) (by show w.heap.size ≤ w.heap.size + 1; omega) (by show w.heap.size + 1 < w.heap.size + 4; omega) (.int .i64 x1)) (p := ⟨w.heap.size + 1, 3, none⟩) (by show w.heap.size ≤ w.heap.size + 1; omega) (by show w.heap.size + 1 < w.heap.size + 4; omega) (.int .i64 x2)) (p := ⟨w.heap.size + 1, 4, none⟩) (by show w.heap.size ≤ w.heap.size + 1; omega) (by show w.heap.size + 1 < w.heap.size + 4; omega) (.int .i64 x3)) (p := ⟨w.heap.size + 1, 5, none⟩) (by show w.heap.size ≤ w.heap.size + 1; omega) (by show w.heap.size + 1 < w.heap.size + 4; omega) (.int .i64 x4)) (p := ⟨w.heap.size + 1 + 1, 0, none⟩) (by show w.heap.size ≤ w.heap.size + 1 + 1; omega) (by show w.heap.size + 1 + 1 < w.heap.size + 4; omega) (.int .i64 2)) (p := ⟨w.heap.size + 1 + 1, 1, none⟩) (by show w.heap.size ≤ w.heap.size + 1 + 1; omega) (by show w.heap.size + 1 + 1 < w.heap.size + 4; omega) (.slice A9 nt CQ9)) (p := ⟨w.heap.size + 1 + 1, 2, none⟩) (by show w.heap.size ≤ w.heap.size + 1 + 1; omega) (by show w.heap.size + 1 + 1 < w.heap.size + 4; omega) (.int .i64 y1)) (p := ⟨w.heap.size + 1 + 1, 3, none⟩) (by show w.heap.size ≤ w.heap.size + 1 + 1; omega) (by show w.heap.size + 1 + 1 < w.heap.size + 4; omega) (.int .i64 y2)) (p := ⟨w.heap.size + 1 + 1, 4, none⟩) (by show w.heap.size ≤ w.heap.size + 1 + 1; omega) (by show w.heap.size + 1 + 1 < w.heap.size + 4; omega) (.int .i64 y3)) (p := ⟨w.heap.size + 1 + 1, 5, none⟩) (by show w.heap.size ≤ w.heap.size + 1 + 1; omega) (by show w.heap.size + 1 + 1 < w.heap.size + 4; omega) (.int .i64 y4))
    have Bb2 := (((((((((((((b2.set 0 (.slice A1 N1 C1)).far (p := ⟨w.heap.size + 1, 0, none⟩) (by show w.heap.size ≠ w.heap.size + 1; omega) (.int .i64 v)).far (p := ⟨w.heap.size + 1, 1, none⟩) (by show w.heap.size ≠ w.heap.size + 1; omega) (.slice (some ⟨b', off', none⟩) n7 cr)).far (p := ⟨w.heap.size + 1, 2, none⟩) (by show w.heap.size ≠ w.heap.size + 1; omega) (.int .i64 x1)).far (p := ⟨w.heap.size + 1, 3, none⟩) (by show w.heap.size ≠ w.heap.size + 1; omega) (.int .i64 x2)).far (p := ⟨w.heap.size + 1, 4, none⟩) (by show w.heap.size ≠ w.heap.size + 1; omega) (.int .i64 x3)).far (p := ⟨w.heap.size + 1, 5, none⟩) (by show w.heap.size ≠ w.heap.size + 1; omega) (.int .i64 x4)).far (p := ⟨w.heap.size + 1 + 1, 0, none⟩) (by show w.heap.size ≠ w.heap.size + 1 + 1; omega) (.int .i64 2)).far (p := ⟨w.heap.size + 1 + 1, 1, none⟩) (by show w.heap.size ≠ w.heap.size + 1 + 1; omega) (.slice A9 nt CQ9)).far (p := ⟨w.heap.size + 1 + 1, 2, none⟩) (by show w.heap.size ≠ w.heap.size + 1 + 1; omega) (.int .i64 y1)).far (p := ⟨w.heap.size + 1 + 1, 3, none⟩) (by show w.heap.size ≠ w.heap.size + 1 + 1; omega) (.int .i64 y2)).far (p := ⟨w.heap.size + 1 + 1, 4, none⟩) (by show w.heap.size ≠ w.heap.size + 1 + 1; omega) (.int .i64 y3)).far (p := ⟨w.heap.size + 1 + 1, 5, none⟩) (by show w.heap.size ≠ w.heap.size + 1 + 1; omega) (.int .i64 y4))
    have Bb4 := (((((((((((((b4.far (p := ⟨w.heap.size, 0, none⟩) (by show w.heap.size + 1 ≠ w.heap.size; omega) (.slice A1 N1 C1)).set 0 (.int .i64 v)).set 1 (.slice (some ⟨b', off', none⟩) n7 cr)).set 2 (.int .i64 x1)).set 3 (.int .i64 x2)).set 4 (.int .i64 x3)).set 5 (.int .i64 x4)).far (p := ⟨w.heap.size + 1 + 1, 0, none⟩) (by show w.heap.size + 1 ≠ w.heap.size + 1 + 1; omega) (.int .i64 2)).far (p := ⟨w.heap.size + 1 + 1, 1, none⟩) (by show w.heap.size + 1 ≠ w.heap.size + 1 + 1; omega) (.slice A9 nt CQ9)).far (p := ⟨w.heap.size + 1 + 1, 2, none⟩) (by show w.heap.size + 1 ≠ w.heap.size + 1 + 1; omega) (.int .i64 y1)).far (p := ⟨w.heap.size + 1 + 1, 3, none⟩) (by show w.heap.size + 1 ≠ w.heap.size + 1 + 1; omega) (.int .i64 y2)).far (p := ⟨w.heap.size + 1 + 1, 4, none⟩) (by show w.heap.size + 1 ≠ w.heap.size + 1 + 1; omega) (.int .i64 y3)).far (p := ⟨w.heap.size + 1 + 1, 5, none⟩) (by show w.heap.size + 1 ≠ w.heap.size + 1 + 1; omega) (.int .i64 y4))
    have Bb5 := (((((((((((((b5.far (p := ⟨w.heap.size, 0, none⟩) (by show w.heap.size + 1 + 1 ≠ w.heap.size; omega) (.slice A1 N1 C1)).far (p := ⟨w.heap.size + 1, 0, none⟩) (by show w.heap.size + 1 + 1 ≠ w.heap.size + 1; omega) (.int .i64 v)).far (p := ⟨w.heap.size + 1, 1, none⟩) (by show w.heap.size + 1 + 1 ≠ w.heap.size + 1; omega) (.slice (some ⟨b', off', none⟩) n7 cr)).far (p := ⟨w.heap.size + 1, 2, none⟩) (by show w.heap.size + 1 + 1 ≠ w.heap.size + 1; omega) (.int .i64 x1)).far (p := ⟨w.heap.size + 1, 3, none⟩) (by show w.heap.size + 1 + 1 ≠ w.heap.size + 1; omega) (.int .i64 x2)).far (p := ⟨w.heap.size + 1, 4, none⟩) (by show w.heap.size + 1 + 1 ≠ w.heap.size + 1; omega) (.int .i64 x3)).far (p := ⟨w.heap.size + 1, 5, none⟩) (by show w.heap.size + 1 + 1 ≠ w.heap.size + 1; omega) (.int .i64 x4)).set 0 (.int .i64 2)).set 1 (.slice A9 nt CQ9)).set 2 (.int .i64 y1)).set 3 (.int .i64 y2)).set 4 (.int .i64 y3)).set 5 (.int .i64 y4))
    have sZ : (((((((((((((wz.setCell ⟨w.heap.size, 0, none⟩ (.slice A1 N1 C1)).setCell ⟨w.heap.size + 1, 0, none⟩ (.int .i64 v)).setCell ⟨w.heap.size + 1, 1, none⟩ (.slice (some ⟨b', off', none⟩) n7 cr)).setCell ⟨w.heap.size + 1, 2, none⟩ (.int .i64 x1)).setCell ⟨w.heap.size + 1, 3, none⟩ (.int .i64 x2)).setCell ⟨w.heap.size + 1, 4, none⟩ (.int .i64 x3)).setCell ⟨w.heap.size + 1, 5, none⟩ (.int .i64 x4)).setCell ⟨w.heap.size + 1 + 1, 0, none⟩ (.int .i64 2)).setCell ⟨w.heap.size + 1 + 1, 1, none⟩ (.slice A9 nt CQ9)).setCell ⟨w.heap.size + 1 + 1, 2, none⟩ (.int .i64 y1)).setCell ⟨w.heap.size + 1 + 1, 3, none⟩ (.int .i64 y2)).setCell ⟨w.heap.size + 1 + 1, 4, none⟩ (.int .i64 y3)).setCell ⟨w.heap.size + 1 + 1, 5, none⟩ (.int .i64 y4)).heap.size = wz.heap.size := by simp [World.setCell]
    obtain ⟨wz, hX⟩ : ∃ u : World, u = (((((((((((((wz.setCell ⟨w.heap.size, 0, none⟩ (.slice A1 N1 C1)).setCell ⟨w.heap.size + 1, 0, none⟩ (.int .i64 v)).setCell ⟨w.heap.size + 1, 1, none⟩ (.slice (some ⟨b', off', none⟩) n7 cr)).setCell ⟨w.heap.size + 1, 2, none⟩ (.int .i64 x1)).setCell ⟨w.heap.size + 1, 3, none⟩ (.int .i64 x2)).setCell ⟨w.heap.size + 1, 4, none⟩ (.int .i64 x3)).setCell ⟨w.heap.size + 1, 5, none⟩ (.int .i64 x4)).setCell ⟨w.heap.size + 1 + 1, 0, none⟩ (.int .i64 2)).setCell ⟨w.heap.size + 1 + 1, 1, none⟩ (.slice A9 nt CQ9)).setCell ⟨w.heap.size + 1 + 1, 2, none⟩ (.int .i64 y1)).setCell ⟨w.heap.size + 1 + 1, 3, none⟩ (.int .i64 y2)).setCell ⟨w.heap.size + 1 + 1, 4, none⟩ (.int .i64 y3)).setCell ⟨w.heap.size + 1 + 1, 5, none⟩ (.int .i64 y4)) := ⟨_, rfl⟩
    rw [← hX] at FZ sZ Bb2 Bb4 Bb5
    rw [← hX]
    clear hX
    have sE : wz.drew.heap.size = wz.heap.size := rfl
    have KW := hid (show Keeps w wz.drew from Keeps.trans (below_fr kw kw.size (Nat.le_refl _) FZ) (keeps_d0 wz))
    have HI9 := hid (((iG.fr FZ (by omega)).keeps (keeps_d0 wz)).widen (lo' := w.heap.size) (hi' := wz.drew.heap.size) (by omega) (by omega) (Nat.le_refl _))
    have HV9 := hid (Sl.widen (lo' := w.heap.size) (hi' := wz.drew.heap.size) (Sl.keeps (Sl.fr iS FZ (by omega)) (keeps_d0 wz)) (by omega) (by omega) (Nat.le_refl _))
    have HT8 := hid (Tabs.wide (lo' := w.heap.size) (hi' := wz.drew.heap.size) ((hT.fr FZ (by omega)).keeps (keeps_d0 wz)) (by omega) (by omega) (Nat.le_refl _))
    have HT9 := hid (Tabs.wide (lo' := w.heap.size) (hi' := wz.drew.heap.size) ((hTT.fr FZ (by omega)).keeps (keeps_d0 wz)) (by omega) (by omega) (Nat.le_refl _))
    have qb2_0 : wz.drew.cell? ⟨w.heap.size, 0, none⟩ = some (.slice A1 N1 C1) := (Bb2.2 0 _ rfl).1
    have qb4_0 : wz.drew.cell? ⟨w.heap.size + 1, 0, none⟩ = some (.int .i64 v) := (Bb4.2 0 _ rfl).1
    have qb4_1 : wz.drew.cell? ⟨w.heap.size + 1, 1, none⟩ = some (.slice (some ⟨b', off', none⟩) n7 cr) := (Bb4.2 1 _ rfl).1
    have qb4_2 : wz.drew.cell? ⟨w.heap.size + 1, 2, none⟩ = some (.int .i64 x1) := (Bb4.2 2 _ rfl).1
    have qb4_3 : wz.drew.cell? ⟨w.heap.size + 1, 3, none⟩ = some (.int .i64 x2) := (Bb4.2 3 _ rfl).1
    have qb4_4 : wz.drew.cell? ⟨w.heap.size + 1, 4, none⟩ = some (.int .i64 x3) := (Bb4.2 4 _ rfl).1
    have qb4_5 : wz.drew.cell? ⟨w.heap.size + 1, 5, none⟩ = some (.int .i64 x4) := (Bb4.2 5 _ rfl).1
    have qb5_0 : wz.drew.cell? ⟨w.heap.size + 1 + 1, 0, none⟩ = some (.int .i64 2) := (Bb5.2 0 _ rfl).1
    have qb5_1 : wz.drew.cell? ⟨w.heap.size + 1 + 1, 1, none⟩ = some (.slice A9 nt CQ9) := (Bb5.2 1 _ rfl).1
    have qb5_2 : wz.drew.cell? ⟨w.heap.size + 1 + 1, 2, none⟩ = some (.int .i64 y1) := (Bb5.2 2 _ rfl).1
    have qb5_3 : wz.drew.cell? ⟨w.heap.size + 1 + 1, 3, none⟩ = some (.int .i64 y2) := (Bb5.2 3 _ rfl).1
    have qb5_4 : wz.drew.cell? ⟨w.heap.size + 1 + 1, 4, none⟩ = some (.int .i64 y3) := (Bb5.2 4 _ rfl).1
    have qb5_5 : wz.drew.cell? ⟨w.heap.size + 1 + 1, 5, none⟩ = some (.int .i64 y4) := (Bb5.2 5 _ rfl).1
    clear FZ kw Bb2 Bb4 Bb5 b2 b4 b5 zr0 zs0 zr1 zs1 zr2 zs2 zr3 zs3 zr4 zs4 zr5 zs5 zr6 zs6 zr7 zs7 zr8 zs8 zr9 zs9 zr10 zs10 zr11 zs11 zr12 zs12 zab2_0 zfb2_0 zdb2_0 zeb2_0 zab4_0 zfb4_0 zdb4_0 zeb4_0 zab4_1 zfb4_1 zdb4_1 zeb4_1 zab4_2 zfb4_2 zdb4_2 zeb4_2 zab4_3 zfb4_3 zdb4_3 zeb4_3 zab4_4 zfb4_4 zdb4_4 zeb4_4 zab4_5 zfb4_5 zdb4_5 zeb4_5 zab5_0 zfb5_0 zdb5_0 zeb5_0 zab5_1 zfb5_1 zdb5_1 zeb5_1 zab5_2 zfb5_2 zdb5_2 zeb5_2 zab5_3 zfb5_3 zdb5_3 zeb5_3 zab5_4 zfb5_4 zdb5_4 zeb5_4 zab5_5 zfb5_5 zdb5_5 zeb5_5
    go_wp2_with fail
    try simp only [Exit.inBlock, Exit.then]
    exact bodyPost_ret (v := .tuple #[.agg #[.slice A1 N1 C1], .slice S1 q cq, .agg #[.int .i64 v, .slice (some ⟨b', off', none⟩) n7 cr, .int .i64 x1, .int .i64 x2, .int .i64 x3, .int .i64 x4], .agg #[.int .i64 2, .slice A9 nt CQ9, .int .i64 y1, .int .i64 y2, .int .i64 y3, .int .i64 y4]]) (by simp [results, Tryz.results17, go_sem, qb2_0, qb4_0, qb4_1, qb4_2, qb4_3, qb4_4, qb4_5, qb5_0, qb5_1, qb5_2, qb5_3, qb5_4, qb5_5]) rfl ⟨_, _, _, _, _, _, _, _, _, _, _, _, _, _, _, _, ts, _, _, _, _, _, _, _, _, (us ++ [(lu, vs', xs', su)]), rfl, HI9.out, hN, HV9.out, HCAP.out, HSD.out, HT8.out, HT9.out, KW.out⟩)
end Go.Proofs.YtlkjhkkfdmjfcaaGreatDoor
