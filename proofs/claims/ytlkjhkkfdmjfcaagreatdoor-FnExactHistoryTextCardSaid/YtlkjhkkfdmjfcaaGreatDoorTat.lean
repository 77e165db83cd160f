/- Types: of the program and of the reference. -/
import Derived.Test.YtlkjhkkfdmjfcaaGreatDoorLeaf
import Derived.Deep.RegionHeld3
import Derived.IntWalk
import Derived.Deep.RegionLaw
namespace Go.Proofs.YtlkjhkkfdmjfcaaGreatDoor
open Go.RowKit
set_option linter.unusedVariables false
set_option linter.unusedSimpArgs false

def tyN (ps : List Int) (l : List VV) : Int := ((leaves ps).length : Int) * prodTo l l.length
def tyB (ps : List Int) (l : List VV) : Bool := geoB ps && schB l && decide (tyN ps l ≤ 12)
theorem tyN_bd {ps : List Int} {l : List VV} (hg : geoB ps = true) (h : schB l = true) : 0 ≤ tyN ps l ∧ tyN ps l ≤ 7864320 := by
  have h1 := leavesTo_len ps ps.length
  have h2 := (geoB_true.1 hg).1
  obtain ⟨hv, _, h6⟩ := schB_lv rfl h
  have h3 := prodTo_bd hv l.length (Nat.le_refl _)
  have h4 := pow8 h6
  unfold tyN leaves
  have h5 := Int.mul_le_mul (show (((leavesTo ps ps.length).length : Nat) : Int) ≤ 30 by omega) (show prodTo l l.length ≤ 262144 by omega) (by omega) (by omega)
  exact ⟨Int.mul_nonneg (by omega) (by omega), by omega⟩
/-- The parts of schemas that the walks ask for. -/
structure Sch (w : World) (A : Option Addr) (n c : Nat) (l : List VV) : Prop where
  v : ∃ lo hi, Vars w lo hi A n l
  ok : NamesOk l
  cap : n ≤ c
  c64 : c ≤ maxLen
theorem Sch.keeps {w w' : World} {A : Option Addr} {n c : Nat} {l : List VV} (h : Sch w A n c l) (k : Keeps w w') : Sch w' A n c l := by
  obtain ⟨⟨lo, hi, hv⟩, h1, h2, h3⟩ := h
  exact ⟨⟨lo, hi, Sl.keeps hv k⟩, h1, h2, h3⟩
theorem Sch.fr {w w' : World} {A : Option Addr} {n c : Nat} {l : List VV} (h : Sch w A n c l) {a b : Nat} (f : Fr a b w w') (hf : ∃ lo hi, Vars w lo hi A n l ∧ (b ≤ lo ∨ hi ≤ a ∨ b ≤ a)) : Sch w' A n c l := by
  obtain ⟨lo, hi, hv, ho⟩ := hf
  exact ⟨⟨lo, hi, Sl.fr hv f ho⟩, h.ok, h.cap, h.c64⟩

def taLeaf (ps : List Int) (l : List VV) (i : Int) : Int := (leaves ps).getD (i / prodTo l l.length).toNat 0
def taVals (l : List VV) (i : Int) : List Int := vals l l.length (i % prodTo l l.length)
theorem set3_cells {w : World} {g : Nat} {u0 u1 u2 : Value} (h : Bl w g [u0, u1, u2]) (v0 v1 v2 : Value) : Bl (((w.setCell ⟨g, 0, none⟩ v0).setCell ⟨g, 1, none⟩ v1).setCell ⟨g, 2, none⟩ v2) g [v0, v1, v2] := ((h.set 0 v0).set 1 v1).set 2 v2
theorem fr_set3T {w : World} {g : Nat} (v0 v1 v2 : Value) : Fr g (g + 1) w (((w.setCell ⟨g, 0, none⟩ v0).setCell ⟨g, 1, none⟩ v1).setCell ⟨g, 2, none⟩ v2) := ((fr_one v0).trans (fr_one v1)).trans (fr_one v2)
theorem below_set3T {B : Nat} {a w : World} (k : Below B a w) {g : Nat} (hg : B ≤ g) (v0 v1 v2 : Value) : Below B a (((w.setCell ⟨g, 0, none⟩ v0).setCell ⟨g, 1, none⟩ v1).setCell ⟨g, 2, none⟩ v2) := ((k.setCell hg v0).setCell hg v1).setCell hg v2
/-- A call in a region, by its contract. -/
theorem step_any {W : World} {ops : Array Oper} {o : Oper} {a : Act} {K : Act → World → Prop} {Q : Exit → Act → World → Prop} {E : Prop} {f : FuncId} {args : Array Value} {R : Ending → World → Prop}
    (hc : Calls Tryz.prog f args W R) (hr : ∀ e w', R e w' → ∃ v, e = .returned v) (hgd : o.guard = none)
    (hrun : (execOp a.eval o).run Tryz.prog W = .ok (.enter f args) W)
    (h : ∀ v w', R (.returned v) w' → K (a.put o.dst v) w') :
    if Region.wanted o (yielded ops a.tmps) = true then Oper.wp Tryz.prog o a W K Q else E := by
  have hw : Region.wanted o (yielded ops a.tmps) = true := by simp [Region.wanted, hgd]
  rw [if_pos hw]
  unfold Oper.wp
  rw [hrun, Oper.upon_enter]
  refine hc.mono fun e w' hh => ?_
  obtain ⟨v, rfl⟩ := hr e w' hh
  exact h v w' hh
/-- A record of one's own. -/
def TaRec (w : World) (a : Int) (m : Nat) (xs : List Int) (e : Ending) (w' : World) : Prop := ∃ VA, e = .returned (.agg #[.int .i64 a, .int .i64 0, .slice VA m m]) ∧ Mine w' w.heap.size w'.heap.size VA m xs ∧ Keeps w w'

end Go.Proofs.YtlkjhkkfdmjfcaaGreatDoor
