/- A schema as an argument: how it is opened, copied and marked. -/
import Derived.Test.YtlkjhkkfdmjfcaaGreatDoorVarH
import Derived.Test.YtlkjhkkfdmjfcaaGreatDoorDat
namespace Go.Proofs.YtlkjhkkfdmjfcaaGreatDoor
open Go.ChangeShapes Go.WideShapes Go.ChangeAt Go.RowKit
set_option linter.unusedVariables false
set_option linter.unusedSimpArgs false

def dv2 (v : VV) : List D := [.s v.1, .i v.2]
theorem rows_vars : ∀ (rows : List (List D)), (∀ r, r ∈ rows → HkL [.s, .i] r) → ∃ l : List VV, rows.flatten = l.flatMap dv2 ∧ l.length = rows.length ∧ (∀ j, (l.getD j v0).1.size ≤ maxLen) ∧ ∀ j, -9223372036854775808 ≤ (l.getD j v0).2 ∧ (l.getD j v0).2 ≤ 9223372036854775807
  | [], _ => ⟨[], rfl, rfl, fun j => by simp [v0, maxLen], fun j => by simp [v0]⟩
  | r :: rows, h => by
    obtain ⟨l, h1, h2, h3, h4⟩ := rows_vars rows (fun r hr => h r (by simp [hr]))
    obtain ⟨d, ds, rfl, g1, g2⟩ := (h r (by simp)).inv
    obtain ⟨d', ds', rfl, g3, g4⟩ := g2.inv
    obtain rfl := g4.inv0
    obtain ⟨s, rfl, hs⟩ := g1.inv_s
    obtain ⟨x, rfl, hx⟩ := g3.inv_i
    refine ⟨(s, x) :: l, by simp [h1, dv2], by simp [h2], fun j => ?_, fun j => ?_⟩
    · cases j with
      | zero => simpa using hs
      | succ j => simpa using h3 j
    · cases j with
      | zero => simpa using hx
      | succ j => simpa using h4 j
theorem RdL.vars {w : World} {lo hi b : Nat} : ∀ (l : List VV) (off : Nat), RdL w lo hi b off (l.flatMap dv2) → ∀ j, j < l.length * 2 → w.cell? ⟨b, off + j, none⟩ = some ((vrs l).getD j undef)
  | [], _, _, j, hj => by simp at hj
  | v :: l, off, h, j, hj => by
    have h' : RdL w lo hi b off (.s v.1 :: .i v.2 :: l.flatMap dv2) := h
    simp only [RdL, Rd] at h'
    obtain ⟨⟨u, hu, rfl⟩, ⟨u', hu', rfl⟩, hr⟩ := h'
    match j with
    | 0 => exact hu
    | 1 => exact hu'
    | j + 2 =>
      have := RdL.vars l (off + 1 + 1) hr j (by simp at hj; omega)
      rw [show off + 1 + 1 + j = off + (j + 2) by omega] at this
      rw [this]; rfl
/-- A slice of variables that came in. -/
theorem Hk.vars {d : D} {w : World} {v : Value} (h : Hk (.sl [.s, .i]) d) (hr : Rd w 0 w.heap.size d v) : ∃ A n c l, v = .slice A n c ∧ VarsArg w A n l := by
  obtain ⟨n, rows, rfl, h1, h2, h3⟩ := h.inv_sl
  obtain ⟨l, e1, e2, e3, e4⟩ := rows_vars rows h3
  rw [e1] at hr
  unfold Rd at hr
  obtain ⟨A, c, rfl, ht, hb⟩ := hr
  refine ⟨A, n, c, l, rfl, h1, fun hn => ⟨by rw [vrs_len]; omega, hn, Nat.le_refl _, fun h0 => ?_⟩, e3, e4⟩
  obtain ⟨b, off, rfl, hl, hh, hc⟩ := hb h0
  exact ⟨b, off, rfl, hl, hh, fun j hj => RdL.vars l off hc j (by omega)⟩
theorem VarsArg.keeps {w w' : World} {A : Option Addr} {n : Nat} {l : List VV} (h : VarsArg w A n l) (k : Keeps w w') : VarsArg w' A n l :=
  ⟨h.1, fun hn => Sl.widen (Sl.keeps (h.2.1 hn) k) (Nat.le_refl _) k.size (Nat.le_refl _), h.2.2⟩
theorem VarsArg.vars {w : World} {A : Option Addr} {n : Nat} {l : List VV} (h : VarsArg w A n l) (hn : n ≤ 1048576) : Vars w 0 w.heap.size A n l := h.2.1 (by omega)
theorem szVs_ok {left : Int} {n : Nat} {l : List VV} (h : (n : Int) + vsz l n ≤ left) : szVs left n l = left - ((n : Int) + vsz l n) := by
  unfold szVs; rw [if_pos h]; omega
theorem szVs_no {left : Int} {n : Nat} {l : List VV} (h : ¬ (n : Int) + vsz l n ≤ left) : szVs left n l = -1 := by
  unfold szVs; rw [if_neg h]
section
variable {H : Type} {enc : TypeId × Value → H} {w : World} {held : Bool}
theorem kinds_vars : kinds Tryz.prog 4 25 = some [.sl [.s, .i]] := by kernel_rfl
set_option maxRecDepth 100000 in
theorem open_arg_vars {r : Reach} {b0 : Nat} {v : Value} {d : DataW H} {p : List MemPlace} (hv : Value.okWide Tryz.prog w r b0 25 v) (h : DataW.Trod enc Tryz.prog w 0 (fun _ => true) held 25 v d p) :
    ∃ A n c l, v = .slice A n c ∧ VarsArg w A n l := by
  obtain ⟨A, n, c, rfl⟩ := okWide_slice Tryz.underlying25 hv
  obtain ⟨fuel, hf⟩ := h
  obtain ⟨ds, g1, g2⟩ := open_data 4 fuel _ _ _ _ kinds_vars hf
  obtain ⟨d1, ds, rfl, k1, g1⟩ := g1.inv
  obtain rfl := g1.inv0
  have g3 : RdV w 0 w.heap.size [d1] [.slice A n c] := g2
  exact k1.vars g3.1
end
end Go.Proofs.YtlkjhkkfdmjfcaaGreatDoor
