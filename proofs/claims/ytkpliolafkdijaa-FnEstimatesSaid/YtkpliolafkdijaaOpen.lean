/- How a law's arguments are opened: what the walk is told of each. -/
import Derived.Test.YtkpliolafkdijaaInts
import Derived.ProofKit
import Derived.OpenShut
import Derived.ShutString
import Derived.ChangeOld
import Derived.Deep.Slices
import Derived.Lib.SmallJoins
namespace Go.Proofs.Ytkpliolafkdijaa
open Go.ChangeShapes Go.WideShapes Go.ChangeAt Go.RowKit
set_option linter.unusedVariables false
set_option linter.unusedSimpArgs false

theorem own : ownKnob Try.prog.godebug = none := by kernel_rfl
theorem laidOut : laidOutB Try.prog = true := by kernel_rfl

/-- A slice of ints that came in: where it is not beyond all bounds it reads as xs. -/
def IntsArg (w : World) (A : Option Addr) (n : Nat) (xs : List Int) : Prop :=
  n ≤ maxLen ∧ (n ≤ 67108864 → Ints w 0 w.heap.size A n xs) ∧ ∀ j, -9223372036854775808 ≤ xs.getD j 0 ∧ xs.getD j 0 ≤ 9223372036854775807
theorem IntsArg.ints {w : World} {A : Option Addr} {n : Nat} {xs : List Int} (h : IntsArg w A n xs) (hn : n ≤ 67108864) : Ints w 0 w.heap.size A n xs := h.2.1 hn

section
variable {H : Type} {enc : TypeId × Value → H} {w : World} {spare : Nat → Bool} {held : Bool}
theorem open_ints_cell {fuel : Nat} {A : Option Addr} {n c : Nat} {x : DataW H × List MemPlace} (hs : ∀ b, spare b = true)
    (h : DataW.trod enc Try.prog w 0 spare held fuel 24 [.slice A n c] = some x) : ∃ xs, IntsArg w A n xs := by
  rcases open_ints Try.underlying24 Try.underlying3 (by kernel_rfl) h with ⟨hcs, _⟩ | ⟨a, l, c', zs, hcs, _, hl, hm, hz, _, hcell, hwz⟩
  · simp at hcs
    obtain ⟨rfl, rfl, rfl⟩ := hcs
    refine ⟨[], by simp, fun _ => Ints.nil_ w _ _, fun j => by simp⟩
  · simp at hcs
    obtain ⟨rfl, rfl, rfl⟩ := hcs
    have hzl : n ≤ zs.length := by simp [hs] at hz; omega
    refine ⟨zs.take n, by omega, fun hn => ⟨by simp; omega, by omega, Nat.le_refl _, fun h0 => ?_⟩, fun j => ?_⟩
    · obtain ⟨b, off, spot⟩ := a
      have hc0 := hcell 0 (by omega)
      have hsp : spot = none := by simpa [Addr.add] using World.cell?_spot hc0
      subst hsp
      refine ⟨b, off, rfl, Nat.zero_le _, ?_, fun j hj => ?_⟩
      · rcases Nat.lt_or_ge b w.heap.size with h1 | h1
        · exact h1
        · simp [World.cell?, Addr.add, Array.getElem?_eq_none h1] at hc0
      · have := hcell j (by omega)
        rw [Addr.add_lit] at this
        rw [this]
        simp [List.getD, List.getElem?_take, hj]
    · by_cases hj : j < (zs.take n).length
      · have hmem : (zs.take n).getD j 0 ∈ zs := by
          simp only [List.getD, List.getElem?_eq_getElem hj, Option.getD_some]
          exact List.mem_of_mem_take (List.getElem_mem hj)
        have := hwz _ hmem
        exact bounds_i64 this
      · simp [List.getD, List.getElem?_eq_none (Nat.le_of_not_lt hj)]
set_option maxRecDepth 100000 in
theorem open_arg_ints {r : Reach} {b0 : Nat} {v : Value} {d : DataW H} {p : List MemPlace} (hv : Value.okWide Try.prog w r b0 24 v) (h : DataW.Trod enc Try.prog w 0 (fun _ => true) held 24 v d p) :
    ∃ A n c xs, v = .slice A n c ∧ IntsArg w A n xs := by
  obtain ⟨A, n, c, rfl⟩ := okWide_slice Try.underlying24 hv
  obtain ⟨fuel, hf⟩ := h
  obtain ⟨xs, hx⟩ := open_ints_cell (fun _ => rfl) hf
  exact ⟨A, n, c, xs, rfl, hx⟩
set_option maxRecDepth 100000 in
/-- One cell read as a slice of ints. -/
theorem open_ints_list {fuel : Nat} {cs : List Value} {x : DataW H × List MemPlace} (hs : ∀ b, spare b = true)
    (h : DataW.trod enc Try.prog w 0 spare held fuel 24 cs = some x) : ∃ A n c xs, cs = [.slice A n c] ∧ IntsArg w A n xs := by
  rcases open_ints Try.underlying24 Try.underlying3 (by kernel_rfl) h with ⟨hcs, _⟩ | ⟨a, l, c', zs, hcs, _⟩
  · subst hcs
    obtain ⟨xs, hx⟩ := open_ints_cell hs h
    exact ⟨_, _, _, xs, rfl, hx⟩
  · subst hcs
    obtain ⟨xs, hx⟩ := open_ints_cell hs h
    exact ⟨_, _, _, xs, rfl, hx⟩
theorem cells_geo : Try.prog.cellsOf 47 = 1 := by kernel_rfl
theorem cells_ints : Try.prog.cellsOf 24 = 1 := by kernel_rfl
set_option maxRecDepth 100000 in
theorem open_arg_geo {r : Reach} {b0 : Nat} {v : Value} {d : DataW H} {p : List MemPlace} (hv : Value.okWide Try.prog w r b0 47 v) (h : DataW.Trod enc Try.prog w 0 (fun _ => true) held 47 v d p) :
    ∃ A n c xs, v = .agg #[.slice A n c] ∧ IntsArg w A n xs := by
  obtain ⟨cs, rfl, hsz⟩ := okWide_struct Try.underlying47 hv
  rw [cells_geo] at hsz
  obtain ⟨l⟩ := cs
  match l, hsz with
  | [c0], _ =>
    obtain ⟨fuel, hf⟩ := h
    obtain ⟨y0, m, _, _, hy⟩ := trod_struct1 Try.underlying47 hf
    obtain ⟨A, n, c, xs, hcs, hx⟩ := open_ints_list (fun _ => rfl) hy
    refine ⟨A, n, c, xs, ?_, hx⟩
    simp [Value.cells, cells_ints] at hcs
    rw [hcs]
end
end Go.Proofs.Ytkpliolafkdijaa
