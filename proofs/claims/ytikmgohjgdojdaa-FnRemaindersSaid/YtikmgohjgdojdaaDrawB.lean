/- What the cursor draws: values with bounds (bounds alone). -/
import Derived.Test.YtikmgohjgdojdaaDrawI
import Derived.Test.YtikmgohjgdojdaaKP
import Derived.Test.YtikmgohjgdojdaaFit0
namespace Go.Proofs.Ytikmgohjgdojdaa
open Go.RowKit
set_option linter.unusedVariables false
set_option linter.unusedSimpArgs false

theorem results_tmp4 {fn : Func} {t u v x : Tmp} (h : fn.results = #[.tmp t, .tmp u, .tmp v, .tmp x]) (tmps : Array Value) (P : Program) (w : World) :
    (results fn tmps).run P w = .ok (.tuple #[tmps.getD t undef, tmps.getD u undef, tmps.getD v undef, tmps.getD x undef]) w := by
  simp [results, h]
theorem results_tmp5 {fn : Func} {t u v x y : Tmp} (h : fn.results = #[.tmp t, .tmp u, .tmp v, .tmp x, .tmp y]) (tmps : Array Value) (P : Program) (w : World) :
    (results fn tmps).run P w = .ok (.tuple #[tmps.getD t undef, tmps.getD u undef, tmps.getD v undef, tmps.getD x undef, tmps.getD y undef]) w := by
  simp [results, h]
theorem Near.mono {B B' : Int} {xs : List Int} (h : Near B xs) (hB : B ≤ B') : Near B' xs := fun j => by have := h j; omega
theorem Near.bd {B B' : Int} {xs : List Int} (h : Near B xs) (hB : B ≤ B') : Bd B' xs := fun j => by have := h j; omega
theorem Ints.keepsF {w w' : World} {lo hi n g : Nat} {A : Option Addr} {xs : List Int} (h : Ints w lo hi A n xs) (f : Fr g (g + 1) w w') (hg : g < lo) : Ints w' lo hi A n xs := h.fr f (by omega)
/-- Two lists grown by append, apart from one another. -/
structure Duo (w : World) (B : Nat) (v1 v2 : Value) (n1 n2 : Nat) (xs ys : List Int) : Prop where
  h1 : Has w B 3 1 v1 n1 (xs.map (Value.int .i64))
  h2 : Has w B 3 1 v2 n2 (ys.map (Value.int .i64))
  a12 : ApartV v1 v2
theorem Duo.nil_ (w : World) (B : Nat) : Duo w B (.slice none 0 0) (.slice none 0 0) 0 0 [] [] := ⟨World.ownsRow_nil _ _ _ _, World.ownsRow_nil _ _ _ _, apart_nil _⟩
section
variable {w w' : World} {B n1 n2 l u : Nat} {v1 v2 v' : Value} {xs ys us : List Int}
theorem Duo.one (h : Duo w B v1 v2 n1 n2 xs ys) (p1 : Has w' B 3 1 v' (n1 + 1) (us.map (Value.int .i64))) (p2 : w.grownBy w' v1.ownBlock) (p3 : v'.ownBlock = v1.ownBlock ∨ v'.ownBlock = some (w.heap.size + 1)) : Duo w' B v' v2 (n1 + 1) n2 us ys :=
  ⟨p1, has_grown h.h2 h.a12 p2, apart_new h.h2 h.a12 p3⟩
theorem Duo.two (h : Duo w B v1 v2 n1 n2 xs ys) (p1 : Has w' B 3 1 v' (n2 + 1) (us.map (Value.int .i64))) (p2 : w.grownBy w' v2.ownBlock) (p3 : v'.ownBlock = v2.ownBlock ∨ v'.ownBlock = some (w.heap.size + 1)) : Duo w' B v1 v' n1 (n2 + 1) xs us :=
  ⟨has_grown h.h1 h.a12.symm p2, p1, (apart_new h.h1 h.a12.symm p3).symm⟩
theorem Duo.fr (h : Duo w B v1 v2 n1 n2 xs ys) (f : Fr l u w w') (ho : u ≤ B) : Duo w' B v1 v2 n1 n2 xs ys := ⟨h.h1.fr f ho, h.h2.fr f ho, h.a12⟩
end
/-- Three lists of numbers. -/
def DrawsB (w : World) (g : Nat) (T : Int) (e : Ending) (w' : World) : Prop := ∃ A N C xs A1 N1 C1 ys A2 N2 C2 zs, e = .returned (.tuple #[.slice A N C, .slice A1 N1 C1, .slice A2 N2 C2]) ∧
  Ints w' w.heap.size w'.heap.size A N xs ∧ Ints w' w.heap.size w'.heap.size A1 N1 ys ∧ Ints w' w.heap.size w'.heap.size A2 N2 zs ∧ (N ≤ 32 ∧ N1 ≤ 32 ∧ N2 ≤ 32) ∧ (Near 100001 xs ∧ Near 1000 ys ∧ Near 1000 zs) ∧ Cur w' g T ∧ Fr g (g + 1) w w'
/-- Three lists of numbers and a total. -/
def DrawsA (w : World) (e : Ending) (w' : World) : Prop := ∃ A N C xs A1 N1 C1 ys A2 N2 C2 zs t, e = .returned (.tuple #[.slice A N C, .slice A1 N1 C1, .slice A2 N2 C2, .int .i64 t]) ∧
  Ints w' w.heap.size w'.heap.size A N xs ∧ Ints w' w.heap.size w'.heap.size A1 N1 ys ∧ Ints w' w.heap.size w'.heap.size A2 N2 zs ∧ (N ≤ 32 ∧ N1 ≤ 32 ∧ N2 ≤ 32) ∧ (-10000000 ≤ t ∧ t ≤ 10000000) ∧ Keeps w w'
end Go.Proofs.Ytikmgohjgdojdaa
