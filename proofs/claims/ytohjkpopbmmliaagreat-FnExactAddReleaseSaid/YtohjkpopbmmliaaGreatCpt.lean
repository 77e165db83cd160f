/- Copies of tables. -/
import Derived.Test.YtohjkpopbmmliaaGreatTbm
import Derived.Deep.RegionLaw
namespace Go.Proofs.YtohjkpopbmmliaaGreat
open Go.RowKit
set_option linter.unusedVariables false
set_option linter.unusedSimpArgs false

theorem run_append_owned_noneC {P : Program} {w : World} (base : Nat) (t ty e : TypeId) (i : TypeInfo) (size c : Nat) (ht : P.underlying t = some (.slice e)) (hi : P.info? e = some i)
    (v : Value) (n : Nat) (xs : List Value) (hown : w.ownsRow base e size v n xs) :
    (Builtin.append_ #[t, t] ty #[v, .slice none 0 c]).run P w = .ok v w := by
  rcases hown.2 with ⟨rfl, rfl⟩ | ⟨g, cap, cur, rfl, _, _, hnc, _⟩
  · simp [Builtin.append_, run_underlying ht, sizeOf, typeInfo, hi, Builtin.lenOf, Builtin.firstCells]
  · simp [Builtin.append_, run_underlying ht, sizeOf, typeInfo, hi, Builtin.lenOf, Builtin.firstCells, hnc, storeCells]
theorem wpList_append_own_noneC {P : Program} {w : World} {ops : Array Oper} {rest : List Oper} {o : Oper} {a : Act} {Q : Exit → Act → World → Prop} {c : Nat} (hgd : o.guard = none) (s x : Operand) (t : TypeId)
    (ho : o.op = .call { callee := .builtin .append, args := #[s, x], argTypes := #[t, t] })
    (base : Nat) (e : TypeId) (i : TypeInfo) (size : Nat) (ht : P.underlying t = some (.slice e)) (hi : P.info? e = some i)
    (v : Value) (n : Nat) (xs : List Value) (hs : a.eval s = v) (hown : w.ownsRow base e size v n xs) (hx : a.eval x = .slice none 0 c)
    (h : wpList P ops Q rest (a.put o.dst v) w) : wpList P ops Q (o :: rest) a w := by
  refine wpList_plain hgd fun K hK => ?_
  have hrun := run_append_owned_noneC (P := P) (w := w) base t o.type e i size c ht hi v n xs hown
  unfold Oper.wp
  simp [execOp, ho, resolve, invoke, builtin, hs, hx, hrun, Result.andThen]
  exact hK _ _ h
/-- A copy of a slice of ints. -/
def CpRes (w : World) (xs : List Int) (n : Nat) (e : Ending) (w' : World) : Prop := ∃ A1 C1, e = .returned (.slice A1 n C1) ∧ Mine w' w.heap.size w'.heap.size A1 n xs ∧ Keeps w w'
set_option maxRecDepth 100000 in
set_option maxHeartbeats 1600000 in
theorem l1Own_cp {A : Option Addr} {lo hi n c : Nat} {xs : List Int} {w : World} (h : Ints w lo hi A n xs) :
    Calls Tryz.prog 72 #[.slice A n c] w (CpRes w xs n) := by
  cases A with
  | some p => exact (l1Own_copy h (fun e => by cases e)).mono fun e w' ⟨A1, C1, h1, h2, _, h3⟩ => ⟨A1, C1, h1, h2, h3⟩
  | none =>
    have hl := h.1
    have hq : ∀ w' : World, (binOp .eql 24 (.slice none n c) (.slice none 0 0)).run Tryz.prog w' = .ok (.bool true) w' := fun w' => by
      have := Lib.run_eql_slice_nil (P := Tryz.prog) w' 24 3 none n c 0 0 Tryz.underlying24
      exact this
    obtain rfl : n = 0 := by
      rcases Nat.eq_zero_or_pos n with h0 | h0
      · exact h0
      · obtain ⟨b, off, e, _⟩ := h.2.2.2 h0
        cases e
    obtain rfl : xs = [] := by simpa using hl
    obtain ⟨i, hi, hz0, hz1, hz2⟩ := info_parts info_int
    have hm := World.ownsRow_made (e := 3) (size := 1) w #[] 0 (Nat.le_refl _) (Nat.zero_le _) rfl
    go_enter Tryz.func72, Tryz.ntmps72
    go_wp2_with (at_builtin; refine wpList_append_own_noneC _ rfl _ _ 24 rfl w.heap.size 3 i 1 Tryz.underlying24 hi _ 0 [] rfl hm rfl ?_)
    go_ret
    first
    | exact ⟨_, _, rfl, Mine.of_own hm (by omega), keeps_alloc _ _⟩
    | exact ⟨_, _, rfl, Mine.nil_ _ _, keeps_refl _⟩
set_option maxRecDepth 100000 in
set_option maxHeartbeats 1600000 in
theorem cloneI_cp {A : Option Addr} {lo hi n c : Nat} {xs : List Int} {w : World} (h : Ints w lo hi A n xs) :
    Calls Tryz.prog 138 #[.slice A n c] w (CpRes w xs n) := by
  cases A with
  | some p => exact (cloneI_copy h (fun e => by cases e)).mono fun e w' ⟨A1, C1, h1, h2, _, h3⟩ => ⟨A1, C1, h1, h2, h3⟩
  | none =>
    have hl := h.1
    have hq : ∀ w' : World, (binOp .eql 24 (.slice none n c) (.slice none 0 0)).run Tryz.prog w' = .ok (.bool true) w' := fun w' => by
      have := Lib.run_eql_slice_nil (P := Tryz.prog) w' 24 3 none n c 0 0 Tryz.underlying24
      exact this
    obtain rfl : n = 0 := by
      rcases Nat.eq_zero_or_pos n with h0 | h0
      · exact h0
      · obtain ⟨b, off, e, _⟩ := h.2.2.2 h0
        cases e
    obtain rfl : xs = [] := by simpa using hl
    obtain ⟨i, hi, hz0, hz1, hz2⟩ := info_parts info_int
    have hm := World.ownsRow_made (e := 3) (size := 1) w #[] 0 (Nat.le_refl _) (Nat.zero_le _) rfl
    go_enter Tryz.func138, Tryz.ntmps138
    go_wp2_with (at_builtin; refine wpList_append_own_noneC _ rfl _ _ 24 rfl w.heap.size 3 i 1 Tryz.underlying24 hi _ 0 [] rfl hm rfl ?_)
    go_ret
    first
    | exact ⟨_, _, rfl, Mine.of_own hm (by omega), keeps_alloc _ _⟩
    | exact ⟨_, _, rfl, Mine.nil_ _ _, keeps_refl _⟩
/-- Two slices of ints of one's own, apart from each other. -/
structure TwM (w : World) (lo hi : Nat) (A1 : Option Addr) (n1 : Nat) (xs : List Int) (A2 : Option Addr) (n2 : Nat) (ys : List Int) : Prop where
  top : hi ≤ w.heap.size
  ex : ∃ l1 h1 l2 h2, lo ≤ l1 ∧ h1 ≤ hi ∧ lo ≤ l2 ∧ h2 ≤ hi ∧ (h1 ≤ l2 ∨ h2 ≤ l1) ∧ Mine w l1 h1 A1 n1 xs ∧ Mine w l2 h2 A2 n2 ys
section
variable {w w' : World} {lo hi l h' n1 n2 n3 : Nat} {A1 A2 A3 : Option Addr} {xs ys zs : List Int}
theorem TwM.fr (h : TwM w lo hi A1 n1 xs A2 n2 ys) (f : Fr l h' w w') (ho : h' ≤ lo ∨ hi ≤ l ∨ h' ≤ l) : TwM w' lo hi A1 n1 xs A2 n2 ys := by
  obtain ⟨ht, l1, h1, l2, h2, q1, q2, q3, q4, d1, m1, m2⟩ := h
  exact ⟨Nat.le_trans ht f.size, l1, h1, l2, h2, q1, q2, q3, q4, d1, m1.fr f (by omega), m2.fr f (by omega)⟩
theorem TwM.keeps (h : TwM w lo hi A1 n1 xs A2 n2 ys) (k : Keeps w w') : TwM w' lo hi A1 n1 xs A2 n2 ys := h.fr (Fr.of_keeps k 0 0) (by omega)
theorem TwM.widen {lo' hi' : Nat} (h : TwM w lo hi A1 n1 xs A2 n2 ys) (h1 : lo' ≤ lo) (h2 : hi ≤ hi') (h3 : hi' ≤ w.heap.size) : TwM w lo' hi' A1 n1 xs A2 n2 ys := by
  obtain ⟨ht, a1, b1, a2, b2, q1, q2, q3, q4, d1, m1, m2⟩ := h
  exact ⟨h3, a1, b1, a2, b2, by omega, by omega, by omega, by omega, d1, m1, m2⟩
theorem TwM.a (h : TwM w lo hi A1 n1 xs A2 n2 ys) : Ints w lo hi A1 n1 xs := by
  obtain ⟨ht, a1, b1, a2, b2, q1, q2, q3, q4, d1, m1, m2⟩ := h
  exact m1.1.widen q1 q2 ht
theorem TwM.b (h : TwM w lo hi A1 n1 xs A2 n2 ys) : Ints w lo hi A2 n2 ys := by
  obtain ⟨ht, a1, b1, a2, b2, q1, q2, q3, q4, d1, m1, m2⟩ := h
  exact m2.1.widen q3 q4 ht
theorem TwM.of_two {wA w' : World} {B lo1 n1 n2 : Nat} {A1 A2 : Option Addr} {xs ys : List Int} (m1 : Mine wA lo1 wA.heap.size A1 n1 xs) (k : Keeps wA w') (m2 : Mine w' wA.heap.size w'.heap.size A2 n2 ys) (h : B ≤ lo1) (h2 : lo1 ≤ wA.heap.size) : TwM w' B w'.heap.size A1 n1 xs A2 n2 ys :=
  ⟨Nat.le_refl _, lo1, wA.heap.size, wA.heap.size, w'.heap.size, h, k.size, by omega, Nat.le_refl _, .inl (Nat.le_refl _), m1.keeps k, m2⟩
theorem TwM.swap (h : TwM w lo hi A1 n1 xs A2 n2 ys) : TwM w lo hi A2 n2 ys A1 n1 xs := by
  obtain ⟨ht, a1, b1, a2, b2, q1, q2, q3, q4, d1, m1, m2⟩ := h
  exact ⟨ht, a2, b2, a1, b1, q3, q4, q1, q2, d1.symm, m2, m1⟩
end
/-- A table of one's own. -/
def TwRes (w : World) (lv sm : Int) (n1 : Nat) (xs : List Int) (n2 : Nat) (ys : List Int) (e : Ending) (w' : World) : Prop :=
  ∃ A1 c1 A2 c2, e = .returned (.agg #[.int .i64 lv, .slice A1 n1 c1, .slice A2 n2 c2, .int .i64 sm]) ∧ TwM w' w.heap.size w'.heap.size A1 n1 xs A2 n2 ys ∧ Keeps w w'

theorem step_cpc {W : World} {ops : Array Oper} {o : Oper} {a : Act} {K : Act → World → Prop} {Q : Exit → Act → World → Prop} {E : Prop} {lo hi n c : Nat} {A : Option Addr} {xs : List Int}
    (hx : Ints W lo hi A n xs) (hgd : o.guard = none)
    (hrun : (execOp a.eval o).run Tryz.prog W = .ok (.enter 138 #[.slice A n c]) W)
    (h : ∀ A1 C1 w', Mine w' W.heap.size w'.heap.size A1 n xs → Keeps W w' → K (a.put o.dst (.slice A1 n C1)) w') :
    if Region.wanted o (yielded ops a.tmps) = true then Oper.wp Tryz.prog o a W K Q else E := by
  have hw : Region.wanted o (yielded ops a.tmps) = true := by simp [Region.wanted, hgd]
  rw [if_pos hw]
  unfold Oper.wp
  rw [hrun, Oper.upon_enter]
  refine (cloneI_cp hx).mono fun e w' hh => ?_
  obtain ⟨A1, C1, rfl, h1, h3⟩ := hh
  exact h A1 C1 w' h1 h3
set_option maxRecDepth 100000 in
set_option maxHeartbeats 6400000 in
theorem copyTable_tw {A1 A2 : Option Addr} {n1 n2 c1 c2 l1 u1 l2 u2 : Nat} {lv sm : Int} {xs ys : List Int} {w : World} (h1 : Ints w l1 u1 A1 n1 xs) (h2 : Ints w l2 u2 A2 n2 ys) :
    Calls Tryz.prog 96 #[.agg #[.int .i64 lv, .slice A1 n1 c1, .slice A2 n2 c2, .int .i64 sm]] w (TwRes w lv sm n1 xs n2 ys) := by
  go_enter Tryz.func96, Tryz.ntmps96
  have kw := keeps_refl w
  replace kw := Keeps.trans kw (keeps_alloc w (.cells #[.int .i64 lv, .slice A1 n1 c1, .slice A2 n2 c2, .int .i64 sm] 120))
  have b1 : Bl (w.alloc (.cells #[.int .i64 lv, .slice A1 n1 c1, .slice A2 n2 c2, .int .i64 sm] 120)) w.heap.size [.int .i64 lv, .slice A1 n1 c1, .slice A2 n2 c2, .int .i64 sm] := Bl.new' (by simp) (by simp)
  replace b1 := b1.keeps (keeps_alloc (w.alloc (.cells #[.int .i64 lv, .slice A1 n1 c1, .slice A2 n2 c2, .int .i64 sm] 120)) (.cells #[.int .i64 0, .slice none 0 0, .slice none 0 0, .int .i64 0] 120))
  replace kw := Keeps.trans kw (keeps_alloc (w.alloc (.cells #[.int .i64 lv, .slice A1 n1 c1, .slice A2 n2 c2, .int .i64 sm] 120)) (.cells #[.int .i64 0, .slice none 0 0, .slice none 0 0, .int .i64 0] 120))
  have b2 : Bl ((w.alloc (.cells #[.int .i64 lv, .slice A1 n1 c1, .slice A2 n2 c2, .int .i64 sm] 120)).alloc (.cells #[.int .i64 0, .slice none 0 0, .slice none 0 0, .int .i64 0] 120)) (w.heap.size + 1) [.int .i64 0, .slice none 0 0, .slice none 0 0, .int .i64 0] := Bl.new' (by simp) (by simp)
  go_wp2_with fail
  obtain ⟨W, hX⟩ : ∃ u : World, u = ((w.alloc (.cells #[.int .i64 lv, .slice A1 n1 c1, .slice A2 n2 c2, .int .i64 sm] 120)).alloc (.cells #[.int .i64 0, .slice none 0 0, .slice none 0 0, .int .i64 0] 120)) := ⟨_, rfl⟩
  have szX0 := hid (show W.heap.size = w.heap.size + 1 + 1 by rw [hX]; simp)
  rw [← hX] at b1
  rw [← hX] at b2
  rw [← hX] at kw
  rw [← hX]
  clear hX
  have sz2 := kw.size
  have hxD := h1.keeps (kw.trans (keeps_d0 W))
  have hyD := h2.keeps (kw.trans (keeps_d0 W))
  have b1D := b1.keeps (keeps_d0 W)
  have b2D := b2.keeps (keeps_d0 W)
  have sW : w.heap.size + 2 ≤ W.drew.heap.size := by show _ ≤ W.heap.size; rw [szX0.out]; omega
  have kwD := kw.trans (keeps_d0 W)
  have z0D : W.drew.cell? ⟨w.heap.size, 0, none⟩ = some (.int .i64 lv) := (b1D.2 0 _ rfl).1
  have y0D : W.drew.frozen? ⟨w.heap.size, 0, none⟩ = false := (b1D.2 0 _ rfl).2
  have z1D : W.drew.cell? ⟨w.heap.size, 1, none⟩ = some (.slice A1 n1 c1) := (b1D.2 1 _ rfl).1
  have y1D : W.drew.frozen? ⟨w.heap.size, 1, none⟩ = false := (b1D.2 1 _ rfl).2
  have z2D : W.drew.cell? ⟨w.heap.size, 2, none⟩ = some (.slice A2 n2 c2) := (b1D.2 2 _ rfl).1
  have y2D : W.drew.frozen? ⟨w.heap.size, 2, none⟩ = false := (b1D.2 2 _ rfl).2
  have z3D : W.drew.cell? ⟨w.heap.size, 3, none⟩ = some (.int .i64 sm) := (b1D.2 3 _ rfl).1
  have y3D : W.drew.frozen? ⟨w.heap.size, 3, none⟩ = false := (b1D.2 3 _ rfl).2
  go_region_law ((first | (refine step_cpc (c := c2) hyA rfl (by kernel_rfl) ?_; intro B2_ C2_ wZ m2 kZ; have TT := hid (TwM.of_two (B := w.heap.size + 2) m1 kZ m2 (by omega) kA.size); have b1Z := b1A.keeps kZ; have b2Z := b2A.keeps kZ; have kwZ := (kwD.trans kA).trans kZ; have sZ := Nat.le_trans kA.size kZ.size; have z0wZ : wZ.cell? ⟨w.heap.size, 0, none⟩ = some (.int .i64 lv) := (b1Z.2 0 _ rfl).1; have y0wZ : wZ.frozen? ⟨w.heap.size, 0, none⟩ = false := (b1Z.2 0 _ rfl).2; have z1wZ : wZ.cell? ⟨w.heap.size, 1, none⟩ = some (.slice A1 n1 c1) := (b1Z.2 1 _ rfl).1; have y1wZ : wZ.frozen? ⟨w.heap.size, 1, none⟩ = false := (b1Z.2 1 _ rfl).2; have z2wZ : wZ.cell? ⟨w.heap.size, 2, none⟩ = some (.slice A2 n2 c2) := (b1Z.2 2 _ rfl).1; have y2wZ : wZ.frozen? ⟨w.heap.size, 2, none⟩ = false := (b1Z.2 2 _ rfl).2; have z3wZ : wZ.cell? ⟨w.heap.size, 3, none⟩ = some (.int .i64 sm) := (b1Z.2 3 _ rfl).1; have y3wZ : wZ.frozen? ⟨w.heap.size, 3, none⟩ = false := (b1Z.2 3 _ rfl).2) | (refine step_cpc (c := c1) hxB rfl (by kernel_rfl) ?_; intro B1_ C1_ wZ m1 kZ; have TT := hid ((TwM.of_two (B := w.heap.size + 2) m2 kZ m1 (by omega) kB.size).swap); have b1Z := b1B.keeps kZ; have b2Z := b2B.keeps kZ; have kwZ := (kwD.trans kB).trans kZ; have sZ := Nat.le_trans kB.size kZ.size; have z0wZ : wZ.cell? ⟨w.heap.size, 0, none⟩ = some (.int .i64 lv) := (b1Z.2 0 _ rfl).1; have y0wZ : wZ.frozen? ⟨w.heap.size, 0, none⟩ = false := (b1Z.2 0 _ rfl).2; have z1wZ : wZ.cell? ⟨w.heap.size, 1, none⟩ = some (.slice A1 n1 c1) := (b1Z.2 1 _ rfl).1; have y1wZ : wZ.frozen? ⟨w.heap.size, 1, none⟩ = false := (b1Z.2 1 _ rfl).2; have z2wZ : wZ.cell? ⟨w.heap.size, 2, none⟩ = some (.slice A2 n2 c2) := (b1Z.2 2 _ rfl).1; have y2wZ : wZ.frozen? ⟨w.heap.size, 2, none⟩ = false := (b1Z.2 2 _ rfl).2; have z3wZ : wZ.cell? ⟨w.heap.size, 3, none⟩ = some (.int .i64 sm) := (b1Z.2 3 _ rfl).1; have y3wZ : wZ.frozen? ⟨w.heap.size, 3, none⟩ = false := (b1Z.2 3 _ rfl).2) | (refine step_cpc (c := c1) hxD rfl (by kernel_rfl) ?_; intro B1_ C1_ wA m1 kA; have b1A := b1D.keeps kA; have b2A := b2D.keeps kA; have hyA := hyD.keeps kA; have z0wA : wA.cell? ⟨w.heap.size, 0, none⟩ = some (.int .i64 lv) := (b1A.2 0 _ rfl).1; have y0wA : wA.frozen? ⟨w.heap.size, 0, none⟩ = false := (b1A.2 0 _ rfl).2; have z1wA : wA.cell? ⟨w.heap.size, 1, none⟩ = some (.slice A1 n1 c1) := (b1A.2 1 _ rfl).1; have y1wA : wA.frozen? ⟨w.heap.size, 1, none⟩ = false := (b1A.2 1 _ rfl).2; have z2wA : wA.cell? ⟨w.heap.size, 2, none⟩ = some (.slice A2 n2 c2) := (b1A.2 2 _ rfl).1; have y2wA : wA.frozen? ⟨w.heap.size, 2, none⟩ = false := (b1A.2 2 _ rfl).2; have z3wA : wA.cell? ⟨w.heap.size, 3, none⟩ = some (.int .i64 sm) := (b1A.2 3 _ rfl).1; have y3wA : wA.frozen? ⟨w.heap.size, 3, none⟩ = false := (b1A.2 3 _ rfl).2) | (refine step_cpc (c := c2) hyD rfl (by kernel_rfl) ?_; intro B2_ C2_ wB m2 kB; have b1B := b1D.keeps kB; have b2B := b2D.keeps kB; have hxB := hxD.keeps kB; have z0wB : wB.cell? ⟨w.heap.size, 0, none⟩ = some (.int .i64 lv) := (b1B.2 0 _ rfl).1; have y0wB : wB.frozen? ⟨w.heap.size, 0, none⟩ = false := (b1B.2 0 _ rfl).2; have z1wB : wB.cell? ⟨w.heap.size, 1, none⟩ = some (.slice A1 n1 c1) := (b1B.2 1 _ rfl).1; have y1wB : wB.frozen? ⟨w.heap.size, 1, none⟩ = false := (b1B.2 1 _ rfl).2; have z2wB : wB.cell? ⟨w.heap.size, 2, none⟩ = some (.slice A2 n2 c2) := (b1B.2 2 _ rfl).1; have y2wB : wB.frozen? ⟨w.heap.size, 2, none⟩ = false := (b1B.2 2 _ rfl).2; have z3wB : wB.cell? ⟨w.heap.size, 3, none⟩ = some (.int .i64 sm) := (b1B.2 3 _ rfl).1; have y3wB : wB.frozen? ⟨w.heap.size, 3, none⟩ = false := (b1B.2 3 _ rfl).2)))
  all_goals (
    replace b2Z := b2Z.far (p := ⟨w.heap.size, 1, none⟩) (by show _ ≠ w.heap.size; omega) (.slice B1_ n1 C1_)
    replace kwZ := Below.setCell kwZ (p := ⟨w.heap.size, 1, none⟩) (by show _ ≤ w.heap.size; omega) (.slice B1_ n1 C1_)
    replace b1Z : Bl (wZ.setCell ⟨w.heap.size, 1, none⟩ (.slice B1_ n1 C1_)) w.heap.size [.int .i64 lv, .slice B1_ n1 C1_, .slice A2 n2 c2, .int .i64 sm] := b1Z.set 1 (.slice B1_ n1 C1_)
    replace b2Z := b2Z.far (p := ⟨w.heap.size, 2, none⟩) (by show _ ≠ w.heap.size; omega) (.slice B2_ n2 C2_)
    replace kwZ := Below.setCell kwZ (p := ⟨w.heap.size, 2, none⟩) (by show _ ≤ w.heap.size; omega) (.slice B2_ n2 C2_)
    replace b1Z : Bl ((wZ.setCell ⟨w.heap.size, 1, none⟩ (.slice B1_ n1 C1_)).setCell ⟨w.heap.size, 2, none⟩ (.slice B2_ n2 C2_)) w.heap.size [.int .i64 lv, .slice B1_ n1 C1_, .slice B2_ n2 C2_, .int .i64 sm] := b1Z.set 2 (.slice B2_ n2 C2_)
    have ca3_0 : ((wZ.setCell ⟨w.heap.size, 1, none⟩ (.slice B1_ n1 C1_)).setCell ⟨w.heap.size, 2, none⟩ (.slice B2_ n2 C2_)).cell? ⟨w.heap.size, 0, none⟩ = some (.int .i64 lv) := (b1Z.2 0 _ rfl).1
    have fa3_0 : ((wZ.setCell ⟨w.heap.size, 1, none⟩ (.slice B1_ n1 C1_)).setCell ⟨w.heap.size, 2, none⟩ (.slice B2_ n2 C2_)).frozen? ⟨w.heap.size, 0, none⟩ = false := (b1Z.2 0 _ rfl).2
    have ca3_1 : ((wZ.setCell ⟨w.heap.size, 1, none⟩ (.slice B1_ n1 C1_)).setCell ⟨w.heap.size, 2, none⟩ (.slice B2_ n2 C2_)).cell? ⟨w.heap.size, 1, none⟩ = some (.slice B1_ n1 C1_) := (b1Z.2 1 _ rfl).1
    have fa3_1 : ((wZ.setCell ⟨w.heap.size, 1, none⟩ (.slice B1_ n1 C1_)).setCell ⟨w.heap.size, 2, none⟩ (.slice B2_ n2 C2_)).frozen? ⟨w.heap.size, 1, none⟩ = false := (b1Z.2 1 _ rfl).2
    have ca3_2 : ((wZ.setCell ⟨w.heap.size, 1, none⟩ (.slice B1_ n1 C1_)).setCell ⟨w.heap.size, 2, none⟩ (.slice B2_ n2 C2_)).cell? ⟨w.heap.size, 2, none⟩ = some (.slice B2_ n2 C2_) := (b1Z.2 2 _ rfl).1
    have fa3_2 : ((wZ.setCell ⟨w.heap.size, 1, none⟩ (.slice B1_ n1 C1_)).setCell ⟨w.heap.size, 2, none⟩ (.slice B2_ n2 C2_)).frozen? ⟨w.heap.size, 2, none⟩ = false := (b1Z.2 2 _ rfl).2
    have ca3_3 : ((wZ.setCell ⟨w.heap.size, 1, none⟩ (.slice B1_ n1 C1_)).setCell ⟨w.heap.size, 2, none⟩ (.slice B2_ n2 C2_)).cell? ⟨w.heap.size, 3, none⟩ = some (.int .i64 sm) := (b1Z.2 3 _ rfl).1
    have fa3_3 : ((wZ.setCell ⟨w.heap.size, 1, none⟩ (.slice B1_ n1 C1_)).setCell ⟨w.heap.size, 2, none⟩ (.slice B2_ n2 C2_)).frozen? ⟨w.heap.size, 3, none⟩ = false := (b1Z.2 3 _ rfl).2
    have ca4_0 : ((wZ.setCell ⟨w.heap.size, 1, none⟩ (.slice B1_ n1 C1_)).setCell ⟨w.heap.size, 2, none⟩ (.slice B2_ n2 C2_)).cell? ⟨(w.heap.size + 1), 0, none⟩ = some (.int .i64 0) := (b2Z.2 0 _ rfl).1
    have fa4_0 : ((wZ.setCell ⟨w.heap.size, 1, none⟩ (.slice B1_ n1 C1_)).setCell ⟨w.heap.size, 2, none⟩ (.slice B2_ n2 C2_)).frozen? ⟨(w.heap.size + 1), 0, none⟩ = false := (b2Z.2 0 _ rfl).2
    have ca4_1 : ((wZ.setCell ⟨w.heap.size, 1, none⟩ (.slice B1_ n1 C1_)).setCell ⟨w.heap.size, 2, none⟩ (.slice B2_ n2 C2_)).cell? ⟨(w.heap.size + 1), 1, none⟩ = some (.slice none 0 0) := (b2Z.2 1 _ rfl).1
    have fa4_1 : ((wZ.setCell ⟨w.heap.size, 1, none⟩ (.slice B1_ n1 C1_)).setCell ⟨w.heap.size, 2, none⟩ (.slice B2_ n2 C2_)).frozen? ⟨(w.heap.size + 1), 1, none⟩ = false := (b2Z.2 1 _ rfl).2
    have ca4_2 : ((wZ.setCell ⟨w.heap.size, 1, none⟩ (.slice B1_ n1 C1_)).setCell ⟨w.heap.size, 2, none⟩ (.slice B2_ n2 C2_)).cell? ⟨(w.heap.size + 1), 2, none⟩ = some (.slice none 0 0) := (b2Z.2 2 _ rfl).1
    have fa4_2 : ((wZ.setCell ⟨w.heap.size, 1, none⟩ (.slice B1_ n1 C1_)).setCell ⟨w.heap.size, 2, none⟩ (.slice B2_ n2 C2_)).frozen? ⟨(w.heap.size + 1), 2, none⟩ = false := (b2Z.2 2 _ rfl).2
    have ca4_3 : ((wZ.setCell ⟨w.heap.size, 1, none⟩ (.slice B1_ n1 C1_)).setCell ⟨w.heap.size, 2, none⟩ (.slice B2_ n2 C2_)).cell? ⟨(w.heap.size + 1), 3, none⟩ = some (.int .i64 0) := (b2Z.2 3 _ rfl).1
    have fa4_3 : ((wZ.setCell ⟨w.heap.size, 1, none⟩ (.slice B1_ n1 C1_)).setCell ⟨w.heap.size, 2, none⟩ (.slice B2_ n2 C2_)).frozen? ⟨(w.heap.size + 1), 3, none⟩ = false := (b2Z.2 3 _ rfl).2
    replace b1Z := b1Z.far (p := ⟨(w.heap.size + 1), 0, none⟩) (by show _ ≠ (w.heap.size + 1); omega) (.int .i64 lv)
    replace kwZ := Below.setCell kwZ (p := ⟨(w.heap.size + 1), 0, none⟩) (by show _ ≤ (w.heap.size + 1); omega) (.int .i64 lv)
    replace b2Z : Bl (((wZ.setCell ⟨w.heap.size, 1, none⟩ (.slice B1_ n1 C1_)).setCell ⟨w.heap.size, 2, none⟩ (.slice B2_ n2 C2_)).setCell ⟨(w.heap.size + 1), 0, none⟩ (.int .i64 lv)) (w.heap.size + 1) [.int .i64 lv, .slice none 0 0, .slice none 0 0, .int .i64 0] := b2Z.set 0 (.int .i64 lv)
    replace b1Z := b1Z.far (p := ⟨(w.heap.size + 1), 1, none⟩) (by show _ ≠ (w.heap.size + 1); omega) (.slice B1_ n1 C1_)
    replace kwZ := Below.setCell kwZ (p := ⟨(w.heap.size + 1), 1, none⟩) (by show _ ≤ (w.heap.size + 1); omega) (.slice B1_ n1 C1_)
    replace b2Z : Bl ((((wZ.setCell ⟨w.heap.size, 1, none⟩ (.slice B1_ n1 C1_)).setCell ⟨w.heap.size, 2, none⟩ (.slice B2_ n2 C2_)).setCell ⟨(w.heap.size + 1), 0, none⟩ (.int .i64 lv)).setCell ⟨(w.heap.size + 1), 1, none⟩ (.slice B1_ n1 C1_)) (w.heap.size + 1) [.int .i64 lv, .slice B1_ n1 C1_, .slice none 0 0, .int .i64 0] := b2Z.set 1 (.slice B1_ n1 C1_)
    replace b1Z := b1Z.far (p := ⟨(w.heap.size + 1), 2, none⟩) (by show _ ≠ (w.heap.size + 1); omega) (.slice B2_ n2 C2_)
    replace kwZ := Below.setCell kwZ (p := ⟨(w.heap.size + 1), 2, none⟩) (by show _ ≤ (w.heap.size + 1); omega) (.slice B2_ n2 C2_)
    replace b2Z : Bl (((((wZ.setCell ⟨w.heap.size, 1, none⟩ (.slice B1_ n1 C1_)).setCell ⟨w.heap.size, 2, none⟩ (.slice B2_ n2 C2_)).setCell ⟨(w.heap.size + 1), 0, none⟩ (.int .i64 lv)).setCell ⟨(w.heap.size + 1), 1, none⟩ (.slice B1_ n1 C1_)).setCell ⟨(w.heap.size + 1), 2, none⟩ (.slice B2_ n2 C2_)) (w.heap.size + 1) [.int .i64 lv, .slice B1_ n1 C1_, .slice B2_ n2 C2_, .int .i64 0] := b2Z.set 2 (.slice B2_ n2 C2_)
    replace b1Z := b1Z.far (p := ⟨(w.heap.size + 1), 3, none⟩) (by show _ ≠ (w.heap.size + 1); omega) (.int .i64 sm)
    replace kwZ := Below.setCell kwZ (p := ⟨(w.heap.size + 1), 3, none⟩) (by show _ ≤ (w.heap.size + 1); omega) (.int .i64 sm)
    replace b2Z : Bl ((((((wZ.setCell ⟨w.heap.size, 1, none⟩ (.slice B1_ n1 C1_)).setCell ⟨w.heap.size, 2, none⟩ (.slice B2_ n2 C2_)).setCell ⟨(w.heap.size + 1), 0, none⟩ (.int .i64 lv)).setCell ⟨(w.heap.size + 1), 1, none⟩ (.slice B1_ n1 C1_)).setCell ⟨(w.heap.size + 1), 2, none⟩ (.slice B2_ n2 C2_)).setCell ⟨(w.heap.size + 1), 3, none⟩ (.int .i64 sm)) (w.heap.size + 1) [.int .i64 lv, .slice B1_ n1 C1_, .slice B2_ n2 C2_, .int .i64 sm] := b2Z.set 3 (.int .i64 sm)
    have TT2 := hid ((TT.out.fr (fr_one (p := w.heap.size) (i := 1) (.slice B1_ n1 C1_)) (by omega)).fr (fr_one (p := w.heap.size) (i := 2) (.slice B2_ n2 C2_)) (by omega))
    replace TT2 := hid (TT2.out.fr (fr_one (p := w.heap.size + 1) (i := 0) (.int .i64 lv)) (by omega))
    replace TT2 := hid (TT2.out.fr (fr_one (p := w.heap.size + 1) (i := 1) (.slice B1_ n1 C1_)) (by omega))
    replace TT2 := hid (TT2.out.fr (fr_one (p := w.heap.size + 1) (i := 2) (.slice B2_ n2 C2_)) (by omega))
    replace TT2 := hid (TT2.out.fr (fr_one (p := w.heap.size + 1) (i := 3) (.int .i64 sm)) (by omega))
    have TT3 := hid (TT2.out.widen (lo' := w.heap.size) (hi' := ((((((wZ.setCell ⟨w.heap.size, 1, none⟩ (.slice B1_ n1 C1_)).setCell ⟨w.heap.size, 2, none⟩ (.slice B2_ n2 C2_)).setCell ⟨(w.heap.size + 1), 0, none⟩ (.int .i64 lv)).setCell ⟨(w.heap.size + 1), 1, none⟩ (.slice B1_ n1 C1_)).setCell ⟨(w.heap.size + 1), 2, none⟩ (.slice B2_ n2 C2_)).setCell ⟨(w.heap.size + 1), 3, none⟩ (.int .i64 sm)).heap.size) (by omega) (by simp [World.setCell]) (Nat.le_refl _))
    have HK := hid kwZ
    clear TT TT2 kwZ
    try clear hyA
    try clear hxB
    try clear m1 m2
    go_wp2_with fail
    clear ca3_0 fa3_0 ca3_1 fa3_1 ca3_2 fa3_2 ca3_3 fa3_3 ca4_0 fa4_0 ca4_1 fa4_1 ca4_2 fa4_2 ca4_3 fa4_3
    have ca0_0 : ((((((wZ.setCell ⟨w.heap.size, 1, none⟩ (.slice B1_ n1 C1_)).setCell ⟨w.heap.size, 2, none⟩ (.slice B2_ n2 C2_)).setCell ⟨(w.heap.size + 1), 0, none⟩ (.int .i64 lv)).setCell ⟨(w.heap.size + 1), 1, none⟩ (.slice B1_ n1 C1_)).setCell ⟨(w.heap.size + 1), 2, none⟩ (.slice B2_ n2 C2_)).setCell ⟨(w.heap.size + 1), 3, none⟩ (.int .i64 sm)).cell? ⟨(w.heap.size + 1), 0, none⟩ = some (.int .i64 lv) := (b2Z.2 0 _ rfl).1
    have ca0_1 : ((((((wZ.setCell ⟨w.heap.size, 1, none⟩ (.slice B1_ n1 C1_)).setCell ⟨w.heap.size, 2, none⟩ (.slice B2_ n2 C2_)).setCell ⟨(w.heap.size + 1), 0, none⟩ (.int .i64 lv)).setCell ⟨(w.heap.size + 1), 1, none⟩ (.slice B1_ n1 C1_)).setCell ⟨(w.heap.size + 1), 2, none⟩ (.slice B2_ n2 C2_)).setCell ⟨(w.heap.size + 1), 3, none⟩ (.int .i64 sm)).cell? ⟨(w.heap.size + 1), 1, none⟩ = some (.slice B1_ n1 C1_) := (b2Z.2 1 _ rfl).1
    have ca0_2 : ((((((wZ.setCell ⟨w.heap.size, 1, none⟩ (.slice B1_ n1 C1_)).setCell ⟨w.heap.size, 2, none⟩ (.slice B2_ n2 C2_)).setCell ⟨(w.heap.size + 1), 0, none⟩ (.int .i64 lv)).setCell ⟨(w.heap.size + 1), 1, none⟩ (.slice B1_ n1 C1_)).setCell ⟨(w.heap.size + 1), 2, none⟩ (.slice B2_ n2 C2_)).setCell ⟨(w.heap.size + 1), 3, none⟩ (.int .i64 sm)).cell? ⟨(w.heap.size + 1), 2, none⟩ = some (.slice B2_ n2 C2_) := (b2Z.2 2 _ rfl).1
    have ca0_3 : ((((((wZ.setCell ⟨w.heap.size, 1, none⟩ (.slice B1_ n1 C1_)).setCell ⟨w.heap.size, 2, none⟩ (.slice B2_ n2 C2_)).setCell ⟨(w.heap.size + 1), 0, none⟩ (.int .i64 lv)).setCell ⟨(w.heap.size + 1), 1, none⟩ (.slice B1_ n1 C1_)).setCell ⟨(w.heap.size + 1), 2, none⟩ (.slice B2_ n2 C2_)).setCell ⟨(w.heap.size + 1), 3, none⟩ (.int .i64 sm)).cell? ⟨(w.heap.size + 1), 3, none⟩ = some (.int .i64 sm) := (b2Z.2 3 _ rfl).1
    try simp only [Exit.inBlock, Exit.then]
    exact bodyPost_ret (v := .agg #[.int .i64 lv, .slice B1_ n1 C1_, .slice B2_ n2 C2_, .int .i64 sm]) (by simp [results, Tryz.results96, go_sem, ca0_0, ca0_1, ca0_2, ca0_3]) rfl ⟨_, _, _, _, rfl, TT3.out, HK.out⟩)
theorem step_cpo {W : World} {ops : Array Oper} {o : Oper} {a : Act} {K : Act → World → Prop} {Q : Exit → Act → World → Prop} {E : Prop} {lo hi n c : Nat} {A : Option Addr} {xs : List Int}
    (hx : Ints W lo hi A n xs) (hgd : o.guard = none)
    (hrun : (execOp a.eval o).run Tryz.prog W = .ok (.enter 72 #[.slice A n c]) W)
    (h : ∀ A1 C1 w', Mine w' W.heap.size w'.heap.size A1 n xs → Keeps W w' → K (a.put o.dst (.slice A1 n C1)) w') :
    if Region.wanted o (yielded ops a.tmps) = true then Oper.wp Tryz.prog o a W K Q else E := by
  have hw : Region.wanted o (yielded ops a.tmps) = true := by simp [Region.wanted, hgd]
  rw [if_pos hw]
  unfold Oper.wp
  rw [hrun, Oper.upon_enter]
  refine (l1Own_cp hx).mono fun e w' hh => ?_
  obtain ⟨A1, C1, rfl, h1, h3⟩ := hh
  exact h A1 C1 w' h1 h3
set_option maxRecDepth 100000 in
set_option maxHeartbeats 6400000 in
theorem nOwn_tw {A1 A2 : Option Addr} {n1 n2 c1 c2 l1 u1 l2 u2 : Nat} {lv sm : Int} {xs ys : List Int} {w : World} (h1 : Ints w l1 u1 A1 n1 xs) (h2 : Ints w l2 u2 A2 n2 ys) :
    Calls Tryz.prog 98 #[.agg #[.int .i64 lv, .slice A1 n1 c1, .slice A2 n2 c2, .int .i64 sm]] w (TwRes w lv sm n1 xs n2 ys) := by
  go_enter Tryz.func98, Tryz.ntmps98
  have kw := keeps_refl w
  replace kw := Keeps.trans kw (keeps_alloc w (.cells #[.int .i64 lv, .slice A1 n1 c1, .slice A2 n2 c2, .int .i64 sm] 120))
  have b1 : Bl (w.alloc (.cells #[.int .i64 lv, .slice A1 n1 c1, .slice A2 n2 c2, .int .i64 sm] 120)) w.heap.size [.int .i64 lv, .slice A1 n1 c1, .slice A2 n2 c2, .int .i64 sm] := Bl.new' (by simp) (by simp)
  replace b1 := b1.keeps (keeps_alloc (w.alloc (.cells #[.int .i64 lv, .slice A1 n1 c1, .slice A2 n2 c2, .int .i64 sm] 120)) (.cells #[.int .i64 0, .slice none 0 0, .slice none 0 0, .int .i64 0] 120))
  replace kw := Keeps.trans kw (keeps_alloc (w.alloc (.cells #[.int .i64 lv, .slice A1 n1 c1, .slice A2 n2 c2, .int .i64 sm] 120)) (.cells #[.int .i64 0, .slice none 0 0, .slice none 0 0, .int .i64 0] 120))
  have b2 : Bl ((w.alloc (.cells #[.int .i64 lv, .slice A1 n1 c1, .slice A2 n2 c2, .int .i64 sm] 120)).alloc (.cells #[.int .i64 0, .slice none 0 0, .slice none 0 0, .int .i64 0] 120)) (w.heap.size + 1) [.int .i64 0, .slice none 0 0, .slice none 0 0, .int .i64 0] := Bl.new' (by simp) (by simp)
  go_wp2_with fail
  obtain ⟨W, hX⟩ : ∃ u : World, u = ((w.alloc (.cells #[.int .i64 lv, .slice A1 n1 c1, .slice A2 n2 c2, .int .i64 sm] 120)).alloc (.cells #[.int .i64 0, .slice none 0 0, .slice none 0 0, .int .i64 0] 120)) := ⟨_, rfl⟩
  have szX0 := hid (show W.heap.size = w.heap.size + 1 + 1 by rw [hX]; simp)
  rw [← hX] at b1
  rw [← hX] at b2
  rw [← hX] at kw
  rw [← hX]
  clear hX
  have sz2 := kw.size
  have hxD := h1.keeps (kw.trans (keeps_d0 W))
  have hyD := h2.keeps (kw.trans (keeps_d0 W))
  have b1D := b1.keeps (keeps_d0 W)
  have b2D := b2.keeps (keeps_d0 W)
  have sW : w.heap.size + 2 ≤ W.drew.heap.size := by show _ ≤ W.heap.size; rw [szX0.out]; omega
  have kwD := kw.trans (keeps_d0 W)
  have z0D : W.drew.cell? ⟨w.heap.size, 0, none⟩ = some (.int .i64 lv) := (b1D.2 0 _ rfl).1
  have y0D : W.drew.frozen? ⟨w.heap.size, 0, none⟩ = false := (b1D.2 0 _ rfl).2
  have z1D : W.drew.cell? ⟨w.heap.size, 1, none⟩ = some (.slice A1 n1 c1) := (b1D.2 1 _ rfl).1
  have y1D : W.drew.frozen? ⟨w.heap.size, 1, none⟩ = false := (b1D.2 1 _ rfl).2
  have z2D : W.drew.cell? ⟨w.heap.size, 2, none⟩ = some (.slice A2 n2 c2) := (b1D.2 2 _ rfl).1
  have y2D : W.drew.frozen? ⟨w.heap.size, 2, none⟩ = false := (b1D.2 2 _ rfl).2
  have z3D : W.drew.cell? ⟨w.heap.size, 3, none⟩ = some (.int .i64 sm) := (b1D.2 3 _ rfl).1
  have y3D : W.drew.frozen? ⟨w.heap.size, 3, none⟩ = false := (b1D.2 3 _ rfl).2
  have zq0D : W.drew.cell? ⟨(w.heap.size + 1), 0, none⟩ = some (.int .i64 0) := (b2D.2 0 _ rfl).1
  have yq0D : W.drew.frozen? ⟨(w.heap.size + 1), 0, none⟩ = false := (b2D.2 0 _ rfl).2
  have zq1D : W.drew.cell? ⟨(w.heap.size + 1), 1, none⟩ = some (.slice none 0 0) := (b2D.2 1 _ rfl).1
  have yq1D : W.drew.frozen? ⟨(w.heap.size + 1), 1, none⟩ = false := (b2D.2 1 _ rfl).2
  have zq2D : W.drew.cell? ⟨(w.heap.size + 1), 2, none⟩ = some (.slice none 0 0) := (b2D.2 2 _ rfl).1
  have yq2D : W.drew.frozen? ⟨(w.heap.size + 1), 2, none⟩ = false := (b2D.2 2 _ rfl).2
  have zq3D : W.drew.cell? ⟨(w.heap.size + 1), 3, none⟩ = some (.int .i64 0) := (b2D.2 3 _ rfl).1
  have yq3D : W.drew.frozen? ⟨(w.heap.size + 1), 3, none⟩ = false := (b2D.2 3 _ rfl).2
  have kS := hid (show ∀ w', Keeps W w' → (w'.cell? ⟨w.heap.size, 0, none⟩ = some (.int .i64 lv) ∧ w'.cell? ⟨w.heap.size, 1, none⟩ = some (.slice A1 n1 c1) ∧ w'.cell? ⟨w.heap.size, 2, none⟩ = some (.slice A2 n2 c2) ∧ w'.cell? ⟨w.heap.size, 3, none⟩ = some (.int .i64 sm)) from fun w' k => ⟨((b1.keeps k).2 0 _ rfl).1, ((b1.keeps k).2 1 _ rfl).1, ((b1.keeps k).2 2 _ rfl).1, ((b1.keeps k).2 3 _ rfl).1⟩)
  have kT := hid (show ∀ w', Keeps W w' → ∀ v0 v1 v2 v3, (((((w'.setCell ⟨w.heap.size + 1, 0, none⟩ v0).setCell ⟨w.heap.size + 1, 1, none⟩ v1).setCell ⟨w.heap.size + 1, 2, none⟩ v2).setCell ⟨w.heap.size + 1, 3, none⟩ v3).cell? ⟨w.heap.size, 0, none⟩ = some (.int .i64 lv) ∧ ((((w'.setCell ⟨w.heap.size + 1, 0, none⟩ v0).setCell ⟨w.heap.size + 1, 1, none⟩ v1).setCell ⟨w.heap.size + 1, 2, none⟩ v2).setCell ⟨w.heap.size + 1, 3, none⟩ v3).cell? ⟨w.heap.size, 1, none⟩ = some (.slice A1 n1 c1) ∧ ((((w'.setCell ⟨w.heap.size + 1, 0, none⟩ v0).setCell ⟨w.heap.size + 1, 1, none⟩ v1).setCell ⟨w.heap.size + 1, 2, none⟩ v2).setCell ⟨w.heap.size + 1, 3, none⟩ v3).cell? ⟨w.heap.size, 2, none⟩ = some (.slice A2 n2 c2) ∧ ((((w'.setCell ⟨w.heap.size + 1, 0, none⟩ v0).setCell ⟨w.heap.size + 1, 1, none⟩ v1).setCell ⟨w.heap.size + 1, 2, none⟩ v2).setCell ⟨w.heap.size + 1, 3, none⟩ v3).cell? ⟨w.heap.size, 3, none⟩ = some (.int .i64 sm)) from fun w' k v0 v1 v2 v3 => ⟨((((((b1.keeps k).far (p := ⟨w.heap.size + 1, 0, none⟩) (by show _ ≠ _; simp) v0).far (p := ⟨w.heap.size + 1, 1, none⟩) (by show _ ≠ _; simp) v1).far (p := ⟨w.heap.size + 1, 2, none⟩) (by show _ ≠ _; simp) v2).far (p := ⟨w.heap.size + 1, 3, none⟩) (by show _ ≠ _; simp) v3).2 0 _ rfl).1, ((((((b1.keeps k).far (p := ⟨w.heap.size + 1, 0, none⟩) (by show _ ≠ _; simp) v0).far (p := ⟨w.heap.size + 1, 1, none⟩) (by show _ ≠ _; simp) v1).far (p := ⟨w.heap.size + 1, 2, none⟩) (by show _ ≠ _; simp) v2).far (p := ⟨w.heap.size + 1, 3, none⟩) (by show _ ≠ _; simp) v3).2 1 _ rfl).1, ((((((b1.keeps k).far (p := ⟨w.heap.size + 1, 0, none⟩) (by show _ ≠ _; simp) v0).far (p := ⟨w.heap.size + 1, 1, none⟩) (by show _ ≠ _; simp) v1).far (p := ⟨w.heap.size + 1, 2, none⟩) (by show _ ≠ _; simp) v2).far (p := ⟨w.heap.size + 1, 3, none⟩) (by show _ ≠ _; simp) v3).2 2 _ rfl).1, ((((((b1.keeps k).far (p := ⟨w.heap.size + 1, 0, none⟩) (by show _ ≠ _; simp) v0).far (p := ⟨w.heap.size + 1, 1, none⟩) (by show _ ≠ _; simp) v1).far (p := ⟨w.heap.size + 1, 2, none⟩) (by show _ ≠ _; simp) v2).far (p := ⟨w.heap.size + 1, 3, none⟩) (by show _ ≠ _; simp) v3).2 3 _ rfl).1⟩)
  have sW2 : w.heap.size + 2 ≤ W.heap.size := sW
  have kW := keeps_d0 W
  clear z0D y0D zq0D yq0D z1D y1D zq1D yq1D z2D y2D zq2D yq2D z3D y3D zq3D yq3D
  go_region_held3 (fun w' => w'.cell? ⟨w.heap.size, 0, none⟩ = some (.int .i64 lv) ∧ w'.cell? ⟨w.heap.size, 1, none⟩ = some (.slice A1 n1 c1) ∧ w'.cell? ⟨w.heap.size, 2, none⟩ = some (.slice A2 n2 c2) ∧ w'.cell? ⟨w.heap.size, 3, none⟩ = some (.int .i64 sm)) (first | with_reducible exact kS.out _ (keeps_d0 _) | with_reducible exact kS.out _ kW | with_reducible exact kT.out _ kW _ _ _ _ | go_keep)
    ((first | (have q9 := kA; (go_at_call 72; refine (l1Own_cp (c := c2) (h2.keeps (Keeps.trans kw kW))).mono ?_; rintro e wZ ⟨B2_, C2_, rfl, m2, kZ⟩; have TT := hid (TwM.of_two (B := w.heap.size + 2) m1 kZ m2 (by omega) kA.size); replace kW : Keeps W wZ := kW.trans kZ; have b2Z := b2.keeps kW; have zq0wZ : wZ.cell? ⟨(w.heap.size + 1), 0, none⟩ = some (.int .i64 0) := (b2Z.2 0 _ rfl).1; have yq0wZ : wZ.frozen? ⟨(w.heap.size + 1), 0, none⟩ = false := (b2Z.2 0 _ rfl).2; have zq1wZ : wZ.cell? ⟨(w.heap.size + 1), 1, none⟩ = some (.slice none 0 0) := (b2Z.2 1 _ rfl).1; have yq1wZ : wZ.frozen? ⟨(w.heap.size + 1), 1, none⟩ = false := (b2Z.2 1 _ rfl).2; have zq2wZ : wZ.cell? ⟨(w.heap.size + 1), 2, none⟩ = some (.slice none 0 0) := (b2Z.2 2 _ rfl).1; have yq2wZ : wZ.frozen? ⟨(w.heap.size + 1), 2, none⟩ = false := (b2Z.2 2 _ rfl).2; have zq3wZ : wZ.cell? ⟨(w.heap.size + 1), 3, none⟩ = some (.int .i64 0) := (b2Z.2 3 _ rfl).1; have yq3wZ : wZ.frozen? ⟨(w.heap.size + 1), 3, none⟩ = false := (b2Z.2 3 _ rfl).2)) | (go_at_call 72; refine (l1Own_cp (c := c1) (h1.keeps (Keeps.trans kw kW))).mono ?_; rintro e wA ⟨B1_, C1_, rfl, m1, kA⟩; replace kW : Keeps W wA := kW.trans kA)))
  have kwZ := Keeps.trans kw kW
  have sZ := kW.size
  all_goals (
    replace kwZ := Below.setCell kwZ (p := ⟨(w.heap.size + 1), 0, none⟩) (by show _ ≤ (w.heap.size + 1); omega) (.int .i64 lv)
    replace b2Z : Bl (wZ.setCell ⟨(w.heap.size + 1), 0, none⟩ (.int .i64 lv)) (w.heap.size + 1) [.int .i64 lv, .slice none 0 0, .slice none 0 0, .int .i64 0] := b2Z.set 0 (.int .i64 lv)
    replace kwZ := Below.setCell kwZ (p := ⟨(w.heap.size + 1), 1, none⟩) (by show _ ≤ (w.heap.size + 1); omega) (.slice B1_ n1 C1_)
    replace b2Z : Bl ((wZ.setCell ⟨(w.heap.size + 1), 0, none⟩ (.int .i64 lv)).setCell ⟨(w.heap.size + 1), 1, none⟩ (.slice B1_ n1 C1_)) (w.heap.size + 1) [.int .i64 lv, .slice B1_ n1 C1_, .slice none 0 0, .int .i64 0] := b2Z.set 1 (.slice B1_ n1 C1_)
    replace kwZ := Below.setCell kwZ (p := ⟨(w.heap.size + 1), 2, none⟩) (by show _ ≤ (w.heap.size + 1); omega) (.slice B2_ n2 C2_)
    replace b2Z : Bl (((wZ.setCell ⟨(w.heap.size + 1), 0, none⟩ (.int .i64 lv)).setCell ⟨(w.heap.size + 1), 1, none⟩ (.slice B1_ n1 C1_)).setCell ⟨(w.heap.size + 1), 2, none⟩ (.slice B2_ n2 C2_)) (w.heap.size + 1) [.int .i64 lv, .slice B1_ n1 C1_, .slice B2_ n2 C2_, .int .i64 0] := b2Z.set 2 (.slice B2_ n2 C2_)
    replace kwZ := Below.setCell kwZ (p := ⟨(w.heap.size + 1), 3, none⟩) (by show _ ≤ (w.heap.size + 1); omega) (.int .i64 sm)
    replace b2Z : Bl ((((wZ.setCell ⟨(w.heap.size + 1), 0, none⟩ (.int .i64 lv)).setCell ⟨(w.heap.size + 1), 1, none⟩ (.slice B1_ n1 C1_)).setCell ⟨(w.heap.size + 1), 2, none⟩ (.slice B2_ n2 C2_)).setCell ⟨(w.heap.size + 1), 3, none⟩ (.int .i64 sm)) (w.heap.size + 1) [.int .i64 lv, .slice B1_ n1 C1_, .slice B2_ n2 C2_, .int .i64 sm] := b2Z.set 3 (.int .i64 sm)
    have TT2 := hid TT.out
    replace TT2 := hid (TT2.out.fr (fr_one (p := w.heap.size + 1) (i := 0) (.int .i64 lv)) (by omega))
    replace TT2 := hid (TT2.out.fr (fr_one (p := w.heap.size + 1) (i := 1) (.slice B1_ n1 C1_)) (by omega))
    replace TT2 := hid (TT2.out.fr (fr_one (p := w.heap.size + 1) (i := 2) (.slice B2_ n2 C2_)) (by omega))
    replace TT2 := hid (TT2.out.fr (fr_one (p := w.heap.size + 1) (i := 3) (.int .i64 sm)) (by omega))
    have TT3 := hid (TT2.out.widen (lo' := w.heap.size) (hi' := ((((wZ.setCell ⟨(w.heap.size + 1), 0, none⟩ (.int .i64 lv)).setCell ⟨(w.heap.size + 1), 1, none⟩ (.slice B1_ n1 C1_)).setCell ⟨(w.heap.size + 1), 2, none⟩ (.slice B2_ n2 C2_)).setCell ⟨(w.heap.size + 1), 3, none⟩ (.int .i64 sm)).heap.size) (by omega) (by simp [World.setCell]) (Nat.le_refl _))
    have HK := hid kwZ
    clear TT TT2 kwZ
    try clear hyA
    try clear hxB
    try clear m1 m2
    go_wp2_with fail
    have ca0_0 : ((((wZ.setCell ⟨(w.heap.size + 1), 0, none⟩ (.int .i64 lv)).setCell ⟨(w.heap.size + 1), 1, none⟩ (.slice B1_ n1 C1_)).setCell ⟨(w.heap.size + 1), 2, none⟩ (.slice B2_ n2 C2_)).setCell ⟨(w.heap.size + 1), 3, none⟩ (.int .i64 sm)).cell? ⟨(w.heap.size + 1), 0, none⟩ = some (.int .i64 lv) := (b2Z.2 0 _ rfl).1
    have ca0_1 : ((((wZ.setCell ⟨(w.heap.size + 1), 0, none⟩ (.int .i64 lv)).setCell ⟨(w.heap.size + 1), 1, none⟩ (.slice B1_ n1 C1_)).setCell ⟨(w.heap.size + 1), 2, none⟩ (.slice B2_ n2 C2_)).setCell ⟨(w.heap.size + 1), 3, none⟩ (.int .i64 sm)).cell? ⟨(w.heap.size + 1), 1, none⟩ = some (.slice B1_ n1 C1_) := (b2Z.2 1 _ rfl).1
    have ca0_2 : ((((wZ.setCell ⟨(w.heap.size + 1), 0, none⟩ (.int .i64 lv)).setCell ⟨(w.heap.size + 1), 1, none⟩ (.slice B1_ n1 C1_)).setCell ⟨(w.heap.size + 1), 2, none⟩ (.slice B2_ n2 C2_)).setCell ⟨(w.heap.size + 1), 3, none⟩ (.int .i64 sm)).cell? ⟨(w.heap.size + 1), 2, none⟩ = some (.slice B2_ n2 C2_) := (b2Z.2 2 _ rfl).1
    have ca0_3 : ((((wZ.setCell ⟨(w.heap.size + 1), 0, none⟩ (.int .i64 lv)).setCell ⟨(w.heap.size + 1), 1, none⟩ (.slice B1_ n1 C1_)).setCell ⟨(w.heap.size + 1), 2, none⟩ (.slice B2_ n2 C2_)).setCell ⟨(w.heap.size + 1), 3, none⟩ (.int .i64 sm)).cell? ⟨(w.heap.size + 1), 3, none⟩ = some (.int .i64 sm) := (b2Z.2 3 _ rfl).1
    try simp only [Exit.inBlock, Exit.then]
    exact bodyPost_ret (v := .agg #[.int .i64 lv, .slice B1_ n1 C1_, .slice B2_ n2 C2_, .int .i64 sm]) (by simp [results, Tryz.results98, go_sem, ca0_0, ca0_1, ca0_2, ca0_3]) rfl ⟨_, _, _, _, rfl, TT3.out, HK.out⟩)
end Go.Proofs.YtohjkpopbmmliaaGreat
