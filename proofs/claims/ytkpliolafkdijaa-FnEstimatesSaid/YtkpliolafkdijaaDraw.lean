/- What the cursor draws: fractions, sizes with chances: bounds alone. -/
import Derived.Test.YtkpliolafkdijaaCur
import Derived.Test.YtkpliolafkdijaaFopen
namespace Go.Proofs.Ytkpliolafkdijaa
open Go.RowKit
set_option linter.unusedVariables false
set_option linter.unusedSimpArgs false

theorem Fr.setNew {lo hi : Nat} {a w : World} (h : Fr lo hi a w) {p : Addr} (hp : a.heap.size ≤ p.block) (u : Value) : Fr lo hi a (w.setCell p u) :=
  ⟨h.os, h.tape, h.output, Nat.le_trans h.size (by simp [World.setCell]), fun k hk ho => by rw [Below.heap_setCell _ _ _ _ (by omega)]; exact h.block k hk ho⟩
theorem Fr.keeps {lo hi : Nat} {a b c : World} (h : Fr lo hi a b) (k : Keeps b c) : Fr lo hi a c := h.trans (Fr.of_keeps k lo hi)
/-- A literal slice of ints. -/
theorem lit_ints (w : World) (xs : List Int) (hn : xs.length ≤ 67108864) : Ints (w.alloc (.cells (xs.map (Value.int .i64)).toArray 3)) w.heap.size (w.heap.size + 1) (some ⟨w.heap.size, 0, none⟩) xs.length xs := by
  have ho : Own (w.alloc (.cells (xs.map (Value.int .i64)).toArray 3)) w.heap.size xs := heap_alloc_new w _
  exact (ho.mine rfl hn (Nat.le_refl _) (Nat.lt_succ_self _) (by simp)).1
/-- A pair of numbers that are not great. -/
def Sm (p q : Int) : Prop := (-2000000000 ≤ p ∧ p ≤ 2000000000) ∧ (-2000000000 ≤ q ∧ q ≤ 2000000000)
theorem Sm.i64 {p q : Int} (h : Sm p q) : I64 p ∧ I64 q := by unfold Sm at h; unfold I64; omega
theorem mkF_sm (n d : Int) : Sm (mkF n d).1 (mkF n d).2.1 := by have := mkF_qb n d; unfold QB at this; unfold Sm; omega
/-- What a drawing function that hands back a fraction leaves. -/
def DrawsQ (w : World) (g : Nat) (T : Int) (e : Ending) (w' : World) : Prop := ∃ p q, e = .returned (.agg #[.int .i64 p, .int .i64 q]) ∧ Sm p q ∧ Cur w' g T ∧ Fr g (g + 1) w w'

set_option maxRecDepth 100000 in
set_option maxHeartbeats 1600000 in
theorem frac_any {g : Nat} {T : Int} {w : World} (h : Cur w g T) (hT : T ≤ 990000000000000) :
    Calls Try.prog 140 #[.pointer (some ⟨g, 0, none⟩)] w (DrawsQ w g (T + 4)) := by
  have lg := h.lt
  go_enter Try.func140, Try.ntmps140
  have f : Fr g (g + 1) w w := Fr.refl _ _ _
  have hc := h
  replace f := f.keeps (keeps_alloc w (.cells #[.int .i64 0, .int .i64 0] 41))
  replace hc := hc.keeps (keeps_alloc w (.cells #[.int .i64 0, .int .i64 0] 41))
  have b2 : Bx (w.alloc (.cells #[.int .i64 0, .int .i64 0] 41)) w.heap.size 0 0 := Bx.new' (by simp)
  go_wp2_with fail
  refine (pick_any hc (by omega) (by omega)).mono ?_
  rintro e w1 ⟨x, rfl, hx, hn, ff⟩
  replace f := f.trans ff
  clear hc
  have hc := hn
  replace b2 := b2.fr ff (by first | omega | (simp; omega))
  clear ff hn
  have sz1 := f.size
  have lt1 := b2.lt
  go_wp2_with fail
  refine (pick_any hc (by omega) (by omega)).mono ?_
  rintro e w2 ⟨y, rfl, hy, hn, ff⟩
  replace f := f.trans ff
  clear hc
  have hc := hn
  replace b2 := b2.fr ff (by first | omega | (simp; omega))
  clear ff hn
  have sz2 := f.size
  have lt2 := b2.lt
  go_wp2_with fail
  obtain ⟨r1, r2, r3, HS⟩ : ∃ r1 r2 r3, Hid (mkF (x - 20) (1 + y) = (r1, r2, r3)) := ⟨_, _, _, rfl⟩
  have hsm := mkF_sm (x - 20) (1 + y)
  rw [HS.out] at hsm
  refine (fMake_any (n := x - 20) (d := 1 + y) (by omega) (by omega)).mono ?_
  rintro e w3 ⟨rfl, kk⟩
  replace f := f.keeps kk
  replace hc := hc.keeps kk
  replace b2 := b2.keeps kk
  clear kk
  have sz3 := f.size
  have lt3 := b2.lt
  rw [HS.out]
  replace f := f.keeps (keeps_alloc w3 (.cells #[.int .i64 r1, .int .i64 r2] 41))
  replace hc := hc.keeps (keeps_alloc w3 (.cells #[.int .i64 r1, .int .i64 r2] 41))
  replace b2 := b2.keeps (keeps_alloc w3 (.cells #[.int .i64 r1, .int .i64 r2] 41))
  have b3 : Bx (w3.alloc (.cells #[.int .i64 r1, .int .i64 r2] 41)) w3.heap.size r1 r2 := Bx.new' (by simp)
  obtain ⟨ca4, cb4, fa4, fb4⟩ := id b2
  obtain ⟨ca5, cb5, fa5, fb5⟩ := id b3
  replace f := (f.setNew (p := ⟨w.heap.size, 0, none⟩) (by show _ ≤ w.heap.size; omega) (.int .i64 r1)).setNew (p := ⟨w.heap.size, 1, none⟩) (by show _ ≤ w.heap.size; omega) (.int .i64 r2)
  replace hc := hc.fr (fr_set2 (p := w.heap.size) (.int .i64 r1) (.int .i64 r2)) (by omega)
  replace b3 := b3.set2 (p := w.heap.size) (by omega) (.int .i64 r1) (.int .i64 r2)
  replace b2 := b2.set r1 r2
  clear lt3
  go_wp2_with fail
  clear ca4 cb4 fa4 fb4 ca5 cb5 fa5 fb5
  obtain ⟨ca0, cb0, -, -⟩ := id b2
  exact bodyPost_ret (v := .agg #[.int .i64 r1, .int .i64 r2]) (by simp [results, Try.results140, go_sem, ca0, cb0]) rfl ⟨_, _, rfl, hsm, hc.mono (by omega), f⟩
theorem among_small {xs : List Int} {j : Nat} (h : ∀ x, x ∈ xs → -2000000000 ≤ x ∧ x ≤ 2000000000) (hj : j < xs.length) : -2000000000 ≤ xs.getD j 0 ∧ xs.getD j 0 ≤ 2000000000 := by
  have e : xs.getD j 0 = xs[j] := by simp [List.getD, hj]
  rw [e]; exact h _ (List.getElem_mem hj)
set_option maxRecDepth 100000 in
set_option maxHeartbeats 3200000 in
theorem anyFrac_any {g : Nat} {T : Int} {w : World} (h : Cur w g T) (hT : T ≤ 900000000000000) :
    Calls Try.prog 141 #[.pointer (some ⟨g, 0, none⟩)] w (DrawsQ w g (T + 10)) := by
  have lg := h.lt
  go_enter Try.func141, Try.ntmps141
  have f : Fr g (g + 1) w w := Fr.refl _ _ _
  have hc := h
  replace f := f.keeps (keeps_alloc w (.cells #[.int .i64 0, .int .i64 0] 41))
  replace hc := hc.keeps (keeps_alloc w (.cells #[.int .i64 0, .int .i64 0] 41))
  have b2 : Bx (w.alloc (.cells #[.int .i64 0, .int .i64 0] 41)) w.heap.size 0 0 := Bx.new' (by simp)
  go_wp2_with fail
  refine (pick_any hc (by omega) (by omega)).mono ?_
  rintro e w1 ⟨v, rfl, hv, hn, ff⟩
  replace f := f.trans ff
  clear hc
  have hc := hn
  replace b2 := b2.fr ff (by first | omega | (simp; omega))
  clear ff hn
  have sz1 := f.size
  have lt1 := b2.lt
  by_cases h0 : v = 0
  · subst h0
    clear hv
    have Lx : Ints (w1.alloc (.cells #[.int .i64 1000000000, .int .i64 (-1000000000), .int .i64 999999999, .int .i64 1000000001] 3)) w1.heap.size (w1.heap.size + 1) (some ⟨w1.heap.size, 0, none⟩) 4 [1000000000, -1000000000, 999999999, 1000000001] := lit_ints w1 [1000000000, -1000000000, 999999999, 1000000001] (by decide)
    replace f := f.keeps (keeps_alloc w1 (.cells #[.int .i64 1000000000, .int .i64 (-1000000000), .int .i64 999999999, .int .i64 1000000001] 3))
    replace hc := hc.keeps (keeps_alloc w1 (.cells #[.int .i64 1000000000, .int .i64 (-1000000000), .int .i64 999999999, .int .i64 1000000001] 3))
    replace b2 := b2.keeps (keeps_alloc w1 (.cells #[.int .i64 1000000000, .int .i64 (-1000000000), .int .i64 999999999, .int .i64 1000000001] 3))
    go_wp2_with fail
    refine (among_any hc (by omega) Lx (by first | omega | (simp; omega)) (by omega) (by omega)).mono ?_
    rintro e w2 ⟨x, xj, rfl, xh, xe, hn, ff⟩
    replace f := f.trans ff
    clear hc
    have hc := hn
    replace b2 := b2.fr ff (by first | omega | (simp; omega))
    clear ff hn
    have sz2 := f.size
    have lt2 := b2.lt
    have xb := among_small (xs := [1000000000, -1000000000, 999999999, 1000000001]) (j := xj) (by decide) (by simpa using xh)
    rw [← xe] at xb
    clear Lx xe
    have Ly : Ints (w2.alloc (.cells #[.int .i64 1, .int .i64 7, .int .i64 999999999, .int .i64 999999937] 3)) w2.heap.size (w2.heap.size + 1) (some ⟨w2.heap.size, 0, none⟩) 4 [1, 7, 999999999, 999999937] := lit_ints w2 [1, 7, 999999999, 999999937] (by decide)
    replace f := f.keeps (keeps_alloc w2 (.cells #[.int .i64 1, .int .i64 7, .int .i64 999999999, .int .i64 999999937] 3))
    replace hc := hc.keeps (keeps_alloc w2 (.cells #[.int .i64 1, .int .i64 7, .int .i64 999999999, .int .i64 999999937] 3))
    replace b2 := b2.keeps (keeps_alloc w2 (.cells #[.int .i64 1, .int .i64 7, .int .i64 999999999, .int .i64 999999937] 3))
    go_wp2_with fail
    refine (among_any hc (by omega) Ly (by first | omega | (simp; omega)) (by omega) (by omega)).mono ?_
    rintro e w3 ⟨y, yj, rfl, yh, ye, hn, ff⟩
    replace f := f.trans ff
    clear hc
    have hc := hn
    replace b2 := b2.fr ff (by first | omega | (simp; omega))
    clear ff hn
    have sz3 := f.size
    have lt3 := b2.lt
    have yb := among_small (xs := [1, 7, 999999999, 999999937]) (j := yj) (by decide) (by simpa using yh)
    rw [← ye] at yb
    clear Ly ye
    have hsm : Sm x y := by unfold Sm; omega
    obtain ⟨ca4, cb4, fa4, fb4⟩ := id b2
    replace f := (f.setNew (p := ⟨w.heap.size, 0, none⟩) (by show _ ≤ w.heap.size; omega) (.int .i64 x)).setNew (p := ⟨w.heap.size, 1, none⟩) (by show _ ≤ w.heap.size; omega) (.int .i64 y)
    replace hc := hc.fr (fr_set2 (p := w.heap.size) (.int .i64 x) (.int .i64 y)) (by omega)
    replace b2 := b2.set x y
    go_wp2_with fail
    clear ca4 cb4 fa4 fb4
    obtain ⟨ca0, cb0, -, -⟩ := id b2
    exact bodyPost_ret (v := .agg #[.int .i64 x, .int .i64 y]) (by simp [results, Try.results141, go_sem, ca0, cb0]) rfl ⟨_, _, rfl, hsm, hc.mono (by omega), f⟩
  have t0 : (v == 0) = false := by rw [beq_eq_false_iff_ne]; exact h0
  by_cases h1 : v = 1
  · subst h1
    clear hv t0 h0
    go_wp2_with fail
    refine (pick_any hc (by omega) (by omega)).mono ?_
    rintro e w2 ⟨x, rfl, hx, hn, ff⟩
    replace f := f.trans ff
    clear hc
    have hc := hn
    replace b2 := b2.fr ff (by first | omega | (simp; omega))
    clear ff hn
    have sz2 := f.size
    have lt2 := b2.lt
    go_wp2_with fail
    refine (pick_any hc (by omega) (by omega)).mono ?_
    rintro e w3 ⟨y, rfl, hy, hn, ff⟩
    replace f := f.trans ff
    clear hc
    have hc := hn
    replace b2 := b2.fr ff (by first | omega | (simp; omega))
    clear ff hn
    have sz3 := f.size
    have lt3 := b2.lt
    have hsm : Sm (x - 4) (y - 1) := by unfold Sm; omega
    obtain ⟨ca4, cb4, fa4, fb4⟩ := id b2
    replace f := (f.setNew (p := ⟨w.heap.size, 0, none⟩) (by show _ ≤ w.heap.size; omega) (.int .i64 (x - 4))).setNew (p := ⟨w.heap.size, 1, none⟩) (by show _ ≤ w.heap.size; omega) (.int .i64 (y - 1))
    replace hc := hc.fr (fr_set2 (p := w.heap.size) (.int .i64 (x - 4)) (.int .i64 (y - 1))) (by omega)
    replace b2 := b2.set (x - 4) (y - 1)
    go_wp2_with fail
    clear ca4 cb4 fa4 fb4
    obtain ⟨ca0, cb0, -, -⟩ := id b2
    exact bodyPost_ret (v := .agg #[.int .i64 (x - 4), .int .i64 (y - 1)]) (by simp [results, Try.results141, go_sem, ca0, cb0]) rfl ⟨_, _, rfl, hsm, hc.mono (by omega), f⟩
  have t1 : (v == 1) = false := by rw [beq_eq_false_iff_ne]; exact h1
  by_cases h2 : v = 2
  · subst h2
    clear hv t0 h0 t1 h1
    go_wp2_with fail
    refine (pick_any hc (by omega) (by omega)).mono ?_
    rintro e w2 ⟨x, rfl, hx, hn, ff⟩
    replace f := f.trans ff
    clear hc
    have hc := hn
    replace b2 := b2.fr ff (by first | omega | (simp; omega))
    clear ff hn
    have sz2 := f.size
    have lt2 := b2.lt
    have Ly : Ints (w2.alloc (.cells #[.int .i64 1000000000, .int .i64 1000000001, .int .i64 999999937] 3)) w2.heap.size (w2.heap.size + 1) (some ⟨w2.heap.size, 0, none⟩) 3 [1000000000, 1000000001, 999999937] := lit_ints w2 [1000000000, 1000000001, 999999937] (by decide)
    replace f := f.keeps (keeps_alloc w2 (.cells #[.int .i64 1000000000, .int .i64 1000000001, .int .i64 999999937] 3))
    replace hc := hc.keeps (keeps_alloc w2 (.cells #[.int .i64 1000000000, .int .i64 1000000001, .int .i64 999999937] 3))
    replace b2 := b2.keeps (keeps_alloc w2 (.cells #[.int .i64 1000000000, .int .i64 1000000001, .int .i64 999999937] 3))
    go_wp2_with fail
    refine (among_any hc (by omega) Ly (by first | omega | (simp; omega)) (by omega) (by omega)).mono ?_
    rintro e w3 ⟨y, yj, rfl, yh, ye, hn, ff⟩
    replace f := f.trans ff
    clear hc
    have hc := hn
    replace b2 := b2.fr ff (by first | omega | (simp; omega))
    clear ff hn
    have sz3 := f.size
    have lt3 := b2.lt
    have yb := among_small (xs := [1000000000, 1000000001, 999999937]) (j := yj) (by decide) (by simpa using yh)
    rw [← ye] at yb
    clear Ly ye
    have hsm : Sm x y := by unfold Sm; omega
    obtain ⟨ca4, cb4, fa4, fb4⟩ := id b2
    replace f := (f.setNew (p := ⟨w.heap.size, 0, none⟩) (by show _ ≤ w.heap.size; omega) (.int .i64 x)).setNew (p := ⟨w.heap.size, 1, none⟩) (by show _ ≤ w.heap.size; omega) (.int .i64 y)
    replace hc := hc.fr (fr_set2 (p := w.heap.size) (.int .i64 x) (.int .i64 y)) (by omega)
    replace b2 := b2.set x y
    go_wp2_with fail
    clear ca4 cb4 fa4 fb4
    obtain ⟨ca0, cb0, -, -⟩ := id b2
    exact bodyPost_ret (v := .agg #[.int .i64 x, .int .i64 y]) (by simp [results, Try.results141, go_sem, ca0, cb0]) rfl ⟨_, _, rfl, hsm, hc.mono (by omega), f⟩
  have t2 : (v == 2) = false := by rw [beq_eq_false_iff_ne]; exact h2
  go_wp2_with fail
  refine (frac_any hc (by omega)).mono ?_
  rintro e w2 ⟨x, y, rfl, hsm, hn, ff⟩
  replace f := f.trans ff
  clear hc
  have hc := hn
  replace b2 := b2.fr ff (by first | omega | (simp; omega))
  clear ff hn
  have sz2 := f.size
  have lt2 := b2.lt
  obtain ⟨ca3, cb3, fa3, fb3⟩ := id b2
  replace f := (f.setNew (p := ⟨w.heap.size, 0, none⟩) (by show _ ≤ w.heap.size; omega) (.int .i64 x)).setNew (p := ⟨w.heap.size, 1, none⟩) (by show _ ≤ w.heap.size; omega) (.int .i64 y)
  replace hc := hc.fr (fr_set2 (p := w.heap.size) (.int .i64 x) (.int .i64 y)) (by omega)
  replace b2 := b2.set x y
  go_wp2_with fail
  clear ca3 cb3 fa3 fb3
  obtain ⟨ca0, cb0, -, -⟩ := id b2
  exact bodyPost_ret (v := .agg #[.int .i64 x, .int .i64 y]) (by simp [results, Try.results141, go_sem, ca0, cb0]) rfl ⟨_, _, rfl, hsm, hc.mono (by omega), f⟩
theorem Cur.new {w : World} {hi n c : Nat} {A : Option Addr} {t : TypeId} (h : Bytes w hi A n) : Cur (w.alloc (.cells #[.slice A n c, .int .i64 0, .int .u64 0] t)) w.heap.size 0 := by
  have hb : Bytes w w.heap.size A n := ⟨h.1, Nat.le_refl _, fun hn => by obtain ⟨b, off, e, h1, h2⟩ := h.2.2 hn; exact ⟨b, off, e, Nat.lt_of_lt_of_le h1 h.2.1, h2⟩⟩
  have hh := heap_alloc_new w (.cells #[.slice A n c, .int .i64 0, .int .u64 0] t)
  have hk : ∀ j v, #[Value.slice A n c, .int .i64 0, .int .u64 0][j]? = some v → (w.alloc (.cells #[.slice A n c, .int .i64 0, .int .u64 0] t)).cell? ⟨w.heap.size, j, none⟩ = some v := fun j v hv => by rw [cell_of_row _ _ j _ _ _ hh]; exact hv
  exact ⟨A, n, c, 0, 0, hb.keeps (keeps_alloc _ _), hk 0 _ rfl, hk 1 _ rfl, hk 2 _ rfl, by simp only [World.frozen?, hh]; simp, by simp only [World.frozen?, hh]; simp, by omega, by omega⟩
/-- A size and a chance. -/
def DrawsN (w : World) (e : Ending) (w' : World) : Prop := ∃ n p q, e = .returned (.tuple #[.int .i64 n, .agg #[.int .i64 p, .int .i64 q]]) ∧ (0 ≤ n ∧ n ≤ 9) ∧ Sm p q ∧ Keeps w w'
set_option maxRecDepth 100000 in
set_option maxHeartbeats 3200000 in
theorem DrawRandomResponse_any {A : Option Addr} {hi n c : Nat} {w : World} (hb : Bytes w hi A n) :
    Calls Try.prog 89 #[.slice A n c] w (DrawsN w) := by
  go_enter Try.func89, Try.ntmps89
  have kw := keeps_refl w
  replace kw := Keeps.trans kw (keeps_alloc w (.cells #[.int .i64 0, .int .i64 0] 41))
  have b3 : Bx (w.alloc (.cells #[.int .i64 0, .int .i64 0] 41)) w.heap.size 0 0 := Bx.new' (by simp)
  have hc := Cur.new (t := 125) (c := c) (hb.keeps kw)
  replace b3 := b3.keeps (keeps_alloc (w.alloc (.cells #[.int .i64 0, .int .i64 0] 41)) (.cells #[.slice A n c, .int .i64 0, .int .u64 0] 125))
  replace kw := Keeps.trans kw (keeps_alloc (w.alloc (.cells #[.int .i64 0, .int .i64 0] 41)) (.cells #[.slice A n c, .int .i64 0, .int .u64 0] 125))
  rw [show (w.alloc (.cells #[.int .i64 0, .int .i64 0] 41)).heap.size = w.heap.size + 1 by simp] at hc
  have L : Ints (((w.alloc (.cells #[.int .i64 0, .int .i64 0] 41)).alloc (.cells #[.slice A n c, .int .i64 0, .int .u64 0] 125)).alloc (.cells #[.int .i64 2, .int .i64 3, .int .i64 4, .int .i64 8, .int .i64 1, .int .i64 9] 3)) ((w.alloc (.cells #[.int .i64 0, .int .i64 0] 41)).alloc (.cells #[.slice A n c, .int .i64 0, .int .u64 0] 125)).heap.size (((w.alloc (.cells #[.int .i64 0, .int .i64 0] 41)).alloc (.cells #[.slice A n c, .int .i64 0, .int .u64 0] 125)).heap.size + 1) (some ⟨((w.alloc (.cells #[.int .i64 0, .int .i64 0] 41)).alloc (.cells #[.slice A n c, .int .i64 0, .int .u64 0] 125)).heap.size, 0, none⟩) 6 [2, 3, 4, 8, 1, 9] := lit_ints ((w.alloc (.cells #[.int .i64 0, .int .i64 0] 41)).alloc (.cells #[.slice A n c, .int .i64 0, .int .u64 0] 125)) [2, 3, 4, 8, 1, 9] (by decide)
  rw [show ((w.alloc (.cells #[.int .i64 0, .int .i64 0] 41)).alloc (.cells #[.slice A n c, .int .i64 0, .int .u64 0] 125)).heap.size = w.heap.size + 1 + 1 by simp] at L
  replace hc := hc.keeps (keeps_alloc ((w.alloc (.cells #[.int .i64 0, .int .i64 0] 41)).alloc (.cells #[.slice A n c, .int .i64 0, .int .u64 0] 125)) (.cells #[.int .i64 2, .int .i64 3, .int .i64 4, .int .i64 8, .int .i64 1, .int .i64 9] 3))
  replace b3 := b3.keeps (keeps_alloc ((w.alloc (.cells #[.int .i64 0, .int .i64 0] 41)).alloc (.cells #[.slice A n c, .int .i64 0, .int .u64 0] 125)) (.cells #[.int .i64 2, .int .i64 3, .int .i64 4, .int .i64 8, .int .i64 1, .int .i64 9] 3))
  replace kw := Keeps.trans kw (keeps_alloc ((w.alloc (.cells #[.int .i64 0, .int .i64 0] 41)).alloc (.cells #[.slice A n c, .int .i64 0, .int .u64 0] 125)) (.cells #[.int .i64 2, .int .i64 3, .int .i64 4, .int .i64 8, .int .i64 1, .int .i64 9] 3))
  go_wp2_with fail
  refine (among_any hc (by omega) L (by first | omega | (simp; omega)) (by omega) (by omega)).mono ?_
  rintro e w1 ⟨m, mj, rfl, mh, me, hn, ff⟩
  replace kw := below_fr kw kw.size (by omega) ff
  clear hc
  have hc := hn
  replace b3 := b3.fr ff (by first | omega | (simp; omega))
  clear ff hn
  have sz1 := kw.size
  have lc1 := hc.lt
  have lt1 := b3.lt
  have mb : 0 ≤ m ∧ m ≤ 9 := by rw [me]; rcases mj with _ | _ | _ | _ | _ | _ | mj <;> first | (simp; done) | (simp at mh; omega)
  clear L me mh
  go_wp2_with fail
  refine (one_any hc (by omega) (by omega)).mono ?_
  rintro e w2 ⟨b, rfl, hn, ff⟩
  replace kw := below_fr kw kw.size (by omega) ff
  clear hc
  have hc := hn
  replace b3 := b3.fr ff (by first | omega | (simp; omega))
  clear ff hn
  have sz2 := kw.size
  have lc2 := hc.lt
  have lt2 := b3.lt
  cases b
  rotate_left
  · go_wp2_with fail
    refine (anyFrac_any hc (by omega)).mono ?_
    rintro e w3 ⟨x, y, rfl, hsm, hn, ff⟩
    replace kw := below_fr kw kw.size (by omega) ff
    clear hc
    have hc := hn
    replace b3 := b3.fr ff (by first | omega | (simp; omega))
    clear ff hn
    have sz3 := kw.size
    have lc3 := hc.lt
    have lt3 := b3.lt
    obtain ⟨ca4, cb4, fa4, fb4⟩ := id b3
    replace b3 := b3.set x y
    replace kw := below_set2 kw (p := w.heap.size) (by omega) (.int .i64 x) (.int .i64 y)
    go_wp2_with fail
    clear ca4 cb4 fa4 fb4
    obtain ⟨ca0, cb0, -, -⟩ := id b3
    exact bodyPost_ret (v := .tuple #[.int .i64 m, .agg #[.int .i64 x, .int .i64 y]]) (by simp [results, Try.results89, go_sem, ca0, cb0]) rfl ⟨m, _, _, rfl, mb, hsm, kw⟩
  · go_wp2_with fail
    refine (pick_any hc (by omega) (by omega)).mono ?_
    rintro e w3 ⟨x, rfl, hx, hn, ff⟩
    replace kw := below_fr kw kw.size (by omega) ff
    clear hc
    have hc := hn
    replace b3 := b3.fr ff (by first | omega | (simp; omega))
    clear ff hn
    have sz3 := kw.size
    have lc3 := hc.lt
    have lt3 := b3.lt
    go_wp2_with fail
    obtain ⟨r1, r2, r3, HS⟩ : ∃ r1 r2 r3, Hid (mkF x 7 = (r1, r2, r3)) := ⟨_, _, _, rfl⟩
    have hsm := mkF_sm x 7
    rw [HS.out] at hsm
    refine (fMake_any (n := x) (d := 7) (by omega) (by omega)).mono ?_
    rintro e w4 ⟨rfl, kk⟩
    replace kw := Keeps.trans kw kk
    replace hc := hc.keeps kk
    replace b3 := b3.keeps kk
    clear kk
    have sz4 := kw.size
    have lc4 := hc.lt
    have lt4 := b3.lt
    rw [HS.out]
    replace b3 := b3.keeps (keeps_alloc w4 (.cells #[.int .i64 r1, .int .i64 r2] 41))
    replace kw := Keeps.trans kw (keeps_alloc w4 (.cells #[.int .i64 r1, .int .i64 r2] 41))
    have b6 : Bx (w4.alloc (.cells #[.int .i64 r1, .int .i64 r2] 41)) w4.heap.size r1 r2 := Bx.new' (by simp)
    obtain ⟨ca5, cb5, fa5, fb5⟩ := id b3
    obtain ⟨ca6, cb6, fa6, fb6⟩ := id b6
    clear lt4
    go_wp2_with fail
    go_region
    all_goals (
      go_wp2
      refine bodyPost_ret (v := .tuple #[.int .i64 m, .agg #[.int .i64 r1, .int .i64 r2]]) (by simp [results, Try.results89, go_sem, ca5, cb5, fa5, fb5, ca6, cb6, fa6, fb6]) rfl ⟨m, _, _, rfl, mb, hsm, ?_⟩
      first | exact below_set2 kw (by omega) _ _ | exact below_drewN (below_set2 kw (by omega) _ _) 1 | exact below_set2 (below_drewN kw 1) (by omega) _ _)
set_option maxRecDepth 100000 in
set_option maxHeartbeats 1600000 in
theorem DrawGeometricMechanism_any {A : Option Addr} {hi n c : Nat} {w : World} (hb : Bytes w hi A n) :
    Calls Try.prog 88 #[.slice A n c] w (DrawsN w) := by
  go_enter Try.func88, Try.ntmps88
  have kw := keeps_refl w
  replace kw := Keeps.trans kw (keeps_alloc w (.cells #[.int .i64 0, .int .i64 0] 41))
  have b3 : Bx (w.alloc (.cells #[.int .i64 0, .int .i64 0] 41)) w.heap.size 0 0 := Bx.new' (by simp)
  go_wp2_with fail
  refine (DrawRandomResponse_any (hb.keeps kw)).mono ?_
  rintro e w1 ⟨m, x, y, rfl, mb, hsm, k1⟩
  replace b3 := b3.keeps k1
  replace kw := Keeps.trans kw k1
  have lt2 := b3.lt
  have sz3 := kw.size
  clear k1
  obtain ⟨ca4, cb4, fa4, fb4⟩ := id b3
  replace b3 := b3.set x y
  replace kw := below_set2 kw (p := w.heap.size) (by omega) (.int .i64 x) (.int .i64 y)
  go_wp2_with fail
  clear ca4 cb4 fa4 fb4
  obtain ⟨ca0, cb0, -, -⟩ := id b3
  exact bodyPost_ret (v := .tuple #[.int .i64 m, .agg #[.int .i64 x, .int .i64 y]]) (by simp [results, Try.results88, go_sem, ca0, cb0]) rfl ⟨m, _, _, rfl, mb, hsm, kw⟩
end Go.Proofs.Ytkpliolafkdijaa
