/- The law FnExactHideCells: the walk. -/
import Derived.Test.YtnopedjgagoahaaHc
import Derived.Test.YtnopedjgagoahaaDat
import Derived.Deep.RegionHeld3
namespace Go.Proofs.Ytnopedjgagoahaa
open Go.ChangeShapes Go.WideShapes Go.ChangeAt Go.RowKit
set_option linter.unusedVariables false
set_option linter.unusedSimpArgs false

/-- A published table that came in. -/
def PubArg (w : World) (A1 : Option Addr) (n1 : Nat) (xs : List Int) (A2 : Option Addr) (n2 : Nat) (ys : List Int) (A3 : Option Addr) (n3 : Nat) (zs : List Int) : Prop := IntsArg w A1 n1 xs ∧ IntsArg w A2 n2 ys ∧ IntsArg w A3 n3 zs
section
variable {H : Type} {enc : TypeId × Value → H} {w : World} {held : Bool}
theorem kinds_pub : kinds Try.prog 4 70 = some [.i, .sl [.i], .sl [.i], .i, .sl [.i]] := by kernel_rfl
set_option maxRecDepth 100000 in
theorem open_arg_pub {r : Reach} {b0 : Nat} {v : Value} {d : DataW H} {p : List MemPlace} (hv : Value.okWide Try.prog w r b0 70 v) (h : DataW.Trod enc Try.prog w 0 (fun _ => true) held 70 v d p) :
    ∃ lv A1 n1 c1 xs A2 n2 c2 ys sm A3 n3 c3 zs, v = .agg #[.int .i64 lv, .slice A1 n1 c1, .slice A2 n2 c2, .int .i64 sm, .slice A3 n3 c3] ∧ PubArg w A1 n1 xs A2 n2 ys A3 n3 zs := by
  obtain ⟨cs, rfl, hsz⟩ := okWide_struct Try.underlying70 hv
  obtain ⟨fuel, hf⟩ := h
  obtain ⟨ds, g1, g2⟩ := open_data 4 fuel _ _ _ _ kinds_pub hf
  obtain ⟨d1, ds, rfl, k1, g1⟩ := g1.inv
  obtain ⟨d2, ds, rfl, k2, g1⟩ := g1.inv
  obtain ⟨d3, ds, rfl, k3, g1⟩ := g1.inv
  obtain ⟨d4, ds, rfl, k4, g1⟩ := g1.inv
  obtain ⟨d5, ds, rfl, k5, g1⟩ := g1.inv
  obtain rfl := g1.inv0
  obtain ⟨l⟩ := cs
  match l, g2 with
  | [v1, v2, v3, v4, v5], g2 =>
    obtain ⟨r1, r2, r3, r4, r5, _⟩ := g2
    obtain ⟨lv, rfl, _⟩ := k1.inv_i
    obtain ⟨sm, rfl, _⟩ := k4.inv_i
    obtain ⟨A1, n1, c1, xs, rfl, i1⟩ := k2.ints r2
    obtain ⟨A2, n2, c2, ys, rfl, i2⟩ := k3.ints r3
    obtain ⟨A3, n3, c3, zs, rfl, i3⟩ := k5.ints r5
    unfold Rd at r1 r4
    subst r1 r4
    exact ⟨lv, A1, n1, c1, xs, A2, n2, c2, ys, sm, A3, n3, c3, zs, rfl, i1, i2, i3⟩
end

set_option maxRecDepth 100000 in
set_option maxHeartbeats 12800000 in
theorem FnExactHideCells_law (lv : Int) (A1 : Option Addr) (n1 c1 : Nat) (xs : List Int) (A2 : Option Addr) (n2 c2 : Nat) (ys : List Int) (sm : Int) (A3 : Option Addr) (n3 c3 : Nat) (zs : List Int) (t : Int) (w : World) (wa0 : PubArg w A1 n1 xs A2 n2 ys A3 n3 zs) (wa1 : (Lit.int .i64 t).wf = true) :
    Calls Try.prog 6 #[.agg #[.int .i64 lv, .slice A1 n1 c1, .slice A2 n2 c2, .int .i64 sm, .slice A3 n3 c3], .int .i64 t] w fun e w' => e = .returned (.bool true) ∧ Below w.heap.size w w' := by
  clear wa1
  obtain ⟨ia1, ia2, ia3⟩ := wa0
  have ml1 := ia1.1
  have ml2 := ia2.1
  have ml3 := ia3.1
  by_cases hs : (n1 : Int) + n2 + n3 ≤ 1048576
  rotate_left
  · go_enter Try.func6, Try.ntmps6
    have kw := keeps_refl w
    replace kw := Keeps.trans kw (keeps_alloc w (.cells #[.int .i64 lv, .slice A1 n1 c1, .slice A2 n2 c2, .int .i64 sm, .slice A3 n3 c3] 70))
    have p0 : Bl (w.alloc (.cells #[.int .i64 lv, .slice A1 n1 c1, .slice A2 n2 c2, .int .i64 sm, .slice A3 n3 c3] 70)) w.heap.size [.int .i64 lv, .slice A1 n1 c1, .slice A2 n2 c2, .int .i64 sm, .slice A3 n3 c3] := Bl.new' (by simp) (by simp)
    have ca1_0 : (w.alloc (.cells #[.int .i64 lv, .slice A1 n1 c1, .slice A2 n2 c2, .int .i64 sm, .slice A3 n3 c3] 70)).cell? ⟨w.heap.size, 0, none⟩ = some (.int .i64 lv) := (p0.2 0 _ rfl).1
    have fa1_0 : (w.alloc (.cells #[.int .i64 lv, .slice A1 n1 c1, .slice A2 n2 c2, .int .i64 sm, .slice A3 n3 c3] 70)).frozen? ⟨w.heap.size, 0, none⟩ = false := (p0.2 0 _ rfl).2
    have ca1_1 : (w.alloc (.cells #[.int .i64 lv, .slice A1 n1 c1, .slice A2 n2 c2, .int .i64 sm, .slice A3 n3 c3] 70)).cell? ⟨w.heap.size, 1, none⟩ = some (.slice A1 n1 c1) := (p0.2 1 _ rfl).1
    have fa1_1 : (w.alloc (.cells #[.int .i64 lv, .slice A1 n1 c1, .slice A2 n2 c2, .int .i64 sm, .slice A3 n3 c3] 70)).frozen? ⟨w.heap.size, 1, none⟩ = false := (p0.2 1 _ rfl).2
    have ca1_2 : (w.alloc (.cells #[.int .i64 lv, .slice A1 n1 c1, .slice A2 n2 c2, .int .i64 sm, .slice A3 n3 c3] 70)).cell? ⟨w.heap.size, 2, none⟩ = some (.slice A2 n2 c2) := (p0.2 2 _ rfl).1
    have fa1_2 : (w.alloc (.cells #[.int .i64 lv, .slice A1 n1 c1, .slice A2 n2 c2, .int .i64 sm, .slice A3 n3 c3] 70)).frozen? ⟨w.heap.size, 2, none⟩ = false := (p0.2 2 _ rfl).2
    have ca1_3 : (w.alloc (.cells #[.int .i64 lv, .slice A1 n1 c1, .slice A2 n2 c2, .int .i64 sm, .slice A3 n3 c3] 70)).cell? ⟨w.heap.size, 3, none⟩ = some (.int .i64 sm) := (p0.2 3 _ rfl).1
    have fa1_3 : (w.alloc (.cells #[.int .i64 lv, .slice A1 n1 c1, .slice A2 n2 c2, .int .i64 sm, .slice A3 n3 c3] 70)).frozen? ⟨w.heap.size, 3, none⟩ = false := (p0.2 3 _ rfl).2
    have ca1_4 : (w.alloc (.cells #[.int .i64 lv, .slice A1 n1 c1, .slice A2 n2 c2, .int .i64 sm, .slice A3 n3 c3] 70)).cell? ⟨w.heap.size, 4, none⟩ = some (.slice A3 n3 c3) := (p0.2 4 _ rfl).1
    have fa1_4 : (w.alloc (.cells #[.int .i64 lv, .slice A1 n1 c1, .slice A2 n2 c2, .int .i64 sm, .slice A3 n3 c3] 70)).frozen? ⟨w.heap.size, 4, none⟩ = false := (p0.2 4 _ rfl).2
    go_wp2_with fail
    clear ca1_0 fa1_0 ca1_1 fa1_1 ca1_2 fa1_2 ca1_3 fa1_3 ca1_4 fa1_4
    refine (szPublished_any ml1 ml2 ml3 (by omega) (by omega)).mono ?_
    rintro e w2 ⟨rfl, k2⟩
    rw [show szP 1048576 n1 n2 n3 = -1 from if_neg (by omega)]
    replace p0 := p0.keeps k2
    replace kw := Keeps.trans kw k2
    have lt3 := p0.lt
    have sz4 := kw.size
    clear k2
    go_wp2_with fail
    go_ret
    exact ⟨rfl, kw⟩
  have h : PubI w 0 w.heap.size A1 n1 xs A2 n2 ys A3 n3 zs := ⟨ia1.ints (by omega), ia2.ints (by omega), ia3.ints (by omega)⟩
  clear ia1 ia2 ia3
  have HS := hid hs
  go_enter Try.func6, Try.ntmps6
  have kw := keeps_refl w
  replace kw := Keeps.trans kw (keeps_alloc w (.cells #[.int .i64 lv, .slice A1 n1 c1, .slice A2 n2 c2, .int .i64 sm, .slice A3 n3 c3] 70))
  have p0 : Bl (w.alloc (.cells #[.int .i64 lv, .slice A1 n1 c1, .slice A2 n2 c2, .int .i64 sm, .slice A3 n3 c3] 70)) w.heap.size [.int .i64 lv, .slice A1 n1 c1, .slice A2 n2 c2, .int .i64 sm, .slice A3 n3 c3] := Bl.new' (by simp) (by simp)
  have ca1_0 : (w.alloc (.cells #[.int .i64 lv, .slice A1 n1 c1, .slice A2 n2 c2, .int .i64 sm, .slice A3 n3 c3] 70)).cell? ⟨w.heap.size, 0, none⟩ = some (.int .i64 lv) := (p0.2 0 _ rfl).1
  have fa1_0 : (w.alloc (.cells #[.int .i64 lv, .slice A1 n1 c1, .slice A2 n2 c2, .int .i64 sm, .slice A3 n3 c3] 70)).frozen? ⟨w.heap.size, 0, none⟩ = false := (p0.2 0 _ rfl).2
  have ca1_1 : (w.alloc (.cells #[.int .i64 lv, .slice A1 n1 c1, .slice A2 n2 c2, .int .i64 sm, .slice A3 n3 c3] 70)).cell? ⟨w.heap.size, 1, none⟩ = some (.slice A1 n1 c1) := (p0.2 1 _ rfl).1
  have fa1_1 : (w.alloc (.cells #[.int .i64 lv, .slice A1 n1 c1, .slice A2 n2 c2, .int .i64 sm, .slice A3 n3 c3] 70)).frozen? ⟨w.heap.size, 1, none⟩ = false := (p0.2 1 _ rfl).2
  have ca1_2 : (w.alloc (.cells #[.int .i64 lv, .slice A1 n1 c1, .slice A2 n2 c2, .int .i64 sm, .slice A3 n3 c3] 70)).cell? ⟨w.heap.size, 2, none⟩ = some (.slice A2 n2 c2) := (p0.2 2 _ rfl).1
  have fa1_2 : (w.alloc (.cells #[.int .i64 lv, .slice A1 n1 c1, .slice A2 n2 c2, .int .i64 sm, .slice A3 n3 c3] 70)).frozen? ⟨w.heap.size, 2, none⟩ = false := (p0.2 2 _ rfl).2
  have ca1_3 : (w.alloc (.cells #[.int .i64 lv, .slice A1 n1 c1, .slice A2 n2 c2, .int .i64 sm, .slice A3 n3 c3] 70)).cell? ⟨w.heap.size, 3, none⟩ = some (.int .i64 sm) := (p0.2 3 _ rfl).1
  have fa1_3 : (w.alloc (.cells #[.int .i64 lv, .slice A1 n1 c1, .slice A2 n2 c2, .int .i64 sm, .slice A3 n3 c3] 70)).frozen? ⟨w.heap.size, 3, none⟩ = false := (p0.2 3 _ rfl).2
  have ca1_4 : (w.alloc (.cells #[.int .i64 lv, .slice A1 n1 c1, .slice A2 n2 c2, .int .i64 sm, .slice A3 n3 c3] 70)).cell? ⟨w.heap.size, 4, none⟩ = some (.slice A3 n3 c3) := (p0.2 4 _ rfl).1
  have fa1_4 : (w.alloc (.cells #[.int .i64 lv, .slice A1 n1 c1, .slice A2 n2 c2, .int .i64 sm, .slice A3 n3 c3] 70)).frozen? ⟨w.heap.size, 4, none⟩ = false := (p0.2 4 _ rfl).2
  go_wp2_with fail
  clear ca1_0 fa1_0 ca1_1 fa1_1 ca1_2 fa1_2 ca1_3 fa1_3 ca1_4 fa1_4
  refine (szPublished_any ml1 ml2 ml3 (by omega) (by omega)).mono ?_
  rintro e w2 ⟨rfl, k2⟩
  rw [show szP 1048576 n1 n2 n3 = 1048576 - n1 - n2 - n3 from if_pos (by omega)]
  replace p0 := p0.keeps k2
  replace kw := Keeps.trans kw k2
  have lt3 := p0.lt
  have sz4 := kw.size
  clear k2
  have t0 : ¬ ((1048576 : Int) - (n1 : Int) - (n2 : Int) - (n3 : Int) < 0) := by omega
  obtain ⟨r1, r2, rx, ry, rz, ok, HR⟩ : ∃ a b c d e f, Hid (hcQ lv sm xs ys zs t = (a, b, c, d, e, f)) := ⟨_, _, _, _, _, _, rfl⟩
  have ca5_0 : w2.cell? ⟨w.heap.size, 0, none⟩ = some (.int .i64 lv) := (p0.2 0 _ rfl).1
  have fa5_0 : w2.frozen? ⟨w.heap.size, 0, none⟩ = false := (p0.2 0 _ rfl).2
  have ca5_1 : w2.cell? ⟨w.heap.size, 1, none⟩ = some (.slice A1 n1 c1) := (p0.2 1 _ rfl).1
  have fa5_1 : w2.frozen? ⟨w.heap.size, 1, none⟩ = false := (p0.2 1 _ rfl).2
  have ca5_2 : w2.cell? ⟨w.heap.size, 2, none⟩ = some (.slice A2 n2 c2) := (p0.2 2 _ rfl).1
  have fa5_2 : w2.frozen? ⟨w.heap.size, 2, none⟩ = false := (p0.2 2 _ rfl).2
  have ca5_3 : w2.cell? ⟨w.heap.size, 3, none⟩ = some (.int .i64 sm) := (p0.2 3 _ rfl).1
  have fa5_3 : w2.frozen? ⟨w.heap.size, 3, none⟩ = false := (p0.2 3 _ rfl).2
  have ca5_4 : w2.cell? ⟨w.heap.size, 4, none⟩ = some (.slice A3 n3 c3) := (p0.2 4 _ rfl).1
  have fa5_4 : w2.frozen? ⟨w.heap.size, 4, none⟩ = false := (p0.2 4 _ rfl).2
  go_wp2_with fail
  clear ca5_0 fa5_0 ca5_1 fa5_1 ca5_2 fa5_2 ca5_3 fa5_3 ca5_4 fa5_4
  refine (toPublished_any (h.i1.keeps kw) (h.i2.keeps kw) (h.i3.keeps kw)).mono ?_
  rintro e w6 ⟨yA1, yC1, yA2, yC2, yA3, yC3, rfl, ym, yn1, yn2, yn3, k6⟩
  have ss6 := k6.size
  replace p0 := p0.keeps k6
  replace kw := Keeps.trans kw k6
  have lt7 := p0.lt
  have sz8 := kw.size
  clear k6
  go_wp2_with fail
  refine (specHideCells_any ym.ints yn1 yn2).mono ?_
  rintro e w9 ⟨pA1, pN1, pC1, pA2, pN2, pC2, pA3, pN3, pC3, rfl, pm, k9⟩
  rw [HR.out] at pm
  rw [HR.out]
  dsimp only at pm
  dsimp only
  have ss9 := k9.size
  replace p0 := p0.keeps k9
  replace ym := ym.keeps k9
  replace kw := Keeps.trans kw k9
  have lt10 := p0.lt
  have sz11 := kw.size
  clear k9
  clear ym
  replace p0 := p0.keeps (keeps_alloc w9 (.cells #[.int .i64 r1, .slice pA1 pN1 pC1, .slice pA2 pN2 pC2, .int .i64 r2, .slice pA3 pN3 pC3] 74))
  replace pm := pm.keeps (keeps_alloc w9 (.cells #[.int .i64 r1, .slice pA1 pN1 pC1, .slice pA2 pN2 pC2, .int .i64 r2, .slice pA3 pN3 pC3] 74))
  replace kw := Keeps.trans kw (keeps_alloc w9 (.cells #[.int .i64 r1, .slice pA1 pN1 pC1, .slice pA2 pN2 pC2, .int .i64 r2, .slice pA3 pN3 pC3] 74))
  have b6 : Bl (w9.alloc (.cells #[.int .i64 r1, .slice pA1 pN1 pC1, .slice pA2 pN2 pC2, .int .i64 r2, .slice pA3 pN3 pC3] 74)) w9.heap.size [.int .i64 r1, .slice pA1 pN1 pC1, .slice pA2 pN2 pC2, .int .i64 r2, .slice pA3 pN3 pC3] := Bl.new' (by simp) (by simp)
  have ca12_0 : (w9.alloc (.cells #[.int .i64 r1, .slice pA1 pN1 pC1, .slice pA2 pN2 pC2, .int .i64 r2, .slice pA3 pN3 pC3] 74)).cell? ⟨w.heap.size, 0, none⟩ = some (.int .i64 lv) := (p0.2 0 _ rfl).1
  have fa12_0 : (w9.alloc (.cells #[.int .i64 r1, .slice pA1 pN1 pC1, .slice pA2 pN2 pC2, .int .i64 r2, .slice pA3 pN3 pC3] 74)).frozen? ⟨w.heap.size, 0, none⟩ = false := (p0.2 0 _ rfl).2
  have ca12_1 : (w9.alloc (.cells #[.int .i64 r1, .slice pA1 pN1 pC1, .slice pA2 pN2 pC2, .int .i64 r2, .slice pA3 pN3 pC3] 74)).cell? ⟨w.heap.size, 1, none⟩ = some (.slice A1 n1 c1) := (p0.2 1 _ rfl).1
  have fa12_1 : (w9.alloc (.cells #[.int .i64 r1, .slice pA1 pN1 pC1, .slice pA2 pN2 pC2, .int .i64 r2, .slice pA3 pN3 pC3] 74)).frozen? ⟨w.heap.size, 1, none⟩ = false := (p0.2 1 _ rfl).2
  have ca12_2 : (w9.alloc (.cells #[.int .i64 r1, .slice pA1 pN1 pC1, .slice pA2 pN2 pC2, .int .i64 r2, .slice pA3 pN3 pC3] 74)).cell? ⟨w.heap.size, 2, none⟩ = some (.slice A2 n2 c2) := (p0.2 2 _ rfl).1
  have fa12_2 : (w9.alloc (.cells #[.int .i64 r1, .slice pA1 pN1 pC1, .slice pA2 pN2 pC2, .int .i64 r2, .slice pA3 pN3 pC3] 74)).frozen? ⟨w.heap.size, 2, none⟩ = false := (p0.2 2 _ rfl).2
  have ca12_3 : (w9.alloc (.cells #[.int .i64 r1, .slice pA1 pN1 pC1, .slice pA2 pN2 pC2, .int .i64 r2, .slice pA3 pN3 pC3] 74)).cell? ⟨w.heap.size, 3, none⟩ = some (.int .i64 sm) := (p0.2 3 _ rfl).1
  have fa12_3 : (w9.alloc (.cells #[.int .i64 r1, .slice pA1 pN1 pC1, .slice pA2 pN2 pC2, .int .i64 r2, .slice pA3 pN3 pC3] 74)).frozen? ⟨w.heap.size, 3, none⟩ = false := (p0.2 3 _ rfl).2
  have ca12_4 : (w9.alloc (.cells #[.int .i64 r1, .slice pA1 pN1 pC1, .slice pA2 pN2 pC2, .int .i64 r2, .slice pA3 pN3 pC3] 74)).cell? ⟨w.heap.size, 4, none⟩ = some (.slice A3 n3 c3) := (p0.2 4 _ rfl).1
  have fa12_4 : (w9.alloc (.cells #[.int .i64 r1, .slice pA1 pN1 pC1, .slice pA2 pN2 pC2, .int .i64 r2, .slice pA3 pN3 pC3] 74)).frozen? ⟨w.heap.size, 4, none⟩ = false := (p0.2 4 _ rfl).2
  go_wp2_with fail
  clear ca12_0 fa12_0 ca12_1 fa12_1 ca12_2 fa12_2 ca12_3 fa12_3 ca12_4 fa12_4
  refine (toPublished_any (h.i1.keeps kw) (h.i2.keeps kw) (h.i3.keeps kw)).mono ?_
  rintro e w13 ⟨xA1, xC1, xA2, xC2, xA3, xC3, rfl, xm, xn1, xn2, xn3, k13⟩
  have ss13 := k13.size
  simp at ss13
  replace xm := xm.widen (lo' := w9.heap.size + 1) (by simp) (Nat.le_refl _) (Nat.le_refl _)
  replace p0 := p0.keeps k13
  replace b6 := b6.keeps k13
  replace pm := pm.keeps k13
  replace kw := Keeps.trans kw k13
  have lt14 := b6.lt
  have sz15 := kw.size
  clear k13
  replace p0 := p0.keeps (keeps_alloc w13 (.cells #[.int .i64 lv, .slice xA1 n1 xC1, .slice xA2 n2 xC2, .int .i64 sm, .slice xA3 n3 xC3] 74))
  replace b6 := b6.keeps (keeps_alloc w13 (.cells #[.int .i64 lv, .slice xA1 n1 xC1, .slice xA2 n2 xC2, .int .i64 sm, .slice xA3 n3 xC3] 74))
  replace pm := pm.keeps (keeps_alloc w13 (.cells #[.int .i64 lv, .slice xA1 n1 xC1, .slice xA2 n2 xC2, .int .i64 sm, .slice xA3 n3 xC3] 74))
  replace xm := xm.keeps (keeps_alloc w13 (.cells #[.int .i64 lv, .slice xA1 n1 xC1, .slice xA2 n2 xC2, .int .i64 sm, .slice xA3 n3 xC3] 74))
  replace kw := Keeps.trans kw (keeps_alloc w13 (.cells #[.int .i64 lv, .slice xA1 n1 xC1, .slice xA2 n2 xC2, .int .i64 sm, .slice xA3 n3 xC3] 74))
  have b8 : Bl (w13.alloc (.cells #[.int .i64 lv, .slice xA1 n1 xC1, .slice xA2 n2 xC2, .int .i64 sm, .slice xA3 n3 xC3] 74)) w13.heap.size [.int .i64 lv, .slice xA1 n1 xC1, .slice xA2 n2 xC2, .int .i64 sm, .slice xA3 n3 xC3] := Bl.new' (by simp) (by simp)
  have ca16_0 : (w13.alloc (.cells #[.int .i64 lv, .slice xA1 n1 xC1, .slice xA2 n2 xC2, .int .i64 sm, .slice xA3 n3 xC3] 74)).cell? ⟨w13.heap.size, 0, none⟩ = some (.int .i64 lv) := (b8.2 0 _ rfl).1
  have fa16_0 : (w13.alloc (.cells #[.int .i64 lv, .slice xA1 n1 xC1, .slice xA2 n2 xC2, .int .i64 sm, .slice xA3 n3 xC3] 74)).frozen? ⟨w13.heap.size, 0, none⟩ = false := (b8.2 0 _ rfl).2
  have ca16_1 : (w13.alloc (.cells #[.int .i64 lv, .slice xA1 n1 xC1, .slice xA2 n2 xC2, .int .i64 sm, .slice xA3 n3 xC3] 74)).cell? ⟨w13.heap.size, 1, none⟩ = some (.slice xA1 n1 xC1) := (b8.2 1 _ rfl).1
  have fa16_1 : (w13.alloc (.cells #[.int .i64 lv, .slice xA1 n1 xC1, .slice xA2 n2 xC2, .int .i64 sm, .slice xA3 n3 xC3] 74)).frozen? ⟨w13.heap.size, 1, none⟩ = false := (b8.2 1 _ rfl).2
  have ca16_2 : (w13.alloc (.cells #[.int .i64 lv, .slice xA1 n1 xC1, .slice xA2 n2 xC2, .int .i64 sm, .slice xA3 n3 xC3] 74)).cell? ⟨w13.heap.size, 2, none⟩ = some (.slice xA2 n2 xC2) := (b8.2 2 _ rfl).1
  have fa16_2 : (w13.alloc (.cells #[.int .i64 lv, .slice xA1 n1 xC1, .slice xA2 n2 xC2, .int .i64 sm, .slice xA3 n3 xC3] 74)).frozen? ⟨w13.heap.size, 2, none⟩ = false := (b8.2 2 _ rfl).2
  have ca16_3 : (w13.alloc (.cells #[.int .i64 lv, .slice xA1 n1 xC1, .slice xA2 n2 xC2, .int .i64 sm, .slice xA3 n3 xC3] 74)).cell? ⟨w13.heap.size, 3, none⟩ = some (.int .i64 sm) := (b8.2 3 _ rfl).1
  have fa16_3 : (w13.alloc (.cells #[.int .i64 lv, .slice xA1 n1 xC1, .slice xA2 n2 xC2, .int .i64 sm, .slice xA3 n3 xC3] 74)).frozen? ⟨w13.heap.size, 3, none⟩ = false := (b8.2 3 _ rfl).2
  have ca16_4 : (w13.alloc (.cells #[.int .i64 lv, .slice xA1 n1 xC1, .slice xA2 n2 xC2, .int .i64 sm, .slice xA3 n3 xC3] 74)).cell? ⟨w13.heap.size, 4, none⟩ = some (.slice xA3 n3 xC3) := (b8.2 4 _ rfl).1
  have fa16_4 : (w13.alloc (.cells #[.int .i64 lv, .slice xA1 n1 xC1, .slice xA2 n2 xC2, .int .i64 sm, .slice xA3 n3 xC3] 74)).frozen? ⟨w13.heap.size, 4, none⟩ = false := (b8.2 4 _ rfl).2
  go_wp2_with fail
  clear ca16_0 fa16_0 ca16_1 fa16_1 ca16_2 fa16_2 ca16_3 fa16_3 ca16_4 fa16_4
  refine (implHideCells_any xm.ints xn1 xn2).mono ?_
  rintro e w17 ⟨gA1, gN1, gC1, gA2, gN2, gC2, gA3, gN3, gC3, rfl, gm, k17⟩
  rw [HR.out] at gm
  rw [HR.out]
  dsimp only at gm
  dsimp only
  have ss17 := k17.size
  simp at ss17
  replace gm := gm.widen (lo' := w13.heap.size + 1) (by simp) (Nat.le_refl _) (Nat.le_refl _)
  replace p0 := p0.keeps k17
  replace b6 := b6.keeps k17
  replace b8 := b8.keeps k17
  replace pm := pm.keeps k17
  replace xm := xm.keeps k17
  replace kw := Keeps.trans kw k17
  have lt18 := b8.lt
  have sz19 := kw.size
  clear k17
  obtain rfl : pN1 = gN1 := pm.ints.i1.1.symm.trans gm.ints.i1.1
  obtain rfl : pN2 = gN2 := pm.ints.i2.1.symm.trans gm.ints.i2.1
  obtain rfl : pN3 = gN3 := pm.ints.i3.1.symm.trans gm.ints.i3.1
  replace p0 := p0.keeps (keeps_alloc w17 (.cells #[.int .i64 r1, .slice gA1 pN1 gC1, .slice gA2 pN2 gC2, .int .i64 r2, .slice gA3 pN3 gC3] 74))
  replace b6 := b6.keeps (keeps_alloc w17 (.cells #[.int .i64 r1, .slice gA1 pN1 gC1, .slice gA2 pN2 gC2, .int .i64 r2, .slice gA3 pN3 gC3] 74))
  replace b8 := b8.keeps (keeps_alloc w17 (.cells #[.int .i64 r1, .slice gA1 pN1 gC1, .slice gA2 pN2 gC2, .int .i64 r2, .slice gA3 pN3 gC3] 74))
  replace pm := pm.keeps (keeps_alloc w17 (.cells #[.int .i64 r1, .slice gA1 pN1 gC1, .slice gA2 pN2 gC2, .int .i64 r2, .slice gA3 pN3 gC3] 74))
  replace xm := xm.keeps (keeps_alloc w17 (.cells #[.int .i64 r1, .slice gA1 pN1 gC1, .slice gA2 pN2 gC2, .int .i64 r2, .slice gA3 pN3 gC3] 74))
  replace gm := gm.keeps (keeps_alloc w17 (.cells #[.int .i64 r1, .slice gA1 pN1 gC1, .slice gA2 pN2 gC2, .int .i64 r2, .slice gA3 pN3 gC3] 74))
  replace kw := Keeps.trans kw (keeps_alloc w17 (.cells #[.int .i64 r1, .slice gA1 pN1 gC1, .slice gA2 pN2 gC2, .int .i64 r2, .slice gA3 pN3 gC3] 74))
  have b9 : Bl (w17.alloc (.cells #[.int .i64 r1, .slice gA1 pN1 gC1, .slice gA2 pN2 gC2, .int .i64 r2, .slice gA3 pN3 gC3] 74)) w17.heap.size [.int .i64 r1, .slice gA1 pN1 gC1, .slice gA2 pN2 gC2, .int .i64 r2, .slice gA3 pN3 gC3] := Bl.new' (by simp) (by simp)
  have ca20_0 : (w17.alloc (.cells #[.int .i64 r1, .slice gA1 pN1 gC1, .slice gA2 pN2 gC2, .int .i64 r2, .slice gA3 pN3 gC3] 74)).cell? ⟨w17.heap.size, 0, none⟩ = some (.int .i64 r1) := (b9.2 0 _ rfl).1
  have fa20_0 : (w17.alloc (.cells #[.int .i64 r1, .slice gA1 pN1 gC1, .slice gA2 pN2 gC2, .int .i64 r2, .slice gA3 pN3 gC3] 74)).frozen? ⟨w17.heap.size, 0, none⟩ = false := (b9.2 0 _ rfl).2
  have ca20_1 : (w17.alloc (.cells #[.int .i64 r1, .slice gA1 pN1 gC1, .slice gA2 pN2 gC2, .int .i64 r2, .slice gA3 pN3 gC3] 74)).cell? ⟨w17.heap.size, 1, none⟩ = some (.slice gA1 pN1 gC1) := (b9.2 1 _ rfl).1
  have fa20_1 : (w17.alloc (.cells #[.int .i64 r1, .slice gA1 pN1 gC1, .slice gA2 pN2 gC2, .int .i64 r2, .slice gA3 pN3 gC3] 74)).frozen? ⟨w17.heap.size, 1, none⟩ = false := (b9.2 1 _ rfl).2
  have ca20_2 : (w17.alloc (.cells #[.int .i64 r1, .slice gA1 pN1 gC1, .slice gA2 pN2 gC2, .int .i64 r2, .slice gA3 pN3 gC3] 74)).cell? ⟨w17.heap.size, 2, none⟩ = some (.slice gA2 pN2 gC2) := (b9.2 2 _ rfl).1
  have fa20_2 : (w17.alloc (.cells #[.int .i64 r1, .slice gA1 pN1 gC1, .slice gA2 pN2 gC2, .int .i64 r2, .slice gA3 pN3 gC3] 74)).frozen? ⟨w17.heap.size, 2, none⟩ = false := (b9.2 2 _ rfl).2
  have ca20_3 : (w17.alloc (.cells #[.int .i64 r1, .slice gA1 pN1 gC1, .slice gA2 pN2 gC2, .int .i64 r2, .slice gA3 pN3 gC3] 74)).cell? ⟨w17.heap.size, 3, none⟩ = some (.int .i64 r2) := (b9.2 3 _ rfl).1
  have fa20_3 : (w17.alloc (.cells #[.int .i64 r1, .slice gA1 pN1 gC1, .slice gA2 pN2 gC2, .int .i64 r2, .slice gA3 pN3 gC3] 74)).frozen? ⟨w17.heap.size, 3, none⟩ = false := (b9.2 3 _ rfl).2
  have ca20_4 : (w17.alloc (.cells #[.int .i64 r1, .slice gA1 pN1 gC1, .slice gA2 pN2 gC2, .int .i64 r2, .slice gA3 pN3 gC3] 74)).cell? ⟨w17.heap.size, 4, none⟩ = some (.slice gA3 pN3 gC3) := (b9.2 4 _ rfl).1
  have fa20_4 : (w17.alloc (.cells #[.int .i64 r1, .slice gA1 pN1 gC1, .slice gA2 pN2 gC2, .int .i64 r2, .slice gA3 pN3 gC3] 74)).frozen? ⟨w17.heap.size, 4, none⟩ = false := (b9.2 4 _ rfl).2
  have ca21_0 : (w17.alloc (.cells #[.int .i64 r1, .slice gA1 pN1 gC1, .slice gA2 pN2 gC2, .int .i64 r2, .slice gA3 pN3 gC3] 74)).cell? ⟨w9.heap.size, 0, none⟩ = some (.int .i64 r1) := (b6.2 0 _ rfl).1
  have fa21_0 : (w17.alloc (.cells #[.int .i64 r1, .slice gA1 pN1 gC1, .slice gA2 pN2 gC2, .int .i64 r2, .slice gA3 pN3 gC3] 74)).frozen? ⟨w9.heap.size, 0, none⟩ = false := (b6.2 0 _ rfl).2
  have ca21_1 : (w17.alloc (.cells #[.int .i64 r1, .slice gA1 pN1 gC1, .slice gA2 pN2 gC2, .int .i64 r2, .slice gA3 pN3 gC3] 74)).cell? ⟨w9.heap.size, 1, none⟩ = some (.slice pA1 pN1 pC1) := (b6.2 1 _ rfl).1
  have fa21_1 : (w17.alloc (.cells #[.int .i64 r1, .slice gA1 pN1 gC1, .slice gA2 pN2 gC2, .int .i64 r2, .slice gA3 pN3 gC3] 74)).frozen? ⟨w9.heap.size, 1, none⟩ = false := (b6.2 1 _ rfl).2
  have ca21_2 : (w17.alloc (.cells #[.int .i64 r1, .slice gA1 pN1 gC1, .slice gA2 pN2 gC2, .int .i64 r2, .slice gA3 pN3 gC3] 74)).cell? ⟨w9.heap.size, 2, none⟩ = some (.slice pA2 pN2 pC2) := (b6.2 2 _ rfl).1
  have fa21_2 : (w17.alloc (.cells #[.int .i64 r1, .slice gA1 pN1 gC1, .slice gA2 pN2 gC2, .int .i64 r2, .slice gA3 pN3 gC3] 74)).frozen? ⟨w9.heap.size, 2, none⟩ = false := (b6.2 2 _ rfl).2
  have ca21_3 : (w17.alloc (.cells #[.int .i64 r1, .slice gA1 pN1 gC1, .slice gA2 pN2 gC2, .int .i64 r2, .slice gA3 pN3 gC3] 74)).cell? ⟨w9.heap.size, 3, none⟩ = some (.int .i64 r2) := (b6.2 3 _ rfl).1
  have fa21_3 : (w17.alloc (.cells #[.int .i64 r1, .slice gA1 pN1 gC1, .slice gA2 pN2 gC2, .int .i64 r2, .slice gA3 pN3 gC3] 74)).frozen? ⟨w9.heap.size, 3, none⟩ = false := (b6.2 3 _ rfl).2
  have ca21_4 : (w17.alloc (.cells #[.int .i64 r1, .slice gA1 pN1 gC1, .slice gA2 pN2 gC2, .int .i64 r2, .slice gA3 pN3 gC3] 74)).cell? ⟨w9.heap.size, 4, none⟩ = some (.slice pA3 pN3 pC3) := (b6.2 4 _ rfl).1
  have fa21_4 : (w17.alloc (.cells #[.int .i64 r1, .slice gA1 pN1 gC1, .slice gA2 pN2 gC2, .int .i64 r2, .slice gA3 pN3 gC3] 74)).frozen? ⟨w9.heap.size, 4, none⟩ = false := (b6.2 4 _ rfl).2
  go_wp2_with fail
  clear ca20_0 fa20_0 ca20_1 fa20_1 ca20_2 fa20_2 ca20_3 fa20_3 ca20_4 fa20_4 ca21_0 fa21_0 ca21_1 fa21_1 ca21_2 fa21_2 ca21_3 fa21_3 ca21_4 fa21_4
  have e0 : (ok != ok) = false := by simp
  refine (eqPublished_true gm.ints pm.ints).mono ?_
  rintro e w22 ⟨rfl, k22⟩
  replace p0 := p0.keeps k22
  replace b6 := b6.keeps k22
  replace b8 := b8.keeps k22
  replace b9 := b9.keeps k22
  replace pm := pm.keeps k22
  replace xm := xm.keeps k22
  replace gm := gm.keeps k22
  replace kw := Keeps.trans kw k22
  have lt23 := b9.lt
  have sz24 := kw.size
  clear k22
  have ca25_0 : w22.cell? ⟨w13.heap.size, 0, none⟩ = some (.int .i64 lv) := (b8.2 0 _ rfl).1
  have fa25_0 : w22.frozen? ⟨w13.heap.size, 0, none⟩ = false := (b8.2 0 _ rfl).2
  have ca25_1 : w22.cell? ⟨w13.heap.size, 1, none⟩ = some (.slice xA1 n1 xC1) := (b8.2 1 _ rfl).1
  have fa25_1 : w22.frozen? ⟨w13.heap.size, 1, none⟩ = false := (b8.2 1 _ rfl).2
  have ca25_2 : w22.cell? ⟨w13.heap.size, 2, none⟩ = some (.slice xA2 n2 xC2) := (b8.2 2 _ rfl).1
  have fa25_2 : w22.frozen? ⟨w13.heap.size, 2, none⟩ = false := (b8.2 2 _ rfl).2
  have ca25_3 : w22.cell? ⟨w13.heap.size, 3, none⟩ = some (.int .i64 sm) := (b8.2 3 _ rfl).1
  have fa25_3 : w22.frozen? ⟨w13.heap.size, 3, none⟩ = false := (b8.2 3 _ rfl).2
  have ca25_4 : w22.cell? ⟨w13.heap.size, 4, none⟩ = some (.slice xA3 n3 xC3) := (b8.2 4 _ rfl).1
  have fa25_4 : w22.frozen? ⟨w13.heap.size, 4, none⟩ = false := (b8.2 4 _ rfl).2
  have ca26_0 : w22.cell? ⟨w.heap.size, 0, none⟩ = some (.int .i64 lv) := (p0.2 0 _ rfl).1
  have fa26_0 : w22.frozen? ⟨w.heap.size, 0, none⟩ = false := (p0.2 0 _ rfl).2
  have ca26_1 : w22.cell? ⟨w.heap.size, 1, none⟩ = some (.slice A1 n1 c1) := (p0.2 1 _ rfl).1
  have fa26_1 : w22.frozen? ⟨w.heap.size, 1, none⟩ = false := (p0.2 1 _ rfl).2
  have ca26_2 : w22.cell? ⟨w.heap.size, 2, none⟩ = some (.slice A2 n2 c2) := (p0.2 2 _ rfl).1
  have fa26_2 : w22.frozen? ⟨w.heap.size, 2, none⟩ = false := (p0.2 2 _ rfl).2
  have ca26_3 : w22.cell? ⟨w.heap.size, 3, none⟩ = some (.int .i64 sm) := (p0.2 3 _ rfl).1
  have fa26_3 : w22.frozen? ⟨w.heap.size, 3, none⟩ = false := (p0.2 3 _ rfl).2
  have ca26_4 : w22.cell? ⟨w.heap.size, 4, none⟩ = some (.slice A3 n3 c3) := (p0.2 4 _ rfl).1
  have fa26_4 : w22.frozen? ⟨w.heap.size, 4, none⟩ = false := (p0.2 4 _ rfl).2
  go_wp2_with fail
  clear ca25_0 fa25_0 ca25_1 fa25_1 ca25_2 fa25_2 ca25_3 fa25_3 ca25_4 fa25_4 ca26_0 fa26_0 ca26_1 fa26_1 ca26_2 fa26_2 ca26_3 fa26_3 ca26_4 fa26_4
  have ca27_0 : w22.cell? ⟨w13.heap.size, 0, none⟩ = some (.int .i64 lv) := (b8.2 0 _ rfl).1
  have ca27_1 : w22.cell? ⟨w13.heap.size, 1, none⟩ = some (.slice xA1 n1 xC1) := (b8.2 1 _ rfl).1
  have ca27_2 : w22.cell? ⟨w13.heap.size, 2, none⟩ = some (.slice xA2 n2 xC2) := (b8.2 2 _ rfl).1
  have ca27_3 : w22.cell? ⟨w13.heap.size, 3, none⟩ = some (.int .i64 sm) := (b8.2 3 _ rfl).1
  have ca27_4 : w22.cell? ⟨w13.heap.size, 4, none⟩ = some (.slice xA3 n3 xC3) := (b8.2 4 _ rfl).1
  have ca28_0 : w22.cell? ⟨w.heap.size, 0, none⟩ = some (.int .i64 lv) := (p0.2 0 _ rfl).1
  have ca28_1 : w22.cell? ⟨w.heap.size, 1, none⟩ = some (.slice A1 n1 c1) := (p0.2 1 _ rfl).1
  have ca28_2 : w22.cell? ⟨w.heap.size, 2, none⟩ = some (.slice A2 n2 c2) := (p0.2 2 _ rfl).1
  have ca28_3 : w22.cell? ⟨w.heap.size, 3, none⟩ = some (.int .i64 sm) := (p0.2 3 _ rfl).1
  have ca28_4 : w22.cell? ⟨w.heap.size, 4, none⟩ = some (.slice A3 n3 c3) := (p0.2 4 _ rfl).1
  have kS := hid (show ∀ w', Keeps w22 w' → (w'.cell? ⟨w13.heap.size, 0, none⟩ = some (.int .i64 lv) ∧ w'.cell? ⟨w13.heap.size, 1, none⟩ = some (.slice xA1 n1 xC1) ∧ w'.cell? ⟨w13.heap.size, 2, none⟩ = some (.slice xA2 n2 xC2) ∧ w'.cell? ⟨w13.heap.size, 3, none⟩ = some (.int .i64 sm) ∧ w'.cell? ⟨w13.heap.size, 4, none⟩ = some (.slice xA3 n3 xC3) ∧ w'.cell? ⟨w.heap.size, 0, none⟩ = some (.int .i64 lv) ∧ w'.cell? ⟨w.heap.size, 1, none⟩ = some (.slice A1 n1 c1) ∧ w'.cell? ⟨w.heap.size, 2, none⟩ = some (.slice A2 n2 c2) ∧ w'.cell? ⟨w.heap.size, 3, none⟩ = some (.int .i64 sm) ∧ w'.cell? ⟨w.heap.size, 4, none⟩ = some (.slice A3 n3 c3)) from fun w' k => ⟨cell_keeps ca27_0 k, cell_keeps ca27_1 k, cell_keeps ca27_2 k, cell_keeps ca27_3 k, cell_keeps ca27_4 k, cell_keeps ca28_0 k, cell_keeps ca28_1 k, cell_keeps ca28_2 k, cell_keeps ca28_3 k, cell_keeps ca28_4 k⟩)
  have hD := h.keeps (kw.trans (keeps_d0 w22))
  go_region_held3 (fun w' => w'.cell? ⟨w13.heap.size, 0, none⟩ = some (.int .i64 lv) ∧ w'.cell? ⟨w13.heap.size, 1, none⟩ = some (.slice xA1 n1 xC1) ∧ w'.cell? ⟨w13.heap.size, 2, none⟩ = some (.slice xA2 n2 xC2) ∧ w'.cell? ⟨w13.heap.size, 3, none⟩ = some (.int .i64 sm) ∧ w'.cell? ⟨w13.heap.size, 4, none⟩ = some (.slice xA3 n3 xC3) ∧ w'.cell? ⟨w.heap.size, 0, none⟩ = some (.int .i64 lv) ∧ w'.cell? ⟨w.heap.size, 1, none⟩ = some (.slice A1 n1 c1) ∧ w'.cell? ⟨w.heap.size, 2, none⟩ = some (.slice A2 n2 c2) ∧ w'.cell? ⟨w.heap.size, 3, none⟩ = some (.int .i64 sm) ∧ w'.cell? ⟨w.heap.size, 4, none⟩ = some (.slice A3 n3 c3)) (first | with_reducible exact kS.out _ (keeps_d0 w22) | with_reducible exact kS.out _ kW | go_keep)
    ((first | (go_at_call 46; refine (toPublished_any hD.i1 hD.i2 hD.i3).mono ?_; rintro e wB ⟨tA1, tC1, tA2, tC2, tA3, tC3, rfl, tm, tn1, tn2, tn3, kB⟩; have kW : Keeps w22 wB := keeps_d kB; clear kB) | (go_at_call 48; refine (eqPublished_true (xm.ints.keeps kW) tm.ints).mono ?_; rintro e wC ⟨rfl, kC⟩; replace kW : Keeps w22 wC := kW.trans kC; clear kC)))
  clear kS hD tm tn1 tn2 tn3
  clear ca27_0 ca27_1 ca27_2 ca27_3 ca27_4 ca28_0 ca28_1 ca28_2 ca28_3 ca28_4
  have ssC := kW.size
  replace p0 := p0.keeps kW
  replace b6 := b6.keeps kW
  replace b8 := b8.keeps kW
  replace b9 := b9.keeps kW
  replace pm := pm.keeps kW
  replace xm := xm.keeps kW
  replace gm := gm.keeps kW
  replace kw := Keeps.trans kw kW
  have lt29 := b9.lt
  have sz30 := kw.size
  clear kW
  have ca31_0 : wC.cell? ⟨w13.heap.size, 0, none⟩ = some (.int .i64 lv) := (b8.2 0 _ rfl).1
  have fa31_0 : wC.frozen? ⟨w13.heap.size, 0, none⟩ = false := (b8.2 0 _ rfl).2
  have ca31_1 : wC.cell? ⟨w13.heap.size, 1, none⟩ = some (.slice xA1 n1 xC1) := (b8.2 1 _ rfl).1
  have fa31_1 : wC.frozen? ⟨w13.heap.size, 1, none⟩ = false := (b8.2 1 _ rfl).2
  have ca31_2 : wC.cell? ⟨w13.heap.size, 2, none⟩ = some (.slice xA2 n2 xC2) := (b8.2 2 _ rfl).1
  have fa31_2 : wC.frozen? ⟨w13.heap.size, 2, none⟩ = false := (b8.2 2 _ rfl).2
  have ca31_3 : wC.cell? ⟨w13.heap.size, 3, none⟩ = some (.int .i64 sm) := (b8.2 3 _ rfl).1
  have fa31_3 : wC.frozen? ⟨w13.heap.size, 3, none⟩ = false := (b8.2 3 _ rfl).2
  have ca31_4 : wC.cell? ⟨w13.heap.size, 4, none⟩ = some (.slice xA3 n3 xC3) := (b8.2 4 _ rfl).1
  have fa31_4 : wC.frozen? ⟨w13.heap.size, 4, none⟩ = false := (b8.2 4 _ rfl).2
  go_wp2_with fail
  clear ca31_0 fa31_0 ca31_1 fa31_1 ca31_2 fa31_2 ca31_3 fa31_3 ca31_4 fa31_4
  have lt8 := b8.lt
  have lt9 := b9.lt
  have lt6 := b6.lt
  have lt0 := p0.lt
  refine (markPublished_any xm (by omega) (by omega)).mono ?_
  rintro e w32 ⟨rfl, mk32, f32⟩
  clear xm
  replace p0 := p0.fr f32 (by omega)
  replace b6 := b6.fr f32 (by omega)
  replace b8 := b8.fr f32 (by omega)
  replace b9 := b9.fr f32 (by omega)
  replace pm := pm.fr f32 (by omega)
  replace gm := gm.fr f32 (by omega)
  have ssf32 := f32.size
  replace kw := below_fr kw kw.size (by omega) f32
  clear f32
  clear mk32
  have t1 : ¬ ((1 : Int) + (n1 : Int) + (n2 : Int) + (n3 : Int) < 0) := by omega
  clear b8
  have ca33_0 : w32.cell? ⟨w17.heap.size, 0, none⟩ = some (.int .i64 r1) := (b9.2 0 _ rfl).1
  have fa33_0 : w32.frozen? ⟨w17.heap.size, 0, none⟩ = false := (b9.2 0 _ rfl).2
  have ca33_1 : w32.cell? ⟨w17.heap.size, 1, none⟩ = some (.slice gA1 pN1 gC1) := (b9.2 1 _ rfl).1
  have fa33_1 : w32.frozen? ⟨w17.heap.size, 1, none⟩ = false := (b9.2 1 _ rfl).2
  have ca33_2 : w32.cell? ⟨w17.heap.size, 2, none⟩ = some (.slice gA2 pN2 gC2) := (b9.2 2 _ rfl).1
  have fa33_2 : w32.frozen? ⟨w17.heap.size, 2, none⟩ = false := (b9.2 2 _ rfl).2
  have ca33_3 : w32.cell? ⟨w17.heap.size, 3, none⟩ = some (.int .i64 r2) := (b9.2 3 _ rfl).1
  have fa33_3 : w32.frozen? ⟨w17.heap.size, 3, none⟩ = false := (b9.2 3 _ rfl).2
  have ca33_4 : w32.cell? ⟨w17.heap.size, 4, none⟩ = some (.slice gA3 pN3 gC3) := (b9.2 4 _ rfl).1
  have fa33_4 : w32.frozen? ⟨w17.heap.size, 4, none⟩ = false := (b9.2 4 _ rfl).2
  have ca34_0 : w32.cell? ⟨w9.heap.size, 0, none⟩ = some (.int .i64 r1) := (b6.2 0 _ rfl).1
  have fa34_0 : w32.frozen? ⟨w9.heap.size, 0, none⟩ = false := (b6.2 0 _ rfl).2
  have ca34_1 : w32.cell? ⟨w9.heap.size, 1, none⟩ = some (.slice pA1 pN1 pC1) := (b6.2 1 _ rfl).1
  have fa34_1 : w32.frozen? ⟨w9.heap.size, 1, none⟩ = false := (b6.2 1 _ rfl).2
  have ca34_2 : w32.cell? ⟨w9.heap.size, 2, none⟩ = some (.slice pA2 pN2 pC2) := (b6.2 2 _ rfl).1
  have fa34_2 : w32.frozen? ⟨w9.heap.size, 2, none⟩ = false := (b6.2 2 _ rfl).2
  have ca34_3 : w32.cell? ⟨w9.heap.size, 3, none⟩ = some (.int .i64 r2) := (b6.2 3 _ rfl).1
  have fa34_3 : w32.frozen? ⟨w9.heap.size, 3, none⟩ = false := (b6.2 3 _ rfl).2
  have ca34_4 : w32.cell? ⟨w9.heap.size, 4, none⟩ = some (.slice pA3 pN3 pC3) := (b6.2 4 _ rfl).1
  have fa34_4 : w32.frozen? ⟨w9.heap.size, 4, none⟩ = false := (b6.2 4 _ rfl).2
  go_wp2_with fail
  clear ca33_0 fa33_0 ca33_1 fa33_1 ca33_2 fa33_2 ca33_3 fa33_3 ca33_4 fa33_4 ca34_0 fa34_0 ca34_1 fa34_1 ca34_2 fa34_2 ca34_3 fa34_3 ca34_4 fa34_4
  refine (eqPublished_true gm.ints pm.ints).mono ?_
  rintro e w35 ⟨rfl, k35⟩
  replace p0 := p0.keeps k35
  replace b6 := b6.keeps k35
  replace b9 := b9.keeps k35
  replace pm := pm.keeps k35
  replace gm := gm.keeps k35
  replace kw := Keeps.trans kw k35
  have lt36 := b9.lt
  have sz37 := kw.size
  clear k35
  have ca38_0 : w35.cell? ⟨w17.heap.size, 0, none⟩ = some (.int .i64 r1) := (b9.2 0 _ rfl).1
  have fa38_0 : w35.frozen? ⟨w17.heap.size, 0, none⟩ = false := (b9.2 0 _ rfl).2
  have ca38_1 : w35.cell? ⟨w17.heap.size, 1, none⟩ = some (.slice gA1 pN1 gC1) := (b9.2 1 _ rfl).1
  have fa38_1 : w35.frozen? ⟨w17.heap.size, 1, none⟩ = false := (b9.2 1 _ rfl).2
  have ca38_2 : w35.cell? ⟨w17.heap.size, 2, none⟩ = some (.slice gA2 pN2 gC2) := (b9.2 2 _ rfl).1
  have fa38_2 : w35.frozen? ⟨w17.heap.size, 2, none⟩ = false := (b9.2 2 _ rfl).2
  have ca38_3 : w35.cell? ⟨w17.heap.size, 3, none⟩ = some (.int .i64 r2) := (b9.2 3 _ rfl).1
  have fa38_3 : w35.frozen? ⟨w17.heap.size, 3, none⟩ = false := (b9.2 3 _ rfl).2
  have ca38_4 : w35.cell? ⟨w17.heap.size, 4, none⟩ = some (.slice gA3 pN3 gC3) := (b9.2 4 _ rfl).1
  have fa38_4 : w35.frozen? ⟨w17.heap.size, 4, none⟩ = false := (b9.2 4 _ rfl).2
  go_wp2_with fail
  clear ca38_0 fa38_0 ca38_1 fa38_1 ca38_2 fa38_2 ca38_3 fa38_3 ca38_4 fa38_4
  refine (markPublished_any gm (by omega) (by omega)).mono ?_
  rintro e w39 ⟨rfl, mk39, f39⟩
  clear gm
  replace p0 := p0.fr f39 (by omega)
  replace b6 := b6.fr f39 (by omega)
  replace b9 := b9.fr f39 (by omega)
  replace pm := pm.fr f39 (by omega)
  have ssf39 := f39.size
  replace kw := below_fr kw kw.size (by omega) f39
  clear f39
  obtain ⟨m, HM⟩ : ∃ m : Int, Hid ((1 : Int) + (pN1 : Int) + (pN2 : Int) + (pN3 : Int) = m) := ⟨_, rfl⟩
  rw [HM.out]
  have hm0 : 0 ≤ m := by have := HM.out; omega
  have t2 : ¬ (m < 0) := by omega
  have t3 : (m != m) = false := by simp
  have ca40_0 : w39.cell? ⟨w17.heap.size, 0, none⟩ = some (.int .i64 r1) := (b9.2 0 _ rfl).1
  have fa40_0 : w39.frozen? ⟨w17.heap.size, 0, none⟩ = false := (b9.2 0 _ rfl).2
  have ca40_1 : w39.cell? ⟨w17.heap.size, 1, none⟩ = some (.slice gA1 pN1 gC1) := (b9.2 1 _ rfl).1
  have fa40_1 : w39.frozen? ⟨w17.heap.size, 1, none⟩ = false := (b9.2 1 _ rfl).2
  have ca40_2 : w39.cell? ⟨w17.heap.size, 2, none⟩ = some (.slice gA2 pN2 gC2) := (b9.2 2 _ rfl).1
  have fa40_2 : w39.frozen? ⟨w17.heap.size, 2, none⟩ = false := (b9.2 2 _ rfl).2
  have ca40_3 : w39.cell? ⟨w17.heap.size, 3, none⟩ = some (.int .i64 r2) := (b9.2 3 _ rfl).1
  have fa40_3 : w39.frozen? ⟨w17.heap.size, 3, none⟩ = false := (b9.2 3 _ rfl).2
  have ca40_4 : w39.cell? ⟨w17.heap.size, 4, none⟩ = some (.slice gA3 pN3 gC3) := (b9.2 4 _ rfl).1
  have fa40_4 : w39.frozen? ⟨w17.heap.size, 4, none⟩ = false := (b9.2 4 _ rfl).2
  go_wp2_with fail
  clear ca40_0 fa40_0 ca40_1 fa40_1 ca40_2 fa40_2 ca40_3 fa40_3 ca40_4 fa40_4
  refine (heldPublished_any mk39.ints (by omega) (by omega)).mono ?_
  rintro e w41 ⟨rfl, k41⟩
  rw [HM.out]
  replace p0 := p0.keeps k41
  replace b6 := b6.keeps k41
  replace b9 := b9.keeps k41
  replace pm := pm.keeps k41
  replace mk39 := mk39.keeps k41
  replace kw := Keeps.trans kw k41
  have lt42 := b9.lt
  have sz43 := kw.size
  clear k41
  have ca44_0 : w41.cell? ⟨w.heap.size, 0, none⟩ = some (.int .i64 lv) := (p0.2 0 _ rfl).1
  have fa44_0 : w41.frozen? ⟨w.heap.size, 0, none⟩ = false := (p0.2 0 _ rfl).2
  have ca44_1 : w41.cell? ⟨w.heap.size, 1, none⟩ = some (.slice A1 n1 c1) := (p0.2 1 _ rfl).1
  have fa44_1 : w41.frozen? ⟨w.heap.size, 1, none⟩ = false := (p0.2 1 _ rfl).2
  have ca44_2 : w41.cell? ⟨w.heap.size, 2, none⟩ = some (.slice A2 n2 c2) := (p0.2 2 _ rfl).1
  have fa44_2 : w41.frozen? ⟨w.heap.size, 2, none⟩ = false := (p0.2 2 _ rfl).2
  have ca44_3 : w41.cell? ⟨w.heap.size, 3, none⟩ = some (.int .i64 sm) := (p0.2 3 _ rfl).1
  have fa44_3 : w41.frozen? ⟨w.heap.size, 3, none⟩ = false := (p0.2 3 _ rfl).2
  have ca44_4 : w41.cell? ⟨w.heap.size, 4, none⟩ = some (.slice A3 n3 c3) := (p0.2 4 _ rfl).1
  have fa44_4 : w41.frozen? ⟨w.heap.size, 4, none⟩ = false := (p0.2 4 _ rfl).2
  go_wp2_with fail
  clear ca44_0 fa44_0 ca44_1 fa44_1 ca44_2 fa44_2 ca44_3 fa44_3 ca44_4 fa44_4
  refine (toPublished_any (h.i1.keeps kw) (h.i2.keeps kw) (h.i3.keeps kw)).mono ?_
  rintro e w45 ⟨vA1, vC1, vA2, vC2, vA3, vC3, rfl, vm, vn1, vn2, vn3, k45⟩
  have ss45 := k45.size
  replace p0 := p0.keeps k45
  replace b6 := b6.keeps k45
  replace b9 := b9.keeps k45
  replace pm := pm.keeps k45
  replace mk39 := mk39.keeps k45
  replace kw := Keeps.trans kw k45
  have lt46 := b9.lt
  have sz47 := kw.size
  clear k45
  go_wp2_with fail
  refine (implHideCells_any vm.ints vn1 vn2).mono ?_
  rintro e w48 ⟨hA1, hN1, hC1, hA2, hN2, hC2, hA3, hN3, hC3, rfl, hm, k48⟩
  rw [HR.out] at hm
  rw [HR.out]
  dsimp only at hm
  dsimp only
  have ss48 := k48.size
  replace p0 := p0.keeps k48
  replace b6 := b6.keeps k48
  replace b9 := b9.keeps k48
  replace pm := pm.keeps k48
  replace mk39 := mk39.keeps k48
  replace vm := vm.keeps k48
  replace kw := Keeps.trans kw k48
  have lt49 := b9.lt
  have sz50 := kw.size
  clear k48
  clear vm
  obtain rfl : pN1 = hN1 := pm.ints.i1.1.symm.trans hm.ints.i1.1
  obtain rfl : pN2 = hN2 := pm.ints.i2.1.symm.trans hm.ints.i2.1
  obtain rfl : pN3 = hN3 := pm.ints.i3.1.symm.trans hm.ints.i3.1
  replace p0 := p0.keeps (keeps_alloc w48 (.cells #[.int .i64 r1, .slice hA1 pN1 hC1, .slice hA2 pN2 hC2, .int .i64 r2, .slice hA3 pN3 hC3] 74))
  replace b6 := b6.keeps (keeps_alloc w48 (.cells #[.int .i64 r1, .slice hA1 pN1 hC1, .slice hA2 pN2 hC2, .int .i64 r2, .slice hA3 pN3 hC3] 74))
  replace b9 := b9.keeps (keeps_alloc w48 (.cells #[.int .i64 r1, .slice hA1 pN1 hC1, .slice hA2 pN2 hC2, .int .i64 r2, .slice hA3 pN3 hC3] 74))
  replace pm := pm.keeps (keeps_alloc w48 (.cells #[.int .i64 r1, .slice hA1 pN1 hC1, .slice hA2 pN2 hC2, .int .i64 r2, .slice hA3 pN3 hC3] 74))
  replace mk39 := mk39.keeps (keeps_alloc w48 (.cells #[.int .i64 r1, .slice hA1 pN1 hC1, .slice hA2 pN2 hC2, .int .i64 r2, .slice hA3 pN3 hC3] 74))
  replace hm := hm.keeps (keeps_alloc w48 (.cells #[.int .i64 r1, .slice hA1 pN1 hC1, .slice hA2 pN2 hC2, .int .i64 r2, .slice hA3 pN3 hC3] 74))
  replace kw := Keeps.trans kw (keeps_alloc w48 (.cells #[.int .i64 r1, .slice hA1 pN1 hC1, .slice hA2 pN2 hC2, .int .i64 r2, .slice hA3 pN3 hC3] 74))
  have b14 : Bl (w48.alloc (.cells #[.int .i64 r1, .slice hA1 pN1 hC1, .slice hA2 pN2 hC2, .int .i64 r2, .slice hA3 pN3 hC3] 74)) w48.heap.size [.int .i64 r1, .slice hA1 pN1 hC1, .slice hA2 pN2 hC2, .int .i64 r2, .slice hA3 pN3 hC3] := Bl.new' (by simp) (by simp)
  have ca51_0 : (w48.alloc (.cells #[.int .i64 r1, .slice hA1 pN1 hC1, .slice hA2 pN2 hC2, .int .i64 r2, .slice hA3 pN3 hC3] 74)).cell? ⟨w48.heap.size, 0, none⟩ = some (.int .i64 r1) := (b14.2 0 _ rfl).1
  have fa51_0 : (w48.alloc (.cells #[.int .i64 r1, .slice hA1 pN1 hC1, .slice hA2 pN2 hC2, .int .i64 r2, .slice hA3 pN3 hC3] 74)).frozen? ⟨w48.heap.size, 0, none⟩ = false := (b14.2 0 _ rfl).2
  have ca51_1 : (w48.alloc (.cells #[.int .i64 r1, .slice hA1 pN1 hC1, .slice hA2 pN2 hC2, .int .i64 r2, .slice hA3 pN3 hC3] 74)).cell? ⟨w48.heap.size, 1, none⟩ = some (.slice hA1 pN1 hC1) := (b14.2 1 _ rfl).1
  have fa51_1 : (w48.alloc (.cells #[.int .i64 r1, .slice hA1 pN1 hC1, .slice hA2 pN2 hC2, .int .i64 r2, .slice hA3 pN3 hC3] 74)).frozen? ⟨w48.heap.size, 1, none⟩ = false := (b14.2 1 _ rfl).2
  have ca51_2 : (w48.alloc (.cells #[.int .i64 r1, .slice hA1 pN1 hC1, .slice hA2 pN2 hC2, .int .i64 r2, .slice hA3 pN3 hC3] 74)).cell? ⟨w48.heap.size, 2, none⟩ = some (.slice hA2 pN2 hC2) := (b14.2 2 _ rfl).1
  have fa51_2 : (w48.alloc (.cells #[.int .i64 r1, .slice hA1 pN1 hC1, .slice hA2 pN2 hC2, .int .i64 r2, .slice hA3 pN3 hC3] 74)).frozen? ⟨w48.heap.size, 2, none⟩ = false := (b14.2 2 _ rfl).2
  have ca51_3 : (w48.alloc (.cells #[.int .i64 r1, .slice hA1 pN1 hC1, .slice hA2 pN2 hC2, .int .i64 r2, .slice hA3 pN3 hC3] 74)).cell? ⟨w48.heap.size, 3, none⟩ = some (.int .i64 r2) := (b14.2 3 _ rfl).1
  have fa51_3 : (w48.alloc (.cells #[.int .i64 r1, .slice hA1 pN1 hC1, .slice hA2 pN2 hC2, .int .i64 r2, .slice hA3 pN3 hC3] 74)).frozen? ⟨w48.heap.size, 3, none⟩ = false := (b14.2 3 _ rfl).2
  have ca51_4 : (w48.alloc (.cells #[.int .i64 r1, .slice hA1 pN1 hC1, .slice hA2 pN2 hC2, .int .i64 r2, .slice hA3 pN3 hC3] 74)).cell? ⟨w48.heap.size, 4, none⟩ = some (.slice hA3 pN3 hC3) := (b14.2 4 _ rfl).1
  have fa51_4 : (w48.alloc (.cells #[.int .i64 r1, .slice hA1 pN1 hC1, .slice hA2 pN2 hC2, .int .i64 r2, .slice hA3 pN3 hC3] 74)).frozen? ⟨w48.heap.size, 4, none⟩ = false := (b14.2 4 _ rfl).2
  have ca52_0 : (w48.alloc (.cells #[.int .i64 r1, .slice hA1 pN1 hC1, .slice hA2 pN2 hC2, .int .i64 r2, .slice hA3 pN3 hC3] 74)).cell? ⟨w9.heap.size, 0, none⟩ = some (.int .i64 r1) := (b6.2 0 _ rfl).1
  have fa52_0 : (w48.alloc (.cells #[.int .i64 r1, .slice hA1 pN1 hC1, .slice hA2 pN2 hC2, .int .i64 r2, .slice hA3 pN3 hC3] 74)).frozen? ⟨w9.heap.size, 0, none⟩ = false := (b6.2 0 _ rfl).2
  have ca52_1 : (w48.alloc (.cells #[.int .i64 r1, .slice hA1 pN1 hC1, .slice hA2 pN2 hC2, .int .i64 r2, .slice hA3 pN3 hC3] 74)).cell? ⟨w9.heap.size, 1, none⟩ = some (.slice pA1 pN1 pC1) := (b6.2 1 _ rfl).1
  have fa52_1 : (w48.alloc (.cells #[.int .i64 r1, .slice hA1 pN1 hC1, .slice hA2 pN2 hC2, .int .i64 r2, .slice hA3 pN3 hC3] 74)).frozen? ⟨w9.heap.size, 1, none⟩ = false := (b6.2 1 _ rfl).2
  have ca52_2 : (w48.alloc (.cells #[.int .i64 r1, .slice hA1 pN1 hC1, .slice hA2 pN2 hC2, .int .i64 r2, .slice hA3 pN3 hC3] 74)).cell? ⟨w9.heap.size, 2, none⟩ = some (.slice pA2 pN2 pC2) := (b6.2 2 _ rfl).1
  have fa52_2 : (w48.alloc (.cells #[.int .i64 r1, .slice hA1 pN1 hC1, .slice hA2 pN2 hC2, .int .i64 r2, .slice hA3 pN3 hC3] 74)).frozen? ⟨w9.heap.size, 2, none⟩ = false := (b6.2 2 _ rfl).2
  have ca52_3 : (w48.alloc (.cells #[.int .i64 r1, .slice hA1 pN1 hC1, .slice hA2 pN2 hC2, .int .i64 r2, .slice hA3 pN3 hC3] 74)).cell? ⟨w9.heap.size, 3, none⟩ = some (.int .i64 r2) := (b6.2 3 _ rfl).1
  have fa52_3 : (w48.alloc (.cells #[.int .i64 r1, .slice hA1 pN1 hC1, .slice hA2 pN2 hC2, .int .i64 r2, .slice hA3 pN3 hC3] 74)).frozen? ⟨w9.heap.size, 3, none⟩ = false := (b6.2 3 _ rfl).2
  have ca52_4 : (w48.alloc (.cells #[.int .i64 r1, .slice hA1 pN1 hC1, .slice hA2 pN2 hC2, .int .i64 r2, .slice hA3 pN3 hC3] 74)).cell? ⟨w9.heap.size, 4, none⟩ = some (.slice pA3 pN3 pC3) := (b6.2 4 _ rfl).1
  have fa52_4 : (w48.alloc (.cells #[.int .i64 r1, .slice hA1 pN1 hC1, .slice hA2 pN2 hC2, .int .i64 r2, .slice hA3 pN3 hC3] 74)).frozen? ⟨w9.heap.size, 4, none⟩ = false := (b6.2 4 _ rfl).2
  go_wp2_with fail
  clear ca51_0 fa51_0 ca51_1 fa51_1 ca51_2 fa51_2 ca51_3 fa51_3 ca51_4 fa51_4 ca52_0 fa52_0 ca52_1 fa52_1 ca52_2 fa52_2 ca52_3 fa52_3 ca52_4 fa52_4
  refine (eqPublished_true hm.ints pm.ints).mono ?_
  rintro e w53 ⟨rfl, k53⟩
  replace p0 := p0.keeps k53
  replace b6 := b6.keeps k53
  replace b9 := b9.keeps k53
  replace b14 := b14.keeps k53
  replace pm := pm.keeps k53
  replace mk39 := mk39.keeps k53
  replace hm := hm.keeps k53
  replace kw := Keeps.trans kw k53
  have lt54 := b14.lt
  have sz55 := kw.size
  clear k53
  have ca56_0 : w53.cell? ⟨w17.heap.size, 0, none⟩ = some (.int .i64 r1) := (b9.2 0 _ rfl).1
  have fa56_0 : w53.frozen? ⟨w17.heap.size, 0, none⟩ = false := (b9.2 0 _ rfl).2
  have ca56_1 : w53.cell? ⟨w17.heap.size, 1, none⟩ = some (.slice gA1 pN1 gC1) := (b9.2 1 _ rfl).1
  have fa56_1 : w53.frozen? ⟨w17.heap.size, 1, none⟩ = false := (b9.2 1 _ rfl).2
  have ca56_2 : w53.cell? ⟨w17.heap.size, 2, none⟩ = some (.slice gA2 pN2 gC2) := (b9.2 2 _ rfl).1
  have fa56_2 : w53.frozen? ⟨w17.heap.size, 2, none⟩ = false := (b9.2 2 _ rfl).2
  have ca56_3 : w53.cell? ⟨w17.heap.size, 3, none⟩ = some (.int .i64 r2) := (b9.2 3 _ rfl).1
  have fa56_3 : w53.frozen? ⟨w17.heap.size, 3, none⟩ = false := (b9.2 3 _ rfl).2
  have ca56_4 : w53.cell? ⟨w17.heap.size, 4, none⟩ = some (.slice gA3 pN3 gC3) := (b9.2 4 _ rfl).1
  have fa56_4 : w53.frozen? ⟨w17.heap.size, 4, none⟩ = false := (b9.2 4 _ rfl).2
  go_wp2_with fail
  clear ca56_0 fa56_0 ca56_1 fa56_1 ca56_2 fa56_2 ca56_3 fa56_3 ca56_4 fa56_4
  refine (heldPublished_any mk39.ints (by omega) (by omega)).mono ?_
  rintro e w57 ⟨rfl, k57⟩
  rw [HM.out]
  replace p0 := p0.keeps k57
  replace b6 := b6.keeps k57
  replace b9 := b9.keeps k57
  replace b14 := b14.keeps k57
  replace pm := pm.keeps k57
  replace mk39 := mk39.keeps k57
  replace hm := hm.keeps k57
  replace kw := Keeps.trans kw k57
  have lt58 := b14.lt
  have sz59 := kw.size
  clear k57
  go_wp2_with fail
  go_ret
  exact ⟨rfl, kw⟩
end Go.Proofs.Ytnopedjgagoahaa
