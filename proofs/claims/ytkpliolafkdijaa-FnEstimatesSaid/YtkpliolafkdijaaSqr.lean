/- Squares of differences of fractions and integers: squareOf, wSquare. -/
import Derived.Test.YtkpliolafkdijaaRound
import Derived.Deep.DeepCutAuto
namespace Go.Proofs.Ytkpliolafkdijaa
open Go.RowKit
set_option linter.unusedVariables false
set_option linter.unusedSimpArgs false

theorem mkF_self {n d : Int} (h : fracB n d = true) : mkF n d = (n, d, true) := by
  have h1 := fracB_true.1 h
  have h0 : ¬ d < 0 := by omega
  rw [mkF_red (by omega)]
  have e1 : redN n d = n := by unfold redN; rw [if_neg h0, h1.2.2]; simp
  have e2 : redD n d = d := by unfold redD; rw [if_neg h0, h1.2.2]; simp
  rw [red_yes (by rw [e1]; omega) (by rw [e1]; omega) (by rw [e2]; omega), e1, e2]
theorem fracB_int {n : Int} (h : -1000000000 ≤ n ∧ n ≤ 1000000000) : fracB n 1 = true := fracB_true.2 ⟨by omega, h, by simp⟩
/-- The square of f - n. -/
def sqrQ (x y n : Int) : Int × Int × Bool :=
  if (mkF (x * 1 - n * y) (y * 1)).2.2 = true then mkF ((mkF (x * 1 - n * y) (y * 1)).1 * (mkF (x * 1 - n * y) (y * 1)).1) ((mkF (x * 1 - n * y) (y * 1)).2.1 * (mkF (x * 1 - n * y) (y * 1)).2.1) else (0, 0, false)
theorem sqrQ_no {x y n : Int} {r1 r2 : Int} (h : mkF (x * 1 - n * y) (y * 1) = (r1, r2, false)) : sqrQ x y n = (0, 0, false) := by
  unfold sqrQ; rw [h]; rfl
theorem sqrQ_yes {x y n : Int} {r1 r2 : Int} (h : mkF (x * 1 - n * y) (y * 1) = (r1, r2, true)) : sqrQ x y n = mkF (r1 * r1) (r2 * r2) := by
  unfold sqrQ; rw [h]; rfl
theorem sqrQ_ok {x y n : Int} (h : (sqrQ x y n).2.2 = true) : fracB (sqrQ x y n).1 (sqrQ x y n).2.1 = true := by
  cases h1 : (mkF (x * 1 - n * y) (y * 1)) with
  | mk r1 p =>
    obtain ⟨r2, b⟩ := p
    cases b with
    | false => rw [sqrQ_no h1] at h; cases h
    | true => rw [sqrQ_yes h1] at *; exact mkF_ok h

theorem Bx.far {w : World} {g : Nat} {x y : Int} (h : Bx w g x y) {p : Addr} (hp : g ≠ p.block) (u : Value) : Bx (w.setCell p u) g x y := by
  have e := Below.heap_setCell w p u g hp
  exact ⟨(World.cell?_of_block (w := w) e).trans h.1, (World.cell?_of_block (w := w) e).trans h.2.1, (World.frozen?_of_block (w := w) e).trans h.2.2.1, (World.frozen?_of_block (w := w) e).trans h.2.2.2⟩
theorem Bx.set {w : World} {g : Nat} {x y : Int} (h : Bx w g x y) (u v : Int) : Bx ((w.setCell ⟨g, 0, none⟩ (.int .i64 u)).setCell ⟨g, 1, none⟩ (.int .i64 v)) g u v := by
  have h2 : (w.setCell ⟨g, 0, none⟩ (.int .i64 u)).cell? ⟨g, 1, none⟩ = some (.int .i64 y) :=
    (World.cell?_setCell_other _ _ _ _ (by simp)).trans h.2.1
  refine ⟨(World.cell?_setCell_other _ _ _ _ (by simp)).trans (World.cell?_setCell_same _ _ _ h.1), World.cell?_setCell_same _ _ _ h2, ?_, ?_⟩
  · simpa using h.2.2.1
  · simpa using h.2.2.2
set_option maxHeartbeats 1600000 in
theorem squareOf_any {x y n : Int} {w : World} (hb : fracB x y = true) (hn : -1000000000 ≤ n ∧ n ≤ 1000000000) :
    Calls Try.prog 145 #[.agg #[.int .i64 x, .int .i64 y], .int .i64 n] w fun e w' => e = .returned (.tuple #[.agg #[.int .i64 (sqrQ x y n).1, .int .i64 (sqrQ x y n).2.1], .bool (sqrQ x y n).2.2]) ∧ Keeps w w' := by
  have HB := hid hb
  have HI := hid (fracB_int hn)
  have k0 : Keeps w ((w.alloc (.cells #[.int .i64 x, .int .i64 y] 41)).alloc (.cells #[.int .i64 0, .int .i64 0] 41)) := ((Below.refl w.heap.size w).alloc (Nat.le_refl _) _).alloc (by simp) _
  obtain ⟨r1, r2, r3, H1⟩ : ∃ r1 r2 r3, Hid (mkF (x * 1 - n * y) (y * 1) = (r1, r2, r3)) := ⟨_, _, _, rfl⟩
  clear hb hn
  cases r3
  · have HF := hid (sqrQ_no H1.out)
    go_enter Try.func145, Try.ntmps145
    go_wp2_with fail
    refine (SubFrac_any HB.out HI.out).mono ?_
    rintro e w1 ⟨rfl, k1⟩
    rw [H1.out]
    have c1 := k1.cell (p := ⟨w.heap.size + 1, 0, none⟩) (by simp)
    have c2 := k1.cell (p := ⟨w.heap.size + 1, 1, none⟩) (by simp)
    have f1 := k1.frozen (p := ⟨w.heap.size + 1, 0, none⟩) (by simp)
    have f2 := k1.frozen (p := ⟨w.heap.size + 1, 1, none⟩) (by simp)
    simp [go_sem] at c1 c2 f1 f2
    have hs1 := k1.size
    simp at hs1
    have HK1 := hid (Keeps.trans k0 k1)
    have HK2 := hid (HK1.out.trans (keeps_alloc w1 (.cells #[.int .i64 r1, .int .i64 r2] 41)))
    have ka := keeps_alloc w1 (.cells #[.int .i64 r1, .int .i64 r2] 41)
    have d1 := cell_keeps c1 ka
    have d2 := cell_keeps c2 ka
    have e1 := (ka.frozen (p := ⟨w.heap.size + 1, 0, none⟩) (by simp; omega)).trans f1
    have e2 := (ka.frozen (p := ⟨w.heap.size + 1, 1, none⟩) (by simp; omega)).trans f2
    clear k1 k0 ka
    go_wp2_with fail
    refine bodyPost_ret (v := .tuple #[.agg #[.int .i64 0, .int .i64 0], .bool false]) (by simp [results, Try.results145, go_sem, d1, d2]) rfl ⟨ret_fb (by rw [HF.out]) (by rw [HF.out]) (by rw [HF.out]), ?_⟩
    exact Below.setCell (Below.setCell HK2.out (by simp) _) (by simp) _
  · have HG := hid (show fracB r1 r2 = true by have := mkF_ok (n := x * 1 - n * y) (d := y * 1) (by rw [H1.out]); rwa [H1.out] at this)
    have HF := hid (sqrQ_yes H1.out)
    obtain ⟨s1, s2, s3, H2⟩ : ∃ s1 s2 s3, Hid (mkF (r1 * r1) (r2 * r2) = (s1, s2, s3)) := ⟨_, _, _, rfl⟩
    go_enter Try.func145, Try.ntmps145
    go_wp2_with fail
    refine (SubFrac_any HB.out HI.out).mono ?_
    rintro e w1 ⟨rfl, k1⟩
    rw [H1.out]
    have c1 := k1.cell (p := ⟨w.heap.size + 1, 0, none⟩) (by simp)
    have c2 := k1.cell (p := ⟨w.heap.size + 1, 1, none⟩) (by simp)
    have f1 := k1.frozen (p := ⟨w.heap.size + 1, 0, none⟩) (by simp)
    have f2 := k1.frozen (p := ⟨w.heap.size + 1, 1, none⟩) (by simp)
    simp [go_sem] at c1 c2 f1 f2
    have hs1 := k1.size
    simp at hs1
    have HK1 := hid (Keeps.trans k0 k1)
    have HK2 := hid (HK1.out.trans (keeps_alloc w1 (.cells #[.int .i64 r1, .int .i64 r2] 41)))
    have ka := keeps_alloc w1 (.cells #[.int .i64 r1, .int .i64 r2] 41)
    have d1 := cell_keeps c1 ka
    have d2 := cell_keeps c2 ka
    have e1 := (ka.frozen (p := ⟨w.heap.size + 1, 0, none⟩) (by simp; omega)).trans f1
    have e2 := (ka.frozen (p := ⟨w.heap.size + 1, 1, none⟩) (by simp; omega)).trans f2
    clear k1 k0 ka
    go_wp2_with fail
    refine (MulFrac_any HG.out HG.out).mono ?_
    rintro e w2 ⟨rfl, k2⟩
    rw [H2.out]
    replace d1 := cell_keeps d1 k2
    replace d2 := cell_keeps d2 k2
    replace e1 := (k2.frozen (p := ⟨w.heap.size + 1, 0, none⟩) (by simp; omega)).trans e1
    replace e2 := (k2.frozen (p := ⟨w.heap.size + 1, 1, none⟩) (by simp; omega)).trans e2
    have HK3 := hid (HK2.out.trans k2)
    clear k2 HK2
    go_wp2_with fail
    refine bodyPost_ret (v := .tuple #[.agg #[.int .i64 s1, .int .i64 s2], .bool s3]) (by simp [results, Try.results145, go_sem, d1, d2]) rfl ⟨ret_fb (by rw [HF.out, H2.out]) (by rw [HF.out, H2.out]) (by rw [HF.out, H2.out]), ?_⟩
    exact Below.setCell (Below.setCell HK3.out (by simp) _) (by simp) _
section
variable {w w' : World} {g : Nat} {x y : Int} {o : Obj} {t : TypeId}
theorem Bx.kd (h : Bx w g x y) (k : Keeps w.drew w') : Bx w' g x y := Bx.keeps (w := w.drew) h k
theorem Bx.ka (h : Bx w g x y) (k : Keeps (w.alloc o) w') : Bx w' g x y := (h.keeps (keeps_alloc w o)).keeps k
theorem Bx.kad (h : Bx w g x y) (k : Keeps (w.alloc o).drew w') : Bx w' g x y := Bx.kd (h.keeps (keeps_alloc w o)) k
theorem Bx.nk (k : Keeps (w.alloc (.cells #[.int .i64 x, .int .i64 y] t)) w') : Bx w' w.heap.size x y := (Bx.new w x y t).keeps k
theorem Bx.nkd (k : Keeps (w.alloc (.cells #[.int .i64 x, .int .i64 y] t)).drew w') : Bx w' w.heap.size x y := Bx.kd (Bx.new w x y t) k
theorem set2_far {g i : Nat} {p : Nat} {a b s : Value} (h : w.cell? ⟨g, i, none⟩ = some s) (hne : g ≠ p) : ((w.setCell ⟨p, 0, none⟩ a).setCell ⟨p, 1, none⟩ b).cell? ⟨g, i, none⟩ = some s := by
  rw [World.cell?_of_block (w := w.setCell ⟨p, 0, none⟩ a) (Below.heap_setCell _ ⟨p, 1, none⟩ b g hne), World.cell?_of_block (w := w) (Below.heap_setCell _ ⟨p, 0, none⟩ a g hne)]; exact h
theorem keeps_d (k : Keeps w.drew w') : Keeps w w' := (Keeps.drewN w 1).trans k
theorem keeps_ad (k : Keeps (w.alloc o).drew w') : Keeps w w' := (keeps_alloc w o).trans (keeps_d k)
end
end Go.Proofs.Ytkpliolafkdijaa
