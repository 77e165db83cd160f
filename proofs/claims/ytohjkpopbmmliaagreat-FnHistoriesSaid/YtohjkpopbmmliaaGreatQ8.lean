/- What the proof of the statement leans on, part 9: walks of functions and plain lemmas, with no condition. -/
import Derived.Test.YtohjkpopbmmliaaGreatQ7
namespace Go.Proofs.YtohjkpopbmmliaaGreat
open Go.RowKit Go.Sort
set_option linter.unusedVariables false
set_option linter.unusedSimpArgs false
/-- What a drawing function that hands back a loss leaves. -/
def DrawsLo (w : World) (g : Nat) (T : Int) (e : Ending) (w' : World) : Prop := ∃ a b c d, e = .returned (.agg #[.int .i64 a, .int .i64 b, .int .i64 c, .int .i64 d]) ∧ Cur w' g T ∧ Fr g (g + 1) w w'
set_option maxRecDepth 100000 in
set_option maxHeartbeats 3200000 in
theorem loss_any {g : Nat} {T : Int} {w : World} (h : Cur w g T) (hT : T ≤ 600000000000000) :
    Calls Tryz.prog 95 #[.pointer (some ⟨g, 0, none⟩)] w (DrawsLo w g (T + 8)) := by
  have lg := h.lt
  go_enter Tryz.func95, Tryz.ntmps95
  have f : Fr g (g + 1) w w := Fr.refl _ _ _
  have hc := h
  replace f := f.keeps (keeps_alloc w (.cells #[.int .i64 0, .int .i64 0, .int .i64 0, .int .i64 0] 32))
  replace hc := hc.keeps (keeps_alloc w (.cells #[.int .i64 0, .int .i64 0, .int .i64 0, .int .i64 0] 32))
  have b2 : Bl (w.alloc (.cells #[.int .i64 0, .int .i64 0, .int .i64 0, .int .i64 0] 32)) w.heap.size [.int .i64 0, .int .i64 0, .int .i64 0, .int .i64 0] := Bl.new' (by simp) (by simp)
  go_wp2_with fail
  refine (pick_any hc (by omega) (by omega)).mono ?_
  rintro e w1 ⟨x, rfl, hx, hn, ff⟩
  replace f := f.trans ff
  clear hc
  have hc := hn
  replace b2 := b2.fr ff (by first | omega | (simp; omega))
  clear ff hn
  have sz1 := f.size
  have lt1 := b2.lt
  go_wp2_with fail
  refine (pick_any hc (by omega) (by omega)).mono ?_
  rintro e w2 ⟨y, rfl, hy, hn, ff⟩
  replace f := f.trans ff
  clear hc
  have hc := hn
  replace b2 := b2.fr ff (by first | omega | (simp; omega))
  clear ff hn
  have sz2 := f.size
  have lt2 := b2.lt
  go_wp2_with fail
  obtain ⟨r1, r2, r3, HS⟩ : ∃ r1 r2 r3, Hid (mkF (1 + x + y) (1 + x) = (r1, r2, r3)) := ⟨_, _, _, rfl⟩
  refine (fMake_any (n := 1 + x + y) (d := 1 + x) (by omega) (by omega)).mono ?_
  rintro e w3 ⟨rfl, kk⟩
  replace f := f.keeps kk
  replace hc := hc.keeps kk
  replace b2 := b2.keeps kk
  clear kk
  have sz3 := f.size
  have lt3 := b2.lt
  rw [HS.out]
  replace f := f.keeps (keeps_alloc w3 (.cells #[.int .i64 r1, .int .i64 r2] 30))
  replace hc := hc.keeps (keeps_alloc w3 (.cells #[.int .i64 r1, .int .i64 r2] 30))
  replace b2 := b2.keeps (keeps_alloc w3 (.cells #[.int .i64 r1, .int .i64 r2] 30))
  have b4 : Bx (w3.alloc (.cells #[.int .i64 r1, .int .i64 r2] 30)) w3.heap.size r1 r2 := Bx.new' (by simp)
  go_wp2_with fail
  refine (pick_any hc (by omega) (by omega)).mono ?_
  rintro e w4 ⟨x2, rfl, hx2, hn, ff⟩
  replace f := f.trans ff
  clear hc
  have hc := hn
  replace b2 := b2.fr ff (by first | omega | (simp; omega))
  replace b4 := b4.fr ff (by first | omega | (simp; omega))
  clear ff hn
  have sz4 := f.size
  have lt4 := b4.lt
  go_wp2_with fail
  refine (pick_any hc (by omega) (by omega)).mono ?_
  rintro e w5 ⟨y2, rfl, hy2, hn, ff⟩
  replace f := f.trans ff
  clear hc
  have hc := hn
  replace b2 := b2.fr ff (by first | omega | (simp; omega))
  replace b4 := b4.fr ff (by first | omega | (simp; omega))
  clear ff hn
  have sz5 := f.size
  have lt5 := b4.lt
  go_wp2_with fail
  obtain ⟨r4, r5, r6, HS2⟩ : ∃ r1 r2 r3, Hid (mkF x2 (1 + y2) = (r1, r2, r3)) := ⟨_, _, _, rfl⟩
  refine (fMake_any (n := x2) (d := 1 + y2) (by omega) (by omega)).mono ?_
  rintro e w6 ⟨rfl, kk⟩
  replace f := f.keeps kk
  replace hc := hc.keeps kk
  replace b2 := b2.keeps kk
  replace b4 := b4.keeps kk
  clear kk
  have sz6 := f.size
  have lt6 := b4.lt
  rw [HS2.out]
  replace f := f.keeps (keeps_alloc w6 (.cells #[.int .i64 r4, .int .i64 r5] 30))
  replace hc := hc.keeps (keeps_alloc w6 (.cells #[.int .i64 r4, .int .i64 r5] 30))
  replace b2 := b2.keeps (keeps_alloc w6 (.cells #[.int .i64 r4, .int .i64 r5] 30))
  replace b4 := b4.keeps (keeps_alloc w6 (.cells #[.int .i64 r4, .int .i64 r5] 30))
  have b6 : Bx (w6.alloc (.cells #[.int .i64 r4, .int .i64 r5] 30)) w6.heap.size r4 r5 := Bx.new' (by simp)
  obtain ⟨ca7, cb7, fa7, fb7⟩ := id b4
  obtain ⟨ca8, cb8, fa8, fb8⟩ := id b6
  have ca9_0 : (w6.alloc (.cells #[.int .i64 r4, .int .i64 r5] 30)).cell? ⟨w.heap.size, 0, none⟩ = some (.int .i64 0) := (b2.2 0 _ rfl).1
  have fa9_0 : (w6.alloc (.cells #[.int .i64 r4, .int .i64 r5] 30)).frozen? ⟨w.heap.size, 0, none⟩ = false := (b2.2 0 _ rfl).2
  have ca9_1 : (w6.alloc (.cells #[.int .i64 r4, .int .i64 r5] 30)).cell? ⟨w.heap.size, 1, none⟩ = some (.int .i64 0) := (b2.2 1 _ rfl).1
  have fa9_1 : (w6.alloc (.cells #[.int .i64 r4, .int .i64 r5] 30)).frozen? ⟨w.heap.size, 1, none⟩ = false := (b2.2 1 _ rfl).2
  have ca9_2 : (w6.alloc (.cells #[.int .i64 r4, .int .i64 r5] 30)).cell? ⟨w.heap.size, 2, none⟩ = some (.int .i64 0) := (b2.2 2 _ rfl).1
  have fa9_2 : (w6.alloc (.cells #[.int .i64 r4, .int .i64 r5] 30)).frozen? ⟨w.heap.size, 2, none⟩ = false := (b2.2 2 _ rfl).2
  have ca9_3 : (w6.alloc (.cells #[.int .i64 r4, .int .i64 r5] 30)).cell? ⟨w.heap.size, 3, none⟩ = some (.int .i64 0) := (b2.2 3 _ rfl).1
  have fa9_3 : (w6.alloc (.cells #[.int .i64 r4, .int .i64 r5] 30)).frozen? ⟨w.heap.size, 3, none⟩ = false := (b2.2 3 _ rfl).2
  replace f := f.setNew (p := ⟨w.heap.size, 0, none⟩) (by show _ ≤ w.heap.size; omega) (.int .i64 r1)
  replace hc := hc.fr (fr_one (p := w.heap.size) (i := 0) (.int .i64 r1)) (by omega)
  replace b4 := b4.far (p := ⟨w.heap.size, 0, none⟩) (by show _ ≠ w.heap.size; omega) (.int .i64 r1)
  replace b6 := b6.far (p := ⟨w.heap.size, 0, none⟩) (by show _ ≠ w.heap.size; omega) (.int .i64 r1)
  replace b2 : Bl ((w6.alloc (.cells #[.int .i64 r4, .int .i64 r5] 30)).setCell ⟨w.heap.size, 0, none⟩ (.int .i64 r1)) w.heap.size [.int .i64 r1, .int .i64 0, .int .i64 0, .int .i64 0] := b2.set 0 (.int .i64 r1)
  replace f := f.setNew (p := ⟨w.heap.size, 1, none⟩) (by show _ ≤ w.heap.size; omega) (.int .i64 r2)
  replace hc := hc.fr (fr_one (p := w.heap.size) (i := 1) (.int .i64 r2)) (by omega)
  replace b4 := b4.far (p := ⟨w.heap.size, 1, none⟩) (by show _ ≠ w.heap.size; omega) (.int .i64 r2)
  replace b6 := b6.far (p := ⟨w.heap.size, 1, none⟩) (by show _ ≠ w.heap.size; omega) (.int .i64 r2)
  replace b2 : Bl (((w6.alloc (.cells #[.int .i64 r4, .int .i64 r5] 30)).setCell ⟨w.heap.size, 0, none⟩ (.int .i64 r1)).setCell ⟨w.heap.size, 1, none⟩ (.int .i64 r2)) w.heap.size [.int .i64 r1, .int .i64 r2, .int .i64 0, .int .i64 0] := b2.set 1 (.int .i64 r2)
  replace f := f.setNew (p := ⟨w.heap.size, 2, none⟩) (by show _ ≤ w.heap.size; omega) (.int .i64 r4)
  replace hc := hc.fr (fr_one (p := w.heap.size) (i := 2) (.int .i64 r4)) (by omega)
  replace b4 := b4.far (p := ⟨w.heap.size, 2, none⟩) (by show _ ≠ w.heap.size; omega) (.int .i64 r4)
  replace b6 := b6.far (p := ⟨w.heap.size, 2, none⟩) (by show _ ≠ w.heap.size; omega) (.int .i64 r4)
  replace b2 : Bl ((((w6.alloc (.cells #[.int .i64 r4, .int .i64 r5] 30)).setCell ⟨w.heap.size, 0, none⟩ (.int .i64 r1)).setCell ⟨w.heap.size, 1, none⟩ (.int .i64 r2)).setCell ⟨w.heap.size, 2, none⟩ (.int .i64 r4)) w.heap.size [.int .i64 r1, .int .i64 r2, .int .i64 r4, .int .i64 0] := b2.set 2 (.int .i64 r4)
  replace f := f.setNew (p := ⟨w.heap.size, 3, none⟩) (by show _ ≤ w.heap.size; omega) (.int .i64 r5)
  replace hc := hc.fr (fr_one (p := w.heap.size) (i := 3) (.int .i64 r5)) (by omega)
  replace b4 := b4.far (p := ⟨w.heap.size, 3, none⟩) (by show _ ≠ w.heap.size; omega) (.int .i64 r5)
  replace b6 := b6.far (p := ⟨w.heap.size, 3, none⟩) (by show _ ≠ w.heap.size; omega) (.int .i64 r5)
  replace b2 : Bl (((((w6.alloc (.cells #[.int .i64 r4, .int .i64 r5] 30)).setCell ⟨w.heap.size, 0, none⟩ (.int .i64 r1)).setCell ⟨w.heap.size, 1, none⟩ (.int .i64 r2)).setCell ⟨w.heap.size, 2, none⟩ (.int .i64 r4)).setCell ⟨w.heap.size, 3, none⟩ (.int .i64 r5)) w.heap.size [.int .i64 r1, .int .i64 r2, .int .i64 r4, .int .i64 r5] := b2.set 3 (.int .i64 r5)
  have HC9 := hid hc
  have HF9 := hid f
  clear hc f
  go_wp2_with fail
  clear ca7 cb7 fa7 fb7 ca8 cb8 fa8 fb8 ca9_0 fa9_0 ca9_1 fa9_1 ca9_2 fa9_2 ca9_3 fa9_3
  have ca0_0 : (((((w6.alloc (.cells #[.int .i64 r4, .int .i64 r5] 30)).setCell ⟨w.heap.size, 0, none⟩ (.int .i64 r1)).setCell ⟨w.heap.size, 1, none⟩ (.int .i64 r2)).setCell ⟨w.heap.size, 2, none⟩ (.int .i64 r4)).setCell ⟨w.heap.size, 3, none⟩ (.int .i64 r5)).cell? ⟨w.heap.size, 0, none⟩ = some (.int .i64 r1) := (b2.2 0 _ rfl).1
  have ca0_1 : (((((w6.alloc (.cells #[.int .i64 r4, .int .i64 r5] 30)).setCell ⟨w.heap.size, 0, none⟩ (.int .i64 r1)).setCell ⟨w.heap.size, 1, none⟩ (.int .i64 r2)).setCell ⟨w.heap.size, 2, none⟩ (.int .i64 r4)).setCell ⟨w.heap.size, 3, none⟩ (.int .i64 r5)).cell? ⟨w.heap.size, 1, none⟩ = some (.int .i64 r2) := (b2.2 1 _ rfl).1
  have ca0_2 : (((((w6.alloc (.cells #[.int .i64 r4, .int .i64 r5] 30)).setCell ⟨w.heap.size, 0, none⟩ (.int .i64 r1)).setCell ⟨w.heap.size, 1, none⟩ (.int .i64 r2)).setCell ⟨w.heap.size, 2, none⟩ (.int .i64 r4)).setCell ⟨w.heap.size, 3, none⟩ (.int .i64 r5)).cell? ⟨w.heap.size, 2, none⟩ = some (.int .i64 r4) := (b2.2 2 _ rfl).1
  have ca0_3 : (((((w6.alloc (.cells #[.int .i64 r4, .int .i64 r5] 30)).setCell ⟨w.heap.size, 0, none⟩ (.int .i64 r1)).setCell ⟨w.heap.size, 1, none⟩ (.int .i64 r2)).setCell ⟨w.heap.size, 2, none⟩ (.int .i64 r4)).setCell ⟨w.heap.size, 3, none⟩ (.int .i64 r5)).cell? ⟨w.heap.size, 3, none⟩ = some (.int .i64 r5) := (b2.2 3 _ rfl).1
  try simp only [Exit.inBlock, Exit.then]
  exact bodyPost_ret (v := .agg #[.int .i64 r1, .int .i64 r2, .int .i64 r4, .int .i64 r5]) (by simp [results, Tryz.results95, go_sem, ca0_0, ca0_1, ca0_2, ca0_3]) rfl ⟨_, _, _, _, rfl, HC9.out.mono (by omega), HF9.out⟩
set_option maxRecDepth 100000 in
set_option maxHeartbeats 6400000 in
theorem anyLoss_any {g : Nat} {T : Int} {w : World} (h : Cur w g T) (hT : T ≤ 500000000000000) :
    Calls Tryz.prog 112 #[.pointer (some ⟨g, 0, none⟩)] w (DrawsLo w g (T + 30)) := by
  have lg := h.lt
  go_enter Tryz.func112, Tryz.ntmps112
  have f : Fr g (g + 1) w w := Fr.refl _ _ _
  have hc := h
  replace f := f.keeps (keeps_alloc w (.cells #[.int .i64 0, .int .i64 0, .int .i64 0, .int .i64 0] 32))
  replace hc := hc.keeps (keeps_alloc w (.cells #[.int .i64 0, .int .i64 0, .int .i64 0, .int .i64 0] 32))
  have b2 : Bl (w.alloc (.cells #[.int .i64 0, .int .i64 0, .int .i64 0, .int .i64 0] 32)) w.heap.size [.int .i64 0, .int .i64 0, .int .i64 0, .int .i64 0] := Bl.new' (by simp) (by simp)
  go_wp2_with fail
  refine (loss_any hc (by omega)).mono ?_
  rintro e w1 ⟨a, b, c, d, rfl, hn, ff⟩
  replace f := f.trans ff
  clear hc
  have hc := hn
  replace b2 := b2.fr ff (by first | omega | (simp; omega))
  clear ff hn
  have sz1 := f.size
  have lt1 := b2.lt
  replace f := f.keeps (keeps_alloc w1 (.cells #[.int .i64 a, .int .i64 b, .int .i64 c, .int .i64 d] 32))
  replace hc := hc.keeps (keeps_alloc w1 (.cells #[.int .i64 a, .int .i64 b, .int .i64 c, .int .i64 d] 32))
  replace b2 := b2.keeps (keeps_alloc w1 (.cells #[.int .i64 a, .int .i64 b, .int .i64 c, .int .i64 d] 32))
  have b3 : Bl (w1.alloc (.cells #[.int .i64 a, .int .i64 b, .int .i64 c, .int .i64 d] 32)) w1.heap.size [.int .i64 a, .int .i64 b, .int .i64 c, .int .i64 d] := Bl.new' (by simp) (by simp)
  go_wp2_with fail
  refine (pick_any hc (by omega) (by omega)).mono ?_
  rintro e w2 ⟨v, rfl, hv, hn, ff⟩
  replace f := f.trans ff
  clear hc
  have hc := hn
  replace b2 := b2.fr ff (by first | omega | (simp; omega))
  replace b3 := b3.fr ff (by first | omega | (simp; omega))
  clear ff hn
  have sz2 := f.size
  have lt2 := b3.lt
  by_cases h0 : v = 0
  · subst h0
    clear hv
    go_wp2_with fail
    refine (anyFrac_any hc (by omega)).mono ?_
    rintro e w3 ⟨x, y, rfl, hsm, hn, ff⟩
    replace f := f.trans ff
    clear hc
    have hc := hn
    replace b2 := b2.fr ff (by first | omega | (simp; omega))
    replace b3 := b3.fr ff (by first | omega | (simp; omega))
    clear ff hn
    have sz3 := f.size
    have lt3 := b3.lt
    clear hsm
    have ca4_0 : w3.cell? ⟨w1.heap.size, 0, none⟩ = some (.int .i64 a) := (b3.2 0 _ rfl).1
    have fa4_0 : w3.frozen? ⟨w1.heap.size, 0, none⟩ = false := (b3.2 0 _ rfl).2
    have ca4_1 : w3.cell? ⟨w1.heap.size, 1, none⟩ = some (.int .i64 b) := (b3.2 1 _ rfl).1
    have fa4_1 : w3.frozen? ⟨w1.heap.size, 1, none⟩ = false := (b3.2 1 _ rfl).2
    have ca4_2 : w3.cell? ⟨w1.heap.size, 2, none⟩ = some (.int .i64 c) := (b3.2 2 _ rfl).1
    have fa4_2 : w3.frozen? ⟨w1.heap.size, 2, none⟩ = false := (b3.2 2 _ rfl).2
    have ca4_3 : w3.cell? ⟨w1.heap.size, 3, none⟩ = some (.int .i64 d) := (b3.2 3 _ rfl).1
    have fa4_3 : w3.frozen? ⟨w1.heap.size, 3, none⟩ = false := (b3.2 3 _ rfl).2
    replace f := f.setNew (p := ⟨w1.heap.size, 0, none⟩) (by show _ ≤ w1.heap.size; omega) (.int .i64 x)
    replace hc := hc.fr (fr_one (p := w1.heap.size) (i := 0) (.int .i64 x)) (by omega)
    replace b2 := b2.far (p := ⟨w1.heap.size, 0, none⟩) (by show _ ≠ w1.heap.size; omega) (.int .i64 x)
    replace b3 : Bl (w3.setCell ⟨w1.heap.size, 0, none⟩ (.int .i64 x)) w1.heap.size [.int .i64 x, .int .i64 b, .int .i64 c, .int .i64 d] := b3.set 0 (.int .i64 x)
    replace f := f.setNew (p := ⟨w1.heap.size, 1, none⟩) (by show _ ≤ w1.heap.size; omega) (.int .i64 y)
    replace hc := hc.fr (fr_one (p := w1.heap.size) (i := 1) (.int .i64 y)) (by omega)
    replace b2 := b2.far (p := ⟨w1.heap.size, 1, none⟩) (by show _ ≠ w1.heap.size; omega) (.int .i64 y)
    replace b3 : Bl ((w3.setCell ⟨w1.heap.size, 0, none⟩ (.int .i64 x)).setCell ⟨w1.heap.size, 1, none⟩ (.int .i64 y)) w1.heap.size [.int .i64 x, .int .i64 y, .int .i64 c, .int .i64 d] := b3.set 1 (.int .i64 y)
    have ca5_0 : ((w3.setCell ⟨w1.heap.size, 0, none⟩ (.int .i64 x)).setCell ⟨w1.heap.size, 1, none⟩ (.int .i64 y)).cell? ⟨w1.heap.size, 0, none⟩ = some (.int .i64 x) := (b3.2 0 _ rfl).1
    have ca5_1 : ((w3.setCell ⟨w1.heap.size, 0, none⟩ (.int .i64 x)).setCell ⟨w1.heap.size, 1, none⟩ (.int .i64 y)).cell? ⟨w1.heap.size, 1, none⟩ = some (.int .i64 y) := (b3.2 1 _ rfl).1
    have ca5_2 : ((w3.setCell ⟨w1.heap.size, 0, none⟩ (.int .i64 x)).setCell ⟨w1.heap.size, 1, none⟩ (.int .i64 y)).cell? ⟨w1.heap.size, 2, none⟩ = some (.int .i64 c) := (b3.2 2 _ rfl).1
    have ca5_3 : ((w3.setCell ⟨w1.heap.size, 0, none⟩ (.int .i64 x)).setCell ⟨w1.heap.size, 1, none⟩ (.int .i64 y)).cell? ⟨w1.heap.size, 3, none⟩ = some (.int .i64 d) := (b3.2 3 _ rfl).1
    have ca6_0 : ((w3.setCell ⟨w1.heap.size, 0, none⟩ (.int .i64 x)).setCell ⟨w1.heap.size, 1, none⟩ (.int .i64 y)).cell? ⟨w.heap.size, 0, none⟩ = some (.int .i64 0) := (b2.2 0 _ rfl).1
    have fa6_0 : ((w3.setCell ⟨w1.heap.size, 0, none⟩ (.int .i64 x)).setCell ⟨w1.heap.size, 1, none⟩ (.int .i64 y)).frozen? ⟨w.heap.size, 0, none⟩ = false := (b2.2 0 _ rfl).2
    have ca6_1 : ((w3.setCell ⟨w1.heap.size, 0, none⟩ (.int .i64 x)).setCell ⟨w1.heap.size, 1, none⟩ (.int .i64 y)).cell? ⟨w.heap.size, 1, none⟩ = some (.int .i64 0) := (b2.2 1 _ rfl).1
    have fa6_1 : ((w3.setCell ⟨w1.heap.size, 0, none⟩ (.int .i64 x)).setCell ⟨w1.heap.size, 1, none⟩ (.int .i64 y)).frozen? ⟨w.heap.size, 1, none⟩ = false := (b2.2 1 _ rfl).2
    have ca6_2 : ((w3.setCell ⟨w1.heap.size, 0, none⟩ (.int .i64 x)).setCell ⟨w1.heap.size, 1, none⟩ (.int .i64 y)).cell? ⟨w.heap.size, 2, none⟩ = some (.int .i64 0) := (b2.2 2 _ rfl).1
    have fa6_2 : ((w3.setCell ⟨w1.heap.size, 0, none⟩ (.int .i64 x)).setCell ⟨w1.heap.size, 1, none⟩ (.int .i64 y)).frozen? ⟨w.heap.size, 2, none⟩ = false := (b2.2 2 _ rfl).2
    have ca6_3 : ((w3.setCell ⟨w1.heap.size, 0, none⟩ (.int .i64 x)).setCell ⟨w1.heap.size, 1, none⟩ (.int .i64 y)).cell? ⟨w.heap.size, 3, none⟩ = some (.int .i64 0) := (b2.2 3 _ rfl).1
    have fa6_3 : ((w3.setCell ⟨w1.heap.size, 0, none⟩ (.int .i64 x)).setCell ⟨w1.heap.size, 1, none⟩ (.int .i64 y)).frozen? ⟨w.heap.size, 3, none⟩ = false := (b2.2 3 _ rfl).2
    replace f := f.setNew (p := ⟨w.heap.size, 0, none⟩) (by show _ ≤ w.heap.size; omega) (.int .i64 x)
    replace hc := hc.fr (fr_one (p := w.heap.size) (i := 0) (.int .i64 x)) (by omega)
    replace b3 := b3.far (p := ⟨w.heap.size, 0, none⟩) (by show _ ≠ w.heap.size; omega) (.int .i64 x)
    replace b2 : Bl (((w3.setCell ⟨w1.heap.size, 0, none⟩ (.int .i64 x)).setCell ⟨w1.heap.size, 1, none⟩ (.int .i64 y)).setCell ⟨w.heap.size, 0, none⟩ (.int .i64 x)) w.heap.size [.int .i64 x, .int .i64 0, .int .i64 0, .int .i64 0] := b2.set 0 (.int .i64 x)
    replace f := f.setNew (p := ⟨w.heap.size, 1, none⟩) (by show _ ≤ w.heap.size; omega) (.int .i64 y)
    replace hc := hc.fr (fr_one (p := w.heap.size) (i := 1) (.int .i64 y)) (by omega)
    replace b3 := b3.far (p := ⟨w.heap.size, 1, none⟩) (by show _ ≠ w.heap.size; omega) (.int .i64 y)
    replace b2 : Bl ((((w3.setCell ⟨w1.heap.size, 0, none⟩ (.int .i64 x)).setCell ⟨w1.heap.size, 1, none⟩ (.int .i64 y)).setCell ⟨w.heap.size, 0, none⟩ (.int .i64 x)).setCell ⟨w.heap.size, 1, none⟩ (.int .i64 y)) w.heap.size [.int .i64 x, .int .i64 y, .int .i64 0, .int .i64 0] := b2.set 1 (.int .i64 y)
    replace f := f.setNew (p := ⟨w.heap.size, 2, none⟩) (by show _ ≤ w.heap.size; omega) (.int .i64 c)
    replace hc := hc.fr (fr_one (p := w.heap.size) (i := 2) (.int .i64 c)) (by omega)
    replace b3 := b3.far (p := ⟨w.heap.size, 2, none⟩) (by show _ ≠ w.heap.size; omega) (.int .i64 c)
    replace b2 : Bl (((((w3.setCell ⟨w1.heap.size, 0, none⟩ (.int .i64 x)).setCell ⟨w1.heap.size, 1, none⟩ (.int .i64 y)).setCell ⟨w.heap.size, 0, none⟩ (.int .i64 x)).setCell ⟨w.heap.size, 1, none⟩ (.int .i64 y)).setCell ⟨w.heap.size, 2, none⟩ (.int .i64 c)) w.heap.size [.int .i64 x, .int .i64 y, .int .i64 c, .int .i64 0] := b2.set 2 (.int .i64 c)
    replace f := f.setNew (p := ⟨w.heap.size, 3, none⟩) (by show _ ≤ w.heap.size; omega) (.int .i64 d)
    replace hc := hc.fr (fr_one (p := w.heap.size) (i := 3) (.int .i64 d)) (by omega)
    replace b3 := b3.far (p := ⟨w.heap.size, 3, none⟩) (by show _ ≠ w.heap.size; omega) (.int .i64 d)
    replace b2 : Bl ((((((w3.setCell ⟨w1.heap.size, 0, none⟩ (.int .i64 x)).setCell ⟨w1.heap.size, 1, none⟩ (.int .i64 y)).setCell ⟨w.heap.size, 0, none⟩ (.int .i64 x)).setCell ⟨w.heap.size, 1, none⟩ (.int .i64 y)).setCell ⟨w.heap.size, 2, none⟩ (.int .i64 c)).setCell ⟨w.heap.size, 3, none⟩ (.int .i64 d)) w.heap.size [.int .i64 x, .int .i64 y, .int .i64 c, .int .i64 d] := b2.set 3 (.int .i64 d)
    have HC9 := hid hc
    have HF9 := hid f
    clear hc f
    go_wp2_with fail
    clear ca4_0 fa4_0 ca4_1 fa4_1 ca4_2 fa4_2 ca4_3 fa4_3 ca5_0 ca5_1 ca5_2 ca5_3 ca6_0 fa6_0 ca6_1 fa6_1 ca6_2 fa6_2 ca6_3 fa6_3
    have ca0_0 : ((((((w3.setCell ⟨w1.heap.size, 0, none⟩ (.int .i64 x)).setCell ⟨w1.heap.size, 1, none⟩ (.int .i64 y)).setCell ⟨w.heap.size, 0, none⟩ (.int .i64 x)).setCell ⟨w.heap.size, 1, none⟩ (.int .i64 y)).setCell ⟨w.heap.size, 2, none⟩ (.int .i64 c)).setCell ⟨w.heap.size, 3, none⟩ (.int .i64 d)).cell? ⟨w.heap.size, 0, none⟩ = some (.int .i64 x) := (b2.2 0 _ rfl).1
    have ca0_1 : ((((((w3.setCell ⟨w1.heap.size, 0, none⟩ (.int .i64 x)).setCell ⟨w1.heap.size, 1, none⟩ (.int .i64 y)).setCell ⟨w.heap.size, 0, none⟩ (.int .i64 x)).setCell ⟨w.heap.size, 1, none⟩ (.int .i64 y)).setCell ⟨w.heap.size, 2, none⟩ (.int .i64 c)).setCell ⟨w.heap.size, 3, none⟩ (.int .i64 d)).cell? ⟨w.heap.size, 1, none⟩ = some (.int .i64 y) := (b2.2 1 _ rfl).1
    have ca0_2 : ((((((w3.setCell ⟨w1.heap.size, 0, none⟩ (.int .i64 x)).setCell ⟨w1.heap.size, 1, none⟩ (.int .i64 y)).setCell ⟨w.heap.size, 0, none⟩ (.int .i64 x)).setCell ⟨w.heap.size, 1, none⟩ (.int .i64 y)).setCell ⟨w.heap.size, 2, none⟩ (.int .i64 c)).setCell ⟨w.heap.size, 3, none⟩ (.int .i64 d)).cell? ⟨w.heap.size, 2, none⟩ = some (.int .i64 c) := (b2.2 2 _ rfl).1
    have ca0_3 : ((((((w3.setCell ⟨w1.heap.size, 0, none⟩ (.int .i64 x)).setCell ⟨w1.heap.size, 1, none⟩ (.int .i64 y)).setCell ⟨w.heap.size, 0, none⟩ (.int .i64 x)).setCell ⟨w.heap.size, 1, none⟩ (.int .i64 y)).setCell ⟨w.heap.size, 2, none⟩ (.int .i64 c)).setCell ⟨w.heap.size, 3, none⟩ (.int .i64 d)).cell? ⟨w.heap.size, 3, none⟩ = some (.int .i64 d) := (b2.2 3 _ rfl).1
    try simp only [Exit.inBlock, Exit.then]
    exact bodyPost_ret (v := .agg #[.int .i64 x, .int .i64 y, .int .i64 c, .int .i64 d]) (by simp [results, Tryz.results112, go_sem, ca0_0, ca0_1, ca0_2, ca0_3]) rfl ⟨_, _, _, _, rfl, HC9.out.mono (by omega), HF9.out⟩
  have t0 : (v == 0) = false := by rw [beq_eq_false_iff_ne]; exact h0
  by_cases h1 : v = 1
  · subst h1
    clear hv t0 h0
    go_wp2_with fail
    refine (anyFrac_any hc (by omega)).mono ?_
    rintro e w3 ⟨x, y, rfl, hsm, hn, ff⟩
    replace f := f.trans ff
    clear hc
    have hc := hn
    replace b2 := b2.fr ff (by first | omega | (simp; omega))
    replace b3 := b3.fr ff (by first | omega | (simp; omega))
    clear ff hn
    have sz3 := f.size
    have lt3 := b3.lt
    clear hsm
    have ca4_0 : w3.cell? ⟨w1.heap.size, 0, none⟩ = some (.int .i64 a) := (b3.2 0 _ rfl).1
    have fa4_0 : w3.frozen? ⟨w1.heap.size, 0, none⟩ = false := (b3.2 0 _ rfl).2
    have ca4_1 : w3.cell? ⟨w1.heap.size, 1, none⟩ = some (.int .i64 b) := (b3.2 1 _ rfl).1
    have fa4_1 : w3.frozen? ⟨w1.heap.size, 1, none⟩ = false := (b3.2 1 _ rfl).2
    have ca4_2 : w3.cell? ⟨w1.heap.size, 2, none⟩ = some (.int .i64 c) := (b3.2 2 _ rfl).1
    have fa4_2 : w3.frozen? ⟨w1.heap.size, 2, none⟩ = false := (b3.2 2 _ rfl).2
    have ca4_3 : w3.cell? ⟨w1.heap.size, 3, none⟩ = some (.int .i64 d) := (b3.2 3 _ rfl).1
    have fa4_3 : w3.frozen? ⟨w1.heap.size, 3, none⟩ = false := (b3.2 3 _ rfl).2
    replace f := f.setNew (p := ⟨w1.heap.size, 2, none⟩) (by show _ ≤ w1.heap.size; omega) (.int .i64 x)
    replace hc := hc.fr (fr_one (p := w1.heap.size) (i := 2) (.int .i64 x)) (by omega)
    replace b2 := b2.far (p := ⟨w1.heap.size, 2, none⟩) (by show _ ≠ w1.heap.size; omega) (.int .i64 x)
    replace b3 : Bl (w3.setCell ⟨w1.heap.size, 2, none⟩ (.int .i64 x)) w1.heap.size [.int .i64 a, .int .i64 b, .int .i64 x, .int .i64 d] := b3.set 2 (.int .i64 x)
    replace f := f.setNew (p := ⟨w1.heap.size, 3, none⟩) (by show _ ≤ w1.heap.size; omega) (.int .i64 y)
    replace hc := hc.fr (fr_one (p := w1.heap.size) (i := 3) (.int .i64 y)) (by omega)
    replace b2 := b2.far (p := ⟨w1.heap.size, 3, none⟩) (by show _ ≠ w1.heap.size; omega) (.int .i64 y)
    replace b3 : Bl ((w3.setCell ⟨w1.heap.size, 2, none⟩ (.int .i64 x)).setCell ⟨w1.heap.size, 3, none⟩ (.int .i64 y)) w1.heap.size [.int .i64 a, .int .i64 b, .int .i64 x, .int .i64 y] := b3.set 3 (.int .i64 y)
    have ca5_0 : ((w3.setCell ⟨w1.heap.size, 2, none⟩ (.int .i64 x)).setCell ⟨w1.heap.size, 3, none⟩ (.int .i64 y)).cell? ⟨w1.heap.size, 0, none⟩ = some (.int .i64 a) := (b3.2 0 _ rfl).1
    have ca5_1 : ((w3.setCell ⟨w1.heap.size, 2, none⟩ (.int .i64 x)).setCell ⟨w1.heap.size, 3, none⟩ (.int .i64 y)).cell? ⟨w1.heap.size, 1, none⟩ = some (.int .i64 b) := (b3.2 1 _ rfl).1
    have ca5_2 : ((w3.setCell ⟨w1.heap.size, 2, none⟩ (.int .i64 x)).setCell ⟨w1.heap.size, 3, none⟩ (.int .i64 y)).cell? ⟨w1.heap.size, 2, none⟩ = some (.int .i64 x) := (b3.2 2 _ rfl).1
    have ca5_3 : ((w3.setCell ⟨w1.heap.size, 2, none⟩ (.int .i64 x)).setCell ⟨w1.heap.size, 3, none⟩ (.int .i64 y)).cell? ⟨w1.heap.size, 3, none⟩ = some (.int .i64 y) := (b3.2 3 _ rfl).1
    have ca6_0 : ((w3.setCell ⟨w1.heap.size, 2, none⟩ (.int .i64 x)).setCell ⟨w1.heap.size, 3, none⟩ (.int .i64 y)).cell? ⟨w.heap.size, 0, none⟩ = some (.int .i64 0) := (b2.2 0 _ rfl).1
    have fa6_0 : ((w3.setCell ⟨w1.heap.size, 2, none⟩ (.int .i64 x)).setCell ⟨w1.heap.size, 3, none⟩ (.int .i64 y)).frozen? ⟨w.heap.size, 0, none⟩ = false := (b2.2 0 _ rfl).2
    have ca6_1 : ((w3.setCell ⟨w1.heap.size, 2, none⟩ (.int .i64 x)).setCell ⟨w1.heap.size, 3, none⟩ (.int .i64 y)).cell? ⟨w.heap.size, 1, none⟩ = some (.int .i64 0) := (b2.2 1 _ rfl).1
    have fa6_1 : ((w3.setCell ⟨w1.heap.size, 2, none⟩ (.int .i64 x)).setCell ⟨w1.heap.size, 3, none⟩ (.int .i64 y)).frozen? ⟨w.heap.size, 1, none⟩ = false := (b2.2 1 _ rfl).2
    have ca6_2 : ((w3.setCell ⟨w1.heap.size, 2, none⟩ (.int .i64 x)).setCell ⟨w1.heap.size, 3, none⟩ (.int .i64 y)).cell? ⟨w.heap.size, 2, none⟩ = some (.int .i64 0) := (b2.2 2 _ rfl).1
    have fa6_2 : ((w3.setCell ⟨w1.heap.size, 2, none⟩ (.int .i64 x)).setCell ⟨w1.heap.size, 3, none⟩ (.int .i64 y)).frozen? ⟨w.heap.size, 2, none⟩ = false := (b2.2 2 _ rfl).2
    have ca6_3 : ((w3.setCell ⟨w1.heap.size, 2, none⟩ (.int .i64 x)).setCell ⟨w1.heap.size, 3, none⟩ (.int .i64 y)).cell? ⟨w.heap.size, 3, none⟩ = some (.int .i64 0) := (b2.2 3 _ rfl).1
    have fa6_3 : ((w3.setCell ⟨w1.heap.size, 2, none⟩ (.int .i64 x)).setCell ⟨w1.heap.size, 3, none⟩ (.int .i64 y)).frozen? ⟨w.heap.size, 3, none⟩ = false := (b2.2 3 _ rfl).2
    replace f := f.setNew (p := ⟨w.heap.size, 0, none⟩) (by show _ ≤ w.heap.size; omega) (.int .i64 a)
    replace hc := hc.fr (fr_one (p := w.heap.size) (i := 0) (.int .i64 a)) (by omega)
    replace b3 := b3.far (p := ⟨w.heap.size, 0, none⟩) (by show _ ≠ w.heap.size; omega) (.int .i64 a)
    replace b2 : Bl (((w3.setCell ⟨w1.heap.size, 2, none⟩ (.int .i64 x)).setCell ⟨w1.heap.size, 3, none⟩ (.int .i64 y)).setCell ⟨w.heap.size, 0, none⟩ (.int .i64 a)) w.heap.size [.int .i64 a, .int .i64 0, .int .i64 0, .int .i64 0] := b2.set 0 (.int .i64 a)
    replace f := f.setNew (p := ⟨w.heap.size, 1, none⟩) (by show _ ≤ w.heap.size; omega) (.int .i64 b)
    replace hc := hc.fr (fr_one (p := w.heap.size) (i := 1) (.int .i64 b)) (by omega)
    replace b3 := b3.far (p := ⟨w.heap.size, 1, none⟩) (by show _ ≠ w.heap.size; omega) (.int .i64 b)
    replace b2 : Bl ((((w3.setCell ⟨w1.heap.size, 2, none⟩ (.int .i64 x)).setCell ⟨w1.heap.size, 3, none⟩ (.int .i64 y)).setCell ⟨w.heap.size, 0, none⟩ (.int .i64 a)).setCell ⟨w.heap.size, 1, none⟩ (.int .i64 b)) w.heap.size [.int .i64 a, .int .i64 b, .int .i64 0, .int .i64 0] := b2.set 1 (.int .i64 b)
    replace f := f.setNew (p := ⟨w.heap.size, 2, none⟩) (by show _ ≤ w.heap.size; omega) (.int .i64 x)
    replace hc := hc.fr (fr_one (p := w.heap.size) (i := 2) (.int .i64 x)) (by omega)
    replace b3 := b3.far (p := ⟨w.heap.size, 2, none⟩) (by show _ ≠ w.heap.size; omega) (.int .i64 x)
    replace b2 : Bl (((((w3.setCell ⟨w1.heap.size, 2, none⟩ (.int .i64 x)).setCell ⟨w1.heap.size, 3, none⟩ (.int .i64 y)).setCell ⟨w.heap.size, 0, none⟩ (.int .i64 a)).setCell ⟨w.heap.size, 1, none⟩ (.int .i64 b)).setCell ⟨w.heap.size, 2, none⟩ (.int .i64 x)) w.heap.size [.int .i64 a, .int .i64 b, .int .i64 x, .int .i64 0] := b2.set 2 (.int .i64 x)
    replace f := f.setNew (p := ⟨w.heap.size, 3, none⟩) (by show _ ≤ w.heap.size; omega) (.int .i64 y)
    replace hc := hc.fr (fr_one (p := w.heap.size) (i := 3) (.int .i64 y)) (by omega)
    replace b3 := b3.far (p := ⟨w.heap.size, 3, none⟩) (by show _ ≠ w.heap.size; omega) (.int .i64 y)
    replace b2 : Bl ((((((w3.setCell ⟨w1.heap.size, 2, none⟩ (.int .i64 x)).setCell ⟨w1.heap.size, 3, none⟩ (.int .i64 y)).setCell ⟨w.heap.size, 0, none⟩ (.int .i64 a)).setCell ⟨w.heap.size, 1, none⟩ (.int .i64 b)).setCell ⟨w.heap.size, 2, none⟩ (.int .i64 x)).setCell ⟨w.heap.size, 3, none⟩ (.int .i64 y)) w.heap.size [.int .i64 a, .int .i64 b, .int .i64 x, .int .i64 y] := b2.set 3 (.int .i64 y)
    have HC9 := hid hc
    have HF9 := hid f
    clear hc f
    go_wp2_with fail
    clear ca4_0 fa4_0 ca4_1 fa4_1 ca4_2 fa4_2 ca4_3 fa4_3 ca5_0 ca5_1 ca5_2 ca5_3 ca6_0 fa6_0 ca6_1 fa6_1 ca6_2 fa6_2 ca6_3 fa6_3
    have ca0_0 : ((((((w3.setCell ⟨w1.heap.size, 2, none⟩ (.int .i64 x)).setCell ⟨w1.heap.size, 3, none⟩ (.int .i64 y)).setCell ⟨w.heap.size, 0, none⟩ (.int .i64 a)).setCell ⟨w.heap.size, 1, none⟩ (.int .i64 b)).setCell ⟨w.heap.size, 2, none⟩ (.int .i64 x)).setCell ⟨w.heap.size, 3, none⟩ (.int .i64 y)).cell? ⟨w.heap.size, 0, none⟩ = some (.int .i64 a) := (b2.2 0 _ rfl).1
    have ca0_1 : ((((((w3.setCell ⟨w1.heap.size, 2, none⟩ (.int .i64 x)).setCell ⟨w1.heap.size, 3, none⟩ (.int .i64 y)).setCell ⟨w.heap.size, 0, none⟩ (.int .i64 a)).setCell ⟨w.heap.size, 1, none⟩ (.int .i64 b)).setCell ⟨w.heap.size, 2, none⟩ (.int .i64 x)).setCell ⟨w.heap.size, 3, none⟩ (.int .i64 y)).cell? ⟨w.heap.size, 1, none⟩ = some (.int .i64 b) := (b2.2 1 _ rfl).1
    have ca0_2 : ((((((w3.setCell ⟨w1.heap.size, 2, none⟩ (.int .i64 x)).setCell ⟨w1.heap.size, 3, none⟩ (.int .i64 y)).setCell ⟨w.heap.size, 0, none⟩ (.int .i64 a)).setCell ⟨w.heap.size, 1, none⟩ (.int .i64 b)).setCell ⟨w.heap.size, 2, none⟩ (.int .i64 x)).setCell ⟨w.heap.size, 3, none⟩ (.int .i64 y)).cell? ⟨w.heap.size, 2, none⟩ = some (.int .i64 x) := (b2.2 2 _ rfl).1
    have ca0_3 : ((((((w3.setCell ⟨w1.heap.size, 2, none⟩ (.int .i64 x)).setCell ⟨w1.heap.size, 3, none⟩ (.int .i64 y)).setCell ⟨w.heap.size, 0, none⟩ (.int .i64 a)).setCell ⟨w.heap.size, 1, none⟩ (.int .i64 b)).setCell ⟨w.heap.size, 2, none⟩ (.int .i64 x)).setCell ⟨w.heap.size, 3, none⟩ (.int .i64 y)).cell? ⟨w.heap.size, 3, none⟩ = some (.int .i64 y) := (b2.2 3 _ rfl).1
    try simp only [Exit.inBlock, Exit.then]
    exact bodyPost_ret (v := .agg #[.int .i64 a, .int .i64 b, .int .i64 x, .int .i64 y]) (by simp [results, Tryz.results112, go_sem, ca0_0, ca0_1, ca0_2, ca0_3]) rfl ⟨_, _, _, _, rfl, HC9.out.mono (by omega), HF9.out⟩
  have t1 : (v == 1) = false := by rw [beq_eq_false_iff_ne]; exact h1
  by_cases h2 : v = 2
  · subst h2
    clear hv t0 h0 t1 h1
    have Ly : Ints (w2.alloc (.cells #[.int .i64 1, .int .i64 999999937] 3)) w2.heap.size (w2.heap.size + 1) (some ⟨w2.heap.size, 0, none⟩) 2 [1, 999999937] := lit_ints w2 [1, 999999937] (by decide)
    replace f := f.keeps (keeps_alloc w2 (.cells #[.int .i64 1, .int .i64 999999937] 3))
    replace hc := hc.keeps (keeps_alloc w2 (.cells #[.int .i64 1, .int .i64 999999937] 3))
    replace b2 := b2.keeps (keeps_alloc w2 (.cells #[.int .i64 1, .int .i64 999999937] 3))
    replace b3 := b3.keeps (keeps_alloc w2 (.cells #[.int .i64 1, .int .i64 999999937] 3))
    go_wp2_with fail
    refine (among_any hc (by omega) Ly (by first | omega | (simp; omega)) (by omega) (by omega)).mono ?_
    rintro e w3 ⟨y, yj, rfl, yh, ye, hn, ff⟩
    replace f := f.trans ff
    clear hc
    have hc := hn
    replace b2 := b2.fr ff (by first | omega | (simp; omega))
    replace b3 := b3.fr ff (by first | omega | (simp; omega))
    clear ff hn
    have sz3 := f.size
    have lt3 := b3.lt
    clear Ly ye yh
    have ca4_0 : w3.cell? ⟨w1.heap.size, 0, none⟩ = some (.int .i64 a) := (b3.2 0 _ rfl).1
    have fa4_0 : w3.frozen? ⟨w1.heap.size, 0, none⟩ = false := (b3.2 0 _ rfl).2
    have ca4_1 : w3.cell? ⟨w1.heap.size, 1, none⟩ = some (.int .i64 b) := (b3.2 1 _ rfl).1
    have fa4_1 : w3.frozen? ⟨w1.heap.size, 1, none⟩ = false := (b3.2 1 _ rfl).2
    have ca4_2 : w3.cell? ⟨w1.heap.size, 2, none⟩ = some (.int .i64 c) := (b3.2 2 _ rfl).1
    have fa4_2 : w3.frozen? ⟨w1.heap.size, 2, none⟩ = false := (b3.2 2 _ rfl).2
    have ca4_3 : w3.cell? ⟨w1.heap.size, 3, none⟩ = some (.int .i64 d) := (b3.2 3 _ rfl).1
    have fa4_3 : w3.frozen? ⟨w1.heap.size, 3, none⟩ = false := (b3.2 3 _ rfl).2
    replace f := f.setNew (p := ⟨w1.heap.size, 0, none⟩) (by show _ ≤ w1.heap.size; omega) (.int .i64 1000000000)
    replace hc := hc.fr (fr_one (p := w1.heap.size) (i := 0) (.int .i64 1000000000)) (by omega)
    replace b2 := b2.far (p := ⟨w1.heap.size, 0, none⟩) (by show _ ≠ w1.heap.size; omega) (.int .i64 1000000000)
    replace b3 : Bl (w3.setCell ⟨w1.heap.size, 0, none⟩ (.int .i64 1000000000)) w1.heap.size [.int .i64 1000000000, .int .i64 b, .int .i64 c, .int .i64 d] := b3.set 0 (.int .i64 1000000000)
    replace f := f.setNew (p := ⟨w1.heap.size, 1, none⟩) (by show _ ≤ w1.heap.size; omega) (.int .i64 y)
    replace hc := hc.fr (fr_one (p := w1.heap.size) (i := 1) (.int .i64 y)) (by omega)
    replace b2 := b2.far (p := ⟨w1.heap.size, 1, none⟩) (by show _ ≠ w1.heap.size; omega) (.int .i64 y)
    replace b3 : Bl ((w3.setCell ⟨w1.heap.size, 0, none⟩ (.int .i64 1000000000)).setCell ⟨w1.heap.size, 1, none⟩ (.int .i64 y)) w1.heap.size [.int .i64 1000000000, .int .i64 y, .int .i64 c, .int .i64 d] := b3.set 1 (.int .i64 y)
    have ca5_0 : ((w3.setCell ⟨w1.heap.size, 0, none⟩ (.int .i64 1000000000)).setCell ⟨w1.heap.size, 1, none⟩ (.int .i64 y)).cell? ⟨w1.heap.size, 0, none⟩ = some (.int .i64 1000000000) := (b3.2 0 _ rfl).1
    have ca5_1 : ((w3.setCell ⟨w1.heap.size, 0, none⟩ (.int .i64 1000000000)).setCell ⟨w1.heap.size, 1, none⟩ (.int .i64 y)).cell? ⟨w1.heap.size, 1, none⟩ = some (.int .i64 y) := (b3.2 1 _ rfl).1
    have ca5_2 : ((w3.setCell ⟨w1.heap.size, 0, none⟩ (.int .i64 1000000000)).setCell ⟨w1.heap.size, 1, none⟩ (.int .i64 y)).cell? ⟨w1.heap.size, 2, none⟩ = some (.int .i64 c) := (b3.2 2 _ rfl).1
    have ca5_3 : ((w3.setCell ⟨w1.heap.size, 0, none⟩ (.int .i64 1000000000)).setCell ⟨w1.heap.size, 1, none⟩ (.int .i64 y)).cell? ⟨w1.heap.size, 3, none⟩ = some (.int .i64 d) := (b3.2 3 _ rfl).1
    have ca6_0 : ((w3.setCell ⟨w1.heap.size, 0, none⟩ (.int .i64 1000000000)).setCell ⟨w1.heap.size, 1, none⟩ (.int .i64 y)).cell? ⟨w.heap.size, 0, none⟩ = some (.int .i64 0) := (b2.2 0 _ rfl).1
    have fa6_0 : ((w3.setCell ⟨w1.heap.size, 0, none⟩ (.int .i64 1000000000)).setCell ⟨w1.heap.size, 1, none⟩ (.int .i64 y)).frozen? ⟨w.heap.size, 0, none⟩ = false := (b2.2 0 _ rfl).2
    have ca6_1 : ((w3.setCell ⟨w1.heap.size, 0, none⟩ (.int .i64 1000000000)).setCell ⟨w1.heap.size, 1, none⟩ (.int .i64 y)).cell? ⟨w.heap.size, 1, none⟩ = some (.int .i64 0) := (b2.2 1 _ rfl).1
    have fa6_1 : ((w3.setCell ⟨w1.heap.size, 0, none⟩ (.int .i64 1000000000)).setCell ⟨w1.heap.size, 1, none⟩ (.int .i64 y)).frozen? ⟨w.heap.size, 1, none⟩ = false := (b2.2 1 _ rfl).2
    have ca6_2 : ((w3.setCell ⟨w1.heap.size, 0, none⟩ (.int .i64 1000000000)).setCell ⟨w1.heap.size, 1, none⟩ (.int .i64 y)).cell? ⟨w.heap.size, 2, none⟩ = some (.int .i64 0) := (b2.2 2 _ rfl).1
    have fa6_2 : ((w3.setCell ⟨w1.heap.size, 0, none⟩ (.int .i64 1000000000)).setCell ⟨w1.heap.size, 1, none⟩ (.int .i64 y)).frozen? ⟨w.heap.size, 2, none⟩ = false := (b2.2 2 _ rfl).2
    have ca6_3 : ((w3.setCell ⟨w1.heap.size, 0, none⟩ (.int .i64 1000000000)).setCell ⟨w1.heap.size, 1, none⟩ (.int .i64 y)).cell? ⟨w.heap.size, 3, none⟩ = some (.int .i64 0) := (b2.2 3 _ rfl).1
    have fa6_3 : ((w3.setCell ⟨w1.heap.size, 0, none⟩ (.int .i64 1000000000)).setCell ⟨w1.heap.size, 1, none⟩ (.int .i64 y)).frozen? ⟨w.heap.size, 3, none⟩ = false := (b2.2 3 _ rfl).2
    replace f := f.setNew (p := ⟨w.heap.size, 0, none⟩) (by show _ ≤ w.heap.size; omega) (.int .i64 1000000000)
    replace hc := hc.fr (fr_one (p := w.heap.size) (i := 0) (.int .i64 1000000000)) (by omega)
    replace b3 := b3.far (p := ⟨w.heap.size, 0, none⟩) (by show _ ≠ w.heap.size; omega) (.int .i64 1000000000)
    replace b2 : Bl (((w3.setCell ⟨w1.heap.size, 0, none⟩ (.int .i64 1000000000)).setCell ⟨w1.heap.size, 1, none⟩ (.int .i64 y)).setCell ⟨w.heap.size, 0, none⟩ (.int .i64 1000000000)) w.heap.size [.int .i64 1000000000, .int .i64 0, .int .i64 0, .int .i64 0] := b2.set 0 (.int .i64 1000000000)
    replace f := f.setNew (p := ⟨w.heap.size, 1, none⟩) (by show _ ≤ w.heap.size; omega) (.int .i64 y)
    replace hc := hc.fr (fr_one (p := w.heap.size) (i := 1) (.int .i64 y)) (by omega)
    replace b3 := b3.far (p := ⟨w.heap.size, 1, none⟩) (by show _ ≠ w.heap.size; omega) (.int .i64 y)
    replace b2 : Bl ((((w3.setCell ⟨w1.heap.size, 0, none⟩ (.int .i64 1000000000)).setCell ⟨w1.heap.size, 1, none⟩ (.int .i64 y)).setCell ⟨w.heap.size, 0, none⟩ (.int .i64 1000000000)).setCell ⟨w.heap.size, 1, none⟩ (.int .i64 y)) w.heap.size [.int .i64 1000000000, .int .i64 y, .int .i64 0, .int .i64 0] := b2.set 1 (.int .i64 y)
    replace f := f.setNew (p := ⟨w.heap.size, 2, none⟩) (by show _ ≤ w.heap.size; omega) (.int .i64 c)
    replace hc := hc.fr (fr_one (p := w.heap.size) (i := 2) (.int .i64 c)) (by omega)
    replace b3 := b3.far (p := ⟨w.heap.size, 2, none⟩) (by show _ ≠ w.heap.size; omega) (.int .i64 c)
    replace b2 : Bl (((((w3.setCell ⟨w1.heap.size, 0, none⟩ (.int .i64 1000000000)).setCell ⟨w1.heap.size, 1, none⟩ (.int .i64 y)).setCell ⟨w.heap.size, 0, none⟩ (.int .i64 1000000000)).setCell ⟨w.heap.size, 1, none⟩ (.int .i64 y)).setCell ⟨w.heap.size, 2, none⟩ (.int .i64 c)) w.heap.size [.int .i64 1000000000, .int .i64 y, .int .i64 c, .int .i64 0] := b2.set 2 (.int .i64 c)
    replace f := f.setNew (p := ⟨w.heap.size, 3, none⟩) (by show _ ≤ w.heap.size; omega) (.int .i64 d)
    replace hc := hc.fr (fr_one (p := w.heap.size) (i := 3) (.int .i64 d)) (by omega)
    replace b3 := b3.far (p := ⟨w.heap.size, 3, none⟩) (by show _ ≠ w.heap.size; omega) (.int .i64 d)
    replace b2 : Bl ((((((w3.setCell ⟨w1.heap.size, 0, none⟩ (.int .i64 1000000000)).setCell ⟨w1.heap.size, 1, none⟩ (.int .i64 y)).setCell ⟨w.heap.size, 0, none⟩ (.int .i64 1000000000)).setCell ⟨w.heap.size, 1, none⟩ (.int .i64 y)).setCell ⟨w.heap.size, 2, none⟩ (.int .i64 c)).setCell ⟨w.heap.size, 3, none⟩ (.int .i64 d)) w.heap.size [.int .i64 1000000000, .int .i64 y, .int .i64 c, .int .i64 d] := b2.set 3 (.int .i64 d)
    have HC9 := hid hc
    have HF9 := hid f
    clear hc f
    go_wp2_with fail
    clear ca4_0 fa4_0 ca4_1 fa4_1 ca4_2 fa4_2 ca4_3 fa4_3 ca5_0 ca5_1 ca5_2 ca5_3 ca6_0 fa6_0 ca6_1 fa6_1 ca6_2 fa6_2 ca6_3 fa6_3
    have ca0_0 : ((((((w3.setCell ⟨w1.heap.size, 0, none⟩ (.int .i64 1000000000)).setCell ⟨w1.heap.size, 1, none⟩ (.int .i64 y)).setCell ⟨w.heap.size, 0, none⟩ (.int .i64 1000000000)).setCell ⟨w.heap.size, 1, none⟩ (.int .i64 y)).setCell ⟨w.heap.size, 2, none⟩ (.int .i64 c)).setCell ⟨w.heap.size, 3, none⟩ (.int .i64 d)).cell? ⟨w.heap.size, 0, none⟩ = some (.int .i64 1000000000) := (b2.2 0 _ rfl).1
    have ca0_1 : ((((((w3.setCell ⟨w1.heap.size, 0, none⟩ (.int .i64 1000000000)).setCell ⟨w1.heap.size, 1, none⟩ (.int .i64 y)).setCell ⟨w.heap.size, 0, none⟩ (.int .i64 1000000000)).setCell ⟨w.heap.size, 1, none⟩ (.int .i64 y)).setCell ⟨w.heap.size, 2, none⟩ (.int .i64 c)).setCell ⟨w.heap.size, 3, none⟩ (.int .i64 d)).cell? ⟨w.heap.size, 1, none⟩ = some (.int .i64 y) := (b2.2 1 _ rfl).1
    have ca0_2 : ((((((w3.setCell ⟨w1.heap.size, 0, none⟩ (.int .i64 1000000000)).setCell ⟨w1.heap.size, 1, none⟩ (.int .i64 y)).setCell ⟨w.heap.size, 0, none⟩ (.int .i64 1000000000)).setCell ⟨w.heap.size, 1, none⟩ (.int .i64 y)).setCell ⟨w.heap.size, 2, none⟩ (.int .i64 c)).setCell ⟨w.heap.size, 3, none⟩ (.int .i64 d)).cell? ⟨w.heap.size, 2, none⟩ = some (.int .i64 c) := (b2.2 2 _ rfl).1
    have ca0_3 : ((((((w3.setCell ⟨w1.heap.size, 0, none⟩ (.int .i64 1000000000)).setCell ⟨w1.heap.size, 1, none⟩ (.int .i64 y)).setCell ⟨w.heap.size, 0, none⟩ (.int .i64 1000000000)).setCell ⟨w.heap.size, 1, none⟩ (.int .i64 y)).setCell ⟨w.heap.size, 2, none⟩ (.int .i64 c)).setCell ⟨w.heap.size, 3, none⟩ (.int .i64 d)).cell? ⟨w.heap.size, 3, none⟩ = some (.int .i64 d) := (b2.2 3 _ rfl).1
    try simp only [Exit.inBlock, Exit.then]
    exact bodyPost_ret (v := .agg #[.int .i64 1000000000, .int .i64 y, .int .i64 c, .int .i64 d]) (by simp [results, Tryz.results112, go_sem, ca0_0, ca0_1, ca0_2, ca0_3]) rfl ⟨_, _, _, _, rfl, HC9.out.mono (by omega), HF9.out⟩
  have t2 : (v == 2) = false := by rw [beq_eq_false_iff_ne]; exact h2
  have ca3_0 : w2.cell? ⟨w1.heap.size, 0, none⟩ = some (.int .i64 a) := (b3.2 0 _ rfl).1
  have ca3_1 : w2.cell? ⟨w1.heap.size, 1, none⟩ = some (.int .i64 b) := (b3.2 1 _ rfl).1
  have ca3_2 : w2.cell? ⟨w1.heap.size, 2, none⟩ = some (.int .i64 c) := (b3.2 2 _ rfl).1
  have ca3_3 : w2.cell? ⟨w1.heap.size, 3, none⟩ = some (.int .i64 d) := (b3.2 3 _ rfl).1
  have ca4_0 : w2.cell? ⟨w1.heap.size, 0, none⟩ = some (.int .i64 a) := (b3.2 0 _ rfl).1
  have ca4_1 : w2.cell? ⟨w1.heap.size, 1, none⟩ = some (.int .i64 b) := (b3.2 1 _ rfl).1
  have ca4_2 : w2.cell? ⟨w1.heap.size, 2, none⟩ = some (.int .i64 c) := (b3.2 2 _ rfl).1
  have ca4_3 : w2.cell? ⟨w1.heap.size, 3, none⟩ = some (.int .i64 d) := (b3.2 3 _ rfl).1
  have ca5_0 : w2.cell? ⟨w.heap.size, 0, none⟩ = some (.int .i64 0) := (b2.2 0 _ rfl).1
  have fa5_0 : w2.frozen? ⟨w.heap.size, 0, none⟩ = false := (b2.2 0 _ rfl).2
  have ca5_1 : w2.cell? ⟨w.heap.size, 1, none⟩ = some (.int .i64 0) := (b2.2 1 _ rfl).1
  have fa5_1 : w2.frozen? ⟨w.heap.size, 1, none⟩ = false := (b2.2 1 _ rfl).2
  have ca5_2 : w2.cell? ⟨w.heap.size, 2, none⟩ = some (.int .i64 0) := (b2.2 2 _ rfl).1
  have fa5_2 : w2.frozen? ⟨w.heap.size, 2, none⟩ = false := (b2.2 2 _ rfl).2
  have ca5_3 : w2.cell? ⟨w.heap.size, 3, none⟩ = some (.int .i64 0) := (b2.2 3 _ rfl).1
  have fa5_3 : w2.frozen? ⟨w.heap.size, 3, none⟩ = false := (b2.2 3 _ rfl).2
  replace f := f.setNew (p := ⟨w.heap.size, 0, none⟩) (by show _ ≤ w.heap.size; omega) (.int .i64 a)
  replace hc := hc.fr (fr_one (p := w.heap.size) (i := 0) (.int .i64 a)) (by omega)
  replace b3 := b3.far (p := ⟨w.heap.size, 0, none⟩) (by show _ ≠ w.heap.size; omega) (.int .i64 a)
  replace b2 : Bl (w2.setCell ⟨w.heap.size, 0, none⟩ (.int .i64 a)) w.heap.size [.int .i64 a, .int .i64 0, .int .i64 0, .int .i64 0] := b2.set 0 (.int .i64 a)
  replace f := f.setNew (p := ⟨w.heap.size, 1, none⟩) (by show _ ≤ w.heap.size; omega) (.int .i64 b)
  replace hc := hc.fr (fr_one (p := w.heap.size) (i := 1) (.int .i64 b)) (by omega)
  replace b3 := b3.far (p := ⟨w.heap.size, 1, none⟩) (by show _ ≠ w.heap.size; omega) (.int .i64 b)
  replace b2 : Bl ((w2.setCell ⟨w.heap.size, 0, none⟩ (.int .i64 a)).setCell ⟨w.heap.size, 1, none⟩ (.int .i64 b)) w.heap.size [.int .i64 a, .int .i64 b, .int .i64 0, .int .i64 0] := b2.set 1 (.int .i64 b)
  replace f := f.setNew (p := ⟨w.heap.size, 2, none⟩) (by show _ ≤ w.heap.size; omega) (.int .i64 c)
  replace hc := hc.fr (fr_one (p := w.heap.size) (i := 2) (.int .i64 c)) (by omega)
  replace b3 := b3.far (p := ⟨w.heap.size, 2, none⟩) (by show _ ≠ w.heap.size; omega) (.int .i64 c)
  replace b2 : Bl (((w2.setCell ⟨w.heap.size, 0, none⟩ (.int .i64 a)).setCell ⟨w.heap.size, 1, none⟩ (.int .i64 b)).setCell ⟨w.heap.size, 2, none⟩ (.int .i64 c)) w.heap.size [.int .i64 a, .int .i64 b, .int .i64 c, .int .i64 0] := b2.set 2 (.int .i64 c)
  replace f := f.setNew (p := ⟨w.heap.size, 3, none⟩) (by show _ ≤ w.heap.size; omega) (.int .i64 d)
  replace hc := hc.fr (fr_one (p := w.heap.size) (i := 3) (.int .i64 d)) (by omega)
  replace b3 := b3.far (p := ⟨w.heap.size, 3, none⟩) (by show _ ≠ w.heap.size; omega) (.int .i64 d)
  replace b2 : Bl ((((w2.setCell ⟨w.heap.size, 0, none⟩ (.int .i64 a)).setCell ⟨w.heap.size, 1, none⟩ (.int .i64 b)).setCell ⟨w.heap.size, 2, none⟩ (.int .i64 c)).setCell ⟨w.heap.size, 3, none⟩ (.int .i64 d)) w.heap.size [.int .i64 a, .int .i64 b, .int .i64 c, .int .i64 d] := b2.set 3 (.int .i64 d)
  have HC9 := hid hc
  have HF9 := hid f
  clear hc f
  go_wp2_with fail
  clear ca3_0 ca3_1 ca3_2 ca3_3 ca4_0 ca4_1 ca4_2 ca4_3 ca5_0 fa5_0 ca5_1 fa5_1 ca5_2 fa5_2 ca5_3 fa5_3
  have ca0_0 : ((((w2.setCell ⟨w.heap.size, 0, none⟩ (.int .i64 a)).setCell ⟨w.heap.size, 1, none⟩ (.int .i64 b)).setCell ⟨w.heap.size, 2, none⟩ (.int .i64 c)).setCell ⟨w.heap.size, 3, none⟩ (.int .i64 d)).cell? ⟨w.heap.size, 0, none⟩ = some (.int .i64 a) := (b2.2 0 _ rfl).1
  have ca0_1 : ((((w2.setCell ⟨w.heap.size, 0, none⟩ (.int .i64 a)).setCell ⟨w.heap.size, 1, none⟩ (.int .i64 b)).setCell ⟨w.heap.size, 2, none⟩ (.int .i64 c)).setCell ⟨w.heap.size, 3, none⟩ (.int .i64 d)).cell? ⟨w.heap.size, 1, none⟩ = some (.int .i64 b) := (b2.2 1 _ rfl).1
  have ca0_2 : ((((w2.setCell ⟨w.heap.size, 0, none⟩ (.int .i64 a)).setCell ⟨w.heap.size, 1, none⟩ (.int .i64 b)).setCell ⟨w.heap.size, 2, none⟩ (.int .i64 c)).setCell ⟨w.heap.size, 3, none⟩ (.int .i64 d)).cell? ⟨w.heap.size, 2, none⟩ = some (.int .i64 c) := (b2.2 2 _ rfl).1
  have ca0_3 : ((((w2.setCell ⟨w.heap.size, 0, none⟩ (.int .i64 a)).setCell ⟨w.heap.size, 1, none⟩ (.int .i64 b)).setCell ⟨w.heap.size, 2, none⟩ (.int .i64 c)).setCell ⟨w.heap.size, 3, none⟩ (.int .i64 d)).cell? ⟨w.heap.size, 3, none⟩ = some (.int .i64 d) := (b2.2 3 _ rfl).1
  try simp only [Exit.inBlock, Exit.then]
  exact bodyPost_ret (v := .agg #[.int .i64 a, .int .i64 b, .int .i64 c, .int .i64 d]) (by simp [results, Tryz.results112, go_sem, ca0_0, ca0_1, ca0_2, ca0_3]) rfl ⟨_, _, _, _, rfl, HC9.out.mono (by omega), HF9.out⟩
set_option maxRecDepth 100000 in
set_option maxHeartbeats 6400000 in
theorem budget_any {g : Nat} {T : Int} {w : World} (h : Cur w g T) (hT : T ≤ 400000000000000) :
    Calls Tryz.prog 63 #[.pointer (some ⟨g, 0, none⟩)] w (DrawsLo w g (T + 40)) := by
  have lg := h.lt
  go_enter Tryz.func63, Tryz.ntmps63
  have f : Fr g (g + 1) w w := Fr.refl _ _ _
  have hc := h
  replace f := f.keeps (keeps_alloc w (.cells #[.int .i64 0, .int .i64 0, .int .i64 0, .int .i64 0] 32))
  replace hc := hc.keeps (keeps_alloc w (.cells #[.int .i64 0, .int .i64 0, .int .i64 0, .int .i64 0] 32))
  have b2 : Bl (w.alloc (.cells #[.int .i64 0, .int .i64 0, .int .i64 0, .int .i64 0] 32)) w.heap.size [.int .i64 0, .int .i64 0, .int .i64 0, .int .i64 0] := Bl.new' (by simp) (by simp)
  go_wp2_with fail
  refine (one_any hc (by omega) (by omega)).mono ?_
  rintro e w1 ⟨b, rfl, hn, ff⟩
  replace f := f.trans ff
  clear hc
  have hc := hn
  replace b2 := b2.fr ff (by first | omega | (simp; omega))
  clear ff hn
  have sz1 := f.size
  have lt1 := b2.lt
  cases b
  · go_wp2_with fail
    have Lx : Ints (w1.alloc (.cells #[.int .i64 1, .int .i64 2, .int .i64 4, .int .i64 10, .int .i64 100] 3)) w1.heap.size (w1.heap.size + 1) (some ⟨w1.heap.size, 0, none⟩) 5 [1, 2, 4, 10, 100] := lit_ints w1 [1, 2, 4, 10, 100] (by decide)
    replace f := f.keeps (keeps_alloc w1 (.cells #[.int .i64 1, .int .i64 2, .int .i64 4, .int .i64 10, .int .i64 100] 3))
    replace hc := hc.keeps (keeps_alloc w1 (.cells #[.int .i64 1, .int .i64 2, .int .i64 4, .int .i64 10, .int .i64 100] 3))
    replace b2 := b2.keeps (keeps_alloc w1 (.cells #[.int .i64 1, .int .i64 2, .int .i64 4, .int .i64 10, .int .i64 100] 3))
    go_wp2_with fail
    refine (among_any hc (by omega) Lx (by first | omega | (simp; omega)) (by omega) (by omega)).mono ?_
    rintro e w2 ⟨x, xj, rfl, xh, xe, hn, ff⟩
    replace f := f.trans ff
    clear hc
    have hc := hn
    replace b2 := b2.fr ff (by first | omega | (simp; omega))
    clear ff hn
    have sz2 := f.size
    have lt2 := b2.lt
    clear Lx xe xh
    go_wp2_with fail
    refine (fInt_any).mono ?_
    rintro e w3 ⟨rfl, kk⟩
    replace f := f.keeps kk
    replace hc := hc.keeps kk
    replace b2 := b2.keeps kk
    clear kk
    have sz3 := f.size
    have lt3 := b2.lt
    have Ly : Ints (w3.alloc (.cells #[.int .i64 0, .int .i64 1, .int .i64 2, .int .i64 10] 3)) w3.heap.size (w3.heap.size + 1) (some ⟨w3.heap.size, 0, none⟩) 4 [0, 1, 2, 10] := lit_ints w3 [0, 1, 2, 10] (by decide)
    replace f := f.keeps (keeps_alloc w3 (.cells #[.int .i64 0, .int .i64 1, .int .i64 2, .int .i64 10] 3))
    replace hc := hc.keeps (keeps_alloc w3 (.cells #[.int .i64 0, .int .i64 1, .int .i64 2, .int .i64 10] 3))
    replace b2 := b2.keeps (keeps_alloc w3 (.cells #[.int .i64 0, .int .i64 1, .int .i64 2, .int .i64 10] 3))
    go_wp2_with fail
    refine (among_any hc (by omega) Ly (by first | omega | (simp; omega)) (by omega) (by omega)).mono ?_
    rintro e w4 ⟨y, yj, rfl, yh, ye, hn, ff⟩
    replace f := f.trans ff
    clear hc
    have hc := hn
    replace b2 := b2.fr ff (by first | omega | (simp; omega))
    clear ff hn
    have sz4 := f.size
    have lt4 := b2.lt
    clear Ly ye yh
    go_wp2_with fail
    refine (fInt_any).mono ?_
    rintro e w5 ⟨rfl, kk⟩
    replace f := f.keeps kk
    replace hc := hc.keeps kk
    replace b2 := b2.keeps kk
    clear kk
    have sz5 := f.size
    have lt5 := b2.lt
    have ca6_0 : w5.cell? ⟨w.heap.size, 0, none⟩ = some (.int .i64 0) := (b2.2 0 _ rfl).1
    have fa6_0 : w5.frozen? ⟨w.heap.size, 0, none⟩ = false := (b2.2 0 _ rfl).2
    have ca6_1 : w5.cell? ⟨w.heap.size, 1, none⟩ = some (.int .i64 0) := (b2.2 1 _ rfl).1
    have fa6_1 : w5.frozen? ⟨w.heap.size, 1, none⟩ = false := (b2.2 1 _ rfl).2
    have ca6_2 : w5.cell? ⟨w.heap.size, 2, none⟩ = some (.int .i64 0) := (b2.2 2 _ rfl).1
    have fa6_2 : w5.frozen? ⟨w.heap.size, 2, none⟩ = false := (b2.2 2 _ rfl).2
    have ca6_3 : w5.cell? ⟨w.heap.size, 3, none⟩ = some (.int .i64 0) := (b2.2 3 _ rfl).1
    have fa6_3 : w5.frozen? ⟨w.heap.size, 3, none⟩ = false := (b2.2 3 _ rfl).2
    replace f := f.setNew (p := ⟨w.heap.size, 0, none⟩) (by show _ ≤ w.heap.size; omega) (.int .i64 x)
    replace hc := hc.fr (fr_one (p := w.heap.size) (i := 0) (.int .i64 x)) (by omega)
    replace b2 : Bl (w5.setCell ⟨w.heap.size, 0, none⟩ (.int .i64 x)) w.heap.size [.int .i64 x, .int .i64 0, .int .i64 0, .int .i64 0] := b2.set 0 (.int .i64 x)
    replace f := f.setNew (p := ⟨w.heap.size, 1, none⟩) (by show _ ≤ w.heap.size; omega) (.int .i64 1)
    replace hc := hc.fr (fr_one (p := w.heap.size) (i := 1) (.int .i64 1)) (by omega)
    replace b2 : Bl ((w5.setCell ⟨w.heap.size, 0, none⟩ (.int .i64 x)).setCell ⟨w.heap.size, 1, none⟩ (.int .i64 1)) w.heap.size [.int .i64 x, .int .i64 1, .int .i64 0, .int .i64 0] := b2.set 1 (.int .i64 1)
    replace f := f.setNew (p := ⟨w.heap.size, 2, none⟩) (by show _ ≤ w.heap.size; omega) (.int .i64 y)
    replace hc := hc.fr (fr_one (p := w.heap.size) (i := 2) (.int .i64 y)) (by omega)
    replace b2 : Bl (((w5.setCell ⟨w.heap.size, 0, none⟩ (.int .i64 x)).setCell ⟨w.heap.size, 1, none⟩ (.int .i64 1)).setCell ⟨w.heap.size, 2, none⟩ (.int .i64 y)) w.heap.size [.int .i64 x, .int .i64 1, .int .i64 y, .int .i64 0] := b2.set 2 (.int .i64 y)
    replace f := f.setNew (p := ⟨w.heap.size, 3, none⟩) (by show _ ≤ w.heap.size; omega) (.int .i64 1)
    replace hc := hc.fr (fr_one (p := w.heap.size) (i := 3) (.int .i64 1)) (by omega)
    replace b2 : Bl ((((w5.setCell ⟨w.heap.size, 0, none⟩ (.int .i64 x)).setCell ⟨w.heap.size, 1, none⟩ (.int .i64 1)).setCell ⟨w.heap.size, 2, none⟩ (.int .i64 y)).setCell ⟨w.heap.size, 3, none⟩ (.int .i64 1)) w.heap.size [.int .i64 x, .int .i64 1, .int .i64 y, .int .i64 1] := b2.set 3 (.int .i64 1)
    have HC9 := hid hc
    have HF9 := hid f
    clear hc f
    go_wp2_with fail
    clear ca6_0 fa6_0 ca6_1 fa6_1 ca6_2 fa6_2 ca6_3 fa6_3
    have ca0_0 : ((((w5.setCell ⟨w.heap.size, 0, none⟩ (.int .i64 x)).setCell ⟨w.heap.size, 1, none⟩ (.int .i64 1)).setCell ⟨w.heap.size, 2, none⟩ (.int .i64 y)).setCell ⟨w.heap.size, 3, none⟩ (.int .i64 1)).cell? ⟨w.heap.size, 0, none⟩ = some (.int .i64 x) := (b2.2 0 _ rfl).1
    have ca0_1 : ((((w5.setCell ⟨w.heap.size, 0, none⟩ (.int .i64 x)).setCell ⟨w.heap.size, 1, none⟩ (.int .i64 1)).setCell ⟨w.heap.size, 2, none⟩ (.int .i64 y)).setCell ⟨w.heap.size, 3, none⟩ (.int .i64 1)).cell? ⟨w.heap.size, 1, none⟩ = some (.int .i64 1) := (b2.2 1 _ rfl).1
    have ca0_2 : ((((w5.setCell ⟨w.heap.size, 0, none⟩ (.int .i64 x)).setCell ⟨w.heap.size, 1, none⟩ (.int .i64 1)).setCell ⟨w.heap.size, 2, none⟩ (.int .i64 y)).setCell ⟨w.heap.size, 3, none⟩ (.int .i64 1)).cell? ⟨w.heap.size, 2, none⟩ = some (.int .i64 y) := (b2.2 2 _ rfl).1
    have ca0_3 : ((((w5.setCell ⟨w.heap.size, 0, none⟩ (.int .i64 x)).setCell ⟨w.heap.size, 1, none⟩ (.int .i64 1)).setCell ⟨w.heap.size, 2, none⟩ (.int .i64 y)).setCell ⟨w.heap.size, 3, none⟩ (.int .i64 1)).cell? ⟨w.heap.size, 3, none⟩ = some (.int .i64 1) := (b2.2 3 _ rfl).1
    try simp only [Exit.inBlock, Exit.then]
    exact bodyPost_ret (v := .agg #[.int .i64 x, .int .i64 1, .int .i64 y, .int .i64 1]) (by simp [results, Tryz.results63, go_sem, ca0_0, ca0_1, ca0_2, ca0_3]) rfl ⟨_, _, _, _, rfl, HC9.out.mono (by omega), HF9.out⟩
  go_wp2_with fail
  refine (anyLoss_any hc (by omega)).mono ?_
  rintro e w2 ⟨a, b, c, d, rfl, hn, ff⟩
  replace f := f.trans ff
  clear hc
  have hc := hn
  replace b2 := b2.fr ff (by first | omega | (simp; omega))
  clear ff hn
  have sz2 := f.size
  have lt2 := b2.lt
  have ca3_0 : w2.cell? ⟨w.heap.size, 0, none⟩ = some (.int .i64 0) := (b2.2 0 _ rfl).1
  have fa3_0 : w2.frozen? ⟨w.heap.size, 0, none⟩ = false := (b2.2 0 _ rfl).2
  have ca3_1 : w2.cell? ⟨w.heap.size, 1, none⟩ = some (.int .i64 0) := (b2.2 1 _ rfl).1
  have fa3_1 : w2.frozen? ⟨w.heap.size, 1, none⟩ = false := (b2.2 1 _ rfl).2
  have ca3_2 : w2.cell? ⟨w.heap.size, 2, none⟩ = some (.int .i64 0) := (b2.2 2 _ rfl).1
  have fa3_2 : w2.frozen? ⟨w.heap.size, 2, none⟩ = false := (b2.2 2 _ rfl).2
  have ca3_3 : w2.cell? ⟨w.heap.size, 3, none⟩ = some (.int .i64 0) := (b2.2 3 _ rfl).1
  have fa3_3 : w2.frozen? ⟨w.heap.size, 3, none⟩ = false := (b2.2 3 _ rfl).2
  replace f := f.setNew (p := ⟨w.heap.size, 0, none⟩) (by show _ ≤ w.heap.size; omega) (.int .i64 a)
  replace hc := hc.fr (fr_one (p := w.heap.size) (i := 0) (.int .i64 a)) (by omega)
  replace b2 : Bl (w2.setCell ⟨w.heap.size, 0, none⟩ (.int .i64 a)) w.heap.size [.int .i64 a, .int .i64 0, .int .i64 0, .int .i64 0] := b2.set 0 (.int .i64 a)
  replace f := f.setNew (p := ⟨w.heap.size, 1, none⟩) (by show _ ≤ w.heap.size; omega) (.int .i64 b)
  replace hc := hc.fr (fr_one (p := w.heap.size) (i := 1) (.int .i64 b)) (by omega)
  replace b2 : Bl ((w2.setCell ⟨w.heap.size, 0, none⟩ (.int .i64 a)).setCell ⟨w.heap.size, 1, none⟩ (.int .i64 b)) w.heap.size [.int .i64 a, .int .i64 b, .int .i64 0, .int .i64 0] := b2.set 1 (.int .i64 b)
  replace f := f.setNew (p := ⟨w.heap.size, 2, none⟩) (by show _ ≤ w.heap.size; omega) (.int .i64 c)
  replace hc := hc.fr (fr_one (p := w.heap.size) (i := 2) (.int .i64 c)) (by omega)
  replace b2 : Bl (((w2.setCell ⟨w.heap.size, 0, none⟩ (.int .i64 a)).setCell ⟨w.heap.size, 1, none⟩ (.int .i64 b)).setCell ⟨w.heap.size, 2, none⟩ (.int .i64 c)) w.heap.size [.int .i64 a, .int .i64 b, .int .i64 c, .int .i64 0] := b2.set 2 (.int .i64 c)
  replace f := f.setNew (p := ⟨w.heap.size, 3, none⟩) (by show _ ≤ w.heap.size; omega) (.int .i64 d)
  replace hc := hc.fr (fr_one (p := w.heap.size) (i := 3) (.int .i64 d)) (by omega)
  replace b2 : Bl ((((w2.setCell ⟨w.heap.size, 0, none⟩ (.int .i64 a)).setCell ⟨w.heap.size, 1, none⟩ (.int .i64 b)).setCell ⟨w.heap.size, 2, none⟩ (.int .i64 c)).setCell ⟨w.heap.size, 3, none⟩ (.int .i64 d)) w.heap.size [.int .i64 a, .int .i64 b, .int .i64 c, .int .i64 d] := b2.set 3 (.int .i64 d)
  have HC9 := hid hc
  have HF9 := hid f
  clear hc f
  go_wp2_with fail
  clear ca3_0 fa3_0 ca3_1 fa3_1 ca3_2 fa3_2 ca3_3 fa3_3
  have ca0_0 : ((((w2.setCell ⟨w.heap.size, 0, none⟩ (.int .i64 a)).setCell ⟨w.heap.size, 1, none⟩ (.int .i64 b)).setCell ⟨w.heap.size, 2, none⟩ (.int .i64 c)).setCell ⟨w.heap.size, 3, none⟩ (.int .i64 d)).cell? ⟨w.heap.size, 0, none⟩ = some (.int .i64 a) := (b2.2 0 _ rfl).1
  have ca0_1 : ((((w2.setCell ⟨w.heap.size, 0, none⟩ (.int .i64 a)).setCell ⟨w.heap.size, 1, none⟩ (.int .i64 b)).setCell ⟨w.heap.size, 2, none⟩ (.int .i64 c)).setCell ⟨w.heap.size, 3, none⟩ (.int .i64 d)).cell? ⟨w.heap.size, 1, none⟩ = some (.int .i64 b) := (b2.2 1 _ rfl).1
  have ca0_2 : ((((w2.setCell ⟨w.heap.size, 0, none⟩ (.int .i64 a)).setCell ⟨w.heap.size, 1, none⟩ (.int .i64 b)).setCell ⟨w.heap.size, 2, none⟩ (.int .i64 c)).setCell ⟨w.heap.size, 3, none⟩ (.int .i64 d)).cell? ⟨w.heap.size, 2, none⟩ = some (.int .i64 c) := (b2.2 2 _ rfl).1
  have ca0_3 : ((((w2.setCell ⟨w.heap.size, 0, none⟩ (.int .i64 a)).setCell ⟨w.heap.size, 1, none⟩ (.int .i64 b)).setCell ⟨w.heap.size, 2, none⟩ (.int .i64 c)).setCell ⟨w.heap.size, 3, none⟩ (.int .i64 d)).cell? ⟨w.heap.size, 3, none⟩ = some (.int .i64 d) := (b2.2 3 _ rfl).1
  try simp only [Exit.inBlock, Exit.then]
  exact bodyPost_ret (v := .agg #[.int .i64 a, .int .i64 b, .int .i64 c, .int .i64 d]) (by simp [results, Tryz.results63, go_sem, ca0_0, ca0_1, ca0_2, ca0_3]) rfl ⟨_, _, _, _, rfl, HC9.out.mono (by omega), HF9.out⟩
end Go.Proofs.YtohjkpopbmmliaaGreat
namespace Go.Proofs.YtohjkpopbmmliaaGreat
open Go.RowKit
set_option linter.unusedVariables false
set_option linter.unusedSimpArgs false
theorem Has.fr {w w' : World} {B e size n l u : Nat} {v : Value} {cs : List Value} (h : Has w B e size v n cs) (f : Fr l u w w') (ho : u ≤ B) : Has w' B e size v n cs := by
  obtain ⟨h1, h2⟩ := h
  refine ⟨h1, ?_⟩
  rcases h2 with h2 | ⟨g, cap, cur, hv, hg, hh, rest⟩
  · exact .inl h2
  · exact .inr ⟨g, cap, cur, hv, hg, (f.block g (Array.getElem?_eq_some_iff.1 hh).1 (by omega)).trans hh, rest⟩
theorem Fr.below {lo hi B : Nat} {a w w' : World} (h : Fr lo hi a w) (k : Below B w w') (hB : a.heap.size ≤ B) : Fr lo hi a w' :=
  ⟨k.os.trans h.os, k.tape.trans h.tape, k.output.trans h.output, Nat.le_trans h.size k.size, fun i hi ho => (k.block i (by omega)).trans (h.block i hi ho)⟩
theorem Cur.below {w w' : World} {g B : Nat} {T : Int} (h : Cur w g T) (k : Below B w w') (hg : g < B) : Cur w' g T := by
  obtain ⟨A, n, c, t, s, h0, h1, h2, h3, h4, h5, h6, h7⟩ := h
  have e := k.block g hg
  refine ⟨A, n, c, t, s, ⟨h0.1, Nat.le_trans h0.2.1 k.size, fun hn => ?_⟩, (World.cell?_of_block (w := w) e).trans h1, (World.cell?_of_block (w := w) e).trans h2, (World.cell?_of_block (w := w) e).trans h3, (World.frozen?_of_block (w := w) e).trans h4, (World.frozen?_of_block (w := w) e).trans h5, h6, h7⟩
  obtain ⟨b, off, eA, hb, hc⟩ := h0.2.2 hn
  refine ⟨b, off, eA, hb, fun j hj => ?_⟩
  obtain ⟨x, x0, x1, hx⟩ := hc j hj
  exact ⟨x, x0, x1, (World.cell?_of_block (w := w) (k.block b (by omega))).trans hx⟩
/-- An owned row of ints that is not empty: its block. -/
theorem Has.block {w : World} {B n c : Nat} {A : Option Addr} {xs : List Int} (h : Has w B 3 1 (.slice A n c) n (xs.map (Value.int .i64))) (hn : 0 < n) (hs : n ≤ 67108864) :
    ∃ g, A = some ⟨g, 0, none⟩ ∧ B ≤ g ∧ Mine w g (g + 1) A n xs := by
  have hm := Mine.of_own h hs
  obtain ⟨h1, h2⟩ := h
  have hl : xs.length = n := by simpa using h1
  rcases h2 with ⟨h2, rfl⟩ | ⟨g, cap, cur, hv, hg, hh, _⟩
  · simp at h1; omega
  · have hA : A = some ⟨g, 0, none⟩ := by injection hv
    subst hA
    refine ⟨g, rfl, hg, ⟨hm.1.1, hm.1.2.1, (Array.getElem?_eq_some_iff.1 hh).1, fun h0 => ?_⟩, hm.2⟩
    obtain ⟨b, off, e, hl', hb', hc⟩ := hm.1.2.2.2 h0
    obtain ⟨rfl, rfl⟩ : g = b ∧ 0 = off := by simpa using e
    exact ⟨g, 0, rfl, Nat.le_refl _, Nat.lt_succ_self _, hc⟩
end Go.Proofs.YtohjkpopbmmliaaGreat
namespace Go.Proofs.YtohjkpopbmmliaaGreat
open Go.RowKit Go.Sort Go.Deep
set_option linter.unusedVariables false
set_option linter.unusedSimpArgs false
structure GrowR {α : Type} (sz : Nat) (z : α) (R : RowP α) (w : World) (m B E : Nat) (v : Value) (cs : List Value) (L U : Nat → Nat) (l : List α) : Prop where
  has : Has w B E sz v l.length cs
  mB : m ≤ B
  iv : ∀ j, j < l.length → m ≤ L j ∧ U j ≤ w.heap.size ∧ ∀ g, v.ownBlock = some g → g < L j ∨ U j ≤ g
  row : ∀ j, j < l.length → ∃ u : Nat → Value, (∀ i, i < sz → cs[j * sz + i]? = some (u i)) ∧ R w (L j) (U j) u (l.getD j z)
section
variable {α : Type} {sz : Nat} {z : α} {R : RowP α} {w w1 : World} {m B E : Nat} {v : Value} {cs : List Value} {L U : Nat → Nat} {l : List α}
theorem GrowR.nil (w : World) (m B E : Nat) (h : m ≤ B) : GrowR sz z R w m B E (.slice none 0 0) [] (fun _ => 0) (fun _ => 0) [] :=
  ⟨World.ownsRow_nil _ _ _ _, h, fun j h => absurd h (by simp), fun j h => absurd h (by simp)⟩
theorem GrowR.fr (ok : RwOk R) (h : GrowR sz z R w m B E v cs L U l) {x y : Nat} (f : Fr x y w w1) (hy : y ≤ m) : GrowR sz z R w1 m B E v cs L U l := by
  have hs := f.size
  refine ⟨⟨h.has.1, ?_⟩, h.mB, fun j hj => by have := h.iv j hj; exact ⟨this.1, by omega, this.2.2⟩, fun j hj => ?_⟩
  · rcases h.has.2 with h3 | ⟨g', cap, cur, hv, hb, hh, rest⟩
    · exact .inl h3
    · have hlt := (h.has.lt g' (by rw [hv]; rfl)).2
      exact .inr ⟨g', cap, cur, hv, hb, (f.block g' hlt (by have := h.mB; omega)).trans hh, rest⟩
  · obtain ⟨u, h1, h2⟩ := h.row j hj
    have hi := h.iv j hj
    exact ⟨u, h1, ok _ _ _ _ _ _ h2 (SmB.of_fr f hi.2.1 (by omega))⟩
theorem GrowR.keeps (ok : RwOk R) (h : GrowR sz z R w m B E v cs L U l) (k : Keeps w w1) : GrowR sz z R w1 m B E v cs L U l := h.fr ok (Fr.of_keeps k 0 0) (Nat.zero_le _)
theorem GrowR.lt (h : GrowR sz z R w m B E v cs L U l) : ∀ g, v.ownBlock = some g → B ≤ g ∧ g < w.heap.size := h.has.lt
/-- One row more. -/
theorem GrowR.snoc (ok : RwOk R) (h : GrowR sz z R w m B E v cs L U l) {v' : Value} {new : List Value} {a : α} {x y : Nat} (hn : new.length = sz) (hh : Has w1 B E sz v' (l.length + 1) (cs ++ new)) (hg : w.grownBy w1 v.ownBlock)
    (ho : v'.ownBlock = v.ownBlock ∨ v'.ownBlock = some (w.heap.size + 1)) (hx : m ≤ x) (hy : y ≤ w.heap.size) (hv : ∀ g, v.ownBlock = some g → g < x ∨ y ≤ g) (hr : R w x y (fun i => new.getD i undef) a) :
    GrowR sz z R w1 m B E v' (cs ++ new) (fun j => if j < l.length then L j else x) (fun j => if j < l.length then U j else y) (l ++ [a]) := by
  have hcl : cs.length = l.length * sz := h.has.1
  have own : ∀ lo hi, hi ≤ w.heap.size → (∀ g, v.ownBlock = some g → g < lo ∨ hi ≤ g) → SmB w w1 lo hi := fun lo hi h1 h2 => ⟨hg.size, fun g g1 g2 => hg.block g (by omega) (fun e => by have := h2 g e.symm; omega)⟩
  have new' : ∀ lo hi, hi ≤ w.heap.size → (∀ g, v.ownBlock = some g → g < lo ∨ hi ≤ g) → ∀ g, v'.ownBlock = some g → g < lo ∨ hi ≤ g := fun lo hi h1 h2 g e => by
    rcases ho with q | q
    · exact h2 g (q ▸ e)
    · rw [q] at e; injection e with e; omega
  refine ⟨by rw [List.length_append]; exact hh, h.mB, fun j hj => ?_, fun j hj => ?_⟩
  · rw [List.length_append, List.length_singleton] at hj
    have hs := hg.size
    by_cases e : j < l.length
    · have q := h.iv j e
      try dsimp only
      rw [if_pos e, if_pos e]; exact ⟨q.1, by omega, new' _ _ q.2.1 q.2.2⟩
    · try dsimp only
      rw [if_neg e, if_neg e]; exact ⟨hx, by omega, new' _ _ hy hv⟩
  · rw [List.length_append, List.length_singleton] at hj
    try dsimp only
    by_cases e : j < l.length
    · obtain ⟨u, h1, h2⟩ := h.row j e
      have q := h.iv j e
      have hm : (j + 1) * sz ≤ l.length * sz := Nat.mul_le_mul_right _ e
      rw [Nat.succ_mul] at hm
      rw [if_pos e, if_pos e]
      refine ⟨u, fun i hi => ?_, ?_⟩
      · rw [List.getElem?_append_left (by omega)]; exact h1 i hi
      · rw [show (l ++ [a]).getD j z = l.getD j z by simp only [List.getD]; rw [List.getElem?_append_left e]]
        exact ok _ _ _ _ _ _ h2 (own _ _ q.2.1 q.2.2)
    · obtain rfl : j = l.length := by omega
      rw [if_neg e, if_neg e]
      refine ⟨fun i => new.getD i undef, fun i hi => ?_, ?_⟩
      · rw [List.getElem?_append_right (by omega), hcl, show l.length * sz + i - l.length * sz = i by omega]
        simp [List.getD, show i < new.length by omega]
      · rw [show (l ++ [a]).getD l.length z = a by simp [List.getD]]
        exact ok _ _ _ _ _ _ hr (own _ _ hy hv)
/-- What was gathered can be read: its rows. -/
theorem GrowR.read (h : GrowR sz z R w m B E v cs L U l) : ∃ A c, v = .slice A l.length c ∧ l.length ≤ c ∧ ∀ j, j < l.length → ∃ b, A = some ⟨b, 0, none⟩ ∧ B ≤ b ∧ b < w.heap.size ∧ (m ≤ L j ∧ U j ≤ w.heap.size) ∧ ∃ u : Nat → Value, (∀ i, i < sz → w.cell? ⟨b, j * sz + i, none⟩ = some (u i) ∧ w.frozen? ⟨b, j * sz + i, none⟩ = false) ∧ R w (L j) (U j) u (l.getD j z) := by
  rcases h.has.2 with ⟨e, h3⟩ | ⟨g, cap, cur, hv, hb, hg, hcap, hmax, hsz, htk⟩
  · subst e
    exact ⟨none, 0, by rw [h3], by omega, fun j hj => absurd hj (by omega)⟩
  · refine ⟨_, _, hv, hcap, fun j hj => ⟨g, rfl, hb, (h.has.lt g (by rw [hv]; rfl)).2, ⟨(h.iv j hj).1, (h.iv j hj).2.1⟩, ?_⟩⟩
    obtain ⟨u, q1, q2⟩ := h.row j hj
    refine ⟨u, fun i hi => ⟨?_, ?_⟩, q2⟩
    · have := h.has.cells (g := g) (by rw [hv]; rfl) _ _ (q1 i hi)
      rwa [Addr.add_lit, Nat.zero_add] at this
    · unfold World.frozen?
      simp [hg]
end
section
variable {W0 : World} {ops : Array Oper} {rest : List Oper} {o : Oper} {a : Act} {K : Act → World → Prop} {Q : Exit → Act → World → Prop} {E' : Prop} {α : Type} {sz : Nat} {z a0 : α} {Rw : RowP α} {m B E Ty x y yb : Nat} {zr v : Value} {cs new : List Value} {L U : Nat → Nat} {l : List α}
theorem row_runR (hinfo : (Tryz.prog.info? E).map (fun i => (i.zero, i.size, i.bytes)) = some (some zr, sz, yb)) (hzs : zr.cells.size = sz) (hsz : 0 < sz) (hyb : yb ≤ 1000)
    (ok : RwOk Rw) (hG : GrowR sz z Rw W0 m B E v cs L U l) (hn : l.length ≤ 67108864) (hB : B ≤ W0.heap.size) (hnew : new.length = sz) (h1 : ∀ y ∈ new, y.oneCell' = true)
    (hx : m ≤ x) (hy : y ≤ W0.heap.size) (hv : ∀ g, v.ownBlock = some g → g < x ∨ y ≤ g) (hr : Rw W0 x y (fun i => new.getD i undef) a0) (ty : TypeId) (ht : Tryz.prog.underlying Ty = some (.slice E)) :
    ∃ v' w' cs' L' U', (Builtin.append_ #[Ty, Ty] ty #[v, .slice (some ⟨W0.heap.size, 0, none⟩) 1 1]).run Tryz.prog (W0.alloc (.cells new.toArray E)) = .ok v' w' ∧ GrowR sz z Rw w' m B E v' cs' L' U' (l ++ [a0]) ∧ W0.grownBy w' v.ownBlock ∧ (v'.ownBlock = v.ownBlock ∨ v'.ownBlock = some (W0.heap.size + 1)) := by
  obtain ⟨i, hi, hz0, hz1, hz2⟩ := info_parts hinfo
  have hbytes : (l.length + 1) * yb ≤ 140737488355328 := Nat.le_trans (Nat.mul_le_mul (show l.length + 1 ≤ 67108865 by omega) hyb) (by decide)
  obtain ⟨v', w', hq, h2, h3, _, h5⟩ := run_append_own_at (P := Tryz.prog) (W0.alloc (.cells new.toArray E)) B Ty ty E i zr sz yb ht hi hz0 hz1 hz2 hzs hsz v l.length cs (hG.has.alloc _) ⟨W0.heap.size, 0, none⟩ 1 1 new (by rw [hnew, Nat.one_mul]) (fun j u hu => by rw [Addr.add_lit, Nat.zero_add, cell_of_row _ _ _ _ _ _ (heap_alloc_new W0 _)]; simpa using hu) h1 (by unfold maxLen; omega) hbytes (by simp; omega)
  have hg : W0.grownBy w' v.ownBlock := ⟨h3.os, h3.tape, h3.output, by have := h3.size; simp at this; omega, fun k hk hne => by rw [h3.block k (by simp; omega) hne]; exact heap_alloc_old W0 _ hk⟩
  exact ⟨v', w', _, _, _, hq, hG.snoc ok hnew h2 hg (by simpa using h5) hx hy hv hr, hg, by simpa using h5⟩
/-- A row more is appended, in a region that draws its order. -/
theorem step_rowR (hinfo : (Tryz.prog.info? E).map (fun i => (i.zero, i.size, i.bytes)) = some (some zr, sz, yb)) (hzs : zr.cells.size = sz) (hsz : 0 < sz) (hyb : yb ≤ 1000)
    (ok : RwOk Rw) (hG : GrowR sz z Rw W0 m B E v cs L U l) (hn : l.length ≤ 67108864) (hB : B ≤ W0.heap.size) (hnew : new.length = sz) (h1 : ∀ y ∈ new, y.oneCell' = true)
    (hx : m ≤ x) (hy : y ≤ W0.heap.size) (hv : ∀ g, v.ownBlock = some g → g < x ∨ y ≤ g) (hr : Rw W0 x y (fun i => new.getD i undef) a0)
    (s x9 : Operand) (hgd : o.guard = none) (ho : o.op = .call { callee := .builtin .append, args := #[s, x9], argTypes := #[Ty, Ty] }) (ht : Tryz.prog.underlying Ty = some (.slice E))
    (hs : a.eval s = v) (hx9 : a.eval x9 = .slice (some ⟨W0.heap.size, 0, none⟩) 1 1)
    (h : ∀ v' w' cs' L' U', GrowR sz z Rw w' m B E v' cs' L' U' (l ++ [a0]) → W0.grownBy w' v.ownBlock → K (a.put o.dst v') w') :
    if Region.wanted o (yielded ops a.tmps) = true then Oper.wp Tryz.prog o a (W0.alloc (.cells new.toArray E)) K Q else E' := by
  have hw : Region.wanted o (yielded ops a.tmps) = true := by simp [Region.wanted, hgd]
  rw [if_pos hw]
  obtain ⟨v', w', cs', L', U', hq, h2, h3, h4⟩ := row_runR hinfo hzs hsz hyb ok hG hn hB hnew h1 hx hy hv hr o.type ht
  unfold Oper.wp
  simp [execOp, ho, resolve, invoke, builtin, hs, hx9, hq, Result.andThen]
  exact h v' w' _ _ _ h2 h3
/-- A row more is appended. -/
theorem append_rowR (hinfo : (Tryz.prog.info? E).map (fun i => (i.zero, i.size, i.bytes)) = some (some zr, sz, yb)) (hzs : zr.cells.size = sz) (hsz : 0 < sz) (hyb : yb ≤ 1000)
    (ok : RwOk Rw) (hG : GrowR sz z Rw W0 m B E v cs L U l) (hn : l.length ≤ 67108864) (hB : B ≤ W0.heap.size) (hnew : new.length = sz) (h1 : ∀ y ∈ new, y.oneCell' = true)
    (hx : m ≤ x) (hy : y ≤ W0.heap.size) (hv : ∀ g, v.ownBlock = some g → g < x ∨ y ≤ g) (hr : Rw W0 x y (fun i => new.getD i undef) a0)
    (s x9 : Operand) (hgd : o.guard = none) (ho : o.op = .call { callee := .builtin .append, args := #[s, x9], argTypes := #[Ty, Ty] }) (ht : Tryz.prog.underlying Ty = some (.slice E))
    (hs : a.eval s = v) (hx9 : a.eval x9 = .slice (some ⟨W0.heap.size, 0, none⟩) 1 1)
    (h : ∀ v' w' cs' L' U', GrowR sz z Rw w' m B E v' cs' L' U' (l ++ [a0]) → W0.grownBy w' v.ownBlock → wpList Tryz.prog ops Q rest (a.put o.dst v') w') :
    wpList Tryz.prog ops Q (o :: rest) a (W0.alloc (.cells new.toArray E)) := by
  refine wpList_plain hgd fun K hK => ?_
  obtain ⟨v', w', cs', L', U', hq, h2, h3, h4⟩ := row_runR hinfo hzs hsz hyb ok hG hn hB hnew h1 hx hy hv hr o.type ht
  unfold Oper.wp execOp
  simp only [ho, resolve, invoke, builtin, Sem.run_bind, Sem.run_pure, Result.andThen_ok, List.map_toArray, List.map_cons, List.map_nil, hs, hx9, hq]
  exact hK _ _ (h v' w' _ _ _ h2 h3)
/-- A row more is appended; where it lies, in a region that draws its order. -/
theorem step_rowB (hinfo : (Tryz.prog.info? E).map (fun i => (i.zero, i.size, i.bytes)) = some (some zr, sz, yb)) (hzs : zr.cells.size = sz) (hsz : 0 < sz) (hyb : yb ≤ 1000)
    (ok : RwOk Rw) (hG : GrowR sz z Rw W0 m B E v cs L U l) (hn : l.length ≤ 67108864) (hB : B ≤ W0.heap.size) (hnew : new.length = sz) (h1 : ∀ y ∈ new, y.oneCell' = true)
    (hx : m ≤ x) (hy : y ≤ W0.heap.size) (hv : ∀ g, v.ownBlock = some g → g < x ∨ y ≤ g) (hr : Rw W0 x y (fun i => new.getD i undef) a0)
    (s x9 : Operand) (hgd : o.guard = none) (ho : o.op = .call { callee := .builtin .append, args := #[s, x9], argTypes := #[Ty, Ty] }) (ht : Tryz.prog.underlying Ty = some (.slice E))
    (hs : a.eval s = v) (hx9 : a.eval x9 = .slice (some ⟨W0.heap.size, 0, none⟩) 1 1)
    (h : ∀ v' w' cs' L' U', GrowR sz z Rw w' m B E v' cs' L' U' (l ++ [a0]) → W0.grownBy w' v.ownBlock → (v'.ownBlock = v.ownBlock ∨ v'.ownBlock = some (W0.heap.size + 1)) → K (a.put o.dst v') w') :
    if Region.wanted o (yielded ops a.tmps) = true then Oper.wp Tryz.prog o a (W0.alloc (.cells new.toArray E)) K Q else E' := by
  have hw : Region.wanted o (yielded ops a.tmps) = true := by simp [Region.wanted, hgd]
  rw [if_pos hw]
  obtain ⟨v', w', cs', L', U', hq, h2, h3, h4⟩ := row_runR hinfo hzs hsz hyb ok hG hn hB hnew h1 hx hy hv hr o.type ht
  unfold Oper.wp
  simp [execOp, ho, resolve, invoke, builtin, hs, hx9, hq, Result.andThen]
  exact h v' w' _ _ _ h2 h3 h4
/-- A row more is appended; where it lies. -/
theorem append_rowB (hinfo : (Tryz.prog.info? E).map (fun i => (i.zero, i.size, i.bytes)) = some (some zr, sz, yb)) (hzs : zr.cells.size = sz) (hsz : 0 < sz) (hyb : yb ≤ 1000)
    (ok : RwOk Rw) (hG : GrowR sz z Rw W0 m B E v cs L U l) (hn : l.length ≤ 67108864) (hB : B ≤ W0.heap.size) (hnew : new.length = sz) (h1 : ∀ y ∈ new, y.oneCell' = true)
    (hx : m ≤ x) (hy : y ≤ W0.heap.size) (hv : ∀ g, v.ownBlock = some g → g < x ∨ y ≤ g) (hr : Rw W0 x y (fun i => new.getD i undef) a0)
    (s x9 : Operand) (hgd : o.guard = none) (ho : o.op = .call { callee := .builtin .append, args := #[s, x9], argTypes := #[Ty, Ty] }) (ht : Tryz.prog.underlying Ty = some (.slice E))
    (hs : a.eval s = v) (hx9 : a.eval x9 = .slice (some ⟨W0.heap.size, 0, none⟩) 1 1)
    (h : ∀ v' w' cs' L' U', GrowR sz z Rw w' m B E v' cs' L' U' (l ++ [a0]) → W0.grownBy w' v.ownBlock → (v'.ownBlock = v.ownBlock ∨ v'.ownBlock = some (W0.heap.size + 1)) → wpList Tryz.prog ops Q rest (a.put o.dst v') w') :
    wpList Tryz.prog ops Q (o :: rest) a (W0.alloc (.cells new.toArray E)) := by
  refine wpList_plain hgd fun K hK => ?_
  obtain ⟨v', w', cs', L', U', hq, h2, h3, h4⟩ := row_runR hinfo hzs hsz hyb ok hG hn hB hnew h1 hx hy hv hr o.type ht
  unfold Oper.wp execOp
  simp only [ho, resolve, invoke, builtin, Sem.run_bind, Sem.run_pure, Result.andThen_ok, List.map_toArray, List.map_cons, List.map_nil, hs, hx9, hq]
  exact hK _ _ (h v' w' _ _ _ h2 h3 h4)
end
/-- An int. -/
def RwdI : RowP Int := fun _ _ _ u x => u 0 = .int .i64 x
theorem RwdI.ok : RwOk RwdI := fun _ _ _ _ _ _ h _ => h
/-- A variable. -/
def RwdV : RowP VV := fun _ _ _ u x => u 0 = .string x.1 ∧ u 1 = .int .i64 x.2
theorem RwdV.ok : RwOk RwdV := fun _ _ _ _ _ _ h _ => h
/-- A row whose cells do not matter. -/
def RwdN : RowP Unit := fun _ _ _ _ _ => True
theorem RwdN.ok : RwOk RwdN := fun _ _ _ _ _ _ h _ => h
/-- A table that can be read. -/
def RwdT : RowP TT := fun w lo hi u t => ∃ V cv H ch, u 0 = .int .i64 t.1 ∧ u 1 = .slice V t.2.1.length cv ∧ u 2 = .slice H t.2.2.1.length ch ∧ u 3 = .int .i64 t.2.2.2 ∧ Ints w lo hi V t.2.1.length t.2.1 ∧ Ints w lo hi H t.2.2.1.length t.2.2.1
theorem RwdT.ok : RwOk RwdT := fun w w' lo hi u t h s => by obtain ⟨V, cv, H, ch, h0, h1, h2, h3, h4, h5⟩ := h; exact ⟨V, cv, H, ch, h0, h1, h2, h3, h4.sm s, h5.sm s⟩
section
variable {w : World} {m B E : Nat} {v : Value} {cs : List Value} {L U : Nat → Nat}
theorem GrowR.ints {xs : List Int} (h : GrowR 1 0 RwdI w m B E v cs L U xs) (hn : xs.length ≤ 67108864) (hB : B ≤ w.heap.size) : ∃ A c, v = .slice A xs.length c ∧ xs.length ≤ c ∧ Ints w B w.heap.size A xs.length xs := by
  obtain ⟨A, c, hv, hc, hr⟩ := h.read
  refine ⟨A, c, hv, hc, rfl, hn, Nat.le_refl _, fun h0 => ?_⟩
  obtain ⟨b, e, hb, hlt, _⟩ := hr 0 h0
  refine ⟨b, 0, e, hb, hlt, fun j hj => ?_⟩
  obtain ⟨b', e', _, _, _, u, hu, hx⟩ := hr j hj
  rw [e] at e'; injection e' with e'; injection e' with e'; subst e'
  have := (hu 0 (by omega)).1
  rw [hx] at this
  simpa using this
theorem GrowR.vars {l : List VV} (h : GrowR 2 v0 RwdV w m B E v cs L U l) (hn : l.length ≤ 67108864) (hB : B ≤ w.heap.size) : ∃ A c, v = .slice A l.length c ∧ l.length ≤ c ∧ Vars w B w.heap.size A l.length l := by
  obtain ⟨A, c, hv, hc, hr⟩ := h.read
  refine ⟨A, c, hv, hc, vrs_len l, hn, Nat.le_refl _, fun h0 => ?_⟩
  obtain ⟨b, e, hb, hlt, _⟩ := hr 0 h0
  refine ⟨b, 0, e, hb, hlt, fun j hj => ?_⟩
  have hq : j / 2 < l.length := by omega
  obtain ⟨b', e', _, _, _, u, hu, hx⟩ := hr (j / 2) hq
  rw [e] at e'; injection e' with e'; injection e' with e'; subst e'
  have hat := vrs_at l (j / 2) hq
  rcases Nat.mod_two_eq_zero_or_one j with q | q
  · have ej : j / 2 * 2 = j := by omega
    have := (hu 0 (by omega)).1
    rw [hx.1, Nat.add_zero, ej] at this
    rw [ej] at hat
    rw [Nat.zero_add, this]
    rw [hat.1]
  · have ej : j / 2 * 2 + 1 = j := by omega
    have := (hu 1 (by omega)).1
    rw [hx.2, ej] at this
    rw [ej] at hat
    rw [Nat.zero_add, this]
    rw [hat.2]
theorem GrowR.tabs {l : List TT} (h : GrowR 4 t0 RwdT w m B E v cs L U l) (hn : l.length ≤ 67108864) (hB : B ≤ w.heap.size) : ∃ A c, v = .slice A l.length c ∧ l.length ≤ c ∧ Tabs true false w m w.heap.size A l.length l := by
  obtain ⟨A, c, hv, hc, hr⟩ := h.read
  have hmB := h.mB
  refine ⟨A, c, hv, hc, ⟨Nat.le_refl _, fun h0 => ?_⟩, rfl, hn, fun j => ?_⟩
  · obtain ⟨b, e, hb, hlt, _⟩ := hr 0 h0
    refine ⟨b, 0, e, by omega, hlt, RgL.of_at _ 0 fun j hj => ?_⟩
    rw [flat_len dT_len] at hj
    have hq : j / 4 < l.length := by omega
    have ej : j / 4 * 4 + j % 4 = j := by omega
    obtain ⟨b', e', _, _, ⟨iv1, iv2⟩, u, hu, V, cv, H, ch, h0', h1, h2, h3, h4, h5⟩ := hr (j / 4) hq
    rw [e] at e'; injection e' with e'; injection e' with e'; subst e'
    have hm := Nat.mod_lt j (show 0 < 4 by omega)
    have h6 := flat_at dT_len (.i 0) t0 l (j / 4) (j % 4) hq hm
    have h7 := hu (j % 4) hm
    rw [ej] at h6 h7
    refine ⟨_, by rw [Nat.zero_add]; exact h7.1, (fun e => by cases e), ?_⟩
    rw [h6]
    have hrg : ∀ i, i < 4 → Rg true false w (L (j / 4)) (U (j / 4)) ((dT (l.getD (j / 4) t0)).getD i (.i 0)) (u i) := by
      intro i hi
      match i, hi with
      | 0, _ => rw [h0']; exact Rg.of_i _
      | 1, _ => rw [h1]; exact h4.rgs.rg
      | 2, _ => rw [h2]; exact h5.rgs.rg
      | 3, _ => rw [h3]; exact Rg.of_i _
    exact Rg.widen iv1 iv2 (Nat.le_refl _) _ _ (hrg _ hm)
  · rcases Nat.lt_or_ge j l.length with hj | hj
    · obtain ⟨_, _, _, _, _, u, hu, V, cv, H, ch, h0', h1, h2, h3, h4, h5⟩ := hr j hj
      exact ⟨h4.le, h5.le⟩
    · rw [getD_out hj]; simp [smT, t0]
end
end Go.Proofs.YtohjkpopbmmliaaGreat
namespace Go.Proofs.YtohjkpopbmmliaaGreat
open Go.RowKit Go.Sort Go.Deep
set_option linter.unusedVariables false
set_option linter.unusedSimpArgs false
theorem GrowR.below {α : Type} {sz : Nat} {z : α} {R : RowP α} {w w' : World} {m B E : Nat} {v : Value} {cs : List Value} {L U : Nat → Nat} {l : List α} (h : GrowR sz z R w m B E v cs L U l) (hB : B ≤ w.heap.size) (hg : w.grownBy w' v.ownBlock) : Below B w w' := (Below.refl B w).grown hg hB (fun k hk => (h.lt k hk).1)
/-- A schema that was drawn. -/
structure SchD (l : List VV) : Prop where
  len : l.length ≤ 7
  at_ : ∀ j, (l.getD j v0).1.size ≤ 9 ∧ 0 ≤ (l.getD j v0).2 ∧ (l.getD j v0).2 ≤ 9
theorem SchD.names {l : List VV} (h : SchD l) : NamesOk l := fun j => Nat.le_trans (h.at_ j).1 (by unfold maxLen; omega)
/-- What a drawing function that hands back rows leaves. -/
def DrawsL {α : Type} (sz : Nat) (z : α) (R : RowP α) (E : Nat) (P : List α → Prop) (w : World) (g : Nat) (T : Int) (e : Ending) (w' : World) : Prop :=
  ∃ A n c cs L U l, e = .returned (.slice A n c) ∧ GrowR sz z R w' w.heap.size w.heap.size E (.slice A n c) cs L U l ∧ l.length = n ∧ P l ∧ Cur w' g T ∧ Fr g (g + 1) w w'
set_option maxRecDepth 100000 in
set_option maxHeartbeats 6400000 in
theorem values_any {g : Nat} {T : Int} {lo hi q c : Nat} {A : Option Addr} {l : List VV} {w : World} (h : Cur w g T) (hT : T ≤ 400000000000000) (hs : Vars w lo hi A q l) (hgl : g < lo) (hD : SchD l) :
    Calls Tryz.prog 152 #[.pointer (some ⟨g, 0, none⟩), .slice A q c] w (DrawsL 1 0 RwdI 3 (fun xs => xs.length = q) w g (T + 60)) := by
  have HQL := hid (Vars.len hs)
  have HII := hid info_int
  have HD := hid hD
  have hq7 : q ≤ 7 := by have := hD.len; rw [Vars.len hs] at this; exact this
  have lg := h.lt
  go_enter Tryz.func152, Tryz.ntmps152
  have f : Fr g (g + 1) w w := Fr.refl _ _ _
  have hc := h
  go_wp2_with fail
  have F0 := GrowR.nil (sz := 1) (z := (0 : Int)) (R := RwdI) w w.heap.size w.heap.size 3 (Nat.le_refl _)
  go_loopw [5, 10] (fun sv i wr => ∃ (k : Nat) (vq : Value) (cs : List Value) (L U : Nat → Nat) (xs : List Int), vq = sv ∧ i = .int .i64 k ∧ k ≤ q ∧ xs.length = k ∧ GrowR 1 0 RwdI wr w.heap.size w.heap.size 3 vq cs L U xs ∧ Cur wr g (T + 4 * k) ∧ Fr g (g + 1) w wr) (fun _ i _ => q - (intOf i).toNat)
  case atStart => exact ⟨0, _, _, _, _, [], rfl, rfl, Nat.zero_le _, rfl, F0, hc.mono (by omega), f⟩
  clear F0 hc f
  case round =>
    obtain ⟨k, vq, cs, L, U, xs, rfl, rfl, hk, hxl, hF, hc, f⟩ := hrel
    have szr := f.size
    by_cases hlt : k < q
    rotate_left
    · obtain rfl : k = q := by omega
      obtain ⟨A9, c9, e9⟩ := hF.has.form
      rw [hxl] at e9
      subst e9
      have HF := hid hF
      have HXL := hid hxl
      have HC := hid hc
      have Hf := hid f
      clear hF hc f hxl
      go_wp2
      go_ret
      exact ⟨_, _, _, _, _, _, xs, rfl, HF.out, HXL.out, HXL.out, HC.out.mono (by omega), Hf.out⟩
    obtain ⟨b, off, x, y, rfl, _, _, hc0, hc1, hx⟩ := Vars.at_ (hs.fr f (by omega)) hlt
    have hi1 : (k : Int) < (q : Int) := by omega
    have hy : 0 ≤ y ∧ y ≤ 9 := by have := (HD.out.at_ k).2; rw [← hx.out] at this; exact this
    clear hx
    replace f := f.keeps (keeps_alloc wr (.cells #[.string x, .int .i64 y] 126))
    replace hc := hc.keeps (keeps_alloc wr (.cells #[.string x, .int .i64 y] 126))
    replace hF := hF.keeps RwdI.ok (keeps_alloc wr (.cells #[.string x, .int .i64 y] 126))
    have b7 : Bl (wr.alloc (.cells #[.string x, .int .i64 y] 126)) wr.heap.size [.string x, .int .i64 y] := Bl.new' (by simp) (by simp)
    have ca1_0 : (wr.alloc (.cells #[.string x, .int .i64 y] 126)).cell? ⟨wr.heap.size, 0, none⟩ = some (.string x) := (b7.2 0 _ rfl).1
    have ca1_1 : (wr.alloc (.cells #[.string x, .int .i64 y] 126)).cell? ⟨wr.heap.size, 1, none⟩ = some (.int .i64 y) := (b7.2 1 _ rfl).1
    go_wp2_with fail
    clear ca1_0 ca1_1
    clear hc0 hc1
    refine (pick_any hc (by omega) (by omega)).mono ?_
    rintro e w2 ⟨x9, rfl, hx9, hn, ff⟩
    replace f := f.trans ff
    clear hc
    have hc := hn
    replace hF := hF.fr RwdI.ok ff (by omega)
    replace b7 := b7.fr ff (by first | omega | (simp; omega))
    clear ff hn
    have sz2 := f.size
    have lt2 := b7.lt
    clear b7 lt2
    have hcB := hc
    have fB := f
    go_wp2_with (at_builtin; refine append_rowR (a0 := x9) (x := w.heap.size) (y := w.heap.size) (new := [.int .i64 x9]) HII.out rfl (by decide) (by decide) RwdI.ok hF (by omega) (by omega) rfl (fun y hy => by simp at hy; first | (subst hy; rfl) | (rcases hy with rfl | rfl; all_goals rfl) | (rcases hy with rfl | rfl | rfl | rfl; all_goals rfl) | (rcases hy with rfl | rfl | rfl | rfl | rfl | rfl; all_goals rfl)) (by omega) (by omega) (fun g e => Nat.lt_or_ge _ _) rfl _ _ rfl rfl Tryz.underlying24 rfl rfl ?_; intro v9 w9 cs9 L9 U9 hF9 hg9)
    have KB := hid (hF.below (by omega) hg9)
    have HF9 := hid hF9
    have f9 := hid (fB.below KB.out (by omega))
    have hc9 := hid (hcB.below KB.out (by omega))
    clear hF hg9 hF9 fB hcB hc f
    go_wp2_with fail
    go_roundw
    case rel => exact ⟨k + 1, _, _, _, _, _, rfl, by go_num, hlt, by rw [List.length_append, hxl]; rfl, HF9.out, hc9.out.mono (by omega), f9.out⟩
    case measure => simp [intOf]; omega
set_option maxRecDepth 100000 in
set_option maxHeartbeats 6400000 in
theorem where_any {g : Nat} {T : Int} {lo hi q c : Nat} {A : Option Addr} {l : List VV} {w : World} (h : Cur w g T) (hT : T ≤ 400000000000000) (hs : Vars w lo hi A q l) (hgl : g < lo) (hD : SchD l) :
    Calls Tryz.prog 173 #[.pointer (some ⟨g, 0, none⟩), .slice A q c] w (DrawsL 1 0 RwdI 3 (fun xs => xs.length = q) w g (T + 60)) := by
  have HQL := hid (Vars.len hs)
  have HII := hid info_int
  have HD := hid hD
  have hq7 : q ≤ 7 := by have := hD.len; rw [Vars.len hs] at this; exact this
  have lg := h.lt
  go_enter Tryz.func173, Tryz.ntmps173
  have f : Fr g (g + 1) w w := Fr.refl _ _ _
  have hc := h
  go_wp2_with fail
  have F0 := GrowR.nil (sz := 1) (z := (0 : Int)) (R := RwdI) w w.heap.size w.heap.size 3 (Nat.le_refl _)
  go_loopw [5, 11] (fun sv i wr => ∃ (k : Nat) (vq : Value) (cs : List Value) (L U : Nat → Nat) (xs : List Int), vq = sv ∧ i = .int .i64 k ∧ k ≤ q ∧ xs.length = k ∧ GrowR 1 0 RwdI wr w.heap.size w.heap.size 3 vq cs L U xs ∧ Cur wr g (T + 4 * k) ∧ Fr g (g + 1) w wr) (fun _ i _ => q - (intOf i).toNat)
  case atStart => exact ⟨0, _, _, _, _, [], rfl, rfl, Nat.zero_le _, rfl, F0, hc.mono (by omega), f⟩
  clear F0 hc f
  case round =>
    obtain ⟨k, vq, cs, L, U, xs, rfl, rfl, hk, hxl, hF, hc, f⟩ := hrel
    have szr := f.size
    by_cases hlt : k < q
    rotate_left
    · obtain rfl : k = q := by omega
      obtain ⟨A9, c9, e9⟩ := hF.has.form
      rw [hxl] at e9
      subst e9
      have HF := hid hF
      have HXL := hid hxl
      have HC := hid hc
      have Hf := hid f
      clear hF hc f hxl
      go_wp2
      go_ret
      exact ⟨_, _, _, _, _, _, xs, rfl, HF.out, HXL.out, HXL.out, HC.out.mono (by omega), Hf.out⟩
    obtain ⟨b, off, x, y, rfl, _, _, hc0, hc1, hx⟩ := Vars.at_ (hs.fr f (by omega)) hlt
    have hi1 : (k : Int) < (q : Int) := by omega
    have hy : 0 ≤ y ∧ y ≤ 9 := by have := (HD.out.at_ k).2; rw [← hx.out] at this; exact this
    clear hx
    replace f := f.keeps (keeps_alloc wr (.cells #[.string x, .int .i64 y] 126))
    replace hc := hc.keeps (keeps_alloc wr (.cells #[.string x, .int .i64 y] 126))
    replace hF := hF.keeps RwdI.ok (keeps_alloc wr (.cells #[.string x, .int .i64 y] 126))
    have b7 : Bl (wr.alloc (.cells #[.string x, .int .i64 y] 126)) wr.heap.size [.string x, .int .i64 y] := Bl.new' (by simp) (by simp)
    have ca1_0 : (wr.alloc (.cells #[.string x, .int .i64 y] 126)).cell? ⟨wr.heap.size, 0, none⟩ = some (.string x) := (b7.2 0 _ rfl).1
    have ca1_1 : (wr.alloc (.cells #[.string x, .int .i64 y] 126)).cell? ⟨wr.heap.size, 1, none⟩ = some (.int .i64 y) := (b7.2 1 _ rfl).1
    go_wp2_with fail
    clear ca1_0 ca1_1
    clear hc0 hc1
    refine (one_any hc (by omega) (by omega)).mono ?_
    rintro e w2 ⟨b9, rfl, hn, ff⟩
    replace f := f.trans ff
    clear hc
    have hc := hn
    replace hF := hF.fr RwdI.ok ff (by omega)
    replace b7 := b7.fr ff (by first | omega | (simp; omega))
    clear ff hn
    have sz2 := f.size
    have lt2 := b7.lt
    cases b9
    · try clear b7
      have hcB := hc
      have fB := f
      go_wp2_with (at_builtin; refine append_rowR (a0 := 0) (x := w.heap.size) (y := w.heap.size) (new := [.int .i64 0]) HII.out rfl (by decide) (by decide) RwdI.ok hF (by omega) (by omega) rfl (fun y hy => by simp at hy; first | (subst hy; rfl) | (rcases hy with rfl | rfl; all_goals rfl) | (rcases hy with rfl | rfl | rfl | rfl; all_goals rfl) | (rcases hy with rfl | rfl | rfl | rfl | rfl | rfl; all_goals rfl)) (by omega) (by omega) (fun g e => Nat.lt_or_ge _ _) rfl _ _ rfl rfl Tryz.underlying24 rfl rfl ?_; intro v9 w9 cs9 L9 U9 hF9 hg9)
      have KB := hid (hF.below (by omega) hg9)
      have HF9 := hid hF9
      have f9 := hid (fB.below KB.out (by omega))
      have hc9 := hid (hcB.below KB.out (by omega))
      clear hF hg9 hF9 fB hcB hc f
      go_wp2_with fail
      go_roundw
      case rel => exact ⟨k + 1, _, _, _, _, _, rfl, by go_num, hlt, by rw [List.length_append, hxl]; rfl, HF9.out, hc9.out.mono (by omega), f9.out⟩
      case measure => simp [intOf]; omega
    have key : y = 0 ∨ y = 1 ∨ y = 2 ∨ y = 3 ∨ y = 4 ∨ y = 5 ∨ y = 6 ∨ y = 7 ∨ y = 8 ∨ y = 9 := by omega
    clear hy
    rcases key with rfl | rfl | rfl | rfl | rfl | rfl | rfl | rfl | rfl | rfl
    all_goals (
      have ca0 := (b7.2 0 _ rfl).1
      have ca1 := (b7.2 1 _ rfl).1
      go_wp2_with fail
      clear ca0 ca1 b7
      refine (pick_any hc (by omega) (by omega)).mono ?_
      rintro e w3 ⟨x9, rfl, hx9, hn, ff⟩
      replace f := f.trans ff
      clear hc
      have hc := hn
      replace hF := hF.fr RwdI.ok ff (by omega)
      clear ff hn
      have sz3 := f.size
      have hx8 : 0 ≤ x9 ∧ x9 ≤ 65536 := by omega
      clear hx9
      try clear b7
      have hcB := hc
      have fB := f
      go_wp2_with (at_builtin; refine append_rowR (a0 := (1 + x9)) (x := w.heap.size) (y := w.heap.size) (new := [.int .i64 (1 + x9)]) HII.out rfl (by decide) (by decide) RwdI.ok hF (by omega) (by omega) rfl (fun y hy => by simp at hy; first | (subst hy; rfl) | (rcases hy with rfl | rfl; all_goals rfl) | (rcases hy with rfl | rfl | rfl | rfl; all_goals rfl) | (rcases hy with rfl | rfl | rfl | rfl | rfl | rfl; all_goals rfl)) (by omega) (by omega) (fun g e => Nat.lt_or_ge _ _) rfl _ _ rfl rfl Tryz.underlying24 rfl rfl ?_; intro v9 w9 cs9 L9 U9 hF9 hg9)
      have KB := hid (hF.below (by omega) hg9)
      have HF9 := hid hF9
      have f9 := hid (fB.below KB.out (by omega))
      have hc9 := hid (hcB.below KB.out (by omega))
      clear hF hg9 hF9 fB hcB hc f
      go_wp2_with fail
      go_roundw
      case rel => exact ⟨k + 1, _, _, _, _, _, rfl, by go_num, hlt, by rw [List.length_append, hxl]; rfl, HF9.out, hc9.out.mono (by omega), f9.out⟩
      case measure => simp [intOf]; omega)
end Go.Proofs.YtohjkpopbmmliaaGreat
