/- What the proof of the statement leans on, part 13: walks of functions and plain lemmas, with no condition. -/
import Derived.Test.YtohjkpopbmmliaaGreatQ11
namespace Go.Proofs.YtohjkpopbmmliaaGreat
open Go.RowKit Go.Sort Go.Deep
set_option linter.unusedVariables false
set_option linter.unusedSimpArgs false
theorem Below.toFr {B : Nat} {w w' : World} (h : Below B w w') : Fr B w'.heap.size w w' := ⟨h.os, h.tape, h.output, h.size, fun k hk ho => h.block k (by have := h.size; omega)⟩
/-- What anySurvey leaves: the data do not matter. -/
def DrawsAs (w : World) (g : Nat) (T : Int) (e : Ending) (w' : World) : Prop :=
  ∃ A N C ps S q cq l D nd cd, e = .returned (.tuple #[.agg #[.slice A N C], .slice S q cq, .slice D nd cd]) ∧ Ints w' (w.heap.size + 1) w'.heap.size A N ps ∧ N ≤ 45 ∧ Vars w' (w.heap.size + 1) w'.heap.size S q l ∧ (q ≤ cq ∧ cq ≤ maxLen) ∧ SchD l ∧ Cur w' g T ∧ Fr g (g + 1) w w'
set_option maxRecDepth 100000 in
set_option maxHeartbeats 12800000 in
theorem anySurvey_any {g : Nat} {T : Int} {w : World} (h : Cur w g T) (hT : T ≤ 90000000000000) :
    Calls Tryz.prog 109 #[.pointer (some ⟨g, 0, none⟩)] w (DrawsAs w g (T + 6000)) := by
  have HIR := hid info_rec9
  have lg := h.lt
  go_enter Tryz.func109, Tryz.ntmps109
  have f : Fr g (g + 1) w w := Fr.refl _ _ _
  have hc := h
  replace f := f.keeps (keeps_alloc w (.cells #[.slice none 0 0] 26))
  replace hc := hc.keeps (keeps_alloc w (.cells #[.slice none 0 0] 26))
  have b2 : Bl (w.alloc (.cells #[.slice none 0 0] 26)) w.heap.size [.slice none 0 0] := Bl.new' (by simp) (by simp)
  go_wp2_with fail
  refine (survey_any hc (by omega)).mono ?_
  rintro e w1 ⟨A1, N1, C1, ps, S1, q, cq, l, D1, nd, cd, cs, L, U, ds, m, rfl, hm1, iG, hN, iS, hcap, hSD, hD, hdl, hd31, hn, ff⟩
  replace f := f.trans ff
  clear hc
  have hc := hn
  replace b2 := b2.fr ff (by first | omega | (simp; omega))
  have sf1 := ff.size
  try simp at sf1
  clear ff hn
  have sz1 := f.size
  have lt1 := b2.lt
  replace hm1 : w.heap.size + 1 ≤ m := by simp at hm1; omega
  have hm2 : m ≤ w1.heap.size := iG.top
  replace iG := iG.widen (lo' := w.heap.size + 1) (by simp) (Nat.le_refl _) hm2
  replace iS := Sl.widen (lo' := w.heap.size + 1) iS (by simp) (Nat.le_refl _) hm2
  have HSD := hid hSD
  have HCAP := hid hcap
  have HDL := hid hD.lt
  clear hSD hcap
  replace f := f.keeps (keeps_alloc w1 (.cells #[.slice A1 N1 C1] 26))
  replace hc := hc.keeps (keeps_alloc w1 (.cells #[.slice A1 N1 C1] 26))
  replace hD := hD.keeps RwdN.ok (keeps_alloc w1 (.cells #[.slice A1 N1 C1] 26))
  replace b2 := b2.keeps (keeps_alloc w1 (.cells #[.slice A1 N1 C1] 26))
  replace iG := iG.keeps (keeps_alloc w1 (.cells #[.slice A1 N1 C1] 26))
  replace iS := iS.keeps (keeps_alloc w1 (.cells #[.slice A1 N1 C1] 26))
  have b5 : Bl (w1.alloc (.cells #[.slice A1 N1 C1] 26)) w1.heap.size [.slice A1 N1 C1] := Bl.new' (by simp) (by simp)
  go_wp2_with fail
  refine (pick_any hc (by omega) (by omega)).mono ?_
  rintro e w2 ⟨v, rfl, hv, hn, ff⟩
  replace f := f.trans ff
  clear hc
  have hc := hn
  replace hD := hD.fr RwdN.ok ff (by omega)
  replace b2 := b2.fr ff (by first | omega | (simp; omega))
  replace b5 := b5.fr ff (by first | omega | (simp; omega))
  replace iG := iG.fr ff (by first | omega | (simp; omega))
  replace iS := iS.fr ff (by first | omega | (simp; omega))
  have sf2 := ff.size
  try simp at sf2
  clear ff hn
  have sz2 := f.size
  have lt2 := b5.lt
  have G5 := hid (show w1.heap.size < w2.heap.size from b5.lt)
  by_cases h0 : v = 0
  · subst h0
    clear hv
    go_wp2_with fail
    refine (anyGeo_any hc (by omega)).mono ?_
    rintro e w3 ⟨A3, N3, C3, qs, rfl, iG3, ⟨hN3, hNC⟩, hn, ff⟩
    replace f := f.trans ff
    clear hc
    have hc := hn
    replace hD := hD.fr RwdN.ok ff (by omega)
    replace b2 := b2.fr ff (by first | omega | (simp; omega))
    replace b5 := b5.fr ff (by first | omega | (simp; omega))
    replace iG := iG.fr ff (by first | omega | (simp; omega))
    replace iS := iS.fr ff (by first | omega | (simp; omega))
    have sf3 := ff.size
    try simp at sf3
    clear ff hn
    have sz3 := f.size
    have lt3 := b5.lt
    clear iG
    have iG := Ints.widen (lo' := w.heap.size + 1) iG3 (by omega) (Nat.le_refl _) (Nat.le_refl _)
    clear iG3
    have ca4_0 : w3.cell? ⟨w.heap.size, 0, none⟩ = some (.slice none 0 0) := (b2.2 0 _ rfl).1
    have fa4_0 : w3.frozen? ⟨w.heap.size, 0, none⟩ = false := (b2.2 0 _ rfl).2
    replace f := f.setNew (p := ⟨w.heap.size, 0, none⟩) (by show _ ≤ w.heap.size; omega) (.slice A3 N3 C3)
    replace hc := hc.fr (fr_one (p := w.heap.size) (i := 0) (.slice A3 N3 C3)) (by omega)
    replace b5 := b5.far (p := ⟨w.heap.size, 0, none⟩) (by show _ ≠ w.heap.size; omega) (.slice A3 N3 C3)
    replace iG := iG.fr (fr_one (p := w.heap.size) (i := 0) (.slice A3 N3 C3)) (by omega)
    replace iS := iS.fr (fr_one (p := w.heap.size) (i := 0) (.slice A3 N3 C3)) (by omega)
    replace b2 : Bl (w3.setCell ⟨w.heap.size, 0, none⟩ (.slice A3 N3 C3)) w.heap.size [.slice A3 N3 C3] := b2.set 0 (.slice A3 N3 C3)
    have HI9 := hid (Ints.widen (lo' := w.heap.size + 1) (hi' := (w3.setCell ⟨w.heap.size, 0, none⟩ (.slice A3 N3 C3)).heap.size) iG (Nat.le_refl _) (by first | (simp [World.setCell]; done) | (simp [World.setCell]; omega)) (Nat.le_refl _))
    have HV9 := hid (Sl.widen (lo' := w.heap.size + 1) (hi' := (w3.setCell ⟨w.heap.size, 0, none⟩ (.slice A3 N3 C3)).heap.size) iS (Nat.le_refl _) (by first | (simp [World.setCell]; done) | (simp [World.setCell]; omega)) (Nat.le_refl _))
    have HC9 := hid hc
    have HF9 := hid f
    clear hc f
    go_wp2_with fail
    clear ca4_0 fa4_0
    have ca0_0 : (w3.setCell ⟨w.heap.size, 0, none⟩ (.slice A3 N3 C3)).cell? ⟨w.heap.size, 0, none⟩ = some (.slice A3 N3 C3) := (b2.2 0 _ rfl).1
    try simp only [Exit.inBlock, Exit.then]
    exact bodyPost_ret (v := .tuple #[.agg #[.slice A3 N3 C3], .slice S1 q cq, .slice D1 nd cd]) (by simp [results, Tryz.results109, go_sem, ca0_0]) rfl ⟨_, _, _, _, _, _, _, _, _, _, _, rfl, HI9.out, by omega, HV9.out, HCAP.out, HSD.out, HC9.out.mono (by omega), HF9.out⟩
  have t0 : (v == 0) = false := by rw [beq_eq_false_iff_ne]; exact h0
  by_cases h1 : v = 1
  · subst h1
    clear hv t0 h0 hD
    have ca3_0 : w2.cell? ⟨w1.heap.size, 0, none⟩ = some (.slice A1 N1 C1) := (b5.2 0 _ rfl).1
    go_wp2_with fail
    clear ca3_0
    have b5D := b5.keeps (keeps_d0 w2)
    have b2D := b2.keeps (keeps_d0 w2)
    have hcD := hc.keeps (keeps_d0 w2)
    have fD := f.keeps (keeps_d0 w2)
    have iGD := iG.keeps (keeps_d0 w2)
    have cD := (b5D.2 0 _ rfl).1
    have sD : w2.drew.heap.size = w2.heap.size := rfl
    clear hc f b5 b2 iG iS
    go_region_held3 (fun w' => w'.cell? ⟨w1.heap.size, 0, none⟩ = some (.slice A1 N1 C1)) (first | exact cD | exact cB | exact cF | go_keep)
      ((first | (go_at_call 151; refine (anySchema_any hcD (by omega)).mono ?_; rintro e wB ⟨A3, n3, c3, cs3, L3, U3, l3, rfl, hS3, hl3, ⟨hA3, h37⟩, hcB, fB⟩; have b5B := b5D.fr fB (by omega); have b2B := b2D.fr fB (by omega); have z1 := (b2B.2 0 _ rfl).1; have z2 := (b2B.2 0 _ rfl).2; have cB := (b5B.2 0 _ rfl).1; have cF := ((b5B.far (p := ⟨w.heap.size, 0, none⟩) (by show w1.heap.size ≠ w.heap.size; omega) (.slice A1 N1 C1)).2 0 _ rfl).1)))
    have sB := fB.size
    have hcp9 := hS3.has
    rw [hl3] at hcp9
    replace hcp9 := hid hcp9.cap_
    obtain ⟨Aq, cq9, eq, hcap, iS⟩ := hS3.vars (by omega) (by omega)
    rw [hl3] at eq iS
    injection eq with eq1 eq9 eq2
    clear eq9 hcap
    subst eq1 eq2
    have HSA := hid (hA3.d (by omega))
    have HF9 := hid ((fD.trans fB).setNew (p := ⟨w.heap.size, 0, none⟩) (Nat.le_refl _) (.slice A1 N1 C1))
    have HC9 := hid (hcB.fr (fr_one (p := w.heap.size) (i := 0) (.slice A1 N1 C1)) (by omega))
    have B2 := b2B.set 0 (.slice A1 N1 C1)
    have HI9 := hid (((iGD.fr fB (by omega)).fr (fr_one (p := w.heap.size) (i := 0) (.slice A1 N1 C1)) (by omega)).widen (lo' := w.heap.size + 1) (hi' := (wB.setCell ⟨w.heap.size, 0, none⟩ (.slice A1 N1 C1)).heap.size) (Nat.le_refl _) (by simp [World.setCell]; omega) (Nat.le_refl _))
    have HV9 := hid (Sl.widen (lo' := w.heap.size + 1) (hi' := (wB.setCell ⟨w.heap.size, 0, none⟩ (.slice A1 N1 C1)).heap.size) (Sl.fr iS (fr_one (p := w.heap.size) (i := 0) (.slice A1 N1 C1)) (by omega)) (by omega) (by simp [World.setCell]) (Nat.le_refl _))
    clear hS3 hA3 hcB fB b5B b2B b5D b2D hcD fD iGD cD cB cF z1 z2 iS
    go_wp2_with fail
    have ca0_0 : (wB.setCell ⟨w.heap.size, 0, none⟩ (.slice A1 N1 C1)).cell? ⟨w.heap.size, 0, none⟩ = some (.slice A1 N1 C1) := (B2.2 0 _ rfl).1
    try simp only [Exit.inBlock, Exit.then]
    exact bodyPost_ret (v := .tuple #[.agg #[.slice A1 N1 C1], .slice A3 n3 c3, .slice D1 nd cd]) (by simp [results, Tryz.results109, go_sem, ca0_0]) rfl ⟨_, _, _, _, _, _, _, _, _, _, _, rfl, HI9.out, by omega, HV9.out, hcp9.out, HSA.out, HC9.out.mono (by omega), HF9.out⟩
  have t1 : (v == 1) = false := by rw [beq_eq_false_iff_ne]; exact h1
  by_cases h2 : v = 2
  · subst h2
    clear hv t0 h0 t1 h1
    have hq7 : q ≤ 7 := by have := HSD.out.len; rw [Vars.len iS] at this; exact this
    have Lx : Ints (w2.alloc (.cells #[.int .i64 0, .int .i64 29, .int .i64 (-1)] 3)) w2.heap.size (w2.heap.size + 1) (some ⟨w2.heap.size, 0, none⟩) 3 [0, 29, -1] := lit_ints w2 [0, 29, -1] (by decide)
    replace f := f.keeps (keeps_alloc w2 (.cells #[.int .i64 0, .int .i64 29, .int .i64 (-1)] 3))
    replace hc := hc.keeps (keeps_alloc w2 (.cells #[.int .i64 0, .int .i64 29, .int .i64 (-1)] 3))
    replace hD := hD.keeps RwdN.ok (keeps_alloc w2 (.cells #[.int .i64 0, .int .i64 29, .int .i64 (-1)] 3))
    replace b2 := b2.keeps (keeps_alloc w2 (.cells #[.int .i64 0, .int .i64 29, .int .i64 (-1)] 3))
    replace b5 := b5.keeps (keeps_alloc w2 (.cells #[.int .i64 0, .int .i64 29, .int .i64 (-1)] 3))
    replace iG := iG.keeps (keeps_alloc w2 (.cells #[.int .i64 0, .int .i64 29, .int .i64 (-1)] 3))
    replace iS := iS.keeps (keeps_alloc w2 (.cells #[.int .i64 0, .int .i64 29, .int .i64 (-1)] 3))
    go_wp2_with fail
    refine (among_any hc (by omega) Lx (by first | omega | (simp; omega)) (by omega) (by omega)).mono ?_
    rintro e w3 ⟨x9, xj, rfl, xh, xe, hn, ff⟩
    replace f := f.trans ff
    clear hc
    have hc := hn
    replace hD := hD.fr RwdN.ok ff (by omega)
    replace b2 := b2.fr ff (by first | omega | (simp; omega))
    replace b5 := b5.fr ff (by first | omega | (simp; omega))
    replace iG := iG.fr ff (by first | omega | (simp; omega))
    replace iS := iS.fr ff (by first | omega | (simp; omega))
    have sf3 := ff.size
    try simp at sf3
    clear ff hn
    have sz3 := f.size
    have lt3 := b5.lt
    clear Lx xe xh
    go_wp2_with fail
    refine (values_any hc (by omega) iS (by omega) HSD.out).mono ?_
    rintro e w4 ⟨V, nv, cv, cs0, L0, U0, xs, rfl, hV, hxl, hxq, hn, ff⟩
    replace f := f.trans ff
    clear hc
    have hc := hn
    replace hD := hD.fr RwdN.ok ff (by omega)
    replace b2 := b2.fr ff (by first | omega | (simp; omega))
    replace b5 := b5.fr ff (by first | omega | (simp; omega))
    replace iG := iG.fr ff (by first | omega | (simp; omega))
    replace iS := iS.fr ff (by first | omega | (simp; omega))
    have sf4 := ff.size
    try simp at sf4
    clear ff hn
    have sz4 := f.size
    have lt4 := b5.lt
    clear hV
    have hcB := hc
    have fB := f
    have HNE := hid (show ∀ g, g < m ∨ w1.heap.size ≤ g → (Value.slice D1 nd cd).ownBlock ≠ some g from fun g hg e => by have := HDL.out g e; omega)
    go_wp2_with (at_builtin; refine append_rowR (a0 := ()) (x := m) (y := m) (new := [.int .i64 x9, .int .i64 0, .slice V nv cv]) HIR.out rfl (by decide) (by decide) RwdN.ok hD (by omega) (by omega) rfl (fun y hy => by simp at hy; rcases hy with rfl | rfl | rfl <;> rfl) (Nat.le_refl _) (by omega) (fun g e => .inr (by have := HDL.out g e; omega)) trivial _ _ rfl rfl Tryz.underlying63 rfl rfl ?_; intro v9 w9 cs9 L9 U9 hF9 hg9; obtain ⟨A9, c9, e9⟩ := hF9.has.form; subst e9; have b5_ := bl_grown b5 hg9 (HNE.out _ (.inr (Nat.le_refl _))); have b2_ := bl_grown b2 hg9 (HNE.out _ (.inl (by omega))); have z0 := (b5_.2 0 _ rfl).1; have z1 := (b2_.2 0 _ rfl).1; have z2 := (b2_.2 0 _ rfl).2)
    have KB := hid (hD.below (by omega) hg9)
    have s9 := KB.out.size
    have hf9 := (fB.below KB.out (by omega)).setNew (p := ⟨w.heap.size, 0, none⟩) (Nat.le_refl _) (.slice A1 N1 C1)
    have HF9 := hid hf9
    have HC9 := hid ((hcB.below KB.out (by omega)).fr (fr_one (p := w.heap.size) (i := 0) (.slice A1 N1 C1)) (by omega))
    have B2 := b2_.set 0 (.slice A1 N1 C1)
    have HI9 := hid (((iG.fr (Below.toFr KB.out) (by omega)).fr (fr_one (p := w.heap.size) (i := 0) (.slice A1 N1 C1)) (by omega)).widen (lo' := w.heap.size + 1) (hi' := (w9.setCell ⟨w.heap.size, 0, none⟩ (.slice A1 N1 C1)).heap.size) (Nat.le_refl _) (by simp [World.setCell]; omega) (Nat.le_refl _))
    have HV9 := hid (Sl.widen (lo' := w.heap.size + 1) (hi' := (w9.setCell ⟨w.heap.size, 0, none⟩ (.slice A1 N1 C1)).heap.size) (Sl.fr (Sl.fr iS (Below.toFr KB.out) (by omega)) (fr_one (p := w.heap.size) (i := 0) (.slice A1 N1 C1)) (by omega)) (Nat.le_refl _) (by simp [World.setCell]; omega) (Nat.le_refl _))
    clear hD hF9 hg9 hf9 hcB fB hc f b2 b5 b5_ b2_ z0 z1 z2 iG iS
    have ca0_0 : (w9.setCell ⟨w.heap.size, 0, none⟩ (.slice A1 N1 C1)).cell? ⟨w.heap.size, 0, none⟩ = some (.slice A1 N1 C1) := (B2.2 0 _ rfl).1
    try simp only [Exit.inBlock, Exit.then]
    exact bodyPost_ret (v := .tuple #[.agg #[.slice A1 N1 C1], .slice S1 q cq, .slice A9 (nd + 1) c9]) (by simp [results, Tryz.results109, go_sem, ca0_0]) rfl ⟨_, _, _, _, _, _, _, _, _, _, _, rfl, HI9.out, by omega, HV9.out, HCAP.out, HSD.out, HC9.out.mono (by omega), HF9.out⟩
  have t2 : (v == 2) = false := by rw [beq_eq_false_iff_ne]; exact h2
  have ca3_0 : w2.cell? ⟨w1.heap.size, 0, none⟩ = some (.slice A1 N1 C1) := (b5.2 0 _ rfl).1
  have ca4_0 : w2.cell? ⟨w.heap.size, 0, none⟩ = some (.slice none 0 0) := (b2.2 0 _ rfl).1
  have fa4_0 : w2.frozen? ⟨w.heap.size, 0, none⟩ = false := (b2.2 0 _ rfl).2
  replace f := f.setNew (p := ⟨w.heap.size, 0, none⟩) (by show _ ≤ w.heap.size; omega) (.slice A1 N1 C1)
  replace hc := hc.fr (fr_one (p := w.heap.size) (i := 0) (.slice A1 N1 C1)) (by omega)
  replace b5 := b5.far (p := ⟨w.heap.size, 0, none⟩) (by show _ ≠ w.heap.size; omega) (.slice A1 N1 C1)
  replace iG := iG.fr (fr_one (p := w.heap.size) (i := 0) (.slice A1 N1 C1)) (by omega)
  replace iS := iS.fr (fr_one (p := w.heap.size) (i := 0) (.slice A1 N1 C1)) (by omega)
  replace b2 : Bl (w2.setCell ⟨w.heap.size, 0, none⟩ (.slice A1 N1 C1)) w.heap.size [.slice A1 N1 C1] := b2.set 0 (.slice A1 N1 C1)
  have HI9 := hid (Ints.widen (lo' := w.heap.size + 1) (hi' := (w2.setCell ⟨w.heap.size, 0, none⟩ (.slice A1 N1 C1)).heap.size) iG (Nat.le_refl _) (by first | (simp [World.setCell]; done) | (simp [World.setCell]; omega)) (Nat.le_refl _))
  have HV9 := hid (Sl.widen (lo' := w.heap.size + 1) (hi' := (w2.setCell ⟨w.heap.size, 0, none⟩ (.slice A1 N1 C1)).heap.size) iS (Nat.le_refl _) (by first | (simp [World.setCell]; done) | (simp [World.setCell]; omega)) (Nat.le_refl _))
  have HC9 := hid hc
  have HF9 := hid f
  clear hc f
  go_wp2_with fail
  clear ca3_0 ca4_0 fa4_0
  have ca0_0 : (w2.setCell ⟨w.heap.size, 0, none⟩ (.slice A1 N1 C1)).cell? ⟨w.heap.size, 0, none⟩ = some (.slice A1 N1 C1) := (b2.2 0 _ rfl).1
  try simp only [Exit.inBlock, Exit.then]
  exact bodyPost_ret (v := .tuple #[.agg #[.slice A1 N1 C1], .slice S1 q cq, .slice D1 nd cd]) (by simp [results, Tryz.results109, go_sem, ca0_0]) rfl ⟨_, _, _, _, _, _, _, _, _, _, _, rfl, HI9.out, by omega, HV9.out, HCAP.out, HSD.out, HC9.out.mono (by omega), HF9.out⟩
end Go.Proofs.YtohjkpopbmmliaaGreat
namespace Go.Proofs.YtohjkpopbmmliaaGreat
open Go.RowKit Go.Sort Go.Deep
set_option linter.unusedVariables false
set_option linter.unusedSimpArgs false
theorem info_rel9 : (Tryz.prog.info? 87).map (fun i => (i.zero, i.size, i.bytes)) = some (some (.agg #[.int .i64 0, .slice none 0 0, .int .i64 0, .int .i64 0, .int .i64 0, .int .i64 0]), 6, 64) := by kernel_rfl
section
variable {ex un : Bool} {w w' : World} {lo hi : Nat}
mutual
theorem Rg.smB (s : SmB w w' lo hi) : ∀ (d : D) (v : Value), Rg ex un w lo hi d v → Rg ex un w' lo hi d v
  | .i x, v, h => by unfold Rg at h ⊢; exact h
  | .s b, v, h => by unfold Rg at h ⊢; exact h
  | .sl n ds, v, h => by
    unfold Rg at h ⊢
    obtain ⟨A, c, e, ht, hr⟩ := h
    refine ⟨A, c, e, Nat.le_trans ht s.1, fun hn => ?_⟩
    obtain ⟨b, off, e2, h1, h2, h3⟩ := hr hn
    exact ⟨b, off, e2, h1, h2, RgL.smB s h1 h2 ds off h3⟩
theorem RgL.smB (s : SmB w w' lo hi) {b : Nat} (h1 : lo ≤ b) (h2 : b < hi) : ∀ (ds : List D) (off : Nat), RgL ex un w lo hi b off ds → RgL ex un w' lo hi b off ds
  | [], off, h => by unfold RgL; trivial
  | d :: ds, off, h => by
    unfold RgL at h ⊢
    obtain ⟨⟨u, h3, hz, h4⟩, h5⟩ := h
    exact ⟨⟨u, (World.cell?_of_block (a := ⟨b, off, none⟩) (s.2 b h1 h2)).trans h3, fun e => (World.frozen?_of_block (a := ⟨b, off, none⟩) (s.2 b h1 h2)).trans (hz e), Rg.smB s d u h4⟩, RgL.smB s h1 h2 ds (off + 1) h5⟩
end
theorem Tabs.smB {A : Option Addr} {n : Nat} {l : List TT} (h : Tabs ex un w lo hi A n l) (s : SmB w w' lo hi) : Tabs ex un w' lo hi A n l :=
  ⟨⟨Nat.le_trans h.r.1 s.1, fun h0 => by obtain ⟨b, off, e, h1, h2, h3⟩ := h.r.2 h0; exact ⟨b, off, e, h1, h2, RgL.smB s h1 h2 _ off h3⟩⟩, h.len, h.le, h.sm⟩
end
/-- A release that can be read. -/
def RwdR : RowP RL := fun w lo hi u r => ∃ P cp, u 0 = .int .i64 r.1 ∧ u 1 = .slice P r.2.1.length cp ∧ u 2 = .int .i64 r.2.2.1 ∧ u 3 = .int .i64 r.2.2.2.1 ∧ u 4 = .int .i64 r.2.2.2.2.1 ∧ u 5 = .int .i64 r.2.2.2.2.2 ∧ Tabs true false w lo hi P r.2.1.length r.2.1
theorem RwdR.ok : RwOk RwdR := fun w w' lo hi u t h s => by obtain ⟨P, cp, h0, h1, h2, h3, h4, h5, h6⟩ := h; exact ⟨P, cp, h0, h1, h2, h3, h4, h5, h6.smB s⟩
section
variable {w : World} {m B E : Nat} {v : Value} {cs : List Value} {L U : Nat → Nat}
theorem GrowR.rels {l : List RL} (h : GrowR 6 rl0 RwdR w m B E v cs L U l) (hn : l.length ≤ 67108864) (hB : B ≤ w.heap.size) : ∃ A c, v = .slice A l.length c ∧ l.length ≤ c ∧ Rels true false w m w.heap.size A l.length l := by
  obtain ⟨A, c, hv, hc, hr⟩ := h.read
  have hmB := h.mB
  refine ⟨A, c, hv, hc, ⟨Nat.le_refl _, fun h0 => ?_⟩, rfl, hn, fun j => ?_⟩
  · obtain ⟨b, e, hb, hlt, _⟩ := hr 0 h0
    refine ⟨b, 0, e, by omega, hlt, RgL.of_at _ 0 fun j hj => ?_⟩
    rw [flat_len dR_len] at hj
    have hq : j / 6 < l.length := by omega
    have ej : j / 6 * 6 + j % 6 = j := by omega
    obtain ⟨b', e', _, _, ⟨iv1, iv2⟩, u, hu, P, cp, h0', h1, h2, h3, h4, h5, h6⟩ := hr (j / 6) hq
    rw [e] at e'; injection e' with e'; injection e' with e'; subst e'
    have hm := Nat.mod_lt j (show 0 < 6 by omega)
    have h7 := flat_at dR_len (.i 0) rl0 l (j / 6) (j % 6) hq hm
    have h8 := hu (j % 6) hm
    rw [ej] at h7 h8
    refine ⟨_, by rw [Nat.zero_add]; exact h8.1, (fun e => by cases e), ?_⟩
    rw [h7]
    have hrg : ∀ i, i < 6 → Rg true false w (L (j / 6)) (U (j / 6)) ((dR (l.getD (j / 6) rl0)).getD i (.i 0)) (u i) := by
      intro i hi
      match i, hi with
      | 0, _ => rw [h0']; exact Rg.of_i _
      | 1, _ => rw [h1]; exact h6.r.rg
      | 2, _ => rw [h2]; exact Rg.of_i _
      | 3, _ => rw [h3]; exact Rg.of_i _
      | 4, _ => rw [h4]; exact Rg.of_i _
      | 5, _ => rw [h5]; exact Rg.of_i _
    exact Rg.widen iv1 iv2 (Nat.le_refl _) _ _ (hrg _ hm)
  · rcases Nat.lt_or_ge j l.length with hj | hj
    · obtain ⟨_, _, _, _, _, u, hu, P, cp, h0', h1, h2, h3, h4, h5, h6⟩ := hr j hj
      exact ⟨h6.le, fun i => h6.sm i⟩
    · rw [getD_out hj]; simp [smR, smT, rl0, t0]
/-- The first release's version is written. -/
theorem GrowR.ver {l : List RL} {b n c : Nat} {x : Int} (h : GrowR 6 rl0 RwdR w m B E (.slice (some ⟨b, 0, none⟩) n c) cs L U l) : GrowR 6 rl0 RwdR (w.setCell ⟨b, 0, none⟩ (.int .i64 x)) m B E (.slice (some ⟨b, 0, none⟩) n c) (cs.set 0 (.int .i64 x)) L U (l.set 0 (x, (l.getD 0 rl0).2)) := by
  obtain ⟨A', c', e'⟩ := h.has.form
  injection e' with e1 e2 e3
  have hh := h.has
  rw [← e2] at hh
  have hs := (World.ownsRow.stored hh 0 (.int .i64 x)).1
  have hsm : ∀ j, j < l.length → SmB w (w.setCell ⟨b, 0, none⟩ (.int .i64 x)) (L j) (U j) := fun j hj => ⟨by simp [World.setCell], fun g g1 g2 => Below.heap_setCell w ⟨b, 0, none⟩ _ g (by have := (h.iv j hj).2.2 b rfl; show g ≠ b; omega)⟩
  refine ⟨by rw [List.length_set, ← e2]; exact hs, h.mB, fun j hj => by rw [List.length_set] at hj; simpa [World.setCell] using h.iv j hj, fun j hj => ?_⟩
  rw [List.length_set] at hj
  obtain ⟨u, h1, h2⟩ := h.row j hj
  have hl : cs.length = l.length * 6 := h.has.1
  by_cases e : j = 0
  · subst e
    obtain ⟨P, cp, q0, q1, q2, q3, q4, q5, q6⟩ := h2
    refine ⟨fun i => if i = 0 then .int .i64 x else u i, fun i hi => ?_, P, cp, ?_, ?_, ?_, ?_, ?_, ?_, ?_⟩
    · have hc0 : 0 < cs.length := by omega
      rw [List.getElem?_set]
      by_cases e0 : i = 0
      · subst e0
        rw [if_pos (by omega), if_pos hc0]
        show some _ = some (if (0 : Nat) = 0 then _ else _)
        rw [if_pos rfl]
      · rw [if_neg (by omega)]
        show cs[0 * 6 + i]? = some (if i = 0 then _ else u i)
        rw [if_neg e0]; exact h1 i hi
    all_goals rw [getD_set_same hj]
    · rfl
    · exact q1
    · exact q2
    · exact q3
    · exact q4
    · exact q5
    · exact q6.smB (hsm 0 hj)
  · refine ⟨u, fun i hi => ?_, ?_⟩
    · rw [List.getElem?_set, if_neg (by omega)]; exact h1 i hi
    · rw [getD_set_other (by omega)]; exact RwdR.ok _ _ _ _ _ _ h2 (hsm j hj)
end
end Go.Proofs.YtohjkpopbmmliaaGreat
namespace Go.Proofs.YtohjkpopbmmliaaGreat
open Go.RowKit Go.Sort Go.Deep
set_option linter.unusedVariables false
set_option linter.unusedSimpArgs false
theorem tabs_nil (w : World) (lo hi : Nat) (h : hi ≤ w.heap.size) : Tabs true false w lo hi none 0 [] := ⟨⟨h, fun h => absurd h (by omega)⟩, rfl, by omega, fun j => by simp [smT, t0]⟩
theorem GrowR.cell0 {w : World} {m B E n c : Nat} {A : Option Addr} {cs : List Value} {L U : Nat → Nat} {l : List RL} (h : GrowR 6 rl0 RwdR w m B E (.slice A n c) cs L U l) (h0 : 0 < l.length) : ∃ b, A = some ⟨b, 0, none⟩ ∧ B ≤ b ∧ b < w.heap.size ∧ w.cell? ⟨b, 0, none⟩ = some (.int .i64 (l.getD 0 rl0).1) ∧ w.frozen? ⟨b, 0, none⟩ = false := by
  obtain ⟨A', c', hv, _, hr⟩ := h.read
  injection hv with e1 e2 e3
  obtain ⟨b, e, h1, h2, _, u, hu, P, cp, q0, _⟩ := hr 0 h0
  have := hu 0 (by omega)
  rw [q0, Nat.zero_mul, Nat.zero_add] at this
  exact ⟨b, e1.trans e, h1, h2, this.1, this.2⟩
theorem GrowR.rowR {w : World} {B nP cP : Nat} {P : Option Addr} {E : Nat} {cs : List Value} {L U : Nat → Nat} {ts : List TT} (h : GrowR 4 t0 RwdT w B B E (.slice P nP cP) cs L U ts) (v a b c d : Int) (hl : ts.length = nP) (hn : nP ≤ 67108864) (hB : B ≤ w.heap.size) :
    RwdR w B w.heap.size (fun i => [Value.int .i64 v, .slice P nP cP, .int .i64 a, .int .i64 b, .int .i64 c, .int .i64 d].getD i undef) (v, ts, a, b, c, d) := by
  subst hl
  obtain ⟨A1, c1, e1, _, i1⟩ := h.tabs hn hB
  injection e1 with e1
  subst e1
  exact ⟨P, cP, rfl, rfl, rfl, rfl, rfl, rfl, i1⟩
set_option maxRecDepth 100000 in
set_option maxHeartbeats 1600000 in
theorem sNoLoss_any {w : World} :
    Calls Tryz.prog 153 #[] w fun e w' => e = .returned (.agg #[.int .i64 1, .int .i64 1, .int .i64 0, .int .i64 1]) ∧ Keeps w w' := by
  go_enter Tryz.func153, Tryz.ntmps153
  have kw := keeps_refl w
  replace kw := Keeps.trans kw (keeps_alloc w (.cells #[.int .i64 0, .int .i64 0, .int .i64 0, .int .i64 0] 32))
  have b0 : Bl (w.alloc (.cells #[.int .i64 0, .int .i64 0, .int .i64 0, .int .i64 0] 32)) w.heap.size [.int .i64 0, .int .i64 0, .int .i64 0, .int .i64 0] := Bl.new' (by simp) (by simp)
  go_wp2_with fail
  refine (pNone_any).mono ?_
  rintro e w1 ⟨rfl, k1⟩
  replace b0 := b0.keeps k1
  replace kw := Keeps.trans kw k1
  have lt2 := b0.lt
  have sz3 := kw.size
  clear k1
  have ca4_0 : w1.cell? ⟨w.heap.size, 0, none⟩ = some (.int .i64 0) := (b0.2 0 _ rfl).1
  have fa4_0 : w1.frozen? ⟨w.heap.size, 0, none⟩ = false := (b0.2 0 _ rfl).2
  have ca4_1 : w1.cell? ⟨w.heap.size, 1, none⟩ = some (.int .i64 0) := (b0.2 1 _ rfl).1
  have fa4_1 : w1.frozen? ⟨w.heap.size, 1, none⟩ = false := (b0.2 1 _ rfl).2
  have ca4_2 : w1.cell? ⟨w.heap.size, 2, none⟩ = some (.int .i64 0) := (b0.2 2 _ rfl).1
  have fa4_2 : w1.frozen? ⟨w.heap.size, 2, none⟩ = false := (b0.2 2 _ rfl).2
  have ca4_3 : w1.cell? ⟨w.heap.size, 3, none⟩ = some (.int .i64 0) := (b0.2 3 _ rfl).1
  have fa4_3 : w1.frozen? ⟨w.heap.size, 3, none⟩ = false := (b0.2 3 _ rfl).2
  replace kw := Below.setCell kw (p := ⟨w.heap.size, 0, none⟩) (by show _ ≤ w.heap.size; omega) (.int .i64 1)
  replace b0 : Bl (w1.setCell ⟨w.heap.size, 0, none⟩ (.int .i64 1)) w.heap.size [.int .i64 1, .int .i64 0, .int .i64 0, .int .i64 0] := b0.set 0 (.int .i64 1)
  replace kw := Below.setCell kw (p := ⟨w.heap.size, 1, none⟩) (by show _ ≤ w.heap.size; omega) (.int .i64 1)
  replace b0 : Bl ((w1.setCell ⟨w.heap.size, 0, none⟩ (.int .i64 1)).setCell ⟨w.heap.size, 1, none⟩ (.int .i64 1)) w.heap.size [.int .i64 1, .int .i64 1, .int .i64 0, .int .i64 0] := b0.set 1 (.int .i64 1)
  replace kw := Below.setCell kw (p := ⟨w.heap.size, 2, none⟩) (by show _ ≤ w.heap.size; omega) (.int .i64 0)
  replace b0 : Bl (((w1.setCell ⟨w.heap.size, 0, none⟩ (.int .i64 1)).setCell ⟨w.heap.size, 1, none⟩ (.int .i64 1)).setCell ⟨w.heap.size, 2, none⟩ (.int .i64 0)) w.heap.size [.int .i64 1, .int .i64 1, .int .i64 0, .int .i64 0] := b0.set 2 (.int .i64 0)
  replace kw := Below.setCell kw (p := ⟨w.heap.size, 3, none⟩) (by show _ ≤ w.heap.size; omega) (.int .i64 1)
  replace b0 : Bl ((((w1.setCell ⟨w.heap.size, 0, none⟩ (.int .i64 1)).setCell ⟨w.heap.size, 1, none⟩ (.int .i64 1)).setCell ⟨w.heap.size, 2, none⟩ (.int .i64 0)).setCell ⟨w.heap.size, 3, none⟩ (.int .i64 1)) w.heap.size [.int .i64 1, .int .i64 1, .int .i64 0, .int .i64 1] := b0.set 3 (.int .i64 1)
  have HK := hid kw
  clear kw
  go_wp2_with fail
  clear ca4_0 fa4_0 ca4_1 fa4_1 ca4_2 fa4_2 ca4_3 fa4_3
  have ca0_0 : ((((w1.setCell ⟨w.heap.size, 0, none⟩ (.int .i64 1)).setCell ⟨w.heap.size, 1, none⟩ (.int .i64 1)).setCell ⟨w.heap.size, 2, none⟩ (.int .i64 0)).setCell ⟨w.heap.size, 3, none⟩ (.int .i64 1)).cell? ⟨w.heap.size, 0, none⟩ = some (.int .i64 1) := (b0.2 0 _ rfl).1
  have ca0_1 : ((((w1.setCell ⟨w.heap.size, 0, none⟩ (.int .i64 1)).setCell ⟨w.heap.size, 1, none⟩ (.int .i64 1)).setCell ⟨w.heap.size, 2, none⟩ (.int .i64 0)).setCell ⟨w.heap.size, 3, none⟩ (.int .i64 1)).cell? ⟨w.heap.size, 1, none⟩ = some (.int .i64 1) := (b0.2 1 _ rfl).1
  have ca0_2 : ((((w1.setCell ⟨w.heap.size, 0, none⟩ (.int .i64 1)).setCell ⟨w.heap.size, 1, none⟩ (.int .i64 1)).setCell ⟨w.heap.size, 2, none⟩ (.int .i64 0)).setCell ⟨w.heap.size, 3, none⟩ (.int .i64 1)).cell? ⟨w.heap.size, 2, none⟩ = some (.int .i64 0) := (b0.2 2 _ rfl).1
  have ca0_3 : ((((w1.setCell ⟨w.heap.size, 0, none⟩ (.int .i64 1)).setCell ⟨w.heap.size, 1, none⟩ (.int .i64 1)).setCell ⟨w.heap.size, 2, none⟩ (.int .i64 0)).setCell ⟨w.heap.size, 3, none⟩ (.int .i64 1)).cell? ⟨w.heap.size, 3, none⟩ = some (.int .i64 1) := (b0.2 3 _ rfl).1
  try simp only [Exit.inBlock, Exit.then]
  exact bodyPost_ret (v := .agg #[.int .i64 1, .int .i64 1, .int .i64 0, .int .i64 1]) (by simp [results, Tryz.results153, go_sem, ca0_0, ca0_1, ca0_2, ca0_3]) rfl ⟨rfl, HK.out⟩
set_option maxRecDepth 100000 in
set_option maxHeartbeats 12800000 in
theorem history_any {g : Nat} {T : Int} {lo hi q c lo2 hi2 a c0 : Nat} {A A2 : Option Addr} {l : List VV} {ps : List Int} {w : World} (h : Cur w g T) (hT : T ≤ 90000000000000) (hG : Ints w lo2 hi2 A2 a ps) (hg2 : g < lo2) (hs : Vars w lo hi A q l) (hgl : g < lo) (hD : SchD l) :
    Calls Tryz.prog 110 #[.pointer (some ⟨g, 0, none⟩), .agg #[.slice A2 a c0], .slice A q c] w (DrawsL 6 rl0 RwdR 87 (fun rs => rs.length ≤ 14) w g (T + 40000)) := by
  have HD := hid hD
  have HIT := hid info_rel9
  have lg := h.lt
  go_enter Tryz.func110, Tryz.ntmps110
  have f : Fr g (g + 1) w w := Fr.refl _ _ _
  have hc := h
  replace f := f.keeps (keeps_alloc w (.cells #[.slice A2 a c0] 26))
  replace hc := hc.keeps (keeps_alloc w (.cells #[.slice A2 a c0] 26))
  have b4 : B1 (w.alloc (.cells #[.slice A2 a c0] 26)) w.heap.size (.slice A2 a c0) := B1.new' (by simp)
  go_wp2_with fail
  refine (pick_any hc (by omega) (by omega)).mono ?_
  rintro e w1 ⟨x0, rfl, hx0, hn, ff⟩
  replace f := f.trans ff
  clear hc
  have hc := hn
  replace b4 := b4.fr ff (by first | omega | (simp; omega))
  have sf1 := ff.size
  try simp at sf1
  clear ff hn
  have sz1 := f.size
  have lt1 := b4.lt
  obtain ⟨m0, rfl⟩ : ∃ m : Nat, x0 = m := ⟨x0.toNat, by omega⟩
  have hm0 : m0 ≤ 3 := by omega
  clear hx0
  have F0 := GrowR.nil (sz := 6) (z := rl0) (R := RwdR) w1 w.heap.size (w.heap.size + 1) 87 (Nat.le_succ _)
  go_wp2_with fail
  go_loopw [7, 8] (fun sv i wr => ∃ (m : Nat) (vq : Value) (cs : List Value) (L U : Nat → Nat) (rs : List RL), vq = sv ∧ i = .int .i64 m ∧ m + rs.length ≤ 3 ∧ GrowR 6 rl0 RwdR wr w.heap.size (w.heap.size + 1) 87 vq cs L U rs ∧ B1 wr w.heap.size (.slice A2 a c0) ∧ Cur wr g (T + 10 + 6100 * rs.length) ∧ Fr g (g + 1) w wr ∧ w.heap.size + 1 ≤ wr.heap.size) (fun _ i _ => (intOf i).toNat)
  case atStart => exact ⟨m0, _, _, _, _, [], rfl, rfl, hm0, F0, b4, hc.mono (by first | (simp; done) | (simp; omega)), f, by omega⟩
  clear F0 b4 hc f
  case round =>
    obtain ⟨m, vq, cs, L, U, rs, rfl, rfl, hm, hF, b4, hc, f, sz1⟩ := hrel
    obtain ⟨A8, c8, e8⟩ := hF.has.form
    obtain ⟨ln, hkk⟩ : ∃ x, rs.length = x := ⟨_, rfl⟩
    rw [hkk] at e8 hm hc
    subst e8
    have HKK := hid hkk
    clear hkk
    by_cases hlt : 0 < m
    rotate_left
    · obtain rfl : m = 0 := by omega
      have hm9 : ¬ ((0 : Nat) : Int) > 0 := by omega
      go_wp2_with fail
      refine (pick_any hc (by omega) (by omega)).mono ?_
      rintro e w2 ⟨v, rfl, hv, hn, ff⟩
      replace f := f.trans ff
      clear hc
      have hc := hn
      replace hF := hF.fr RwdR.ok ff (by omega)
      replace b4 := b4.fr ff (by first | omega | (simp; omega))
      have sf2 := ff.size
      try simp at sf2
      clear ff hn
      have sz2 := f.size
      have lt2 := b4.lt
      by_cases h0 : v = 0
      · subst h0
        clear hv
        by_cases hk0 : 0 < ln
        rotate_left
        · have hk9 : ¬ (ln : Int) > 0 := by omega
          have HF := hid (GrowR.lowB hF (by omega))
          have HC := hid hc
          have Hf := hid f
          clear hF hc f b4
          try go_wp2
          go_ret
          exact ⟨_, _, _, _, _, _, rs, rfl, HF.out, HKK.out, (show (rs).length ≤ 14 by have := HKK.out; omega), HC.out.mono (by omega), Hf.out⟩
        have hk9 : (ln : Int) > 0 := by omega
        obtain ⟨b, rfl, hb1, hb2, _, _⟩ := hF.cell0 (by rw [HKK.out]; exact hk0)
        have Lx : Ints (w2.alloc (.cells #[.int .i64 0, .int .i64 2, .int .i64 1000] 3)) w2.heap.size (w2.heap.size + 1) (some ⟨w2.heap.size, 0, none⟩) 3 [0, 2, 1000] := lit_ints w2 [0, 2, 1000] (by decide)
        replace f := f.keeps (keeps_alloc w2 (.cells #[.int .i64 0, .int .i64 2, .int .i64 1000] 3))
        replace hc := hc.keeps (keeps_alloc w2 (.cells #[.int .i64 0, .int .i64 2, .int .i64 1000] 3))
        replace hF := hF.keeps RwdR.ok (keeps_alloc w2 (.cells #[.int .i64 0, .int .i64 2, .int .i64 1000] 3))
        replace b4 := b4.keeps (keeps_alloc w2 (.cells #[.int .i64 0, .int .i64 2, .int .i64 1000] 3))
        go_wp2_with fail
        refine (among_any hc (by omega) Lx (by first | omega | (simp; omega)) (by omega) (by omega)).mono ?_
        rintro e w3 ⟨x9, xj, rfl, xh, xe, hn, ff⟩
        replace f := f.trans ff
        clear hc
        have hc := hn
        replace hF := hF.fr RwdR.ok ff (by omega)
        replace b4 := b4.fr ff (by first | omega | (simp; omega))
        have sf3 := ff.size
        try simp at sf3
        clear ff hn
        have sz3 := f.size
        have lt3 := b4.lt
        clear Lx xe xh
        obtain ⟨b2, eb, hb3, hb4, hcc, hff⟩ := hF.cell0 (by rw [HKK.out]; exact hk0)
        injection eb with eb
        injection eb with eb
        subst eb
        have hF9 := hF.ver (x := x9)
        have HL9 := hid (show (rs.set 0 (x9, (rs.getD 0 rl0).2)).length = ln by rw [List.length_set, HKK.out])
        have f9 := f.setNew (p := ⟨b, 0, none⟩) (by show _ ≤ b; omega) (.int .i64 x9)
        have hc9 := hc.fr (fr_one (p := b) (i := 0) (.int .i64 x9)) (by omega)
        clear b4
        have HF := hid (GrowR.lowB hF9 (by omega))
        have HC := hid hc9
        have Hf := hid f9
        clear hF hF9 hc hc9 f f9
        go_wp2
        go_ret
        exact ⟨_, _, _, _, _, _, _, rfl, HF.out, HL9.out, (show (rs.set 0 (x9, (rs.getD 0 rl0).2)).length ≤ 14 by have := HL9.out; omega), HC.out.mono (by omega), Hf.out⟩
      have t0_ : (v == 0) = false := by rw [beq_eq_false_iff_ne]; exact h0
      by_cases h1 : v = 1
      rotate_left
      · have t1_ : (v == 1) = false := by rw [beq_eq_false_iff_ne]; exact h1
        have HF := hid (GrowR.lowB hF (by omega))
        have HC := hid hc
        have Hf := hid f
        clear hF hc f b4
        try go_wp2
        go_ret
        exact ⟨_, _, _, _, _, _, rs, rfl, HF.out, HKK.out, (show (rs).length ≤ 14 by have := HKK.out; omega), HC.out.mono (by omega), Hf.out⟩
      subst h1
      clear hv h0 t0_
      have sz2 : w.heap.size + 1 ≤ w2.heap.size := by omega
      go_wp2_with fail
      go_loopw [7] (fun sv wz => ∃ (vq : Value) (cs : List Value) (L U : Nat → Nat) (rs : List RL), vq = sv ∧ rs.length ≤ 13 ∧ GrowR 6 rl0 RwdR wz w.heap.size (w.heap.size + 1) 87 vq cs L U rs ∧ B1 wz w.heap.size (.slice A2 a c0) ∧ Cur wz g (T + 20000 + 110 * rs.length) ∧ Fr g (g + 1) w wz ∧ w.heap.size + 1 ≤ wz.heap.size) (fun sv _ => 14 - lenOf sv)
      case atStart => exact ⟨_, _, _, _, rs, rfl, by rw [HKK.out]; omega, hF, b4, hc.mono (by rw [HKK.out]; omega), f, sz2⟩
      clear hF b4 hc f HKK
      case round =>
        obtain ⟨vq, cs, L, U, rs, rfl, hm2, hF, b4, hc, f, sz3⟩ := hrel
        obtain ⟨A8, c8, e8⟩ := hF.has.form
        obtain ⟨ln, hkk⟩ : ∃ x, rs.length = x := ⟨_, rfl⟩
        rw [hkk] at e8 hm2 hc
        subst e8
        have HKK := hid hkk
        clear hkk
        go_wp2_with fail
        refine (pick_any hc (by omega) (by omega)).mono ?_
        rintro e w3 ⟨x7, rfl, hx7, hn, ff⟩
        replace f := f.trans ff
        clear hc
        have hc := hn
        replace hF := hF.fr RwdR.ok ff (by omega)
        replace b4 := b4.fr ff (by first | omega | (simp; omega))
        have sf3 := ff.size
        try simp at sf3
        clear ff hn
        have sz3 := f.size
        have lt3 := b4.lt
        by_cases hcd : (ln : Int) < 12 + x7
        rotate_left
        · have HF := hid (GrowR.lowB hF (by omega))
          have HC := hid hc
          have Hf := hid f
          clear hF hc f b4
          try go_wp2
          go_ret
          exact ⟨_, _, _, _, _, _, rs, rfl, HF.out, HKK.out, (show (rs).length ≤ 14 by have := HKK.out; omega), HC.out.mono (by omega), Hf.out⟩
        go_wp2_with fail
        have lr := hid hF.lt
        refine (sNoLoss_any).mono ?_
        rintro e w4 ⟨rfl, kk⟩
        replace f := f.keeps kk
        replace hc := hc.keeps kk
        replace hF := hF.keeps RwdR.ok kk
        replace b4 := b4.keeps kk
        have sf4 := kk.size
        try simp at sf4
        clear kk
        have sz4 := f.size
        have lt4 := b4.lt
        have hcB := hc
        have fB := f
        go_wp2_with (at_builtin; refine append_rowR (a0 := ((ln : Int) + 1, [], 1, 1, 0, 1)) (x := w3.heap.size) (y := w3.heap.size) (new := [.int .i64 ((ln : Int) + 1), .slice none 0 0, .int .i64 1, .int .i64 1, .int .i64 0, .int .i64 1]) HIT.out rfl (by decide) (by decide) RwdR.ok hF (by rw [HKK.out]; omega) (by omega) rfl (fun y hy => by simp at hy; rcases hy with rfl | rfl | rfl | rfl | rfl | rfl <;> rfl) (by omega) (by omega) (fun g e => .inl (lr.out g e).2) ⟨none, 0, rfl, rfl, rfl, rfl, rfl, rfl, tabs_nil _ _ _ (by omega)⟩ _ _ rfl rfl Tryz.underlying28 rfl rfl ?_; intro v9 w9 cs9 L9 U9 hF9 hg9)
        have KB := hid (hF.below (by omega) hg9)
        have HF9 := hid hF9
        have f9 := hid (fB.below KB.out (by omega))
        have hc9 := hid (hcB.below KB.out (by omega))
        have s9 := KB.out.size
        have B49 := hid (b1_grown b4 hg9 (fun e => by have := lr.out _ e; omega))
        have HL9 := hid (show (rs ++ [((ln : Int) + 1, [], 1, 1, 0, 1)]).length = ln + 1 by rw [List.length_append, HKK.out]; rfl)
        clear hF hF9 hg9 b4 hc f hcB fB
        obtain ⟨A6, c6, e6⟩ := HF9.out.has.form
        rw [HL9.out] at e6
        subst e6
        try go_wp2_with fail
        go_roundw
        case rel => exact ⟨_, _, _, _, rs ++ [((ln : Int) + 1, [], 1, 1, 0, 1)], rfl, by rw [HL9.out]; omega, HF9.out, B49.out, hc9.out.mono (by have := HL9.out; omega), f9.out, by omega⟩
        case measure => simp [lenOf]; omega
    have hm9 : (m : Int) > 0 := by omega
    obtain ⟨ca2, fa2⟩ := id b4
    go_wp2_with fail
    clear ca2 fa2
    have lr := hid hF.lt
    refine (tables_any hc (by omega) (hG.fr f (by omega)) hg2 (hs.fr f (by omega)) hgl HD.out).mono ?_
    rintro e w3 ⟨P, nP, cP, cs1, L1, U1, ts, rfl, hP, hPl, hP21, hn, ff⟩
    replace f := f.trans ff
    clear hc
    have hc := hn
    replace hF := hF.fr RwdR.ok ff (by omega)
    replace b4 := b4.fr ff (by first | omega | (simp; omega))
    have sf3 := ff.size
    try simp at sf3
    clear ff hn
    have sz3 := f.size
    have lt3 := b4.lt
    go_wp2_with fail
    refine (loss_any hc (by omega)).mono ?_
    rintro e w4 ⟨a1, b1, c1, d1, rfl, hn, ff⟩
    replace f := f.trans ff
    clear hc
    have hc := hn
    replace hF := hF.fr RwdR.ok ff (by omega)
    replace hP := hP.fr RwdT.ok ff (by omega)
    replace b4 := b4.fr ff (by first | omega | (simp; omega))
    have sf4 := ff.size
    try simp at sf4
    clear ff hn
    have sz4 := f.size
    have lt4 := b4.lt
    have HRW := hid (hP.rowR ((ln : Int) + 1) a1 b1 c1 d1 hPl (by omega) (by omega))
    clear hP
    have hcB := hc
    have fB := f
    go_wp2_with (at_builtin; refine append_rowR (a0 := ((ln : Int) + 1, ts, a1, b1, c1, d1)) (x := wr.heap.size) (y := w4.heap.size) (new := [.int .i64 ((ln : Int) + 1), .slice P nP cP, .int .i64 a1, .int .i64 b1, .int .i64 c1, .int .i64 d1]) HIT.out rfl (by decide) (by decide) RwdR.ok hF (by rw [HKK.out]; omega) (by omega) rfl (fun y hy => by simp at hy; rcases hy with rfl | rfl | rfl | rfl | rfl | rfl <;> rfl) (by omega) (by omega) (fun g e => .inl (lr.out g e).2) HRW.out _ _ rfl rfl Tryz.underlying28 rfl rfl ?_; intro v9 w9 cs9 L9 U9 hF9 hg9)
    have KB := hid (hF.below (by omega) hg9)
    have HF9 := hid hF9
    have f9 := hid (fB.below KB.out (by omega))
    have hc9 := hid (hcB.below KB.out (by omega))
    have s9 := KB.out.size
    have B49 := hid (b1_grown b4 hg9 (fun e => by have := lr.out _ e; omega))
    have HL9 := hid (show (rs ++ [((ln : Int) + 1, ts, a1, b1, c1, d1)]).length = ln + 1 by rw [List.length_append, HKK.out]; rfl)
    clear hF hF9 hg9 b4 hc f hcB fB
    try go_wp2_with fail
    go_roundw
    case rel => exact ⟨m - 1, _, _, _, _, rs ++ [((ln : Int) + 1, ts, a1, b1, c1, d1)], rfl, by congr 1; omega, by rw [HL9.out]; omega, HF9.out, B49.out, hc9.out.mono (by have := HL9.out; omega), f9.out, by omega⟩
    case measure => simp [intOf]; omega
end Go.Proofs.YtohjkpopbmmliaaGreat
namespace Go.Proofs.YtohjkpopbmmliaaGreat
open Go.RowKit Go.Sort Go.Deep
set_option linter.unusedVariables false
set_option linter.unusedSimpArgs false
/-- What DrawIsHistory leaves. -/
def DrawsHi (w : World) (e : Ending) (w' : World) : Prop :=
  ∃ A N C ps S q cq l R n cr rs, e = .returned (.tuple #[.agg #[.slice A N C], .slice S q cq, .slice R n cr]) ∧ Ints w' w.heap.size w'.heap.size A N ps ∧ N ≤ 45 ∧ Vars w' w.heap.size w'.heap.size S q l ∧ (q ≤ cq ∧ cq ≤ maxLen) ∧ SchD l ∧ Rels true false w' w.heap.size w'.heap.size R n rs ∧ n ≤ cr ∧ n ≤ 14 ∧ Keeps w w'
/-- What DrawFirstOverrun leaves. -/
def DrawsHo (w : World) (e : Ending) (w' : World) : Prop :=
  ∃ A N C ps S q cq l R n cr rs a b c d, e = .returned (.tuple #[.agg #[.slice A N C], .slice S q cq, .slice R n cr, .agg #[.int .i64 a, .int .i64 b, .int .i64 c, .int .i64 d]]) ∧ Ints w' w.heap.size w'.heap.size A N ps ∧ N ≤ 45 ∧ Vars w' w.heap.size w'.heap.size S q l ∧ (q ≤ cq ∧ cq ≤ maxLen) ∧ SchD l ∧ Rels true false w' w.heap.size w'.heap.size R n rs ∧ n ≤ cr ∧ n ≤ 14 ∧ Keeps w w'
/-- What DrawCanAdd leaves. -/
def DrawsHc (w : World) (e : Ending) (w' : World) : Prop :=
  ∃ A N C ps S q cq l R n cr rs a b c d P m cm ts y1 y2 y3 y4, e = .returned (.tuple #[.agg #[.slice A N C], .slice S q cq, .slice R n cr, .agg #[.int .i64 a, .int .i64 b, .int .i64 c, .int .i64 d], .slice P m cm, .agg #[.int .i64 y1, .int .i64 y2, .int .i64 y3, .int .i64 y4]]) ∧ Ints w' w.heap.size w'.heap.size A N ps ∧ N ≤ 45 ∧ Vars w' w.heap.size w'.heap.size S q l ∧ (q ≤ cq ∧ cq ≤ maxLen) ∧ SchD l ∧ Rels true false w' w.heap.size w'.heap.size R n rs ∧ n ≤ cr ∧ n ≤ 14 ∧ Tabs true false w' w.heap.size w'.heap.size P m ts ∧ m ≤ cm ∧ m ≤ 21 ∧ Keeps w w'
theorem Tabs.wide {ex un : Bool} {w : World} {lo hi lo' hi' n : Nat} {A : Option Addr} {l : List TT} (h : Tabs ex un w lo hi A n l) (h1 : lo' ≤ lo) (h2 : hi ≤ hi') (h3 : hi' ≤ w.heap.size) : Tabs ex un w lo' hi' A n l := ⟨h.r.widen h1 h2 h3, h.len, h.le, h.sm⟩
theorem Rels.wide {ex un : Bool} {w : World} {lo hi lo' hi' n : Nat} {A : Option Addr} {l : List RL} (h : Rels ex un w lo hi A n l) (h1 : lo' ≤ lo) (h2 : hi ≤ hi') (h3 : hi' ≤ w.heap.size) : Rels ex un w lo' hi' A n l := ⟨h.r.widen h1 h2 h3, h.len, h.le, h.sm⟩
set_option maxRecDepth 100000 in
set_option maxHeartbeats 12800000 in
theorem DrawIsHistory_any {A : Option Addr} {hi n c : Nat} {w : World} (hb : Bytes w hi A n) :
    Calls Tryz.prog 62 #[.slice A n c] w (DrawsHi w) := by
  go_enter Tryz.func62, Tryz.ntmps62
  have kw := keeps_refl w
  replace kw := Keeps.trans kw (keeps_alloc w (.cells #[.slice none 0 0] 26))
  have b2 : Bl (w.alloc (.cells #[.slice none 0 0] 26)) (w.heap.size) [.slice none 0 0] := Bl.new' (by simp) (by simp)
  have hc := Cur.new (t := 105) (c := c) (hb.keeps kw)
  rw [show (w.alloc (.cells #[.slice none 0 0] 26)).heap.size = w.heap.size + 1 by simp] at hc
  replace b2 := b2.keeps (keeps_alloc (w.alloc (.cells #[.slice none 0 0] 26)) (.cells #[.slice A n c, .int .i64 0, .int .u64 0] 105))
  replace kw := Keeps.trans kw (keeps_alloc (w.alloc (.cells #[.slice none 0 0] 26)) (.cells #[.slice A n c, .int .i64 0, .int .u64 0] 105))
  have hbW := hb.keeps kw
  have E0 := hid (show ((w.alloc (.cells #[.slice none 0 0] 26)).alloc (.cells #[.slice A n c, .int .i64 0, .int .u64 0] 105)).heap.size = w.heap.size + 2 by simp)
  go_wp2_with fail
  refine (anySurvey_any hc (by omega)).mono ?_
  rintro e w1 ⟨A1, N1, C1, ps, S1, q, cq, l, D1, nd, cd, rfl, iG, hN, iS, hcap, hSD, hc1, ff⟩
  have sf1 := ff.size
  rw [E0.out] at iG iS sf1
  replace kw : Keeps w w1 := below_fr kw kw.size (by omega) ff
  replace b2 := b2.fr ff (by omega)
  have HSD := hid hSD
  have HCAP := hid hcap
  clear hc ff hSD hcap E0 hbW
  have hc := hc1
  clear hc1
  replace b2 := b2.keeps (keeps_alloc w1 (.cells #[.slice A1 N1 C1] 26))
  replace hc := hc.keeps (keeps_alloc w1 (.cells #[.slice A1 N1 C1] 26))
  replace iG := iG.keeps (keeps_alloc w1 (.cells #[.slice A1 N1 C1] 26))
  replace iS := iS.keeps (keeps_alloc w1 (.cells #[.slice A1 N1 C1] 26))
  replace kw := Keeps.trans kw (keeps_alloc w1 (.cells #[.slice A1 N1 C1] 26))
  have b9 : Bl (w1.alloc (.cells #[.slice A1 N1 C1] 26)) w1.heap.size [.slice A1 N1 C1] := Bl.new' (by simp) (by simp)
  go_wp2_with fail
  obtain ⟨w2, hX⟩ : ∃ u : World, u = w1.alloc (.cells #[.slice A1 N1 C1] 26) := ⟨_, rfl⟩
  have szX := hid (show w2.heap.size = w1.heap.size + 1 by rw [hX]; simp)
  rw [← hX] at b2
  rw [← hX] at hc
  rw [← hX] at iG
  rw [← hX] at iS
  rw [← hX] at kw
  rw [← hX] at b9
  rw [← hX]
  clear hX
  have sX := szX.out
  have b9D := b9.keeps (keeps_d0 w2)
  have b2D := b2.keeps (keeps_d0 w2)
  have hcD := hc.keeps (keeps_d0 w2)
  have iGD := iG.keeps (keeps_d0 w2)
  have iSD := iS.keeps (keeps_d0 w2)
  have kwD := Keeps.trans kw (keeps_d0 w2)
  have sD : w2.drew.heap.size = w2.heap.size := rfl
  have cD := (b9D.2 0 _ rfl).1
  clear hc b9 b2 iG iS kw
  go_region_held3 (fun w' => w'.cell? ⟨w1.heap.size, 0, none⟩ = some (.slice A1 N1 C1)) (first | exact cD | exact cB | exact cF | go_keep)
    ((first | (go_at_call 110; refine (history_any hcD (by omega) iGD (by omega) iSD (by omega) HSD.out).mono ?_; rintro e wB ⟨R, n7, cr, cs, L, U, rs, rfl, hR, hrl, hr14, hcB, fB⟩; have b9B := b9D.fr fB (by omega); have b2B := b2D.fr fB (by omega); have z1 := (b2B.2 0 _ rfl).1; have z2 := (b2B.2 0 _ rfl).2; have cB := (b9B.2 0 _ rfl).1; have cF := ((b9B.far (p := ⟨w.heap.size, 0, none⟩) (by show w1.heap.size ≠ w.heap.size; omega) (.slice A1 N1 C1)).2 0 _ rfl).1)))
  have sB := fB.size
  obtain ⟨R8, cr8, eq8, hcr8, hRR⟩ := hR.rels (by omega) (by omega)
  injection eq8 with eq1 eq9 eq2
  subst eq1 eq2
  rw [hrl] at hRR hcr8
  have KW := hid (Below.setCell (below_fr kwD kwD.size (by omega) fB) (p := ⟨w.heap.size, 0, none⟩) (Nat.le_refl _) (.slice A1 N1 C1))
  have HI9 := hid (((iGD.fr fB (by omega)).fr (fr_one (p := w.heap.size) (i := 0) (.slice A1 N1 C1)) (by omega)).widen (lo' := w.heap.size) (hi' := (wB.setCell ⟨w.heap.size, 0, none⟩ (.slice A1 N1 C1)).heap.size) (by omega) (by simp [World.setCell]; omega) (Nat.le_refl _))
  have HV9 := hid (Sl.widen (lo' := w.heap.size) (hi' := (wB.setCell ⟨w.heap.size, 0, none⟩ (.slice A1 N1 C1)).heap.size) (Sl.fr (Sl.fr iSD fB (by omega)) (fr_one (p := w.heap.size) (i := 0) (.slice A1 N1 C1)) (by omega)) (by omega) (by simp [World.setCell]; omega) (Nat.le_refl _))
  have HR9 := hid (Rels.wide (lo' := w.heap.size) (hi' := (wB.setCell ⟨w.heap.size, 0, none⟩ (.slice A1 N1 C1)).heap.size) (hRR.fr (fr_one (p := w.heap.size) (i := 0) (.slice A1 N1 C1)) (by omega)) (by omega) (by simp [World.setCell]) (Nat.le_refl _))
  have HCR := hid hcr8
  have B2 := b2B.set 0 (.slice A1 N1 C1)
  have c9 := (B2.2 0 _ rfl).1
  clear hR hRR hcr8 hcB fB b9B b2B b9D b2D hcD iGD iSD cD cB cF z1 z2 kwD B2 eq9
  go_wp2_with fail
  try simp only [Exit.inBlock, Exit.then]
  exact bodyPost_ret (v := .tuple #[.agg #[.slice A1 N1 C1], .slice S1 q cq, .slice R n7 cr]) (by simp [results, Tryz.results62, go_sem, c9]) rfl ⟨_, _, _, _, _, _, _, _, _, _, _, rs, rfl, HI9.out, by omega, HV9.out, HCAP.out, HSD.out, HR9.out, HCR.out, by omega, KW.out⟩
set_option maxRecDepth 100000 in
set_option maxHeartbeats 12800000 in
theorem DrawFirstOverrun_any {A : Option Addr} {hi n c : Nat} {w : World} (hb : Bytes w hi A n) :
    Calls Tryz.prog 17 #[.slice A n c] w (DrawsHo w) := by
  go_enter Tryz.func17, Tryz.ntmps17
  have kw := keeps_refl w
  replace kw := Keeps.trans kw (keeps_alloc w (.cells #[.slice none 0 0] 26))
  have b2 : Bl (w.alloc (.cells #[.slice none 0 0] 26)) (w.heap.size) [.slice none 0 0] := Bl.new' (by simp) (by simp)
  replace b2 := b2.keeps (keeps_alloc (w.alloc (.cells #[.slice none 0 0] 26)) (.cells #[.int .i64 0, .int .i64 0, .int .i64 0, .int .i64 0] 32))
  replace kw := Keeps.trans kw (keeps_alloc (w.alloc (.cells #[.slice none 0 0] 26)) (.cells #[.int .i64 0, .int .i64 0, .int .i64 0, .int .i64 0] 32))
  have b5 : Bl ((w.alloc (.cells #[.slice none 0 0] 26)).alloc (.cells #[.int .i64 0, .int .i64 0, .int .i64 0, .int .i64 0] 32)) (w.heap.size + 1) [.int .i64 0, .int .i64 0, .int .i64 0, .int .i64 0] := Bl.new' (by simp) (by simp)
  have hc := Cur.new (t := 105) (c := c) (hb.keeps kw)
  rw [show ((w.alloc (.cells #[.slice none 0 0] 26)).alloc (.cells #[.int .i64 0, .int .i64 0, .int .i64 0, .int .i64 0] 32)).heap.size = w.heap.size + 1 + 1 by simp] at hc
  replace b2 := b2.keeps (keeps_alloc ((w.alloc (.cells #[.slice none 0 0] 26)).alloc (.cells #[.int .i64 0, .int .i64 0, .int .i64 0, .int .i64 0] 32)) (.cells #[.slice A n c, .int .i64 0, .int .u64 0] 105))
  replace b5 := b5.keeps (keeps_alloc ((w.alloc (.cells #[.slice none 0 0] 26)).alloc (.cells #[.int .i64 0, .int .i64 0, .int .i64 0, .int .i64 0] 32)) (.cells #[.slice A n c, .int .i64 0, .int .u64 0] 105))
  replace kw := Keeps.trans kw (keeps_alloc ((w.alloc (.cells #[.slice none 0 0] 26)).alloc (.cells #[.int .i64 0, .int .i64 0, .int .i64 0, .int .i64 0] 32)) (.cells #[.slice A n c, .int .i64 0, .int .u64 0] 105))
  have hbW := hb.keeps kw
  have E0 := hid (show (((w.alloc (.cells #[.slice none 0 0] 26)).alloc (.cells #[.int .i64 0, .int .i64 0, .int .i64 0, .int .i64 0] 32)).alloc (.cells #[.slice A n c, .int .i64 0, .int .u64 0] 105)).heap.size = w.heap.size + 3 by simp)
  go_wp2_with fail
  refine (DrawIsHistory_any hbW).mono ?_
  rintro e w1 ⟨A1, N1, C1, ps, S1, q, cq, l, R, n7, cr, rs, rfl, iG, hN, iS, hcap, hSD, hR, hcr, hr14, kk⟩
  have sf1 := kk.size
  rw [E0.out] at iG iS hR sf1
  replace kw : Keeps w w1 := Keeps.trans kw kk
  replace hc := hc.keeps kk
  replace b2 := b2.keeps kk
  replace b5 := b5.keeps kk
  have HSD := hid hSD
  have HCAP := hid hcap
  have HCR := hid hcr
  clear kk hSD hcap hcr E0 hbW
  replace b2 := b2.keeps (keeps_alloc w1 (.cells #[.slice A1 N1 C1] 26))
  replace b5 := b5.keeps (keeps_alloc w1 (.cells #[.slice A1 N1 C1] 26))
  replace hc := hc.keeps (keeps_alloc w1 (.cells #[.slice A1 N1 C1] 26))
  replace iG := iG.keeps (keeps_alloc w1 (.cells #[.slice A1 N1 C1] 26))
  replace iS := iS.keeps (keeps_alloc w1 (.cells #[.slice A1 N1 C1] 26))
  replace hR := hR.keeps (keeps_alloc w1 (.cells #[.slice A1 N1 C1] 26))
  replace kw := Keeps.trans kw (keeps_alloc w1 (.cells #[.slice A1 N1 C1] 26))
  have b9 : Bl (w1.alloc (.cells #[.slice A1 N1 C1] 26)) w1.heap.size [.slice A1 N1 C1] := Bl.new' (by simp) (by simp)
  go_wp2_with fail
  obtain ⟨w2, hX⟩ : ∃ u : World, u = w1.alloc (.cells #[.slice A1 N1 C1] 26) := ⟨_, rfl⟩
  have szX := hid (show w2.heap.size = w1.heap.size + 1 by rw [hX]; simp)
  rw [← hX] at b2
  rw [← hX] at b5
  rw [← hX] at hc
  rw [← hX] at iG
  rw [← hX] at iS
  rw [← hX] at hR
  rw [← hX] at kw
  rw [← hX] at b9
  rw [← hX]
  clear hX
  have sX := szX.out
  have sD : w2.drew.heap.size = w2.heap.size := rfl
  have hcD := hc.keeps (keeps_d0 w2)
  have iGD := iG.keeps (keeps_d0 w2)
  have iSD := iS.keeps (keeps_d0 w2)
  have hRD := hR.keeps (keeps_d0 w2)
  have kwD := Keeps.trans kw (keeps_d0 w2)
  have b2D := b2.keeps (keeps_d0 w2)
  have b5D := b5.keeps (keeps_d0 w2)
  have b9D := b9.keeps (keeps_d0 w2)
  have cD := (b9D.2 0 _ rfl).1
  have F0 := Fr.refl w.heap.size (w.heap.size + 3) w2.drew
  clear hc iG iS hR kw b2 b5 b9
  go_region_held3 (fun w' => w'.cell? ⟨w1.heap.size, 0, none⟩ = some (.slice A1 N1 C1)) (first | with_reducible exact cD | with_reducible exact cA | with_reducible exact cF0 | with_reducible exact cF1 | go_keep)
    ((first | (go_at_call 63; refine (budget_any hcD (by omega)).mono ?_; rintro e wA ⟨a, b, c5, d, rfl, hcA, fA⟩; have sA := fA.size; have FA := Fr.trans F0 (fA.widen (lo' := w.heap.size) (hi' := w.heap.size + 3) (by omega) (by omega)); have b2A := b2D.fr fA (by omega); have b5A := b5D.fr fA (by omega); have b9A := b9D.fr fA (by omega); have cA := (b9A.2 0 _ rfl).1; have zb2_0 := (b2A.2 0 _ rfl).1; have yb2_0 := (b2A.2 0 _ rfl).2; have zb5_0 := (b5A.2 0 _ rfl).1; have yb5_0 := (b5A.2 0 _ rfl).2; have zb5_1 := (b5A.2 1 _ rfl).1; have yb5_1 := (b5A.2 1 _ rfl).2; have zb5_2 := (b5A.2 2 _ rfl).1; have yb5_2 := (b5A.2 2 _ rfl).2; have zb5_3 := (b5A.2 3 _ rfl).1; have yb5_3 := (b5A.2 3 _ rfl).2; have cF0 := ((b9A.far (p := ⟨w.heap.size, 0, none⟩) (by show w1.heap.size ≠ w.heap.size; omega) (.slice A1 N1 C1)).2 0 _ rfl).1; have cF1 := ((((((b9A.far (p := ⟨w.heap.size, 0, none⟩) (by show w1.heap.size ≠ w.heap.size; omega) (.slice A1 N1 C1)).far (p := ⟨w.heap.size + 1, 0, none⟩) (by show w1.heap.size ≠ w.heap.size + 1; omega) (.int .i64 a)).far (p := ⟨w.heap.size + 1, 1, none⟩) (by show w1.heap.size ≠ w.heap.size + 1; omega) (.int .i64 b)).far (p := ⟨w.heap.size + 1, 2, none⟩) (by show w1.heap.size ≠ w.heap.size + 1; omega) (.int .i64 c5)).far (p := ⟨w.heap.size + 1, 3, none⟩) (by show w1.heap.size ≠ w.heap.size + 1; omega) (.int .i64 d)).2 0 _ rfl).1)))
  have FZ := hid (Fr.setCell (Fr.setCell (Fr.setCell (Fr.setCell (Fr.setCell FA (p := ⟨w.heap.size, 0, none⟩) (by show w.heap.size ≤ w.heap.size; omega) (by show w.heap.size < w.heap.size + 3; omega) (.slice A1 N1 C1)) (p := ⟨w.heap.size + 1, 0, none⟩) (by show w.heap.size ≤ w.heap.size + 1; omega) (by show w.heap.size + 1 < w.heap.size + 3; omega) (.int .i64 a)) (p := ⟨w.heap.size + 1, 1, none⟩) (by show w.heap.size ≤ w.heap.size + 1; omega) (by show w.heap.size + 1 < w.heap.size + 3; omega) (.int .i64 b)) (p := ⟨w.heap.size + 1, 2, none⟩) (by show w.heap.size ≤ w.heap.size + 1; omega) (by show w.heap.size + 1 < w.heap.size + 3; omega) (.int .i64 c5)) (p := ⟨w.heap.size + 1, 3, none⟩) (by show w.heap.size ≤ w.heap.size + 1; omega) (by show w.heap.size + 1 < w.heap.size + 3; omega) (.int .i64 d))
  have sZ : (((((wA.setCell ⟨w.heap.size, 0, none⟩ (.slice A1 N1 C1)).setCell ⟨w.heap.size + 1, 0, none⟩ (.int .i64 a)).setCell ⟨w.heap.size + 1, 1, none⟩ (.int .i64 b)).setCell ⟨w.heap.size + 1, 2, none⟩ (.int .i64 c5)).setCell ⟨w.heap.size + 1, 3, none⟩ (.int .i64 d)).heap.size = wA.heap.size := by simp [World.setCell]
  have Bb2 := hid (((((b2A.set 0 (.slice A1 N1 C1)).far (p := ⟨w.heap.size + 1, 0, none⟩) (by show w.heap.size ≠ w.heap.size + 1; omega) (.int .i64 a)).far (p := ⟨w.heap.size + 1, 1, none⟩) (by show w.heap.size ≠ w.heap.size + 1; omega) (.int .i64 b)).far (p := ⟨w.heap.size + 1, 2, none⟩) (by show w.heap.size ≠ w.heap.size + 1; omega) (.int .i64 c5)).far (p := ⟨w.heap.size + 1, 3, none⟩) (by show w.heap.size ≠ w.heap.size + 1; omega) (.int .i64 d))
  have Bb5 := hid (((((b5A.far (p := ⟨w.heap.size, 0, none⟩) (by show w.heap.size + 1 ≠ w.heap.size; omega) (.slice A1 N1 C1)).set 0 (.int .i64 a)).set 1 (.int .i64 b)).set 2 (.int .i64 c5)).set 3 (.int .i64 d))
  have KW := hid (show Keeps w (((((wA.setCell ⟨w.heap.size, 0, none⟩ (.slice A1 N1 C1)).setCell ⟨w.heap.size + 1, 0, none⟩ (.int .i64 a)).setCell ⟨w.heap.size + 1, 1, none⟩ (.int .i64 b)).setCell ⟨w.heap.size + 1, 2, none⟩ (.int .i64 c5)).setCell ⟨w.heap.size + 1, 3, none⟩ (.int .i64 d)) from below_fr kwD kwD.size (Nat.le_refl _) FZ.out)
  have HI9 := hid ((iGD.fr FZ.out (by omega)).widen (lo' := w.heap.size) (hi' := (((((wA.setCell ⟨w.heap.size, 0, none⟩ (.slice A1 N1 C1)).setCell ⟨w.heap.size + 1, 0, none⟩ (.int .i64 a)).setCell ⟨w.heap.size + 1, 1, none⟩ (.int .i64 b)).setCell ⟨w.heap.size + 1, 2, none⟩ (.int .i64 c5)).setCell ⟨w.heap.size + 1, 3, none⟩ (.int .i64 d)).heap.size) (by omega) (by omega) (Nat.le_refl _))
  have HV9 := hid (Sl.widen (lo' := w.heap.size) (hi' := (((((wA.setCell ⟨w.heap.size, 0, none⟩ (.slice A1 N1 C1)).setCell ⟨w.heap.size + 1, 0, none⟩ (.int .i64 a)).setCell ⟨w.heap.size + 1, 1, none⟩ (.int .i64 b)).setCell ⟨w.heap.size + 1, 2, none⟩ (.int .i64 c5)).setCell ⟨w.heap.size + 1, 3, none⟩ (.int .i64 d)).heap.size) (Sl.fr iSD FZ.out (by omega)) (by omega) (by omega) (Nat.le_refl _))
  have HR9 := hid (Rels.wide (lo' := w.heap.size) (hi' := (((((wA.setCell ⟨w.heap.size, 0, none⟩ (.slice A1 N1 C1)).setCell ⟨w.heap.size + 1, 0, none⟩ (.int .i64 a)).setCell ⟨w.heap.size + 1, 1, none⟩ (.int .i64 b)).setCell ⟨w.heap.size + 1, 2, none⟩ (.int .i64 c5)).setCell ⟨w.heap.size + 1, 3, none⟩ (.int .i64 d)).heap.size) (hRD.fr FZ.out (by omega)) (by omega) (by omega) (Nat.le_refl _))
  have qb2_0 : (((((wA.setCell ⟨w.heap.size, 0, none⟩ (.slice A1 N1 C1)).setCell ⟨w.heap.size + 1, 0, none⟩ (.int .i64 a)).setCell ⟨w.heap.size + 1, 1, none⟩ (.int .i64 b)).setCell ⟨w.heap.size + 1, 2, none⟩ (.int .i64 c5)).setCell ⟨w.heap.size + 1, 3, none⟩ (.int .i64 d)).cell? ⟨w.heap.size, 0, none⟩ = some (.slice A1 N1 C1) := (Bb2.out.2 0 _ rfl).1
  have qb5_0 : (((((wA.setCell ⟨w.heap.size, 0, none⟩ (.slice A1 N1 C1)).setCell ⟨w.heap.size + 1, 0, none⟩ (.int .i64 a)).setCell ⟨w.heap.size + 1, 1, none⟩ (.int .i64 b)).setCell ⟨w.heap.size + 1, 2, none⟩ (.int .i64 c5)).setCell ⟨w.heap.size + 1, 3, none⟩ (.int .i64 d)).cell? ⟨w.heap.size + 1, 0, none⟩ = some (.int .i64 a) := (Bb5.out.2 0 _ rfl).1
  have qb5_1 : (((((wA.setCell ⟨w.heap.size, 0, none⟩ (.slice A1 N1 C1)).setCell ⟨w.heap.size + 1, 0, none⟩ (.int .i64 a)).setCell ⟨w.heap.size + 1, 1, none⟩ (.int .i64 b)).setCell ⟨w.heap.size + 1, 2, none⟩ (.int .i64 c5)).setCell ⟨w.heap.size + 1, 3, none⟩ (.int .i64 d)).cell? ⟨w.heap.size + 1, 1, none⟩ = some (.int .i64 b) := (Bb5.out.2 1 _ rfl).1
  have qb5_2 : (((((wA.setCell ⟨w.heap.size, 0, none⟩ (.slice A1 N1 C1)).setCell ⟨w.heap.size + 1, 0, none⟩ (.int .i64 a)).setCell ⟨w.heap.size + 1, 1, none⟩ (.int .i64 b)).setCell ⟨w.heap.size + 1, 2, none⟩ (.int .i64 c5)).setCell ⟨w.heap.size + 1, 3, none⟩ (.int .i64 d)).cell? ⟨w.heap.size + 1, 2, none⟩ = some (.int .i64 c5) := (Bb5.out.2 2 _ rfl).1
  have qb5_3 : (((((wA.setCell ⟨w.heap.size, 0, none⟩ (.slice A1 N1 C1)).setCell ⟨w.heap.size + 1, 0, none⟩ (.int .i64 a)).setCell ⟨w.heap.size + 1, 1, none⟩ (.int .i64 b)).setCell ⟨w.heap.size + 1, 2, none⟩ (.int .i64 c5)).setCell ⟨w.heap.size + 1, 3, none⟩ (.int .i64 d)).cell? ⟨w.heap.size + 1, 3, none⟩ = some (.int .i64 d) := (Bb5.out.2 3 _ rfl).1
  clear hcD iGD iSD hRD kwD F0 cD FZ b2D b5D b9D hcA fA FA cA b2A b5A b9A zb2_0 yb2_0 zb5_0 yb5_0 zb5_1 yb5_1 zb5_2 yb5_2 zb5_3 yb5_3 cF0 cF1
  go_wp2_with fail
  try simp only [Exit.inBlock, Exit.then]
  exact bodyPost_ret (v := .tuple #[.agg #[.slice A1 N1 C1], .slice S1 q cq, .slice R n7 cr, .agg #[.int .i64 a, .int .i64 b, .int .i64 c5, .int .i64 d]]) (by simp [results, Tryz.results17, go_sem, qb2_0, qb5_0, qb5_1, qb5_2, qb5_3]) rfl ⟨_, _, _, _, _, _, _, _, _, _, _, rs, _, _, _, _, rfl, HI9.out, hN, HV9.out, HCAP.out, HSD.out, HR9.out, HCR.out, hr14, KW.out⟩
set_option maxRecDepth 100000 in
set_option maxHeartbeats 12800000 in
theorem DrawCanAdd_any {A : Option Addr} {hi n c : Nat} {w : World} (hb : Bytes w hi A n) :
    Calls Tryz.prog 47 #[.slice A n c] w (DrawsHc w) := by
  go_enter Tryz.func47, Tryz.ntmps47
  have kw := keeps_refl w
  replace kw := Keeps.trans kw (keeps_alloc w (.cells #[.slice none 0 0] 26))
  have b2 : Bl (w.alloc (.cells #[.slice none 0 0] 26)) (w.heap.size) [.slice none 0 0] := Bl.new' (by simp) (by simp)
  replace b2 := b2.keeps (keeps_alloc (w.alloc (.cells #[.slice none 0 0] 26)) (.cells #[.int .i64 0, .int .i64 0, .int .i64 0, .int .i64 0] 32))
  replace kw := Keeps.trans kw (keeps_alloc (w.alloc (.cells #[.slice none 0 0] 26)) (.cells #[.int .i64 0, .int .i64 0, .int .i64 0, .int .i64 0] 32))
  have b5 : Bl ((w.alloc (.cells #[.slice none 0 0] 26)).alloc (.cells #[.int .i64 0, .int .i64 0, .int .i64 0, .int .i64 0] 32)) (w.heap.size + 1) [.int .i64 0, .int .i64 0, .int .i64 0, .int .i64 0] := Bl.new' (by simp) (by simp)
  replace b2 := b2.keeps (keeps_alloc ((w.alloc (.cells #[.slice none 0 0] 26)).alloc (.cells #[.int .i64 0, .int .i64 0, .int .i64 0, .int .i64 0] 32)) (.cells #[.int .i64 0, .int .i64 0, .int .i64 0, .int .i64 0] 32))
  replace b5 := b5.keeps (keeps_alloc ((w.alloc (.cells #[.slice none 0 0] 26)).alloc (.cells #[.int .i64 0, .int .i64 0, .int .i64 0, .int .i64 0] 32)) (.cells #[.int .i64 0, .int .i64 0, .int .i64 0, .int .i64 0] 32))
  replace kw := Keeps.trans kw (keeps_alloc ((w.alloc (.cells #[.slice none 0 0] 26)).alloc (.cells #[.int .i64 0, .int .i64 0, .int .i64 0, .int .i64 0] 32)) (.cells #[.int .i64 0, .int .i64 0, .int .i64 0, .int .i64 0] 32))
  have b7 : Bl (((w.alloc (.cells #[.slice none 0 0] 26)).alloc (.cells #[.int .i64 0, .int .i64 0, .int .i64 0, .int .i64 0] 32)).alloc (.cells #[.int .i64 0, .int .i64 0, .int .i64 0, .int .i64 0] 32)) (w.heap.size + 1 + 1) [.int .i64 0, .int .i64 0, .int .i64 0, .int .i64 0] := Bl.new' (by simp) (by simp)
  have hc := Cur.new (t := 105) (c := c) (hb.keeps kw)
  rw [show (((w.alloc (.cells #[.slice none 0 0] 26)).alloc (.cells #[.int .i64 0, .int .i64 0, .int .i64 0, .int .i64 0] 32)).alloc (.cells #[.int .i64 0, .int .i64 0, .int .i64 0, .int .i64 0] 32)).heap.size = w.heap.size + 1 + 1 + 1 by simp] at hc
  replace b2 := b2.keeps (keeps_alloc (((w.alloc (.cells #[.slice none 0 0] 26)).alloc (.cells #[.int .i64 0, .int .i64 0, .int .i64 0, .int .i64 0] 32)).alloc (.cells #[.int .i64 0, .int .i64 0, .int .i64 0, .int .i64 0] 32)) (.cells #[.slice A n c, .int .i64 0, .int .u64 0] 105))
  replace b5 := b5.keeps (keeps_alloc (((w.alloc (.cells #[.slice none 0 0] 26)).alloc (.cells #[.int .i64 0, .int .i64 0, .int .i64 0, .int .i64 0] 32)).alloc (.cells #[.int .i64 0, .int .i64 0, .int .i64 0, .int .i64 0] 32)) (.cells #[.slice A n c, .int .i64 0, .int .u64 0] 105))
  replace b7 := b7.keeps (keeps_alloc (((w.alloc (.cells #[.slice none 0 0] 26)).alloc (.cells #[.int .i64 0, .int .i64 0, .int .i64 0, .int .i64 0] 32)).alloc (.cells #[.int .i64 0, .int .i64 0, .int .i64 0, .int .i64 0] 32)) (.cells #[.slice A n c, .int .i64 0, .int .u64 0] 105))
  replace kw := Keeps.trans kw (keeps_alloc (((w.alloc (.cells #[.slice none 0 0] 26)).alloc (.cells #[.int .i64 0, .int .i64 0, .int .i64 0, .int .i64 0] 32)).alloc (.cells #[.int .i64 0, .int .i64 0, .int .i64 0, .int .i64 0] 32)) (.cells #[.slice A n c, .int .i64 0, .int .u64 0] 105))
  have hbW := hb.keeps kw
  have E0 := hid (show ((((w.alloc (.cells #[.slice none 0 0] 26)).alloc (.cells #[.int .i64 0, .int .i64 0, .int .i64 0, .int .i64 0] 32)).alloc (.cells #[.int .i64 0, .int .i64 0, .int .i64 0, .int .i64 0] 32)).alloc (.cells #[.slice A n c, .int .i64 0, .int .u64 0] 105)).heap.size = w.heap.size + 4 by simp)
  go_wp2_with fail
  refine (DrawIsHistory_any hbW).mono ?_
  rintro e w1 ⟨A1, N1, C1, ps, S1, q, cq, l, R, n7, cr, rs, rfl, iG, hN, iS, hcap, hSD, hR, hcr, hr14, kk⟩
  have sf1 := kk.size
  rw [E0.out] at iG iS hR sf1
  replace kw : Keeps w w1 := Keeps.trans kw kk
  replace hc := hc.keeps kk
  replace b2 := b2.keeps kk
  replace b5 := b5.keeps kk
  replace b7 := b7.keeps kk
  have HSD := hid hSD
  have HCAP := hid hcap
  have HCR := hid hcr
  clear kk hSD hcap hcr E0 hbW
  replace b2 := b2.keeps (keeps_alloc w1 (.cells #[.slice A1 N1 C1] 26))
  replace b5 := b5.keeps (keeps_alloc w1 (.cells #[.slice A1 N1 C1] 26))
  replace b7 := b7.keeps (keeps_alloc w1 (.cells #[.slice A1 N1 C1] 26))
  replace hc := hc.keeps (keeps_alloc w1 (.cells #[.slice A1 N1 C1] 26))
  replace iG := iG.keeps (keeps_alloc w1 (.cells #[.slice A1 N1 C1] 26))
  replace iS := iS.keeps (keeps_alloc w1 (.cells #[.slice A1 N1 C1] 26))
  replace hR := hR.keeps (keeps_alloc w1 (.cells #[.slice A1 N1 C1] 26))
  replace kw := Keeps.trans kw (keeps_alloc w1 (.cells #[.slice A1 N1 C1] 26))
  have b9 : Bl (w1.alloc (.cells #[.slice A1 N1 C1] 26)) w1.heap.size [.slice A1 N1 C1] := Bl.new' (by simp) (by simp)
  go_wp2_with fail
  obtain ⟨w2, hX⟩ : ∃ u : World, u = w1.alloc (.cells #[.slice A1 N1 C1] 26) := ⟨_, rfl⟩
  have szX := hid (show w2.heap.size = w1.heap.size + 1 by rw [hX]; simp)
  rw [← hX] at b2
  rw [← hX] at b5
  rw [← hX] at b7
  rw [← hX] at hc
  rw [← hX] at iG
  rw [← hX] at iS
  rw [← hX] at hR
  rw [← hX] at kw
  rw [← hX] at b9
  rw [← hX]
  clear hX
  have sX := szX.out
  have sD : w2.drew.heap.size = w2.heap.size := rfl
  have hcD := hc.keeps (keeps_d0 w2)
  have iGD := iG.keeps (keeps_d0 w2)
  have iSD := iS.keeps (keeps_d0 w2)
  have hRD := hR.keeps (keeps_d0 w2)
  have kwD := Keeps.trans kw (keeps_d0 w2)
  have b2D := b2.keeps (keeps_d0 w2)
  have b5D := b5.keeps (keeps_d0 w2)
  have b7D := b7.keeps (keeps_d0 w2)
  have b9D := b9.keeps (keeps_d0 w2)
  have cD := (b9D.2 0 _ rfl).1
  have F0 := Fr.refl w.heap.size (w.heap.size + 4) w2.drew
  clear hc iG iS hR kw b2 b5 b7 b9
  go_region_held3 (fun w' => w'.cell? ⟨w1.heap.size, 0, none⟩ = some (.slice A1 N1 C1)) (first | with_reducible exact cD | with_reducible exact cA | with_reducible exact cB | with_reducible exact cC | with_reducible exact cF0 | with_reducible exact cF1 | with_reducible exact cF2 | go_keep)
    ((first | (go_at_call 63; refine (budget_any hcD (by omega)).mono ?_; rintro e wA ⟨a, b, c5, d, rfl, hcA, fA⟩; have sA := fA.size; have FA := Fr.trans F0 (fA.widen (lo' := w.heap.size) (hi' := w.heap.size + 4) (by omega) (by omega)); have b2A := b2D.fr fA (by omega); have b5A := b5D.fr fA (by omega); have b7A := b7D.fr fA (by omega); have b9A := b9D.fr fA (by omega); have cA := (b9A.2 0 _ rfl).1) | (go_at_call 94; refine (tables_any hcA (by omega) (iGD.fr FA (by omega)) (by omega) (Sl.fr iSD FA (by omega)) (by omega) HSD.out).mono ?_; rintro e wB ⟨P, m, cm, cs, L, U, ts, rfl, hT, htl, ht21, hcB, fB⟩; have sB := fB.size; have FB := Fr.trans FA (fB.widen (lo' := w.heap.size) (hi' := w.heap.size + 4) (by omega) (by omega)); have b2B := b2A.fr fB (by omega); have b5B := b5A.fr fB (by omega); have b7B := b7A.fr fB (by omega); have b9B := b9A.fr fB (by omega); have cB := (b9B.2 0 _ rfl).1; have hT1 := hid hT) | (go_at_call 95; refine (loss_any hcB (by omega)).mono ?_; rintro e wC ⟨y1, y2, y3, y4, rfl, hcC, fC⟩; have sC := fC.size; have FC := Fr.trans FB (fC.widen (lo' := w.heap.size) (hi' := w.heap.size + 4) (by omega) (by omega)); have b2C := b2B.fr fC (by omega); have b5C := b5B.fr fC (by omega); have b7C := b7B.fr fC (by omega); have b9C := b9B.fr fC (by omega); have cC := (b9C.2 0 _ rfl).1; have zb2_0 := (b2C.2 0 _ rfl).1; have yb2_0 := (b2C.2 0 _ rfl).2; have zb5_0 := (b5C.2 0 _ rfl).1; have yb5_0 := (b5C.2 0 _ rfl).2; have zb5_1 := (b5C.2 1 _ rfl).1; have yb5_1 := (b5C.2 1 _ rfl).2; have zb5_2 := (b5C.2 2 _ rfl).1; have yb5_2 := (b5C.2 2 _ rfl).2; have zb5_3 := (b5C.2 3 _ rfl).1; have yb5_3 := (b5C.2 3 _ rfl).2; have zb7_0 := (b7C.2 0 _ rfl).1; have yb7_0 := (b7C.2 0 _ rfl).2; have zb7_1 := (b7C.2 1 _ rfl).1; have yb7_1 := (b7C.2 1 _ rfl).2; have zb7_2 := (b7C.2 2 _ rfl).1; have yb7_2 := (b7C.2 2 _ rfl).2; have zb7_3 := (b7C.2 3 _ rfl).1; have yb7_3 := (b7C.2 3 _ rfl).2; have cF0 := ((b9C.far (p := ⟨w.heap.size, 0, none⟩) (by show w1.heap.size ≠ w.heap.size; omega) (.slice A1 N1 C1)).2 0 _ rfl).1; have cF1 := ((((((b9C.far (p := ⟨w.heap.size, 0, none⟩) (by show w1.heap.size ≠ w.heap.size; omega) (.slice A1 N1 C1)).far (p := ⟨w.heap.size + 1, 0, none⟩) (by show w1.heap.size ≠ w.heap.size + 1; omega) (.int .i64 a)).far (p := ⟨w.heap.size + 1, 1, none⟩) (by show w1.heap.size ≠ w.heap.size + 1; omega) (.int .i64 b)).far (p := ⟨w.heap.size + 1, 2, none⟩) (by show w1.heap.size ≠ w.heap.size + 1; omega) (.int .i64 c5)).far (p := ⟨w.heap.size + 1, 3, none⟩) (by show w1.heap.size ≠ w.heap.size + 1; omega) (.int .i64 d)).2 0 _ rfl).1; have cF2 := ((((((((((b9C.far (p := ⟨w.heap.size, 0, none⟩) (by show w1.heap.size ≠ w.heap.size; omega) (.slice A1 N1 C1)).far (p := ⟨w.heap.size + 1, 0, none⟩) (by show w1.heap.size ≠ w.heap.size + 1; omega) (.int .i64 a)).far (p := ⟨w.heap.size + 1, 1, none⟩) (by show w1.heap.size ≠ w.heap.size + 1; omega) (.int .i64 b)).far (p := ⟨w.heap.size + 1, 2, none⟩) (by show w1.heap.size ≠ w.heap.size + 1; omega) (.int .i64 c5)).far (p := ⟨w.heap.size + 1, 3, none⟩) (by show w1.heap.size ≠ w.heap.size + 1; omega) (.int .i64 d)).far (p := ⟨w.heap.size + 1 + 1, 0, none⟩) (by show w1.heap.size ≠ w.heap.size + 1 + 1; omega) (.int .i64 y1)).far (p := ⟨w.heap.size + 1 + 1, 1, none⟩) (by show w1.heap.size ≠ w.heap.size + 1 + 1; omega) (.int .i64 y2)).far (p := ⟨w.heap.size + 1 + 1, 2, none⟩) (by show w1.heap.size ≠ w.heap.size + 1 + 1; omega) (.int .i64 y3)).far (p := ⟨w.heap.size + 1 + 1, 3, none⟩) (by show w1.heap.size ≠ w.heap.size + 1 + 1; omega) (.int .i64 y4)).2 0 _ rfl).1)))
  have FZ := hid (Fr.setCell (Fr.setCell (Fr.setCell (Fr.setCell (Fr.setCell (Fr.setCell (Fr.setCell (Fr.setCell (Fr.setCell FC (p := ⟨w.heap.size, 0, none⟩) (by show w.heap.size ≤ w.heap.size; omega) (by show w.heap.size < w.heap.size + 4; omega) (.slice A1 N1 C1)) (p := ⟨w.heap.size + 1, 0, none⟩) (by show w.heap.size ≤ w.heap.size + 1; omega) (by show w.heap.size + 1 < w.heap.size + 4; omega) (.int .i64 a)) (p := ⟨w.heap.size + 1, 1, none⟩) (by show w.heap.size ≤ w.heap.size + 1; omega) (by show w.heap.size + 1 < w.heap.size + 4; omega) (.int .i64 b)) (p := ⟨w.heap.size + 1, 2, none⟩) (by show w.heap.size ≤ w.heap.size + 1; omega) (by show w.heap.size + 1 < w.heap.size + 4; omega) (.int .i64 c5)) (p := ⟨w.heap.size + 1, 3, none⟩) (by show w.heap.size ≤ w.heap.size + 1; omega) (by show w.heap.size + 1 < w.heap.size + 4; omega) (.int .i64 d)) (p := ⟨w.heap.size + 1 + 1, 0, none⟩) (by show w.heap.size ≤ w.heap.size + 1 + 1; omega) (by show w.heap.size + 1 + 1 < w.heap.size + 4; omega) (.int .i64 y1)) (p := ⟨w.heap.size + 1 + 1, 1, none⟩) (by show w.heap.size ≤ w.heap.size + 1 + 1; omega) (by show w.heap.size + 1 + 1 < w.heap.size + 4; omega) (.int .i64 y2)) (p := ⟨w.heap.size + 1 + 1, 2, none⟩) (by show w.heap.size ≤ w.heap.size + 1 + 1; omega) (by show w.heap.size + 1 + 1 < w.heap.size + 4; omega) (.int .i64 y3)) (p := ⟨w.heap.size + 1 + 1, 3, none⟩) (by show w.heap.size ≤ w.heap.size + 1 + 1; omega) (by show w.heap.size + 1 + 1 < w.heap.size + 4; omega) (.int .i64 y4))
  have sZ : (((((((((wC.setCell ⟨w.heap.size, 0, none⟩ (.slice A1 N1 C1)).setCell ⟨w.heap.size + 1, 0, none⟩ (.int .i64 a)).setCell ⟨w.heap.size + 1, 1, none⟩ (.int .i64 b)).setCell ⟨w.heap.size + 1, 2, none⟩ (.int .i64 c5)).setCell ⟨w.heap.size + 1, 3, none⟩ (.int .i64 d)).setCell ⟨w.heap.size + 1 + 1, 0, none⟩ (.int .i64 y1)).setCell ⟨w.heap.size + 1 + 1, 1, none⟩ (.int .i64 y2)).setCell ⟨w.heap.size + 1 + 1, 2, none⟩ (.int .i64 y3)).setCell ⟨w.heap.size + 1 + 1, 3, none⟩ (.int .i64 y4)).heap.size = wC.heap.size := by simp [World.setCell]
  have Bb2 := hid (((((((((b2C.set 0 (.slice A1 N1 C1)).far (p := ⟨w.heap.size + 1, 0, none⟩) (by show w.heap.size ≠ w.heap.size + 1; omega) (.int .i64 a)).far (p := ⟨w.heap.size + 1, 1, none⟩) (by show w.heap.size ≠ w.heap.size + 1; omega) (.int .i64 b)).far (p := ⟨w.heap.size + 1, 2, none⟩) (by show w.heap.size ≠ w.heap.size + 1; omega) (.int .i64 c5)).far (p := ⟨w.heap.size + 1, 3, none⟩) (by show w.heap.size ≠ w.heap.size + 1; omega) (.int .i64 d)).far (p := ⟨w.heap.size + 1 + 1, 0, none⟩) (by show w.heap.size ≠ w.heap.size + 1 + 1; omega) (.int .i64 y1)).far (p := ⟨w.heap.size + 1 + 1, 1, none⟩) (by show w.heap.size ≠ w.heap.size + 1 + 1; omega) (.int .i64 y2)).far (p := ⟨w.heap.size + 1 + 1, 2, none⟩) (by show w.heap.size ≠ w.heap.size + 1 + 1; omega) (.int .i64 y3)).far (p := ⟨w.heap.size + 1 + 1, 3, none⟩) (by show w.heap.size ≠ w.heap.size + 1 + 1; omega) (.int .i64 y4))
  have Bb5 := hid (((((((((b5C.far (p := ⟨w.heap.size, 0, none⟩) (by show w.heap.size + 1 ≠ w.heap.size; omega) (.slice A1 N1 C1)).set 0 (.int .i64 a)).set 1 (.int .i64 b)).set 2 (.int .i64 c5)).set 3 (.int .i64 d)).far (p := ⟨w.heap.size + 1 + 1, 0, none⟩) (by show w.heap.size + 1 ≠ w.heap.size + 1 + 1; omega) (.int .i64 y1)).far (p := ⟨w.heap.size + 1 + 1, 1, none⟩) (by show w.heap.size + 1 ≠ w.heap.size + 1 + 1; omega) (.int .i64 y2)).far (p := ⟨w.heap.size + 1 + 1, 2, none⟩) (by show w.heap.size + 1 ≠ w.heap.size + 1 + 1; omega) (.int .i64 y3)).far (p := ⟨w.heap.size + 1 + 1, 3, none⟩) (by show w.heap.size + 1 ≠ w.heap.size + 1 + 1; omega) (.int .i64 y4))
  have Bb7 := hid (((((((((b7C.far (p := ⟨w.heap.size, 0, none⟩) (by show w.heap.size + 1 + 1 ≠ w.heap.size; omega) (.slice A1 N1 C1)).far (p := ⟨w.heap.size + 1, 0, none⟩) (by show w.heap.size + 1 + 1 ≠ w.heap.size + 1; omega) (.int .i64 a)).far (p := ⟨w.heap.size + 1, 1, none⟩) (by show w.heap.size + 1 + 1 ≠ w.heap.size + 1; omega) (.int .i64 b)).far (p := ⟨w.heap.size + 1, 2, none⟩) (by show w.heap.size + 1 + 1 ≠ w.heap.size + 1; omega) (.int .i64 c5)).far (p := ⟨w.heap.size + 1, 3, none⟩) (by show w.heap.size + 1 + 1 ≠ w.heap.size + 1; omega) (.int .i64 d)).set 0 (.int .i64 y1)).set 1 (.int .i64 y2)).set 2 (.int .i64 y3)).set 3 (.int .i64 y4))
  obtain ⟨P8, cm8, eq8, hcm8, hTT⟩ := hT1.out.tabs (by omega) (by omega)
  injection eq8 with eq1 eq9 eq2
  subst eq1 eq2
  rw [htl] at hTT hcm8
  have HCM := hid hcm8
  clear hcm8 eq9
  have HT9 := hid (Tabs.wide (lo' := w.heap.size) (hi' := (((((((((wC.setCell ⟨w.heap.size, 0, none⟩ (.slice A1 N1 C1)).setCell ⟨w.heap.size + 1, 0, none⟩ (.int .i64 a)).setCell ⟨w.heap.size + 1, 1, none⟩ (.int .i64 b)).setCell ⟨w.heap.size + 1, 2, none⟩ (.int .i64 c5)).setCell ⟨w.heap.size + 1, 3, none⟩ (.int .i64 d)).setCell ⟨w.heap.size + 1 + 1, 0, none⟩ (.int .i64 y1)).setCell ⟨w.heap.size + 1 + 1, 1, none⟩ (.int .i64 y2)).setCell ⟨w.heap.size + 1 + 1, 2, none⟩ (.int .i64 y3)).setCell ⟨w.heap.size + 1 + 1, 3, none⟩ (.int .i64 y4)).heap.size) (hTT.fr (Fr.setCell (Fr.setCell (Fr.setCell (Fr.setCell (Fr.setCell (Fr.setCell (Fr.setCell (Fr.setCell (Fr.setCell (fC.widen (lo' := w.heap.size) (hi' := w.heap.size + 4) (by omega) (by omega)) (p := ⟨w.heap.size, 0, none⟩) (by show w.heap.size ≤ w.heap.size; omega) (by show w.heap.size < w.heap.size + 4; omega) (.slice A1 N1 C1)) (p := ⟨w.heap.size + 1, 0, none⟩) (by show w.heap.size ≤ w.heap.size + 1; omega) (by show w.heap.size + 1 < w.heap.size + 4; omega) (.int .i64 a)) (p := ⟨w.heap.size + 1, 1, none⟩) (by show w.heap.size ≤ w.heap.size + 1; omega) (by show w.heap.size + 1 < w.heap.size + 4; omega) (.int .i64 b)) (p := ⟨w.heap.size + 1, 2, none⟩) (by show w.heap.size ≤ w.heap.size + 1; omega) (by show w.heap.size + 1 < w.heap.size + 4; omega) (.int .i64 c5)) (p := ⟨w.heap.size + 1, 3, none⟩) (by show w.heap.size ≤ w.heap.size + 1; omega) (by show w.heap.size + 1 < w.heap.size + 4; omega) (.int .i64 d)) (p := ⟨w.heap.size + 1 + 1, 0, none⟩) (by show w.heap.size ≤ w.heap.size + 1 + 1; omega) (by show w.heap.size + 1 + 1 < w.heap.size + 4; omega) (.int .i64 y1)) (p := ⟨w.heap.size + 1 + 1, 1, none⟩) (by show w.heap.size ≤ w.heap.size + 1 + 1; omega) (by show w.heap.size + 1 + 1 < w.heap.size + 4; omega) (.int .i64 y2)) (p := ⟨w.heap.size + 1 + 1, 2, none⟩) (by show w.heap.size ≤ w.heap.size + 1 + 1; omega) (by show w.heap.size + 1 + 1 < w.heap.size + 4; omega) (.int .i64 y3)) (p := ⟨w.heap.size + 1 + 1, 3, none⟩) (by show w.heap.size ≤ w.heap.size + 1 + 1; omega) (by show w.heap.size + 1 + 1 < w.heap.size + 4; omega) (.int .i64 y4)) (by omega)) (by omega) (by omega) (Nat.le_refl _))
  have KW := hid (show Keeps w (((((((((wC.setCell ⟨w.heap.size, 0, none⟩ (.slice A1 N1 C1)).setCell ⟨w.heap.size + 1, 0, none⟩ (.int .i64 a)).setCell ⟨w.heap.size + 1, 1, none⟩ (.int .i64 b)).setCell ⟨w.heap.size + 1, 2, none⟩ (.int .i64 c5)).setCell ⟨w.heap.size + 1, 3, none⟩ (.int .i64 d)).setCell ⟨w.heap.size + 1 + 1, 0, none⟩ (.int .i64 y1)).setCell ⟨w.heap.size + 1 + 1, 1, none⟩ (.int .i64 y2)).setCell ⟨w.heap.size + 1 + 1, 2, none⟩ (.int .i64 y3)).setCell ⟨w.heap.size + 1 + 1, 3, none⟩ (.int .i64 y4)) from below_fr kwD kwD.size (Nat.le_refl _) FZ.out)
  have HI9 := hid ((iGD.fr FZ.out (by omega)).widen (lo' := w.heap.size) (hi' := (((((((((wC.setCell ⟨w.heap.size, 0, none⟩ (.slice A1 N1 C1)).setCell ⟨w.heap.size + 1, 0, none⟩ (.int .i64 a)).setCell ⟨w.heap.size + 1, 1, none⟩ (.int .i64 b)).setCell ⟨w.heap.size + 1, 2, none⟩ (.int .i64 c5)).setCell ⟨w.heap.size + 1, 3, none⟩ (.int .i64 d)).setCell ⟨w.heap.size + 1 + 1, 0, none⟩ (.int .i64 y1)).setCell ⟨w.heap.size + 1 + 1, 1, none⟩ (.int .i64 y2)).setCell ⟨w.heap.size + 1 + 1, 2, none⟩ (.int .i64 y3)).setCell ⟨w.heap.size + 1 + 1, 3, none⟩ (.int .i64 y4)).heap.size) (by omega) (by omega) (Nat.le_refl _))
  have HV9 := hid (Sl.widen (lo' := w.heap.size) (hi' := (((((((((wC.setCell ⟨w.heap.size, 0, none⟩ (.slice A1 N1 C1)).setCell ⟨w.heap.size + 1, 0, none⟩ (.int .i64 a)).setCell ⟨w.heap.size + 1, 1, none⟩ (.int .i64 b)).setCell ⟨w.heap.size + 1, 2, none⟩ (.int .i64 c5)).setCell ⟨w.heap.size + 1, 3, none⟩ (.int .i64 d)).setCell ⟨w.heap.size + 1 + 1, 0, none⟩ (.int .i64 y1)).setCell ⟨w.heap.size + 1 + 1, 1, none⟩ (.int .i64 y2)).setCell ⟨w.heap.size + 1 + 1, 2, none⟩ (.int .i64 y3)).setCell ⟨w.heap.size + 1 + 1, 3, none⟩ (.int .i64 y4)).heap.size) (Sl.fr iSD FZ.out (by omega)) (by omega) (by omega) (Nat.le_refl _))
  have HR9 := hid (Rels.wide (lo' := w.heap.size) (hi' := (((((((((wC.setCell ⟨w.heap.size, 0, none⟩ (.slice A1 N1 C1)).setCell ⟨w.heap.size + 1, 0, none⟩ (.int .i64 a)).setCell ⟨w.heap.size + 1, 1, none⟩ (.int .i64 b)).setCell ⟨w.heap.size + 1, 2, none⟩ (.int .i64 c5)).setCell ⟨w.heap.size + 1, 3, none⟩ (.int .i64 d)).setCell ⟨w.heap.size + 1 + 1, 0, none⟩ (.int .i64 y1)).setCell ⟨w.heap.size + 1 + 1, 1, none⟩ (.int .i64 y2)).setCell ⟨w.heap.size + 1 + 1, 2, none⟩ (.int .i64 y3)).setCell ⟨w.heap.size + 1 + 1, 3, none⟩ (.int .i64 y4)).heap.size) (hRD.fr FZ.out (by omega)) (by omega) (by omega) (Nat.le_refl _))
  have qb2_0 : (((((((((wC.setCell ⟨w.heap.size, 0, none⟩ (.slice A1 N1 C1)).setCell ⟨w.heap.size + 1, 0, none⟩ (.int .i64 a)).setCell ⟨w.heap.size + 1, 1, none⟩ (.int .i64 b)).setCell ⟨w.heap.size + 1, 2, none⟩ (.int .i64 c5)).setCell ⟨w.heap.size + 1, 3, none⟩ (.int .i64 d)).setCell ⟨w.heap.size + 1 + 1, 0, none⟩ (.int .i64 y1)).setCell ⟨w.heap.size + 1 + 1, 1, none⟩ (.int .i64 y2)).setCell ⟨w.heap.size + 1 + 1, 2, none⟩ (.int .i64 y3)).setCell ⟨w.heap.size + 1 + 1, 3, none⟩ (.int .i64 y4)).cell? ⟨w.heap.size, 0, none⟩ = some (.slice A1 N1 C1) := (Bb2.out.2 0 _ rfl).1
  have qb5_0 : (((((((((wC.setCell ⟨w.heap.size, 0, none⟩ (.slice A1 N1 C1)).setCell ⟨w.heap.size + 1, 0, none⟩ (.int .i64 a)).setCell ⟨w.heap.size + 1, 1, none⟩ (.int .i64 b)).setCell ⟨w.heap.size + 1, 2, none⟩ (.int .i64 c5)).setCell ⟨w.heap.size + 1, 3, none⟩ (.int .i64 d)).setCell ⟨w.heap.size + 1 + 1, 0, none⟩ (.int .i64 y1)).setCell ⟨w.heap.size + 1 + 1, 1, none⟩ (.int .i64 y2)).setCell ⟨w.heap.size + 1 + 1, 2, none⟩ (.int .i64 y3)).setCell ⟨w.heap.size + 1 + 1, 3, none⟩ (.int .i64 y4)).cell? ⟨w.heap.size + 1, 0, none⟩ = some (.int .i64 a) := (Bb5.out.2 0 _ rfl).1
  have qb5_1 : (((((((((wC.setCell ⟨w.heap.size, 0, none⟩ (.slice A1 N1 C1)).setCell ⟨w.heap.size + 1, 0, none⟩ (.int .i64 a)).setCell ⟨w.heap.size + 1, 1, none⟩ (.int .i64 b)).setCell ⟨w.heap.size + 1, 2, none⟩ (.int .i64 c5)).setCell ⟨w.heap.size + 1, 3, none⟩ (.int .i64 d)).setCell ⟨w.heap.size + 1 + 1, 0, none⟩ (.int .i64 y1)).setCell ⟨w.heap.size + 1 + 1, 1, none⟩ (.int .i64 y2)).setCell ⟨w.heap.size + 1 + 1, 2, none⟩ (.int .i64 y3)).setCell ⟨w.heap.size + 1 + 1, 3, none⟩ (.int .i64 y4)).cell? ⟨w.heap.size + 1, 1, none⟩ = some (.int .i64 b) := (Bb5.out.2 1 _ rfl).1
  have qb5_2 : (((((((((wC.setCell ⟨w.heap.size, 0, none⟩ (.slice A1 N1 C1)).setCell ⟨w.heap.size + 1, 0, none⟩ (.int .i64 a)).setCell ⟨w.heap.size + 1, 1, none⟩ (.int .i64 b)).setCell ⟨w.heap.size + 1, 2, none⟩ (.int .i64 c5)).setCell ⟨w.heap.size + 1, 3, none⟩ (.int .i64 d)).setCell ⟨w.heap.size + 1 + 1, 0, none⟩ (.int .i64 y1)).setCell ⟨w.heap.size + 1 + 1, 1, none⟩ (.int .i64 y2)).setCell ⟨w.heap.size + 1 + 1, 2, none⟩ (.int .i64 y3)).setCell ⟨w.heap.size + 1 + 1, 3, none⟩ (.int .i64 y4)).cell? ⟨w.heap.size + 1, 2, none⟩ = some (.int .i64 c5) := (Bb5.out.2 2 _ rfl).1
  have qb5_3 : (((((((((wC.setCell ⟨w.heap.size, 0, none⟩ (.slice A1 N1 C1)).setCell ⟨w.heap.size + 1, 0, none⟩ (.int .i64 a)).setCell ⟨w.heap.size + 1, 1, none⟩ (.int .i64 b)).setCell ⟨w.heap.size + 1, 2, none⟩ (.int .i64 c5)).setCell ⟨w.heap.size + 1, 3, none⟩ (.int .i64 d)).setCell ⟨w.heap.size + 1 + 1, 0, none⟩ (.int .i64 y1)).setCell ⟨w.heap.size + 1 + 1, 1, none⟩ (.int .i64 y2)).setCell ⟨w.heap.size + 1 + 1, 2, none⟩ (.int .i64 y3)).setCell ⟨w.heap.size + 1 + 1, 3, none⟩ (.int .i64 y4)).cell? ⟨w.heap.size + 1, 3, none⟩ = some (.int .i64 d) := (Bb5.out.2 3 _ rfl).1
  have qb7_0 : (((((((((wC.setCell ⟨w.heap.size, 0, none⟩ (.slice A1 N1 C1)).setCell ⟨w.heap.size + 1, 0, none⟩ (.int .i64 a)).setCell ⟨w.heap.size + 1, 1, none⟩ (.int .i64 b)).setCell ⟨w.heap.size + 1, 2, none⟩ (.int .i64 c5)).setCell ⟨w.heap.size + 1, 3, none⟩ (.int .i64 d)).setCell ⟨w.heap.size + 1 + 1, 0, none⟩ (.int .i64 y1)).setCell ⟨w.heap.size + 1 + 1, 1, none⟩ (.int .i64 y2)).setCell ⟨w.heap.size + 1 + 1, 2, none⟩ (.int .i64 y3)).setCell ⟨w.heap.size + 1 + 1, 3, none⟩ (.int .i64 y4)).cell? ⟨w.heap.size + 1 + 1, 0, none⟩ = some (.int .i64 y1) := (Bb7.out.2 0 _ rfl).1
  have qb7_1 : (((((((((wC.setCell ⟨w.heap.size, 0, none⟩ (.slice A1 N1 C1)).setCell ⟨w.heap.size + 1, 0, none⟩ (.int .i64 a)).setCell ⟨w.heap.size + 1, 1, none⟩ (.int .i64 b)).setCell ⟨w.heap.size + 1, 2, none⟩ (.int .i64 c5)).setCell ⟨w.heap.size + 1, 3, none⟩ (.int .i64 d)).setCell ⟨w.heap.size + 1 + 1, 0, none⟩ (.int .i64 y1)).setCell ⟨w.heap.size + 1 + 1, 1, none⟩ (.int .i64 y2)).setCell ⟨w.heap.size + 1 + 1, 2, none⟩ (.int .i64 y3)).setCell ⟨w.heap.size + 1 + 1, 3, none⟩ (.int .i64 y4)).cell? ⟨w.heap.size + 1 + 1, 1, none⟩ = some (.int .i64 y2) := (Bb7.out.2 1 _ rfl).1
  have qb7_2 : (((((((((wC.setCell ⟨w.heap.size, 0, none⟩ (.slice A1 N1 C1)).setCell ⟨w.heap.size + 1, 0, none⟩ (.int .i64 a)).setCell ⟨w.heap.size + 1, 1, none⟩ (.int .i64 b)).setCell ⟨w.heap.size + 1, 2, none⟩ (.int .i64 c5)).setCell ⟨w.heap.size + 1, 3, none⟩ (.int .i64 d)).setCell ⟨w.heap.size + 1 + 1, 0, none⟩ (.int .i64 y1)).setCell ⟨w.heap.size + 1 + 1, 1, none⟩ (.int .i64 y2)).setCell ⟨w.heap.size + 1 + 1, 2, none⟩ (.int .i64 y3)).setCell ⟨w.heap.size + 1 + 1, 3, none⟩ (.int .i64 y4)).cell? ⟨w.heap.size + 1 + 1, 2, none⟩ = some (.int .i64 y3) := (Bb7.out.2 2 _ rfl).1
  have qb7_3 : (((((((((wC.setCell ⟨w.heap.size, 0, none⟩ (.slice A1 N1 C1)).setCell ⟨w.heap.size + 1, 0, none⟩ (.int .i64 a)).setCell ⟨w.heap.size + 1, 1, none⟩ (.int .i64 b)).setCell ⟨w.heap.size + 1, 2, none⟩ (.int .i64 c5)).setCell ⟨w.heap.size + 1, 3, none⟩ (.int .i64 d)).setCell ⟨w.heap.size + 1 + 1, 0, none⟩ (.int .i64 y1)).setCell ⟨w.heap.size + 1 + 1, 1, none⟩ (.int .i64 y2)).setCell ⟨w.heap.size + 1 + 1, 2, none⟩ (.int .i64 y3)).setCell ⟨w.heap.size + 1 + 1, 3, none⟩ (.int .i64 y4)).cell? ⟨w.heap.size + 1 + 1, 3, none⟩ = some (.int .i64 y4) := (Bb7.out.2 3 _ rfl).1
  clear hcD iGD iSD hRD kwD F0 cD FZ b2D b5D b7D b9D hcA fA FA cA b2A b5A b7A b9A hcB fB FB cB b2B b5B b7B b9B hcC fC FC cC b2C b5C b7C b9C zb2_0 yb2_0 zb5_0 yb5_0 zb5_1 yb5_1 zb5_2 yb5_2 zb5_3 yb5_3 zb7_0 yb7_0 zb7_1 yb7_1 zb7_2 yb7_2 zb7_3 yb7_3 cF0 cF1 cF2 hT hT1 hTT
  go_wp2_with fail
  try simp only [Exit.inBlock, Exit.then]
  exact bodyPost_ret (v := .tuple #[.agg #[.slice A1 N1 C1], .slice S1 q cq, .slice R n7 cr, .agg #[.int .i64 a, .int .i64 b, .int .i64 c5, .int .i64 d], .slice P m cm, .agg #[.int .i64 y1, .int .i64 y2, .int .i64 y3, .int .i64 y4]]) (by simp [results, Tryz.results47, go_sem, qb2_0, qb5_0, qb5_1, qb5_2, qb5_3, qb7_0, qb7_1, qb7_2, qb7_3]) rfl ⟨_, _, _, _, _, _, _, _, _, _, _, rs, _, _, _, _, _, _, _, ts, _, _, _, _, rfl, HI9.out, hN, HV9.out, HCAP.out, HSD.out, HR9.out, HCR.out, hr14, HT9.out, HCM.out, by omega, KW.out⟩
set_option maxRecDepth 100000 in
set_option maxHeartbeats 12800000 in
theorem DrawAddRelease_any {A : Option Addr} {hi n c : Nat} {w : World} (hb : Bytes w hi A n) :
    Calls Tryz.prog 7 #[.slice A n c] w (DrawsHc w) := by
  go_enter Tryz.func7, Tryz.ntmps7
  have kw := keeps_refl w
  replace kw := Keeps.trans kw (keeps_alloc w (.cells #[.slice none 0 0] 26))
  have b2 : Bl (w.alloc (.cells #[.slice none 0 0] 26)) (w.heap.size) [.slice none 0 0] := Bl.new' (by simp) (by simp)
  replace b2 := b2.keeps (keeps_alloc (w.alloc (.cells #[.slice none 0 0] 26)) (.cells #[.int .i64 0, .int .i64 0, .int .i64 0, .int .i64 0] 32))
  replace kw := Keeps.trans kw (keeps_alloc (w.alloc (.cells #[.slice none 0 0] 26)) (.cells #[.int .i64 0, .int .i64 0, .int .i64 0, .int .i64 0] 32))
  have b5 : Bl ((w.alloc (.cells #[.slice none 0 0] 26)).alloc (.cells #[.int .i64 0, .int .i64 0, .int .i64 0, .int .i64 0] 32)) (w.heap.size + 1) [.int .i64 0, .int .i64 0, .int .i64 0, .int .i64 0] := Bl.new' (by simp) (by simp)
  replace b2 := b2.keeps (keeps_alloc ((w.alloc (.cells #[.slice none 0 0] 26)).alloc (.cells #[.int .i64 0, .int .i64 0, .int .i64 0, .int .i64 0] 32)) (.cells #[.int .i64 0, .int .i64 0, .int .i64 0, .int .i64 0] 32))
  replace b5 := b5.keeps (keeps_alloc ((w.alloc (.cells #[.slice none 0 0] 26)).alloc (.cells #[.int .i64 0, .int .i64 0, .int .i64 0, .int .i64 0] 32)) (.cells #[.int .i64 0, .int .i64 0, .int .i64 0, .int .i64 0] 32))
  replace kw := Keeps.trans kw (keeps_alloc ((w.alloc (.cells #[.slice none 0 0] 26)).alloc (.cells #[.int .i64 0, .int .i64 0, .int .i64 0, .int .i64 0] 32)) (.cells #[.int .i64 0, .int .i64 0, .int .i64 0, .int .i64 0] 32))
  have b7 : Bl (((w.alloc (.cells #[.slice none 0 0] 26)).alloc (.cells #[.int .i64 0, .int .i64 0, .int .i64 0, .int .i64 0] 32)).alloc (.cells #[.int .i64 0, .int .i64 0, .int .i64 0, .int .i64 0] 32)) (w.heap.size + 1 + 1) [.int .i64 0, .int .i64 0, .int .i64 0, .int .i64 0] := Bl.new' (by simp) (by simp)
  have hbW := hb.keeps kw
  have E0 := hid (show (((w.alloc (.cells #[.slice none 0 0] 26)).alloc (.cells #[.int .i64 0, .int .i64 0, .int .i64 0, .int .i64 0] 32)).alloc (.cells #[.int .i64 0, .int .i64 0, .int .i64 0, .int .i64 0] 32)).heap.size = w.heap.size + 3 by simp)
  go_wp2_with fail
  refine (DrawCanAdd_any hbW).mono ?_
  rintro e w1 ⟨A1, N1, C1, ps, S1, q, cq, l, R, n7, cr, rs, a, b, c5, d, P, m, cm, ts, y1, y2, y3, y4, rfl, iG, hN, iS, hcap, hSD, hR, hcr, hr14, hT, hcm, hm21, kk⟩
  have sf1 := kk.size
  rw [E0.out] at iG iS hR hT sf1
  replace kw : Keeps w w1 := Keeps.trans kw kk
  replace b2 := b2.keeps kk
  replace b5 := b5.keeps kk
  replace b7 := b7.keeps kk
  have HSD := hid hSD
  have HCAP := hid hcap
  have HCR := hid hcr
  have HCM := hid hcm
  clear kk hSD hcap hcr hcm E0 hbW
  have zb2_0 := (b2.2 0 _ rfl).1
  have yb2_0 := (b2.2 0 _ rfl).2
  have zb5_0 := (b5.2 0 _ rfl).1
  have yb5_0 := (b5.2 0 _ rfl).2
  have zb5_1 := (b5.2 1 _ rfl).1
  have yb5_1 := (b5.2 1 _ rfl).2
  have zb5_2 := (b5.2 2 _ rfl).1
  have yb5_2 := (b5.2 2 _ rfl).2
  have zb5_3 := (b5.2 3 _ rfl).1
  have yb5_3 := (b5.2 3 _ rfl).2
  have zb7_0 := (b7.2 0 _ rfl).1
  have yb7_0 := (b7.2 0 _ rfl).2
  have zb7_1 := (b7.2 1 _ rfl).1
  have yb7_1 := (b7.2 1 _ rfl).2
  have zb7_2 := (b7.2 2 _ rfl).1
  have yb7_2 := (b7.2 2 _ rfl).2
  have zb7_3 := (b7.2 3 _ rfl).1
  have yb7_3 := (b7.2 3 _ rfl).2
  have FZ := hid (Fr.setCell (Fr.setCell (Fr.setCell (Fr.setCell (Fr.setCell (Fr.setCell (Fr.setCell (Fr.setCell (Fr.setCell (Fr.refl w.heap.size (w.heap.size + 3) w1) (p := ⟨w.heap.size, 0, none⟩) (by show w.heap.size ≤ w.heap.size; omega) (by show w.heap.size < w.heap.size + 3; omega) (.slice A1 N1 C1)) (p := ⟨w.heap.size + 1, 0, none⟩) (by show w.heap.size ≤ w.heap.size + 1; omega) (by show w.heap.size + 1 < w.heap.size + 3; omega) (.int .i64 a)) (p := ⟨w.heap.size + 1, 1, none⟩) (by show w.heap.size ≤ w.heap.size + 1; omega) (by show w.heap.size + 1 < w.heap.size + 3; omega) (.int .i64 b)) (p := ⟨w.heap.size + 1, 2, none⟩) (by show w.heap.size ≤ w.heap.size + 1; omega) (by show w.heap.size + 1 < w.heap.size + 3; omega) (.int .i64 c5)) (p := ⟨w.heap.size + 1, 3, none⟩) (by show w.heap.size ≤ w.heap.size + 1; omega) (by show w.heap.size + 1 < w.heap.size + 3; omega) (.int .i64 d)) (p := ⟨w.heap.size + 1 + 1, 0, none⟩) (by show w.heap.size ≤ w.heap.size + 1 + 1; omega) (by show w.heap.size + 1 + 1 < w.heap.size + 3; omega) (.int .i64 y1)) (p := ⟨w.heap.size + 1 + 1, 1, none⟩) (by show w.heap.size ≤ w.heap.size + 1 + 1; omega) (by show w.heap.size + 1 + 1 < w.heap.size + 3; omega) (.int .i64 y2)) (p := ⟨w.heap.size + 1 + 1, 2, none⟩) (by show w.heap.size ≤ w.heap.size + 1 + 1; omega) (by show w.heap.size + 1 + 1 < w.heap.size + 3; omega) (.int .i64 y3)) (p := ⟨w.heap.size + 1 + 1, 3, none⟩) (by show w.heap.size ≤ w.heap.size + 1 + 1; omega) (by show w.heap.size + 1 + 1 < w.heap.size + 3; omega) (.int .i64 y4))
  have sZ : (((((((((w1.setCell ⟨w.heap.size, 0, none⟩ (.slice A1 N1 C1)).setCell ⟨w.heap.size + 1, 0, none⟩ (.int .i64 a)).setCell ⟨w.heap.size + 1, 1, none⟩ (.int .i64 b)).setCell ⟨w.heap.size + 1, 2, none⟩ (.int .i64 c5)).setCell ⟨w.heap.size + 1, 3, none⟩ (.int .i64 d)).setCell ⟨w.heap.size + 1 + 1, 0, none⟩ (.int .i64 y1)).setCell ⟨w.heap.size + 1 + 1, 1, none⟩ (.int .i64 y2)).setCell ⟨w.heap.size + 1 + 1, 2, none⟩ (.int .i64 y3)).setCell ⟨w.heap.size + 1 + 1, 3, none⟩ (.int .i64 y4)).heap.size = w1.heap.size := by simp [World.setCell]
  have Bb2 := hid (((((((((b2.set 0 (.slice A1 N1 C1)).far (p := ⟨w.heap.size + 1, 0, none⟩) (by show w.heap.size ≠ w.heap.size + 1; omega) (.int .i64 a)).far (p := ⟨w.heap.size + 1, 1, none⟩) (by show w.heap.size ≠ w.heap.size + 1; omega) (.int .i64 b)).far (p := ⟨w.heap.size + 1, 2, none⟩) (by show w.heap.size ≠ w.heap.size + 1; omega) (.int .i64 c5)).far (p := ⟨w.heap.size + 1, 3, none⟩) (by show w.heap.size ≠ w.heap.size + 1; omega) (.int .i64 d)).far (p := ⟨w.heap.size + 1 + 1, 0, none⟩) (by show w.heap.size ≠ w.heap.size + 1 + 1; omega) (.int .i64 y1)).far (p := ⟨w.heap.size + 1 + 1, 1, none⟩) (by show w.heap.size ≠ w.heap.size + 1 + 1; omega) (.int .i64 y2)).far (p := ⟨w.heap.size + 1 + 1, 2, none⟩) (by show w.heap.size ≠ w.heap.size + 1 + 1; omega) (.int .i64 y3)).far (p := ⟨w.heap.size + 1 + 1, 3, none⟩) (by show w.heap.size ≠ w.heap.size + 1 + 1; omega) (.int .i64 y4))
  have Bb5 := hid (((((((((b5.far (p := ⟨w.heap.size, 0, none⟩) (by show w.heap.size + 1 ≠ w.heap.size; omega) (.slice A1 N1 C1)).set 0 (.int .i64 a)).set 1 (.int .i64 b)).set 2 (.int .i64 c5)).set 3 (.int .i64 d)).far (p := ⟨w.heap.size + 1 + 1, 0, none⟩) (by show w.heap.size + 1 ≠ w.heap.size + 1 + 1; omega) (.int .i64 y1)).far (p := ⟨w.heap.size + 1 + 1, 1, none⟩) (by show w.heap.size + 1 ≠ w.heap.size + 1 + 1; omega) (.int .i64 y2)).far (p := ⟨w.heap.size + 1 + 1, 2, none⟩) (by show w.heap.size + 1 ≠ w.heap.size + 1 + 1; omega) (.int .i64 y3)).far (p := ⟨w.heap.size + 1 + 1, 3, none⟩) (by show w.heap.size + 1 ≠ w.heap.size + 1 + 1; omega) (.int .i64 y4))
  have Bb7 := hid (((((((((b7.far (p := ⟨w.heap.size, 0, none⟩) (by show w.heap.size + 1 + 1 ≠ w.heap.size; omega) (.slice A1 N1 C1)).far (p := ⟨w.heap.size + 1, 0, none⟩) (by show w.heap.size + 1 + 1 ≠ w.heap.size + 1; omega) (.int .i64 a)).far (p := ⟨w.heap.size + 1, 1, none⟩) (by show w.heap.size + 1 + 1 ≠ w.heap.size + 1; omega) (.int .i64 b)).far (p := ⟨w.heap.size + 1, 2, none⟩) (by show w.heap.size + 1 + 1 ≠ w.heap.size + 1; omega) (.int .i64 c5)).far (p := ⟨w.heap.size + 1, 3, none⟩) (by show w.heap.size + 1 + 1 ≠ w.heap.size + 1; omega) (.int .i64 d)).set 0 (.int .i64 y1)).set 1 (.int .i64 y2)).set 2 (.int .i64 y3)).set 3 (.int .i64 y4))
  have KW := hid (show Keeps w (((((((((w1.setCell ⟨w.heap.size, 0, none⟩ (.slice A1 N1 C1)).setCell ⟨w.heap.size + 1, 0, none⟩ (.int .i64 a)).setCell ⟨w.heap.size + 1, 1, none⟩ (.int .i64 b)).setCell ⟨w.heap.size + 1, 2, none⟩ (.int .i64 c5)).setCell ⟨w.heap.size + 1, 3, none⟩ (.int .i64 d)).setCell ⟨w.heap.size + 1 + 1, 0, none⟩ (.int .i64 y1)).setCell ⟨w.heap.size + 1 + 1, 1, none⟩ (.int .i64 y2)).setCell ⟨w.heap.size + 1 + 1, 2, none⟩ (.int .i64 y3)).setCell ⟨w.heap.size + 1 + 1, 3, none⟩ (.int .i64 y4)) from below_fr kw kw.size (Nat.le_refl _) FZ.out)
  have HI9 := hid ((iG.fr FZ.out (by omega)).widen (lo' := w.heap.size) (hi' := (((((((((w1.setCell ⟨w.heap.size, 0, none⟩ (.slice A1 N1 C1)).setCell ⟨w.heap.size + 1, 0, none⟩ (.int .i64 a)).setCell ⟨w.heap.size + 1, 1, none⟩ (.int .i64 b)).setCell ⟨w.heap.size + 1, 2, none⟩ (.int .i64 c5)).setCell ⟨w.heap.size + 1, 3, none⟩ (.int .i64 d)).setCell ⟨w.heap.size + 1 + 1, 0, none⟩ (.int .i64 y1)).setCell ⟨w.heap.size + 1 + 1, 1, none⟩ (.int .i64 y2)).setCell ⟨w.heap.size + 1 + 1, 2, none⟩ (.int .i64 y3)).setCell ⟨w.heap.size + 1 + 1, 3, none⟩ (.int .i64 y4)).heap.size) (by omega) (by omega) (Nat.le_refl _))
  have HV9 := hid (Sl.widen (lo' := w.heap.size) (hi' := (((((((((w1.setCell ⟨w.heap.size, 0, none⟩ (.slice A1 N1 C1)).setCell ⟨w.heap.size + 1, 0, none⟩ (.int .i64 a)).setCell ⟨w.heap.size + 1, 1, none⟩ (.int .i64 b)).setCell ⟨w.heap.size + 1, 2, none⟩ (.int .i64 c5)).setCell ⟨w.heap.size + 1, 3, none⟩ (.int .i64 d)).setCell ⟨w.heap.size + 1 + 1, 0, none⟩ (.int .i64 y1)).setCell ⟨w.heap.size + 1 + 1, 1, none⟩ (.int .i64 y2)).setCell ⟨w.heap.size + 1 + 1, 2, none⟩ (.int .i64 y3)).setCell ⟨w.heap.size + 1 + 1, 3, none⟩ (.int .i64 y4)).heap.size) (Sl.fr iS FZ.out (by omega)) (by omega) (by omega) (Nat.le_refl _))
  have HR9 := hid (Rels.wide (lo' := w.heap.size) (hi' := (((((((((w1.setCell ⟨w.heap.size, 0, none⟩ (.slice A1 N1 C1)).setCell ⟨w.heap.size + 1, 0, none⟩ (.int .i64 a)).setCell ⟨w.heap.size + 1, 1, none⟩ (.int .i64 b)).setCell ⟨w.heap.size + 1, 2, none⟩ (.int .i64 c5)).setCell ⟨w.heap.size + 1, 3, none⟩ (.int .i64 d)).setCell ⟨w.heap.size + 1 + 1, 0, none⟩ (.int .i64 y1)).setCell ⟨w.heap.size + 1 + 1, 1, none⟩ (.int .i64 y2)).setCell ⟨w.heap.size + 1 + 1, 2, none⟩ (.int .i64 y3)).setCell ⟨w.heap.size + 1 + 1, 3, none⟩ (.int .i64 y4)).heap.size) (hR.fr FZ.out (by omega)) (by omega) (by omega) (Nat.le_refl _))
  have HT9 := hid (Tabs.wide (lo' := w.heap.size) (hi' := (((((((((w1.setCell ⟨w.heap.size, 0, none⟩ (.slice A1 N1 C1)).setCell ⟨w.heap.size + 1, 0, none⟩ (.int .i64 a)).setCell ⟨w.heap.size + 1, 1, none⟩ (.int .i64 b)).setCell ⟨w.heap.size + 1, 2, none⟩ (.int .i64 c5)).setCell ⟨w.heap.size + 1, 3, none⟩ (.int .i64 d)).setCell ⟨w.heap.size + 1 + 1, 0, none⟩ (.int .i64 y1)).setCell ⟨w.heap.size + 1 + 1, 1, none⟩ (.int .i64 y2)).setCell ⟨w.heap.size + 1 + 1, 2, none⟩ (.int .i64 y3)).setCell ⟨w.heap.size + 1 + 1, 3, none⟩ (.int .i64 y4)).heap.size) (hT.fr FZ.out (by omega)) (by omega) (by omega) (Nat.le_refl _))
  clear iG iS hR hT FZ b2 b5 b7 kw
  go_wp2_with fail
  clear zb2_0 yb2_0
  have qb2_0 : (((((((((w1.setCell ⟨w.heap.size, 0, none⟩ (.slice A1 N1 C1)).setCell ⟨w.heap.size + 1, 0, none⟩ (.int .i64 a)).setCell ⟨w.heap.size + 1, 1, none⟩ (.int .i64 b)).setCell ⟨w.heap.size + 1, 2, none⟩ (.int .i64 c5)).setCell ⟨w.heap.size + 1, 3, none⟩ (.int .i64 d)).setCell ⟨w.heap.size + 1 + 1, 0, none⟩ (.int .i64 y1)).setCell ⟨w.heap.size + 1 + 1, 1, none⟩ (.int .i64 y2)).setCell ⟨w.heap.size + 1 + 1, 2, none⟩ (.int .i64 y3)).setCell ⟨w.heap.size + 1 + 1, 3, none⟩ (.int .i64 y4)).cell? ⟨w.heap.size, 0, none⟩ = some (.slice A1 N1 C1) := (Bb2.out.2 0 _ rfl).1
  clear zb5_0 yb5_0 zb5_1 yb5_1 zb5_2 yb5_2 zb5_3 yb5_3
  have qb5_0 : (((((((((w1.setCell ⟨w.heap.size, 0, none⟩ (.slice A1 N1 C1)).setCell ⟨w.heap.size + 1, 0, none⟩ (.int .i64 a)).setCell ⟨w.heap.size + 1, 1, none⟩ (.int .i64 b)).setCell ⟨w.heap.size + 1, 2, none⟩ (.int .i64 c5)).setCell ⟨w.heap.size + 1, 3, none⟩ (.int .i64 d)).setCell ⟨w.heap.size + 1 + 1, 0, none⟩ (.int .i64 y1)).setCell ⟨w.heap.size + 1 + 1, 1, none⟩ (.int .i64 y2)).setCell ⟨w.heap.size + 1 + 1, 2, none⟩ (.int .i64 y3)).setCell ⟨w.heap.size + 1 + 1, 3, none⟩ (.int .i64 y4)).cell? ⟨w.heap.size + 1, 0, none⟩ = some (.int .i64 a) := (Bb5.out.2 0 _ rfl).1
  have qb5_1 : (((((((((w1.setCell ⟨w.heap.size, 0, none⟩ (.slice A1 N1 C1)).setCell ⟨w.heap.size + 1, 0, none⟩ (.int .i64 a)).setCell ⟨w.heap.size + 1, 1, none⟩ (.int .i64 b)).setCell ⟨w.heap.size + 1, 2, none⟩ (.int .i64 c5)).setCell ⟨w.heap.size + 1, 3, none⟩ (.int .i64 d)).setCell ⟨w.heap.size + 1 + 1, 0, none⟩ (.int .i64 y1)).setCell ⟨w.heap.size + 1 + 1, 1, none⟩ (.int .i64 y2)).setCell ⟨w.heap.size + 1 + 1, 2, none⟩ (.int .i64 y3)).setCell ⟨w.heap.size + 1 + 1, 3, none⟩ (.int .i64 y4)).cell? ⟨w.heap.size + 1, 1, none⟩ = some (.int .i64 b) := (Bb5.out.2 1 _ rfl).1
  have qb5_2 : (((((((((w1.setCell ⟨w.heap.size, 0, none⟩ (.slice A1 N1 C1)).setCell ⟨w.heap.size + 1, 0, none⟩ (.int .i64 a)).setCell ⟨w.heap.size + 1, 1, none⟩ (.int .i64 b)).setCell ⟨w.heap.size + 1, 2, none⟩ (.int .i64 c5)).setCell ⟨w.heap.size + 1, 3, none⟩ (.int .i64 d)).setCell ⟨w.heap.size + 1 + 1, 0, none⟩ (.int .i64 y1)).setCell ⟨w.heap.size + 1 + 1, 1, none⟩ (.int .i64 y2)).setCell ⟨w.heap.size + 1 + 1, 2, none⟩ (.int .i64 y3)).setCell ⟨w.heap.size + 1 + 1, 3, none⟩ (.int .i64 y4)).cell? ⟨w.heap.size + 1, 2, none⟩ = some (.int .i64 c5) := (Bb5.out.2 2 _ rfl).1
  have qb5_3 : (((((((((w1.setCell ⟨w.heap.size, 0, none⟩ (.slice A1 N1 C1)).setCell ⟨w.heap.size + 1, 0, none⟩ (.int .i64 a)).setCell ⟨w.heap.size + 1, 1, none⟩ (.int .i64 b)).setCell ⟨w.heap.size + 1, 2, none⟩ (.int .i64 c5)).setCell ⟨w.heap.size + 1, 3, none⟩ (.int .i64 d)).setCell ⟨w.heap.size + 1 + 1, 0, none⟩ (.int .i64 y1)).setCell ⟨w.heap.size + 1 + 1, 1, none⟩ (.int .i64 y2)).setCell ⟨w.heap.size + 1 + 1, 2, none⟩ (.int .i64 y3)).setCell ⟨w.heap.size + 1 + 1, 3, none⟩ (.int .i64 y4)).cell? ⟨w.heap.size + 1, 3, none⟩ = some (.int .i64 d) := (Bb5.out.2 3 _ rfl).1
  clear zb7_0 yb7_0 zb7_1 yb7_1 zb7_2 yb7_2 zb7_3 yb7_3
  have qb7_0 : (((((((((w1.setCell ⟨w.heap.size, 0, none⟩ (.slice A1 N1 C1)).setCell ⟨w.heap.size + 1, 0, none⟩ (.int .i64 a)).setCell ⟨w.heap.size + 1, 1, none⟩ (.int .i64 b)).setCell ⟨w.heap.size + 1, 2, none⟩ (.int .i64 c5)).setCell ⟨w.heap.size + 1, 3, none⟩ (.int .i64 d)).setCell ⟨w.heap.size + 1 + 1, 0, none⟩ (.int .i64 y1)).setCell ⟨w.heap.size + 1 + 1, 1, none⟩ (.int .i64 y2)).setCell ⟨w.heap.size + 1 + 1, 2, none⟩ (.int .i64 y3)).setCell ⟨w.heap.size + 1 + 1, 3, none⟩ (.int .i64 y4)).cell? ⟨w.heap.size + 1 + 1, 0, none⟩ = some (.int .i64 y1) := (Bb7.out.2 0 _ rfl).1
  have qb7_1 : (((((((((w1.setCell ⟨w.heap.size, 0, none⟩ (.slice A1 N1 C1)).setCell ⟨w.heap.size + 1, 0, none⟩ (.int .i64 a)).setCell ⟨w.heap.size + 1, 1, none⟩ (.int .i64 b)).setCell ⟨w.heap.size + 1, 2, none⟩ (.int .i64 c5)).setCell ⟨w.heap.size + 1, 3, none⟩ (.int .i64 d)).setCell ⟨w.heap.size + 1 + 1, 0, none⟩ (.int .i64 y1)).setCell ⟨w.heap.size + 1 + 1, 1, none⟩ (.int .i64 y2)).setCell ⟨w.heap.size + 1 + 1, 2, none⟩ (.int .i64 y3)).setCell ⟨w.heap.size + 1 + 1, 3, none⟩ (.int .i64 y4)).cell? ⟨w.heap.size + 1 + 1, 1, none⟩ = some (.int .i64 y2) := (Bb7.out.2 1 _ rfl).1
  have qb7_2 : (((((((((w1.setCell ⟨w.heap.size, 0, none⟩ (.slice A1 N1 C1)).setCell ⟨w.heap.size + 1, 0, none⟩ (.int .i64 a)).setCell ⟨w.heap.size + 1, 1, none⟩ (.int .i64 b)).setCell ⟨w.heap.size + 1, 2, none⟩ (.int .i64 c5)).setCell ⟨w.heap.size + 1, 3, none⟩ (.int .i64 d)).setCell ⟨w.heap.size + 1 + 1, 0, none⟩ (.int .i64 y1)).setCell ⟨w.heap.size + 1 + 1, 1, none⟩ (.int .i64 y2)).setCell ⟨w.heap.size + 1 + 1, 2, none⟩ (.int .i64 y3)).setCell ⟨w.heap.size + 1 + 1, 3, none⟩ (.int .i64 y4)).cell? ⟨w.heap.size + 1 + 1, 2, none⟩ = some (.int .i64 y3) := (Bb7.out.2 2 _ rfl).1
  have qb7_3 : (((((((((w1.setCell ⟨w.heap.size, 0, none⟩ (.slice A1 N1 C1)).setCell ⟨w.heap.size + 1, 0, none⟩ (.int .i64 a)).setCell ⟨w.heap.size + 1, 1, none⟩ (.int .i64 b)).setCell ⟨w.heap.size + 1, 2, none⟩ (.int .i64 c5)).setCell ⟨w.heap.size + 1, 3, none⟩ (.int .i64 d)).setCell ⟨w.heap.size + 1 + 1, 0, none⟩ (.int .i64 y1)).setCell ⟨w.heap.size + 1 + 1, 1, none⟩ (.int .i64 y2)).setCell ⟨w.heap.size + 1 + 1, 2, none⟩ (.int .i64 y3)).setCell ⟨w.heap.size + 1 + 1, 3, none⟩ (.int .i64 y4)).cell? ⟨w.heap.size + 1 + 1, 3, none⟩ = some (.int .i64 y4) := (Bb7.out.2 3 _ rfl).1
  try simp only [Exit.inBlock, Exit.then]
  exact bodyPost_ret (v := .tuple #[.agg #[.slice A1 N1 C1], .slice S1 q cq, .slice R n7 cr, .agg #[.int .i64 a, .int .i64 b, .int .i64 c5, .int .i64 d], .slice P m cm, .agg #[.int .i64 y1, .int .i64 y2, .int .i64 y3, .int .i64 y4]]) (by simp [results, Tryz.results7, go_sem, qb2_0, qb5_0, qb5_1, qb5_2, qb5_3, qb7_0, qb7_1, qb7_2, qb7_3]) rfl ⟨_, _, _, _, _, _, _, _, _, _, _, rs, _, _, _, _, _, _, _, ts, _, _, _, _, rfl, HI9.out, hN, HV9.out, HCAP.out, HSD.out, HR9.out, HCR.out, hr14, HT9.out, HCM.out, hm21, KW.out⟩
end Go.Proofs.YtohjkpopbmmliaaGreat
