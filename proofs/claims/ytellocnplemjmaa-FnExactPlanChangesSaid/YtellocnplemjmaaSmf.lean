/- Tables of the same meaning: of the program. -/
import Derived.Test.YtellocnplemjmaaSme
import Derived.Deep.RegionLaw
namespace Go.Proofs.Ytellocnplemjmaa
open Go.RowKit Go.Sort
set_option linter.unusedVariables false
set_option linter.unusedSimpArgs false

theorem step_nt {W : World} {ops : Array Oper} {o : Oper} {a : Act} {K : Act → World → Prop} {Q : Exit → Act → World → Prop} {E : Prop} {A' V H : Option Addr} {lo1 hi1 lo2 hi2 n c m d q e : Nat} {vs ws : List Int} {l : List VV} {lv sm : Int} (hv : Ints W lo1 hi1 V n vs) (hw : Ints W lo2 hi2 H m ws) (h' : Sch W A' q e l) (hlv : LvOk l q) (hW : whB l ws = true)
    (hgd : o.guard = none)
    (hrun : (execOp a.eval o).run Try.prog W = .ok (.enter 97 #[.slice A' q e, .agg #[.int .i64 lv, .slice V n c, .slice H m d, .int .i64 sm]]) W)
    (h : ∀ V1 d1 H1 d2 w', TwM w' W.heap.size w'.heap.size V1 n vs H1 m (nmL l ws) → Keeps W w' → K (a.put o.dst (.agg #[.int .i64 lv, .slice V1 n d1, .slice H1 m d2, .int .i64 sm])) w') :
    if Region.wanted o (yielded ops a.tmps) = true then Oper.wp Try.prog o a W K Q else E := by
  have hw9 : Region.wanted o (yielded ops a.tmps) = true := by simp [Region.wanted, hgd]
  rw [if_pos hw9]
  unfold Oper.wp
  rw [hrun, Oper.upon_enter]
  refine (normalTable_any hv hw h' hlv hW).mono fun e w' hh => ?_
  obtain ⟨V1, d1, H1, d2, rfl, h1, h3⟩ := hh
  exact h V1 d1 H1 d2 w' h1 h3
set_option maxRecDepth 100000 in
set_option maxHeartbeats 6400000 in
theorem sameMeaning_any {A' V H V' H' : Option Addr} {lo1 hi1 lo2 hi2 lo3 hi3 lo4 hi4 n c m d n' c' m' d' q e : Nat} {vs ws us xs : List Int} {l : List VV} {lv sm lu su : Int} {w : World} (h' : Sch w A' q e l) (hlv : LvOk l q) (hv : Ints w lo1 hi1 V n vs) (hw : Ints w lo2 hi2 H m ws) (hu : Ints w lo3 hi3 V' n' us) (hx : Ints w lo4 hi4 H' m' xs) (hW : whB l ws = true) (hX : whB l xs = true) :
    Calls Try.prog 74 #[.slice A' q e, .agg #[.int .i64 lv, .slice V n c, .slice H m d, .int .i64 sm], .agg #[.int .i64 lu, .slice V' n' c', .slice H' m' d', .int .i64 su]] w fun e w' => e = .returned (.bool (smB l (lv, vs, ws, sm) (lu, us, xs, su))) ∧ Keeps w w' := by
  have HLV := hid hlv
  have HW := hid hW
  have HX := hid hX
  clear hlv hW hX
  obtain ⟨p, HP⟩ : ∃ p, Hid (smB l (lv, vs, ws, sm) (lu, us, xs, su) = p) := ⟨_, rfl⟩
  rw [HP.out]
  go_enter Try.func74, Try.ntmps74
  have kw := keeps_refl w
  replace kw := Keeps.trans kw (keeps_alloc w (.cells #[.int .i64 lv, .slice V n c, .slice H m d, .int .i64 sm] 98))
  have b4 : Bl (w.alloc (.cells #[.int .i64 lv, .slice V n c, .slice H m d, .int .i64 sm] 98)) w.heap.size [.int .i64 lv, .slice V n c, .slice H m d, .int .i64 sm] := Bl.new' (by simp) (by simp)
  replace b4 := b4.keeps (keeps_alloc (w.alloc (.cells #[.int .i64 lv, .slice V n c, .slice H m d, .int .i64 sm] 98)) (.cells #[.int .i64 lu, .slice V' n' c', .slice H' m' d', .int .i64 su] 98))
  replace kw := Keeps.trans kw (keeps_alloc (w.alloc (.cells #[.int .i64 lv, .slice V n c, .slice H m d, .int .i64 sm] 98)) (.cells #[.int .i64 lu, .slice V' n' c', .slice H' m' d', .int .i64 su] 98))
  have b5 : Bl ((w.alloc (.cells #[.int .i64 lv, .slice V n c, .slice H m d, .int .i64 sm] 98)).alloc (.cells #[.int .i64 lu, .slice V' n' c', .slice H' m' d', .int .i64 su] 98)) (w.heap.size + 1) [.int .i64 lu, .slice V' n' c', .slice H' m' d', .int .i64 su] := Bl.new' (by simp) (by simp)
  go_wp2_with fail
  obtain ⟨W, hX⟩ : ∃ u : World, u = ((w.alloc (.cells #[.int .i64 lv, .slice V n c, .slice H m d, .int .i64 sm] 98)).alloc (.cells #[.int .i64 lu, .slice V' n' c', .slice H' m' d', .int .i64 su] 98)) := ⟨_, rfl⟩
  have szX0 := hid (show W.heap.size = w.heap.size + 1 + 1 by rw [hX]; simp)
  rw [← hX] at b4
  rw [← hX] at b5
  rw [← hX] at kw
  rw [← hX]
  clear hX
  have sz2 := kw.size
  have kD := kw.trans (keeps_d0 W)
  have b4D := b4.keeps (keeps_d0 W)
  have b5D := b5.keeps (keeps_d0 W)
  have zp0D : W.drew.cell? ⟨w.heap.size, 0, none⟩ = some (.int .i64 lv) := (b4D.2 0 _ rfl).1
  have yp0D : W.drew.frozen? ⟨w.heap.size, 0, none⟩ = false := (b4D.2 0 _ rfl).2
  have zp1D : W.drew.cell? ⟨w.heap.size, 1, none⟩ = some (.slice V n c) := (b4D.2 1 _ rfl).1
  have yp1D : W.drew.frozen? ⟨w.heap.size, 1, none⟩ = false := (b4D.2 1 _ rfl).2
  have zp2D : W.drew.cell? ⟨w.heap.size, 2, none⟩ = some (.slice H m d) := (b4D.2 2 _ rfl).1
  have yp2D : W.drew.frozen? ⟨w.heap.size, 2, none⟩ = false := (b4D.2 2 _ rfl).2
  have zp3D : W.drew.cell? ⟨w.heap.size, 3, none⟩ = some (.int .i64 sm) := (b4D.2 3 _ rfl).1
  have yp3D : W.drew.frozen? ⟨w.heap.size, 3, none⟩ = false := (b4D.2 3 _ rfl).2
  have zq0D : W.drew.cell? ⟨(w.heap.size + 1), 0, none⟩ = some (.int .i64 lu) := (b5D.2 0 _ rfl).1
  have yq0D : W.drew.frozen? ⟨(w.heap.size + 1), 0, none⟩ = false := (b5D.2 0 _ rfl).2
  have zq1D : W.drew.cell? ⟨(w.heap.size + 1), 1, none⟩ = some (.slice V' n' c') := (b5D.2 1 _ rfl).1
  have yq1D : W.drew.frozen? ⟨(w.heap.size + 1), 1, none⟩ = false := (b5D.2 1 _ rfl).2
  have zq2D : W.drew.cell? ⟨(w.heap.size + 1), 2, none⟩ = some (.slice H' m' d') := (b5D.2 2 _ rfl).1
  have yq2D : W.drew.frozen? ⟨(w.heap.size + 1), 2, none⟩ = false := (b5D.2 2 _ rfl).2
  have zq3D : W.drew.cell? ⟨(w.heap.size + 1), 3, none⟩ = some (.int .i64 su) := (b5D.2 3 _ rfl).1
  have yq3D : W.drew.frozen? ⟨(w.heap.size + 1), 3, none⟩ = false := (b5D.2 3 _ rfl).2
  go_region_law ((first | (refine step_nt (lv := lu) (sm := su) (c := c') (d := d') (e := e) (hu.keeps kWA) (hx.keeps kWA) (h'.keeps kWA) HLV.out HX.out rfl (by kernel_rfl) ?_; intro V2_ d2a H2_ d2b wZ tw2 kZ; have kwZ := kWA.trans kZ; have tw1 := tw1.keeps kZ; have b4Z := b4A.keeps kZ; have b5Z := b5A.keeps kZ; have zp0wZ : wZ.cell? ⟨w.heap.size, 0, none⟩ = some (.int .i64 lv) := (b4Z.2 0 _ rfl).1; have yp0wZ : wZ.frozen? ⟨w.heap.size, 0, none⟩ = false := (b4Z.2 0 _ rfl).2; have zp1wZ : wZ.cell? ⟨w.heap.size, 1, none⟩ = some (.slice V n c) := (b4Z.2 1 _ rfl).1; have yp1wZ : wZ.frozen? ⟨w.heap.size, 1, none⟩ = false := (b4Z.2 1 _ rfl).2; have zp2wZ : wZ.cell? ⟨w.heap.size, 2, none⟩ = some (.slice H m d) := (b4Z.2 2 _ rfl).1; have yp2wZ : wZ.frozen? ⟨w.heap.size, 2, none⟩ = false := (b4Z.2 2 _ rfl).2; have zp3wZ : wZ.cell? ⟨w.heap.size, 3, none⟩ = some (.int .i64 sm) := (b4Z.2 3 _ rfl).1; have yp3wZ : wZ.frozen? ⟨w.heap.size, 3, none⟩ = false := (b4Z.2 3 _ rfl).2; have zq0wZ : wZ.cell? ⟨(w.heap.size + 1), 0, none⟩ = some (.int .i64 lu) := (b5Z.2 0 _ rfl).1; have yq0wZ : wZ.frozen? ⟨(w.heap.size + 1), 0, none⟩ = false := (b5Z.2 0 _ rfl).2; have zq1wZ : wZ.cell? ⟨(w.heap.size + 1), 1, none⟩ = some (.slice V' n' c') := (b5Z.2 1 _ rfl).1; have yq1wZ : wZ.frozen? ⟨(w.heap.size + 1), 1, none⟩ = false := (b5Z.2 1 _ rfl).2; have zq2wZ : wZ.cell? ⟨(w.heap.size + 1), 2, none⟩ = some (.slice H' m' d') := (b5Z.2 2 _ rfl).1; have yq2wZ : wZ.frozen? ⟨(w.heap.size + 1), 2, none⟩ = false := (b5Z.2 2 _ rfl).2; have zq3wZ : wZ.cell? ⟨(w.heap.size + 1), 3, none⟩ = some (.int .i64 su) := (b5Z.2 3 _ rfl).1; have yq3wZ : wZ.frozen? ⟨(w.heap.size + 1), 3, none⟩ = false := (b5Z.2 3 _ rfl).2) | (refine step_nt (lv := lv) (sm := sm) (c := c) (d := d) (e := e) (hv.keeps kWB) (hw.keeps kWB) (h'.keeps kWB) HLV.out HW.out rfl (by kernel_rfl) ?_; intro V1_ d1a H1_ d1b wZ tw1 kZ; have kwZ := kWB.trans kZ; have tw2 := tw2.keeps kZ; have b4Z := b4B.keeps kZ; have b5Z := b5B.keeps kZ; have zp0wZ : wZ.cell? ⟨w.heap.size, 0, none⟩ = some (.int .i64 lv) := (b4Z.2 0 _ rfl).1; have yp0wZ : wZ.frozen? ⟨w.heap.size, 0, none⟩ = false := (b4Z.2 0 _ rfl).2; have zp1wZ : wZ.cell? ⟨w.heap.size, 1, none⟩ = some (.slice V n c) := (b4Z.2 1 _ rfl).1; have yp1wZ : wZ.frozen? ⟨w.heap.size, 1, none⟩ = false := (b4Z.2 1 _ rfl).2; have zp2wZ : wZ.cell? ⟨w.heap.size, 2, none⟩ = some (.slice H m d) := (b4Z.2 2 _ rfl).1; have yp2wZ : wZ.frozen? ⟨w.heap.size, 2, none⟩ = false := (b4Z.2 2 _ rfl).2; have zp3wZ : wZ.cell? ⟨w.heap.size, 3, none⟩ = some (.int .i64 sm) := (b4Z.2 3 _ rfl).1; have yp3wZ : wZ.frozen? ⟨w.heap.size, 3, none⟩ = false := (b4Z.2 3 _ rfl).2; have zq0wZ : wZ.cell? ⟨(w.heap.size + 1), 0, none⟩ = some (.int .i64 lu) := (b5Z.2 0 _ rfl).1; have yq0wZ : wZ.frozen? ⟨(w.heap.size + 1), 0, none⟩ = false := (b5Z.2 0 _ rfl).2; have zq1wZ : wZ.cell? ⟨(w.heap.size + 1), 1, none⟩ = some (.slice V' n' c') := (b5Z.2 1 _ rfl).1; have yq1wZ : wZ.frozen? ⟨(w.heap.size + 1), 1, none⟩ = false := (b5Z.2 1 _ rfl).2; have zq2wZ : wZ.cell? ⟨(w.heap.size + 1), 2, none⟩ = some (.slice H' m' d') := (b5Z.2 2 _ rfl).1; have yq2wZ : wZ.frozen? ⟨(w.heap.size + 1), 2, none⟩ = false := (b5Z.2 2 _ rfl).2; have zq3wZ : wZ.cell? ⟨(w.heap.size + 1), 3, none⟩ = some (.int .i64 su) := (b5Z.2 3 _ rfl).1; have yq3wZ : wZ.frozen? ⟨(w.heap.size + 1), 3, none⟩ = false := (b5Z.2 3 _ rfl).2) | (refine step_nt (lv := lv) (sm := sm) (c := c) (d := d) (e := e) (hv.keeps kD) (hw.keeps kD) (h'.keeps kD) HLV.out HW.out rfl (by kernel_rfl) ?_; intro V1_ d1a H1_ d1b wA tw1 kA; have kWA := kD.trans kA; have b4A := b4D.keeps kA; have b5A := b5D.keeps kA; have zp0wA : wA.cell? ⟨w.heap.size, 0, none⟩ = some (.int .i64 lv) := (b4A.2 0 _ rfl).1; have yp0wA : wA.frozen? ⟨w.heap.size, 0, none⟩ = false := (b4A.2 0 _ rfl).2; have zp1wA : wA.cell? ⟨w.heap.size, 1, none⟩ = some (.slice V n c) := (b4A.2 1 _ rfl).1; have yp1wA : wA.frozen? ⟨w.heap.size, 1, none⟩ = false := (b4A.2 1 _ rfl).2; have zp2wA : wA.cell? ⟨w.heap.size, 2, none⟩ = some (.slice H m d) := (b4A.2 2 _ rfl).1; have yp2wA : wA.frozen? ⟨w.heap.size, 2, none⟩ = false := (b4A.2 2 _ rfl).2; have zp3wA : wA.cell? ⟨w.heap.size, 3, none⟩ = some (.int .i64 sm) := (b4A.2 3 _ rfl).1; have yp3wA : wA.frozen? ⟨w.heap.size, 3, none⟩ = false := (b4A.2 3 _ rfl).2; have zq0wA : wA.cell? ⟨(w.heap.size + 1), 0, none⟩ = some (.int .i64 lu) := (b5A.2 0 _ rfl).1; have yq0wA : wA.frozen? ⟨(w.heap.size + 1), 0, none⟩ = false := (b5A.2 0 _ rfl).2; have zq1wA : wA.cell? ⟨(w.heap.size + 1), 1, none⟩ = some (.slice V' n' c') := (b5A.2 1 _ rfl).1; have yq1wA : wA.frozen? ⟨(w.heap.size + 1), 1, none⟩ = false := (b5A.2 1 _ rfl).2; have zq2wA : wA.cell? ⟨(w.heap.size + 1), 2, none⟩ = some (.slice H' m' d') := (b5A.2 2 _ rfl).1; have yq2wA : wA.frozen? ⟨(w.heap.size + 1), 2, none⟩ = false := (b5A.2 2 _ rfl).2; have zq3wA : wA.cell? ⟨(w.heap.size + 1), 3, none⟩ = some (.int .i64 su) := (b5A.2 3 _ rfl).1; have yq3wA : wA.frozen? ⟨(w.heap.size + 1), 3, none⟩ = false := (b5A.2 3 _ rfl).2) | (refine step_nt (lv := lu) (sm := su) (c := c') (d := d') (e := e) (hu.keeps kD) (hx.keeps kD) (h'.keeps kD) HLV.out HX.out rfl (by kernel_rfl) ?_; intro V2_ d2a H2_ d2b wB tw2 kB; have kWB := kD.trans kB; have b4B := b4D.keeps kB; have b5B := b5D.keeps kB; have zp0wB : wB.cell? ⟨w.heap.size, 0, none⟩ = some (.int .i64 lv) := (b4B.2 0 _ rfl).1; have yp0wB : wB.frozen? ⟨w.heap.size, 0, none⟩ = false := (b4B.2 0 _ rfl).2; have zp1wB : wB.cell? ⟨w.heap.size, 1, none⟩ = some (.slice V n c) := (b4B.2 1 _ rfl).1; have yp1wB : wB.frozen? ⟨w.heap.size, 1, none⟩ = false := (b4B.2 1 _ rfl).2; have zp2wB : wB.cell? ⟨w.heap.size, 2, none⟩ = some (.slice H m d) := (b4B.2 2 _ rfl).1; have yp2wB : wB.frozen? ⟨w.heap.size, 2, none⟩ = false := (b4B.2 2 _ rfl).2; have zp3wB : wB.cell? ⟨w.heap.size, 3, none⟩ = some (.int .i64 sm) := (b4B.2 3 _ rfl).1; have yp3wB : wB.frozen? ⟨w.heap.size, 3, none⟩ = false := (b4B.2 3 _ rfl).2; have zq0wB : wB.cell? ⟨(w.heap.size + 1), 0, none⟩ = some (.int .i64 lu) := (b5B.2 0 _ rfl).1; have yq0wB : wB.frozen? ⟨(w.heap.size + 1), 0, none⟩ = false := (b5B.2 0 _ rfl).2; have zq1wB : wB.cell? ⟨(w.heap.size + 1), 1, none⟩ = some (.slice V' n' c') := (b5B.2 1 _ rfl).1; have yq1wB : wB.frozen? ⟨(w.heap.size + 1), 1, none⟩ = false := (b5B.2 1 _ rfl).2; have zq2wB : wB.cell? ⟨(w.heap.size + 1), 2, none⟩ = some (.slice H' m' d') := (b5B.2 2 _ rfl).1; have yq2wB : wB.frozen? ⟨(w.heap.size + 1), 2, none⟩ = false := (b5B.2 2 _ rfl).2; have zq3wB : wB.cell? ⟨(w.heap.size + 1), 3, none⟩ = some (.int .i64 su) := (b5B.2 3 _ rfl).1; have yq3wB : wB.frozen? ⟨(w.heap.size + 1), 3, none⟩ = false := (b5B.2 3 _ rfl).2)))
  all_goals (
    have hi9 : W.drew.heap.size = w.heap.size + 1 + 1 := szX0.out
    have i1 := tw1.a
    have i2 := tw1.b
    have i3 := tw2.a
    have i4 := tw2.b
    have sA := kwZ.size
    (try have sB := kA.size)
    (try have sC := kB.size)
    clear tw1 tw2
    replace b5Z := b5Z.far (p := ⟨w.heap.size, 0, none⟩) (by show _ ≠ w.heap.size; omega) (.int .i64 lv)
    replace i1 := i1.fr (fr_one (p := w.heap.size) (i := 0) (.int .i64 lv)) (by omega)
    replace i2 := i2.fr (fr_one (p := w.heap.size) (i := 0) (.int .i64 lv)) (by omega)
    replace i3 := i3.fr (fr_one (p := w.heap.size) (i := 0) (.int .i64 lv)) (by omega)
    replace i4 := i4.fr (fr_one (p := w.heap.size) (i := 0) (.int .i64 lv)) (by omega)
    replace kwZ := Below.setCell kwZ (p := ⟨w.heap.size, 0, none⟩) (by show _ ≤ w.heap.size; omega) (.int .i64 lv)
    replace b4Z : Bl (wZ.setCell ⟨w.heap.size, 0, none⟩ (.int .i64 lv)) w.heap.size [.int .i64 lv, .slice V n c, .slice H m d, .int .i64 sm] := b4Z.set 0 (.int .i64 lv)
    replace b5Z := b5Z.far (p := ⟨w.heap.size, 1, none⟩) (by show _ ≠ w.heap.size; omega) (.slice V1_ n d1a)
    replace i1 := i1.fr (fr_one (p := w.heap.size) (i := 1) (.slice V1_ n d1a)) (by omega)
    replace i2 := i2.fr (fr_one (p := w.heap.size) (i := 1) (.slice V1_ n d1a)) (by omega)
    replace i3 := i3.fr (fr_one (p := w.heap.size) (i := 1) (.slice V1_ n d1a)) (by omega)
    replace i4 := i4.fr (fr_one (p := w.heap.size) (i := 1) (.slice V1_ n d1a)) (by omega)
    replace kwZ := Below.setCell kwZ (p := ⟨w.heap.size, 1, none⟩) (by show _ ≤ w.heap.size; omega) (.slice V1_ n d1a)
    replace b4Z : Bl ((wZ.setCell ⟨w.heap.size, 0, none⟩ (.int .i64 lv)).setCell ⟨w.heap.size, 1, none⟩ (.slice V1_ n d1a)) w.heap.size [.int .i64 lv, .slice V1_ n d1a, .slice H m d, .int .i64 sm] := b4Z.set 1 (.slice V1_ n d1a)
    replace b5Z := b5Z.far (p := ⟨w.heap.size, 2, none⟩) (by show _ ≠ w.heap.size; omega) (.slice H1_ m d1b)
    replace i1 := i1.fr (fr_one (p := w.heap.size) (i := 2) (.slice H1_ m d1b)) (by omega)
    replace i2 := i2.fr (fr_one (p := w.heap.size) (i := 2) (.slice H1_ m d1b)) (by omega)
    replace i3 := i3.fr (fr_one (p := w.heap.size) (i := 2) (.slice H1_ m d1b)) (by omega)
    replace i4 := i4.fr (fr_one (p := w.heap.size) (i := 2) (.slice H1_ m d1b)) (by omega)
    replace kwZ := Below.setCell kwZ (p := ⟨w.heap.size, 2, none⟩) (by show _ ≤ w.heap.size; omega) (.slice H1_ m d1b)
    replace b4Z : Bl (((wZ.setCell ⟨w.heap.size, 0, none⟩ (.int .i64 lv)).setCell ⟨w.heap.size, 1, none⟩ (.slice V1_ n d1a)).setCell ⟨w.heap.size, 2, none⟩ (.slice H1_ m d1b)) w.heap.size [.int .i64 lv, .slice V1_ n d1a, .slice H1_ m d1b, .int .i64 sm] := b4Z.set 2 (.slice H1_ m d1b)
    replace b5Z := b5Z.far (p := ⟨w.heap.size, 3, none⟩) (by show _ ≠ w.heap.size; omega) (.int .i64 sm)
    replace i1 := i1.fr (fr_one (p := w.heap.size) (i := 3) (.int .i64 sm)) (by omega)
    replace i2 := i2.fr (fr_one (p := w.heap.size) (i := 3) (.int .i64 sm)) (by omega)
    replace i3 := i3.fr (fr_one (p := w.heap.size) (i := 3) (.int .i64 sm)) (by omega)
    replace i4 := i4.fr (fr_one (p := w.heap.size) (i := 3) (.int .i64 sm)) (by omega)
    replace kwZ := Below.setCell kwZ (p := ⟨w.heap.size, 3, none⟩) (by show _ ≤ w.heap.size; omega) (.int .i64 sm)
    replace b4Z : Bl ((((wZ.setCell ⟨w.heap.size, 0, none⟩ (.int .i64 lv)).setCell ⟨w.heap.size, 1, none⟩ (.slice V1_ n d1a)).setCell ⟨w.heap.size, 2, none⟩ (.slice H1_ m d1b)).setCell ⟨w.heap.size, 3, none⟩ (.int .i64 sm)) w.heap.size [.int .i64 lv, .slice V1_ n d1a, .slice H1_ m d1b, .int .i64 sm] := b4Z.set 3 (.int .i64 sm)
    replace b4Z := b4Z.far (p := ⟨(w.heap.size + 1), 0, none⟩) (by show _ ≠ (w.heap.size + 1); omega) (.int .i64 lu)
    replace i1 := i1.fr (fr_one (p := (w.heap.size + 1)) (i := 0) (.int .i64 lu)) (by omega)
    replace i2 := i2.fr (fr_one (p := (w.heap.size + 1)) (i := 0) (.int .i64 lu)) (by omega)
    replace i3 := i3.fr (fr_one (p := (w.heap.size + 1)) (i := 0) (.int .i64 lu)) (by omega)
    replace i4 := i4.fr (fr_one (p := (w.heap.size + 1)) (i := 0) (.int .i64 lu)) (by omega)
    replace kwZ := Below.setCell kwZ (p := ⟨(w.heap.size + 1), 0, none⟩) (by show _ ≤ (w.heap.size + 1); omega) (.int .i64 lu)
    replace b5Z : Bl (((((wZ.setCell ⟨w.heap.size, 0, none⟩ (.int .i64 lv)).setCell ⟨w.heap.size, 1, none⟩ (.slice V1_ n d1a)).setCell ⟨w.heap.size, 2, none⟩ (.slice H1_ m d1b)).setCell ⟨w.heap.size, 3, none⟩ (.int .i64 sm)).setCell ⟨(w.heap.size + 1), 0, none⟩ (.int .i64 lu)) (w.heap.size + 1) [.int .i64 lu, .slice V' n' c', .slice H' m' d', .int .i64 su] := b5Z.set 0 (.int .i64 lu)
    replace b4Z := b4Z.far (p := ⟨(w.heap.size + 1), 1, none⟩) (by show _ ≠ (w.heap.size + 1); omega) (.slice V2_ n' d2a)
    replace i1 := i1.fr (fr_one (p := (w.heap.size + 1)) (i := 1) (.slice V2_ n' d2a)) (by omega)
    replace i2 := i2.fr (fr_one (p := (w.heap.size + 1)) (i := 1) (.slice V2_ n' d2a)) (by omega)
    replace i3 := i3.fr (fr_one (p := (w.heap.size + 1)) (i := 1) (.slice V2_ n' d2a)) (by omega)
    replace i4 := i4.fr (fr_one (p := (w.heap.size + 1)) (i := 1) (.slice V2_ n' d2a)) (by omega)
    replace kwZ := Below.setCell kwZ (p := ⟨(w.heap.size + 1), 1, none⟩) (by show _ ≤ (w.heap.size + 1); omega) (.slice V2_ n' d2a)
    replace b5Z : Bl ((((((wZ.setCell ⟨w.heap.size, 0, none⟩ (.int .i64 lv)).setCell ⟨w.heap.size, 1, none⟩ (.slice V1_ n d1a)).setCell ⟨w.heap.size, 2, none⟩ (.slice H1_ m d1b)).setCell ⟨w.heap.size, 3, none⟩ (.int .i64 sm)).setCell ⟨(w.heap.size + 1), 0, none⟩ (.int .i64 lu)).setCell ⟨(w.heap.size + 1), 1, none⟩ (.slice V2_ n' d2a)) (w.heap.size + 1) [.int .i64 lu, .slice V2_ n' d2a, .slice H' m' d', .int .i64 su] := b5Z.set 1 (.slice V2_ n' d2a)
    replace b4Z := b4Z.far (p := ⟨(w.heap.size + 1), 2, none⟩) (by show _ ≠ (w.heap.size + 1); omega) (.slice H2_ m' d2b)
    replace i1 := i1.fr (fr_one (p := (w.heap.size + 1)) (i := 2) (.slice H2_ m' d2b)) (by omega)
    replace i2 := i2.fr (fr_one (p := (w.heap.size + 1)) (i := 2) (.slice H2_ m' d2b)) (by omega)
    replace i3 := i3.fr (fr_one (p := (w.heap.size + 1)) (i := 2) (.slice H2_ m' d2b)) (by omega)
    replace i4 := i4.fr (fr_one (p := (w.heap.size + 1)) (i := 2) (.slice H2_ m' d2b)) (by omega)
    replace kwZ := Below.setCell kwZ (p := ⟨(w.heap.size + 1), 2, none⟩) (by show _ ≤ (w.heap.size + 1); omega) (.slice H2_ m' d2b)
    replace b5Z : Bl (((((((wZ.setCell ⟨w.heap.size, 0, none⟩ (.int .i64 lv)).setCell ⟨w.heap.size, 1, none⟩ (.slice V1_ n d1a)).setCell ⟨w.heap.size, 2, none⟩ (.slice H1_ m d1b)).setCell ⟨w.heap.size, 3, none⟩ (.int .i64 sm)).setCell ⟨(w.heap.size + 1), 0, none⟩ (.int .i64 lu)).setCell ⟨(w.heap.size + 1), 1, none⟩ (.slice V2_ n' d2a)).setCell ⟨(w.heap.size + 1), 2, none⟩ (.slice H2_ m' d2b)) (w.heap.size + 1) [.int .i64 lu, .slice V2_ n' d2a, .slice H2_ m' d2b, .int .i64 su] := b5Z.set 2 (.slice H2_ m' d2b)
    replace b4Z := b4Z.far (p := ⟨(w.heap.size + 1), 3, none⟩) (by show _ ≠ (w.heap.size + 1); omega) (.int .i64 su)
    replace i1 := i1.fr (fr_one (p := (w.heap.size + 1)) (i := 3) (.int .i64 su)) (by omega)
    replace i2 := i2.fr (fr_one (p := (w.heap.size + 1)) (i := 3) (.int .i64 su)) (by omega)
    replace i3 := i3.fr (fr_one (p := (w.heap.size + 1)) (i := 3) (.int .i64 su)) (by omega)
    replace i4 := i4.fr (fr_one (p := (w.heap.size + 1)) (i := 3) (.int .i64 su)) (by omega)
    replace kwZ := Below.setCell kwZ (p := ⟨(w.heap.size + 1), 3, none⟩) (by show _ ≤ (w.heap.size + 1); omega) (.int .i64 su)
    replace b5Z : Bl ((((((((wZ.setCell ⟨w.heap.size, 0, none⟩ (.int .i64 lv)).setCell ⟨w.heap.size, 1, none⟩ (.slice V1_ n d1a)).setCell ⟨w.heap.size, 2, none⟩ (.slice H1_ m d1b)).setCell ⟨w.heap.size, 3, none⟩ (.int .i64 sm)).setCell ⟨(w.heap.size + 1), 0, none⟩ (.int .i64 lu)).setCell ⟨(w.heap.size + 1), 1, none⟩ (.slice V2_ n' d2a)).setCell ⟨(w.heap.size + 1), 2, none⟩ (.slice H2_ m' d2b)).setCell ⟨(w.heap.size + 1), 3, none⟩ (.int .i64 su)) (w.heap.size + 1) [.int .i64 lu, .slice V2_ n' d2a, .slice H2_ m' d2b, .int .i64 su] := b5Z.set 3 (.int .i64 su)
    (try clear kA)
    (try clear kB)
    (try clear kWA)
    (try clear kWB)
    clear kZ kD b4D b5D
    (try clear b4A b5A)
    (try clear b4B b5B)
    clear zp0D zp0wZ zp1D zp1wZ zp2D zp2wZ zp3D zp3wZ zq0D zq0wZ zq1D zq1wZ zq2D zq2wZ zq3D zq3wZ yp0D yp0wZ yp1D yp1wZ yp2D yp2wZ yp3D yp3wZ yq0D yq0wZ yq1D yq1wZ yq2D yq2wZ yq3D yq3wZ
    (try clear zp0wA zp1wA zp2wA zp3wA zq0wA zq1wA zq2wA zq3wA yp0wA yp1wA yp2wA yp3wA yq0wA yq1wA yq2wA yq3wA)
    (try clear zp0wB zp1wB zp2wB zp3wB zq0wB zq1wB zq2wB zq3wB yp0wB yp1wB yp2wB yp3wB yq0wB yq1wB yq2wB yq3wB)
    obtain ⟨wS, hX⟩ : ∃ u : World, u = ((((((((wZ.setCell ⟨w.heap.size, 0, none⟩ (.int .i64 lv)).setCell ⟨w.heap.size, 1, none⟩ (.slice V1_ n d1a)).setCell ⟨w.heap.size, 2, none⟩ (.slice H1_ m d1b)).setCell ⟨w.heap.size, 3, none⟩ (.int .i64 sm)).setCell ⟨(w.heap.size + 1), 0, none⟩ (.int .i64 lu)).setCell ⟨(w.heap.size + 1), 1, none⟩ (.slice V2_ n' d2a)).setCell ⟨(w.heap.size + 1), 2, none⟩ (.slice H2_ m' d2b)).setCell ⟨(w.heap.size + 1), 3, none⟩ (.int .i64 su)) := ⟨_, rfl⟩
    have szX2 := hid (show wS.heap.size = wZ.heap.size by rw [hX]; simp)
    rw [← hX] at b4Z
    rw [← hX] at b5Z
    rw [← hX] at i1
    rw [← hX] at i2
    rw [← hX] at i3
    rw [← hX] at i4
    rw [← hX] at kwZ
    rw [← hX]
    clear hX
    have sz4 := kwZ.size
    have HPP := hid (show smB l (lv, vs, ws, sm) (lu, us, xs, su) = (decide (lv = lu) && decide (sm = su) && decide (vs = us) && decide (nmL l ws = nmL l xs)) from rfl)
    by_cases e1 : lv = lu
    rotate_left
    · have t1 : (lv == lu) = false := by rw [beq_eq_false_iff_ne]; exact e1
      obtain rfl : p = false := HP.out.symm.trans (HPP.out.trans (by rw [decide_eq_false e1]; rfl))
      have ca5_0 : wS.cell? ⟨w.heap.size, 0, none⟩ = some (.int .i64 lv) := (b4Z.2 0 _ rfl).1
      have fa5_0 : wS.frozen? ⟨w.heap.size, 0, none⟩ = false := (b4Z.2 0 _ rfl).2
      have ca5_1 : wS.cell? ⟨w.heap.size, 1, none⟩ = some (.slice V1_ n d1a) := (b4Z.2 1 _ rfl).1
      have fa5_1 : wS.frozen? ⟨w.heap.size, 1, none⟩ = false := (b4Z.2 1 _ rfl).2
      have ca5_2 : wS.cell? ⟨w.heap.size, 2, none⟩ = some (.slice H1_ m d1b) := (b4Z.2 2 _ rfl).1
      have fa5_2 : wS.frozen? ⟨w.heap.size, 2, none⟩ = false := (b4Z.2 2 _ rfl).2
      have ca5_3 : wS.cell? ⟨w.heap.size, 3, none⟩ = some (.int .i64 sm) := (b4Z.2 3 _ rfl).1
      have fa5_3 : wS.frozen? ⟨w.heap.size, 3, none⟩ = false := (b4Z.2 3 _ rfl).2
      have ca6_0 : wS.cell? ⟨(w.heap.size + 1), 0, none⟩ = some (.int .i64 lu) := (b5Z.2 0 _ rfl).1
      have fa6_0 : wS.frozen? ⟨(w.heap.size + 1), 0, none⟩ = false := (b5Z.2 0 _ rfl).2
      have ca6_1 : wS.cell? ⟨(w.heap.size + 1), 1, none⟩ = some (.slice V2_ n' d2a) := (b5Z.2 1 _ rfl).1
      have fa6_1 : wS.frozen? ⟨(w.heap.size + 1), 1, none⟩ = false := (b5Z.2 1 _ rfl).2
      have ca6_2 : wS.cell? ⟨(w.heap.size + 1), 2, none⟩ = some (.slice H2_ m' d2b) := (b5Z.2 2 _ rfl).1
      have fa6_2 : wS.frozen? ⟨(w.heap.size + 1), 2, none⟩ = false := (b5Z.2 2 _ rfl).2
      have ca6_3 : wS.cell? ⟨(w.heap.size + 1), 3, none⟩ = some (.int .i64 su) := (b5Z.2 3 _ rfl).1
      have fa6_3 : wS.frozen? ⟨(w.heap.size + 1), 3, none⟩ = false := (b5Z.2 3 _ rfl).2
      go_wp2_with fail
      clear ca5_0 fa5_0 ca5_1 fa5_1 ca5_2 fa5_2 ca5_3 fa5_3 ca6_0 fa6_0 ca6_1 fa6_1 ca6_2 fa6_2 ca6_3 fa6_3
      go_ret
      exact ⟨ret_bool rfl, kwZ⟩
    have t1 : (lv == lu) = true := by rw [beq_iff_eq]; exact e1
    by_cases e2 : sm = su
    rotate_left
    · have t2 : (sm == su) = false := by rw [beq_eq_false_iff_ne]; exact e2
      obtain rfl : p = false := HP.out.symm.trans (HPP.out.trans (by rw [decide_eq_false e2]; simp))
      have ca5_0 : wS.cell? ⟨w.heap.size, 0, none⟩ = some (.int .i64 lv) := (b4Z.2 0 _ rfl).1
      have fa5_0 : wS.frozen? ⟨w.heap.size, 0, none⟩ = false := (b4Z.2 0 _ rfl).2
      have ca5_1 : wS.cell? ⟨w.heap.size, 1, none⟩ = some (.slice V1_ n d1a) := (b4Z.2 1 _ rfl).1
      have fa5_1 : wS.frozen? ⟨w.heap.size, 1, none⟩ = false := (b4Z.2 1 _ rfl).2
      have ca5_2 : wS.cell? ⟨w.heap.size, 2, none⟩ = some (.slice H1_ m d1b) := (b4Z.2 2 _ rfl).1
      have fa5_2 : wS.frozen? ⟨w.heap.size, 2, none⟩ = false := (b4Z.2 2 _ rfl).2
      have ca5_3 : wS.cell? ⟨w.heap.size, 3, none⟩ = some (.int .i64 sm) := (b4Z.2 3 _ rfl).1
      have fa5_3 : wS.frozen? ⟨w.heap.size, 3, none⟩ = false := (b4Z.2 3 _ rfl).2
      have ca6_0 : wS.cell? ⟨(w.heap.size + 1), 0, none⟩ = some (.int .i64 lu) := (b5Z.2 0 _ rfl).1
      have fa6_0 : wS.frozen? ⟨(w.heap.size + 1), 0, none⟩ = false := (b5Z.2 0 _ rfl).2
      have ca6_1 : wS.cell? ⟨(w.heap.size + 1), 1, none⟩ = some (.slice V2_ n' d2a) := (b5Z.2 1 _ rfl).1
      have fa6_1 : wS.frozen? ⟨(w.heap.size + 1), 1, none⟩ = false := (b5Z.2 1 _ rfl).2
      have ca6_2 : wS.cell? ⟨(w.heap.size + 1), 2, none⟩ = some (.slice H2_ m' d2b) := (b5Z.2 2 _ rfl).1
      have fa6_2 : wS.frozen? ⟨(w.heap.size + 1), 2, none⟩ = false := (b5Z.2 2 _ rfl).2
      have ca6_3 : wS.cell? ⟨(w.heap.size + 1), 3, none⟩ = some (.int .i64 su) := (b5Z.2 3 _ rfl).1
      have fa6_3 : wS.frozen? ⟨(w.heap.size + 1), 3, none⟩ = false := (b5Z.2 3 _ rfl).2
      go_wp2_with fail
      clear ca5_0 fa5_0 ca5_1 fa5_1 ca5_2 fa5_2 ca5_3 fa5_3 ca6_0 fa6_0 ca6_1 fa6_1 ca6_2 fa6_2 ca6_3 fa6_3
      go_ret
      exact ⟨ret_bool rfl, kwZ⟩
    have t2 : (sm == su) = true := by rw [beq_iff_eq]; exact e2
    have HPQ := hid (HPP.out.trans (show _ = (decide (vs = us) && decide (nmL l ws = nmL l xs)) by rw [decide_eq_true e1, decide_eq_true e2]; rfl))
    clear e1 e2
    have ca5_0 : wS.cell? ⟨w.heap.size, 0, none⟩ = some (.int .i64 lv) := (b4Z.2 0 _ rfl).1
    have fa5_0 : wS.frozen? ⟨w.heap.size, 0, none⟩ = false := (b4Z.2 0 _ rfl).2
    have ca5_1 : wS.cell? ⟨w.heap.size, 1, none⟩ = some (.slice V1_ n d1a) := (b4Z.2 1 _ rfl).1
    have fa5_1 : wS.frozen? ⟨w.heap.size, 1, none⟩ = false := (b4Z.2 1 _ rfl).2
    have ca5_2 : wS.cell? ⟨w.heap.size, 2, none⟩ = some (.slice H1_ m d1b) := (b4Z.2 2 _ rfl).1
    have fa5_2 : wS.frozen? ⟨w.heap.size, 2, none⟩ = false := (b4Z.2 2 _ rfl).2
    have ca5_3 : wS.cell? ⟨w.heap.size, 3, none⟩ = some (.int .i64 sm) := (b4Z.2 3 _ rfl).1
    have fa5_3 : wS.frozen? ⟨w.heap.size, 3, none⟩ = false := (b4Z.2 3 _ rfl).2
    have ca6_0 : wS.cell? ⟨(w.heap.size + 1), 0, none⟩ = some (.int .i64 lu) := (b5Z.2 0 _ rfl).1
    have fa6_0 : wS.frozen? ⟨(w.heap.size + 1), 0, none⟩ = false := (b5Z.2 0 _ rfl).2
    have ca6_1 : wS.cell? ⟨(w.heap.size + 1), 1, none⟩ = some (.slice V2_ n' d2a) := (b5Z.2 1 _ rfl).1
    have fa6_1 : wS.frozen? ⟨(w.heap.size + 1), 1, none⟩ = false := (b5Z.2 1 _ rfl).2
    have ca6_2 : wS.cell? ⟨(w.heap.size + 1), 2, none⟩ = some (.slice H2_ m' d2b) := (b5Z.2 2 _ rfl).1
    have fa6_2 : wS.frozen? ⟨(w.heap.size + 1), 2, none⟩ = false := (b5Z.2 2 _ rfl).2
    have ca6_3 : wS.cell? ⟨(w.heap.size + 1), 3, none⟩ = some (.int .i64 su) := (b5Z.2 3 _ rfl).1
    have fa6_3 : wS.frozen? ⟨(w.heap.size + 1), 3, none⟩ = false := (b5Z.2 3 _ rfl).2
    go_wp2_with fail
    clear ca5_0 fa5_0 ca5_1 fa5_1 ca5_2 fa5_2 ca5_3 fa5_3 ca6_0 fa6_0 ca6_1 fa6_1 ca6_2 fa6_2 ca6_3 fa6_3
    obtain ⟨r, HR⟩ : ∃ r, Hid (decide (vs = us) = r) := ⟨_, rfl⟩
    refine (equalI_any i1 i3).mono ?_
    rintro e w7 ⟨rfl, k7⟩
    rw [HR.out]
    replace b4Z := b4Z.keeps k7
    replace b5Z := b5Z.keeps k7
    replace i1 := i1.keeps k7
    replace i2 := i2.keeps k7
    replace i3 := i3.keeps k7
    replace i4 := i4.keeps k7
    replace kwZ := Keeps.trans kwZ k7
    have lt8 := b5Z.lt
    have sz9 := kwZ.size
    clear k7
    cases r
    · obtain rfl : p = false := HP.out.symm.trans (HPQ.out.trans (by rw [HR.out]; rfl))
      have ca10_0 : w7.cell? ⟨w.heap.size, 0, none⟩ = some (.int .i64 lv) := (b4Z.2 0 _ rfl).1
      have fa10_0 : w7.frozen? ⟨w.heap.size, 0, none⟩ = false := (b4Z.2 0 _ rfl).2
      have ca10_1 : w7.cell? ⟨w.heap.size, 1, none⟩ = some (.slice V1_ n d1a) := (b4Z.2 1 _ rfl).1
      have fa10_1 : w7.frozen? ⟨w.heap.size, 1, none⟩ = false := (b4Z.2 1 _ rfl).2
      have ca10_2 : w7.cell? ⟨w.heap.size, 2, none⟩ = some (.slice H1_ m d1b) := (b4Z.2 2 _ rfl).1
      have fa10_2 : w7.frozen? ⟨w.heap.size, 2, none⟩ = false := (b4Z.2 2 _ rfl).2
      have ca10_3 : w7.cell? ⟨w.heap.size, 3, none⟩ = some (.int .i64 sm) := (b4Z.2 3 _ rfl).1
      have fa10_3 : w7.frozen? ⟨w.heap.size, 3, none⟩ = false := (b4Z.2 3 _ rfl).2
      have ca11_0 : w7.cell? ⟨(w.heap.size + 1), 0, none⟩ = some (.int .i64 lu) := (b5Z.2 0 _ rfl).1
      have fa11_0 : w7.frozen? ⟨(w.heap.size + 1), 0, none⟩ = false := (b5Z.2 0 _ rfl).2
      have ca11_1 : w7.cell? ⟨(w.heap.size + 1), 1, none⟩ = some (.slice V2_ n' d2a) := (b5Z.2 1 _ rfl).1
      have fa11_1 : w7.frozen? ⟨(w.heap.size + 1), 1, none⟩ = false := (b5Z.2 1 _ rfl).2
      have ca11_2 : w7.cell? ⟨(w.heap.size + 1), 2, none⟩ = some (.slice H2_ m' d2b) := (b5Z.2 2 _ rfl).1
      have fa11_2 : w7.frozen? ⟨(w.heap.size + 1), 2, none⟩ = false := (b5Z.2 2 _ rfl).2
      have ca11_3 : w7.cell? ⟨(w.heap.size + 1), 3, none⟩ = some (.int .i64 su) := (b5Z.2 3 _ rfl).1
      have fa11_3 : w7.frozen? ⟨(w.heap.size + 1), 3, none⟩ = false := (b5Z.2 3 _ rfl).2
      go_wp2_with fail
      clear ca10_0 fa10_0 ca10_1 fa10_1 ca10_2 fa10_2 ca10_3 fa10_3 ca11_0 fa11_0 ca11_1 fa11_1 ca11_2 fa11_2 ca11_3 fa11_3
      go_ret
      exact ⟨ret_bool rfl, kwZ⟩
    have ca10_0 : w7.cell? ⟨w.heap.size, 0, none⟩ = some (.int .i64 lv) := (b4Z.2 0 _ rfl).1
    have fa10_0 : w7.frozen? ⟨w.heap.size, 0, none⟩ = false := (b4Z.2 0 _ rfl).2
    have ca10_1 : w7.cell? ⟨w.heap.size, 1, none⟩ = some (.slice V1_ n d1a) := (b4Z.2 1 _ rfl).1
    have fa10_1 : w7.frozen? ⟨w.heap.size, 1, none⟩ = false := (b4Z.2 1 _ rfl).2
    have ca10_2 : w7.cell? ⟨w.heap.size, 2, none⟩ = some (.slice H1_ m d1b) := (b4Z.2 2 _ rfl).1
    have fa10_2 : w7.frozen? ⟨w.heap.size, 2, none⟩ = false := (b4Z.2 2 _ rfl).2
    have ca10_3 : w7.cell? ⟨w.heap.size, 3, none⟩ = some (.int .i64 sm) := (b4Z.2 3 _ rfl).1
    have fa10_3 : w7.frozen? ⟨w.heap.size, 3, none⟩ = false := (b4Z.2 3 _ rfl).2
    have ca11_0 : w7.cell? ⟨(w.heap.size + 1), 0, none⟩ = some (.int .i64 lu) := (b5Z.2 0 _ rfl).1
    have fa11_0 : w7.frozen? ⟨(w.heap.size + 1), 0, none⟩ = false := (b5Z.2 0 _ rfl).2
    have ca11_1 : w7.cell? ⟨(w.heap.size + 1), 1, none⟩ = some (.slice V2_ n' d2a) := (b5Z.2 1 _ rfl).1
    have fa11_1 : w7.frozen? ⟨(w.heap.size + 1), 1, none⟩ = false := (b5Z.2 1 _ rfl).2
    have ca11_2 : w7.cell? ⟨(w.heap.size + 1), 2, none⟩ = some (.slice H2_ m' d2b) := (b5Z.2 2 _ rfl).1
    have fa11_2 : w7.frozen? ⟨(w.heap.size + 1), 2, none⟩ = false := (b5Z.2 2 _ rfl).2
    have ca11_3 : w7.cell? ⟨(w.heap.size + 1), 3, none⟩ = some (.int .i64 su) := (b5Z.2 3 _ rfl).1
    have fa11_3 : w7.frozen? ⟨(w.heap.size + 1), 3, none⟩ = false := (b5Z.2 3 _ rfl).2
    go_wp2_with fail
    clear ca10_0 fa10_0 ca10_1 fa10_1 ca10_2 fa10_2 ca10_3 fa10_3 ca11_0 fa11_0 ca11_1 fa11_1 ca11_2 fa11_2 ca11_3 fa11_3
    obtain rfl : p = decide (nmL l ws = nmL l xs) := HP.out.symm.trans (HPQ.out.trans (by rw [HR.out]; rfl))
    refine (equalI_any i2 i4).mono ?_
    rintro e w12 ⟨rfl, k12⟩
    replace b4Z := b4Z.keeps k12
    replace b5Z := b5Z.keeps k12
    replace i1 := i1.keeps k12
    replace i2 := i2.keeps k12
    replace i3 := i3.keeps k12
    replace i4 := i4.keeps k12
    replace kwZ := Keeps.trans kwZ k12
    have lt13 := b5Z.lt
    have sz14 := kwZ.size
    clear k12
    go_wp2_with fail
    go_ret
    exact ⟨ret_bool rfl, kwZ⟩)
end Go.Proofs.Ytellocnplemjmaa
