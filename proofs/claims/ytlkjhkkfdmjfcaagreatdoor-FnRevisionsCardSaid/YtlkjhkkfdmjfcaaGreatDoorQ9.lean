/- What the proof of the statement leans on, part 10: walks of functions and plain lemmas, with no condition. -/
import Derived.Deep.RegionLaw
import Derived.Test.YtlkjhkkfdmjfcaaGreatDoorQ8
namespace Go.Proofs.YtlkjhkkfdmjfcaaGreatDoor
open Go.RowKit Go.Sort Go.Deep
set_option linter.unusedVariables false
set_option linter.unusedSimpArgs false
theorem stp_pick {W : World} {ops : Array Oper} {o : Oper} {a : Act} {K : Act → World → Prop} {Q : Exit → Act → World → Prop} {E : Prop} {g : Nat} {T n : Int}
    (hc : Cur W g T) (hT : T ≤ 999999999999999) (hn : n ≤ 65536) (hgd : o.guard = none)
    (hrun : (execOp a.eval o).run Tryz.prog W = .ok (.enter 76 #[.pointer (some ⟨g, 0, none⟩), .int .i64 n]) W)
    (h : ∀ x w', (0 ≤ x ∧ (x < n ∨ n ≤ 1 ∧ x = 0)) → Cur w' g (T + 2) → Fr g (g + 1) W w' → K (a.put o.dst (.int .i64 x)) w') :
    if Region.wanted o (yielded ops a.tmps) = true then Oper.wp Tryz.prog o a W K Q else E := by
  have hw : Region.wanted o (yielded ops a.tmps) = true := by simp [Region.wanted, hgd]
  rw [if_pos hw]
  unfold Oper.wp
  rw [hrun, Oper.upon_enter]
  refine (pick_any hc hT hn).mono fun e w' hh => ?_
  obtain ⟨x, rfl, hx, h1, h2⟩ := hh
  exact h x w' hx h1 h2
theorem stp_among {W : World} {ops : Array Oper} {o : Oper} {a : Act} {K : Act → World → Prop} {Q : Exit → Act → World → Prop} {E : Prop} {g lo hi n c : Nat} {A : Option Addr} {xs : List Int} {T : Int}
    (hc : Cur W g T) (hT : T ≤ 999999999999999) (hx : Ints W lo hi A n xs) (hg : g < lo) (h0 : 0 < n) (hn : n ≤ 65536) (hgd : o.guard = none)
    (hrun : (execOp a.eval o).run Tryz.prog W = .ok (.enter 113 #[.pointer (some ⟨g, 0, none⟩), .slice A n c]) W)
    (h : ∀ x w', Cur w' g (T + 2) → Fr g (g + 1) W w' → K (a.put o.dst (.int .i64 x)) w') :
    if Region.wanted o (yielded ops a.tmps) = true then Oper.wp Tryz.prog o a W K Q else E := by
  have hw : Region.wanted o (yielded ops a.tmps) = true := by simp [Region.wanted, hgd]
  rw [if_pos hw]
  unfold Oper.wp
  rw [hrun, Oper.upon_enter]
  refine (among_any hc hT hx hg h0 hn).mono fun e w' hh => ?_
  obtain ⟨x, _, rfl, _, _, h1, h2⟩ := hh
  exact h x w' h1 h2
set_option maxRecDepth 100000 in
set_option maxHeartbeats 12800000 in
theorem anyTable_any {g : Nat} {T : Int} {lo hi q c lo2 hi2 a c0 : Nat} {A A2 : Option Addr} {l : List VV} {ps : List Int} {w : World} (h : Cur w g T) (hT : T ≤ 200000000000000) (hG : Ints w lo2 hi2 A2 a ps) (hg2 : g < lo2) (hs : Vars w lo hi A q l) (hgl : g < lo) (hD : SchD l) :
    Calls Tryz.prog 78 #[.pointer (some ⟨g, 0, none⟩), .agg #[.slice A2 a c0], .slice A q c] w (DrawsT 10 w g (T + 150)) := by
  have HQL := hid (Vars.len hs)
  have HII := hid info_int
  have HD := hid hD
  have hq7 : q ≤ 7 := by have := hD.len; rw [Vars.len hs] at this; exact this
  have lg := h.lt
  go_enter Tryz.func78, Tryz.ntmps78
  have f : Fr g (g + 1) w w := Fr.refl _ _ _
  have hc := h
  replace f := f.keeps (keeps_alloc w (.cells #[.slice A2 a c0] 32))
  replace hc := hc.keeps (keeps_alloc w (.cells #[.slice A2 a c0] 32))
  have b4 : B1 (w.alloc (.cells #[.slice A2 a c0] 32)) w.heap.size (.slice A2 a c0) := B1.new' (by simp)
  replace f := f.keeps (keeps_alloc (w.alloc (.cells #[.slice A2 a c0] 32)) (.cells #[.int .i64 0, .slice none 0 0, .slice none 0 0, .int .i64 0] 61))
  replace hc := hc.keeps (keeps_alloc (w.alloc (.cells #[.slice A2 a c0] 32)) (.cells #[.int .i64 0, .slice none 0 0, .slice none 0 0, .int .i64 0] 61))
  replace b4 := b4.keeps (keeps_alloc (w.alloc (.cells #[.slice A2 a c0] 32)) (.cells #[.int .i64 0, .slice none 0 0, .slice none 0 0, .int .i64 0] 61))
  have b6 : Bl ((w.alloc (.cells #[.slice A2 a c0] 32)).alloc (.cells #[.int .i64 0, .slice none 0 0, .slice none 0 0, .int .i64 0] 61)) (w.heap.size + 1) [.int .i64 0, .slice none 0 0, .slice none 0 0, .int .i64 0] := Bl.new' (by simp) (by simp)
  obtain ⟨ca1, fa1⟩ := id b4
  go_wp2_with fail
  clear ca1 fa1
  refine (table_any hc (by omega) (hG.fr f (by omega)) hg2 (hs.fr f (by omega)) hgl HD.out).mono ?_
  rintro e w2 ⟨lv, sm, V, nv, cv, H, nh, ch, xs, ys, rfl, hT5, ⟨hxl, hyl, hnv, hnh⟩, hn, ff⟩
  replace f := f.trans ff
  clear hc
  have hc := hn
  replace b4 := b4.fr ff (by first | omega | (simp; omega))
  replace b6 := b6.fr ff (by first | omega | (simp; omega))
  have sf2 := ff.size
  try simp at sf2
  clear ff hn
  have sz2 := f.size
  have lt2 := b6.lt
  have hV : OI w2 (w.heap.size + 2) (.slice V nv cv) xs := hT5.v.low (by simp)
  have hO : OI w2 (w.heap.size + 2) (.slice H nh ch) ys := hT5.h.low (by simp)
  have HAP := hid hT5.ap
  clear hT5
  have HVL := hid hV.lt
  have hOl := hid hO.lt
  have HXL := hid hxl
  have HYL := hid hyl
  clear hxl hyl
  replace f := f.keeps (keeps_alloc w2 (.cells #[.int .i64 lv, .slice V nv cv, .slice H nh ch, .int .i64 sm] 61))
  replace hc := hc.keeps (keeps_alloc w2 (.cells #[.int .i64 lv, .slice V nv cv, .slice H nh ch, .int .i64 sm] 61))
  replace b4 := b4.keeps (keeps_alloc w2 (.cells #[.int .i64 lv, .slice V nv cv, .slice H nh ch, .int .i64 sm] 61))
  replace b6 := b6.keeps (keeps_alloc w2 (.cells #[.int .i64 lv, .slice V nv cv, .slice H nh ch, .int .i64 sm] 61))
  replace hV := hV.keeps (keeps_alloc w2 (.cells #[.int .i64 lv, .slice V nv cv, .slice H nh ch, .int .i64 sm] 61))
  replace hO := hO.keeps (keeps_alloc w2 (.cells #[.int .i64 lv, .slice V nv cv, .slice H nh ch, .int .i64 sm] 61))
  have b7 : Bl (w2.alloc (.cells #[.int .i64 lv, .slice V nv cv, .slice H nh ch, .int .i64 sm] 61)) w2.heap.size [.int .i64 lv, .slice V nv cv, .slice H nh ch, .int .i64 sm] := Bl.new' (by simp) (by simp)
  go_wp2_with fail
  refine (pick_any hc (by omega) (by omega)).mono ?_
  rintro e w3 ⟨v, rfl, hv, hn, ff⟩
  replace f := f.trans ff
  clear hc
  have hc := hn
  replace b4 := b4.fr ff (by first | omega | (simp; omega))
  replace b6 := b6.fr ff (by first | omega | (simp; omega))
  replace b7 := b7.fr ff (by first | omega | (simp; omega))
  replace hV := hV.fr ff (by first | omega | (simp; omega))
  replace hO := hO.fr ff (by first | omega | (simp; omega))
  have sf3 := ff.size
  try simp at sf3
  clear ff hn
  have sz3 := f.size
  have lt3 := b7.lt
  by_cases h0 : v = 0
  · subst h0
    clear hv
    have Lx : Ints (w3.alloc (.cells #[.int .i64 (-1), .int .i64 3, .int .i64 4] 3)) w3.heap.size (w3.heap.size + 1) (some ⟨w3.heap.size, 0, none⟩) 3 [-1, 3, 4] := lit_ints w3 [-1, 3, 4] (by decide)
    replace f := f.keeps (keeps_alloc w3 (.cells #[.int .i64 (-1), .int .i64 3, .int .i64 4] 3))
    replace hc := hc.keeps (keeps_alloc w3 (.cells #[.int .i64 (-1), .int .i64 3, .int .i64 4] 3))
    replace b4 := b4.keeps (keeps_alloc w3 (.cells #[.int .i64 (-1), .int .i64 3, .int .i64 4] 3))
    replace b6 := b6.keeps (keeps_alloc w3 (.cells #[.int .i64 (-1), .int .i64 3, .int .i64 4] 3))
    replace b7 := b7.keeps (keeps_alloc w3 (.cells #[.int .i64 (-1), .int .i64 3, .int .i64 4] 3))
    replace hV := hV.keeps (keeps_alloc w3 (.cells #[.int .i64 (-1), .int .i64 3, .int .i64 4] 3))
    replace hO := hO.keeps (keeps_alloc w3 (.cells #[.int .i64 (-1), .int .i64 3, .int .i64 4] 3))
    go_wp2_with fail
    refine (among_any hc (by omega) Lx (by first | omega | (simp; omega)) (by omega) (by omega)).mono ?_
    rintro e w4 ⟨x, xj, rfl, xh, xe, hn, ff⟩
    replace f := f.trans ff
    clear hc
    have hc := hn
    replace b4 := b4.fr ff (by first | omega | (simp; omega))
    replace b6 := b6.fr ff (by first | omega | (simp; omega))
    replace b7 := b7.fr ff (by first | omega | (simp; omega))
    replace hV := hV.fr ff (by first | omega | (simp; omega))
    replace hO := hO.fr ff (by first | omega | (simp; omega))
    have sf4 := ff.size
    try simp at sf4
    clear ff hn
    have sz4 := f.size
    have lt4 := b7.lt
    clear Lx xe xh
    have ca5_0 := (b7.2 0 _ rfl).1
    have fa5_0 := (b7.2 0 _ rfl).2
    have ca5_1 := (b7.2 1 _ rfl).1
    have fa5_1 := (b7.2 1 _ rfl).2
    have ca5_2 := (b7.2 2 _ rfl).1
    have fa5_2 := (b7.2 2 _ rfl).2
    have ca5_3 := (b7.2 3 _ rfl).1
    have fa5_3 := (b7.2 3 _ rfl).2
    replace hO := (OI.store (p := w2.heap.size) (i := 0) (x := .int .i64 x) hO (fun g e => by have := hOl.out g e; omega))
    replace hV := (OI.store (p := w2.heap.size) (i := 0) (x := .int .i64 x) hV (fun g e => by have := HVL.out g e; omega))
    replace f := f.setNew (p := ⟨w2.heap.size, 0, none⟩) (by show _ ≤ w2.heap.size; omega) (.int .i64 x)
    replace hc := hc.fr (fr_one (p := w2.heap.size) (i := 0) (.int .i64 x)) (by omega)
    replace b4 := b4.far (p := ⟨w2.heap.size, 0, none⟩) (by show _ ≠ w2.heap.size; omega) (.int .i64 x)
    replace b6 := b6.far (p := ⟨w2.heap.size, 0, none⟩) (by show _ ≠ w2.heap.size; omega) (.int .i64 x)
    replace b7 : Bl (w4.setCell ⟨w2.heap.size, 0, none⟩ (.int .i64 x)) w2.heap.size [.int .i64 x, .slice V nv cv, .slice H nh ch, .int .i64 sm] := b7.set 0 (.int .i64 x)
    have ca6_0 := (b7.2 0 _ rfl).1
    have ca6_1 := (b7.2 1 _ rfl).1
    have ca6_2 := (b7.2 2 _ rfl).1
    have ca6_3 := (b7.2 3 _ rfl).1
    have ca7_0 := (b6.2 0 _ rfl).1
    have fa7_0 := (b6.2 0 _ rfl).2
    have ca7_1 := (b6.2 1 _ rfl).1
    have fa7_1 := (b6.2 1 _ rfl).2
    have ca7_2 := (b6.2 2 _ rfl).1
    have fa7_2 := (b6.2 2 _ rfl).2
    have ca7_3 := (b6.2 3 _ rfl).1
    have fa7_3 := (b6.2 3 _ rfl).2
    have HV := hid hV
    have HO := hid hO
    clear hV hO
    replace f := f.setNew (p := ⟨w.heap.size + 1, 0, none⟩) (by show _ ≤ (w.heap.size + 1); omega) (.int .i64 x)
    replace hc := hc.fr (fr_one (p := (w.heap.size + 1)) (i := 0) (.int .i64 x)) (by omega)
    replace b4 := b4.far (p := ⟨w.heap.size + 1, 0, none⟩) (by show _ ≠ (w.heap.size + 1); omega) (.int .i64 x)
    replace b7 := b7.far (p := ⟨w.heap.size + 1, 0, none⟩) (by show _ ≠ (w.heap.size + 1); omega) (.int .i64 x)
    replace b6 : Bl ((w4.setCell ⟨w2.heap.size, 0, none⟩ (.int .i64 x)).setCell ⟨w.heap.size + 1, 0, none⟩ (.int .i64 x)) (w.heap.size + 1) [.int .i64 x, .slice none 0 0, .slice none 0 0, .int .i64 0] := b6.set 0 (.int .i64 x)
    replace f := f.setNew (p := ⟨w.heap.size + 1, 1, none⟩) (by show _ ≤ (w.heap.size + 1); omega) (.slice V nv cv)
    replace hc := hc.fr (fr_one (p := (w.heap.size + 1)) (i := 1) (.slice V nv cv)) (by omega)
    replace b4 := b4.far (p := ⟨w.heap.size + 1, 1, none⟩) (by show _ ≠ (w.heap.size + 1); omega) (.slice V nv cv)
    replace b7 := b7.far (p := ⟨w.heap.size + 1, 1, none⟩) (by show _ ≠ (w.heap.size + 1); omega) (.slice V nv cv)
    replace b6 : Bl (((w4.setCell ⟨w2.heap.size, 0, none⟩ (.int .i64 x)).setCell ⟨w.heap.size + 1, 0, none⟩ (.int .i64 x)).setCell ⟨w.heap.size + 1, 1, none⟩ (.slice V nv cv)) (w.heap.size + 1) [.int .i64 x, .slice V nv cv, .slice none 0 0, .int .i64 0] := b6.set 1 (.slice V nv cv)
    replace f := f.setNew (p := ⟨w.heap.size + 1, 2, none⟩) (by show _ ≤ (w.heap.size + 1); omega) (.slice H nh ch)
    replace hc := hc.fr (fr_one (p := (w.heap.size + 1)) (i := 2) (.slice H nh ch)) (by omega)
    replace b4 := b4.far (p := ⟨w.heap.size + 1, 2, none⟩) (by show _ ≠ (w.heap.size + 1); omega) (.slice H nh ch)
    replace b7 := b7.far (p := ⟨w.heap.size + 1, 2, none⟩) (by show _ ≠ (w.heap.size + 1); omega) (.slice H nh ch)
    replace b6 : Bl ((((w4.setCell ⟨w2.heap.size, 0, none⟩ (.int .i64 x)).setCell ⟨w.heap.size + 1, 0, none⟩ (.int .i64 x)).setCell ⟨w.heap.size + 1, 1, none⟩ (.slice V nv cv)).setCell ⟨w.heap.size + 1, 2, none⟩ (.slice H nh ch)) (w.heap.size + 1) [.int .i64 x, .slice V nv cv, .slice H nh ch, .int .i64 0] := b6.set 2 (.slice H nh ch)
    replace f := f.setNew (p := ⟨w.heap.size + 1, 3, none⟩) (by show _ ≤ (w.heap.size + 1); omega) (.int .i64 sm)
    replace hc := hc.fr (fr_one (p := (w.heap.size + 1)) (i := 3) (.int .i64 sm)) (by omega)
    replace b4 := b4.far (p := ⟨w.heap.size + 1, 3, none⟩) (by show _ ≠ (w.heap.size + 1); omega) (.int .i64 sm)
    replace b7 := b7.far (p := ⟨w.heap.size + 1, 3, none⟩) (by show _ ≠ (w.heap.size + 1); omega) (.int .i64 sm)
    replace b6 : Bl (((((w4.setCell ⟨w2.heap.size, 0, none⟩ (.int .i64 x)).setCell ⟨w.heap.size + 1, 0, none⟩ (.int .i64 x)).setCell ⟨w.heap.size + 1, 1, none⟩ (.slice V nv cv)).setCell ⟨w.heap.size + 1, 2, none⟩ (.slice H nh ch)).setCell ⟨w.heap.size + 1, 3, none⟩ (.int .i64 sm)) (w.heap.size + 1) [.int .i64 x, .slice V nv cv, .slice H nh ch, .int .i64 sm] := b6.set 3 (.int .i64 sm)
    have OTT := hid (show OT (((((w4.setCell ⟨w2.heap.size, 0, none⟩ (.int .i64 x)).setCell ⟨w.heap.size + 1, 0, none⟩ (.int .i64 x)).setCell ⟨w.heap.size + 1, 1, none⟩ (.slice V nv cv)).setCell ⟨w.heap.size + 1, 2, none⟩ (.slice H nh ch)).setCell ⟨w.heap.size + 1, 3, none⟩ (.int .i64 sm)) w.heap.size (.slice V nv cv) (.slice H nh ch) xs ys from ⟨OI.low (OI.store (p := w.heap.size + 1) (i := 3) (x := .int .i64 sm) (OI.store (p := w.heap.size + 1) (i := 2) (x := .slice H nh ch) (OI.store (p := w.heap.size + 1) (i := 1) (x := .slice V nv cv) (OI.store (p := w.heap.size + 1) (i := 0) (x := .int .i64 x) HV.out (fun g e => by have := HVL.out g e; omega)) (fun g e => by have := HVL.out g e; omega)) (fun g e => by have := HVL.out g e; omega)) (fun g e => by have := HVL.out g e; omega)) (by omega), OI.low (OI.store (p := w.heap.size + 1) (i := 3) (x := .int .i64 sm) (OI.store (p := w.heap.size + 1) (i := 2) (x := .slice H nh ch) (OI.store (p := w.heap.size + 1) (i := 1) (x := .slice V nv cv) (OI.store (p := w.heap.size + 1) (i := 0) (x := .int .i64 x) HO.out (fun g e => by have := hOl.out g e; omega)) (fun g e => by have := hOl.out g e; omega)) (fun g e => by have := hOl.out g e; omega)) (fun g e => by have := hOl.out g e; omega)) (by omega), HAP.out⟩)
    clear HV HO b4
    have HC9 := hid hc
    have HF9 := hid f
    clear hc f
    go_wp2_with fail
    clear ca5_0 fa5_0 ca5_1 fa5_1 ca5_2 fa5_2 ca5_3 fa5_3 ca6_0 ca6_1 ca6_2 ca6_3 ca7_0 fa7_0 ca7_1 fa7_1 ca7_2 fa7_2 ca7_3 fa7_3
    have ca0_0 := (b6.2 0 _ rfl).1
    have ca0_1 := (b6.2 1 _ rfl).1
    have ca0_2 := (b6.2 2 _ rfl).1
    have ca0_3 := (b6.2 3 _ rfl).1
    try simp only [Exit.inBlock, Exit.then]
    exact bodyPost_ret (v := .agg #[.int .i64 x, .slice V nv cv, .slice H nh ch, .int .i64 sm]) (by simp [results, Tryz.results78, go_sem, ca0_0, ca0_1, ca0_2, ca0_3]) rfl ⟨_, _, _, _, _, _, _, _, xs, ys, rfl, OTT.out, ⟨HXL.out, HYL.out, by omega, by omega⟩, HC9.out.mono (by omega), HF9.out⟩
  have t0 : (v == 0) = false := by rw [beq_eq_false_iff_ne]; exact h0
  by_cases h1 : v = 1
  · subst h1
    clear hv t0 h0
    go_wp2_with fail
    have l7 := b7.lt
    have eD : w3.drew.cell? ⟨w2.heap.size, 1, none⟩ = some (.slice V nv cv) := (b7.2 1 _ rfl).1
    have kL : Keeps w3 (w3.alloc (.cells #[.int .i64 (-1), .int .i64 0, .int .i64 6] 3)).drew := (keeps_alloc _ _).trans (keeps_d0 _)
    have hcL := hc.keeps kL
    have LL : Ints (w3.alloc (.cells #[.int .i64 (-1), .int .i64 0, .int .i64 6] 3)).drew w3.heap.size (w3.heap.size + 1) (some ⟨w3.heap.size, 0, none⟩) 3 [-1, 0, 6] := (lit_ints w3 [-1, 0, 6] (by decide)).keeps (keeps_d0 _)
    have eL : (w3.alloc (.cells #[.int .i64 (-1), .int .i64 0, .int .i64 6] 3)).drew.cell? ⟨w2.heap.size, 1, none⟩ = some (.slice V nv cv) := ((b7.keeps kL).2 1 _ rfl).1
    have sL : (w3.alloc (.cells #[.int .i64 (-1), .int .i64 0, .int .i64 6] 3)).drew.heap.size = w3.heap.size + 1 := by simp
    obtain ⟨cs, L, U, hF⟩ := hV.ex
    have kF := hF.keeps RwdI.ok kL
    have HNE := hid (show ∀ p, p = w2.heap.size ∨ p < w.heap.size + 2 → (Value.slice V nv cv).ownBlock ≠ some p from fun p hp e => by have := HVL.out p e; omega)
    go_region_law ((first | (refine stp_among (c := 3) hcL (by omega) LL (by show g < w3.heap.size; omega) (by omega) (by omega) rfl (by kernel_rfl) ?_; intro x9 wB hcB fB; have b7B := (b7.keeps kL).fr fB (by omega); have eB := (b7B.2 1 _ rfl).1; have sB := fB.size; rw [sL] at sB; have hFB := kF.fr RwdI.ok fB (by omega); have eR := ((b7B.keeps (keeps_alloc wB (.cells #[.int .i64 x9] 3))).2 1 _ rfl).1) | (refine step_rowB (a0 := x9) (x := w.heap.size + 2) (y := w.heap.size + 2) (new := [.int .i64 x9]) HII.out rfl (by decide) (by decide) RwdI.ok hFB (by rw [HXL.out]; omega) (by omega) rfl (fun y hy => by simp at hy; subst hy; rfl) (Nat.le_refl _) (by omega) (fun g e => Nat.lt_or_ge _ _) rfl _ _ rfl rfl Tryz.underlying22 rfl rfl ?_; intro v9 w9 cs9 L9 U9 hF9 hg9 hb; obtain ⟨Aa, ca, ea⟩ := hF9.has.form; rw [List.length_append, HXL.out, List.length_singleton] at ea; subst ea; have hb9 := hid hb; clear hb; have B79 := bl_grown b7B hg9 (HNE.out _ (.inl (by omega))); have hz1 := (B79.2 1 _ rfl).1; have hz2 := (B79.2 1 _ rfl).2)))
    all_goals (
      have KB := hFB.below (by omega) hg9
      have fW := ((f.keeps kL).trans fB).below KB (by omega)
      have cW := hcB.below KB (by omega)
      have OV : OI w9 (w.heap.size + 2) (.slice Aa (nv + 1) ca) (xs ++ [x9]) := ⟨_, _, _, hF9⟩
      have OH := ((hO.keeps kL).fr fB (by omega)).grown hg9 (fun g e e2 => HAP.out g e e2)
      have B4 := b1_grown ((b4.keeps kL).fr fB (by omega)) hg9 (HNE.out _ (.inr (by omega)))
      have B6 := bl_grown ((b6.keeps kL).fr fB (by omega)) hg9 (HNE.out _ (.inr (by omega)))
      have s9 := KB.size
      have HVL9 := hid (show ∀ g, (Value.slice Aa (nv + 1) ca).ownBlock = some g → (g < w2.heap.size ∧ w.heap.size + 2 ≤ g) ∨ w2.heap.size < g from fun g e => by have h1 := OV.lt g e; have h2 := hb9.out; rcases h2 with h2 | h2; (have h3 := HVL.out g (h2 ▸ e); omega); (rw [e] at h2; injection h2 with h2; omega))
      have HAP9 := hid (show ∀ g, (Value.slice H nh ch).ownBlock = some g → (Value.slice Aa (nv + 1) ca).ownBlock ≠ some g from fun g e e2 => by have h1 := hOl.out g e; have h2 := hb9.out; rcases h2 with h2 | h2; (exact HAP.out g e (h2 ▸ e2)); (rw [e2] at h2; injection h2 with h2; omega))
      have HX9 := hid (show (xs ++ [x9]).length = nv + 1 by rw [List.length_append, HXL.out]; rfl)
      clear f hc hV hO b4 b6 b7 eD hcL LL eL hF kF hFB hcB fB b7B eB eR hF9
      have f := fW
      have hc := cW
      have hV := OV
      have hO := OH
      have b4 := B4
      have b6 := B6
      have b7 := B79
      clear fW cW OV OH B4 B6 B79 KB
      replace hO := (OI.store (p := w2.heap.size) (i := 1) (x := (.slice Aa (nv + 1) ca)) hO (fun g e => by have := hOl.out g e; omega))
      replace hV := (OI.store (p := w2.heap.size) (i := 1) (x := (.slice Aa (nv + 1) ca)) hV (fun g e => by have := HVL9.out g e; omega))
      replace f := f.setNew (p := ⟨w2.heap.size, 1, none⟩) (by show _ ≤ w2.heap.size; omega) ((.slice Aa (nv + 1) ca))
      replace hc := hc.fr (fr_one (p := w2.heap.size) (i := 1) ((.slice Aa (nv + 1) ca))) (by omega)
      replace b4 := b4.far (p := ⟨w2.heap.size, 1, none⟩) (by show _ ≠ w2.heap.size; omega) ((.slice Aa (nv + 1) ca))
      replace b6 := b6.far (p := ⟨w2.heap.size, 1, none⟩) (by show _ ≠ w2.heap.size; omega) ((.slice Aa (nv + 1) ca))
      replace b7 : Bl (w9.setCell ⟨w2.heap.size, 1, none⟩ ((.slice Aa (nv + 1) ca))) w2.heap.size [.int .i64 lv, (.slice Aa (nv + 1) ca), .slice H nh ch, .int .i64 sm] := b7.set 1 ((.slice Aa (nv + 1) ca))
      clear hg9
      have ca4_0 := (b7.2 0 _ rfl).1
      have ca4_1 := (b7.2 1 _ rfl).1
      have ca4_2 := (b7.2 2 _ rfl).1
      have ca4_3 := (b7.2 3 _ rfl).1
      have ca5_0 := (b6.2 0 _ rfl).1
      have fa5_0 := (b6.2 0 _ rfl).2
      have ca5_1 := (b6.2 1 _ rfl).1
      have fa5_1 := (b6.2 1 _ rfl).2
      have ca5_2 := (b6.2 2 _ rfl).1
      have fa5_2 := (b6.2 2 _ rfl).2
      have ca5_3 := (b6.2 3 _ rfl).1
      have fa5_3 := (b6.2 3 _ rfl).2
      have HV := hid hV
      have HO := hid hO
      clear hV hO
      replace f := f.setNew (p := ⟨w.heap.size + 1, 0, none⟩) (by show _ ≤ (w.heap.size + 1); omega) (.int .i64 lv)
      replace hc := hc.fr (fr_one (p := (w.heap.size + 1)) (i := 0) (.int .i64 lv)) (by omega)
      replace b4 := b4.far (p := ⟨w.heap.size + 1, 0, none⟩) (by show _ ≠ (w.heap.size + 1); omega) (.int .i64 lv)
      replace b7 := b7.far (p := ⟨w.heap.size + 1, 0, none⟩) (by show _ ≠ (w.heap.size + 1); omega) (.int .i64 lv)
      replace b6 : Bl ((w9.setCell ⟨w2.heap.size, 1, none⟩ ((.slice Aa (nv + 1) ca))).setCell ⟨w.heap.size + 1, 0, none⟩ (.int .i64 lv)) (w.heap.size + 1) [.int .i64 lv, .slice none 0 0, .slice none 0 0, .int .i64 0] := b6.set 0 (.int .i64 lv)
      replace f := f.setNew (p := ⟨w.heap.size + 1, 1, none⟩) (by show _ ≤ (w.heap.size + 1); omega) ((.slice Aa (nv + 1) ca))
      replace hc := hc.fr (fr_one (p := (w.heap.size + 1)) (i := 1) ((.slice Aa (nv + 1) ca))) (by omega)
      replace b4 := b4.far (p := ⟨w.heap.size + 1, 1, none⟩) (by show _ ≠ (w.heap.size + 1); omega) ((.slice Aa (nv + 1) ca))
      replace b7 := b7.far (p := ⟨w.heap.size + 1, 1, none⟩) (by show _ ≠ (w.heap.size + 1); omega) ((.slice Aa (nv + 1) ca))
      replace b6 : Bl (((w9.setCell ⟨w2.heap.size, 1, none⟩ ((.slice Aa (nv + 1) ca))).setCell ⟨w.heap.size + 1, 0, none⟩ (.int .i64 lv)).setCell ⟨w.heap.size + 1, 1, none⟩ ((.slice Aa (nv + 1) ca))) (w.heap.size + 1) [.int .i64 lv, (.slice Aa (nv + 1) ca), .slice none 0 0, .int .i64 0] := b6.set 1 ((.slice Aa (nv + 1) ca))
      replace f := f.setNew (p := ⟨w.heap.size + 1, 2, none⟩) (by show _ ≤ (w.heap.size + 1); omega) (.slice H nh ch)
      replace hc := hc.fr (fr_one (p := (w.heap.size + 1)) (i := 2) (.slice H nh ch)) (by omega)
      replace b4 := b4.far (p := ⟨w.heap.size + 1, 2, none⟩) (by show _ ≠ (w.heap.size + 1); omega) (.slice H nh ch)
      replace b7 := b7.far (p := ⟨w.heap.size + 1, 2, none⟩) (by show _ ≠ (w.heap.size + 1); omega) (.slice H nh ch)
      replace b6 : Bl ((((w9.setCell ⟨w2.heap.size, 1, none⟩ ((.slice Aa (nv + 1) ca))).setCell ⟨w.heap.size + 1, 0, none⟩ (.int .i64 lv)).setCell ⟨w.heap.size + 1, 1, none⟩ ((.slice Aa (nv + 1) ca))).setCell ⟨w.heap.size + 1, 2, none⟩ (.slice H nh ch)) (w.heap.size + 1) [.int .i64 lv, (.slice Aa (nv + 1) ca), .slice H nh ch, .int .i64 0] := b6.set 2 (.slice H nh ch)
      replace f := f.setNew (p := ⟨w.heap.size + 1, 3, none⟩) (by show _ ≤ (w.heap.size + 1); omega) (.int .i64 sm)
      replace hc := hc.fr (fr_one (p := (w.heap.size + 1)) (i := 3) (.int .i64 sm)) (by omega)
      replace b4 := b4.far (p := ⟨w.heap.size + 1, 3, none⟩) (by show _ ≠ (w.heap.size + 1); omega) (.int .i64 sm)
      replace b7 := b7.far (p := ⟨w.heap.size + 1, 3, none⟩) (by show _ ≠ (w.heap.size + 1); omega) (.int .i64 sm)
      replace b6 : Bl (((((w9.setCell ⟨w2.heap.size, 1, none⟩ ((.slice Aa (nv + 1) ca))).setCell ⟨w.heap.size + 1, 0, none⟩ (.int .i64 lv)).setCell ⟨w.heap.size + 1, 1, none⟩ ((.slice Aa (nv + 1) ca))).setCell ⟨w.heap.size + 1, 2, none⟩ (.slice H nh ch)).setCell ⟨w.heap.size + 1, 3, none⟩ (.int .i64 sm)) (w.heap.size + 1) [.int .i64 lv, (.slice Aa (nv + 1) ca), .slice H nh ch, .int .i64 sm] := b6.set 3 (.int .i64 sm)
      have OTT := hid (show OT (((((w9.setCell ⟨w2.heap.size, 1, none⟩ ((.slice Aa (nv + 1) ca))).setCell ⟨w.heap.size + 1, 0, none⟩ (.int .i64 lv)).setCell ⟨w.heap.size + 1, 1, none⟩ ((.slice Aa (nv + 1) ca))).setCell ⟨w.heap.size + 1, 2, none⟩ (.slice H nh ch)).setCell ⟨w.heap.size + 1, 3, none⟩ (.int .i64 sm)) w.heap.size ((.slice Aa (nv + 1) ca)) (.slice H nh ch) (xs ++ [x9]) ys from ⟨OI.low (OI.store (p := w.heap.size + 1) (i := 3) (x := .int .i64 sm) (OI.store (p := w.heap.size + 1) (i := 2) (x := .slice H nh ch) (OI.store (p := w.heap.size + 1) (i := 1) (x := (.slice Aa (nv + 1) ca)) (OI.store (p := w.heap.size + 1) (i := 0) (x := .int .i64 lv) HV.out (fun g e => by have := HVL9.out g e; omega)) (fun g e => by have := HVL9.out g e; omega)) (fun g e => by have := HVL9.out g e; omega)) (fun g e => by have := HVL9.out g e; omega)) (by omega), OI.low (OI.store (p := w.heap.size + 1) (i := 3) (x := .int .i64 sm) (OI.store (p := w.heap.size + 1) (i := 2) (x := .slice H nh ch) (OI.store (p := w.heap.size + 1) (i := 1) (x := (.slice Aa (nv + 1) ca)) (OI.store (p := w.heap.size + 1) (i := 0) (x := .int .i64 lv) HO.out (fun g e => by have := hOl.out g e; omega)) (fun g e => by have := hOl.out g e; omega)) (fun g e => by have := hOl.out g e; omega)) (fun g e => by have := hOl.out g e; omega)) (by omega), HAP9.out⟩)
      clear HV HO b4
      have HC9 := hid hc
      have HF9 := hid f
      clear hc f
      go_wp2_with fail
      clear ca4_0 ca4_1 ca4_2 ca4_3 ca5_0 fa5_0 ca5_1 fa5_1 ca5_2 fa5_2 ca5_3 fa5_3
      have ca0_0 := (b6.2 0 _ rfl).1
      have ca0_1 := (b6.2 1 _ rfl).1
      have ca0_2 := (b6.2 2 _ rfl).1
      have ca0_3 := (b6.2 3 _ rfl).1
      try simp only [Exit.inBlock, Exit.then]
      exact bodyPost_ret (v := .agg #[.int .i64 lv, (.slice Aa (nv + 1) ca), .slice H nh ch, .int .i64 sm]) (by simp [results, Tryz.results78, go_sem, ca0_0, ca0_1, ca0_2, ca0_3]) rfl ⟨_, _, _, _, _, _, _, _, (xs ++ [x9]), ys, rfl, OTT.out, ⟨HX9.out, HYL.out, by omega, by omega⟩, HC9.out.mono (by omega), HF9.out⟩)
  have t1 : (v == 1) = false := by rw [beq_eq_false_iff_ne]; exact h1
  by_cases h2 : v = 2
  · subst h2
    clear hv t0 h0 t1 h1
    have l7 := b7.lt
    have ca4_0 := (b7.2 0 _ rfl).1
    have ca4_1 := (b7.2 1 _ rfl).1
    have ca4_2 := (b7.2 2 _ rfl).1
    have ca4_3 := (b7.2 3 _ rfl).1
    obtain ⟨cs, L, U, hF⟩ := hO.ex
    have hcB := hc
    have fB := f
    have HNE := hid (show ∀ p, p = w2.heap.size ∨ p < w.heap.size + 2 → (Value.slice H nh ch).ownBlock ≠ some p from fun p hp e => by have := hOl.out p e; omega)
    go_wp2_with (at_builtin; refine append_rowB (a0 := (0 : Int)) (x := w.heap.size + 2) (y := w.heap.size + 2) (new := [.int .i64 0]) HII.out rfl (by decide) (by decide) RwdI.ok hF (by rw [HYL.out]; omega) (by omega) rfl (fun y hy => by simp at hy; subst hy; rfl) (Nat.le_refl _) (by omega) (fun g e => Nat.lt_or_ge _ _) rfl _ _ rfl rfl Tryz.underlying22 (by first | rfl | assumption | (simp [*])) rfl ?_; intro v9 w9 cs9 L9 U9 hF9 hg9 hb; obtain ⟨Aa, ca, ea⟩ := hF9.has.form; rw [List.length_append, HYL.out, List.length_singleton] at ea; subst ea; have hb9 := hid hb; clear hb; have B79 := bl_grown b7 hg9 (HNE.out _ (.inl rfl)); have hz1 := (B79.2 2 _ rfl).1; have hz2 := (B79.2 2 _ rfl).2; have B69 := bl_grown b6 hg9 (HNE.out _ (.inr (by omega))); have B7N := B79.set 2 (.slice Aa (nh + 1) ca); have B6N := B69.far (p := ⟨w2.heap.size, 2, none⟩) (by show w.heap.size + 1 ≠ w2.heap.size; omega) (.slice Aa (nh + 1) ca); have y0 := (B7N.2 0 _ rfl).1; have u0 := (B6N.2 0 _ rfl).1; have o0 := (B6N.2 0 _ rfl).2; have y1 := (B7N.2 1 _ rfl).1; have u1 := (B6N.2 1 _ rfl).1; have o1 := (B6N.2 1 _ rfl).2; have y2 := (B7N.2 2 _ rfl).1; have u2 := (B6N.2 2 _ rfl).1; have o2 := (B6N.2 2 _ rfl).2; have y3 := (B7N.2 3 _ rfl).1; have u3 := (B6N.2 3 _ rfl).1; have o3 := (B6N.2 3 _ rfl).2)
    clear ca4_0 ca4_1 ca4_2 ca4_3
    clear B69 B7N B6N hz1 hz2 y0 u0 o0 y1 u1 o1 y2 u2 o2 y3 u3 o3
    have KB := hF.below (by omega) hg9
    have fW := fB.below KB (by omega)
    have cW := hcB.below KB (by omega)
    have OH : OI w9 (w.heap.size + 2) (.slice Aa (nh + 1) ca) (ys ++ [(0 : Int)]) := ⟨_, _, _, hF9⟩
    have OV := hV.grown hg9 (fun g e e2 => HAP.out g e2 e)
    have B4 := b1_grown b4 hg9 (HNE.out _ (.inr (by omega)))
    have B6 := bl_grown b6 hg9 (HNE.out _ (.inr (by omega)))
    have s9 := KB.size
    have HOL9 := hid (show ∀ g, (Value.slice Aa (nh + 1) ca).ownBlock = some g → (g < w2.heap.size ∧ w.heap.size + 2 ≤ g) ∨ w2.heap.size < g from fun g e => by have h1 := OH.lt g e; have h2 := hb9.out; rcases h2 with h2 | h2; (have h3 := hOl.out g (h2 ▸ e); omega); (rw [e] at h2; injection h2 with h2; omega))
    have HAP9 := hid (show ∀ g, (Value.slice Aa (nh + 1) ca).ownBlock = some g → (Value.slice V nv cv).ownBlock ≠ some g from fun g e e2 => by have h1 := HVL.out g e2; have h2 := hb9.out; rcases h2 with h2 | h2; (exact HAP.out g (h2 ▸ e) e2); (rw [e] at h2; injection h2 with h2; omega))
    have HY9 := hid (show (ys ++ [(0 : Int)]).length = nh + 1 by rw [List.length_append, HYL.out]; rfl)
    clear f hc hV hO b4 b6 b7 hF hcB fB hF9
    have f := fW
    have hc := cW
    have hV := OV
    have hO := OH
    have b4 := B4
    have b6 := B6
    have b7 := B79
    clear fW cW OV OH B4 B6 B79 KB
    replace hO := (OI.store (p := w2.heap.size) (i := 2) (x := (.slice Aa (nh + 1) ca)) hO (fun g e => by have := HOL9.out g e; omega))
    replace hV := (OI.store (p := w2.heap.size) (i := 2) (x := (.slice Aa (nh + 1) ca)) hV (fun g e => by have := HVL.out g e; omega))
    replace f := f.setNew (p := ⟨w2.heap.size, 2, none⟩) (by show _ ≤ w2.heap.size; omega) ((.slice Aa (nh + 1) ca))
    replace hc := hc.fr (fr_one (p := w2.heap.size) (i := 2) ((.slice Aa (nh + 1) ca))) (by omega)
    replace b4 := b4.far (p := ⟨w2.heap.size, 2, none⟩) (by show _ ≠ w2.heap.size; omega) ((.slice Aa (nh + 1) ca))
    replace b6 := b6.far (p := ⟨w2.heap.size, 2, none⟩) (by show _ ≠ w2.heap.size; omega) ((.slice Aa (nh + 1) ca))
    replace b7 : Bl (w9.setCell ⟨w2.heap.size, 2, none⟩ ((.slice Aa (nh + 1) ca))) w2.heap.size [.int .i64 lv, .slice V nv cv, (.slice Aa (nh + 1) ca), .int .i64 sm] := b7.set 2 ((.slice Aa (nh + 1) ca))
    clear hg9
    have ca5_0 := (b7.2 0 _ rfl).1
    have ca5_1 := (b7.2 1 _ rfl).1
    have ca5_2 := (b7.2 2 _ rfl).1
    have ca5_3 := (b7.2 3 _ rfl).1
    have ca6_0 := (b6.2 0 _ rfl).1
    have fa6_0 := (b6.2 0 _ rfl).2
    have ca6_1 := (b6.2 1 _ rfl).1
    have fa6_1 := (b6.2 1 _ rfl).2
    have ca6_2 := (b6.2 2 _ rfl).1
    have fa6_2 := (b6.2 2 _ rfl).2
    have ca6_3 := (b6.2 3 _ rfl).1
    have fa6_3 := (b6.2 3 _ rfl).2
    have HV := hid hV
    have HO := hid hO
    clear hV hO
    replace f := f.setNew (p := ⟨w.heap.size + 1, 0, none⟩) (by show _ ≤ (w.heap.size + 1); omega) (.int .i64 lv)
    replace hc := hc.fr (fr_one (p := (w.heap.size + 1)) (i := 0) (.int .i64 lv)) (by omega)
    replace b4 := b4.far (p := ⟨w.heap.size + 1, 0, none⟩) (by show _ ≠ (w.heap.size + 1); omega) (.int .i64 lv)
    replace b7 := b7.far (p := ⟨w.heap.size + 1, 0, none⟩) (by show _ ≠ (w.heap.size + 1); omega) (.int .i64 lv)
    replace b6 : Bl ((w9.setCell ⟨w2.heap.size, 2, none⟩ ((.slice Aa (nh + 1) ca))).setCell ⟨w.heap.size + 1, 0, none⟩ (.int .i64 lv)) (w.heap.size + 1) [.int .i64 lv, .slice none 0 0, .slice none 0 0, .int .i64 0] := b6.set 0 (.int .i64 lv)
    replace f := f.setNew (p := ⟨w.heap.size + 1, 1, none⟩) (by show _ ≤ (w.heap.size + 1); omega) (.slice V nv cv)
    replace hc := hc.fr (fr_one (p := (w.heap.size + 1)) (i := 1) (.slice V nv cv)) (by omega)
    replace b4 := b4.far (p := ⟨w.heap.size + 1, 1, none⟩) (by show _ ≠ (w.heap.size + 1); omega) (.slice V nv cv)
    replace b7 := b7.far (p := ⟨w.heap.size + 1, 1, none⟩) (by show _ ≠ (w.heap.size + 1); omega) (.slice V nv cv)
    replace b6 : Bl (((w9.setCell ⟨w2.heap.size, 2, none⟩ ((.slice Aa (nh + 1) ca))).setCell ⟨w.heap.size + 1, 0, none⟩ (.int .i64 lv)).setCell ⟨w.heap.size + 1, 1, none⟩ (.slice V nv cv)) (w.heap.size + 1) [.int .i64 lv, .slice V nv cv, .slice none 0 0, .int .i64 0] := b6.set 1 (.slice V nv cv)
    replace f := f.setNew (p := ⟨w.heap.size + 1, 2, none⟩) (by show _ ≤ (w.heap.size + 1); omega) ((.slice Aa (nh + 1) ca))
    replace hc := hc.fr (fr_one (p := (w.heap.size + 1)) (i := 2) ((.slice Aa (nh + 1) ca))) (by omega)
    replace b4 := b4.far (p := ⟨w.heap.size + 1, 2, none⟩) (by show _ ≠ (w.heap.size + 1); omega) ((.slice Aa (nh + 1) ca))
    replace b7 := b7.far (p := ⟨w.heap.size + 1, 2, none⟩) (by show _ ≠ (w.heap.size + 1); omega) ((.slice Aa (nh + 1) ca))
    replace b6 : Bl ((((w9.setCell ⟨w2.heap.size, 2, none⟩ ((.slice Aa (nh + 1) ca))).setCell ⟨w.heap.size + 1, 0, none⟩ (.int .i64 lv)).setCell ⟨w.heap.size + 1, 1, none⟩ (.slice V nv cv)).setCell ⟨w.heap.size + 1, 2, none⟩ ((.slice Aa (nh + 1) ca))) (w.heap.size + 1) [.int .i64 lv, .slice V nv cv, (.slice Aa (nh + 1) ca), .int .i64 0] := b6.set 2 ((.slice Aa (nh + 1) ca))
    replace f := f.setNew (p := ⟨w.heap.size + 1, 3, none⟩) (by show _ ≤ (w.heap.size + 1); omega) (.int .i64 sm)
    replace hc := hc.fr (fr_one (p := (w.heap.size + 1)) (i := 3) (.int .i64 sm)) (by omega)
    replace b4 := b4.far (p := ⟨w.heap.size + 1, 3, none⟩) (by show _ ≠ (w.heap.size + 1); omega) (.int .i64 sm)
    replace b7 := b7.far (p := ⟨w.heap.size + 1, 3, none⟩) (by show _ ≠ (w.heap.size + 1); omega) (.int .i64 sm)
    replace b6 : Bl (((((w9.setCell ⟨w2.heap.size, 2, none⟩ ((.slice Aa (nh + 1) ca))).setCell ⟨w.heap.size + 1, 0, none⟩ (.int .i64 lv)).setCell ⟨w.heap.size + 1, 1, none⟩ (.slice V nv cv)).setCell ⟨w.heap.size + 1, 2, none⟩ ((.slice Aa (nh + 1) ca))).setCell ⟨w.heap.size + 1, 3, none⟩ (.int .i64 sm)) (w.heap.size + 1) [.int .i64 lv, .slice V nv cv, (.slice Aa (nh + 1) ca), .int .i64 sm] := b6.set 3 (.int .i64 sm)
    have OTT := hid (show OT (((((w9.setCell ⟨w2.heap.size, 2, none⟩ ((.slice Aa (nh + 1) ca))).setCell ⟨w.heap.size + 1, 0, none⟩ (.int .i64 lv)).setCell ⟨w.heap.size + 1, 1, none⟩ (.slice V nv cv)).setCell ⟨w.heap.size + 1, 2, none⟩ ((.slice Aa (nh + 1) ca))).setCell ⟨w.heap.size + 1, 3, none⟩ (.int .i64 sm)) w.heap.size (.slice V nv cv) ((.slice Aa (nh + 1) ca)) xs (ys ++ [(0 : Int)]) from ⟨OI.low (OI.store (p := w.heap.size + 1) (i := 3) (x := .int .i64 sm) (OI.store (p := w.heap.size + 1) (i := 2) (x := (.slice Aa (nh + 1) ca)) (OI.store (p := w.heap.size + 1) (i := 1) (x := .slice V nv cv) (OI.store (p := w.heap.size + 1) (i := 0) (x := .int .i64 lv) HV.out (fun g e => by have := HVL.out g e; omega)) (fun g e => by have := HVL.out g e; omega)) (fun g e => by have := HVL.out g e; omega)) (fun g e => by have := HVL.out g e; omega)) (by omega), OI.low (OI.store (p := w.heap.size + 1) (i := 3) (x := .int .i64 sm) (OI.store (p := w.heap.size + 1) (i := 2) (x := (.slice Aa (nh + 1) ca)) (OI.store (p := w.heap.size + 1) (i := 1) (x := .slice V nv cv) (OI.store (p := w.heap.size + 1) (i := 0) (x := .int .i64 lv) HO.out (fun g e => by have := HOL9.out g e; omega)) (fun g e => by have := HOL9.out g e; omega)) (fun g e => by have := HOL9.out g e; omega)) (fun g e => by have := HOL9.out g e; omega)) (by omega), HAP9.out⟩)
    clear HV HO b4
    have HC9 := hid hc
    have HF9 := hid f
    clear hc f
    try go_wp2_with fail
    clear ca5_0 ca5_1 ca5_2 ca5_3 ca6_0 fa6_0 ca6_1 fa6_1 ca6_2 fa6_2 ca6_3 fa6_3
    have ca0_0 := (b6.2 0 _ rfl).1
    have ca0_1 := (b6.2 1 _ rfl).1
    have ca0_2 := (b6.2 2 _ rfl).1
    have ca0_3 := (b6.2 3 _ rfl).1
    try simp only [Exit.inBlock, Exit.then]
    exact bodyPost_ret (v := .agg #[.int .i64 lv, .slice V nv cv, (.slice Aa (nh + 1) ca), .int .i64 sm]) (by simp [results, Tryz.results78, go_sem, ca0_0, ca0_1, ca0_2, ca0_3]) rfl ⟨_, _, _, _, _, _, _, _, xs, (ys ++ [(0 : Int)]), rfl, OTT.out, ⟨HXL.out, HY9.out, by omega, by omega⟩, HC9.out.mono (by omega), HF9.out⟩
  have t2 : (v == 2) = false := by rw [beq_eq_false_iff_ne]; exact h2
  by_cases h3 : v = 3
  · subst h3
    clear hv t0 h0 t1 h1 t2 h2
    have Lx : Ints (w3.alloc (.cells #[.int .i64 (-2), .int .i64 3, .int .i64 6] 3)) w3.heap.size (w3.heap.size + 1) (some ⟨w3.heap.size, 0, none⟩) 3 [-2, 3, 6] := lit_ints w3 [-2, 3, 6] (by decide)
    replace f := f.keeps (keeps_alloc w3 (.cells #[.int .i64 (-2), .int .i64 3, .int .i64 6] 3))
    replace hc := hc.keeps (keeps_alloc w3 (.cells #[.int .i64 (-2), .int .i64 3, .int .i64 6] 3))
    replace b4 := b4.keeps (keeps_alloc w3 (.cells #[.int .i64 (-2), .int .i64 3, .int .i64 6] 3))
    replace b6 := b6.keeps (keeps_alloc w3 (.cells #[.int .i64 (-2), .int .i64 3, .int .i64 6] 3))
    replace b7 := b7.keeps (keeps_alloc w3 (.cells #[.int .i64 (-2), .int .i64 3, .int .i64 6] 3))
    replace hV := hV.keeps (keeps_alloc w3 (.cells #[.int .i64 (-2), .int .i64 3, .int .i64 6] 3))
    replace hO := hO.keeps (keeps_alloc w3 (.cells #[.int .i64 (-2), .int .i64 3, .int .i64 6] 3))
    go_wp2_with fail
    refine (among_any hc (by omega) Lx (by first | omega | (simp; omega)) (by omega) (by omega)).mono ?_
    rintro e w4 ⟨x, xj, rfl, xh, xe, hn, ff⟩
    replace f := f.trans ff
    clear hc
    have hc := hn
    replace b4 := b4.fr ff (by first | omega | (simp; omega))
    replace b6 := b6.fr ff (by first | omega | (simp; omega))
    replace b7 := b7.fr ff (by first | omega | (simp; omega))
    replace hV := hV.fr ff (by first | omega | (simp; omega))
    replace hO := hO.fr ff (by first | omega | (simp; omega))
    have sf4 := ff.size
    try simp at sf4
    clear ff hn
    have sz4 := f.size
    have lt4 := b7.lt
    clear Lx xe xh
    have ca5_0 := (b7.2 0 _ rfl).1
    have fa5_0 := (b7.2 0 _ rfl).2
    have ca5_1 := (b7.2 1 _ rfl).1
    have fa5_1 := (b7.2 1 _ rfl).2
    have ca5_2 := (b7.2 2 _ rfl).1
    have fa5_2 := (b7.2 2 _ rfl).2
    have ca5_3 := (b7.2 3 _ rfl).1
    have fa5_3 := (b7.2 3 _ rfl).2
    replace hO := (OI.store (p := w2.heap.size) (i := 3) (x := .int .i64 x) hO (fun g e => by have := hOl.out g e; omega))
    replace hV := (OI.store (p := w2.heap.size) (i := 3) (x := .int .i64 x) hV (fun g e => by have := HVL.out g e; omega))
    replace f := f.setNew (p := ⟨w2.heap.size, 3, none⟩) (by show _ ≤ w2.heap.size; omega) (.int .i64 x)
    replace hc := hc.fr (fr_one (p := w2.heap.size) (i := 3) (.int .i64 x)) (by omega)
    replace b4 := b4.far (p := ⟨w2.heap.size, 3, none⟩) (by show _ ≠ w2.heap.size; omega) (.int .i64 x)
    replace b6 := b6.far (p := ⟨w2.heap.size, 3, none⟩) (by show _ ≠ w2.heap.size; omega) (.int .i64 x)
    replace b7 : Bl (w4.setCell ⟨w2.heap.size, 3, none⟩ (.int .i64 x)) w2.heap.size [.int .i64 lv, .slice V nv cv, .slice H nh ch, .int .i64 x] := b7.set 3 (.int .i64 x)
    have ca6_0 := (b7.2 0 _ rfl).1
    have ca6_1 := (b7.2 1 _ rfl).1
    have ca6_2 := (b7.2 2 _ rfl).1
    have ca6_3 := (b7.2 3 _ rfl).1
    have ca7_0 := (b6.2 0 _ rfl).1
    have fa7_0 := (b6.2 0 _ rfl).2
    have ca7_1 := (b6.2 1 _ rfl).1
    have fa7_1 := (b6.2 1 _ rfl).2
    have ca7_2 := (b6.2 2 _ rfl).1
    have fa7_2 := (b6.2 2 _ rfl).2
    have ca7_3 := (b6.2 3 _ rfl).1
    have fa7_3 := (b6.2 3 _ rfl).2
    have HV := hid hV
    have HO := hid hO
    clear hV hO
    replace f := f.setNew (p := ⟨w.heap.size + 1, 0, none⟩) (by show _ ≤ (w.heap.size + 1); omega) (.int .i64 lv)
    replace hc := hc.fr (fr_one (p := (w.heap.size + 1)) (i := 0) (.int .i64 lv)) (by omega)
    replace b4 := b4.far (p := ⟨w.heap.size + 1, 0, none⟩) (by show _ ≠ (w.heap.size + 1); omega) (.int .i64 lv)
    replace b7 := b7.far (p := ⟨w.heap.size + 1, 0, none⟩) (by show _ ≠ (w.heap.size + 1); omega) (.int .i64 lv)
    replace b6 : Bl ((w4.setCell ⟨w2.heap.size, 3, none⟩ (.int .i64 x)).setCell ⟨w.heap.size + 1, 0, none⟩ (.int .i64 lv)) (w.heap.size + 1) [.int .i64 lv, .slice none 0 0, .slice none 0 0, .int .i64 0] := b6.set 0 (.int .i64 lv)
    replace f := f.setNew (p := ⟨w.heap.size + 1, 1, none⟩) (by show _ ≤ (w.heap.size + 1); omega) (.slice V nv cv)
    replace hc := hc.fr (fr_one (p := (w.heap.size + 1)) (i := 1) (.slice V nv cv)) (by omega)
    replace b4 := b4.far (p := ⟨w.heap.size + 1, 1, none⟩) (by show _ ≠ (w.heap.size + 1); omega) (.slice V nv cv)
    replace b7 := b7.far (p := ⟨w.heap.size + 1, 1, none⟩) (by show _ ≠ (w.heap.size + 1); omega) (.slice V nv cv)
    replace b6 : Bl (((w4.setCell ⟨w2.heap.size, 3, none⟩ (.int .i64 x)).setCell ⟨w.heap.size + 1, 0, none⟩ (.int .i64 lv)).setCell ⟨w.heap.size + 1, 1, none⟩ (.slice V nv cv)) (w.heap.size + 1) [.int .i64 lv, .slice V nv cv, .slice none 0 0, .int .i64 0] := b6.set 1 (.slice V nv cv)
    replace f := f.setNew (p := ⟨w.heap.size + 1, 2, none⟩) (by show _ ≤ (w.heap.size + 1); omega) (.slice H nh ch)
    replace hc := hc.fr (fr_one (p := (w.heap.size + 1)) (i := 2) (.slice H nh ch)) (by omega)
    replace b4 := b4.far (p := ⟨w.heap.size + 1, 2, none⟩) (by show _ ≠ (w.heap.size + 1); omega) (.slice H nh ch)
    replace b7 := b7.far (p := ⟨w.heap.size + 1, 2, none⟩) (by show _ ≠ (w.heap.size + 1); omega) (.slice H nh ch)
    replace b6 : Bl ((((w4.setCell ⟨w2.heap.size, 3, none⟩ (.int .i64 x)).setCell ⟨w.heap.size + 1, 0, none⟩ (.int .i64 lv)).setCell ⟨w.heap.size + 1, 1, none⟩ (.slice V nv cv)).setCell ⟨w.heap.size + 1, 2, none⟩ (.slice H nh ch)) (w.heap.size + 1) [.int .i64 lv, .slice V nv cv, .slice H nh ch, .int .i64 0] := b6.set 2 (.slice H nh ch)
    replace f := f.setNew (p := ⟨w.heap.size + 1, 3, none⟩) (by show _ ≤ (w.heap.size + 1); omega) (.int .i64 x)
    replace hc := hc.fr (fr_one (p := (w.heap.size + 1)) (i := 3) (.int .i64 x)) (by omega)
    replace b4 := b4.far (p := ⟨w.heap.size + 1, 3, none⟩) (by show _ ≠ (w.heap.size + 1); omega) (.int .i64 x)
    replace b7 := b7.far (p := ⟨w.heap.size + 1, 3, none⟩) (by show _ ≠ (w.heap.size + 1); omega) (.int .i64 x)
    replace b6 : Bl (((((w4.setCell ⟨w2.heap.size, 3, none⟩ (.int .i64 x)).setCell ⟨w.heap.size + 1, 0, none⟩ (.int .i64 lv)).setCell ⟨w.heap.size + 1, 1, none⟩ (.slice V nv cv)).setCell ⟨w.heap.size + 1, 2, none⟩ (.slice H nh ch)).setCell ⟨w.heap.size + 1, 3, none⟩ (.int .i64 x)) (w.heap.size + 1) [.int .i64 lv, .slice V nv cv, .slice H nh ch, .int .i64 x] := b6.set 3 (.int .i64 x)
    have OTT := hid (show OT (((((w4.setCell ⟨w2.heap.size, 3, none⟩ (.int .i64 x)).setCell ⟨w.heap.size + 1, 0, none⟩ (.int .i64 lv)).setCell ⟨w.heap.size + 1, 1, none⟩ (.slice V nv cv)).setCell ⟨w.heap.size + 1, 2, none⟩ (.slice H nh ch)).setCell ⟨w.heap.size + 1, 3, none⟩ (.int .i64 x)) w.heap.size (.slice V nv cv) (.slice H nh ch) xs ys from ⟨OI.low (OI.store (p := w.heap.size + 1) (i := 3) (x := .int .i64 x) (OI.store (p := w.heap.size + 1) (i := 2) (x := .slice H nh ch) (OI.store (p := w.heap.size + 1) (i := 1) (x := .slice V nv cv) (OI.store (p := w.heap.size + 1) (i := 0) (x := .int .i64 lv) HV.out (fun g e => by have := HVL.out g e; omega)) (fun g e => by have := HVL.out g e; omega)) (fun g e => by have := HVL.out g e; omega)) (fun g e => by have := HVL.out g e; omega)) (by omega), OI.low (OI.store (p := w.heap.size + 1) (i := 3) (x := .int .i64 x) (OI.store (p := w.heap.size + 1) (i := 2) (x := .slice H nh ch) (OI.store (p := w.heap.size + 1) (i := 1) (x := .slice V nv cv) (OI.store (p := w.heap.size + 1) (i := 0) (x := .int .i64 lv) HO.out (fun g e => by have := hOl.out g e; omega)) (fun g e => by have := hOl.out g e; omega)) (fun g e => by have := hOl.out g e; omega)) (fun g e => by have := hOl.out g e; omega)) (by omega), HAP.out⟩)
    clear HV HO b4
    have HC9 := hid hc
    have HF9 := hid f
    clear hc f
    go_wp2_with fail
    clear ca5_0 fa5_0 ca5_1 fa5_1 ca5_2 fa5_2 ca5_3 fa5_3 ca6_0 ca6_1 ca6_2 ca6_3 ca7_0 fa7_0 ca7_1 fa7_1 ca7_2 fa7_2 ca7_3 fa7_3
    have ca0_0 := (b6.2 0 _ rfl).1
    have ca0_1 := (b6.2 1 _ rfl).1
    have ca0_2 := (b6.2 2 _ rfl).1
    have ca0_3 := (b6.2 3 _ rfl).1
    try simp only [Exit.inBlock, Exit.then]
    exact bodyPost_ret (v := .agg #[.int .i64 lv, .slice V nv cv, .slice H nh ch, .int .i64 x]) (by simp [results, Tryz.results78, go_sem, ca0_0, ca0_1, ca0_2, ca0_3]) rfl ⟨_, _, _, _, _, _, _, _, xs, ys, rfl, OTT.out, ⟨HXL.out, HYL.out, by omega, by omega⟩, HC9.out.mono (by omega), HF9.out⟩
  have t3 : (v == 3) = false := by rw [beq_eq_false_iff_ne]; exact h3
  by_cases h4 : v = 4
  rotate_left
  · have t4 : (v == 4) = false := by rw [beq_eq_false_iff_ne]; exact h4
    have ca4_0 := (b7.2 0 _ rfl).1
    have ca4_1 := (b7.2 1 _ rfl).1
    have ca4_2 := (b7.2 2 _ rfl).1
    have ca4_3 := (b7.2 3 _ rfl).1
    have ca5_0 := (b6.2 0 _ rfl).1
    have fa5_0 := (b6.2 0 _ rfl).2
    have ca5_1 := (b6.2 1 _ rfl).1
    have fa5_1 := (b6.2 1 _ rfl).2
    have ca5_2 := (b6.2 2 _ rfl).1
    have fa5_2 := (b6.2 2 _ rfl).2
    have ca5_3 := (b6.2 3 _ rfl).1
    have fa5_3 := (b6.2 3 _ rfl).2
    have HV := hid hV
    have HO := hid hO
    clear hV hO
    replace f := f.setNew (p := ⟨w.heap.size + 1, 0, none⟩) (by show _ ≤ (w.heap.size + 1); omega) (.int .i64 lv)
    replace hc := hc.fr (fr_one (p := (w.heap.size + 1)) (i := 0) (.int .i64 lv)) (by omega)
    replace b4 := b4.far (p := ⟨w.heap.size + 1, 0, none⟩) (by show _ ≠ (w.heap.size + 1); omega) (.int .i64 lv)
    replace b7 := b7.far (p := ⟨w.heap.size + 1, 0, none⟩) (by show _ ≠ (w.heap.size + 1); omega) (.int .i64 lv)
    replace b6 : Bl (w3.setCell ⟨w.heap.size + 1, 0, none⟩ (.int .i64 lv)) (w.heap.size + 1) [.int .i64 lv, .slice none 0 0, .slice none 0 0, .int .i64 0] := b6.set 0 (.int .i64 lv)
    replace f := f.setNew (p := ⟨w.heap.size + 1, 1, none⟩) (by show _ ≤ (w.heap.size + 1); omega) (.slice V nv cv)
    replace hc := hc.fr (fr_one (p := (w.heap.size + 1)) (i := 1) (.slice V nv cv)) (by omega)
    replace b4 := b4.far (p := ⟨w.heap.size + 1, 1, none⟩) (by show _ ≠ (w.heap.size + 1); omega) (.slice V nv cv)
    replace b7 := b7.far (p := ⟨w.heap.size + 1, 1, none⟩) (by show _ ≠ (w.heap.size + 1); omega) (.slice V nv cv)
    replace b6 : Bl ((w3.setCell ⟨w.heap.size + 1, 0, none⟩ (.int .i64 lv)).setCell ⟨w.heap.size + 1, 1, none⟩ (.slice V nv cv)) (w.heap.size + 1) [.int .i64 lv, .slice V nv cv, .slice none 0 0, .int .i64 0] := b6.set 1 (.slice V nv cv)
    replace f := f.setNew (p := ⟨w.heap.size + 1, 2, none⟩) (by show _ ≤ (w.heap.size + 1); omega) (.slice H nh ch)
    replace hc := hc.fr (fr_one (p := (w.heap.size + 1)) (i := 2) (.slice H nh ch)) (by omega)
    replace b4 := b4.far (p := ⟨w.heap.size + 1, 2, none⟩) (by show _ ≠ (w.heap.size + 1); omega) (.slice H nh ch)
    replace b7 := b7.far (p := ⟨w.heap.size + 1, 2, none⟩) (by show _ ≠ (w.heap.size + 1); omega) (.slice H nh ch)
    replace b6 : Bl (((w3.setCell ⟨w.heap.size + 1, 0, none⟩ (.int .i64 lv)).setCell ⟨w.heap.size + 1, 1, none⟩ (.slice V nv cv)).setCell ⟨w.heap.size + 1, 2, none⟩ (.slice H nh ch)) (w.heap.size + 1) [.int .i64 lv, .slice V nv cv, .slice H nh ch, .int .i64 0] := b6.set 2 (.slice H nh ch)
    replace f := f.setNew (p := ⟨w.heap.size + 1, 3, none⟩) (by show _ ≤ (w.heap.size + 1); omega) (.int .i64 sm)
    replace hc := hc.fr (fr_one (p := (w.heap.size + 1)) (i := 3) (.int .i64 sm)) (by omega)
    replace b4 := b4.far (p := ⟨w.heap.size + 1, 3, none⟩) (by show _ ≠ (w.heap.size + 1); omega) (.int .i64 sm)
    replace b7 := b7.far (p := ⟨w.heap.size + 1, 3, none⟩) (by show _ ≠ (w.heap.size + 1); omega) (.int .i64 sm)
    replace b6 : Bl ((((w3.setCell ⟨w.heap.size + 1, 0, none⟩ (.int .i64 lv)).setCell ⟨w.heap.size + 1, 1, none⟩ (.slice V nv cv)).setCell ⟨w.heap.size + 1, 2, none⟩ (.slice H nh ch)).setCell ⟨w.heap.size + 1, 3, none⟩ (.int .i64 sm)) (w.heap.size + 1) [.int .i64 lv, .slice V nv cv, .slice H nh ch, .int .i64 sm] := b6.set 3 (.int .i64 sm)
    have OTT := hid (show OT ((((w3.setCell ⟨w.heap.size + 1, 0, none⟩ (.int .i64 lv)).setCell ⟨w.heap.size + 1, 1, none⟩ (.slice V nv cv)).setCell ⟨w.heap.size + 1, 2, none⟩ (.slice H nh ch)).setCell ⟨w.heap.size + 1, 3, none⟩ (.int .i64 sm)) w.heap.size (.slice V nv cv) (.slice H nh ch) xs ys from ⟨OI.low (OI.store (p := w.heap.size + 1) (i := 3) (x := .int .i64 sm) (OI.store (p := w.heap.size + 1) (i := 2) (x := .slice H nh ch) (OI.store (p := w.heap.size + 1) (i := 1) (x := .slice V nv cv) (OI.store (p := w.heap.size + 1) (i := 0) (x := .int .i64 lv) HV.out (fun g e => by have := HVL.out g e; omega)) (fun g e => by have := HVL.out g e; omega)) (fun g e => by have := HVL.out g e; omega)) (fun g e => by have := HVL.out g e; omega)) (by omega), OI.low (OI.store (p := w.heap.size + 1) (i := 3) (x := .int .i64 sm) (OI.store (p := w.heap.size + 1) (i := 2) (x := .slice H nh ch) (OI.store (p := w.heap.size + 1) (i := 1) (x := .slice V nv cv) (OI.store (p := w.heap.size + 1) (i := 0) (x := .int .i64 lv) HO.out (fun g e => by have := hOl.out g e; omega)) (fun g e => by have := hOl.out g e; omega)) (fun g e => by have := hOl.out g e; omega)) (fun g e => by have := hOl.out g e; omega)) (by omega), HAP.out⟩)
    clear HV HO b4
    have HC9 := hid hc
    have HF9 := hid f
    clear hc f
    go_wp2_with fail
    clear ca4_0 ca4_1 ca4_2 ca4_3 ca5_0 fa5_0 ca5_1 fa5_1 ca5_2 fa5_2 ca5_3 fa5_3
    have ca0_0 := (b6.2 0 _ rfl).1
    have ca0_1 := (b6.2 1 _ rfl).1
    have ca0_2 := (b6.2 2 _ rfl).1
    have ca0_3 := (b6.2 3 _ rfl).1
    try simp only [Exit.inBlock, Exit.then]
    exact bodyPost_ret (v := .agg #[.int .i64 lv, .slice V nv cv, .slice H nh ch, .int .i64 sm]) (by simp [results, Tryz.results78, go_sem, ca0_0, ca0_1, ca0_2, ca0_3]) rfl ⟨_, _, _, _, _, _, _, _, xs, ys, rfl, OTT.out, ⟨HXL.out, HYL.out, by omega, by omega⟩, HC9.out.mono (by omega), HF9.out⟩
  subst h4
  clear hv t0 h0 t1 h1 t2 h2 t3 h3
  by_cases hn0 : 0 < nh
  rotate_left
  · have hn9 : ¬ (nh : Int) > 0 := by omega
    have ca4_0 := (b7.2 0 _ rfl).1
    have ca4_1 := (b7.2 1 _ rfl).1
    have ca4_2 := (b7.2 2 _ rfl).1
    have ca4_3 := (b7.2 3 _ rfl).1
    have ca5_0 := (b6.2 0 _ rfl).1
    have fa5_0 := (b6.2 0 _ rfl).2
    have ca5_1 := (b6.2 1 _ rfl).1
    have fa5_1 := (b6.2 1 _ rfl).2
    have ca5_2 := (b6.2 2 _ rfl).1
    have fa5_2 := (b6.2 2 _ rfl).2
    have ca5_3 := (b6.2 3 _ rfl).1
    have fa5_3 := (b6.2 3 _ rfl).2
    have HV := hid hV
    have HO := hid hO
    clear hV hO
    replace f := f.setNew (p := ⟨w.heap.size + 1, 0, none⟩) (by show _ ≤ (w.heap.size + 1); omega) (.int .i64 lv)
    replace hc := hc.fr (fr_one (p := (w.heap.size + 1)) (i := 0) (.int .i64 lv)) (by omega)
    replace b4 := b4.far (p := ⟨w.heap.size + 1, 0, none⟩) (by show _ ≠ (w.heap.size + 1); omega) (.int .i64 lv)
    replace b7 := b7.far (p := ⟨w.heap.size + 1, 0, none⟩) (by show _ ≠ (w.heap.size + 1); omega) (.int .i64 lv)
    replace b6 : Bl (w3.setCell ⟨w.heap.size + 1, 0, none⟩ (.int .i64 lv)) (w.heap.size + 1) [.int .i64 lv, .slice none 0 0, .slice none 0 0, .int .i64 0] := b6.set 0 (.int .i64 lv)
    replace f := f.setNew (p := ⟨w.heap.size + 1, 1, none⟩) (by show _ ≤ (w.heap.size + 1); omega) (.slice V nv cv)
    replace hc := hc.fr (fr_one (p := (w.heap.size + 1)) (i := 1) (.slice V nv cv)) (by omega)
    replace b4 := b4.far (p := ⟨w.heap.size + 1, 1, none⟩) (by show _ ≠ (w.heap.size + 1); omega) (.slice V nv cv)
    replace b7 := b7.far (p := ⟨w.heap.size + 1, 1, none⟩) (by show _ ≠ (w.heap.size + 1); omega) (.slice V nv cv)
    replace b6 : Bl ((w3.setCell ⟨w.heap.size + 1, 0, none⟩ (.int .i64 lv)).setCell ⟨w.heap.size + 1, 1, none⟩ (.slice V nv cv)) (w.heap.size + 1) [.int .i64 lv, .slice V nv cv, .slice none 0 0, .int .i64 0] := b6.set 1 (.slice V nv cv)
    replace f := f.setNew (p := ⟨w.heap.size + 1, 2, none⟩) (by show _ ≤ (w.heap.size + 1); omega) (.slice H nh ch)
    replace hc := hc.fr (fr_one (p := (w.heap.size + 1)) (i := 2) (.slice H nh ch)) (by omega)
    replace b4 := b4.far (p := ⟨w.heap.size + 1, 2, none⟩) (by show _ ≠ (w.heap.size + 1); omega) (.slice H nh ch)
    replace b7 := b7.far (p := ⟨w.heap.size + 1, 2, none⟩) (by show _ ≠ (w.heap.size + 1); omega) (.slice H nh ch)
    replace b6 : Bl (((w3.setCell ⟨w.heap.size + 1, 0, none⟩ (.int .i64 lv)).setCell ⟨w.heap.size + 1, 1, none⟩ (.slice V nv cv)).setCell ⟨w.heap.size + 1, 2, none⟩ (.slice H nh ch)) (w.heap.size + 1) [.int .i64 lv, .slice V nv cv, .slice H nh ch, .int .i64 0] := b6.set 2 (.slice H nh ch)
    replace f := f.setNew (p := ⟨w.heap.size + 1, 3, none⟩) (by show _ ≤ (w.heap.size + 1); omega) (.int .i64 sm)
    replace hc := hc.fr (fr_one (p := (w.heap.size + 1)) (i := 3) (.int .i64 sm)) (by omega)
    replace b4 := b4.far (p := ⟨w.heap.size + 1, 3, none⟩) (by show _ ≠ (w.heap.size + 1); omega) (.int .i64 sm)
    replace b7 := b7.far (p := ⟨w.heap.size + 1, 3, none⟩) (by show _ ≠ (w.heap.size + 1); omega) (.int .i64 sm)
    replace b6 : Bl ((((w3.setCell ⟨w.heap.size + 1, 0, none⟩ (.int .i64 lv)).setCell ⟨w.heap.size + 1, 1, none⟩ (.slice V nv cv)).setCell ⟨w.heap.size + 1, 2, none⟩ (.slice H nh ch)).setCell ⟨w.heap.size + 1, 3, none⟩ (.int .i64 sm)) (w.heap.size + 1) [.int .i64 lv, .slice V nv cv, .slice H nh ch, .int .i64 sm] := b6.set 3 (.int .i64 sm)
    have OTT := hid (show OT ((((w3.setCell ⟨w.heap.size + 1, 0, none⟩ (.int .i64 lv)).setCell ⟨w.heap.size + 1, 1, none⟩ (.slice V nv cv)).setCell ⟨w.heap.size + 1, 2, none⟩ (.slice H nh ch)).setCell ⟨w.heap.size + 1, 3, none⟩ (.int .i64 sm)) w.heap.size (.slice V nv cv) (.slice H nh ch) xs ys from ⟨OI.low (OI.store (p := w.heap.size + 1) (i := 3) (x := .int .i64 sm) (OI.store (p := w.heap.size + 1) (i := 2) (x := .slice H nh ch) (OI.store (p := w.heap.size + 1) (i := 1) (x := .slice V nv cv) (OI.store (p := w.heap.size + 1) (i := 0) (x := .int .i64 lv) HV.out (fun g e => by have := HVL.out g e; omega)) (fun g e => by have := HVL.out g e; omega)) (fun g e => by have := HVL.out g e; omega)) (fun g e => by have := HVL.out g e; omega)) (by omega), OI.low (OI.store (p := w.heap.size + 1) (i := 3) (x := .int .i64 sm) (OI.store (p := w.heap.size + 1) (i := 2) (x := .slice H nh ch) (OI.store (p := w.heap.size + 1) (i := 1) (x := .slice V nv cv) (OI.store (p := w.heap.size + 1) (i := 0) (x := .int .i64 lv) HO.out (fun g e => by have := hOl.out g e; omega)) (fun g e => by have := hOl.out g e; omega)) (fun g e => by have := hOl.out g e; omega)) (fun g e => by have := hOl.out g e; omega)) (by omega), HAP.out⟩)
    clear HV HO b4
    have HC9 := hid hc
    have HF9 := hid f
    clear hc f
    go_wp2_with fail
    clear ca4_0 ca4_1 ca4_2 ca4_3 ca5_0 fa5_0 ca5_1 fa5_1 ca5_2 fa5_2 ca5_3 fa5_3
    have ca0_0 := (b6.2 0 _ rfl).1
    have ca0_1 := (b6.2 1 _ rfl).1
    have ca0_2 := (b6.2 2 _ rfl).1
    have ca0_3 := (b6.2 3 _ rfl).1
    try simp only [Exit.inBlock, Exit.then]
    exact bodyPost_ret (v := .agg #[.int .i64 lv, .slice V nv cv, .slice H nh ch, .int .i64 sm]) (by simp [results, Tryz.results78, go_sem, ca0_0, ca0_1, ca0_2, ca0_3]) rfl ⟨_, _, _, _, _, _, _, _, xs, ys, rfl, OTT.out, ⟨HXL.out, HYL.out, by omega, by omega⟩, HC9.out.mono (by omega), HF9.out⟩
  have hn9 : (nh : Int) > 0 := by omega
  obtain ⟨bh, ch9, eh, hb1, hb2, hcc, hff⟩ := hO.head (by rw [HYL.out]; exact hn0)
  rw [HYL.out] at eh
  injection eh with eh1 eh9 eh2
  clear eh9
  subst eh1 eh2
  clear hcc hff
  have ca4_0 := (b7.2 0 _ rfl).1
  have ca4_1 := (b7.2 1 _ rfl).1
  have ca4_2 := (b7.2 2 _ rfl).1
  have ca4_3 := (b7.2 3 _ rfl).1
  go_wp2_with fail
  clear ca4_0 ca4_1 ca4_2 ca4_3
  have l7 := b7.lt
  have eD : w3.drew.cell? ⟨w2.heap.size, 2, none⟩ = some (.slice (some ⟨bh, 0, none⟩) nh ch) := (b7.2 2 _ rfl).1
  have kL : Keeps w3 (w3.alloc (.cells #[.int .i64 (-1), .int .i64 255, .int .i64 256] 3)).drew := (keeps_alloc _ _).trans (keeps_d0 _)
  have hcL := hc.keeps kL
  have LL : Ints (w3.alloc (.cells #[.int .i64 (-1), .int .i64 255, .int .i64 256] 3)).drew w3.heap.size (w3.heap.size + 1) (some ⟨w3.heap.size, 0, none⟩) 3 [-1, 255, 256] := (lit_ints w3 [-1, 255, 256] (by decide)).keeps (keeps_d0 _)
  have eL : (w3.alloc (.cells #[.int .i64 (-1), .int .i64 255, .int .i64 256] 3)).drew.cell? ⟨w2.heap.size, 2, none⟩ = some (.slice (some ⟨bh, 0, none⟩) nh ch) := ((b7.keeps kL).2 2 _ rfl).1
  have sL : (w3.alloc (.cells #[.int .i64 (-1), .int .i64 255, .int .i64 256] 3)).drew.heap.size = w3.heap.size + 1 := by simp
  have hbh := hOl.out bh rfl
  go_region_law ((first | (refine stp_among (c := 3) hcL (by omega) LL (by show g < w3.heap.size; omega) (by omega) (by omega) rfl (by kernel_rfl) ?_; intro x9 wB hcB fB; have b7B := (b7.keeps kL).fr fB (by omega); have eB := (b7B.2 2 _ rfl).1; have sB := fB.size; rw [sL] at sB; have oB := (hO.keeps kL).fr fB (by omega); obtain ⟨bh2, ch2, eh2, hb3, hb4, hcc, hff⟩ := oB.head (by rw [HYL.out]; exact hn0); injection eh2 with eq1 eq2 eq3; clear eq2 eq3; injection eq1 with eq1; injection eq1 with eq1; subst eq1)))
  all_goals (
    have OH := hid (oB.set0 (x := x9))
    have OV := hid (((hV.keeps kL).fr fB (by omega)).store (p := bh) (i := 0) (x := .int .i64 x9) (fun g e e2 => by subst e2; exact HAP.out g rfl e))
    have B4 := hid (((b4.keeps kL).fr fB (by omega)).far (p := ⟨bh, 0, none⟩) (by show w.heap.size ≠ bh; omega) (.int .i64 x9))
    have B6 := hid (((b6.keeps kL).fr fB (by omega)).far (p := ⟨bh, 0, none⟩) (by show w.heap.size + 1 ≠ bh; omega) (.int .i64 x9))
    have B7 := hid (b7B.far (p := ⟨bh, 0, none⟩) (by show w2.heap.size ≠ bh; omega) (.int .i64 x9))
    have fW := hid (((f.keeps kL).trans fB).setNew (p := ⟨bh, 0, none⟩) (by show _ ≤ bh; omega) (.int .i64 x9))
    have cW := hid (hcB.fr (fr_one (p := bh) (i := 0) (.int .i64 x9)) (by omega))
    have HY9 := hid (show (ys.set 0 x9).length = nh by rw [List.length_set, HYL.out])
    clear f hc hV hO b4 b6 b7 eD hcL LL eL hcB fB b7B eB oB hcc hff
    have f := fW.out
    have hc := cW.out
    have hV := OV.out
    have hO := OH.out
    have b4 := B4.out
    have b6 := B6.out
    have b7 := B7.out
    clear fW cW OV OH B4 B6 B7
    have ca5_0 := (b7.2 0 _ rfl).1
    have ca5_1 := (b7.2 1 _ rfl).1
    have ca5_2 := (b7.2 2 _ rfl).1
    have ca5_3 := (b7.2 3 _ rfl).1
    have ca6_0 := (b6.2 0 _ rfl).1
    have fa6_0 := (b6.2 0 _ rfl).2
    have ca6_1 := (b6.2 1 _ rfl).1
    have fa6_1 := (b6.2 1 _ rfl).2
    have ca6_2 := (b6.2 2 _ rfl).1
    have fa6_2 := (b6.2 2 _ rfl).2
    have ca6_3 := (b6.2 3 _ rfl).1
    have fa6_3 := (b6.2 3 _ rfl).2
    have HV := hid hV
    have HO := hid hO
    clear hV hO
    replace f := f.setNew (p := ⟨w.heap.size + 1, 0, none⟩) (by show _ ≤ (w.heap.size + 1); omega) (.int .i64 lv)
    replace hc := hc.fr (fr_one (p := (w.heap.size + 1)) (i := 0) (.int .i64 lv)) (by omega)
    replace b4 := b4.far (p := ⟨w.heap.size + 1, 0, none⟩) (by show _ ≠ (w.heap.size + 1); omega) (.int .i64 lv)
    replace b7 := b7.far (p := ⟨w.heap.size + 1, 0, none⟩) (by show _ ≠ (w.heap.size + 1); omega) (.int .i64 lv)
    replace b6 : Bl ((wB.setCell ⟨bh, 0, none⟩ (.int .i64 x9)).setCell ⟨w.heap.size + 1, 0, none⟩ (.int .i64 lv)) (w.heap.size + 1) [.int .i64 lv, .slice none 0 0, .slice none 0 0, .int .i64 0] := b6.set 0 (.int .i64 lv)
    replace f := f.setNew (p := ⟨w.heap.size + 1, 1, none⟩) (by show _ ≤ (w.heap.size + 1); omega) (.slice V nv cv)
    replace hc := hc.fr (fr_one (p := (w.heap.size + 1)) (i := 1) (.slice V nv cv)) (by omega)
    replace b4 := b4.far (p := ⟨w.heap.size + 1, 1, none⟩) (by show _ ≠ (w.heap.size + 1); omega) (.slice V nv cv)
    replace b7 := b7.far (p := ⟨w.heap.size + 1, 1, none⟩) (by show _ ≠ (w.heap.size + 1); omega) (.slice V nv cv)
    replace b6 : Bl (((wB.setCell ⟨bh, 0, none⟩ (.int .i64 x9)).setCell ⟨w.heap.size + 1, 0, none⟩ (.int .i64 lv)).setCell ⟨w.heap.size + 1, 1, none⟩ (.slice V nv cv)) (w.heap.size + 1) [.int .i64 lv, .slice V nv cv, .slice none 0 0, .int .i64 0] := b6.set 1 (.slice V nv cv)
    replace f := f.setNew (p := ⟨w.heap.size + 1, 2, none⟩) (by show _ ≤ (w.heap.size + 1); omega) (.slice (some ⟨bh, 0, none⟩) nh ch)
    replace hc := hc.fr (fr_one (p := (w.heap.size + 1)) (i := 2) (.slice (some ⟨bh, 0, none⟩) nh ch)) (by omega)
    replace b4 := b4.far (p := ⟨w.heap.size + 1, 2, none⟩) (by show _ ≠ (w.heap.size + 1); omega) (.slice (some ⟨bh, 0, none⟩) nh ch)
    replace b7 := b7.far (p := ⟨w.heap.size + 1, 2, none⟩) (by show _ ≠ (w.heap.size + 1); omega) (.slice (some ⟨bh, 0, none⟩) nh ch)
    replace b6 : Bl ((((wB.setCell ⟨bh, 0, none⟩ (.int .i64 x9)).setCell ⟨w.heap.size + 1, 0, none⟩ (.int .i64 lv)).setCell ⟨w.heap.size + 1, 1, none⟩ (.slice V nv cv)).setCell ⟨w.heap.size + 1, 2, none⟩ (.slice (some ⟨bh, 0, none⟩) nh ch)) (w.heap.size + 1) [.int .i64 lv, .slice V nv cv, .slice (some ⟨bh, 0, none⟩) nh ch, .int .i64 0] := b6.set 2 (.slice (some ⟨bh, 0, none⟩) nh ch)
    replace f := f.setNew (p := ⟨w.heap.size + 1, 3, none⟩) (by show _ ≤ (w.heap.size + 1); omega) (.int .i64 sm)
    replace hc := hc.fr (fr_one (p := (w.heap.size + 1)) (i := 3) (.int .i64 sm)) (by omega)
    replace b4 := b4.far (p := ⟨w.heap.size + 1, 3, none⟩) (by show _ ≠ (w.heap.size + 1); omega) (.int .i64 sm)
    replace b7 := b7.far (p := ⟨w.heap.size + 1, 3, none⟩) (by show _ ≠ (w.heap.size + 1); omega) (.int .i64 sm)
    replace b6 : Bl (((((wB.setCell ⟨bh, 0, none⟩ (.int .i64 x9)).setCell ⟨w.heap.size + 1, 0, none⟩ (.int .i64 lv)).setCell ⟨w.heap.size + 1, 1, none⟩ (.slice V nv cv)).setCell ⟨w.heap.size + 1, 2, none⟩ (.slice (some ⟨bh, 0, none⟩) nh ch)).setCell ⟨w.heap.size + 1, 3, none⟩ (.int .i64 sm)) (w.heap.size + 1) [.int .i64 lv, .slice V nv cv, .slice (some ⟨bh, 0, none⟩) nh ch, .int .i64 sm] := b6.set 3 (.int .i64 sm)
    have OTT := hid (show OT (((((wB.setCell ⟨bh, 0, none⟩ (.int .i64 x9)).setCell ⟨w.heap.size + 1, 0, none⟩ (.int .i64 lv)).setCell ⟨w.heap.size + 1, 1, none⟩ (.slice V nv cv)).setCell ⟨w.heap.size + 1, 2, none⟩ (.slice (some ⟨bh, 0, none⟩) nh ch)).setCell ⟨w.heap.size + 1, 3, none⟩ (.int .i64 sm)) w.heap.size (.slice V nv cv) (.slice (some ⟨bh, 0, none⟩) nh ch) xs (ys.set 0 x9) from ⟨OI.low (OI.store (p := w.heap.size + 1) (i := 3) (x := .int .i64 sm) (OI.store (p := w.heap.size + 1) (i := 2) (x := .slice (some ⟨bh, 0, none⟩) nh ch) (OI.store (p := w.heap.size + 1) (i := 1) (x := .slice V nv cv) (OI.store (p := w.heap.size + 1) (i := 0) (x := .int .i64 lv) HV.out (fun g e => by have := HVL.out g e; omega)) (fun g e => by have := HVL.out g e; omega)) (fun g e => by have := HVL.out g e; omega)) (fun g e => by have := HVL.out g e; omega)) (by omega), OI.low (OI.store (p := w.heap.size + 1) (i := 3) (x := .int .i64 sm) (OI.store (p := w.heap.size + 1) (i := 2) (x := .slice (some ⟨bh, 0, none⟩) nh ch) (OI.store (p := w.heap.size + 1) (i := 1) (x := .slice V nv cv) (OI.store (p := w.heap.size + 1) (i := 0) (x := .int .i64 lv) HO.out (fun g e => by have := hOl.out g e; omega)) (fun g e => by have := hOl.out g e; omega)) (fun g e => by have := hOl.out g e; omega)) (fun g e => by have := hOl.out g e; omega)) (by omega), HAP.out⟩)
    clear HV HO b4
    have HC9 := hid hc
    have HF9 := hid f
    clear hc f
    go_wp2_with fail
    clear ca5_0 ca5_1 ca5_2 ca5_3 ca6_0 fa6_0 ca6_1 fa6_1 ca6_2 fa6_2 ca6_3 fa6_3
    have ca0_0 := (b6.2 0 _ rfl).1
    have ca0_1 := (b6.2 1 _ rfl).1
    have ca0_2 := (b6.2 2 _ rfl).1
    have ca0_3 := (b6.2 3 _ rfl).1
    try simp only [Exit.inBlock, Exit.then]
    exact bodyPost_ret (v := .agg #[.int .i64 lv, .slice V nv cv, .slice (some ⟨bh, 0, none⟩) nh ch, .int .i64 sm]) (by simp [results, Tryz.results78, go_sem, ca0_0, ca0_1, ca0_2, ca0_3]) rfl ⟨_, _, _, _, _, _, _, _, xs, (ys.set 0 x9), rfl, OTT.out, ⟨HXL.out, HY9.out, by omega, by omega⟩, HC9.out.mono (by omega), HF9.out⟩)
end Go.Proofs.YtlkjhkkfdmjfcaaGreatDoor
namespace Go.Proofs.YtlkjhkkfdmjfcaaGreatDoor
open Go.RowKit Go.Sort Go.Deep
set_option linter.unusedVariables false
set_option linter.unusedSimpArgs false
theorem info_tab9 : (Tryz.prog.info? 61).map (fun i => (i.zero, i.size, i.bytes)) = some (some (.agg #[.int .i64 0, .slice none 0 0, .slice none 0 0, .int .i64 0]), 4, 64) := by kernel_rfl
theorem OT.row {w : World} {B nv cv nh ch : Nat} {V H : Option Addr} {xs ys : List Int} (h : OT w B (.slice V nv cv) (.slice H nh ch) xs ys) (lv sm : Int) (hx : xs.length = nv) (hy : ys.length = nh) (hn : nv ≤ 67108864) (hm : nh ≤ 67108864) (hB : B ≤ w.heap.size) :
    RwdT w B w.heap.size (fun i => [Value.int .i64 lv, .slice V nv cv, .slice H nh ch, .int .i64 sm].getD i undef) (lv, xs, ys, sm) := by
  subst hx hy
  obtain ⟨A1, c1, e1, _, i1⟩ := h.v.ints hn hB
  obtain ⟨A2, c2, e2, _, i2⟩ := h.h.ints hm hB
  injection e1 with e1
  injection e2 with e2
  subst e1 e2
  exact ⟨V, cv, H, ch, rfl, rfl, rfl, rfl, i1, i2⟩
def lenOf : Value → Nat
  | .slice _ n _ => n
  | _ => 0
theorem GrowR.lowB {α : Type} {sz : Nat} {z : α} {R : RowP α} {w : World} {m B E : Nat} {v : Value} {cs : List Value} {L U : Nat → Nat} {l : List α} (h : GrowR sz z R w m B E v cs L U l) (hB : m ≤ B) : GrowR sz z R w m m E v cs L U l := by
  refine ⟨⟨h.has.1, ?_⟩, Nat.le_refl _, h.iv, h.row⟩
  rcases h.has.2 with h3 | ⟨g', cap, cur, hv, hb, rest⟩
  · exact .inl h3
  · exact .inr ⟨g', cap, cur, hv, by omega, rest⟩
set_option maxRecDepth 100000 in
set_option maxHeartbeats 12800000 in
theorem tables_any {g : Nat} {T : Int} {lo hi q c lo2 hi2 a c0 : Nat} {A A2 : Option Addr} {l : List VV} {ps : List Int} {w : World} (h : Cur w g T) (hT : T ≤ 100000000000000) (hG : Ints w lo2 hi2 A2 a ps) (hg2 : g < lo2) (hs : Vars w lo hi A q l) (hgl : g < lo) (hD : SchD l) :
    Calls Tryz.prog 46 #[.pointer (some ⟨g, 0, none⟩), .agg #[.slice A2 a c0], .slice A q c] w (DrawsL 4 t0 RwdT 61 (fun ts => ts.length ≤ 21) w g (T + 6000)) := by
  have HD := hid hD
  have HIT := hid info_tab9
  have lg := h.lt
  go_enter Tryz.func46, Tryz.ntmps46
  have f : Fr g (g + 1) w w := Fr.refl _ _ _
  have hc := h
  replace f := f.keeps (keeps_alloc w (.cells #[.slice A2 a c0] 32))
  replace hc := hc.keeps (keeps_alloc w (.cells #[.slice A2 a c0] 32))
  have b4 : B1 (w.alloc (.cells #[.slice A2 a c0] 32)) w.heap.size (.slice A2 a c0) := B1.new' (by simp)
  go_wp2_with fail
  refine (pick_any hc (by omega) (by omega)).mono ?_
  rintro e w1 ⟨x0, rfl, hx0, hn, ff⟩
  replace f := f.trans ff
  clear hc
  have hc := hn
  replace b4 := b4.fr ff (by first | omega | (simp; omega))
  have sf1 := ff.size
  try simp at sf1
  clear ff hn
  have sz1 := f.size
  have lt1 := b4.lt
  obtain ⟨m0, rfl⟩ : ∃ m : Nat, x0 = m := ⟨x0.toNat, by omega⟩
  have hm0 : m0 ≤ 4 := by omega
  clear hx0
  have F0 := GrowR.nil (sz := 4) (z := t0) (R := RwdT) w1 w.heap.size (w.heap.size + 1) 61 (Nat.le_succ _)
  go_wp2_with fail
  go_loopw [7, 8] (fun sv i wr => ∃ (m : Nat) (vq : Value) (cs : List Value) (L U : Nat → Nat) (ts : List TT), vq = sv ∧ i = .int .i64 m ∧ m + ts.length ≤ 4 ∧ GrowR 4 t0 RwdT wr w.heap.size (w.heap.size + 1) 61 vq cs L U ts ∧ B1 wr w.heap.size (.slice A2 a c0) ∧ Cur wr g (T + 10 + 110 * ts.length) ∧ Fr g (g + 1) w wr ∧ w.heap.size + 1 ≤ wr.heap.size) (fun _ i _ => (intOf i).toNat)
  case atStart => exact ⟨m0, _, _, _, _, [], rfl, rfl, hm0, F0, b4, hc.mono (by first | (simp; done) | (simp; omega)), f, by omega⟩
  clear F0 b4 hc f
  case round =>
    obtain ⟨m, vq, cs, L, U, ts, rfl, rfl, hm, hF, b4, hc, f, sz1⟩ := hrel
    by_cases hlt : 0 < m
    rotate_left
    · obtain rfl : m = 0 := by omega
      have hm9 : ¬ ((0 : Nat) : Int) > 0 := by omega
      go_wp2_with fail
      refine (pick_any hc (by omega) (by omega)).mono ?_
      rintro e w2 ⟨v, rfl, hv, hn, ff⟩
      replace f := f.trans ff
      clear hc
      have hc := hn
      replace hF := hF.fr RwdT.ok ff (by omega)
      replace b4 := b4.fr ff (by first | omega | (simp; omega))
      have sf2 := ff.size
      try simp at sf2
      clear ff hn
      have sz2 := f.size
      have lt2 := b4.lt
      by_cases h0 : v = 0
      rotate_left
      · have t0_ : (v == 0) = false := by rw [beq_eq_false_iff_ne]; exact h0
        by_cases h1 : v = 1
        rotate_left
        · have t1_ : (v == 1) = false := by rw [beq_eq_false_iff_ne]; exact h1
          obtain ⟨A9, c9, e9⟩ := hF.has.form
          obtain ⟨nt, hnt⟩ : ∃ x, ts.length = x := ⟨_, rfl⟩
          rw [hnt] at e9
          subst e9
          have HTL := hid hnt
          have HF := hid (GrowR.lowB hF (by omega))
          have HC := hid hc
          have Hf := hid f
          clear hF hc f b4
          go_wp2
          go_ret
          exact ⟨_, _, _, _, _, _, ts, rfl, HF.out, HTL.out, (show ts.length ≤ 21 by rw [HTL.out]; omega), HC.out.mono (by have := HTL.out; omega), Hf.out⟩
        subst h1
        clear hv h0 t0_
        obtain ⟨ca3, fa3⟩ := id b4
        go_wp2_with fail
        clear ca3 fa3
        have lr := hid hF.lt
        refine (anyTable_any hc (by omega) (hG.fr f (by omega)) hg2 (hs.fr f (by omega)) hgl HD.out).mono ?_
        rintro e w4 ⟨lv, sm, V, nv, cv, H, nh, ch, xs, ys, rfl, hT5, ⟨hxl, hyl, hnv, hnh⟩, hn, ff⟩
        replace f := f.trans ff
        clear hc
        have hc := hn
        replace hF := hF.fr RwdT.ok ff (by omega)
        replace b4 := b4.fr ff (by first | omega | (simp; omega))
        have sf4 := ff.size
        try simp at sf4
        clear ff hn
        have sz4 := f.size
        have lt4 := b4.lt
        have HRW := hid (hT5.row lv sm hxl hyl (by omega) (by omega) (by omega))
        have hcB := hc
        have fB := f
        go_wp2_with (at_builtin; refine append_rowR (a0 := (lv, xs, ys, sm)) (x := w2.heap.size) (y := w4.heap.size) (new := [.int .i64 lv, .slice V nv cv, .slice H nh ch, .int .i64 sm]) HIT.out rfl (by decide) (by decide) RwdT.ok hF (by omega) (by omega) rfl (fun y hy => by simp at hy; rcases hy with rfl | rfl | rfl | rfl <;> rfl) (by omega) (Nat.le_refl _) (fun g e => .inl (lr.out g e).2) HRW.out _ _ rfl rfl Tryz.underlying44 rfl rfl ?_; intro v9 w9 cs9 L9 U9 hF9 hg9)
        have KB := hid (hF.below (by omega) hg9)
        have HF9 := hid hF9
        have f9 := hid (fB.below KB.out (by omega))
        have hc9 := hid (hcB.below KB.out (by omega))
        have s9 := KB.out.size
        have B49 := hid (b1_grown b4 hg9 (fun e => by have := lr.out _ e; omega))
        have HL9 := hid (show (ts ++ [(lv, xs, ys, sm)]).length = ts.length + 1 by simp)
        clear hF hF9 hg9 b4 hc f hcB fB hT5 HRW
        have hF := HF9.out
        have hc := hc9.out
        have f := f9.out
        have b4 := B49.out
        clear HF9 hc9 f9 B49 KB
        obtain ⟨ts', hts⟩ : ∃ x, ts ++ [(lv, xs, ys, sm)] = x := ⟨_, rfl⟩
        rw [hts] at hF HL9
        clear hts
        obtain ⟨A9, c9, e9⟩ := hF.has.form
        obtain ⟨nt, hnt⟩ : ∃ x, ts'.length = x := ⟨_, rfl⟩
        rw [hnt] at e9
        subst e9
        have HTL := hid hnt
        have HF := hid (GrowR.lowB hF (by omega))
        have HC := hid hc
        have Hf := hid f
        clear hF hc f b4
        try go_wp2
        go_ret
        exact ⟨_, _, _, _, _, _, ts', rfl, HF.out, HTL.out, (show ts'.length ≤ 21 by have := HTL.out; have := HL9.out; omega), HC.out.mono (by have := HTL.out; have := HL9.out; omega), Hf.out⟩
      subst h0
      clear hv
      have sz2 : w.heap.size + 1 ≤ w2.heap.size := by omega
      go_wp2_with fail
      go_loopw [7] (fun sv wz => ∃ (vq : Value) (cs : List Value) (L U : Nat → Nat) (ts : List TT), vq = sv ∧ ts.length ≤ 21 ∧ GrowR 4 t0 RwdT wz w.heap.size (w.heap.size + 1) 61 vq cs L U ts ∧ B1 wz w.heap.size (.slice A2 a c0) ∧ Cur wz g (T + 600 + 110 * ts.length) ∧ Fr g (g + 1) w wz ∧ w.heap.size + 1 ≤ wz.heap.size) (fun sv _ => 22 - lenOf sv)
      case atStart => exact ⟨_, _, _, _, ts, rfl, by omega, hF, b4, hc.mono (by omega), f, sz2⟩
      clear hF b4 hc f
      case round =>
        obtain ⟨vq, cs, L, U, ts, rfl, hm2, hF, b4, hc, f, sz3⟩ := hrel
        obtain ⟨A8, c8, e8⟩ := hF.has.form
        subst e8
        go_wp2_with fail
        refine (pick_any hc (by omega) (by omega)).mono ?_
        rintro e w3 ⟨x7, rfl, hx7, hn, ff⟩
        replace f := f.trans ff
        clear hc
        have hc := hn
        replace hF := hF.fr RwdT.ok ff (by omega)
        replace b4 := b4.fr ff (by first | omega | (simp; omega))
        have sf3 := ff.size
        try simp at sf3
        clear ff hn
        have sz3 := f.size
        have lt3 := b4.lt
        by_cases hcd : (ts.length : Int) < 20 + x7
        rotate_left
        · have HTL := hid (rfl : ts.length = ts.length)
          have HF := hid (GrowR.lowB hF (by omega))
          have HC := hid hc
          have Hf := hid f
          clear hF hc f b4
          go_wp2
          go_ret
          exact ⟨_, _, _, _, _, _, ts, rfl, HF.out, rfl, hm2, HC.out.mono (by omega), Hf.out⟩
        obtain ⟨ca4, fa4⟩ := id b4
        go_wp2_with fail
        clear ca4 fa4
        have lr := hid hF.lt
        refine (table_any hc (by omega) (hG.fr f (by omega)) hg2 (hs.fr f (by omega)) hgl HD.out).mono ?_
        rintro e w5 ⟨lv, sm, V, nv, cv, H, nh, ch, xs, ys, rfl, hT5, ⟨hxl, hyl, hnv, hnh⟩, hn, ff⟩
        replace f := f.trans ff
        clear hc
        have hc := hn
        replace hF := hF.fr RwdT.ok ff (by omega)
        replace b4 := b4.fr ff (by first | omega | (simp; omega))
        have sf5 := ff.size
        try simp at sf5
        clear ff hn
        have sz5 := f.size
        have lt5 := b4.lt
        have HRW := hid (hT5.row lv sm hxl hyl (by omega) (by omega) (by omega))
        have hcB := hc
        have fB := f
        go_wp2_with (at_builtin; refine append_rowR (a0 := (lv, xs, ys, sm)) (x := w3.heap.size) (y := w5.heap.size) (new := [.int .i64 lv, .slice V nv cv, .slice H nh ch, .int .i64 sm]) HIT.out rfl (by decide) (by decide) RwdT.ok hF (by omega) (by omega) rfl (fun y hy => by simp at hy; rcases hy with rfl | rfl | rfl | rfl <;> rfl) (by omega) (Nat.le_refl _) (fun g e => .inl (lr.out g e).2) HRW.out _ _ rfl rfl Tryz.underlying44 rfl rfl ?_; intro v9 w9 cs9 L9 U9 hF9 hg9)
        have KB := hid (hF.below (by omega) hg9)
        have HF9 := hid hF9
        have f9 := hid (fB.below KB.out (by omega))
        have hc9 := hid (hcB.below KB.out (by omega))
        have s9 := KB.out.size
        have B49 := hid (b1_grown b4 hg9 (fun e => by have := lr.out _ e; omega))
        have HL9 := hid (show (ts ++ [(lv, xs, ys, sm)]).length = ts.length + 1 by simp)
        clear hF hF9 hg9 b4 hc f hcB fB hT5 HRW
        obtain ⟨A6, c6, e6⟩ := HF9.out.has.form
        subst e6
        try go_wp2_with fail
        go_roundw
        case rel => exact ⟨_, _, _, _, ts ++ [(lv, xs, ys, sm)], rfl, by rw [HL9.out]; omega, HF9.out, B49.out, hc9.out.mono (by have := HL9.out; omega), f9.out, by omega⟩
        case measure => simp [lenOf]; omega
    have hm9 : (m : Int) > 0 := by omega
    obtain ⟨ca2, fa2⟩ := id b4
    go_wp2_with fail
    clear ca2 fa2
    have lr := hid hF.lt
    refine (table_any hc (by omega) (hG.fr f (by omega)) hg2 (hs.fr f (by omega)) hgl HD.out).mono ?_
    rintro e w3 ⟨lv, sm, V, nv, cv, H, nh, ch, xs, ys, rfl, hT5, ⟨hxl, hyl, hnv, hnh⟩, hn, ff⟩
    replace f := f.trans ff
    clear hc
    have hc := hn
    replace hF := hF.fr RwdT.ok ff (by omega)
    replace b4 := b4.fr ff (by first | omega | (simp; omega))
    have sf3 := ff.size
    try simp at sf3
    clear ff hn
    have sz3 := f.size
    have lt3 := b4.lt
    have HRW := hid (hT5.row lv sm hxl hyl (by omega) (by omega) (by omega))
    have hcB := hc
    have fB := f
    go_wp2_with (at_builtin; refine append_rowR (a0 := (lv, xs, ys, sm)) (x := wr.heap.size) (y := w3.heap.size) (new := [.int .i64 lv, .slice V nv cv, .slice H nh ch, .int .i64 sm]) HIT.out rfl (by decide) (by decide) RwdT.ok hF (by omega) (by omega) rfl (fun y hy => by simp at hy; rcases hy with rfl | rfl | rfl | rfl <;> rfl) (by omega) (Nat.le_refl _) (fun g e => .inl (lr.out g e).2) HRW.out _ _ rfl rfl Tryz.underlying44 rfl rfl ?_; intro v9 w9 cs9 L9 U9 hF9 hg9)
    have KB := hid (hF.below (by omega) hg9)
    have HF9 := hid hF9
    have f9 := hid (fB.below KB.out (by omega))
    have hc9 := hid (hcB.below KB.out (by omega))
    have s9 := KB.out.size
    have B49 := hid (b1_grown b4 hg9 (fun e => by have := lr.out _ e; omega))
    have HL9 := hid (show (ts ++ [(lv, xs, ys, sm)]).length = ts.length + 1 by simp)
    clear hF hF9 hg9 b4 hc f hcB fB hT5 HRW
    try go_wp2_with fail
    go_roundw
    case rel => exact ⟨m - 1, _, _, _, _, ts ++ [(lv, xs, ys, sm)], rfl, by congr 1; omega, by rw [HL9.out]; omega, HF9.out, B49.out, hc9.out.mono (by have := HL9.out; omega), f9.out, by omega⟩
    case measure => simp [intOf]; omega
end Go.Proofs.YtlkjhkkfdmjfcaaGreatDoor
namespace Go.Proofs.YtlkjhkkfdmjfcaaGreatDoor
open Go.RowKit Go.Sort Go.Deep
set_option linter.unusedVariables false
set_option linter.unusedSimpArgs false
theorem info_rec9 : (Tryz.prog.info? 160).map (fun i => (i.zero, i.size, i.bytes)) = some (some (.agg #[.int .i64 0, .int .i64 0, .slice none 0 0]), 3, 40) := by kernel_rfl
/-- What a drawing function that hands back a record leaves. -/
def DrawsRc (w : World) (g : Nat) (T : Int) (e : Ending) (w' : World) : Prop := ∃ a b V nv cv xs, e = .returned (.agg #[.int .i64 a, .int .i64 b, .slice V nv cv]) ∧ Ints w' w.heap.size w'.heap.size V nv xs ∧ Cur w' g T ∧ Fr g (g + 1) w w'
set_option maxRecDepth 100000 in
set_option maxHeartbeats 6400000 in
theorem record_any {g : Nat} {T : Int} {lo hi q c lo3 hi3 n3 c3 : Nat} {A A3 : Option Addr} {l : List VV} {zs : List Int} {w : World} (h : Cur w g T) (hT : T ≤ 300000000000000) (hs : Vars w lo hi A q l) (hgl : g < lo) (hD : SchD l) (hx : Ints w lo3 hi3 A3 n3 zs) (hg3 : g < lo3) (hn3 : 0 < n3) (hn33 : n3 ≤ 65536) :
    Calls Tryz.prog 170 #[.pointer (some ⟨g, 0, none⟩), .slice A q c, .slice A3 n3 c3] w (DrawsRc w g (T + 100)) := by
  have HD := hid hD
  have hq7 : q ≤ 7 := by have := hD.len; rw [Vars.len hs] at this; exact this
  have lg := h.lt
  go_enter Tryz.func170, Tryz.ntmps170
  have f : Fr g (g + 1) w w := Fr.refl _ _ _
  have hc := h
  replace f := f.keeps (keeps_alloc w (.cells #[.int .i64 0, .int .i64 0, .slice none 0 0] 160))
  replace hc := hc.keeps (keeps_alloc w (.cells #[.int .i64 0, .int .i64 0, .slice none 0 0] 160))
  have b6 : Bl (w.alloc (.cells #[.int .i64 0, .int .i64 0, .slice none 0 0] 160)) w.heap.size [.int .i64 0, .int .i64 0, .slice none 0 0] := Bl.new' (by simp) (by simp)
  go_wp2_with fail
  refine (among_any hc (by omega) (hx.fr f (by omega)) hg3 hn3 hn33).mono ?_
  rintro e w1 ⟨x, xj, rfl, xh, xe, hn, ff⟩
  replace f := f.trans ff
  clear hc
  have hc := hn
  replace b6 := b6.fr ff (by first | omega | (simp; omega))
  have sf1 := ff.size
  try simp at sf1
  clear ff hn
  have sz1 := f.size
  have lt1 := b6.lt
  clear xe xh
  go_wp2_with fail
  refine (pick_any hc (by omega) (by omega)).mono ?_
  rintro e w2 ⟨y, rfl, hy, hn, ff⟩
  replace f := f.trans ff
  clear hc
  have hc := hn
  replace b6 := b6.fr ff (by first | omega | (simp; omega))
  have sf2 := ff.size
  try simp at sf2
  clear ff hn
  have sz2 := f.size
  have lt2 := b6.lt
  go_wp2_with fail
  refine (values_any hc (by omega) (hs.fr f (by omega)) hgl HD.out).mono ?_
  rintro e w3 ⟨V, nv, cv, cs0, L0, U0, xs, rfl, hV, hxl, hxq, hn, ff⟩
  replace f := f.trans ff
  clear hc
  have hc := hn
  replace b6 := b6.fr ff (by first | omega | (simp; omega))
  have sf3 := ff.size
  try simp at sf3
  clear ff hn
  have sz3 := f.size
  have lt3 := b6.lt
  have hxq2 : xs.length = q := hxq
  obtain ⟨Aq, cq, eq, _, iV⟩ := hV.ints (by omega) (by omega)
  rw [hxl] at eq iV
  injection eq with eq1 _ eq2
  subst eq1 eq2
  have HI := hid (iV.widen (lo' := w.heap.size + 1) (hi' := w3.heap.size) (by first | omega | simp) (Nat.le_refl _) (Nat.le_refl _))
  clear hV iV
  have ca4_0 := (b6.2 0 _ rfl).1
  have fa4_0 := (b6.2 0 _ rfl).2
  have ca4_1 := (b6.2 1 _ rfl).1
  have fa4_1 := (b6.2 1 _ rfl).2
  have ca4_2 := (b6.2 2 _ rfl).1
  have fa4_2 := (b6.2 2 _ rfl).2
  replace f := f.setNew (p := ⟨w.heap.size, 0, none⟩) (by show _ ≤ w.heap.size; omega) (.int .i64 x)
  replace hc := hc.fr (fr_one (p := w.heap.size) (i := 0) (.int .i64 x)) (by omega)
  replace b6 : Bl (w3.setCell ⟨w.heap.size, 0, none⟩ (.int .i64 x)) w.heap.size [.int .i64 x, .int .i64 0, .slice none 0 0] := b6.set 0 (.int .i64 x)
  replace f := f.setNew (p := ⟨w.heap.size, 1, none⟩) (by show _ ≤ w.heap.size; omega) (.int .i64 y)
  replace hc := hc.fr (fr_one (p := w.heap.size) (i := 1) (.int .i64 y)) (by omega)
  replace b6 : Bl ((w3.setCell ⟨w.heap.size, 0, none⟩ (.int .i64 x)).setCell ⟨w.heap.size, 1, none⟩ (.int .i64 y)) w.heap.size [.int .i64 x, .int .i64 y, .slice none 0 0] := b6.set 1 (.int .i64 y)
  replace f := f.setNew (p := ⟨w.heap.size, 2, none⟩) (by show _ ≤ w.heap.size; omega) (.slice V nv cv)
  replace hc := hc.fr (fr_one (p := w.heap.size) (i := 2) (.slice V nv cv)) (by omega)
  replace b6 : Bl (((w3.setCell ⟨w.heap.size, 0, none⟩ (.int .i64 x)).setCell ⟨w.heap.size, 1, none⟩ (.int .i64 y)).setCell ⟨w.heap.size, 2, none⟩ (.slice V nv cv)) w.heap.size [.int .i64 x, .int .i64 y, .slice V nv cv] := b6.set 2 (.slice V nv cv)
  have HI2 := hid (show Ints (((w3.setCell ⟨w.heap.size, 0, none⟩ (.int .i64 x)).setCell ⟨w.heap.size, 1, none⟩ (.int .i64 y)).setCell ⟨w.heap.size, 2, none⟩ (.slice V nv cv)) w.heap.size (((w3.setCell ⟨w.heap.size, 0, none⟩ (.int .i64 x)).setCell ⟨w.heap.size, 1, none⟩ (.int .i64 y)).setCell ⟨w.heap.size, 2, none⟩ (.slice V nv cv)).heap.size V nv xs from Ints.widen (Ints.fr (Ints.fr (Ints.fr HI.out (fr_one (p := w.heap.size) (i := 0) (.int .i64 x)) (by omega)) (fr_one (p := w.heap.size) (i := 1) (.int .i64 y)) (by omega)) (fr_one (p := w.heap.size) (i := 2) (.slice V nv cv)) (by omega)) (by omega) (by simp [World.setCell]) (Nat.le_refl _))
  clear HI
  have HC9 := hid hc
  have HF9 := hid f
  clear hc f
  go_wp2_with fail
  clear ca4_0 fa4_0 ca4_1 fa4_1 ca4_2 fa4_2
  have ca0_0 := (b6.2 0 _ rfl).1
  have ca0_1 := (b6.2 1 _ rfl).1
  have ca0_2 := (b6.2 2 _ rfl).1
  try simp only [Exit.inBlock, Exit.then]
  exact bodyPost_ret (v := .agg #[.int .i64 x, .int .i64 y, .slice V nv cv]) (by simp [results, Tryz.results170, go_sem, ca0_0, ca0_1, ca0_2]) rfl ⟨_, _, _, _, _, xs, rfl, HI2.out, HC9.out.mono (by omega), HF9.out⟩
set_option maxRecDepth 100000 in
set_option maxHeartbeats 6400000 in
theorem rOwn_any9 {lo hi nv cv : Nat} {V : Option Addr} {xs : List Int} {a b : Int} {w : World} (hV : Ints w lo hi V nv xs) :
    Calls Tryz.prog 171 #[.agg #[.int .i64 a, .int .i64 b, .slice V nv cv]] w fun e w' => ∃ V2 c2, e = .returned (.agg #[.int .i64 a, .int .i64 b, .slice V2 nv c2]) ∧ Keeps w w' := by
  go_enter Tryz.func171, Tryz.ntmps171
  have kw := keeps_refl w
  replace kw := Keeps.trans kw (keeps_alloc w (.cells #[.int .i64 a, .int .i64 b, .slice V nv cv] 160))
  have b1 : Bl (w.alloc (.cells #[.int .i64 a, .int .i64 b, .slice V nv cv] 160)) w.heap.size [.int .i64 a, .int .i64 b, .slice V nv cv] := Bl.new' (by simp) (by simp)
  replace b1 := b1.keeps (keeps_alloc (w.alloc (.cells #[.int .i64 a, .int .i64 b, .slice V nv cv] 160)) (.cells #[.int .i64 0, .int .i64 0, .slice none 0 0] 160))
  replace kw := Keeps.trans kw (keeps_alloc (w.alloc (.cells #[.int .i64 a, .int .i64 b, .slice V nv cv] 160)) (.cells #[.int .i64 0, .int .i64 0, .slice none 0 0] 160))
  have b2 : Bl ((w.alloc (.cells #[.int .i64 a, .int .i64 b, .slice V nv cv] 160)).alloc (.cells #[.int .i64 0, .int .i64 0, .slice none 0 0] 160)) (w.heap.size + 1) [.int .i64 0, .int .i64 0, .slice none 0 0] := Bl.new' (by simp) (by simp)
  go_wp2_with fail
  obtain ⟨W, hX⟩ : ∃ u : World, u = ((w.alloc (.cells #[.int .i64 a, .int .i64 b, .slice V nv cv] 160)).alloc (.cells #[.int .i64 0, .int .i64 0, .slice none 0 0] 160)) := ⟨_, rfl⟩
  have szX0 := hid (show W.heap.size = w.heap.size + 1 + 1 by rw [hX]; simp)
  rw [← hX] at b1
  rw [← hX] at b2
  rw [← hX] at kw
  rw [← hX]
  clear hX
  have sz2 := kw.size
  have kS := hid (show ∀ w', Keeps W w' → (w'.cell? ⟨w.heap.size, 0, none⟩ = some (.int .i64 a) ∧ w'.cell? ⟨w.heap.size, 1, none⟩ = some (.int .i64 b) ∧ w'.cell? ⟨w.heap.size, 2, none⟩ = some (.slice V nv cv)) from fun w' k => ⟨((b1.keeps k).2 0 _ rfl).1, ((b1.keeps k).2 1 _ rfl).1, ((b1.keeps k).2 2 _ rfl).1⟩)
  have kT := hid (show ∀ w', Keeps W w' → ∀ v0 v1 v2, ((((w'.setCell ⟨w.heap.size + 1, 0, none⟩ v0).setCell ⟨w.heap.size + 1, 1, none⟩ v1).setCell ⟨w.heap.size + 1, 2, none⟩ v2).cell? ⟨w.heap.size, 0, none⟩ = some (.int .i64 a) ∧ (((w'.setCell ⟨w.heap.size + 1, 0, none⟩ v0).setCell ⟨w.heap.size + 1, 1, none⟩ v1).setCell ⟨w.heap.size + 1, 2, none⟩ v2).cell? ⟨w.heap.size, 1, none⟩ = some (.int .i64 b) ∧ (((w'.setCell ⟨w.heap.size + 1, 0, none⟩ v0).setCell ⟨w.heap.size + 1, 1, none⟩ v1).setCell ⟨w.heap.size + 1, 2, none⟩ v2).cell? ⟨w.heap.size, 2, none⟩ = some (.slice V nv cv)) from fun w' k v0 v1 v2 => ⟨(((((b1.keeps k).far (p := ⟨w.heap.size + 1, 0, none⟩) (by show w.heap.size ≠ w.heap.size + 1; omega) v0).far (p := ⟨w.heap.size + 1, 1, none⟩) (by show w.heap.size ≠ w.heap.size + 1; omega) v1).far (p := ⟨w.heap.size + 1, 2, none⟩) (by show w.heap.size ≠ w.heap.size + 1; omega) v2).2 0 _ rfl).1, (((((b1.keeps k).far (p := ⟨w.heap.size + 1, 0, none⟩) (by show w.heap.size ≠ w.heap.size + 1; omega) v0).far (p := ⟨w.heap.size + 1, 1, none⟩) (by show w.heap.size ≠ w.heap.size + 1; omega) v1).far (p := ⟨w.heap.size + 1, 2, none⟩) (by show w.heap.size ≠ w.heap.size + 1; omega) v2).2 1 _ rfl).1, (((((b1.keeps k).far (p := ⟨w.heap.size + 1, 0, none⟩) (by show w.heap.size ≠ w.heap.size + 1; omega) v0).far (p := ⟨w.heap.size + 1, 1, none⟩) (by show w.heap.size ≠ w.heap.size + 1; omega) v1).far (p := ⟨w.heap.size + 1, 2, none⟩) (by show w.heap.size ≠ w.heap.size + 1; omega) v2).2 2 _ rfl).1⟩)
  go_region_held3 (fun w' => w'.cell? ⟨w.heap.size, 0, none⟩ = some (.int .i64 a) ∧ w'.cell? ⟨w.heap.size, 1, none⟩ = some (.int .i64 b) ∧ w'.cell? ⟨w.heap.size, 2, none⟩ = some (.slice V nv cv)) (first | with_reducible exact kS.out _ (keeps_d0 _) | with_reducible exact kS.out _ kW | with_reducible exact kT.out _ kW _ _ _ | go_keep)
    ((first | (go_at_call 128; refine (l1Own_cp (c := cv) (hV.keeps (Keeps.trans kw (keeps_d0 _)))).mono ?_; rintro e wC ⟨V2, c2, rfl, m2, kC⟩; have kW : Keeps W wC := keeps_d kC; clear kC m2; have b2C := b2.keeps kW; have z0 := (b2C.2 0 _ rfl).1; have y0 := (b2C.2 0 _ rfl).2; have z1 := (b2C.2 1 _ rfl).1; have y1 := (b2C.2 1 _ rfl).2; have z2 := (b2C.2 2 _ rfl).1; have y2 := (b2C.2 2 _ rfl).2)))
  have HKW := hid (kw.trans kW)
  clear kS kT z0 z1 z2 y0 y1 y2
  replace b2C : Bl (wC.setCell ⟨w.heap.size + 1, 0, none⟩ (.int .i64 a)) (w.heap.size + 1) [.int .i64 a, .int .i64 0, .slice none 0 0] := b2C.set 0 (.int .i64 a)
  replace b2C : Bl ((wC.setCell ⟨w.heap.size + 1, 0, none⟩ (.int .i64 a)).setCell ⟨w.heap.size + 1, 1, none⟩ (.int .i64 b)) (w.heap.size + 1) [.int .i64 a, .int .i64 b, .slice none 0 0] := b2C.set 1 (.int .i64 b)
  replace b2C : Bl (((wC.setCell ⟨w.heap.size + 1, 0, none⟩ (.int .i64 a)).setCell ⟨w.heap.size + 1, 1, none⟩ (.int .i64 b)).setCell ⟨w.heap.size + 1, 2, none⟩ (.slice V2 nv c2)) (w.heap.size + 1) [.int .i64 a, .int .i64 b, .slice V2 nv c2] := b2C.set 2 (.slice V2 nv c2)
  have HK9 := hid (show Keeps w (((wC.setCell ⟨w.heap.size + 1, 0, none⟩ (.int .i64 a)).setCell ⟨w.heap.size + 1, 1, none⟩ (.int .i64 b)).setCell ⟨w.heap.size + 1, 2, none⟩ (.slice V2 nv c2)) from (Below.setCell (Below.setCell (Below.setCell HKW.out (p := ⟨w.heap.size + 1, 0, none⟩) (Nat.le_succ _) (.int .i64 a)) (p := ⟨w.heap.size + 1, 1, none⟩) (Nat.le_succ _) (.int .i64 b)) (p := ⟨w.heap.size + 1, 2, none⟩) (Nat.le_succ _) (.slice V2 nv c2)))
  clear kw kW HKW
  go_wp2_with fail
  have ca0_0 := (b2C.2 0 _ rfl).1
  have ca0_1 := (b2C.2 1 _ rfl).1
  have ca0_2 := (b2C.2 2 _ rfl).1
  try simp only [Exit.inBlock, Exit.then]
  exact bodyPost_ret (v := .agg #[.int .i64 a, .int .i64 b, .slice V2 nv c2]) (by simp [results, Tryz.results171, go_sem, ca0_0, ca0_1, ca0_2]) rfl ⟨_, _, rfl, HK9.out⟩
set_option maxRecDepth 100000 in
set_option maxHeartbeats 12800000 in
theorem data_any {g : Nat} {T : Int} {lo hi q c lo3 hi3 n3 c3 : Nat} {A A3 : Option Addr} {l : List VV} {zs : List Int} {w : World} (h : Cur w g T) (hT : T ≤ 200000000000000) (hs : Vars w lo hi A q l) (hgl : g < lo) (hD : SchD l) (hx : Ints w lo3 hi3 A3 n3 zs) (hg3 : g < lo3) (hn3 : 0 < n3) (hn33 : n3 ≤ 65536) :
    Calls Tryz.prog 151 #[.pointer (some ⟨g, 0, none⟩), .slice A q c, .slice A3 n3 c3] w (DrawsL 3 () RwdN 160 (fun l => l.length ≤ 30) w g (T + 4000)) := by
  have HD := hid hD
  have HIR := hid info_rec9
  have lg := h.lt
  go_enter Tryz.func151, Tryz.ntmps151
  have f : Fr g (g + 1) w w := Fr.refl _ _ _
  have hc := h
  go_wp2_with fail
  refine (pick_any hc (by omega) (by omega)).mono ?_
  rintro e w1 ⟨x0, rfl, hx0, hn, ff⟩
  replace f := f.trans ff
  clear hc
  have hc := hn
  have sf1 := ff.size
  try simp at sf1
  clear ff hn
  have sz1 := f.size
  obtain ⟨m0, rfl⟩ : ∃ m : Nat, x0 = m := ⟨x0.toNat, by omega⟩
  have hm0 : m0 ≤ 11 := by omega
  clear hx0
  have F0 := GrowR.nil (sz := 3) (z := ()) (R := RwdN) w1 w.heap.size w.heap.size 160 (Nat.le_refl _)
  go_wp2_with fail
  go_loopw [7, 8] (fun sv i wr => ∃ (m : Nat) (vq : Value) (cs : List Value) (L U : Nat → Nat) (ls : List Unit), vq = sv ∧ i = .int .i64 m ∧ ls.length + 2 * m ≤ 22 ∧ GrowR 3 () RwdN wr w.heap.size w.heap.size 160 vq cs L U ls ∧ Cur wr g (T + 10 + 110 * ls.length) ∧ Fr g (g + 1) w wr ∧ w.heap.size ≤ wr.heap.size) (fun _ i _ => (intOf i).toNat)
  case atStart => exact ⟨m0, _, _, _, _, [], rfl, rfl, by first | (simp; done) | (simp; omega), F0, hc.mono (by first | (simp; done) | (simp; omega)), f, by omega⟩
  clear F0 hc f
  case round =>
    obtain ⟨m, vq, cs, L, U, ls, rfl, rfl, hm, hF, hc, f, sz1⟩ := hrel
    by_cases hlt : 0 < m
    rotate_left
    · obtain rfl : m = 0 := by omega
      have hm9 : ¬ ((0 : Nat) : Int) > 0 := by omega
      obtain ⟨A8, c8, e8⟩ := hF.has.form
      obtain ⟨kn, hkn⟩ : ∃ x, ls.length = x := ⟨_, rfl⟩
      rw [hkn] at e8
      subst e8
      have HL := hid hkn
      have HF := hid hF
      have HC := hid hc
      have Hf := hid f
      clear hF hc f
      go_wp2
      go_ret
      exact ⟨_, _, _, _, _, _, ls, rfl, HF.out, HL.out, (show ls.length ≤ 30 by omega), HC.out.mono (by omega), Hf.out⟩
    have hm9 : (m : Int) > 0 := by omega
    have lr := hid hF.lt
    go_wp2_with fail
    refine (record_any hc (by omega) (hs.fr f (by omega)) hgl HD.out (hx.fr f (by omega)) hg3 hn3 hn33).mono ?_
    rintro e w2 ⟨a1, b1, V, nv, cv, xs, rfl, hI, hn, ff⟩
    replace f := f.trans ff
    clear hc
    have hc := hn
    replace hF := hF.fr RwdN.ok ff (by omega)
    have sf2 := ff.size
    try simp at sf2
    clear ff hn
    have sz2 := f.size
    replace f := f.keeps (keeps_alloc w2 (.cells #[.int .i64 a1, .int .i64 b1, .slice V nv cv] 160))
    replace hc := hc.keeps (keeps_alloc w2 (.cells #[.int .i64 a1, .int .i64 b1, .slice V nv cv] 160))
    replace hF := hF.keeps RwdN.ok (keeps_alloc w2 (.cells #[.int .i64 a1, .int .i64 b1, .slice V nv cv] 160))
    have b9 : Bl (w2.alloc (.cells #[.int .i64 a1, .int .i64 b1, .slice V nv cv] 160)) w2.heap.size [.int .i64 a1, .int .i64 b1, .slice V nv cv] := Bl.new' (by simp) (by simp)
    have ca3_0 := (b9.2 0 _ rfl).1
    have ca3_1 := (b9.2 1 _ rfl).1
    have ca3_2 := (b9.2 2 _ rfl).1
    have hI2 := hI.keeps (keeps_alloc w2 (.cells #[.int .i64 a1, .int .i64 b1, .slice V nv cv] 160))
    have l9 := b9.lt
    have hcB := hc
    have fB := f
    clear hI
    go_wp2_with (at_builtin; refine append_rowR (a0 := ()) (x := w.heap.size) (y := w.heap.size) (new := [.int .i64 a1, .int .i64 b1, .slice V nv cv]) HIR.out rfl (by decide) (by decide) RwdN.ok hF (by first | omega | (simp; omega)) (by first | omega | (simp; omega)) rfl (fun y hy => by simp at hy; rcases hy with rfl | rfl | rfl <;> rfl) (Nat.le_refl _) (by first | omega | (simp; omega)) (fun g e => Nat.lt_or_ge _ _) trivial _ _ rfl rfl Tryz.underlying122 (by first | rfl | (simp <;> rfl)) (by first | rfl | (simp <;> rfl)) ?_; intro v9 w9 cs9 L9 U9 hF9 hg9)
    clear ca3_0 ca3_1 ca3_2
    have KB := hid (hF.below (by first | omega | (simp; omega)) hg9)
    have f9 := fB.below KB.out (by omega)
    have hc9 := hcB.below KB.out (by omega)
    have s9 := KB.out.size
    have HI9 := hid (hI2.sm (w' := w9) ⟨hg9.size, fun g g1 g2 => hg9.block g (by simp; omega) (fun e => by have := lr.out g e.symm; omega)⟩)
    have B9 := bl_grown b9 hg9 (fun e => by have := lr.out _ e; omega)
    clear hF hg9 hc f hcB fB b9 hI2
    have hF := hF9
    have hc := hc9
    have f := f9
    have b9 := B9
    clear hF9 hc9 f9 B9
    have HL9 := hid (show (ls ++ [()]).length = ls.length + 1 by simp)
    try simp at s9
    have hI8 := HI9.out
    go_wp2_with fail
    refine (one_any hc (by omega) (by omega)).mono ?_
    rintro e w4 ⟨b8, rfl, hn, ff⟩
    replace f := f.trans ff
    clear hc
    have hc := hn
    replace hF := hF.fr RwdN.ok ff (by omega)
    replace b9 := b9.fr ff (by first | omega | (simp; omega))
    replace hI8 := hI8.fr ff (by first | omega | (simp; omega))
    have sf4 := ff.size
    try simp at sf4
    clear ff hn
    have sz4 := f.size
    have lt4 := b9.lt
    cases b8
    · go_wp2_with fail
      go_roundw
      case rel => exact ⟨m - 1, _, _, _, _, ls ++ [()], rfl, by congr 1; omega, by rw [HL9.out]; omega, hF, hc.mono (by have := HL9.out; omega), f, by omega⟩
      case measure => simp [intOf]; omega
    have ca5_0 := (b9.2 0 _ rfl).1
    have ca5_1 := (b9.2 1 _ rfl).1
    have ca5_2 := (b9.2 2 _ rfl).1
    go_wp2_with fail
    clear ca5_0 ca5_1 ca5_2
    refine (rOwn_any9 hI8).mono ?_
    rintro e w6 ⟨V2, c2, rfl, kk⟩
    replace f := f.keeps kk
    replace hc := hc.keeps kk
    replace hF := hF.keeps RwdN.ok kk
    replace b9 := b9.keeps kk
    have sf6 := kk.size
    try simp at sf6
    clear kk
    have sz6 := f.size
    have lt6 := b9.lt
    clear hI8
    have hcB := hc
    have fB := f
    go_wp2_with (at_builtin; refine append_rowR (a0 := ()) (x := w.heap.size) (y := w.heap.size) (new := [.int .i64 a1, .int .i64 b1, .slice V2 nv c2]) HIR.out rfl (by decide) (by decide) RwdN.ok hF (by first | omega | (simp; omega)) (by first | omega | (simp; omega)) rfl (fun y hy => by simp at hy; rcases hy with rfl | rfl | rfl <;> rfl) (Nat.le_refl _) (by first | omega | (simp; omega)) (fun g e => Nat.lt_or_ge _ _) trivial _ _ rfl rfl Tryz.underlying122 (by first | rfl | (simp <;> rfl)) (by first | rfl | (simp <;> rfl)) ?_; intro v8 w8 cs8 L8 U8 hF8 hg8)
    have KB2 := hid (hF.below (by omega) hg8)
    have f8 := hid (fB.below KB2.out (by omega))
    have hc8 := hid (hcB.below KB2.out (by omega))
    have s8 := KB2.out.size
    have HF8 := hid hF8
    have HL8 := hid (show (ls ++ [()] ++ [()]).length = ls.length + 2 by simp)
    clear hF hF8 hg8 hc f hcB fB b9
    try go_wp2_with fail
    go_roundw
    case rel => exact ⟨m - 1, _, _, _, _, ls ++ [()] ++ [()], rfl, by congr 1; omega, by rw [HL8.out]; omega, HF8.out, hc8.out.mono (by have := HL8.out; omega), f8.out, by omega⟩
    case measure => simp [intOf]; omega
end Go.Proofs.YtlkjhkkfdmjfcaaGreatDoor
