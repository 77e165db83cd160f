/- What the proof of the statement leans on, part 15: walks of functions and plain lemmas, with no condition. -/
import Derived.Lib.ItoaNum
import Derived.Lib.ItoaLen
import Derived.Laws.BytesArg
import Derived.Deep.RegionLaw
import Derived.Lib.Join
import Derived.Shelf.Strings.Builder1
import Derived.Shelf.Strings.OnBuilder
import Derived.Shelf.Strings.BuilderK
import Derived.Shelf.LaysM
import Derived.Shelf.Strconv.Itoa3
import Derived.Test.YtlkjhkkfdmjfcaaGreatDoorProg
import Derived.Lib.QuietBelow
import Derived.Lib.AppendIntMem
import Derived.Test.YtlkjhkkfdmjfcaaGreatDoorQ0
import Derived.Test.YtlkjhkkfdmjfcaaGreatDoorQ6
import Derived.Test.YtlkjhkkfdmjfcaaGreatDoorQ11
import Derived.Test.YtlkjhkkfdmjfcaaGreatDoorQ13
namespace Go.Proofs.YtlkjhkkfdmjfcaaGreatDoor
open Go.RowKit Go.Sort Go.Deep
set_option linter.unusedVariables false
set_option linter.unusedSimpArgs false
/-- What DrawNewTables leaves. -/
def DrawsHn (w : World) (e : Ending) (w' : World) : Prop :=
  ∃ A N C ps S q cq l R n cr rs P m cm ts, e = .returned (.tuple #[.agg #[.slice A N C], .slice S q cq, .slice R n cr, .slice P m cm]) ∧ Ints w' w.heap.size w'.heap.size A N ps ∧ N ≤ 45 ∧ Vars w' w.heap.size w'.heap.size S q l ∧ (q ≤ cq ∧ cq ≤ maxLen) ∧ SchD l ∧ Rels true false w' w.heap.size w'.heap.size R n rs ∧ n ≤ cr ∧ n ≤ 14 ∧ Tabs true false w' w.heap.size w'.heap.size P m ts ∧ m ≤ cm ∧ Keeps w w'
theorem step_below {W : World} {ops : Array Oper} {o : Oper} {a : Act} {K : Act → World → Prop} {Q : Exit → Act → World → Prop} {E : Prop} {g : Nat} {T : Int} {lo hi q c a9 c0 n m c1 c2 lo3 hi3 lo4 hi4 : Nat} {A A2 V H : Option Addr} {l : List VV} {vs ws : List Int} {lv sm : Int}
    (h : Cur W g T) (hT : T ≤ 90000000000000) (hv : Ints W lo3 hi3 V n vs) (hw : Ints W lo4 hi4 H m ws) (hs : Vars W lo hi A q l) (hgl : g < lo) (hD : SchD l) (hgd : o.guard = none)
    (hrun : (execOp a.eval o).run Tryz.prog W = .ok (.enter 57 #[.pointer (some ⟨g, 0, none⟩), .agg #[.slice A2 a9 c0], .slice A q c, .agg #[.int .i64 lv, .slice V n c1, .slice H m c2, .int .i64 sm]]) W)
    (hk : ∀ lv sm V c H d xs ys w', Ints w' W.heap.size w'.heap.size V xs.length xs → Ints w' W.heap.size w'.heap.size H ys.length ys → Cur w' g (T + 2000000000) → Fr g (g + 1) W w' → K (a.put o.dst (.agg #[.int .i64 lv, .slice V xs.length c, .slice H ys.length d, .int .i64 sm])) w') :
    if Region.wanted o (yielded ops a.tmps) = true then Oper.wp Tryz.prog o a W K Q else E := by
  have hw9 : Region.wanted o (yielded ops a.tmps) = true := by simp [Region.wanted, hgd]
  rw [if_pos hw9]
  unfold Oper.wp
  rw [hrun, Oper.upon_enter]
  refine (below_any h hT hv hw hs hgl hD).mono fun e w' hh => ?_
  obtain ⟨lv, sm, V, n, c, H, m, d, xs, ys, rfl, i1, i2, h1, h2⟩ := hh
  have e1 := i1.1
  have e2 := i2.1
  subst e1 e2
  exact hk _ _ _ _ _ _ _ _ w' i1 i2 h1 h2
set_option maxRecDepth 100000 in
set_option maxHeartbeats 12800000 in
theorem DrawNewTables_any {A : Option Addr} {hi n c : Nat} {w : World} (hb : Bytes w hi A n) :
    Calls Tryz.prog 21 #[.slice A n c] w (DrawsHn w) := by
  go_enter Tryz.func21, Tryz.ntmps21
  have kw := keeps_refl w
  replace kw := Keeps.trans kw (keeps_alloc w (.cells #[.slice none 0 0] 32))
  have b2 : Bl (w.alloc (.cells #[.slice none 0 0] 32)) (w.heap.size) [.slice none 0 0] := Bl.new' (by simp) (by simp)
  have hc := Cur.new (t := 99) (c := c) (hb.keeps kw)
  rw [show (w.alloc (.cells #[.slice none 0 0] 32)).heap.size = w.heap.size + 1 by simp] at hc
  replace b2 := b2.keeps (keeps_alloc (w.alloc (.cells #[.slice none 0 0] 32)) (.cells #[.slice A n c, .int .i64 0, .int .u64 0] 99))
  replace kw := Keeps.trans kw (keeps_alloc (w.alloc (.cells #[.slice none 0 0] 32)) (.cells #[.slice A n c, .int .i64 0, .int .u64 0] 99))
  have hbW := hb.keeps kw
  have E0 := hid (show ((w.alloc (.cells #[.slice none 0 0] 32)).alloc (.cells #[.slice A n c, .int .i64 0, .int .u64 0] 99)).heap.size = w.heap.size + 2 by simp)
  have HIT := hid info_tab9
  go_wp2_with fail
  refine (DrawIsHistory_any hbW).mono ?_
  rintro e w1 ⟨A1, N1, C1, ps, S1, q, cq, l, R, n7, cr, rs, rfl, iG, hN, iS, hcap, hSD, hR, hcr, hr14, kk⟩
  have sf1 := kk.size
  rw [E0.out] at iG iS hR sf1
  replace kw : Keeps w w1 := Keeps.trans kw kk
  replace hc := hc.keeps kk
  replace b2 := b2.keeps kk
  have HSD := hid hSD
  have HCAP := hid hcap
  have HCR := hid hcr
  clear kk hSD hcap hcr E0 hbW
  replace b2 := b2.keeps (keeps_alloc w1 (.cells #[.slice A1 N1 C1] 32))
  replace hc := hc.keeps (keeps_alloc w1 (.cells #[.slice A1 N1 C1] 32))
  replace iG := iG.keeps (keeps_alloc w1 (.cells #[.slice A1 N1 C1] 32))
  replace iS := iS.keeps (keeps_alloc w1 (.cells #[.slice A1 N1 C1] 32))
  replace hR := hR.keeps (keeps_alloc w1 (.cells #[.slice A1 N1 C1] 32))
  replace kw := Keeps.trans kw (keeps_alloc w1 (.cells #[.slice A1 N1 C1] 32))
  have b9 : Bl (w1.alloc (.cells #[.slice A1 N1 C1] 32)) w1.heap.size [.slice A1 N1 C1] := Bl.new' (by simp) (by simp)
  go_wp2_with fail
  obtain ⟨w2, hX⟩ : ∃ u : World, u = w1.alloc (.cells #[.slice A1 N1 C1] 32) := ⟨_, rfl⟩
  have szX := hid (show w2.heap.size = w1.heap.size + 1 by rw [hX]; simp)
  rw [← hX] at b2
  rw [← hX] at hc
  rw [← hX] at iG
  rw [← hX] at iS
  rw [← hX] at hR
  rw [← hX] at kw
  rw [← hX] at b9
  rw [← hX]
  clear hX
  have sX := szX.out
  refine (tables_any (a := N1) (c0 := C1) hc (by omega) iG (by omega) iS (by omega) HSD.out).mono ?_
  rintro e w3 ⟨P, np, cp, cs, L, U, ts, rfl, hF, hTL, hT21, hc3, ff⟩
  have sw3 := ff.size
  replace kw : Keeps w w3 := below_fr kw kw.size (by omega) ff
  replace b2 := b2.fr ff (by omega)
  replace b9 := b9.fr ff (by omega)
  replace iG := iG.fr ff (by omega)
  replace iS := Sl.fr iS ff (by omega)
  replace hR := hR.fr ff (by omega)
  clear hc ff
  have hc := hc3
  clear hc3
  by_cases h0 : 0 < n7
  rotate_left
  · skip
    obtain rfl : n7 = 0 := by omega
    have hn9 : ¬ ((0 : Nat) : Int) > 0 := by omega
    obtain ⟨P8, cp8, eq8, hcp8, hTT⟩ := hF.tabs (by omega) (by omega)
    injection eq8 with eq1 eq9 eq2
    subst eq1 eq2
    rw [hTL] at hTT hcp8
    have HCP := hid hcp8
    clear eq9 hcp8
    have HI9 := hid ((iG.fr (fr_one (p := w.heap.size) (i := 0) (.slice A1 N1 C1)) (by omega)).widen (lo' := w.heap.size) (hi' := (w3.setCell ⟨w.heap.size, 0, none⟩ (.slice A1 N1 C1)).heap.size) (by omega) (by simp [World.setCell]; omega) (Nat.le_refl _))
    have HV9 := hid (Sl.widen (lo' := w.heap.size) (hi' := (w3.setCell ⟨w.heap.size, 0, none⟩ (.slice A1 N1 C1)).heap.size) (Sl.fr iS (fr_one (p := w.heap.size) (i := 0) (.slice A1 N1 C1)) (by omega)) (by omega) (by simp [World.setCell]; omega) (Nat.le_refl _))
    have HR9 := hid (Rels.wide (lo' := w.heap.size) (hi' := (w3.setCell ⟨w.heap.size, 0, none⟩ (.slice A1 N1 C1)).heap.size) (hR.fr (fr_one (p := w.heap.size) (i := 0) (.slice A1 N1 C1)) (by omega)) (by omega) (by simp [World.setCell]; omega) (Nat.le_refl _))
    have HT9 := hid (Tabs.wide (lo' := w.heap.size) (hi' := (w3.setCell ⟨w.heap.size, 0, none⟩ (.slice A1 N1 C1)).heap.size) (hTT.fr (fr_one (p := w.heap.size) (i := 0) (.slice A1 N1 C1)) (by omega)) (by omega) (by simp [World.setCell]) (Nat.le_refl _))
    have KW := hid (Below.setCell kw (p := ⟨w.heap.size, 0, none⟩) (Nat.le_refl _) (.slice A1 N1 C1))
    have z9 := (b9.2 0 _ rfl).1
    have z1 := (b2.2 0 _ rfl).1
    have z2 := (b2.2 0 _ rfl).2
    have B2 := b2.set 0 (.slice A1 N1 C1)
    have c9 := (B2.2 0 _ rfl).1
    clear hF hTT hc b9 b2 iG iS hR kw B2
    go_wp2_with fail
    clear z9 z1 z2
    try simp only [Exit.inBlock, Exit.then]
    exact bodyPost_ret (v := .tuple #[.agg #[.slice A1 N1 C1], .slice S1 q cq, .slice R 0 cr, .slice P np cp]) (by simp [results, Tryz.results21, go_sem, c9]) rfl ⟨_, _, _, _, _, _, _, _, _, _, _, rs, _, _, _, ts, rfl, HI9.out, hN, HV9.out, HCAP.out, HSD.out, HR9.out, HCR.out, hr14, HT9.out, HCP.out, KW.out⟩
  have hn9 : (n7 : Int) > 0 := by omega
  have hn8 : (0 : Int) < (n7 : Int) := by omega
  obtain ⟨b, off, v, P2, np2, cp2, x1, x2, x3, x4, pl, rfl, hb1, hb2, e0, e1, e2, e3, e4, e5, htp, hx⟩ := hR.at_ h0
  clear e0 e2 e3 e4 e5 hx
  rw [Nat.zero_mul, Nat.add_zero] at e1
  by_cases h1 : 0 < np2
  rotate_left
  · skip
    obtain rfl : np2 = 0 := by omega
    have hm9 : ¬ ((0 : Nat) : Int) > 0 := by omega
    obtain ⟨P8, cp8, eq8, hcp8, hTT⟩ := hF.tabs (by omega) (by omega)
    injection eq8 with eq1 eq9 eq2
    subst eq1 eq2
    rw [hTL] at hTT hcp8
    have HCP := hid hcp8
    clear eq9 hcp8
    have HI9 := hid ((iG.fr (fr_one (p := w.heap.size) (i := 0) (.slice A1 N1 C1)) (by omega)).widen (lo' := w.heap.size) (hi' := (w3.setCell ⟨w.heap.size, 0, none⟩ (.slice A1 N1 C1)).heap.size) (by omega) (by simp [World.setCell]; omega) (Nat.le_refl _))
    have HV9 := hid (Sl.widen (lo' := w.heap.size) (hi' := (w3.setCell ⟨w.heap.size, 0, none⟩ (.slice A1 N1 C1)).heap.size) (Sl.fr iS (fr_one (p := w.heap.size) (i := 0) (.slice A1 N1 C1)) (by omega)) (by omega) (by simp [World.setCell]; omega) (Nat.le_refl _))
    have HR9 := hid (Rels.wide (lo' := w.heap.size) (hi' := (w3.setCell ⟨w.heap.size, 0, none⟩ (.slice A1 N1 C1)).heap.size) (hR.fr (fr_one (p := w.heap.size) (i := 0) (.slice A1 N1 C1)) (by omega)) (by omega) (by simp [World.setCell]; omega) (Nat.le_refl _))
    have HT9 := hid (Tabs.wide (lo' := w.heap.size) (hi' := (w3.setCell ⟨w.heap.size, 0, none⟩ (.slice A1 N1 C1)).heap.size) (hTT.fr (fr_one (p := w.heap.size) (i := 0) (.slice A1 N1 C1)) (by omega)) (by omega) (by simp [World.setCell]) (Nat.le_refl _))
    have KW := hid (Below.setCell kw (p := ⟨w.heap.size, 0, none⟩) (Nat.le_refl _) (.slice A1 N1 C1))
    have z9 := (b9.2 0 _ rfl).1
    have z1 := (b2.2 0 _ rfl).1
    have z2 := (b2.2 0 _ rfl).2
    have B2 := b2.set 0 (.slice A1 N1 C1)
    have c9 := (B2.2 0 _ rfl).1
    clear hF hTT hc b9 b2 iG iS hR kw B2 htp
    go_wp2_with fail
    clear z9 z1 z2
    try simp only [Exit.inBlock, Exit.then]
    exact bodyPost_ret (v := .tuple #[.agg #[.slice A1 N1 C1], .slice S1 q cq, .slice (some ⟨b, off, none⟩) n7 cr, .slice P np cp]) (by simp [results, Tryz.results21, go_sem, c9]) rfl ⟨_, _, _, _, _, _, _, _, _, _, _, rs, _, _, _, ts, rfl, HI9.out, hN, HV9.out, HCAP.out, HSD.out, HR9.out, HCR.out, hr14, HT9.out, HCP.out, KW.out⟩
  have hm9 : (np2 : Int) > 0 := by omega
  have hm8 : (0 : Int) < (np2 : Int) := by omega
  go_wp2_with fail
  refine (one_any hc (by omega) (by omega)).mono ?_
  rintro e w4 ⟨p, rfl, hc4, ff⟩
  have sw4 := ff.size
  replace kw : Keeps w w4 := below_fr kw kw.size (by omega) ff
  replace b2 := b2.fr ff (by omega)
  replace b9 := b9.fr ff (by omega)
  replace iG := iG.fr ff (by omega)
  replace iS := Sl.fr iS ff (by omega)
  replace hR := hR.fr ff (by omega)
  replace hF := hF.fr RwdT.ok ff (by omega)
  replace htp := htp.fr ff (by omega)
  replace e1 := (ff.cell (p := ⟨b, off + 1, none⟩) (by show b < _; omega) (by show b < _ ∨ _ ≤ b; omega)).trans e1
  clear hc ff
  have hc := hc4
  clear hc4
  cases p
  · skip
    obtain ⟨P8, cp8, eq8, hcp8, hTT⟩ := hF.tabs (by omega) (by omega)
    injection eq8 with eq1 eq9 eq2
    subst eq1 eq2
    rw [hTL] at hTT hcp8
    have HCP := hid hcp8
    clear eq9 hcp8
    have HI9 := hid ((iG.fr (fr_one (p := w.heap.size) (i := 0) (.slice A1 N1 C1)) (by omega)).widen (lo' := w.heap.size) (hi' := (w4.setCell ⟨w.heap.size, 0, none⟩ (.slice A1 N1 C1)).heap.size) (by omega) (by simp [World.setCell]; omega) (Nat.le_refl _))
    have HV9 := hid (Sl.widen (lo' := w.heap.size) (hi' := (w4.setCell ⟨w.heap.size, 0, none⟩ (.slice A1 N1 C1)).heap.size) (Sl.fr iS (fr_one (p := w.heap.size) (i := 0) (.slice A1 N1 C1)) (by omega)) (by omega) (by simp [World.setCell]; omega) (Nat.le_refl _))
    have HR9 := hid (Rels.wide (lo' := w.heap.size) (hi' := (w4.setCell ⟨w.heap.size, 0, none⟩ (.slice A1 N1 C1)).heap.size) (hR.fr (fr_one (p := w.heap.size) (i := 0) (.slice A1 N1 C1)) (by omega)) (by omega) (by simp [World.setCell]; omega) (Nat.le_refl _))
    have HT9 := hid (Tabs.wide (lo' := w.heap.size) (hi' := (w4.setCell ⟨w.heap.size, 0, none⟩ (.slice A1 N1 C1)).heap.size) (hTT.fr (fr_one (p := w.heap.size) (i := 0) (.slice A1 N1 C1)) (by omega)) (by omega) (by simp [World.setCell]) (Nat.le_refl _))
    have KW := hid (Below.setCell kw (p := ⟨w.heap.size, 0, none⟩) (Nat.le_refl _) (.slice A1 N1 C1))
    have z9 := (b9.2 0 _ rfl).1
    have z1 := (b2.2 0 _ rfl).1
    have z2 := (b2.2 0 _ rfl).2
    have B2 := b2.set 0 (.slice A1 N1 C1)
    have c9 := (B2.2 0 _ rfl).1
    clear hF hTT hc b9 b2 iG iS hR kw B2 htp e1
    go_wp2_with fail
    clear z9 z1 z2
    try simp only [Exit.inBlock, Exit.then]
    exact bodyPost_ret (v := .tuple #[.agg #[.slice A1 N1 C1], .slice S1 q cq, .slice (some ⟨b, off, none⟩) n7 cr, .slice P np cp]) (by simp [results, Tryz.results21, go_sem, c9]) rfl ⟨_, _, _, _, _, _, _, _, _, _, _, rs, _, _, _, ts, rfl, HI9.out, hN, HV9.out, HCAP.out, HSD.out, HR9.out, HCR.out, hr14, HT9.out, HCP.out, KW.out⟩
  obtain ⟨b', off', lu, V', n', c', H', m', d', su, us, xs, rfl, _, _, f0, f1, f2, f3, gv, gh, hx2⟩ := htp.at_ h1
  clear htp hx2
  rw [Nat.zero_mul, Nat.add_zero] at f0 f1 f2 f3
  have e1D : w4.drew.cell? ⟨b, off + 1, none⟩ = some (.slice (some ⟨b', off', none⟩) np2 cp2) := e1
  have f0D : w4.drew.cell? ⟨b', off', none⟩ = some (.int .i64 lu) := f0
  have f1D : w4.drew.cell? ⟨b', off' + 1, none⟩ = some (.slice V' n' c') := f1
  have f2D : w4.drew.cell? ⟨b', off' + 2, none⟩ = some (.slice H' m' d') := f2
  have f3D : w4.drew.cell? ⟨b', off' + 3, none⟩ = some (.int .i64 su) := f3
  have b9D := b9.keeps (keeps_d0 w4)
  have z9D : w4.drew.cell? ⟨w1.heap.size, 0, none⟩ = some (.slice A1 N1 C1) := (b9D.2 0 _ rfl).1
  have hcD := hc.keeps (keeps_d0 w4)
  have gvD := gv.keeps (keeps_d0 w4)
  have ghD := gh.keeps (keeps_d0 w4)
  have iSD := Sl.keeps iS (keeps_d0 w4)
  have hFD := hF.keeps RwdT.ok (keeps_d0 w4)
  have kwD := Keeps.trans kw (keeps_d0 w4)
  have HSDo := hid HSD.out
  have HLR := hid hFD.lt
  have sD : w4.drew.heap.size = w4.heap.size := rfl
  go_wp2_with fail
  go_region_law ((first | (refine step_below (a9 := N1) (c0 := C1) (c := cq) (A2 := A1) (lv := lu) (sm := su) (c1 := c') (c2 := d') hcD (by omega) gvD ghD iSD (by omega) HSDo.out rfl (by kernel_rfl) ?_; intro lv9 sm9 V9 cv9 H9 ch9 xs9 ys9 wB iV9 iH9 hcB fB; have sB : w4.heap.size ≤ wB.heap.size := fB.size; have hFB := hFD.fr RwdT.ok fB (by omega)) | (refine step_rowR (a0 := (lv9, xs9, ys9, sm9)) (x := w4.heap.size) (y := wB.heap.size) (new := [.int .i64 lv9, .slice V9 xs9.length cv9, .slice H9 ys9.length ch9, .int .i64 sm9]) HIT.out rfl (by decide) (by decide) RwdT.ok hFB (by omega) (by omega) rfl (fun y hy => by simp at hy; rcases hy with rfl | rfl | rfl | rfl <;> rfl) (by omega) (Nat.le_refl _) (fun g e => .inl (HLR.out g e).2) ⟨V9, cv9, H9, ch9, rfl, rfl, rfl, rfl, iV9, iH9⟩ _ _ rfl rfl Tryz.underlying44 rfl rfl ?_; intro v9 w9 cs9 L9 U9 hF9 hg9; obtain ⟨A9, CQ9, e9⟩ := hF9.has.form; obtain ⟨nt, hnt⟩ : ∃ x, (ts ++ [(lv9, xs9, ys9, sm9)]).length = x := ⟨_, rfl⟩; rw [hnt] at e9; subst e9)))
  all_goals (
    have KB := hFB.below (by omega) hg9
    have FB := hid (fr_belowB KB)
    have s9 : wB.heap.size ≤ w9.heap.size := KB.size
    have KW9 := hid (show Keeps w w9 from below_fr (below_fr kwD kwD.size (by omega) fB) (by omega) (by omega) FB.out)
    have HTS := hid (show (ts ++ [(lv9, xs9, ys9, sm9)]).length ≤ 22 by simp; omega)
    have B2 := hid (((b2.keeps (keeps_d0 w4)).fr fB (by omega)).fr FB.out (by omega))
    have B9 := hid ((b9D.fr fB (by omega)).fr FB.out (by omega))
    have IG := hid (((iG.keeps (keeps_d0 w4)).fr fB (by omega)).fr FB.out (by omega))
    have IS := hid (Sl.fr (Sl.fr iSD fB (by omega)) FB.out (by omega))
    have HR := hid (((hR.keeps (keeps_d0 w4)).fr fB (by omega)).fr FB.out (by omega))
    have HF := hid hF9
    clear b2 b9 iG iS hR hF hc kw e1 f0 f1 f2 f3 gv gh e1D f0D f1D f2D f3D b9D z9D hcD gvD ghD iSD hFD kwD iV9 iH9 hcB fB hFB hF9 hg9 KB FB
    have b2 := B2.out
    have b9 := B9.out
    have iG := IG.out
    have iS := IS.out
    have hR := HR.out
    have hF := HF.out
    have kw := KW9.out
    have hc := trivial
    clear B2 B9 IG IS HR HF KW9
    have h22 := HTS.out
    obtain ⟨P8, cp8, eq8, hcp8, hTT⟩ := hF.tabs (by omega) (by omega)
    injection eq8 with eq1 eq9 eq2
    subst eq1 eq2
    rw [hnt] at hTT hcp8
    have HCP := hid hcp8
    clear eq9 hcp8
    have HI9 := hid ((iG.fr (fr_one (p := w.heap.size) (i := 0) (.slice A1 N1 C1)) (by omega)).widen (lo' := w.heap.size) (hi' := (w9.setCell ⟨w.heap.size, 0, none⟩ (.slice A1 N1 C1)).heap.size) (by omega) (by simp [World.setCell]; omega) (Nat.le_refl _))
    have HV9 := hid (Sl.widen (lo' := w.heap.size) (hi' := (w9.setCell ⟨w.heap.size, 0, none⟩ (.slice A1 N1 C1)).heap.size) (Sl.fr iS (fr_one (p := w.heap.size) (i := 0) (.slice A1 N1 C1)) (by omega)) (by omega) (by simp [World.setCell]; omega) (Nat.le_refl _))
    have HR9 := hid (Rels.wide (lo' := w.heap.size) (hi' := (w9.setCell ⟨w.heap.size, 0, none⟩ (.slice A1 N1 C1)).heap.size) (hR.fr (fr_one (p := w.heap.size) (i := 0) (.slice A1 N1 C1)) (by omega)) (by omega) (by simp [World.setCell]; omega) (Nat.le_refl _))
    have HT9 := hid (Tabs.wide (lo' := w.heap.size) (hi' := (w9.setCell ⟨w.heap.size, 0, none⟩ (.slice A1 N1 C1)).heap.size) (hTT.fr (fr_one (p := w.heap.size) (i := 0) (.slice A1 N1 C1)) (by omega)) (by omega) (by simp [World.setCell]) (Nat.le_refl _))
    have KW := hid (Below.setCell kw (p := ⟨w.heap.size, 0, none⟩) (Nat.le_refl _) (.slice A1 N1 C1))
    have z9 := (b9.2 0 _ rfl).1
    have z1 := (b2.2 0 _ rfl).1
    have z2 := (b2.2 0 _ rfl).2
    have B2 := b2.set 0 (.slice A1 N1 C1)
    have c9 := (B2.2 0 _ rfl).1
    clear hF hTT hc b9 b2 iG iS hR kw B2
    go_wp2_with fail
    clear z9 z1 z2
    try simp only [Exit.inBlock, Exit.then]
    exact bodyPost_ret (v := .tuple #[.agg #[.slice A1 N1 C1], .slice S1 q cq, .slice (some ⟨b, off, none⟩) n7 cr, .slice A9 nt CQ9]) (by simp [results, Tryz.results21, go_sem, c9]) rfl ⟨_, _, _, _, _, _, _, _, _, _, _, rs, _, _, _, (ts ++ [(lv9, xs9, ys9, sm9)]), rfl, HI9.out, hN, HV9.out, HCAP.out, HSD.out, HR9.out, HCR.out, hr14, HT9.out, HCP.out, KW.out⟩)
set_option maxRecDepth 100000 in
set_option maxHeartbeats 12800000 in
theorem DrawHistoryText_any {A : Option Addr} {hi n c : Nat} {w : World} (hb : Bytes w hi A n) :
    Calls Tryz.prog 25 #[.slice A n c] w (DrawsHi w) := by
  go_enter Tryz.func25, Tryz.ntmps25
  have kw : Keeps w (w.alloc (.cells #[.slice none 0 0] 32)) := keeps_alloc w (.cells #[.slice none 0 0] 32)
  have b2 : Bl (w.alloc (.cells #[.slice none 0 0] 32)) w.heap.size [.slice none 0 0] := Bl.new' (by simp) (by simp)
  have hbW := hb.keeps kw
  have E0 := hid (show (w.alloc (.cells #[.slice none 0 0] 32)).heap.size = w.heap.size + 1 by simp)
  go_wp2_with fail
  refine (DrawIsHistory_any hbW).mono ?_
  rintro e w1 ⟨A1, N1, C1, ps, S1, q, cq, l, R, n7, cr, rs, rfl, iG, hN, iS, hcap, hSD, hR, hcr, hr14, kk⟩
  have sf1 := kk.size
  rw [E0.out] at iG iS hR sf1
  replace kw : Keeps w w1 := Keeps.trans kw kk
  replace b2 := b2.keeps kk
  have HSD := hid hSD
  have HCAP := hid hcap
  have HCR := hid hcr
  clear kk hSD hcap hcr E0 hbW
  have HI9 := hid ((iG.fr (fr_one (p := w.heap.size) (i := 0) (.slice A1 N1 C1)) (by omega)).widen (lo' := w.heap.size) (hi' := (w1.setCell ⟨w.heap.size, 0, none⟩ (.slice A1 N1 C1)).heap.size) (by omega) (by simp [World.setCell]) (Nat.le_refl _))
  have HV9 := hid (Sl.widen (lo' := w.heap.size) (hi' := (w1.setCell ⟨w.heap.size, 0, none⟩ (.slice A1 N1 C1)).heap.size) (Sl.fr iS (fr_one (p := w.heap.size) (i := 0) (.slice A1 N1 C1)) (by omega)) (by omega) (by simp [World.setCell]) (Nat.le_refl _))
  have HR9 := hid (Rels.wide (lo' := w.heap.size) (hi' := (w1.setCell ⟨w.heap.size, 0, none⟩ (.slice A1 N1 C1)).heap.size) (hR.fr (fr_one (p := w.heap.size) (i := 0) (.slice A1 N1 C1)) (by omega)) (by omega) (by simp [World.setCell]) (Nat.le_refl _))
  have KW := hid (Below.setCell kw (p := ⟨w.heap.size, 0, none⟩) (Nat.le_refl _) (.slice A1 N1 C1))
  have z1 := (b2.2 0 _ rfl).1
  have z2 := (b2.2 0 _ rfl).2
  have B2 := b2.set 0 (.slice A1 N1 C1)
  have c9 := (B2.2 0 _ rfl).1
  clear iG iS hR kw b2 B2
  go_wp2_with fail
  clear z1 z2
  try simp only [Exit.inBlock, Exit.then]
  exact bodyPost_ret (v := .tuple #[.agg #[.slice A1 N1 C1], .slice S1 q cq, .slice R n7 cr]) (by simp [results, Tryz.results25, go_sem, c9]) rfl ⟨_, _, _, _, _, _, _, _, _, _, _, rs, rfl, HI9.out, hN, HV9.out, HCAP.out, HSD.out, HR9.out, HCR.out, hr14, KW.out⟩
end Go.Proofs.YtlkjhkkfdmjfcaaGreatDoor
namespace Go.Proofs.YtlkjhkkfdmjfcaaGreatDoor
open Go.RowKit
set_option linter.unusedVariables false
set_option linter.unusedSimpArgs false
/-- The text of some bytes. -/
def bs (l : List UInt8) : ByteArray := ⟨l.toArray⟩
theorem ret_str {a b : ByteArray} (h : a = b) : Ending.returned (.string a) = .returned (.string b) := by rw [h]
theorem bs_app (a b : List UInt8) : bs a ++ bs b = bs (a ++ b) := by
  apply ByteArray.ext
  simp [bs, ByteArray.data_append]
theorem bs_size (l : List UInt8) : (bs l).size = l.length := by simp [bs, ByteArray.size]
theorem dec_len (n : Nat) (h : n ≤ 9223372036854775807) : (Lib.decDigits n).length ≤ 20 := by
  rw [Lib.decDigits_length]; exact Lib.nDigits_le20 n (by omega)
theorem str_one (x : Int) : strOfNums [x] = bs [UInt8.ofNat x.toNat] := by simp [strOfNums, bs]
/-- A call, in a region that draws its order. -/
theorem step_cl {W : World} {ops : Array Oper} {o : Oper} {a : Act} {K : Act → World → Prop} {Q : Exit → Act → World → Prop} {E : Prop} {f : FuncId} {args : Array Value} {u : Value} {R : World → Prop}
    (hc : Calls Tryz.prog f args W fun e w' => e = .returned u ∧ R w') (hgd : o.guard = none)
    (hrun : (execOp a.eval o).run Tryz.prog W = .ok (.enter f args) W)
    (h : ∀ w', R w' → K (a.put o.dst u) w') :
    if Region.wanted o (yielded ops a.tmps) = true then Oper.wp Tryz.prog o a W K Q else E := by
  have hw : Region.wanted o (yielded ops a.tmps) = true := by simp [Region.wanted, hgd]
  rw [if_pos hw]
  unfold Oper.wp
  rw [hrun, Oper.upon_enter]
  refine hc.mono fun e w' hh => ?_
  obtain ⟨rfl, hk⟩ := hh
  exact h w' hk
theorem new_u8 (w : World) (x : Int) : (w.alloc (.cells #[.int .u8 x] 5)).cell? ⟨w.heap.size, 0, none⟩ = some (.int .u8 x) := by
  rw [cell_of_row _ _ _ _ _ _ (heap_alloc_new _ _)]; rfl
theorem new_u8d (w : World) (x : Int) : (w.alloc (.cells #[.int .u8 x] 5)).drew.cell? ⟨w.heap.size, 0, none⟩ = some (.int .u8 x) := new_u8 w x
theorem cv_one {W : World} {g : Nat} {x : Int} (h : W.cell? ⟨g, 0, none⟩ = some (.int .u8 x)) : (convert 42 9 (.slice (some ⟨g, 0, none⟩) 1 1)).run Tryz.prog W = .ok (.string (bs [UInt8.ofNat x.toNat])) W := by
  have := run_convert_bytes_arg (P := Tryz.prog) W 42 5 Tryz.underlying42 Tryz.underlying5 g 0 1 1 [x] rfl (fun i hi => by
    obtain rfl : i = 0 := by omega
    exact h) 9 Tryz.underlying9
  rwa [str_one] at this
set_option maxRecDepth 100000 in
set_option maxHeartbeats 3200000 in
theorem l1Num_any : ∀ (n : Nat), n ≤ 4000000000 → ∀ w : World,
    Calls Tryz.prog 31 #[.int .i64 n] w fun e w' => e = .returned (.string (bs (Lib.decDigits n))) ∧ Keeps w w' := by
  intro n
  induction n using Nat.strongRecOn with
  | _ n ih =>
  intro hn w
  have IH := hid ih
  clear ih
  by_cases h : n < 10
  · have h1 : (n : Int) < 10 := by omega
    have HD := hid (Lib.decDigits_one h)
    have hcell : ∀ i, i < 1 → (w.alloc (.cells #[.int .u8 (48 + (n : Int))] 5)).cell? ⟨w.heap.size, 0 + i, none⟩ = some (.int .u8 ([48 + (n : Int)].getD i 0)) := by
      intro i hi
      obtain rfl : i = 0 := by omega
      rw [Nat.zero_add, cell_of_row _ _ _ _ _ _ (heap_alloc_new _ _)]
      rfl
    have HCV := hid (run_convert_bytes_arg (P := Tryz.prog) (w.alloc (.cells #[.int .u8 (48 + (n : Int))] 5)) 42 5 Tryz.underlying42 Tryz.underlying5 w.heap.size 0 1 1 [48 + (n : Int)] rfl hcell 9 Tryz.underlying9)
    clear hcell
    rw [str_one] at HCV
    have kw := keeps_alloc w (.cells #[.int .u8 (48 + (n : Int))] 5)
    go_enter Tryz.func31, Tryz.ntmps31
    go_wp2_with fail
    rw [HCV.out]
    go_wp2_with fail
    go_ret
    refine ⟨?_, kw⟩
    rw [HD.out]
    congr 3
  · have h1 : ¬ (n : Int) < 10 := by omega
    have HD : Hid (Lib.decDigits n = Lib.decDigits (n / 10) ++ [UInt8.ofNat (48 + n % 10)]) := by
      rw [Lib.decDigits, dif_neg h]; exact rfl
    obtain ⟨q, hq⟩ : ∃ q, n / 10 = q := ⟨_, rfl⟩
    obtain ⟨r, hr⟩ : ∃ r, n % 10 = r := ⟨_, rfl⟩
    rw [hq, hr] at HD
    have hlt : q < n := by omega
    have hq4 : q ≤ 4000000000 := by omega
    have hr10 : r < 10 := by omega
    have ht1 : (n : Int).tdiv 10 = (q : Int) := by rw [← hq]; exact (Int.ofNat_tdiv n 10).symm
    have ht2 : (n : Int).tmod 10 = (r : Int) := by rw [← hr]; exact (Int.ofNat_tmod n 10).symm
    have hw1 : IntKind.i64.wrap (q : Int) = (q : Int) := IntWalk.i64_in _ (by omega)
    have hw2 : IntKind.i64.wrap (r : Int) = (r : Int) := IntWalk.i64_in _ (by omega)
    have hw3 : IntKind.i64.wrap ((48 : Int) + (r : Int)) = (48 : Int) + (r : Int) := IntWalk.i64_in _ (by omega)
    have hw4 : IntKind.u8.wrap ((48 : Int) + (r : Int)) = (48 : Int) + (r : Int) := by simp [IntKind.wrap, IntKind.signed, IntKind.bits]; omega
    have hne : ¬ (10 : Int) = 0 := by omega
    have IHQ := hid (fun W => IH.out q hlt hq4 W)
    have hsz1 : (bs (Lib.decDigits q)).size ≤ 20 := by rw [bs_size]; exact dec_len q (by omega)
    have hsz2 : (bs [UInt8.ofNat ((48 : Int) + (r : Int)).toNat]).size = 1 := by rw [bs_size]; rfl
    obtain ⟨sA, hsA⟩ : ∃ s, bs (Lib.decDigits q) = s := ⟨_, rfl⟩
    obtain ⟨sB, hsB⟩ : ∃ s, bs [UInt8.ofNat ((48 : Int) + (r : Int)).toNat] = s := ⟨_, rfl⟩
    have HR := hid (show sA ++ sB = bs (Lib.decDigits n) by
      rw [← hsA, ← hsB, bs_app, HD.out]
      congr 3)
    rw [hsA] at hsz1 IHQ
    rw [hsB] at hsz2
    have HCV := hid (fun (W : World) (g : Nat) (hc : W.cell? ⟨g, 0, none⟩ = some (.int .u8 (48 + (r : Int)))) => cv_one hc)
    rw [hsB] at HCV
    clear IH HD hq hr hsA hsB hlt hq4
    have hz1 : ¬ (9223372036854775807 < sA.size + sB.size) := by omega
    have hz2 : sA.size + sB.size ≤ 9223372036854775807 := by omega
    clear hsz1 hsz2
    go_enter Tryz.func31, Tryz.ntmps31
    have kw := keeps_refl w
    go_wp2_with fail
    have hc1 := fun (W : World) => HCV.out _ W.heap.size (new_u8 W _)
    have hc2 := HCV.out _ w.heap.size (new_u8d w _)
    go_region_law ((first
      | (refine step_cl (IHQ.out _) rfl (by kernel_rfl) ?_; intro wB kB; try (have hc3 := HCV.out wB w.heap.size (cell_keeps (new_u8d w _) kB)))))
    all_goals (go_wp2_with fail; go_ret; exact ⟨ret_str HR.out, by first | exact (keeps_d kB).trans (keeps_alloc _ _) | exact keeps_ad kB⟩)
end Go.Proofs.YtlkjhkkfdmjfcaaGreatDoor
namespace Go.Proofs.YtlkjhkkfdmjfcaaGreatDoor
open Go.RowKit
set_option linter.unusedVariables false
set_option linter.unusedSimpArgs false
theorem schTo_row {l : List VV} : ∀ n k, schTo l n = true → k < n → schRow l k = true
  | 0, k, _, hk => absurd hk (by omega)
  | n + 1, k, h, hk => by
    unfold schTo at h
    simp only [Bool.and_eq_true] at h
    rcases Nat.lt_or_ge k n with h1 | h1
    · exact schTo_row n k h.1 h1
    · obtain rfl : k = n := by omega
      exact h.2
/-- The name of a variable. -/
def nmT (l : List VV) (j : Nat) : List UInt8 := (l.getD j v0).1.data.toList
theorem nmT_bs (l : List VV) (j : Nat) : (l.getD j v0).1 = bs (nmT l j) := by
  apply ByteArray.ext
  simp [bs, nmT]
theorem nmT_len {l : List VV} {j : Nat} (h : schB l = true) (hj : j < l.length) : (nmT l j).length ≤ 8 := by
  have hr : schRow l j = true := by
    unfold schB at h
    simp only [Bool.and_eq_true] at h
    exact schTo_row _ _ h.2 hj
  unfold schRow at hr
  simp only [Bool.and_eq_true] at hr
  have hw := hr.1.1
  unfold wordB at hw
  simp only [Bool.and_eq_true] at hw
  have := inB_true.1 hw.2
  have e : (nmT l j).length = (l.getD j v0).1.size := by unfold nmT; rw [Array.length_toList]; rfl
  omega
/-- A level is in a set. -/
def bitB (s : Int) (x : Nat) : Bool := bits BinOp.and IntKind.i64 (s / 2 ^ x) 1 == 1
theorem bitB_none {s : Int} {x : Nat} (h0 : 0 ≤ s) (h : ¬ 0 < s / 2 ^ x) : bitB s x = false := by
  have e : s / 2 ^ x = 0 := by
    have h3 := Int.ediv_nonneg h0 (show (0 : Int) ≤ 2 ^ x from Int.le_of_lt (Int.pow_pos (by omega)))
    exact Int.le_antisymm (Int.not_lt.1 h) h3
  unfold bitB
  rw [e]
  decide
theorem div_pow_le {s : Int} {k n : Nat} (h0 : 0 ≤ s) (h : ¬ 0 < s / 2 ^ k) (hn : k ≤ n) : ¬ 0 < s / 2 ^ n := by
  have h1 : s < 2 ^ k := by
    rcases Int.lt_or_le s (2 ^ k) with h2 | h2
    · exact h2
    · have h3 : 1 ≤ s / 2 ^ k := Int.le_ediv_of_mul_le (Int.pow_pos (by omega)) (by rw [Int.one_mul]; exact h2)
      exact absurd (show 0 < s / 2 ^ k from h3) h
  have h2 : (2 : Int) ^ k ≤ 2 ^ n := by
    have : (2 : Nat) ^ k ≤ 2 ^ n := Nat.pow_le_pow_right (by omega) hn
    exact_mod_cast this
  rw [Int.ediv_eq_zero_of_lt h0 (by omega)]
  omega
def bitsTo (s : Int) : Nat → List Nat
  | 0 => []
  | k + 1 => if bitB s k = true then bitsTo s k ++ [k] else bitsTo s k
theorem bitsTo_yes {s : Int} {k : Nat} (h : bitB s k = true) : bitsTo s (k + 1) = bitsTo s k ++ [k] := if_pos h
theorem bitsTo_no {s : Int} {k : Nat} (h : bitB s k = false) : bitsTo s (k + 1) = bitsTo s k := if_neg (by rw [h]; simp)
theorem bitsTo_len (s : Int) : ∀ k, (bitsTo s k).length ≤ k
  | 0 => Nat.le_refl _
  | k + 1 => by
    have := bitsTo_len s k
    unfold bitsTo; split
    · rw [List.length_append, List.length_singleton]; omega
    · omega
theorem bitsTo_lt (s : Int) : ∀ k x, x ∈ bitsTo s k → x < k
  | 0, x, h => absurd h (by simp [bitsTo])
  | k + 1, x, h => by
    unfold bitsTo at h; split at h
    · rcases List.mem_append.1 h with h | h
      · have := bitsTo_lt s k x h; omega
      · rw [List.mem_singleton.1 h]; omega
    · have := bitsTo_lt s k x h; omega
theorem bitsTo_stop {s : Int} {k : Nat} (h0 : 0 ≤ s) (h : ¬ 0 < s / 2 ^ k) : ∀ n, k ≤ n → bitsTo s n = bitsTo s k := by
  intro n
  induction n with
  | zero => intro hn; obtain rfl : k = 0 := by omega
            rfl
  | succ n ih =>
    intro hn
    rcases Nat.lt_or_ge k (n + 1) with h1 | h1
    · rw [bitsTo_no (bitB_none h0 (div_pow_le h0 h (by omega)))]; exact ih (by omega)
    · obtain rfl : k = n + 1 := by omega
      rfl
def digs (s : Int) (k : Nat) : List (List UInt8) := (bitsTo s k).map Lib.decDigits
def joinC (xs : List (List UInt8)) : List UInt8 := Lib.join xs [44]
theorem joinTail_snoc (sep : List UInt8) (r : List (List UInt8)) (y : List UInt8) : Lib.joinTail sep (r ++ [y]) = Lib.joinTail sep r ++ (sep ++ y) := by simp [Lib.joinTail]
theorem joinC_nil : joinC [] = [] := rfl
theorem joinC_one (x : List UInt8) : joinC [x] = x := Lib.join_one x [44]
theorem joinC_snoc {xs : List (List UInt8)} (h : xs ≠ []) (y : List UInt8) : joinC (xs ++ [y]) = joinC xs ++ ([44] ++ y) := by
  cases xs with
  | nil => exact absurd rfl h
  | cons x r =>
    unfold joinC
    rw [List.cons_append, Lib.join_cons, Lib.join_cons, joinTail_snoc, List.append_assoc]
theorem joinTail_len (m : Nat) : ∀ r : List (List UInt8), (∀ x ∈ r, x.length ≤ m) → (Lib.joinTail [44] r).length ≤ r.length * (m + 1)
  | [], _ => by simp [Lib.joinTail]
  | x :: r, h => by
    have h1 := joinTail_len m r (fun y hy => h y (List.mem_cons_of_mem _ hy))
    have h2 := h x List.mem_cons_self
    have e : Lib.joinTail [44] (x :: r) = [44] ++ x ++ Lib.joinTail [44] r := by simp [Lib.joinTail]
    rw [e, List.length_append, List.length_append, List.length_singleton, show (x :: r).length = r.length + 1 from rfl, Nat.succ_mul]
    omega
theorem joinC_len {m : Nat} {xs : List (List UInt8)} (h : ∀ x ∈ xs, x.length ≤ m) : (joinC xs).length ≤ xs.length * (m + 1) := by
  cases xs with
  | nil => simp [joinC_nil]
  | cons x r =>
    have h1 := joinTail_len m r (fun y hy => h y (List.mem_cons_of_mem _ hy))
    have h2 := h x List.mem_cons_self
    unfold joinC
    rw [Lib.join_cons, List.length_append, List.length_cons, Nat.succ_mul]
    omega
/-- The text of a set. -/
def setT (s : Int) : List UInt8 := joinC (digs s 8)
theorem digs_small (s : Int) {k : Nat} (hk : k ≤ 8) : ∀ x ∈ digs s k, x.length ≤ 1 := by
  intro x hx
  obtain ⟨j, hj, rfl⟩ := List.mem_map.1 hx
  have := bitsTo_lt s k j hj
  rw [Lib.decDigits_one (by omega)]; simp
theorem digs_len (s : Int) (k : Nat) : (digs s k).length ≤ k := by unfold digs; rw [List.length_map]; exact bitsTo_len s k
theorem joinC_digs (s : Int) {k : Nat} (hk : k ≤ 8) : (joinC (digs s k)).length ≤ 16 := by
  have h1 := joinC_len (digs_small s hk)
  have h2 := digs_len s k
  omega
theorem setT_len (s : Int) : (setT s).length ≤ 16 := joinC_digs s (Nat.le_refl _)
/-- The text of the conditions; whether there was one. -/
def wT (l : List VV) (ws : List Int) : Nat → List UInt8 × Bool
  | 0 => ([], false)
  | k + 1 => if ws.getD k 0 = 0 then wT l ws k else ((wT l ws k).1 ++ ((if (wT l ws k).2 = true then [] else [32, 119, 104, 101, 114, 101]) ++ ([32] ++ (nmT l k ++ ([61] ++ setT (ws.getD k 0))))), true)
theorem wT_no {l : List VV} {ws : List Int} {k : Nat} (h : ws.getD k 0 = 0) : wT l ws (k + 1) = wT l ws k := if_pos h
theorem wT_yes {l : List VV} {ws : List Int} {k : Nat} (h : ¬ ws.getD k 0 = 0) : wT l ws (k + 1) = ((wT l ws k).1 ++ ((if (wT l ws k).2 = true then [] else [32, 119, 104, 101, 114, 101]) ++ ([32] ++ (nmT l k ++ ([61] ++ setT (ws.getD k 0))))), true) := if_neg h
theorem wT_len {l : List VV} {ws : List Int} (h : schB l = true) : ∀ k, k ≤ l.length → (wT l ws k).1.length ≤ 40 * k
  | 0, _ => by simp [wT]
  | k + 1, hk => by
    have h1 := wT_len h (ws := ws) k (by omega)
    have h2 := nmT_len h (show k < l.length by omega)
    have h3 := setT_len (ws.getD k 0)
    unfold wT
    split
    · omega
    · have h4 : (if (wT l ws k).2 = true then ([] : List UInt8) else [32, 119, 104, 101, 114, 101]).length ≤ 6 := by split <;> simp
      simp only [List.length_append, List.length_cons, List.length_nil]
      omega
def hdT (l : List VV) (t : TT) : List UInt8 := if 0 ≤ t.2.2.2 then [115, 117, 109, 32] ++ nmT l t.2.2.2.toNat else [99, 111, 117, 110, 116]
def lvT (t : TT) : List UInt8 := [32, 108, 101, 118, 101, 108, 32] ++ Lib.decDigits t.1.toNat
def nms (l : List VV) (vs : List Int) : List (List UInt8) := vs.map fun v => nmT l v.toNat
def byT (l : List VV) (t : TT) : List UInt8 := if t.2.1.length = 0 then [] else [32, 98, 121, 32] ++ joinC (nms l t.2.1)
/-- The text of a table. -/
def tabT (l : List VV) (t : TT) : List UInt8 := hdT l t ++ (lvT t ++ (byT l t ++ (wT l t.2.2.1 t.2.2.1.length).1))
theorem lev_bd {ps : List Int} {lv : Int} (h : (lev ps lv).length ≠ 0) : 0 ≤ lv ∧ lv ≤ ps.length := by
  have h2 : 0 < (lev ps lv).length := by omega
  have hm : (lev ps lv)[0] ∈ levTo ps lv ps.length := List.getElem_mem h2
  obtain ⟨j, hj, _⟩ := List.mem_map.1 hm
  rw [List.mem_filter] at hj
  have e : (dep ps j : Int) = lv := by have := hj.2; unfold isAt at this; simpa using this
  have h3 := List.mem_range.1 hj.1
  have : ∀ f i, depF ps f i ≤ f := by
    intro f
    induction f with
    | zero => intro i; exact Nat.le_refl _
    | succ f ih => intro i; unfold depF; split
                   · omega
                   · have := ih (ps.getD i 0).toNat; omega
  have h4 := this j j
  unfold dep at e
  omega
theorem tab_bd {ps : List Int} {l : List VV} {t : TT} (hg : geoB ps = true) (ht : tabB ps l t = true) : 0 ≤ t.1 ∧ t.1 ≤ 30 := by
  have h1 := (tabB_parts ht).2.2.2.1
  have h2 := (geoB_true.1 hg).1
  by_cases h : (lev ps t.1).length = 0
  · rw [tabN_zero h] at h1; omega
  · have := lev_bd h; omega
theorem nms_len {l : List VV} {vs : List Int} (h : schB l = true) (hv : vsB l.length vs = true) : ∀ x ∈ nms l vs, x.length ≤ 8 := by
  intro x hx
  obtain ⟨v, hv1, rfl⟩ := List.mem_map.1 hx
  obtain ⟨j, hj, rfl⟩ := List.getElem_of_mem hv1
  have := vsB_at hv hj
  have e : vs.getD j 0 = vs[j] := by simp [List.getD, hj]
  rw [e] at this
  exact nmT_len h (by omega)
theorem joinC_nms {l : List VV} {vs : List Int} (h : schB l = true) (hv : vsB l.length vs = true) (k : Nat) : (joinC ((nms l vs).take k)).length ≤ 54 := by
  have h1 := joinC_len (m := 8) (xs := (nms l vs).take k) (fun x hx => nms_len h hv x (List.mem_of_mem_take hx))
  have h2 := vsB_len hv
  have h3 := (schB_lv rfl h).2.2
  have h4 : ((nms l vs).take k).length ≤ vs.length := by rw [List.length_take]; unfold nms; rw [List.length_map]; omega
  omega
theorem tabT_len {ps : List Int} {l : List VV} {t : TT} (hg : geoB ps = true) (h : schB l = true) (ht : tabB ps l t = true) : (tabT l t).length ≤ 400 := by
  have hp := tabB_parts ht
  have h3 := (schB_lv rfl h).2
  have h1 : (hdT l t).length ≤ 12 := by
    unfold hdT; split
    · have := nmT_len h (j := t.2.2.2.toNat) (by omega)
      simp only [List.length_append, List.length_cons, List.length_nil]; omega
    · simp
  have h2 : (lvT t).length ≤ 27 := by
    have := tab_bd hg ht
    have := dec_len t.1.toNat (by omega)
    unfold lvT; simp only [List.length_append, List.length_cons, List.length_nil]; omega
  have h4 : (byT l t).length ≤ 58 := by
    have h5 := joinC_nms h hp.1 (nms l t.2.1).length
    rw [List.take_length] at h5
    unfold byT; split
    · simp
    · simp only [List.length_append, List.length_cons, List.length_nil]; omega
  have h6 := (whB_at hp.2.1 (k := 0) (by omega)).1
  have h7 := wT_len (ws := t.2.2.1) h t.2.2.1.length (by omega)
  unfold tabT
  simp only [List.length_append]
  omega
def planTo (l : List VV) (ts : List TT) : Nat → List UInt8
  | 0 => []
  | k + 1 => planTo l ts k ++ (tabT l (ts.getD k t0) ++ [10])
theorem planTo_len {ps : List Int} {l : List VV} {ts : List TT} (hg : geoB ps = true) (h : schB l = true) (ht : plB ps l ts = true) : ∀ k, k ≤ ts.length → (planTo l ts k).length ≤ 401 * k
  | 0, _ => by simp [planTo]
  | k + 1, hk => by
    have h1 := planTo_len hg h ht k (by omega)
    have h2 := tabT_len hg h ((plB_at ht).2 k (by omega))
    unfold planTo
    simp only [List.length_append, List.length_cons, List.length_nil]
    omega
/-- The text of a fraction. -/
def fracT (a b : Int) : List UInt8 := if b = 1 then Lib.itoa a else Lib.itoa a ++ ([47] ++ Lib.itoa b)
theorem fracT_len {a b : Int} (ha : -9223372036854775808 ≤ a ∧ a ≤ 9223372036854775807) (hb : -9223372036854775808 ≤ b ∧ b ≤ 9223372036854775807) : (fracT a b).length ≤ 43 := by
  have h1 := Lib.itoa_length_le a ha.1 ha.2
  have h2 := Lib.itoa_length_le b hb.1 hb.2
  unfold fracT; split
  · omega
  · simp only [List.length_append, List.length_cons, List.length_nil]; omega
/-- The text of a release. -/
def relT (l : List VV) (r : RL) : List UInt8 := [118, 101, 114, 115, 105, 111, 110, 32] ++ (Lib.itoa r.1 ++ ([32] ++ (fracT r.2.2.1 r.2.2.2.1 ++ ([32] ++ (fracT r.2.2.2.2.1 r.2.2.2.2.2 ++ ([10] ++ planTo l r.2.1 r.2.1.length))))))
theorem relT_len {ps : List Int} {l : List VV} {r : RL} (hg : geoB ps = true) (h : schB l = true) (hr : relB ps l r = true) : (relT l r).length ≤ 8200 := by
  unfold relB at hr
  simp only [Bool.and_eq_true] at hr
  have h1 := inB_true.1 hr.1.1
  have h2 := hr.2
  unfold lossB at h2
  simp only [Bool.and_eq_true] at h2
  have h8 := fracB_true.1 h2.1.1
  have h9 := fracB_true.1 h2.1.2
  have h3 := (plB_at hr.1.2).1
  have h4 := planTo_len hg h hr.1.2 r.2.1.length (Nat.le_refl _)
  have h5 := Lib.itoa_length_le r.1 (by omega) (by omega)
  have h6 := fracT_len (a := r.2.2.1) (b := r.2.2.2.1) (by omega) (by omega)
  have h7 := fracT_len (a := r.2.2.2.2.1) (b := r.2.2.2.2.2) (by omega) (by omega)
  unfold relT
  simp only [List.length_append, List.length_cons, List.length_nil]
  omega
def hisT (l : List VV) (rs : List RL) : Nat → List UInt8
  | 0 => []
  | k + 1 => hisT l rs k ++ relT l (rs.getD k rl0)
theorem hisT_len {ps : List Int} {l : List VV} {rs : List RL} (h : hisB ps l rs = true) : ∀ k, k ≤ rs.length → (hisT l rs k).length ≤ 8200 * k
  | 0, _ => by simp [hisT]
  | k + 1, hk => by
    have hp := hisB_parts h
    have h1 := hisT_len h k (by omega)
    have h2 := relT_len hp.1 hp.2.1 (hp.2.2.2 k (by omega)).2
    unfold hisT
    simp only [List.length_append]
    omega
/-- What HistoryText says. -/
def htQ (ps : List Int) (l : List VV) (rs : List RL) : ByteArray × Bool := if hisB ps l rs = true then (bs (hisT l rs rs.length), true) else (bs [], false)
theorem htQ_no {ps : List Int} {l : List VV} {rs : List RL} (h : hisB ps l rs = false) : htQ ps l rs = (bs [], false) := if_neg (by rw [h]; simp)
theorem htQ_yes {ps : List Int} {l : List VV} {rs : List RL} (h : hisB ps l rs = true) : htQ ps l rs = (bs (hisT l rs rs.length), true) := if_pos h
end Go.Proofs.YtlkjhkkfdmjfcaaGreatDoor
namespace Go.Proofs
open Go.Shelf
def Tryz.lays169_ren : Go.Shelf.Ren := ⟨fun | 169 => 41 | n => n, fun | 70 => 85 | 9 => 9 | 0 => 0 | 72 => 87 | 37 => 42 | 127 => 119 | 3 => 3 | 5 => 5 | n => n, fun | n => n⟩
theorem Tryz.lays169 : Go.Proofs.Lays.n169 Tryz.prog Tryz.lays169_ren := {
  mixed := by kernel_rfl
  f169 := Tryz.func41.trans (congrArg some (by kernel_rfl))
  t0 := Tryz.underlying0
  a0 := Tryz.isAgg0
  z0 := Tryz.sizeOf0
  v0 := Tryz.zeroValue0
  t3 := Tryz.underlying3
  a3 := Tryz.isAgg3
  z3 := Tryz.sizeOf3
  v3 := Tryz.zeroValue3
  t9 := Tryz.underlying9
  a9 := Tryz.isAgg9
  z9 := Tryz.sizeOf9
  v9 := Tryz.zeroValue9
  t37 := Tryz.underlying42
  a37 := Tryz.isAgg42
  z37 := Tryz.sizeOf42
  v37 := Tryz.zeroValue42
  t70 := Tryz.underlying85
  a70 := Tryz.isAgg85
  z70 := Tryz.sizeOf85
  v70 := Tryz.zeroValue85
  t72 := Tryz.underlying87
  a72 := Tryz.isAgg87
  z72 := Tryz.sizeOf87
  v72 := Tryz.zeroValue87
  t127 := Tryz.underlying119
  a127 := Tryz.isAgg119
  z127 := Tryz.sizeOf119
  v127 := Tryz.zeroValue119 }
theorem Tryz.Builder_Extra_169 : Builder.Extra Tryz.prog Tryz.lays169_ren := {
  sizeBuilder := by kernel_rfl
  liesBuilder := by kernel_rfl
  t5 := Tryz.underlying5
  a5 := Tryz.isAgg5
  z5 := Tryz.sizeOf5
  v5 := Tryz.zeroValue5
  infoByte := by kernel_rfl
  cellsByte := by kernel_rfl
  sizeByte := by kernel_rfl
  neB5 := by decide }
def Tryz.lays156_ren : Go.Shelf.Ren := ⟨fun | 156 => 106 | 165 => 148 | 166 => 37 | 169 => 41 | 240 => 68 | 241 => 169 | 276 => 103 | 277 => 178 | n => n, fun | 31 => 151 | 9 => 9 | 3 => 3 | 4 => 4 | 0 => 0 | 20 => 20 | 72 => 87 | 76 => 90 | 70 => 85 | 37 => 42 | 75 => 89 | 127 => 119 | 164 => 147 | 5 => 5 | 80 => 93 | n => n, fun | n => n⟩
theorem Tryz.lays156 : Go.Proofs.Lays.n156 Tryz.prog Tryz.lays156_ren := {
  mixed := by kernel_rfl
  f156 := Tryz.func106.trans (congrArg some (by kernel_rfl))
  f165 := Tryz.func148.trans (congrArg some (by kernel_rfl))
  f166 := Tryz.func37.trans (congrArg some (by kernel_rfl))
  f169 := Tryz.func41.trans (congrArg some (by kernel_rfl))
  f240 := Tryz.func68.trans (congrArg some (by kernel_rfl))
  f241 := Tryz.func169.trans (congrArg some (by kernel_rfl))
  f276 := Tryz.func103.trans (congrArg some (by kernel_rfl))
  f277 := Tryz.func178.trans (congrArg some (by kernel_rfl))
  t0 := Tryz.underlying0
  a0 := Tryz.isAgg0
  z0 := Tryz.sizeOf0
  v0 := Tryz.zeroValue0
  t3 := Tryz.underlying3
  a3 := Tryz.isAgg3
  z3 := Tryz.sizeOf3
  v3 := Tryz.zeroValue3
  t4 := Tryz.underlying4
  a4 := Tryz.isAgg4
  z4 := Tryz.sizeOf4
  v4 := Tryz.zeroValue4
  t9 := Tryz.underlying9
  a9 := Tryz.isAgg9
  z9 := Tryz.sizeOf9
  v9 := Tryz.zeroValue9
  t20 := Tryz.underlying20
  a20 := Tryz.isAgg20
  z20 := Tryz.sizeOf20
  v20 := Tryz.zeroValue20
  t31 := Tryz.underlying151
  a31 := Tryz.isAgg151
  z31 := Tryz.sizeOf151
  v31 := Tryz.zeroValue151
  t37 := Tryz.underlying42
  a37 := Tryz.isAgg42
  z37 := Tryz.sizeOf42
  v37 := Tryz.zeroValue42
  t70 := Tryz.underlying85
  a70 := Tryz.isAgg85
  z70 := Tryz.sizeOf85
  v70 := Tryz.zeroValue85
  t72 := Tryz.underlying87
  a72 := Tryz.isAgg87
  z72 := Tryz.sizeOf87
  v72 := Tryz.zeroValue87
  t75 := Tryz.underlying89
  a75 := Tryz.isAgg89
  z75 := Tryz.sizeOf89
  v75 := Tryz.zeroValue89
  t76 := Tryz.underlying90
  a76 := Tryz.isAgg90
  z76 := Tryz.sizeOf90
  v76 := Tryz.zeroValue90
  t127 := Tryz.underlying119
  a127 := Tryz.isAgg119
  z127 := Tryz.sizeOf119
  v127 := Tryz.zeroValue119
  t164 := Tryz.underlying147
  a164 := Tryz.isAgg147
  z164 := Tryz.sizeOf147
  v164 := Tryz.zeroValue147 }
theorem Tryz.Builder_Extra_156 : Builder.Extra Tryz.prog Tryz.lays156_ren := {
  sizeBuilder := by kernel_rfl
  liesBuilder := by kernel_rfl
  t5 := Tryz.underlying5
  a5 := Tryz.isAgg5
  z5 := Tryz.sizeOf5
  v5 := Tryz.zeroValue5
  infoByte := by kernel_rfl
  cellsByte := by kernel_rfl
  sizeByte := by kernel_rfl
  neB5 := by decide }
theorem Tryz.lays166 : Go.Proofs.Lays.n166 Tryz.prog Tryz.lays156_ren := {
  mixed := Tryz.lays156.mixed
  f166 := Tryz.lays156.f166
  f240 := Tryz.lays156.f240
  f276 := Tryz.lays156.f276
  t0 := Tryz.lays156.t0
  a0 := Tryz.lays156.a0
  z0 := Tryz.lays156.z0
  v0 := Tryz.lays156.v0
  t3 := Tryz.lays156.t3
  a3 := Tryz.lays156.a3
  z3 := Tryz.lays156.z3
  v3 := Tryz.lays156.v3
  t4 := Tryz.lays156.t4
  a4 := Tryz.lays156.a4
  z4 := Tryz.lays156.z4
  v4 := Tryz.lays156.v4
  t9 := Tryz.lays156.t9
  a9 := Tryz.lays156.a9
  z9 := Tryz.lays156.z9
  v9 := Tryz.lays156.v9
  t20 := Tryz.lays156.t20
  a20 := Tryz.lays156.a20
  z20 := Tryz.lays156.z20
  v20 := Tryz.lays156.v20
  t37 := Tryz.lays156.t37
  a37 := Tryz.lays156.a37
  z37 := Tryz.lays156.z37
  v37 := Tryz.lays156.v37
  t70 := Tryz.lays156.t70
  a70 := Tryz.lays156.a70
  z70 := Tryz.lays156.z70
  v70 := Tryz.lays156.v70
  t72 := Tryz.lays156.t72
  a72 := Tryz.lays156.a72
  z72 := Tryz.lays156.z72
  v72 := Tryz.lays156.v72
  t75 := Tryz.lays156.t75
  a75 := Tryz.lays156.a75
  z75 := Tryz.lays156.z75
  v75 := Tryz.lays156.v75
  t164 := Tryz.lays156.t164
  a164 := Tryz.lays156.a164
  z164 := Tryz.lays156.z164
  v164 := Tryz.lays156.v164 }
def Tryz.laysM171_ren : Go.Shelf.Ren := ⟨fun | 171 => 38 | 243 => 69 | 246 => 104 | 283 => 143 | 284 => 144 | 285 => 145 | 286 => 146 | 129 => 165 | 317 => 164 | 318 => 166 | 319 => 167 | 320 => 168 | 337 => 176 | 338 => 177 | n => n, fun | 3 => 3 | 9 => 9 | 2 => 2 | 4 => 4 | 171 => 176 | 0 => 0 | 53 => 97 | 37 => 42 | 5 => 5 | 173 => 179 | 212 => 189 | 51 => 190 | 20 => 20 | 213 => 191 | 46 => 137 | 232 => 199 | 233 => 200 | n => n, fun | 17 => 0 | 18 => 1 | 19 => 2 | n => n⟩
theorem Tryz.laysM171 : Go.Proofs.LaysM.n171 Tryz.prog Tryz.laysM171_ren := {
  mixed := by kernel_rfl
  f129 := Tryz.func165.trans (congrArg some (by kernel_rfl))
  f171 := Tryz.func38.trans (congrArg some (by kernel_rfl))
  f243 := Tryz.func69.trans (congrArg some (by kernel_rfl))
  f246 := Tryz.func104.trans (congrArg some (by kernel_rfl))
  f283 := Tryz.func143.trans (congrArg some (by kernel_rfl))
  f284 := Tryz.func144.trans (congrArg some (by kernel_rfl))
  f285 := Tryz.func145.trans (congrArg some (by kernel_rfl))
  f286 := Tryz.func146.trans (congrArg some (by kernel_rfl))
  f317 := Tryz.func164.trans (congrArg some (by kernel_rfl))
  f318 := Tryz.func166.trans (congrArg some (by kernel_rfl))
  f319 := Tryz.func167.trans (congrArg some (by kernel_rfl))
  f320 := Tryz.func168.trans (congrArg some (by kernel_rfl))
  f337 := Tryz.func176.trans (congrArg some (by kernel_rfl))
  f338 := Tryz.func177.trans (congrArg some (by kernel_rfl))
  t0 := Tryz.underlying0
  a0 := Tryz.isAgg0
  z0 := Tryz.sizeOf0
  v0 := Tryz.zeroValue0
  t2 := Tryz.underlying2
  a2 := Tryz.isAgg2
  z2 := Tryz.sizeOf2
  v2 := Tryz.zeroValue2
  t3 := Tryz.underlying3
  a3 := Tryz.isAgg3
  z3 := Tryz.sizeOf3
  v3 := Tryz.zeroValue3
  t4 := Tryz.underlying4
  a4 := Tryz.isAgg4
  z4 := Tryz.sizeOf4
  v4 := Tryz.zeroValue4
  t5 := Tryz.underlying5
  a5 := Tryz.isAgg5
  z5 := Tryz.sizeOf5
  v5 := Tryz.zeroValue5
  t9 := Tryz.underlying9
  a9 := Tryz.isAgg9
  z9 := Tryz.sizeOf9
  v9 := Tryz.zeroValue9
  t20 := Tryz.underlying20
  a20 := Tryz.isAgg20
  z20 := Tryz.sizeOf20
  v20 := Tryz.zeroValue20
  t37 := Tryz.underlying42
  a37 := Tryz.isAgg42
  z37 := Tryz.sizeOf42
  v37 := Tryz.zeroValue42
  t46 := Tryz.underlying137
  a46 := Tryz.isAgg137
  z46 := Tryz.sizeOf137
  v46 := Tryz.zeroValue137
  t51 := Tryz.underlying190
  a51 := Tryz.isAgg190
  z51 := Tryz.sizeOf190
  v51 := Tryz.zeroValue190
  t53 := Tryz.underlying97
  a53 := Tryz.isAgg97
  z53 := Tryz.sizeOf97
  v53 := Tryz.zeroValue97
  t171 := Tryz.underlying176
  a171 := Tryz.isAgg176
  z171 := Tryz.sizeOf176
  v171 := Tryz.zeroValue176
  t173 := Tryz.underlying179
  a173 := Tryz.isAgg179
  z173 := Tryz.sizeOf179
  v173 := Tryz.zeroValue179
  t212 := Tryz.underlying189
  a212 := Tryz.isAgg189
  z212 := Tryz.sizeOf189
  v212 := Tryz.zeroValue189
  t213 := Tryz.underlying191
  a213 := Tryz.isAgg191
  z213 := Tryz.sizeOf191
  t232 := Tryz.underlying199
  a232 := Tryz.isAgg199
  z232 := Tryz.sizeOf199
  v232 := Tryz.zeroValue199
  t233 := Tryz.underlying200
  a233 := Tryz.isAgg200
  z233 := Tryz.sizeOf200
  v233 := Tryz.zeroValue200
  g17 := by kernel_rfl
  g18 := by kernel_rfl
  g19 := by kernel_rfl
  i0 := by kernel_rfl
  i2 := by kernel_rfl
  i3 := by kernel_rfl
  i4 := by kernel_rfl
  i5 := by kernel_rfl
  i9 := by kernel_rfl
  i20 := by kernel_rfl
  i37 := by kernel_rfl
  i46 := by kernel_rfl
  i51 := by kernel_rfl
  i53 := by kernel_rfl
  i171 := by kernel_rfl
  i173 := by kernel_rfl
  i212 := by kernel_rfl
  i232 := by kernel_rfl
  i233 := by kernel_rfl
  m17 := by kernel_rfl
  m18 := by kernel_rfl
  m19 := by kernel_rfl }
end Go.Proofs
namespace Go.Proofs.YtlkjhkkfdmjfcaaGreatDoor
open Go.RowKit
set_option linter.unusedVariables false
/-- strconv.Itoa. -/
theorem itoa_any {n : Int} (h0 : -9223372036854775808 ≤ n) (h1 : n ≤ 9223372036854775807) {w : World} (htab : Lib.TabIs Tryz.prog w "internal/strconv.uint64pow10" .u64 Lib.pow10Tab) :
    Calls Tryz.prog 38 #[.int .i64 n] w fun e w' => e = .returned (.string ⟨(Lib.itoa n).toArray⟩) ∧ ∃ k os, w' = Sort.grow (w.drewN k) os := Any.strconv_Itoa Tryz.laysM171 n h0 h1 w htab
/-- strings.Join of no element. -/
theorem join_none {a : Option Addr} {c : Nat} {sep : ByteArray} {w : World} :
    Calls Tryz.prog 106 #[.slice a 0 c, .string sep] w fun e w' => e = .returned (.string ⟨#[]⟩) ∧ w' = w := Any.strings_Join_none Tryz.lays156 Tryz.Builder_Extra_156 a c sep w
/-- strings.Join. -/
theorem join_any {bk o c : Nat} {xs : List ByteArray} {sep : ByteArray} {w : World} (hcells : ∀ (j : Nat) x, xs[j]? = some x → w.cell? ⟨bk, o + j, none⟩ = some (.string x)) (hbk : bk < w.heap.size) (hN : xs.length ≤ 140737488355328) (hcap : xs.length ≤ c) (hlen : (Lib.join (xs.map (·.data.toList)) sep.data.toList).length ≤ 140737488355328) :
    Calls Tryz.prog 106 #[.slice (some ⟨bk, o, none⟩) xs.length c, .string sep] w fun e w' => e = .returned (.string ⟨(Lib.join (xs.map (·.data.toList)) sep.data.toList).toArray⟩) ∧ Below w.heap.size w w' := Any.strings_Join Tryz.lays156 Tryz.Builder_Extra_156 bk o c xs sep w hcells hbk hN hcap hlen
/-- (*strings.Builder).WriteString. -/
theorem write_any {B b : Nat} {vs : List Value} {s : ByteArray} {w : World} (h : Lib.IsBuilderF 87 5 B b vs w) (hlen : vs.length + s.size ≤ 140737488355328) (hBw : B ≤ w.heap.size) :
    Calls Tryz.prog 37 #[.pointer (some ⟨b, 0, none⟩), .string s] w fun e w' => e = .returned (.tuple #[.int .i64 s.size, .nilIface]) ∧ (Lib.BuilderAtF 87 5 B b (.pointer (some ⟨b, 0, none⟩)) (vs ++ Lib.strCells s) w' ∧ Below B w w' ∧ Lib.OthersKept 5 (some b) w w') := Any.Builder_WriteString_k Tryz.lays166 Tryz.Builder_Extra_156 B b vs s w h hlen hBw
/-- (*strings.Builder).String. -/
theorem string_any {B b : Nat} {l : List UInt8} {w : World} (h : Lib.IsBuilderF 87 5 B b (Lib.byteCells l) w) (hBw : B ≤ w.heap.size) :
    Calls Tryz.prog 41 #[.pointer (some ⟨b, 0, none⟩)] w fun e w' => e = .returned (.string ⟨l.toArray⟩) ∧ (Lib.IsBuilderF 87 5 B b (Lib.byteCells l) w' ∧ Below B w w' ∧ Lib.OthersKept 5 (some b) w w') := Any.Builder_String_any_k Tryz.lays169 Tryz.Builder_Extra_169 B b l w h hBw
end Go.Proofs.YtlkjhkkfdmjfcaaGreatDoor
namespace Go.Proofs.YtlkjhkkfdmjfcaaGreatDoor
open Go.RowKit
set_option linter.unusedVariables false
set_option linter.unusedSimpArgs false
def lvI (s : Int) (k : Nat) : List Int := (bitsTo s k).map fun x : Nat => (x : Int)
theorem lvI_yes {s : Int} {k : Nat} (h : bitB s k = true) : lvI s (k + 1) = lvI s k ++ [(k : Int)] := by unfold lvI; rw [bitsTo_yes h]; simp
theorem lvI_no {s : Int} {k : Nat} (h : bitB s k = false) : lvI s (k + 1) = lvI s k := by unfold lvI; rw [bitsTo_no h]
theorem lvI_len (s : Int) (k : Nat) : (lvI s k).length ≤ k := by unfold lvI; rw [List.length_map]; exact bitsTo_len s k
theorem lvI_stop {s : Int} {k : Nat} (h0 : 0 ≤ s) (hk : k ≤ 8) (h : ¬ 0 < s / 2 ^ k) : lvI s 8 = lvI s k := by unfold lvI; rw [bitsTo_stop h0 h 8 hk]
theorem digs_yes {s : Int} {k : Nat} (h : bitB s k = true) : digs s (k + 1) = digs s k ++ [Lib.decDigits k] := by unfold digs; rw [bitsTo_yes h]; simp
theorem digs_no {s : Int} {k : Nat} (h : bitB s k = false) : digs s (k + 1) = digs s k := by unfold digs; rw [bitsTo_no h]
/-- Strings of one's own. -/
abbrev HasS (w : World) (B : Nat) (v : Value) (xs : List (List UInt8)) : Prop := Has w B 9 1 v xs.length (xs.map fun d => Value.string (bs d))
theorem info_str : (Tryz.prog.info? 9).map (fun i => (i.zero, i.size, i.bytes)) = some (some (.string { data := #[] }), 1, 16) := by kernel_rfl
theorem append_str {w0 : World} {ops : Array Oper} {rest : List Oper} {o : Oper} {a : Act} {Q : Exit → Act → World → Prop} {B : Nat} {v : Value} {xs : List (List UInt8)} {s : ByteArray} (d : List UInt8) (hd : s = bs d)
    (hown : HasS w0 B v xs) (hn : xs.length ≤ 67108864) (hB : B ≤ w0.heap.size)
    (r x : Operand) (hgd : o.guard = none)
    (ho : o.op = .call { callee := .builtin .append, args := #[r, x], argTypes := #[151, 151] })
    (hs : a.eval r = v) (hx : a.eval x = .slice (some ⟨w0.heap.size, 0, none⟩) 1 1)
    (h : ∀ v' w', HasS w' B v' (xs ++ [d]) → Below B w0 w' → wpList Tryz.prog ops Q rest (a.put o.dst v') w') : wpList Tryz.prog ops Q (o :: rest) a (w0.alloc (.cells #[.string s] 9)) :=
  append_one (cs := [.string s]) hown rfl info_str rfl (by omega) r x 151 hgd ho Tryz.underlying151 hs hx (fun y hy => by simp at hy; subst hy; rfl) hn (by omega) hB (fun v' w' h2 h3 => h v' w' (by
    subst hd
    have e : (xs ++ [d]).map (fun d => Value.string (bs d)) = xs.map (fun d => Value.string (bs d)) ++ [.string (bs d)] := by simp
    unfold HasS
    rw [e, List.length_append, List.length_singleton]
    exact h2) h3)
/-- Strings of one's own, joined by commas. -/
theorem join_own {w : World} {B m : Nat} {v : Value} {xs : List (List UInt8)} (hown : HasS w B v xs) (hB : B ≤ w.heap.size) (hn : xs.length ≤ 67108864) (hm : ∀ x ∈ xs, x.length ≤ m) (hm2 : m ≤ 1000) :
    ∃ A c, v = .slice A xs.length c ∧ Calls Tryz.prog 106 #[.slice A xs.length c, .string { data := #[44] }] w fun e w' => e = .returned (.string (bs (joinC xs))) ∧ Keeps w w' := by
  obtain ⟨A, c, rfl⟩ := hown.form
  refine ⟨A, c, rfl, ?_⟩
  by_cases h0 : xs = []
  · subst h0
    exact join_none.mono fun e w' ⟨he, hw⟩ => ⟨he, hw ▸ keeps_refl _⟩
  · have hl : 0 < xs.length := by cases xs with | nil => exact absurd rfl h0 | cons x r => simp
    rcases hown.2 with ⟨h3, h4⟩ | ⟨g, cap, cur, hv, hb, hg, hcap, hmax, hsz, htk⟩
    · omega
    · injection hv with e1 e2 e3
      subst e1 e3
      have hlen := joinC_len hm
      have e4 : (xs.map bs).length = xs.length := List.length_map _
      have e5 : ((xs.map bs).map (·.data.toList)) = xs := by rw [List.map_map]; exact (List.map_congr_left (fun a _ => by simp [bs])).trans (List.map_id _)
      have key := join_any (bk := g) (o := 0) (c := c) (xs := xs.map bs) (sep := { data := #[44] }) (w := w) (fun j x hj => by
        have hx : (xs.map fun d => Value.string (bs d))[j]? = some (.string x) := by
          rw [List.getElem?_map] at hj ⊢
          cases e6 : xs[j]? with
          | none => rw [e6] at hj; cases hj
          | some d => rw [e6] at hj; simp at hj; subst hj; rfl
        have := hown.cells (g := g) rfl j _ hx
        rwa [Addr.add_lit] at this) ((hown.lt g rfl).2) (by rw [e4]; omega) (by rw [e4]; exact hcap) (by
          rw [e5]
          show (joinC xs).length ≤ _
          have h7 : xs.length * (m + 1) ≤ 67108864 * 1001 := Nat.mul_le_mul hn (by omega)
          omega)
      rw [e4, e5] at key
      exact key
/-- The levels of a set, gathered. -/
def EvRes (w : World) (s : Int) (e : Ending) (w' : World) : Prop := ∃ A c, e = .returned (.slice A (lvI s 8).length c) ∧ Ints w' w.heap.size w'.heap.size A (lvI s 8).length (lvI s 8) ∧ Keeps w w'
set_option maxRecDepth 100000 in
set_option maxHeartbeats 6400000 in
theorem eLevels_any {s : Int} {w : World} (h : 0 ≤ s ∧ s ≤ 255) :
    Calls Tryz.prog 100 #[.int .i64 s] w (EvRes w s) := by
  go_enter Tryz.func100, Tryz.ntmps100
  have kw := keeps_refl w
  go_wp2_with fail
  go_loopw [3, 4] (fun v i wr => ∃ k : Nat, k ≤ 8 ∧ i = .int .i64 k ∧ Has wr w.heap.size 3 1 v (lvI s k).length ((lvI s k).map (Value.int .i64)) ∧ Keeps w wr) (fun _ i _ => 9 - (intOf i).toNat)
  case atStart => exact ⟨0, Nat.zero_le _, rfl, World.ownsRow_nil _ _ _ _, kw⟩
  clear kw
  case round =>
    obtain ⟨k, hk, rfl, hown, kw⟩ := hrel
    have hks := kw.size
    have hkl := lvI_len s k
    have key : k = 0 ∨ k = 1 ∨ k = 2 ∨ k = 3 ∨ k = 4 ∨ k = 5 ∨ k = 6 ∨ k = 7 ∨ k = 8 := by omega
    rcases key with rfl | rfl | rfl | rfl | rfl | rfl | rfl | rfl | rfl
    · by_cases hp : 0 < s
      rotate_left
      · have HS := hid (lvI_stop (k := 0) h.1 (by omega) (by simpa using hp))
        rw [← HS.out] at hown
        have hkl8 := lvI_len s 8
        obtain ⟨A', c', rfl⟩ := hown.form
        have HM := hid ((Mine.of_own hown (by omega)).1)
        clear hown
        go_wp2
        go_ret
        exact ⟨A', c', rfl, HM.out, kw⟩
      cases hbit : bitB s 0
      · have t1 : (bits BinOp.and IntKind.i64 (s) 1 == 1) = false := by simpa [bitB] using hbit
        have HK := hid (lvI_no hbit)
        rw [← HK.out] at hown
        clear hbit
        go_wp2
        go_roundw
        case rel => exact ⟨0 + 1, by omega, by go_num, hown, kw⟩
        case measure => simp [intOf]
      · have t1 : (bits BinOp.and IntKind.i64 (s) 1 == 1) = true := by simpa [bitB] using hbit
        have HK := hid (lvI_yes hbit)
        clear hbit
        go_wp2_with (at_builtin; refine append_int (xs := lvI s 0) hown (by omega) (by omega) _ _ rfl rfl rfl rfl ?_; intro v' w' hown' hb')
        have H1 := hid hown'
        rw [show (lvI s 0).length + 1 = (lvI s 0 ++ [((0 : Nat) : Int)]).length by simp] at H1
        replace H1 := hid (show Has w' w.heap.size 3 1 v' (lvI s (0 + 1)).length ((lvI s (0 + 1)).map (Value.int .i64)) by rw [HK.out]; exact H1.out)
        have H2 := hid (Below.trans kw hb')
        clear hown' hb' kw hown
        go_wp2
        go_roundw
        case rel => exact ⟨0 + 1, by omega, by go_num, H1.out, H2.out⟩
        case measure => simp [intOf]
    · by_cases hp : 0 < s / 2
      rotate_left
      · have HS := hid (lvI_stop (k := 1) h.1 (by omega) (by simpa using hp))
        rw [← HS.out] at hown
        have hkl8 := lvI_len s 8
        obtain ⟨A', c', rfl⟩ := hown.form
        have HM := hid ((Mine.of_own hown (by omega)).1)
        clear hown
        go_wp2
        go_ret
        exact ⟨A', c', rfl, HM.out, kw⟩
      cases hbit : bitB s 1
      · have t1 : (bits BinOp.and IntKind.i64 (s / 2) 1 == 1) = false := by simpa [bitB] using hbit
        have HK := hid (lvI_no hbit)
        rw [← HK.out] at hown
        clear hbit
        go_wp2
        go_roundw
        case rel => exact ⟨1 + 1, by omega, by go_num, hown, kw⟩
        case measure => simp [intOf]
      · have t1 : (bits BinOp.and IntKind.i64 (s / 2) 1 == 1) = true := by simpa [bitB] using hbit
        have HK := hid (lvI_yes hbit)
        clear hbit
        go_wp2_with (at_builtin; refine append_int (xs := lvI s 1) hown (by omega) (by omega) _ _ rfl rfl rfl rfl ?_; intro v' w' hown' hb')
        have H1 := hid hown'
        rw [show (lvI s 1).length + 1 = (lvI s 1 ++ [((1 : Nat) : Int)]).length by simp] at H1
        replace H1 := hid (show Has w' w.heap.size 3 1 v' (lvI s (1 + 1)).length ((lvI s (1 + 1)).map (Value.int .i64)) by rw [HK.out]; exact H1.out)
        have H2 := hid (Below.trans kw hb')
        clear hown' hb' kw hown
        go_wp2
        go_roundw
        case rel => exact ⟨1 + 1, by omega, by go_num, H1.out, H2.out⟩
        case measure => simp [intOf]
    · by_cases hp : 0 < s / 4
      rotate_left
      · have HS := hid (lvI_stop (k := 2) h.1 (by omega) (by simpa using hp))
        rw [← HS.out] at hown
        have hkl8 := lvI_len s 8
        obtain ⟨A', c', rfl⟩ := hown.form
        have HM := hid ((Mine.of_own hown (by omega)).1)
        clear hown
        go_wp2
        go_ret
        exact ⟨A', c', rfl, HM.out, kw⟩
      cases hbit : bitB s 2
      · have t1 : (bits BinOp.and IntKind.i64 (s / 4) 1 == 1) = false := by simpa [bitB] using hbit
        have HK := hid (lvI_no hbit)
        rw [← HK.out] at hown
        clear hbit
        go_wp2
        go_roundw
        case rel => exact ⟨2 + 1, by omega, by go_num, hown, kw⟩
        case measure => simp [intOf]
      · have t1 : (bits BinOp.and IntKind.i64 (s / 4) 1 == 1) = true := by simpa [bitB] using hbit
        have HK := hid (lvI_yes hbit)
        clear hbit
        go_wp2_with (at_builtin; refine append_int (xs := lvI s 2) hown (by omega) (by omega) _ _ rfl rfl rfl rfl ?_; intro v' w' hown' hb')
        have H1 := hid hown'
        rw [show (lvI s 2).length + 1 = (lvI s 2 ++ [((2 : Nat) : Int)]).length by simp] at H1
        replace H1 := hid (show Has w' w.heap.size 3 1 v' (lvI s (2 + 1)).length ((lvI s (2 + 1)).map (Value.int .i64)) by rw [HK.out]; exact H1.out)
        have H2 := hid (Below.trans kw hb')
        clear hown' hb' kw hown
        go_wp2
        go_roundw
        case rel => exact ⟨2 + 1, by omega, by go_num, H1.out, H2.out⟩
        case measure => simp [intOf]
    · by_cases hp : 0 < s / 8
      rotate_left
      · have HS := hid (lvI_stop (k := 3) h.1 (by omega) (by simpa using hp))
        rw [← HS.out] at hown
        have hkl8 := lvI_len s 8
        obtain ⟨A', c', rfl⟩ := hown.form
        have HM := hid ((Mine.of_own hown (by omega)).1)
        clear hown
        go_wp2
        go_ret
        exact ⟨A', c', rfl, HM.out, kw⟩
      cases hbit : bitB s 3
      · have t1 : (bits BinOp.and IntKind.i64 (s / 8) 1 == 1) = false := by simpa [bitB] using hbit
        have HK := hid (lvI_no hbit)
        rw [← HK.out] at hown
        clear hbit
        go_wp2
        go_roundw
        case rel => exact ⟨3 + 1, by omega, by go_num, hown, kw⟩
        case measure => simp [intOf]
      · have t1 : (bits BinOp.and IntKind.i64 (s / 8) 1 == 1) = true := by simpa [bitB] using hbit
        have HK := hid (lvI_yes hbit)
        clear hbit
        go_wp2_with (at_builtin; refine append_int (xs := lvI s 3) hown (by omega) (by omega) _ _ rfl rfl rfl rfl ?_; intro v' w' hown' hb')
        have H1 := hid hown'
        rw [show (lvI s 3).length + 1 = (lvI s 3 ++ [((3 : Nat) : Int)]).length by simp] at H1
        replace H1 := hid (show Has w' w.heap.size 3 1 v' (lvI s (3 + 1)).length ((lvI s (3 + 1)).map (Value.int .i64)) by rw [HK.out]; exact H1.out)
        have H2 := hid (Below.trans kw hb')
        clear hown' hb' kw hown
        go_wp2
        go_roundw
        case rel => exact ⟨3 + 1, by omega, by go_num, H1.out, H2.out⟩
        case measure => simp [intOf]
    · by_cases hp : 0 < s / 16
      rotate_left
      · have HS := hid (lvI_stop (k := 4) h.1 (by omega) (by simpa using hp))
        rw [← HS.out] at hown
        have hkl8 := lvI_len s 8
        obtain ⟨A', c', rfl⟩ := hown.form
        have HM := hid ((Mine.of_own hown (by omega)).1)
        clear hown
        go_wp2
        go_ret
        exact ⟨A', c', rfl, HM.out, kw⟩
      cases hbit : bitB s 4
      · have t1 : (bits BinOp.and IntKind.i64 (s / 16) 1 == 1) = false := by simpa [bitB] using hbit
        have HK := hid (lvI_no hbit)
        rw [← HK.out] at hown
        clear hbit
        go_wp2
        go_roundw
        case rel => exact ⟨4 + 1, by omega, by go_num, hown, kw⟩
        case measure => simp [intOf]
      · have t1 : (bits BinOp.and IntKind.i64 (s / 16) 1 == 1) = true := by simpa [bitB] using hbit
        have HK := hid (lvI_yes hbit)
        clear hbit
        go_wp2_with (at_builtin; refine append_int (xs := lvI s 4) hown (by omega) (by omega) _ _ rfl rfl rfl rfl ?_; intro v' w' hown' hb')
        have H1 := hid hown'
        rw [show (lvI s 4).length + 1 = (lvI s 4 ++ [((4 : Nat) : Int)]).length by simp] at H1
        replace H1 := hid (show Has w' w.heap.size 3 1 v' (lvI s (4 + 1)).length ((lvI s (4 + 1)).map (Value.int .i64)) by rw [HK.out]; exact H1.out)
        have H2 := hid (Below.trans kw hb')
        clear hown' hb' kw hown
        go_wp2
        go_roundw
        case rel => exact ⟨4 + 1, by omega, by go_num, H1.out, H2.out⟩
        case measure => simp [intOf]
    · by_cases hp : 0 < s / 32
      rotate_left
      · have HS := hid (lvI_stop (k := 5) h.1 (by omega) (by simpa using hp))
        rw [← HS.out] at hown
        have hkl8 := lvI_len s 8
        obtain ⟨A', c', rfl⟩ := hown.form
        have HM := hid ((Mine.of_own hown (by omega)).1)
        clear hown
        go_wp2
        go_ret
        exact ⟨A', c', rfl, HM.out, kw⟩
      cases hbit : bitB s 5
      · have t1 : (bits BinOp.and IntKind.i64 (s / 32) 1 == 1) = false := by simpa [bitB] using hbit
        have HK := hid (lvI_no hbit)
        rw [← HK.out] at hown
        clear hbit
        go_wp2
        go_roundw
        case rel => exact ⟨5 + 1, by omega, by go_num, hown, kw⟩
        case measure => simp [intOf]
      · have t1 : (bits BinOp.and IntKind.i64 (s / 32) 1 == 1) = true := by simpa [bitB] using hbit
        have HK := hid (lvI_yes hbit)
        clear hbit
        go_wp2_with (at_builtin; refine append_int (xs := lvI s 5) hown (by omega) (by omega) _ _ rfl rfl rfl rfl ?_; intro v' w' hown' hb')
        have H1 := hid hown'
        rw [show (lvI s 5).length + 1 = (lvI s 5 ++ [((5 : Nat) : Int)]).length by simp] at H1
        replace H1 := hid (show Has w' w.heap.size 3 1 v' (lvI s (5 + 1)).length ((lvI s (5 + 1)).map (Value.int .i64)) by rw [HK.out]; exact H1.out)
        have H2 := hid (Below.trans kw hb')
        clear hown' hb' kw hown
        go_wp2
        go_roundw
        case rel => exact ⟨5 + 1, by omega, by go_num, H1.out, H2.out⟩
        case measure => simp [intOf]
    · by_cases hp : 0 < s / 64
      rotate_left
      · have HS := hid (lvI_stop (k := 6) h.1 (by omega) (by simpa using hp))
        rw [← HS.out] at hown
        have hkl8 := lvI_len s 8
        obtain ⟨A', c', rfl⟩ := hown.form
        have HM := hid ((Mine.of_own hown (by omega)).1)
        clear hown
        go_wp2
        go_ret
        exact ⟨A', c', rfl, HM.out, kw⟩
      cases hbit : bitB s 6
      · have t1 : (bits BinOp.and IntKind.i64 (s / 64) 1 == 1) = false := by simpa [bitB] using hbit
        have HK := hid (lvI_no hbit)
        rw [← HK.out] at hown
        clear hbit
        go_wp2
        go_roundw
        case rel => exact ⟨6 + 1, by omega, by go_num, hown, kw⟩
        case measure => simp [intOf]
      · have t1 : (bits BinOp.and IntKind.i64 (s / 64) 1 == 1) = true := by simpa [bitB] using hbit
        have HK := hid (lvI_yes hbit)
        clear hbit
        go_wp2_with (at_builtin; refine append_int (xs := lvI s 6) hown (by omega) (by omega) _ _ rfl rfl rfl rfl ?_; intro v' w' hown' hb')
        have H1 := hid hown'
        rw [show (lvI s 6).length + 1 = (lvI s 6 ++ [((6 : Nat) : Int)]).length by simp] at H1
        replace H1 := hid (show Has w' w.heap.size 3 1 v' (lvI s (6 + 1)).length ((lvI s (6 + 1)).map (Value.int .i64)) by rw [HK.out]; exact H1.out)
        have H2 := hid (Below.trans kw hb')
        clear hown' hb' kw hown
        go_wp2
        go_roundw
        case rel => exact ⟨6 + 1, by omega, by go_num, H1.out, H2.out⟩
        case measure => simp [intOf]
    · by_cases hp : 0 < s / 128
      rotate_left
      · have HS := hid (lvI_stop (k := 7) h.1 (by omega) (by simpa using hp))
        rw [← HS.out] at hown
        have hkl8 := lvI_len s 8
        obtain ⟨A', c', rfl⟩ := hown.form
        have HM := hid ((Mine.of_own hown (by omega)).1)
        clear hown
        go_wp2
        go_ret
        exact ⟨A', c', rfl, HM.out, kw⟩
      cases hbit : bitB s 7
      · have t1 : (bits BinOp.and IntKind.i64 (s / 128) 1 == 1) = false := by simpa [bitB] using hbit
        have HK := hid (lvI_no hbit)
        rw [← HK.out] at hown
        clear hbit
        go_wp2
        go_roundw
        case rel => exact ⟨7 + 1, by omega, by go_num, hown, kw⟩
        case measure => simp [intOf]
      · have t1 : (bits BinOp.and IntKind.i64 (s / 128) 1 == 1) = true := by simpa [bitB] using hbit
        have HK := hid (lvI_yes hbit)
        clear hbit
        go_wp2_with (at_builtin; refine append_int (xs := lvI s 7) hown (by omega) (by omega) _ _ rfl rfl rfl rfl ?_; intro v' w' hown' hb')
        have H1 := hid hown'
        rw [show (lvI s 7).length + 1 = (lvI s 7 ++ [((7 : Nat) : Int)]).length by simp] at H1
        replace H1 := hid (show Has w' w.heap.size 3 1 v' (lvI s (7 + 1)).length ((lvI s (7 + 1)).map (Value.int .i64)) by rw [HK.out]; exact H1.out)
        have H2 := hid (Below.trans kw hb')
        clear hown' hb' kw hown
        go_wp2
        go_roundw
        case rel => exact ⟨7 + 1, by omega, by go_num, H1.out, H2.out⟩
        case measure => simp [intOf]
    · by_cases hp : 0 < s / 256
      rotate_left
      · have HS := hid (lvI_stop (k := 8) h.1 (by omega) (by simpa using hp))
        rw [← HS.out] at hown
        have hkl8 := lvI_len s 8
        obtain ⟨A', c', rfl⟩ := hown.form
        have HM := hid ((Mine.of_own hown (by omega)).1)
        clear hown
        go_wp2
        go_ret
        exact ⟨A', c', rfl, HM.out, kw⟩
      · omega
set_option maxRecDepth 100000 in
set_option maxHeartbeats 6400000 in
theorem setText_any {s : Int} {w : World} (h : 0 ≤ s ∧ s ≤ 255) :
    Calls Tryz.prog 107 #[.int .i64 s] w fun e w' => e = .returned (.string (bs (setT s))) ∧ Keeps w w' := by
  go_enter Tryz.func107, Tryz.ntmps107
  have kw := keeps_refl w
  go_wp2_with fail
  go_loopw [3, 5] (fun v i wr => ∃ k : Nat, k ≤ 8 ∧ i = .int .i64 k ∧ HasS wr w.heap.size v (digs s k) ∧ Keeps w wr) (fun _ i _ => 9 - (intOf i).toNat)
  case atStart => exact ⟨0, Nat.zero_le _, rfl, World.ownsRow_nil _ _ _ _, kw⟩
  clear kw
  case round =>
    obtain ⟨k, hk, rfl, hown, kw⟩ := hrel
    have hks := kw.size
    have hkl := digs_len s k
    have key : k = 0 ∨ k = 1 ∨ k = 2 ∨ k = 3 ∨ k = 4 ∨ k = 5 ∨ k = 6 ∨ k = 7 ∨ k = 8 := by omega
    rcases key with rfl | rfl | rfl | rfl | rfl | rfl | rfl | rfl | rfl
    · cases hbit : bitB s 0
      · have t1 : (bits BinOp.and IntKind.i64 (s) 1 == 1) = false := by simpa [bitB] using hbit
        have HK := hid (digs_no hbit)
        rw [← HK.out] at hown
        clear hbit
        go_wp2
        go_roundw
        case rel => exact ⟨0 + 1, by omega, by go_num, hown, kw⟩
        case measure => simp [intOf]
      · have t1 : (bits BinOp.and IntKind.i64 (s) 1 == 1) = true := by simpa [bitB] using hbit
        have HK := hid (digs_yes hbit)
        have HU := hid (show Utf8.encode 48 = bs (Lib.decDigits 0) by rw [Lib.decDigits_one (by omega)]; first | rfl | decide | kernel_rfl)
        clear hbit
        go_wp2_with (at_builtin; refine append_str (Lib.decDigits 0) HU.out hown (by omega) (by omega) _ _ rfl rfl rfl rfl ?_; intro v' w' hown' hb')
        rw [← HK.out] at hown'
        have H1 := hid hown'
        have H2 := hid (Below.trans kw hb')
        clear hown' hb' kw hown
        go_wp2
        go_roundw
        case rel => exact ⟨0 + 1, by omega, by go_num, H1.out, H2.out⟩
        case measure => simp [intOf]
    · cases hbit : bitB s 1
      · have t1 : (bits BinOp.and IntKind.i64 (s / 2) 1 == 1) = false := by simpa [bitB] using hbit
        have HK := hid (digs_no hbit)
        rw [← HK.out] at hown
        clear hbit
        go_wp2
        go_roundw
        case rel => exact ⟨1 + 1, by omega, by go_num, hown, kw⟩
        case measure => simp [intOf]
      · have t1 : (bits BinOp.and IntKind.i64 (s / 2) 1 == 1) = true := by simpa [bitB] using hbit
        have HK := hid (digs_yes hbit)
        have HU := hid (show Utf8.encode 49 = bs (Lib.decDigits 1) by rw [Lib.decDigits_one (by omega)]; first | rfl | decide | kernel_rfl)
        clear hbit
        go_wp2_with (at_builtin; refine append_str (Lib.decDigits 1) HU.out hown (by omega) (by omega) _ _ rfl rfl rfl rfl ?_; intro v' w' hown' hb')
        rw [← HK.out] at hown'
        have H1 := hid hown'
        have H2 := hid (Below.trans kw hb')
        clear hown' hb' kw hown
        go_wp2
        go_roundw
        case rel => exact ⟨1 + 1, by omega, by go_num, H1.out, H2.out⟩
        case measure => simp [intOf]
    · cases hbit : bitB s 2
      · have t1 : (bits BinOp.and IntKind.i64 (s / 4) 1 == 1) = false := by simpa [bitB] using hbit
        have HK := hid (digs_no hbit)
        rw [← HK.out] at hown
        clear hbit
        go_wp2
        go_roundw
        case rel => exact ⟨2 + 1, by omega, by go_num, hown, kw⟩
        case measure => simp [intOf]
      · have t1 : (bits BinOp.and IntKind.i64 (s / 4) 1 == 1) = true := by simpa [bitB] using hbit
        have HK := hid (digs_yes hbit)
        have HU := hid (show Utf8.encode 50 = bs (Lib.decDigits 2) by rw [Lib.decDigits_one (by omega)]; first | rfl | decide | kernel_rfl)
        clear hbit
        go_wp2_with (at_builtin; refine append_str (Lib.decDigits 2) HU.out hown (by omega) (by omega) _ _ rfl rfl rfl rfl ?_; intro v' w' hown' hb')
        rw [← HK.out] at hown'
        have H1 := hid hown'
        have H2 := hid (Below.trans kw hb')
        clear hown' hb' kw hown
        go_wp2
        go_roundw
        case rel => exact ⟨2 + 1, by omega, by go_num, H1.out, H2.out⟩
        case measure => simp [intOf]
    · cases hbit : bitB s 3
      · have t1 : (bits BinOp.and IntKind.i64 (s / 8) 1 == 1) = false := by simpa [bitB] using hbit
        have HK := hid (digs_no hbit)
        rw [← HK.out] at hown
        clear hbit
        go_wp2
        go_roundw
        case rel => exact ⟨3 + 1, by omega, by go_num, hown, kw⟩
        case measure => simp [intOf]
      · have t1 : (bits BinOp.and IntKind.i64 (s / 8) 1 == 1) = true := by simpa [bitB] using hbit
        have HK := hid (digs_yes hbit)
        have HU := hid (show Utf8.encode 51 = bs (Lib.decDigits 3) by rw [Lib.decDigits_one (by omega)]; first | rfl | decide | kernel_rfl)
        clear hbit
        go_wp2_with (at_builtin; refine append_str (Lib.decDigits 3) HU.out hown (by omega) (by omega) _ _ rfl rfl rfl rfl ?_; intro v' w' hown' hb')
        rw [← HK.out] at hown'
        have H1 := hid hown'
        have H2 := hid (Below.trans kw hb')
        clear hown' hb' kw hown
        go_wp2
        go_roundw
        case rel => exact ⟨3 + 1, by omega, by go_num, H1.out, H2.out⟩
        case measure => simp [intOf]
    · cases hbit : bitB s 4
      · have t1 : (bits BinOp.and IntKind.i64 (s / 16) 1 == 1) = false := by simpa [bitB] using hbit
        have HK := hid (digs_no hbit)
        rw [← HK.out] at hown
        clear hbit
        go_wp2
        go_roundw
        case rel => exact ⟨4 + 1, by omega, by go_num, hown, kw⟩
        case measure => simp [intOf]
      · have t1 : (bits BinOp.and IntKind.i64 (s / 16) 1 == 1) = true := by simpa [bitB] using hbit
        have HK := hid (digs_yes hbit)
        have HU := hid (show Utf8.encode 52 = bs (Lib.decDigits 4) by rw [Lib.decDigits_one (by omega)]; first | rfl | decide | kernel_rfl)
        clear hbit
        go_wp2_with (at_builtin; refine append_str (Lib.decDigits 4) HU.out hown (by omega) (by omega) _ _ rfl rfl rfl rfl ?_; intro v' w' hown' hb')
        rw [← HK.out] at hown'
        have H1 := hid hown'
        have H2 := hid (Below.trans kw hb')
        clear hown' hb' kw hown
        go_wp2
        go_roundw
        case rel => exact ⟨4 + 1, by omega, by go_num, H1.out, H2.out⟩
        case measure => simp [intOf]
    · cases hbit : bitB s 5
      · have t1 : (bits BinOp.and IntKind.i64 (s / 32) 1 == 1) = false := by simpa [bitB] using hbit
        have HK := hid (digs_no hbit)
        rw [← HK.out] at hown
        clear hbit
        go_wp2
        go_roundw
        case rel => exact ⟨5 + 1, by omega, by go_num, hown, kw⟩
        case measure => simp [intOf]
      · have t1 : (bits BinOp.and IntKind.i64 (s / 32) 1 == 1) = true := by simpa [bitB] using hbit
        have HK := hid (digs_yes hbit)
        have HU := hid (show Utf8.encode 53 = bs (Lib.decDigits 5) by rw [Lib.decDigits_one (by omega)]; first | rfl | decide | kernel_rfl)
        clear hbit
        go_wp2_with (at_builtin; refine append_str (Lib.decDigits 5) HU.out hown (by omega) (by omega) _ _ rfl rfl rfl rfl ?_; intro v' w' hown' hb')
        rw [← HK.out] at hown'
        have H1 := hid hown'
        have H2 := hid (Below.trans kw hb')
        clear hown' hb' kw hown
        go_wp2
        go_roundw
        case rel => exact ⟨5 + 1, by omega, by go_num, H1.out, H2.out⟩
        case measure => simp [intOf]
    · cases hbit : bitB s 6
      · have t1 : (bits BinOp.and IntKind.i64 (s / 64) 1 == 1) = false := by simpa [bitB] using hbit
        have HK := hid (digs_no hbit)
        rw [← HK.out] at hown
        clear hbit
        go_wp2
        go_roundw
        case rel => exact ⟨6 + 1, by omega, by go_num, hown, kw⟩
        case measure => simp [intOf]
      · have t1 : (bits BinOp.and IntKind.i64 (s / 64) 1 == 1) = true := by simpa [bitB] using hbit
        have HK := hid (digs_yes hbit)
        have HU := hid (show Utf8.encode 54 = bs (Lib.decDigits 6) by rw [Lib.decDigits_one (by omega)]; first | rfl | decide | kernel_rfl)
        clear hbit
        go_wp2_with (at_builtin; refine append_str (Lib.decDigits 6) HU.out hown (by omega) (by omega) _ _ rfl rfl rfl rfl ?_; intro v' w' hown' hb')
        rw [← HK.out] at hown'
        have H1 := hid hown'
        have H2 := hid (Below.trans kw hb')
        clear hown' hb' kw hown
        go_wp2
        go_roundw
        case rel => exact ⟨6 + 1, by omega, by go_num, H1.out, H2.out⟩
        case measure => simp [intOf]
    · cases hbit : bitB s 7
      · have t1 : (bits BinOp.and IntKind.i64 (s / 128) 1 == 1) = false := by simpa [bitB] using hbit
        have HK := hid (digs_no hbit)
        rw [← HK.out] at hown
        clear hbit
        go_wp2
        go_roundw
        case rel => exact ⟨7 + 1, by omega, by go_num, hown, kw⟩
        case measure => simp [intOf]
      · have t1 : (bits BinOp.and IntKind.i64 (s / 128) 1 == 1) = true := by simpa [bitB] using hbit
        have HK := hid (digs_yes hbit)
        have HU := hid (show Utf8.encode 55 = bs (Lib.decDigits 7) by rw [Lib.decDigits_one (by omega)]; first | rfl | decide | kernel_rfl)
        clear hbit
        go_wp2_with (at_builtin; refine append_str (Lib.decDigits 7) HU.out hown (by omega) (by omega) _ _ rfl rfl rfl rfl ?_; intro v' w' hown' hb')
        rw [← HK.out] at hown'
        have H1 := hid hown'
        have H2 := hid (Below.trans kw hb')
        clear hown' hb' kw hown
        go_wp2
        go_roundw
        case rel => exact ⟨7 + 1, by omega, by go_num, H1.out, H2.out⟩
        case measure => simp [intOf]
    · obtain ⟨A, c, rfl, hj⟩ := join_own hown hks (by omega) (digs_small s (Nat.le_refl _)) (by omega)
      clear hown
      go_wp2_with fail
      refine hj.mono ?_
      rintro e w1 ⟨rfl, k1⟩
      have KW := hid (Keeps.trans kw k1)
      clear kw k1 hj
      go_wp2
      go_ret
      exact ⟨rfl, KW.out⟩
end Go.Proofs.YtlkjhkkfdmjfcaaGreatDoor
namespace Go.Proofs.YtlkjhkkfdmjfcaaGreatDoor
open Go.RowKit Go.Sort
set_option linter.unusedVariables false
set_option linter.unusedSimpArgs false
/-- The library's table of powers lies as its text lays it. -/
def Tab10 (w : World) : Prop := Lib.TabIs Tryz.prog w "internal/strconv.uint64pow10" .u64 Lib.pow10Tab
theorem Tab10.keeps {w w' : World} (h : Tab10 w) (k : Keeps w w') : Tab10 w' := Lib.tabBelow_of_tabIs h w' k
theorem itoa_k {n : Int} (h : -4000000000 ≤ n ∧ n ≤ 4000000000) {w : World} (ht : Tab10 w) :
    Calls Tryz.prog 38 #[.int .i64 n] w fun e w' => e = .returned (.string (bs (Lib.itoa n))) ∧ Keeps w w' :=
  (itoa_any (by omega) (by omega) ht).mono fun e w' ⟨he, k, os, hw⟩ => ⟨he, hw ▸ Lib.below_grow _ w (Nat.le_refl _) k os⟩
theorem itoa_len {n : Int} (h : -4000000000 ≤ n ∧ n ≤ 4000000000) : (bs (Lib.itoa n)).size ≤ 21 := by rw [bs_size]; exact Lib.itoa_length_le n (by omega) (by omega)
theorem itoa_nat (m : Nat) : Lib.itoa (m : Int) = Lib.decDigits m := by unfold Lib.itoa; rw [if_neg (by omega)]; simp
theorem itoa_neg {n : Int} (h : n < 0) : Lib.itoa n = 45 :: Lib.decDigits n.natAbs := by unfold Lib.itoa; rw [if_pos h]
theorem ret_sb {a b : ByteArray} {p : Bool} (h : a = b) : Ending.returned (.tuple #[.string a, .bool p]) = .returned (.tuple #[.string b, .bool p]) := by rw [h]
theorem frac_n {a b : Int} (h : fracB a b = true) : (-1000000000 ≤ a ∧ a ≤ 1000000000) ∧ (1 ≤ b ∧ b ≤ 1000000000) := by have := fracB_true.1 h; omega
set_option maxRecDepth 100000 in
set_option maxHeartbeats 1600000 in
theorem l1Int_any {n : Int} {w : World} (h : -4000000000 ≤ n ∧ n ≤ 4000000000) :
    Calls Tryz.prog 65 #[.int .i64 n] w fun e w' => e = .returned (.string (bs (Lib.itoa n))) ∧ Keeps w w' := by
  by_cases h0 : n < 0
  · obtain ⟨m, hm⟩ : ∃ m : Nat, -n = m := ⟨(-n).toNat, by omega⟩
    have hm4 : m ≤ 4000000000 := by omega
    have hsz := dec_len m (by omega)
    rw [← bs_size] at hsz
    have HE := hid (show ({ data := #[45] } : ByteArray) ++ bs (Lib.decDigits m) = bs (Lib.itoa n) by
      rw [itoa_neg h0, show n.natAbs = m by omega]
      exact bs_app [45] _)
    obtain ⟨sA, hsA⟩ : ∃ s, bs (Lib.decDigits m) = s := ⟨_, rfl⟩
    have HC := hid (fun W => l1Num_any m hm4 W)
    rw [hsA] at hsz HE HC
    clear hsA
    have hz1 : ¬ (9223372036854775807 < 1 + sA.size) := by omega
    have hz2 : 1 + sA.size ≤ 9223372036854775807 := by omega
    clear hsz
    go_enter Tryz.func65, Tryz.ntmps65
    go_wp2_with fail
    refine (HC.out w).mono ?_
    rintro e w1 ⟨rfl, kw⟩
    go_wp2_with fail
    go_ret
    exact ⟨ret_str HE.out, kw⟩
  · obtain ⟨m, hm⟩ : ∃ m : Nat, n = m := ⟨n.toNat, by omega⟩
    subst hm
    have HE := hid (itoa_nat m)
    go_enter Tryz.func65, Tryz.ntmps65
    go_wp2_with fail
    refine (l1Num_any m (by omega) w).mono ?_
    rintro e w1 ⟨rfl, kw⟩
    go_wp2_with fail
    go_ret
    exact ⟨ret_str (by rw [HE.out]), kw⟩
set_option maxRecDepth 100000 in
set_option maxHeartbeats 3200000 in
theorem fText_any {a b : Int} {w : World} (h : fracB a b = true) :
    Calls Tryz.prog 32 #[.agg #[.int .i64 a, .int .i64 b]] w fun e w' => e = .returned (.string (bs (fracT a b))) ∧ Keeps w w' := by
  have hb := frac_n h
  clear h
  by_cases h1 : b = 1
  · subst h1
    have HE := hid (show fracT a 1 = Lib.itoa a from if_pos rfl)
    go_enter Tryz.func32, Tryz.ntmps32
    have kw := keeps_refl w
    replace kw := Keeps.trans kw (keeps_alloc w (.cells #[.int .i64 a, .int .i64 1] 46))
    have b1 : Bx (w.alloc (.cells #[.int .i64 a, .int .i64 1] 46)) w.heap.size a 1 := Bx.new' (by simp)
    obtain ⟨ca1, cb1, fa1, fb1⟩ := id b1
    go_wp2_with fail
    clear ca1 cb1 fa1 fb1
    refine (l1Int_any (n := a) (by omega)).mono ?_
    rintro e w2 ⟨rfl, k2⟩
    replace b1 := b1.keeps k2
    replace kw := Keeps.trans kw k2
    have lt3 := b1.lt
    have sz4 := kw.size
    clear k2
    go_wp2_with fail
    go_ret
    exact ⟨ret_str (by rw [HE.out]), kw⟩
  obtain ⟨m, hm⟩ : ∃ m : Nat, b = m := ⟨b.toNat, by omega⟩
  subst hm
  have t1 : ((m : Int) == 1) = false := by rw [beq_eq_false_iff_ne]; exact h1
  have HE0 : fracT a (m : Int) = Lib.itoa a ++ ([47] ++ Lib.itoa (m : Int)) := if_neg h1
  have HE1 : (bs (Lib.itoa a) ++ ({ data := #[47] } : ByteArray)) ++ bs (Lib.decDigits m) = bs (fracT a (m : Int)) := by
    rw [HE0, itoa_nat, show ({ data := #[47] } : ByteArray) = bs [47] from rfl, bs_app, bs_app, List.append_assoc]
  have HE := hid HE1
  clear HE0 HE1 h1
  have hs1 := itoa_len (n := a) (by omega)
  have hs2 := dec_len m (by omega)
  rw [← bs_size] at hs2
  have HI := hid (fun (W0 W : World) (_ : Keeps W0 W) => l1Int_any (n := a) (w := W) (by omega))
  have HN := hid (fun (W0 W : World) (_ : Keeps W0 W) => l1Num_any m (by omega) W)
  obtain ⟨sA, hsA⟩ : ∃ s, bs (Lib.itoa a) = s := ⟨_, rfl⟩
  obtain ⟨sB, hsB⟩ : ∃ s, bs (Lib.decDigits m) = s := ⟨_, rfl⟩
  rw [hsA] at hs1 HI HE
  rw [hsB] at hs2 HN HE
  clear hsA hsB
  have hz1 : ¬ (9223372036854775807 < sA.size + 1) := by omega
  have hz2 : ¬ (9223372036854775807 < sA.size + 1 + sB.size) := by omega
  clear hs1 hs2
  go_enter Tryz.func32, Tryz.ntmps32
  have kw := keeps_refl w
  replace kw := Keeps.trans kw (keeps_alloc w (.cells #[.int .i64 a, .int .i64 (m : Int)] 46))
  have b1 : Bx (w.alloc (.cells #[.int .i64 a, .int .i64 (m : Int)] 46)) w.heap.size a (m : Int) := Bx.new' (by simp)
  obtain ⟨ca1, cb1, fa1, fb1⟩ := id b1
  go_wp2_with fail
  clear ca1 cb1 fa1 fb1
  obtain ⟨qa_b1, qb_b1, -, -⟩ := id b1
  have rqa_b1 := fun d os => cell_regrown qa_b1 d os
  have rqb_b1 := fun d os => cell_regrown qb_b1 d os
  have cQ0 := hid (fun (dQ : Nat) (oQ : Array Obj) => HI.out _ _ (below_regrown (w.alloc (.cells #[.int .i64 a, .int .i64 (m : Int)] 46)) dQ oQ))
  have cQ1 := hid (fun (dQ : Nat) (oQ : Array Obj) => HN.out _ _ (below_regrown (w.alloc (.cells #[.int .i64 a, .int .i64 (m : Int)] 46)) dQ oQ))
  refine wp_region_quiet_below (by kernel_rfl) (by kernel_rfl) ?_
  iterate 9 (go_big_quiet_step ((first | with_reducible exact Calls.regrown_of (cQ0.out _ _) | with_reducible exact Calls.regrown_of (cQ1.out _ _))))
  refine wpQuiet_nil ?_
  intro _ hw'
  obtain ⟨⟨dq, osq⟩, hw''⟩ := hw'
  subst hw''
  clear qa_b1 qb_b1 rqa_b1 rqb_b1 cQ0 cQ1
  have kQ := below_regrown (w.alloc (.cells #[.int .i64 a, .int .i64 (m : Int)] 46)) dq osq
  obtain ⟨wQ2, hwQ⟩ : ∃ u, u = grow (redrawn (w.alloc (.cells #[.int .i64 a, .int .i64 (m : Int)] 46)) dq) osq := ⟨_, rfl⟩
  rw [← hwQ] at kQ
  rw [← hwQ]
  clear hwQ
  replace b1 := b1.keeps kQ
  replace kw := Keeps.trans kw kQ
  have lt3 := b1.lt
  have sz4 := kw.size
  clear kQ
  go_wp2_with fail
  go_ret
  exact ⟨ret_str HE.out, kw⟩
set_option maxRecDepth 100000 in
set_option maxHeartbeats 3200000 in
theorem FracText_any {a b : Int} {w : World} (ht : Tab10 w) (h : fracB a b = true) :
    Calls Tryz.prog 70 #[.agg #[.int .i64 a, .int .i64 b]] w fun e w' => e = .returned (.tuple #[.string (bs (fracT a b)), .bool true]) ∧ Keeps w w' := by
  have hb := frac_n h
  have HF := hid h
  clear h
  by_cases h1 : b = 1
  · subst h1
    have HE := hid (show fracT a 1 = Lib.itoa a from if_pos rfl)
    go_enter Tryz.func70, Tryz.ntmps70
    have kw := keeps_refl w
    replace kw := Keeps.trans kw (keeps_alloc w (.cells #[.int .i64 a, .int .i64 1] 46))
    have b1 : Bx (w.alloc (.cells #[.int .i64 a, .int .i64 1] 46)) w.heap.size a 1 := Bx.new' (by simp)
    obtain ⟨ca1, cb1, fa1, fb1⟩ := id b1
    go_wp2_with fail
    clear ca1 cb1 fa1 fb1
    refine (IsFrac_any).mono ?_
    rintro e w2 ⟨rfl, k2⟩
    rw [HF.out]
    replace b1 := b1.keeps k2
    replace kw := Keeps.trans kw k2
    have lt3 := b1.lt
    have sz4 := kw.size
    clear k2
    obtain ⟨ca5, cb5, fa5, fb5⟩ := id b1
    go_wp2_with fail
    clear ca5 cb5 fa5 fb5
    refine (itoa_k (n := a) (by omega) (ht.keeps kw)).mono ?_
    rintro e w6 ⟨rfl, k6⟩
    replace b1 := b1.keeps k6
    replace kw := Keeps.trans kw k6
    have lt7 := b1.lt
    have sz8 := kw.size
    clear k6
    obtain ⟨ca9, cb9, fa9, fb9⟩ := id b1
    go_wp2_with fail
    clear ca9 cb9 fa9 fb9
    go_ret2
    exact ⟨ret_sb (by rw [HE.out]), kw⟩
  have t1 : (b != 1) = true := by simp [h1]
  have HE0 : fracT a b = Lib.itoa a ++ ([47] ++ Lib.itoa b) := if_neg h1
  have HE1 : bs (Lib.itoa a) ++ (({ data := #[47] } : ByteArray) ++ bs (Lib.itoa b)) = bs (fracT a b) := by
    rw [HE0, show ({ data := #[47] } : ByteArray) = bs [47] from rfl, bs_app, bs_app]
  have HE := hid HE1
  clear HE0 HE1 h1
  have hs1 := itoa_len (n := a) (by omega)
  have hs2 := itoa_len (n := b) (by omega)
  have HI := hid (fun (W : World) (t : Tab10 W) => itoa_k (n := a) (by omega) t)
  have HN := hid (fun (W : World) (t : Tab10 W) => itoa_k (n := b) (by omega) t)
  obtain ⟨sA, hsA⟩ : ∃ s, bs (Lib.itoa a) = s := ⟨_, rfl⟩
  obtain ⟨sB, hsB⟩ : ∃ s, bs (Lib.itoa b) = s := ⟨_, rfl⟩
  rw [hsA] at hs1 HI HE
  rw [hsB] at hs2 HN HE
  clear hsA hsB
  have hz1 : ¬ (9223372036854775807 < 1 + sB.size) := by omega
  have hz2 : ¬ (9223372036854775807 < sA.size + (1 + sB.size)) := by omega
  clear hs1 hs2
  go_enter Tryz.func70, Tryz.ntmps70
  have kw := keeps_refl w
  replace kw := Keeps.trans kw (keeps_alloc w (.cells #[.int .i64 a, .int .i64 b] 46))
  have b1 : Bx (w.alloc (.cells #[.int .i64 a, .int .i64 b] 46)) w.heap.size a b := Bx.new' (by simp)
  obtain ⟨ca1, cb1, fa1, fb1⟩ := id b1
  go_wp2_with fail
  clear ca1 cb1 fa1 fb1
  refine (IsFrac_any).mono ?_
  rintro e w2 ⟨rfl, k2⟩
  rw [HF.out]
  replace b1 := b1.keeps k2
  replace kw := Keeps.trans kw k2
  have lt3 := b1.lt
  have sz4 := kw.size
  clear k2
  obtain ⟨ca5, cb5, fa5, fb5⟩ := id b1
  go_wp2_with fail
  clear ca5 cb5 fa5 fb5
  refine (HI.out _ (ht.keeps kw)).mono ?_
  rintro e w6 ⟨rfl, k6⟩
  replace b1 := b1.keeps k6
  replace kw := Keeps.trans kw k6
  have lt7 := b1.lt
  have sz8 := kw.size
  clear k6
  obtain ⟨ca9, cb9, fa9, fb9⟩ := id b1
  go_wp2_with fail
  clear ca9 cb9 fa9 fb9
  refine (HN.out _ (ht.keeps kw)).mono ?_
  rintro e w10 ⟨rfl, k10⟩
  replace b1 := b1.keeps k10
  replace kw := Keeps.trans kw k10
  have lt11 := b1.lt
  have sz12 := kw.size
  clear k10
  go_wp2_with fail
  go_ret2
  exact ⟨ret_sb (by rw [HE.out]), kw⟩
set_option maxRecDepth 100000 in
set_option maxHeartbeats 1600000 in
theorem fracText_any {a b : Int} {w : World} (ht : Tab10 w) (h : fracB a b = true) :
    Calls Tryz.prog 39 #[.agg #[.int .i64 a, .int .i64 b]] w fun e w' => e = .returned (.string (bs (fracT a b))) ∧ Keeps w w' := by
  have HF := hid h
  clear h
  go_enter Tryz.func39, Tryz.ntmps39
  have kw := keeps_refl w
  replace kw := Keeps.trans kw (keeps_alloc w (.cells #[.int .i64 a, .int .i64 b] 46))
  have b1 : Bx (w.alloc (.cells #[.int .i64 a, .int .i64 b] 46)) w.heap.size a b := Bx.new' (by simp)
  obtain ⟨ca1, cb1, fa1, fb1⟩ := id b1
  go_wp2_with fail
  clear ca1 cb1 fa1 fb1
  refine (FracText_any (ht.keeps kw) HF.out).mono ?_
  rintro e w2 ⟨rfl, k2⟩
  replace b1 := b1.keeps k2
  replace kw := Keeps.trans kw k2
  have lt3 := b1.lt
  have sz4 := kw.size
  clear k2
  go_wp2_with fail
  go_ret
  exact ⟨rfl, kw⟩
end Go.Proofs.YtlkjhkkfdmjfcaaGreatDoor
