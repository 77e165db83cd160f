/- What the proof of the statement leans on, part 3: walks of functions and plain lemmas, with no condition. -/
import Derived.Deep.RegionLaw
import Derived.Test.YtohjkpopbmmliaaGreatQ1
namespace Go.Proofs.YtohjkpopbmmliaaGreat
open Go.RowKit
set_option linter.unusedVariables false
set_option linter.unusedSimpArgs false
def calleeT (o : Oper) : Option FuncId := match o.op with
  | .call c => match c.callee with
    | .value (.func f) => some f
    | _ => none
  | _ => none
/-- A call in a region, by its contract; the callee is looked at first. -/
theorem step_anyT {W : World} {ops : Array Oper} {o : Oper} {a : Act} {K : Act → World → Prop} {Q : Exit → Act → World → Prop} {E : Prop} {f : FuncId} {args : Array Value} {R : Ending → World → Prop}
    (hc : Calls Tryz.prog f args W R) (hf : calleeT o = some f) (hr : ∀ e w', R e w' → ∃ v, e = .returned v) (hgd : o.guard = none)
    (hrun : (execOp a.eval o).run Tryz.prog W = .ok (.enter f args) W)
    (h : ∀ v w', R (.returned v) w' → K (a.put o.dst v) w') :
    if Region.wanted o (yielded ops a.tmps) = true then Oper.wp Tryz.prog o a W K Q else E := step_any hc hr hgd hrun h
set_option maxRecDepth 100000 in
set_option maxHeartbeats 3200000 in
theorem crossed_any {A' V H : Option Addr} {lo hi n c m d q e : Nat} {vs : List Int} {l : List VV} {lv sm : Int} {w : World} (h : Ints w lo hi V n vs) (h' : Sch w A' q e l) (hvs : vsB q vs = true) :
    Calls Tryz.prog 177 #[.slice A' q e, .agg #[.int .i64 lv, .slice V n c, .slice H m d, .int .i64 sm]] w (PartRes w (partL l vs) n) := by
  obtain ⟨lo', hi', hv⟩ := h'.v
  have hn := h.le
  have HL := hid h.1
  have HV := hid (fun (k : Nat) (hk : k < n) => vsB_at hvs (k := k) (by rw [h.1]; exact hk))
  have HPL := hid (show (partL l vs).length = n by rw [partL_len, h.1])
  clear hvs
  have hmk := make_vars n hn
  go_enter Tryz.func177, Tryz.ntmps177
  have kw := keeps_refl w
  replace kw := Keeps.trans kw (keeps_alloc w (.cells #[.int .i64 lv, .slice V n c, .slice H m d, .int .i64 sm] 120))
  have b3 : Bl (w.alloc (.cells #[.int .i64 lv, .slice V n c, .slice H m d, .int .i64 sm] 120)) w.heap.size [.int .i64 lv, .slice V n c, .slice H m d, .int .i64 sm] := Bl.new' (by simp) (by simp)
  have ca1_0 : (w.alloc (.cells #[.int .i64 lv, .slice V n c, .slice H m d, .int .i64 sm] 120)).cell? ⟨w.heap.size, 0, none⟩ = some (.int .i64 lv) := (b3.2 0 _ rfl).1
  have ca1_1 : (w.alloc (.cells #[.int .i64 lv, .slice V n c, .slice H m d, .int .i64 sm] 120)).cell? ⟨w.heap.size, 1, none⟩ = some (.slice V n c) := (b3.2 1 _ rfl).1
  have ca1_2 : (w.alloc (.cells #[.int .i64 lv, .slice V n c, .slice H m d, .int .i64 sm] 120)).cell? ⟨w.heap.size, 2, none⟩ = some (.slice H m d) := (b3.2 2 _ rfl).1
  have ca1_3 : (w.alloc (.cells #[.int .i64 lv, .slice V n c, .slice H m d, .int .i64 sm] 120)).cell? ⟨w.heap.size, 3, none⟩ = some (.int .i64 sm) := (b3.2 3 _ rfl).1
  go_wp2_with fail
  clear ca1_0 ca1_1 ca1_2 ca1_3
  replace b3 := b3.keeps (keeps_alloc (w.alloc (.cells #[.int .i64 lv, .slice V n c, .slice H m d, .int .i64 sm] 120)) (.cells (madeCells #[.string ByteArray.empty, .int .i64 0] (n * 2)) 126))
  replace kw := Keeps.trans kw (keeps_alloc (w.alloc (.cells #[.int .i64 lv, .slice V n c, .slice H m d, .int .i64 sm] 120)) (.cells (madeCells #[.string ByteArray.empty, .int .i64 0] (n * 2)) 126))
  clear hmk
  have own : OwnC ((w.alloc (.cells #[.int .i64 lv, .slice V n c, .slice H m d, .int .i64 sm] 120)).alloc (.cells (madeCells #[.string ByteArray.empty, .int .i64 0] (n * 2)) 126)) (w.heap.size + 1) 126 (vrs (padD v0 (partL l vs) 0)) := by
    rw [padD_zero, HPL.out]
    have q := OwnC.newV (w.alloc (.cells #[.int .i64 lv, .slice V n c, .slice H m d, .int .i64 sm] 120)) n
    rwa [show (w.alloc (.cells #[.int .i64 lv, .slice V n c, .slice H m d, .int .i64 sm] 120)).heap.size = w.heap.size + 1 by simp] at q
  clear b3
  go_loopw [15] (fun i wr => ∃ k : Nat, k ≤ n ∧ i = .int .i64 k ∧ OwnC wr (w.heap.size + 1) 126 (vrs (padD v0 (partL l vs) k)) ∧ Keeps w wr) (fun i _ => n - (intOf i).toNat)
  case atStart => exact ⟨0, Nat.zero_le _, rfl, own, kw⟩
  clear own kw
  case round =>
    obtain ⟨k, hk, rfl, hown, kw⟩ := hrel
    have hgs := hown.lt
    by_cases hlt : k < n
    · obtain ⟨b, off, z, rfl, _, _, hc, hz⟩ := (h.keeps kw).at_ hlt
      have hi1 : (k : Int) < (n : Int) := by omega
      have hz2 := HV.out k hlt
      rw [← hz.out] at hz2
      obtain ⟨j, rfl⟩ : ∃ j : Nat, z = (j : Int) := ⟨z.toNat, by omega⟩
      have hjm : j < q := by omega
      have hj1 : (j : Int) < (q : Int) := by omega
      obtain ⟨b', off', x, y, rfl, _, _, hcx, hcy, hx⟩ := Vars.at_ (Sl.keeps hv kw) hjm
      have HX := hid (padD_succ v0 (partL l vs) k (by rw [HPL.out]; exact hlt))
      rw [partL_at l vs (by rw [HL.out]; exact hlt), ← hz.out, Int.toNat_natCast, ← hx.out] at HX
      have hll : (vrs (padD v0 (partL l vs) k)).length = n * 2 := by rw [vrs_len, padD_len _ _ _ (by rw [HPL.out]; omega), HPL.out]
      have d1 := hown.cell (k * 2) (by omega)
      have d2 := hown.cell (k * 2 + 1) (by omega)
      have f1 := hown.frozen (k * 2)
      have f2 := hown.frozen (k * 2 + 1)
      have H1 := hid (OwnC.setV (k := k) hown x y)
      rw [HX.out] at H1
      have H2 := hid (Below.setCell (Below.setCell kw (p := ⟨w.heap.size + 1, k * 2, none⟩) (Nat.le_succ _) (.string x)) (p := ⟨w.heap.size + 1, k * 2 + 1, none⟩) (Nat.le_succ _) (.int .i64 y))
      clear hown kw hz hx hz2
      go_wp2
      go_roundw
      case rel => exact ⟨k + 1, by omega, by go_num, H1.out, H2.out⟩
      case measure => simp [intOf]; omega
    · obtain rfl : k = n := by omega
      rw [show padD v0 (partL l vs) k = partL l vs by rw [← HPL.out]; exact padD_all _ _] at hown
      have HM := hid (hown.slm (n := k) (sz := 2) (lo := w.heap.size) (hi := wr.heap.size) (by rw [vrs_len, HPL.out]) hn (Nat.le_succ _) hgs (Nat.le_refl _))
      clear hown
      go_wp2
      go_ret
      exact ⟨_, _, rfl, HM.out, Nat.le_refl _, by unfold maxLen; omega, kw⟩
set_option maxRecDepth 100000 in
set_option maxHeartbeats 6400000 in
theorem cellCount_any {A A' V H : Option Addr} {lo hi a c0 lo' hi' n c m d q e : Nat} {ps vs : List Int} {l : List VV} {lv sm : Int} {ws : List Int} {w : World} (h : Ints w lo hi A a ps) (h' : Sch w A' q e l) (hV : Ints w lo' hi' V n vs) (hg : geoB ps = true) (hs : schB l = true) (hvs : vsB q vs = true) :
    Calls Tryz.prog 143 #[.agg #[.slice A a c0], .slice A' q e, .agg #[.int .i64 lv, .slice V n c, .slice H m d, .int .i64 sm]] w fun e w' => e = .returned (.int .i64 (tabN ps l (lv, vs, ws, sm))) ∧ Keeps w w' := by
  obtain ⟨lo9, hi9, hv⟩ := h'.v
  have hl := Vars.len hv
  have hnl := hV.1
  obtain ⟨hlv, -, h6⟩ := schB_lv hl hs
  have hb := tabN_bd (t := (lv, vs, ws, sm)) hg hs (by rw [hl]; exact hvs)
  have HN := hid (show tabN ps l (lv, vs, ws, sm) = ((lev ps lv).length : Int) * prodTo (partL l vs) n by rw [← hnl]; rfl)
  have hn6 : n ≤ 6 := by have := vsB_len hvs; omega
  have HPV := hid (show LvOk (partL l vs) n by have := partL_lv hlv hvs; rwa [hnl] at this)
  have HT := hid (tree_of hg)
  have HV := hid hvs
  rw [HN.out] at hb
  clear hl hnl hlv hg hs hvs h6 hv
  have hl30 := lev_len ps lv
  have ha := h.1
  have ha2 := h.le
  obtain ⟨L, hL⟩ : ∃ L, (lev ps lv).length = L := ⟨_, rfl⟩
  obtain ⟨P, hP⟩ : ∃ P, prodTo (partL l vs) n = P := ⟨_, rfl⟩
  rw [hL, hP] at hb HN
  rw [hL] at hl30
  have HLL := hid hL
  have HPP := hid hP
  obtain ⟨hb0, hb1⟩ := hb
  have WR := hid (show IntKind.i64.wrap ((L : Int) * P) = tabN ps l (lv, vs, ws, sm) by rw [IntWalk.i64_in _ (by omega)]; exact HN.out.symm)
  clear hL hP ha
  go_enter Tryz.func143, Tryz.ntmps143
  have kw := keeps_refl w
  replace kw := Keeps.trans kw (keeps_alloc w (.cells #[.slice A a c0] 26))
  have b3 : B1 (w.alloc (.cells #[.slice A a c0] 26)) w.heap.size (.slice A a c0) := B1.new' (by simp)
  replace b3 := b3.keeps (keeps_alloc (w.alloc (.cells #[.slice A a c0] 26)) (.cells #[.int .i64 lv, .slice V n c, .slice H m d, .int .i64 sm] 120))
  replace kw := Keeps.trans kw (keeps_alloc (w.alloc (.cells #[.slice A a c0] 26)) (.cells #[.int .i64 lv, .slice V n c, .slice H m d, .int .i64 sm] 120))
  have b5 : Bl ((w.alloc (.cells #[.slice A a c0] 26)).alloc (.cells #[.int .i64 lv, .slice V n c, .slice H m d, .int .i64 sm] 120)) (w.heap.size + 1) [.int .i64 lv, .slice V n c, .slice H m d, .int .i64 sm] := Bl.new' (by simp) (by simp)
  go_wp2_with fail
  obtain ⟨ca3, -⟩ := id b3
  have c50 := (b5.2 0 _ rfl).1
  have c51 := (b5.2 1 _ rfl).1
  have c52 := (b5.2 2 _ rfl).1
  have c53 := (b5.2 3 _ rfl).1
  have KW := hid kw
  clear kw b3 b5
  have kW := keeps_d0 ((w.alloc (.cells #[.slice A a c0] 26)).alloc (.cells #[.int .i64 lv, .slice V n c, .slice H m d, .int .i64 sm] 120))
  have z3 := cell_keeps ca3 kW
  have y0 := cell_keeps c50 kW
  have y1 := cell_keeps c51 kW
  have y2 := cell_keeps c52 kW
  have y3 := cell_keeps c53 kW
  replace z3 : ((w.alloc (.cells #[.slice A a c0] 26)).alloc (.cells #[.int .i64 lv, .slice V n c, .slice H m d, .int .i64 sm] 120)).drew.cell? ⟨w.heap.size, 0, none⟩ = some (.slice A a c0) := z3
  replace y0 : ((w.alloc (.cells #[.slice A a c0] 26)).alloc (.cells #[.int .i64 lv, .slice V n c, .slice H m d, .int .i64 sm] 120)).drew.cell? ⟨w.heap.size + 1, 0, none⟩ = some (.int .i64 lv) := y0
  replace y1 : ((w.alloc (.cells #[.slice A a c0] 26)).alloc (.cells #[.int .i64 lv, .slice V n c, .slice H m d, .int .i64 sm] 120)).drew.cell? ⟨w.heap.size + 1, 1, none⟩ = some (.slice V n c) := y1
  replace y2 : ((w.alloc (.cells #[.slice A a c0] 26)).alloc (.cells #[.int .i64 lv, .slice V n c, .slice H m d, .int .i64 sm] 120)).drew.cell? ⟨w.heap.size + 1, 2, none⟩ = some (.slice H m d) := y2
  replace y3 : ((w.alloc (.cells #[.slice A a c0] 26)).alloc (.cells #[.int .i64 lv, .slice V n c, .slice H m d, .int .i64 sm] 120)).drew.cell? ⟨w.heap.size + 1, 3, none⟩ = some (.int .i64 sm) := y3
  go_region_law ((first | (refine step_anyT (areasAt_any (lv := lv) (c := c0) (h.keeps (Keeps.trans KW.out kW)) HT.out) (by rfl) (fun e w' hh => by obtain ⟨_, _, h, _⟩ := hh; exact ⟨_, h⟩) rfl (by kernel_rfl) ?_; intro v9 wB hh; obtain ⟨LA, LC, eE, -, kB⟩ := hh; cases eE; rw [HLL.out]; (first | (have mP := SlM.keeps mP kB) | skip); replace kW : Keeps ((w.alloc (.cells #[.slice A a c0] 26)).alloc (.cells #[.int .i64 lv, .slice V n c, .slice H m d, .int .i64 sm] 120)) wB := kW.trans kB; clear kB; have z3 := cell_keeps ca3 kW; have y0 := cell_keeps c50 kW; have y1 := cell_keeps c51 kW; have y2 := cell_keeps c52 kW; have y3 := cell_keeps c53 kW) | (refine step_anyT (crossed_any (m := m) (c := c) (H := H) (d := d) (lv := lv) (sm := sm) (hV.keeps (Keeps.trans KW.out kW)) (h'.keeps (Keeps.trans KW.out kW)) HV.out) (by rfl) (fun e w' hh => by obtain ⟨_, _, h, _⟩ := hh; exact ⟨_, h⟩) rfl (by kernel_rfl) ?_; intro v9 wB hh; obtain ⟨PA, PC, eE, mP, -, -, kB⟩ := hh; cases eE; replace kW : Keeps ((w.alloc (.cells #[.slice A a c0] 26)).alloc (.cells #[.int .i64 lv, .slice V n c, .slice H m d, .int .i64 sm] 120)) wB := kW.trans kB; clear kB; have z3 := cell_keeps ca3 kW; have y0 := cell_keeps c50 kW; have y1 := cell_keeps c51 kW; have y2 := cell_keeps c52 kW; have y3 := cell_keeps c53 kW) | (refine step_anyT (combinations_any (c := PC) mP.1 HPV.out hn6) (by rfl) (fun e w' hh => by obtain ⟨h, _⟩ := hh; exact ⟨_, h⟩) rfl (by kernel_rfl) ?_; intro v9 wB hh; obtain ⟨eE, kB⟩ := hh; cases eE; rw [HPP.out]; (first | (have mP := SlM.keeps mP kB) | skip); replace kW : Keeps ((w.alloc (.cells #[.slice A a c0] 26)).alloc (.cells #[.int .i64 lv, .slice V n c, .slice H m d, .int .i64 sm] 120)) wB := kW.trans kB; clear kB; have z3 := cell_keeps ca3 kW; have y0 := cell_keeps c50 kW; have y1 := cell_keeps c51 kW; have y2 := cell_keeps c52 kW; have y3 := cell_keeps c53 kW)))
  all_goals (
    have KK := hid (KW.out.trans kW)
    clear mP kW z3 y0 y1 y2 y3 ca3 c50 c51 c52 c53
    go_wp2
    go_ret
    exact ⟨ret_int WR.out, KK.out⟩)
set_option maxRecDepth 100000 in
set_option maxHeartbeats 6400000 in
theorem uCount_any {A A' V H : Option Addr} {lo hi a c0 lo' hi' n c m d q e : Nat} {ps vs : List Int} {l : List VV} {lv sm : Int} {ws : List Int} {w : World} (h : Ints w lo hi A a ps) (h' : Sch w A' q e l) (hV : Ints w lo' hi' V n vs) (hg : geoB ps = true) (hs : schB l = true) (hvs : vsB q vs = true) :
    Calls Tryz.prog 127 #[.agg #[.slice A a c0], .slice A' q e, .agg #[.int .i64 lv, .slice V n c, .slice H m d, .int .i64 sm]] w fun e w' => e = .returned (.int .i64 (tabN ps l (lv, vs, ws, sm))) ∧ Keeps w w' := by
  obtain ⟨lo9, hi9, hv⟩ := h'.v
  have hl := Vars.len hv
  have hnl := hV.1
  obtain ⟨hlv, -, h6⟩ := schB_lv hl hs
  have hb := tabN_bd (t := (lv, vs, ws, sm)) hg hs (by rw [hl]; exact hvs)
  have HN := hid (show tabN ps l (lv, vs, ws, sm) = ((lev ps lv).length : Int) * prodTo (partL l vs) n by rw [← hnl]; rfl)
  have hn6 : n ≤ 6 := by have := vsB_len hvs; omega
  have HPV := hid (show LvOk (partL l vs) n by have := partL_lv hlv hvs; rwa [hnl] at this)
  have HT := hid (tree_of hg)
  have HV := hid hvs
  rw [HN.out] at hb
  clear hl hnl hlv hg hs hvs h6 hv
  have hl30 := lev_len ps lv
  have ha := h.1
  have ha2 := h.le
  obtain ⟨L, hL⟩ : ∃ L, (lev ps lv).length = L := ⟨_, rfl⟩
  obtain ⟨P, hP⟩ : ∃ P, prodTo (partL l vs) n = P := ⟨_, rfl⟩
  rw [hL, hP] at hb HN
  rw [hL] at hl30
  have HLL := hid hL
  have HPP := hid hP
  obtain ⟨hb0, hb1⟩ := hb
  have WR := hid (show IntKind.i64.wrap ((L : Int) * P) = tabN ps l (lv, vs, ws, sm) by rw [IntWalk.i64_in _ (by omega)]; exact HN.out.symm)
  clear hL hP ha
  go_enter Tryz.func127, Tryz.ntmps127
  have kw := keeps_refl w
  replace kw := Keeps.trans kw (keeps_alloc w (.cells #[.slice A a c0] 26))
  have b3 : B1 (w.alloc (.cells #[.slice A a c0] 26)) w.heap.size (.slice A a c0) := B1.new' (by simp)
  replace b3 := b3.keeps (keeps_alloc (w.alloc (.cells #[.slice A a c0] 26)) (.cells #[.int .i64 lv, .slice V n c, .slice H m d, .int .i64 sm] 120))
  replace kw := Keeps.trans kw (keeps_alloc (w.alloc (.cells #[.slice A a c0] 26)) (.cells #[.int .i64 lv, .slice V n c, .slice H m d, .int .i64 sm] 120))
  have b5 : Bl ((w.alloc (.cells #[.slice A a c0] 26)).alloc (.cells #[.int .i64 lv, .slice V n c, .slice H m d, .int .i64 sm] 120)) (w.heap.size + 1) [.int .i64 lv, .slice V n c, .slice H m d, .int .i64 sm] := Bl.new' (by simp) (by simp)
  go_wp2_with fail
  obtain ⟨ca3, -⟩ := id b3
  have c50 := (b5.2 0 _ rfl).1
  have c51 := (b5.2 1 _ rfl).1
  have c52 := (b5.2 2 _ rfl).1
  have c53 := (b5.2 3 _ rfl).1
  have KW := hid kw
  clear kw b3 b5
  have kW := keeps_d0 ((w.alloc (.cells #[.slice A a c0] 26)).alloc (.cells #[.int .i64 lv, .slice V n c, .slice H m d, .int .i64 sm] 120))
  have z3 := cell_keeps ca3 kW
  have y0 := cell_keeps c50 kW
  have y1 := cell_keeps c51 kW
  have y2 := cell_keeps c52 kW
  have y3 := cell_keeps c53 kW
  replace z3 : ((w.alloc (.cells #[.slice A a c0] 26)).alloc (.cells #[.int .i64 lv, .slice V n c, .slice H m d, .int .i64 sm] 120)).drew.cell? ⟨w.heap.size, 0, none⟩ = some (.slice A a c0) := z3
  replace y0 : ((w.alloc (.cells #[.slice A a c0] 26)).alloc (.cells #[.int .i64 lv, .slice V n c, .slice H m d, .int .i64 sm] 120)).drew.cell? ⟨w.heap.size + 1, 0, none⟩ = some (.int .i64 lv) := y0
  replace y1 : ((w.alloc (.cells #[.slice A a c0] 26)).alloc (.cells #[.int .i64 lv, .slice V n c, .slice H m d, .int .i64 sm] 120)).drew.cell? ⟨w.heap.size + 1, 1, none⟩ = some (.slice V n c) := y1
  replace y2 : ((w.alloc (.cells #[.slice A a c0] 26)).alloc (.cells #[.int .i64 lv, .slice V n c, .slice H m d, .int .i64 sm] 120)).drew.cell? ⟨w.heap.size + 1, 2, none⟩ = some (.slice H m d) := y2
  replace y3 : ((w.alloc (.cells #[.slice A a c0] 26)).alloc (.cells #[.int .i64 lv, .slice V n c, .slice H m d, .int .i64 sm] 120)).drew.cell? ⟨w.heap.size + 1, 3, none⟩ = some (.int .i64 sm) := y3
  go_region_law ((first | (refine step_anyT (gLevel_any (lv := lv) (c := c0) (h.keeps (Keeps.trans KW.out kW)) HT.out) (by rfl) (fun e w' hh => by obtain ⟨_, _, h, _⟩ := hh; exact ⟨_, h⟩) rfl (by kernel_rfl) ?_; intro v9 wB hh; obtain ⟨LA, LC, eE, -, kB⟩ := hh; cases eE; rw [HLL.out]; (first | (have mP := SlM.keeps mP kB) | skip); replace kW : Keeps ((w.alloc (.cells #[.slice A a c0] 26)).alloc (.cells #[.int .i64 lv, .slice V n c, .slice H m d, .int .i64 sm] 120)) wB := kW.trans kB; clear kB; have z3 := cell_keeps ca3 kW; have y0 := cell_keeps c50 kW; have y1 := cell_keeps c51 kW; have y2 := cell_keeps c52 kW; have y3 := cell_keeps c53 kW) | (refine step_anyT (sPart_any (c := c) (d := e) (hV.keeps (Keeps.trans KW.out kW)) (h'.keeps (Keeps.trans KW.out kW)) HV.out) (by rfl) (fun e w' hh => by obtain ⟨_, _, h, _⟩ := hh; exact ⟨_, h⟩) rfl (by kernel_rfl) ?_; intro v9 wB hh; obtain ⟨PA, PC, eE, mP, -, -, kB⟩ := hh; cases eE; replace kW : Keeps ((w.alloc (.cells #[.slice A a c0] 26)).alloc (.cells #[.int .i64 lv, .slice V n c, .slice H m d, .int .i64 sm] 120)) wB := kW.trans kB; clear kB; have z3 := cell_keeps ca3 kW; have y0 := cell_keeps c50 kW; have y1 := cell_keeps c51 kW; have y2 := cell_keeps c52 kW; have y3 := cell_keeps c53 kW) | (refine step_anyT (sCount_any (c := PC) mP.1 HPV.out hn6) (by rfl) (fun e w' hh => by obtain ⟨h, _⟩ := hh; exact ⟨_, h⟩) rfl (by kernel_rfl) ?_; intro v9 wB hh; obtain ⟨eE, kB⟩ := hh; cases eE; rw [HPP.out]; (first | (have mP := SlM.keeps mP kB) | skip); replace kW : Keeps ((w.alloc (.cells #[.slice A a c0] 26)).alloc (.cells #[.int .i64 lv, .slice V n c, .slice H m d, .int .i64 sm] 120)) wB := kW.trans kB; clear kB; have z3 := cell_keeps ca3 kW; have y0 := cell_keeps c50 kW; have y1 := cell_keeps c51 kW; have y2 := cell_keeps c52 kW; have y3 := cell_keeps c53 kW)))
  all_goals (
    have KK := hid (KW.out.trans kW)
    clear mP kW z3 y0 y1 y2 y3 ca3 c50 c51 c52 c53
    go_wp2
    go_ret
    exact ⟨ret_int WR.out, KK.out⟩)
set_option maxRecDepth 100000 in
set_option maxHeartbeats 6400000 in
theorem isTable_any {A A' V H : Option Addr} {lo hi a c0 lo' hi' n c lo2 hi2 m d q e : Nat} {ps vs ws : List Int} {l : List VV} {lv sm : Int} {w : World} (h : Ints w lo hi A a ps) (h' : Sch w A' q e l) (hV : Ints w lo' hi' V n vs) (hH : Ints w lo2 hi2 H m ws) (hg : geoB ps = true) (hs : schB l = true) :
    Calls Tryz.prog 102 #[.agg #[.slice A a c0], .slice A' q e, .agg #[.int .i64 lv, .slice V n c, .slice H m d, .int .i64 sm]] w fun e w' => e = .returned (.bool (tabB ps l (lv, vs, ws, sm))) ∧ Keeps w w' := by
  obtain ⟨lo9, hi9, hv⟩ := h'.v
  have hl := Vars.len hv
  have hq := hv.le
  have HLV := hid (schB_lv hl hs).1
  have HB := hid (show tabB ps l (lv, vs, ws, sm) = (vsB q vs && whB l ws && inB sm (-1) ((q : Int) - 1) && (decide (0 < tabN ps l (lv, vs, ws, sm)) && decide (tabN ps l (lv, vs, ws, sm) ≤ 600))) by rw [← hl]; rfl)
  have HLQ := hid hl
  have HG := hid hg
  have HS := hid hs
  clear hl hg hs
  go_enter Tryz.func102, Tryz.ntmps102
  have kw := keeps_refl w
  replace kw := Keeps.trans kw (keeps_alloc w (.cells #[.slice A a c0] 26))
  have b3 : B1 (w.alloc (.cells #[.slice A a c0] 26)) w.heap.size (.slice A a c0) := B1.new' (by simp)
  replace b3 := b3.keeps (keeps_alloc (w.alloc (.cells #[.slice A a c0] 26)) (.cells #[.int .i64 lv, .slice V n c, .slice H m d, .int .i64 sm] 120))
  replace kw := Keeps.trans kw (keeps_alloc (w.alloc (.cells #[.slice A a c0] 26)) (.cells #[.int .i64 lv, .slice V n c, .slice H m d, .int .i64 sm] 120))
  have b5 : Bl ((w.alloc (.cells #[.slice A a c0] 26)).alloc (.cells #[.int .i64 lv, .slice V n c, .slice H m d, .int .i64 sm] 120)) (w.heap.size + 1) [.int .i64 lv, .slice V n c, .slice H m d, .int .i64 sm] := Bl.new' (by simp) (by simp)
  obtain ⟨ca1, fa1⟩ := id b3
  have ca2_0 : ((w.alloc (.cells #[.slice A a c0] 26)).alloc (.cells #[.int .i64 lv, .slice V n c, .slice H m d, .int .i64 sm] 120)).cell? ⟨w.heap.size + 1, 0, none⟩ = some (.int .i64 lv) := (b5.2 0 _ rfl).1
  have ca2_1 : ((w.alloc (.cells #[.slice A a c0] 26)).alloc (.cells #[.int .i64 lv, .slice V n c, .slice H m d, .int .i64 sm] 120)).cell? ⟨w.heap.size + 1, 1, none⟩ = some (.slice V n c) := (b5.2 1 _ rfl).1
  have ca2_2 : ((w.alloc (.cells #[.slice A a c0] 26)).alloc (.cells #[.int .i64 lv, .slice V n c, .slice H m d, .int .i64 sm] 120)).cell? ⟨w.heap.size + 1, 2, none⟩ = some (.slice H m d) := (b5.2 2 _ rfl).1
  have ca2_3 : ((w.alloc (.cells #[.slice A a c0] 26)).alloc (.cells #[.int .i64 lv, .slice V n c, .slice H m d, .int .i64 sm] 120)).cell? ⟨w.heap.size + 1, 3, none⟩ = some (.int .i64 sm) := (b5.2 3 _ rfl).1
  go_wp2_with fail
  clear ca1 fa1 ca2_0 ca2_1 ca2_2 ca2_3
  obtain ⟨pH1, H1⟩ : ∃ pB, Hid (vsB q vs = pB) := ⟨_, rfl⟩
  refine (areVars_any (hV.keeps kw) hq).mono ?_
  rintro e w' ⟨rfl, rfl⟩
  rw [H1.out]
  cases pH1
  · obtain ⟨ca3, fa3⟩ := id b3
    have ca4_0 : ((w.alloc (.cells #[.slice A a c0] 26)).alloc (.cells #[.int .i64 lv, .slice V n c, .slice H m d, .int .i64 sm] 120)).cell? ⟨w.heap.size + 1, 0, none⟩ = some (.int .i64 lv) := (b5.2 0 _ rfl).1
    have ca4_1 : ((w.alloc (.cells #[.slice A a c0] 26)).alloc (.cells #[.int .i64 lv, .slice V n c, .slice H m d, .int .i64 sm] 120)).cell? ⟨w.heap.size + 1, 1, none⟩ = some (.slice V n c) := (b5.2 1 _ rfl).1
    have ca4_2 : ((w.alloc (.cells #[.slice A a c0] 26)).alloc (.cells #[.int .i64 lv, .slice V n c, .slice H m d, .int .i64 sm] 120)).cell? ⟨w.heap.size + 1, 2, none⟩ = some (.slice H m d) := (b5.2 2 _ rfl).1
    have ca4_3 : ((w.alloc (.cells #[.slice A a c0] 26)).alloc (.cells #[.int .i64 lv, .slice V n c, .slice H m d, .int .i64 sm] 120)).cell? ⟨w.heap.size + 1, 3, none⟩ = some (.int .i64 sm) := (b5.2 3 _ rfl).1
    go_wp2_with fail
    clear ca3 fa3 ca4_0 ca4_1 ca4_2 ca4_3
    go_ret
    exact ⟨ret_bool (by rw [HB.out, H1.out]; rfl), kw⟩
  · skip
    obtain ⟨ca3, fa3⟩ := id b3
    have ca4_0 : ((w.alloc (.cells #[.slice A a c0] 26)).alloc (.cells #[.int .i64 lv, .slice V n c, .slice H m d, .int .i64 sm] 120)).cell? ⟨w.heap.size + 1, 0, none⟩ = some (.int .i64 lv) := (b5.2 0 _ rfl).1
    have ca4_1 : ((w.alloc (.cells #[.slice A a c0] 26)).alloc (.cells #[.int .i64 lv, .slice V n c, .slice H m d, .int .i64 sm] 120)).cell? ⟨w.heap.size + 1, 1, none⟩ = some (.slice V n c) := (b5.2 1 _ rfl).1
    have ca4_2 : ((w.alloc (.cells #[.slice A a c0] 26)).alloc (.cells #[.int .i64 lv, .slice V n c, .slice H m d, .int .i64 sm] 120)).cell? ⟨w.heap.size + 1, 2, none⟩ = some (.slice H m d) := (b5.2 2 _ rfl).1
    have ca4_3 : ((w.alloc (.cells #[.slice A a c0] 26)).alloc (.cells #[.int .i64 lv, .slice V n c, .slice H m d, .int .i64 sm] 120)).cell? ⟨w.heap.size + 1, 3, none⟩ = some (.int .i64 sm) := (b5.2 3 _ rfl).1
    go_wp2_with fail
    clear ca3 fa3 ca4_0 ca4_1 ca4_2 ca4_3
    obtain ⟨pH2, H2⟩ : ∃ pB, Hid (whB l ws = pB) := ⟨_, rfl⟩
    refine (isWhere_any (hH.keeps kw) (h'.keeps kw) HLV.out).mono ?_
    rintro e w5 ⟨rfl, k5⟩
    rw [H2.out]
    replace b3 := b3.keeps k5
    replace b5 := b5.keeps k5
    replace kw := Keeps.trans kw k5
    have lt6 := b5.lt
    have sz7 := kw.size
    clear k5
    cases pH2
    · obtain ⟨ca8, fa8⟩ := id b3
      have ca9_0 : w5.cell? ⟨w.heap.size + 1, 0, none⟩ = some (.int .i64 lv) := (b5.2 0 _ rfl).1
      have ca9_1 : w5.cell? ⟨w.heap.size + 1, 1, none⟩ = some (.slice V n c) := (b5.2 1 _ rfl).1
      have ca9_2 : w5.cell? ⟨w.heap.size + 1, 2, none⟩ = some (.slice H m d) := (b5.2 2 _ rfl).1
      have ca9_3 : w5.cell? ⟨w.heap.size + 1, 3, none⟩ = some (.int .i64 sm) := (b5.2 3 _ rfl).1
      go_wp2_with fail
      clear ca8 fa8 ca9_0 ca9_1 ca9_2 ca9_3
      go_ret
      exact ⟨ret_bool (by rw [HB.out, H1.out, H2.out]; rfl), kw⟩
    · skip
      by_cases hx : sm < -1
      · have HX := hid (inB_not (a := sm) (lo := -1) (hi := (q : Int) - 1) (by omega))
        have ca8_0 : w5.cell? ⟨w.heap.size + 1, 0, none⟩ = some (.int .i64 lv) := (b5.2 0 _ rfl).1
        have ca8_1 : w5.cell? ⟨w.heap.size + 1, 1, none⟩ = some (.slice V n c) := (b5.2 1 _ rfl).1
        have ca8_2 : w5.cell? ⟨w.heap.size + 1, 2, none⟩ = some (.slice H m d) := (b5.2 2 _ rfl).1
        have ca8_3 : w5.cell? ⟨w.heap.size + 1, 3, none⟩ = some (.int .i64 sm) := (b5.2 3 _ rfl).1
        obtain ⟨ca9, fa9⟩ := id b3
        go_wp2_with fail
        clear ca8_0 ca8_1 ca8_2 ca8_3 ca9 fa9
        go_ret
        exact ⟨ret_bool (by rw [HB.out, H1.out, H2.out, HX.out]; rfl), kw⟩
      have hx1 := hx
      clear hx
      by_cases hx : (q : Int) ≤ sm
      · have HX := hid (inB_not (a := sm) (lo := -1) (hi := (q : Int) - 1) (by omega))
        have ca8_0 : w5.cell? ⟨w.heap.size + 1, 0, none⟩ = some (.int .i64 lv) := (b5.2 0 _ rfl).1
        have ca8_1 : w5.cell? ⟨w.heap.size + 1, 1, none⟩ = some (.slice V n c) := (b5.2 1 _ rfl).1
        have ca8_2 : w5.cell? ⟨w.heap.size + 1, 2, none⟩ = some (.slice H m d) := (b5.2 2 _ rfl).1
        have ca8_3 : w5.cell? ⟨w.heap.size + 1, 3, none⟩ = some (.int .i64 sm) := (b5.2 3 _ rfl).1
        obtain ⟨ca9, fa9⟩ := id b3
        go_wp2_with fail
        clear ca8_0 ca8_1 ca8_2 ca8_3 ca9 fa9
        go_ret
        exact ⟨ret_bool (by rw [HB.out, H1.out, H2.out, HX.out]; rfl), kw⟩
      have hx2 := hx
      clear hx
      have HX := hid (inB_true (a := sm) (lo := -1) (hi := (q : Int) - 1) |>.2 (by omega))
      have HBD := hid (tabN_bd (t := (lv, vs, ws, sm)) HG.out HS.out (by rw [HLQ.out]; exact H1.out))
      have ca8_0 : w5.cell? ⟨w.heap.size + 1, 0, none⟩ = some (.int .i64 lv) := (b5.2 0 _ rfl).1
      have ca8_1 : w5.cell? ⟨w.heap.size + 1, 1, none⟩ = some (.slice V n c) := (b5.2 1 _ rfl).1
      have ca8_2 : w5.cell? ⟨w.heap.size + 1, 2, none⟩ = some (.slice H m d) := (b5.2 2 _ rfl).1
      have ca8_3 : w5.cell? ⟨w.heap.size + 1, 3, none⟩ = some (.int .i64 sm) := (b5.2 3 _ rfl).1
      obtain ⟨ca9, fa9⟩ := id b3
      go_wp2_with fail
      clear ca8_0 ca8_1 ca8_2 ca8_3 ca9 fa9
      refine (cellCount_any (ws := ws) (h.keeps kw) (h'.keeps kw) (hV.keeps kw) HG.out HS.out H1.out).mono ?_
      rintro e w10 ⟨rfl, k10⟩
      replace b3 := b3.keeps k10
      replace b5 := b5.keeps k10
      replace kw := Keeps.trans kw k10
      have lt11 := b5.lt
      have sz12 := kw.size
      clear k10
      obtain ⟨N, hN⟩ : ∃ N, tabN ps l (lv, vs, ws, sm) = N := ⟨_, rfl⟩
      rw [hN] at HB HBD
      rw [hN]
      clear hN b3 b5
      have hbd := HBD.out
      by_cases h0 : 0 < N
      rotate_left
      · go_wp2_with fail
        go_ret
        exact ⟨ret_bool (by rw [HB.out, H1.out, H2.out, HX.out, decide_eq_false (show ¬ 0 < N by omega)]; rfl), kw⟩
      by_cases h6 : N ≤ 600
      · go_wp2_with fail
        go_ret
        exact ⟨ret_bool (by rw [HB.out, H1.out, H2.out, HX.out, decide_eq_true h0, decide_eq_true h6]; rfl), kw⟩
      · go_wp2_with fail
        go_ret
        exact ⟨ret_bool (by rw [HB.out, H1.out, H2.out, HX.out, decide_eq_true h0, decide_eq_false (show ¬ N ≤ 600 by omega)]; rfl), kw⟩
set_option maxRecDepth 100000 in
set_option maxHeartbeats 6400000 in
theorem uGood_any {A A' V H : Option Addr} {lo hi a c0 lo' hi' n c lo2 hi2 m d q e : Nat} {ps vs ws : List Int} {l : List VV} {lv sm : Int} {w : World} (h : Ints w lo hi A a ps) (h' : Sch w A' q e l) (hV : Ints w lo' hi' V n vs) (hH : Ints w lo2 hi2 H m ws) (hg : geoB ps = true) (hs : schB l = true) :
    Calls Tryz.prog 71 #[.agg #[.slice A a c0], .slice A' q e, .agg #[.int .i64 lv, .slice V n c, .slice H m d, .int .i64 sm]] w fun e w' => e = .returned (.bool (tabB ps l (lv, vs, ws, sm))) ∧ Keeps w w' := by
  obtain ⟨lo9, hi9, hv⟩ := h'.v
  have hl := Vars.len hv
  have hq := hv.le
  have HLV := hid (schB_lv hl hs).1
  have HB := hid (show tabB ps l (lv, vs, ws, sm) = (vsB q vs && whB l ws && inB sm (-1) ((q : Int) - 1) && (decide (0 < tabN ps l (lv, vs, ws, sm)) && decide (tabN ps l (lv, vs, ws, sm) ≤ 600))) by rw [← hl]; rfl)
  have HLQ := hid hl
  have HG := hid hg
  have HS := hid hs
  clear hl hg hs
  have HT := hid (tree_of HG.out)
  have hB5 : True := trivial
  go_enter Tryz.func71, Tryz.ntmps71
  have kw := keeps_refl w
  replace kw := Keeps.trans kw (keeps_alloc w (.cells #[.slice A a c0] 26))
  have b3 : B1 (w.alloc (.cells #[.slice A a c0] 26)) w.heap.size (.slice A a c0) := B1.new' (by simp)
  replace b3 := b3.keeps (keeps_alloc (w.alloc (.cells #[.slice A a c0] 26)) (.cells #[.int .i64 lv, .slice V n c, .slice H m d, .int .i64 sm] 120))
  replace kw := Keeps.trans kw (keeps_alloc (w.alloc (.cells #[.slice A a c0] 26)) (.cells #[.int .i64 lv, .slice V n c, .slice H m d, .int .i64 sm] 120))
  have b5 : Bl ((w.alloc (.cells #[.slice A a c0] 26)).alloc (.cells #[.int .i64 lv, .slice V n c, .slice H m d, .int .i64 sm] 120)) (w.heap.size + 1) [.int .i64 lv, .slice V n c, .slice H m d, .int .i64 sm] := Bl.new' (by simp) (by simp)
  obtain ⟨ca1, fa1⟩ := id b3
  have ca2_0 : ((w.alloc (.cells #[.slice A a c0] 26)).alloc (.cells #[.int .i64 lv, .slice V n c, .slice H m d, .int .i64 sm] 120)).cell? ⟨w.heap.size + 1, 0, none⟩ = some (.int .i64 lv) := (b5.2 0 _ rfl).1
  have ca2_1 : ((w.alloc (.cells #[.slice A a c0] 26)).alloc (.cells #[.int .i64 lv, .slice V n c, .slice H m d, .int .i64 sm] 120)).cell? ⟨w.heap.size + 1, 1, none⟩ = some (.slice V n c) := (b5.2 1 _ rfl).1
  have ca2_2 : ((w.alloc (.cells #[.slice A a c0] 26)).alloc (.cells #[.int .i64 lv, .slice V n c, .slice H m d, .int .i64 sm] 120)).cell? ⟨w.heap.size + 1, 2, none⟩ = some (.slice H m d) := (b5.2 2 _ rfl).1
  have ca2_3 : ((w.alloc (.cells #[.slice A a c0] 26)).alloc (.cells #[.int .i64 lv, .slice V n c, .slice H m d, .int .i64 sm] 120)).cell? ⟨w.heap.size + 1, 3, none⟩ = some (.int .i64 sm) := (b5.2 3 _ rfl).1
  go_wp2_with fail
  clear ca1 fa1 ca2_0 ca2_1 ca2_2 ca2_3
  refine (gGood_any (h.keeps kw)).mono ?_
  rintro e w3 ⟨rfl, k3⟩
  rw [HG.out]
  replace b3 := b3.keeps k3
  replace b5 := b5.keeps k3
  replace kw := Keeps.trans kw k3
  have lt4 := b5.lt
  have sz5 := kw.size
  clear k3
  obtain ⟨ca6, fa6⟩ := id b3
  have ca7_0 : w3.cell? ⟨w.heap.size + 1, 0, none⟩ = some (.int .i64 lv) := (b5.2 0 _ rfl).1
  have ca7_1 : w3.cell? ⟨w.heap.size + 1, 1, none⟩ = some (.slice V n c) := (b5.2 1 _ rfl).1
  have ca7_2 : w3.cell? ⟨w.heap.size + 1, 2, none⟩ = some (.slice H m d) := (b5.2 2 _ rfl).1
  have ca7_3 : w3.cell? ⟨w.heap.size + 1, 3, none⟩ = some (.int .i64 sm) := (b5.2 3 _ rfl).1
  go_wp2_with fail
  clear ca6 fa6 ca7_0 ca7_1 ca7_2 ca7_3
  refine (sGood_any (Sl.keeps hv kw) h'.ok h'.cap h'.c64).mono ?_
  rintro e w8 ⟨rfl, k8⟩
  rw [HS.out]
  replace b3 := b3.keeps k8
  replace b5 := b5.keeps k8
  replace kw := Keeps.trans kw k8
  have lt9 := b5.lt
  have sz10 := kw.size
  clear k8
  obtain ⟨ca11, fa11⟩ := id b3
  have ca12_0 : w8.cell? ⟨w.heap.size + 1, 0, none⟩ = some (.int .i64 lv) := (b5.2 0 _ rfl).1
  have ca12_1 : w8.cell? ⟨w.heap.size + 1, 1, none⟩ = some (.slice V n c) := (b5.2 1 _ rfl).1
  have ca12_2 : w8.cell? ⟨w.heap.size + 1, 2, none⟩ = some (.slice H m d) := (b5.2 2 _ rfl).1
  have ca12_3 : w8.cell? ⟨w.heap.size + 1, 3, none⟩ = some (.int .i64 sm) := (b5.2 3 _ rfl).1
  go_wp2_with fail
  clear ca11 fa11 ca12_0 ca12_1 ca12_2 ca12_3
  refine (gLevel_any (lv := lv) (h.keeps kw) HT.out).mono ?_
  rintro e w13 ⟨LA, LC, rfl, mL, k13⟩
  replace b3 := b3.keeps k13
  replace b5 := b5.keeps k13
  replace kw := Keeps.trans kw k13
  have lt14 := b5.lt
  have sz15 := kw.size
  clear k13
  clear mL
  obtain ⟨L, hL⟩ : ∃ L, (lev ps lv).length = L := ⟨_, rfl⟩
  rw [hL]
  have HLL := hid hL
  clear hL
  by_cases hL0 : L = 0
  · subst hL0
    have HZ := hid (tabN_zero (l := l) (t := (lv, vs, ws, sm)) HLL.out)
    have HF := hid (show tabB ps l (lv, vs, ws, sm) = false by rw [HB.out, HZ.out]; simp)
    obtain ⟨ca16, fa16⟩ := id b3
    have ca17_0 : w13.cell? ⟨w.heap.size + 1, 0, none⟩ = some (.int .i64 lv) := (b5.2 0 _ rfl).1
    have ca17_1 : w13.cell? ⟨w.heap.size + 1, 1, none⟩ = some (.slice V n c) := (b5.2 1 _ rfl).1
    have ca17_2 : w13.cell? ⟨w.heap.size + 1, 2, none⟩ = some (.slice H m d) := (b5.2 2 _ rfl).1
    have ca17_3 : w13.cell? ⟨w.heap.size + 1, 3, none⟩ = some (.int .i64 sm) := (b5.2 3 _ rfl).1
    go_wp2_with fail
    clear ca16 fa16 ca17_0 ca17_1 ca17_2 ca17_3
    go_ret
    exact ⟨ret_bool HF.out.symm, kw⟩
  have t1 : ((L : Int) == 0) = false := by rw [beq_eq_false_iff_ne]; omega
  have HL0 := hid hL0
  clear hL0
  obtain ⟨ca16, fa16⟩ := id b3
  have ca17_0 : w13.cell? ⟨w.heap.size + 1, 0, none⟩ = some (.int .i64 lv) := (b5.2 0 _ rfl).1
  have ca17_1 : w13.cell? ⟨w.heap.size + 1, 1, none⟩ = some (.slice V n c) := (b5.2 1 _ rfl).1
  have ca17_2 : w13.cell? ⟨w.heap.size + 1, 2, none⟩ = some (.slice H m d) := (b5.2 2 _ rfl).1
  have ca17_3 : w13.cell? ⟨w.heap.size + 1, 3, none⟩ = some (.int .i64 sm) := (b5.2 3 _ rfl).1
  go_wp2_with fail
  clear ca16 fa16 ca17_0 ca17_1 ca17_2 ca17_3
  obtain ⟨pH1, H1⟩ : ∃ pB, Hid (vsB q vs = pB) := ⟨_, rfl⟩
  refine (l1Rising_any (hV.keeps kw) hq).mono ?_
  rintro e w' ⟨rfl, rfl⟩
  rw [H1.out]
  cases pH1
  · obtain ⟨ca18, fa18⟩ := id b3
    have ca19_0 : w13.cell? ⟨w.heap.size + 1, 0, none⟩ = some (.int .i64 lv) := (b5.2 0 _ rfl).1
    have ca19_1 : w13.cell? ⟨w.heap.size + 1, 1, none⟩ = some (.slice V n c) := (b5.2 1 _ rfl).1
    have ca19_2 : w13.cell? ⟨w.heap.size + 1, 2, none⟩ = some (.slice H m d) := (b5.2 2 _ rfl).1
    have ca19_3 : w13.cell? ⟨w.heap.size + 1, 3, none⟩ = some (.int .i64 sm) := (b5.2 3 _ rfl).1
    go_wp2_with fail
    clear ca18 fa18 ca19_0 ca19_1 ca19_2 ca19_3
    go_ret
    exact ⟨ret_bool (by rw [HB.out, H1.out]; rfl), kw⟩
  · skip
    obtain ⟨ca18, fa18⟩ := id b3
    have ca19_0 : w13.cell? ⟨w.heap.size + 1, 0, none⟩ = some (.int .i64 lv) := (b5.2 0 _ rfl).1
    have ca19_1 : w13.cell? ⟨w.heap.size + 1, 1, none⟩ = some (.slice V n c) := (b5.2 1 _ rfl).1
    have ca19_2 : w13.cell? ⟨w.heap.size + 1, 2, none⟩ = some (.slice H m d) := (b5.2 2 _ rfl).1
    have ca19_3 : w13.cell? ⟨w.heap.size + 1, 3, none⟩ = some (.int .i64 sm) := (b5.2 3 _ rfl).1
    go_wp2_with fail
    clear ca18 fa18 ca19_0 ca19_1 ca19_2 ca19_3
    obtain ⟨pH2, H2⟩ : ∃ pB, Hid (whB l ws = pB) := ⟨_, rfl⟩
    refine (uWhere_any (hH.keeps kw) (h'.keeps kw) HLV.out).mono ?_
    rintro e w20 ⟨rfl, k20⟩
    rw [H2.out]
    replace b3 := b3.keeps k20
    replace b5 := b5.keeps k20
    replace kw := Keeps.trans kw k20
    have lt21 := b5.lt
    have sz22 := kw.size
    clear k20
    cases pH2
    · obtain ⟨ca23, fa23⟩ := id b3
      have ca24_0 : w20.cell? ⟨w.heap.size + 1, 0, none⟩ = some (.int .i64 lv) := (b5.2 0 _ rfl).1
      have ca24_1 : w20.cell? ⟨w.heap.size + 1, 1, none⟩ = some (.slice V n c) := (b5.2 1 _ rfl).1
      have ca24_2 : w20.cell? ⟨w.heap.size + 1, 2, none⟩ = some (.slice H m d) := (b5.2 2 _ rfl).1
      have ca24_3 : w20.cell? ⟨w.heap.size + 1, 3, none⟩ = some (.int .i64 sm) := (b5.2 3 _ rfl).1
      go_wp2_with fail
      clear ca23 fa23 ca24_0 ca24_1 ca24_2 ca24_3
      go_ret
      exact ⟨ret_bool (by rw [HB.out, H1.out, H2.out]; rfl), kw⟩
    · skip
      obtain ⟨ca23, fa23⟩ := id b3
      have ca24_0 : w20.cell? ⟨w.heap.size + 1, 0, none⟩ = some (.int .i64 lv) := (b5.2 0 _ rfl).1
      have ca24_1 : w20.cell? ⟨w.heap.size + 1, 1, none⟩ = some (.slice V n c) := (b5.2 1 _ rfl).1
      have ca24_2 : w20.cell? ⟨w.heap.size + 1, 2, none⟩ = some (.slice H m d) := (b5.2 2 _ rfl).1
      have ca24_3 : w20.cell? ⟨w.heap.size + 1, 3, none⟩ = some (.int .i64 sm) := (b5.2 3 _ rfl).1
      go_wp2_with fail
      clear ca23 fa23 ca24_0 ca24_1 ca24_2 ca24_3
      obtain ⟨pH3, H3⟩ : ∃ pB, Hid (inB sm (-1) ((q : Int) - 1) = pB) := ⟨_, rfl⟩
      refine (l1In_any _ _ _ _).mono ?_
      rintro e w' ⟨rfl, rfl⟩
      rw [H3.out]
      cases pH3
      · obtain ⟨ca25, fa25⟩ := id b3
        have ca26_0 : w20.cell? ⟨w.heap.size + 1, 0, none⟩ = some (.int .i64 lv) := (b5.2 0 _ rfl).1
        have ca26_1 : w20.cell? ⟨w.heap.size + 1, 1, none⟩ = some (.slice V n c) := (b5.2 1 _ rfl).1
        have ca26_2 : w20.cell? ⟨w.heap.size + 1, 2, none⟩ = some (.slice H m d) := (b5.2 2 _ rfl).1
        have ca26_3 : w20.cell? ⟨w.heap.size + 1, 3, none⟩ = some (.int .i64 sm) := (b5.2 3 _ rfl).1
        go_wp2_with fail
        clear ca25 fa25 ca26_0 ca26_1 ca26_2 ca26_3
        go_ret
        exact ⟨ret_bool (by rw [HB.out, H1.out, H2.out, H3.out]; rfl), kw⟩
      · skip
        obtain ⟨ca25, fa25⟩ := id b3
        have ca26_0 : w20.cell? ⟨w.heap.size + 1, 0, none⟩ = some (.int .i64 lv) := (b5.2 0 _ rfl).1
        have ca26_1 : w20.cell? ⟨w.heap.size + 1, 1, none⟩ = some (.slice V n c) := (b5.2 1 _ rfl).1
        have ca26_2 : w20.cell? ⟨w.heap.size + 1, 2, none⟩ = some (.slice H m d) := (b5.2 2 _ rfl).1
        have ca26_3 : w20.cell? ⟨w.heap.size + 1, 3, none⟩ = some (.int .i64 sm) := (b5.2 3 _ rfl).1
        go_wp2_with fail
        clear ca25 fa25 ca26_0 ca26_1 ca26_2 ca26_3
        have HPO := hid (tabN_pos (ps := ps) (t := (lv, vs, ws, sm)) HS.out (by rw [HLQ.out]; exact H1.out) (by rw [HLL.out]; exact HL0.out))
        have HBD := hid (tabN_bd (t := (lv, vs, ws, sm)) HG.out HS.out (by rw [HLQ.out]; exact H1.out))
        refine (uCount_any (ws := ws) (h.keeps kw) (h'.keeps kw) (hV.keeps kw) HG.out HS.out H1.out).mono ?_
        rintro e w27 ⟨rfl, k27⟩
        replace b3 := b3.keeps k27
        replace b5 := b5.keeps k27
        replace kw := Keeps.trans kw k27
        have lt28 := b5.lt
        have sz29 := kw.size
        clear k27
        obtain ⟨N, hN⟩ : ∃ N, tabN ps l (lv, vs, ws, sm) = N := ⟨_, rfl⟩
        rw [hN] at HB HBD HPO
        rw [hN]
        clear hN b3 b5
        have hbd := HBD.out
        have hpo := HPO.out
        by_cases h6 : N ≤ 600
        · go_wp2_with fail
          go_ret
          exact ⟨ret_bool (by rw [HB.out, H1.out, H2.out, H3.out, decide_eq_true HPO.out, decide_eq_true h6]; rfl), kw⟩
        · go_wp2_with fail
          go_ret
          exact ⟨ret_bool (by rw [HB.out, H1.out, H2.out, H3.out, decide_eq_true HPO.out, decide_eq_false (show ¬ N ≤ 600 by omega)]; rfl), kw⟩
set_option maxRecDepth 100000 in
set_option maxHeartbeats 1600000 in
theorem nInput_any {A A' : Option Addr} {lo hi a c0 q e : Nat} {ps : List Int} {l : List VV} {w : World} (h : Ints w lo hi A a ps) (h' : Sch w A' q e l) :
    Calls Tryz.prog 115 #[.agg #[.slice A a c0], .slice A' q e] w fun e w' => e = .returned (.bool (geoB ps && schB l)) ∧ Keeps w w' := by
  obtain ⟨lo9, hi9, hv⟩ := h'.v
  obtain ⟨X, hX⟩ : ∃ X, (geoB ps && schB l) = X := ⟨_, rfl⟩
  rw [hX]
  have HB := hid hX
  clear hX
  go_enter Tryz.func115, Tryz.ntmps115
  have kw := keeps_refl w
  replace kw := Keeps.trans kw (keeps_alloc w (.cells #[.slice A a c0] 26))
  have b2 : B1 (w.alloc (.cells #[.slice A a c0] 26)) w.heap.size (.slice A a c0) := B1.new' (by simp)
  obtain ⟨ca1, fa1⟩ := id b2
  go_wp2_with fail
  clear ca1 fa1
  obtain ⟨pH1, H1⟩ : ∃ pB, Hid (geoB ps = pB) := ⟨_, rfl⟩
  refine (gGood_any (h.keeps kw)).mono ?_
  rintro e w2 ⟨rfl, k2⟩
  rw [H1.out]
  replace b2 := b2.keeps k2
  replace kw := Keeps.trans kw k2
  have lt3 := b2.lt
  have sz4 := kw.size
  clear k2
  cases pH1
  · go_wp2_with fail
    go_ret
    exact ⟨ret_bool (by rw [← HB.out, H1.out]; rfl), kw⟩
  · skip
    go_wp2_with fail
    obtain ⟨p2, H2⟩ : ∃ pB, Hid (schB l = pB) := ⟨_, rfl⟩
    refine (sGood_any (Sl.keeps hv kw) h'.ok h'.cap h'.c64).mono ?_
    rintro e w5 ⟨rfl, k5⟩
    rw [H2.out]
    replace b2 := b2.keeps k5
    replace kw := Keeps.trans kw k5
    have lt6 := b2.lt
    have sz7 := kw.size
    clear k5
    go_wp2_with fail
    go_ret
    exact ⟨ret_bool (by rw [← HB.out, H1.out, H2.out]; rfl), kw⟩
set_option maxRecDepth 100000 in
set_option maxHeartbeats 6400000 in
theorem isPlan_any {A A' Q : Option Addr} {lo hi a c0 lo3 hi3 n c q e : Nat} {un : Bool} {ps : List Int} {l : List VV} {ts : List TT} {w : World} (h : Ints w lo hi A a ps) (h' : Sch w A' q e l) (ht : Tabs true un w lo3 hi3 Q n ts) (hg : geoB ps = true) (hs : schB l = true) :
    Calls Tryz.prog 55 #[.agg #[.slice A a c0], .slice A' q e, .slice Q n c] w fun e w' => e = .returned (.bool (plB ps l ts)) ∧ Keeps w w' := by
  obtain ⟨lo9, hi9, hv⟩ := h'.v
  have HG := hid hg
  have HS := hid hs
  have HTL := hid ht.len
  have hn := ht.le
  clear hg hs
  go_enter Tryz.func55, Tryz.ntmps55
  have kw := keeps_refl w
  replace kw := Keeps.trans kw (keeps_alloc w (.cells #[.slice A a c0] 26))
  have b3 : B1 (w.alloc (.cells #[.slice A a c0] 26)) w.heap.size (.slice A a c0) := B1.new' (by simp)
  obtain ⟨ca1, fa1⟩ := id b3
  go_wp2_with fail
  clear ca1 fa1
  refine (IsGeo_any (h.keeps kw)).mono ?_
  rintro e w2 ⟨rfl, k2⟩
  rw [HG.out]
  replace b3 := b3.keeps k2
  replace kw := Keeps.trans kw k2
  have lt3 := b3.lt
  have sz4 := kw.size
  clear k2
  obtain ⟨ca5, fa5⟩ := id b3
  go_wp2_with fail
  clear ca5 fa5
  refine (IsSchema_any (Sl.keeps hv kw) h'.ok h'.cap h'.c64).mono ?_
  rintro e w6 ⟨rfl, k6⟩
  rw [HS.out]
  replace b3 := b3.keeps k6
  replace kw := Keeps.trans kw k6
  have lt7 := b3.lt
  have sz8 := kw.size
  clear k6
  by_cases h20 : n ≤ 20
  rotate_left
  · have HX := hid (plB_len (ps := ps) (l := l) (ts := ts) (by rw [HTL.out]; exact h20))
    obtain ⟨ca9, fa9⟩ := id b3
    go_wp2_with fail
    clear ca9 fa9
    go_ret
    exact ⟨ret_bool HX.out.symm, kw⟩
  obtain ⟨ca9, fa9⟩ := id b3
  go_wp2_with fail
  clear ca9 fa9
  go_loopw [24] (fun i wr => ∃ k : Nat, k ≤ n ∧ i = .int .i64 k ∧ Hid (plTo ps l ts k = true) ∧ B1 wr w.heap.size (.slice A a c0) ∧ Keeps w wr) (fun i _ => n - (intOf i).toNat)
  case atStart => exact ⟨0, Nat.zero_le _, rfl, hid rfl, b3, kw⟩
  clear b3 kw
  case round =>
    obtain ⟨k, hk, rfl, HT, b3, kw⟩ := hrel
    by_cases hlt : k < n
    · obtain ⟨b, off, lv, V, nv, cv, H, nh, ch, sm, vs, ws, rfl, _, _, hc0, hc1, hc2, hc3, hvv, hhh, hx⟩ := (ht.keeps kw).at_ hlt
      have hi1 : (k : Int) < (n : Int) := by omega
      obtain ⟨p, HP⟩ : ∃ p, Hid (tabB ps l (lv, vs, ws, sm) = p) := ⟨_, rfl⟩
      have HP2 := hid (show tabB ps l (ts.getD k t0) = p by rw [← hx.out]; exact HP.out)
      clear hx
      have lt3 := b3.lt
      replace b3 := b3.keeps (keeps_alloc wr (.cells #[.int .i64 lv, .slice V nv cv, .slice H nh ch, .int .i64 sm] 120))
      replace hvv := hvv.keeps (keeps_alloc wr (.cells #[.int .i64 lv, .slice V nv cv, .slice H nh ch, .int .i64 sm] 120))
      replace hhh := hhh.keeps (keeps_alloc wr (.cells #[.int .i64 lv, .slice V nv cv, .slice H nh ch, .int .i64 sm] 120))
      replace kw := Keeps.trans kw (keeps_alloc wr (.cells #[.int .i64 lv, .slice V nv cv, .slice H nh ch, .int .i64 sm] 120))
      have b8 : Bl (wr.alloc (.cells #[.int .i64 lv, .slice V nv cv, .slice H nh ch, .int .i64 sm] 120)) wr.heap.size [.int .i64 lv, .slice V nv cv, .slice H nh ch, .int .i64 sm] := Bl.new' (by simp) (by simp)
      obtain ⟨ca10, fa10⟩ := id b3
      have ca11_0 : (wr.alloc (.cells #[.int .i64 lv, .slice V nv cv, .slice H nh ch, .int .i64 sm] 120)).cell? ⟨wr.heap.size, 0, none⟩ = some (.int .i64 lv) := (b8.2 0 _ rfl).1
      have ca11_1 : (wr.alloc (.cells #[.int .i64 lv, .slice V nv cv, .slice H nh ch, .int .i64 sm] 120)).cell? ⟨wr.heap.size, 1, none⟩ = some (.slice V nv cv) := (b8.2 1 _ rfl).1
      have ca11_2 : (wr.alloc (.cells #[.int .i64 lv, .slice V nv cv, .slice H nh ch, .int .i64 sm] 120)).cell? ⟨wr.heap.size, 2, none⟩ = some (.slice H nh ch) := (b8.2 2 _ rfl).1
      have ca11_3 : (wr.alloc (.cells #[.int .i64 lv, .slice V nv cv, .slice H nh ch, .int .i64 sm] 120)).cell? ⟨wr.heap.size, 3, none⟩ = some (.int .i64 sm) := (b8.2 3 _ rfl).1
      go_wp2_with fail
      clear ca10 fa10 ca11_0 ca11_1 ca11_2 ca11_3
      refine (isTable_any (h.keeps kw) (h'.keeps kw) hvv hhh HG.out HS.out).mono ?_
      rintro e w12 ⟨rfl, k12⟩
      rw [HP.out]
      replace b3 := b3.keeps k12
      replace b8 := b8.keeps k12
      replace hvv := hvv.keeps k12
      replace hhh := hhh.keeps k12
      replace kw := Keeps.trans kw k12
      have lt13 := b8.lt
      have sz14 := kw.size
      clear k12
      clear hc0 hc1 hc2 hc3 b8
      cases p
      · have HX := hid (plB_no HTL.out hlt HP2.out)
        obtain ⟨ca15, fa15⟩ := id b3
        go_wp2_with fail
        clear ca15 fa15
        go_ret
        exact ⟨ret_bool HX.out.symm, kw⟩
      have HN := hid (show plTo ps l ts (k + 1) = true by unfold plTo; rw [HT.out, HP2.out]; rfl)
      obtain ⟨ca15, fa15⟩ := id b3
      go_wp2_with fail
      clear ca15 fa15
      go_roundw
      case rel => exact ⟨k + 1, by omega, by go_num, HN, b3, kw⟩
      case measure => simp [intOf]; omega
    · obtain rfl : k = n := by omega
      have HX := hid (plB_yes HTL.out h20 HT.out)
      go_wp2
      go_ret
      exact ⟨ret_bool HX.out.symm, kw⟩
set_option maxRecDepth 100000 in
set_option maxHeartbeats 6400000 in
theorem nPlan_any {A A' Q : Option Addr} {lo hi a c0 lo3 hi3 n c q e : Nat} {un : Bool} {ps : List Int} {l : List VV} {ts : List TT} {w : World} (h : Ints w lo hi A a ps) (h' : Sch w A' q e l) (ht : Tabs true un w lo3 hi3 Q n ts) (hg : geoB ps = true) (hs : schB l = true) :
    Calls Tryz.prog 97 #[.agg #[.slice A a c0], .slice A' q e, .slice Q n c] w fun e w' => e = .returned (.bool (plB ps l ts)) ∧ Keeps w w' := by
  obtain ⟨lo9, hi9, hv⟩ := h'.v
  have HG := hid hg
  have HS := hid hs
  have HTL := hid ht.len
  have hn := ht.le
  clear hg hs
  have HGS := hid (show (geoB ps && schB l) = true by rw [HG.out, HS.out]; rfl)
  go_enter Tryz.func97, Tryz.ntmps97
  have kw := keeps_refl w
  replace kw := Keeps.trans kw (keeps_alloc w (.cells #[.slice A a c0] 26))
  have b3 : B1 (w.alloc (.cells #[.slice A a c0] 26)) w.heap.size (.slice A a c0) := B1.new' (by simp)
  obtain ⟨ca1, fa1⟩ := id b3
  go_wp2_with fail
  clear ca1 fa1
  refine (nInput_any (h.keeps kw) (h'.keeps kw)).mono ?_
  rintro e w2 ⟨rfl, k2⟩
  rw [HGS.out]
  replace b3 := b3.keeps k2
  replace kw := Keeps.trans kw k2
  have lt3 := b3.lt
  have sz4 := kw.size
  clear k2
  by_cases h20 : n ≤ 20
  rotate_left
  · have HX := hid (plB_len (ps := ps) (l := l) (ts := ts) (by rw [HTL.out]; exact h20))
    obtain ⟨ca5, fa5⟩ := id b3
    go_wp2_with fail
    clear ca5 fa5
    go_ret
    exact ⟨ret_bool HX.out.symm, kw⟩
  obtain ⟨ca5, fa5⟩ := id b3
  go_wp2_with fail
  clear ca5 fa5
  go_loopw [20] (fun i wr => ∃ k : Nat, k ≤ n ∧ i = .int .i64 k ∧ Hid (plTo ps l ts k = true) ∧ B1 wr w.heap.size (.slice A a c0) ∧ Keeps w wr) (fun i _ => n - (intOf i).toNat)
  case atStart => exact ⟨0, Nat.zero_le _, rfl, hid rfl, b3, kw⟩
  clear b3 kw
  case round =>
    obtain ⟨k, hk, rfl, HT, b3, kw⟩ := hrel
    by_cases hlt : k < n
    · obtain ⟨b, off, lv, V, nv, cv, H, nh, ch, sm, vs, ws, rfl, _, _, hc0, hc1, hc2, hc3, hvv, hhh, hx⟩ := (ht.keeps kw).at_ hlt
      have hi1 : (k : Int) < (n : Int) := by omega
      obtain ⟨p, HP⟩ : ∃ p, Hid (tabB ps l (lv, vs, ws, sm) = p) := ⟨_, rfl⟩
      have HP2 := hid (show tabB ps l (ts.getD k t0) = p by rw [← hx.out]; exact HP.out)
      clear hx
      have lt3 := b3.lt
      replace b3 := b3.keeps (keeps_alloc wr (.cells #[.int .i64 lv, .slice V nv cv, .slice H nh ch, .int .i64 sm] 120))
      replace hvv := hvv.keeps (keeps_alloc wr (.cells #[.int .i64 lv, .slice V nv cv, .slice H nh ch, .int .i64 sm] 120))
      replace hhh := hhh.keeps (keeps_alloc wr (.cells #[.int .i64 lv, .slice V nv cv, .slice H nh ch, .int .i64 sm] 120))
      replace kw := Keeps.trans kw (keeps_alloc wr (.cells #[.int .i64 lv, .slice V nv cv, .slice H nh ch, .int .i64 sm] 120))
      have b8 : Bl (wr.alloc (.cells #[.int .i64 lv, .slice V nv cv, .slice H nh ch, .int .i64 sm] 120)) wr.heap.size [.int .i64 lv, .slice V nv cv, .slice H nh ch, .int .i64 sm] := Bl.new' (by simp) (by simp)
      obtain ⟨ca6, fa6⟩ := id b3
      have ca7_0 : (wr.alloc (.cells #[.int .i64 lv, .slice V nv cv, .slice H nh ch, .int .i64 sm] 120)).cell? ⟨wr.heap.size, 0, none⟩ = some (.int .i64 lv) := (b8.2 0 _ rfl).1
      have ca7_1 : (wr.alloc (.cells #[.int .i64 lv, .slice V nv cv, .slice H nh ch, .int .i64 sm] 120)).cell? ⟨wr.heap.size, 1, none⟩ = some (.slice V nv cv) := (b8.2 1 _ rfl).1
      have ca7_2 : (wr.alloc (.cells #[.int .i64 lv, .slice V nv cv, .slice H nh ch, .int .i64 sm] 120)).cell? ⟨wr.heap.size, 2, none⟩ = some (.slice H nh ch) := (b8.2 2 _ rfl).1
      have ca7_3 : (wr.alloc (.cells #[.int .i64 lv, .slice V nv cv, .slice H nh ch, .int .i64 sm] 120)).cell? ⟨wr.heap.size, 3, none⟩ = some (.int .i64 sm) := (b8.2 3 _ rfl).1
      go_wp2_with fail
      clear ca6 fa6 ca7_0 ca7_1 ca7_2 ca7_3
      refine (uGood_any (h.keeps kw) (h'.keeps kw) hvv hhh HG.out HS.out).mono ?_
      rintro e w8 ⟨rfl, k8⟩
      rw [HP.out]
      replace b3 := b3.keeps k8
      replace b8 := b8.keeps k8
      replace hvv := hvv.keeps k8
      replace hhh := hhh.keeps k8
      replace kw := Keeps.trans kw k8
      have lt9 := b8.lt
      have sz10 := kw.size
      clear k8
      clear hc0 hc1 hc2 hc3 b8
      cases p
      · have HX := hid (plB_no HTL.out hlt HP2.out)
        obtain ⟨ca11, fa11⟩ := id b3
        go_wp2_with fail
        clear ca11 fa11
        go_ret
        exact ⟨ret_bool HX.out.symm, kw⟩
      have HN := hid (show plTo ps l ts (k + 1) = true by unfold plTo; rw [HT.out, HP2.out]; rfl)
      obtain ⟨ca11, fa11⟩ := id b3
      go_wp2_with fail
      clear ca11 fa11
      go_roundw
      case rel => exact ⟨k + 1, by omega, by go_num, HN, b3, kw⟩
      case measure => simp [intOf]; omega
    · obtain rfl : k = n := by omega
      have HX := hid (plB_yes HTL.out h20 HT.out)
      go_wp2
      go_ret
      exact ⟨ret_bool HX.out.symm, kw⟩
end Go.Proofs.YtohjkpopbmmliaaGreat
namespace Go.Proofs.YtohjkpopbmmliaaGreat
open Go.RowKit
set_option linter.unusedVariables false
set_option linter.unusedSimpArgs false
theorem Has.keeps {w w' : World} {B e size n : Nat} {v : Value} {cs : List Value} (h : Has w B e size v n cs) (hb : Keeps w w') : Has w' B e size v n cs := h.below hb
def lossB (a b c d : Int) : Bool := fracB a b && fracB c d && (decide (b ≤ a) && decide (0 ≤ c))
def relB (ps : List Int) (l : List VV) (r : RL) : Bool := inB r.1 1 999 && plB ps l r.2.1 && lossB r.2.2.1 r.2.2.2.1 r.2.2.2.2.1 r.2.2.2.2.2
def hisTo (ps : List Int) (l : List VV) (rs : List RL) : Nat → Bool
  | 0 => true
  | k + 1 => hisTo ps l rs k && (decide ((rs.getD k rl0).1 = (k : Int) + 1) && relB ps l (rs.getD k rl0))
/-- A history. -/
def hisB (ps : List Int) (l : List VV) (rs : List RL) : Bool := geoB ps && schB l && decide (rs.length ≤ 12) && hisTo ps l rs rs.length
theorem hisTo_bad {ps : List Int} {l : List VV} {rs : List RL} {k n : Nat} (h : hisTo ps l rs k = false) (hn : k ≤ n) : hisTo ps l rs n = false := by
  induction n with
  | zero => obtain rfl : k = 0 := by omega
            exact h
  | succ n ih =>
    rcases Nat.lt_or_ge n k with h1 | h1
    · obtain rfl : k = n + 1 := by omega
      exact h
    · unfold hisTo; rw [ih h1]; rfl
theorem hisTo_row {ps : List Int} {l : List VV} {rs : List RL} : ∀ n k, hisTo ps l rs n = true → k < n → (rs.getD k rl0).1 = (k : Int) + 1 ∧ relB ps l (rs.getD k rl0) = true
  | 0, k, _, hk => absurd hk (by omega)
  | n + 1, k, h, hk => by
    unfold hisTo at h
    simp only [Bool.and_eq_true, decide_eq_true_eq] at h
    rcases Nat.lt_or_ge k n with h1 | h1
    · exact hisTo_row n k h.1 h1
    · obtain rfl : k = n := by omega
      exact h.2
theorem hisB_no {ps : List Int} {l : List VV} {rs : List RL} {n k : Nat} (hl : rs.length = n) (hk : k < n) (h : (decide ((rs.getD k rl0).1 = (k : Int) + 1) && relB ps l (rs.getD k rl0)) = false) : hisB ps l rs = false := by
  unfold hisB; rw [hl, hisTo_bad (k := k + 1) (by unfold hisTo; rw [h, Bool.and_false]) hk, Bool.and_false]
theorem hisB_len {ps : List Int} {l : List VV} {rs : List RL} (h : ¬ rs.length ≤ 12) : hisB ps l rs = false := by unfold hisB; rw [decide_eq_false h]; simp
theorem hisB_in {ps : List Int} {l : List VV} {rs : List RL} (h : (geoB ps && schB l) = false) : hisB ps l rs = false := by unfold hisB; rw [h]; rfl
theorem hisB_yes {ps : List Int} {l : List VV} {rs : List RL} {n : Nat} (hg : geoB ps = true) (hs : schB l = true) (hl : rs.length = n) (h2 : n ≤ 12) (h : hisTo ps l rs n = true) : hisB ps l rs = true := by unfold hisB; rw [hg, hs, hl, h, decide_eq_true h2]; rfl
theorem hisB_parts {ps : List Int} {l : List VV} {rs : List RL} (h : hisB ps l rs = true) : geoB ps = true ∧ schB l = true ∧ rs.length ≤ 12 ∧ ∀ k, k < rs.length → (rs.getD k rl0).1 = (k : Int) + 1 ∧ relB ps l (rs.getD k rl0) = true := by
  unfold hisB at h
  simp only [Bool.and_eq_true, decide_eq_true_eq] at h
  exact ⟨h.1.1.1, h.1.1.2, h.1.2, fun k hk => hisTo_row _ k h.2 hk⟩
theorem ne_ver {x : Int} {k : Nat} (h : x ≠ (k : Int) + 1) : (x != (k : Int) + 1) = true := by rw [bne_iff_ne]; exact h
theorem eq_ver {x : Int} {k : Nat} (h : x = (k : Int) + 1) : (x != (k : Int) + 1) = false := by subst h; simp
set_option maxRecDepth 100000 in
set_option maxHeartbeats 1600000 in
theorem IsLoss_any {x1 x2 x3 x4 : Int} {w : World} :
    Calls Tryz.prog 54 #[.agg #[.int .i64 x1, .int .i64 x2, .int .i64 x3, .int .i64 x4]] w fun e w' => e = .returned (.bool (lossB x1 x2 x3 x4)) ∧ Keeps w w' := by
  obtain ⟨X, hX⟩ : ∃ X, lossB x1 x2 x3 x4 = X := ⟨_, rfl⟩
  rw [hX]
  have HB := hid (show (fracB x1 x2 && fracB x3 x4 && (decide (x2 ≤ x1) && decide (0 ≤ x3))) = X from hX)
  clear hX
  go_enter Tryz.func54, Tryz.ntmps54
  have kw := keeps_refl w
  replace kw := Keeps.trans kw (keeps_alloc w (.cells #[.int .i64 x1, .int .i64 x2, .int .i64 x3, .int .i64 x4] 32))
  have b1 : Bl (w.alloc (.cells #[.int .i64 x1, .int .i64 x2, .int .i64 x3, .int .i64 x4] 32)) w.heap.size [.int .i64 x1, .int .i64 x2, .int .i64 x3, .int .i64 x4] := Bl.new' (by simp) (by simp)
  have ca1_0 : (w.alloc (.cells #[.int .i64 x1, .int .i64 x2, .int .i64 x3, .int .i64 x4] 32)).cell? ⟨w.heap.size, 0, none⟩ = some (.int .i64 x1) := (b1.2 0 _ rfl).1
  have ca1_1 : (w.alloc (.cells #[.int .i64 x1, .int .i64 x2, .int .i64 x3, .int .i64 x4] 32)).cell? ⟨w.heap.size, 1, none⟩ = some (.int .i64 x2) := (b1.2 1 _ rfl).1
  have ca1_2 : (w.alloc (.cells #[.int .i64 x1, .int .i64 x2, .int .i64 x3, .int .i64 x4] 32)).cell? ⟨w.heap.size, 2, none⟩ = some (.int .i64 x3) := (b1.2 2 _ rfl).1
  have ca1_3 : (w.alloc (.cells #[.int .i64 x1, .int .i64 x2, .int .i64 x3, .int .i64 x4] 32)).cell? ⟨w.heap.size, 3, none⟩ = some (.int .i64 x4) := (b1.2 3 _ rfl).1
  go_wp2_with fail
  clear ca1_0 ca1_1 ca1_2 ca1_3
  obtain ⟨pH1, H1⟩ : ∃ pB, Hid (fracB x1 x2 = pB) := ⟨_, rfl⟩
  refine (IsFrac_any).mono ?_
  rintro e w2 ⟨rfl, k2⟩
  rw [H1.out]
  replace b1 := b1.keeps k2
  replace kw := Keeps.trans kw k2
  have lt3 := b1.lt
  have sz4 := kw.size
  clear k2
  cases pH1
  · have ca5_0 : w2.cell? ⟨w.heap.size, 0, none⟩ = some (.int .i64 x1) := (b1.2 0 _ rfl).1
    have ca5_1 : w2.cell? ⟨w.heap.size, 1, none⟩ = some (.int .i64 x2) := (b1.2 1 _ rfl).1
    have ca5_2 : w2.cell? ⟨w.heap.size, 2, none⟩ = some (.int .i64 x3) := (b1.2 2 _ rfl).1
    have ca5_3 : w2.cell? ⟨w.heap.size, 3, none⟩ = some (.int .i64 x4) := (b1.2 3 _ rfl).1
    go_wp2_with fail
    clear ca5_0 ca5_1 ca5_2 ca5_3
    go_ret
    exact ⟨ret_bool (by rw [← HB.out, H1.out]; rfl), kw⟩
  · skip
    have ca5_0 : w2.cell? ⟨w.heap.size, 0, none⟩ = some (.int .i64 x1) := (b1.2 0 _ rfl).1
    have ca5_1 : w2.cell? ⟨w.heap.size, 1, none⟩ = some (.int .i64 x2) := (b1.2 1 _ rfl).1
    have ca5_2 : w2.cell? ⟨w.heap.size, 2, none⟩ = some (.int .i64 x3) := (b1.2 2 _ rfl).1
    have ca5_3 : w2.cell? ⟨w.heap.size, 3, none⟩ = some (.int .i64 x4) := (b1.2 3 _ rfl).1
    go_wp2_with fail
    clear ca5_0 ca5_1 ca5_2 ca5_3
    obtain ⟨pH2, H2⟩ : ∃ pB, Hid (fracB x3 x4 = pB) := ⟨_, rfl⟩
    refine (IsFrac_any).mono ?_
    rintro e w6 ⟨rfl, k6⟩
    rw [H2.out]
    replace b1 := b1.keeps k6
    replace kw := Keeps.trans kw k6
    have lt7 := b1.lt
    have sz8 := kw.size
    clear k6
    cases pH2
    · have ca9_0 : w6.cell? ⟨w.heap.size, 0, none⟩ = some (.int .i64 x1) := (b1.2 0 _ rfl).1
      have ca9_1 : w6.cell? ⟨w.heap.size, 1, none⟩ = some (.int .i64 x2) := (b1.2 1 _ rfl).1
      have ca9_2 : w6.cell? ⟨w.heap.size, 2, none⟩ = some (.int .i64 x3) := (b1.2 2 _ rfl).1
      have ca9_3 : w6.cell? ⟨w.heap.size, 3, none⟩ = some (.int .i64 x4) := (b1.2 3 _ rfl).1
      go_wp2_with fail
      clear ca9_0 ca9_1 ca9_2 ca9_3
      go_ret
      exact ⟨ret_bool (by rw [← HB.out, H1.out, H2.out]; rfl), kw⟩
    · skip
      by_cases h1 : x2 ≤ x1
      rotate_left
      · have D1 := hid (decide_eq_false h1)
        have ca9_0 : w6.cell? ⟨w.heap.size, 0, none⟩ = some (.int .i64 x1) := (b1.2 0 _ rfl).1
        have ca9_1 : w6.cell? ⟨w.heap.size, 1, none⟩ = some (.int .i64 x2) := (b1.2 1 _ rfl).1
        have ca9_2 : w6.cell? ⟨w.heap.size, 2, none⟩ = some (.int .i64 x3) := (b1.2 2 _ rfl).1
        have ca9_3 : w6.cell? ⟨w.heap.size, 3, none⟩ = some (.int .i64 x4) := (b1.2 3 _ rfl).1
        go_wp2_with fail
        clear ca9_0 ca9_1 ca9_2 ca9_3
        go_ret
        exact ⟨ret_bool (by rw [← HB.out, H1.out, H2.out, D1.out]; rfl), kw⟩
      have D1 := hid (decide_eq_true h1)
      by_cases h2 : 0 ≤ x3
      · have D2 := hid (decide_eq_true h2)
        have ca9_0 : w6.cell? ⟨w.heap.size, 0, none⟩ = some (.int .i64 x1) := (b1.2 0 _ rfl).1
        have ca9_1 : w6.cell? ⟨w.heap.size, 1, none⟩ = some (.int .i64 x2) := (b1.2 1 _ rfl).1
        have ca9_2 : w6.cell? ⟨w.heap.size, 2, none⟩ = some (.int .i64 x3) := (b1.2 2 _ rfl).1
        have ca9_3 : w6.cell? ⟨w.heap.size, 3, none⟩ = some (.int .i64 x4) := (b1.2 3 _ rfl).1
        go_wp2_with fail
        clear ca9_0 ca9_1 ca9_2 ca9_3
        go_ret
        exact ⟨ret_bool (by rw [← HB.out, H1.out, H2.out, D1.out, D2.out]; rfl), kw⟩
      · have D2 := hid (decide_eq_false h2)
        have ca9_0 : w6.cell? ⟨w.heap.size, 0, none⟩ = some (.int .i64 x1) := (b1.2 0 _ rfl).1
        have ca9_1 : w6.cell? ⟨w.heap.size, 1, none⟩ = some (.int .i64 x2) := (b1.2 1 _ rfl).1
        have ca9_2 : w6.cell? ⟨w.heap.size, 2, none⟩ = some (.int .i64 x3) := (b1.2 2 _ rfl).1
        have ca9_3 : w6.cell? ⟨w.heap.size, 3, none⟩ = some (.int .i64 x4) := (b1.2 3 _ rfl).1
        go_wp2_with fail
        clear ca9_0 ca9_1 ca9_2 ca9_3
        go_ret
        exact ⟨ret_bool (by rw [← HB.out, H1.out, H2.out, D1.out, D2.out]; rfl), kw⟩
set_option maxRecDepth 100000 in
set_option maxHeartbeats 1600000 in
theorem pGood_any {x1 x2 x3 x4 : Int} {w : World} :
    Calls Tryz.prog 65 #[.agg #[.int .i64 x1, .int .i64 x2, .int .i64 x3, .int .i64 x4]] w fun e w' => e = .returned (.bool (lossB x1 x2 x3 x4)) ∧ Keeps w w' := by
  obtain ⟨X, hX⟩ : ∃ X, lossB x1 x2 x3 x4 = X := ⟨_, rfl⟩
  rw [hX]
  have HB := hid (show (fracB x1 x2 && fracB x3 x4 && (decide (x2 ≤ x1) && decide (0 ≤ x3))) = X from hX)
  clear hX
  go_enter Tryz.func65, Tryz.ntmps65
  have kw := keeps_refl w
  replace kw := Keeps.trans kw (keeps_alloc w (.cells #[.int .i64 x1, .int .i64 x2, .int .i64 x3, .int .i64 x4] 32))
  have b1 : Bl (w.alloc (.cells #[.int .i64 x1, .int .i64 x2, .int .i64 x3, .int .i64 x4] 32)) w.heap.size [.int .i64 x1, .int .i64 x2, .int .i64 x3, .int .i64 x4] := Bl.new' (by simp) (by simp)
  have ca1_0 : (w.alloc (.cells #[.int .i64 x1, .int .i64 x2, .int .i64 x3, .int .i64 x4] 32)).cell? ⟨w.heap.size, 0, none⟩ = some (.int .i64 x1) := (b1.2 0 _ rfl).1
  have ca1_1 : (w.alloc (.cells #[.int .i64 x1, .int .i64 x2, .int .i64 x3, .int .i64 x4] 32)).cell? ⟨w.heap.size, 1, none⟩ = some (.int .i64 x2) := (b1.2 1 _ rfl).1
  have ca1_2 : (w.alloc (.cells #[.int .i64 x1, .int .i64 x2, .int .i64 x3, .int .i64 x4] 32)).cell? ⟨w.heap.size, 2, none⟩ = some (.int .i64 x3) := (b1.2 2 _ rfl).1
  have ca1_3 : (w.alloc (.cells #[.int .i64 x1, .int .i64 x2, .int .i64 x3, .int .i64 x4] 32)).cell? ⟨w.heap.size, 3, none⟩ = some (.int .i64 x4) := (b1.2 3 _ rfl).1
  go_wp2_with fail
  clear ca1_0 ca1_1 ca1_2 ca1_3
  obtain ⟨pH1, H1⟩ : ∃ pB, Hid (fracB x1 x2 = pB) := ⟨_, rfl⟩
  refine (fGood_any).mono ?_
  rintro e w2 ⟨rfl, k2⟩
  rw [H1.out]
  replace b1 := b1.keeps k2
  replace kw := Keeps.trans kw k2
  have lt3 := b1.lt
  have sz4 := kw.size
  clear k2
  cases pH1
  · have ca5_0 : w2.cell? ⟨w.heap.size, 0, none⟩ = some (.int .i64 x1) := (b1.2 0 _ rfl).1
    have ca5_1 : w2.cell? ⟨w.heap.size, 1, none⟩ = some (.int .i64 x2) := (b1.2 1 _ rfl).1
    have ca5_2 : w2.cell? ⟨w.heap.size, 2, none⟩ = some (.int .i64 x3) := (b1.2 2 _ rfl).1
    have ca5_3 : w2.cell? ⟨w.heap.size, 3, none⟩ = some (.int .i64 x4) := (b1.2 3 _ rfl).1
    go_wp2_with fail
    clear ca5_0 ca5_1 ca5_2 ca5_3
    go_ret
    exact ⟨ret_bool (by rw [← HB.out, H1.out]; rfl), kw⟩
  · skip
    have ca5_0 : w2.cell? ⟨w.heap.size, 0, none⟩ = some (.int .i64 x1) := (b1.2 0 _ rfl).1
    have ca5_1 : w2.cell? ⟨w.heap.size, 1, none⟩ = some (.int .i64 x2) := (b1.2 1 _ rfl).1
    have ca5_2 : w2.cell? ⟨w.heap.size, 2, none⟩ = some (.int .i64 x3) := (b1.2 2 _ rfl).1
    have ca5_3 : w2.cell? ⟨w.heap.size, 3, none⟩ = some (.int .i64 x4) := (b1.2 3 _ rfl).1
    go_wp2_with fail
    clear ca5_0 ca5_1 ca5_2 ca5_3
    obtain ⟨pH2, H2⟩ : ∃ pB, Hid (fracB x3 x4 = pB) := ⟨_, rfl⟩
    refine (fGood_any).mono ?_
    rintro e w6 ⟨rfl, k6⟩
    rw [H2.out]
    replace b1 := b1.keeps k6
    replace kw := Keeps.trans kw k6
    have lt7 := b1.lt
    have sz8 := kw.size
    clear k6
    cases pH2
    · have ca9_0 : w6.cell? ⟨w.heap.size, 0, none⟩ = some (.int .i64 x1) := (b1.2 0 _ rfl).1
      have ca9_1 : w6.cell? ⟨w.heap.size, 1, none⟩ = some (.int .i64 x2) := (b1.2 1 _ rfl).1
      have ca9_2 : w6.cell? ⟨w.heap.size, 2, none⟩ = some (.int .i64 x3) := (b1.2 2 _ rfl).1
      have ca9_3 : w6.cell? ⟨w.heap.size, 3, none⟩ = some (.int .i64 x4) := (b1.2 3 _ rfl).1
      go_wp2_with fail
      clear ca9_0 ca9_1 ca9_2 ca9_3
      go_ret
      exact ⟨ret_bool (by rw [← HB.out, H1.out, H2.out]; rfl), kw⟩
    · skip
      by_cases h1 : x2 ≤ x1
      rotate_left
      · have D1 := hid (decide_eq_false h1)
        have ca9_0 : w6.cell? ⟨w.heap.size, 0, none⟩ = some (.int .i64 x1) := (b1.2 0 _ rfl).1
        have ca9_1 : w6.cell? ⟨w.heap.size, 1, none⟩ = some (.int .i64 x2) := (b1.2 1 _ rfl).1
        have ca9_2 : w6.cell? ⟨w.heap.size, 2, none⟩ = some (.int .i64 x3) := (b1.2 2 _ rfl).1
        have ca9_3 : w6.cell? ⟨w.heap.size, 3, none⟩ = some (.int .i64 x4) := (b1.2 3 _ rfl).1
        go_wp2_with fail
        clear ca9_0 ca9_1 ca9_2 ca9_3
        go_ret
        exact ⟨ret_bool (by rw [← HB.out, H1.out, H2.out, D1.out]; rfl), kw⟩
      have D1 := hid (decide_eq_true h1)
      by_cases h2 : 0 ≤ x3
      · have D2 := hid (decide_eq_true h2)
        have ca9_0 : w6.cell? ⟨w.heap.size, 0, none⟩ = some (.int .i64 x1) := (b1.2 0 _ rfl).1
        have ca9_1 : w6.cell? ⟨w.heap.size, 1, none⟩ = some (.int .i64 x2) := (b1.2 1 _ rfl).1
        have ca9_2 : w6.cell? ⟨w.heap.size, 2, none⟩ = some (.int .i64 x3) := (b1.2 2 _ rfl).1
        have ca9_3 : w6.cell? ⟨w.heap.size, 3, none⟩ = some (.int .i64 x4) := (b1.2 3 _ rfl).1
        go_wp2_with fail
        clear ca9_0 ca9_1 ca9_2 ca9_3
        go_ret
        exact ⟨ret_bool (by rw [← HB.out, H1.out, H2.out, D1.out, D2.out]; rfl), kw⟩
      · have D2 := hid (decide_eq_false h2)
        have ca9_0 : w6.cell? ⟨w.heap.size, 0, none⟩ = some (.int .i64 x1) := (b1.2 0 _ rfl).1
        have ca9_1 : w6.cell? ⟨w.heap.size, 1, none⟩ = some (.int .i64 x2) := (b1.2 1 _ rfl).1
        have ca9_2 : w6.cell? ⟨w.heap.size, 2, none⟩ = some (.int .i64 x3) := (b1.2 2 _ rfl).1
        have ca9_3 : w6.cell? ⟨w.heap.size, 3, none⟩ = some (.int .i64 x4) := (b1.2 3 _ rfl).1
        go_wp2_with fail
        clear ca9_0 ca9_1 ca9_2 ca9_3
        go_ret
        exact ⟨ret_bool (by rw [← HB.out, H1.out, H2.out, D1.out, D2.out]; rfl), kw⟩
set_option maxRecDepth 100000 in
set_option maxHeartbeats 3200000 in
theorem isRelease_any {A A' Q : Option Addr} {lo hi a c0 lo3 hi3 n c q e : Nat} {un : Bool} {v x1 x2 x3 x4 : Int} {ps : List Int} {l : List VV} {ts : List TT} {w : World} (h : Ints w lo hi A a ps) (h' : Sch w A' q e l) (ht : Tabs true un w lo3 hi3 Q n ts) (hg : geoB ps = true) (hs : schB l = true) :
    Calls Tryz.prog 100 #[.agg #[.slice A a c0], .slice A' q e, .agg #[.int .i64 v, .slice Q n c, .int .i64 x1, .int .i64 x2, .int .i64 x3, .int .i64 x4]] w fun e w' => e = .returned (.bool (relB ps l (v, ts, x1, x2, x3, x4))) ∧ Keeps w w' := by
  have HG := hid hg
  have HS := hid hs
  clear hg hs
  obtain ⟨X, hX⟩ : ∃ X, relB ps l (v, ts, x1, x2, x3, x4) = X := ⟨_, rfl⟩
  rw [hX]
  have HB := hid (show (inB v 1 999 && plB ps l ts && lossB x1 x2 x3 x4) = X from hX)
  clear hX
  go_enter Tryz.func100, Tryz.ntmps100
  have kw := keeps_refl w
  replace kw := Keeps.trans kw (keeps_alloc w (.cells #[.slice A a c0] 26))
  have b3 : B1 (w.alloc (.cells #[.slice A a c0] 26)) w.heap.size (.slice A a c0) := B1.new' (by simp)
  replace b3 := b3.keeps (keeps_alloc (w.alloc (.cells #[.slice A a c0] 26)) (.cells #[.int .i64 v, .slice Q n c, .int .i64 x1, .int .i64 x2, .int .i64 x3, .int .i64 x4] 87))
  replace kw := Keeps.trans kw (keeps_alloc (w.alloc (.cells #[.slice A a c0] 26)) (.cells #[.int .i64 v, .slice Q n c, .int .i64 x1, .int .i64 x2, .int .i64 x3, .int .i64 x4] 87))
  have b5 : Bl ((w.alloc (.cells #[.slice A a c0] 26)).alloc (.cells #[.int .i64 v, .slice Q n c, .int .i64 x1, .int .i64 x2, .int .i64 x3, .int .i64 x4] 87)) (w.heap.size + 1) [.int .i64 v, .slice Q n c, .int .i64 x1, .int .i64 x2, .int .i64 x3, .int .i64 x4] := Bl.new' (by simp) (by simp)
  obtain ⟨ca1, fa1⟩ := id b3
  have ca2_0 : ((w.alloc (.cells #[.slice A a c0] 26)).alloc (.cells #[.int .i64 v, .slice Q n c, .int .i64 x1, .int .i64 x2, .int .i64 x3, .int .i64 x4] 87)).cell? ⟨w.heap.size + 1, 0, none⟩ = some (.int .i64 v) := (b5.2 0 _ rfl).1
  have ca2_1 : ((w.alloc (.cells #[.slice A a c0] 26)).alloc (.cells #[.int .i64 v, .slice Q n c, .int .i64 x1, .int .i64 x2, .int .i64 x3, .int .i64 x4] 87)).cell? ⟨w.heap.size + 1, 1, none⟩ = some (.slice Q n c) := (b5.2 1 _ rfl).1
  have ca2_2 : ((w.alloc (.cells #[.slice A a c0] 26)).alloc (.cells #[.int .i64 v, .slice Q n c, .int .i64 x1, .int .i64 x2, .int .i64 x3, .int .i64 x4] 87)).cell? ⟨w.heap.size + 1, 2, none⟩ = some (.int .i64 x1) := (b5.2 2 _ rfl).1
  have ca2_3 : ((w.alloc (.cells #[.slice A a c0] 26)).alloc (.cells #[.int .i64 v, .slice Q n c, .int .i64 x1, .int .i64 x2, .int .i64 x3, .int .i64 x4] 87)).cell? ⟨w.heap.size + 1, 3, none⟩ = some (.int .i64 x2) := (b5.2 3 _ rfl).1
  have ca2_4 : ((w.alloc (.cells #[.slice A a c0] 26)).alloc (.cells #[.int .i64 v, .slice Q n c, .int .i64 x1, .int .i64 x2, .int .i64 x3, .int .i64 x4] 87)).cell? ⟨w.heap.size + 1, 4, none⟩ = some (.int .i64 x3) := (b5.2 4 _ rfl).1
  have ca2_5 : ((w.alloc (.cells #[.slice A a c0] 26)).alloc (.cells #[.int .i64 v, .slice Q n c, .int .i64 x1, .int .i64 x2, .int .i64 x3, .int .i64 x4] 87)).cell? ⟨w.heap.size + 1, 5, none⟩ = some (.int .i64 x4) := (b5.2 5 _ rfl).1
  by_cases h1 : 1 ≤ v
  rotate_left
  · have H1 := hid (inB_not (a := v) (lo := 1) (hi := 999) (by omega))
    clear ca1 fa1 ca2_0 ca2_1 ca2_2 ca2_3 ca2_4 ca2_5
    obtain ⟨ca3, fa3⟩ := id b3
    have ca4_0 : ((w.alloc (.cells #[.slice A a c0] 26)).alloc (.cells #[.int .i64 v, .slice Q n c, .int .i64 x1, .int .i64 x2, .int .i64 x3, .int .i64 x4] 87)).cell? ⟨w.heap.size + 1, 0, none⟩ = some (.int .i64 v) := (b5.2 0 _ rfl).1
    have ca4_1 : ((w.alloc (.cells #[.slice A a c0] 26)).alloc (.cells #[.int .i64 v, .slice Q n c, .int .i64 x1, .int .i64 x2, .int .i64 x3, .int .i64 x4] 87)).cell? ⟨w.heap.size + 1, 1, none⟩ = some (.slice Q n c) := (b5.2 1 _ rfl).1
    have ca4_2 : ((w.alloc (.cells #[.slice A a c0] 26)).alloc (.cells #[.int .i64 v, .slice Q n c, .int .i64 x1, .int .i64 x2, .int .i64 x3, .int .i64 x4] 87)).cell? ⟨w.heap.size + 1, 2, none⟩ = some (.int .i64 x1) := (b5.2 2 _ rfl).1
    have ca4_3 : ((w.alloc (.cells #[.slice A a c0] 26)).alloc (.cells #[.int .i64 v, .slice Q n c, .int .i64 x1, .int .i64 x2, .int .i64 x3, .int .i64 x4] 87)).cell? ⟨w.heap.size + 1, 3, none⟩ = some (.int .i64 x2) := (b5.2 3 _ rfl).1
    have ca4_4 : ((w.alloc (.cells #[.slice A a c0] 26)).alloc (.cells #[.int .i64 v, .slice Q n c, .int .i64 x1, .int .i64 x2, .int .i64 x3, .int .i64 x4] 87)).cell? ⟨w.heap.size + 1, 4, none⟩ = some (.int .i64 x3) := (b5.2 4 _ rfl).1
    have ca4_5 : ((w.alloc (.cells #[.slice A a c0] 26)).alloc (.cells #[.int .i64 v, .slice Q n c, .int .i64 x1, .int .i64 x2, .int .i64 x3, .int .i64 x4] 87)).cell? ⟨w.heap.size + 1, 5, none⟩ = some (.int .i64 x4) := (b5.2 5 _ rfl).1
    go_wp2_with fail
    clear ca3 fa3 ca4_0 ca4_1 ca4_2 ca4_3 ca4_4 ca4_5
    go_ret
    exact ⟨ret_bool (by rw [← HB.out, H1.out]; rfl), kw⟩
  by_cases h9 : v ≤ 999
  rotate_left
  · have H1 := hid (inB_not (a := v) (lo := 1) (hi := 999) (by omega))
    clear ca1 fa1 ca2_0 ca2_1 ca2_2 ca2_3 ca2_4 ca2_5
    obtain ⟨ca3, fa3⟩ := id b3
    have ca4_0 : ((w.alloc (.cells #[.slice A a c0] 26)).alloc (.cells #[.int .i64 v, .slice Q n c, .int .i64 x1, .int .i64 x2, .int .i64 x3, .int .i64 x4] 87)).cell? ⟨w.heap.size + 1, 0, none⟩ = some (.int .i64 v) := (b5.2 0 _ rfl).1
    have ca4_1 : ((w.alloc (.cells #[.slice A a c0] 26)).alloc (.cells #[.int .i64 v, .slice Q n c, .int .i64 x1, .int .i64 x2, .int .i64 x3, .int .i64 x4] 87)).cell? ⟨w.heap.size + 1, 1, none⟩ = some (.slice Q n c) := (b5.2 1 _ rfl).1
    have ca4_2 : ((w.alloc (.cells #[.slice A a c0] 26)).alloc (.cells #[.int .i64 v, .slice Q n c, .int .i64 x1, .int .i64 x2, .int .i64 x3, .int .i64 x4] 87)).cell? ⟨w.heap.size + 1, 2, none⟩ = some (.int .i64 x1) := (b5.2 2 _ rfl).1
    have ca4_3 : ((w.alloc (.cells #[.slice A a c0] 26)).alloc (.cells #[.int .i64 v, .slice Q n c, .int .i64 x1, .int .i64 x2, .int .i64 x3, .int .i64 x4] 87)).cell? ⟨w.heap.size + 1, 3, none⟩ = some (.int .i64 x2) := (b5.2 3 _ rfl).1
    have ca4_4 : ((w.alloc (.cells #[.slice A a c0] 26)).alloc (.cells #[.int .i64 v, .slice Q n c, .int .i64 x1, .int .i64 x2, .int .i64 x3, .int .i64 x4] 87)).cell? ⟨w.heap.size + 1, 4, none⟩ = some (.int .i64 x3) := (b5.2 4 _ rfl).1
    have ca4_5 : ((w.alloc (.cells #[.slice A a c0] 26)).alloc (.cells #[.int .i64 v, .slice Q n c, .int .i64 x1, .int .i64 x2, .int .i64 x3, .int .i64 x4] 87)).cell? ⟨w.heap.size + 1, 5, none⟩ = some (.int .i64 x4) := (b5.2 5 _ rfl).1
    go_wp2_with fail
    clear ca3 fa3 ca4_0 ca4_1 ca4_2 ca4_3 ca4_4 ca4_5
    go_ret
    exact ⟨ret_bool (by rw [← HB.out, H1.out]; rfl), kw⟩
  have H1 := hid (inB_true (a := v) (lo := 1) (hi := 999) |>.2 ⟨h1, h9⟩)
  go_wp2_with fail
  clear ca1 fa1 ca2_0 ca2_1 ca2_2 ca2_3 ca2_4 ca2_5
  obtain ⟨pH2, H2⟩ : ∃ pB, Hid (plB ps l ts = pB) := ⟨_, rfl⟩
  refine (isPlan_any (h.keeps kw) (h'.keeps kw) (ht.keeps kw) HG.out HS.out).mono ?_
  rintro e w3 ⟨rfl, k3⟩
  rw [H2.out]
  replace b3 := b3.keeps k3
  replace b5 := b5.keeps k3
  replace kw := Keeps.trans kw k3
  have lt4 := b5.lt
  have sz5 := kw.size
  clear k3
  cases pH2
  · obtain ⟨ca6, fa6⟩ := id b3
    have ca7_0 : w3.cell? ⟨w.heap.size + 1, 0, none⟩ = some (.int .i64 v) := (b5.2 0 _ rfl).1
    have ca7_1 : w3.cell? ⟨w.heap.size + 1, 1, none⟩ = some (.slice Q n c) := (b5.2 1 _ rfl).1
    have ca7_2 : w3.cell? ⟨w.heap.size + 1, 2, none⟩ = some (.int .i64 x1) := (b5.2 2 _ rfl).1
    have ca7_3 : w3.cell? ⟨w.heap.size + 1, 3, none⟩ = some (.int .i64 x2) := (b5.2 3 _ rfl).1
    have ca7_4 : w3.cell? ⟨w.heap.size + 1, 4, none⟩ = some (.int .i64 x3) := (b5.2 4 _ rfl).1
    have ca7_5 : w3.cell? ⟨w.heap.size + 1, 5, none⟩ = some (.int .i64 x4) := (b5.2 5 _ rfl).1
    go_wp2_with fail
    clear ca6 fa6 ca7_0 ca7_1 ca7_2 ca7_3 ca7_4 ca7_5
    go_ret
    exact ⟨ret_bool (by rw [← HB.out, H1.out, H2.out]; rfl), kw⟩
  · skip
    obtain ⟨ca6, fa6⟩ := id b3
    have ca7_0 : w3.cell? ⟨w.heap.size + 1, 0, none⟩ = some (.int .i64 v) := (b5.2 0 _ rfl).1
    have ca7_1 : w3.cell? ⟨w.heap.size + 1, 1, none⟩ = some (.slice Q n c) := (b5.2 1 _ rfl).1
    have ca7_2 : w3.cell? ⟨w.heap.size + 1, 2, none⟩ = some (.int .i64 x1) := (b5.2 2 _ rfl).1
    have ca7_3 : w3.cell? ⟨w.heap.size + 1, 3, none⟩ = some (.int .i64 x2) := (b5.2 3 _ rfl).1
    have ca7_4 : w3.cell? ⟨w.heap.size + 1, 4, none⟩ = some (.int .i64 x3) := (b5.2 4 _ rfl).1
    have ca7_5 : w3.cell? ⟨w.heap.size + 1, 5, none⟩ = some (.int .i64 x4) := (b5.2 5 _ rfl).1
    go_wp2_with fail
    clear ca6 fa6 ca7_0 ca7_1 ca7_2 ca7_3 ca7_4 ca7_5
    obtain ⟨p3, H3⟩ : ∃ pB, Hid (lossB x1 x2 x3 x4 = pB) := ⟨_, rfl⟩
    refine (IsLoss_any).mono ?_
    rintro e w8 ⟨rfl, k8⟩
    rw [H3.out]
    replace b3 := b3.keeps k8
    replace b5 := b5.keeps k8
    replace kw := Keeps.trans kw k8
    have lt9 := b5.lt
    have sz10 := kw.size
    clear k8
    obtain ⟨ca11, fa11⟩ := id b3
    have ca12_0 : w8.cell? ⟨w.heap.size + 1, 0, none⟩ = some (.int .i64 v) := (b5.2 0 _ rfl).1
    have ca12_1 : w8.cell? ⟨w.heap.size + 1, 1, none⟩ = some (.slice Q n c) := (b5.2 1 _ rfl).1
    have ca12_2 : w8.cell? ⟨w.heap.size + 1, 2, none⟩ = some (.int .i64 x1) := (b5.2 2 _ rfl).1
    have ca12_3 : w8.cell? ⟨w.heap.size + 1, 3, none⟩ = some (.int .i64 x2) := (b5.2 3 _ rfl).1
    have ca12_4 : w8.cell? ⟨w.heap.size + 1, 4, none⟩ = some (.int .i64 x3) := (b5.2 4 _ rfl).1
    have ca12_5 : w8.cell? ⟨w.heap.size + 1, 5, none⟩ = some (.int .i64 x4) := (b5.2 5 _ rfl).1
    go_wp2_with fail
    clear ca11 fa11 ca12_0 ca12_1 ca12_2 ca12_3 ca12_4 ca12_5
    go_ret
    exact ⟨ret_bool (by rw [← HB.out, H1.out, H2.out, H3.out]; rfl), kw⟩
set_option maxRecDepth 100000 in
set_option maxHeartbeats 3200000 in
theorem rlGood_any {A A' Q : Option Addr} {lo hi a c0 lo3 hi3 n c q e : Nat} {un : Bool} {v x1 x2 x3 x4 : Int} {ps : List Int} {l : List VV} {ts : List TT} {w : World} (h : Ints w lo hi A a ps) (h' : Sch w A' q e l) (ht : Tabs true un w lo3 hi3 Q n ts) (hg : geoB ps = true) (hs : schB l = true) :
    Calls Tryz.prog 116 #[.agg #[.slice A a c0], .slice A' q e, .agg #[.int .i64 v, .slice Q n c, .int .i64 x1, .int .i64 x2, .int .i64 x3, .int .i64 x4]] w fun e w' => e = .returned (.bool (relB ps l (v, ts, x1, x2, x3, x4))) ∧ Keeps w w' := by
  have HG := hid hg
  have HS := hid hs
  clear hg hs
  obtain ⟨X, hX⟩ : ∃ X, relB ps l (v, ts, x1, x2, x3, x4) = X := ⟨_, rfl⟩
  rw [hX]
  have HB := hid (show (inB v 1 999 && plB ps l ts && lossB x1 x2 x3 x4) = X from hX)
  clear hX
  go_enter Tryz.func116, Tryz.ntmps116
  have kw := keeps_refl w
  replace kw := Keeps.trans kw (keeps_alloc w (.cells #[.slice A a c0] 26))
  have b3 : B1 (w.alloc (.cells #[.slice A a c0] 26)) w.heap.size (.slice A a c0) := B1.new' (by simp)
  replace b3 := b3.keeps (keeps_alloc (w.alloc (.cells #[.slice A a c0] 26)) (.cells #[.int .i64 v, .slice Q n c, .int .i64 x1, .int .i64 x2, .int .i64 x3, .int .i64 x4] 87))
  replace kw := Keeps.trans kw (keeps_alloc (w.alloc (.cells #[.slice A a c0] 26)) (.cells #[.int .i64 v, .slice Q n c, .int .i64 x1, .int .i64 x2, .int .i64 x3, .int .i64 x4] 87))
  have b5 : Bl ((w.alloc (.cells #[.slice A a c0] 26)).alloc (.cells #[.int .i64 v, .slice Q n c, .int .i64 x1, .int .i64 x2, .int .i64 x3, .int .i64 x4] 87)) (w.heap.size + 1) [.int .i64 v, .slice Q n c, .int .i64 x1, .int .i64 x2, .int .i64 x3, .int .i64 x4] := Bl.new' (by simp) (by simp)
  obtain ⟨ca1, fa1⟩ := id b3
  have ca2_0 : ((w.alloc (.cells #[.slice A a c0] 26)).alloc (.cells #[.int .i64 v, .slice Q n c, .int .i64 x1, .int .i64 x2, .int .i64 x3, .int .i64 x4] 87)).cell? ⟨w.heap.size + 1, 0, none⟩ = some (.int .i64 v) := (b5.2 0 _ rfl).1
  have ca2_1 : ((w.alloc (.cells #[.slice A a c0] 26)).alloc (.cells #[.int .i64 v, .slice Q n c, .int .i64 x1, .int .i64 x2, .int .i64 x3, .int .i64 x4] 87)).cell? ⟨w.heap.size + 1, 1, none⟩ = some (.slice Q n c) := (b5.2 1 _ rfl).1
  have ca2_2 : ((w.alloc (.cells #[.slice A a c0] 26)).alloc (.cells #[.int .i64 v, .slice Q n c, .int .i64 x1, .int .i64 x2, .int .i64 x3, .int .i64 x4] 87)).cell? ⟨w.heap.size + 1, 2, none⟩ = some (.int .i64 x1) := (b5.2 2 _ rfl).1
  have ca2_3 : ((w.alloc (.cells #[.slice A a c0] 26)).alloc (.cells #[.int .i64 v, .slice Q n c, .int .i64 x1, .int .i64 x2, .int .i64 x3, .int .i64 x4] 87)).cell? ⟨w.heap.size + 1, 3, none⟩ = some (.int .i64 x2) := (b5.2 3 _ rfl).1
  have ca2_4 : ((w.alloc (.cells #[.slice A a c0] 26)).alloc (.cells #[.int .i64 v, .slice Q n c, .int .i64 x1, .int .i64 x2, .int .i64 x3, .int .i64 x4] 87)).cell? ⟨w.heap.size + 1, 4, none⟩ = some (.int .i64 x3) := (b5.2 4 _ rfl).1
  have ca2_5 : ((w.alloc (.cells #[.slice A a c0] 26)).alloc (.cells #[.int .i64 v, .slice Q n c, .int .i64 x1, .int .i64 x2, .int .i64 x3, .int .i64 x4] 87)).cell? ⟨w.heap.size + 1, 5, none⟩ = some (.int .i64 x4) := (b5.2 5 _ rfl).1
  go_wp2_with fail
  clear ca1 fa1 ca2_0 ca2_1 ca2_2 ca2_3 ca2_4 ca2_5
  obtain ⟨pH1, H1⟩ : ∃ pB, Hid (inB v 1 999 = pB) := ⟨_, rfl⟩
  refine (l1In_any _ _ _ _).mono ?_
  rintro e w' ⟨rfl, rfl⟩
  rw [H1.out]
  cases pH1
  · obtain ⟨ca3, fa3⟩ := id b3
    have ca4_0 : ((w.alloc (.cells #[.slice A a c0] 26)).alloc (.cells #[.int .i64 v, .slice Q n c, .int .i64 x1, .int .i64 x2, .int .i64 x3, .int .i64 x4] 87)).cell? ⟨w.heap.size + 1, 0, none⟩ = some (.int .i64 v) := (b5.2 0 _ rfl).1
    have ca4_1 : ((w.alloc (.cells #[.slice A a c0] 26)).alloc (.cells #[.int .i64 v, .slice Q n c, .int .i64 x1, .int .i64 x2, .int .i64 x3, .int .i64 x4] 87)).cell? ⟨w.heap.size + 1, 1, none⟩ = some (.slice Q n c) := (b5.2 1 _ rfl).1
    have ca4_2 : ((w.alloc (.cells #[.slice A a c0] 26)).alloc (.cells #[.int .i64 v, .slice Q n c, .int .i64 x1, .int .i64 x2, .int .i64 x3, .int .i64 x4] 87)).cell? ⟨w.heap.size + 1, 2, none⟩ = some (.int .i64 x1) := (b5.2 2 _ rfl).1
    have ca4_3 : ((w.alloc (.cells #[.slice A a c0] 26)).alloc (.cells #[.int .i64 v, .slice Q n c, .int .i64 x1, .int .i64 x2, .int .i64 x3, .int .i64 x4] 87)).cell? ⟨w.heap.size + 1, 3, none⟩ = some (.int .i64 x2) := (b5.2 3 _ rfl).1
    have ca4_4 : ((w.alloc (.cells #[.slice A a c0] 26)).alloc (.cells #[.int .i64 v, .slice Q n c, .int .i64 x1, .int .i64 x2, .int .i64 x3, .int .i64 x4] 87)).cell? ⟨w.heap.size + 1, 4, none⟩ = some (.int .i64 x3) := (b5.2 4 _ rfl).1
    have ca4_5 : ((w.alloc (.cells #[.slice A a c0] 26)).alloc (.cells #[.int .i64 v, .slice Q n c, .int .i64 x1, .int .i64 x2, .int .i64 x3, .int .i64 x4] 87)).cell? ⟨w.heap.size + 1, 5, none⟩ = some (.int .i64 x4) := (b5.2 5 _ rfl).1
    go_wp2_with fail
    clear ca3 fa3 ca4_0 ca4_1 ca4_2 ca4_3 ca4_4 ca4_5
    go_ret
    exact ⟨ret_bool (by rw [← HB.out, H1.out]; rfl), kw⟩
  · skip
    obtain ⟨ca3, fa3⟩ := id b3
    have ca4_0 : ((w.alloc (.cells #[.slice A a c0] 26)).alloc (.cells #[.int .i64 v, .slice Q n c, .int .i64 x1, .int .i64 x2, .int .i64 x3, .int .i64 x4] 87)).cell? ⟨w.heap.size + 1, 0, none⟩ = some (.int .i64 v) := (b5.2 0 _ rfl).1
    have ca4_1 : ((w.alloc (.cells #[.slice A a c0] 26)).alloc (.cells #[.int .i64 v, .slice Q n c, .int .i64 x1, .int .i64 x2, .int .i64 x3, .int .i64 x4] 87)).cell? ⟨w.heap.size + 1, 1, none⟩ = some (.slice Q n c) := (b5.2 1 _ rfl).1
    have ca4_2 : ((w.alloc (.cells #[.slice A a c0] 26)).alloc (.cells #[.int .i64 v, .slice Q n c, .int .i64 x1, .int .i64 x2, .int .i64 x3, .int .i64 x4] 87)).cell? ⟨w.heap.size + 1, 2, none⟩ = some (.int .i64 x1) := (b5.2 2 _ rfl).1
    have ca4_3 : ((w.alloc (.cells #[.slice A a c0] 26)).alloc (.cells #[.int .i64 v, .slice Q n c, .int .i64 x1, .int .i64 x2, .int .i64 x3, .int .i64 x4] 87)).cell? ⟨w.heap.size + 1, 3, none⟩ = some (.int .i64 x2) := (b5.2 3 _ rfl).1
    have ca4_4 : ((w.alloc (.cells #[.slice A a c0] 26)).alloc (.cells #[.int .i64 v, .slice Q n c, .int .i64 x1, .int .i64 x2, .int .i64 x3, .int .i64 x4] 87)).cell? ⟨w.heap.size + 1, 4, none⟩ = some (.int .i64 x3) := (b5.2 4 _ rfl).1
    have ca4_5 : ((w.alloc (.cells #[.slice A a c0] 26)).alloc (.cells #[.int .i64 v, .slice Q n c, .int .i64 x1, .int .i64 x2, .int .i64 x3, .int .i64 x4] 87)).cell? ⟨w.heap.size + 1, 5, none⟩ = some (.int .i64 x4) := (b5.2 5 _ rfl).1
    go_wp2_with fail
    clear ca3 fa3 ca4_0 ca4_1 ca4_2 ca4_3 ca4_4 ca4_5
    obtain ⟨pH2, H2⟩ : ∃ pB, Hid (plB ps l ts = pB) := ⟨_, rfl⟩
    refine (nPlan_any (h.keeps kw) (h'.keeps kw) (ht.keeps kw) HG.out HS.out).mono ?_
    rintro e w5 ⟨rfl, k5⟩
    rw [H2.out]
    replace b3 := b3.keeps k5
    replace b5 := b5.keeps k5
    replace kw := Keeps.trans kw k5
    have lt6 := b5.lt
    have sz7 := kw.size
    clear k5
    cases pH2
    · obtain ⟨ca8, fa8⟩ := id b3
      have ca9_0 : w5.cell? ⟨w.heap.size + 1, 0, none⟩ = some (.int .i64 v) := (b5.2 0 _ rfl).1
      have ca9_1 : w5.cell? ⟨w.heap.size + 1, 1, none⟩ = some (.slice Q n c) := (b5.2 1 _ rfl).1
      have ca9_2 : w5.cell? ⟨w.heap.size + 1, 2, none⟩ = some (.int .i64 x1) := (b5.2 2 _ rfl).1
      have ca9_3 : w5.cell? ⟨w.heap.size + 1, 3, none⟩ = some (.int .i64 x2) := (b5.2 3 _ rfl).1
      have ca9_4 : w5.cell? ⟨w.heap.size + 1, 4, none⟩ = some (.int .i64 x3) := (b5.2 4 _ rfl).1
      have ca9_5 : w5.cell? ⟨w.heap.size + 1, 5, none⟩ = some (.int .i64 x4) := (b5.2 5 _ rfl).1
      go_wp2_with fail
      clear ca8 fa8 ca9_0 ca9_1 ca9_2 ca9_3 ca9_4 ca9_5
      go_ret
      exact ⟨ret_bool (by rw [← HB.out, H1.out, H2.out]; rfl), kw⟩
    · skip
      obtain ⟨ca8, fa8⟩ := id b3
      have ca9_0 : w5.cell? ⟨w.heap.size + 1, 0, none⟩ = some (.int .i64 v) := (b5.2 0 _ rfl).1
      have ca9_1 : w5.cell? ⟨w.heap.size + 1, 1, none⟩ = some (.slice Q n c) := (b5.2 1 _ rfl).1
      have ca9_2 : w5.cell? ⟨w.heap.size + 1, 2, none⟩ = some (.int .i64 x1) := (b5.2 2 _ rfl).1
      have ca9_3 : w5.cell? ⟨w.heap.size + 1, 3, none⟩ = some (.int .i64 x2) := (b5.2 3 _ rfl).1
      have ca9_4 : w5.cell? ⟨w.heap.size + 1, 4, none⟩ = some (.int .i64 x3) := (b5.2 4 _ rfl).1
      have ca9_5 : w5.cell? ⟨w.heap.size + 1, 5, none⟩ = some (.int .i64 x4) := (b5.2 5 _ rfl).1
      go_wp2_with fail
      clear ca8 fa8 ca9_0 ca9_1 ca9_2 ca9_3 ca9_4 ca9_5
      obtain ⟨p3, H3⟩ : ∃ pB, Hid (lossB x1 x2 x3 x4 = pB) := ⟨_, rfl⟩
      refine (pGood_any).mono ?_
      rintro e w10 ⟨rfl, k10⟩
      rw [H3.out]
      replace b3 := b3.keeps k10
      replace b5 := b5.keeps k10
      replace kw := Keeps.trans kw k10
      have lt11 := b5.lt
      have sz12 := kw.size
      clear k10
      obtain ⟨ca13, fa13⟩ := id b3
      have ca14_0 : w10.cell? ⟨w.heap.size + 1, 0, none⟩ = some (.int .i64 v) := (b5.2 0 _ rfl).1
      have ca14_1 : w10.cell? ⟨w.heap.size + 1, 1, none⟩ = some (.slice Q n c) := (b5.2 1 _ rfl).1
      have ca14_2 : w10.cell? ⟨w.heap.size + 1, 2, none⟩ = some (.int .i64 x1) := (b5.2 2 _ rfl).1
      have ca14_3 : w10.cell? ⟨w.heap.size + 1, 3, none⟩ = some (.int .i64 x2) := (b5.2 3 _ rfl).1
      have ca14_4 : w10.cell? ⟨w.heap.size + 1, 4, none⟩ = some (.int .i64 x3) := (b5.2 4 _ rfl).1
      have ca14_5 : w10.cell? ⟨w.heap.size + 1, 5, none⟩ = some (.int .i64 x4) := (b5.2 5 _ rfl).1
      go_wp2_with fail
      clear ca13 fa13 ca14_0 ca14_1 ca14_2 ca14_3 ca14_4 ca14_5
      go_ret
      exact ⟨ret_bool (by rw [← HB.out, H1.out, H2.out, H3.out]; rfl), kw⟩
set_option maxRecDepth 100000 in
set_option maxHeartbeats 6400000 in
theorem isHistory_any {A A' R : Option Addr} {lo hi a c0 lo3 hi3 n c q e : Nat} {un : Bool} {ps : List Int} {l : List VV} {rs : List RL} {w : World} (h : Ints w lo hi A a ps) (h' : Sch w A' q e l) (hr : Rels true un w lo3 hi3 R n rs) :
    Calls Tryz.prog 53 #[.agg #[.slice A a c0], .slice A' q e, .slice R n c] w fun e w' => e = .returned (.bool (hisB ps l rs)) ∧ Keeps w w' := by
  obtain ⟨lo9, hi9, hv⟩ := h'.v
  have HRL := hid hr.len
  have hn := hr.le
  go_enter Tryz.func53, Tryz.ntmps53
  have kw := keeps_refl w
  replace kw := Keeps.trans kw (keeps_alloc w (.cells #[.slice A a c0] 26))
  have b3 : B1 (w.alloc (.cells #[.slice A a c0] 26)) w.heap.size (.slice A a c0) := B1.new' (by simp)
  obtain ⟨ca1, fa1⟩ := id b3
  go_wp2_with fail
  clear ca1 fa1
  obtain ⟨pHG, HG⟩ : ∃ pB, Hid (geoB ps = pB) := ⟨_, rfl⟩
  refine (IsGeo_any (h.keeps kw)).mono ?_
  rintro e w2 ⟨rfl, k2⟩
  rw [HG.out]
  replace b3 := b3.keeps k2
  replace kw := Keeps.trans kw k2
  have lt3 := b3.lt
  have sz4 := kw.size
  clear k2
  cases pHG
  · have HX := hid (hisB_in (l := l) (rs := rs) (by rw [HG.out]; rfl))
    obtain ⟨ca5, fa5⟩ := id b3
    go_wp2_with fail
    clear ca5 fa5
    go_ret
    exact ⟨ret_bool HX.out.symm, kw⟩
  · skip
    obtain ⟨ca5, fa5⟩ := id b3
    go_wp2_with fail
    clear ca5 fa5
    obtain ⟨pHS, HS⟩ : ∃ pB, Hid (schB l = pB) := ⟨_, rfl⟩
    refine (IsSchema_any (Sl.keeps hv kw) h'.ok h'.cap h'.c64).mono ?_
    rintro e w6 ⟨rfl, k6⟩
    rw [HS.out]
    replace b3 := b3.keeps k6
    replace kw := Keeps.trans kw k6
    have lt7 := b3.lt
    have sz8 := kw.size
    clear k6
    cases pHS
    · have HX := hid (hisB_in (rs := rs) (by rw [HG.out, HS.out]; rfl))
      obtain ⟨ca9, fa9⟩ := id b3
      go_wp2_with fail
      clear ca9 fa9
      go_ret
      exact ⟨ret_bool HX.out.symm, kw⟩
    · skip
      by_cases h12 : n ≤ 12
      rotate_left
      · have HX := hid (hisB_len (ps := ps) (l := l) (rs := rs) (by rw [HRL.out]; exact h12))
        obtain ⟨ca9, fa9⟩ := id b3
        go_wp2_with fail
        clear ca9 fa9
        go_ret
        exact ⟨ret_bool HX.out.symm, kw⟩
      obtain ⟨ca9, fa9⟩ := id b3
      go_wp2_with fail
      clear ca9 fa9
      go_loopw [24] (fun i wr => ∃ k : Nat, k ≤ n ∧ i = .int .i64 k ∧ Hid (hisTo ps l rs k = true) ∧ B1 wr w.heap.size (.slice A a c0) ∧ Keeps w wr) (fun i _ => n - (intOf i).toNat)
      case atStart => exact ⟨0, Nat.zero_le _, rfl, hid rfl, b3, kw⟩
      clear b3 kw
      case round =>
        obtain ⟨k, hk, rfl, HT, b3, kw⟩ := hrel
        by_cases hlt : k < n
        · obtain ⟨b, off, v, P, np, cp, x1, x2, x3, x4, pl, rfl, _, _, hc0, hc1, hc2, hc3, hc4, hc5, hpl, hx⟩ := (hr.keeps kw).at_ hlt
          have hi1 : (k : Int) < (n : Int) := by omega
          have HX1 := hid (show (rs.getD k rl0).1 = v by rw [← hx.out])
          obtain ⟨p, HP⟩ : ∃ p, Hid (relB ps l (v, pl, x1, x2, x3, x4) = p) := ⟨_, rfl⟩
          have HP2 := hid (show relB ps l (rs.getD k rl0) = p by rw [← hx.out]; exact HP.out)
          clear hx
          have lt3 := b3.lt
          replace b3 := b3.keeps (keeps_alloc wr (.cells #[.int .i64 v, .slice P np cp, .int .i64 x1, .int .i64 x2, .int .i64 x3, .int .i64 x4] 87))
          replace hpl := hpl.keeps (keeps_alloc wr (.cells #[.int .i64 v, .slice P np cp, .int .i64 x1, .int .i64 x2, .int .i64 x3, .int .i64 x4] 87))
          replace kw := Keeps.trans kw (keeps_alloc wr (.cells #[.int .i64 v, .slice P np cp, .int .i64 x1, .int .i64 x2, .int .i64 x3, .int .i64 x4] 87))
          have b8 : Bl (wr.alloc (.cells #[.int .i64 v, .slice P np cp, .int .i64 x1, .int .i64 x2, .int .i64 x3, .int .i64 x4] 87)) wr.heap.size [.int .i64 v, .slice P np cp, .int .i64 x1, .int .i64 x2, .int .i64 x3, .int .i64 x4] := Bl.new' (by simp) (by simp)
          obtain ⟨ca10, fa10⟩ := id b3
          have ca11_0 : (wr.alloc (.cells #[.int .i64 v, .slice P np cp, .int .i64 x1, .int .i64 x2, .int .i64 x3, .int .i64 x4] 87)).cell? ⟨wr.heap.size, 0, none⟩ = some (.int .i64 v) := (b8.2 0 _ rfl).1
          have ca11_1 : (wr.alloc (.cells #[.int .i64 v, .slice P np cp, .int .i64 x1, .int .i64 x2, .int .i64 x3, .int .i64 x4] 87)).cell? ⟨wr.heap.size, 1, none⟩ = some (.slice P np cp) := (b8.2 1 _ rfl).1
          have ca11_2 : (wr.alloc (.cells #[.int .i64 v, .slice P np cp, .int .i64 x1, .int .i64 x2, .int .i64 x3, .int .i64 x4] 87)).cell? ⟨wr.heap.size, 2, none⟩ = some (.int .i64 x1) := (b8.2 2 _ rfl).1
          have ca11_3 : (wr.alloc (.cells #[.int .i64 v, .slice P np cp, .int .i64 x1, .int .i64 x2, .int .i64 x3, .int .i64 x4] 87)).cell? ⟨wr.heap.size, 3, none⟩ = some (.int .i64 x2) := (b8.2 3 _ rfl).1
          have ca11_4 : (wr.alloc (.cells #[.int .i64 v, .slice P np cp, .int .i64 x1, .int .i64 x2, .int .i64 x3, .int .i64 x4] 87)).cell? ⟨wr.heap.size, 4, none⟩ = some (.int .i64 x3) := (b8.2 4 _ rfl).1
          have ca11_5 : (wr.alloc (.cells #[.int .i64 v, .slice P np cp, .int .i64 x1, .int .i64 x2, .int .i64 x3, .int .i64 x4] 87)).cell? ⟨wr.heap.size, 5, none⟩ = some (.int .i64 x4) := (b8.2 5 _ rfl).1
          by_cases hver : v = (k : Int) + 1
          rotate_left
          · have t1 := ne_ver hver
            have HX := hid (hisB_no (ps := ps) (l := l) HRL.out hlt (by rw [HX1.out, decide_eq_false hver]; rfl))
            clear hver
            go_wp2_with fail
            clear ca10 fa10 ca11_0 ca11_1 ca11_2 ca11_3 ca11_4 ca11_5
            go_ret
            exact ⟨ret_bool HX.out.symm, kw⟩
          have t1 := eq_ver hver
          have HV := hid (decide_eq_true hver)
          clear hver
          go_wp2_with fail
          clear ca10 fa10 ca11_0 ca11_1 ca11_2 ca11_3 ca11_4 ca11_5
          refine (isRelease_any (c := cp) (h.keeps kw) (h'.keeps kw) hpl HG.out HS.out).mono ?_
          rintro e w12 ⟨rfl, k12⟩
          rw [HP.out]
          replace b3 := b3.keeps k12
          replace b8 := b8.keeps k12
          replace hpl := hpl.keeps k12
          replace kw := Keeps.trans kw k12
          have lt13 := b8.lt
          have sz14 := kw.size
          clear k12
          clear hc0 hc1 hc2 hc3 hc4 hc5 b8
          cases p
          · have HX := hid (hisB_no (ps := ps) (l := l) HRL.out hlt (by rw [HX1.out, HP2.out, Bool.and_false]))
            obtain ⟨ca15, fa15⟩ := id b3
            go_wp2_with fail
            clear ca15 fa15
            go_ret
            exact ⟨ret_bool HX.out.symm, kw⟩
          have HN := hid (show hisTo ps l rs (k + 1) = true by unfold hisTo; rw [HT.out, HX1.out, HV.out, HP2.out]; rfl)
          obtain ⟨ca15, fa15⟩ := id b3
          go_wp2_with fail
          clear ca15 fa15
          go_roundw
          case rel => exact ⟨k + 1, by omega, by go_num, HN, b3, kw⟩
          case measure => simp [intOf]; omega
        · obtain rfl : k = n := by omega
          have HX := hid (hisB_yes HG.out HS.out HRL.out h12 HT.out)
          go_wp2
          go_ret
          exact ⟨ret_bool HX.out.symm, kw⟩
set_option maxRecDepth 100000 in
set_option maxHeartbeats 6400000 in
theorem rlHistory_any {A A' R : Option Addr} {lo hi a c0 lo3 hi3 n c q e : Nat} {un : Bool} {ps : List Int} {l : List VV} {rs : List RL} {w : World} (h : Ints w lo hi A a ps) (h' : Sch w A' q e l) (hr : Rels true un w lo3 hi3 R n rs) :
    Calls Tryz.prog 64 #[.agg #[.slice A a c0], .slice A' q e, .slice R n c] w fun e w' => e = .returned (.bool (hisB ps l rs)) ∧ Keeps w w' := by
  obtain ⟨lo9, hi9, hv⟩ := h'.v
  have HRL := hid hr.len
  have hn := hr.le
  go_enter Tryz.func64, Tryz.ntmps64
  have kw := keeps_refl w
  replace kw := Keeps.trans kw (keeps_alloc w (.cells #[.slice A a c0] 26))
  have b3 : B1 (w.alloc (.cells #[.slice A a c0] 26)) w.heap.size (.slice A a c0) := B1.new' (by simp)
  obtain ⟨ca1, fa1⟩ := id b3
  go_wp2_with fail
  clear ca1 fa1
  obtain ⟨pH1, H1⟩ : ∃ pB, Hid ((geoB ps && schB l) = pB) := ⟨_, rfl⟩
  refine (nInput_any (h.keeps kw) (h'.keeps kw)).mono ?_
  rintro e w2 ⟨rfl, k2⟩
  rw [H1.out]
  replace b3 := b3.keeps k2
  replace kw := Keeps.trans kw k2
  have lt3 := b3.lt
  have sz4 := kw.size
  clear k2
  cases pH1
  · have HX := hid (hisB_in (rs := rs) H1.out)
    obtain ⟨ca5, fa5⟩ := id b3
    go_wp2_with fail
    clear ca5 fa5
    go_ret
    exact ⟨ret_bool HX.out.symm, kw⟩
  · skip
    have HG := hid (show geoB ps = true by have := H1.out; simp only [Bool.and_eq_true] at this; exact this.1)
    have HS := hid (show schB l = true by have := H1.out; simp only [Bool.and_eq_true] at this; exact this.2)
    by_cases h12 : n ≤ 12
    rotate_left
    · have HX := hid (hisB_len (ps := ps) (l := l) (rs := rs) (by rw [HRL.out]; exact h12))
      obtain ⟨ca5, fa5⟩ := id b3
      go_wp2_with fail
      clear ca5 fa5
      go_ret
      exact ⟨ret_bool HX.out.symm, kw⟩
    obtain ⟨ca5, fa5⟩ := id b3
    go_wp2_with fail
    clear ca5 fa5
    go_loopw [20] (fun i wr => ∃ k : Nat, k ≤ n ∧ i = .int .i64 k ∧ Hid (hisTo ps l rs k = true) ∧ B1 wr w.heap.size (.slice A a c0) ∧ Keeps w wr) (fun i _ => n - (intOf i).toNat)
    case atStart => exact ⟨0, Nat.zero_le _, rfl, hid rfl, b3, kw⟩
    clear b3 kw
    case round =>
      obtain ⟨k, hk, rfl, HT, b3, kw⟩ := hrel
      by_cases hlt : k < n
      · obtain ⟨b, off, v, P, np, cp, x1, x2, x3, x4, pl, rfl, _, _, hc0, hc1, hc2, hc3, hc4, hc5, hpl, hx⟩ := (hr.keeps kw).at_ hlt
        have hi1 : (k : Int) < (n : Int) := by omega
        have HX1 := hid (show (rs.getD k rl0).1 = v by rw [← hx.out])
        obtain ⟨p, HP⟩ : ∃ p, Hid (relB ps l (v, pl, x1, x2, x3, x4) = p) := ⟨_, rfl⟩
        have HP2 := hid (show relB ps l (rs.getD k rl0) = p by rw [← hx.out]; exact HP.out)
        clear hx
        have lt3 := b3.lt
        replace b3 := b3.keeps (keeps_alloc wr (.cells #[.int .i64 v, .slice P np cp, .int .i64 x1, .int .i64 x2, .int .i64 x3, .int .i64 x4] 87))
        replace hpl := hpl.keeps (keeps_alloc wr (.cells #[.int .i64 v, .slice P np cp, .int .i64 x1, .int .i64 x2, .int .i64 x3, .int .i64 x4] 87))
        replace kw := Keeps.trans kw (keeps_alloc wr (.cells #[.int .i64 v, .slice P np cp, .int .i64 x1, .int .i64 x2, .int .i64 x3, .int .i64 x4] 87))
        have b8 : Bl (wr.alloc (.cells #[.int .i64 v, .slice P np cp, .int .i64 x1, .int .i64 x2, .int .i64 x3, .int .i64 x4] 87)) wr.heap.size [.int .i64 v, .slice P np cp, .int .i64 x1, .int .i64 x2, .int .i64 x3, .int .i64 x4] := Bl.new' (by simp) (by simp)
        obtain ⟨ca6, fa6⟩ := id b3
        have ca7_0 : (wr.alloc (.cells #[.int .i64 v, .slice P np cp, .int .i64 x1, .int .i64 x2, .int .i64 x3, .int .i64 x4] 87)).cell? ⟨wr.heap.size, 0, none⟩ = some (.int .i64 v) := (b8.2 0 _ rfl).1
        have ca7_1 : (wr.alloc (.cells #[.int .i64 v, .slice P np cp, .int .i64 x1, .int .i64 x2, .int .i64 x3, .int .i64 x4] 87)).cell? ⟨wr.heap.size, 1, none⟩ = some (.slice P np cp) := (b8.2 1 _ rfl).1
        have ca7_2 : (wr.alloc (.cells #[.int .i64 v, .slice P np cp, .int .i64 x1, .int .i64 x2, .int .i64 x3, .int .i64 x4] 87)).cell? ⟨wr.heap.size, 2, none⟩ = some (.int .i64 x1) := (b8.2 2 _ rfl).1
        have ca7_3 : (wr.alloc (.cells #[.int .i64 v, .slice P np cp, .int .i64 x1, .int .i64 x2, .int .i64 x3, .int .i64 x4] 87)).cell? ⟨wr.heap.size, 3, none⟩ = some (.int .i64 x2) := (b8.2 3 _ rfl).1
        have ca7_4 : (wr.alloc (.cells #[.int .i64 v, .slice P np cp, .int .i64 x1, .int .i64 x2, .int .i64 x3, .int .i64 x4] 87)).cell? ⟨wr.heap.size, 4, none⟩ = some (.int .i64 x3) := (b8.2 4 _ rfl).1
        have ca7_5 : (wr.alloc (.cells #[.int .i64 v, .slice P np cp, .int .i64 x1, .int .i64 x2, .int .i64 x3, .int .i64 x4] 87)).cell? ⟨wr.heap.size, 5, none⟩ = some (.int .i64 x4) := (b8.2 5 _ rfl).1
        by_cases hver : v = (k : Int) + 1
        rotate_left
        · have t1 := ne_ver hver
          have HX := hid (hisB_no (ps := ps) (l := l) HRL.out hlt (by rw [HX1.out, decide_eq_false hver]; rfl))
          clear hver
          go_wp2_with fail
          clear ca6 fa6 ca7_0 ca7_1 ca7_2 ca7_3 ca7_4 ca7_5
          go_ret
          exact ⟨ret_bool HX.out.symm, kw⟩
        have t1 := eq_ver hver
        have HV := hid (decide_eq_true hver)
        clear hver
        go_wp2_with fail
        clear ca6 fa6 ca7_0 ca7_1 ca7_2 ca7_3 ca7_4 ca7_5
        refine (rlGood_any (c := cp) (h.keeps kw) (h'.keeps kw) hpl HG.out HS.out).mono ?_
        rintro e w8 ⟨rfl, k8⟩
        rw [HP.out]
        replace b3 := b3.keeps k8
        replace b8 := b8.keeps k8
        replace hpl := hpl.keeps k8
        replace kw := Keeps.trans kw k8
        have lt9 := b8.lt
        have sz10 := kw.size
        clear k8
        clear hc0 hc1 hc2 hc3 hc4 hc5 b8
        cases p
        · have HX := hid (hisB_no (ps := ps) (l := l) HRL.out hlt (by rw [HX1.out, HP2.out, Bool.and_false]))
          obtain ⟨ca11, fa11⟩ := id b3
          go_wp2_with fail
          clear ca11 fa11
          go_ret
          exact ⟨ret_bool HX.out.symm, kw⟩
        have HN := hid (show hisTo ps l rs (k + 1) = true by unfold hisTo; rw [HT.out, HX1.out, HV.out, HP2.out]; rfl)
        obtain ⟨ca11, fa11⟩ := id b3
        go_wp2_with fail
        clear ca11 fa11
        go_roundw
        case rel => exact ⟨k + 1, by omega, by go_num, HN, b3, kw⟩
        case measure => simp [intOf]; omega
      · obtain rfl : k = n := by omega
        have HX := hid (hisB_yes HG.out HS.out HRL.out h12 HT.out)
        go_wp2
        go_ret
        exact ⟨ret_bool HX.out.symm, kw⟩
end Go.Proofs.YtohjkpopbmmliaaGreat
