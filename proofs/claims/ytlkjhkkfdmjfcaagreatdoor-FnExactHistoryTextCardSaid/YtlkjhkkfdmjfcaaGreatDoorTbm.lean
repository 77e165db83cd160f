/- Tables, plans: valid or not; of the program and of the reference: walks. -/
import Derived.Test.YtlkjhkkfdmjfcaaGreatDoorTbl
import Derived.Test.YtlkjhkkfdmjfcaaGreatDoorBl
import Derived.Deep.RegionLaw
namespace Go.Proofs.YtlkjhkkfdmjfcaaGreatDoor
open Go.RowKit
set_option linter.unusedVariables false
set_option linter.unusedSimpArgs false

def calleeT (o : Oper) : Option FuncId := match o.op with
  | .call c => match c.callee with
    | .value (.func f) => some f
    | _ => none
  | _ => none
/-- A call in a region, by its contract; the callee is looked at first. -/
theorem step_anyT {W : World} {ops : Array Oper} {o : Oper} {a : Act} {K : Act → World → Prop} {Q : Exit → Act → World → Prop} {E : Prop} {f : FuncId} {args : Array Value} {R : Ending → World → Prop}
    (hc : Calls Tryz.prog f args W R) (hf : calleeT o = some f) (hr : ∀ e w', R e w' → ∃ v, e = .returned v) (hgd : o.guard = none)
    (hrun : (execOp a.eval o).run Tryz.prog W = .ok (.enter f args) W)
    (h : ∀ v w', R (.returned v) w' → K (a.put o.dst v) w') :
    if Region.wanted o (yielded ops a.tmps) = true then Oper.wp Tryz.prog o a W K Q else E := step_any hc hr hgd hrun h

set_option maxRecDepth 100000 in
set_option maxHeartbeats 3200000 in
theorem crossed_any {A' V H : Option Addr} {lo hi n c m d q e : Nat} {vs : List Int} {l : List VV} {lv sm : Int} {w : World} (h : Ints w lo hi V n vs) (h' : Sch w A' q e l) (hvs : vsB q vs = true) :
    Calls Tryz.prog 142 #[.slice A' q e, .agg #[.int .i64 lv, .slice V n c, .slice H m d, .int .i64 sm]] w (PartRes w (partL l vs) n) := by
  obtain ⟨lo', hi', hv⟩ := h'.v
  have hn := h.le
  have HL := hid h.1
  have HV := hid (fun (k : Nat) (hk : k < n) => vsB_at hvs (k := k) (by rw [h.1]; exact hk))
  have HPL := hid (show (partL l vs).length = n by rw [partL_len, h.1])
  clear hvs
  have hmk := make_vars n hn
  go_enter Tryz.func142, Tryz.ntmps142
  have kw := keeps_refl w
  replace kw := Keeps.trans kw (keeps_alloc w (.cells #[.int .i64 lv, .slice V n c, .slice H m d, .int .i64 sm] 61))
  have b3 : Bl (w.alloc (.cells #[.int .i64 lv, .slice V n c, .slice H m d, .int .i64 sm] 61)) w.heap.size [.int .i64 lv, .slice V n c, .slice H m d, .int .i64 sm] := Bl.new' (by simp) (by simp)
  have ca1_0 : (w.alloc (.cells #[.int .i64 lv, .slice V n c, .slice H m d, .int .i64 sm] 61)).cell? ⟨w.heap.size, 0, none⟩ = some (.int .i64 lv) := (b3.2 0 _ rfl).1
  have fa1_0 : (w.alloc (.cells #[.int .i64 lv, .slice V n c, .slice H m d, .int .i64 sm] 61)).frozen? ⟨w.heap.size, 0, none⟩ = false := (b3.2 0 _ rfl).2
  have ca1_1 : (w.alloc (.cells #[.int .i64 lv, .slice V n c, .slice H m d, .int .i64 sm] 61)).cell? ⟨w.heap.size, 1, none⟩ = some (.slice V n c) := (b3.2 1 _ rfl).1
  have fa1_1 : (w.alloc (.cells #[.int .i64 lv, .slice V n c, .slice H m d, .int .i64 sm] 61)).frozen? ⟨w.heap.size, 1, none⟩ = false := (b3.2 1 _ rfl).2
  have ca1_2 : (w.alloc (.cells #[.int .i64 lv, .slice V n c, .slice H m d, .int .i64 sm] 61)).cell? ⟨w.heap.size, 2, none⟩ = some (.slice H m d) := (b3.2 2 _ rfl).1
  have fa1_2 : (w.alloc (.cells #[.int .i64 lv, .slice V n c, .slice H m d, .int .i64 sm] 61)).frozen? ⟨w.heap.size, 2, none⟩ = false := (b3.2 2 _ rfl).2
  have ca1_3 : (w.alloc (.cells #[.int .i64 lv, .slice V n c, .slice H m d, .int .i64 sm] 61)).cell? ⟨w.heap.size, 3, none⟩ = some (.int .i64 sm) := (b3.2 3 _ rfl).1
  have fa1_3 : (w.alloc (.cells #[.int .i64 lv, .slice V n c, .slice H m d, .int .i64 sm] 61)).frozen? ⟨w.heap.size, 3, none⟩ = false := (b3.2 3 _ rfl).2
  go_wp2_with fail
  clear ca1_0 fa1_0 ca1_1 fa1_1 ca1_2 fa1_2 ca1_3 fa1_3
  replace b3 := b3.keeps (keeps_alloc (w.alloc (.cells #[.int .i64 lv, .slice V n c, .slice H m d, .int .i64 sm] 61)) (.cells (madeCells #[.string ByteArray.empty, .int .i64 0] (n * 2)) 82))
  replace kw := Keeps.trans kw (keeps_alloc (w.alloc (.cells #[.int .i64 lv, .slice V n c, .slice H m d, .int .i64 sm] 61)) (.cells (madeCells #[.string ByteArray.empty, .int .i64 0] (n * 2)) 82))
  clear hmk
  have own : OwnC ((w.alloc (.cells #[.int .i64 lv, .slice V n c, .slice H m d, .int .i64 sm] 61)).alloc (.cells (madeCells #[.string ByteArray.empty, .int .i64 0] (n * 2)) 82)) (w.heap.size + 1) 82 (vrs (padD v0 (partL l vs) 0)) := by
    rw [padD_zero, HPL.out]
    have q := OwnC.newV (w.alloc (.cells #[.int .i64 lv, .slice V n c, .slice H m d, .int .i64 sm] 61)) n
    rwa [show (w.alloc (.cells #[.int .i64 lv, .slice V n c, .slice H m d, .int .i64 sm] 61)).heap.size = w.heap.size + 1 by simp] at q
  clear b3
  go_loopw [15] (fun i wr => ∃ k : Nat, k ≤ n ∧ i = .int .i64 k ∧ OwnC wr (w.heap.size + 1) 82 (vrs (padD v0 (partL l vs) k)) ∧ Keeps w wr) (fun i _ => n - (intOf i).toNat)
  case atStart => exact ⟨0, Nat.zero_le _, rfl, own, kw⟩
  clear own kw
  case round =>
    obtain ⟨k, hk, rfl, hown, kw⟩ := hrel
    have hgs := hown.lt
    by_cases hlt : k < n
    · obtain ⟨b, off, z, rfl, _, _, hc, hz⟩ := (h.keeps kw).at_ hlt
      have hi1 : (k : Int) < (n : Int) := by omega
      have hz2 := HV.out k hlt
      rw [← hz.out] at hz2
      obtain ⟨j, rfl⟩ : ∃ j : Nat, z = (j : Int) := ⟨z.toNat, by omega⟩
      have hjm : j < q := by omega
      have hj1 : (j : Int) < (q : Int) := by omega
      obtain ⟨b', off', x, y, rfl, _, _, hcx, hcy, hx⟩ := Vars.at_ (Sl.keeps hv kw) hjm
      have HX := hid (padD_succ v0 (partL l vs) k (by rw [HPL.out]; exact hlt))
      rw [partL_at l vs (by rw [HL.out]; exact hlt), ← hz.out, Int.toNat_natCast, ← hx.out] at HX
      have hll : (vrs (padD v0 (partL l vs) k)).length = n * 2 := by rw [vrs_len, padD_len _ _ _ (by rw [HPL.out]; omega), HPL.out]
      have d1 := hown.cell (k * 2) (by omega)
      have d2 := hown.cell (k * 2 + 1) (by omega)
      have f1 := hown.frozen (k * 2)
      have f2 := hown.frozen (k * 2 + 1)
      have H1 := hid (OwnC.setV (k := k) hown x y)
      rw [HX.out] at H1
      have H2 := hid (Below.setCell (Below.setCell kw (p := ⟨w.heap.size + 1, k * 2, none⟩) (Nat.le_succ _) (.string x)) (p := ⟨w.heap.size + 1, k * 2 + 1, none⟩) (Nat.le_succ _) (.int .i64 y))
      clear hown kw hz hx hz2
      go_wp2
      go_roundw
      case rel => exact ⟨k + 1, by omega, by go_num, H1.out, H2.out⟩
      case measure => simp [intOf]; omega
    · obtain rfl : k = n := by omega
      rw [show padD v0 (partL l vs) k = partL l vs by rw [← HPL.out]; exact padD_all _ _] at hown
      have HM := hid (hown.slm (n := k) (sz := 2) (lo := w.heap.size) (hi := wr.heap.size) (by rw [vrs_len, HPL.out]) hn (Nat.le_succ _) hgs (Nat.le_refl _))
      clear hown
      go_wp2
      go_ret
      exact ⟨_, _, rfl, HM.out, Nat.le_refl _, by unfold maxLen; omega, kw⟩
set_option maxRecDepth 100000 in
set_option maxHeartbeats 6400000 in
theorem cellCount_any {A A' V H : Option Addr} {lo hi a c0 lo' hi' n c m d q e : Nat} {ps vs : List Int} {l : List VV} {lv sm : Int} {ws : List Int} {w : World} (h : Ints w lo hi A a ps) (h' : Sch w A' q e l) (hV : Ints w lo' hi' V n vs) (hg : geoB ps = true) (hs : schB l = true) (hvs : vsB q vs = true) :
    Calls Tryz.prog 97 #[.agg #[.slice A a c0], .slice A' q e, .agg #[.int .i64 lv, .slice V n c, .slice H m d, .int .i64 sm]] w fun e w' => e = .returned (.int .i64 (tabN ps l (lv, vs, ws, sm))) ∧ Keeps w w' := by
  obtain ⟨lo9, hi9, hv⟩ := h'.v
  have hl := Vars.len hv
  have hnl := hV.1
  obtain ⟨hlv, -, h6⟩ := schB_lv hl hs
  have hb := tabN_bd (t := (lv, vs, ws, sm)) hg hs (by rw [hl]; exact hvs)
  have HN := hid (show tabN ps l (lv, vs, ws, sm) = ((lev ps lv).length : Int) * prodTo (partL l vs) n by rw [← hnl]; rfl)
  have hn6 : n ≤ 6 := by have := vsB_len hvs; omega
  have HPV := hid (show LvOk (partL l vs) n by have := partL_lv hlv hvs; rwa [hnl] at this)
  have HT := hid (tree_of hg)
  have HV := hid hvs
  rw [HN.out] at hb
  clear hl hnl hlv hg hs hvs h6 hv
  have hl30 := lev_len ps lv
  have ha := h.1
  have ha2 := h.le
  obtain ⟨L, hL⟩ : ∃ L, (lev ps lv).length = L := ⟨_, rfl⟩
  obtain ⟨P, hP⟩ : ∃ P, prodTo (partL l vs) n = P := ⟨_, rfl⟩
  rw [hL, hP] at hb HN
  rw [hL] at hl30
  have HLL := hid hL
  have HPP := hid hP
  obtain ⟨hb0, hb1⟩ := hb
  have WR := hid (show IntKind.i64.wrap ((L : Int) * P) = tabN ps l (lv, vs, ws, sm) by rw [IntWalk.i64_in _ (by omega)]; exact HN.out.symm)
  clear hL hP ha
  go_enter Tryz.func97, Tryz.ntmps97
  have kw := keeps_refl w
  replace kw := Keeps.trans kw (keeps_alloc w (.cells #[.slice A a c0] 32))
  have b3 : B1 (w.alloc (.cells #[.slice A a c0] 32)) w.heap.size (.slice A a c0) := B1.new' (by simp)
  replace b3 := b3.keeps (keeps_alloc (w.alloc (.cells #[.slice A a c0] 32)) (.cells #[.int .i64 lv, .slice V n c, .slice H m d, .int .i64 sm] 61))
  replace kw := Keeps.trans kw (keeps_alloc (w.alloc (.cells #[.slice A a c0] 32)) (.cells #[.int .i64 lv, .slice V n c, .slice H m d, .int .i64 sm] 61))
  have b5 : Bl ((w.alloc (.cells #[.slice A a c0] 32)).alloc (.cells #[.int .i64 lv, .slice V n c, .slice H m d, .int .i64 sm] 61)) (w.heap.size + 1) [.int .i64 lv, .slice V n c, .slice H m d, .int .i64 sm] := Bl.new' (by simp) (by simp)
  go_wp2_with fail
  obtain ⟨ca3, -⟩ := id b3
  have c50 := (b5.2 0 _ rfl).1
  have c51 := (b5.2 1 _ rfl).1
  have c52 := (b5.2 2 _ rfl).1
  have c53 := (b5.2 3 _ rfl).1
  have KW := hid kw
  clear kw b3 b5
  have kW := keeps_d0 ((w.alloc (.cells #[.slice A a c0] 32)).alloc (.cells #[.int .i64 lv, .slice V n c, .slice H m d, .int .i64 sm] 61))
  have z3 := cell_keeps ca3 kW
  have y0 := cell_keeps c50 kW
  have y1 := cell_keeps c51 kW
  have y2 := cell_keeps c52 kW
  have y3 := cell_keeps c53 kW
  replace z3 : ((w.alloc (.cells #[.slice A a c0] 32)).alloc (.cells #[.int .i64 lv, .slice V n c, .slice H m d, .int .i64 sm] 61)).drew.cell? ⟨w.heap.size, 0, none⟩ = some (.slice A a c0) := z3
  replace y0 : ((w.alloc (.cells #[.slice A a c0] 32)).alloc (.cells #[.int .i64 lv, .slice V n c, .slice H m d, .int .i64 sm] 61)).drew.cell? ⟨w.heap.size + 1, 0, none⟩ = some (.int .i64 lv) := y0
  replace y1 : ((w.alloc (.cells #[.slice A a c0] 32)).alloc (.cells #[.int .i64 lv, .slice V n c, .slice H m d, .int .i64 sm] 61)).drew.cell? ⟨w.heap.size + 1, 1, none⟩ = some (.slice V n c) := y1
  replace y2 : ((w.alloc (.cells #[.slice A a c0] 32)).alloc (.cells #[.int .i64 lv, .slice V n c, .slice H m d, .int .i64 sm] 61)).drew.cell? ⟨w.heap.size + 1, 2, none⟩ = some (.slice H m d) := y2
  replace y3 : ((w.alloc (.cells #[.slice A a c0] 32)).alloc (.cells #[.int .i64 lv, .slice V n c, .slice H m d, .int .i64 sm] 61)).drew.cell? ⟨w.heap.size + 1, 3, none⟩ = some (.int .i64 sm) := y3
  go_region_law ((first | (refine step_anyT (areasAt_any (lv := lv) (c := c0) (h.keeps (Keeps.trans KW.out kW)) HT.out) (by rfl) (fun e w' hh => by obtain ⟨_, _, h, _⟩ := hh; exact ⟨_, h⟩) rfl (by kernel_rfl) ?_; intro v9 wB hh; obtain ⟨LA, LC, eE, -, kB⟩ := hh; cases eE; rw [HLL.out]; (first | (have mP := SlM.keeps mP kB) | skip); replace kW : Keeps ((w.alloc (.cells #[.slice A a c0] 32)).alloc (.cells #[.int .i64 lv, .slice V n c, .slice H m d, .int .i64 sm] 61)) wB := kW.trans kB; clear kB; have z3 := cell_keeps ca3 kW; have y0 := cell_keeps c50 kW; have y1 := cell_keeps c51 kW; have y2 := cell_keeps c52 kW; have y3 := cell_keeps c53 kW) | (refine step_anyT (crossed_any (m := m) (c := c) (H := H) (d := d) (lv := lv) (sm := sm) (hV.keeps (Keeps.trans KW.out kW)) (h'.keeps (Keeps.trans KW.out kW)) HV.out) (by rfl) (fun e w' hh => by obtain ⟨_, _, h, _⟩ := hh; exact ⟨_, h⟩) rfl (by kernel_rfl) ?_; intro v9 wB hh; obtain ⟨PA, PC, eE, mP, -, -, kB⟩ := hh; cases eE; replace kW : Keeps ((w.alloc (.cells #[.slice A a c0] 32)).alloc (.cells #[.int .i64 lv, .slice V n c, .slice H m d, .int .i64 sm] 61)) wB := kW.trans kB; clear kB; have z3 := cell_keeps ca3 kW; have y0 := cell_keeps c50 kW; have y1 := cell_keeps c51 kW; have y2 := cell_keeps c52 kW; have y3 := cell_keeps c53 kW) | (refine step_anyT (combinations_any (c := PC) mP.1 HPV.out hn6) (by rfl) (fun e w' hh => by obtain ⟨h, _⟩ := hh; exact ⟨_, h⟩) rfl (by kernel_rfl) ?_; intro v9 wB hh; obtain ⟨eE, kB⟩ := hh; cases eE; rw [HPP.out]; (first | (have mP := SlM.keeps mP kB) | skip); replace kW : Keeps ((w.alloc (.cells #[.slice A a c0] 32)).alloc (.cells #[.int .i64 lv, .slice V n c, .slice H m d, .int .i64 sm] 61)) wB := kW.trans kB; clear kB; have z3 := cell_keeps ca3 kW; have y0 := cell_keeps c50 kW; have y1 := cell_keeps c51 kW; have y2 := cell_keeps c52 kW; have y3 := cell_keeps c53 kW)))
  all_goals (
    have KK := hid (KW.out.trans kW)
    clear mP kW z3 y0 y1 y2 y3 ca3 c50 c51 c52 c53
    go_wp2
    go_ret
    exact ⟨ret_int WR.out, KK.out⟩)
set_option maxRecDepth 100000 in
set_option maxHeartbeats 6400000 in
theorem uCount_any {A A' V H : Option Addr} {lo hi a c0 lo' hi' n c m d q e : Nat} {ps vs : List Int} {l : List VV} {lv sm : Int} {ws : List Int} {w : World} (h : Ints w lo hi A a ps) (h' : Sch w A' q e l) (hV : Ints w lo' hi' V n vs) (hg : geoB ps = true) (hs : schB l = true) (hvs : vsB q vs = true) :
    Calls Tryz.prog 135 #[.agg #[.slice A a c0], .slice A' q e, .agg #[.int .i64 lv, .slice V n c, .slice H m d, .int .i64 sm]] w fun e w' => e = .returned (.int .i64 (tabN ps l (lv, vs, ws, sm))) ∧ Keeps w w' := by
  obtain ⟨lo9, hi9, hv⟩ := h'.v
  have hl := Vars.len hv
  have hnl := hV.1
  obtain ⟨hlv, -, h6⟩ := schB_lv hl hs
  have hb := tabN_bd (t := (lv, vs, ws, sm)) hg hs (by rw [hl]; exact hvs)
  have HN := hid (show tabN ps l (lv, vs, ws, sm) = ((lev ps lv).length : Int) * prodTo (partL l vs) n by rw [← hnl]; rfl)
  have hn6 : n ≤ 6 := by have := vsB_len hvs; omega
  have HPV := hid (show LvOk (partL l vs) n by have := partL_lv hlv hvs; rwa [hnl] at this)
  have HT := hid (tree_of hg)
  have HV := hid hvs
  rw [HN.out] at hb
  clear hl hnl hlv hg hs hvs h6 hv
  have hl30 := lev_len ps lv
  have ha := h.1
  have ha2 := h.le
  obtain ⟨L, hL⟩ : ∃ L, (lev ps lv).length = L := ⟨_, rfl⟩
  obtain ⟨P, hP⟩ : ∃ P, prodTo (partL l vs) n = P := ⟨_, rfl⟩
  rw [hL, hP] at hb HN
  rw [hL] at hl30
  have HLL := hid hL
  have HPP := hid hP
  obtain ⟨hb0, hb1⟩ := hb
  have WR := hid (show IntKind.i64.wrap ((L : Int) * P) = tabN ps l (lv, vs, ws, sm) by rw [IntWalk.i64_in _ (by omega)]; exact HN.out.symm)
  clear hL hP ha
  go_enter Tryz.func135, Tryz.ntmps135
  have kw := keeps_refl w
  replace kw := Keeps.trans kw (keeps_alloc w (.cells #[.slice A a c0] 32))
  have b3 : B1 (w.alloc (.cells #[.slice A a c0] 32)) w.heap.size (.slice A a c0) := B1.new' (by simp)
  replace b3 := b3.keeps (keeps_alloc (w.alloc (.cells #[.slice A a c0] 32)) (.cells #[.int .i64 lv, .slice V n c, .slice H m d, .int .i64 sm] 61))
  replace kw := Keeps.trans kw (keeps_alloc (w.alloc (.cells #[.slice A a c0] 32)) (.cells #[.int .i64 lv, .slice V n c, .slice H m d, .int .i64 sm] 61))
  have b5 : Bl ((w.alloc (.cells #[.slice A a c0] 32)).alloc (.cells #[.int .i64 lv, .slice V n c, .slice H m d, .int .i64 sm] 61)) (w.heap.size + 1) [.int .i64 lv, .slice V n c, .slice H m d, .int .i64 sm] := Bl.new' (by simp) (by simp)
  go_wp2_with fail
  obtain ⟨ca3, -⟩ := id b3
  have c50 := (b5.2 0 _ rfl).1
  have c51 := (b5.2 1 _ rfl).1
  have c52 := (b5.2 2 _ rfl).1
  have c53 := (b5.2 3 _ rfl).1
  have KW := hid kw
  clear kw b3 b5
  have kW := keeps_d0 ((w.alloc (.cells #[.slice A a c0] 32)).alloc (.cells #[.int .i64 lv, .slice V n c, .slice H m d, .int .i64 sm] 61))
  have z3 := cell_keeps ca3 kW
  have y0 := cell_keeps c50 kW
  have y1 := cell_keeps c51 kW
  have y2 := cell_keeps c52 kW
  have y3 := cell_keeps c53 kW
  replace z3 : ((w.alloc (.cells #[.slice A a c0] 32)).alloc (.cells #[.int .i64 lv, .slice V n c, .slice H m d, .int .i64 sm] 61)).drew.cell? ⟨w.heap.size, 0, none⟩ = some (.slice A a c0) := z3
  replace y0 : ((w.alloc (.cells #[.slice A a c0] 32)).alloc (.cells #[.int .i64 lv, .slice V n c, .slice H m d, .int .i64 sm] 61)).drew.cell? ⟨w.heap.size + 1, 0, none⟩ = some (.int .i64 lv) := y0
  replace y1 : ((w.alloc (.cells #[.slice A a c0] 32)).alloc (.cells #[.int .i64 lv, .slice V n c, .slice H m d, .int .i64 sm] 61)).drew.cell? ⟨w.heap.size + 1, 1, none⟩ = some (.slice V n c) := y1
  replace y2 : ((w.alloc (.cells #[.slice A a c0] 32)).alloc (.cells #[.int .i64 lv, .slice V n c, .slice H m d, .int .i64 sm] 61)).drew.cell? ⟨w.heap.size + 1, 2, none⟩ = some (.slice H m d) := y2
  replace y3 : ((w.alloc (.cells #[.slice A a c0] 32)).alloc (.cells #[.int .i64 lv, .slice V n c, .slice H m d, .int .i64 sm] 61)).drew.cell? ⟨w.heap.size + 1, 3, none⟩ = some (.int .i64 sm) := y3
  go_region_law ((first | (refine step_anyT (gLevel_any (lv := lv) (c := c0) (h.keeps (Keeps.trans KW.out kW)) HT.out) (by rfl) (fun e w' hh => by obtain ⟨_, _, h, _⟩ := hh; exact ⟨_, h⟩) rfl (by kernel_rfl) ?_; intro v9 wB hh; obtain ⟨LA, LC, eE, -, kB⟩ := hh; cases eE; rw [HLL.out]; (first | (have mP := SlM.keeps mP kB) | skip); replace kW : Keeps ((w.alloc (.cells #[.slice A a c0] 32)).alloc (.cells #[.int .i64 lv, .slice V n c, .slice H m d, .int .i64 sm] 61)) wB := kW.trans kB; clear kB; have z3 := cell_keeps ca3 kW; have y0 := cell_keeps c50 kW; have y1 := cell_keeps c51 kW; have y2 := cell_keeps c52 kW; have y3 := cell_keeps c53 kW) | (refine step_anyT (sPart_any (c := c) (d := e) (hV.keeps (Keeps.trans KW.out kW)) (h'.keeps (Keeps.trans KW.out kW)) HV.out) (by rfl) (fun e w' hh => by obtain ⟨_, _, h, _⟩ := hh; exact ⟨_, h⟩) rfl (by kernel_rfl) ?_; intro v9 wB hh; obtain ⟨PA, PC, eE, mP, -, -, kB⟩ := hh; cases eE; replace kW : Keeps ((w.alloc (.cells #[.slice A a c0] 32)).alloc (.cells #[.int .i64 lv, .slice V n c, .slice H m d, .int .i64 sm] 61)) wB := kW.trans kB; clear kB; have z3 := cell_keeps ca3 kW; have y0 := cell_keeps c50 kW; have y1 := cell_keeps c51 kW; have y2 := cell_keeps c52 kW; have y3 := cell_keeps c53 kW) | (refine step_anyT (sCount_any (c := PC) mP.1 HPV.out hn6) (by rfl) (fun e w' hh => by obtain ⟨h, _⟩ := hh; exact ⟨_, h⟩) rfl (by kernel_rfl) ?_; intro v9 wB hh; obtain ⟨eE, kB⟩ := hh; cases eE; rw [HPP.out]; (first | (have mP := SlM.keeps mP kB) | skip); replace kW : Keeps ((w.alloc (.cells #[.slice A a c0] 32)).alloc (.cells #[.int .i64 lv, .slice V n c, .slice H m d, .int .i64 sm] 61)) wB := kW.trans kB; clear kB; have z3 := cell_keeps ca3 kW; have y0 := cell_keeps c50 kW; have y1 := cell_keeps c51 kW; have y2 := cell_keeps c52 kW; have y3 := cell_keeps c53 kW)))
  all_goals (
    have KK := hid (KW.out.trans kW)
    clear mP kW z3 y0 y1 y2 y3 ca3 c50 c51 c52 c53
    go_wp2
    go_ret
    exact ⟨ret_int WR.out, KK.out⟩)
set_option maxRecDepth 100000 in
set_option maxHeartbeats 6400000 in
theorem isTable_any {A A' V H : Option Addr} {lo hi a c0 lo' hi' n c lo2 hi2 m d q e : Nat} {ps vs ws : List Int} {l : List VV} {lv sm : Int} {w : World} (h : Ints w lo hi A a ps) (h' : Sch w A' q e l) (hV : Ints w lo' hi' V n vs) (hH : Ints w lo2 hi2 H m ws) (hg : geoB ps = true) (hs : schB l = true) :
    Calls Tryz.prog 62 #[.agg #[.slice A a c0], .slice A' q e, .agg #[.int .i64 lv, .slice V n c, .slice H m d, .int .i64 sm]] w fun e w' => e = .returned (.bool (tabB ps l (lv, vs, ws, sm))) ∧ Keeps w w' := by
  obtain ⟨lo9, hi9, hv⟩ := h'.v
  have hl := Vars.len hv
  have hq := hv.le
  have HLV := hid (schB_lv hl hs).1
  have HB := hid (show tabB ps l (lv, vs, ws, sm) = (vsB q vs && whB l ws && inB sm (-1) ((q : Int) - 1) && (decide (0 < tabN ps l (lv, vs, ws, sm)) && decide (tabN ps l (lv, vs, ws, sm) ≤ 600))) by rw [← hl]; rfl)
  have HLQ := hid hl
  have HG := hid hg
  have HS := hid hs
  clear hl hg hs
  go_enter Tryz.func62, Tryz.ntmps62
  have kw := keeps_refl w
  replace kw := Keeps.trans kw (keeps_alloc w (.cells #[.slice A a c0] 32))
  have b3 : B1 (w.alloc (.cells #[.slice A a c0] 32)) w.heap.size (.slice A a c0) := B1.new' (by simp)
  replace b3 := b3.keeps (keeps_alloc (w.alloc (.cells #[.slice A a c0] 32)) (.cells #[.int .i64 lv, .slice V n c, .slice H m d, .int .i64 sm] 61))
  replace kw := Keeps.trans kw (keeps_alloc (w.alloc (.cells #[.slice A a c0] 32)) (.cells #[.int .i64 lv, .slice V n c, .slice H m d, .int .i64 sm] 61))
  have b5 : Bl ((w.alloc (.cells #[.slice A a c0] 32)).alloc (.cells #[.int .i64 lv, .slice V n c, .slice H m d, .int .i64 sm] 61)) (w.heap.size + 1) [.int .i64 lv, .slice V n c, .slice H m d, .int .i64 sm] := Bl.new' (by simp) (by simp)
  obtain ⟨ca1, fa1⟩ := id b3
  have ca2_0 : ((w.alloc (.cells #[.slice A a c0] 32)).alloc (.cells #[.int .i64 lv, .slice V n c, .slice H m d, .int .i64 sm] 61)).cell? ⟨w.heap.size + 1, 0, none⟩ = some (.int .i64 lv) := (b5.2 0 _ rfl).1
  have fa2_0 : ((w.alloc (.cells #[.slice A a c0] 32)).alloc (.cells #[.int .i64 lv, .slice V n c, .slice H m d, .int .i64 sm] 61)).frozen? ⟨w.heap.size + 1, 0, none⟩ = false := (b5.2 0 _ rfl).2
  have ca2_1 : ((w.alloc (.cells #[.slice A a c0] 32)).alloc (.cells #[.int .i64 lv, .slice V n c, .slice H m d, .int .i64 sm] 61)).cell? ⟨w.heap.size + 1, 1, none⟩ = some (.slice V n c) := (b5.2 1 _ rfl).1
  have fa2_1 : ((w.alloc (.cells #[.slice A a c0] 32)).alloc (.cells #[.int .i64 lv, .slice V n c, .slice H m d, .int .i64 sm] 61)).frozen? ⟨w.heap.size + 1, 1, none⟩ = false := (b5.2 1 _ rfl).2
  have ca2_2 : ((w.alloc (.cells #[.slice A a c0] 32)).alloc (.cells #[.int .i64 lv, .slice V n c, .slice H m d, .int .i64 sm] 61)).cell? ⟨w.heap.size + 1, 2, none⟩ = some (.slice H m d) := (b5.2 2 _ rfl).1
  have fa2_2 : ((w.alloc (.cells #[.slice A a c0] 32)).alloc (.cells #[.int .i64 lv, .slice V n c, .slice H m d, .int .i64 sm] 61)).frozen? ⟨w.heap.size + 1, 2, none⟩ = false := (b5.2 2 _ rfl).2
  have ca2_3 : ((w.alloc (.cells #[.slice A a c0] 32)).alloc (.cells #[.int .i64 lv, .slice V n c, .slice H m d, .int .i64 sm] 61)).cell? ⟨w.heap.size + 1, 3, none⟩ = some (.int .i64 sm) := (b5.2 3 _ rfl).1
  have fa2_3 : ((w.alloc (.cells #[.slice A a c0] 32)).alloc (.cells #[.int .i64 lv, .slice V n c, .slice H m d, .int .i64 sm] 61)).frozen? ⟨w.heap.size + 1, 3, none⟩ = false := (b5.2 3 _ rfl).2
  go_wp2_with fail
  clear ca1 fa1 ca2_0 fa2_0 ca2_1 fa2_1 ca2_2 fa2_2 ca2_3 fa2_3
  obtain ⟨pH1, H1⟩ : ∃ pB, Hid (vsB q vs = pB) := ⟨_, rfl⟩
  refine (areVars_any (hV.keeps kw) hq).mono ?_
  rintro e w' ⟨rfl, rfl⟩
  rw [H1.out]
  cases pH1
  · obtain ⟨ca3, fa3⟩ := id b3
    have ca4_0 : ((w.alloc (.cells #[.slice A a c0] 32)).alloc (.cells #[.int .i64 lv, .slice V n c, .slice H m d, .int .i64 sm] 61)).cell? ⟨w.heap.size + 1, 0, none⟩ = some (.int .i64 lv) := (b5.2 0 _ rfl).1
    have fa4_0 : ((w.alloc (.cells #[.slice A a c0] 32)).alloc (.cells #[.int .i64 lv, .slice V n c, .slice H m d, .int .i64 sm] 61)).frozen? ⟨w.heap.size + 1, 0, none⟩ = false := (b5.2 0 _ rfl).2
    have ca4_1 : ((w.alloc (.cells #[.slice A a c0] 32)).alloc (.cells #[.int .i64 lv, .slice V n c, .slice H m d, .int .i64 sm] 61)).cell? ⟨w.heap.size + 1, 1, none⟩ = some (.slice V n c) := (b5.2 1 _ rfl).1
    have fa4_1 : ((w.alloc (.cells #[.slice A a c0] 32)).alloc (.cells #[.int .i64 lv, .slice V n c, .slice H m d, .int .i64 sm] 61)).frozen? ⟨w.heap.size + 1, 1, none⟩ = false := (b5.2 1 _ rfl).2
    have ca4_2 : ((w.alloc (.cells #[.slice A a c0] 32)).alloc (.cells #[.int .i64 lv, .slice V n c, .slice H m d, .int .i64 sm] 61)).cell? ⟨w.heap.size + 1, 2, none⟩ = some (.slice H m d) := (b5.2 2 _ rfl).1
    have fa4_2 : ((w.alloc (.cells #[.slice A a c0] 32)).alloc (.cells #[.int .i64 lv, .slice V n c, .slice H m d, .int .i64 sm] 61)).frozen? ⟨w.heap.size + 1, 2, none⟩ = false := (b5.2 2 _ rfl).2
    have ca4_3 : ((w.alloc (.cells #[.slice A a c0] 32)).alloc (.cells #[.int .i64 lv, .slice V n c, .slice H m d, .int .i64 sm] 61)).cell? ⟨w.heap.size + 1, 3, none⟩ = some (.int .i64 sm) := (b5.2 3 _ rfl).1
    have fa4_3 : ((w.alloc (.cells #[.slice A a c0] 32)).alloc (.cells #[.int .i64 lv, .slice V n c, .slice H m d, .int .i64 sm] 61)).frozen? ⟨w.heap.size + 1, 3, none⟩ = false := (b5.2 3 _ rfl).2
    go_wp2_with fail
    clear ca3 fa3 ca4_0 fa4_0 ca4_1 fa4_1 ca4_2 fa4_2 ca4_3 fa4_3
    go_ret
    exact ⟨ret_bool (by rw [HB.out, H1.out]; rfl), kw⟩
  · skip
    obtain ⟨ca3, fa3⟩ := id b3
    have ca4_0 : ((w.alloc (.cells #[.slice A a c0] 32)).alloc (.cells #[.int .i64 lv, .slice V n c, .slice H m d, .int .i64 sm] 61)).cell? ⟨w.heap.size + 1, 0, none⟩ = some (.int .i64 lv) := (b5.2 0 _ rfl).1
    have fa4_0 : ((w.alloc (.cells #[.slice A a c0] 32)).alloc (.cells #[.int .i64 lv, .slice V n c, .slice H m d, .int .i64 sm] 61)).frozen? ⟨w.heap.size + 1, 0, none⟩ = false := (b5.2 0 _ rfl).2
    have ca4_1 : ((w.alloc (.cells #[.slice A a c0] 32)).alloc (.cells #[.int .i64 lv, .slice V n c, .slice H m d, .int .i64 sm] 61)).cell? ⟨w.heap.size + 1, 1, none⟩ = some (.slice V n c) := (b5.2 1 _ rfl).1
    have fa4_1 : ((w.alloc (.cells #[.slice A a c0] 32)).alloc (.cells #[.int .i64 lv, .slice V n c, .slice H m d, .int .i64 sm] 61)).frozen? ⟨w.heap.size + 1, 1, none⟩ = false := (b5.2 1 _ rfl).2
    have ca4_2 : ((w.alloc (.cells #[.slice A a c0] 32)).alloc (.cells #[.int .i64 lv, .slice V n c, .slice H m d, .int .i64 sm] 61)).cell? ⟨w.heap.size + 1, 2, none⟩ = some (.slice H m d) := (b5.2 2 _ rfl).1
    have fa4_2 : ((w.alloc (.cells #[.slice A a c0] 32)).alloc (.cells #[.int .i64 lv, .slice V n c, .slice H m d, .int .i64 sm] 61)).frozen? ⟨w.heap.size + 1, 2, none⟩ = false := (b5.2 2 _ rfl).2
    have ca4_3 : ((w.alloc (.cells #[.slice A a c0] 32)).alloc (.cells #[.int .i64 lv, .slice V n c, .slice H m d, .int .i64 sm] 61)).cell? ⟨w.heap.size + 1, 3, none⟩ = some (.int .i64 sm) := (b5.2 3 _ rfl).1
    have fa4_3 : ((w.alloc (.cells #[.slice A a c0] 32)).alloc (.cells #[.int .i64 lv, .slice V n c, .slice H m d, .int .i64 sm] 61)).frozen? ⟨w.heap.size + 1, 3, none⟩ = false := (b5.2 3 _ rfl).2
    go_wp2_with fail
    clear ca3 fa3 ca4_0 fa4_0 ca4_1 fa4_1 ca4_2 fa4_2 ca4_3 fa4_3
    obtain ⟨pH2, H2⟩ : ∃ pB, Hid (whB l ws = pB) := ⟨_, rfl⟩
    refine (isWhere_any (hH.keeps kw) (h'.keeps kw) HLV.out).mono ?_
    rintro e w5 ⟨rfl, k5⟩
    rw [H2.out]
    replace b3 := b3.keeps k5
    replace b5 := b5.keeps k5
    replace kw := Keeps.trans kw k5
    have lt6 := b5.lt
    have sz7 := kw.size
    clear k5
    cases pH2
    · obtain ⟨ca8, fa8⟩ := id b3
      have ca9_0 : w5.cell? ⟨w.heap.size + 1, 0, none⟩ = some (.int .i64 lv) := (b5.2 0 _ rfl).1
      have fa9_0 : w5.frozen? ⟨w.heap.size + 1, 0, none⟩ = false := (b5.2 0 _ rfl).2
      have ca9_1 : w5.cell? ⟨w.heap.size + 1, 1, none⟩ = some (.slice V n c) := (b5.2 1 _ rfl).1
      have fa9_1 : w5.frozen? ⟨w.heap.size + 1, 1, none⟩ = false := (b5.2 1 _ rfl).2
      have ca9_2 : w5.cell? ⟨w.heap.size + 1, 2, none⟩ = some (.slice H m d) := (b5.2 2 _ rfl).1
      have fa9_2 : w5.frozen? ⟨w.heap.size + 1, 2, none⟩ = false := (b5.2 2 _ rfl).2
      have ca9_3 : w5.cell? ⟨w.heap.size + 1, 3, none⟩ = some (.int .i64 sm) := (b5.2 3 _ rfl).1
      have fa9_3 : w5.frozen? ⟨w.heap.size + 1, 3, none⟩ = false := (b5.2 3 _ rfl).2
      go_wp2_with fail
      clear ca8 fa8 ca9_0 fa9_0 ca9_1 fa9_1 ca9_2 fa9_2 ca9_3 fa9_3
      go_ret
      exact ⟨ret_bool (by rw [HB.out, H1.out, H2.out]; rfl), kw⟩
    · skip
      by_cases hx : sm < -1
      · have HX := hid (inB_not (a := sm) (lo := -1) (hi := (q : Int) - 1) (by omega))
        have ca8_0 : w5.cell? ⟨w.heap.size + 1, 0, none⟩ = some (.int .i64 lv) := (b5.2 0 _ rfl).1
        have fa8_0 : w5.frozen? ⟨w.heap.size + 1, 0, none⟩ = false := (b5.2 0 _ rfl).2
        have ca8_1 : w5.cell? ⟨w.heap.size + 1, 1, none⟩ = some (.slice V n c) := (b5.2 1 _ rfl).1
        have fa8_1 : w5.frozen? ⟨w.heap.size + 1, 1, none⟩ = false := (b5.2 1 _ rfl).2
        have ca8_2 : w5.cell? ⟨w.heap.size + 1, 2, none⟩ = some (.slice H m d) := (b5.2 2 _ rfl).1
        have fa8_2 : w5.frozen? ⟨w.heap.size + 1, 2, none⟩ = false := (b5.2 2 _ rfl).2
        have ca8_3 : w5.cell? ⟨w.heap.size + 1, 3, none⟩ = some (.int .i64 sm) := (b5.2 3 _ rfl).1
        have fa8_3 : w5.frozen? ⟨w.heap.size + 1, 3, none⟩ = false := (b5.2 3 _ rfl).2
        obtain ⟨ca9, fa9⟩ := id b3
        go_wp2_with fail
        clear ca8_0 fa8_0 ca8_1 fa8_1 ca8_2 fa8_2 ca8_3 fa8_3 ca9 fa9
        go_ret
        exact ⟨ret_bool (by rw [HB.out, H1.out, H2.out, HX.out]; rfl), kw⟩
      have hx1 := hx
      clear hx
      by_cases hx : (q : Int) ≤ sm
      · have HX := hid (inB_not (a := sm) (lo := -1) (hi := (q : Int) - 1) (by omega))
        have ca8_0 : w5.cell? ⟨w.heap.size + 1, 0, none⟩ = some (.int .i64 lv) := (b5.2 0 _ rfl).1
        have fa8_0 : w5.frozen? ⟨w.heap.size + 1, 0, none⟩ = false := (b5.2 0 _ rfl).2
        have ca8_1 : w5.cell? ⟨w.heap.size + 1, 1, none⟩ = some (.slice V n c) := (b5.2 1 _ rfl).1
        have fa8_1 : w5.frozen? ⟨w.heap.size + 1, 1, none⟩ = false := (b5.2 1 _ rfl).2
        have ca8_2 : w5.cell? ⟨w.heap.size + 1, 2, none⟩ = some (.slice H m d) := (b5.2 2 _ rfl).1
        have fa8_2 : w5.frozen? ⟨w.heap.size + 1, 2, none⟩ = false := (b5.2 2 _ rfl).2
        have ca8_3 : w5.cell? ⟨w.heap.size + 1, 3, none⟩ = some (.int .i64 sm) := (b5.2 3 _ rfl).1
        have fa8_3 : w5.frozen? ⟨w.heap.size + 1, 3, none⟩ = false := (b5.2 3 _ rfl).2
        obtain ⟨ca9, fa9⟩ := id b3
        go_wp2_with fail
        clear ca8_0 fa8_0 ca8_1 fa8_1 ca8_2 fa8_2 ca8_3 fa8_3 ca9 fa9
        go_ret
        exact ⟨ret_bool (by rw [HB.out, H1.out, H2.out, HX.out]; rfl), kw⟩
      have hx2 := hx
      clear hx
      have HX := hid (inB_true (a := sm) (lo := -1) (hi := (q : Int) - 1) |>.2 (by omega))
      have HBD := hid (tabN_bd (t := (lv, vs, ws, sm)) HG.out HS.out (by rw [HLQ.out]; exact H1.out))
      have ca8_0 : w5.cell? ⟨w.heap.size + 1, 0, none⟩ = some (.int .i64 lv) := (b5.2 0 _ rfl).1
      have fa8_0 : w5.frozen? ⟨w.heap.size + 1, 0, none⟩ = false := (b5.2 0 _ rfl).2
      have ca8_1 : w5.cell? ⟨w.heap.size + 1, 1, none⟩ = some (.slice V n c) := (b5.2 1 _ rfl).1
      have fa8_1 : w5.frozen? ⟨w.heap.size + 1, 1, none⟩ = false := (b5.2 1 _ rfl).2
      have ca8_2 : w5.cell? ⟨w.heap.size + 1, 2, none⟩ = some (.slice H m d) := (b5.2 2 _ rfl).1
      have fa8_2 : w5.frozen? ⟨w.heap.size + 1, 2, none⟩ = false := (b5.2 2 _ rfl).2
      have ca8_3 : w5.cell? ⟨w.heap.size + 1, 3, none⟩ = some (.int .i64 sm) := (b5.2 3 _ rfl).1
      have fa8_3 : w5.frozen? ⟨w.heap.size + 1, 3, none⟩ = false := (b5.2 3 _ rfl).2
      obtain ⟨ca9, fa9⟩ := id b3
      go_wp2_with fail
      clear ca8_0 fa8_0 ca8_1 fa8_1 ca8_2 fa8_2 ca8_3 fa8_3 ca9 fa9
      refine (cellCount_any (ws := ws) (h.keeps kw) (h'.keeps kw) (hV.keeps kw) HG.out HS.out H1.out).mono ?_
      rintro e w10 ⟨rfl, k10⟩
      replace b3 := b3.keeps k10
      replace b5 := b5.keeps k10
      replace kw := Keeps.trans kw k10
      have lt11 := b5.lt
      have sz12 := kw.size
      clear k10
      obtain ⟨N, hN⟩ : ∃ N, tabN ps l (lv, vs, ws, sm) = N := ⟨_, rfl⟩
      rw [hN] at HB HBD
      rw [hN]
      clear hN b3 b5
      have hbd := HBD.out
      by_cases h0 : 0 < N
      rotate_left
      · go_wp2_with fail
        go_ret
        exact ⟨ret_bool (by rw [HB.out, H1.out, H2.out, HX.out, decide_eq_false (show ¬ 0 < N by omega)]; rfl), kw⟩
      by_cases h6 : N ≤ 600
      · go_wp2_with fail
        go_ret
        exact ⟨ret_bool (by rw [HB.out, H1.out, H2.out, HX.out, decide_eq_true h0, decide_eq_true h6]; rfl), kw⟩
      · go_wp2_with fail
        go_ret
        exact ⟨ret_bool (by rw [HB.out, H1.out, H2.out, HX.out, decide_eq_true h0, decide_eq_false (show ¬ N ≤ 600 by omega)]; rfl), kw⟩
set_option maxRecDepth 100000 in
set_option maxHeartbeats 6400000 in
theorem uGood_any {A A' V H : Option Addr} {lo hi a c0 lo' hi' n c lo2 hi2 m d q e : Nat} {ps vs ws : List Int} {l : List VV} {lv sm : Int} {w : World} (h : Ints w lo hi A a ps) (h' : Sch w A' q e l) (hV : Ints w lo' hi' V n vs) (hH : Ints w lo2 hi2 H m ws) (hg : geoB ps = true) (hs : schB l = true) :
    Calls Tryz.prog 93 #[.agg #[.slice A a c0], .slice A' q e, .agg #[.int .i64 lv, .slice V n c, .slice H m d, .int .i64 sm]] w fun e w' => e = .returned (.bool (tabB ps l (lv, vs, ws, sm))) ∧ Keeps w w' := by
  obtain ⟨lo9, hi9, hv⟩ := h'.v
  have hl := Vars.len hv
  have hq := hv.le
  have HLV := hid (schB_lv hl hs).1
  have HB := hid (show tabB ps l (lv, vs, ws, sm) = (vsB q vs && whB l ws && inB sm (-1) ((q : Int) - 1) && (decide (0 < tabN ps l (lv, vs, ws, sm)) && decide (tabN ps l (lv, vs, ws, sm) ≤ 600))) by rw [← hl]; rfl)
  have HLQ := hid hl
  have HG := hid hg
  have HS := hid hs
  clear hl hg hs
  have HT := hid (tree_of HG.out)
  have hB5 : True := trivial
  go_enter Tryz.func93, Tryz.ntmps93
  have kw := keeps_refl w
  replace kw := Keeps.trans kw (keeps_alloc w (.cells #[.slice A a c0] 32))
  have b3 : B1 (w.alloc (.cells #[.slice A a c0] 32)) w.heap.size (.slice A a c0) := B1.new' (by simp)
  replace b3 := b3.keeps (keeps_alloc (w.alloc (.cells #[.slice A a c0] 32)) (.cells #[.int .i64 lv, .slice V n c, .slice H m d, .int .i64 sm] 61))
  replace kw := Keeps.trans kw (keeps_alloc (w.alloc (.cells #[.slice A a c0] 32)) (.cells #[.int .i64 lv, .slice V n c, .slice H m d, .int .i64 sm] 61))
  have b5 : Bl ((w.alloc (.cells #[.slice A a c0] 32)).alloc (.cells #[.int .i64 lv, .slice V n c, .slice H m d, .int .i64 sm] 61)) (w.heap.size + 1) [.int .i64 lv, .slice V n c, .slice H m d, .int .i64 sm] := Bl.new' (by simp) (by simp)
  obtain ⟨ca1, fa1⟩ := id b3
  have ca2_0 : ((w.alloc (.cells #[.slice A a c0] 32)).alloc (.cells #[.int .i64 lv, .slice V n c, .slice H m d, .int .i64 sm] 61)).cell? ⟨w.heap.size + 1, 0, none⟩ = some (.int .i64 lv) := (b5.2 0 _ rfl).1
  have fa2_0 : ((w.alloc (.cells #[.slice A a c0] 32)).alloc (.cells #[.int .i64 lv, .slice V n c, .slice H m d, .int .i64 sm] 61)).frozen? ⟨w.heap.size + 1, 0, none⟩ = false := (b5.2 0 _ rfl).2
  have ca2_1 : ((w.alloc (.cells #[.slice A a c0] 32)).alloc (.cells #[.int .i64 lv, .slice V n c, .slice H m d, .int .i64 sm] 61)).cell? ⟨w.heap.size + 1, 1, none⟩ = some (.slice V n c) := (b5.2 1 _ rfl).1
  have fa2_1 : ((w.alloc (.cells #[.slice A a c0] 32)).alloc (.cells #[.int .i64 lv, .slice V n c, .slice H m d, .int .i64 sm] 61)).frozen? ⟨w.heap.size + 1, 1, none⟩ = false := (b5.2 1 _ rfl).2
  have ca2_2 : ((w.alloc (.cells #[.slice A a c0] 32)).alloc (.cells #[.int .i64 lv, .slice V n c, .slice H m d, .int .i64 sm] 61)).cell? ⟨w.heap.size + 1, 2, none⟩ = some (.slice H m d) := (b5.2 2 _ rfl).1
  have fa2_2 : ((w.alloc (.cells #[.slice A a c0] 32)).alloc (.cells #[.int .i64 lv, .slice V n c, .slice H m d, .int .i64 sm] 61)).frozen? ⟨w.heap.size + 1, 2, none⟩ = false := (b5.2 2 _ rfl).2
  have ca2_3 : ((w.alloc (.cells #[.slice A a c0] 32)).alloc (.cells #[.int .i64 lv, .slice V n c, .slice H m d, .int .i64 sm] 61)).cell? ⟨w.heap.size + 1, 3, none⟩ = some (.int .i64 sm) := (b5.2 3 _ rfl).1
  have fa2_3 : ((w.alloc (.cells #[.slice A a c0] 32)).alloc (.cells #[.int .i64 lv, .slice V n c, .slice H m d, .int .i64 sm] 61)).frozen? ⟨w.heap.size + 1, 3, none⟩ = false := (b5.2 3 _ rfl).2
  go_wp2_with fail
  clear ca1 fa1 ca2_0 fa2_0 ca2_1 fa2_1 ca2_2 fa2_2 ca2_3 fa2_3
  refine (gGood_any (h.keeps kw)).mono ?_
  rintro e w3 ⟨rfl, k3⟩
  rw [HG.out]
  replace b3 := b3.keeps k3
  replace b5 := b5.keeps k3
  replace kw := Keeps.trans kw k3
  have lt4 := b5.lt
  have sz5 := kw.size
  clear k3
  obtain ⟨ca6, fa6⟩ := id b3
  have ca7_0 : w3.cell? ⟨w.heap.size + 1, 0, none⟩ = some (.int .i64 lv) := (b5.2 0 _ rfl).1
  have fa7_0 : w3.frozen? ⟨w.heap.size + 1, 0, none⟩ = false := (b5.2 0 _ rfl).2
  have ca7_1 : w3.cell? ⟨w.heap.size + 1, 1, none⟩ = some (.slice V n c) := (b5.2 1 _ rfl).1
  have fa7_1 : w3.frozen? ⟨w.heap.size + 1, 1, none⟩ = false := (b5.2 1 _ rfl).2
  have ca7_2 : w3.cell? ⟨w.heap.size + 1, 2, none⟩ = some (.slice H m d) := (b5.2 2 _ rfl).1
  have fa7_2 : w3.frozen? ⟨w.heap.size + 1, 2, none⟩ = false := (b5.2 2 _ rfl).2
  have ca7_3 : w3.cell? ⟨w.heap.size + 1, 3, none⟩ = some (.int .i64 sm) := (b5.2 3 _ rfl).1
  have fa7_3 : w3.frozen? ⟨w.heap.size + 1, 3, none⟩ = false := (b5.2 3 _ rfl).2
  go_wp2_with fail
  clear ca6 fa6 ca7_0 fa7_0 ca7_1 fa7_1 ca7_2 fa7_2 ca7_3 fa7_3
  refine (sGood_any (Sl.keeps hv kw) h'.ok h'.cap h'.c64).mono ?_
  rintro e w8 ⟨rfl, k8⟩
  rw [HS.out]
  replace b3 := b3.keeps k8
  replace b5 := b5.keeps k8
  replace kw := Keeps.trans kw k8
  have lt9 := b5.lt
  have sz10 := kw.size
  clear k8
  obtain ⟨ca11, fa11⟩ := id b3
  have ca12_0 : w8.cell? ⟨w.heap.size + 1, 0, none⟩ = some (.int .i64 lv) := (b5.2 0 _ rfl).1
  have fa12_0 : w8.frozen? ⟨w.heap.size + 1, 0, none⟩ = false := (b5.2 0 _ rfl).2
  have ca12_1 : w8.cell? ⟨w.heap.size + 1, 1, none⟩ = some (.slice V n c) := (b5.2 1 _ rfl).1
  have fa12_1 : w8.frozen? ⟨w.heap.size + 1, 1, none⟩ = false := (b5.2 1 _ rfl).2
  have ca12_2 : w8.cell? ⟨w.heap.size + 1, 2, none⟩ = some (.slice H m d) := (b5.2 2 _ rfl).1
  have fa12_2 : w8.frozen? ⟨w.heap.size + 1, 2, none⟩ = false := (b5.2 2 _ rfl).2
  have ca12_3 : w8.cell? ⟨w.heap.size + 1, 3, none⟩ = some (.int .i64 sm) := (b5.2 3 _ rfl).1
  have fa12_3 : w8.frozen? ⟨w.heap.size + 1, 3, none⟩ = false := (b5.2 3 _ rfl).2
  go_wp2_with fail
  clear ca11 fa11 ca12_0 fa12_0 ca12_1 fa12_1 ca12_2 fa12_2 ca12_3 fa12_3
  refine (gLevel_any (lv := lv) (h.keeps kw) HT.out).mono ?_
  rintro e w13 ⟨LA, LC, rfl, mL, k13⟩
  replace b3 := b3.keeps k13
  replace b5 := b5.keeps k13
  replace kw := Keeps.trans kw k13
  have lt14 := b5.lt
  have sz15 := kw.size
  clear k13
  clear mL
  obtain ⟨L, hL⟩ : ∃ L, (lev ps lv).length = L := ⟨_, rfl⟩
  rw [hL]
  have HLL := hid hL
  clear hL
  by_cases hL0 : L = 0
  · subst hL0
    have HZ := hid (tabN_zero (l := l) (t := (lv, vs, ws, sm)) HLL.out)
    have HF := hid (show tabB ps l (lv, vs, ws, sm) = false by rw [HB.out, HZ.out]; simp)
    obtain ⟨ca16, fa16⟩ := id b3
    have ca17_0 : w13.cell? ⟨w.heap.size + 1, 0, none⟩ = some (.int .i64 lv) := (b5.2 0 _ rfl).1
    have fa17_0 : w13.frozen? ⟨w.heap.size + 1, 0, none⟩ = false := (b5.2 0 _ rfl).2
    have ca17_1 : w13.cell? ⟨w.heap.size + 1, 1, none⟩ = some (.slice V n c) := (b5.2 1 _ rfl).1
    have fa17_1 : w13.frozen? ⟨w.heap.size + 1, 1, none⟩ = false := (b5.2 1 _ rfl).2
    have ca17_2 : w13.cell? ⟨w.heap.size + 1, 2, none⟩ = some (.slice H m d) := (b5.2 2 _ rfl).1
    have fa17_2 : w13.frozen? ⟨w.heap.size + 1, 2, none⟩ = false := (b5.2 2 _ rfl).2
    have ca17_3 : w13.cell? ⟨w.heap.size + 1, 3, none⟩ = some (.int .i64 sm) := (b5.2 3 _ rfl).1
    have fa17_3 : w13.frozen? ⟨w.heap.size + 1, 3, none⟩ = false := (b5.2 3 _ rfl).2
    go_wp2_with fail
    clear ca16 fa16 ca17_0 fa17_0 ca17_1 fa17_1 ca17_2 fa17_2 ca17_3 fa17_3
    go_ret
    exact ⟨ret_bool HF.out.symm, kw⟩
  have t1 : ((L : Int) == 0) = false := by rw [beq_eq_false_iff_ne]; omega
  have HL0 := hid hL0
  clear hL0
  obtain ⟨ca16, fa16⟩ := id b3
  have ca17_0 : w13.cell? ⟨w.heap.size + 1, 0, none⟩ = some (.int .i64 lv) := (b5.2 0 _ rfl).1
  have fa17_0 : w13.frozen? ⟨w.heap.size + 1, 0, none⟩ = false := (b5.2 0 _ rfl).2
  have ca17_1 : w13.cell? ⟨w.heap.size + 1, 1, none⟩ = some (.slice V n c) := (b5.2 1 _ rfl).1
  have fa17_1 : w13.frozen? ⟨w.heap.size + 1, 1, none⟩ = false := (b5.2 1 _ rfl).2
  have ca17_2 : w13.cell? ⟨w.heap.size + 1, 2, none⟩ = some (.slice H m d) := (b5.2 2 _ rfl).1
  have fa17_2 : w13.frozen? ⟨w.heap.size + 1, 2, none⟩ = false := (b5.2 2 _ rfl).2
  have ca17_3 : w13.cell? ⟨w.heap.size + 1, 3, none⟩ = some (.int .i64 sm) := (b5.2 3 _ rfl).1
  have fa17_3 : w13.frozen? ⟨w.heap.size + 1, 3, none⟩ = false := (b5.2 3 _ rfl).2
  go_wp2_with fail
  clear ca16 fa16 ca17_0 fa17_0 ca17_1 fa17_1 ca17_2 fa17_2 ca17_3 fa17_3
  obtain ⟨pH1, H1⟩ : ∃ pB, Hid (vsB q vs = pB) := ⟨_, rfl⟩
  refine (l1Rising_any (hV.keeps kw) hq).mono ?_
  rintro e w' ⟨rfl, rfl⟩
  rw [H1.out]
  cases pH1
  · obtain ⟨ca18, fa18⟩ := id b3
    have ca19_0 : w13.cell? ⟨w.heap.size + 1, 0, none⟩ = some (.int .i64 lv) := (b5.2 0 _ rfl).1
    have fa19_0 : w13.frozen? ⟨w.heap.size + 1, 0, none⟩ = false := (b5.2 0 _ rfl).2
    have ca19_1 : w13.cell? ⟨w.heap.size + 1, 1, none⟩ = some (.slice V n c) := (b5.2 1 _ rfl).1
    have fa19_1 : w13.frozen? ⟨w.heap.size + 1, 1, none⟩ = false := (b5.2 1 _ rfl).2
    have ca19_2 : w13.cell? ⟨w.heap.size + 1, 2, none⟩ = some (.slice H m d) := (b5.2 2 _ rfl).1
    have fa19_2 : w13.frozen? ⟨w.heap.size + 1, 2, none⟩ = false := (b5.2 2 _ rfl).2
    have ca19_3 : w13.cell? ⟨w.heap.size + 1, 3, none⟩ = some (.int .i64 sm) := (b5.2 3 _ rfl).1
    have fa19_3 : w13.frozen? ⟨w.heap.size + 1, 3, none⟩ = false := (b5.2 3 _ rfl).2
    go_wp2_with fail
    clear ca18 fa18 ca19_0 fa19_0 ca19_1 fa19_1 ca19_2 fa19_2 ca19_3 fa19_3
    go_ret
    exact ⟨ret_bool (by rw [HB.out, H1.out]; rfl), kw⟩
  · skip
    obtain ⟨ca18, fa18⟩ := id b3
    have ca19_0 : w13.cell? ⟨w.heap.size + 1, 0, none⟩ = some (.int .i64 lv) := (b5.2 0 _ rfl).1
    have fa19_0 : w13.frozen? ⟨w.heap.size + 1, 0, none⟩ = false := (b5.2 0 _ rfl).2
    have ca19_1 : w13.cell? ⟨w.heap.size + 1, 1, none⟩ = some (.slice V n c) := (b5.2 1 _ rfl).1
    have fa19_1 : w13.frozen? ⟨w.heap.size + 1, 1, none⟩ = false := (b5.2 1 _ rfl).2
    have ca19_2 : w13.cell? ⟨w.heap.size + 1, 2, none⟩ = some (.slice H m d) := (b5.2 2 _ rfl).1
    have fa19_2 : w13.frozen? ⟨w.heap.size + 1, 2, none⟩ = false := (b5.2 2 _ rfl).2
    have ca19_3 : w13.cell? ⟨w.heap.size + 1, 3, none⟩ = some (.int .i64 sm) := (b5.2 3 _ rfl).1
    have fa19_3 : w13.frozen? ⟨w.heap.size + 1, 3, none⟩ = false := (b5.2 3 _ rfl).2
    go_wp2_with fail
    clear ca18 fa18 ca19_0 fa19_0 ca19_1 fa19_1 ca19_2 fa19_2 ca19_3 fa19_3
    obtain ⟨pH2, H2⟩ : ∃ pB, Hid (whB l ws = pB) := ⟨_, rfl⟩
    refine (uWhere_any (hH.keeps kw) (h'.keeps kw) HLV.out).mono ?_
    rintro e w20 ⟨rfl, k20⟩
    rw [H2.out]
    replace b3 := b3.keeps k20
    replace b5 := b5.keeps k20
    replace kw := Keeps.trans kw k20
    have lt21 := b5.lt
    have sz22 := kw.size
    clear k20
    cases pH2
    · obtain ⟨ca23, fa23⟩ := id b3
      have ca24_0 : w20.cell? ⟨w.heap.size + 1, 0, none⟩ = some (.int .i64 lv) := (b5.2 0 _ rfl).1
      have fa24_0 : w20.frozen? ⟨w.heap.size + 1, 0, none⟩ = false := (b5.2 0 _ rfl).2
      have ca24_1 : w20.cell? ⟨w.heap.size + 1, 1, none⟩ = some (.slice V n c) := (b5.2 1 _ rfl).1
      have fa24_1 : w20.frozen? ⟨w.heap.size + 1, 1, none⟩ = false := (b5.2 1 _ rfl).2
      have ca24_2 : w20.cell? ⟨w.heap.size + 1, 2, none⟩ = some (.slice H m d) := (b5.2 2 _ rfl).1
      have fa24_2 : w20.frozen? ⟨w.heap.size + 1, 2, none⟩ = false := (b5.2 2 _ rfl).2
      have ca24_3 : w20.cell? ⟨w.heap.size + 1, 3, none⟩ = some (.int .i64 sm) := (b5.2 3 _ rfl).1
      have fa24_3 : w20.frozen? ⟨w.heap.size + 1, 3, none⟩ = false := (b5.2 3 _ rfl).2
      go_wp2_with fail
      clear ca23 fa23 ca24_0 fa24_0 ca24_1 fa24_1 ca24_2 fa24_2 ca24_3 fa24_3
      go_ret
      exact ⟨ret_bool (by rw [HB.out, H1.out, H2.out]; rfl), kw⟩
    · skip
      obtain ⟨ca23, fa23⟩ := id b3
      have ca24_0 : w20.cell? ⟨w.heap.size + 1, 0, none⟩ = some (.int .i64 lv) := (b5.2 0 _ rfl).1
      have fa24_0 : w20.frozen? ⟨w.heap.size + 1, 0, none⟩ = false := (b5.2 0 _ rfl).2
      have ca24_1 : w20.cell? ⟨w.heap.size + 1, 1, none⟩ = some (.slice V n c) := (b5.2 1 _ rfl).1
      have fa24_1 : w20.frozen? ⟨w.heap.size + 1, 1, none⟩ = false := (b5.2 1 _ rfl).2
      have ca24_2 : w20.cell? ⟨w.heap.size + 1, 2, none⟩ = some (.slice H m d) := (b5.2 2 _ rfl).1
      have fa24_2 : w20.frozen? ⟨w.heap.size + 1, 2, none⟩ = false := (b5.2 2 _ rfl).2
      have ca24_3 : w20.cell? ⟨w.heap.size + 1, 3, none⟩ = some (.int .i64 sm) := (b5.2 3 _ rfl).1
      have fa24_3 : w20.frozen? ⟨w.heap.size + 1, 3, none⟩ = false := (b5.2 3 _ rfl).2
      go_wp2_with fail
      clear ca23 fa23 ca24_0 fa24_0 ca24_1 fa24_1 ca24_2 fa24_2 ca24_3 fa24_3
      obtain ⟨pH3, H3⟩ : ∃ pB, Hid (inB sm (-1) ((q : Int) - 1) = pB) := ⟨_, rfl⟩
      refine (l1In_any _ _ _ _).mono ?_
      rintro e w' ⟨rfl, rfl⟩
      rw [H3.out]
      cases pH3
      · obtain ⟨ca25, fa25⟩ := id b3
        have ca26_0 : w20.cell? ⟨w.heap.size + 1, 0, none⟩ = some (.int .i64 lv) := (b5.2 0 _ rfl).1
        have fa26_0 : w20.frozen? ⟨w.heap.size + 1, 0, none⟩ = false := (b5.2 0 _ rfl).2
        have ca26_1 : w20.cell? ⟨w.heap.size + 1, 1, none⟩ = some (.slice V n c) := (b5.2 1 _ rfl).1
        have fa26_1 : w20.frozen? ⟨w.heap.size + 1, 1, none⟩ = false := (b5.2 1 _ rfl).2
        have ca26_2 : w20.cell? ⟨w.heap.size + 1, 2, none⟩ = some (.slice H m d) := (b5.2 2 _ rfl).1
        have fa26_2 : w20.frozen? ⟨w.heap.size + 1, 2, none⟩ = false := (b5.2 2 _ rfl).2
        have ca26_3 : w20.cell? ⟨w.heap.size + 1, 3, none⟩ = some (.int .i64 sm) := (b5.2 3 _ rfl).1
        have fa26_3 : w20.frozen? ⟨w.heap.size + 1, 3, none⟩ = false := (b5.2 3 _ rfl).2
        go_wp2_with fail
        clear ca25 fa25 ca26_0 fa26_0 ca26_1 fa26_1 ca26_2 fa26_2 ca26_3 fa26_3
        go_ret
        exact ⟨ret_bool (by rw [HB.out, H1.out, H2.out, H3.out]; rfl), kw⟩
      · skip
        obtain ⟨ca25, fa25⟩ := id b3
        have ca26_0 : w20.cell? ⟨w.heap.size + 1, 0, none⟩ = some (.int .i64 lv) := (b5.2 0 _ rfl).1
        have fa26_0 : w20.frozen? ⟨w.heap.size + 1, 0, none⟩ = false := (b5.2 0 _ rfl).2
        have ca26_1 : w20.cell? ⟨w.heap.size + 1, 1, none⟩ = some (.slice V n c) := (b5.2 1 _ rfl).1
        have fa26_1 : w20.frozen? ⟨w.heap.size + 1, 1, none⟩ = false := (b5.2 1 _ rfl).2
        have ca26_2 : w20.cell? ⟨w.heap.size + 1, 2, none⟩ = some (.slice H m d) := (b5.2 2 _ rfl).1
        have fa26_2 : w20.frozen? ⟨w.heap.size + 1, 2, none⟩ = false := (b5.2 2 _ rfl).2
        have ca26_3 : w20.cell? ⟨w.heap.size + 1, 3, none⟩ = some (.int .i64 sm) := (b5.2 3 _ rfl).1
        have fa26_3 : w20.frozen? ⟨w.heap.size + 1, 3, none⟩ = false := (b5.2 3 _ rfl).2
        go_wp2_with fail
        clear ca25 fa25 ca26_0 fa26_0 ca26_1 fa26_1 ca26_2 fa26_2 ca26_3 fa26_3
        have HPO := hid (tabN_pos (ps := ps) (t := (lv, vs, ws, sm)) HS.out (by rw [HLQ.out]; exact H1.out) (by rw [HLL.out]; exact HL0.out))
        have HBD := hid (tabN_bd (t := (lv, vs, ws, sm)) HG.out HS.out (by rw [HLQ.out]; exact H1.out))
        refine (uCount_any (ws := ws) (h.keeps kw) (h'.keeps kw) (hV.keeps kw) HG.out HS.out H1.out).mono ?_
        rintro e w27 ⟨rfl, k27⟩
        replace b3 := b3.keeps k27
        replace b5 := b5.keeps k27
        replace kw := Keeps.trans kw k27
        have lt28 := b5.lt
        have sz29 := kw.size
        clear k27
        obtain ⟨N, hN⟩ : ∃ N, tabN ps l (lv, vs, ws, sm) = N := ⟨_, rfl⟩
        rw [hN] at HB HBD HPO
        rw [hN]
        clear hN b3 b5
        have hbd := HBD.out
        have hpo := HPO.out
        by_cases h6 : N ≤ 600
        · go_wp2_with fail
          go_ret
          exact ⟨ret_bool (by rw [HB.out, H1.out, H2.out, H3.out, decide_eq_true HPO.out, decide_eq_true h6]; rfl), kw⟩
        · go_wp2_with fail
          go_ret
          exact ⟨ret_bool (by rw [HB.out, H1.out, H2.out, H3.out, decide_eq_true HPO.out, decide_eq_false (show ¬ N ≤ 600 by omega)]; rfl), kw⟩
set_option maxRecDepth 100000 in
set_option maxHeartbeats 1600000 in
theorem nInput_any {A A' : Option Addr} {lo hi a c0 q e : Nat} {ps : List Int} {l : List VV} {w : World} (h : Ints w lo hi A a ps) (h' : Sch w A' q e l) :
    Calls Tryz.prog 53 #[.agg #[.slice A a c0], .slice A' q e] w fun e w' => e = .returned (.bool (geoB ps && schB l)) ∧ Keeps w w' := by
  obtain ⟨lo9, hi9, hv⟩ := h'.v
  obtain ⟨X, hX⟩ : ∃ X, (geoB ps && schB l) = X := ⟨_, rfl⟩
  rw [hX]
  have HB := hid hX
  clear hX
  go_enter Tryz.func53, Tryz.ntmps53
  have kw := keeps_refl w
  replace kw := Keeps.trans kw (keeps_alloc w (.cells #[.slice A a c0] 32))
  have b2 : B1 (w.alloc (.cells #[.slice A a c0] 32)) w.heap.size (.slice A a c0) := B1.new' (by simp)
  obtain ⟨ca1, fa1⟩ := id b2
  go_wp2_with fail
  clear ca1 fa1
  obtain ⟨pH1, H1⟩ : ∃ pB, Hid (geoB ps = pB) := ⟨_, rfl⟩
  refine (gGood_any (h.keeps kw)).mono ?_
  rintro e w2 ⟨rfl, k2⟩
  rw [H1.out]
  replace b2 := b2.keeps k2
  replace kw := Keeps.trans kw k2
  have lt3 := b2.lt
  have sz4 := kw.size
  clear k2
  cases pH1
  · go_wp2_with fail
    go_ret
    exact ⟨ret_bool (by rw [← HB.out, H1.out]; rfl), kw⟩
  · skip
    go_wp2_with fail
    obtain ⟨p2, H2⟩ : ∃ pB, Hid (schB l = pB) := ⟨_, rfl⟩
    refine (sGood_any (Sl.keeps hv kw) h'.ok h'.cap h'.c64).mono ?_
    rintro e w5 ⟨rfl, k5⟩
    rw [H2.out]
    replace b2 := b2.keeps k5
    replace kw := Keeps.trans kw k5
    have lt6 := b2.lt
    have sz7 := kw.size
    clear k5
    go_wp2_with fail
    go_ret
    exact ⟨ret_bool (by rw [← HB.out, H1.out, H2.out]; rfl), kw⟩
set_option maxRecDepth 100000 in
set_option maxHeartbeats 6400000 in
theorem isPlan_any {A A' Q : Option Addr} {lo hi a c0 lo3 hi3 n c q e : Nat} {un : Bool} {ps : List Int} {l : List VV} {ts : List TT} {w : World} (h : Ints w lo hi A a ps) (h' : Sch w A' q e l) (ht : Tabs true un w lo3 hi3 Q n ts) (hg : geoB ps = true) (hs : schB l = true) :
    Calls Tryz.prog 58 #[.agg #[.slice A a c0], .slice A' q e, .slice Q n c] w fun e w' => e = .returned (.bool (plB ps l ts)) ∧ Keeps w w' := by
  obtain ⟨lo9, hi9, hv⟩ := h'.v
  have HG := hid hg
  have HS := hid hs
  have HTL := hid ht.len
  have hn := ht.le
  clear hg hs
  go_enter Tryz.func58, Tryz.ntmps58
  have kw := keeps_refl w
  replace kw := Keeps.trans kw (keeps_alloc w (.cells #[.slice A a c0] 32))
  have b3 : B1 (w.alloc (.cells #[.slice A a c0] 32)) w.heap.size (.slice A a c0) := B1.new' (by simp)
  obtain ⟨ca1, fa1⟩ := id b3
  go_wp2_with fail
  clear ca1 fa1
  refine (IsGeo_any (h.keeps kw)).mono ?_
  rintro e w2 ⟨rfl, k2⟩
  rw [HG.out]
  replace b3 := b3.keeps k2
  replace kw := Keeps.trans kw k2
  have lt3 := b3.lt
  have sz4 := kw.size
  clear k2
  obtain ⟨ca5, fa5⟩ := id b3
  go_wp2_with fail
  clear ca5 fa5
  refine (IsSchema_any (Sl.keeps hv kw) h'.ok h'.cap h'.c64).mono ?_
  rintro e w6 ⟨rfl, k6⟩
  rw [HS.out]
  replace b3 := b3.keeps k6
  replace kw := Keeps.trans kw k6
  have lt7 := b3.lt
  have sz8 := kw.size
  clear k6
  by_cases h20 : n ≤ 20
  rotate_left
  · have HX := hid (plB_len (ps := ps) (l := l) (ts := ts) (by rw [HTL.out]; exact h20))
    obtain ⟨ca9, fa9⟩ := id b3
    go_wp2_with fail
    clear ca9 fa9
    go_ret
    exact ⟨ret_bool HX.out.symm, kw⟩
  obtain ⟨ca9, fa9⟩ := id b3
  go_wp2_with fail
  clear ca9 fa9
  go_loopw [24] (fun i wr => ∃ k : Nat, k ≤ n ∧ i = .int .i64 k ∧ Hid (plTo ps l ts k = true) ∧ B1 wr w.heap.size (.slice A a c0) ∧ Keeps w wr) (fun i _ => n - (intOf i).toNat)
  case atStart => exact ⟨0, Nat.zero_le _, rfl, hid rfl, b3, kw⟩
  clear b3 kw
  case round =>
    obtain ⟨k, hk, rfl, HT, b3, kw⟩ := hrel
    by_cases hlt : k < n
    · obtain ⟨b, off, lv, V, nv, cv, H, nh, ch, sm, vs, ws, rfl, _, _, hc0, hc1, hc2, hc3, hvv, hhh, hx⟩ := (ht.keeps kw).at_ hlt
      have hi1 : (k : Int) < (n : Int) := by omega
      obtain ⟨p, HP⟩ : ∃ p, Hid (tabB ps l (lv, vs, ws, sm) = p) := ⟨_, rfl⟩
      have HP2 := hid (show tabB ps l (ts.getD k t0) = p by rw [← hx.out]; exact HP.out)
      clear hx
      have lt3 := b3.lt
      replace b3 := b3.keeps (keeps_alloc wr (.cells #[.int .i64 lv, .slice V nv cv, .slice H nh ch, .int .i64 sm] 61))
      replace hvv := hvv.keeps (keeps_alloc wr (.cells #[.int .i64 lv, .slice V nv cv, .slice H nh ch, .int .i64 sm] 61))
      replace hhh := hhh.keeps (keeps_alloc wr (.cells #[.int .i64 lv, .slice V nv cv, .slice H nh ch, .int .i64 sm] 61))
      replace kw := Keeps.trans kw (keeps_alloc wr (.cells #[.int .i64 lv, .slice V nv cv, .slice H nh ch, .int .i64 sm] 61))
      have b8 : Bl (wr.alloc (.cells #[.int .i64 lv, .slice V nv cv, .slice H nh ch, .int .i64 sm] 61)) wr.heap.size [.int .i64 lv, .slice V nv cv, .slice H nh ch, .int .i64 sm] := Bl.new' (by simp) (by simp)
      obtain ⟨ca10, fa10⟩ := id b3
      have ca11_0 : (wr.alloc (.cells #[.int .i64 lv, .slice V nv cv, .slice H nh ch, .int .i64 sm] 61)).cell? ⟨wr.heap.size, 0, none⟩ = some (.int .i64 lv) := (b8.2 0 _ rfl).1
      have fa11_0 : (wr.alloc (.cells #[.int .i64 lv, .slice V nv cv, .slice H nh ch, .int .i64 sm] 61)).frozen? ⟨wr.heap.size, 0, none⟩ = false := (b8.2 0 _ rfl).2
      have ca11_1 : (wr.alloc (.cells #[.int .i64 lv, .slice V nv cv, .slice H nh ch, .int .i64 sm] 61)).cell? ⟨wr.heap.size, 1, none⟩ = some (.slice V nv cv) := (b8.2 1 _ rfl).1
      have fa11_1 : (wr.alloc (.cells #[.int .i64 lv, .slice V nv cv, .slice H nh ch, .int .i64 sm] 61)).frozen? ⟨wr.heap.size, 1, none⟩ = false := (b8.2 1 _ rfl).2
      have ca11_2 : (wr.alloc (.cells #[.int .i64 lv, .slice V nv cv, .slice H nh ch, .int .i64 sm] 61)).cell? ⟨wr.heap.size, 2, none⟩ = some (.slice H nh ch) := (b8.2 2 _ rfl).1
      have fa11_2 : (wr.alloc (.cells #[.int .i64 lv, .slice V nv cv, .slice H nh ch, .int .i64 sm] 61)).frozen? ⟨wr.heap.size, 2, none⟩ = false := (b8.2 2 _ rfl).2
      have ca11_3 : (wr.alloc (.cells #[.int .i64 lv, .slice V nv cv, .slice H nh ch, .int .i64 sm] 61)).cell? ⟨wr.heap.size, 3, none⟩ = some (.int .i64 sm) := (b8.2 3 _ rfl).1
      have fa11_3 : (wr.alloc (.cells #[.int .i64 lv, .slice V nv cv, .slice H nh ch, .int .i64 sm] 61)).frozen? ⟨wr.heap.size, 3, none⟩ = false := (b8.2 3 _ rfl).2
      go_wp2_with fail
      clear ca10 fa10 ca11_0 fa11_0 ca11_1 fa11_1 ca11_2 fa11_2 ca11_3 fa11_3
      refine (isTable_any (h.keeps kw) (h'.keeps kw) hvv hhh HG.out HS.out).mono ?_
      rintro e w12 ⟨rfl, k12⟩
      rw [HP.out]
      replace b3 := b3.keeps k12
      replace b8 := b8.keeps k12
      replace hvv := hvv.keeps k12
      replace hhh := hhh.keeps k12
      replace kw := Keeps.trans kw k12
      have lt13 := b8.lt
      have sz14 := kw.size
      clear k12
      clear hc0 hc1 hc2 hc3 b8
      cases p
      · have HX := hid (plB_no HTL.out hlt HP2.out)
        obtain ⟨ca15, fa15⟩ := id b3
        go_wp2_with fail
        clear ca15 fa15
        go_ret
        exact ⟨ret_bool HX.out.symm, kw⟩
      have HN := hid (show plTo ps l ts (k + 1) = true by unfold plTo; rw [HT.out, HP2.out]; rfl)
      obtain ⟨ca15, fa15⟩ := id b3
      go_wp2_with fail
      clear ca15 fa15
      go_roundw
      case rel => exact ⟨k + 1, by omega, by go_num, HN, b3, kw⟩
      case measure => simp [intOf]; omega
    · obtain rfl : k = n := by omega
      have HX := hid (plB_yes HTL.out h20 HT.out)
      go_wp2
      go_ret
      exact ⟨ret_bool HX.out.symm, kw⟩
set_option maxRecDepth 100000 in
set_option maxHeartbeats 6400000 in
theorem nPlan_any {A A' Q : Option Addr} {lo hi a c0 lo3 hi3 n c q e : Nat} {un : Bool} {ps : List Int} {l : List VV} {ts : List TT} {w : World} (h : Ints w lo hi A a ps) (h' : Sch w A' q e l) (ht : Tabs true un w lo3 hi3 Q n ts) (hg : geoB ps = true) (hs : schB l = true) :
    Calls Tryz.prog 60 #[.agg #[.slice A a c0], .slice A' q e, .slice Q n c] w fun e w' => e = .returned (.bool (plB ps l ts)) ∧ Keeps w w' := by
  obtain ⟨lo9, hi9, hv⟩ := h'.v
  have HG := hid hg
  have HS := hid hs
  have HTL := hid ht.len
  have hn := ht.le
  clear hg hs
  have HGS := hid (show (geoB ps && schB l) = true by rw [HG.out, HS.out]; rfl)
  go_enter Tryz.func60, Tryz.ntmps60
  have kw := keeps_refl w
  replace kw := Keeps.trans kw (keeps_alloc w (.cells #[.slice A a c0] 32))
  have b3 : B1 (w.alloc (.cells #[.slice A a c0] 32)) w.heap.size (.slice A a c0) := B1.new' (by simp)
  obtain ⟨ca1, fa1⟩ := id b3
  go_wp2_with fail
  clear ca1 fa1
  refine (nInput_any (h.keeps kw) (h'.keeps kw)).mono ?_
  rintro e w2 ⟨rfl, k2⟩
  rw [HGS.out]
  replace b3 := b3.keeps k2
  replace kw := Keeps.trans kw k2
  have lt3 := b3.lt
  have sz4 := kw.size
  clear k2
  by_cases h20 : n ≤ 20
  rotate_left
  · have HX := hid (plB_len (ps := ps) (l := l) (ts := ts) (by rw [HTL.out]; exact h20))
    obtain ⟨ca5, fa5⟩ := id b3
    go_wp2_with fail
    clear ca5 fa5
    go_ret
    exact ⟨ret_bool HX.out.symm, kw⟩
  obtain ⟨ca5, fa5⟩ := id b3
  go_wp2_with fail
  clear ca5 fa5
  go_loopw [20] (fun i wr => ∃ k : Nat, k ≤ n ∧ i = .int .i64 k ∧ Hid (plTo ps l ts k = true) ∧ B1 wr w.heap.size (.slice A a c0) ∧ Keeps w wr) (fun i _ => n - (intOf i).toNat)
  case atStart => exact ⟨0, Nat.zero_le _, rfl, hid rfl, b3, kw⟩
  clear b3 kw
  case round =>
    obtain ⟨k, hk, rfl, HT, b3, kw⟩ := hrel
    by_cases hlt : k < n
    · obtain ⟨b, off, lv, V, nv, cv, H, nh, ch, sm, vs, ws, rfl, _, _, hc0, hc1, hc2, hc3, hvv, hhh, hx⟩ := (ht.keeps kw).at_ hlt
      have hi1 : (k : Int) < (n : Int) := by omega
      obtain ⟨p, HP⟩ : ∃ p, Hid (tabB ps l (lv, vs, ws, sm) = p) := ⟨_, rfl⟩
      have HP2 := hid (show tabB ps l (ts.getD k t0) = p by rw [← hx.out]; exact HP.out)
      clear hx
      have lt3 := b3.lt
      replace b3 := b3.keeps (keeps_alloc wr (.cells #[.int .i64 lv, .slice V nv cv, .slice H nh ch, .int .i64 sm] 61))
      replace hvv := hvv.keeps (keeps_alloc wr (.cells #[.int .i64 lv, .slice V nv cv, .slice H nh ch, .int .i64 sm] 61))
      replace hhh := hhh.keeps (keeps_alloc wr (.cells #[.int .i64 lv, .slice V nv cv, .slice H nh ch, .int .i64 sm] 61))
      replace kw := Keeps.trans kw (keeps_alloc wr (.cells #[.int .i64 lv, .slice V nv cv, .slice H nh ch, .int .i64 sm] 61))
      have b8 : Bl (wr.alloc (.cells #[.int .i64 lv, .slice V nv cv, .slice H nh ch, .int .i64 sm] 61)) wr.heap.size [.int .i64 lv, .slice V nv cv, .slice H nh ch, .int .i64 sm] := Bl.new' (by simp) (by simp)
      obtain ⟨ca6, fa6⟩ := id b3
      have ca7_0 : (wr.alloc (.cells #[.int .i64 lv, .slice V nv cv, .slice H nh ch, .int .i64 sm] 61)).cell? ⟨wr.heap.size, 0, none⟩ = some (.int .i64 lv) := (b8.2 0 _ rfl).1
      have fa7_0 : (wr.alloc (.cells #[.int .i64 lv, .slice V nv cv, .slice H nh ch, .int .i64 sm] 61)).frozen? ⟨wr.heap.size, 0, none⟩ = false := (b8.2 0 _ rfl).2
      have ca7_1 : (wr.alloc (.cells #[.int .i64 lv, .slice V nv cv, .slice H nh ch, .int .i64 sm] 61)).cell? ⟨wr.heap.size, 1, none⟩ = some (.slice V nv cv) := (b8.2 1 _ rfl).1
      have fa7_1 : (wr.alloc (.cells #[.int .i64 lv, .slice V nv cv, .slice H nh ch, .int .i64 sm] 61)).frozen? ⟨wr.heap.size, 1, none⟩ = false := (b8.2 1 _ rfl).2
      have ca7_2 : (wr.alloc (.cells #[.int .i64 lv, .slice V nv cv, .slice H nh ch, .int .i64 sm] 61)).cell? ⟨wr.heap.size, 2, none⟩ = some (.slice H nh ch) := (b8.2 2 _ rfl).1
      have fa7_2 : (wr.alloc (.cells #[.int .i64 lv, .slice V nv cv, .slice H nh ch, .int .i64 sm] 61)).frozen? ⟨wr.heap.size, 2, none⟩ = false := (b8.2 2 _ rfl).2
      have ca7_3 : (wr.alloc (.cells #[.int .i64 lv, .slice V nv cv, .slice H nh ch, .int .i64 sm] 61)).cell? ⟨wr.heap.size, 3, none⟩ = some (.int .i64 sm) := (b8.2 3 _ rfl).1
      have fa7_3 : (wr.alloc (.cells #[.int .i64 lv, .slice V nv cv, .slice H nh ch, .int .i64 sm] 61)).frozen? ⟨wr.heap.size, 3, none⟩ = false := (b8.2 3 _ rfl).2
      go_wp2_with fail
      clear ca6 fa6 ca7_0 fa7_0 ca7_1 fa7_1 ca7_2 fa7_2 ca7_3 fa7_3
      refine (uGood_any (h.keeps kw) (h'.keeps kw) hvv hhh HG.out HS.out).mono ?_
      rintro e w8 ⟨rfl, k8⟩
      rw [HP.out]
      replace b3 := b3.keeps k8
      replace b8 := b8.keeps k8
      replace hvv := hvv.keeps k8
      replace hhh := hhh.keeps k8
      replace kw := Keeps.trans kw k8
      have lt9 := b8.lt
      have sz10 := kw.size
      clear k8
      clear hc0 hc1 hc2 hc3 b8
      cases p
      · have HX := hid (plB_no HTL.out hlt HP2.out)
        obtain ⟨ca11, fa11⟩ := id b3
        go_wp2_with fail
        clear ca11 fa11
        go_ret
        exact ⟨ret_bool HX.out.symm, kw⟩
      have HN := hid (show plTo ps l ts (k + 1) = true by unfold plTo; rw [HT.out, HP2.out]; rfl)
      obtain ⟨ca11, fa11⟩ := id b3
      go_wp2_with fail
      clear ca11 fa11
      go_roundw
      case rel => exact ⟨k + 1, by omega, by go_num, HN, b3, kw⟩
      case measure => simp [intOf]; omega
    · obtain rfl : k = n := by omega
      have HX := hid (plB_yes HTL.out h20 HT.out)
      go_wp2
      go_ret
      exact ⟨ret_bool HX.out.symm, kw⟩
end Go.Proofs.YtlkjhkkfdmjfcaaGreatDoor
