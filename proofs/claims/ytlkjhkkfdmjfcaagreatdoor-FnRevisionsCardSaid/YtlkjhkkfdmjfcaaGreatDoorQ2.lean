/- What the proof of the statement leans on, part 3: walks of functions and plain lemmas, with no condition. -/
import Derived.Deep.RegionLaw
import Derived.Test.YtlkjhkkfdmjfcaaGreatDoorQ0
import Derived.Test.YtlkjhkkfdmjfcaaGreatDoorQ1
namespace Go.Proofs.YtlkjhkkfdmjfcaaGreatDoor
open Go.RowKit
set_option linter.unusedVariables false
set_option linter.unusedSimpArgs false
/-- The set of all levels. -/
def full (y : Int) : Int := 2 ^ y.toNat - 1
theorem full_bd {y : Int} (h : 2 ≤ y ∧ y ≤ 8) : 3 ≤ full y ∧ full y ≤ 255 := by
  have : y = 2 ∨ y = 3 ∨ y = 4 ∨ y = 5 ∨ y = 6 ∨ y = 7 ∨ y = 8 := by omega
  rcases this with rfl | rfl | rfl | rfl | rfl | rfl | rfl <;> decide
def whRow (l : List VV) (ws : List Int) (k : Nat) : Bool := inB (ws.getD k 0) 0 (full (l.getD k v0).2)
def whTo (l : List VV) (ws : List Int) : Nat → Bool
  | 0 => true
  | k + 1 => whTo l ws k && whRow l ws k
/-- Conditions for the variables of a schema. -/
def whB (l : List VV) (ws : List Int) : Bool := decide (ws.length = l.length) && whTo l ws l.length
theorem whTo_bad {l : List VV} {ws : List Int} {k n : Nat} (h : whTo l ws k = false) (hn : k ≤ n) : whTo l ws n = false := by
  induction n with
  | zero => obtain rfl : k = 0 := by omega
            exact h
  | succ n ih =>
    rcases Nat.lt_or_ge n k with h1 | h1
    · obtain rfl : k = n + 1 := by omega
      exact h
    · unfold whTo; rw [ih h1]; rfl
theorem whTo_row {l : List VV} {ws : List Int} : ∀ n k, whTo l ws n = true → k < n → whRow l ws k = true
  | 0, k, _, hk => absurd hk (by omega)
  | n + 1, k, h, hk => by
    unfold whTo at h
    simp only [Bool.and_eq_true] at h
    rcases Nat.lt_or_ge k n with h1 | h1
    · exact whTo_row n k h.1 h1
    · obtain rfl : k = n := by omega
      exact h.2
theorem whB_len {l : List VV} {ws : List Int} (h : ws.length ≠ l.length) : whB l ws = false := by unfold whB; rw [decide_eq_false h]; rfl
theorem whB_no {l : List VV} {ws : List Int} {n k : Nat} (hl : l.length = n) (hk : k < n) (h : whRow l ws k = false) : whB l ws = false := by
  unfold whB; rw [hl, whTo_bad (k := k + 1) (by unfold whTo; rw [h, Bool.and_false]) hk, Bool.and_false]
theorem whB_yes {l : List VV} {ws : List Int} {n : Nat} (hl : l.length = n) (hw : ws.length = n) (h : whTo l ws n = true) : whB l ws = true := by unfold whB; rw [hl, hw, h]; simp
theorem whB_at {l : List VV} {ws : List Int} {k : Nat} (h : whB l ws = true) (hk : k < l.length) : ws.length = l.length ∧ 0 ≤ ws.getD k 0 ∧ ws.getD k 0 ≤ full (l.getD k v0).2 := by
  unfold whB at h
  simp only [Bool.and_eq_true, decide_eq_true_eq] at h
  exact ⟨h.1, inB_true.1 (whTo_row _ k h.2 hk)⟩
/-- The number of cells. -/
def tabN (ps : List Int) (l : List VV) (t : TT) : Int := ((lev ps t.1).length : Int) * prodTo (partL l t.2.1) t.2.1.length
def tabB (ps : List Int) (l : List VV) (t : TT) : Bool := vsB l.length t.2.1 && whB l t.2.2.1 && inB t.2.2.2 (-1) ((l.length : Int) - 1) && (decide (0 < tabN ps l t) && decide (tabN ps l t ≤ 600))
theorem lev_len (ps : List Int) (lv : Int) : (lev ps lv).length ≤ ps.length := levTo_len ps lv ps.length
theorem tabN_bd {ps : List Int} {l : List VV} {t : TT} (hg : geoB ps = true) (hs : schB l = true) (hv : vsB l.length t.2.1 = true) : 0 ≤ tabN ps l t ∧ tabN ps l t ≤ 7864320 := by
  have h1 := lev_len ps t.1
  have h2 := (geoB_true.1 hg).1
  obtain ⟨hlv, _, h6⟩ := schB_lv rfl hs
  have h3 := prodTo_bd (partL_lv hlv hv) t.2.1.length (Nat.le_refl _)
  have h5 := vsB_len hv
  have h4 := pow8 (k := t.2.1.length) (by omega)
  unfold tabN
  have h7 := Int.mul_le_mul (show (((lev ps t.1).length : Nat) : Int) ≤ 30 by omega) (show prodTo (partL l t.2.1) t.2.1.length ≤ 262144 by omega) (by omega) (by omega)
  exact ⟨Int.mul_nonneg (by omega) (by omega), by omega⟩
theorem tabN_zero {ps : List Int} {l : List VV} {t : TT} (h : (lev ps t.1).length = 0) : tabN ps l t = 0 := by unfold tabN; rw [h]; simp
theorem tabN_pos {ps : List Int} {l : List VV} {t : TT} (hs : schB l = true) (hv : vsB l.length t.2.1 = true) (h : (lev ps t.1).length ≠ 0) : 0 < tabN ps l t := by
  obtain ⟨hlv, _, h6⟩ := schB_lv rfl hs
  have h3 := prodTo_bd (partL_lv hlv hv) t.2.1.length (Nat.le_refl _)
  unfold tabN
  exact Int.mul_pos (by omega) (by omega)
theorem tabB_parts {ps : List Int} {l : List VV} {t : TT} (h : tabB ps l t = true) : vsB l.length t.2.1 = true ∧ whB l t.2.2.1 = true ∧ (-1 ≤ t.2.2.2 ∧ t.2.2.2 ≤ (l.length : Int) - 1) ∧ 0 < tabN ps l t ∧ tabN ps l t ≤ 600 := by
  unfold tabB at h
  simp only [Bool.and_eq_true, decide_eq_true_eq] at h
  exact ⟨h.1.1.1, h.1.1.2, inB_true.1 h.1.2, h.2⟩
def plTo (ps : List Int) (l : List VV) (ts : List TT) : Nat → Bool
  | 0 => true
  | k + 1 => plTo ps l ts k && tabB ps l (ts.getD k t0)
/-- A plan, where the areas and the schema are valid. -/
def plB (ps : List Int) (l : List VV) (ts : List TT) : Bool := decide (ts.length ≤ 20) && plTo ps l ts ts.length
theorem plTo_bad {ps : List Int} {l : List VV} {ts : List TT} {k n : Nat} (h : plTo ps l ts k = false) (hn : k ≤ n) : plTo ps l ts n = false := by
  induction n with
  | zero => obtain rfl : k = 0 := by omega
            exact h
  | succ n ih =>
    rcases Nat.lt_or_ge n k with h1 | h1
    · obtain rfl : k = n + 1 := by omega
      exact h
    · unfold plTo; rw [ih h1]; rfl
theorem plTo_row {ps : List Int} {l : List VV} {ts : List TT} : ∀ n k, plTo ps l ts n = true → k < n → tabB ps l (ts.getD k t0) = true
  | 0, k, _, hk => absurd hk (by omega)
  | n + 1, k, h, hk => by
    unfold plTo at h
    simp only [Bool.and_eq_true] at h
    rcases Nat.lt_or_ge k n with h1 | h1
    · exact plTo_row n k h.1 h1
    · obtain rfl : k = n := by omega
      exact h.2
theorem plB_no {ps : List Int} {l : List VV} {ts : List TT} {n k : Nat} (hl : ts.length = n) (hk : k < n) (h : tabB ps l (ts.getD k t0) = false) : plB ps l ts = false := by
  unfold plB; rw [hl, plTo_bad (k := k + 1) (by unfold plTo; rw [h, Bool.and_false]) hk, Bool.and_false]
theorem plB_len {ps : List Int} {l : List VV} {ts : List TT} (h : ¬ ts.length ≤ 20) : plB ps l ts = false := by unfold plB; rw [decide_eq_false h]; rfl
theorem plB_yes {ps : List Int} {l : List VV} {ts : List TT} {n : Nat} (hl : ts.length = n) (h2 : n ≤ 20) (h : plTo ps l ts n = true) : plB ps l ts = true := by unfold plB; rw [hl, h, decide_eq_true h2]; rfl
theorem plB_at {ps : List Int} {l : List VV} {ts : List TT} (h : plB ps l ts = true) : ts.length ≤ 20 ∧ ∀ k, k < ts.length → tabB ps l (ts.getD k t0) = true := by
  unfold plB at h
  simp only [Bool.and_eq_true, decide_eq_true_eq] at h
  exact ⟨h.1, fun k hk => plTo_row _ k h.2 hk⟩
set_option maxRecDepth 100000 in
set_option maxHeartbeats 3200000 in
theorem fullSet_any {s : ByteArray} {y : Int} {w : World} (h : 2 ≤ y ∧ y ≤ 8) :
    Calls Tryz.prog 139 #[.agg #[.string s, .int .i64 y]] w fun e w' => e = .returned (.int .i64 (full y)) ∧ Keeps w w' := by
  have hy7 : y = 2 ∨ y = 3 ∨ y = 4 ∨ y = 5 ∨ y = 6 ∨ y = 7 ∨ y = 8 := by omega
  rcases hy7 with rfl | rfl | rfl | rfl | rfl | rfl | rfl
  all_goals (
    go_enter Tryz.func139, Tryz.ntmps139
    have kw := keeps_refl w
    go_wp2
    go_ret
    exact ⟨ret_int (by decide), keeps_alloc _ _⟩)
set_option maxRecDepth 100000 in
set_option maxHeartbeats 3200000 in
theorem eFull_any {A : Option Addr} {lo hi n c k : Nat} {l : List VV} {w : World} (h : Vars w lo hi A n l) (hk : k < n) (hv : 2 ≤ (l.getD k v0).2 ∧ (l.getD k v0).2 ≤ 8) :
    Calls Tryz.prog 158 #[.slice A n c, .int .i64 k] w fun e w' => e = .returned (.int .i64 (full (l.getD k v0).2)) ∧ w = w' := by
  obtain ⟨b, off, x, y, rfl, _, _, hc, hd, hx⟩ := Vars.at_ h hk
  have hn := h.le
  have hy : (l.getD k v0).2 = y := (congrArg Prod.snd hx.out).symm
  rw [hy] at hv ⊢
  clear hy hx
  have hi1 : (k : Int) < (n : Int) := by omega
  have hy7 : y = 2 ∨ y = 3 ∨ y = 4 ∨ y = 5 ∨ y = 6 ∨ y = 7 ∨ y = 8 := by omega
  rcases hy7 with rfl | rfl | rfl | rfl | rfl | rfl | rfl
  all_goals (
    go_enter Tryz.func158, Tryz.ntmps158
    go_wp2
    go_ret
    exact ⟨ret_int (by decide), rfl⟩)
set_option maxRecDepth 100000 in
set_option maxHeartbeats 3200000 in
theorem isWhere_any {A A' : Option Addr} {lo hi n c m d : Nat} {ws : List Int} {l : List VV} {w : World} (h : Ints w lo hi A n ws) (h' : Sch w A' m d l) (hlv : LvOk l m) :
    Calls Tryz.prog 96 #[.slice A' m d, .slice A n c] w fun e w' => e = .returned (.bool (whB l ws)) ∧ Keeps w w' := by
  obtain ⟨lo', hi', hv⟩ := h'.v
  have HL := hid (Vars.len hv)
  have HW := hid h.1
  have hn := h.le
  have hm := hv.le
  have HLV := hid hlv
  clear hlv
  by_cases hnm : n = m
  rotate_left
  · have HX := hid (whB_len (l := l) (ws := ws) (by rw [HL.out, HW.out]; exact hnm))
    have t1 : ((n : Int) != (m : Int)) = true := by rw [bne_iff_ne]; omega
    go_enter Tryz.func96, Tryz.ntmps96
    go_wp2
    go_ret
    exact ⟨ret_bool HX.out.symm, keeps_refl _⟩
  subst hnm
  have t1 : ((n : Int) != (n : Int)) = false := by simp
  go_enter Tryz.func96, Tryz.ntmps96
  go_wp2_with fail
  go_loopw [14] (fun i wr => ∃ k : Nat, k ≤ n ∧ i = .int .i64 k ∧ Hid (whTo l ws k = true) ∧ Keeps w wr) (fun i _ => n - (intOf i).toNat)
  case atStart => exact ⟨0, Nat.zero_le _, rfl, hid rfl, keeps_refl _⟩
  case round =>
    obtain ⟨k, hk, rfl, HT, kw⟩ := hrel
    by_cases hlt : k < n
    · obtain ⟨b, off, u, rfl, _, _, hc, hu⟩ := (h.keeps kw).at_ hlt
      obtain ⟨b', off', x, y, rfl, _, _, hcx, hcy, hx⟩ := Vars.at_ (Sl.keeps hv kw) hlt
      have hi1 : (k : Int) < (n : Int) := by omega
      have hy := HLV.out k hlt
      have HY := hid (show (l.getD k v0).2 = y from (congrArg Prod.snd hx.out).symm)
      rw [HY.out] at hy
      have HR := hid (show whRow l ws k = inB u 0 (full y) by unfold whRow; rw [HY.out, ← hu.out])
      clear hx hu
      by_cases h0 : u < 0
      · have HX := hid (whB_no (l := l) (ws := ws) HL.out hlt (by rw [HR.out]; exact inB_not (by omega)))
        go_wp2
        go_ret
        exact ⟨ret_bool HX.out.symm, kw⟩
      go_wp2_with fail
      refine (fullSet_any hy).mono ?_
      rintro e w1 ⟨rfl, k1⟩
      replace kw := kw.trans k1
      obtain ⟨f, hf⟩ : ∃ f, full y = f := ⟨_, rfl⟩
      rw [hf] at HR
      rw [hf]
      clear hf k1 hc hcx hcy
      by_cases h1 : f < u
      · have HX := hid (whB_no (l := l) (ws := ws) HL.out hlt (by rw [HR.out]; exact inB_not (by omega)))
        go_wp2
        go_ret
        exact ⟨ret_bool HX.out.symm, kw⟩
      have HN := hid (show whTo l ws (k + 1) = true by unfold whTo; rw [HT.out, HR.out]; exact inB_true.2 (by omega))
      go_wp2
      go_roundw
      case rel => exact ⟨k + 1, by omega, by go_num, HN, kw⟩
      case measure => simp [intOf]; omega
    · obtain rfl : k = n := by omega
      have HX := hid (whB_yes HL.out HW.out HT.out)
      go_wp2
      go_ret
      exact ⟨ret_bool HX.out.symm, kw⟩
set_option maxRecDepth 100000 in
set_option maxHeartbeats 6400000 in
theorem uWhere_any {A A' : Option Addr} {lo hi n c m d : Nat} {ws : List Int} {l : List VV} {w : World} (h : Ints w lo hi A n ws) (h' : Sch w A' m d l) (hlv : LvOk l m) :
    Calls Tryz.prog 134 #[.slice A' m d, .slice A n c] w fun e w' => e = .returned (.bool (whB l ws)) ∧ Keeps w w' := by
  obtain ⟨lo', hi', hv⟩ := h'.v
  have HL := hid (Vars.len hv)
  have HW := hid h.1
  have hn := h.le
  have hm := hv.le
  have HLV := hid hlv
  clear hlv
  by_cases hnm : n = m
  rotate_left
  · have HX := hid (whB_len (l := l) (ws := ws) (by rw [HL.out, HW.out]; exact hnm))
    have t1 : ((n : Int) != (m : Int)) = true := by rw [bne_iff_ne]; omega
    go_enter Tryz.func134, Tryz.ntmps134
    go_wp2
    go_ret
    exact ⟨ret_bool HX.out.symm, keeps_refl _⟩
  subst hnm
  have t1 : ((n : Int) != (n : Int)) = false := by simp
  go_enter Tryz.func134, Tryz.ntmps134
  go_wp2_with fail
  go_loopw [14] (fun i wr => ∃ k : Nat, k ≤ n ∧ i = .int .i64 k ∧ Hid (whTo l ws k = true) ∧ Keeps w wr) (fun i _ => n - (intOf i).toNat)
  case atStart => exact ⟨0, Nat.zero_le _, rfl, hid rfl, keeps_refl _⟩
  case round =>
    obtain ⟨k, hk, rfl, HT, kw⟩ := hrel
    by_cases hlt : k < n
    · obtain ⟨b, off, u, rfl, _, _, hc, hu⟩ := (h.keeps kw).at_ hlt
      obtain ⟨b', off', x, y, rfl, _, _, hcx, hcy, hx⟩ := Vars.at_ (Sl.keeps hv kw) hlt
      have hi1 : (k : Int) < (n : Int) := by omega
      have hy := HLV.out k hlt
      have HY := hid (show (l.getD k v0).2 = y from (congrArg Prod.snd hx.out).symm)
      rw [HY.out] at hy
      have HR := hid (show whRow l ws k = inB u 0 (full y) by unfold whRow; rw [HY.out, ← hu.out])
      clear hx hu HY
      obtain ⟨p, HP⟩ : ∃ p, Hid (inB u 0 (full y) = p) := ⟨_, rfl⟩
      rw [HP.out] at HR
      have HC := hid (fun w' => l1In_any u 0 (full y) w')
      rw [HP.out] at HC
      clear HP
      have KA := kw.trans (keeps_alloc wr (.cells #[.string x, .int .i64 y] 82))
      have hcA := cell_keeps hc (keeps_alloc wr (.cells #[.string x, .int .i64 y] 82))
      cases p
      · have HX := hid (whB_no (l := l) (ws := ws) HL.out hlt HR.out)
        clear HR
        have hy7 : y = 2 ∨ y = 3 ∨ y = 4 ∨ y = 5 ∨ y = 6 ∨ y = 7 ∨ y = 8 := by omega
        rcases hy7 with rfl | rfl | rfl | rfl | rfl | rfl | rfl
        all_goals (
          go_wp2_with fail
          go_quiet ((go_at_call 87; exact quietS (HC.out _)))
          go_wp2
          go_ret
          exact ⟨ret_bool HX.out.symm, KA.trans (Keeps.drewN _ _)⟩)
      · have HN := hid (show whTo l ws (k + 1) = true by unfold whTo; rw [HT.out, HR.out]; rfl)
        clear HR
        have hy7 : y = 2 ∨ y = 3 ∨ y = 4 ∨ y = 5 ∨ y = 6 ∨ y = 7 ∨ y = 8 := by omega
        rcases hy7 with rfl | rfl | rfl | rfl | rfl | rfl | rfl
        all_goals (
          go_wp2_with fail
          go_quiet ((go_at_call 87; exact quietS (HC.out _)))
          go_wp2
          go_roundw
          case rel => exact ⟨k + 1, by omega, by go_num, HN, KA.trans (Keeps.drewN _ _)⟩
          case measure => simp [intOf]; omega)
    · obtain rfl : k = n := by omega
      have HX := hid (whB_yes HL.out HW.out HT.out)
      go_wp2
      go_ret
      exact ⟨ret_bool HX.out.symm, kw⟩
end Go.Proofs.YtlkjhkkfdmjfcaaGreatDoor
namespace Go.Proofs.YtlkjhkkfdmjfcaaGreatDoor
open Go.RowKit
set_option linter.unusedVariables false
set_option linter.unusedSimpArgs false
def calleeT (o : Oper) : Option FuncId := match o.op with
  | .call c => match c.callee with
    | .value (.func f) => some f
    | _ => none
  | _ => none
/-- A call in a region, by its contract; the callee is looked at first. -/
theorem step_anyT {W : World} {ops : Array Oper} {o : Oper} {a : Act} {K : Act → World → Prop} {Q : Exit → Act → World → Prop} {E : Prop} {f : FuncId} {args : Array Value} {R : Ending → World → Prop}
    (hc : Calls Tryz.prog f args W R) (hf : calleeT o = some f) (hr : ∀ e w', R e w' → ∃ v, e = .returned v) (hgd : o.guard = none)
    (hrun : (execOp a.eval o).run Tryz.prog W = .ok (.enter f args) W)
    (h : ∀ v w', R (.returned v) w' → K (a.put o.dst v) w') :
    if Region.wanted o (yielded ops a.tmps) = true then Oper.wp Tryz.prog o a W K Q else E := step_any hc hr hgd hrun h
set_option maxRecDepth 100000 in
set_option maxHeartbeats 3200000 in
theorem crossed_any {A' V H : Option Addr} {lo hi n c m d q e : Nat} {vs : List Int} {l : List VV} {lv sm : Int} {w : World} (h : Ints w lo hi V n vs) (h' : Sch w A' q e l) (hvs : vsB q vs = true) :
    Calls Tryz.prog 142 #[.slice A' q e, .agg #[.int .i64 lv, .slice V n c, .slice H m d, .int .i64 sm]] w (PartRes w (partL l vs) n) := by
  obtain ⟨lo', hi', hv⟩ := h'.v
  have hn := h.le
  have HL := hid h.1
  have HV := hid (fun (k : Nat) (hk : k < n) => vsB_at hvs (k := k) (by rw [h.1]; exact hk))
  have HPL := hid (show (partL l vs).length = n by rw [partL_len, h.1])
  clear hvs
  have hmk := make_vars n hn
  go_enter Tryz.func142, Tryz.ntmps142
  have kw := keeps_refl w
  replace kw := Keeps.trans kw (keeps_alloc w (.cells #[.int .i64 lv, .slice V n c, .slice H m d, .int .i64 sm] 61))
  have b3 : Bl (w.alloc (.cells #[.int .i64 lv, .slice V n c, .slice H m d, .int .i64 sm] 61)) w.heap.size [.int .i64 lv, .slice V n c, .slice H m d, .int .i64 sm] := Bl.new' (by simp) (by simp)
  have ca1_0 := (b3.2 0 _ rfl).1
  have ca1_1 := (b3.2 1 _ rfl).1
  have ca1_2 := (b3.2 2 _ rfl).1
  have ca1_3 := (b3.2 3 _ rfl).1
  go_wp2_with fail
  clear ca1_0 ca1_1 ca1_2 ca1_3
  replace b3 := b3.keeps (keeps_alloc (w.alloc (.cells #[.int .i64 lv, .slice V n c, .slice H m d, .int .i64 sm] 61)) (.cells (madeCells #[.string ByteArray.empty, .int .i64 0] (n * 2)) 82))
  replace kw := Keeps.trans kw (keeps_alloc (w.alloc (.cells #[.int .i64 lv, .slice V n c, .slice H m d, .int .i64 sm] 61)) (.cells (madeCells #[.string ByteArray.empty, .int .i64 0] (n * 2)) 82))
  clear hmk
  have own : OwnC ((w.alloc (.cells #[.int .i64 lv, .slice V n c, .slice H m d, .int .i64 sm] 61)).alloc (.cells (madeCells #[.string ByteArray.empty, .int .i64 0] (n * 2)) 82)) (w.heap.size + 1) 82 (vrs (padD v0 (partL l vs) 0)) := by
    rw [padD_zero, HPL.out]
    have q := OwnC.newV (w.alloc (.cells #[.int .i64 lv, .slice V n c, .slice H m d, .int .i64 sm] 61)) n
    rwa [show (w.alloc (.cells #[.int .i64 lv, .slice V n c, .slice H m d, .int .i64 sm] 61)).heap.size = w.heap.size + 1 by simp] at q
  clear b3
  go_loopw [15] (fun i wr => ∃ k : Nat, k ≤ n ∧ i = .int .i64 k ∧ OwnC wr (w.heap.size + 1) 82 (vrs (padD v0 (partL l vs) k)) ∧ Keeps w wr) (fun i _ => n - (intOf i).toNat)
  case atStart => exact ⟨0, Nat.zero_le _, rfl, own, kw⟩
  clear own kw
  case round =>
    obtain ⟨k, hk, rfl, hown, kw⟩ := hrel
    have hgs := hown.lt
    by_cases hlt : k < n
    · obtain ⟨b, off, z, rfl, _, _, hc, hz⟩ := (h.keeps kw).at_ hlt
      have hi1 : (k : Int) < (n : Int) := by omega
      have hz2 := HV.out k hlt
      rw [← hz.out] at hz2
      obtain ⟨j, rfl⟩ : ∃ j : Nat, z = (j : Int) := ⟨z.toNat, by omega⟩
      have hjm : j < q := by omega
      have hj1 : (j : Int) < (q : Int) := by omega
      obtain ⟨b', off', x, y, rfl, _, _, hcx, hcy, hx⟩ := Vars.at_ (Sl.keeps hv kw) hjm
      have HX := hid (padD_succ v0 (partL l vs) k (by rw [HPL.out]; exact hlt))
      rw [partL_at l vs (by rw [HL.out]; exact hlt), ← hz.out, Int.toNat_natCast, ← hx.out] at HX
      have hll : (vrs (padD v0 (partL l vs) k)).length = n * 2 := by rw [vrs_len, padD_len _ _ _ (by rw [HPL.out]; omega), HPL.out]
      have d1 := hown.cell (k * 2) (by omega)
      have d2 := hown.cell (k * 2 + 1) (by omega)
      have f1 := hown.frozen (k * 2)
      have f2 := hown.frozen (k * 2 + 1)
      have H1 := hid (OwnC.setV (k := k) hown x y)
      rw [HX.out] at H1
      have H2 := hid (Below.setCell (Below.setCell kw (p := ⟨w.heap.size + 1, k * 2, none⟩) (Nat.le_succ _) (.string x)) (p := ⟨w.heap.size + 1, k * 2 + 1, none⟩) (Nat.le_succ _) (.int .i64 y))
      clear hown kw hz hx hz2
      go_wp2
      go_roundw
      case rel => exact ⟨k + 1, by omega, by go_num, H1.out, H2.out⟩
      case measure => simp [intOf]; omega
    · obtain rfl : k = n := by omega
      rw [show padD v0 (partL l vs) k = partL l vs by rw [← HPL.out]; exact padD_all _ _] at hown
      have HM := hid (hown.slm (n := k) (sz := 2) (lo := w.heap.size) (hi := wr.heap.size) (by rw [vrs_len, HPL.out]) hn (Nat.le_succ _) hgs (Nat.le_refl _))
      clear hown
      go_wp2
      go_ret
      exact ⟨_, _, rfl, HM.out, Nat.le_refl _, by unfold maxLen; omega, kw⟩
set_option maxRecDepth 100000 in
set_option maxHeartbeats 6400000 in
theorem cellCount_any {A A' V H : Option Addr} {lo hi a c0 lo' hi' n c m d q e : Nat} {ps vs : List Int} {l : List VV} {lv sm : Int} {ws : List Int} {w : World} (h : Ints w lo hi A a ps) (h' : Sch w A' q e l) (hV : Ints w lo' hi' V n vs) (hg : geoB ps = true) (hs : schB l = true) (hvs : vsB q vs = true) :
    Calls Tryz.prog 97 #[.agg #[.slice A a c0], .slice A' q e, .agg #[.int .i64 lv, .slice V n c, .slice H m d, .int .i64 sm]] w fun e w' => e = .returned (.int .i64 (tabN ps l (lv, vs, ws, sm))) ∧ Keeps w w' := by
  obtain ⟨lo9, hi9, hv⟩ := h'.v
  have hl := Vars.len hv
  have hnl := hV.1
  obtain ⟨hlv, -, h6⟩ := schB_lv hl hs
  have hb := tabN_bd (t := (lv, vs, ws, sm)) hg hs (by rw [hl]; exact hvs)
  have HN := hid (show tabN ps l (lv, vs, ws, sm) = ((lev ps lv).length : Int) * prodTo (partL l vs) n by rw [← hnl]; rfl)
  have hn6 : n ≤ 6 := by have := vsB_len hvs; omega
  have HPV := hid (show LvOk (partL l vs) n by have := partL_lv hlv hvs; rwa [hnl] at this)
  have HT := hid (tree_of hg)
  have HV := hid hvs
  rw [HN.out] at hb
  clear hl hnl hlv hg hs hvs h6 hv
  have hl30 := lev_len ps lv
  have ha := h.1
  have ha2 := h.le
  obtain ⟨L, hL⟩ : ∃ L, (lev ps lv).length = L := ⟨_, rfl⟩
  obtain ⟨P, hP⟩ : ∃ P, prodTo (partL l vs) n = P := ⟨_, rfl⟩
  rw [hL, hP] at hb HN
  rw [hL] at hl30
  have HLL := hid hL
  have HPP := hid hP
  obtain ⟨hb0, hb1⟩ := hb
  have WR := hid (show IntKind.i64.wrap ((L : Int) * P) = tabN ps l (lv, vs, ws, sm) by rw [IntWalk.i64_in _ (by omega)]; exact HN.out.symm)
  clear hL hP ha
  go_enter Tryz.func97, Tryz.ntmps97
  have kw := keeps_refl w
  replace kw := Keeps.trans kw (keeps_alloc w (.cells #[.slice A a c0] 32))
  have b3 : B1 (w.alloc (.cells #[.slice A a c0] 32)) w.heap.size (.slice A a c0) := B1.new' (by simp)
  replace b3 := b3.keeps (keeps_alloc (w.alloc (.cells #[.slice A a c0] 32)) (.cells #[.int .i64 lv, .slice V n c, .slice H m d, .int .i64 sm] 61))
  replace kw := Keeps.trans kw (keeps_alloc (w.alloc (.cells #[.slice A a c0] 32)) (.cells #[.int .i64 lv, .slice V n c, .slice H m d, .int .i64 sm] 61))
  have b5 : Bl ((w.alloc (.cells #[.slice A a c0] 32)).alloc (.cells #[.int .i64 lv, .slice V n c, .slice H m d, .int .i64 sm] 61)) (w.heap.size + 1) [.int .i64 lv, .slice V n c, .slice H m d, .int .i64 sm] := Bl.new' (by simp) (by simp)
  go_wp2_with fail
  obtain ⟨ca3, -⟩ := id b3
  have c50 := (b5.2 0 _ rfl).1
  have c51 := (b5.2 1 _ rfl).1
  have c52 := (b5.2 2 _ rfl).1
  have c53 := (b5.2 3 _ rfl).1
  have KW := hid kw
  clear kw b3 b5
  have kW := keeps_d0 ((w.alloc (.cells #[.slice A a c0] 32)).alloc (.cells #[.int .i64 lv, .slice V n c, .slice H m d, .int .i64 sm] 61))
  have z3 := cell_keeps ca3 kW
  have y0 := cell_keeps c50 kW
  have y1 := cell_keeps c51 kW
  have y2 := cell_keeps c52 kW
  have y3 := cell_keeps c53 kW
  replace z3 : ((w.alloc (.cells #[.slice A a c0] 32)).alloc (.cells #[.int .i64 lv, .slice V n c, .slice H m d, .int .i64 sm] 61)).drew.cell? ⟨w.heap.size, 0, none⟩ = some (.slice A a c0) := z3
  replace y0 : ((w.alloc (.cells #[.slice A a c0] 32)).alloc (.cells #[.int .i64 lv, .slice V n c, .slice H m d, .int .i64 sm] 61)).drew.cell? ⟨w.heap.size + 1, 0, none⟩ = some (.int .i64 lv) := y0
  replace y1 : ((w.alloc (.cells #[.slice A a c0] 32)).alloc (.cells #[.int .i64 lv, .slice V n c, .slice H m d, .int .i64 sm] 61)).drew.cell? ⟨w.heap.size + 1, 1, none⟩ = some (.slice V n c) := y1
  replace y2 : ((w.alloc (.cells #[.slice A a c0] 32)).alloc (.cells #[.int .i64 lv, .slice V n c, .slice H m d, .int .i64 sm] 61)).drew.cell? ⟨w.heap.size + 1, 2, none⟩ = some (.slice H m d) := y2
  replace y3 : ((w.alloc (.cells #[.slice A a c0] 32)).alloc (.cells #[.int .i64 lv, .slice V n c, .slice H m d, .int .i64 sm] 61)).drew.cell? ⟨w.heap.size + 1, 3, none⟩ = some (.int .i64 sm) := y3
  go_region_law ((first | (refine step_anyT (areasAt_any (lv := lv) (c := c0) (h.keeps (Keeps.trans KW.out kW)) HT.out) (by rfl) (fun e w' hh => by obtain ⟨_, _, h, _⟩ := hh; exact ⟨_, h⟩) rfl (by kernel_rfl) ?_; intro v9 wB hh; obtain ⟨LA, LC, eE, -, kB⟩ := hh; cases eE; rw [HLL.out]; (first | (have mP := SlM.keeps mP kB) | skip); replace kW : Keeps ((w.alloc (.cells #[.slice A a c0] 32)).alloc (.cells #[.int .i64 lv, .slice V n c, .slice H m d, .int .i64 sm] 61)) wB := kW.trans kB; clear kB; have z3 := cell_keeps ca3 kW; have y0 := cell_keeps c50 kW; have y1 := cell_keeps c51 kW; have y2 := cell_keeps c52 kW; have y3 := cell_keeps c53 kW) | (refine step_anyT (crossed_any (m := m) (c := c) (H := H) (d := d) (lv := lv) (sm := sm) (hV.keeps (Keeps.trans KW.out kW)) (h'.keeps (Keeps.trans KW.out kW)) HV.out) (by rfl) (fun e w' hh => by obtain ⟨_, _, h, _⟩ := hh; exact ⟨_, h⟩) rfl (by kernel_rfl) ?_; intro v9 wB hh; obtain ⟨PA, PC, eE, mP, -, -, kB⟩ := hh; cases eE; replace kW : Keeps ((w.alloc (.cells #[.slice A a c0] 32)).alloc (.cells #[.int .i64 lv, .slice V n c, .slice H m d, .int .i64 sm] 61)) wB := kW.trans kB; clear kB; have z3 := cell_keeps ca3 kW; have y0 := cell_keeps c50 kW; have y1 := cell_keeps c51 kW; have y2 := cell_keeps c52 kW; have y3 := cell_keeps c53 kW) | (refine step_anyT (combinations_any (c := PC) mP.1 HPV.out hn6) (by rfl) (fun e w' hh => by obtain ⟨h, _⟩ := hh; exact ⟨_, h⟩) rfl (by kernel_rfl) ?_; intro v9 wB hh; obtain ⟨eE, kB⟩ := hh; cases eE; rw [HPP.out]; (first | (have mP := SlM.keeps mP kB) | skip); replace kW : Keeps ((w.alloc (.cells #[.slice A a c0] 32)).alloc (.cells #[.int .i64 lv, .slice V n c, .slice H m d, .int .i64 sm] 61)) wB := kW.trans kB; clear kB; have z3 := cell_keeps ca3 kW; have y0 := cell_keeps c50 kW; have y1 := cell_keeps c51 kW; have y2 := cell_keeps c52 kW; have y3 := cell_keeps c53 kW)))
  all_goals (
    have KK := hid (KW.out.trans kW)
    clear mP kW z3 y0 y1 y2 y3 ca3 c50 c51 c52 c53
    go_wp2
    go_ret
    exact ⟨ret_int WR.out, KK.out⟩)
set_option maxRecDepth 100000 in
set_option maxHeartbeats 6400000 in
theorem uCount_any {A A' V H : Option Addr} {lo hi a c0 lo' hi' n c m d q e : Nat} {ps vs : List Int} {l : List VV} {lv sm : Int} {ws : List Int} {w : World} (h : Ints w lo hi A a ps) (h' : Sch w A' q e l) (hV : Ints w lo' hi' V n vs) (hg : geoB ps = true) (hs : schB l = true) (hvs : vsB q vs = true) :
    Calls Tryz.prog 135 #[.agg #[.slice A a c0], .slice A' q e, .agg #[.int .i64 lv, .slice V n c, .slice H m d, .int .i64 sm]] w fun e w' => e = .returned (.int .i64 (tabN ps l (lv, vs, ws, sm))) ∧ Keeps w w' := by
  obtain ⟨lo9, hi9, hv⟩ := h'.v
  have hl := Vars.len hv
  have hnl := hV.1
  obtain ⟨hlv, -, h6⟩ := schB_lv hl hs
  have hb := tabN_bd (t := (lv, vs, ws, sm)) hg hs (by rw [hl]; exact hvs)
  have HN := hid (show tabN ps l (lv, vs, ws, sm) = ((lev ps lv).length : Int) * prodTo (partL l vs) n by rw [← hnl]; rfl)
  have hn6 : n ≤ 6 := by have := vsB_len hvs; omega
  have HPV := hid (show LvOk (partL l vs) n by have := partL_lv hlv hvs; rwa [hnl] at this)
  have HT := hid (tree_of hg)
  have HV := hid hvs
  rw [HN.out] at hb
  clear hl hnl hlv hg hs hvs h6 hv
  have hl30 := lev_len ps lv
  have ha := h.1
  have ha2 := h.le
  obtain ⟨L, hL⟩ : ∃ L, (lev ps lv).length = L := ⟨_, rfl⟩
  obtain ⟨P, hP⟩ : ∃ P, prodTo (partL l vs) n = P := ⟨_, rfl⟩
  rw [hL, hP] at hb HN
  rw [hL] at hl30
  have HLL := hid hL
  have HPP := hid hP
  obtain ⟨hb0, hb1⟩ := hb
  have WR := hid (show IntKind.i64.wrap ((L : Int) * P) = tabN ps l (lv, vs, ws, sm) by rw [IntWalk.i64_in _ (by omega)]; exact HN.out.symm)
  clear hL hP ha
  go_enter Tryz.func135, Tryz.ntmps135
  have kw := keeps_refl w
  replace kw := Keeps.trans kw (keeps_alloc w (.cells #[.slice A a c0] 32))
  have b3 : B1 (w.alloc (.cells #[.slice A a c0] 32)) w.heap.size (.slice A a c0) := B1.new' (by simp)
  replace b3 := b3.keeps (keeps_alloc (w.alloc (.cells #[.slice A a c0] 32)) (.cells #[.int .i64 lv, .slice V n c, .slice H m d, .int .i64 sm] 61))
  replace kw := Keeps.trans kw (keeps_alloc (w.alloc (.cells #[.slice A a c0] 32)) (.cells #[.int .i64 lv, .slice V n c, .slice H m d, .int .i64 sm] 61))
  have b5 : Bl ((w.alloc (.cells #[.slice A a c0] 32)).alloc (.cells #[.int .i64 lv, .slice V n c, .slice H m d, .int .i64 sm] 61)) (w.heap.size + 1) [.int .i64 lv, .slice V n c, .slice H m d, .int .i64 sm] := Bl.new' (by simp) (by simp)
  go_wp2_with fail
  obtain ⟨ca3, -⟩ := id b3
  have c50 := (b5.2 0 _ rfl).1
  have c51 := (b5.2 1 _ rfl).1
  have c52 := (b5.2 2 _ rfl).1
  have c53 := (b5.2 3 _ rfl).1
  have KW := hid kw
  clear kw b3 b5
  have kW := keeps_d0 ((w.alloc (.cells #[.slice A a c0] 32)).alloc (.cells #[.int .i64 lv, .slice V n c, .slice H m d, .int .i64 sm] 61))
  have z3 := cell_keeps ca3 kW
  have y0 := cell_keeps c50 kW
  have y1 := cell_keeps c51 kW
  have y2 := cell_keeps c52 kW
  have y3 := cell_keeps c53 kW
  replace z3 : ((w.alloc (.cells #[.slice A a c0] 32)).alloc (.cells #[.int .i64 lv, .slice V n c, .slice H m d, .int .i64 sm] 61)).drew.cell? ⟨w.heap.size, 0, none⟩ = some (.slice A a c0) := z3
  replace y0 : ((w.alloc (.cells #[.slice A a c0] 32)).alloc (.cells #[.int .i64 lv, .slice V n c, .slice H m d, .int .i64 sm] 61)).drew.cell? ⟨w.heap.size + 1, 0, none⟩ = some (.int .i64 lv) := y0
  replace y1 : ((w.alloc (.cells #[.slice A a c0] 32)).alloc (.cells #[.int .i64 lv, .slice V n c, .slice H m d, .int .i64 sm] 61)).drew.cell? ⟨w.heap.size + 1, 1, none⟩ = some (.slice V n c) := y1
  replace y2 : ((w.alloc (.cells #[.slice A a c0] 32)).alloc (.cells #[.int .i64 lv, .slice V n c, .slice H m d, .int .i64 sm] 61)).drew.cell? ⟨w.heap.size + 1, 2, none⟩ = some (.slice H m d) := y2
  replace y3 : ((w.alloc (.cells #[.slice A a c0] 32)).alloc (.cells #[.int .i64 lv, .slice V n c, .slice H m d, .int .i64 sm] 61)).drew.cell? ⟨w.heap.size + 1, 3, none⟩ = some (.int .i64 sm) := y3
  go_region_law ((first | (refine step_anyT (gLevel_any (lv := lv) (c := c0) (h.keeps (Keeps.trans KW.out kW)) HT.out) (by rfl) (fun e w' hh => by obtain ⟨_, _, h, _⟩ := hh; exact ⟨_, h⟩) rfl (by kernel_rfl) ?_; intro v9 wB hh; obtain ⟨LA, LC, eE, -, kB⟩ := hh; cases eE; rw [HLL.out]; (first | (have mP := SlM.keeps mP kB) | skip); replace kW : Keeps ((w.alloc (.cells #[.slice A a c0] 32)).alloc (.cells #[.int .i64 lv, .slice V n c, .slice H m d, .int .i64 sm] 61)) wB := kW.trans kB; clear kB; have z3 := cell_keeps ca3 kW; have y0 := cell_keeps c50 kW; have y1 := cell_keeps c51 kW; have y2 := cell_keeps c52 kW; have y3 := cell_keeps c53 kW) | (refine step_anyT (sPart_any (c := c) (d := e) (hV.keeps (Keeps.trans KW.out kW)) (h'.keeps (Keeps.trans KW.out kW)) HV.out) (by rfl) (fun e w' hh => by obtain ⟨_, _, h, _⟩ := hh; exact ⟨_, h⟩) rfl (by kernel_rfl) ?_; intro v9 wB hh; obtain ⟨PA, PC, eE, mP, -, -, kB⟩ := hh; cases eE; replace kW : Keeps ((w.alloc (.cells #[.slice A a c0] 32)).alloc (.cells #[.int .i64 lv, .slice V n c, .slice H m d, .int .i64 sm] 61)) wB := kW.trans kB; clear kB; have z3 := cell_keeps ca3 kW; have y0 := cell_keeps c50 kW; have y1 := cell_keeps c51 kW; have y2 := cell_keeps c52 kW; have y3 := cell_keeps c53 kW) | (refine step_anyT (sCount_any (c := PC) mP.1 HPV.out hn6) (by rfl) (fun e w' hh => by obtain ⟨h, _⟩ := hh; exact ⟨_, h⟩) rfl (by kernel_rfl) ?_; intro v9 wB hh; obtain ⟨eE, kB⟩ := hh; cases eE; rw [HPP.out]; (first | (have mP := SlM.keeps mP kB) | skip); replace kW : Keeps ((w.alloc (.cells #[.slice A a c0] 32)).alloc (.cells #[.int .i64 lv, .slice V n c, .slice H m d, .int .i64 sm] 61)) wB := kW.trans kB; clear kB; have z3 := cell_keeps ca3 kW; have y0 := cell_keeps c50 kW; have y1 := cell_keeps c51 kW; have y2 := cell_keeps c52 kW; have y3 := cell_keeps c53 kW)))
  all_goals (
    have KK := hid (KW.out.trans kW)
    clear mP kW z3 y0 y1 y2 y3 ca3 c50 c51 c52 c53
    go_wp2
    go_ret
    exact ⟨ret_int WR.out, KK.out⟩)
set_option maxRecDepth 100000 in
set_option maxHeartbeats 6400000 in
theorem isTable_any {A A' V H : Option Addr} {lo hi a c0 lo' hi' n c lo2 hi2 m d q e : Nat} {ps vs ws : List Int} {l : List VV} {lv sm : Int} {w : World} (h : Ints w lo hi A a ps) (h' : Sch w A' q e l) (hV : Ints w lo' hi' V n vs) (hH : Ints w lo2 hi2 H m ws) (hg : geoB ps = true) (hs : schB l = true) :
    Calls Tryz.prog 62 #[.agg #[.slice A a c0], .slice A' q e, .agg #[.int .i64 lv, .slice V n c, .slice H m d, .int .i64 sm]] w fun e w' => e = .returned (.bool (tabB ps l (lv, vs, ws, sm))) ∧ Keeps w w' := by
  obtain ⟨lo9, hi9, hv⟩ := h'.v
  have hl := Vars.len hv
  have hq := hv.le
  have HLV := hid (schB_lv hl hs).1
  have HB := hid (show tabB ps l (lv, vs, ws, sm) = (vsB q vs && whB l ws && inB sm (-1) ((q : Int) - 1) && (decide (0 < tabN ps l (lv, vs, ws, sm)) && decide (tabN ps l (lv, vs, ws, sm) ≤ 600))) by rw [← hl]; rfl)
  have HLQ := hid hl
  have HG := hid hg
  have HS := hid hs
  clear hl hg hs
  go_enter Tryz.func62, Tryz.ntmps62
  have kw := keeps_refl w
  replace kw := Keeps.trans kw (keeps_alloc w (.cells #[.slice A a c0] 32))
  have b3 : B1 (w.alloc (.cells #[.slice A a c0] 32)) w.heap.size (.slice A a c0) := B1.new' (by simp)
  replace b3 := b3.keeps (keeps_alloc (w.alloc (.cells #[.slice A a c0] 32)) (.cells #[.int .i64 lv, .slice V n c, .slice H m d, .int .i64 sm] 61))
  replace kw := Keeps.trans kw (keeps_alloc (w.alloc (.cells #[.slice A a c0] 32)) (.cells #[.int .i64 lv, .slice V n c, .slice H m d, .int .i64 sm] 61))
  have b5 : Bl ((w.alloc (.cells #[.slice A a c0] 32)).alloc (.cells #[.int .i64 lv, .slice V n c, .slice H m d, .int .i64 sm] 61)) (w.heap.size + 1) [.int .i64 lv, .slice V n c, .slice H m d, .int .i64 sm] := Bl.new' (by simp) (by simp)
  obtain ⟨ca1, fa1⟩ := id b3
  have ca2_0 := (b5.2 0 _ rfl).1
  have ca2_1 := (b5.2 1 _ rfl).1
  have ca2_2 := (b5.2 2 _ rfl).1
  have ca2_3 := (b5.2 3 _ rfl).1
  go_wp2_with fail
  clear ca1 fa1 ca2_0 ca2_1 ca2_2 ca2_3
  obtain ⟨pH1, H1⟩ : ∃ pB, Hid (vsB q vs = pB) := ⟨_, rfl⟩
  refine (areVars_any (hV.keeps kw) hq).mono ?_
  rintro e w' ⟨rfl, rfl⟩
  rw [H1.out]
  cases pH1
  · obtain ⟨ca3, fa3⟩ := id b3
    have ca4_0 := (b5.2 0 _ rfl).1
    have ca4_1 := (b5.2 1 _ rfl).1
    have ca4_2 := (b5.2 2 _ rfl).1
    have ca4_3 := (b5.2 3 _ rfl).1
    go_wp2_with fail
    clear ca3 fa3 ca4_0 ca4_1 ca4_2 ca4_3
    go_ret
    exact ⟨ret_bool (by rw [HB.out, H1.out]; rfl), kw⟩
  · skip
    obtain ⟨ca3, fa3⟩ := id b3
    have ca4_0 := (b5.2 0 _ rfl).1
    have ca4_1 := (b5.2 1 _ rfl).1
    have ca4_2 := (b5.2 2 _ rfl).1
    have ca4_3 := (b5.2 3 _ rfl).1
    go_wp2_with fail
    clear ca3 fa3 ca4_0 ca4_1 ca4_2 ca4_3
    obtain ⟨pH2, H2⟩ : ∃ pB, Hid (whB l ws = pB) := ⟨_, rfl⟩
    refine (isWhere_any (hH.keeps kw) (h'.keeps kw) HLV.out).mono ?_
    rintro e w5 ⟨rfl, k5⟩
    rw [H2.out]
    replace b3 := b3.keeps k5
    replace b5 := b5.keeps k5
    replace kw := Keeps.trans kw k5
    have lt6 := b5.lt
    have sz7 := kw.size
    clear k5
    cases pH2
    · obtain ⟨ca8, fa8⟩ := id b3
      have ca9_0 := (b5.2 0 _ rfl).1
      have ca9_1 := (b5.2 1 _ rfl).1
      have ca9_2 := (b5.2 2 _ rfl).1
      have ca9_3 := (b5.2 3 _ rfl).1
      go_wp2_with fail
      clear ca8 fa8 ca9_0 ca9_1 ca9_2 ca9_3
      go_ret
      exact ⟨ret_bool (by rw [HB.out, H1.out, H2.out]; rfl), kw⟩
    · skip
      by_cases hx : sm < -1
      · have HX := hid (inB_not (a := sm) (lo := -1) (hi := (q : Int) - 1) (by omega))
        have ca8_0 := (b5.2 0 _ rfl).1
        have ca8_1 := (b5.2 1 _ rfl).1
        have ca8_2 := (b5.2 2 _ rfl).1
        have ca8_3 := (b5.2 3 _ rfl).1
        obtain ⟨ca9, fa9⟩ := id b3
        go_wp2_with fail
        clear ca8_0 ca8_1 ca8_2 ca8_3 ca9 fa9
        go_ret
        exact ⟨ret_bool (by rw [HB.out, H1.out, H2.out, HX.out]; rfl), kw⟩
      have hx1 := hx
      clear hx
      by_cases hx : (q : Int) ≤ sm
      · have HX := hid (inB_not (a := sm) (lo := -1) (hi := (q : Int) - 1) (by omega))
        have ca8_0 := (b5.2 0 _ rfl).1
        have ca8_1 := (b5.2 1 _ rfl).1
        have ca8_2 := (b5.2 2 _ rfl).1
        have ca8_3 := (b5.2 3 _ rfl).1
        obtain ⟨ca9, fa9⟩ := id b3
        go_wp2_with fail
        clear ca8_0 ca8_1 ca8_2 ca8_3 ca9 fa9
        go_ret
        exact ⟨ret_bool (by rw [HB.out, H1.out, H2.out, HX.out]; rfl), kw⟩
      have hx2 := hx
      clear hx
      have HX := hid (inB_true (a := sm) (lo := -1) (hi := (q : Int) - 1) |>.2 (by omega))
      have HBD := hid (tabN_bd (t := (lv, vs, ws, sm)) HG.out HS.out (by rw [HLQ.out]; exact H1.out))
      have ca8_0 := (b5.2 0 _ rfl).1
      have ca8_1 := (b5.2 1 _ rfl).1
      have ca8_2 := (b5.2 2 _ rfl).1
      have ca8_3 := (b5.2 3 _ rfl).1
      obtain ⟨ca9, fa9⟩ := id b3
      go_wp2_with fail
      clear ca8_0 ca8_1 ca8_2 ca8_3 ca9 fa9
      refine (cellCount_any (ws := ws) (h.keeps kw) (h'.keeps kw) (hV.keeps kw) HG.out HS.out H1.out).mono ?_
      rintro e w10 ⟨rfl, k10⟩
      replace b3 := b3.keeps k10
      replace b5 := b5.keeps k10
      replace kw := Keeps.trans kw k10
      have lt11 := b5.lt
      have sz12 := kw.size
      clear k10
      obtain ⟨N, hN⟩ : ∃ N, tabN ps l (lv, vs, ws, sm) = N := ⟨_, rfl⟩
      rw [hN] at HB HBD
      rw [hN]
      clear hN b3 b5
      have hbd := HBD.out
      by_cases h0 : 0 < N
      rotate_left
      · go_wp2_with fail
        go_ret
        exact ⟨ret_bool (by rw [HB.out, H1.out, H2.out, HX.out, decide_eq_false (show ¬ 0 < N by omega)]; rfl), kw⟩
      by_cases h6 : N ≤ 600
      · go_wp2_with fail
        go_ret
        exact ⟨ret_bool (by rw [HB.out, H1.out, H2.out, HX.out, decide_eq_true h0, decide_eq_true h6]; rfl), kw⟩
      · go_wp2_with fail
        go_ret
        exact ⟨ret_bool (by rw [HB.out, H1.out, H2.out, HX.out, decide_eq_true h0, decide_eq_false (show ¬ N ≤ 600 by omega)]; rfl), kw⟩
set_option maxRecDepth 100000 in
set_option maxHeartbeats 6400000 in
theorem uGood_any {A A' V H : Option Addr} {lo hi a c0 lo' hi' n c lo2 hi2 m d q e : Nat} {ps vs ws : List Int} {l : List VV} {lv sm : Int} {w : World} (h : Ints w lo hi A a ps) (h' : Sch w A' q e l) (hV : Ints w lo' hi' V n vs) (hH : Ints w lo2 hi2 H m ws) (hg : geoB ps = true) (hs : schB l = true) :
    Calls Tryz.prog 93 #[.agg #[.slice A a c0], .slice A' q e, .agg #[.int .i64 lv, .slice V n c, .slice H m d, .int .i64 sm]] w fun e w' => e = .returned (.bool (tabB ps l (lv, vs, ws, sm))) ∧ Keeps w w' := by
  obtain ⟨lo9, hi9, hv⟩ := h'.v
  have hl := Vars.len hv
  have hq := hv.le
  have HLV := hid (schB_lv hl hs).1
  have HB := hid (show tabB ps l (lv, vs, ws, sm) = (vsB q vs && whB l ws && inB sm (-1) ((q : Int) - 1) && (decide (0 < tabN ps l (lv, vs, ws, sm)) && decide (tabN ps l (lv, vs, ws, sm) ≤ 600))) by rw [← hl]; rfl)
  have HLQ := hid hl
  have HG := hid hg
  have HS := hid hs
  clear hl hg hs
  have HT := hid (tree_of HG.out)
  have hB5 : True := trivial
  go_enter Tryz.func93, Tryz.ntmps93
  have kw := keeps_refl w
  replace kw := Keeps.trans kw (keeps_alloc w (.cells #[.slice A a c0] 32))
  have b3 : B1 (w.alloc (.cells #[.slice A a c0] 32)) w.heap.size (.slice A a c0) := B1.new' (by simp)
  replace b3 := b3.keeps (keeps_alloc (w.alloc (.cells #[.slice A a c0] 32)) (.cells #[.int .i64 lv, .slice V n c, .slice H m d, .int .i64 sm] 61))
  replace kw := Keeps.trans kw (keeps_alloc (w.alloc (.cells #[.slice A a c0] 32)) (.cells #[.int .i64 lv, .slice V n c, .slice H m d, .int .i64 sm] 61))
  have b5 : Bl ((w.alloc (.cells #[.slice A a c0] 32)).alloc (.cells #[.int .i64 lv, .slice V n c, .slice H m d, .int .i64 sm] 61)) (w.heap.size + 1) [.int .i64 lv, .slice V n c, .slice H m d, .int .i64 sm] := Bl.new' (by simp) (by simp)
  obtain ⟨ca1, fa1⟩ := id b3
  have ca2_0 := (b5.2 0 _ rfl).1
  have ca2_1 := (b5.2 1 _ rfl).1
  have ca2_2 := (b5.2 2 _ rfl).1
  have ca2_3 := (b5.2 3 _ rfl).1
  go_wp2_with fail
  clear ca1 fa1 ca2_0 ca2_1 ca2_2 ca2_3
  refine (gGood_any (h.keeps kw)).mono ?_
  rintro e w3 ⟨rfl, k3⟩
  rw [HG.out]
  replace b3 := b3.keeps k3
  replace b5 := b5.keeps k3
  replace kw := Keeps.trans kw k3
  have lt4 := b5.lt
  have sz5 := kw.size
  clear k3
  obtain ⟨ca6, fa6⟩ := id b3
  have ca7_0 := (b5.2 0 _ rfl).1
  have ca7_1 := (b5.2 1 _ rfl).1
  have ca7_2 := (b5.2 2 _ rfl).1
  have ca7_3 := (b5.2 3 _ rfl).1
  go_wp2_with fail
  clear ca6 fa6 ca7_0 ca7_1 ca7_2 ca7_3
  refine (sGood_any (Sl.keeps hv kw) h'.ok h'.cap h'.c64).mono ?_
  rintro e w8 ⟨rfl, k8⟩
  rw [HS.out]
  replace b3 := b3.keeps k8
  replace b5 := b5.keeps k8
  replace kw := Keeps.trans kw k8
  have lt9 := b5.lt
  have sz10 := kw.size
  clear k8
  obtain ⟨ca11, fa11⟩ := id b3
  have ca12_0 := (b5.2 0 _ rfl).1
  have ca12_1 := (b5.2 1 _ rfl).1
  have ca12_2 := (b5.2 2 _ rfl).1
  have ca12_3 := (b5.2 3 _ rfl).1
  go_wp2_with fail
  clear ca11 fa11 ca12_0 ca12_1 ca12_2 ca12_3
  refine (gLevel_any (lv := lv) (h.keeps kw) HT.out).mono ?_
  rintro e w13 ⟨LA, LC, rfl, mL, k13⟩
  replace b3 := b3.keeps k13
  replace b5 := b5.keeps k13
  replace kw := Keeps.trans kw k13
  have lt14 := b5.lt
  have sz15 := kw.size
  clear k13
  clear mL
  obtain ⟨L, hL⟩ : ∃ L, (lev ps lv).length = L := ⟨_, rfl⟩
  rw [hL]
  have HLL := hid hL
  clear hL
  by_cases hL0 : L = 0
  · subst hL0
    have HZ := hid (tabN_zero (l := l) (t := (lv, vs, ws, sm)) HLL.out)
    have HF := hid (show tabB ps l (lv, vs, ws, sm) = false by rw [HB.out, HZ.out]; simp)
    obtain ⟨ca16, fa16⟩ := id b3
    have ca17_0 := (b5.2 0 _ rfl).1
    have ca17_1 := (b5.2 1 _ rfl).1
    have ca17_2 := (b5.2 2 _ rfl).1
    have ca17_3 := (b5.2 3 _ rfl).1
    go_wp2_with fail
    clear ca16 fa16 ca17_0 ca17_1 ca17_2 ca17_3
    go_ret
    exact ⟨ret_bool HF.out.symm, kw⟩
  have t1 : ((L : Int) == 0) = false := by rw [beq_eq_false_iff_ne]; omega
  have HL0 := hid hL0
  clear hL0
  obtain ⟨ca16, fa16⟩ := id b3
  have ca17_0 := (b5.2 0 _ rfl).1
  have ca17_1 := (b5.2 1 _ rfl).1
  have ca17_2 := (b5.2 2 _ rfl).1
  have ca17_3 := (b5.2 3 _ rfl).1
  go_wp2_with fail
  clear ca16 fa16 ca17_0 ca17_1 ca17_2 ca17_3
  obtain ⟨pH1, H1⟩ : ∃ pB, Hid (vsB q vs = pB) := ⟨_, rfl⟩
  refine (l1Rising_any (hV.keeps kw) hq).mono ?_
  rintro e w' ⟨rfl, rfl⟩
  rw [H1.out]
  cases pH1
  · obtain ⟨ca18, fa18⟩ := id b3
    have ca19_0 := (b5.2 0 _ rfl).1
    have ca19_1 := (b5.2 1 _ rfl).1
    have ca19_2 := (b5.2 2 _ rfl).1
    have ca19_3 := (b5.2 3 _ rfl).1
    go_wp2_with fail
    clear ca18 fa18 ca19_0 ca19_1 ca19_2 ca19_3
    go_ret
    exact ⟨ret_bool (by rw [HB.out, H1.out]; rfl), kw⟩
  · skip
    obtain ⟨ca18, fa18⟩ := id b3
    have ca19_0 := (b5.2 0 _ rfl).1
    have ca19_1 := (b5.2 1 _ rfl).1
    have ca19_2 := (b5.2 2 _ rfl).1
    have ca19_3 := (b5.2 3 _ rfl).1
    go_wp2_with fail
    clear ca18 fa18 ca19_0 ca19_1 ca19_2 ca19_3
    obtain ⟨pH2, H2⟩ : ∃ pB, Hid (whB l ws = pB) := ⟨_, rfl⟩
    refine (uWhere_any (hH.keeps kw) (h'.keeps kw) HLV.out).mono ?_
    rintro e w20 ⟨rfl, k20⟩
    rw [H2.out]
    replace b3 := b3.keeps k20
    replace b5 := b5.keeps k20
    replace kw := Keeps.trans kw k20
    have lt21 := b5.lt
    have sz22 := kw.size
    clear k20
    cases pH2
    · obtain ⟨ca23, fa23⟩ := id b3
      have ca24_0 := (b5.2 0 _ rfl).1
      have ca24_1 := (b5.2 1 _ rfl).1
      have ca24_2 := (b5.2 2 _ rfl).1
      have ca24_3 := (b5.2 3 _ rfl).1
      go_wp2_with fail
      clear ca23 fa23 ca24_0 ca24_1 ca24_2 ca24_3
      go_ret
      exact ⟨ret_bool (by rw [HB.out, H1.out, H2.out]; rfl), kw⟩
    · skip
      obtain ⟨ca23, fa23⟩ := id b3
      have ca24_0 := (b5.2 0 _ rfl).1
      have ca24_1 := (b5.2 1 _ rfl).1
      have ca24_2 := (b5.2 2 _ rfl).1
      have ca24_3 := (b5.2 3 _ rfl).1
      go_wp2_with fail
      clear ca23 fa23 ca24_0 ca24_1 ca24_2 ca24_3
      obtain ⟨pH3, H3⟩ : ∃ pB, Hid (inB sm (-1) ((q : Int) - 1) = pB) := ⟨_, rfl⟩
      refine (l1In_any _ _ _ _).mono ?_
      rintro e w' ⟨rfl, rfl⟩
      rw [H3.out]
      cases pH3
      · obtain ⟨ca25, fa25⟩ := id b3
        have ca26_0 := (b5.2 0 _ rfl).1
        have ca26_1 := (b5.2 1 _ rfl).1
        have ca26_2 := (b5.2 2 _ rfl).1
        have ca26_3 := (b5.2 3 _ rfl).1
        go_wp2_with fail
        clear ca25 fa25 ca26_0 ca26_1 ca26_2 ca26_3
        go_ret
        exact ⟨ret_bool (by rw [HB.out, H1.out, H2.out, H3.out]; rfl), kw⟩
      · skip
        obtain ⟨ca25, fa25⟩ := id b3
        have ca26_0 := (b5.2 0 _ rfl).1
        have ca26_1 := (b5.2 1 _ rfl).1
        have ca26_2 := (b5.2 2 _ rfl).1
        have ca26_3 := (b5.2 3 _ rfl).1
        go_wp2_with fail
        clear ca25 fa25 ca26_0 ca26_1 ca26_2 ca26_3
        have HPO := hid (tabN_pos (ps := ps) (t := (lv, vs, ws, sm)) HS.out (by rw [HLQ.out]; exact H1.out) (by rw [HLL.out]; exact HL0.out))
        have HBD := hid (tabN_bd (t := (lv, vs, ws, sm)) HG.out HS.out (by rw [HLQ.out]; exact H1.out))
        refine (uCount_any (ws := ws) (h.keeps kw) (h'.keeps kw) (hV.keeps kw) HG.out HS.out H1.out).mono ?_
        rintro e w27 ⟨rfl, k27⟩
        replace b3 := b3.keeps k27
        replace b5 := b5.keeps k27
        replace kw := Keeps.trans kw k27
        have lt28 := b5.lt
        have sz29 := kw.size
        clear k27
        obtain ⟨N, hN⟩ : ∃ N, tabN ps l (lv, vs, ws, sm) = N := ⟨_, rfl⟩
        rw [hN] at HB HBD HPO
        rw [hN]
        clear hN b3 b5
        have hbd := HBD.out
        have hpo := HPO.out
        by_cases h6 : N ≤ 600
        · go_wp2_with fail
          go_ret
          exact ⟨ret_bool (by rw [HB.out, H1.out, H2.out, H3.out, decide_eq_true HPO.out, decide_eq_true h6]; rfl), kw⟩
        · go_wp2_with fail
          go_ret
          exact ⟨ret_bool (by rw [HB.out, H1.out, H2.out, H3.out, decide_eq_true HPO.out, decide_eq_false (show ¬ N ≤ 600 by omega)]; rfl), kw⟩
set_option maxRecDepth 100000 in
set_option maxHeartbeats 1600000 in
theorem nInput_any {A A' : Option Addr} {lo hi a c0 q e : Nat} {ps : List Int} {l : List VV} {w : World} (h : Ints w lo hi A a ps) (h' : Sch w A' q e l) :
    Calls Tryz.prog 53 #[.agg #[.slice A a c0], .slice A' q e] w fun e w' => e = .returned (.bool (geoB ps && schB l)) ∧ Keeps w w' := by
  obtain ⟨lo9, hi9, hv⟩ := h'.v
  obtain ⟨X, hX⟩ : ∃ X, (geoB ps && schB l) = X := ⟨_, rfl⟩
  rw [hX]
  have HB := hid hX
  clear hX
  go_enter Tryz.func53, Tryz.ntmps53
  have kw := keeps_refl w
  replace kw := Keeps.trans kw (keeps_alloc w (.cells #[.slice A a c0] 32))
  have b2 : B1 (w.alloc (.cells #[.slice A a c0] 32)) w.heap.size (.slice A a c0) := B1.new' (by simp)
  obtain ⟨ca1, fa1⟩ := id b2
  go_wp2_with fail
  clear ca1 fa1
  obtain ⟨pH1, H1⟩ : ∃ pB, Hid (geoB ps = pB) := ⟨_, rfl⟩
  refine (gGood_any (h.keeps kw)).mono ?_
  rintro e w2 ⟨rfl, k2⟩
  rw [H1.out]
  replace b2 := b2.keeps k2
  replace kw := Keeps.trans kw k2
  have lt3 := b2.lt
  have sz4 := kw.size
  clear k2
  cases pH1
  · go_wp2_with fail
    go_ret
    exact ⟨ret_bool (by rw [← HB.out, H1.out]; rfl), kw⟩
  · skip
    go_wp2_with fail
    obtain ⟨p2, H2⟩ : ∃ pB, Hid (schB l = pB) := ⟨_, rfl⟩
    refine (sGood_any (Sl.keeps hv kw) h'.ok h'.cap h'.c64).mono ?_
    rintro e w5 ⟨rfl, k5⟩
    rw [H2.out]
    replace b2 := b2.keeps k5
    replace kw := Keeps.trans kw k5
    have lt6 := b2.lt
    have sz7 := kw.size
    clear k5
    go_wp2_with fail
    go_ret
    exact ⟨ret_bool (by rw [← HB.out, H1.out, H2.out]; rfl), kw⟩
set_option maxRecDepth 100000 in
set_option maxHeartbeats 6400000 in
theorem isPlan_any {A A' Q : Option Addr} {lo hi a c0 lo3 hi3 n c q e : Nat} {un : Bool} {ps : List Int} {l : List VV} {ts : List TT} {w : World} (h : Ints w lo hi A a ps) (h' : Sch w A' q e l) (ht : Tabs true un w lo3 hi3 Q n ts) (hg : geoB ps = true) (hs : schB l = true) :
    Calls Tryz.prog 58 #[.agg #[.slice A a c0], .slice A' q e, .slice Q n c] w fun e w' => e = .returned (.bool (plB ps l ts)) ∧ Keeps w w' := by
  obtain ⟨lo9, hi9, hv⟩ := h'.v
  have HG := hid hg
  have HS := hid hs
  have HTL := hid ht.len
  have hn := ht.le
  clear hg hs
  go_enter Tryz.func58, Tryz.ntmps58
  have kw := keeps_refl w
  replace kw := Keeps.trans kw (keeps_alloc w (.cells #[.slice A a c0] 32))
  have b3 : B1 (w.alloc (.cells #[.slice A a c0] 32)) w.heap.size (.slice A a c0) := B1.new' (by simp)
  obtain ⟨ca1, fa1⟩ := id b3
  go_wp2_with fail
  clear ca1 fa1
  refine (IsGeo_any (h.keeps kw)).mono ?_
  rintro e w2 ⟨rfl, k2⟩
  rw [HG.out]
  replace b3 := b3.keeps k2
  replace kw := Keeps.trans kw k2
  have lt3 := b3.lt
  have sz4 := kw.size
  clear k2
  obtain ⟨ca5, fa5⟩ := id b3
  go_wp2_with fail
  clear ca5 fa5
  refine (IsSchema_any (Sl.keeps hv kw) h'.ok h'.cap h'.c64).mono ?_
  rintro e w6 ⟨rfl, k6⟩
  rw [HS.out]
  replace b3 := b3.keeps k6
  replace kw := Keeps.trans kw k6
  have lt7 := b3.lt
  have sz8 := kw.size
  clear k6
  by_cases h20 : n ≤ 20
  rotate_left
  · have HX := hid (plB_len (ps := ps) (l := l) (ts := ts) (by rw [HTL.out]; exact h20))
    obtain ⟨ca9, fa9⟩ := id b3
    go_wp2_with fail
    clear ca9 fa9
    go_ret
    exact ⟨ret_bool HX.out.symm, kw⟩
  obtain ⟨ca9, fa9⟩ := id b3
  go_wp2_with fail
  clear ca9 fa9
  go_loopw [24] (fun i wr => ∃ k : Nat, k ≤ n ∧ i = .int .i64 k ∧ Hid (plTo ps l ts k = true) ∧ B1 wr w.heap.size (.slice A a c0) ∧ Keeps w wr) (fun i _ => n - (intOf i).toNat)
  case atStart => exact ⟨0, Nat.zero_le _, rfl, hid rfl, b3, kw⟩
  clear b3 kw
  case round =>
    obtain ⟨k, hk, rfl, HT, b3, kw⟩ := hrel
    by_cases hlt : k < n
    · obtain ⟨b, off, lv, V, nv, cv, H, nh, ch, sm, vs, ws, rfl, _, _, hc0, hc1, hc2, hc3, hvv, hhh, hx⟩ := (ht.keeps kw).at_ hlt
      have hi1 : (k : Int) < (n : Int) := by omega
      obtain ⟨p, HP⟩ : ∃ p, Hid (tabB ps l (lv, vs, ws, sm) = p) := ⟨_, rfl⟩
      have HP2 := hid (show tabB ps l (ts.getD k t0) = p by rw [← hx.out]; exact HP.out)
      clear hx
      have lt3 := b3.lt
      replace b3 := b3.keeps (keeps_alloc wr (.cells #[.int .i64 lv, .slice V nv cv, .slice H nh ch, .int .i64 sm] 61))
      replace hvv := hvv.keeps (keeps_alloc wr (.cells #[.int .i64 lv, .slice V nv cv, .slice H nh ch, .int .i64 sm] 61))
      replace hhh := hhh.keeps (keeps_alloc wr (.cells #[.int .i64 lv, .slice V nv cv, .slice H nh ch, .int .i64 sm] 61))
      replace kw := Keeps.trans kw (keeps_alloc wr (.cells #[.int .i64 lv, .slice V nv cv, .slice H nh ch, .int .i64 sm] 61))
      have b8 : Bl (wr.alloc (.cells #[.int .i64 lv, .slice V nv cv, .slice H nh ch, .int .i64 sm] 61)) wr.heap.size [.int .i64 lv, .slice V nv cv, .slice H nh ch, .int .i64 sm] := Bl.new' (by simp) (by simp)
      obtain ⟨ca10, fa10⟩ := id b3
      have ca11_0 := (b8.2 0 _ rfl).1
      have ca11_1 := (b8.2 1 _ rfl).1
      have ca11_2 := (b8.2 2 _ rfl).1
      have ca11_3 := (b8.2 3 _ rfl).1
      go_wp2_with fail
      clear ca10 fa10 ca11_0 ca11_1 ca11_2 ca11_3
      refine (isTable_any (h.keeps kw) (h'.keeps kw) hvv hhh HG.out HS.out).mono ?_
      rintro e w12 ⟨rfl, k12⟩
      rw [HP.out]
      replace b3 := b3.keeps k12
      replace b8 := b8.keeps k12
      replace hvv := hvv.keeps k12
      replace hhh := hhh.keeps k12
      replace kw := Keeps.trans kw k12
      have lt13 := b8.lt
      have sz14 := kw.size
      clear k12
      clear hc0 hc1 hc2 hc3 b8
      cases p
      · have HX := hid (plB_no HTL.out hlt HP2.out)
        obtain ⟨ca15, fa15⟩ := id b3
        go_wp2_with fail
        clear ca15 fa15
        go_ret
        exact ⟨ret_bool HX.out.symm, kw⟩
      have HN := hid (show plTo ps l ts (k + 1) = true by unfold plTo; rw [HT.out, HP2.out]; rfl)
      obtain ⟨ca15, fa15⟩ := id b3
      go_wp2_with fail
      clear ca15 fa15
      go_roundw
      case rel => exact ⟨k + 1, by omega, by go_num, HN, b3, kw⟩
      case measure => simp [intOf]; omega
    · obtain rfl : k = n := by omega
      have HX := hid (plB_yes HTL.out h20 HT.out)
      go_wp2
      go_ret
      exact ⟨ret_bool HX.out.symm, kw⟩
set_option maxRecDepth 100000 in
set_option maxHeartbeats 6400000 in
theorem nPlan_any {A A' Q : Option Addr} {lo hi a c0 lo3 hi3 n c q e : Nat} {un : Bool} {ps : List Int} {l : List VV} {ts : List TT} {w : World} (h : Ints w lo hi A a ps) (h' : Sch w A' q e l) (ht : Tabs true un w lo3 hi3 Q n ts) (hg : geoB ps = true) (hs : schB l = true) :
    Calls Tryz.prog 60 #[.agg #[.slice A a c0], .slice A' q e, .slice Q n c] w fun e w' => e = .returned (.bool (plB ps l ts)) ∧ Keeps w w' := by
  obtain ⟨lo9, hi9, hv⟩ := h'.v
  have HG := hid hg
  have HS := hid hs
  have HTL := hid ht.len
  have hn := ht.le
  clear hg hs
  have HGS := hid (show (geoB ps && schB l) = true by rw [HG.out, HS.out]; rfl)
  go_enter Tryz.func60, Tryz.ntmps60
  have kw := keeps_refl w
  replace kw := Keeps.trans kw (keeps_alloc w (.cells #[.slice A a c0] 32))
  have b3 : B1 (w.alloc (.cells #[.slice A a c0] 32)) w.heap.size (.slice A a c0) := B1.new' (by simp)
  obtain ⟨ca1, fa1⟩ := id b3
  go_wp2_with fail
  clear ca1 fa1
  refine (nInput_any (h.keeps kw) (h'.keeps kw)).mono ?_
  rintro e w2 ⟨rfl, k2⟩
  rw [HGS.out]
  replace b3 := b3.keeps k2
  replace kw := Keeps.trans kw k2
  have lt3 := b3.lt
  have sz4 := kw.size
  clear k2
  by_cases h20 : n ≤ 20
  rotate_left
  · have HX := hid (plB_len (ps := ps) (l := l) (ts := ts) (by rw [HTL.out]; exact h20))
    obtain ⟨ca5, fa5⟩ := id b3
    go_wp2_with fail
    clear ca5 fa5
    go_ret
    exact ⟨ret_bool HX.out.symm, kw⟩
  obtain ⟨ca5, fa5⟩ := id b3
  go_wp2_with fail
  clear ca5 fa5
  go_loopw [20] (fun i wr => ∃ k : Nat, k ≤ n ∧ i = .int .i64 k ∧ Hid (plTo ps l ts k = true) ∧ B1 wr w.heap.size (.slice A a c0) ∧ Keeps w wr) (fun i _ => n - (intOf i).toNat)
  case atStart => exact ⟨0, Nat.zero_le _, rfl, hid rfl, b3, kw⟩
  clear b3 kw
  case round =>
    obtain ⟨k, hk, rfl, HT, b3, kw⟩ := hrel
    by_cases hlt : k < n
    · obtain ⟨b, off, lv, V, nv, cv, H, nh, ch, sm, vs, ws, rfl, _, _, hc0, hc1, hc2, hc3, hvv, hhh, hx⟩ := (ht.keeps kw).at_ hlt
      have hi1 : (k : Int) < (n : Int) := by omega
      obtain ⟨p, HP⟩ : ∃ p, Hid (tabB ps l (lv, vs, ws, sm) = p) := ⟨_, rfl⟩
      have HP2 := hid (show tabB ps l (ts.getD k t0) = p by rw [← hx.out]; exact HP.out)
      clear hx
      have lt3 := b3.lt
      replace b3 := b3.keeps (keeps_alloc wr (.cells #[.int .i64 lv, .slice V nv cv, .slice H nh ch, .int .i64 sm] 61))
      replace hvv := hvv.keeps (keeps_alloc wr (.cells #[.int .i64 lv, .slice V nv cv, .slice H nh ch, .int .i64 sm] 61))
      replace hhh := hhh.keeps (keeps_alloc wr (.cells #[.int .i64 lv, .slice V nv cv, .slice H nh ch, .int .i64 sm] 61))
      replace kw := Keeps.trans kw (keeps_alloc wr (.cells #[.int .i64 lv, .slice V nv cv, .slice H nh ch, .int .i64 sm] 61))
      have b8 : Bl (wr.alloc (.cells #[.int .i64 lv, .slice V nv cv, .slice H nh ch, .int .i64 sm] 61)) wr.heap.size [.int .i64 lv, .slice V nv cv, .slice H nh ch, .int .i64 sm] := Bl.new' (by simp) (by simp)
      obtain ⟨ca6, fa6⟩ := id b3
      have ca7_0 := (b8.2 0 _ rfl).1
      have ca7_1 := (b8.2 1 _ rfl).1
      have ca7_2 := (b8.2 2 _ rfl).1
      have ca7_3 := (b8.2 3 _ rfl).1
      go_wp2_with fail
      clear ca6 fa6 ca7_0 ca7_1 ca7_2 ca7_3
      refine (uGood_any (h.keeps kw) (h'.keeps kw) hvv hhh HG.out HS.out).mono ?_
      rintro e w8 ⟨rfl, k8⟩
      rw [HP.out]
      replace b3 := b3.keeps k8
      replace b8 := b8.keeps k8
      replace hvv := hvv.keeps k8
      replace hhh := hhh.keeps k8
      replace kw := Keeps.trans kw k8
      have lt9 := b8.lt
      have sz10 := kw.size
      clear k8
      clear hc0 hc1 hc2 hc3 b8
      cases p
      · have HX := hid (plB_no HTL.out hlt HP2.out)
        obtain ⟨ca11, fa11⟩ := id b3
        go_wp2_with fail
        clear ca11 fa11
        go_ret
        exact ⟨ret_bool HX.out.symm, kw⟩
      have HN := hid (show plTo ps l ts (k + 1) = true by unfold plTo; rw [HT.out, HP2.out]; rfl)
      obtain ⟨ca11, fa11⟩ := id b3
      go_wp2_with fail
      clear ca11 fa11
      go_roundw
      case rel => exact ⟨k + 1, by omega, by go_num, HN, b3, kw⟩
      case measure => simp [intOf]; omega
    · obtain rfl : k = n := by omega
      have HX := hid (plB_yes HTL.out h20 HT.out)
      go_wp2
      go_ret
      exact ⟨ret_bool HX.out.symm, kw⟩
end Go.Proofs.YtlkjhkkfdmjfcaaGreatDoor
namespace Go.Proofs.YtlkjhkkfdmjfcaaGreatDoor
open Go.RowKit
set_option linter.unusedVariables false
set_option linter.unusedSimpArgs false
/-- A copy of a slice of ints. -/
def CpRes (w : World) (xs : List Int) (n : Nat) (e : Ending) (w' : World) : Prop := ∃ A1 C1, e = .returned (.slice A1 n C1) ∧ Mine w' w.heap.size w'.heap.size A1 n xs ∧ Keeps w w'
set_option maxRecDepth 100000 in
set_option maxHeartbeats 1600000 in
theorem l1Own_cp {A : Option Addr} {lo hi n c : Nat} {xs : List Int} {w : World} (h : Ints w lo hi A n xs) :
    Calls Tryz.prog 128 #[.slice A n c] w (CpRes w xs n) := by
  cases A with
  | some p => exact (l1Own_copy h (fun e => by cases e)).mono fun e w' ⟨A1, C1, h1, h2, _, h3⟩ => ⟨A1, C1, h1, h2, h3⟩
  | none =>
    have hl := h.1
    have hq : ∀ w' : World, (binOp .eql 22 (.slice none n c) (.slice none 0 0)).run Tryz.prog w' = .ok (.bool true) w' := fun w' => by
      have := Lib.run_eql_slice_nil (P := Tryz.prog) w' 22 3 none n c 0 0 Tryz.underlying22
      exact this
    obtain rfl : n = 0 := by
      rcases Nat.eq_zero_or_pos n with h0 | h0
      · exact h0
      · obtain ⟨b, off, e, _⟩ := h.2.2.2 h0
        cases e
    obtain rfl : xs = [] := by simpa using hl
    obtain ⟨i, hi, hz0, hz1, hz2⟩ := info_parts info_int
    have hm := World.ownsRow_made (e := 3) (size := 1) w #[] 0 (Nat.le_refl _) (Nat.zero_le _) rfl
    go_enter Tryz.func128, Tryz.ntmps128
    go_wp2_with (at_builtin; refine wpList_append_own_noneC _ rfl _ _ 22 rfl w.heap.size 3 i 1 Tryz.underlying22 hi _ 0 [] rfl hm rfl ?_)
    go_ret
    first
    | exact ⟨_, _, rfl, Mine.of_own hm (by omega), keeps_alloc _ _⟩
    | exact ⟨_, _, rfl, Mine.nil_ _ _, keeps_refl _⟩
set_option maxRecDepth 100000 in
set_option maxHeartbeats 1600000 in
theorem cloneI_cp {A : Option Addr} {lo hi n c : Nat} {xs : List Int} {w : World} (h : Ints w lo hi A n xs) :
    Calls Tryz.prog 175 #[.slice A n c] w (CpRes w xs n) := by
  cases A with
  | some p => exact (cloneI_copy h (fun e => by cases e)).mono fun e w' ⟨A1, C1, h1, h2, _, h3⟩ => ⟨A1, C1, h1, h2, h3⟩
  | none =>
    have hl := h.1
    have hq : ∀ w' : World, (binOp .eql 22 (.slice none n c) (.slice none 0 0)).run Tryz.prog w' = .ok (.bool true) w' := fun w' => by
      have := Lib.run_eql_slice_nil (P := Tryz.prog) w' 22 3 none n c 0 0 Tryz.underlying22
      exact this
    obtain rfl : n = 0 := by
      rcases Nat.eq_zero_or_pos n with h0 | h0
      · exact h0
      · obtain ⟨b, off, e, _⟩ := h.2.2.2 h0
        cases e
    obtain rfl : xs = [] := by simpa using hl
    obtain ⟨i, hi, hz0, hz1, hz2⟩ := info_parts info_int
    have hm := World.ownsRow_made (e := 3) (size := 1) w #[] 0 (Nat.le_refl _) (Nat.zero_le _) rfl
    go_enter Tryz.func175, Tryz.ntmps175
    go_wp2_with (at_builtin; refine wpList_append_own_noneC _ rfl _ _ 22 rfl w.heap.size 3 i 1 Tryz.underlying22 hi _ 0 [] rfl hm rfl ?_)
    go_ret
    first
    | exact ⟨_, _, rfl, Mine.of_own hm (by omega), keeps_alloc _ _⟩
    | exact ⟨_, _, rfl, Mine.nil_ _ _, keeps_refl _⟩
/-- Two slices of ints of one's own, apart from each other. -/
structure TwM (w : World) (lo hi : Nat) (A1 : Option Addr) (n1 : Nat) (xs : List Int) (A2 : Option Addr) (n2 : Nat) (ys : List Int) : Prop where
  top : hi ≤ w.heap.size
  ex : ∃ l1 h1 l2 h2, lo ≤ l1 ∧ h1 ≤ hi ∧ lo ≤ l2 ∧ h2 ≤ hi ∧ (h1 ≤ l2 ∨ h2 ≤ l1) ∧ Mine w l1 h1 A1 n1 xs ∧ Mine w l2 h2 A2 n2 ys
section
variable {w w' : World} {lo hi l h' n1 n2 n3 : Nat} {A1 A2 A3 : Option Addr} {xs ys zs : List Int}
theorem TwM.fr (h : TwM w lo hi A1 n1 xs A2 n2 ys) (f : Fr l h' w w') (ho : h' ≤ lo ∨ hi ≤ l ∨ h' ≤ l) : TwM w' lo hi A1 n1 xs A2 n2 ys := by
  obtain ⟨ht, l1, h1, l2, h2, q1, q2, q3, q4, d1, m1, m2⟩ := h
  exact ⟨Nat.le_trans ht f.size, l1, h1, l2, h2, q1, q2, q3, q4, d1, m1.fr f (by omega), m2.fr f (by omega)⟩
theorem TwM.keeps (h : TwM w lo hi A1 n1 xs A2 n2 ys) (k : Keeps w w') : TwM w' lo hi A1 n1 xs A2 n2 ys := h.fr (Fr.of_keeps k 0 0) (by omega)
theorem TwM.widen {lo' hi' : Nat} (h : TwM w lo hi A1 n1 xs A2 n2 ys) (h1 : lo' ≤ lo) (h2 : hi ≤ hi') (h3 : hi' ≤ w.heap.size) : TwM w lo' hi' A1 n1 xs A2 n2 ys := by
  obtain ⟨ht, a1, b1, a2, b2, q1, q2, q3, q4, d1, m1, m2⟩ := h
  exact ⟨h3, a1, b1, a2, b2, by omega, by omega, by omega, by omega, d1, m1, m2⟩
theorem TwM.a (h : TwM w lo hi A1 n1 xs A2 n2 ys) : Ints w lo hi A1 n1 xs := by
  obtain ⟨ht, a1, b1, a2, b2, q1, q2, q3, q4, d1, m1, m2⟩ := h
  exact m1.1.widen q1 q2 ht
theorem TwM.b (h : TwM w lo hi A1 n1 xs A2 n2 ys) : Ints w lo hi A2 n2 ys := by
  obtain ⟨ht, a1, b1, a2, b2, q1, q2, q3, q4, d1, m1, m2⟩ := h
  exact m2.1.widen q3 q4 ht
theorem TwM.of_two {wA w' : World} {B lo1 n1 n2 : Nat} {A1 A2 : Option Addr} {xs ys : List Int} (m1 : Mine wA lo1 wA.heap.size A1 n1 xs) (k : Keeps wA w') (m2 : Mine w' wA.heap.size w'.heap.size A2 n2 ys) (h : B ≤ lo1) (h2 : lo1 ≤ wA.heap.size) : TwM w' B w'.heap.size A1 n1 xs A2 n2 ys :=
  ⟨Nat.le_refl _, lo1, wA.heap.size, wA.heap.size, w'.heap.size, h, k.size, by omega, Nat.le_refl _, .inl (Nat.le_refl _), m1.keeps k, m2⟩
end
/-- A table of one's own. -/
def TwRes (w : World) (lv sm : Int) (n1 : Nat) (xs : List Int) (n2 : Nat) (ys : List Int) (e : Ending) (w' : World) : Prop :=
  ∃ A1 c1 A2 c2, e = .returned (.agg #[.int .i64 lv, .slice A1 n1 c1, .slice A2 n2 c2, .int .i64 sm]) ∧ TwM w' w.heap.size w'.heap.size A1 n1 xs A2 n2 ys ∧ Keeps w w'
theorem step_cpc {W : World} {ops : Array Oper} {o : Oper} {a : Act} {K : Act → World → Prop} {Q : Exit → Act → World → Prop} {E : Prop} {lo hi n c : Nat} {A : Option Addr} {xs : List Int}
    (hx : Ints W lo hi A n xs) (hgd : o.guard = none)
    (hrun : (execOp a.eval o).run Tryz.prog W = .ok (.enter 175 #[.slice A n c]) W)
    (h : ∀ A1 C1 w', Mine w' W.heap.size w'.heap.size A1 n xs → Keeps W w' → K (a.put o.dst (.slice A1 n C1)) w') :
    if Region.wanted o (yielded ops a.tmps) = true then Oper.wp Tryz.prog o a W K Q else E := by
  have hw : Region.wanted o (yielded ops a.tmps) = true := by simp [Region.wanted, hgd]
  rw [if_pos hw]
  unfold Oper.wp
  rw [hrun, Oper.upon_enter]
  refine (cloneI_cp hx).mono fun e w' hh => ?_
  obtain ⟨A1, C1, rfl, h1, h3⟩ := hh
  exact h A1 C1 w' h1 h3
set_option maxRecDepth 100000 in
set_option maxHeartbeats 6400000 in
theorem copyTable_tw {A1 A2 : Option Addr} {n1 n2 c1 c2 l1 u1 l2 u2 : Nat} {lv sm : Int} {xs ys : List Int} {w : World} (h1 : Ints w l1 u1 A1 n1 xs) (h2 : Ints w l2 u2 A2 n2 ys) :
    Calls Tryz.prog 157 #[.agg #[.int .i64 lv, .slice A1 n1 c1, .slice A2 n2 c2, .int .i64 sm]] w (TwRes w lv sm n1 xs n2 ys) := by
  go_enter Tryz.func157, Tryz.ntmps157
  have kw := keeps_refl w
  replace kw := Keeps.trans kw (keeps_alloc w (.cells #[.int .i64 lv, .slice A1 n1 c1, .slice A2 n2 c2, .int .i64 sm] 61))
  have b1 : Bl (w.alloc (.cells #[.int .i64 lv, .slice A1 n1 c1, .slice A2 n2 c2, .int .i64 sm] 61)) w.heap.size [.int .i64 lv, .slice A1 n1 c1, .slice A2 n2 c2, .int .i64 sm] := Bl.new' (by simp) (by simp)
  replace b1 := b1.keeps (keeps_alloc (w.alloc (.cells #[.int .i64 lv, .slice A1 n1 c1, .slice A2 n2 c2, .int .i64 sm] 61)) (.cells #[.int .i64 0, .slice none 0 0, .slice none 0 0, .int .i64 0] 61))
  replace kw := Keeps.trans kw (keeps_alloc (w.alloc (.cells #[.int .i64 lv, .slice A1 n1 c1, .slice A2 n2 c2, .int .i64 sm] 61)) (.cells #[.int .i64 0, .slice none 0 0, .slice none 0 0, .int .i64 0] 61))
  have b2 : Bl ((w.alloc (.cells #[.int .i64 lv, .slice A1 n1 c1, .slice A2 n2 c2, .int .i64 sm] 61)).alloc (.cells #[.int .i64 0, .slice none 0 0, .slice none 0 0, .int .i64 0] 61)) (w.heap.size + 1) [.int .i64 0, .slice none 0 0, .slice none 0 0, .int .i64 0] := Bl.new' (by simp) (by simp)
  go_wp2_with fail
  obtain ⟨W, hX⟩ : ∃ u : World, u = ((w.alloc (.cells #[.int .i64 lv, .slice A1 n1 c1, .slice A2 n2 c2, .int .i64 sm] 61)).alloc (.cells #[.int .i64 0, .slice none 0 0, .slice none 0 0, .int .i64 0] 61)) := ⟨_, rfl⟩
  have szX0 := hid (show W.heap.size = w.heap.size + 1 + 1 by rw [hX]; simp)
  rw [← hX] at b1
  rw [← hX] at b2
  rw [← hX] at kw
  rw [← hX]
  clear hX
  have sz2 := kw.size
  have hxD := h1.keeps (kw.trans (keeps_d0 W))
  have hyD := h2.keeps (kw.trans (keeps_d0 W))
  have b1D := b1.keeps (keeps_d0 W)
  have b2D := b2.keeps (keeps_d0 W)
  have sW : w.heap.size + 2 ≤ W.drew.heap.size := by show _ ≤ W.heap.size; rw [szX0.out]; omega
  have kwD := kw.trans (keeps_d0 W)
  have z0D : W.drew.cell? ⟨w.heap.size, 0, none⟩ = some (.int .i64 lv) := (b1D.2 0 _ rfl).1
  have y0D : W.drew.frozen? ⟨w.heap.size, 0, none⟩ = false := (b1D.2 0 _ rfl).2
  have z1D : W.drew.cell? ⟨w.heap.size, 1, none⟩ = some (.slice A1 n1 c1) := (b1D.2 1 _ rfl).1
  have y1D : W.drew.frozen? ⟨w.heap.size, 1, none⟩ = false := (b1D.2 1 _ rfl).2
  have z2D : W.drew.cell? ⟨w.heap.size, 2, none⟩ = some (.slice A2 n2 c2) := (b1D.2 2 _ rfl).1
  have y2D : W.drew.frozen? ⟨w.heap.size, 2, none⟩ = false := (b1D.2 2 _ rfl).2
  have z3D : W.drew.cell? ⟨w.heap.size, 3, none⟩ = some (.int .i64 sm) := (b1D.2 3 _ rfl).1
  have y3D : W.drew.frozen? ⟨w.heap.size, 3, none⟩ = false := (b1D.2 3 _ rfl).2
  go_region_law ((first | (refine step_cpc (c := c2) hyA rfl (by kernel_rfl) ?_; intro B2_ C2_ wZ m2 kZ; have TT := hid (TwM.of_two (B := w.heap.size + 2) m1 kZ m2 (by omega) kA.size); have b1Z := b1A.keeps kZ; have b2Z := b2A.keeps kZ; have kwZ := (kwD.trans kA).trans kZ; have sZ := Nat.le_trans kA.size kZ.size; have z0wZ : wZ.cell? ⟨w.heap.size, 0, none⟩ = some (.int .i64 lv) := (b1Z.2 0 _ rfl).1; have y0wZ : wZ.frozen? ⟨w.heap.size, 0, none⟩ = false := (b1Z.2 0 _ rfl).2; have z1wZ : wZ.cell? ⟨w.heap.size, 1, none⟩ = some (.slice A1 n1 c1) := (b1Z.2 1 _ rfl).1; have y1wZ : wZ.frozen? ⟨w.heap.size, 1, none⟩ = false := (b1Z.2 1 _ rfl).2; have z2wZ : wZ.cell? ⟨w.heap.size, 2, none⟩ = some (.slice A2 n2 c2) := (b1Z.2 2 _ rfl).1; have y2wZ : wZ.frozen? ⟨w.heap.size, 2, none⟩ = false := (b1Z.2 2 _ rfl).2; have z3wZ : wZ.cell? ⟨w.heap.size, 3, none⟩ = some (.int .i64 sm) := (b1Z.2 3 _ rfl).1; have y3wZ : wZ.frozen? ⟨w.heap.size, 3, none⟩ = false := (b1Z.2 3 _ rfl).2) | (refine step_cpc (c := c1) hxB rfl (by kernel_rfl) ?_; intro B1_ C1_ wZ m1 kZ; have TT := hid ((TwM.of_two (B := w.heap.size + 2) m2 kZ m1 (by omega) kB.size).swap); have b1Z := b1B.keeps kZ; have b2Z := b2B.keeps kZ; have kwZ := (kwD.trans kB).trans kZ; have sZ := Nat.le_trans kB.size kZ.size; have z0wZ : wZ.cell? ⟨w.heap.size, 0, none⟩ = some (.int .i64 lv) := (b1Z.2 0 _ rfl).1; have y0wZ : wZ.frozen? ⟨w.heap.size, 0, none⟩ = false := (b1Z.2 0 _ rfl).2; have z1wZ : wZ.cell? ⟨w.heap.size, 1, none⟩ = some (.slice A1 n1 c1) := (b1Z.2 1 _ rfl).1; have y1wZ : wZ.frozen? ⟨w.heap.size, 1, none⟩ = false := (b1Z.2 1 _ rfl).2; have z2wZ : wZ.cell? ⟨w.heap.size, 2, none⟩ = some (.slice A2 n2 c2) := (b1Z.2 2 _ rfl).1; have y2wZ : wZ.frozen? ⟨w.heap.size, 2, none⟩ = false := (b1Z.2 2 _ rfl).2; have z3wZ : wZ.cell? ⟨w.heap.size, 3, none⟩ = some (.int .i64 sm) := (b1Z.2 3 _ rfl).1; have y3wZ : wZ.frozen? ⟨w.heap.size, 3, none⟩ = false := (b1Z.2 3 _ rfl).2) | (refine step_cpc (c := c1) hxD rfl (by kernel_rfl) ?_; intro B1_ C1_ wA m1 kA; have b1A := b1D.keeps kA; have b2A := b2D.keeps kA; have hyA := hyD.keeps kA; have z0wA : wA.cell? ⟨w.heap.size, 0, none⟩ = some (.int .i64 lv) := (b1A.2 0 _ rfl).1; have y0wA : wA.frozen? ⟨w.heap.size, 0, none⟩ = false := (b1A.2 0 _ rfl).2; have z1wA : wA.cell? ⟨w.heap.size, 1, none⟩ = some (.slice A1 n1 c1) := (b1A.2 1 _ rfl).1; have y1wA : wA.frozen? ⟨w.heap.size, 1, none⟩ = false := (b1A.2 1 _ rfl).2; have z2wA : wA.cell? ⟨w.heap.size, 2, none⟩ = some (.slice A2 n2 c2) := (b1A.2 2 _ rfl).1; have y2wA : wA.frozen? ⟨w.heap.size, 2, none⟩ = false := (b1A.2 2 _ rfl).2; have z3wA : wA.cell? ⟨w.heap.size, 3, none⟩ = some (.int .i64 sm) := (b1A.2 3 _ rfl).1; have y3wA : wA.frozen? ⟨w.heap.size, 3, none⟩ = false := (b1A.2 3 _ rfl).2) | (refine step_cpc (c := c2) hyD rfl (by kernel_rfl) ?_; intro B2_ C2_ wB m2 kB; have b1B := b1D.keeps kB; have b2B := b2D.keeps kB; have hxB := hxD.keeps kB; have z0wB : wB.cell? ⟨w.heap.size, 0, none⟩ = some (.int .i64 lv) := (b1B.2 0 _ rfl).1; have y0wB : wB.frozen? ⟨w.heap.size, 0, none⟩ = false := (b1B.2 0 _ rfl).2; have z1wB : wB.cell? ⟨w.heap.size, 1, none⟩ = some (.slice A1 n1 c1) := (b1B.2 1 _ rfl).1; have y1wB : wB.frozen? ⟨w.heap.size, 1, none⟩ = false := (b1B.2 1 _ rfl).2; have z2wB : wB.cell? ⟨w.heap.size, 2, none⟩ = some (.slice A2 n2 c2) := (b1B.2 2 _ rfl).1; have y2wB : wB.frozen? ⟨w.heap.size, 2, none⟩ = false := (b1B.2 2 _ rfl).2; have z3wB : wB.cell? ⟨w.heap.size, 3, none⟩ = some (.int .i64 sm) := (b1B.2 3 _ rfl).1; have y3wB : wB.frozen? ⟨w.heap.size, 3, none⟩ = false := (b1B.2 3 _ rfl).2)))
  all_goals (
    replace b2Z := b2Z.far (p := ⟨w.heap.size, 1, none⟩) (by show _ ≠ w.heap.size; omega) (.slice B1_ n1 C1_)
    replace kwZ := Below.setCell kwZ (p := ⟨w.heap.size, 1, none⟩) (by show _ ≤ w.heap.size; omega) (.slice B1_ n1 C1_)
    replace b1Z : Bl (wZ.setCell ⟨w.heap.size, 1, none⟩ (.slice B1_ n1 C1_)) w.heap.size [.int .i64 lv, .slice B1_ n1 C1_, .slice A2 n2 c2, .int .i64 sm] := b1Z.set 1 (.slice B1_ n1 C1_)
    replace b2Z := b2Z.far (p := ⟨w.heap.size, 2, none⟩) (by show _ ≠ w.heap.size; omega) (.slice B2_ n2 C2_)
    replace kwZ := Below.setCell kwZ (p := ⟨w.heap.size, 2, none⟩) (by show _ ≤ w.heap.size; omega) (.slice B2_ n2 C2_)
    replace b1Z : Bl ((wZ.setCell ⟨w.heap.size, 1, none⟩ (.slice B1_ n1 C1_)).setCell ⟨w.heap.size, 2, none⟩ (.slice B2_ n2 C2_)) w.heap.size [.int .i64 lv, .slice B1_ n1 C1_, .slice B2_ n2 C2_, .int .i64 sm] := b1Z.set 2 (.slice B2_ n2 C2_)
    have ca3_0 := (b1Z.2 0 _ rfl).1
    have ca3_1 := (b1Z.2 1 _ rfl).1
    have ca3_2 := (b1Z.2 2 _ rfl).1
    have ca3_3 := (b1Z.2 3 _ rfl).1
    have ca4_0 := (b2Z.2 0 _ rfl).1
    have fa4_0 := (b2Z.2 0 _ rfl).2
    have ca4_1 := (b2Z.2 1 _ rfl).1
    have fa4_1 := (b2Z.2 1 _ rfl).2
    have ca4_2 := (b2Z.2 2 _ rfl).1
    have fa4_2 := (b2Z.2 2 _ rfl).2
    have ca4_3 := (b2Z.2 3 _ rfl).1
    have fa4_3 := (b2Z.2 3 _ rfl).2
    replace b1Z := b1Z.far (p := ⟨(w.heap.size + 1), 0, none⟩) (by show _ ≠ (w.heap.size + 1); omega) (.int .i64 lv)
    replace kwZ := Below.setCell kwZ (p := ⟨(w.heap.size + 1), 0, none⟩) (by show _ ≤ (w.heap.size + 1); omega) (.int .i64 lv)
    replace b2Z : Bl (((wZ.setCell ⟨w.heap.size, 1, none⟩ (.slice B1_ n1 C1_)).setCell ⟨w.heap.size, 2, none⟩ (.slice B2_ n2 C2_)).setCell ⟨(w.heap.size + 1), 0, none⟩ (.int .i64 lv)) (w.heap.size + 1) [.int .i64 lv, .slice none 0 0, .slice none 0 0, .int .i64 0] := b2Z.set 0 (.int .i64 lv)
    replace b1Z := b1Z.far (p := ⟨(w.heap.size + 1), 1, none⟩) (by show _ ≠ (w.heap.size + 1); omega) (.slice B1_ n1 C1_)
    replace kwZ := Below.setCell kwZ (p := ⟨(w.heap.size + 1), 1, none⟩) (by show _ ≤ (w.heap.size + 1); omega) (.slice B1_ n1 C1_)
    replace b2Z : Bl ((((wZ.setCell ⟨w.heap.size, 1, none⟩ (.slice B1_ n1 C1_)).setCell ⟨w.heap.size, 2, none⟩ (.slice B2_ n2 C2_)).setCell ⟨(w.heap.size + 1), 0, none⟩ (.int .i64 lv)).setCell ⟨(w.heap.size + 1), 1, none⟩ (.slice B1_ n1 C1_)) (w.heap.size + 1) [.int .i64 lv, .slice B1_ n1 C1_, .slice none 0 0, .int .i64 0] := b2Z.set 1 (.slice B1_ n1 C1_)
    replace b1Z := b1Z.far (p := ⟨(w.heap.size + 1), 2, none⟩) (by show _ ≠ (w.heap.size + 1); omega) (.slice B2_ n2 C2_)
    replace kwZ := Below.setCell kwZ (p := ⟨(w.heap.size + 1), 2, none⟩) (by show _ ≤ (w.heap.size + 1); omega) (.slice B2_ n2 C2_)
    replace b2Z : Bl (((((wZ.setCell ⟨w.heap.size, 1, none⟩ (.slice B1_ n1 C1_)).setCell ⟨w.heap.size, 2, none⟩ (.slice B2_ n2 C2_)).setCell ⟨(w.heap.size + 1), 0, none⟩ (.int .i64 lv)).setCell ⟨(w.heap.size + 1), 1, none⟩ (.slice B1_ n1 C1_)).setCell ⟨(w.heap.size + 1), 2, none⟩ (.slice B2_ n2 C2_)) (w.heap.size + 1) [.int .i64 lv, .slice B1_ n1 C1_, .slice B2_ n2 C2_, .int .i64 0] := b2Z.set 2 (.slice B2_ n2 C2_)
    replace b1Z := b1Z.far (p := ⟨(w.heap.size + 1), 3, none⟩) (by show _ ≠ (w.heap.size + 1); omega) (.int .i64 sm)
    replace kwZ := Below.setCell kwZ (p := ⟨(w.heap.size + 1), 3, none⟩) (by show _ ≤ (w.heap.size + 1); omega) (.int .i64 sm)
    replace b2Z : Bl ((((((wZ.setCell ⟨w.heap.size, 1, none⟩ (.slice B1_ n1 C1_)).setCell ⟨w.heap.size, 2, none⟩ (.slice B2_ n2 C2_)).setCell ⟨(w.heap.size + 1), 0, none⟩ (.int .i64 lv)).setCell ⟨(w.heap.size + 1), 1, none⟩ (.slice B1_ n1 C1_)).setCell ⟨(w.heap.size + 1), 2, none⟩ (.slice B2_ n2 C2_)).setCell ⟨(w.heap.size + 1), 3, none⟩ (.int .i64 sm)) (w.heap.size + 1) [.int .i64 lv, .slice B1_ n1 C1_, .slice B2_ n2 C2_, .int .i64 sm] := b2Z.set 3 (.int .i64 sm)
    have TT2 := hid ((TT.out.fr (fr_one (p := w.heap.size) (i := 1) (.slice B1_ n1 C1_)) (by omega)).fr (fr_one (p := w.heap.size) (i := 2) (.slice B2_ n2 C2_)) (by omega))
    replace TT2 := hid (TT2.out.fr (fr_one (p := w.heap.size + 1) (i := 0) (.int .i64 lv)) (by omega))
    replace TT2 := hid (TT2.out.fr (fr_one (p := w.heap.size + 1) (i := 1) (.slice B1_ n1 C1_)) (by omega))
    replace TT2 := hid (TT2.out.fr (fr_one (p := w.heap.size + 1) (i := 2) (.slice B2_ n2 C2_)) (by omega))
    replace TT2 := hid (TT2.out.fr (fr_one (p := w.heap.size + 1) (i := 3) (.int .i64 sm)) (by omega))
    have TT3 := hid (TT2.out.widen (lo' := w.heap.size) (hi' := ((((((wZ.setCell ⟨w.heap.size, 1, none⟩ (.slice B1_ n1 C1_)).setCell ⟨w.heap.size, 2, none⟩ (.slice B2_ n2 C2_)).setCell ⟨(w.heap.size + 1), 0, none⟩ (.int .i64 lv)).setCell ⟨(w.heap.size + 1), 1, none⟩ (.slice B1_ n1 C1_)).setCell ⟨(w.heap.size + 1), 2, none⟩ (.slice B2_ n2 C2_)).setCell ⟨(w.heap.size + 1), 3, none⟩ (.int .i64 sm)).heap.size) (by omega) (by simp [World.setCell]) (Nat.le_refl _))
    have HK := hid kwZ
    clear TT TT2 kwZ
    try clear hyA
    try clear hxB
    try clear m1 m2
    go_wp2_with fail
    clear ca3_0 ca3_1 ca3_2 ca3_3 ca4_0 fa4_0 ca4_1 fa4_1 ca4_2 fa4_2 ca4_3 fa4_3
    have ca0_0 := (b2Z.2 0 _ rfl).1
    have ca0_1 := (b2Z.2 1 _ rfl).1
    have ca0_2 := (b2Z.2 2 _ rfl).1
    have ca0_3 := (b2Z.2 3 _ rfl).1
    try simp only [Exit.inBlock, Exit.then]
    exact bodyPost_ret (v := .agg #[.int .i64 lv, .slice B1_ n1 C1_, .slice B2_ n2 C2_, .int .i64 sm]) (by simp [results, Tryz.results157, go_sem, ca0_0, ca0_1, ca0_2, ca0_3]) rfl ⟨_, _, _, _, rfl, TT3.out, HK.out⟩)
set_option maxRecDepth 100000 in
set_option maxHeartbeats 6400000 in
theorem nOwn_tw {A1 A2 : Option Addr} {n1 n2 c1 c2 l1 u1 l2 u2 : Nat} {lv sm : Int} {xs ys : List Int} {w : World} (h1 : Ints w l1 u1 A1 n1 xs) (h2 : Ints w l2 u2 A2 n2 ys) :
    Calls Tryz.prog 90 #[.agg #[.int .i64 lv, .slice A1 n1 c1, .slice A2 n2 c2, .int .i64 sm]] w (TwRes w lv sm n1 xs n2 ys) := by
  go_enter Tryz.func90, Tryz.ntmps90
  have kw := keeps_refl w
  replace kw := Keeps.trans kw (keeps_alloc w (.cells #[.int .i64 lv, .slice A1 n1 c1, .slice A2 n2 c2, .int .i64 sm] 61))
  have b1 : Bl (w.alloc (.cells #[.int .i64 lv, .slice A1 n1 c1, .slice A2 n2 c2, .int .i64 sm] 61)) w.heap.size [.int .i64 lv, .slice A1 n1 c1, .slice A2 n2 c2, .int .i64 sm] := Bl.new' (by simp) (by simp)
  replace b1 := b1.keeps (keeps_alloc (w.alloc (.cells #[.int .i64 lv, .slice A1 n1 c1, .slice A2 n2 c2, .int .i64 sm] 61)) (.cells #[.int .i64 0, .slice none 0 0, .slice none 0 0, .int .i64 0] 61))
  replace kw := Keeps.trans kw (keeps_alloc (w.alloc (.cells #[.int .i64 lv, .slice A1 n1 c1, .slice A2 n2 c2, .int .i64 sm] 61)) (.cells #[.int .i64 0, .slice none 0 0, .slice none 0 0, .int .i64 0] 61))
  have b2 : Bl ((w.alloc (.cells #[.int .i64 lv, .slice A1 n1 c1, .slice A2 n2 c2, .int .i64 sm] 61)).alloc (.cells #[.int .i64 0, .slice none 0 0, .slice none 0 0, .int .i64 0] 61)) (w.heap.size + 1) [.int .i64 0, .slice none 0 0, .slice none 0 0, .int .i64 0] := Bl.new' (by simp) (by simp)
  go_wp2_with fail
  obtain ⟨W, hX⟩ : ∃ u : World, u = ((w.alloc (.cells #[.int .i64 lv, .slice A1 n1 c1, .slice A2 n2 c2, .int .i64 sm] 61)).alloc (.cells #[.int .i64 0, .slice none 0 0, .slice none 0 0, .int .i64 0] 61)) := ⟨_, rfl⟩
  have szX0 := hid (show W.heap.size = w.heap.size + 1 + 1 by rw [hX]; simp)
  rw [← hX] at b1
  rw [← hX] at b2
  rw [← hX] at kw
  rw [← hX]
  clear hX
  have sz2 := kw.size
  have hxD := h1.keeps (kw.trans (keeps_d0 W))
  have hyD := h2.keeps (kw.trans (keeps_d0 W))
  have b1D := b1.keeps (keeps_d0 W)
  have b2D := b2.keeps (keeps_d0 W)
  have sW : w.heap.size + 2 ≤ W.drew.heap.size := by show _ ≤ W.heap.size; rw [szX0.out]; omega
  have kwD := kw.trans (keeps_d0 W)
  have z0D : W.drew.cell? ⟨w.heap.size, 0, none⟩ = some (.int .i64 lv) := (b1D.2 0 _ rfl).1
  have y0D : W.drew.frozen? ⟨w.heap.size, 0, none⟩ = false := (b1D.2 0 _ rfl).2
  have z1D : W.drew.cell? ⟨w.heap.size, 1, none⟩ = some (.slice A1 n1 c1) := (b1D.2 1 _ rfl).1
  have y1D : W.drew.frozen? ⟨w.heap.size, 1, none⟩ = false := (b1D.2 1 _ rfl).2
  have z2D : W.drew.cell? ⟨w.heap.size, 2, none⟩ = some (.slice A2 n2 c2) := (b1D.2 2 _ rfl).1
  have y2D : W.drew.frozen? ⟨w.heap.size, 2, none⟩ = false := (b1D.2 2 _ rfl).2
  have z3D : W.drew.cell? ⟨w.heap.size, 3, none⟩ = some (.int .i64 sm) := (b1D.2 3 _ rfl).1
  have y3D : W.drew.frozen? ⟨w.heap.size, 3, none⟩ = false := (b1D.2 3 _ rfl).2
  have zq0D : W.drew.cell? ⟨(w.heap.size + 1), 0, none⟩ = some (.int .i64 0) := (b2D.2 0 _ rfl).1
  have yq0D : W.drew.frozen? ⟨(w.heap.size + 1), 0, none⟩ = false := (b2D.2 0 _ rfl).2
  have zq1D : W.drew.cell? ⟨(w.heap.size + 1), 1, none⟩ = some (.slice none 0 0) := (b2D.2 1 _ rfl).1
  have yq1D : W.drew.frozen? ⟨(w.heap.size + 1), 1, none⟩ = false := (b2D.2 1 _ rfl).2
  have zq2D : W.drew.cell? ⟨(w.heap.size + 1), 2, none⟩ = some (.slice none 0 0) := (b2D.2 2 _ rfl).1
  have yq2D : W.drew.frozen? ⟨(w.heap.size + 1), 2, none⟩ = false := (b2D.2 2 _ rfl).2
  have zq3D : W.drew.cell? ⟨(w.heap.size + 1), 3, none⟩ = some (.int .i64 0) := (b2D.2 3 _ rfl).1
  have yq3D : W.drew.frozen? ⟨(w.heap.size + 1), 3, none⟩ = false := (b2D.2 3 _ rfl).2
  have kS := hid (show ∀ w', Keeps W w' → (w'.cell? ⟨w.heap.size, 0, none⟩ = some (.int .i64 lv) ∧ w'.cell? ⟨w.heap.size, 1, none⟩ = some (.slice A1 n1 c1) ∧ w'.cell? ⟨w.heap.size, 2, none⟩ = some (.slice A2 n2 c2) ∧ w'.cell? ⟨w.heap.size, 3, none⟩ = some (.int .i64 sm)) from fun w' k => ⟨((b1.keeps k).2 0 _ rfl).1, ((b1.keeps k).2 1 _ rfl).1, ((b1.keeps k).2 2 _ rfl).1, ((b1.keeps k).2 3 _ rfl).1⟩)
  have kT := hid (show ∀ w', Keeps W w' → ∀ v0 v1 v2 v3, (((((w'.setCell ⟨w.heap.size + 1, 0, none⟩ v0).setCell ⟨w.heap.size + 1, 1, none⟩ v1).setCell ⟨w.heap.size + 1, 2, none⟩ v2).setCell ⟨w.heap.size + 1, 3, none⟩ v3).cell? ⟨w.heap.size, 0, none⟩ = some (.int .i64 lv) ∧ ((((w'.setCell ⟨w.heap.size + 1, 0, none⟩ v0).setCell ⟨w.heap.size + 1, 1, none⟩ v1).setCell ⟨w.heap.size + 1, 2, none⟩ v2).setCell ⟨w.heap.size + 1, 3, none⟩ v3).cell? ⟨w.heap.size, 1, none⟩ = some (.slice A1 n1 c1) ∧ ((((w'.setCell ⟨w.heap.size + 1, 0, none⟩ v0).setCell ⟨w.heap.size + 1, 1, none⟩ v1).setCell ⟨w.heap.size + 1, 2, none⟩ v2).setCell ⟨w.heap.size + 1, 3, none⟩ v3).cell? ⟨w.heap.size, 2, none⟩ = some (.slice A2 n2 c2) ∧ ((((w'.setCell ⟨w.heap.size + 1, 0, none⟩ v0).setCell ⟨w.heap.size + 1, 1, none⟩ v1).setCell ⟨w.heap.size + 1, 2, none⟩ v2).setCell ⟨w.heap.size + 1, 3, none⟩ v3).cell? ⟨w.heap.size, 3, none⟩ = some (.int .i64 sm)) from fun w' k v0 v1 v2 v3 => ⟨((((((b1.keeps k).far (p := ⟨w.heap.size + 1, 0, none⟩) (by show _ ≠ _; simp) v0).far (p := ⟨w.heap.size + 1, 1, none⟩) (by show _ ≠ _; simp) v1).far (p := ⟨w.heap.size + 1, 2, none⟩) (by show _ ≠ _; simp) v2).far (p := ⟨w.heap.size + 1, 3, none⟩) (by show _ ≠ _; simp) v3).2 0 _ rfl).1, ((((((b1.keeps k).far (p := ⟨w.heap.size + 1, 0, none⟩) (by show _ ≠ _; simp) v0).far (p := ⟨w.heap.size + 1, 1, none⟩) (by show _ ≠ _; simp) v1).far (p := ⟨w.heap.size + 1, 2, none⟩) (by show _ ≠ _; simp) v2).far (p := ⟨w.heap.size + 1, 3, none⟩) (by show _ ≠ _; simp) v3).2 1 _ rfl).1, ((((((b1.keeps k).far (p := ⟨w.heap.size + 1, 0, none⟩) (by show _ ≠ _; simp) v0).far (p := ⟨w.heap.size + 1, 1, none⟩) (by show _ ≠ _; simp) v1).far (p := ⟨w.heap.size + 1, 2, none⟩) (by show _ ≠ _; simp) v2).far (p := ⟨w.heap.size + 1, 3, none⟩) (by show _ ≠ _; simp) v3).2 2 _ rfl).1, ((((((b1.keeps k).far (p := ⟨w.heap.size + 1, 0, none⟩) (by show _ ≠ _; simp) v0).far (p := ⟨w.heap.size + 1, 1, none⟩) (by show _ ≠ _; simp) v1).far (p := ⟨w.heap.size + 1, 2, none⟩) (by show _ ≠ _; simp) v2).far (p := ⟨w.heap.size + 1, 3, none⟩) (by show _ ≠ _; simp) v3).2 3 _ rfl).1⟩)
  have sW2 : w.heap.size + 2 ≤ W.heap.size := sW
  have kW := keeps_d0 W
  clear z0D y0D zq0D yq0D z1D y1D zq1D yq1D z2D y2D zq2D yq2D z3D y3D zq3D yq3D
  go_region_held3 (fun w' => w'.cell? ⟨w.heap.size, 0, none⟩ = some (.int .i64 lv) ∧ w'.cell? ⟨w.heap.size, 1, none⟩ = some (.slice A1 n1 c1) ∧ w'.cell? ⟨w.heap.size, 2, none⟩ = some (.slice A2 n2 c2) ∧ w'.cell? ⟨w.heap.size, 3, none⟩ = some (.int .i64 sm)) (first | with_reducible exact kS.out _ (keeps_d0 _) | with_reducible exact kS.out _ kW | with_reducible exact kT.out _ kW _ _ _ _ | go_keep)
    ((first | (have q9 := kA; (go_at_call 128; refine (l1Own_cp (c := c2) (h2.keeps (Keeps.trans kw kW))).mono ?_; rintro e wZ ⟨B2_, C2_, rfl, m2, kZ⟩; have TT := hid (TwM.of_two (B := w.heap.size + 2) m1 kZ m2 (by omega) kA.size); replace kW : Keeps W wZ := kW.trans kZ; have b2Z := b2.keeps kW; have zq0wZ : wZ.cell? ⟨(w.heap.size + 1), 0, none⟩ = some (.int .i64 0) := (b2Z.2 0 _ rfl).1; have yq0wZ : wZ.frozen? ⟨(w.heap.size + 1), 0, none⟩ = false := (b2Z.2 0 _ rfl).2; have zq1wZ : wZ.cell? ⟨(w.heap.size + 1), 1, none⟩ = some (.slice none 0 0) := (b2Z.2 1 _ rfl).1; have yq1wZ : wZ.frozen? ⟨(w.heap.size + 1), 1, none⟩ = false := (b2Z.2 1 _ rfl).2; have zq2wZ : wZ.cell? ⟨(w.heap.size + 1), 2, none⟩ = some (.slice none 0 0) := (b2Z.2 2 _ rfl).1; have yq2wZ : wZ.frozen? ⟨(w.heap.size + 1), 2, none⟩ = false := (b2Z.2 2 _ rfl).2; have zq3wZ : wZ.cell? ⟨(w.heap.size + 1), 3, none⟩ = some (.int .i64 0) := (b2Z.2 3 _ rfl).1; have yq3wZ : wZ.frozen? ⟨(w.heap.size + 1), 3, none⟩ = false := (b2Z.2 3 _ rfl).2)) | (go_at_call 128; refine (l1Own_cp (c := c1) (h1.keeps (Keeps.trans kw kW))).mono ?_; rintro e wA ⟨B1_, C1_, rfl, m1, kA⟩; replace kW : Keeps W wA := kW.trans kA)))
  have kwZ := Keeps.trans kw kW
  have sZ := kW.size
  all_goals (
    replace kwZ := Below.setCell kwZ (p := ⟨(w.heap.size + 1), 0, none⟩) (by show _ ≤ (w.heap.size + 1); omega) (.int .i64 lv)
    replace b2Z : Bl (wZ.setCell ⟨(w.heap.size + 1), 0, none⟩ (.int .i64 lv)) (w.heap.size + 1) [.int .i64 lv, .slice none 0 0, .slice none 0 0, .int .i64 0] := b2Z.set 0 (.int .i64 lv)
    replace kwZ := Below.setCell kwZ (p := ⟨(w.heap.size + 1), 1, none⟩) (by show _ ≤ (w.heap.size + 1); omega) (.slice B1_ n1 C1_)
    replace b2Z : Bl ((wZ.setCell ⟨(w.heap.size + 1), 0, none⟩ (.int .i64 lv)).setCell ⟨(w.heap.size + 1), 1, none⟩ (.slice B1_ n1 C1_)) (w.heap.size + 1) [.int .i64 lv, .slice B1_ n1 C1_, .slice none 0 0, .int .i64 0] := b2Z.set 1 (.slice B1_ n1 C1_)
    replace kwZ := Below.setCell kwZ (p := ⟨(w.heap.size + 1), 2, none⟩) (by show _ ≤ (w.heap.size + 1); omega) (.slice B2_ n2 C2_)
    replace b2Z : Bl (((wZ.setCell ⟨(w.heap.size + 1), 0, none⟩ (.int .i64 lv)).setCell ⟨(w.heap.size + 1), 1, none⟩ (.slice B1_ n1 C1_)).setCell ⟨(w.heap.size + 1), 2, none⟩ (.slice B2_ n2 C2_)) (w.heap.size + 1) [.int .i64 lv, .slice B1_ n1 C1_, .slice B2_ n2 C2_, .int .i64 0] := b2Z.set 2 (.slice B2_ n2 C2_)
    replace kwZ := Below.setCell kwZ (p := ⟨(w.heap.size + 1), 3, none⟩) (by show _ ≤ (w.heap.size + 1); omega) (.int .i64 sm)
    replace b2Z : Bl ((((wZ.setCell ⟨(w.heap.size + 1), 0, none⟩ (.int .i64 lv)).setCell ⟨(w.heap.size + 1), 1, none⟩ (.slice B1_ n1 C1_)).setCell ⟨(w.heap.size + 1), 2, none⟩ (.slice B2_ n2 C2_)).setCell ⟨(w.heap.size + 1), 3, none⟩ (.int .i64 sm)) (w.heap.size + 1) [.int .i64 lv, .slice B1_ n1 C1_, .slice B2_ n2 C2_, .int .i64 sm] := b2Z.set 3 (.int .i64 sm)
    have TT2 := hid TT.out
    replace TT2 := hid (TT2.out.fr (fr_one (p := w.heap.size + 1) (i := 0) (.int .i64 lv)) (by omega))
    replace TT2 := hid (TT2.out.fr (fr_one (p := w.heap.size + 1) (i := 1) (.slice B1_ n1 C1_)) (by omega))
    replace TT2 := hid (TT2.out.fr (fr_one (p := w.heap.size + 1) (i := 2) (.slice B2_ n2 C2_)) (by omega))
    replace TT2 := hid (TT2.out.fr (fr_one (p := w.heap.size + 1) (i := 3) (.int .i64 sm)) (by omega))
    have TT3 := hid (TT2.out.widen (lo' := w.heap.size) (hi' := ((((wZ.setCell ⟨(w.heap.size + 1), 0, none⟩ (.int .i64 lv)).setCell ⟨(w.heap.size + 1), 1, none⟩ (.slice B1_ n1 C1_)).setCell ⟨(w.heap.size + 1), 2, none⟩ (.slice B2_ n2 C2_)).setCell ⟨(w.heap.size + 1), 3, none⟩ (.int .i64 sm)).heap.size) (by omega) (by simp [World.setCell]) (Nat.le_refl _))
    have HK := hid kwZ
    clear TT TT2 kwZ
    try clear hyA
    try clear hxB
    try clear m1 m2
    go_wp2_with fail
    have ca0_0 := (b2Z.2 0 _ rfl).1
    have ca0_1 := (b2Z.2 1 _ rfl).1
    have ca0_2 := (b2Z.2 2 _ rfl).1
    have ca0_3 := (b2Z.2 3 _ rfl).1
    try simp only [Exit.inBlock, Exit.then]
    exact bodyPost_ret (v := .agg #[.int .i64 lv, .slice B1_ n1 C1_, .slice B2_ n2 C2_, .int .i64 sm]) (by simp [results, Tryz.results90, go_sem, ca0_0, ca0_1, ca0_2, ca0_3]) rfl ⟨_, _, _, _, rfl, TT3.out, HK.out⟩)
end Go.Proofs.YtlkjhkkfdmjfcaaGreatDoor
