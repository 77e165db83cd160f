/- Tables and plans: valid or not; of the program and of the reference. -/
import Derived.Test.YtlkjhkkfdmjfcaaGreatDoorKey
import Derived.Test.YtlkjhkkfdmjfcaaGreatDoorKO
import Derived.Test.YtlkjhkkfdmjfcaaGreatDoorTab
import Derived.Deep.RegionLaw
namespace Go.Proofs.YtlkjhkkfdmjfcaaGreatDoor
open Go.RowKit
set_option linter.unusedVariables false
set_option linter.unusedSimpArgs false

/-- The set of all levels. -/
def full (y : Int) : Int := 2 ^ y.toNat - 1
theorem full_bd {y : Int} (h : 2 ≤ y ∧ y ≤ 8) : 3 ≤ full y ∧ full y ≤ 255 := by
  have : y = 2 ∨ y = 3 ∨ y = 4 ∨ y = 5 ∨ y = 6 ∨ y = 7 ∨ y = 8 := by omega
  rcases this with rfl | rfl | rfl | rfl | rfl | rfl | rfl <;> decide
def whRow (l : List VV) (ws : List Int) (k : Nat) : Bool := inB (ws.getD k 0) 0 (full (l.getD k v0).2)
def whTo (l : List VV) (ws : List Int) : Nat → Bool
  | 0 => true
  | k + 1 => whTo l ws k && whRow l ws k
/-- Conditions for the variables of a schema. -/
def whB (l : List VV) (ws : List Int) : Bool := decide (ws.length = l.length) && whTo l ws l.length
theorem whTo_bad {l : List VV} {ws : List Int} {k n : Nat} (h : whTo l ws k = false) (hn : k ≤ n) : whTo l ws n = false := by
  induction n with
  | zero => obtain rfl : k = 0 := by omega
            exact h
  | succ n ih =>
    rcases Nat.lt_or_ge n k with h1 | h1
    · obtain rfl : k = n + 1 := by omega
      exact h
    · unfold whTo; rw [ih h1]; rfl
theorem whTo_row {l : List VV} {ws : List Int} : ∀ n k, whTo l ws n = true → k < n → whRow l ws k = true
  | 0, k, _, hk => absurd hk (by omega)
  | n + 1, k, h, hk => by
    unfold whTo at h
    simp only [Bool.and_eq_true] at h
    rcases Nat.lt_or_ge k n with h1 | h1
    · exact whTo_row n k h.1 h1
    · obtain rfl : k = n := by omega
      exact h.2
theorem whB_len {l : List VV} {ws : List Int} (h : ws.length ≠ l.length) : whB l ws = false := by unfold whB; rw [decide_eq_false h]; rfl
theorem whB_no {l : List VV} {ws : List Int} {n k : Nat} (hl : l.length = n) (hk : k < n) (h : whRow l ws k = false) : whB l ws = false := by
  unfold whB; rw [hl, whTo_bad (k := k + 1) (by unfold whTo; rw [h, Bool.and_false]) hk, Bool.and_false]
theorem whB_yes {l : List VV} {ws : List Int} {n : Nat} (hl : l.length = n) (hw : ws.length = n) (h : whTo l ws n = true) : whB l ws = true := by unfold whB; rw [hl, hw, h]; simp
theorem whB_at {l : List VV} {ws : List Int} {k : Nat} (h : whB l ws = true) (hk : k < l.length) : ws.length = l.length ∧ 0 ≤ ws.getD k 0 ∧ ws.getD k 0 ≤ full (l.getD k v0).2 := by
  unfold whB at h
  simp only [Bool.and_eq_true, decide_eq_true_eq] at h
  exact ⟨h.1, inB_true.1 (whTo_row _ k h.2 hk)⟩
/-- The number of cells. -/
def tabN (ps : List Int) (l : List VV) (t : TT) : Int := ((lev ps t.1).length : Int) * prodTo (partL l t.2.1) t.2.1.length
def tabB (ps : List Int) (l : List VV) (t : TT) : Bool := vsB l.length t.2.1 && whB l t.2.2.1 && inB t.2.2.2 (-1) ((l.length : Int) - 1) && (decide (0 < tabN ps l t) && decide (tabN ps l t ≤ 600))
theorem lev_len (ps : List Int) (lv : Int) : (lev ps lv).length ≤ ps.length := levTo_len ps lv ps.length
theorem tabN_bd {ps : List Int} {l : List VV} {t : TT} (hg : geoB ps = true) (hs : schB l = true) (hv : vsB l.length t.2.1 = true) : 0 ≤ tabN ps l t ∧ tabN ps l t ≤ 7864320 := by
  have h1 := lev_len ps t.1
  have h2 := (geoB_true.1 hg).1
  obtain ⟨hlv, _, h6⟩ := schB_lv rfl hs
  have h3 := prodTo_bd (partL_lv hlv hv) t.2.1.length (Nat.le_refl _)
  have h5 := vsB_len hv
  have h4 := pow8 (k := t.2.1.length) (by omega)
  unfold tabN
  have h7 := Int.mul_le_mul (show (((lev ps t.1).length : Nat) : Int) ≤ 30 by omega) (show prodTo (partL l t.2.1) t.2.1.length ≤ 262144 by omega) (by omega) (by omega)
  exact ⟨Int.mul_nonneg (by omega) (by omega), by omega⟩
theorem tabN_zero {ps : List Int} {l : List VV} {t : TT} (h : (lev ps t.1).length = 0) : tabN ps l t = 0 := by unfold tabN; rw [h]; simp
theorem tabN_pos {ps : List Int} {l : List VV} {t : TT} (hs : schB l = true) (hv : vsB l.length t.2.1 = true) (h : (lev ps t.1).length ≠ 0) : 0 < tabN ps l t := by
  obtain ⟨hlv, _, h6⟩ := schB_lv rfl hs
  have h3 := prodTo_bd (partL_lv hlv hv) t.2.1.length (Nat.le_refl _)
  unfold tabN
  exact Int.mul_pos (by omega) (by omega)
theorem tabB_parts {ps : List Int} {l : List VV} {t : TT} (h : tabB ps l t = true) : vsB l.length t.2.1 = true ∧ whB l t.2.2.1 = true ∧ (-1 ≤ t.2.2.2 ∧ t.2.2.2 ≤ (l.length : Int) - 1) ∧ 0 < tabN ps l t ∧ tabN ps l t ≤ 600 := by
  unfold tabB at h
  simp only [Bool.and_eq_true, decide_eq_true_eq] at h
  exact ⟨h.1.1.1, h.1.1.2, inB_true.1 h.1.2, h.2⟩
def plTo (ps : List Int) (l : List VV) (ts : List TT) : Nat → Bool
  | 0 => true
  | k + 1 => plTo ps l ts k && tabB ps l (ts.getD k t0)
/-- A plan, where the areas and the schema are valid. -/
def plB (ps : List Int) (l : List VV) (ts : List TT) : Bool := decide (ts.length ≤ 20) && plTo ps l ts ts.length
theorem plTo_bad {ps : List Int} {l : List VV} {ts : List TT} {k n : Nat} (h : plTo ps l ts k = false) (hn : k ≤ n) : plTo ps l ts n = false := by
  induction n with
  | zero => obtain rfl : k = 0 := by omega
            exact h
  | succ n ih =>
    rcases Nat.lt_or_ge n k with h1 | h1
    · obtain rfl : k = n + 1 := by omega
      exact h
    · unfold plTo; rw [ih h1]; rfl
theorem plTo_row {ps : List Int} {l : List VV} {ts : List TT} : ∀ n k, plTo ps l ts n = true → k < n → tabB ps l (ts.getD k t0) = true
  | 0, k, _, hk => absurd hk (by omega)
  | n + 1, k, h, hk => by
    unfold plTo at h
    simp only [Bool.and_eq_true] at h
    rcases Nat.lt_or_ge k n with h1 | h1
    · exact plTo_row n k h.1 h1
    · obtain rfl : k = n := by omega
      exact h.2
theorem plB_no {ps : List Int} {l : List VV} {ts : List TT} {n k : Nat} (hl : ts.length = n) (hk : k < n) (h : tabB ps l (ts.getD k t0) = false) : plB ps l ts = false := by
  unfold plB; rw [hl, plTo_bad (k := k + 1) (by unfold plTo; rw [h, Bool.and_false]) hk, Bool.and_false]
theorem plB_len {ps : List Int} {l : List VV} {ts : List TT} (h : ¬ ts.length ≤ 20) : plB ps l ts = false := by unfold plB; rw [decide_eq_false h]; rfl
theorem plB_yes {ps : List Int} {l : List VV} {ts : List TT} {n : Nat} (hl : ts.length = n) (h2 : n ≤ 20) (h : plTo ps l ts n = true) : plB ps l ts = true := by unfold plB; rw [hl, h, decide_eq_true h2]; rfl
theorem plB_at {ps : List Int} {l : List VV} {ts : List TT} (h : plB ps l ts = true) : ts.length ≤ 20 ∧ ∀ k, k < ts.length → tabB ps l (ts.getD k t0) = true := by
  unfold plB at h
  simp only [Bool.and_eq_true, decide_eq_true_eq] at h
  exact ⟨h.1, fun k hk => plTo_row _ k h.2 hk⟩

set_option maxRecDepth 100000 in
set_option maxHeartbeats 3200000 in
theorem fullSet_any {s : ByteArray} {y : Int} {w : World} (h : 2 ≤ y ∧ y ≤ 8) :
    Calls Tryz.prog 139 #[.agg #[.string s, .int .i64 y]] w fun e w' => e = .returned (.int .i64 (full y)) ∧ Keeps w w' := by
  have hy7 : y = 2 ∨ y = 3 ∨ y = 4 ∨ y = 5 ∨ y = 6 ∨ y = 7 ∨ y = 8 := by omega
  rcases hy7 with rfl | rfl | rfl | rfl | rfl | rfl | rfl
  all_goals (
    go_enter Tryz.func139, Tryz.ntmps139
    have kw := keeps_refl w
    go_wp2
    go_ret
    exact ⟨ret_int (by decide), keeps_alloc _ _⟩)
set_option maxRecDepth 100000 in
set_option maxHeartbeats 3200000 in
theorem eFull_any {A : Option Addr} {lo hi n c k : Nat} {l : List VV} {w : World} (h : Vars w lo hi A n l) (hk : k < n) (hv : 2 ≤ (l.getD k v0).2 ∧ (l.getD k v0).2 ≤ 8) :
    Calls Tryz.prog 158 #[.slice A n c, .int .i64 k] w fun e w' => e = .returned (.int .i64 (full (l.getD k v0).2)) ∧ w = w' := by
  obtain ⟨b, off, x, y, rfl, _, _, hc, hd, hx⟩ := Vars.at_ h hk
  have hn := h.le
  have hy : (l.getD k v0).2 = y := (congrArg Prod.snd hx.out).symm
  rw [hy] at hv ⊢
  clear hy hx
  have hi1 : (k : Int) < (n : Int) := by omega
  have hy7 : y = 2 ∨ y = 3 ∨ y = 4 ∨ y = 5 ∨ y = 6 ∨ y = 7 ∨ y = 8 := by omega
  rcases hy7 with rfl | rfl | rfl | rfl | rfl | rfl | rfl
  all_goals (
    go_enter Tryz.func158, Tryz.ntmps158
    go_wp2
    go_ret
    exact ⟨ret_int (by decide), rfl⟩)
set_option maxRecDepth 100000 in
set_option maxHeartbeats 3200000 in
theorem isWhere_any {A A' : Option Addr} {lo hi n c m d : Nat} {ws : List Int} {l : List VV} {w : World} (h : Ints w lo hi A n ws) (h' : Sch w A' m d l) (hlv : LvOk l m) :
    Calls Tryz.prog 96 #[.slice A' m d, .slice A n c] w fun e w' => e = .returned (.bool (whB l ws)) ∧ Keeps w w' := by
  obtain ⟨lo', hi', hv⟩ := h'.v
  have HL := hid (Vars.len hv)
  have HW := hid h.1
  have hn := h.le
  have hm := hv.le
  have HLV := hid hlv
  clear hlv
  by_cases hnm : n = m
  rotate_left
  · have HX := hid (whB_len (l := l) (ws := ws) (by rw [HL.out, HW.out]; exact hnm))
    have t1 : ((n : Int) != (m : Int)) = true := by rw [bne_iff_ne]; omega
    go_enter Tryz.func96, Tryz.ntmps96
    go_wp2
    go_ret
    exact ⟨ret_bool HX.out.symm, keeps_refl _⟩
  subst hnm
  have t1 : ((n : Int) != (n : Int)) = false := by simp
  go_enter Tryz.func96, Tryz.ntmps96
  go_wp2_with fail
  go_loopw [14] (fun i wr => ∃ k : Nat, k ≤ n ∧ i = .int .i64 k ∧ Hid (whTo l ws k = true) ∧ Keeps w wr) (fun i _ => n - (intOf i).toNat)
  case atStart => exact ⟨0, Nat.zero_le _, rfl, hid rfl, keeps_refl _⟩
  case round =>
    obtain ⟨k, hk, rfl, HT, kw⟩ := hrel
    by_cases hlt : k < n
    · obtain ⟨b, off, u, rfl, _, _, hc, hu⟩ := (h.keeps kw).at_ hlt
      obtain ⟨b', off', x, y, rfl, _, _, hcx, hcy, hx⟩ := Vars.at_ (Sl.keeps hv kw) hlt
      have hi1 : (k : Int) < (n : Int) := by omega
      have hy := HLV.out k hlt
      have HY := hid (show (l.getD k v0).2 = y from (congrArg Prod.snd hx.out).symm)
      rw [HY.out] at hy
      have HR := hid (show whRow l ws k = inB u 0 (full y) by unfold whRow; rw [HY.out, ← hu.out])
      clear hx hu
      by_cases h0 : u < 0
      · have HX := hid (whB_no (l := l) (ws := ws) HL.out hlt (by rw [HR.out]; exact inB_not (by omega)))
        go_wp2
        go_ret
        exact ⟨ret_bool HX.out.symm, kw⟩
      go_wp2_with fail
      refine (fullSet_any hy).mono ?_
      rintro e w1 ⟨rfl, k1⟩
      replace kw := kw.trans k1
      obtain ⟨f, hf⟩ : ∃ f, full y = f := ⟨_, rfl⟩
      rw [hf] at HR
      rw [hf]
      clear hf k1 hc hcx hcy
      by_cases h1 : f < u
      · have HX := hid (whB_no (l := l) (ws := ws) HL.out hlt (by rw [HR.out]; exact inB_not (by omega)))
        go_wp2
        go_ret
        exact ⟨ret_bool HX.out.symm, kw⟩
      have HN := hid (show whTo l ws (k + 1) = true by unfold whTo; rw [HT.out, HR.out]; exact inB_true.2 (by omega))
      go_wp2
      go_roundw
      case rel => exact ⟨k + 1, by omega, by go_num, HN, kw⟩
      case measure => simp [intOf]; omega
    · obtain rfl : k = n := by omega
      have HX := hid (whB_yes HL.out HW.out HT.out)
      go_wp2
      go_ret
      exact ⟨ret_bool HX.out.symm, kw⟩
set_option maxRecDepth 100000 in
set_option maxHeartbeats 6400000 in
theorem uWhere_any {A A' : Option Addr} {lo hi n c m d : Nat} {ws : List Int} {l : List VV} {w : World} (h : Ints w lo hi A n ws) (h' : Sch w A' m d l) (hlv : LvOk l m) :
    Calls Tryz.prog 134 #[.slice A' m d, .slice A n c] w fun e w' => e = .returned (.bool (whB l ws)) ∧ Keeps w w' := by
  obtain ⟨lo', hi', hv⟩ := h'.v
  have HL := hid (Vars.len hv)
  have HW := hid h.1
  have hn := h.le
  have hm := hv.le
  have HLV := hid hlv
  clear hlv
  by_cases hnm : n = m
  rotate_left
  · have HX := hid (whB_len (l := l) (ws := ws) (by rw [HL.out, HW.out]; exact hnm))
    have t1 : ((n : Int) != (m : Int)) = true := by rw [bne_iff_ne]; omega
    go_enter Tryz.func134, Tryz.ntmps134
    go_wp2
    go_ret
    exact ⟨ret_bool HX.out.symm, keeps_refl _⟩
  subst hnm
  have t1 : ((n : Int) != (n : Int)) = false := by simp
  go_enter Tryz.func134, Tryz.ntmps134
  go_wp2_with fail
  go_loopw [14] (fun i wr => ∃ k : Nat, k ≤ n ∧ i = .int .i64 k ∧ Hid (whTo l ws k = true) ∧ Keeps w wr) (fun i _ => n - (intOf i).toNat)
  case atStart => exact ⟨0, Nat.zero_le _, rfl, hid rfl, keeps_refl _⟩
  case round =>
    obtain ⟨k, hk, rfl, HT, kw⟩ := hrel
    by_cases hlt : k < n
    · obtain ⟨b, off, u, rfl, _, _, hc, hu⟩ := (h.keeps kw).at_ hlt
      obtain ⟨b', off', x, y, rfl, _, _, hcx, hcy, hx⟩ := Vars.at_ (Sl.keeps hv kw) hlt
      have hi1 : (k : Int) < (n : Int) := by omega
      have hy := HLV.out k hlt
      have HY := hid (show (l.getD k v0).2 = y from (congrArg Prod.snd hx.out).symm)
      rw [HY.out] at hy
      have HR := hid (show whRow l ws k = inB u 0 (full y) by unfold whRow; rw [HY.out, ← hu.out])
      clear hx hu HY
      obtain ⟨p, HP⟩ : ∃ p, Hid (inB u 0 (full y) = p) := ⟨_, rfl⟩
      rw [HP.out] at HR
      have HC := hid (fun w' => l1In_any u 0 (full y) w')
      rw [HP.out] at HC
      clear HP
      have KA := kw.trans (keeps_alloc wr (.cells #[.string x, .int .i64 y] 82))
      have hcA := cell_keeps hc (keeps_alloc wr (.cells #[.string x, .int .i64 y] 82))
      cases p
      · have HX := hid (whB_no (l := l) (ws := ws) HL.out hlt HR.out)
        clear HR
        have hy7 : y = 2 ∨ y = 3 ∨ y = 4 ∨ y = 5 ∨ y = 6 ∨ y = 7 ∨ y = 8 := by omega
        rcases hy7 with rfl | rfl | rfl | rfl | rfl | rfl | rfl
        all_goals (
          go_wp2_with fail
          go_quiet ((go_at_call 87; exact quietS (HC.out _)))
          go_wp2
          go_ret
          exact ⟨ret_bool HX.out.symm, KA.trans (Keeps.drewN _ _)⟩)
      · have HN := hid (show whTo l ws (k + 1) = true by unfold whTo; rw [HT.out, HR.out]; rfl)
        clear HR
        have hy7 : y = 2 ∨ y = 3 ∨ y = 4 ∨ y = 5 ∨ y = 6 ∨ y = 7 ∨ y = 8 := by omega
        rcases hy7 with rfl | rfl | rfl | rfl | rfl | rfl | rfl
        all_goals (
          go_wp2_with fail
          go_quiet ((go_at_call 87; exact quietS (HC.out _)))
          go_wp2
          go_roundw
          case rel => exact ⟨k + 1, by omega, by go_num, HN, KA.trans (Keeps.drewN _ _)⟩
          case measure => simp [intOf]; omega)
    · obtain rfl : k = n := by omega
      have HX := hid (whB_yes HL.out HW.out HT.out)
      go_wp2
      go_ret
      exact ⟨ret_bool HX.out.symm, kw⟩
end Go.Proofs.YtlkjhkkfdmjfcaaGreatDoor
