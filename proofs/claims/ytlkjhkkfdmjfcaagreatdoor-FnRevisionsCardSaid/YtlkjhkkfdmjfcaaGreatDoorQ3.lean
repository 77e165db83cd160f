/- What the proof of the statement leans on, part 4: walks of functions and plain lemmas, with no condition. -/
import Derived.Lib.QuietBelow
import Derived.Deep.RegionLaw
import Derived.Test.YtlkjhkkfdmjfcaaGreatDoorQ0
import Derived.Test.YtlkjhkkfdmjfcaaGreatDoorQ2
namespace Go.Proofs.YtlkjhkkfdmjfcaaGreatDoor
open Go.RowKit Go.Sort
set_option linter.unusedVariables false
set_option linter.unusedSimpArgs false
def nmI (l : List VV) (ws : List Int) (k : Nat) : Int := if ws.getD k 0 = full (l.getD k v0).2 then 0 else ws.getD k 0
def nmK (l : List VV) (ws : List Int) (k n : Nat) : List Int := (List.range n).map fun j => if j < k then nmI l ws j else ws.getD j 0
/-- The conditions of a table, all levels read as 0. -/
def nmL (l : List VV) (ws : List Int) : List Int := nmK l ws ws.length ws.length
theorem nmK_len (l : List VV) (ws : List Int) (k n : Nat) : (nmK l ws k n).length = n := by simp [nmK]
theorem nmK_at {l : List VV} {ws : List Int} {k n j : Nat} (h : j < n) : (nmK l ws k n).getD j 0 = if j < k then nmI l ws j else ws.getD j 0 := by simp [nmK, List.getD, h]
theorem list_ext {xs ys : List Int} {n : Nat} (h1 : xs.length = n) (h2 : ys.length = n) (h : ∀ j, j < n → xs.getD j 0 = ys.getD j 0) : xs = ys := by
  apply List.ext_getElem (by omega)
  intro i hi hi'
  have := h i (by omega)
  simpa [List.getD, hi, hi'] using this
theorem nmK_zero {l : List VV} {ws : List Int} {n : Nat} (h : ws.length = n) : nmK l ws 0 n = ws := list_ext (nmK_len _ _ _ _) h (fun j hj => by rw [nmK_at hj, if_neg (by omega)])
theorem nmK_now {l : List VV} {ws : List Int} {k n : Nat} (h : k < n) : (nmK l ws k n).getD k 0 = ws.getD k 0 := by rw [nmK_at h, if_neg (by omega)]
theorem nmK_set {l : List VV} {ws : List Int} {k n : Nat} (h : k < n) (he : ws.getD k 0 = full (l.getD k v0).2) : (nmK l ws k n).set k 0 = nmK l ws (k + 1) n := by
  refine list_ext (by rw [List.length_set, nmK_len]) (nmK_len _ _ _ _) (fun j hj => ?_)
  rw [nmK_at hj]
  by_cases e : j = k
  · subst e
    rw [if_pos (by omega)]
    unfold nmI
    rw [if_pos he]
    simp [List.getD, nmK_len, h]
  · have h1 : ((nmK l ws k n).set k 0).getD j 0 = (nmK l ws k n).getD j 0 := by simp [List.getD, List.getElem?_set_ne (Ne.symm e)]
    rw [h1, nmK_at hj]
    by_cases h2 : j < k
    · rw [if_pos h2, if_pos (by omega)]
    · rw [if_neg h2, if_neg (by omega)]
theorem nmK_keep {l : List VV} {ws : List Int} {k n : Nat} (he : ¬ ws.getD k 0 = full (l.getD k v0).2) : nmK l ws k n = nmK l ws (k + 1) n := by
  refine list_ext (nmK_len _ _ _ _) (nmK_len _ _ _ _) (fun j hj => ?_)
  rw [nmK_at hj, nmK_at hj]
  by_cases h2 : j < k
  · rw [if_pos h2, if_pos (by omega)]
  · rw [if_neg h2]
    by_cases e : j = k
    · subst e; rw [if_pos (by omega)]; unfold nmI; rw [if_neg he]
    · rw [if_neg (by omega)]
theorem eFull_k {A : Option Addr} {lo hi n c k : Nat} {l : List VV} {w : World} {F : Int} (h : Vars w lo hi A n l) (hk : k < n) (hl : 2 ≤ (l.getD k v0).2 ∧ (l.getD k v0).2 ≤ 8) (hF : full (l.getD k v0).2 = F) :
    Calls Tryz.prog 158 #[.slice A n c, .int .i64 (k : Int)] w fun e w' => e = .returned (.int .i64 F) ∧ Keeps w w' := by
  subst hF
  exact (eFull_any h hk hl).mono (by rintro e w' ⟨rfl, rfl⟩; exact ⟨rfl, keeps_refl _⟩)
set_option maxRecDepth 100000 in
set_option maxHeartbeats 6400000 in
theorem normalTable_any {A' V H : Option Addr} {lo1 hi1 lo2 hi2 n c m d q e : Nat} {vs ws : List Int} {l : List VV} {lv sm : Int} {w : World} (hv : Ints w lo1 hi1 V n vs) (hw : Ints w lo2 hi2 H m ws) (h' : Sch w A' q e l) (hlv : LvOk l q) (hW : whB l ws = true) :
    Calls Tryz.prog 122 #[.slice A' q e, .agg #[.int .i64 lv, .slice V n c, .slice H m d, .int .i64 sm]] w (TwRes w lv sm n vs m (nmL l ws)) := by
  obtain ⟨lo9, hi9, hz⟩ := h'.v
  have hq := hz.le
  have hql := Vars.len hz
  have hm := hw.le
  have hwl := hw.1
  obtain rfl : m = q := by
    rcases Nat.eq_zero_or_pos q with e0 | e0
    · unfold whB at hW
      simp only [Bool.and_eq_true, decide_eq_true_eq] at hW
      omega
    · have := (whB_at hW (k := 0) (by omega)).1; omega
  have HWL := hid hwl
  have HLV := hid hlv
  have HNL := hid (show nmL l ws = nmK l ws m m by unfold nmL; rw [hwl])
  have HN0 := hid (nmK_zero (l := l) hwl)
  clear hW hlv hwl hql
  rw [HNL.out]
  go_enter Tryz.func122, Tryz.ntmps122
  have kw := keeps_refl w
  replace kw := Keeps.trans kw (keeps_alloc w (.cells #[.int .i64 lv, .slice V n c, .slice H m d, .int .i64 sm] 61))
  have b3 : Bl (w.alloc (.cells #[.int .i64 lv, .slice V n c, .slice H m d, .int .i64 sm] 61)) w.heap.size [.int .i64 lv, .slice V n c, .slice H m d, .int .i64 sm] := Bl.new' (by simp) (by simp)
  replace b3 := b3.keeps (keeps_alloc (w.alloc (.cells #[.int .i64 lv, .slice V n c, .slice H m d, .int .i64 sm] 61)) (.cells #[.int .i64 0, .slice none 0 0, .slice none 0 0, .int .i64 0] 61))
  replace kw := Keeps.trans kw (keeps_alloc (w.alloc (.cells #[.int .i64 lv, .slice V n c, .slice H m d, .int .i64 sm] 61)) (.cells #[.int .i64 0, .slice none 0 0, .slice none 0 0, .int .i64 0] 61))
  have b4 : Bl ((w.alloc (.cells #[.int .i64 lv, .slice V n c, .slice H m d, .int .i64 sm] 61)).alloc (.cells #[.int .i64 0, .slice none 0 0, .slice none 0 0, .int .i64 0] 61)) (w.heap.size + 1) [.int .i64 0, .slice none 0 0, .slice none 0 0, .int .i64 0] := Bl.new' (by simp) (by simp)
  have ca1_0 := (b3.2 0 _ rfl).1
  have ca1_1 := (b3.2 1 _ rfl).1
  have ca1_2 := (b3.2 2 _ rfl).1
  have ca1_3 := (b3.2 3 _ rfl).1
  go_wp2_with fail
  clear ca1_0 ca1_1 ca1_2 ca1_3
  refine (copyTable_tw (hv.keeps kw) (hw.keeps kw)).mono ?_
  rintro e w2 ⟨V1, d1, H1, d2, rfl, tw, k2⟩
  replace b3 := b3.keeps k2
  replace b4 := b4.keeps k2
  replace kw := Keeps.trans kw k2
  have lt3 := b4.lt
  have sz4 := kw.size
  clear k2
  replace tw := tw.widen (lo' := w.heap.size + 1 + 1) (by simp) (Nat.le_refl _) tw.top
  have ca5_0 := (b3.2 0 _ rfl).1
  have fa5_0 := (b3.2 0 _ rfl).2
  have ca5_1 := (b3.2 1 _ rfl).1
  have fa5_1 := (b3.2 1 _ rfl).2
  have ca5_2 := (b3.2 2 _ rfl).1
  have fa5_2 := (b3.2 2 _ rfl).2
  have ca5_3 := (b3.2 3 _ rfl).1
  have fa5_3 := (b3.2 3 _ rfl).2
  replace b4 := b4.far (p := ⟨w.heap.size, 0, none⟩) (by show _ ≠ w.heap.size; omega) (.int .i64 lv)
  replace tw := tw.fr (fr_one (p := w.heap.size) (i := 0) (.int .i64 lv)) (by omega)
  replace kw := Below.setCell kw (p := ⟨w.heap.size, 0, none⟩) (by show _ ≤ w.heap.size; omega) (.int .i64 lv)
  replace b3 : Bl (w2.setCell ⟨w.heap.size, 0, none⟩ (.int .i64 lv)) w.heap.size [.int .i64 lv, .slice V n c, .slice H m d, .int .i64 sm] := b3.set 0 (.int .i64 lv)
  replace b4 := b4.far (p := ⟨w.heap.size, 1, none⟩) (by show _ ≠ w.heap.size; omega) (.slice V1 n d1)
  replace tw := tw.fr (fr_one (p := w.heap.size) (i := 1) (.slice V1 n d1)) (by omega)
  replace kw := Below.setCell kw (p := ⟨w.heap.size, 1, none⟩) (by show _ ≤ w.heap.size; omega) (.slice V1 n d1)
  replace b3 : Bl ((w2.setCell ⟨w.heap.size, 0, none⟩ (.int .i64 lv)).setCell ⟨w.heap.size, 1, none⟩ (.slice V1 n d1)) w.heap.size [.int .i64 lv, .slice V1 n d1, .slice H m d, .int .i64 sm] := b3.set 1 (.slice V1 n d1)
  replace b4 := b4.far (p := ⟨w.heap.size, 2, none⟩) (by show _ ≠ w.heap.size; omega) (.slice H1 m d2)
  replace tw := tw.fr (fr_one (p := w.heap.size) (i := 2) (.slice H1 m d2)) (by omega)
  replace kw := Below.setCell kw (p := ⟨w.heap.size, 2, none⟩) (by show _ ≤ w.heap.size; omega) (.slice H1 m d2)
  replace b3 : Bl (((w2.setCell ⟨w.heap.size, 0, none⟩ (.int .i64 lv)).setCell ⟨w.heap.size, 1, none⟩ (.slice V1 n d1)).setCell ⟨w.heap.size, 2, none⟩ (.slice H1 m d2)) w.heap.size [.int .i64 lv, .slice V1 n d1, .slice H1 m d2, .int .i64 sm] := b3.set 2 (.slice H1 m d2)
  replace b4 := b4.far (p := ⟨w.heap.size, 3, none⟩) (by show _ ≠ w.heap.size; omega) (.int .i64 sm)
  replace tw := tw.fr (fr_one (p := w.heap.size) (i := 3) (.int .i64 sm)) (by omega)
  replace kw := Below.setCell kw (p := ⟨w.heap.size, 3, none⟩) (by show _ ≤ w.heap.size; omega) (.int .i64 sm)
  replace b3 : Bl ((((w2.setCell ⟨w.heap.size, 0, none⟩ (.int .i64 lv)).setCell ⟨w.heap.size, 1, none⟩ (.slice V1 n d1)).setCell ⟨w.heap.size, 2, none⟩ (.slice H1 m d2)).setCell ⟨w.heap.size, 3, none⟩ (.int .i64 sm)) w.heap.size [.int .i64 lv, .slice V1 n d1, .slice H1 m d2, .int .i64 sm] := b3.set 3 (.int .i64 sm)
  have ca6_0 := (b3.2 0 _ rfl).1
  have ca6_1 := (b3.2 1 _ rfl).1
  have ca6_2 := (b3.2 2 _ rfl).1
  have ca6_3 := (b3.2 3 _ rfl).1
  go_wp2_with fail
  clear ca5_0 fa5_0 ca5_1 fa5_1 ca5_2 fa5_2 ca5_3 fa5_3 ca6_0 ca6_1 ca6_2 ca6_3
  obtain ⟨tT, L1, U1, L2, U2, q1, q2, q3, q4, dj, m1, m2⟩ := id tw
  clear tw
  rw [← HN0.out] at m2
  have hU1 := m1.1.top
  have hU2 := m2.1.top
  go_loopw [12] (fun i wr => ∃ k : Nat, k ≤ m ∧ i = .int .i64 k ∧ Bl wr (w.heap.size) [.int .i64 lv, .slice V1 n d1, .slice H1 m d2, .int .i64 sm] ∧ Bl wr (w.heap.size + 1) [.int .i64 0, .slice none 0 0, .slice none 0 0, .int .i64 0] ∧ Mine wr L1 U1 V1 n vs ∧ Mine wr L2 U2 H1 m (nmK l ws k m) ∧ Keeps w wr) (fun i _ => m - (intOf i).toNat)
  case atStart => exact ⟨0, Nat.zero_le _, rfl, b3, b4, m1, m2, kw⟩
  clear b3 b4 m1 m2 kw
  case round =>
    obtain ⟨k, hk, rfl, b3, b4, m1, m2, kw⟩ := hrel
    have sz8 := m1.1.top
    have sz9 := m2.1.top
    have lt9 := b3.lt
    by_cases hlt : k < m
    · obtain ⟨b, off, x, rfl, hb1, hb2, hcx, hx⟩ := m2.1.at_ hlt
      have HXW := hid (hx.out.trans (nmK_now (l := l) (ws := ws) hlt))
      clear hx
      have hfx := m2.2 b off rfl k hlt
      obtain ⟨b', off', x', y, rfl, _, _, hcx', hcy', hxy⟩ := Vars.at_ (Sl.keeps hz kw) hlt
      have hi1 : (k : Int) < (m : Int) := by omega
      have HY := hid (show (l.getD k v0).2 = y from (congrArg Prod.snd hxy.out).symm)
      clear hxy
      have hy := HLV.out k hlt
      rw [HY.out] at hy
      have HYB := hid hy
      clear hy
      obtain ⟨F, HF⟩ : ∃ F, Hid (full y = F) := ⟨_, rfl⟩
      have ca7_0 := (b3.2 0 _ rfl).1
      have ca7_1 := (b3.2 1 _ rfl).1
      have ca7_2 := (b3.2 2 _ rfl).1
      have ca7_3 := (b3.2 3 _ rfl).1
      go_wp2_with fail
      clear ca7_0 ca7_1 ca7_2 ca7_3
      refine (fullSet_any HYB.out).mono ?_
      rintro e w8 ⟨rfl, k8⟩
      rw [HF.out]
      replace b3 := b3.keeps k8
      replace b4 := b4.keeps k8
      replace m1 := m1.keeps k8
      replace m2 := m2.keeps k8
      replace kw := Keeps.trans kw k8
      have lt9 := b3.lt
      have sz10 := kw.size
      clear k8
      clear hcx hcx' hcy'
      have hcx := (m2.1.at_ hlt)
      obtain ⟨b9, off9, x9, e9, -, -, hcx, -⟩ := hcx
      obtain ⟨rfl, rfl⟩ : b = b9 ∧ off = off9 := by simpa using e9
      replace hfx := m2.2 b off rfl k hlt
      by_cases hxF : x = F
      · have t1 : (x == F) = true := by rw [beq_iff_eq]; exact hxF
        have HS := hid (nmK_set (l := l) (ws := ws) hlt (by rw [← HXW.out, HY.out, HF.out]; exact hxF))
        clear hxF
        have ca11_0 := (b3.2 0 _ rfl).1
        have ca11_1 := (b3.2 1 _ rfl).1
        have ca11_2 := (b3.2 2 _ rfl).1
        have ca11_3 := (b3.2 3 _ rfl).1
        go_wp2_with fail
        clear ca11_0 ca11_1 ca11_2 ca11_3
        obtain ⟨m29, f29⟩ := m2.set_ hlt 0
        rw [HS.out] at m29
        have b39 := b3.fr f29 (by omega)
        have b49 := b4.fr f29 (by omega)
        have m19 := m1.fr f29 (by omega)
        have kw9 := below_fr kw kw.size (by omega) f29
        go_roundw
        case rel => exact ⟨k + 1, by omega, by go_num, b39, b49, m19, m29, kw9⟩
        case measure => simp [intOf]; omega
      have t1 : (x == F) = false := by rw [beq_eq_false_iff_ne]; exact hxF
      have HS := hid (nmK_keep (l := l) (ws := ws) (n := m) (k := k) (by rw [← HXW.out, HY.out, HF.out]; exact hxF))
      rw [HS.out] at m2
      clear hxF
      have ca11_0 := (b3.2 0 _ rfl).1
      have ca11_1 := (b3.2 1 _ rfl).1
      have ca11_2 := (b3.2 2 _ rfl).1
      have ca11_3 := (b3.2 3 _ rfl).1
      go_wp2_with fail
      clear ca11_0 ca11_1 ca11_2 ca11_3
      go_roundw
      case rel => exact ⟨k + 1, by omega, by go_num, b3, b4, m1, m2, kw⟩
      case measure => simp [intOf]; omega
    · obtain rfl : m = k := by omega
      have lt4 := b4.lt
      have ca7_0 := (b3.2 0 _ rfl).1
      have ca7_1 := (b3.2 1 _ rfl).1
      have ca7_2 := (b3.2 2 _ rfl).1
      have ca7_3 := (b3.2 3 _ rfl).1
      have ca8_0 := (b4.2 0 _ rfl).1
      have fa8_0 := (b4.2 0 _ rfl).2
      have ca8_1 := (b4.2 1 _ rfl).1
      have fa8_1 := (b4.2 1 _ rfl).2
      have ca8_2 := (b4.2 2 _ rfl).1
      have fa8_2 := (b4.2 2 _ rfl).2
      have ca8_3 := (b4.2 3 _ rfl).1
      have fa8_3 := (b4.2 3 _ rfl).2
      replace b3 := b3.far (p := ⟨w.heap.size + 1, 0, none⟩) (by show _ ≠ (w.heap.size + 1); omega) (.int .i64 lv)
      replace m1 := m1.fr (fr_one (p := (w.heap.size + 1)) (i := 0) (.int .i64 lv)) (by omega)
      replace m2 := m2.fr (fr_one (p := (w.heap.size + 1)) (i := 0) (.int .i64 lv)) (by omega)
      replace kw := Below.setCell kw (p := ⟨w.heap.size + 1, 0, none⟩) (by show _ ≤ (w.heap.size + 1); omega) (.int .i64 lv)
      replace b4 : Bl (wr.setCell ⟨w.heap.size + 1, 0, none⟩ (.int .i64 lv)) (w.heap.size + 1) [.int .i64 lv, .slice none 0 0, .slice none 0 0, .int .i64 0] := b4.set 0 (.int .i64 lv)
      replace b3 := b3.far (p := ⟨w.heap.size + 1, 1, none⟩) (by show _ ≠ (w.heap.size + 1); omega) (.slice V1 n d1)
      replace m1 := m1.fr (fr_one (p := (w.heap.size + 1)) (i := 1) (.slice V1 n d1)) (by omega)
      replace m2 := m2.fr (fr_one (p := (w.heap.size + 1)) (i := 1) (.slice V1 n d1)) (by omega)
      replace kw := Below.setCell kw (p := ⟨w.heap.size + 1, 1, none⟩) (by show _ ≤ (w.heap.size + 1); omega) (.slice V1 n d1)
      replace b4 : Bl ((wr.setCell ⟨w.heap.size + 1, 0, none⟩ (.int .i64 lv)).setCell ⟨w.heap.size + 1, 1, none⟩ (.slice V1 n d1)) (w.heap.size + 1) [.int .i64 lv, .slice V1 n d1, .slice none 0 0, .int .i64 0] := b4.set 1 (.slice V1 n d1)
      replace b3 := b3.far (p := ⟨w.heap.size + 1, 2, none⟩) (by show _ ≠ (w.heap.size + 1); omega) (.slice H1 m d2)
      replace m1 := m1.fr (fr_one (p := (w.heap.size + 1)) (i := 2) (.slice H1 m d2)) (by omega)
      replace m2 := m2.fr (fr_one (p := (w.heap.size + 1)) (i := 2) (.slice H1 m d2)) (by omega)
      replace kw := Below.setCell kw (p := ⟨w.heap.size + 1, 2, none⟩) (by show _ ≤ (w.heap.size + 1); omega) (.slice H1 m d2)
      replace b4 : Bl (((wr.setCell ⟨w.heap.size + 1, 0, none⟩ (.int .i64 lv)).setCell ⟨w.heap.size + 1, 1, none⟩ (.slice V1 n d1)).setCell ⟨w.heap.size + 1, 2, none⟩ (.slice H1 m d2)) (w.heap.size + 1) [.int .i64 lv, .slice V1 n d1, .slice H1 m d2, .int .i64 0] := b4.set 2 (.slice H1 m d2)
      replace b3 := b3.far (p := ⟨w.heap.size + 1, 3, none⟩) (by show _ ≠ (w.heap.size + 1); omega) (.int .i64 sm)
      replace m1 := m1.fr (fr_one (p := (w.heap.size + 1)) (i := 3) (.int .i64 sm)) (by omega)
      replace m2 := m2.fr (fr_one (p := (w.heap.size + 1)) (i := 3) (.int .i64 sm)) (by omega)
      replace kw := Below.setCell kw (p := ⟨w.heap.size + 1, 3, none⟩) (by show _ ≤ (w.heap.size + 1); omega) (.int .i64 sm)
      replace b4 : Bl ((((wr.setCell ⟨w.heap.size + 1, 0, none⟩ (.int .i64 lv)).setCell ⟨w.heap.size + 1, 1, none⟩ (.slice V1 n d1)).setCell ⟨w.heap.size + 1, 2, none⟩ (.slice H1 m d2)).setCell ⟨w.heap.size + 1, 3, none⟩ (.int .i64 sm)) (w.heap.size + 1) [.int .i64 lv, .slice V1 n d1, .slice H1 m d2, .int .i64 sm] := b4.set 3 (.int .i64 sm)
      have TT := hid (show TwM ((((wr.setCell ⟨w.heap.size + 1, 0, none⟩ (.int .i64 lv)).setCell ⟨w.heap.size + 1, 1, none⟩ (.slice V1 n d1)).setCell ⟨w.heap.size + 1, 2, none⟩ (.slice H1 m d2)).setCell ⟨w.heap.size + 1, 3, none⟩ (.int .i64 sm)) w.heap.size ((((wr.setCell ⟨w.heap.size + 1, 0, none⟩ (.int .i64 lv)).setCell ⟨w.heap.size + 1, 1, none⟩ (.slice V1 n d1)).setCell ⟨w.heap.size + 1, 2, none⟩ (.slice H1 m d2)).setCell ⟨w.heap.size + 1, 3, none⟩ (.int .i64 sm)).heap.size V1 n vs H1 m (nmK l ws m m) from ⟨Nat.le_refl _, L1, U1, L2, U2, by omega, m1.1.top, by omega, m2.1.top, dj, m1, m2⟩)
      have HK := hid kw
      clear kw m1 m2
      have hi1 : ¬ (m : Int) < (m : Int) := by omega
      go_wp2_with fail
      clear ca7_0 ca7_1 ca7_2 ca7_3 ca8_0 fa8_0 ca8_1 fa8_1 ca8_2 fa8_2 ca8_3 fa8_3
      have ca0_0 := (b4.2 0 _ rfl).1
      have ca0_1 := (b4.2 1 _ rfl).1
      have ca0_2 := (b4.2 2 _ rfl).1
      have ca0_3 := (b4.2 3 _ rfl).1
      try simp only [Exit.inBlock, Exit.then]
      exact bodyPost_ret (v := .agg #[.int .i64 lv, .slice V1 n d1, .slice H1 m d2, .int .i64 sm]) (by simp [results, Tryz.results122, go_sem, ca0_0, ca0_1, ca0_2, ca0_3]) rfl ⟨_, _, _, _, rfl, TT.out, HK.out⟩
set_option maxRecDepth 100000 in
set_option maxHeartbeats 6400000 in
theorem nNormal_any {A' V H : Option Addr} {lo1 hi1 lo2 hi2 n c m d q e : Nat} {vs ws : List Int} {l : List VV} {lv sm : Int} {w : World} (hv : Ints w lo1 hi1 V n vs) (hw : Ints w lo2 hi2 H m ws) (h' : Sch w A' q e l) (hlv : LvOk l q) (hW : whB l ws = true) :
    Calls Tryz.prog 126 #[.slice A' q e, .agg #[.int .i64 lv, .slice V n c, .slice H m d, .int .i64 sm]] w (TwRes w lv sm n vs m (nmL l ws)) := by
  obtain ⟨lo9, hi9, hz⟩ := h'.v
  have hq := hz.le
  have hql := Vars.len hz
  have hm := hw.le
  have hwl := hw.1
  obtain rfl : m = q := by
    rcases Nat.eq_zero_or_pos q with e0 | e0
    · unfold whB at hW
      simp only [Bool.and_eq_true, decide_eq_true_eq] at hW
      omega
    · have := (whB_at hW (k := 0) (by omega)).1; omega
  have HWL := hid hwl
  have HLV := hid hlv
  have HNL := hid (show nmL l ws = nmK l ws m m by unfold nmL; rw [hwl])
  have HN0 := hid (nmK_zero (l := l) hwl)
  clear hW hlv hwl hql
  rw [HNL.out]
  go_enter Tryz.func126, Tryz.ntmps126
  have kw := keeps_refl w
  replace kw := Keeps.trans kw (keeps_alloc w (.cells #[.int .i64 lv, .slice V n c, .slice H m d, .int .i64 sm] 61))
  have b3 : Bl (w.alloc (.cells #[.int .i64 lv, .slice V n c, .slice H m d, .int .i64 sm] 61)) w.heap.size [.int .i64 lv, .slice V n c, .slice H m d, .int .i64 sm] := Bl.new' (by simp) (by simp)
  replace b3 := b3.keeps (keeps_alloc (w.alloc (.cells #[.int .i64 lv, .slice V n c, .slice H m d, .int .i64 sm] 61)) (.cells #[.int .i64 0, .slice none 0 0, .slice none 0 0, .int .i64 0] 61))
  replace kw := Keeps.trans kw (keeps_alloc (w.alloc (.cells #[.int .i64 lv, .slice V n c, .slice H m d, .int .i64 sm] 61)) (.cells #[.int .i64 0, .slice none 0 0, .slice none 0 0, .int .i64 0] 61))
  have b4 : Bl ((w.alloc (.cells #[.int .i64 lv, .slice V n c, .slice H m d, .int .i64 sm] 61)).alloc (.cells #[.int .i64 0, .slice none 0 0, .slice none 0 0, .int .i64 0] 61)) (w.heap.size + 1) [.int .i64 0, .slice none 0 0, .slice none 0 0, .int .i64 0] := Bl.new' (by simp) (by simp)
  have ca1_0 := (b3.2 0 _ rfl).1
  have ca1_1 := (b3.2 1 _ rfl).1
  have ca1_2 := (b3.2 2 _ rfl).1
  have ca1_3 := (b3.2 3 _ rfl).1
  go_wp2_with fail
  clear ca1_0 ca1_1 ca1_2 ca1_3
  refine (nOwn_tw (hv.keeps kw) (hw.keeps kw)).mono ?_
  rintro e w2 ⟨V1, d1, H1, d2, rfl, tw, k2⟩
  replace b3 := b3.keeps k2
  replace b4 := b4.keeps k2
  replace kw := Keeps.trans kw k2
  have lt3 := b4.lt
  have sz4 := kw.size
  clear k2
  replace tw := tw.widen (lo' := w.heap.size + 1 + 1) (by simp) (Nat.le_refl _) tw.top
  replace b3 := b3.keeps (keeps_alloc w2 (.cells #[.int .i64 lv, .slice V1 n d1, .slice H1 m d2, .int .i64 sm] 61))
  replace b4 := b4.keeps (keeps_alloc w2 (.cells #[.int .i64 lv, .slice V1 n d1, .slice H1 m d2, .int .i64 sm] 61))
  replace tw := tw.keeps (keeps_alloc w2 (.cells #[.int .i64 lv, .slice V1 n d1, .slice H1 m d2, .int .i64 sm] 61))
  replace kw := Keeps.trans kw (keeps_alloc w2 (.cells #[.int .i64 lv, .slice V1 n d1, .slice H1 m d2, .int .i64 sm] 61))
  have b5 : Bl (w2.alloc (.cells #[.int .i64 lv, .slice V1 n d1, .slice H1 m d2, .int .i64 sm] 61)) w2.heap.size [.int .i64 lv, .slice V1 n d1, .slice H1 m d2, .int .i64 sm] := Bl.new' (by simp) (by simp)
  go_wp2_with fail
  obtain ⟨tT, L1, U1, L2, U2, q1, q2, q3, q4, dj, m1, m2⟩ := id tw
  clear tw
  rw [← HN0.out] at m2
  have hU1 := m1.1.top
  have hU2 := m2.1.top
  go_loopw [11] (fun i wr => ∃ k : Nat, k ≤ m ∧ i = .int .i64 k ∧ Bl wr (w2.heap.size) [.int .i64 lv, .slice V1 n d1, .slice H1 m d2, .int .i64 sm] ∧ Bl wr (w.heap.size + 1) [.int .i64 0, .slice none 0 0, .slice none 0 0, .int .i64 0] ∧ Mine wr L1 U1 V1 n vs ∧ Mine wr L2 U2 H1 m (nmK l ws k m) ∧ Keeps w wr) (fun i _ => m - (intOf i).toNat)
  case atStart => exact ⟨0, Nat.zero_le _, rfl, b5, b4, m1, m2, kw⟩
  clear b3 b4 m1 m2 kw b5
  case round =>
    obtain ⟨k, hk, rfl, b5, b4, m1, m2, kw⟩ := hrel
    have sz8 := m1.1.top
    have sz9 := m2.1.top
    have lt9 := b5.lt
    by_cases hlt : k < m
    · obtain ⟨b, off, x, rfl, hb1, hb2, hcx, hx⟩ := m2.1.at_ hlt
      have HXW := hid (hx.out.trans (nmK_now (l := l) (ws := ws) hlt))
      clear hx
      have hfx := m2.2 b off rfl k hlt
      obtain ⟨b', off', x', y, rfl, _, _, hcx', hcy', hxy⟩ := Vars.at_ (Sl.keeps hz kw) hlt
      have hi1 : (k : Int) < (m : Int) := by omega
      have HY := hid (show (l.getD k v0).2 = y from (congrArg Prod.snd hxy.out).symm)
      clear hxy
      have hy := HLV.out k hlt
      rw [HY.out] at hy
      have HYB := hid hy
      clear hy
      obtain ⟨F, HF⟩ : ∃ F, Hid (full y = F) := ⟨_, rfl⟩
      have HFF := hid (show full (l.getD k v0).2 = F by rw [HY.out]; exact HF.out)
      clear hcx' hcy'
      go_wp2_with fail
      have q0_b5 : wr.cell? ⟨w2.heap.size, 0, none⟩ = some (.int .i64 lv) := (b5.2 0 _ rfl).1
      have rq0_b5 := fun d os => cell_regrown q0_b5 d os
      have q1_b5 : wr.cell? ⟨w2.heap.size, 1, none⟩ = some (.slice V1 n d1) := (b5.2 1 _ rfl).1
      have rq1_b5 := fun d os => cell_regrown q1_b5 d os
      have q2_b5 : wr.cell? ⟨w2.heap.size, 2, none⟩ = some (.slice (some ⟨b, off, none⟩) m d2) := (b5.2 2 _ rfl).1
      have rq2_b5 := fun d os => cell_regrown q2_b5 d os
      have q3_b5 : wr.cell? ⟨w2.heap.size, 3, none⟩ = some (.int .i64 sm) := (b5.2 3 _ rfl).1
      have rq3_b5 := fun d os => cell_regrown q3_b5 d os
      have r_hcx := fun d os => cell_regrown hcx d os
      have cQ0 := hid (fun (dQ : Nat) (oQ : Array Obj) => eFull_k (c := e) (k := k) (Sl.keeps hz (Keeps.trans kw (below_regrown wr dQ oQ))) hlt (HLV.out k hlt) HFF.out)
      refine wp_region_quiet_below (by kernel_rfl) (by kernel_rfl) ?_
      iterate 9 (go_big_quiet_step ((first | with_reducible exact Calls.regrown_of (cQ0.out _ _))))
      refine wpQuiet_nil ?_
      intro _ hw'
      obtain ⟨⟨dq, osq⟩, hw''⟩ := hw'
      subst hw''
      clear q0_b5 rq0_b5 q1_b5 rq1_b5 q2_b5 rq2_b5 q3_b5 rq3_b5 r_hcx cQ0
      have kQ := below_regrown wr dq osq
      obtain ⟨wQ5, hwQ⟩ : ∃ u, u = grow (redrawn wr dq) osq := ⟨_, rfl⟩
      rw [← hwQ] at kQ
      rw [← hwQ]
      clear hwQ
      replace b5 := b5.keeps kQ
      replace b4 := b4.keeps kQ
      replace m1 := m1.keeps kQ
      replace m2 := m2.keeps kQ
      replace kw := Keeps.trans kw kQ
      have lt6 := b5.lt
      have sz7 := kw.size
      clear kQ
      replace hcx := (m2.1.at_ hlt)
      obtain ⟨b9, off9, x9, e9, -, -, hcx, -⟩ := hcx
      obtain ⟨rfl, rfl⟩ : b = b9 ∧ off = off9 := by simpa using e9
      replace hfx := m2.2 b off rfl k hlt
      by_cases hxF : x = F
      · have t1 : (x == F) = true := by rw [beq_iff_eq]; exact hxF
        have HS := hid (nmK_set (l := l) (ws := ws) hlt (by rw [← HXW.out, HY.out, HF.out]; exact hxF))
        clear hxF
        have ca8_0 := (b5.2 0 _ rfl).1
        have ca8_1 := (b5.2 1 _ rfl).1
        have ca8_2 := (b5.2 2 _ rfl).1
        have ca8_3 := (b5.2 3 _ rfl).1
        go_wp2_with fail
        clear ca8_0 ca8_1 ca8_2 ca8_3
        obtain ⟨m29, f29⟩ := m2.set_ hlt 0
        rw [HS.out] at m29
        have b39 := b5.fr f29 (by omega)
        have b49 := b4.fr f29 (by omega)
        have m19 := m1.fr f29 (by omega)
        have kw9 := below_fr kw kw.size (by omega) f29
        go_roundw
        case rel => exact ⟨k + 1, by omega, by go_num, b39, b49, m19, m29, kw9⟩
        case measure => simp [intOf]; omega
      have t1 : (x == F) = false := by rw [beq_eq_false_iff_ne]; exact hxF
      have HS := hid (nmK_keep (l := l) (ws := ws) (n := m) (k := k) (by rw [← HXW.out, HY.out, HF.out]; exact hxF))
      rw [HS.out] at m2
      clear hxF
      have ca8_0 := (b5.2 0 _ rfl).1
      have ca8_1 := (b5.2 1 _ rfl).1
      have ca8_2 := (b5.2 2 _ rfl).1
      have ca8_3 := (b5.2 3 _ rfl).1
      go_wp2_with fail
      clear ca8_0 ca8_1 ca8_2 ca8_3
      go_roundw
      case rel => exact ⟨k + 1, by omega, by go_num, b5, b4, m1, m2, kw⟩
      case measure => simp [intOf]; omega
    · obtain rfl : m = k := by omega
      have lt4 := b4.lt
      have ca5_0 := (b5.2 0 _ rfl).1
      have ca5_1 := (b5.2 1 _ rfl).1
      have ca5_2 := (b5.2 2 _ rfl).1
      have ca5_3 := (b5.2 3 _ rfl).1
      have ca6_0 := (b4.2 0 _ rfl).1
      have fa6_0 := (b4.2 0 _ rfl).2
      have ca6_1 := (b4.2 1 _ rfl).1
      have fa6_1 := (b4.2 1 _ rfl).2
      have ca6_2 := (b4.2 2 _ rfl).1
      have fa6_2 := (b4.2 2 _ rfl).2
      have ca6_3 := (b4.2 3 _ rfl).1
      have fa6_3 := (b4.2 3 _ rfl).2
      replace b5 := b5.far (p := ⟨w.heap.size + 1, 0, none⟩) (by show _ ≠ (w.heap.size + 1); omega) (.int .i64 lv)
      replace m1 := m1.fr (fr_one (p := (w.heap.size + 1)) (i := 0) (.int .i64 lv)) (by omega)
      replace m2 := m2.fr (fr_one (p := (w.heap.size + 1)) (i := 0) (.int .i64 lv)) (by omega)
      replace kw := Below.setCell kw (p := ⟨w.heap.size + 1, 0, none⟩) (by show _ ≤ (w.heap.size + 1); omega) (.int .i64 lv)
      replace b4 : Bl (wr.setCell ⟨w.heap.size + 1, 0, none⟩ (.int .i64 lv)) (w.heap.size + 1) [.int .i64 lv, .slice none 0 0, .slice none 0 0, .int .i64 0] := b4.set 0 (.int .i64 lv)
      replace b5 := b5.far (p := ⟨w.heap.size + 1, 1, none⟩) (by show _ ≠ (w.heap.size + 1); omega) (.slice V1 n d1)
      replace m1 := m1.fr (fr_one (p := (w.heap.size + 1)) (i := 1) (.slice V1 n d1)) (by omega)
      replace m2 := m2.fr (fr_one (p := (w.heap.size + 1)) (i := 1) (.slice V1 n d1)) (by omega)
      replace kw := Below.setCell kw (p := ⟨w.heap.size + 1, 1, none⟩) (by show _ ≤ (w.heap.size + 1); omega) (.slice V1 n d1)
      replace b4 : Bl ((wr.setCell ⟨w.heap.size + 1, 0, none⟩ (.int .i64 lv)).setCell ⟨w.heap.size + 1, 1, none⟩ (.slice V1 n d1)) (w.heap.size + 1) [.int .i64 lv, .slice V1 n d1, .slice none 0 0, .int .i64 0] := b4.set 1 (.slice V1 n d1)
      replace b5 := b5.far (p := ⟨w.heap.size + 1, 2, none⟩) (by show _ ≠ (w.heap.size + 1); omega) (.slice H1 m d2)
      replace m1 := m1.fr (fr_one (p := (w.heap.size + 1)) (i := 2) (.slice H1 m d2)) (by omega)
      replace m2 := m2.fr (fr_one (p := (w.heap.size + 1)) (i := 2) (.slice H1 m d2)) (by omega)
      replace kw := Below.setCell kw (p := ⟨w.heap.size + 1, 2, none⟩) (by show _ ≤ (w.heap.size + 1); omega) (.slice H1 m d2)
      replace b4 : Bl (((wr.setCell ⟨w.heap.size + 1, 0, none⟩ (.int .i64 lv)).setCell ⟨w.heap.size + 1, 1, none⟩ (.slice V1 n d1)).setCell ⟨w.heap.size + 1, 2, none⟩ (.slice H1 m d2)) (w.heap.size + 1) [.int .i64 lv, .slice V1 n d1, .slice H1 m d2, .int .i64 0] := b4.set 2 (.slice H1 m d2)
      replace b5 := b5.far (p := ⟨w.heap.size + 1, 3, none⟩) (by show _ ≠ (w.heap.size + 1); omega) (.int .i64 sm)
      replace m1 := m1.fr (fr_one (p := (w.heap.size + 1)) (i := 3) (.int .i64 sm)) (by omega)
      replace m2 := m2.fr (fr_one (p := (w.heap.size + 1)) (i := 3) (.int .i64 sm)) (by omega)
      replace kw := Below.setCell kw (p := ⟨w.heap.size + 1, 3, none⟩) (by show _ ≤ (w.heap.size + 1); omega) (.int .i64 sm)
      replace b4 : Bl ((((wr.setCell ⟨w.heap.size + 1, 0, none⟩ (.int .i64 lv)).setCell ⟨w.heap.size + 1, 1, none⟩ (.slice V1 n d1)).setCell ⟨w.heap.size + 1, 2, none⟩ (.slice H1 m d2)).setCell ⟨w.heap.size + 1, 3, none⟩ (.int .i64 sm)) (w.heap.size + 1) [.int .i64 lv, .slice V1 n d1, .slice H1 m d2, .int .i64 sm] := b4.set 3 (.int .i64 sm)
      have TT := hid (show TwM ((((wr.setCell ⟨w.heap.size + 1, 0, none⟩ (.int .i64 lv)).setCell ⟨w.heap.size + 1, 1, none⟩ (.slice V1 n d1)).setCell ⟨w.heap.size + 1, 2, none⟩ (.slice H1 m d2)).setCell ⟨w.heap.size + 1, 3, none⟩ (.int .i64 sm)) w.heap.size ((((wr.setCell ⟨w.heap.size + 1, 0, none⟩ (.int .i64 lv)).setCell ⟨w.heap.size + 1, 1, none⟩ (.slice V1 n d1)).setCell ⟨w.heap.size + 1, 2, none⟩ (.slice H1 m d2)).setCell ⟨w.heap.size + 1, 3, none⟩ (.int .i64 sm)).heap.size V1 n vs H1 m (nmK l ws m m) from ⟨Nat.le_refl _, L1, U1, L2, U2, by omega, m1.1.top, by omega, m2.1.top, dj, m1, m2⟩)
      have HK := hid kw
      clear kw m1 m2
      have hi1 : ¬ (m : Int) < (m : Int) := by omega
      go_wp2_with fail
      clear ca5_0 ca5_1 ca5_2 ca5_3 ca6_0 fa6_0 ca6_1 fa6_1 ca6_2 fa6_2 ca6_3 fa6_3
      have ca0_0 := (b4.2 0 _ rfl).1
      have ca0_1 := (b4.2 1 _ rfl).1
      have ca0_2 := (b4.2 2 _ rfl).1
      have ca0_3 := (b4.2 3 _ rfl).1
      try simp only [Exit.inBlock, Exit.then]
      exact bodyPost_ret (v := .agg #[.int .i64 lv, .slice V1 n d1, .slice H1 m d2, .int .i64 sm]) (by simp [results, Tryz.results126, go_sem, ca0_0, ca0_1, ca0_2, ca0_3]) rfl ⟨_, _, _, _, rfl, TT.out, HK.out⟩
end Go.Proofs.YtlkjhkkfdmjfcaaGreatDoor
namespace Go.Proofs.YtlkjhkkfdmjfcaaGreatDoor
open Go.RowKit Go.Sort
set_option linter.unusedVariables false
set_option linter.unusedSimpArgs false
theorem ne_at {xs ys : List Int} {k : Nat} (h : xs.getD k 0 ≠ ys.getD k 0) : xs ≠ ys := fun e => h (by rw [e])
theorem ne_len {xs ys : List Int} {n m : Nat} (h1 : xs.length = n) (h2 : ys.length = m) (h : n ≠ m) : xs ≠ ys := fun e => h (by rw [← h1, ← h2, e])
/-- Tables of the same meaning. -/
def smB (l : List VV) (t u : TT) : Bool := decide (t.1 = u.1) && decide (t.2.2.2 = u.2.2.2) && decide (t.2.1 = u.2.1) && decide (nmL l t.2.2.1 = nmL l u.2.2.1)
set_option maxRecDepth 100000 in
set_option maxHeartbeats 3200000 in
theorem equalI_any {A B : Option Addr} {lo hi lo' hi' n m c d : Nat} {xs ys : List Int} {w : World} (h : Ints w lo hi A n xs) (h' : Ints w lo' hi' B m ys) :
    Calls Tryz.prog 123 #[.slice A n c, .slice B m d] w fun e w' => e = .returned (.bool (decide (xs = ys))) ∧ Keeps w w' := by
  have hn := h.le
  have hm := h'.le
  have HL := hid h.1
  have HL' := hid h'.1
  obtain ⟨p, HP⟩ : ∃ p, Hid (decide (xs = ys) = p) := ⟨_, rfl⟩
  rw [HP.out]
  by_cases hnm : n = m
  rotate_left
  · obtain rfl : p = false := HP.out.symm.trans (decide_eq_false (ne_len HL.out HL'.out hnm))
    have t0 : ((n : Int) == (m : Int)) = false := by rw [beq_eq_false_iff_ne]; omega
    have t9 : ((n : Int) != (m : Int)) = true := by rw [bne, t0]; rfl
    go_enter Tryz.func123, Tryz.ntmps123
    have kw := keeps_refl w
    go_wp2_with fail
    go_ret
    exact ⟨ret_bool rfl, kw⟩
  subst hnm
  have t0 : ((n : Int) == (n : Int)) = true := by simp
  have t9 : ((n : Int) != (n : Int)) = false := by rw [bne, t0]; rfl
  go_enter Tryz.func123, Tryz.ntmps123
  have kw := keeps_refl w
  go_wp2_with fail
  go_loopw [13] (fun i wr => ∃ k : Nat, k ≤ n ∧ i = .int .i64 k ∧ Hid (∀ j, j < k → xs.getD j 0 = ys.getD j 0) ∧ Keeps w wr) (fun i _ => n - (intOf i).toNat)
  case atStart => exact ⟨0, Nat.zero_le _, rfl, hid (fun j hj => absurd hj (by omega)), kw⟩
  clear kw
  case round =>
    obtain ⟨k, hk, rfl, HK, kw⟩ := hrel
    by_cases hlt : k < n
    · obtain ⟨b, off, x, rfl, _, _, hcx, hx⟩ := (h.keeps kw).at_ hlt
      obtain ⟨b', off', y, rfl, _, _, hcy, hy⟩ := (h'.keeps kw).at_ hlt
      have HX := hid hx.out
      have HY := hid hy.out
      clear hx hy
      have hi1 : (k : Int) < (n : Int) := by omega
      go_wp2_with fail
      have r_hcx := fun d os => cell_regrown hcx d os
      have r_hcy := fun d os => cell_regrown hcy d os
      refine wp_region_quiet_below (by kernel_rfl) (by kernel_rfl) ?_
      iterate 9 (go_big_quiet_step ((first | fail)))
      refine wpQuiet_nil ?_
      intro _ hw'
      obtain ⟨⟨dq, osq⟩, hw''⟩ := hw'
      subst hw''
      clear r_hcx r_hcy
      have kQ := below_regrown wr dq osq
      obtain ⟨wQ1, hwQ⟩ : ∃ u, u = grow (redrawn wr dq) osq := ⟨_, rfl⟩
      rw [← hwQ] at kQ
      rw [← hwQ]
      clear hwQ
      replace kw := Keeps.trans kw kQ
      have sz2 := kw.size
      clear kQ
      clear hcx hcy
      by_cases exy : x = y
      · have t1 : (x == y) = true := by rw [beq_iff_eq]; exact exy
        have t2 : (x != y) = false := by rw [bne, t1]; rfl
        have HN := hid (show ∀ j, j < k + 1 → xs.getD j 0 = ys.getD j 0 from fun j hj => by
          rcases Nat.lt_or_ge j k with h1 | h1
          · exact HK.out j h1
          · obtain rfl : j = k := by omega
            rw [← HX.out, ← HY.out]; exact exy)
        clear exy
        go_wp2_with fail
        go_roundw
        case rel => exact ⟨k + 1, by omega, by go_num, HN, kw⟩
        case measure => simp [intOf]; omega
      have t1 : (x == y) = false := by rw [beq_eq_false_iff_ne]; exact exy
      have t2 : (x != y) = true := by rw [bne, t1]; rfl
      obtain rfl : p = false := HP.out.symm.trans (decide_eq_false (ne_at (k := k) (by rw [← HX.out, ← HY.out]; exact exy)))
      clear exy
      go_wp2_with fail
      go_ret
      exact ⟨ret_bool rfl, kw⟩
    · obtain rfl : n = k := by omega
      have HE := hid (list_ext HL.out HL'.out HK.out)
      obtain rfl : p = true := HP.out.symm.trans (decide_eq_true HE.out)
      go_wp2
      go_ret
      exact ⟨ret_bool rfl, kw⟩
set_option maxRecDepth 100000 in
set_option maxHeartbeats 3200000 in
theorem l1Same_any {A B : Option Addr} {lo hi lo' hi' n m c d : Nat} {xs ys : List Int} {w : World} (h : Ints w lo hi A n xs) (h' : Ints w lo' hi' B m ys) :
    Calls Tryz.prog 127 #[.slice A n c, .slice B m d] w fun e w' => e = .returned (.bool (decide (xs = ys))) ∧ Keeps w w' := by
  have hn := h.le
  have hm := h'.le
  have HL := hid h.1
  have HL' := hid h'.1
  obtain ⟨p, HP⟩ : ∃ p, Hid (decide (xs = ys) = p) := ⟨_, rfl⟩
  rw [HP.out]
  by_cases hnm : n = m
  rotate_left
  · obtain rfl : p = false := HP.out.symm.trans (decide_eq_false (ne_len HL.out HL'.out hnm))
    have t0 : ((n : Int) == (m : Int)) = false := by rw [beq_eq_false_iff_ne]; omega
    have t9 : ((n : Int) != (m : Int)) = true := by rw [bne, t0]; rfl
    go_enter Tryz.func127, Tryz.ntmps127
    have kw := keeps_refl w
    go_wp2_with fail
    go_ret
    exact ⟨ret_bool rfl, kw⟩
  subst hnm
  have t0 : ((n : Int) == (n : Int)) = true := by simp
  have t9 : ((n : Int) != (n : Int)) = false := by rw [bne, t0]; rfl
  go_enter Tryz.func127, Tryz.ntmps127
  have kw := keeps_refl w
  go_wp2_with fail
  go_loopw [13] (fun i wr => ∃ k : Nat, k ≤ n ∧ i = .int .i64 k ∧ Hid (∀ j, j < k → xs.getD j 0 = ys.getD j 0) ∧ Keeps w wr) (fun i _ => n - (intOf i).toNat)
  case atStart => exact ⟨0, Nat.zero_le _, rfl, hid (fun j hj => absurd hj (by omega)), kw⟩
  clear kw
  case round =>
    obtain ⟨k, hk, rfl, HK, kw⟩ := hrel
    by_cases hlt : k < n
    · obtain ⟨b, off, x, rfl, _, _, hcx, hx⟩ := (h.keeps kw).at_ hlt
      obtain ⟨b', off', y, rfl, _, _, hcy, hy⟩ := (h'.keeps kw).at_ hlt
      have HX := hid hx.out
      have HY := hid hy.out
      clear hx hy
      have hi1 : (k : Int) < (n : Int) := by omega
      go_wp2_with fail
      have r_hcx := fun d os => cell_regrown hcx d os
      have r_hcy := fun d os => cell_regrown hcy d os
      refine wp_region_quiet_below (by kernel_rfl) (by kernel_rfl) ?_
      iterate 9 (go_big_quiet_step ((first | fail)))
      refine wpQuiet_nil ?_
      intro _ hw'
      obtain ⟨⟨dq, osq⟩, hw''⟩ := hw'
      subst hw''
      clear r_hcx r_hcy
      have kQ := below_regrown wr dq osq
      obtain ⟨wQ1, hwQ⟩ : ∃ u, u = grow (redrawn wr dq) osq := ⟨_, rfl⟩
      rw [← hwQ] at kQ
      rw [← hwQ]
      clear hwQ
      replace kw := Keeps.trans kw kQ
      have sz2 := kw.size
      clear kQ
      clear hcx hcy
      by_cases exy : x = y
      · have t1 : (x == y) = true := by rw [beq_iff_eq]; exact exy
        have t2 : (x != y) = false := by rw [bne, t1]; rfl
        have HN := hid (show ∀ j, j < k + 1 → xs.getD j 0 = ys.getD j 0 from fun j hj => by
          rcases Nat.lt_or_ge j k with h1 | h1
          · exact HK.out j h1
          · obtain rfl : j = k := by omega
            rw [← HX.out, ← HY.out]; exact exy)
        clear exy
        go_wp2_with fail
        go_roundw
        case rel => exact ⟨k + 1, by omega, by go_num, HN, kw⟩
        case measure => simp [intOf]; omega
      have t1 : (x == y) = false := by rw [beq_eq_false_iff_ne]; exact exy
      have t2 : (x != y) = true := by rw [bne, t1]; rfl
      obtain rfl : p = false := HP.out.symm.trans (decide_eq_false (ne_at (k := k) (by rw [← HX.out, ← HY.out]; exact exy)))
      clear exy
      go_wp2_with fail
      go_ret
      exact ⟨ret_bool rfl, kw⟩
    · obtain rfl : n = k := by omega
      have HE := hid (list_ext HL.out HL'.out HK.out)
      obtain rfl : p = true := HP.out.symm.trans (decide_eq_true HE.out)
      go_wp2
      go_ret
      exact ⟨ret_bool rfl, kw⟩
end Go.Proofs.YtlkjhkkfdmjfcaaGreatDoor
namespace Go.Proofs.YtlkjhkkfdmjfcaaGreatDoor
open Go.RowKit Go.Sort
set_option linter.unusedVariables false
set_option linter.unusedSimpArgs false
theorem step_nt {W : World} {ops : Array Oper} {o : Oper} {a : Act} {K : Act → World → Prop} {Q : Exit → Act → World → Prop} {E : Prop} {A' V H : Option Addr} {lo1 hi1 lo2 hi2 n c m d q e : Nat} {vs ws : List Int} {l : List VV} {lv sm : Int} (hv : Ints W lo1 hi1 V n vs) (hw : Ints W lo2 hi2 H m ws) (h' : Sch W A' q e l) (hlv : LvOk l q) (hW : whB l ws = true)
    (hgd : o.guard = none)
    (hrun : (execOp a.eval o).run Tryz.prog W = .ok (.enter 122 #[.slice A' q e, .agg #[.int .i64 lv, .slice V n c, .slice H m d, .int .i64 sm]]) W)
    (h : ∀ V1 d1 H1 d2 w', TwM w' W.heap.size w'.heap.size V1 n vs H1 m (nmL l ws) → Keeps W w' → K (a.put o.dst (.agg #[.int .i64 lv, .slice V1 n d1, .slice H1 m d2, .int .i64 sm])) w') :
    if Region.wanted o (yielded ops a.tmps) = true then Oper.wp Tryz.prog o a W K Q else E := by
  have hw9 : Region.wanted o (yielded ops a.tmps) = true := by simp [Region.wanted, hgd]
  rw [if_pos hw9]
  unfold Oper.wp
  rw [hrun, Oper.upon_enter]
  refine (normalTable_any hv hw h' hlv hW).mono fun e w' hh => ?_
  obtain ⟨V1, d1, H1, d2, rfl, h1, h3⟩ := hh
  exact h V1 d1 H1 d2 w' h1 h3
set_option maxRecDepth 100000 in
set_option maxHeartbeats 6400000 in
theorem sameMeaning_any {A' V H V' H' : Option Addr} {lo1 hi1 lo2 hi2 lo3 hi3 lo4 hi4 n c m d n' c' m' d' q e : Nat} {vs ws us xs : List Int} {l : List VV} {lv sm lu su : Int} {w : World} (h' : Sch w A' q e l) (hlv : LvOk l q) (hv : Ints w lo1 hi1 V n vs) (hw : Ints w lo2 hi2 H m ws) (hu : Ints w lo3 hi3 V' n' us) (hx : Ints w lo4 hi4 H' m' xs) (hW : whB l ws = true) (hX : whB l xs = true) :
    Calls Tryz.prog 84 #[.slice A' q e, .agg #[.int .i64 lv, .slice V n c, .slice H m d, .int .i64 sm], .agg #[.int .i64 lu, .slice V' n' c', .slice H' m' d', .int .i64 su]] w fun e w' => e = .returned (.bool (smB l (lv, vs, ws, sm) (lu, us, xs, su))) ∧ Keeps w w' := by
  have HLV := hid hlv
  have HW := hid hW
  have HX := hid hX
  clear hlv hW hX
  obtain ⟨p, HP⟩ : ∃ p, Hid (smB l (lv, vs, ws, sm) (lu, us, xs, su) = p) := ⟨_, rfl⟩
  rw [HP.out]
  go_enter Tryz.func84, Tryz.ntmps84
  have kw := keeps_refl w
  replace kw := Keeps.trans kw (keeps_alloc w (.cells #[.int .i64 lv, .slice V n c, .slice H m d, .int .i64 sm] 61))
  have b4 : Bl (w.alloc (.cells #[.int .i64 lv, .slice V n c, .slice H m d, .int .i64 sm] 61)) w.heap.size [.int .i64 lv, .slice V n c, .slice H m d, .int .i64 sm] := Bl.new' (by simp) (by simp)
  replace b4 := b4.keeps (keeps_alloc (w.alloc (.cells #[.int .i64 lv, .slice V n c, .slice H m d, .int .i64 sm] 61)) (.cells #[.int .i64 lu, .slice V' n' c', .slice H' m' d', .int .i64 su] 61))
  replace kw := Keeps.trans kw (keeps_alloc (w.alloc (.cells #[.int .i64 lv, .slice V n c, .slice H m d, .int .i64 sm] 61)) (.cells #[.int .i64 lu, .slice V' n' c', .slice H' m' d', .int .i64 su] 61))
  have b5 : Bl ((w.alloc (.cells #[.int .i64 lv, .slice V n c, .slice H m d, .int .i64 sm] 61)).alloc (.cells #[.int .i64 lu, .slice V' n' c', .slice H' m' d', .int .i64 su] 61)) (w.heap.size + 1) [.int .i64 lu, .slice V' n' c', .slice H' m' d', .int .i64 su] := Bl.new' (by simp) (by simp)
  go_wp2_with fail
  obtain ⟨W, hX⟩ : ∃ u : World, u = ((w.alloc (.cells #[.int .i64 lv, .slice V n c, .slice H m d, .int .i64 sm] 61)).alloc (.cells #[.int .i64 lu, .slice V' n' c', .slice H' m' d', .int .i64 su] 61)) := ⟨_, rfl⟩
  have szX0 := hid (show W.heap.size = w.heap.size + 1 + 1 by rw [hX]; simp)
  rw [← hX] at b4
  rw [← hX] at b5
  rw [← hX] at kw
  rw [← hX]
  clear hX
  have sz2 := kw.size
  have kD := kw.trans (keeps_d0 W)
  have b4D := b4.keeps (keeps_d0 W)
  have b5D := b5.keeps (keeps_d0 W)
  have zp0D : W.drew.cell? ⟨w.heap.size, 0, none⟩ = some (.int .i64 lv) := (b4D.2 0 _ rfl).1
  have yp0D : W.drew.frozen? ⟨w.heap.size, 0, none⟩ = false := (b4D.2 0 _ rfl).2
  have zp1D : W.drew.cell? ⟨w.heap.size, 1, none⟩ = some (.slice V n c) := (b4D.2 1 _ rfl).1
  have yp1D : W.drew.frozen? ⟨w.heap.size, 1, none⟩ = false := (b4D.2 1 _ rfl).2
  have zp2D : W.drew.cell? ⟨w.heap.size, 2, none⟩ = some (.slice H m d) := (b4D.2 2 _ rfl).1
  have yp2D : W.drew.frozen? ⟨w.heap.size, 2, none⟩ = false := (b4D.2 2 _ rfl).2
  have zp3D : W.drew.cell? ⟨w.heap.size, 3, none⟩ = some (.int .i64 sm) := (b4D.2 3 _ rfl).1
  have yp3D : W.drew.frozen? ⟨w.heap.size, 3, none⟩ = false := (b4D.2 3 _ rfl).2
  have zq0D : W.drew.cell? ⟨(w.heap.size + 1), 0, none⟩ = some (.int .i64 lu) := (b5D.2 0 _ rfl).1
  have yq0D : W.drew.frozen? ⟨(w.heap.size + 1), 0, none⟩ = false := (b5D.2 0 _ rfl).2
  have zq1D : W.drew.cell? ⟨(w.heap.size + 1), 1, none⟩ = some (.slice V' n' c') := (b5D.2 1 _ rfl).1
  have yq1D : W.drew.frozen? ⟨(w.heap.size + 1), 1, none⟩ = false := (b5D.2 1 _ rfl).2
  have zq2D : W.drew.cell? ⟨(w.heap.size + 1), 2, none⟩ = some (.slice H' m' d') := (b5D.2 2 _ rfl).1
  have yq2D : W.drew.frozen? ⟨(w.heap.size + 1), 2, none⟩ = false := (b5D.2 2 _ rfl).2
  have zq3D : W.drew.cell? ⟨(w.heap.size + 1), 3, none⟩ = some (.int .i64 su) := (b5D.2 3 _ rfl).1
  have yq3D : W.drew.frozen? ⟨(w.heap.size + 1), 3, none⟩ = false := (b5D.2 3 _ rfl).2
  go_region_law ((first | (refine step_nt (lv := lu) (sm := su) (c := c') (d := d') (e := e) (hu.keeps kWA) (hx.keeps kWA) (h'.keeps kWA) HLV.out HX.out rfl (by kernel_rfl) ?_; intro V2_ d2a H2_ d2b wZ tw2 kZ; have kwZ := kWA.trans kZ; have tw1 := tw1.keeps kZ; have b4Z := b4A.keeps kZ; have b5Z := b5A.keeps kZ; have zp0wZ : wZ.cell? ⟨w.heap.size, 0, none⟩ = some (.int .i64 lv) := (b4Z.2 0 _ rfl).1; have yp0wZ : wZ.frozen? ⟨w.heap.size, 0, none⟩ = false := (b4Z.2 0 _ rfl).2; have zp1wZ : wZ.cell? ⟨w.heap.size, 1, none⟩ = some (.slice V n c) := (b4Z.2 1 _ rfl).1; have yp1wZ : wZ.frozen? ⟨w.heap.size, 1, none⟩ = false := (b4Z.2 1 _ rfl).2; have zp2wZ : wZ.cell? ⟨w.heap.size, 2, none⟩ = some (.slice H m d) := (b4Z.2 2 _ rfl).1; have yp2wZ : wZ.frozen? ⟨w.heap.size, 2, none⟩ = false := (b4Z.2 2 _ rfl).2; have zp3wZ : wZ.cell? ⟨w.heap.size, 3, none⟩ = some (.int .i64 sm) := (b4Z.2 3 _ rfl).1; have yp3wZ : wZ.frozen? ⟨w.heap.size, 3, none⟩ = false := (b4Z.2 3 _ rfl).2; have zq0wZ : wZ.cell? ⟨(w.heap.size + 1), 0, none⟩ = some (.int .i64 lu) := (b5Z.2 0 _ rfl).1; have yq0wZ : wZ.frozen? ⟨(w.heap.size + 1), 0, none⟩ = false := (b5Z.2 0 _ rfl).2; have zq1wZ : wZ.cell? ⟨(w.heap.size + 1), 1, none⟩ = some (.slice V' n' c') := (b5Z.2 1 _ rfl).1; have yq1wZ : wZ.frozen? ⟨(w.heap.size + 1), 1, none⟩ = false := (b5Z.2 1 _ rfl).2; have zq2wZ : wZ.cell? ⟨(w.heap.size + 1), 2, none⟩ = some (.slice H' m' d') := (b5Z.2 2 _ rfl).1; have yq2wZ : wZ.frozen? ⟨(w.heap.size + 1), 2, none⟩ = false := (b5Z.2 2 _ rfl).2; have zq3wZ : wZ.cell? ⟨(w.heap.size + 1), 3, none⟩ = some (.int .i64 su) := (b5Z.2 3 _ rfl).1; have yq3wZ : wZ.frozen? ⟨(w.heap.size + 1), 3, none⟩ = false := (b5Z.2 3 _ rfl).2) | (refine step_nt (lv := lv) (sm := sm) (c := c) (d := d) (e := e) (hv.keeps kWB) (hw.keeps kWB) (h'.keeps kWB) HLV.out HW.out rfl (by kernel_rfl) ?_; intro V1_ d1a H1_ d1b wZ tw1 kZ; have kwZ := kWB.trans kZ; have tw2 := tw2.keeps kZ; have b4Z := b4B.keeps kZ; have b5Z := b5B.keeps kZ; have zp0wZ : wZ.cell? ⟨w.heap.size, 0, none⟩ = some (.int .i64 lv) := (b4Z.2 0 _ rfl).1; have yp0wZ : wZ.frozen? ⟨w.heap.size, 0, none⟩ = false := (b4Z.2 0 _ rfl).2; have zp1wZ : wZ.cell? ⟨w.heap.size, 1, none⟩ = some (.slice V n c) := (b4Z.2 1 _ rfl).1; have yp1wZ : wZ.frozen? ⟨w.heap.size, 1, none⟩ = false := (b4Z.2 1 _ rfl).2; have zp2wZ : wZ.cell? ⟨w.heap.size, 2, none⟩ = some (.slice H m d) := (b4Z.2 2 _ rfl).1; have yp2wZ : wZ.frozen? ⟨w.heap.size, 2, none⟩ = false := (b4Z.2 2 _ rfl).2; have zp3wZ : wZ.cell? ⟨w.heap.size, 3, none⟩ = some (.int .i64 sm) := (b4Z.2 3 _ rfl).1; have yp3wZ : wZ.frozen? ⟨w.heap.size, 3, none⟩ = false := (b4Z.2 3 _ rfl).2; have zq0wZ : wZ.cell? ⟨(w.heap.size + 1), 0, none⟩ = some (.int .i64 lu) := (b5Z.2 0 _ rfl).1; have yq0wZ : wZ.frozen? ⟨(w.heap.size + 1), 0, none⟩ = false := (b5Z.2 0 _ rfl).2; have zq1wZ : wZ.cell? ⟨(w.heap.size + 1), 1, none⟩ = some (.slice V' n' c') := (b5Z.2 1 _ rfl).1; have yq1wZ : wZ.frozen? ⟨(w.heap.size + 1), 1, none⟩ = false := (b5Z.2 1 _ rfl).2; have zq2wZ : wZ.cell? ⟨(w.heap.size + 1), 2, none⟩ = some (.slice H' m' d') := (b5Z.2 2 _ rfl).1; have yq2wZ : wZ.frozen? ⟨(w.heap.size + 1), 2, none⟩ = false := (b5Z.2 2 _ rfl).2; have zq3wZ : wZ.cell? ⟨(w.heap.size + 1), 3, none⟩ = some (.int .i64 su) := (b5Z.2 3 _ rfl).1; have yq3wZ : wZ.frozen? ⟨(w.heap.size + 1), 3, none⟩ = false := (b5Z.2 3 _ rfl).2) | (refine step_nt (lv := lv) (sm := sm) (c := c) (d := d) (e := e) (hv.keeps kD) (hw.keeps kD) (h'.keeps kD) HLV.out HW.out rfl (by kernel_rfl) ?_; intro V1_ d1a H1_ d1b wA tw1 kA; have kWA := kD.trans kA; have b4A := b4D.keeps kA; have b5A := b5D.keeps kA; have zp0wA : wA.cell? ⟨w.heap.size, 0, none⟩ = some (.int .i64 lv) := (b4A.2 0 _ rfl).1; have yp0wA : wA.frozen? ⟨w.heap.size, 0, none⟩ = false := (b4A.2 0 _ rfl).2; have zp1wA : wA.cell? ⟨w.heap.size, 1, none⟩ = some (.slice V n c) := (b4A.2 1 _ rfl).1; have yp1wA : wA.frozen? ⟨w.heap.size, 1, none⟩ = false := (b4A.2 1 _ rfl).2; have zp2wA : wA.cell? ⟨w.heap.size, 2, none⟩ = some (.slice H m d) := (b4A.2 2 _ rfl).1; have yp2wA : wA.frozen? ⟨w.heap.size, 2, none⟩ = false := (b4A.2 2 _ rfl).2; have zp3wA : wA.cell? ⟨w.heap.size, 3, none⟩ = some (.int .i64 sm) := (b4A.2 3 _ rfl).1; have yp3wA : wA.frozen? ⟨w.heap.size, 3, none⟩ = false := (b4A.2 3 _ rfl).2; have zq0wA : wA.cell? ⟨(w.heap.size + 1), 0, none⟩ = some (.int .i64 lu) := (b5A.2 0 _ rfl).1; have yq0wA : wA.frozen? ⟨(w.heap.size + 1), 0, none⟩ = false := (b5A.2 0 _ rfl).2; have zq1wA : wA.cell? ⟨(w.heap.size + 1), 1, none⟩ = some (.slice V' n' c') := (b5A.2 1 _ rfl).1; have yq1wA : wA.frozen? ⟨(w.heap.size + 1), 1, none⟩ = false := (b5A.2 1 _ rfl).2; have zq2wA : wA.cell? ⟨(w.heap.size + 1), 2, none⟩ = some (.slice H' m' d') := (b5A.2 2 _ rfl).1; have yq2wA : wA.frozen? ⟨(w.heap.size + 1), 2, none⟩ = false := (b5A.2 2 _ rfl).2; have zq3wA : wA.cell? ⟨(w.heap.size + 1), 3, none⟩ = some (.int .i64 su) := (b5A.2 3 _ rfl).1; have yq3wA : wA.frozen? ⟨(w.heap.size + 1), 3, none⟩ = false := (b5A.2 3 _ rfl).2) | (refine step_nt (lv := lu) (sm := su) (c := c') (d := d') (e := e) (hu.keeps kD) (hx.keeps kD) (h'.keeps kD) HLV.out HX.out rfl (by kernel_rfl) ?_; intro V2_ d2a H2_ d2b wB tw2 kB; have kWB := kD.trans kB; have b4B := b4D.keeps kB; have b5B := b5D.keeps kB; have zp0wB : wB.cell? ⟨w.heap.size, 0, none⟩ = some (.int .i64 lv) := (b4B.2 0 _ rfl).1; have yp0wB : wB.frozen? ⟨w.heap.size, 0, none⟩ = false := (b4B.2 0 _ rfl).2; have zp1wB : wB.cell? ⟨w.heap.size, 1, none⟩ = some (.slice V n c) := (b4B.2 1 _ rfl).1; have yp1wB : wB.frozen? ⟨w.heap.size, 1, none⟩ = false := (b4B.2 1 _ rfl).2; have zp2wB : wB.cell? ⟨w.heap.size, 2, none⟩ = some (.slice H m d) := (b4B.2 2 _ rfl).1; have yp2wB : wB.frozen? ⟨w.heap.size, 2, none⟩ = false := (b4B.2 2 _ rfl).2; have zp3wB : wB.cell? ⟨w.heap.size, 3, none⟩ = some (.int .i64 sm) := (b4B.2 3 _ rfl).1; have yp3wB : wB.frozen? ⟨w.heap.size, 3, none⟩ = false := (b4B.2 3 _ rfl).2; have zq0wB : wB.cell? ⟨(w.heap.size + 1), 0, none⟩ = some (.int .i64 lu) := (b5B.2 0 _ rfl).1; have yq0wB : wB.frozen? ⟨(w.heap.size + 1), 0, none⟩ = false := (b5B.2 0 _ rfl).2; have zq1wB : wB.cell? ⟨(w.heap.size + 1), 1, none⟩ = some (.slice V' n' c') := (b5B.2 1 _ rfl).1; have yq1wB : wB.frozen? ⟨(w.heap.size + 1), 1, none⟩ = false := (b5B.2 1 _ rfl).2; have zq2wB : wB.cell? ⟨(w.heap.size + 1), 2, none⟩ = some (.slice H' m' d') := (b5B.2 2 _ rfl).1; have yq2wB : wB.frozen? ⟨(w.heap.size + 1), 2, none⟩ = false := (b5B.2 2 _ rfl).2; have zq3wB : wB.cell? ⟨(w.heap.size + 1), 3, none⟩ = some (.int .i64 su) := (b5B.2 3 _ rfl).1; have yq3wB : wB.frozen? ⟨(w.heap.size + 1), 3, none⟩ = false := (b5B.2 3 _ rfl).2)))
  all_goals (
    have hi9 : W.drew.heap.size = w.heap.size + 1 + 1 := szX0.out
    have i1 := tw1.a
    have i2 := tw1.b
    have i3 := tw2.a
    have i4 := tw2.b
    have sA := kwZ.size
    (try have sB := kA.size)
    (try have sC := kB.size)
    clear tw1 tw2
    replace b5Z := b5Z.far (p := ⟨w.heap.size, 0, none⟩) (by show _ ≠ w.heap.size; omega) (.int .i64 lv)
    replace i1 := i1.fr (fr_one (p := w.heap.size) (i := 0) (.int .i64 lv)) (by omega)
    replace i2 := i2.fr (fr_one (p := w.heap.size) (i := 0) (.int .i64 lv)) (by omega)
    replace i3 := i3.fr (fr_one (p := w.heap.size) (i := 0) (.int .i64 lv)) (by omega)
    replace i4 := i4.fr (fr_one (p := w.heap.size) (i := 0) (.int .i64 lv)) (by omega)
    replace kwZ := Below.setCell kwZ (p := ⟨w.heap.size, 0, none⟩) (by show _ ≤ w.heap.size; omega) (.int .i64 lv)
    replace b4Z : Bl (wZ.setCell ⟨w.heap.size, 0, none⟩ (.int .i64 lv)) w.heap.size [.int .i64 lv, .slice V n c, .slice H m d, .int .i64 sm] := b4Z.set 0 (.int .i64 lv)
    replace b5Z := b5Z.far (p := ⟨w.heap.size, 1, none⟩) (by show _ ≠ w.heap.size; omega) (.slice V1_ n d1a)
    replace i1 := i1.fr (fr_one (p := w.heap.size) (i := 1) (.slice V1_ n d1a)) (by omega)
    replace i2 := i2.fr (fr_one (p := w.heap.size) (i := 1) (.slice V1_ n d1a)) (by omega)
    replace i3 := i3.fr (fr_one (p := w.heap.size) (i := 1) (.slice V1_ n d1a)) (by omega)
    replace i4 := i4.fr (fr_one (p := w.heap.size) (i := 1) (.slice V1_ n d1a)) (by omega)
    replace kwZ := Below.setCell kwZ (p := ⟨w.heap.size, 1, none⟩) (by show _ ≤ w.heap.size; omega) (.slice V1_ n d1a)
    replace b4Z : Bl ((wZ.setCell ⟨w.heap.size, 0, none⟩ (.int .i64 lv)).setCell ⟨w.heap.size, 1, none⟩ (.slice V1_ n d1a)) w.heap.size [.int .i64 lv, .slice V1_ n d1a, .slice H m d, .int .i64 sm] := b4Z.set 1 (.slice V1_ n d1a)
    replace b5Z := b5Z.far (p := ⟨w.heap.size, 2, none⟩) (by show _ ≠ w.heap.size; omega) (.slice H1_ m d1b)
    replace i1 := i1.fr (fr_one (p := w.heap.size) (i := 2) (.slice H1_ m d1b)) (by omega)
    replace i2 := i2.fr (fr_one (p := w.heap.size) (i := 2) (.slice H1_ m d1b)) (by omega)
    replace i3 := i3.fr (fr_one (p := w.heap.size) (i := 2) (.slice H1_ m d1b)) (by omega)
    replace i4 := i4.fr (fr_one (p := w.heap.size) (i := 2) (.slice H1_ m d1b)) (by omega)
    replace kwZ := Below.setCell kwZ (p := ⟨w.heap.size, 2, none⟩) (by show _ ≤ w.heap.size; omega) (.slice H1_ m d1b)
    replace b4Z : Bl (((wZ.setCell ⟨w.heap.size, 0, none⟩ (.int .i64 lv)).setCell ⟨w.heap.size, 1, none⟩ (.slice V1_ n d1a)).setCell ⟨w.heap.size, 2, none⟩ (.slice H1_ m d1b)) w.heap.size [.int .i64 lv, .slice V1_ n d1a, .slice H1_ m d1b, .int .i64 sm] := b4Z.set 2 (.slice H1_ m d1b)
    replace b5Z := b5Z.far (p := ⟨w.heap.size, 3, none⟩) (by show _ ≠ w.heap.size; omega) (.int .i64 sm)
    replace i1 := i1.fr (fr_one (p := w.heap.size) (i := 3) (.int .i64 sm)) (by omega)
    replace i2 := i2.fr (fr_one (p := w.heap.size) (i := 3) (.int .i64 sm)) (by omega)
    replace i3 := i3.fr (fr_one (p := w.heap.size) (i := 3) (.int .i64 sm)) (by omega)
    replace i4 := i4.fr (fr_one (p := w.heap.size) (i := 3) (.int .i64 sm)) (by omega)
    replace kwZ := Below.setCell kwZ (p := ⟨w.heap.size, 3, none⟩) (by show _ ≤ w.heap.size; omega) (.int .i64 sm)
    replace b4Z : Bl ((((wZ.setCell ⟨w.heap.size, 0, none⟩ (.int .i64 lv)).setCell ⟨w.heap.size, 1, none⟩ (.slice V1_ n d1a)).setCell ⟨w.heap.size, 2, none⟩ (.slice H1_ m d1b)).setCell ⟨w.heap.size, 3, none⟩ (.int .i64 sm)) w.heap.size [.int .i64 lv, .slice V1_ n d1a, .slice H1_ m d1b, .int .i64 sm] := b4Z.set 3 (.int .i64 sm)
    replace b4Z := b4Z.far (p := ⟨(w.heap.size + 1), 0, none⟩) (by show _ ≠ (w.heap.size + 1); omega) (.int .i64 lu)
    replace i1 := i1.fr (fr_one (p := (w.heap.size + 1)) (i := 0) (.int .i64 lu)) (by omega)
    replace i2 := i2.fr (fr_one (p := (w.heap.size + 1)) (i := 0) (.int .i64 lu)) (by omega)
    replace i3 := i3.fr (fr_one (p := (w.heap.size + 1)) (i := 0) (.int .i64 lu)) (by omega)
    replace i4 := i4.fr (fr_one (p := (w.heap.size + 1)) (i := 0) (.int .i64 lu)) (by omega)
    replace kwZ := Below.setCell kwZ (p := ⟨(w.heap.size + 1), 0, none⟩) (by show _ ≤ (w.heap.size + 1); omega) (.int .i64 lu)
    replace b5Z : Bl (((((wZ.setCell ⟨w.heap.size, 0, none⟩ (.int .i64 lv)).setCell ⟨w.heap.size, 1, none⟩ (.slice V1_ n d1a)).setCell ⟨w.heap.size, 2, none⟩ (.slice H1_ m d1b)).setCell ⟨w.heap.size, 3, none⟩ (.int .i64 sm)).setCell ⟨(w.heap.size + 1), 0, none⟩ (.int .i64 lu)) (w.heap.size + 1) [.int .i64 lu, .slice V' n' c', .slice H' m' d', .int .i64 su] := b5Z.set 0 (.int .i64 lu)
    replace b4Z := b4Z.far (p := ⟨(w.heap.size + 1), 1, none⟩) (by show _ ≠ (w.heap.size + 1); omega) (.slice V2_ n' d2a)
    replace i1 := i1.fr (fr_one (p := (w.heap.size + 1)) (i := 1) (.slice V2_ n' d2a)) (by omega)
    replace i2 := i2.fr (fr_one (p := (w.heap.size + 1)) (i := 1) (.slice V2_ n' d2a)) (by omega)
    replace i3 := i3.fr (fr_one (p := (w.heap.size + 1)) (i := 1) (.slice V2_ n' d2a)) (by omega)
    replace i4 := i4.fr (fr_one (p := (w.heap.size + 1)) (i := 1) (.slice V2_ n' d2a)) (by omega)
    replace kwZ := Below.setCell kwZ (p := ⟨(w.heap.size + 1), 1, none⟩) (by show _ ≤ (w.heap.size + 1); omega) (.slice V2_ n' d2a)
    replace b5Z : Bl ((((((wZ.setCell ⟨w.heap.size, 0, none⟩ (.int .i64 lv)).setCell ⟨w.heap.size, 1, none⟩ (.slice V1_ n d1a)).setCell ⟨w.heap.size, 2, none⟩ (.slice H1_ m d1b)).setCell ⟨w.heap.size, 3, none⟩ (.int .i64 sm)).setCell ⟨(w.heap.size + 1), 0, none⟩ (.int .i64 lu)).setCell ⟨(w.heap.size + 1), 1, none⟩ (.slice V2_ n' d2a)) (w.heap.size + 1) [.int .i64 lu, .slice V2_ n' d2a, .slice H' m' d', .int .i64 su] := b5Z.set 1 (.slice V2_ n' d2a)
    replace b4Z := b4Z.far (p := ⟨(w.heap.size + 1), 2, none⟩) (by show _ ≠ (w.heap.size + 1); omega) (.slice H2_ m' d2b)
    replace i1 := i1.fr (fr_one (p := (w.heap.size + 1)) (i := 2) (.slice H2_ m' d2b)) (by omega)
    replace i2 := i2.fr (fr_one (p := (w.heap.size + 1)) (i := 2) (.slice H2_ m' d2b)) (by omega)
    replace i3 := i3.fr (fr_one (p := (w.heap.size + 1)) (i := 2) (.slice H2_ m' d2b)) (by omega)
    replace i4 := i4.fr (fr_one (p := (w.heap.size + 1)) (i := 2) (.slice H2_ m' d2b)) (by omega)
    replace kwZ := Below.setCell kwZ (p := ⟨(w.heap.size + 1), 2, none⟩) (by show _ ≤ (w.heap.size + 1); omega) (.slice H2_ m' d2b)
    replace b5Z : Bl (((((((wZ.setCell ⟨w.heap.size, 0, none⟩ (.int .i64 lv)).setCell ⟨w.heap.size, 1, none⟩ (.slice V1_ n d1a)).setCell ⟨w.heap.size, 2, none⟩ (.slice H1_ m d1b)).setCell ⟨w.heap.size, 3, none⟩ (.int .i64 sm)).setCell ⟨(w.heap.size + 1), 0, none⟩ (.int .i64 lu)).setCell ⟨(w.heap.size + 1), 1, none⟩ (.slice V2_ n' d2a)).setCell ⟨(w.heap.size + 1), 2, none⟩ (.slice H2_ m' d2b)) (w.heap.size + 1) [.int .i64 lu, .slice V2_ n' d2a, .slice H2_ m' d2b, .int .i64 su] := b5Z.set 2 (.slice H2_ m' d2b)
    replace b4Z := b4Z.far (p := ⟨(w.heap.size + 1), 3, none⟩) (by show _ ≠ (w.heap.size + 1); omega) (.int .i64 su)
    replace i1 := i1.fr (fr_one (p := (w.heap.size + 1)) (i := 3) (.int .i64 su)) (by omega)
    replace i2 := i2.fr (fr_one (p := (w.heap.size + 1)) (i := 3) (.int .i64 su)) (by omega)
    replace i3 := i3.fr (fr_one (p := (w.heap.size + 1)) (i := 3) (.int .i64 su)) (by omega)
    replace i4 := i4.fr (fr_one (p := (w.heap.size + 1)) (i := 3) (.int .i64 su)) (by omega)
    replace kwZ := Below.setCell kwZ (p := ⟨(w.heap.size + 1), 3, none⟩) (by show _ ≤ (w.heap.size + 1); omega) (.int .i64 su)
    replace b5Z : Bl ((((((((wZ.setCell ⟨w.heap.size, 0, none⟩ (.int .i64 lv)).setCell ⟨w.heap.size, 1, none⟩ (.slice V1_ n d1a)).setCell ⟨w.heap.size, 2, none⟩ (.slice H1_ m d1b)).setCell ⟨w.heap.size, 3, none⟩ (.int .i64 sm)).setCell ⟨(w.heap.size + 1), 0, none⟩ (.int .i64 lu)).setCell ⟨(w.heap.size + 1), 1, none⟩ (.slice V2_ n' d2a)).setCell ⟨(w.heap.size + 1), 2, none⟩ (.slice H2_ m' d2b)).setCell ⟨(w.heap.size + 1), 3, none⟩ (.int .i64 su)) (w.heap.size + 1) [.int .i64 lu, .slice V2_ n' d2a, .slice H2_ m' d2b, .int .i64 su] := b5Z.set 3 (.int .i64 su)
    (try clear kA)
    (try clear kB)
    (try clear kWA)
    (try clear kWB)
    clear kZ kD b4D b5D
    (try clear b4A b5A)
    (try clear b4B b5B)
    clear zp0D zp0wZ zp1D zp1wZ zp2D zp2wZ zp3D zp3wZ zq0D zq0wZ zq1D zq1wZ zq2D zq2wZ zq3D zq3wZ yp0D yp0wZ yp1D yp1wZ yp2D yp2wZ yp3D yp3wZ yq0D yq0wZ yq1D yq1wZ yq2D yq2wZ yq3D yq3wZ
    (try clear zp0wA zp1wA zp2wA zp3wA zq0wA zq1wA zq2wA zq3wA yp0wA yp1wA yp2wA yp3wA yq0wA yq1wA yq2wA yq3wA)
    (try clear zp0wB zp1wB zp2wB zp3wB zq0wB zq1wB zq2wB zq3wB yp0wB yp1wB yp2wB yp3wB yq0wB yq1wB yq2wB yq3wB)
    obtain ⟨wS, hX⟩ : ∃ u : World, u = ((((((((wZ.setCell ⟨w.heap.size, 0, none⟩ (.int .i64 lv)).setCell ⟨w.heap.size, 1, none⟩ (.slice V1_ n d1a)).setCell ⟨w.heap.size, 2, none⟩ (.slice H1_ m d1b)).setCell ⟨w.heap.size, 3, none⟩ (.int .i64 sm)).setCell ⟨(w.heap.size + 1), 0, none⟩ (.int .i64 lu)).setCell ⟨(w.heap.size + 1), 1, none⟩ (.slice V2_ n' d2a)).setCell ⟨(w.heap.size + 1), 2, none⟩ (.slice H2_ m' d2b)).setCell ⟨(w.heap.size + 1), 3, none⟩ (.int .i64 su)) := ⟨_, rfl⟩
    have szX2 := hid (show wS.heap.size = wZ.heap.size by rw [hX]; simp)
    rw [← hX] at b4Z
    rw [← hX] at b5Z
    rw [← hX] at i1
    rw [← hX] at i2
    rw [← hX] at i3
    rw [← hX] at i4
    rw [← hX] at kwZ
    rw [← hX]
    clear hX
    have sz4 := kwZ.size
    have HPP := hid (show smB l (lv, vs, ws, sm) (lu, us, xs, su) = (decide (lv = lu) && decide (sm = su) && decide (vs = us) && decide (nmL l ws = nmL l xs)) from rfl)
    by_cases e1 : lv = lu
    rotate_left
    · have t1 : (lv == lu) = false := by rw [beq_eq_false_iff_ne]; exact e1
      obtain rfl : p = false := HP.out.symm.trans (HPP.out.trans (by rw [decide_eq_false e1]; rfl))
      have ca5_0 := (b4Z.2 0 _ rfl).1
      have ca5_1 := (b4Z.2 1 _ rfl).1
      have ca5_2 := (b4Z.2 2 _ rfl).1
      have ca5_3 := (b4Z.2 3 _ rfl).1
      have ca6_0 := (b5Z.2 0 _ rfl).1
      have ca6_1 := (b5Z.2 1 _ rfl).1
      have ca6_2 := (b5Z.2 2 _ rfl).1
      have ca6_3 := (b5Z.2 3 _ rfl).1
      go_wp2_with fail
      clear ca5_0 ca5_1 ca5_2 ca5_3 ca6_0 ca6_1 ca6_2 ca6_3
      go_ret
      exact ⟨ret_bool rfl, kwZ⟩
    have t1 : (lv == lu) = true := by rw [beq_iff_eq]; exact e1
    by_cases e2 : sm = su
    rotate_left
    · have t2 : (sm == su) = false := by rw [beq_eq_false_iff_ne]; exact e2
      obtain rfl : p = false := HP.out.symm.trans (HPP.out.trans (by rw [decide_eq_false e2]; simp))
      have ca5_0 := (b4Z.2 0 _ rfl).1
      have ca5_1 := (b4Z.2 1 _ rfl).1
      have ca5_2 := (b4Z.2 2 _ rfl).1
      have ca5_3 := (b4Z.2 3 _ rfl).1
      have ca6_0 := (b5Z.2 0 _ rfl).1
      have ca6_1 := (b5Z.2 1 _ rfl).1
      have ca6_2 := (b5Z.2 2 _ rfl).1
      have ca6_3 := (b5Z.2 3 _ rfl).1
      go_wp2_with fail
      clear ca5_0 ca5_1 ca5_2 ca5_3 ca6_0 ca6_1 ca6_2 ca6_3
      go_ret
      exact ⟨ret_bool rfl, kwZ⟩
    have t2 : (sm == su) = true := by rw [beq_iff_eq]; exact e2
    have HPQ := hid (HPP.out.trans (show _ = (decide (vs = us) && decide (nmL l ws = nmL l xs)) by rw [decide_eq_true e1, decide_eq_true e2]; rfl))
    clear e1 e2
    have ca5_0 := (b4Z.2 0 _ rfl).1
    have ca5_1 := (b4Z.2 1 _ rfl).1
    have ca5_2 := (b4Z.2 2 _ rfl).1
    have ca5_3 := (b4Z.2 3 _ rfl).1
    have ca6_0 := (b5Z.2 0 _ rfl).1
    have ca6_1 := (b5Z.2 1 _ rfl).1
    have ca6_2 := (b5Z.2 2 _ rfl).1
    have ca6_3 := (b5Z.2 3 _ rfl).1
    go_wp2_with fail
    clear ca5_0 ca5_1 ca5_2 ca5_3 ca6_0 ca6_1 ca6_2 ca6_3
    obtain ⟨r, HR⟩ : ∃ r, Hid (decide (vs = us) = r) := ⟨_, rfl⟩
    refine (equalI_any i1 i3).mono ?_
    rintro e w7 ⟨rfl, k7⟩
    rw [HR.out]
    replace b4Z := b4Z.keeps k7
    replace b5Z := b5Z.keeps k7
    replace i1 := i1.keeps k7
    replace i2 := i2.keeps k7
    replace i3 := i3.keeps k7
    replace i4 := i4.keeps k7
    replace kwZ := Keeps.trans kwZ k7
    have lt8 := b5Z.lt
    have sz9 := kwZ.size
    clear k7
    cases r
    · obtain rfl : p = false := HP.out.symm.trans (HPQ.out.trans (by rw [HR.out]; rfl))
      have ca10_0 := (b4Z.2 0 _ rfl).1
      have ca10_1 := (b4Z.2 1 _ rfl).1
      have ca10_2 := (b4Z.2 2 _ rfl).1
      have ca10_3 := (b4Z.2 3 _ rfl).1
      have ca11_0 := (b5Z.2 0 _ rfl).1
      have ca11_1 := (b5Z.2 1 _ rfl).1
      have ca11_2 := (b5Z.2 2 _ rfl).1
      have ca11_3 := (b5Z.2 3 _ rfl).1
      go_wp2_with fail
      clear ca10_0 ca10_1 ca10_2 ca10_3 ca11_0 ca11_1 ca11_2 ca11_3
      go_ret
      exact ⟨ret_bool rfl, kwZ⟩
    have ca10_0 := (b4Z.2 0 _ rfl).1
    have ca10_1 := (b4Z.2 1 _ rfl).1
    have ca10_2 := (b4Z.2 2 _ rfl).1
    have ca10_3 := (b4Z.2 3 _ rfl).1
    have ca11_0 := (b5Z.2 0 _ rfl).1
    have ca11_1 := (b5Z.2 1 _ rfl).1
    have ca11_2 := (b5Z.2 2 _ rfl).1
    have ca11_3 := (b5Z.2 3 _ rfl).1
    go_wp2_with fail
    clear ca10_0 ca10_1 ca10_2 ca10_3 ca11_0 ca11_1 ca11_2 ca11_3
    obtain rfl : p = decide (nmL l ws = nmL l xs) := HP.out.symm.trans (HPQ.out.trans (by rw [HR.out]; rfl))
    refine (equalI_any i2 i4).mono ?_
    rintro e w12 ⟨rfl, k12⟩
    replace b4Z := b4Z.keeps k12
    replace b5Z := b5Z.keeps k12
    replace i1 := i1.keeps k12
    replace i2 := i2.keeps k12
    replace i3 := i3.keeps k12
    replace i4 := i4.keeps k12
    replace kwZ := Keeps.trans kwZ k12
    have lt13 := b5Z.lt
    have sz14 := kwZ.size
    clear k12
    go_wp2_with fail
    go_ret
    exact ⟨ret_bool rfl, kwZ⟩)
end Go.Proofs.YtlkjhkkfdmjfcaaGreatDoor
namespace Go.Proofs.YtlkjhkkfdmjfcaaGreatDoor
open Go.RowKit Go.Sort
set_option linter.unusedVariables false
set_option linter.unusedSimpArgs false
section
variable {W X : World}
theorem calls_at {P : Program} {f : FuncId} {args : Array Value} {R : Ending → World → Prop} (h : ∀ X, X = W → Calls P f args X R) : Calls P f args W R := h W rfl
theorem keeps_al {O : Obj} (k : Keeps W X) : Keeps W (X.alloc O) := k.trans (keeps_alloc _ _)
theorem keeps_dr (k : Keeps W X) : Keeps W X.drew := k.trans (keeps_d0 _)
theorem keeps_s1 {g i : Nat} {v : Value} (k : Keeps W X) (h : W.heap.size ≤ g) : Keeps W (X.setCell ⟨g, i, none⟩ v) := Below.setCell k (p := ⟨g, i, none⟩) h v
theorem bl_dr {g : Nat} {vs : List Value} (h : Bl X g vs) : Bl X.drew g vs := h
theorem bl_al {g : Nat} {vs : List Value} {O : Obj} (h : Bl X g vs) : Bl (X.alloc O) g vs := h.keeps (keeps_alloc _ _)
theorem bl_s1 {g p i : Nat} {v : Value} {vs : List Value} (h : Bl X g vs) (e : g ≠ p) : Bl (X.setCell ⟨p, i, none⟩ v) g vs := h.far (p := ⟨p, i, none⟩) e v
theorem bl_p4 {g : Nat} {z0 z1 z2 z3 a b c d : Value} (h : Bl X g [z0, z1, z2, z3]) : Bl ((((X.setCell ⟨g, 0, none⟩ a).setCell ⟨g, 1, none⟩ b).setCell ⟨g, 2, none⟩ c).setCell ⟨g, 3, none⟩ d) g [a, b, c, d] := (((h.set 0 a).set 1 b).set 2 c).set 3 d
theorem bl_p4z {g : Nat} {a b c d : Value} (h : Bl X g [.int .i64 0, .slice none 0 0, .slice none 0 0, .int .i64 0]) : Bl ((((X.setCell ⟨g, 0, none⟩ a).setCell ⟨g, 1, none⟩ b).setCell ⟨g, 2, none⟩ c).setCell ⟨g, 3, none⟩ d) g [a, b, c, d] := bl_p4 h
theorem bl_nw {g : Nat} {a b c d : Value} {ty : TypeId} (e : X.heap.size = g) : Bl (X.alloc (.cells #[a, b, c, d] ty)) g [a, b, c, d] := Bl.new' e (by simp)
theorem nsz0 (h : X = W) : X.heap.size = W.heap.size + 0 := by subst h; rfl
theorem kx0 (h : X = W) : Keeps W X := by subst h; exact keeps_refl _
theorem ob0 {g : Nat} {vs : List Value} (h : X = W) (b : Bl W g vs) : Bl X g vs := by subst h; exact b
theorem nsz0d (h : X = W.drew) : X.heap.size = W.heap.size + 0 := by subst h; rfl
theorem kx0d (h : X = W.drew) : Keeps W X := by subst h; exact keeps_dr (keeps_refl _)
theorem nsz1 {O : Obj} (h : X = W.alloc O) : X.heap.size = W.heap.size + 1 := by subst h; simp
theorem kx1 {O : Obj} (h : X = W.alloc O) : Keeps W X := by subst h; exact keeps_alloc _ _
theorem ob1 {O : Obj} {g : Nat} {vs : List Value} (h : X = W.alloc O) (b : Bl W g vs) : Bl X g vs := by subst h; exact b.keeps (keeps_alloc _ _)
theorem nsz1d {O : Obj} (h : X = (W.alloc O).drew) : X.heap.size = W.heap.size + 1 := by subst h; simp
theorem kx1d {O : Obj} (h : X = (W.alloc O).drew) : Keeps W X := by subst h; exact keeps_dr (keeps_alloc _ _)
theorem nsz2 {O O' : Obj} (h : X = (W.alloc O).alloc O') : X.heap.size = W.heap.size + 2 := by subst h; simp
theorem kx2 {O O' : Obj} (h : X = (W.alloc O).alloc O') : Keeps W X := by subst h; exact (keeps_alloc _ _).trans (keeps_alloc _ _)
theorem nsz2d {O O' : Obj} (h : X = ((W.alloc O).alloc O').drew) : X.heap.size = W.heap.size + 2 := by subst h; simp
theorem kx2d {O O' : Obj} (h : X = ((W.alloc O).alloc O').drew) : Keeps W X := by subst h; exact keeps_dr ((keeps_alloc _ _).trans (keeps_alloc _ _))
theorem nb1 {a b c d : Value} {ty : TypeId} (h : X = W.alloc (.cells #[a, b, c, d] ty)) : Bl X W.heap.size [a, b, c, d] := by subst h; exact bl_nw rfl
theorem nb2a {O : Obj} {a b c d : Value} {ty : TypeId} (h : X = (W.alloc (.cells #[a, b, c, d] ty)).alloc O) : Bl X W.heap.size [a, b, c, d] := by subst h; exact bl_al (bl_nw rfl)
theorem nb2b {O : Obj} {a b c d : Value} {ty : TypeId} (h : X = (W.alloc O).alloc (.cells #[a, b, c, d] ty)) : Bl X (W.heap.size + 1) [a, b, c, d] := by subst h; exact bl_nw (by simp)
theorem nb1d {a b c d : Value} {ty : TypeId} (h : X = (W.alloc (.cells #[a, b, c, d] ty)).drew) : Bl X W.heap.size [a, b, c, d] := by subst h; exact bl_dr (bl_nw rfl)
theorem nb2ad {O : Obj} {a b c d : Value} {ty : TypeId} (h : X = ((W.alloc (.cells #[a, b, c, d] ty)).alloc O).drew) : Bl X W.heap.size [a, b, c, d] := by subst h; exact bl_dr (bl_al (bl_nw rfl))
theorem nb2bd {O : Obj} {a b c d : Value} {ty : TypeId} (h : X = ((W.alloc O).alloc (.cells #[a, b, c, d] ty)).drew) : Bl X (W.heap.size + 1) [a, b, c, d] := by subst h; exact bl_dr (bl_nw (by simp))
theorem fr_s4 {p : Nat} {a b c d : Value} : Fr p (p + 1) X ((((X.setCell ⟨p, 0, none⟩ a).setCell ⟨p, 1, none⟩ b).setCell ⟨p, 2, none⟩ c).setCell ⟨p, 3, none⟩ d) := (((fr_one a).trans (fr_one b)).trans (fr_one c)).trans (fr_one d)
theorem keeps_s4 {p : Nat} {a b c d : Value} (k : Keeps W X) (h : W.heap.size ≤ p) : Keeps W ((((X.setCell ⟨p, 0, none⟩ a).setCell ⟨p, 1, none⟩ b).setCell ⟨p, 2, none⟩ c).setCell ⟨p, 3, none⟩ d) := keeps_s1 (keeps_s1 (keeps_s1 (keeps_s1 k h) h) h) h
theorem bl_s4 {g p : Nat} {a b c d : Value} {vs : List Value} (h : Bl X g vs) (e : g ≠ p) : Bl ((((X.setCell ⟨p, 0, none⟩ a).setCell ⟨p, 1, none⟩ b).setCell ⟨p, 2, none⟩ c).setCell ⟨p, 3, none⟩ d) g vs := bl_s1 (bl_s1 (bl_s1 (bl_s1 h e) e) e) e
structure PairI (X : World) (lo hi n m : Nat) (A B : Option Addr) (xs ys : List Int) : Prop where
  a : Ints X lo hi A n xs
  b : Ints X lo hi B m ys
theorem in_al {lo hi n m : Nat} {A B : Option Addr} {xs ys : List Int} {O : Obj} (h : PairI X lo hi n m A B xs ys) : PairI (X.alloc O) lo hi n m A B xs ys := ⟨h.a.keeps (keeps_alloc _ _), h.b.keeps (keeps_alloc _ _)⟩
theorem in_kp {lo hi n m : Nat} {A B : Option Addr} {xs ys : List Int} {Y : World} (h : PairI X lo hi n m A B xs ys) (k : Keeps X Y) : PairI Y lo hi n m A B xs ys := ⟨h.a.keeps k, h.b.keeps k⟩
theorem in_s4 {lo hi n m p : Nat} {A B : Option Addr} {xs ys : List Int} {a b c d : Value} (h : PairI X lo hi n m A B xs ys) (e : p < lo ∨ hi ≤ p) : PairI ((((X.setCell ⟨p, 0, none⟩ a).setCell ⟨p, 1, none⟩ b).setCell ⟨p, 2, none⟩ c).setCell ⟨p, 3, none⟩ d) lo hi n m A B xs ys := ⟨h.a.fr fr_s4 (by omega), h.b.fr fr_s4 (by omega)⟩
theorem bl_grown {g : Nat} {vs : List Value} {r : Option Nat} (h : Bl W g vs) (hg : W.grownBy X r) (hne : r ≠ some g) : Bl X g vs := by
  have hb := hg.block g h.1 (fun e => hne e.symm)
  refine ⟨Nat.lt_of_lt_of_le h.1 hg.size, fun j v hj => ?_⟩
  obtain ⟨h1, h2⟩ := h.2 j v hj
  exact ⟨(World.cell?_of_block (a := ⟨g, j, none⟩) hb).trans h1, (World.frozen?_of_block (a := ⟨g, j, none⟩) hb).trans h2⟩
theorem b1_grown {g : Nat} {v : Value} {r : Option Nat} (h : B1 W g v) (hg : W.grownBy X r) (hne : r ≠ some g) : B1 X g v := by
  have hb := hg.block g h.lt (fun e => hne e.symm)
  exact ⟨(World.cell?_of_block (a := ⟨g, 0, none⟩) hb).trans h.1, (World.frozen?_of_block (a := ⟨g, 0, none⟩) hb).trans h.2⟩
end
end Go.Proofs.YtlkjhkkfdmjfcaaGreatDoor
namespace Go.Proofs.YtlkjhkkfdmjfcaaGreatDoor
open Go.RowKit Go.Sort
set_option linter.unusedVariables false
set_option linter.unusedSimpArgs false
/-- Two normal tables in boxes of their own. -/
structure NsR (W : World) (lv sm lu su : Int) (n m n' m' : Nat) (vs ws us xs : List Int) (s7 s8 : Value) (w' : World) : Prop where
  ex : ∃ g7 g8 V1 d1 H1 d2 V2 d3 H2 d4 l1 u1 l2 u2, s7 = .pointer (some ⟨g7, 0, none⟩) ∧ s8 = .pointer (some ⟨g8, 0, none⟩) ∧ Bl w' g7 [.int .i64 lv, .slice V1 n d1, .slice H1 m d2, .int .i64 sm] ∧ Bl w' g8 [.int .i64 lu, .slice V2 n' d3, .slice H2 m' d4, .int .i64 su] ∧ PairI w' l1 u1 n m V1 H1 vs ws ∧ PairI w' l2 u2 n' m' V2 H2 us xs ∧ Keeps W w'
theorem smB_lv {l : List VV} {t u : TT} (h : ¬ t.1 = u.1) : smB l t u = false := by unfold smB; rw [decide_eq_false h]; rfl
theorem smB_vs {l : List VV} {t u : TT} (h : decide (t.2.1 = u.2.1) = false) : smB l t u = false := by unfold smB; rw [h]; simp
theorem smB_ws {l : List VV} {t u : TT} (h : decide (nmL l t.2.2.1 = nmL l u.2.2.1) = false) : smB l t u = false := by unfold smB; rw [h]; simp
theorem smB_sm {l : List VV} {t u : TT} (h : ¬ t.2.2.2 = u.2.2.2) : smB l t u = false := by unfold smB; rw [decide_eq_false h]; simp
theorem smB_yes {l : List VV} {t u : TT} (h1 : t.1 = u.1) (h2 : decide (t.2.1 = u.2.1) = true) (h3 : decide (nmL l t.2.2.1 = nmL l u.2.2.1) = true) (h4 : t.2.2.2 = u.2.2.2) : smB l t u = true := by unfold smB; rw [decide_eq_true h1, h2, h3, decide_eq_true h4]; rfl
set_option maxRecDepth 100000 in
set_option maxHeartbeats 400000000 in
theorem nSame_any {A' V H V' H' : Option Addr} {lo1 hi1 lo2 hi2 lo3 hi3 lo4 hi4 n c m d n' c' m' d' q e : Nat} {vs ws us xs : List Int} {l : List VV} {lv sm lu su : Int} {w : World} (h' : Sch w A' q e l) (hlv : LvOk l q) (hv : Ints w lo1 hi1 V n vs) (hw : Ints w lo2 hi2 H m ws) (hu : Ints w lo3 hi3 V' n' us) (hx : Ints w lo4 hi4 H' m' xs) (hW : whB l ws = true) (hX : whB l xs = true) :
    Calls Tryz.prog 89 #[.slice A' q e, .agg #[.int .i64 lv, .slice V n c, .slice H m d, .int .i64 sm], .agg #[.int .i64 lu, .slice V' n' c', .slice H' m' d', .int .i64 su]] w fun e w' => e = .returned (.bool (smB l (lv, vs, ws, sm) (lu, us, xs, su))) ∧ Keeps w w' := by
  have HLV := hid hlv
  have HW := hid hW
  have HX := hid hX
  clear hlv hW hX
  obtain ⟨p, HP⟩ : ∃ p, Hid (smB l (lv, vs, ws, sm) (lu, us, xs, su) = p) := ⟨_, rfl⟩
  rw [HP.out]
  go_enter Tryz.func89, Tryz.ntmps89
  have kw := keeps_refl w
  replace kw := Keeps.trans kw (keeps_alloc w (.cells #[.int .i64 lv, .slice V n c, .slice H m d, .int .i64 sm] 61))
  have b4 : Bl (w.alloc (.cells #[.int .i64 lv, .slice V n c, .slice H m d, .int .i64 sm] 61)) w.heap.size [.int .i64 lv, .slice V n c, .slice H m d, .int .i64 sm] := Bl.new' (by simp) (by simp)
  replace b4 := b4.keeps (keeps_alloc (w.alloc (.cells #[.int .i64 lv, .slice V n c, .slice H m d, .int .i64 sm] 61)) (.cells #[.int .i64 lu, .slice V' n' c', .slice H' m' d', .int .i64 su] 61))
  replace kw := Keeps.trans kw (keeps_alloc (w.alloc (.cells #[.int .i64 lv, .slice V n c, .slice H m d, .int .i64 sm] 61)) (.cells #[.int .i64 lu, .slice V' n' c', .slice H' m' d', .int .i64 su] 61))
  have b5 : Bl ((w.alloc (.cells #[.int .i64 lv, .slice V n c, .slice H m d, .int .i64 sm] 61)).alloc (.cells #[.int .i64 lu, .slice V' n' c', .slice H' m' d', .int .i64 su] 61)) (w.heap.size + 1) [.int .i64 lu, .slice V' n' c', .slice H' m' d', .int .i64 su] := Bl.new' (by simp) (by simp)
  go_wp2_with fail
  obtain ⟨W, hX⟩ : ∃ u : World, u = ((w.alloc (.cells #[.int .i64 lv, .slice V n c, .slice H m d, .int .i64 sm] 61)).alloc (.cells #[.int .i64 lu, .slice V' n' c', .slice H' m' d', .int .i64 su] 61)) := ⟨_, rfl⟩
  have szX0 := hid (show W.heap.size = w.heap.size + 1 + 1 by rw [hX]; simp)
  rw [← hX] at b4
  rw [← hX] at b5
  rw [← hX] at kw
  rw [← hX]
  clear hX
  have sz2 := kw.size
  have kS := hid (show ∀ w', Keeps W w' → (w'.cell? ⟨w.heap.size, 0, none⟩ = some (.int .i64 lv) ∧ w'.cell? ⟨w.heap.size, 1, none⟩ = some (.slice V n c) ∧ w'.cell? ⟨w.heap.size, 2, none⟩ = some (.slice H m d) ∧ w'.cell? ⟨w.heap.size, 3, none⟩ = some (.int .i64 sm) ∧ w'.cell? ⟨w.heap.size + 1, 0, none⟩ = some (.int .i64 lu) ∧ w'.cell? ⟨w.heap.size + 1, 1, none⟩ = some (.slice V' n' c') ∧ w'.cell? ⟨w.heap.size + 1, 2, none⟩ = some (.slice H' m' d') ∧ w'.cell? ⟨w.heap.size + 1, 3, none⟩ = some (.int .i64 su)) from fun w' k => ⟨((b4.keeps k).2 0 _ rfl).1, ((b4.keeps k).2 1 _ rfl).1, ((b4.keeps k).2 2 _ rfl).1, ((b4.keeps k).2 3 _ rfl).1, ((b5.keeps k).2 0 _ rfl).1, ((b5.keeps k).2 1 _ rfl).1, ((b5.keeps k).2 2 _ rfl).1, ((b5.keeps k).2 3 _ rfl).1⟩)
  have sW : w.heap.size + 2 ≤ W.heap.size := by rw [szX0.out]; omega
  go_cut [7, 8] (fun s7 s8 wq => ∃ wy, wy = wq ∧ NsR W lv sm lu su n m n' m' vs (nmL l ws) us (nmL l xs) s7 s8 wy)
  case first =>
    go_region_held3 (fun w' => w'.cell? ⟨w.heap.size, 0, none⟩ = some (.int .i64 lv) ∧ w'.cell? ⟨w.heap.size, 1, none⟩ = some (.slice V n c) ∧ w'.cell? ⟨w.heap.size, 2, none⟩ = some (.slice H m d) ∧ w'.cell? ⟨w.heap.size, 3, none⟩ = some (.int .i64 sm) ∧ w'.cell? ⟨w.heap.size + 1, 0, none⟩ = some (.int .i64 lu) ∧ w'.cell? ⟨w.heap.size + 1, 1, none⟩ = some (.slice V' n' c') ∧ w'.cell? ⟨w.heap.size + 1, 2, none⟩ = some (.slice H' m' d') ∧ w'.cell? ⟨w.heap.size + 1, 3, none⟩ = some (.int .i64 su)) (exact kS.out _ (by (repeat (first | with_reducible exact kB | with_reducible exact kA | with_reducible exact keeps_refl _ | with_reducible refine keeps_dr ?_ | with_reducible refine keeps_al ?_ | ((with_reducible refine keeps_s4 ?_ ?_); rotate_left; omega)))))
      ((first | (have nd := kkA; clear nd; go_at_call 126; refine calls_at ?_; intro XB hX; (first | (have sXB : XB.heap.size = wA.heap.size + 2 := nsz2 hX; have kX : Keeps W XB := kA.trans (kx2 hX); have bX2 : Bl XB wA.heap.size [.int .i64 0, .slice none 0 0, .slice none 0 0, .int .i64 0] := nb2a hX; have bX3 : Bl XB (wA.heap.size + 1) [.int .i64 0, .slice none 0 0, .slice none 0 0, .int .i64 0] := nb2b hX; (try (have bX0 : Bl XB W.heap.size [.int .i64 0, .slice none 0 0, .slice none 0 0, .int .i64 0] := ob2 hX zA0; clear c_zA00 f_zA00 c_zA01 f_zA01 c_zA02 f_zA02 c_zA03 f_zA03 zA0 l_zA0)); (try (have bX1 : Bl XB (W.heap.size + 1) [.int .i64 0, .slice none 0 0, .slice none 0 0, .int .i64 0] := ob2 hX zA1; clear c_zA10 f_zA10 c_zA11 f_zA11 c_zA12 f_zA12 c_zA13 f_zA13 zA1 l_zA1))) | (have sXB : XB.heap.size = wA.heap.size + 1 := nsz1 hX; have kX : Keeps W XB := kA.trans (kx1 hX); have bX2 : Bl XB wA.heap.size [.int .i64 0, .slice none 0 0, .slice none 0 0, .int .i64 0] := nb1 hX; (try (have bX0 : Bl XB W.heap.size [.int .i64 0, .slice none 0 0, .slice none 0 0, .int .i64 0] := ob1 hX zA0; clear c_zA00 f_zA00 c_zA01 f_zA01 c_zA02 f_zA02 c_zA03 f_zA03 zA0 l_zA0)); (try (have bX1 : Bl XB (W.heap.size + 1) [.int .i64 0, .slice none 0 0, .slice none 0 0, .int .i64 0] := ob1 hX zA1; clear c_zA10 f_zA10 c_zA11 f_zA11 c_zA12 f_zA12 c_zA13 f_zA13 zA1 l_zA1))) | (have sXB : XB.heap.size = wA.heap.size + 0 := nsz0 hX; have kX : Keeps W XB := kA.trans (kx0 hX); (try (have bX0 : Bl XB W.heap.size [.int .i64 0, .slice none 0 0, .slice none 0 0, .int .i64 0] := ob0 hX zA0; clear c_zA00 f_zA00 c_zA01 f_zA01 c_zA02 f_zA02 c_zA03 f_zA03 zA0 l_zA0)); (try (have bX1 : Bl XB (W.heap.size + 1) [.int .i64 0, .slice none 0 0, .slice none 0 0, .int .i64 0] := ob0 hX zA1; clear c_zA10 f_zA10 c_zA11 f_zA11 c_zA12 f_zA12 c_zA13 f_zA13 zA1 l_zA1))) | fail); have HXB := hid hX; clear hX; (first | ((with_reducible refine Calls.mono (nNormal_any (lv := lv) (sm := sm) (c := c) (d := d) (e := e) (hv.keeps (Keeps.trans kw kX)) (hw.keeps (Keeps.trans kw kX)) (h'.keeps (Keeps.trans kw kX)) HLV.out HW.out) ?_); rintro e9 wB ⟨V1_, d1a, H1_, d1b, rfl, tw, kkB⟩; have i1 := PairI.mk tw.a tw.b; clear tw) | ((with_reducible refine Calls.mono (nNormal_any (lv := lu) (sm := su) (c := c') (d := d') (e := e) (hu.keeps (Keeps.trans kw kX)) (hx.keeps (Keeps.trans kw kX)) (h'.keeps (Keeps.trans kw kX)) HLV.out HX.out) ?_); rintro e9 wB ⟨V2_, d2a, H2_, d2b, rfl, tw, kkB⟩; have i2 := PairI.mk tw.a tw.b; clear tw) | fail); have kB := kX.trans kkB; have slB := kkB.size; clear kX; (try (have zB0 := bX0.keeps kkB; clear bX0; have l_zB0 : W.heap.size < wB.heap.size := zB0.lt; have c_zB00 : wB.cell? ⟨W.heap.size, 0, none⟩ = some (.int .i64 0) := (zB0.2 0 _ rfl).1; have f_zB00 : wB.frozen? ⟨W.heap.size, 0, none⟩ = false := (zB0.2 0 _ rfl).2; have c_zB01 : wB.cell? ⟨W.heap.size, 1, none⟩ = some (.slice none 0 0) := (zB0.2 1 _ rfl).1; have f_zB01 : wB.frozen? ⟨W.heap.size, 1, none⟩ = false := (zB0.2 1 _ rfl).2; have c_zB02 : wB.cell? ⟨W.heap.size, 2, none⟩ = some (.slice none 0 0) := (zB0.2 2 _ rfl).1; have f_zB02 : wB.frozen? ⟨W.heap.size, 2, none⟩ = false := (zB0.2 2 _ rfl).2; have c_zB03 : wB.cell? ⟨W.heap.size, 3, none⟩ = some (.int .i64 0) := (zB0.2 3 _ rfl).1; have f_zB03 : wB.frozen? ⟨W.heap.size, 3, none⟩ = false := (zB0.2 3 _ rfl).2)); (try (have zB1 := bX1.keeps kkB; clear bX1; have l_zB1 : (W.heap.size + 1) < wB.heap.size := zB1.lt; have c_zB10 : wB.cell? ⟨(W.heap.size + 1), 0, none⟩ = some (.int .i64 0) := (zB1.2 0 _ rfl).1; have f_zB10 : wB.frozen? ⟨(W.heap.size + 1), 0, none⟩ = false := (zB1.2 0 _ rfl).2; have c_zB11 : wB.cell? ⟨(W.heap.size + 1), 1, none⟩ = some (.slice none 0 0) := (zB1.2 1 _ rfl).1; have f_zB11 : wB.frozen? ⟨(W.heap.size + 1), 1, none⟩ = false := (zB1.2 1 _ rfl).2; have c_zB12 : wB.cell? ⟨(W.heap.size + 1), 2, none⟩ = some (.slice none 0 0) := (zB1.2 2 _ rfl).1; have f_zB12 : wB.frozen? ⟨(W.heap.size + 1), 2, none⟩ = false := (zB1.2 2 _ rfl).2; have c_zB13 : wB.cell? ⟨(W.heap.size + 1), 3, none⟩ = some (.int .i64 0) := (zB1.2 3 _ rfl).1; have f_zB13 : wB.frozen? ⟨(W.heap.size + 1), 3, none⟩ = false := (zB1.2 3 _ rfl).2)); (try (have zB2 := bX2.keeps kkB; clear bX2; have l_zB2 : wA.heap.size < wB.heap.size := zB2.lt; have c_zB20 : wB.cell? ⟨wA.heap.size, 0, none⟩ = some (.int .i64 0) := (zB2.2 0 _ rfl).1; have f_zB20 : wB.frozen? ⟨wA.heap.size, 0, none⟩ = false := (zB2.2 0 _ rfl).2; have c_zB21 : wB.cell? ⟨wA.heap.size, 1, none⟩ = some (.slice none 0 0) := (zB2.2 1 _ rfl).1; have f_zB21 : wB.frozen? ⟨wA.heap.size, 1, none⟩ = false := (zB2.2 1 _ rfl).2; have c_zB22 : wB.cell? ⟨wA.heap.size, 2, none⟩ = some (.slice none 0 0) := (zB2.2 2 _ rfl).1; have f_zB22 : wB.frozen? ⟨wA.heap.size, 2, none⟩ = false := (zB2.2 2 _ rfl).2; have c_zB23 : wB.cell? ⟨wA.heap.size, 3, none⟩ = some (.int .i64 0) := (zB2.2 3 _ rfl).1; have f_zB23 : wB.frozen? ⟨wA.heap.size, 3, none⟩ = false := (zB2.2 3 _ rfl).2)); (try (have zB3 := bX3.keeps kkB; clear bX3; have l_zB3 : (wA.heap.size + 1) < wB.heap.size := zB3.lt; have c_zB30 : wB.cell? ⟨(wA.heap.size + 1), 0, none⟩ = some (.int .i64 0) := (zB3.2 0 _ rfl).1; have f_zB30 : wB.frozen? ⟨(wA.heap.size + 1), 0, none⟩ = false := (zB3.2 0 _ rfl).2; have c_zB31 : wB.cell? ⟨(wA.heap.size + 1), 1, none⟩ = some (.slice none 0 0) := (zB3.2 1 _ rfl).1; have f_zB31 : wB.frozen? ⟨(wA.heap.size + 1), 1, none⟩ = false := (zB3.2 1 _ rfl).2; have c_zB32 : wB.cell? ⟨(wA.heap.size + 1), 2, none⟩ = some (.slice none 0 0) := (zB3.2 2 _ rfl).1; have f_zB32 : wB.frozen? ⟨(wA.heap.size + 1), 2, none⟩ = false := (zB3.2 2 _ rfl).2; have c_zB33 : wB.cell? ⟨(wA.heap.size + 1), 3, none⟩ = some (.int .i64 0) := (zB3.2 3 _ rfl).1; have f_zB33 : wB.frozen? ⟨(wA.heap.size + 1), 3, none⟩ = false := (zB3.2 3 _ rfl).2))) | (go_at_call 126; refine calls_at ?_; intro XA hX; (first | (have sXA : XA.heap.size = W.heap.size + 2 := nsz2d hX; have kX : Keeps W XA := kx2d hX; have bX0 : Bl XA W.heap.size [.int .i64 0, .slice none 0 0, .slice none 0 0, .int .i64 0] := nb2ad hX; have bX1 : Bl XA (W.heap.size + 1) [.int .i64 0, .slice none 0 0, .slice none 0 0, .int .i64 0] := nb2bd hX) | (have sXA : XA.heap.size = W.heap.size + 1 := nsz1d hX; have kX : Keeps W XA := kx1d hX; have bX0 : Bl XA W.heap.size [.int .i64 0, .slice none 0 0, .slice none 0 0, .int .i64 0] := nb1d hX) | (have sXA : XA.heap.size = W.heap.size + 0 := nsz0d hX; have kX : Keeps W XA := kx0d hX) | fail); have HXA := hid hX; clear hX; (first | ((with_reducible refine Calls.mono (nNormal_any (lv := lv) (sm := sm) (c := c) (d := d) (e := e) (hv.keeps (Keeps.trans kw kX)) (hw.keeps (Keeps.trans kw kX)) (h'.keeps (Keeps.trans kw kX)) HLV.out HW.out) ?_); rintro e9 wA ⟨V1_, d1a, H1_, d1b, rfl, tw, kkA⟩; have i1 := PairI.mk tw.a tw.b; clear tw) | ((with_reducible refine Calls.mono (nNormal_any (lv := lu) (sm := su) (c := c') (d := d') (e := e) (hu.keeps (Keeps.trans kw kX)) (hx.keeps (Keeps.trans kw kX)) (h'.keeps (Keeps.trans kw kX)) HLV.out HX.out) ?_); rintro e9 wA ⟨V2_, d2a, H2_, d2b, rfl, tw, kkA⟩; have i2 := PairI.mk tw.a tw.b; clear tw) | fail); have kA := kX.trans kkA; have slA := kkA.size; clear kX; (try (have zA0 := bX0.keeps kkA; clear bX0; have l_zA0 : W.heap.size < wA.heap.size := zA0.lt; have c_zA00 : wA.cell? ⟨W.heap.size, 0, none⟩ = some (.int .i64 0) := (zA0.2 0 _ rfl).1; have f_zA00 : wA.frozen? ⟨W.heap.size, 0, none⟩ = false := (zA0.2 0 _ rfl).2; have c_zA01 : wA.cell? ⟨W.heap.size, 1, none⟩ = some (.slice none 0 0) := (zA0.2 1 _ rfl).1; have f_zA01 : wA.frozen? ⟨W.heap.size, 1, none⟩ = false := (zA0.2 1 _ rfl).2; have c_zA02 : wA.cell? ⟨W.heap.size, 2, none⟩ = some (.slice none 0 0) := (zA0.2 2 _ rfl).1; have f_zA02 : wA.frozen? ⟨W.heap.size, 2, none⟩ = false := (zA0.2 2 _ rfl).2; have c_zA03 : wA.cell? ⟨W.heap.size, 3, none⟩ = some (.int .i64 0) := (zA0.2 3 _ rfl).1; have f_zA03 : wA.frozen? ⟨W.heap.size, 3, none⟩ = false := (zA0.2 3 _ rfl).2)); (try (have zA1 := bX1.keeps kkA; clear bX1; have l_zA1 : (W.heap.size + 1) < wA.heap.size := zA1.lt; have c_zA10 : wA.cell? ⟨(W.heap.size + 1), 0, none⟩ = some (.int .i64 0) := (zA1.2 0 _ rfl).1; have f_zA10 : wA.frozen? ⟨(W.heap.size + 1), 0, none⟩ = false := (zA1.2 0 _ rfl).2; have c_zA11 : wA.cell? ⟨(W.heap.size + 1), 1, none⟩ = some (.slice none 0 0) := (zA1.2 1 _ rfl).1; have f_zA11 : wA.frozen? ⟨(W.heap.size + 1), 1, none⟩ = false := (zA1.2 1 _ rfl).2; have c_zA12 : wA.cell? ⟨(W.heap.size + 1), 2, none⟩ = some (.slice none 0 0) := (zA1.2 2 _ rfl).1; have f_zA12 : wA.frozen? ⟨(W.heap.size + 1), 2, none⟩ = false := (zA1.2 2 _ rfl).2; have c_zA13 : wA.cell? ⟨(W.heap.size + 1), 3, none⟩ = some (.int .i64 0) := (zA1.2 3 _ rfl).1; have f_zA13 : wA.frozen? ⟨(W.heap.size + 1), 3, none⟩ = false := (zA1.2 3 _ rfl).2))) | fail))
    all_goals (go_wp2_with fail; go_meet; exact ⟨_, rfl, ⟨_, _, V1_, d1a, H1_, d1b, V2_, d2a, H2_, d2b, XA.heap.size, wA.heap.size, XB.heap.size, wB.heap.size, rfl, rfl, (by (repeat (first | with_reducible refine bl_p4z ?_ | ((with_reducible refine bl_s4 ?_ ?_); rotate_left; omega) | with_reducible exact bl_nw (by simp) | with_reducible refine bl_al ?_ | with_reducible exact zB0 | with_reducible exact zB1 | with_reducible exact zB2 | with_reducible exact zB3))), (by (repeat (first | with_reducible refine bl_p4z ?_ | ((with_reducible refine bl_s4 ?_ ?_); rotate_left; omega) | with_reducible exact bl_nw (by simp) | with_reducible refine bl_al ?_ | with_reducible exact zB0 | with_reducible exact zB1 | with_reducible exact zB2 | with_reducible exact zB3))), (by (repeat (first | ((with_reducible refine in_s4 ?_ ?_); rotate_left; omega) | with_reducible refine in_al ?_ | with_reducible exact i1 | ((with_reducible refine in_kp ?_ kkB); rw [HXB.out])))), (by (repeat (first | ((with_reducible refine in_s4 ?_ ?_); rotate_left; omega) | with_reducible refine in_al ?_ | with_reducible exact i2 | ((with_reducible refine in_kp ?_ kkB); rw [HXB.out])))), (by (repeat (first | with_reducible exact kB | with_reducible exact kA | with_reducible exact keeps_refl _ | with_reducible refine keeps_dr ?_ | with_reducible refine keeps_al ?_ | ((with_reducible refine keeps_s4 ?_ ?_); rotate_left; omega))))⟩⟩)
  case rest =>
    obtain ⟨wy, rfl, ⟨g7, g8, V1_, d1a, H1_, d1b, V2_, d2a, H2_, d2b, l1, u1, l2, u2, rfl, rfl, b7, b8, ii1, ii2, kZ⟩⟩ := hcut
    have i1 := ii1.a
    have i2 := ii1.b
    have i3 := ii2.a
    have i4 := ii2.b
    clear ii1 ii2
    replace kw := Keeps.trans kw kZ
    clear kS kZ b4 b5
    by_cases e1 : lv = lu
    rotate_left
    · have t1 : (lv == lu) = false := by rw [beq_eq_false_iff_ne]; exact e1
      obtain rfl : p = false := HP.out.symm.trans (smB_lv (t := (lv, vs, ws, sm)) (u := (lu, us, xs, su)) e1)
      have ca3_0 := (b7.2 0 _ rfl).1
      have ca3_1 := (b7.2 1 _ rfl).1
      have ca3_2 := (b7.2 2 _ rfl).1
      have ca3_3 := (b7.2 3 _ rfl).1
      have ca4_0 := (b8.2 0 _ rfl).1
      have ca4_1 := (b8.2 1 _ rfl).1
      have ca4_2 := (b8.2 2 _ rfl).1
      have ca4_3 := (b8.2 3 _ rfl).1
      go_wp2_with fail
      clear ca3_0 ca3_1 ca3_2 ca3_3 ca4_0 ca4_1 ca4_2 ca4_3
      go_ret
      exact ⟨ret_bool rfl, kw⟩
    have t1 : (lv == lu) = true := by rw [beq_iff_eq]; exact e1
    obtain ⟨r, HR⟩ : ∃ r, Hid (decide (vs = us) = r) := ⟨_, rfl⟩
    have E1 := hid e1
    clear e1
    have ca3_0 := (b7.2 0 _ rfl).1
    have ca3_1 := (b7.2 1 _ rfl).1
    have ca3_2 := (b7.2 2 _ rfl).1
    have ca3_3 := (b7.2 3 _ rfl).1
    have ca4_0 := (b8.2 0 _ rfl).1
    have ca4_1 := (b8.2 1 _ rfl).1
    have ca4_2 := (b8.2 2 _ rfl).1
    have ca4_3 := (b8.2 3 _ rfl).1
    go_wp2_with fail
    clear ca3_0 ca3_1 ca3_2 ca3_3 ca4_0 ca4_1 ca4_2 ca4_3
    refine (l1Same_any i1 i3).mono ?_
    rintro e w5 ⟨rfl, k5⟩
    rw [HR.out]
    replace b7 := b7.keeps k5
    replace b8 := b8.keeps k5
    replace i1 := i1.keeps k5
    replace i2 := i2.keeps k5
    replace i3 := i3.keeps k5
    replace i4 := i4.keeps k5
    replace kw := Keeps.trans kw k5
    have lt6 := b8.lt
    have sz7 := kw.size
    clear k5
    cases r
    · obtain rfl : p = false := HP.out.symm.trans (smB_vs (t := (lv, vs, ws, sm)) (u := (lu, us, xs, su)) HR.out)
      have ca8_0 := (b7.2 0 _ rfl).1
      have ca8_1 := (b7.2 1 _ rfl).1
      have ca8_2 := (b7.2 2 _ rfl).1
      have ca8_3 := (b7.2 3 _ rfl).1
      have ca9_0 := (b8.2 0 _ rfl).1
      have ca9_1 := (b8.2 1 _ rfl).1
      have ca9_2 := (b8.2 2 _ rfl).1
      have ca9_3 := (b8.2 3 _ rfl).1
      go_wp2_with fail
      clear ca8_0 ca8_1 ca8_2 ca8_3 ca9_0 ca9_1 ca9_2 ca9_3
      go_ret
      exact ⟨ret_bool rfl, kw⟩
    obtain ⟨r2, HR2⟩ : ∃ r, Hid (decide (nmL l ws = nmL l xs) = r) := ⟨_, rfl⟩
    have ca8_0 := (b7.2 0 _ rfl).1
    have ca8_1 := (b7.2 1 _ rfl).1
    have ca8_2 := (b7.2 2 _ rfl).1
    have ca8_3 := (b7.2 3 _ rfl).1
    have ca9_0 := (b8.2 0 _ rfl).1
    have ca9_1 := (b8.2 1 _ rfl).1
    have ca9_2 := (b8.2 2 _ rfl).1
    have ca9_3 := (b8.2 3 _ rfl).1
    go_wp2_with fail
    clear ca8_0 ca8_1 ca8_2 ca8_3 ca9_0 ca9_1 ca9_2 ca9_3
    refine (l1Same_any i2 i4).mono ?_
    rintro e w10 ⟨rfl, k10⟩
    rw [HR2.out]
    replace b7 := b7.keeps k10
    replace b8 := b8.keeps k10
    replace i1 := i1.keeps k10
    replace i2 := i2.keeps k10
    replace i3 := i3.keeps k10
    replace i4 := i4.keeps k10
    replace kw := Keeps.trans kw k10
    have lt11 := b8.lt
    have sz12 := kw.size
    clear k10
    cases r2
    · obtain rfl : p = false := HP.out.symm.trans (smB_ws (t := (lv, vs, ws, sm)) (u := (lu, us, xs, su)) HR2.out)
      have ca13_0 := (b7.2 0 _ rfl).1
      have ca13_1 := (b7.2 1 _ rfl).1
      have ca13_2 := (b7.2 2 _ rfl).1
      have ca13_3 := (b7.2 3 _ rfl).1
      have ca14_0 := (b8.2 0 _ rfl).1
      have ca14_1 := (b8.2 1 _ rfl).1
      have ca14_2 := (b8.2 2 _ rfl).1
      have ca14_3 := (b8.2 3 _ rfl).1
      go_wp2_with fail
      clear ca13_0 ca13_1 ca13_2 ca13_3 ca14_0 ca14_1 ca14_2 ca14_3
      go_ret
      exact ⟨ret_bool rfl, kw⟩
    by_cases e2 : sm = su
    · have t2 : (sm == su) = true := by rw [beq_iff_eq]; exact e2
      obtain rfl : p = true := HP.out.symm.trans (smB_yes (t := (lv, vs, ws, sm)) (u := (lu, us, xs, su)) E1.out HR.out HR2.out e2)
      have ca13_0 := (b7.2 0 _ rfl).1
      have ca13_1 := (b7.2 1 _ rfl).1
      have ca13_2 := (b7.2 2 _ rfl).1
      have ca13_3 := (b7.2 3 _ rfl).1
      have ca14_0 := (b8.2 0 _ rfl).1
      have ca14_1 := (b8.2 1 _ rfl).1
      have ca14_2 := (b8.2 2 _ rfl).1
      have ca14_3 := (b8.2 3 _ rfl).1
      go_wp2_with fail
      clear ca13_0 ca13_1 ca13_2 ca13_3 ca14_0 ca14_1 ca14_2 ca14_3
      go_ret
      exact ⟨ret_bool rfl, kw⟩
    have t2 : (sm == su) = false := by rw [beq_eq_false_iff_ne]; exact e2
    obtain rfl : p = false := HP.out.symm.trans (smB_sm (t := (lv, vs, ws, sm)) (u := (lu, us, xs, su)) e2)
    have ca13_0 := (b7.2 0 _ rfl).1
    have ca13_1 := (b7.2 1 _ rfl).1
    have ca13_2 := (b7.2 2 _ rfl).1
    have ca13_3 := (b7.2 3 _ rfl).1
    have ca14_0 := (b8.2 0 _ rfl).1
    have ca14_1 := (b8.2 1 _ rfl).1
    have ca14_2 := (b8.2 2 _ rfl).1
    have ca14_3 := (b8.2 3 _ rfl).1
    go_wp2_with fail
    clear ca13_0 ca13_1 ca13_2 ca13_3 ca14_0 ca14_1 ca14_2 ca14_3
    go_ret
    exact ⟨ret_bool rfl, kw⟩
end Go.Proofs.YtlkjhkkfdmjfcaaGreatDoor
