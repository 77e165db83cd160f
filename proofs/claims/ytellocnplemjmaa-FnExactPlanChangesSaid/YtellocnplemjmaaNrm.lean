/- Normal tables: of the program and of the reference. -/
import Derived.Test.YtellocnplemjmaaCpt
import Derived.Lib.QuietBelow
namespace Go.Proofs.Ytellocnplemjmaa
open Go.RowKit Go.Sort
set_option linter.unusedVariables false
set_option linter.unusedSimpArgs false

def nmI (l : List VV) (ws : List Int) (k : Nat) : Int := if ws.getD k 0 = full (l.getD k v0).2 then 0 else ws.getD k 0
def nmK (l : List VV) (ws : List Int) (k n : Nat) : List Int := (List.range n).map fun j => if j < k then nmI l ws j else ws.getD j 0
/-- The conditions of a table, all levels read as 0. -/
def nmL (l : List VV) (ws : List Int) : List Int := nmK l ws ws.length ws.length
theorem nmK_len (l : List VV) (ws : List Int) (k n : Nat) : (nmK l ws k n).length = n := by simp [nmK]
theorem nmK_at {l : List VV} {ws : List Int} {k n j : Nat} (h : j < n) : (nmK l ws k n).getD j 0 = if j < k then nmI l ws j else ws.getD j 0 := by simp [nmK, List.getD, h]
theorem list_ext {xs ys : List Int} {n : Nat} (h1 : xs.length = n) (h2 : ys.length = n) (h : ∀ j, j < n → xs.getD j 0 = ys.getD j 0) : xs = ys := by
  apply List.ext_getElem (by omega)
  intro i hi hi'
  have := h i (by omega)
  simpa [List.getD, hi, hi'] using this
theorem nmK_zero {l : List VV} {ws : List Int} {n : Nat} (h : ws.length = n) : nmK l ws 0 n = ws := list_ext (nmK_len _ _ _ _) h (fun j hj => by rw [nmK_at hj, if_neg (by omega)])
theorem nmK_now {l : List VV} {ws : List Int} {k n : Nat} (h : k < n) : (nmK l ws k n).getD k 0 = ws.getD k 0 := by rw [nmK_at h, if_neg (by omega)]
theorem nmK_set {l : List VV} {ws : List Int} {k n : Nat} (h : k < n) (he : ws.getD k 0 = full (l.getD k v0).2) : (nmK l ws k n).set k 0 = nmK l ws (k + 1) n := by
  refine list_ext (by rw [List.length_set, nmK_len]) (nmK_len _ _ _ _) (fun j hj => ?_)
  rw [nmK_at hj]
  by_cases e : j = k
  · subst e
    rw [if_pos (by omega)]
    unfold nmI
    rw [if_pos he]
    simp [List.getD, nmK_len, h]
  · have h1 : ((nmK l ws k n).set k 0).getD j 0 = (nmK l ws k n).getD j 0 := by simp [List.getD, List.getElem?_set_ne (Ne.symm e)]
    rw [h1, nmK_at hj]
    by_cases h2 : j < k
    · rw [if_pos h2, if_pos (by omega)]
    · rw [if_neg h2, if_neg (by omega)]
theorem nmK_keep {l : List VV} {ws : List Int} {k n : Nat} (he : ¬ ws.getD k 0 = full (l.getD k v0).2) : nmK l ws k n = nmK l ws (k + 1) n := by
  refine list_ext (nmK_len _ _ _ _) (nmK_len _ _ _ _) (fun j hj => ?_)
  rw [nmK_at hj, nmK_at hj]
  by_cases h2 : j < k
  · rw [if_pos h2, if_pos (by omega)]
  · rw [if_neg h2]
    by_cases e : j = k
    · subst e; rw [if_pos (by omega)]; unfold nmI; rw [if_neg he]
    · rw [if_neg (by omega)]
theorem eFull_k {A : Option Addr} {lo hi n c k : Nat} {l : List VV} {w : World} {F : Int} (h : Vars w lo hi A n l) (hk : k < n) (hl : 2 ≤ (l.getD k v0).2 ∧ (l.getD k v0).2 ≤ 8) (hF : full (l.getD k v0).2 = F) :
    Calls Try.prog 118 #[.slice A n c, .int .i64 (k : Int)] w fun e w' => e = .returned (.int .i64 F) ∧ Keeps w w' := by
  subst hF
  exact (eFull_any h hk hl).mono (by rintro e w' ⟨rfl, rfl⟩; exact ⟨rfl, keeps_refl _⟩)

set_option maxRecDepth 100000 in
set_option maxHeartbeats 6400000 in
theorem normalTable_any {A' V H : Option Addr} {lo1 hi1 lo2 hi2 n c m d q e : Nat} {vs ws : List Int} {l : List VV} {lv sm : Int} {w : World} (hv : Ints w lo1 hi1 V n vs) (hw : Ints w lo2 hi2 H m ws) (h' : Sch w A' q e l) (hlv : LvOk l q) (hW : whB l ws = true) :
    Calls Try.prog 97 #[.slice A' q e, .agg #[.int .i64 lv, .slice V n c, .slice H m d, .int .i64 sm]] w (TwRes w lv sm n vs m (nmL l ws)) := by
  obtain ⟨lo9, hi9, hz⟩ := h'.v
  have hq := hz.le
  have hql := Vars.len hz
  have hm := hw.le
  have hwl := hw.1
  obtain rfl : m = q := by
    rcases Nat.eq_zero_or_pos q with e0 | e0
    · unfold whB at hW
      simp only [Bool.and_eq_true, decide_eq_true_eq] at hW
      omega
    · have := (whB_at hW (k := 0) (by omega)).1; omega
  have HWL := hid hwl
  have HLV := hid hlv
  have HNL := hid (show nmL l ws = nmK l ws m m by unfold nmL; rw [hwl])
  have HN0 := hid (nmK_zero (l := l) hwl)
  clear hW hlv hwl hql
  rw [HNL.out]
  go_enter Try.func97, Try.ntmps97
  have kw := keeps_refl w
  replace kw := Keeps.trans kw (keeps_alloc w (.cells #[.int .i64 lv, .slice V n c, .slice H m d, .int .i64 sm] 98))
  have b3 : Bl (w.alloc (.cells #[.int .i64 lv, .slice V n c, .slice H m d, .int .i64 sm] 98)) w.heap.size [.int .i64 lv, .slice V n c, .slice H m d, .int .i64 sm] := Bl.new' (by simp) (by simp)
  replace b3 := b3.keeps (keeps_alloc (w.alloc (.cells #[.int .i64 lv, .slice V n c, .slice H m d, .int .i64 sm] 98)) (.cells #[.int .i64 0, .slice none 0 0, .slice none 0 0, .int .i64 0] 98))
  replace kw := Keeps.trans kw (keeps_alloc (w.alloc (.cells #[.int .i64 lv, .slice V n c, .slice H m d, .int .i64 sm] 98)) (.cells #[.int .i64 0, .slice none 0 0, .slice none 0 0, .int .i64 0] 98))
  have b4 : Bl ((w.alloc (.cells #[.int .i64 lv, .slice V n c, .slice H m d, .int .i64 sm] 98)).alloc (.cells #[.int .i64 0, .slice none 0 0, .slice none 0 0, .int .i64 0] 98)) (w.heap.size + 1) [.int .i64 0, .slice none 0 0, .slice none 0 0, .int .i64 0] := Bl.new' (by simp) (by simp)
  have ca1_0 : ((w.alloc (.cells #[.int .i64 lv, .slice V n c, .slice H m d, .int .i64 sm] 98)).alloc (.cells #[.int .i64 0, .slice none 0 0, .slice none 0 0, .int .i64 0] 98)).cell? ⟨w.heap.size, 0, none⟩ = some (.int .i64 lv) := (b3.2 0 _ rfl).1
  have fa1_0 : ((w.alloc (.cells #[.int .i64 lv, .slice V n c, .slice H m d, .int .i64 sm] 98)).alloc (.cells #[.int .i64 0, .slice none 0 0, .slice none 0 0, .int .i64 0] 98)).frozen? ⟨w.heap.size, 0, none⟩ = false := (b3.2 0 _ rfl).2
  have ca1_1 : ((w.alloc (.cells #[.int .i64 lv, .slice V n c, .slice H m d, .int .i64 sm] 98)).alloc (.cells #[.int .i64 0, .slice none 0 0, .slice none 0 0, .int .i64 0] 98)).cell? ⟨w.heap.size, 1, none⟩ = some (.slice V n c) := (b3.2 1 _ rfl).1
  have fa1_1 : ((w.alloc (.cells #[.int .i64 lv, .slice V n c, .slice H m d, .int .i64 sm] 98)).alloc (.cells #[.int .i64 0, .slice none 0 0, .slice none 0 0, .int .i64 0] 98)).frozen? ⟨w.heap.size, 1, none⟩ = false := (b3.2 1 _ rfl).2
  have ca1_2 : ((w.alloc (.cells #[.int .i64 lv, .slice V n c, .slice H m d, .int .i64 sm] 98)).alloc (.cells #[.int .i64 0, .slice none 0 0, .slice none 0 0, .int .i64 0] 98)).cell? ⟨w.heap.size, 2, none⟩ = some (.slice H m d) := (b3.2 2 _ rfl).1
  have fa1_2 : ((w.alloc (.cells #[.int .i64 lv, .slice V n c, .slice H m d, .int .i64 sm] 98)).alloc (.cells #[.int .i64 0, .slice none 0 0, .slice none 0 0, .int .i64 0] 98)).frozen? ⟨w.heap.size, 2, none⟩ = false := (b3.2 2 _ rfl).2
  have ca1_3 : ((w.alloc (.cells #[.int .i64 lv, .slice V n c, .slice H m d, .int .i64 sm] 98)).alloc (.cells #[.int .i64 0, .slice none 0 0, .slice none 0 0, .int .i64 0] 98)).cell? ⟨w.heap.size, 3, none⟩ = some (.int .i64 sm) := (b3.2 3 _ rfl).1
  have fa1_3 : ((w.alloc (.cells #[.int .i64 lv, .slice V n c, .slice H m d, .int .i64 sm] 98)).alloc (.cells #[.int .i64 0, .slice none 0 0, .slice none 0 0, .int .i64 0] 98)).frozen? ⟨w.heap.size, 3, none⟩ = false := (b3.2 3 _ rfl).2
  go_wp2_with fail
  clear ca1_0 fa1_0 ca1_1 fa1_1 ca1_2 fa1_2 ca1_3 fa1_3
  refine (copyTable_tw (hv.keeps kw) (hw.keeps kw)).mono ?_
  rintro e w2 ⟨V1, d1, H1, d2, rfl, tw, k2⟩
  replace b3 := b3.keeps k2
  replace b4 := b4.keeps k2
  replace kw := Keeps.trans kw k2
  have lt3 := b4.lt
  have sz4 := kw.size
  clear k2
  replace tw := tw.widen (lo' := w.heap.size + 1 + 1) (by simp) (Nat.le_refl _) tw.top
  have ca5_0 : w2.cell? ⟨w.heap.size, 0, none⟩ = some (.int .i64 lv) := (b3.2 0 _ rfl).1
  have fa5_0 : w2.frozen? ⟨w.heap.size, 0, none⟩ = false := (b3.2 0 _ rfl).2
  have ca5_1 : w2.cell? ⟨w.heap.size, 1, none⟩ = some (.slice V n c) := (b3.2 1 _ rfl).1
  have fa5_1 : w2.frozen? ⟨w.heap.size, 1, none⟩ = false := (b3.2 1 _ rfl).2
  have ca5_2 : w2.cell? ⟨w.heap.size, 2, none⟩ = some (.slice H m d) := (b3.2 2 _ rfl).1
  have fa5_2 : w2.frozen? ⟨w.heap.size, 2, none⟩ = false := (b3.2 2 _ rfl).2
  have ca5_3 : w2.cell? ⟨w.heap.size, 3, none⟩ = some (.int .i64 sm) := (b3.2 3 _ rfl).1
  have fa5_3 : w2.frozen? ⟨w.heap.size, 3, none⟩ = false := (b3.2 3 _ rfl).2
  replace b4 := b4.far (p := ⟨w.heap.size, 0, none⟩) (by show _ ≠ w.heap.size; omega) (.int .i64 lv)
  replace tw := tw.fr (fr_one (p := w.heap.size) (i := 0) (.int .i64 lv)) (by omega)
  replace kw := Below.setCell kw (p := ⟨w.heap.size, 0, none⟩) (by show _ ≤ w.heap.size; omega) (.int .i64 lv)
  replace b3 : Bl (w2.setCell ⟨w.heap.size, 0, none⟩ (.int .i64 lv)) w.heap.size [.int .i64 lv, .slice V n c, .slice H m d, .int .i64 sm] := b3.set 0 (.int .i64 lv)
  replace b4 := b4.far (p := ⟨w.heap.size, 1, none⟩) (by show _ ≠ w.heap.size; omega) (.slice V1 n d1)
  replace tw := tw.fr (fr_one (p := w.heap.size) (i := 1) (.slice V1 n d1)) (by omega)
  replace kw := Below.setCell kw (p := ⟨w.heap.size, 1, none⟩) (by show _ ≤ w.heap.size; omega) (.slice V1 n d1)
  replace b3 : Bl ((w2.setCell ⟨w.heap.size, 0, none⟩ (.int .i64 lv)).setCell ⟨w.heap.size, 1, none⟩ (.slice V1 n d1)) w.heap.size [.int .i64 lv, .slice V1 n d1, .slice H m d, .int .i64 sm] := b3.set 1 (.slice V1 n d1)
  replace b4 := b4.far (p := ⟨w.heap.size, 2, none⟩) (by show _ ≠ w.heap.size; omega) (.slice H1 m d2)
  replace tw := tw.fr (fr_one (p := w.heap.size) (i := 2) (.slice H1 m d2)) (by omega)
  replace kw := Below.setCell kw (p := ⟨w.heap.size, 2, none⟩) (by show _ ≤ w.heap.size; omega) (.slice H1 m d2)
  replace b3 : Bl (((w2.setCell ⟨w.heap.size, 0, none⟩ (.int .i64 lv)).setCell ⟨w.heap.size, 1, none⟩ (.slice V1 n d1)).setCell ⟨w.heap.size, 2, none⟩ (.slice H1 m d2)) w.heap.size [.int .i64 lv, .slice V1 n d1, .slice H1 m d2, .int .i64 sm] := b3.set 2 (.slice H1 m d2)
  replace b4 := b4.far (p := ⟨w.heap.size, 3, none⟩) (by show _ ≠ w.heap.size; omega) (.int .i64 sm)
  replace tw := tw.fr (fr_one (p := w.heap.size) (i := 3) (.int .i64 sm)) (by omega)
  replace kw := Below.setCell kw (p := ⟨w.heap.size, 3, none⟩) (by show _ ≤ w.heap.size; omega) (.int .i64 sm)
  replace b3 : Bl ((((w2.setCell ⟨w.heap.size, 0, none⟩ (.int .i64 lv)).setCell ⟨w.heap.size, 1, none⟩ (.slice V1 n d1)).setCell ⟨w.heap.size, 2, none⟩ (.slice H1 m d2)).setCell ⟨w.heap.size, 3, none⟩ (.int .i64 sm)) w.heap.size [.int .i64 lv, .slice V1 n d1, .slice H1 m d2, .int .i64 sm] := b3.set 3 (.int .i64 sm)
  have ca6_0 : ((((w2.setCell ⟨w.heap.size, 0, none⟩ (.int .i64 lv)).setCell ⟨w.heap.size, 1, none⟩ (.slice V1 n d1)).setCell ⟨w.heap.size, 2, none⟩ (.slice H1 m d2)).setCell ⟨w.heap.size, 3, none⟩ (.int .i64 sm)).cell? ⟨w.heap.size, 0, none⟩ = some (.int .i64 lv) := (b3.2 0 _ rfl).1
  have fa6_0 : ((((w2.setCell ⟨w.heap.size, 0, none⟩ (.int .i64 lv)).setCell ⟨w.heap.size, 1, none⟩ (.slice V1 n d1)).setCell ⟨w.heap.size, 2, none⟩ (.slice H1 m d2)).setCell ⟨w.heap.size, 3, none⟩ (.int .i64 sm)).frozen? ⟨w.heap.size, 0, none⟩ = false := (b3.2 0 _ rfl).2
  have ca6_1 : ((((w2.setCell ⟨w.heap.size, 0, none⟩ (.int .i64 lv)).setCell ⟨w.heap.size, 1, none⟩ (.slice V1 n d1)).setCell ⟨w.heap.size, 2, none⟩ (.slice H1 m d2)).setCell ⟨w.heap.size, 3, none⟩ (.int .i64 sm)).cell? ⟨w.heap.size, 1, none⟩ = some (.slice V1 n d1) := (b3.2 1 _ rfl).1
  have fa6_1 : ((((w2.setCell ⟨w.heap.size, 0, none⟩ (.int .i64 lv)).setCell ⟨w.heap.size, 1, none⟩ (.slice V1 n d1)).setCell ⟨w.heap.size, 2, none⟩ (.slice H1 m d2)).setCell ⟨w.heap.size, 3, none⟩ (.int .i64 sm)).frozen? ⟨w.heap.size, 1, none⟩ = false := (b3.2 1 _ rfl).2
  have ca6_2 : ((((w2.setCell ⟨w.heap.size, 0, none⟩ (.int .i64 lv)).setCell ⟨w.heap.size, 1, none⟩ (.slice V1 n d1)).setCell ⟨w.heap.size, 2, none⟩ (.slice H1 m d2)).setCell ⟨w.heap.size, 3, none⟩ (.int .i64 sm)).cell? ⟨w.heap.size, 2, none⟩ = some (.slice H1 m d2) := (b3.2 2 _ rfl).1
  have fa6_2 : ((((w2.setCell ⟨w.heap.size, 0, none⟩ (.int .i64 lv)).setCell ⟨w.heap.size, 1, none⟩ (.slice V1 n d1)).setCell ⟨w.heap.size, 2, none⟩ (.slice H1 m d2)).setCell ⟨w.heap.size, 3, none⟩ (.int .i64 sm)).frozen? ⟨w.heap.size, 2, none⟩ = false := (b3.2 2 _ rfl).2
  have ca6_3 : ((((w2.setCell ⟨w.heap.size, 0, none⟩ (.int .i64 lv)).setCell ⟨w.heap.size, 1, none⟩ (.slice V1 n d1)).setCell ⟨w.heap.size, 2, none⟩ (.slice H1 m d2)).setCell ⟨w.heap.size, 3, none⟩ (.int .i64 sm)).cell? ⟨w.heap.size, 3, none⟩ = some (.int .i64 sm) := (b3.2 3 _ rfl).1
  have fa6_3 : ((((w2.setCell ⟨w.heap.size, 0, none⟩ (.int .i64 lv)).setCell ⟨w.heap.size, 1, none⟩ (.slice V1 n d1)).setCell ⟨w.heap.size, 2, none⟩ (.slice H1 m d2)).setCell ⟨w.heap.size, 3, none⟩ (.int .i64 sm)).frozen? ⟨w.heap.size, 3, none⟩ = false := (b3.2 3 _ rfl).2
  go_wp2_with fail
  clear ca5_0 fa5_0 ca5_1 fa5_1 ca5_2 fa5_2 ca5_3 fa5_3 ca6_0 fa6_0 ca6_1 fa6_1 ca6_2 fa6_2 ca6_3 fa6_3
  obtain ⟨tT, L1, U1, L2, U2, q1, q2, q3, q4, dj, m1, m2⟩ := id tw
  clear tw
  rw [← HN0.out] at m2
  have hU1 := m1.1.top
  have hU2 := m2.1.top
  go_loopw [12] (fun i wr => ∃ k : Nat, k ≤ m ∧ i = .int .i64 k ∧ Bl wr (w.heap.size) [.int .i64 lv, .slice V1 n d1, .slice H1 m d2, .int .i64 sm] ∧ Bl wr (w.heap.size + 1) [.int .i64 0, .slice none 0 0, .slice none 0 0, .int .i64 0] ∧ Mine wr L1 U1 V1 n vs ∧ Mine wr L2 U2 H1 m (nmK l ws k m) ∧ Keeps w wr) (fun i _ => m - (intOf i).toNat)
  case atStart => exact ⟨0, Nat.zero_le _, rfl, b3, b4, m1, m2, kw⟩
  clear b3 b4 m1 m2 kw
  case round =>
    obtain ⟨k, hk, rfl, b3, b4, m1, m2, kw⟩ := hrel
    have sz8 := m1.1.top
    have sz9 := m2.1.top
    have lt9 := b3.lt
    by_cases hlt : k < m
    · obtain ⟨b, off, x, rfl, hb1, hb2, hcx, hx⟩ := m2.1.at_ hlt
      have HXW := hid (hx.out.trans (nmK_now (l := l) (ws := ws) hlt))
      clear hx
      have hfx := m2.2 b off rfl k hlt
      obtain ⟨b', off', x', y, rfl, _, _, hcx', hcy', hxy⟩ := Vars.at_ (Sl.keeps hz kw) hlt
      have hi1 : (k : Int) < (m : Int) := by omega
      have HY := hid (show (l.getD k v0).2 = y from (congrArg Prod.snd hxy.out).symm)
      clear hxy
      have hy := HLV.out k hlt
      rw [HY.out] at hy
      have HYB := hid hy
      clear hy
      obtain ⟨F, HF⟩ : ∃ F, Hid (full y = F) := ⟨_, rfl⟩
      have ca7_0 : wr.cell? ⟨w.heap.size, 0, none⟩ = some (.int .i64 lv) := (b3.2 0 _ rfl).1
      have fa7_0 : wr.frozen? ⟨w.heap.size, 0, none⟩ = false := (b3.2 0 _ rfl).2
      have ca7_1 : wr.cell? ⟨w.heap.size, 1, none⟩ = some (.slice V1 n d1) := (b3.2 1 _ rfl).1
      have fa7_1 : wr.frozen? ⟨w.heap.size, 1, none⟩ = false := (b3.2 1 _ rfl).2
      have ca7_2 : wr.cell? ⟨w.heap.size, 2, none⟩ = some (.slice (some ⟨b, off, none⟩) m d2) := (b3.2 2 _ rfl).1
      have fa7_2 : wr.frozen? ⟨w.heap.size, 2, none⟩ = false := (b3.2 2 _ rfl).2
      have ca7_3 : wr.cell? ⟨w.heap.size, 3, none⟩ = some (.int .i64 sm) := (b3.2 3 _ rfl).1
      have fa7_3 : wr.frozen? ⟨w.heap.size, 3, none⟩ = false := (b3.2 3 _ rfl).2
      go_wp2_with fail
      clear ca7_0 fa7_0 ca7_1 fa7_1 ca7_2 fa7_2 ca7_3 fa7_3
      refine (fullSet_any HYB.out).mono ?_
      rintro e w8 ⟨rfl, k8⟩
      rw [HF.out]
      replace b3 := b3.keeps k8
      replace b4 := b4.keeps k8
      replace m1 := m1.keeps k8
      replace m2 := m2.keeps k8
      replace kw := Keeps.trans kw k8
      have lt9 := b3.lt
      have sz10 := kw.size
      clear k8
      clear hcx hcx' hcy'
      have hcx := (m2.1.at_ hlt)
      obtain ⟨b9, off9, x9, e9, -, -, hcx, -⟩ := hcx
      obtain ⟨rfl, rfl⟩ : b = b9 ∧ off = off9 := by simpa using e9
      replace hfx := m2.2 b off rfl k hlt
      by_cases hxF : x = F
      · have t1 : (x == F) = true := by rw [beq_iff_eq]; exact hxF
        have HS := hid (nmK_set (l := l) (ws := ws) hlt (by rw [← HXW.out, HY.out, HF.out]; exact hxF))
        clear hxF
        have ca11_0 : w8.cell? ⟨w.heap.size, 0, none⟩ = some (.int .i64 lv) := (b3.2 0 _ rfl).1
        have fa11_0 : w8.frozen? ⟨w.heap.size, 0, none⟩ = false := (b3.2 0 _ rfl).2
        have ca11_1 : w8.cell? ⟨w.heap.size, 1, none⟩ = some (.slice V1 n d1) := (b3.2 1 _ rfl).1
        have fa11_1 : w8.frozen? ⟨w.heap.size, 1, none⟩ = false := (b3.2 1 _ rfl).2
        have ca11_2 : w8.cell? ⟨w.heap.size, 2, none⟩ = some (.slice (some ⟨b, off, none⟩) m d2) := (b3.2 2 _ rfl).1
        have fa11_2 : w8.frozen? ⟨w.heap.size, 2, none⟩ = false := (b3.2 2 _ rfl).2
        have ca11_3 : w8.cell? ⟨w.heap.size, 3, none⟩ = some (.int .i64 sm) := (b3.2 3 _ rfl).1
        have fa11_3 : w8.frozen? ⟨w.heap.size, 3, none⟩ = false := (b3.2 3 _ rfl).2
        go_wp2_with fail
        clear ca11_0 fa11_0 ca11_1 fa11_1 ca11_2 fa11_2 ca11_3 fa11_3
        obtain ⟨m29, f29⟩ := m2.set_ hlt 0
        rw [HS.out] at m29
        have b39 := b3.fr f29 (by omega)
        have b49 := b4.fr f29 (by omega)
        have m19 := m1.fr f29 (by omega)
        have kw9 := below_fr kw kw.size (by omega) f29
        go_roundw
        case rel => exact ⟨k + 1, by omega, by go_num, b39, b49, m19, m29, kw9⟩
        case measure => simp [intOf]; omega
      have t1 : (x == F) = false := by rw [beq_eq_false_iff_ne]; exact hxF
      have HS := hid (nmK_keep (l := l) (ws := ws) (n := m) (k := k) (by rw [← HXW.out, HY.out, HF.out]; exact hxF))
      rw [HS.out] at m2
      clear hxF
      have ca11_0 : w8.cell? ⟨w.heap.size, 0, none⟩ = some (.int .i64 lv) := (b3.2 0 _ rfl).1
      have fa11_0 : w8.frozen? ⟨w.heap.size, 0, none⟩ = false := (b3.2 0 _ rfl).2
      have ca11_1 : w8.cell? ⟨w.heap.size, 1, none⟩ = some (.slice V1 n d1) := (b3.2 1 _ rfl).1
      have fa11_1 : w8.frozen? ⟨w.heap.size, 1, none⟩ = false := (b3.2 1 _ rfl).2
      have ca11_2 : w8.cell? ⟨w.heap.size, 2, none⟩ = some (.slice (some ⟨b, off, none⟩) m d2) := (b3.2 2 _ rfl).1
      have fa11_2 : w8.frozen? ⟨w.heap.size, 2, none⟩ = false := (b3.2 2 _ rfl).2
      have ca11_3 : w8.cell? ⟨w.heap.size, 3, none⟩ = some (.int .i64 sm) := (b3.2 3 _ rfl).1
      have fa11_3 : w8.frozen? ⟨w.heap.size, 3, none⟩ = false := (b3.2 3 _ rfl).2
      go_wp2_with fail
      clear ca11_0 fa11_0 ca11_1 fa11_1 ca11_2 fa11_2 ca11_3 fa11_3
      go_roundw
      case rel => exact ⟨k + 1, by omega, by go_num, b3, b4, m1, m2, kw⟩
      case measure => simp [intOf]; omega
    · obtain rfl : m = k := by omega
      have lt4 := b4.lt
      have ca7_0 : wr.cell? ⟨w.heap.size, 0, none⟩ = some (.int .i64 lv) := (b3.2 0 _ rfl).1
      have fa7_0 : wr.frozen? ⟨w.heap.size, 0, none⟩ = false := (b3.2 0 _ rfl).2
      have ca7_1 : wr.cell? ⟨w.heap.size, 1, none⟩ = some (.slice V1 n d1) := (b3.2 1 _ rfl).1
      have fa7_1 : wr.frozen? ⟨w.heap.size, 1, none⟩ = false := (b3.2 1 _ rfl).2
      have ca7_2 : wr.cell? ⟨w.heap.size, 2, none⟩ = some (.slice H1 m d2) := (b3.2 2 _ rfl).1
      have fa7_2 : wr.frozen? ⟨w.heap.size, 2, none⟩ = false := (b3.2 2 _ rfl).2
      have ca7_3 : wr.cell? ⟨w.heap.size, 3, none⟩ = some (.int .i64 sm) := (b3.2 3 _ rfl).1
      have fa7_3 : wr.frozen? ⟨w.heap.size, 3, none⟩ = false := (b3.2 3 _ rfl).2
      have ca8_0 : wr.cell? ⟨w.heap.size + 1, 0, none⟩ = some (.int .i64 0) := (b4.2 0 _ rfl).1
      have fa8_0 : wr.frozen? ⟨w.heap.size + 1, 0, none⟩ = false := (b4.2 0 _ rfl).2
      have ca8_1 : wr.cell? ⟨w.heap.size + 1, 1, none⟩ = some (.slice none 0 0) := (b4.2 1 _ rfl).1
      have fa8_1 : wr.frozen? ⟨w.heap.size + 1, 1, none⟩ = false := (b4.2 1 _ rfl).2
      have ca8_2 : wr.cell? ⟨w.heap.size + 1, 2, none⟩ = some (.slice none 0 0) := (b4.2 2 _ rfl).1
      have fa8_2 : wr.frozen? ⟨w.heap.size + 1, 2, none⟩ = false := (b4.2 2 _ rfl).2
      have ca8_3 : wr.cell? ⟨w.heap.size + 1, 3, none⟩ = some (.int .i64 0) := (b4.2 3 _ rfl).1
      have fa8_3 : wr.frozen? ⟨w.heap.size + 1, 3, none⟩ = false := (b4.2 3 _ rfl).2
      replace b3 := b3.far (p := ⟨w.heap.size + 1, 0, none⟩) (by show _ ≠ (w.heap.size + 1); omega) (.int .i64 lv)
      replace m1 := m1.fr (fr_one (p := (w.heap.size + 1)) (i := 0) (.int .i64 lv)) (by omega)
      replace m2 := m2.fr (fr_one (p := (w.heap.size + 1)) (i := 0) (.int .i64 lv)) (by omega)
      replace kw := Below.setCell kw (p := ⟨w.heap.size + 1, 0, none⟩) (by show _ ≤ (w.heap.size + 1); omega) (.int .i64 lv)
      replace b4 : Bl (wr.setCell ⟨w.heap.size + 1, 0, none⟩ (.int .i64 lv)) (w.heap.size + 1) [.int .i64 lv, .slice none 0 0, .slice none 0 0, .int .i64 0] := b4.set 0 (.int .i64 lv)
      replace b3 := b3.far (p := ⟨w.heap.size + 1, 1, none⟩) (by show _ ≠ (w.heap.size + 1); omega) (.slice V1 n d1)
      replace m1 := m1.fr (fr_one (p := (w.heap.size + 1)) (i := 1) (.slice V1 n d1)) (by omega)
      replace m2 := m2.fr (fr_one (p := (w.heap.size + 1)) (i := 1) (.slice V1 n d1)) (by omega)
      replace kw := Below.setCell kw (p := ⟨w.heap.size + 1, 1, none⟩) (by show _ ≤ (w.heap.size + 1); omega) (.slice V1 n d1)
      replace b4 : Bl ((wr.setCell ⟨w.heap.size + 1, 0, none⟩ (.int .i64 lv)).setCell ⟨w.heap.size + 1, 1, none⟩ (.slice V1 n d1)) (w.heap.size + 1) [.int .i64 lv, .slice V1 n d1, .slice none 0 0, .int .i64 0] := b4.set 1 (.slice V1 n d1)
      replace b3 := b3.far (p := ⟨w.heap.size + 1, 2, none⟩) (by show _ ≠ (w.heap.size + 1); omega) (.slice H1 m d2)
      replace m1 := m1.fr (fr_one (p := (w.heap.size + 1)) (i := 2) (.slice H1 m d2)) (by omega)
      replace m2 := m2.fr (fr_one (p := (w.heap.size + 1)) (i := 2) (.slice H1 m d2)) (by omega)
      replace kw := Below.setCell kw (p := ⟨w.heap.size + 1, 2, none⟩) (by show _ ≤ (w.heap.size + 1); omega) (.slice H1 m d2)
      replace b4 : Bl (((wr.setCell ⟨w.heap.size + 1, 0, none⟩ (.int .i64 lv)).setCell ⟨w.heap.size + 1, 1, none⟩ (.slice V1 n d1)).setCell ⟨w.heap.size + 1, 2, none⟩ (.slice H1 m d2)) (w.heap.size + 1) [.int .i64 lv, .slice V1 n d1, .slice H1 m d2, .int .i64 0] := b4.set 2 (.slice H1 m d2)
      replace b3 := b3.far (p := ⟨w.heap.size + 1, 3, none⟩) (by show _ ≠ (w.heap.size + 1); omega) (.int .i64 sm)
      replace m1 := m1.fr (fr_one (p := (w.heap.size + 1)) (i := 3) (.int .i64 sm)) (by omega)
      replace m2 := m2.fr (fr_one (p := (w.heap.size + 1)) (i := 3) (.int .i64 sm)) (by omega)
      replace kw := Below.setCell kw (p := ⟨w.heap.size + 1, 3, none⟩) (by show _ ≤ (w.heap.size + 1); omega) (.int .i64 sm)
      replace b4 : Bl ((((wr.setCell ⟨w.heap.size + 1, 0, none⟩ (.int .i64 lv)).setCell ⟨w.heap.size + 1, 1, none⟩ (.slice V1 n d1)).setCell ⟨w.heap.size + 1, 2, none⟩ (.slice H1 m d2)).setCell ⟨w.heap.size + 1, 3, none⟩ (.int .i64 sm)) (w.heap.size + 1) [.int .i64 lv, .slice V1 n d1, .slice H1 m d2, .int .i64 sm] := b4.set 3 (.int .i64 sm)
      have TT := hid (show TwM ((((wr.setCell ⟨w.heap.size + 1, 0, none⟩ (.int .i64 lv)).setCell ⟨w.heap.size + 1, 1, none⟩ (.slice V1 n d1)).setCell ⟨w.heap.size + 1, 2, none⟩ (.slice H1 m d2)).setCell ⟨w.heap.size + 1, 3, none⟩ (.int .i64 sm)) w.heap.size ((((wr.setCell ⟨w.heap.size + 1, 0, none⟩ (.int .i64 lv)).setCell ⟨w.heap.size + 1, 1, none⟩ (.slice V1 n d1)).setCell ⟨w.heap.size + 1, 2, none⟩ (.slice H1 m d2)).setCell ⟨w.heap.size + 1, 3, none⟩ (.int .i64 sm)).heap.size V1 n vs H1 m (nmK l ws m m) from ⟨Nat.le_refl _, L1, U1, L2, U2, by omega, m1.1.top, by omega, m2.1.top, dj, m1, m2⟩)
      have HK := hid kw
      clear kw m1 m2
      have hi1 : ¬ (m : Int) < (m : Int) := by omega
      go_wp2_with fail
      clear ca7_0 fa7_0 ca7_1 fa7_1 ca7_2 fa7_2 ca7_3 fa7_3 ca8_0 fa8_0 ca8_1 fa8_1 ca8_2 fa8_2 ca8_3 fa8_3
      have ca0_0 : ((((wr.setCell ⟨w.heap.size + 1, 0, none⟩ (.int .i64 lv)).setCell ⟨w.heap.size + 1, 1, none⟩ (.slice V1 n d1)).setCell ⟨w.heap.size + 1, 2, none⟩ (.slice H1 m d2)).setCell ⟨w.heap.size + 1, 3, none⟩ (.int .i64 sm)).cell? ⟨w.heap.size + 1, 0, none⟩ = some (.int .i64 lv) := (b4.2 0 _ rfl).1
      have ca0_1 : ((((wr.setCell ⟨w.heap.size + 1, 0, none⟩ (.int .i64 lv)).setCell ⟨w.heap.size + 1, 1, none⟩ (.slice V1 n d1)).setCell ⟨w.heap.size + 1, 2, none⟩ (.slice H1 m d2)).setCell ⟨w.heap.size + 1, 3, none⟩ (.int .i64 sm)).cell? ⟨w.heap.size + 1, 1, none⟩ = some (.slice V1 n d1) := (b4.2 1 _ rfl).1
      have ca0_2 : ((((wr.setCell ⟨w.heap.size + 1, 0, none⟩ (.int .i64 lv)).setCell ⟨w.heap.size + 1, 1, none⟩ (.slice V1 n d1)).setCell ⟨w.heap.size + 1, 2, none⟩ (.slice H1 m d2)).setCell ⟨w.heap.size + 1, 3, none⟩ (.int .i64 sm)).cell? ⟨w.heap.size + 1, 2, none⟩ = some (.slice H1 m d2) := (b4.2 2 _ rfl).1
      have ca0_3 : ((((wr.setCell ⟨w.heap.size + 1, 0, none⟩ (.int .i64 lv)).setCell ⟨w.heap.size + 1, 1, none⟩ (.slice V1 n d1)).setCell ⟨w.heap.size + 1, 2, none⟩ (.slice H1 m d2)).setCell ⟨w.heap.size + 1, 3, none⟩ (.int .i64 sm)).cell? ⟨w.heap.size + 1, 3, none⟩ = some (.int .i64 sm) := (b4.2 3 _ rfl).1
      try simp only [Exit.inBlock, Exit.then]
      exact bodyPost_ret (v := .agg #[.int .i64 lv, .slice V1 n d1, .slice H1 m d2, .int .i64 sm]) (by simp [results, Try.results97, go_sem, ca0_0, ca0_1, ca0_2, ca0_3]) rfl ⟨_, _, _, _, rfl, TT.out, HK.out⟩
set_option maxRecDepth 100000 in
set_option maxHeartbeats 6400000 in
theorem nNormal_any {A' V H : Option Addr} {lo1 hi1 lo2 hi2 n c m d q e : Nat} {vs ws : List Int} {l : List VV} {lv sm : Int} {w : World} (hv : Ints w lo1 hi1 V n vs) (hw : Ints w lo2 hi2 H m ws) (h' : Sch w A' q e l) (hlv : LvOk l q) (hW : whB l ws = true) :
    Calls Try.prog 92 #[.slice A' q e, .agg #[.int .i64 lv, .slice V n c, .slice H m d, .int .i64 sm]] w (TwRes w lv sm n vs m (nmL l ws)) := by
  obtain ⟨lo9, hi9, hz⟩ := h'.v
  have hq := hz.le
  have hql := Vars.len hz
  have hm := hw.le
  have hwl := hw.1
  obtain rfl : m = q := by
    rcases Nat.eq_zero_or_pos q with e0 | e0
    · unfold whB at hW
      simp only [Bool.and_eq_true, decide_eq_true_eq] at hW
      omega
    · have := (whB_at hW (k := 0) (by omega)).1; omega
  have HWL := hid hwl
  have HLV := hid hlv
  have HNL := hid (show nmL l ws = nmK l ws m m by unfold nmL; rw [hwl])
  have HN0 := hid (nmK_zero (l := l) hwl)
  clear hW hlv hwl hql
  rw [HNL.out]
  go_enter Try.func92, Try.ntmps92
  have kw := keeps_refl w
  replace kw := Keeps.trans kw (keeps_alloc w (.cells #[.int .i64 lv, .slice V n c, .slice H m d, .int .i64 sm] 98))
  have b3 : Bl (w.alloc (.cells #[.int .i64 lv, .slice V n c, .slice H m d, .int .i64 sm] 98)) w.heap.size [.int .i64 lv, .slice V n c, .slice H m d, .int .i64 sm] := Bl.new' (by simp) (by simp)
  replace b3 := b3.keeps (keeps_alloc (w.alloc (.cells #[.int .i64 lv, .slice V n c, .slice H m d, .int .i64 sm] 98)) (.cells #[.int .i64 0, .slice none 0 0, .slice none 0 0, .int .i64 0] 98))
  replace kw := Keeps.trans kw (keeps_alloc (w.alloc (.cells #[.int .i64 lv, .slice V n c, .slice H m d, .int .i64 sm] 98)) (.cells #[.int .i64 0, .slice none 0 0, .slice none 0 0, .int .i64 0] 98))
  have b4 : Bl ((w.alloc (.cells #[.int .i64 lv, .slice V n c, .slice H m d, .int .i64 sm] 98)).alloc (.cells #[.int .i64 0, .slice none 0 0, .slice none 0 0, .int .i64 0] 98)) (w.heap.size + 1) [.int .i64 0, .slice none 0 0, .slice none 0 0, .int .i64 0] := Bl.new' (by simp) (by simp)
  have ca1_0 : ((w.alloc (.cells #[.int .i64 lv, .slice V n c, .slice H m d, .int .i64 sm] 98)).alloc (.cells #[.int .i64 0, .slice none 0 0, .slice none 0 0, .int .i64 0] 98)).cell? ⟨w.heap.size, 0, none⟩ = some (.int .i64 lv) := (b3.2 0 _ rfl).1
  have fa1_0 : ((w.alloc (.cells #[.int .i64 lv, .slice V n c, .slice H m d, .int .i64 sm] 98)).alloc (.cells #[.int .i64 0, .slice none 0 0, .slice none 0 0, .int .i64 0] 98)).frozen? ⟨w.heap.size, 0, none⟩ = false := (b3.2 0 _ rfl).2
  have ca1_1 : ((w.alloc (.cells #[.int .i64 lv, .slice V n c, .slice H m d, .int .i64 sm] 98)).alloc (.cells #[.int .i64 0, .slice none 0 0, .slice none 0 0, .int .i64 0] 98)).cell? ⟨w.heap.size, 1, none⟩ = some (.slice V n c) := (b3.2 1 _ rfl).1
  have fa1_1 : ((w.alloc (.cells #[.int .i64 lv, .slice V n c, .slice H m d, .int .i64 sm] 98)).alloc (.cells #[.int .i64 0, .slice none 0 0, .slice none 0 0, .int .i64 0] 98)).frozen? ⟨w.heap.size, 1, none⟩ = false := (b3.2 1 _ rfl).2
  have ca1_2 : ((w.alloc (.cells #[.int .i64 lv, .slice V n c, .slice H m d, .int .i64 sm] 98)).alloc (.cells #[.int .i64 0, .slice none 0 0, .slice none 0 0, .int .i64 0] 98)).cell? ⟨w.heap.size, 2, none⟩ = some (.slice H m d) := (b3.2 2 _ rfl).1
  have fa1_2 : ((w.alloc (.cells #[.int .i64 lv, .slice V n c, .slice H m d, .int .i64 sm] 98)).alloc (.cells #[.int .i64 0, .slice none 0 0, .slice none 0 0, .int .i64 0] 98)).frozen? ⟨w.heap.size, 2, none⟩ = false := (b3.2 2 _ rfl).2
  have ca1_3 : ((w.alloc (.cells #[.int .i64 lv, .slice V n c, .slice H m d, .int .i64 sm] 98)).alloc (.cells #[.int .i64 0, .slice none 0 0, .slice none 0 0, .int .i64 0] 98)).cell? ⟨w.heap.size, 3, none⟩ = some (.int .i64 sm) := (b3.2 3 _ rfl).1
  have fa1_3 : ((w.alloc (.cells #[.int .i64 lv, .slice V n c, .slice H m d, .int .i64 sm] 98)).alloc (.cells #[.int .i64 0, .slice none 0 0, .slice none 0 0, .int .i64 0] 98)).frozen? ⟨w.heap.size, 3, none⟩ = false := (b3.2 3 _ rfl).2
  go_wp2_with fail
  clear ca1_0 fa1_0 ca1_1 fa1_1 ca1_2 fa1_2 ca1_3 fa1_3
  refine (nOwn_tw (hv.keeps kw) (hw.keeps kw)).mono ?_
  rintro e w2 ⟨V1, d1, H1, d2, rfl, tw, k2⟩
  replace b3 := b3.keeps k2
  replace b4 := b4.keeps k2
  replace kw := Keeps.trans kw k2
  have lt3 := b4.lt
  have sz4 := kw.size
  clear k2
  replace tw := tw.widen (lo' := w.heap.size + 1 + 1) (by simp) (Nat.le_refl _) tw.top
  replace b3 := b3.keeps (keeps_alloc w2 (.cells #[.int .i64 lv, .slice V1 n d1, .slice H1 m d2, .int .i64 sm] 98))
  replace b4 := b4.keeps (keeps_alloc w2 (.cells #[.int .i64 lv, .slice V1 n d1, .slice H1 m d2, .int .i64 sm] 98))
  replace tw := tw.keeps (keeps_alloc w2 (.cells #[.int .i64 lv, .slice V1 n d1, .slice H1 m d2, .int .i64 sm] 98))
  replace kw := Keeps.trans kw (keeps_alloc w2 (.cells #[.int .i64 lv, .slice V1 n d1, .slice H1 m d2, .int .i64 sm] 98))
  have b5 : Bl (w2.alloc (.cells #[.int .i64 lv, .slice V1 n d1, .slice H1 m d2, .int .i64 sm] 98)) w2.heap.size [.int .i64 lv, .slice V1 n d1, .slice H1 m d2, .int .i64 sm] := Bl.new' (by simp) (by simp)
  go_wp2_with fail
  obtain ⟨tT, L1, U1, L2, U2, q1, q2, q3, q4, dj, m1, m2⟩ := id tw
  clear tw
  rw [← HN0.out] at m2
  have hU1 := m1.1.top
  have hU2 := m2.1.top
  go_loopw [11] (fun i wr => ∃ k : Nat, k ≤ m ∧ i = .int .i64 k ∧ Bl wr (w2.heap.size) [.int .i64 lv, .slice V1 n d1, .slice H1 m d2, .int .i64 sm] ∧ Bl wr (w.heap.size + 1) [.int .i64 0, .slice none 0 0, .slice none 0 0, .int .i64 0] ∧ Mine wr L1 U1 V1 n vs ∧ Mine wr L2 U2 H1 m (nmK l ws k m) ∧ Keeps w wr) (fun i _ => m - (intOf i).toNat)
  case atStart => exact ⟨0, Nat.zero_le _, rfl, b5, b4, m1, m2, kw⟩
  clear b3 b4 m1 m2 kw b5
  case round =>
    obtain ⟨k, hk, rfl, b5, b4, m1, m2, kw⟩ := hrel
    have sz8 := m1.1.top
    have sz9 := m2.1.top
    have lt9 := b5.lt
    by_cases hlt : k < m
    · obtain ⟨b, off, x, rfl, hb1, hb2, hcx, hx⟩ := m2.1.at_ hlt
      have HXW := hid (hx.out.trans (nmK_now (l := l) (ws := ws) hlt))
      clear hx
      have hfx := m2.2 b off rfl k hlt
      obtain ⟨b', off', x', y, rfl, _, _, hcx', hcy', hxy⟩ := Vars.at_ (Sl.keeps hz kw) hlt
      have hi1 : (k : Int) < (m : Int) := by omega
      have HY := hid (show (l.getD k v0).2 = y from (congrArg Prod.snd hxy.out).symm)
      clear hxy
      have hy := HLV.out k hlt
      rw [HY.out] at hy
      have HYB := hid hy
      clear hy
      obtain ⟨F, HF⟩ : ∃ F, Hid (full y = F) := ⟨_, rfl⟩
      have HFF := hid (show full (l.getD k v0).2 = F by rw [HY.out]; exact HF.out)
      clear hcx' hcy'
      go_wp2_with fail
      have q0_b5 : wr.cell? ⟨w2.heap.size, 0, none⟩ = some (.int .i64 lv) := (b5.2 0 _ rfl).1
      have rq0_b5 := fun d os => cell_regrown q0_b5 d os
      have q1_b5 : wr.cell? ⟨w2.heap.size, 1, none⟩ = some (.slice V1 n d1) := (b5.2 1 _ rfl).1
      have rq1_b5 := fun d os => cell_regrown q1_b5 d os
      have q2_b5 : wr.cell? ⟨w2.heap.size, 2, none⟩ = some (.slice (some ⟨b, off, none⟩) m d2) := (b5.2 2 _ rfl).1
      have rq2_b5 := fun d os => cell_regrown q2_b5 d os
      have q3_b5 : wr.cell? ⟨w2.heap.size, 3, none⟩ = some (.int .i64 sm) := (b5.2 3 _ rfl).1
      have rq3_b5 := fun d os => cell_regrown q3_b5 d os
      have r_hcx := fun d os => cell_regrown hcx d os
      have cQ0 := hid (fun (dQ : Nat) (oQ : Array Obj) => eFull_k (c := e) (k := k) (Sl.keeps hz (Keeps.trans kw (below_regrown wr dQ oQ))) hlt (HLV.out k hlt) HFF.out)
      refine wp_region_quiet_below (by kernel_rfl) (by kernel_rfl) ?_
      iterate 9 (go_big_quiet_step ((first | with_reducible exact Calls.regrown_of (cQ0.out _ _))))
      refine wpQuiet_nil ?_
      intro _ hw'
      obtain ⟨⟨dq, osq⟩, hw''⟩ := hw'
      subst hw''
      clear q0_b5 rq0_b5 q1_b5 rq1_b5 q2_b5 rq2_b5 q3_b5 rq3_b5 r_hcx cQ0
      have kQ := below_regrown wr dq osq
      obtain ⟨wQ5, hwQ⟩ : ∃ u, u = grow (redrawn wr dq) osq := ⟨_, rfl⟩
      rw [← hwQ] at kQ
      rw [← hwQ]
      clear hwQ
      replace b5 := b5.keeps kQ
      replace b4 := b4.keeps kQ
      replace m1 := m1.keeps kQ
      replace m2 := m2.keeps kQ
      replace kw := Keeps.trans kw kQ
      have lt6 := b5.lt
      have sz7 := kw.size
      clear kQ
      replace hcx := (m2.1.at_ hlt)
      obtain ⟨b9, off9, x9, e9, -, -, hcx, -⟩ := hcx
      obtain ⟨rfl, rfl⟩ : b = b9 ∧ off = off9 := by simpa using e9
      replace hfx := m2.2 b off rfl k hlt
      by_cases hxF : x = F
      · have t1 : (x == F) = true := by rw [beq_iff_eq]; exact hxF
        have HS := hid (nmK_set (l := l) (ws := ws) hlt (by rw [← HXW.out, HY.out, HF.out]; exact hxF))
        clear hxF
        have ca8_0 : wQ5.cell? ⟨w2.heap.size, 0, none⟩ = some (.int .i64 lv) := (b5.2 0 _ rfl).1
        have fa8_0 : wQ5.frozen? ⟨w2.heap.size, 0, none⟩ = false := (b5.2 0 _ rfl).2
        have ca8_1 : wQ5.cell? ⟨w2.heap.size, 1, none⟩ = some (.slice V1 n d1) := (b5.2 1 _ rfl).1
        have fa8_1 : wQ5.frozen? ⟨w2.heap.size, 1, none⟩ = false := (b5.2 1 _ rfl).2
        have ca8_2 : wQ5.cell? ⟨w2.heap.size, 2, none⟩ = some (.slice (some ⟨b, off, none⟩) m d2) := (b5.2 2 _ rfl).1
        have fa8_2 : wQ5.frozen? ⟨w2.heap.size, 2, none⟩ = false := (b5.2 2 _ rfl).2
        have ca8_3 : wQ5.cell? ⟨w2.heap.size, 3, none⟩ = some (.int .i64 sm) := (b5.2 3 _ rfl).1
        have fa8_3 : wQ5.frozen? ⟨w2.heap.size, 3, none⟩ = false := (b5.2 3 _ rfl).2
        go_wp2_with fail
        clear ca8_0 fa8_0 ca8_1 fa8_1 ca8_2 fa8_2 ca8_3 fa8_3
        obtain ⟨m29, f29⟩ := m2.set_ hlt 0
        rw [HS.out] at m29
        have b39 := b5.fr f29 (by omega)
        have b49 := b4.fr f29 (by omega)
        have m19 := m1.fr f29 (by omega)
        have kw9 := below_fr kw kw.size (by omega) f29
        go_roundw
        case rel => exact ⟨k + 1, by omega, by go_num, b39, b49, m19, m29, kw9⟩
        case measure => simp [intOf]; omega
      have t1 : (x == F) = false := by rw [beq_eq_false_iff_ne]; exact hxF
      have HS := hid (nmK_keep (l := l) (ws := ws) (n := m) (k := k) (by rw [← HXW.out, HY.out, HF.out]; exact hxF))
      rw [HS.out] at m2
      clear hxF
      have ca8_0 : wQ5.cell? ⟨w2.heap.size, 0, none⟩ = some (.int .i64 lv) := (b5.2 0 _ rfl).1
      have fa8_0 : wQ5.frozen? ⟨w2.heap.size, 0, none⟩ = false := (b5.2 0 _ rfl).2
      have ca8_1 : wQ5.cell? ⟨w2.heap.size, 1, none⟩ = some (.slice V1 n d1) := (b5.2 1 _ rfl).1
      have fa8_1 : wQ5.frozen? ⟨w2.heap.size, 1, none⟩ = false := (b5.2 1 _ rfl).2
      have ca8_2 : wQ5.cell? ⟨w2.heap.size, 2, none⟩ = some (.slice (some ⟨b, off, none⟩) m d2) := (b5.2 2 _ rfl).1
      have fa8_2 : wQ5.frozen? ⟨w2.heap.size, 2, none⟩ = false := (b5.2 2 _ rfl).2
      have ca8_3 : wQ5.cell? ⟨w2.heap.size, 3, none⟩ = some (.int .i64 sm) := (b5.2 3 _ rfl).1
      have fa8_3 : wQ5.frozen? ⟨w2.heap.size, 3, none⟩ = false := (b5.2 3 _ rfl).2
      go_wp2_with fail
      clear ca8_0 fa8_0 ca8_1 fa8_1 ca8_2 fa8_2 ca8_3 fa8_3
      go_roundw
      case rel => exact ⟨k + 1, by omega, by go_num, b5, b4, m1, m2, kw⟩
      case measure => simp [intOf]; omega
    · obtain rfl : m = k := by omega
      have lt4 := b4.lt
      have ca5_0 : wr.cell? ⟨w2.heap.size, 0, none⟩ = some (.int .i64 lv) := (b5.2 0 _ rfl).1
      have fa5_0 : wr.frozen? ⟨w2.heap.size, 0, none⟩ = false := (b5.2 0 _ rfl).2
      have ca5_1 : wr.cell? ⟨w2.heap.size, 1, none⟩ = some (.slice V1 n d1) := (b5.2 1 _ rfl).1
      have fa5_1 : wr.frozen? ⟨w2.heap.size, 1, none⟩ = false := (b5.2 1 _ rfl).2
      have ca5_2 : wr.cell? ⟨w2.heap.size, 2, none⟩ = some (.slice H1 m d2) := (b5.2 2 _ rfl).1
      have fa5_2 : wr.frozen? ⟨w2.heap.size, 2, none⟩ = false := (b5.2 2 _ rfl).2
      have ca5_3 : wr.cell? ⟨w2.heap.size, 3, none⟩ = some (.int .i64 sm) := (b5.2 3 _ rfl).1
      have fa5_3 : wr.frozen? ⟨w2.heap.size, 3, none⟩ = false := (b5.2 3 _ rfl).2
      have ca6_0 : wr.cell? ⟨w.heap.size + 1, 0, none⟩ = some (.int .i64 0) := (b4.2 0 _ rfl).1
      have fa6_0 : wr.frozen? ⟨w.heap.size + 1, 0, none⟩ = false := (b4.2 0 _ rfl).2
      have ca6_1 : wr.cell? ⟨w.heap.size + 1, 1, none⟩ = some (.slice none 0 0) := (b4.2 1 _ rfl).1
      have fa6_1 : wr.frozen? ⟨w.heap.size + 1, 1, none⟩ = false := (b4.2 1 _ rfl).2
      have ca6_2 : wr.cell? ⟨w.heap.size + 1, 2, none⟩ = some (.slice none 0 0) := (b4.2 2 _ rfl).1
      have fa6_2 : wr.frozen? ⟨w.heap.size + 1, 2, none⟩ = false := (b4.2 2 _ rfl).2
      have ca6_3 : wr.cell? ⟨w.heap.size + 1, 3, none⟩ = some (.int .i64 0) := (b4.2 3 _ rfl).1
      have fa6_3 : wr.frozen? ⟨w.heap.size + 1, 3, none⟩ = false := (b4.2 3 _ rfl).2
      replace b5 := b5.far (p := ⟨w.heap.size + 1, 0, none⟩) (by show _ ≠ (w.heap.size + 1); omega) (.int .i64 lv)
      replace m1 := m1.fr (fr_one (p := (w.heap.size + 1)) (i := 0) (.int .i64 lv)) (by omega)
      replace m2 := m2.fr (fr_one (p := (w.heap.size + 1)) (i := 0) (.int .i64 lv)) (by omega)
      replace kw := Below.setCell kw (p := ⟨w.heap.size + 1, 0, none⟩) (by show _ ≤ (w.heap.size + 1); omega) (.int .i64 lv)
      replace b4 : Bl (wr.setCell ⟨w.heap.size + 1, 0, none⟩ (.int .i64 lv)) (w.heap.size + 1) [.int .i64 lv, .slice none 0 0, .slice none 0 0, .int .i64 0] := b4.set 0 (.int .i64 lv)
      replace b5 := b5.far (p := ⟨w.heap.size + 1, 1, none⟩) (by show _ ≠ (w.heap.size + 1); omega) (.slice V1 n d1)
      replace m1 := m1.fr (fr_one (p := (w.heap.size + 1)) (i := 1) (.slice V1 n d1)) (by omega)
      replace m2 := m2.fr (fr_one (p := (w.heap.size + 1)) (i := 1) (.slice V1 n d1)) (by omega)
      replace kw := Below.setCell kw (p := ⟨w.heap.size + 1, 1, none⟩) (by show _ ≤ (w.heap.size + 1); omega) (.slice V1 n d1)
      replace b4 : Bl ((wr.setCell ⟨w.heap.size + 1, 0, none⟩ (.int .i64 lv)).setCell ⟨w.heap.size + 1, 1, none⟩ (.slice V1 n d1)) (w.heap.size + 1) [.int .i64 lv, .slice V1 n d1, .slice none 0 0, .int .i64 0] := b4.set 1 (.slice V1 n d1)
      replace b5 := b5.far (p := ⟨w.heap.size + 1, 2, none⟩) (by show _ ≠ (w.heap.size + 1); omega) (.slice H1 m d2)
      replace m1 := m1.fr (fr_one (p := (w.heap.size + 1)) (i := 2) (.slice H1 m d2)) (by omega)
      replace m2 := m2.fr (fr_one (p := (w.heap.size + 1)) (i := 2) (.slice H1 m d2)) (by omega)
      replace kw := Below.setCell kw (p := ⟨w.heap.size + 1, 2, none⟩) (by show _ ≤ (w.heap.size + 1); omega) (.slice H1 m d2)
      replace b4 : Bl (((wr.setCell ⟨w.heap.size + 1, 0, none⟩ (.int .i64 lv)).setCell ⟨w.heap.size + 1, 1, none⟩ (.slice V1 n d1)).setCell ⟨w.heap.size + 1, 2, none⟩ (.slice H1 m d2)) (w.heap.size + 1) [.int .i64 lv, .slice V1 n d1, .slice H1 m d2, .int .i64 0] := b4.set 2 (.slice H1 m d2)
      replace b5 := b5.far (p := ⟨w.heap.size + 1, 3, none⟩) (by show _ ≠ (w.heap.size + 1); omega) (.int .i64 sm)
      replace m1 := m1.fr (fr_one (p := (w.heap.size + 1)) (i := 3) (.int .i64 sm)) (by omega)
      replace m2 := m2.fr (fr_one (p := (w.heap.size + 1)) (i := 3) (.int .i64 sm)) (by omega)
      replace kw := Below.setCell kw (p := ⟨w.heap.size + 1, 3, none⟩) (by show _ ≤ (w.heap.size + 1); omega) (.int .i64 sm)
      replace b4 : Bl ((((wr.setCell ⟨w.heap.size + 1, 0, none⟩ (.int .i64 lv)).setCell ⟨w.heap.size + 1, 1, none⟩ (.slice V1 n d1)).setCell ⟨w.heap.size + 1, 2, none⟩ (.slice H1 m d2)).setCell ⟨w.heap.size + 1, 3, none⟩ (.int .i64 sm)) (w.heap.size + 1) [.int .i64 lv, .slice V1 n d1, .slice H1 m d2, .int .i64 sm] := b4.set 3 (.int .i64 sm)
      have TT := hid (show TwM ((((wr.setCell ⟨w.heap.size + 1, 0, none⟩ (.int .i64 lv)).setCell ⟨w.heap.size + 1, 1, none⟩ (.slice V1 n d1)).setCell ⟨w.heap.size + 1, 2, none⟩ (.slice H1 m d2)).setCell ⟨w.heap.size + 1, 3, none⟩ (.int .i64 sm)) w.heap.size ((((wr.setCell ⟨w.heap.size + 1, 0, none⟩ (.int .i64 lv)).setCell ⟨w.heap.size + 1, 1, none⟩ (.slice V1 n d1)).setCell ⟨w.heap.size + 1, 2, none⟩ (.slice H1 m d2)).setCell ⟨w.heap.size + 1, 3, none⟩ (.int .i64 sm)).heap.size V1 n vs H1 m (nmK l ws m m) from ⟨Nat.le_refl _, L1, U1, L2, U2, by omega, m1.1.top, by omega, m2.1.top, dj, m1, m2⟩)
      have HK := hid kw
      clear kw m1 m2
      have hi1 : ¬ (m : Int) < (m : Int) := by omega
      go_wp2_with fail
      clear ca5_0 fa5_0 ca5_1 fa5_1 ca5_2 fa5_2 ca5_3 fa5_3 ca6_0 fa6_0 ca6_1 fa6_1 ca6_2 fa6_2 ca6_3 fa6_3
      have ca0_0 : ((((wr.setCell ⟨w.heap.size + 1, 0, none⟩ (.int .i64 lv)).setCell ⟨w.heap.size + 1, 1, none⟩ (.slice V1 n d1)).setCell ⟨w.heap.size + 1, 2, none⟩ (.slice H1 m d2)).setCell ⟨w.heap.size + 1, 3, none⟩ (.int .i64 sm)).cell? ⟨w.heap.size + 1, 0, none⟩ = some (.int .i64 lv) := (b4.2 0 _ rfl).1
      have ca0_1 : ((((wr.setCell ⟨w.heap.size + 1, 0, none⟩ (.int .i64 lv)).setCell ⟨w.heap.size + 1, 1, none⟩ (.slice V1 n d1)).setCell ⟨w.heap.size + 1, 2, none⟩ (.slice H1 m d2)).setCell ⟨w.heap.size + 1, 3, none⟩ (.int .i64 sm)).cell? ⟨w.heap.size + 1, 1, none⟩ = some (.slice V1 n d1) := (b4.2 1 _ rfl).1
      have ca0_2 : ((((wr.setCell ⟨w.heap.size + 1, 0, none⟩ (.int .i64 lv)).setCell ⟨w.heap.size + 1, 1, none⟩ (.slice V1 n d1)).setCell ⟨w.heap.size + 1, 2, none⟩ (.slice H1 m d2)).setCell ⟨w.heap.size + 1, 3, none⟩ (.int .i64 sm)).cell? ⟨w.heap.size + 1, 2, none⟩ = some (.slice H1 m d2) := (b4.2 2 _ rfl).1
      have ca0_3 : ((((wr.setCell ⟨w.heap.size + 1, 0, none⟩ (.int .i64 lv)).setCell ⟨w.heap.size + 1, 1, none⟩ (.slice V1 n d1)).setCell ⟨w.heap.size + 1, 2, none⟩ (.slice H1 m d2)).setCell ⟨w.heap.size + 1, 3, none⟩ (.int .i64 sm)).cell? ⟨w.heap.size + 1, 3, none⟩ = some (.int .i64 sm) := (b4.2 3 _ rfl).1
      try simp only [Exit.inBlock, Exit.then]
      exact bodyPost_ret (v := .agg #[.int .i64 lv, .slice V1 n d1, .slice H1 m d2, .int .i64 sm]) (by simp [results, Try.results92, go_sem, ca0_0, ca0_1, ca0_2, ca0_3]) rfl ⟨_, _, _, _, rfl, TT.out, HK.out⟩
end Go.Proofs.Ytellocnplemjmaa
