/- The helpers of the laws over variables and slices of them: walks. -/
import Derived.Test.YtlkjhkkfdmjfcaaGreatDoorVar
import Derived.Test.YtlkjhkkfdmjfcaaGreatDoorBl
namespace Go.Proofs.YtlkjhkkfdmjfcaaGreatDoor
open Go.RowKit
set_option linter.unusedVariables false
set_option linter.unusedSimpArgs false

theorem make_vars (n : Nat) (hn : n ≤ 67108864) (w : World) :
    (Instr.makeSlice 34 (.int .i64 (n : Int)) (.int .i64 (n : Int))).run Tryz.prog w = .ok (.slice (some ⟨w.heap.size, 0, none⟩) n n) (w.alloc (.cells (madeCells #[.string ByteArray.empty, .int .i64 0] (n * 2)) 82)) := by
  obtain ⟨i, hi, hz0, hz1, hz2⟩ := info_parts info_var
  have h := run_make_rowN (P := Tryz.prog) 34 82 i _ Tryz.underlying34 hi hz0 .i64 .i64 n n (Nat.le_refl _) (by rw [hz2]; omega) (by omega) w
  rw [hz1] at h
  simpa [Value.cells] using h
theorem vrs_replicate (n : Nat) : vrs (List.replicate n v0) = (madeCells #[.string ByteArray.empty, .int .i64 0] (n * 2)).toList := by
  apply List.ext_getElem
  · simp [vrs_len, size_madeCells]
  · intro i h1 h2
    rw [vrs_len, List.length_replicate] at h1
    have hk : i / 2 < (List.replicate n v0).length := by simp; omega
    have h3 := vrs_at (List.replicate n v0) (i / 2) hk
    have h4 : (List.replicate n v0).getD (i / 2) v0 = v0 := by simp [List.getD, show i / 2 < n by omega]
    rw [h4] at h3
    have hgd : (vrs (List.replicate n v0)).getD i undef = (vrs (List.replicate n v0))[i]'(by rw [vrs_len, List.length_replicate]; exact h1) := by
      simp [List.getD, show i < (vrs (List.replicate n v0)).length by rw [vrs_len, List.length_replicate]; exact h1]
    rw [← hgd]
    rcases Nat.mod_two_eq_zero_or_one i with h | h
    · have e : i = i / 2 * 2 := by omega
      have e2 : (madeCells #[Value.string ByteArray.empty, Value.int .i64 0] (n * 2)).toList[i] = .string ByteArray.empty := by
        simp only [madeCells, Array.toList_map, Array.toList_range, List.getElem_map, List.getElem_range]; simp [h]
      rw [e2]; rw [e]; exact h3.1
    · have e : i = i / 2 * 2 + 1 := by omega
      have e2 : (madeCells #[Value.string ByteArray.empty, Value.int .i64 0] (n * 2)).toList[i] = .int .i64 0 := by
        simp only [madeCells, Array.toList_map, Array.toList_range, List.getElem_map, List.getElem_range]; simp [h]
      rw [e2]; rw [e]; exact h3.2
theorem OwnC.newV (w : World) (n : Nat) : OwnC (w.alloc (.cells (madeCells #[.string ByteArray.empty, .int .i64 0] (n * 2)) 82)) w.heap.size 82 (vrs (List.replicate n v0)) := by
  unfold OwnC
  rw [heap_alloc_new, vrs_replicate]
theorem OwnC.setV {w : World} {g k : Nat} {t : TypeId} {l : List VV} (h : OwnC w g t (vrs l)) (x : ByteArray) (y : Int) :
    OwnC ((w.setCell ⟨g, k * 2, none⟩ (.string x)).setCell ⟨g, k * 2 + 1, none⟩ (.int .i64 y)) g t (vrs (l.set k (x, y))) := by
  have := (h.set_ (k * 2) (.string x)).set_ (k * 2 + 1) (.int .i64 y)
  rwa [vrs_set] at this
/-- What is left of a schema's size. -/
def szVs (left : Int) (n : Nat) (l : List VV) : Int := if (n : Int) + vsz l n ≤ left then left - n - vsz l n else -1

set_option maxRecDepth 100000 in
set_option maxHeartbeats 1600000 in
theorem szVariable_any {s : ByteArray} {lv left : Int} {w : World} (m : s.size ≤ maxLen) (h0 : 0 ≤ left) (h1 : left ≤ 1048576) :
    Calls Tryz.prog 27 #[.agg #[.string s, .int .i64 lv], .int .i64 left] w fun e w' => e = .returned (.int .i64 (szI left s.size)) ∧ Keeps w w' := by
  unfold maxLen at m
  obtain ⟨n, hn⟩ : ∃ n, s.size = n := ⟨_, rfl⟩
  have HN := hid hn
  rw [hn] at m ⊢
  clear hn
  by_cases h : left - (n : Int) < 0
  · rw [szI_no (by omega)]
    have hz : (s.size : Int) = (n : Int) := by rw [HN.out]
    go_enter Tryz.func27, Tryz.ntmps27
    have kw := keeps_refl w
    replace kw := Keeps.trans kw (keeps_alloc w (.cells #[.string s, .int .i64 lv] 69))
    have b2 : Bl (w.alloc (.cells #[.string s, .int .i64 lv] 69)) w.heap.size [.string s, .int .i64 lv] := Bl.new' (by simp) (by simp)
    have ca1_0 : (w.alloc (.cells #[.string s, .int .i64 lv] 69)).cell? ⟨w.heap.size, 0, none⟩ = some (.string s) := (b2.2 0 _ rfl).1
    have fa1_0 : (w.alloc (.cells #[.string s, .int .i64 lv] 69)).frozen? ⟨w.heap.size, 0, none⟩ = false := (b2.2 0 _ rfl).2
    have ca1_1 : (w.alloc (.cells #[.string s, .int .i64 lv] 69)).cell? ⟨w.heap.size, 1, none⟩ = some (.int .i64 lv) := (b2.2 1 _ rfl).1
    have fa1_1 : (w.alloc (.cells #[.string s, .int .i64 lv] 69)).frozen? ⟨w.heap.size, 1, none⟩ = false := (b2.2 1 _ rfl).2
    go_wp2_with fail
    clear ca1_0 fa1_0 ca1_1 fa1_1
    go_ret
    exact ⟨rfl, kw⟩
  · rw [szI_ok (by omega)]
    have hz : (s.size : Int) = (n : Int) := by rw [HN.out]
    go_enter Tryz.func27, Tryz.ntmps27
    have kw := keeps_refl w
    replace kw := Keeps.trans kw (keeps_alloc w (.cells #[.string s, .int .i64 lv] 69))
    have b2 : Bl (w.alloc (.cells #[.string s, .int .i64 lv] 69)) w.heap.size [.string s, .int .i64 lv] := Bl.new' (by simp) (by simp)
    have ca1_0 : (w.alloc (.cells #[.string s, .int .i64 lv] 69)).cell? ⟨w.heap.size, 0, none⟩ = some (.string s) := (b2.2 0 _ rfl).1
    have fa1_0 : (w.alloc (.cells #[.string s, .int .i64 lv] 69)).frozen? ⟨w.heap.size, 0, none⟩ = false := (b2.2 0 _ rfl).2
    have ca1_1 : (w.alloc (.cells #[.string s, .int .i64 lv] 69)).cell? ⟨w.heap.size, 1, none⟩ = some (.int .i64 lv) := (b2.2 1 _ rfl).1
    have fa1_1 : (w.alloc (.cells #[.string s, .int .i64 lv] 69)).frozen? ⟨w.heap.size, 1, none⟩ = false := (b2.2 1 _ rfl).2
    go_wp2_with fail
    clear ca1_0 fa1_0 ca1_1 fa1_1
    go_ret
    exact ⟨rfl, kw⟩
set_option maxRecDepth 100000 in
set_option maxHeartbeats 1600000 in
theorem toVariable_any {s : ByteArray} {lv : Int} {w : World} :
    Calls Tryz.prog 34 #[.agg #[.string s, .int .i64 lv]] w fun e w' => e = .returned (.agg #[.string s, .int .i64 lv]) ∧ Keeps w w' := by
  go_enter Tryz.func34, Tryz.ntmps34
  have kw := keeps_refl w
  replace kw := Keeps.trans kw (keeps_alloc w (.cells #[.string s, .int .i64 lv] 69))
  have b1 : Bl (w.alloc (.cells #[.string s, .int .i64 lv] 69)) w.heap.size [.string s, .int .i64 lv] := Bl.new' (by simp) (by simp)
  replace b1 := b1.keeps (keeps_alloc (w.alloc (.cells #[.string s, .int .i64 lv] 69)) (.cells #[.string s, .int .i64 lv] 82))
  replace kw := Keeps.trans kw (keeps_alloc (w.alloc (.cells #[.string s, .int .i64 lv] 69)) (.cells #[.string s, .int .i64 lv] 82))
  have b2 : Bl ((w.alloc (.cells #[.string s, .int .i64 lv] 69)).alloc (.cells #[.string s, .int .i64 lv] 82)) (w.heap.size + 1) [.string s, .int .i64 lv] := Bl.new' (by simp) (by simp)
  replace b1 := b1.keeps (keeps_alloc ((w.alloc (.cells #[.string s, .int .i64 lv] 69)).alloc (.cells #[.string s, .int .i64 lv] 82)) (.cells #[.string s, .int .i64 lv] 82))
  replace b2 := b2.keeps (keeps_alloc ((w.alloc (.cells #[.string s, .int .i64 lv] 69)).alloc (.cells #[.string s, .int .i64 lv] 82)) (.cells #[.string s, .int .i64 lv] 82))
  replace kw := Keeps.trans kw (keeps_alloc ((w.alloc (.cells #[.string s, .int .i64 lv] 69)).alloc (.cells #[.string s, .int .i64 lv] 82)) (.cells #[.string s, .int .i64 lv] 82))
  have b3 : Bl (((w.alloc (.cells #[.string s, .int .i64 lv] 69)).alloc (.cells #[.string s, .int .i64 lv] 82)).alloc (.cells #[.string s, .int .i64 lv] 82)) (w.heap.size + 1 + 1) [.string s, .int .i64 lv] := Bl.new' (by simp) (by simp)
  have HK := hid kw
  clear kw
  go_wp2_with fail
  have ca0_0 : (((w.alloc (.cells #[.string s, .int .i64 lv] 69)).alloc (.cells #[.string s, .int .i64 lv] 82)).alloc (.cells #[.string s, .int .i64 lv] 82)).cell? ⟨w.heap.size + 1, 0, none⟩ = some (.string s) := (b2.2 0 _ rfl).1
  have ca0_1 : (((w.alloc (.cells #[.string s, .int .i64 lv] 69)).alloc (.cells #[.string s, .int .i64 lv] 82)).alloc (.cells #[.string s, .int .i64 lv] 82)).cell? ⟨w.heap.size + 1, 1, none⟩ = some (.int .i64 lv) := (b2.2 1 _ rfl).1
  try simp only [Exit.inBlock, Exit.then]
  exact bodyPost_ret (v := .agg #[.string s, .int .i64 lv]) (by simp [results, Tryz.results34, go_sem, ca0_0, ca0_1]) rfl ⟨rfl, HK.out⟩
set_option maxRecDepth 100000 in
set_option maxHeartbeats 1600000 in
theorem eqVariable_true {s : ByteArray} {lv : Int} {w : World} :
    Calls Tryz.prog 43 #[.agg #[.string s, .int .i64 lv], .agg #[.string s, .int .i64 lv]] w fun e w' => e = .returned (.bool true) ∧ Keeps w w' := by
  have e2 : (lv != lv) = false := by simp
  go_enter Tryz.func43, Tryz.ntmps43
  have kw := keeps_refl w
  replace kw := Keeps.trans kw (keeps_alloc w (.cells #[.string s, .int .i64 lv] 82))
  have b2 : Bl (w.alloc (.cells #[.string s, .int .i64 lv] 82)) w.heap.size [.string s, .int .i64 lv] := Bl.new' (by simp) (by simp)
  replace b2 := b2.keeps (keeps_alloc (w.alloc (.cells #[.string s, .int .i64 lv] 82)) (.cells #[.string s, .int .i64 lv] 82))
  replace kw := Keeps.trans kw (keeps_alloc (w.alloc (.cells #[.string s, .int .i64 lv] 82)) (.cells #[.string s, .int .i64 lv] 82))
  have b3 : Bl ((w.alloc (.cells #[.string s, .int .i64 lv] 82)).alloc (.cells #[.string s, .int .i64 lv] 82)) (w.heap.size + 1) [.string s, .int .i64 lv] := Bl.new' (by simp) (by simp)
  have ca1_0 : ((w.alloc (.cells #[.string s, .int .i64 lv] 82)).alloc (.cells #[.string s, .int .i64 lv] 82)).cell? ⟨w.heap.size, 0, none⟩ = some (.string s) := (b2.2 0 _ rfl).1
  have fa1_0 : ((w.alloc (.cells #[.string s, .int .i64 lv] 82)).alloc (.cells #[.string s, .int .i64 lv] 82)).frozen? ⟨w.heap.size, 0, none⟩ = false := (b2.2 0 _ rfl).2
  have ca1_1 : ((w.alloc (.cells #[.string s, .int .i64 lv] 82)).alloc (.cells #[.string s, .int .i64 lv] 82)).cell? ⟨w.heap.size, 1, none⟩ = some (.int .i64 lv) := (b2.2 1 _ rfl).1
  have fa1_1 : ((w.alloc (.cells #[.string s, .int .i64 lv] 82)).alloc (.cells #[.string s, .int .i64 lv] 82)).frozen? ⟨w.heap.size, 1, none⟩ = false := (b2.2 1 _ rfl).2
  have ca2_0 : ((w.alloc (.cells #[.string s, .int .i64 lv] 82)).alloc (.cells #[.string s, .int .i64 lv] 82)).cell? ⟨w.heap.size + 1, 0, none⟩ = some (.string s) := (b3.2 0 _ rfl).1
  have fa2_0 : ((w.alloc (.cells #[.string s, .int .i64 lv] 82)).alloc (.cells #[.string s, .int .i64 lv] 82)).frozen? ⟨w.heap.size + 1, 0, none⟩ = false := (b3.2 0 _ rfl).2
  have ca2_1 : ((w.alloc (.cells #[.string s, .int .i64 lv] 82)).alloc (.cells #[.string s, .int .i64 lv] 82)).cell? ⟨w.heap.size + 1, 1, none⟩ = some (.int .i64 lv) := (b3.2 1 _ rfl).1
  have fa2_1 : ((w.alloc (.cells #[.string s, .int .i64 lv] 82)).alloc (.cells #[.string s, .int .i64 lv] 82)).frozen? ⟨w.heap.size + 1, 1, none⟩ = false := (b3.2 1 _ rfl).2
  go_wp2_with fail
  clear ca1_0 fa1_0 ca1_1 fa1_1 ca2_0 fa2_0 ca2_1 fa2_1
  go_ret
  exact ⟨rfl, kw⟩
set_option maxRecDepth 100000 in
set_option maxHeartbeats 3200000 in
theorem szVariableS_any {A : Option Addr} {n c : Nat} {l : List VV} {left : Int} {w : World} (h : VarsArg w A n l) (h0 : 0 ≤ left) (h1 : left ≤ 1048576) :
    Calls Tryz.prog 6 #[.slice A n c, .int .i64 left] w fun e w' => e = .returned (.int .i64 (szVs left n l)) ∧ Keeps w w' := by
  have hm := h.1
  unfold maxLen at hm
  have HZ := hid (show szVs left n l = if (n : Int) + vsz l n ≤ left then left - n - vsz l n else -1 from rfl)
  by_cases hn : left - (n : Int) < 0
  · go_enter Tryz.func6, Tryz.ntmps6
    go_wp2
    go_ret
    exact ⟨ret_int (by rw [HZ.out, if_neg (by omega)]), keeps_refl _⟩
  have hv := h.2.1 (by omega)
  have hs := h.2.2.1
  have HS := hid hs
  have hl := Vars.len hv
  have HL := hid hl
  clear hs hl h
  have hn2 : n ≤ 1048576 := by omega
  go_enter Tryz.func6, Tryz.ntmps6
  go_wp2_with fail
  go_loopw [1, 5] (fun q i wr => ∃ k : Nat, k ≤ n ∧ i = .int .i64 k ∧ q = .int .i64 (left - n - vsz l k) ∧ (n : Int) + vsz l k ≤ left ∧ Keeps w wr) (fun _ i _ => n - (intOf i).toNat)
  case atStart => exact ⟨0, Nat.zero_le _, rfl, by rw [vsz_zero]; simp, by rw [vsz_zero]; omega, keeps_refl _⟩
  case round =>
    obtain ⟨k, hk, rfl, rfl, hb, hq⟩ := hrel
    by_cases hlt : k < n
    · obtain ⟨b, off, x, y, rfl, _, _, hc, hd, hx⟩ := Vars.at_ (hv.keeps hq) hlt
      have hi1 : (k : Int) < (n : Int) := by omega
      have hxs : x.size ≤ maxLen := by have := HS.out k; rw [← hx.out] at this; exact this
      have HV := hid (vsz_succ (l := l) (k := k) (by rw [HL.out]; exact hlt))
      rw [← hx.out] at HV
      have HM := hid (vsz_mono (l := l) (i := k + 1) (j := n) hlt (by rw [HL.out]; exact Nat.le_refl _))
      obtain ⟨L, hL⟩ : ∃ L : Int, left - n - vsz l k = L := ⟨_, rfl⟩
      rw [hL]
      have hL0 : 0 ≤ L := by omega
      have hL1 : L ≤ 1048576 := by omega
      have HLL := hid hL
      clear hL hx
      go_wp2_with fail
      refine (szVariable_any hxs hL0 hL1).mono ?_
      rintro e w1 ⟨rfl, k1⟩
      have hq1 := hid (hq.trans k1)
      clear hc hd k1 hq
      by_cases h2 : L - (x.size : Int) < 0
      · rw [szI_no h2]
        go_wp2
        go_ret
        exact ⟨ret_int (by rw [HZ.out, if_neg (by have := HV.out; have := HM.out; have := HLL.out; omega)]), hq1.out⟩
      · rw [szI_ok h2]
        go_wp2_with fail
        go_roundw
        case rel => exact ⟨k + 1, by omega, by go_num, by congr 1; have := HV.out; have := HLL.out; omega, by have := HV.out; have := HLL.out; omega, hq1.out⟩
        case measure => simp [intOf]; omega
    · obtain rfl : k = n := by omega
      go_wp2
      go_ret
      exact ⟨ret_int (by rw [HZ.out, if_pos hb]), hq⟩
set_option maxRecDepth 100000 in
set_option maxHeartbeats 3200000 in
theorem toVariableS_any {A : Option Addr} {lo hi n c : Nat} {xs : List VV} {w : World} (h : Vars w lo hi A n xs) :
    Calls Tryz.prog 10 #[.slice A n c] w fun e w' => ∃ A', e = .returned (.slice A' n n) ∧ VarsM w' w.heap.size w'.heap.size A' n xs ∧ Keeps w w' := by
  have hn := h.le
  have hmk := make_vars n hn
  have hl := Vars.len h
  go_enter Tryz.func10, Tryz.ntmps10
  go_wp2_with fail
  clear hmk
  go_loopw [4] (fun i wr => ∃ k : Nat, k ≤ n ∧ i = .int .i64 k ∧ OwnC wr w.heap.size 82 (vrs (padD v0 xs k)) ∧ Keeps w wr) (fun i _ => n - (intOf i).toNat)
  case atStart => exact ⟨0, Nat.zero_le _, rfl, by rw [padD_zero, hl]; exact OwnC.newV w n, keeps_alloc _ _⟩
  case round =>
    obtain ⟨k, hk, rfl, hown, hkeep⟩ := hrel
    have hgs := hown.lt
    by_cases hlt : k < n
    · obtain ⟨b, off, x, y, rfl, _, hb, hc, hd, hx⟩ := Vars.at_ (h.keeps hkeep) hlt
      have hi1 : (k : Int) < (n : Int) := by omega
      go_wp2_with fail
      refine (toVariable_any).mono ?_
      rintro e w1 ⟨rfl, k1⟩
      replace hown := hown.keeps k1
      have hkp := hid (hkeep.trans k1)
      clear k1 hkeep
      have hll : (vrs (padD v0 xs k)).length = n * 2 := by rw [vrs_len, padD_len _ _ _ (by omega), hl]
      have d1 := hown.cell (k * 2) (by omega)
      have d2 := hown.cell (k * 2 + 1) (by omega)
      have f1 := hown.frozen (k * 2)
      have f2 := hown.frozen (k * 2 + 1)
      have H1 := hid (OwnC.setV (k := k) hown x y)
      have HX := hid (padD_succ v0 xs k (by omega))
      rw [← hx.out] at HX
      rw [HX.out] at H1
      have H2 := hid (Below.setCell (Below.setCell hkp.out (p := ⟨w.heap.size, k * 2, none⟩) (Nat.le_refl _) (.string x)) (p := ⟨w.heap.size, k * 2 + 1, none⟩) (Nat.le_refl _) (.int .i64 y))
      clear hown hkp
      go_wp2
      go_roundw
      case rel => exact ⟨k + 1, by omega, by go_num, H1.out, H2.out⟩
      case measure => simp [intOf]; omega
    · obtain rfl : k = n := by omega
      go_wp2
      go_ret
      rw [← hl, padD_all] at hown
      exact ⟨_, rfl, hown.slm (by rw [vrs_len, hl]) hn (Nat.le_refl _) hgs (Nat.le_refl _), hkeep⟩
set_option maxRecDepth 100000 in
set_option maxHeartbeats 3200000 in
theorem eqVariableS_true {A B : Option Addr} {lo hi lo' hi' n n' c c' : Nat} {xs : List VV} {w : World} (ha : Vars w lo hi A n xs) (hb : Vars w lo' hi' B n' xs) :
    Calls Tryz.prog 14 #[.slice A n c, .slice B n' c'] w fun e w' => e = .returned (.bool true) ∧ Keeps w w' := by
  obtain rfl : n = n' := (Vars.len ha).symm.trans (Vars.len hb)
  have hn := ha.le
  have hbb : ((n : Int) != n) = false := by simp
  go_enter Tryz.func14, Tryz.ntmps14
  go_wp2_with fail
  go_loopw [5] (fun i wr => ∃ k : Nat, k ≤ n ∧ i = .int .i64 k ∧ Keeps w wr) (fun i _ => n - (intOf i).toNat)
  case atStart => exact ⟨0, Nat.zero_le _, rfl, keeps_refl _⟩
  case round =>
    obtain ⟨k, hk, rfl, hq⟩ := hrel
    by_cases hlt : k < n
    · obtain ⟨b, off, x, y, rfl, _, _, hc, hd, hx⟩ := Vars.at_ (ha.keeps hq) hlt
      obtain ⟨b', off', x', y', rfl, _, _, hc', hd', hx'⟩ := Vars.at_ (hb.keeps hq) hlt
      have e0 := hx.out.trans hx'.out.symm
      obtain rfl : x = x' := congrArg Prod.fst e0
      obtain rfl : y = y' := congrArg Prod.snd e0
      clear hx hx' e0
      have hi1 : (k : Int) < (n : Int) := by omega
      go_wp2_with fail
      go_region_held3 (fun w' => w'.cell? ⟨b, off + k * 2, none⟩ = some (.string x) ∧ w'.cell? ⟨b, off + k * 2 + 1, none⟩ = some (.int .i64 y) ∧ w'.cell? ⟨b', off' + k * 2, none⟩ = some (.string x) ∧ w'.cell? ⟨b', off' + k * 2 + 1, none⟩ = some (.int .i64 y)) (first | exact ⟨hc, hd, hc', hd'⟩ | exact ⟨r1, r2, r3, r4⟩)
        ((go_at_call 43; refine (eqVariable_true).mono ?_; rintro e w1 ⟨rfl, k1⟩; have r1 := cell_keeps (w := wr.drew) hc k1; have r2 := cell_keeps (w := wr.drew) hd k1; have r3 := cell_keeps (w := wr.drew) hc' k1; have r4 := cell_keeps (w := wr.drew) hd' k1))
      have H2 := hid (hq.trans ((Keeps.drewN wr 1).trans k1))
      clear r1 r2 r3 r4 k1 hq
      go_wp2
      go_roundw
      case rel => exact ⟨k + 1, by omega, by go_num, H2.out⟩
      case measure => simp [intOf]; omega
    · go_wp2
      go_ret
      exact ⟨rfl, hq⟩
end Go.Proofs.YtlkjhkkfdmjfcaaGreatDoor
