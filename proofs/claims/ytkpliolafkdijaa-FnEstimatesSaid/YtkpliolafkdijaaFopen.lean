/- How arguments that are fractions and lists of fractions are opened; and the laws' copies of them. -/
import Derived.Test.YtkpliolafkdijaaFrac
import Derived.Test.YtkpliolafkdijaaOpen
import Derived.Deep.SlicePairs
namespace Go.Proofs.Ytkpliolafkdijaa
open Go.ChangeShapes Go.WideShapes Go.ChangeAt Go.RowKit Go.Deep
set_option linter.unusedVariables false
set_option linter.unusedSimpArgs false

/-- An int64. -/
def I64 (x : Int) : Prop := -9223372036854775808 ≤ x ∧ x ≤ 9223372036854775807
def QWide (l : List (Int × Int)) : Prop := ∀ j, I64 (l.getD j (0, 0)).1 ∧ I64 (l.getD j (0, 0)).2
def FracsArg (w : World) (A : Option Addr) (n : Nat) (l : List (Int × Int)) : Prop :=
  n ≤ maxLen ∧ (n ≤ 67108864 → Fracs w 0 w.heap.size A n l) ∧ QWide l
theorem FracsArg.fracs {w : World} {A : Option Addr} {n : Nat} {xs : List (Int × Int)} (h : FracsArg w A n xs) (hn : n ≤ 67108864) : Fracs w 0 w.heap.size A n xs := h.2.1 hn
theorem qwide_nil : QWide [] := fun j => by simp [I64]
theorem getD_map_range {α : Type} (f : Nat → α) (n j : Nat) (d : α) : ((List.range n).map f).getD j d = if j < n then f j else d := by
  by_cases h : j < n
  · simp [List.getD, h]
  · simp [List.getD, h]

section
variable {H : Type} {enc : TypeId × Value → H} {w : World} {spare : Nat → Bool} {held : Bool}
theorem cells_frac : Try.prog.cellsOf 35 = 2 := by kernel_rfl
theorem cells_int : Try.prog.cellsOf 3 = 1 := by kernel_rfl
set_option maxRecDepth 100000 in
theorem open_fracs_cell_len {fuel : Nat} {A : Option Addr} {n c : Nat} {x : DataW H × List MemPlace} (hs : ∀ b, spare b = true)
    (h : DataW.trod enc Try.prog w 0 spare held fuel 22 [.slice A n c] = some x) : ∃ xs, FracsArg w A n xs ∧ xs.length = n := by
  rcases open_slice_pairs Try.underlying22 Try.underlying35 cells_frac rfl rfl cells_int cells_int h with ⟨hcs, _⟩ | ⟨a, len, cap, m, k, V0, V1, D0, D1, P0, P1, hcs, hb, hl, hm, hmm, _, hc⟩
  · simp at hcs
    obtain ⟨rfl, rfl, rfl⟩ := hcs
    exact ⟨[], ⟨by simp, fun _ => Sl.nil_ w _ _, qwide_nil⟩, rfl⟩
  · simp at hcs
    obtain ⟨rfl, rfl, rfl⟩ := hcs
    have hnm : n ≤ m := by rw [hmm]; split <;> omega
    have e0 : ∀ i, ∃ z, i < m → V0 i = .int .i64 z ∧ I64 z := fun i => by
      by_cases hi : i < m
      · obtain ⟨z, hz, _, hw⟩ := DataW.trod_int Try.underlying3 (hc i hi).2.2.1
        exact ⟨z, fun _ => ⟨by simpa using hz, bounds_i64 hw⟩⟩
      · exact ⟨0, fun h => absurd h hi⟩
    have e1 : ∀ i, ∃ z, i < m → V1 i = .int .i64 z ∧ I64 z := fun i => by
      by_cases hi : i < m
      · obtain ⟨z, hz, _, hw⟩ := DataW.trod_int Try.underlying3 (hc i hi).2.2.2
        exact ⟨z, fun _ => ⟨by simpa using hz, bounds_i64 hw⟩⟩
      · exact ⟨0, fun h => absurd h hi⟩
    obtain ⟨f0, q0⟩ := Classical.axiomOfChoice e0
    obtain ⟨f1, q1⟩ := Classical.axiomOfChoice e1
    clear e0 e1
    refine ⟨(List.range n).map fun i => (f0 i, f1 i), ⟨by omega, fun hn => ⟨by rw [frs_len]; simp, hn, Nat.le_refl _, fun h0 => ?_⟩, fun j => ?_⟩, by simp⟩
    · obtain ⟨b, off, spot⟩ := a
      have hc0 := (hc 0 (by omega)).1
      have hsp : spot = none := by simpa [Addr.add] using World.cell?_spot hc0
      subst hsp
      refine ⟨b, off, rfl, Nat.zero_le _, World.block_lt_of_cell? w _ (by simpa [Addr.add] using hc0), fun j hj => ?_⟩
      have hk : j / 2 < n := by omega
      have hcc := hc (j / 2) (by omega)
      have hfa := frs_at ((List.range n).map fun i => (f0 i, f1 i)) (j / 2) (by simpa using hk)
      rw [getD_map_range, if_pos hk] at hfa
      rw [Addr.add_lit, Addr.add_lit] at hcc
      rcases Nat.mod_two_eq_zero_or_one j with h2 | h2
      · have ej : j = j / 2 * 2 := by omega
        rw [ej, hfa.1, hcc.1, (q0 (j / 2) (by omega)).1]
      · have ej : j = j / 2 * 2 + 1 := by omega
        rw [ej, hfa.2]
        have := hcc.2.1
        rw [(q1 (j / 2) (by omega)).1] at this
        simpa [Nat.add_assoc] using this
    · rw [getD_map_range]
      by_cases hj : j < n
      · rw [if_pos hj]
        exact ⟨(q0 j (by omega)).2, (q1 j (by omega)).2⟩
      · rw [if_neg hj]; simp [I64]
theorem open_fracs_cell {fuel : Nat} {A : Option Addr} {n c : Nat} {x : DataW H × List MemPlace} (hs : ∀ b, spare b = true)
    (h : DataW.trod enc Try.prog w 0 spare held fuel 22 [.slice A n c] = some x) : ∃ xs, FracsArg w A n xs := by
  obtain ⟨xs, h1, _⟩ := open_fracs_cell_len hs h
  exact ⟨xs, h1⟩
set_option maxRecDepth 100000 in
theorem open_arg_fracs {r : Reach} {b0 : Nat} {v : Value} {d : DataW H} {p : List MemPlace} (hv : Value.okWide Try.prog w r b0 22 v) (h : DataW.Trod enc Try.prog w 0 (fun _ => true) held 22 v d p) :
    ∃ A n c xs, v = .slice A n c ∧ FracsArg w A n xs := by
  obtain ⟨A, n, c, rfl⟩ := okWide_slice Try.underlying22 hv
  obtain ⟨fuel, hf⟩ := h
  obtain ⟨xs, hx⟩ := open_fracs_cell (fun _ => rfl) hf
  exact ⟨A, n, c, xs, rfl, hx⟩
set_option maxRecDepth 100000 in
theorem open_arg_frac {r : Reach} {b0 : Nat} {v : Value} {d : DataW H} {p : List MemPlace} (hv : Value.okWide Try.prog w r b0 35 v) (h : DataW.Trod enc Try.prog w 0 (fun _ => true) held 35 v d p) :
    ∃ a b, v = .agg #[.int .i64 a, .int .i64 b] ∧ I64 a ∧ I64 b := by
  obtain ⟨cs, rfl, hsz⟩ := okWide_struct Try.underlying35 hv
  rw [cells_frac] at hsz
  obtain ⟨l⟩ := cs
  match l, hsz with
  | [c0, c1], _ =>
    obtain ⟨fuel, hf⟩ := h
    obtain ⟨y0, y1, m, _, _, h0, h1⟩ := trod_struct2 Try.underlying35 hf
    simp [Value.cells, cells_int] at h0 h1
    obtain ⟨a, ha, _, wa⟩ := DataW.trod_int Try.underlying3 h0
    obtain ⟨b, hb, _, wb⟩ := DataW.trod_int Try.underlying3 h1
    simp at ha hb
    exact ⟨a, b, by rw [ha, hb], bounds_i64 wa, bounds_i64 wb⟩
end
theorem szFracS_any {A : Option Addr} {n c : Nat} {left : Int} {w : World} (hn : n ≤ maxLen) (h1 : 0 ≤ left) (h2 : left ≤ 1048576) :
    Calls Try.prog 15 #[.slice A n c, .int .i64 left] w fun e w' => e = .returned (.int .i64 (szI left n)) ∧ w = w' := by
  unfold maxLen at hn
  by_cases h : left - (n : Int) < 0
  · have HF := hid (szI_no h)
    go_enter Try.func15, Try.ntmps15
    go_wp2
    go_ret
    exact ⟨ret_int (by rw [HF.out]), rfl⟩
  · have HF := hid (show szI left n = left - n from if_neg h)
    go_enter Try.func15, Try.ntmps15
    go_wp2
    go_ret
    exact ⟨ret_int (by rw [HF.out]), rfl⟩
set_option maxHeartbeats 800000 in
theorem toFrac_any {n d : Int} {w : World} : Calls Try.prog 25 #[.agg #[.int .i64 n, .int .i64 d]] w fun e w' => e = .returned (.agg #[.int .i64 n, .int .i64 d]) ∧ Keeps w w' := by
  go_enter Try.func25, Try.ntmps25
  go_wp2_with fail
  refine bodyPost_ret (v := .agg #[.int .i64 n, .int .i64 d]) (by simp [results, Try.results25, go_sem]) rfl ⟨rfl, ?_⟩
  exact (((Below.refl w.heap.size w).alloc (Nat.le_refl _) _).alloc (by simp) _).alloc (by simp; omega) _
set_option maxHeartbeats 1600000 in
theorem toFracS_any {A : Option Addr} {lo hi n c : Nat} {xs : List (Int × Int)} {w : World} (h : Fracs w lo hi A n xs) :
    Calls Try.prog 17 #[.slice A n c] w fun e w' => ∃ A', e = .returned (.slice A' n n) ∧ FracsM w' w.heap.size w'.heap.size A' n xs ∧ Keeps w w' := by
  have hn := h.le
  have hmk := make_fracs n hn
  have hl := Fracs.len h
  go_enter Try.func17, Try.ntmps17
  go_wp2_with fail
  clear hmk
  go_loopw [4] (fun i wr => ∃ k : Nat, k ≤ n ∧ i = .int .i64 k ∧ OwnC wr w.heap.size 41 (frs (padD (0, 0) xs k)) ∧ Keeps w wr) (fun i _ => n - (intOf i).toNat)
  case atStart => exact ⟨0, Nat.zero_le _, rfl, by rw [padD_zero, hl]; exact OwnC.newF w n, keeps_alloc _ _⟩
  case round =>
    obtain ⟨k, hk, rfl, hown, hkeep⟩ := hrel
    have hgs := hown.lt
    by_cases hlt : k < n
    · obtain ⟨b, off, x, y, rfl, _, hb, hc, hd, hx⟩ := Fracs.at_ (h.keeps hkeep) hlt
      have hi1 : (k : Int) < (n : Int) := by omega
      go_wp2_with fail
      refine (toFrac_any).mono ?_
      rintro e w1 ⟨rfl, k1⟩
      replace hown := hown.keeps k1
      have hkp := hid (hkeep.trans k1)
      clear k1 hkeep
      have hll : (frs (padD (0, 0) xs k)).length = n * 2 := by rw [frs_len, padD_len _ _ _ (by omega), hl]
      have d1 := hown.cell (k * 2) (by omega)
      have d2 := hown.cell (k * 2 + 1) (by omega)
      have f1 := hown.frozen (k * 2)
      have f2 := hown.frozen (k * 2 + 1)
      have H1 := hid (OwnC.setF (k := k) hown x y)
      have HX := hid (padD_succ (0, 0) xs k (by omega))
      rw [← hx.out] at HX
      rw [HX.out] at H1
      have H2 := hid (Below.setCell (Below.setCell hkp.out (p := ⟨w.heap.size, k * 2, none⟩) (Nat.le_refl _) (.int .i64 x)) (p := ⟨w.heap.size, k * 2 + 1, none⟩) (Nat.le_refl _) (.int .i64 y))
      clear hown hkp
      go_wp2
      go_roundw
      case rel => exact ⟨k + 1, by omega, by go_num, H1.out, H2.out⟩
      case measure => simp [intOf]; omega
    · obtain rfl : k = n := by omega
      go_wp2
      go_ret
      rw [← hl, padD_all] at hown
      exact ⟨_, rfl, hown.slm (by rw [frs_len, hl]) hn (Nat.le_refl _) hgs (Nat.le_refl _), hkeep⟩
end Go.Proofs.Ytkpliolafkdijaa
