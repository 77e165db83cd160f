/- What the cursor draws: for KeptTotals (bounds alone). -/
import Derived.Test.YtkpliolafkdijaaDrawC
namespace Go.Proofs.Ytkpliolafkdijaa
open Go.RowKit
set_option linter.unusedVariables false
set_option linter.unusedSimpArgs false

set_option maxRecDepth 100000 in
theorem l1Own_zero {p : Addr} {c : Nat} {w : World} : Calls Try.prog 159 #[.slice (some p) 0 c] w (OwnRes w [] 0) := by
  obtain ⟨i, hi, hz0, hz1, hz2⟩ := info_parts info_int
  go_enter Try.func159, Try.ntmps159
  have hm := World.ownsRow_made (e := 3) (size := 1) w #[] 0 (Nat.le_refl _) (Nat.zero_le _) rfl
  go_wp2_with (at_builtin; refine wpList_append_own _ rfl _ _ 24 rfl w.heap.size 3 i _ 1 8 Try.underlying24 hi hz0 hz1 hz2 rfl (by omega) _ 0 [] rfl hm p 0 c [] rfl rfl (fun j y hy => by simp at hy) (fun y hy => by simp at hy) (by unfold maxLen; omega) (by omega) (by simp) (fun v' w' h2 h3 _ => ?_))
  have h2' : Has w' w.heap.size 3 1 v' 0 [] := by simpa using h2
  have h3' : (w.alloc (.cells #[] 3)).grownBy w' (some w.heap.size) := h3
  have hk : Keeps w w' := ((Below.refl _ w).alloc (Nat.le_refl _) _).grown h3' (by simp) (fun k hk => by injection hk with hk; omega)
  obtain ⟨A1, C1, e1⟩ := h2'.form
  cases e1
  clear h2 h3
  go_wp2
  go_ret
  exact ⟨A1, C1, rfl, h2', hk⟩
theorem l1Own_all {A : Option Addr} {lo hi n c : Nat} {xs : List Int} {w : World} (h : Ints w lo hi A n xs) (h0 : A = none → n = 0 ∧ c = 0) :
    Calls Try.prog 159 #[.slice A n c] w (OwnRes w xs n) := by
  have hl := h.1
  cases A with
  | none =>
    obtain ⟨rfl, rfl⟩ := h0 rfl
    exact l1Own_none (by simpa using hl)
  | some p =>
    by_cases hn : n = 0
    · subst hn
      have : xs = [] := by simpa using hl
      subst this
      exact l1Own_zero
    · obtain ⟨b, off, e, _⟩ := h.2.2.2 (by omega)
      injection e with e
      subst e
      exact l1Own_any h
/-- A geography, numbers, numbers, a level. -/
def DrawsK (w : World) (e : Ending) (w' : World) : Prop := ∃ A N C xs A1 N1 C1 ys A2 N2 C2 zs z, e = .returned (.tuple #[.agg #[.slice A N C], .slice A1 N1 C1, .slice A2 N2 C2, .int .i64 z]) ∧
  Ints w' w.heap.size w'.heap.size A N xs ∧ Ints w' w.heap.size w'.heap.size A1 N1 ys ∧ Ints w' w.heap.size w'.heap.size A2 N2 zs ∧ (-10000000 ≤ z ∧ z ≤ 10000000) ∧ Keeps w w'
set_option maxRecDepth 100000 in
set_option maxHeartbeats 6400000 in
theorem DrawKeptTotals_any {A : Option Addr} {hi n c : Nat} {w : World} (hb : Bytes w hi A n) :
    Calls Try.prog 68 #[.slice A n c] w (DrawsK w) := by
  have kG := keeps_alloc w (.cells #[.slice none 0 0] 51)
  have hc := Cur.new (t := 125) (c := c) (hb.keeps kG)
  have k0 := kG.trans (keeps_alloc (w.alloc (.cells #[.slice none 0 0] 51)) (.cells #[.slice A n c, .int .i64 0, .int .u64 0] 125))
  have b2 : B1 (w.alloc (.cells #[.slice none 0 0] 51)) w.heap.size (.slice none 0 0) := B1.new' rfl
  replace b2 := b2.keeps (keeps_alloc _ (.cells #[.slice A n c, .int .i64 0, .int .u64 0] 125))
  rw [show (w.alloc (.cells #[.slice none 0 0] 51)).heap.size = w.heap.size + 1 by simp] at hc
  have E0 := hid (show ((w.alloc (.cells #[.slice none 0 0] 51)).alloc (.cells #[.slice A n c, .int .i64 0, .int .u64 0] 125)).heap.size = w.heap.size + 2 by simp)
  clear kG
  go_enter Try.func68, Try.ntmps68
  go_wp2_with fail
  refine (perArea_any hc (by omega)).mono ?_
  rintro e w1 ⟨A0, N, C, xs, A1, N1, C1, ys, rfl, hI, hm, h0, hN, _, hc1, f1⟩
  have hJ := hm.1
  have s1 := f1.size
  rw [E0.out] at hI hJ s1
  replace b2 := b2.fr f1 (by omega)
  have kw1 : Keeps w w1 := below_fr k0 k0.size (by omega) f1
  clear hc f1 k0 E0 hm
  have b6 : B1 (w1.alloc (.cells #[.slice A0 N C] 51)) w1.heap.size (.slice A0 N C) := B1.new' rfl
  have k6 := keeps_alloc w1 (.cells #[.slice A0 N C] 51)
  replace b2 := b2.keeps k6
  replace hI := hI.keeps k6
  replace hJ := hJ.keeps k6
  have kw6 := kw1.trans k6
  have hc6 := hc1.keeps k6
  have s6 : (w1.alloc (.cells #[.slice A0 N C] 51)).heap.size = w1.heap.size + 1 := by simp
  clear kw1 hc1 k6
  go_wp2_with fail
  refine (l1Own_all hJ h0).mono ?_
  rintro e w2 ⟨A2, C2, rfl, hown, k2⟩
  have I2 := hI.keeps k2
  have J2 := hJ.keeps k2
  replace b2 := b2.keeps k2
  replace b6 := b6.keeps k2
  have kw2 := kw6.trans k2
  have hc2 := hc6.keeps k2
  have s2 := k2.size
  have m2 := Mine.of_own hown (by omega)
  clear hc6 hI hJ kw6 k2 hown
  have sm2 := m2.1.top
  by_cases hn0 : 0 < N1
  · have hn1 : (0 : Int) < (N1 : Int) := by omega
    go_wp2_with fail
    refine (one_any hc2 (by omega) (by omega)).mono ?_
    rintro e w3 ⟨b, rfl, hc3, f3⟩
    have I3 := I2.fr f3 (by omega)
    have J3 := J2.fr f3 (by omega)
    have m3 := m2.fr f3 (by omega)
    replace b2 := b2.fr f3 (by omega)
    replace b6 := b6.fr f3 (by omega)
    have kw3 : Keeps w w3 := below_fr kw2 kw2.size (by omega) f3
    have s3 := f3.size
    clear hc2 I2 J2 kw2 f3 m2
    cases b
    · replace hc3 := hc3.mono (T' := 0 + 300) (by omega)
      have hcD := (hc3).keeps (keeps_d0 w3)
      have ID := (I3).keeps (keeps_d0 w3)
      have JD := (J3).keeps (keeps_d0 w3)
      have MD := (m3.1).keeps (keeps_d0 w3)
      have b7D := (b6).keeps (keeps_d0 w3)
      have b2D := (b2).keeps (keeps_d0 w3)
      have kwD := (show Keeps w w3 from kw3).trans (keeps_d0 w3)
      have sD := (keeps_d0 w3).size
      obtain ⟨z1, z2⟩ := id b7D
      have hT3 : (0 : Int) + 300 ≤ 999999999999999 := by omega
      have o1 : w1.heap.size < w.heap.size + 1 ∨ w.heap.size + 1 + 1 ≤ w1.heap.size := by omega
      have o2 : w.heap.size < w.heap.size + 1 ∨ w.heap.size + 1 + 1 ≤ w.heap.size := by omega
      have q0 : (5 : Int) ≤ 65536 := by omega
      go_wp2_with fail
      go_region_law ((first | (refine step_pick (n := 5) hcD hT3 q0 rfl (by kernel_rfl) ?_; intro y wB hy hcB fB; have b7B := b7D.fr fB o1; have b2B := b2D.fr fB o2; obtain ⟨y1, y2⟩ := id b7B; obtain ⟨y3, y4⟩ := id b2B)))
      all_goals (
        have iB := ID.fr fB (by omega)
        have jB := JD.fr fB (by omega)
        have mB := MD.fr fB (by omega)
        have kB : Keeps w wB := below_fr kwD kwD.size (by omega) fB
        have sI := iB.top
        have sJ := jB.top
        have sM := mB.top
        have HW := hid ((Fr.refl w.heap.size (w.heap.size + 1) wB).setCell (p := ⟨w.heap.size, 0, none⟩) (Nat.le_refl _) (Nat.lt_succ_self _) (.slice A0 N C))
        have KW := hid (kB.setCell (p := ⟨w.heap.size, 0, none⟩) (Nat.le_refl _) (.slice A0 N C))
        have es : (wB.setCell ⟨w.heap.size, 0, none⟩ (.slice A0 N C)).heap.size = wB.heap.size := by simp [World.setCell]
        have i2 := (iB.fr HW.out (by omega)).widen (lo' := w.heap.size) (hi' := (wB.setCell ⟨w.heap.size, 0, none⟩ (.slice A0 N C)).heap.size) (by omega) (by rw [es]; exact sI) (Nat.le_refl _)
        have j2 := (jB.fr HW.out (by omega)).widen (lo' := w.heap.size) (hi' := (wB.setCell ⟨w.heap.size, 0, none⟩ (.slice A0 N C)).heap.size) (by omega) (by rw [es]; exact sJ) (Nat.le_refl _)
        have m2 := (mB.fr HW.out (by omega)).widen (lo' := w.heap.size) (hi' := (wB.setCell ⟨w.heap.size, 0, none⟩ (.slice A0 N C)).heap.size) (by omega) (by rw [es]; exact sM) (Nat.le_refl _)
        have ey : IntKind.i64.wrap (y - 1) = y - 1 := IntWalk.i64_in _ (by omega)
        clear z1 z2 hcD b7D b2D ID JD MD kwD
        go_wp2_with fail
        exact bodyPost_ret (v := .tuple #[.agg #[.slice A0 N C], .slice A1 N1 C1, .slice A2 N1 C2, .int .i64 (y - 1)]) (by simp [results, Try.results68, go_sem, y3, y4, ey]) rfl ⟨_, _, _, _, _, _, _, _, _, _, _, _, _, rfl, i2, j2, m2, by omega, KW.out⟩)
    go_wp2_with fail
    refine (pick_any hc3 (by omega) (by omega)).mono ?_
    rintro e w5 ⟨q, rfl, hq, hc5, f5⟩
    have I5 := I3.fr f5 (by omega)
    have J5 := J3.fr f5 (by omega)
    have m5 := m3.fr f5 (by omega)
    have b25 := b2.fr f5 (by omega)
    have b65 := b6.fr f5 (by omega)
    have kw5 : Keeps w w5 := below_fr kw3 kw3.size (by omega) f5
    have s5 := f5.size
    clear hc3 I3 J3 m3 b2 b6 kw3 f5
    obtain ⟨j, rfl⟩ : ∃ j : Nat, q = j := ⟨q.toNat, by omega⟩
    have hj : j < N1 := by omega
    have hj1 : (j : Int) < (N1 : Int) := by omega
    obtain ⟨bb, off, x0, rfl, hlo, hhi, hcx, hxx⟩ := m5.1.at_ (k := j) hj
    have hfz := m5.2 bb off rfl j hj
    have HS := hid (m5.set_ (k := j) hj (wrap64 (x0 + 1)))
    have m6 := hid HS.out.1
    have I6 := hid (I5.fr HS.out.2 (by omega))
    have J6 := hid (J5.fr HS.out.2 (by omega))
    have b26 := b25.fr HS.out.2 (by omega)
    have b66 := b65.fr HS.out.2 (by omega)
    have hc7 := (hc5.fr HS.out.2 (by omega)).mono (T' := 0 + 300) (by omega)
    have kw6 := hid (kw5.setCell (p := ⟨bb, off + j, none⟩) (by show w.heap.size ≤ bb; omega) (.int .i64 (wrap64 (x0 + 1))))
    clear hxx hq HS I5 J5 m5 b25 b65 kw5 hc5
    have hcD := (hc7).keeps (keeps_d0 (w5.setCell ⟨bb, off + j, none⟩ (.int .i64 (wrap64 (x0 + 1)))))
    have ID := (I6.out).keeps (keeps_d0 (w5.setCell ⟨bb, off + j, none⟩ (.int .i64 (wrap64 (x0 + 1)))))
    have JD := (J6.out).keeps (keeps_d0 (w5.setCell ⟨bb, off + j, none⟩ (.int .i64 (wrap64 (x0 + 1)))))
    have MD := (m6.out.1).keeps (keeps_d0 (w5.setCell ⟨bb, off + j, none⟩ (.int .i64 (wrap64 (x0 + 1)))))
    have b7D := (b66).keeps (keeps_d0 (w5.setCell ⟨bb, off + j, none⟩ (.int .i64 (wrap64 (x0 + 1)))))
    have b2D := (b26).keeps (keeps_d0 (w5.setCell ⟨bb, off + j, none⟩ (.int .i64 (wrap64 (x0 + 1)))))
    have kwD := (show Keeps w (w5.setCell ⟨bb, off + j, none⟩ (.int .i64 (wrap64 (x0 + 1)))) from kw6.out).trans (keeps_d0 (w5.setCell ⟨bb, off + j, none⟩ (.int .i64 (wrap64 (x0 + 1)))))
    have sD := (keeps_d0 (w5.setCell ⟨bb, off + j, none⟩ (.int .i64 (wrap64 (x0 + 1))))).size
    obtain ⟨z1, z2⟩ := id b7D
    have hT3 : (0 : Int) + 300 ≤ 999999999999999 := by omega
    have o1 : w1.heap.size < w.heap.size + 1 ∨ w.heap.size + 1 + 1 ≤ w1.heap.size := by omega
    have o2 : w.heap.size < w.heap.size + 1 ∨ w.heap.size + 1 + 1 ≤ w.heap.size := by omega
    have q0 : (5 : Int) ≤ 65536 := by omega
    go_wp2_with fail
    go_region_law ((first | (refine step_pick (n := 5) hcD hT3 q0 rfl (by kernel_rfl) ?_; intro y wB hy hcB fB; have b7B := b7D.fr fB o1; have b2B := b2D.fr fB o2; obtain ⟨y1, y2⟩ := id b7B; obtain ⟨y3, y4⟩ := id b2B)))
    all_goals (
      have iB := ID.fr fB (by omega)
      have jB := JD.fr fB (by omega)
      have mB := MD.fr fB (by omega)
      have kB : Keeps w wB := below_fr kwD kwD.size (by omega) fB
      have sI := iB.top
      have sJ := jB.top
      have sM := mB.top
      have HW := hid ((Fr.refl w.heap.size (w.heap.size + 1) wB).setCell (p := ⟨w.heap.size, 0, none⟩) (Nat.le_refl _) (Nat.lt_succ_self _) (.slice A0 N C))
      have KW := hid (kB.setCell (p := ⟨w.heap.size, 0, none⟩) (Nat.le_refl _) (.slice A0 N C))
      have es : (wB.setCell ⟨w.heap.size, 0, none⟩ (.slice A0 N C)).heap.size = wB.heap.size := by simp [World.setCell]
      have i2 := (iB.fr HW.out (by omega)).widen (lo' := w.heap.size) (hi' := (wB.setCell ⟨w.heap.size, 0, none⟩ (.slice A0 N C)).heap.size) (by omega) (by rw [es]; exact sI) (Nat.le_refl _)
      have j2 := (jB.fr HW.out (by omega)).widen (lo' := w.heap.size) (hi' := (wB.setCell ⟨w.heap.size, 0, none⟩ (.slice A0 N C)).heap.size) (by omega) (by rw [es]; exact sJ) (Nat.le_refl _)
      have m2 := (mB.fr HW.out (by omega)).widen (lo' := w.heap.size) (hi' := (wB.setCell ⟨w.heap.size, 0, none⟩ (.slice A0 N C)).heap.size) (by omega) (by rw [es]; exact sM) (Nat.le_refl _)
      have ey : IntKind.i64.wrap (y - 1) = y - 1 := IntWalk.i64_in _ (by omega)
      clear z1 z2 hcD b7D b2D ID JD MD kwD
      go_wp2_with fail
      exact bodyPost_ret (v := .tuple #[.agg #[.slice A0 N C], .slice A1 N1 C1, .slice (some ⟨bb, off, none⟩) N1 C2, .int .i64 (y - 1)]) (by simp [results, Try.results68, go_sem, y3, y4, ey]) rfl ⟨_, _, _, _, _, _, _, _, _, _, _, _, _, rfl, i2, j2, m2, by omega, KW.out⟩)
  · have hn1 : ¬ (0 : Int) < (N1 : Int) := by omega
    replace hc2 := hc2.mono (T' := 0 + 300) (by omega)
    have hcD := (hc2).keeps (keeps_d0 w2)
    have ID := (I2).keeps (keeps_d0 w2)
    have JD := (J2).keeps (keeps_d0 w2)
    have MD := (m2.1).keeps (keeps_d0 w2)
    have b7D := (b6).keeps (keeps_d0 w2)
    have b2D := (b2).keeps (keeps_d0 w2)
    have kwD := (show Keeps w w2 from kw2).trans (keeps_d0 w2)
    have sD := (keeps_d0 w2).size
    obtain ⟨z1, z2⟩ := id b7D
    have hT3 : (0 : Int) + 300 ≤ 999999999999999 := by omega
    have o1 : w1.heap.size < w.heap.size + 1 ∨ w.heap.size + 1 + 1 ≤ w1.heap.size := by omega
    have o2 : w.heap.size < w.heap.size + 1 ∨ w.heap.size + 1 + 1 ≤ w.heap.size := by omega
    have q0 : (5 : Int) ≤ 65536 := by omega
    go_wp2_with fail
    go_region_law ((first | (refine step_pick (n := 5) hcD hT3 q0 rfl (by kernel_rfl) ?_; intro y wB hy hcB fB; have b7B := b7D.fr fB o1; have b2B := b2D.fr fB o2; obtain ⟨y1, y2⟩ := id b7B; obtain ⟨y3, y4⟩ := id b2B)))
    all_goals (
      have iB := ID.fr fB (by omega)
      have jB := JD.fr fB (by omega)
      have mB := MD.fr fB (by omega)
      have kB : Keeps w wB := below_fr kwD kwD.size (by omega) fB
      have sI := iB.top
      have sJ := jB.top
      have sM := mB.top
      have HW := hid ((Fr.refl w.heap.size (w.heap.size + 1) wB).setCell (p := ⟨w.heap.size, 0, none⟩) (Nat.le_refl _) (Nat.lt_succ_self _) (.slice A0 N C))
      have KW := hid (kB.setCell (p := ⟨w.heap.size, 0, none⟩) (Nat.le_refl _) (.slice A0 N C))
      have es : (wB.setCell ⟨w.heap.size, 0, none⟩ (.slice A0 N C)).heap.size = wB.heap.size := by simp [World.setCell]
      have i2 := (iB.fr HW.out (by omega)).widen (lo' := w.heap.size) (hi' := (wB.setCell ⟨w.heap.size, 0, none⟩ (.slice A0 N C)).heap.size) (by omega) (by rw [es]; exact sI) (Nat.le_refl _)
      have j2 := (jB.fr HW.out (by omega)).widen (lo' := w.heap.size) (hi' := (wB.setCell ⟨w.heap.size, 0, none⟩ (.slice A0 N C)).heap.size) (by omega) (by rw [es]; exact sJ) (Nat.le_refl _)
      have m2 := (mB.fr HW.out (by omega)).widen (lo' := w.heap.size) (hi' := (wB.setCell ⟨w.heap.size, 0, none⟩ (.slice A0 N C)).heap.size) (by omega) (by rw [es]; exact sM) (Nat.le_refl _)
      have ey : IntKind.i64.wrap (y - 1) = y - 1 := IntWalk.i64_in _ (by omega)
      clear z1 z2 hcD b7D b2D ID JD MD kwD
      go_wp2_with fail
      exact bodyPost_ret (v := .tuple #[.agg #[.slice A0 N C], .slice A1 N1 C1, .slice A2 N1 C2, .int .i64 (y - 1)]) (by simp [results, Try.results68, go_sem, y3, y4, ey]) rfl ⟨_, _, _, _, _, _, _, _, _, _, _, _, _, rfl, i2, j2, m2, by omega, KW.out⟩)
end Go.Proofs.Ytkpliolafkdijaa
