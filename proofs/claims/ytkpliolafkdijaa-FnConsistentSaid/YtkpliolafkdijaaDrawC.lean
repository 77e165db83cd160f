/- What the cursor draws: for FitDown, CheckSums and KeptTotals (bounds alone). -/
import Derived.Test.YtkpliolafkdijaaDrawP
import Derived.Test.YtkpliolafkdijaaFit
namespace Go.Proofs.Ytkpliolafkdijaa
open Go.RowKit
set_option linter.unusedVariables false
set_option linter.unusedSimpArgs false

theorem step_amongB {W : World} {ops : Array Oper} {o : Oper} {a : Act} {K : Act → World → Prop} {Q : Exit → Act → World → Prop} {E : Prop} {g lo hi n c : Nat} {A : Option Addr} {xs : List Int} {T : Int} {R : Int → Prop}
    (hc : Cur W g T) (hT : T ≤ 999999999999999) (hx : Ints W lo hi A n xs) (hg : g < lo) (h0 : 0 < n) (hn : n ≤ 65536) (hR : ∀ j, j < n → R (xs.getD j 0)) (hgd : o.guard = none)
    (hrun : (execOp a.eval o).run Try.prog W = .ok (.enter 143 #[.pointer (some ⟨g, 0, none⟩), .slice A n c]) W)
    (h : ∀ x w', R x → Cur w' g (T + 2) → Fr g (g + 1) W w' → K (a.put o.dst (.int .i64 x)) w') :
    if Region.wanted o (yielded ops a.tmps) = true then Oper.wp Try.prog o a W K Q else E := by
  have hw : Region.wanted o (yielded ops a.tmps) = true := by simp [Region.wanted, hgd]
  rw [if_pos hw]
  unfold Oper.wp
  rw [hrun, Oper.upon_enter]
  refine (among_any hc hT hx hg h0 hn).mono fun e w' hh => ?_
  obtain ⟨x, j, rfl, hj, hx, h1, h2⟩ := hh
  exact h x w' (hx ▸ hR j hj) h1 h2
/-- A geography, numbers, a number. -/
def DrawsV (w : World) (e : Ending) (w' : World) : Prop := ∃ A N C xs A1 N1 C1 ys z, e = .returned (.tuple #[.agg #[.slice A N C], .slice A1 N1 C1, .int .i64 z]) ∧
  Ints w' w.heap.size w'.heap.size A N xs ∧ Ints w' w.heap.size w'.heap.size A1 N1 ys ∧ (-10000000 ≤ z ∧ z ≤ 10000000) ∧ Keeps w w'
set_option maxRecDepth 100000 in
set_option maxHeartbeats 6400000 in
theorem DrawFitDown_any {A : Option Addr} {hi n c : Nat} {w : World} (hb : Bytes w hi A n) :
    Calls Try.prog 62 #[.slice A n c] w (DrawsV w) := by
  have kG := keeps_alloc w (.cells #[.slice none 0 0] 51)
  have hc := Cur.new (t := 125) (c := c) (hb.keeps kG)
  have k0 := kG.trans (keeps_alloc (w.alloc (.cells #[.slice none 0 0] 51)) (.cells #[.slice A n c, .int .i64 0, .int .u64 0] 125))
  have b2 : B1 (w.alloc (.cells #[.slice none 0 0] 51)) w.heap.size (.slice none 0 0) := B1.new' rfl
  replace b2 := b2.keeps (keeps_alloc _ (.cells #[.slice A n c, .int .i64 0, .int .u64 0] 125))
  rw [show (w.alloc (.cells #[.slice none 0 0] 51)).heap.size = w.heap.size + 1 by simp] at hc
  have E0 := hid (show ((w.alloc (.cells #[.slice none 0 0] 51)).alloc (.cells #[.slice A n c, .int .i64 0, .int .u64 0] 125)).heap.size = w.heap.size + 2 by simp)
  clear kG
  go_enter Try.func62, Try.ntmps62
  go_wp2_with fail
  refine (perArea_any hc (by omega)).mono ?_
  rintro e w1 ⟨A0, N, C, xs, A1, N1, C1, ys, rfl, hI, hm, _, hN, _, hc1, f1⟩
  have hJ := hm.1
  have s1 := f1.size
  rw [E0.out] at hI hJ s1
  replace b2 := b2.fr f1 (by omega)
  have kw1 : Keeps w w1 := below_fr k0 k0.size (by omega) f1
  clear hc f1 k0 E0 hm
  have b6 : B1 (w1.alloc (.cells #[.slice A0 N C] 51)) w1.heap.size (.slice A0 N C) := B1.new' rfl
  have k6 := keeps_alloc w1 (.cells #[.slice A0 N C] 51)
  replace b2 := b2.keeps k6
  replace hI := hI.keeps k6
  replace hJ := hJ.keeps k6
  have kw6 := kw1.trans k6
  have hc6 := hc1.keeps k6
  clear kw1 hc1
  go_wp2_with fail
  have L := lit_ints (w1.alloc (.cells #[.slice A0 N C] 51)) [0, 1, 5, 17, 60, 300, 1000000, 1000001, -1] (by decide)
  rw [show (w1.alloc (.cells #[.slice A0 N C] 51)).heap.size = w1.heap.size + 1 by simp] at L
  have kL := keeps_alloc (w1.alloc (.cells #[.slice A0 N C] 51)) (.cells #[.int .i64 0, .int .i64 1, .int .i64 5, .int .i64 17, .int .i64 60, .int .i64 300, .int .i64 1000000, .int .i64 1000001, .int .i64 (-1)] 3)
  have kD := keeps_d0 ((w1.alloc (.cells #[.slice A0 N C] 51)).alloc (.cells #[.int .i64 0, .int .i64 1, .int .i64 5, .int .i64 17, .int .i64 60, .int .i64 300, .int .i64 1000000, .int .i64 1000001, .int .i64 (-1)] 3))
  have hc7 := (hc6.keeps kL).keeps kD
  have L7 := L.keeps kD
  have b67 := (b6.keeps kL).keeps kD
  have b27 := (b2.keeps kL).keeps kD
  have hI7 := (hI.keeps kL).keeps kD
  have hJ7 := (hJ.keeps kL).keeps kD
  have kw7 := (kw6.trans kL).trans kD
  have b6a := b6.keeps (keeps_d0 _)
  obtain ⟨z1, z2⟩ := id b67
  obtain ⟨z3, z4⟩ := id b6a
  obtain ⟨z5, z6⟩ := id b27
  have hg7 : w.heap.size + 1 < w1.heap.size + 1 := by omega
  have hR : ∀ j, j < 9 → -10000000 ≤ ([0, 1, 5, 17, 60, 300, 1000000, 1000001, -1] : List Int).getD j 0 ∧ ([0, 1, 5, 17, 60, 300, 1000000, 1000001, -1] : List Int).getD j 0 ≤ 10000000 := fun j hj => by
    rcases j with _ | _ | _ | _ | _ | _ | _ | _ | _ | j <;> first | (simp; done) | omega
  have hT7 : (0 : Int) + 200 ≤ 999999999999999 := by omega
  have hn7 : 0 < ([0, 1, 5, 17, 60, 300, 1000000, 1000001, -1] : List Int).length := by decide
  have hm7 : ([0, 1, 5, 17, 60, 300, 1000000, 1000001, -1] : List Int).length ≤ 65536 := by decide
  have o1 : w1.heap.size < w.heap.size + 1 ∨ w.heap.size + 1 + 1 ≤ w1.heap.size := by omega
  have o2 : w.heap.size < w.heap.size + 1 ∨ w.heap.size + 1 + 1 ≤ w.heap.size := by omega
  go_region_law ((first | (refine step_amongB (c := 9) (R := fun z => -10000000 ≤ z ∧ z ≤ 10000000) hc7 hT7 L7 hg7 hn7 hm7 hR rfl (by kernel_rfl) ?_; intro y wB hy hcB fB; have q1 := b67.fr fB o1; have q2 := b27.fr fB o2; obtain ⟨y1, y2⟩ := id q1; obtain ⟨y3, y4⟩ := id q2)))
  all_goals (
    have iB := hI7.fr fB (by omega)
    have jB := hJ7.fr fB (by omega)
    have kB : Keeps w wB := below_fr kw7 kw7.size (by omega) fB
    have sB := iB.top
    have HW := hid ((Fr.refl w.heap.size (w.heap.size + 1) wB).setCell (p := ⟨w.heap.size, 0, none⟩) (Nat.le_refl _) (Nat.lt_succ_self _) (.slice A0 N C))
    have KW := hid (kB.setCell (p := ⟨w.heap.size, 0, none⟩) (Nat.le_refl _) (.slice A0 N C))
    have es : (wB.setCell ⟨w.heap.size, 0, none⟩ (.slice A0 N C)).heap.size = wB.heap.size := by simp [World.setCell]
    have i2 := (iB.fr HW.out (by omega)).widen (lo' := w.heap.size) (hi' := (wB.setCell ⟨w.heap.size, 0, none⟩ (.slice A0 N C)).heap.size) (by omega) (by rw [es]; exact sB) (Nat.le_refl _)
    have j2 := (jB.fr HW.out (by omega)).widen (lo' := w.heap.size) (hi' := (wB.setCell ⟨w.heap.size, 0, none⟩ (.slice A0 N C)).heap.size) (by omega) (by rw [es]; exact sB) (Nat.le_refl _)
    clear z1 z2 z3 z4 z5 z6 hc7 L7 b67 b27 hI7 hJ7 kw7 b6a L kL kD hc6 kw6 hI hJ b2 k6 b6
    go_wp2_with fail
    exact bodyPost_ret (v := .tuple #[.agg #[.slice A0 N C], .slice A1 N1 C1, .int .i64 y]) (by simp [results, Try.results62, go_sem, y3, y4]) rfl ⟨_, _, _, _, _, _, _, _, _, rfl, i2, j2, hy, KW.out⟩)
--CS
theorem step_iFit {W : World} {ops : Array Oper} {o : Oper} {a : Act} {K : Act → World → Prop} {Q : Exit → Act → World → Prop} {E : Prop} {A A' : Option Addr} {l h l' h' n c c' : Nat} {ps vs : List Int} {root : Int}
    (ha : Ints W l h A n ps) (hb : Ints W l' h' A' n vs) (hg : ps.getD 0 0 = -1) (hn0 : 0 < n) (hbd : Bd 100000 vs) (hr : 0 ≤ root ∧ root ≤ 1000000) (hgd : o.guard = none)
    (hrun : (execOp a.eval o).run Try.prog W = .ok (.enter 154 #[.agg #[.slice A n c], .slice A' n c', .int .i64 root]) W)
    (hk : ∀ A1 c1 w', Mine w' W.heap.size w'.heap.size A1 n (fitTo ps vs root n) → Keeps W w' → K (a.put o.dst (.slice A1 n c1)) w') :
    if Region.wanted o (yielded ops a.tmps) = true then Oper.wp Try.prog o a W K Q else E := by
  have hw : Region.wanted o (yielded ops a.tmps) = true := by simp [Region.wanted, hgd]
  rw [if_pos hw]
  unfold Oper.wp
  rw [hrun, Oper.upon_enter]
  refine (iFit_any ha hb hg hn0 hbd hr).mono fun e w' hh => ?_
  obtain ⟨A1, c1, rfl, h1, h2⟩ := hh
  exact hk A1 c1 w' h1 h2
/-- A geography, numbers. -/
def DrawsU (w : World) (e : Ending) (w' : World) : Prop := ∃ A N C xs A1 N1 C1 ys, e = .returned (.tuple #[.agg #[.slice A N C], .slice A1 N1 C1]) ∧
  Ints w' w.heap.size w'.heap.size A N xs ∧ Ints w' w.heap.size w'.heap.size A1 N1 ys ∧ Keeps w w'
set_option maxRecDepth 100000 in
set_option maxHeartbeats 6400000 in
theorem DrawCheckSums_any {A : Option Addr} {hi n c : Nat} {w : World} (hb : Bytes w hi A n) :
    Calls Try.prog 66 #[.slice A n c] w (DrawsU w) := by
  have kG := keeps_alloc w (.cells #[.slice none 0 0] 51)
  have hc := Cur.new (t := 125) (c := c) (hb.keeps kG)
  have k0 := kG.trans (keeps_alloc (w.alloc (.cells #[.slice none 0 0] 51)) (.cells #[.slice A n c, .int .i64 0, .int .u64 0] 125))
  have b2 : B1 (w.alloc (.cells #[.slice none 0 0] 51)) w.heap.size (.slice none 0 0) := B1.new' rfl
  replace b2 := b2.keeps (keeps_alloc _ (.cells #[.slice A n c, .int .i64 0, .int .u64 0] 125))
  rw [show (w.alloc (.cells #[.slice none 0 0] 51)).heap.size = w.heap.size + 1 by simp] at hc
  have E0 := hid (show ((w.alloc (.cells #[.slice none 0 0] 51)).alloc (.cells #[.slice A n c, .int .i64 0, .int .u64 0] 125)).heap.size = w.heap.size + 2 by simp)
  clear kG
  go_enter Try.func66, Try.ntmps66
  go_wp2_with fail
  refine (perArea_any hc (by omega)).mono ?_
  rintro e w1 ⟨A0, N, C, xs, A1, N1, C1, ys, rfl, hI, hm, _, hN, _, hc1, f1⟩
  have hJ := hm.1
  have s1 := f1.size
  rw [E0.out] at hI hJ s1
  replace b2 := b2.fr f1 (by omega)
  have kw1 : Keeps w w1 := below_fr k0 k0.size (by omega) f1
  clear hc f1 k0 E0 hm
  have b6 : B1 (w1.alloc (.cells #[.slice A0 N C] 51)) w1.heap.size (.slice A0 N C) := B1.new' rfl
  have k6 := keeps_alloc w1 (.cells #[.slice A0 N C] 51)
  replace b2 := b2.keeps k6
  replace hI := hI.keeps k6
  replace hJ := hJ.keeps k6
  have kw6 := kw1.trans k6
  have hc6 := hc1.keeps k6
  have s6 : (w1.alloc (.cells #[.slice A0 N C] 51)).heap.size = w1.heap.size + 1 := by simp
  clear kw1 hc1 k6
  go_wp2_with fail
  refine (one_any hc6 (by omega) (by omega)).mono ?_
  rintro e w2 ⟨b, rfl, hc2, f2⟩
  have I2 := hI.fr f2 (by omega)
  have J2 := hJ.fr f2 (by omega)
  replace b2 := b2.fr f2 (by omega)
  replace b6 := b6.fr f2 (by omega)
  have kw2 : Keeps w w2 := below_fr kw6 kw6.size (by omega) f2
  have s2 := f2.size
  clear hc6 hI hJ kw6 f2
  cases b
  · obtain ⟨u1, u2⟩ := id b6
    obtain ⟨u3, u4⟩ := id b2
    have sT := (I2).top
    have sT2 := (J2).top
    have HW := hid ((Fr.refl w.heap.size (w.heap.size + 1) w2).setCell (p := ⟨w.heap.size, 0, none⟩) (Nat.le_refl _) (Nat.lt_succ_self _) (.slice A0 N C))
    have KW := hid ((kw2).setCell (p := ⟨w.heap.size, 0, none⟩) (Nat.le_refl _) (.slice A0 N C))
    have es : ((w2).setCell ⟨w.heap.size, 0, none⟩ (.slice A0 N C)).heap.size = (w2).heap.size := by simp [World.setCell]
    have i2 := ((I2).fr HW.out (by omega)).widen (lo' := w.heap.size) (hi' := ((w2).setCell ⟨w.heap.size, 0, none⟩ (.slice A0 N C)).heap.size) (by omega) (by rw [es]; exact sT) (Nat.le_refl _)
    have j2 := ((J2).fr HW.out (by omega)).widen (lo' := w.heap.size) (hi' := ((w2).setCell ⟨w.heap.size, 0, none⟩ (.slice A0 N C)).heap.size) (by omega) (by rw [es]; exact sT2) (Nat.le_refl _)
    go_wp2_with fail
    exact bodyPost_ret (v := .tuple #[.agg #[.slice A0 N C], .slice A1 N1 C1]) (by simp [results, Try.results66, go_sem, u3, u4]) rfl ⟨_, _, _, _, _, _, _, _, rfl, i2, j2, KW.out⟩
  obtain ⟨z1, z2⟩ := id b6
  go_wp2_with fail
  refine (iValues_any I2 J2).mono ?_
  rintro e w3 ⟨rfl, k3⟩
  have I3 := I2.keeps k3
  have J3 := J2.keeps k3
  replace b2 := b2.keeps k3
  replace b6 := b6.keeps k3
  have kw3 := kw2.trans k3
  have hc3 := hc2.keeps k3
  have s3 := k3.size
  clear hc2 I2 J2 kw2 k3 z1 z2
  have hl := I3.1
  have hl1 := J3.1
  obtain ⟨v1, H1⟩ : ∃ v, Hid (valB 100000 xs ys = v) := ⟨_, rfl⟩
  cases v1
  · unfold valB at H1
    rw [H1.out]
    obtain ⟨u1, u2⟩ := id b6
    obtain ⟨u3, u4⟩ := id b2
    have sT := (I3).top
    have sT2 := (J3).top
    have HW := hid ((Fr.refl w.heap.size (w.heap.size + 1) w3).setCell (p := ⟨w.heap.size, 0, none⟩) (Nat.le_refl _) (Nat.lt_succ_self _) (.slice A0 N C))
    have KW := hid ((kw3).setCell (p := ⟨w.heap.size, 0, none⟩) (Nat.le_refl _) (.slice A0 N C))
    have es : ((w3).setCell ⟨w.heap.size, 0, none⟩ (.slice A0 N C)).heap.size = (w3).heap.size := by simp [World.setCell]
    have i2 := ((I3).fr HW.out (by omega)).widen (lo' := w.heap.size) (hi' := ((w3).setCell ⟨w.heap.size, 0, none⟩ (.slice A0 N C)).heap.size) (by omega) (by rw [es]; exact sT) (Nat.le_refl _)
    have j2 := ((J3).fr HW.out (by omega)).widen (lo' := w.heap.size) (hi' := ((w3).setCell ⟨w.heap.size, 0, none⟩ (.slice A0 N C)).heap.size) (by omega) (by rw [es]; exact sT2) (Nat.le_refl _)
    go_wp2_with fail
    exact bodyPost_ret (v := .tuple #[.agg #[.slice A0 N C], .slice A1 N1 C1]) (by simp [results, Try.results66, go_sem, u3, u4]) rfl ⟨_, _, _, _, _, _, _, _, rfl, i2, j2, KW.out⟩
  have hv := valB_true.1 H1.out
  have hg := geoB_true.1 hv.1
  obtain rfl : N1 = N := by omega
  have HG := hid hg.2.1
  have hn0 : 0 < N1 := by omega
  have HB := hid (within_bd (B := 100000) hv.2.2 (by omega) (by omega) (by omega))
  unfold valB at H1
  rw [H1.out]
  clear hv hg H1
  have hcD := hc3.keeps (keeps_d0 w3)
  have ID := I3.keeps (keeps_d0 w3)
  have JD := J3.keeps (keeps_d0 w3)
  have b6D := b6.keeps (keeps_d0 w3)
  have b2D := b2.keeps (keeps_d0 w3)
  have kwD := kw3.trans (keeps_d0 w3)
  have sD := (keeps_d0 w3).size
  obtain ⟨z1, z2⟩ := id b6D
  have hT3 : (0 : Int) + 200 + 2 ≤ 999999999999999 := by omega
  have o0 : w.heap.size + 1 + 1 ≤ w.heap.size + 2 := by omega
  have o1 : w1.heap.size < w.heap.size + 1 ∨ w.heap.size + 1 + 1 ≤ w1.heap.size := by omega
  have o2 : w.heap.size < w.heap.size + 1 ∨ w.heap.size + 1 + 1 ≤ w.heap.size := by omega
  have q0 : (40 : Int) ≤ 65536 := by omega
  have q00 : ∀ x : Int, (0 ≤ x ∧ (x < 40 ∨ 40 ≤ (1 : Int) ∧ x = 0)) → 0 ≤ x ∧ x ≤ 1000000 := fun x hx => by omega
  clear hc3 I3 J3 b6 b2 kw3
  go_wp2_with fail
  go_region_law ((first | (refine step_pick (n := 40) hcD hT3 q0 rfl (by kernel_rfl) ?_; intro y wB hy hcB fB; have b6B := b6D.fr fB o1; have b2B := b2D.fr fB o2; have IB := ID.fr fB (.inl o0); have JB := JD.fr fB (.inl o0); have hry := q00 y hy; obtain ⟨y1, y2⟩ := id b6B) | (refine step_iFit (c := C) (c' := C1) IB JB HG.out hn0 HB.out hry rfl (by kernel_rfl) ?_; intro A5 C5 wC hmC kC; have b6C := b6B.keeps kC; obtain ⟨y3, y4⟩ := id b6C)))
  all_goals (
    have kwB : Keeps w wB := below_fr kwD kwD.size (by omega) fB
    have sB := fB.size
    have kwC := kwB.trans kC
    have b2C := b2B.keeps kC
    have IC := IB.keeps kC
    have hcC := hcB.keeps kC
    have sC := kC.size
    have mC := hmC
    clear hcD ID JD b6D b2D kwD z1 z2 y1 y2 y3 y4 IB JB b6B b2B kC hmC hcB fB kwB
    go_wp2_with fail
    refine (one_any hcC (by omega) (by omega)).mono ?_
    rintro e w4 ⟨b, rfl, hc4, f4⟩
    have I4 := IC.fr f4 (by omega)
    have m4 := mC.fr f4 (by omega)
    have b24 := b2C.fr f4 (by omega)
    have b64 := b6C.fr f4 (by omega)
    have kw4 : Keeps w w4 := below_fr kwC kwC.size (by omega) f4
    have s4 := f4.size
    clear hcC IC mC b2C b6C kwC f4
    have m4t := m4.1.top
    cases b
    · obtain ⟨u1, u2⟩ := id b64
      obtain ⟨u3, u4⟩ := id b24
      have sT := (I4).top
      have sT2 := (m4.1).top
      have HW := hid ((Fr.refl w.heap.size (w.heap.size + 1) w4).setCell (p := ⟨w.heap.size, 0, none⟩) (Nat.le_refl _) (Nat.lt_succ_self _) (.slice A0 N1 C))
      have KW := hid ((kw4).setCell (p := ⟨w.heap.size, 0, none⟩) (Nat.le_refl _) (.slice A0 N1 C))
      have es : ((w4).setCell ⟨w.heap.size, 0, none⟩ (.slice A0 N1 C)).heap.size = (w4).heap.size := by simp [World.setCell]
      have i2 := ((I4).fr HW.out (by omega)).widen (lo' := w.heap.size) (hi' := ((w4).setCell ⟨w.heap.size, 0, none⟩ (.slice A0 N1 C)).heap.size) (by omega) (by rw [es]; exact sT) (Nat.le_refl _)
      have j2 := ((m4.1).fr HW.out (by omega)).widen (lo' := w.heap.size) (hi' := ((w4).setCell ⟨w.heap.size, 0, none⟩ (.slice A0 N1 C)).heap.size) (by omega) (by rw [es]; exact sT2) (Nat.le_refl _)
      go_wp2_with fail
      exact bodyPost_ret (v := .tuple #[.agg #[.slice A0 N1 C], .slice A5 N1 C5]) (by simp [results, Try.results66, go_sem, u3, u4]) rfl ⟨_, _, _, _, _, _, _, _, rfl, i2, j2, KW.out⟩
    go_wp2_with fail
    refine (pick_any hc4 (by omega) (by omega)).mono ?_
    rintro e w5 ⟨q, rfl, hq, hc5, f5⟩
    have I5 := I4.fr f5 (by omega)
    have m5 := m4.fr f5 (by omega)
    have b25 := b24.fr f5 (by omega)
    have b65 := b64.fr f5 (by omega)
    have kw5 : Keeps w w5 := below_fr kw4 kw4.size (by omega) f5
    have s5 := f5.size
    clear hc4 I4 m4 b24 b64 kw4 f5 hc5
    obtain ⟨j, rfl⟩ : ∃ j : Nat, q = j := ⟨q.toNat, by omega⟩
    have hj : j < N1 := by omega
    have hj1 : (j : Int) < (N1 : Int) := by omega
    obtain ⟨bb, off, x0, rfl, hlo, hhi, hcx, hxx⟩ := m5.1.at_ (k := j) hj
    have hfz := m5.2 bb off rfl j hj
    have HS := hid (m5.set_ (k := j) hj (wrap64 (x0 + 1)))
    have m6 := hid HS.out.1
    have I6 := hid (I5.fr HS.out.2 (by omega))
    have b26 := b25.fr HS.out.2 (by omega)
    have b66 := b65.fr HS.out.2 (by omega)
    have kw6 := hid (kw5.setCell (p := ⟨bb, off + j, none⟩) (by show w.heap.size ≤ bb; omega) (.int .i64 (wrap64 (x0 + 1))))
    clear hxx hq HS I5 m5 b25 b65 kw5
    obtain ⟨u1, u2⟩ := id b66
    obtain ⟨u3, u4⟩ := id b26
    have sT := (I6.out).top
    have sT2 := (m6.out.1).top
    have HW := hid ((Fr.refl w.heap.size (w.heap.size + 1) (w5.setCell ⟨bb, off + j, none⟩ (.int .i64 (wrap64 (x0 + 1))))).setCell (p := ⟨w.heap.size, 0, none⟩) (Nat.le_refl _) (Nat.lt_succ_self _) (.slice A0 N1 C))
    have KW := hid ((kw6.out).setCell (p := ⟨w.heap.size, 0, none⟩) (Nat.le_refl _) (.slice A0 N1 C))
    have es : (((w5.setCell ⟨bb, off + j, none⟩ (.int .i64 (wrap64 (x0 + 1))))).setCell ⟨w.heap.size, 0, none⟩ (.slice A0 N1 C)).heap.size = ((w5.setCell ⟨bb, off + j, none⟩ (.int .i64 (wrap64 (x0 + 1))))).heap.size := by simp [World.setCell]
    have i2 := ((I6.out).fr HW.out (by omega)).widen (lo' := w.heap.size) (hi' := (((w5.setCell ⟨bb, off + j, none⟩ (.int .i64 (wrap64 (x0 + 1))))).setCell ⟨w.heap.size, 0, none⟩ (.slice A0 N1 C)).heap.size) (by omega) (by rw [es]; exact sT) (Nat.le_refl _)
    have j2 := ((m6.out.1).fr HW.out (by omega)).widen (lo' := w.heap.size) (hi' := (((w5.setCell ⟨bb, off + j, none⟩ (.int .i64 (wrap64 (x0 + 1))))).setCell ⟨w.heap.size, 0, none⟩ (.slice A0 N1 C)).heap.size) (by omega) (by rw [es]; exact sT2) (Nat.le_refl _)
    go_wp2_with fail
    exact bodyPost_ret (v := .tuple #[.agg #[.slice A0 N1 C], .slice (some ⟨bb, off, none⟩) N1 C5]) (by simp [results, Try.results66, go_sem, u3, u4]) rfl ⟨_, _, _, _, _, _, _, _, rfl, i2, j2, KW.out⟩
    done)
end Go.Proofs.Ytkpliolafkdijaa
