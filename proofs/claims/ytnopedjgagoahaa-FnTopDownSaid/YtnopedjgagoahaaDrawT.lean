/- What is drawn for WeightedError, IsAdditiveTree, WholeTree, LevelError, TopDown (bounds alone). -/
import Derived.Test.YtnopedjgagoahaaDrawN
import Derived.Test.YtnopedjgagoahaaConF
import Derived.Test.YtnopedjgagoahaaEsL
namespace Go.Proofs.Ytnopedjgagoahaa
open Go.RowKit
set_option linter.unusedVariables false
set_option linter.unusedSimpArgs false

set_option maxRecDepth 100000 in
set_option maxHeartbeats 1600000 in
theorem DrawTopDown_any {A : Option Addr} {hi n c : Nat} {w : World} (hb : Bytes w hi A n) :
    Calls Try.prog 33 #[.slice A n c] w (DrawsE w) := by
  have kG := keeps_alloc w (.cells #[.slice none 0 0] 53)
  have b2 : B1 (w.alloc (.cells #[.slice none 0 0] 53)) w.heap.size (.slice none 0 0) := B1.new' rfl
  have hb0 := hb.keeps kG
  have E0 := hid (show (w.alloc (.cells #[.slice none 0 0] 53)).heap.size = w.heap.size + 1 by simp)
  go_enter Try.func33, Try.ntmps33
  go_wp2_with fail
  refine (DrawSubtreeEstimates_any hb0).mono ?_
  rintro e w1 ⟨A0, N, C, xs, A1, N1, C1, ys, A2, N2, C2, zs, rfl, hI, hJ, hK, hN, k1⟩
  have s1 := k1.size
  rw [E0.out] at hI hJ hK s1
  replace b2 := b2.keeps k1
  have kw1 : Keeps w w1 := kG.trans k1
  clear k1 kG E0 hb0
  obtain ⟨u1, u2⟩ := id b2
  have t2 := hI.top
  have t3 := hJ.top
  have t4 := hK.top
  have HW := hid ((Fr.refl w.heap.size (w.heap.size + 1) w1).setCell (p := ⟨w.heap.size, 0, none⟩) (Nat.le_refl _) (Nat.lt_succ_self _) (.slice A0 N C))
  have KW := hid ((show Below w.heap.size w w1 from kw1).setCell (p := ⟨w.heap.size, 0, none⟩) (Nat.le_refl _) (.slice A0 N C))
  have es : (w1.setCell ⟨w.heap.size, 0, none⟩ (.slice A0 N C)).heap.size = w1.heap.size := by simp [World.setCell]
  have iE := (hI.fr HW.out (by omega)).widen (lo' := w.heap.size) (hi' := (w1.setCell ⟨w.heap.size, 0, none⟩ (.slice A0 N C)).heap.size) (by omega) (by rw [es]; exact t2) (Nat.le_refl _)
  have jE := (hJ.fr HW.out (by omega)).widen (lo' := w.heap.size) (hi' := (w1.setCell ⟨w.heap.size, 0, none⟩ (.slice A0 N C)).heap.size) (by omega) (by rw [es]; exact t3) (Nat.le_refl _)
  have kE := (hK.fr HW.out (by omega)).widen (lo' := w.heap.size) (hi' := (w1.setCell ⟨w.heap.size, 0, none⟩ (.slice A0 N C)).heap.size) (by omega) (by rw [es]; exact t4) (Nat.le_refl _)
  go_wp2_with fail
  exact bodyPost_ret (v := .tuple #[.agg #[.slice A0 N C], .slice A1 N1 C1, .slice A2 N2 C2]) (by simp [results, Try.results33, go_sem, u1, u2]) rfl ⟨_, _, _, _, _, _, _, _, _, _, _, _, rfl, iE, jE, kE, hN, KW.out⟩
/-- A geography, two lists of numbers and a list of fractions that may be written. -/
def DrawsWe (w : World) (e : Ending) (w' : World) : Prop := ∃ (A : Option Addr) (N C : Nat) (xs : List Int) (A1 : Option Addr) (N1 C1 : Nat) (A2 : Option Addr) (N2 C2 : Nat) (A3 : Option Addr) (N3 C3 : Nat) (l : List (Int × Int)) (m : Nat), e = .returned (.tuple #[.agg #[.slice A N C], .slice A1 N1 C1, .slice A2 N2 C2, .slice A3 N3 C3]) ∧
  Ints w' w.heap.size m A N xs ∧ FracsM w' m w'.heap.size A3 N3 l ∧ w.heap.size ≤ m ∧ (N1 ≤ 46 ∧ N2 ≤ 46 ∧ N3 ≤ 65536) ∧ Keeps w w'
set_option maxRecDepth 100000 in
set_option maxHeartbeats 6400000 in
theorem DrawWeightedError_any {A : Option Addr} {hi n c : Nat} {w : World} (hb : Bytes w hi A n) :
    Calls Try.prog 199 #[.slice A n c] w (DrawsWe w) := by
  have kG := keeps_alloc w (.cells #[.slice none 0 0] 53)
  have hc := Cur.new (t := 119) (c := c) (hb.keeps kG)
  have k0 := kG.trans (keeps_alloc (w.alloc (.cells #[.slice none 0 0] 53)) (.cells #[.slice A n c, .int .i64 0, .int .u64 0] 119))
  have b2 : B1 (w.alloc (.cells #[.slice none 0 0] 53)) w.heap.size (.slice none 0 0) := B1.new' rfl
  replace b2 := b2.keeps (keeps_alloc _ (.cells #[.slice A n c, .int .i64 0, .int .u64 0] 119))
  rw [show (w.alloc (.cells #[.slice none 0 0] 53)).heap.size = w.heap.size + 1 by simp] at hc
  have E0 := hid (show ((w.alloc (.cells #[.slice none 0 0] 53)).alloc (.cells #[.slice A n c, .int .i64 0, .int .u64 0] 119)).heap.size = w.heap.size + 2 by simp)
  clear kG
  go_enter Try.func199, Try.ntmps199
  go_wp2_with fail
  refine (noisy_any hc (by omega)).mono ?_
  rintro e w1 ⟨A0, N, C, xs, A1, N1, C1, ys, A2, N2, C2, zs, rfl, hI, hJ, hK, hN, hc1, f1⟩
  have s1 := f1.size
  rw [E0.out] at hI hJ hK s1
  replace b2 := b2.fr f1 (by omega)
  have kw1 : Keeps w w1 := below_fr k0 k0.size (by omega) f1
  clear hc f1 k0 E0
  have b7 : B1 (w1.alloc (.cells #[.slice A0 N C] 53)) w1.heap.size (.slice A0 N C) := B1.new' rfl
  replace b2 := b2.keeps (keeps_alloc w1 (.cells #[.slice A0 N C] 53))
  replace hc1 := hc1.keeps (keeps_alloc w1 (.cells #[.slice A0 N C] 53))
  replace hI := hI.keeps (keeps_alloc w1 (.cells #[.slice A0 N C] 53))
  replace hJ := hJ.keeps (keeps_alloc w1 (.cells #[.slice A0 N C] 53))
  replace hK := hK.keeps (keeps_alloc w1 (.cells #[.slice A0 N C] 53))
  have kw := kw1.trans (keeps_alloc w1 (.cells #[.slice A0 N C] 53))
  clear kw1
  obtain ⟨z1, z2⟩ := id b7
  go_wp2_with fail
  refine (specConsistentEstimates_any hI hJ hK).mono ?_
  rintro e w2 ⟨A4, N4, C4, rfl, hM, k2⟩
  have hxs := hI.1
  have sw : w1.heap.size + 1 ≤ w2.heap.size := by have := k2.size; simpa using this
  replace hM := hM.widen (lo' := w1.heap.size + 1) (by simp) (Nat.le_refl _) (Nat.le_refl _)
  replace b2 := b2.keeps k2
  replace b7 := b7.keeps k2
  replace hc1 := hc1.keeps k2
  replace hI := hI.keeps k2
  replace hJ := hJ.keeps k2
  replace hK := hK.keeps k2
  replace kw := kw.trans k2
  clear k2 z1 z2
  obtain ⟨ll, ok, HQ⟩ : ∃ ll ok, Hid (conQ xs ys zs = (ll, ok)) := ⟨_, _, rfl⟩
  rw [HQ.out] at hM
  rw [HQ.out]
  dsimp only at hM
  dsimp only
  cases ok
  · clear hxs
    go_wp2_with fail
    go_loopw [12, 40] (fun v si wr => ∃ (k : Nat) (l : List (Int × Int)), k ≤ N1 ∧ si = .int .i64 k ∧ Has wr (w1.heap.size + 1) 31 2 v k (frs l) ∧ l.length = k ∧ B1 wr w.heap.size (.slice none 0 0) ∧ B1 wr w1.heap.size (.slice A0 N C) ∧ Ints wr (w.heap.size + 2) w1.heap.size A0 N xs ∧ Cur wr (w.heap.size + 1) (400 + 4 * k) ∧ Keeps w wr ∧ w1.heap.size + 1 ≤ wr.heap.size) (fun _ si _ => N1 - (intOf si).toNat)
    case atStart => exact ⟨0, [], Nat.zero_le _, rfl, World.ownsRow_nil _ _ _ _, rfl, b2, b7, hI, hc1.mono (by omega), kw, sw⟩
    clear b2 b7 hI hJ hK hc1 kw sw
    case round =>
      obtain ⟨k, l, hk, rfl, hown, hll, b2, b7, hI, hc2, kw2, s2⟩ := hrel
      by_cases hlt : k < N1
      · have hi1 : (k : Int) < (N1 : Int) := by omega
        go_wp2_with fail
        refine (frac_any hc2 (by omega)).mono ?_
        rintro e w3 ⟨x, y, rfl, hsm, hc3, f3⟩
        have hown3 := Has.fr hown f3 (by omega)
        have kw3 : Keeps w w3 := below_fr kw2 kw2.size (Nat.le_succ _) f3
        replace b2 := b2.fr f3 (by omega)
        replace b7 := b7.fr f3 (by omega)
        have hI3 := hI.fr f3 (by omega)
        have s3 := f3.size
        clear hown hc2 kw2 f3 hI
        go_wp2_with (at_builtin; refine append_frac (xs := l) hown3 (by omega) (by omega) _ _ rfl rfl rfl (by first | rfl | (simp <;> rfl)) ?_; intro v' w4 hown4 hb4)
        have hc4 := hc3.below hb4 (by omega)
        have kw4 : Keeps w w4 := Below.trans kw3 (hb4.mono (by omega))
        replace b2 := b2.below hb4 (by omega)
        replace b7 := b7.below hb4 (by omega)
        have hI4 := hI3.below hb4 (by omega)
        have s4 := hb4.size
        clear hown3 hb4 hc3 kw3 hI3
        go_wp2
        go_roundw
        case rel => exact ⟨k + 1, _, by omega, by go_num, hown4, by simp [hll], b2, b7, hI4, hc4.mono (by omega), kw4, by omega⟩
        case measure => simp [intOf]; omega
      · obtain rfl : k = N1 := by omega
        obtain ⟨A3, C3, e1⟩ := Has.form hown
        cases e1
        have hM := SlM.of_own hown (by omega) (by omega)
        have hJ : True := trivial
        have hK : True := trivial
        clear hown
        have HW := hid ((Fr.refl w.heap.size (w.heap.size + 1) wr).setCell (p := ⟨w.heap.size, 0, none⟩) (Nat.le_refl _) (Nat.lt_succ_self _) (.slice A0 N C))
        have KW := hid ((show Below w.heap.size w wr from kw2).setCell (p := ⟨w.heap.size, 0, none⟩) (Nat.le_refl _) (.slice A0 N C))
        have es : ((wr).setCell ⟨w.heap.size, 0, none⟩ (.slice A0 N C)).heap.size = (wr).heap.size := by simp [World.setCell]
        have t2 := hI.top
        have t3 := (hM).1.top
        have iE := (hI.fr HW.out (by omega)).widen (lo' := w.heap.size) (hi' := w1.heap.size + 1) (by omega) (by omega) (by rw [es]; omega)
        have jE := (SlM.fr hM HW.out (by omega)).widen (lo' := w1.heap.size + 1) (hi' := ((wr).setCell ⟨w.heap.size, 0, none⟩ (.slice A0 N C)).heap.size) (by omega) (by rw [es]; exact t3) (Nat.le_refl _)
        obtain ⟨u1, u2⟩ := id b2
        obtain ⟨u3, u4⟩ := id b7
        clear hI hJ hK hM kw2 b2 b7 t2 t3
        go_wp2_with fail
        exact bodyPost_ret (v := .tuple #[.agg #[.slice A0 N C], .slice A1 k C1, .slice A2 N2 C2, .slice A3 k C3]) (by simp [results, Try.results199, go_sem, u1, u2]) rfl ⟨_, _, _, _, _, _, _, _, _, _, _, _, _, _, _, rfl, iE, jE, by omega, by omega, KW.out⟩
  have hN4 : N4 ≤ 45 := by
    obtain ⟨_, _, _, _, hq, _⟩ := con_parts HQ.out
    have := Fracs.len (SlM.sl hM)
    omega
  clear hxs
  go_wp2_with fail
  refine (one_any hc1 (by omega) (by omega)).mono ?_
  rintro e w3 ⟨b, rfl, hc3, f3⟩
  replace sw := Nat.le_trans sw f3.size
  replace b2 := b2.fr f3 (by omega)
  replace b7 := b7.fr f3 (by omega)
  replace hI := hI.fr f3 (by omega)
  replace hM := SlM.fr hM f3 (by omega)
  replace kw : Keeps w w3 := below_fr kw kw.size (by omega) f3
  clear f3 hc1
  cases b
  · go_wp2_with fail
    go_loopw [12, 40] (fun v si wr => ∃ (k : Nat) (l : List (Int × Int)), k ≤ N1 ∧ si = .int .i64 k ∧ Has wr (w1.heap.size + 1) 31 2 v k (frs l) ∧ l.length = k ∧ B1 wr w.heap.size (.slice none 0 0) ∧ B1 wr w1.heap.size (.slice A0 N C) ∧ Ints wr (w.heap.size + 2) w1.heap.size A0 N xs ∧ Cur wr (w.heap.size + 1) (400 + 4 * k) ∧ Keeps w wr ∧ w1.heap.size + 1 ≤ wr.heap.size) (fun _ si _ => N1 - (intOf si).toNat)
    case atStart => exact ⟨0, [], Nat.zero_le _, rfl, World.ownsRow_nil _ _ _ _, rfl, b2, b7, hI, hc3.mono (by omega), kw, sw⟩
    clear b2 b7 hI hJ hK hc3 kw sw
    case round =>
      obtain ⟨k, l, hk, rfl, hown, hll, b2, b7, hI, hc2, kw2, s2⟩ := hrel
      by_cases hlt : k < N1
      · have hi1 : (k : Int) < (N1 : Int) := by omega
        go_wp2_with fail
        refine (frac_any hc2 (by omega)).mono ?_
        rintro e w3 ⟨x, y, rfl, hsm, hc3, f3⟩
        have hown3 := Has.fr hown f3 (by omega)
        have kw3 : Keeps w w3 := below_fr kw2 kw2.size (Nat.le_succ _) f3
        replace b2 := b2.fr f3 (by omega)
        replace b7 := b7.fr f3 (by omega)
        have hI3 := hI.fr f3 (by omega)
        have s3 := f3.size
        clear hown hc2 kw2 f3 hI
        go_wp2_with (at_builtin; refine append_frac (xs := l) hown3 (by omega) (by omega) _ _ rfl rfl rfl (by first | rfl | (simp <;> rfl)) ?_; intro v' w4 hown4 hb4)
        have hc4 := hc3.below hb4 (by omega)
        have kw4 : Keeps w w4 := Below.trans kw3 (hb4.mono (by omega))
        replace b2 := b2.below hb4 (by omega)
        replace b7 := b7.below hb4 (by omega)
        have hI4 := hI3.below hb4 (by omega)
        have s4 := hb4.size
        clear hown3 hb4 hc3 kw3 hI3
        go_wp2
        go_roundw
        case rel => exact ⟨k + 1, _, by omega, by go_num, hown4, by simp [hll], b2, b7, hI4, hc4.mono (by omega), kw4, by omega⟩
        case measure => simp [intOf]; omega
      · obtain rfl : k = N1 := by omega
        obtain ⟨A3, C3, e1⟩ := Has.form hown
        cases e1
        have hM := SlM.of_own hown (by omega) (by omega)
        have hJ : True := trivial
        have hK : True := trivial
        clear hown
        have HW := hid ((Fr.refl w.heap.size (w.heap.size + 1) wr).setCell (p := ⟨w.heap.size, 0, none⟩) (Nat.le_refl _) (Nat.lt_succ_self _) (.slice A0 N C))
        have KW := hid ((show Below w.heap.size w wr from kw2).setCell (p := ⟨w.heap.size, 0, none⟩) (Nat.le_refl _) (.slice A0 N C))
        have es : ((wr).setCell ⟨w.heap.size, 0, none⟩ (.slice A0 N C)).heap.size = (wr).heap.size := by simp [World.setCell]
        have t2 := hI.top
        have t3 := (hM).1.top
        have iE := (hI.fr HW.out (by omega)).widen (lo' := w.heap.size) (hi' := w1.heap.size + 1) (by omega) (by omega) (by rw [es]; omega)
        have jE := (SlM.fr hM HW.out (by omega)).widen (lo' := w1.heap.size + 1) (hi' := ((wr).setCell ⟨w.heap.size, 0, none⟩ (.slice A0 N C)).heap.size) (by omega) (by rw [es]; exact t3) (Nat.le_refl _)
        obtain ⟨u1, u2⟩ := id b2
        obtain ⟨u3, u4⟩ := id b7
        clear hI hJ hK hM kw2 b2 b7 t2 t3
        go_wp2_with fail
        exact bodyPost_ret (v := .tuple #[.agg #[.slice A0 N C], .slice A1 k C1, .slice A2 N2 C2, .slice A3 k C3]) (by simp [results, Try.results199, go_sem, u1, u2]) rfl ⟨_, _, _, _, _, _, _, _, _, _, _, _, _, _, _, rfl, iE, jE, by omega, by omega, KW.out⟩
  · have HW := hid ((Fr.refl w.heap.size (w.heap.size + 1) w3).setCell (p := ⟨w.heap.size, 0, none⟩) (Nat.le_refl _) (Nat.lt_succ_self _) (.slice A0 N C))
    have KW := hid ((show Below w.heap.size w w3 from kw).setCell (p := ⟨w.heap.size, 0, none⟩) (Nat.le_refl _) (.slice A0 N C))
    have es : ((w3).setCell ⟨w.heap.size, 0, none⟩ (.slice A0 N C)).heap.size = (w3).heap.size := by simp [World.setCell]
    have t2 := hI.top
    have t3 := (hM).1.top
    have iE := (hI.fr HW.out (by omega)).widen (lo' := w.heap.size) (hi' := w1.heap.size + 1) (by omega) (by omega) (by rw [es]; omega)
    have jE := (SlM.fr hM HW.out (by omega)).widen (lo' := w1.heap.size + 1) (hi' := ((w3).setCell ⟨w.heap.size, 0, none⟩ (.slice A0 N C)).heap.size) (by omega) (by rw [es]; exact t3) (Nat.le_refl _)
    obtain ⟨u1, u2⟩ := id b2
    obtain ⟨u3, u4⟩ := id b7
    clear hI hJ hK hM kw b2 b7 t2 t3
    go_wp2_with fail
    exact bodyPost_ret (v := .tuple #[.agg #[.slice A0 N C], .slice A1 N1 C1, .slice A2 N2 C2, .slice A4 N4 C4]) (by simp [results, Try.results199, go_sem, u1, u2]) rfl ⟨_, _, _, _, _, _, _, _, _, _, _, _, _, _, _, rfl, iE, jE, by omega, by omega, KW.out⟩
/-- A geography and a list of fractions. -/
def DrawsAt (w : World) (e : Ending) (w' : World) : Prop := ∃ (A : Option Addr) (N C : Nat) (xs : List Int) (A3 : Option Addr) (N3 C3 : Nat) (l : List (Int × Int)), e = .returned (.tuple #[.agg #[.slice A N C], .slice A3 N3 C3]) ∧
  Ints w' w.heap.size w'.heap.size A N xs ∧ Fracs w' w.heap.size w'.heap.size A3 N3 l ∧ Keeps w w'
set_option maxRecDepth 100000 in
set_option maxHeartbeats 6400000 in
theorem DrawIsAdditiveTree_any {A : Option Addr} {hi n c : Nat} {w : World} (hb : Bytes w hi A n) :
    Calls Try.prog 119 #[.slice A n c] w (DrawsAt w) := by
  have kG := keeps_alloc w (.cells #[.slice none 0 0] 53)
  have hc := Cur.new (t := 119) (c := c) (hb.keeps kG)
  have kC := keeps_alloc (w.alloc (.cells #[.slice none 0 0] 53)) (.cells #[.slice A n c, .int .i64 0, .int .u64 0] 119)
  have k0 := kG.trans kC
  have hb0 := (hb.keeps kG).keeps kC
  have b2 : B1 (w.alloc (.cells #[.slice none 0 0] 53)) w.heap.size (.slice none 0 0) := B1.new' rfl
  replace b2 := b2.keeps kC
  rw [show (w.alloc (.cells #[.slice none 0 0] 53)).heap.size = w.heap.size + 1 by simp] at hc
  have E0 := hid (show ((w.alloc (.cells #[.slice none 0 0] 53)).alloc (.cells #[.slice A n c, .int .i64 0, .int .u64 0] 119)).heap.size = w.heap.size + 2 by simp)
  clear kG kC
  go_enter Try.func119, Try.ntmps119
  go_wp2_with fail
  refine (DrawWeightedError_any hb0).mono ?_
  rintro e w1 ⟨A0, N, C, xs, A1, N1, C1, A2, N2, C2, A3, N3, C3, l, M, rfl, hI, hM, hMl, hN, k1⟩
  have s1 := k1.size
  rw [E0.out] at hI hMl s1
  replace b2 := b2.keeps k1
  replace hc := hc.keeps k1
  have kw1 : Keeps w w1 := k0.trans k1
  clear k1 k0 E0 hb0
  have kA := keeps_alloc w1 (.cells #[.slice A0 N C] 53)
  have b5 : B1 (w1.alloc (.cells #[.slice A0 N C] 53)) w1.heap.size (.slice A0 N C) := B1.new' rfl
  replace b2 := b2.keeps kA
  replace hc := hc.keeps kA
  replace hI := hI.keeps kA
  replace hM := SlM.keeps hM kA
  have kw := kw1.trans kA
  clear kw1 kA
  obtain ⟨W2, hX⟩ : ∃ u : World, u = w1.alloc (.cells #[.slice A0 N C] 53) := ⟨_, rfl⟩
  have sX : W2.heap.size = w1.heap.size + 1 := by rw [hX]; simp
  rw [← hX] at b2 b5 hc hI hM kw
  have tM := hM.1.top
  by_cases hg : 0 < N3
  rotate_left
  · have hg1 : ¬ (0 : Int) < (N3 : Int) := by omega
    obtain ⟨q1, q2⟩ := id b2
    obtain ⟨q3, q4⟩ := id b5
    rw [hX] at q1 q2 q3 q4
    go_wp2_with fail
    rw [← hX]
    clear hX q1 q2 q3 q4
    have HW := hid ((Fr.refl w.heap.size (w.heap.size + 1) W2).setCell (p := ⟨w.heap.size, 0, none⟩) (Nat.le_refl _) (Nat.lt_succ_self _) (.slice A0 N C))
    have KW := hid ((show Below w.heap.size w W2 from kw).setCell (p := ⟨w.heap.size, 0, none⟩) (Nat.le_refl _) (.slice A0 N C))
    have es : ((W2).setCell ⟨w.heap.size, 0, none⟩ (.slice A0 N C)).heap.size = (W2).heap.size := by simp [World.setCell]
    have t2 := hI.top
    have t3 := (hM).1.top
    have iE := (hI.fr HW.out (by omega)).widen (lo' := w.heap.size) (hi' := ((W2).setCell ⟨w.heap.size, 0, none⟩ (.slice A0 N C)).heap.size) (by omega) (by rw [es]; exact t2) (Nat.le_refl _)
    have jE := (SlM.fr hM HW.out (by omega)).widen (lo' := w.heap.size) (hi' := ((W2).setCell ⟨w.heap.size, 0, none⟩ (.slice A0 N C)).heap.size) (by omega) (by rw [es]; exact t3) (Nat.le_refl _)
    obtain ⟨u1, u2⟩ := id b2
    obtain ⟨u3, u4⟩ := id b5
    clear hI hM kw b2 b5 t2 t3
    exact bodyPost_ret (v := .tuple #[.agg #[.slice A0 N C], .slice A3 N3 C3]) (by simp [results, Try.results119, go_sem, u1, u2]) rfl ⟨_, _, _, _, _, _, _, _, rfl, iE, jE.1, KW.out⟩
  have hg1 : (0 : Int) < (N3 : Int) := by omega
  by_cases he : N1 = N2
  rotate_left
  · have he1 : ((N1 : Int) == (N2 : Int)) = false := by rw [beq_eq_false_iff_ne]; omega
    obtain ⟨q1, q2⟩ := id b2
    obtain ⟨q3, q4⟩ := id b5
    rw [hX] at q1 q2 q3 q4
    go_wp2_with fail
    rw [← hX]
    clear hX q1 q2 q3 q4
    have HW := hid ((Fr.refl w.heap.size (w.heap.size + 1) W2).setCell (p := ⟨w.heap.size, 0, none⟩) (Nat.le_refl _) (Nat.lt_succ_self _) (.slice A0 N C))
    have KW := hid ((show Below w.heap.size w W2 from kw).setCell (p := ⟨w.heap.size, 0, none⟩) (Nat.le_refl _) (.slice A0 N C))
    have es : ((W2).setCell ⟨w.heap.size, 0, none⟩ (.slice A0 N C)).heap.size = (W2).heap.size := by simp [World.setCell]
    have t2 := hI.top
    have t3 := (hM).1.top
    have iE := (hI.fr HW.out (by omega)).widen (lo' := w.heap.size) (hi' := ((W2).setCell ⟨w.heap.size, 0, none⟩ (.slice A0 N C)).heap.size) (by omega) (by rw [es]; exact t2) (Nat.le_refl _)
    have jE := (SlM.fr hM HW.out (by omega)).widen (lo' := w.heap.size) (hi' := ((W2).setCell ⟨w.heap.size, 0, none⟩ (.slice A0 N C)).heap.size) (by omega) (by rw [es]; exact t3) (Nat.le_refl _)
    obtain ⟨u1, u2⟩ := id b2
    obtain ⟨u3, u4⟩ := id b5
    clear hI hM kw b2 b5 t2 t3
    exact bodyPost_ret (v := .tuple #[.agg #[.slice A0 N C], .slice A3 N3 C3]) (by simp [results, Try.results119, go_sem, u1, u2]) rfl ⟨_, _, _, _, _, _, _, _, rfl, iE, jE.1, KW.out⟩
  have he1 : ((N1 : Int) == (N2 : Int)) = true := by rw [beq_iff_eq]; omega
  obtain ⟨q1, q2⟩ := id b2
  obtain ⟨q3, q4⟩ := id b5
  rw [hX] at q1 q2 q3 q4
  go_wp2_with fail
  rw [← hX]
  clear hX q1 q2 q3 q4
  refine (one_any hc (by omega) (by omega)).mono ?_
  rintro e w3 ⟨b, rfl, hc3, f3⟩
  have s3 := f3.size
  replace b2 := b2.fr f3 (by omega)
  replace b5 := b5.fr f3 (by omega)
  replace hI := hI.fr f3 (by omega)
  replace hM := SlM.fr hM f3 (by omega)
  replace kw : Keeps w w3 := below_fr kw kw.size (by omega) f3
  clear f3 hc
  cases b
  · obtain ⟨q1, q2⟩ := id b2
    obtain ⟨q3, q4⟩ := id b5
    go_wp2_with fail
    clear q1 q2 q3 q4
    have HW := hid ((Fr.refl w.heap.size (w.heap.size + 1) w3).setCell (p := ⟨w.heap.size, 0, none⟩) (Nat.le_refl _) (Nat.lt_succ_self _) (.slice A0 N C))
    have KW := hid ((show Below w.heap.size w w3 from kw).setCell (p := ⟨w.heap.size, 0, none⟩) (Nat.le_refl _) (.slice A0 N C))
    have es : ((w3).setCell ⟨w.heap.size, 0, none⟩ (.slice A0 N C)).heap.size = (w3).heap.size := by simp [World.setCell]
    have t2 := hI.top
    have t3 := (hM).1.top
    have iE := (hI.fr HW.out (by omega)).widen (lo' := w.heap.size) (hi' := ((w3).setCell ⟨w.heap.size, 0, none⟩ (.slice A0 N C)).heap.size) (by omega) (by rw [es]; exact t2) (Nat.le_refl _)
    have jE := (SlM.fr hM HW.out (by omega)).widen (lo' := w.heap.size) (hi' := ((w3).setCell ⟨w.heap.size, 0, none⟩ (.slice A0 N C)).heap.size) (by omega) (by rw [es]; exact t3) (Nat.le_refl _)
    obtain ⟨u1, u2⟩ := id b2
    obtain ⟨u3, u4⟩ := id b5
    clear hI hM kw b2 b5 t2 t3
    exact bodyPost_ret (v := .tuple #[.agg #[.slice A0 N C], .slice A3 N3 C3]) (by simp [results, Try.results119, go_sem, u1, u2]) rfl ⟨_, _, _, _, _, _, _, _, rfl, iE, jE.1, KW.out⟩
  go_wp2_with fail
  refine (pick_any hc3 (by omega) (by omega)).mono ?_
  rintro e w4 ⟨x, rfl, hx, hc4, f4⟩
  have s4 := f4.size
  replace b2 := b2.fr f4 (by omega)
  replace b5 := b5.fr f4 (by omega)
  replace hI := hI.fr f4 (by omega)
  replace hM := SlM.fr hM f4 (by omega)
  replace kw : Keeps w w4 := below_fr kw kw.size (by omega) f4
  clear f4 hc3
  go_wp2_with fail
  refine (anyFrac_any hc4 (by omega)).mono ?_
  rintro e w5 ⟨p, q, rfl, hsm, hc5, f5⟩
  have s5 := f5.size
  replace b2 := b2.fr f5 (by omega)
  replace b5 := b5.fr f5 (by omega)
  replace hI := hI.fr f5 (by omega)
  replace hM := SlM.fr hM f5 (by omega)
  replace kw : Keeps w w5 := below_fr kw kw.size (by omega) f5
  clear f5 hc4 hc5
  obtain ⟨j, rfl⟩ : ∃ j : Nat, x = j := ⟨x.toNat, by omega⟩
  have hj : j < N3 := by omega
  have hj1 : (j : Int) < (N3 : Int) := by omega
  obtain ⟨bb, off, x0, y0, rfl, hlo, hhi, hc1, hc2, hxx⟩ := Fracs.at_ (SlM.sl hM) hj
  have hfz := hM.2 bb off rfl
  have hf1 := hfz (j * 2) (by omega)
  have hf2 : w5.frozen? ⟨bb, off + j * 2 + 1, none⟩ = false := hfz (j * 2 + 1) (by omega)
  have hset := FracsM.set_ hM hj p q
  rw [show off + (j * 2 + 1) = off + j * 2 + 1 from rfl] at hset
  have hms := hset.1
  have hfs := hset.2
  have s6 := hfs.size
  replace b2 := b2.fr hfs (by omega)
  replace b5 := b5.fr hfs (by omega)
  replace hI := hI.fr hfs (by omega)
  replace kw : Keeps w _ := below_fr kw kw.size (by omega) hfs
  clear hfz hset hM hx
  obtain ⟨W6, hX⟩ : ∃ u : World, u = (w5.setCell ⟨bb, off + j * 2, none⟩ (.int .i64 p)).setCell ⟨bb, off + j * 2 + 1, none⟩ (.int .i64 q) := ⟨_, rfl⟩
  rw [← hX] at b2 b5 hI hms kw s6
  clear hfs
  obtain ⟨q1, q2⟩ := id b2
  obtain ⟨q3, q4⟩ := id b5
  rw [hX] at q1 q2 q3 q4
  go_wp2_with fail
  rw [← hX]
  clear hX q1 q2 q3 q4
  have HW := hid ((Fr.refl w.heap.size (w.heap.size + 1) W6).setCell (p := ⟨w.heap.size, 0, none⟩) (Nat.le_refl _) (Nat.lt_succ_self _) (.slice A0 N C))
  have KW := hid ((show Below w.heap.size w W6 from kw).setCell (p := ⟨w.heap.size, 0, none⟩) (Nat.le_refl _) (.slice A0 N C))
  have es : ((W6).setCell ⟨w.heap.size, 0, none⟩ (.slice A0 N C)).heap.size = (W6).heap.size := by simp [World.setCell]
  have t2 := hI.top
  have t3 := (hms).1.top
  have iE := (hI.fr HW.out (by omega)).widen (lo' := w.heap.size) (hi' := ((W6).setCell ⟨w.heap.size, 0, none⟩ (.slice A0 N C)).heap.size) (by omega) (by rw [es]; exact t2) (Nat.le_refl _)
  have jE := (SlM.fr hms HW.out (by omega)).widen (lo' := w.heap.size) (hi' := ((W6).setCell ⟨w.heap.size, 0, none⟩ (.slice A0 N C)).heap.size) (by omega) (by rw [es]; exact t3) (Nat.le_refl _)
  obtain ⟨u1, u2⟩ := id b2
  obtain ⟨u3, u4⟩ := id b5
  clear hI hms kw b2 b5 t2 t3
  exact bodyPost_ret (v := .tuple #[.agg #[.slice A0 N C], .slice (some ⟨bb, off, none⟩) N3 C3]) (by simp [results, Try.results119, go_sem, u1, u2]) rfl ⟨_, _, _, _, _, _, _, _, rfl, iE, jE.1, KW.out⟩
set_option maxRecDepth 100000 in
set_option maxHeartbeats 1600000 in
theorem DrawWholeTree_any {A : Option Addr} {hi n c : Nat} {w : World} (hb : Bytes w hi A n) :
    Calls Try.prog 36 #[.slice A n c] w (DrawsAt w) := by
  have kG := keeps_alloc w (.cells #[.slice none 0 0] 53)
  have b2 : B1 (w.alloc (.cells #[.slice none 0 0] 53)) w.heap.size (.slice none 0 0) := B1.new' rfl
  have hb0 := hb.keeps kG
  have E0 := hid (show (w.alloc (.cells #[.slice none 0 0] 53)).heap.size = w.heap.size + 1 by simp)
  go_enter Try.func36, Try.ntmps36
  go_wp2_with fail
  refine (DrawIsAdditiveTree_any hb0).mono ?_
  rintro e w1 ⟨A0, N, C, xs, A3, N3, C3, l, rfl, hI, hM, k1⟩
  have s1 := k1.size
  rw [E0.out] at hI hM s1
  replace b2 := b2.keeps k1
  have kw1 : Keeps w w1 := kG.trans k1
  clear k1 kG E0 hb0
  obtain ⟨u1, u2⟩ := id b2
  have t2 := hI.top
  have t3 := Sl.top hM
  have HW := hid ((Fr.refl w.heap.size (w.heap.size + 1) w1).setCell (p := ⟨w.heap.size, 0, none⟩) (Nat.le_refl _) (Nat.lt_succ_self _) (.slice A0 N C))
  have KW := hid ((show Below w.heap.size w w1 from kw1).setCell (p := ⟨w.heap.size, 0, none⟩) (Nat.le_refl _) (.slice A0 N C))
  have es : (w1.setCell ⟨w.heap.size, 0, none⟩ (.slice A0 N C)).heap.size = w1.heap.size := by simp [World.setCell]
  have iE := (hI.fr HW.out (by omega)).widen (lo' := w.heap.size) (hi' := (w1.setCell ⟨w.heap.size, 0, none⟩ (.slice A0 N C)).heap.size) (by omega) (by rw [es]; exact t2) (Nat.le_refl _)
  have jE := (Sl.fr hM HW.out (by omega)).widen (lo' := w.heap.size) (hi' := (w1.setCell ⟨w.heap.size, 0, none⟩ (.slice A0 N C)).heap.size) (by omega) (by rw [es]; exact t3) (Nat.le_refl _)
  go_wp2_with fail
  exact bodyPost_ret (v := .tuple #[.agg #[.slice A0 N C], .slice A3 N3 C3]) (by simp [results, Try.results36, go_sem, u1, u2]) rfl ⟨_, _, _, _, _, _, _, _, rfl, iE, jE, KW.out⟩
/-- A geography, two lists of numbers and a number. -/
def DrawsLe (w : World) (e : Ending) (w' : World) : Prop := ∃ (A : Option Addr) (N C : Nat) (xs : List Int) (A1 : Option Addr) (N1 C1 : Nat) (ys : List Int) (A2 : Option Addr) (N2 C2 : Nat) (zs : List Int) (z : Int), e = .returned (.tuple #[.agg #[.slice A N C], .slice A1 N1 C1, .slice A2 N2 C2, .int .i64 z]) ∧
  Ints w' w.heap.size w'.heap.size A N xs ∧ Ints w' w.heap.size w'.heap.size A1 N1 ys ∧ Ints w' w.heap.size w'.heap.size A2 N2 zs ∧ (-1 ≤ z ∧ z ≤ 3) ∧ Keeps w w'
theorem step_amongT {W : World} {ops : Array Oper} {o : Oper} {a : Act} {K : Act → World → Prop} {Q : Exit → Act → World → Prop} {E : Prop} {g lo hi n c : Nat} {A : Option Addr} {xs : List Int} {T : Int} {R : Int → Prop}
    (hc : Cur W g T) (hT : T ≤ 999999999999999) (hx : Ints W lo hi A n xs) (hg : g < lo) (h0 : 0 < n) (hn : n ≤ 65536) (hR : ∀ j, j < n → R (xs.getD j 0)) (hgd : o.guard = none)
    (hrun : (execOp a.eval o).run Try.prog W = .ok (.enter 124 #[.pointer (some ⟨g, 0, none⟩), .slice A n c]) W)
    (h : ∀ x w', R x → Cur w' g (T + 2) → Fr g (g + 1) W w' → K (a.put o.dst (.int .i64 x)) w') :
    if Region.wanted o (yielded ops a.tmps) = true then Oper.wp Try.prog o a W K Q else E := by
  have hw : Region.wanted o (yielded ops a.tmps) = true := by simp [Region.wanted, hgd]
  rw [if_pos hw]
  unfold Oper.wp
  rw [hrun, Oper.upon_enter]
  refine (among_any hc hT hx hg h0 hn).mono fun e w' hh => ?_
  obtain ⟨x, j, rfl, hj, hx, h1, h2⟩ := hh
  exact h x w' (hx ▸ hR j hj) h1 h2
set_option maxRecDepth 100000 in
set_option maxHeartbeats 6400000 in
theorem DrawLevelError_any {A : Option Addr} {hi n c : Nat} {w : World} (hb : Bytes w hi A n) :
    Calls Try.prog 39 #[.slice A n c] w (DrawsLe w) := by
  have kG := keeps_alloc w (.cells #[.slice none 0 0] 53)
  have hc := Cur.new (t := 119) (c := c) (hb.keeps kG)
  have k0 := kG.trans (keeps_alloc (w.alloc (.cells #[.slice none 0 0] 53)) (.cells #[.slice A n c, .int .i64 0, .int .u64 0] 119))
  have b2 : B1 (w.alloc (.cells #[.slice none 0 0] 53)) w.heap.size (.slice none 0 0) := B1.new' rfl
  replace b2 := b2.keeps (keeps_alloc _ (.cells #[.slice A n c, .int .i64 0, .int .u64 0] 119))
  rw [show (w.alloc (.cells #[.slice none 0 0] 53)).heap.size = w.heap.size + 1 by simp] at hc
  have E0 := hid (show ((w.alloc (.cells #[.slice none 0 0] 53)).alloc (.cells #[.slice A n c, .int .i64 0, .int .u64 0] 119)).heap.size = w.heap.size + 2 by simp)
  clear kG
  go_enter Try.func39, Try.ntmps39
  go_wp2_with fail
  refine (noisy_any hc (by omega)).mono ?_
  rintro e w1 ⟨A0, N, C, xs, A1, N1, C1, ys, A2, N2, C2, zs, rfl, hI, hJ, hK, hN, hc1, f1⟩
  have s1 := f1.size
  rw [E0.out] at hI hJ s1
  replace b2 := b2.fr f1 (by omega)
  have kw1 : Keeps w w1 := below_fr k0 k0.size (by omega) f1
  clear hc f1 k0 E0 hK
  have kA := keeps_alloc w1 (.cells #[.slice A0 N C] 53)
  have b7 : B1 (w1.alloc (.cells #[.slice A0 N C] 53)) w1.heap.size (.slice A0 N C) := B1.new' rfl
  replace b2 := b2.keeps kA
  replace hc1 := hc1.keeps kA
  replace hI := hI.keeps kA
  replace hJ := hJ.keeps kA
  have kw := kw1.trans kA
  clear kw1 kA
  go_wp2_with fail
  go_loopw [10, 22] (fun v si wr => ∃ (k : Nat) (us : List Int), k ≤ N1 ∧ si = .int .i64 k ∧ Has wr (w1.heap.size + 1) 3 1 v k (us.map (Value.int .i64)) ∧ B1 wr w.heap.size (.slice none 0 0) ∧ B1 wr w1.heap.size (.slice A0 N C) ∧ Ints wr (w.heap.size + 2) w1.heap.size A0 N xs ∧ Ints wr (w.heap.size + 2) w1.heap.size A1 N1 ys ∧ Cur wr (w.heap.size + 1) (400 + 2 * k) ∧ Keeps w wr ∧ w1.heap.size + 1 ≤ wr.heap.size) (fun _ si _ => N1 - (intOf si).toNat)
  case atStart => exact ⟨0, [], Nat.zero_le _, rfl, World.ownsRow_nil _ _ _ _, b2, b7, hI, hJ, hc1.mono (by omega), kw, by simp⟩
  clear b2 b7 hI hJ hc1 kw
  case round =>
    obtain ⟨k, us, hk, rfl, hown, b2, b7, hI, hJ, hc2, kw2, s2⟩ := hrel
    by_cases hlt : k < N1
    · have hi1 : (k : Int) < (N1 : Int) := by omega
      go_wp2_with fail
      refine (pick_any hc2 (by omega) (by omega)).mono ?_
      rintro e w3 ⟨x, rfl, hx, hc3, f3⟩
      have hown3 := Has.fr hown f3 (by omega)
      have kw3 : Keeps w w3 := below_fr kw2 kw2.size (Nat.le_succ _) f3
      replace b2 := b2.fr f3 (by omega)
      replace b7 := b7.fr f3 (by omega)
      have hI3 := hI.fr f3 (by omega)
      have hJ3 := hJ.fr f3 (by omega)
      have s3 := f3.size
      clear hown hc2 kw2 f3 hI hJ
      go_wp2_with (at_builtin; refine append_int (xs := us) (u := x) hown3 (by omega) (by omega) _ _ rfl rfl rfl (by first | rfl | (simp <;> rfl)) ?_; intro v' w4 hown4 hb4)
      have hc4 := hc3.below hb4 (by omega)
      have kw4 : Keeps w w4 := Below.trans kw3 (hb4.mono (by omega))
      replace b2 := b2.below hb4 (by omega)
      replace b7 := b7.below hb4 (by omega)
      have hI4 := hI3.below hb4 (by omega)
      have hJ4 := hJ3.below hb4 (by omega)
      have s4 := hb4.size
      clear hown3 hb4 hc3 kw3 hI3 hJ3
      go_wp2
      go_roundw
      case rel => exact ⟨k + 1, _, by omega, by go_num, hown4, b2, b7, hI4, hJ4, hc4.mono (by omega), kw4, by omega⟩
      case measure => simp [intOf]; omega
    · obtain rfl : k = N1 := by omega
      obtain ⟨A3, C3, e1⟩ := Has.form hown
      cases e1
      have hM := (Mine.of_own hown (by omega)).1
      clear hown
      have L := lit_ints wr [0, 1, 2, 3, -1] (by decide)
      have kL := keeps_alloc wr (.cells #[.int .i64 0, .int .i64 1, .int .i64 2, .int .i64 3, .int .i64 (-1)] 3)
      have kD := keeps_d0 (wr.alloc (.cells #[.int .i64 0, .int .i64 1, .int .i64 2, .int .i64 3, .int .i64 (-1)] 3))
      have hc7 := (hc2.keeps kL).keeps kD
      have L7 := L.keeps kD
      have b67 := (b7.keeps kL).keeps kD
      have b27 := (b2.keeps kL).keeps kD
      have hI7 := (hI.keeps kL).keeps kD
      have hJ7 := (hJ.keeps kL).keeps kD
      have hM7 := (hM.keeps kL).keeps kD
      have kw7 := (kw2.trans kL).trans kD
      have b6a := b7.keeps (keeps_d0 _)
      obtain ⟨z1, z2⟩ := id b67
      obtain ⟨z3, z4⟩ := id b6a
      obtain ⟨z5, z6⟩ := id b27
      have hg7 : w.heap.size + 1 < wr.heap.size := by omega
      have hR : ∀ j, j < 5 → -1 ≤ ([0, 1, 2, 3, -1] : List Int).getD j 0 ∧ ([0, 1, 2, 3, -1] : List Int).getD j 0 ≤ 3 := fun j hj => by
        rcases j with _ | _ | _ | _ | _ | j <;> first | (simp; done) | omega
      have hT7 : (400 : Int) + 2 * (k : Int) ≤ 999999999999999 := by omega
      have hn7 : 0 < ([0, 1, 2, 3, -1] : List Int).length := by decide
      have hm7 : ([0, 1, 2, 3, -1] : List Int).length ≤ 65536 := by decide
      have o1 : w1.heap.size < w.heap.size + 1 ∨ w.heap.size + 1 + 1 ≤ w1.heap.size := by omega
      have o2 : w.heap.size < w.heap.size + 1 ∨ w.heap.size + 1 + 1 ≤ w.heap.size := by omega
      go_wp2_with fail
      go_region_law ((first | (refine step_amongT (c := 5) (R := fun z => -1 ≤ z ∧ z ≤ 3) hc7 hT7 L7 hg7 hn7 hm7 hR rfl (by kernel_rfl) ?_; intro y wB hy hcB fB; have q1 := b67.fr fB o1; have q2 := b27.fr fB o2; obtain ⟨y1, y2⟩ := id q1; obtain ⟨y3, y4⟩ := id q2)))
      all_goals (
        have iB := hI7.fr fB (by omega)
        have jB := hJ7.fr fB (by omega)
        have mB := hM7.fr fB (by omega)
        have kB : Keeps w wB := below_fr kw7 kw7.size (by omega) fB
        have sB := iB.top
        have sJ := jB.top
        have sM := mB.top
        have HW := hid ((Fr.refl w.heap.size (w.heap.size + 1) wB).setCell (p := ⟨w.heap.size, 0, none⟩) (Nat.le_refl _) (Nat.lt_succ_self _) (.slice A0 N C))
        have KW := hid (kB.setCell (p := ⟨w.heap.size, 0, none⟩) (Nat.le_refl _) (.slice A0 N C))
        have es : (wB.setCell ⟨w.heap.size, 0, none⟩ (.slice A0 N C)).heap.size = wB.heap.size := by simp [World.setCell]
        have i2 := (iB.fr HW.out (by omega)).widen (lo' := w.heap.size) (hi' := (wB.setCell ⟨w.heap.size, 0, none⟩ (.slice A0 N C)).heap.size) (by omega) (by rw [es]; exact sB) (Nat.le_refl _)
        have j2 := (jB.fr HW.out (by omega)).widen (lo' := w.heap.size) (hi' := (wB.setCell ⟨w.heap.size, 0, none⟩ (.slice A0 N C)).heap.size) (by omega) (by rw [es]; exact sJ) (Nat.le_refl _)
        have m2 := (mB.fr HW.out (by omega)).widen (lo' := w.heap.size) (hi' := (wB.setCell ⟨w.heap.size, 0, none⟩ (.slice A0 N C)).heap.size) (by omega) (by rw [es]; exact sM) (Nat.le_refl _)
        clear z1 z2 z3 z4 z5 z6 hc7 L7 b67 b27 hI7 hJ7 hM7 kw7 b6a L kL kD hc2 kw2 hI hJ hM b2 b7
        go_wp2_with fail
        exact bodyPost_ret (v := .tuple #[.agg #[.slice A0 N C], .slice A1 k C1, .slice A3 k C3, .int .i64 y]) (by simp [results, Try.results39, go_sem, y3, y4]) rfl ⟨_, _, _, _, _, _, _, _, _, _, _, _, _, rfl, i2, j2, m2, hy, KW.out⟩)
end Go.Proofs.Ytnopedjgagoahaa
