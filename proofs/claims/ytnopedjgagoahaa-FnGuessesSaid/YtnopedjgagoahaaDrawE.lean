/- What is drawn for ExpectedOutput and BestGuess (bounds alone). -/
import Derived.Test.YtnopedjgagoahaaKJ
namespace Go.Proofs.Ytnopedjgagoahaa
open Go.RowKit
set_option linter.unusedVariables false
set_option linter.unusedSimpArgs false

/-- A mechanism and a number. -/
def DrawsXE (w : World) (e : Ending) (w' : World) : Prop := ∃ A n c ll i, e = .returned (.tuple #[.agg #[.slice A n c], .int .i64 i]) ∧ FRows w' w.heap.size w'.heap.size A n ll ∧ (-10 ≤ i ∧ i ≤ 20) ∧ Keeps w w'
/-- A mechanism and a list of fractions. -/
def DrawsXG (w : World) (e : Ending) (w' : World) : Prop := ∃ A n c ll A' n' c' l, e = .returned (.tuple #[.agg #[.slice A n c], .slice A' n' c']) ∧ FRows w' w.heap.size w'.heap.size A n ll ∧ Fracs w' w.heap.size w'.heap.size A' n' l ∧ Keeps w w'
theorem Has.fracsE {w : World} {B n c : Nat} {A : Option Addr} {l : List (Int × Int)} (h : Has w B 31 2 (.slice A n c) n (frs l)) (hs : n ≤ 67108864) : Fracs w B w.heap.size A n l := (SlM.of_own h hs (by omega)).1
set_option maxRecDepth 100000 in
set_option maxHeartbeats 3200000 in
theorem DrawExpectedOutput_any {A : Option Addr} {hi n c : Nat} {w : World} (hb : Bytes w hi A n) :
    Calls Try.prog 29 #[.slice A n c] w (DrawsXE w) := by
  have b2 : B1 (w.alloc (.cells #[.slice none 0 0] 25)) w.heap.size (.slice none 0 0) := B1.new' rfl
  have k0 := keeps_alloc w (.cells #[.slice none 0 0] 25)
  go_enter Try.func29, Try.ntmps29
  go_wp2_with fail
  refine (DrawRowRatio_any (hb.keeps k0)).mono ?_
  rintro e w1 ⟨A1, n1, c1, ll, i, k, rfl, fr1, hi1, hk1, k1⟩
  have s1 := k1.size
  simp at s1
  replace fr1 := fr1.widen (lo' := w.heap.size + 1) (by simp) (Nat.le_refl _) (Nat.le_refl _)
  replace b2 := b2.keeps k1
  have kw := k0.trans k1
  clear k0 k1
  have b4 : B1 (w1.alloc (.cells #[.slice A1 n1 c1] 25)) w1.heap.size (.slice A1 n1 c1) := B1.new' rfl
  replace b2 := b2.keeps (keeps_alloc w1 (.cells #[.slice A1 n1 c1] 25))
  replace fr1 := fr1.keeps (keeps_alloc w1 (.cells #[.slice A1 n1 c1] 25))
  replace kw := kw.trans (keeps_alloc w1 (.cells #[.slice A1 n1 c1] 25))
  obtain ⟨W2, hX⟩ : ∃ u : World, u = w1.alloc (.cells #[.slice A1 n1 c1] 25) := ⟨_, rfl⟩
  have sX : W2.heap.size = w1.heap.size + 1 := by rw [hX]; simp
  rw [← hX] at b4 b2 fr1 kw
  have HW := hid ((Fr.refl w.heap.size (w.heap.size + 1) W2).setCell (p := ⟨w.heap.size, 0, none⟩) (Nat.le_refl _) (Nat.lt_succ_self _) (.slice A1 n1 c1))
  have HR := hid ((fr1.fr HW.out (.inl (by omega))).widen (lo' := w.heap.size) (hi' := (W2.setCell ⟨w.heap.size, 0, none⟩ (.slice A1 n1 c1)).heap.size) (by omega) (by simp [World.setCell]; omega) (Nat.le_refl _))
  have HK := hid ((show Below w.heap.size w W2 from kw).setCell (p := ⟨w.heap.size, 0, none⟩) (Nat.le_refl _) (.slice A1 n1 c1))
  obtain ⟨z1, z2⟩ := id b2
  obtain ⟨z3, z4⟩ := id b4
  rw [hX] at z1 z2 z3 z4
  clear fr1 kw b2 b4
  go_wp2_with fail
  rw [← hX]
  rw [← hX] at z1 z2 z3 z4
  clear hX
  exact bodyPost_ret (v := .tuple #[.agg #[.slice A1 n1 c1], .int .i64 i]) (by simp [results, Try.results29, go_sem, z1]) rfl ⟨_, _, _, _, _, rfl, HR.out, hi1, HK.out⟩
set_option maxRecDepth 100000 in
set_option maxHeartbeats 3200000 in
theorem DrawBestGuess_any {A : Option Addr} {hi n c : Nat} {w : World} (hb : Bytes w hi A n) :
    Calls Try.prog 23 #[.slice A n c] w (DrawsXG w) := by
  have kG := keeps_alloc w (.cells #[.slice none 0 0] 25)
  have hc := Cur.new (t := 119) (c := c) (hb.keeps kG)
  have k0 := kG.trans (keeps_alloc (w.alloc (.cells #[.slice none 0 0] 25)) (.cells #[.slice A n c, .int .i64 0, .int .u64 0] 119))
  have b2 : B1 (w.alloc (.cells #[.slice none 0 0] 25)) w.heap.size (.slice none 0 0) := B1.new' rfl
  replace b2 := b2.keeps (keeps_alloc _ (.cells #[.slice A n c, .int .i64 0, .int .u64 0] 119))
  rw [show (w.alloc (.cells #[.slice none 0 0] 25)).heap.size = w.heap.size + 1 by simp] at hc
  have E0 := hid (show ((w.alloc (.cells #[.slice none 0 0] 25)).alloc (.cells #[.slice A n c, .int .i64 0, .int .u64 0] 119)).heap.size = w.heap.size + 2 by simp)
  clear kG
  go_enter Try.func23, Try.ntmps23
  go_wp2_with fail
  refine (anyMechanism_any hc (by omega)).mono ?_
  rintro e w1 ⟨A1, n1, c1, ll, rfl, fr1, hn1, hc1, f1⟩
  have s1 := f1.size
  rw [E0.out] at fr1 s1
  replace b2 := b2.fr f1 (by omega)
  have kw1 : Keeps w w1 := below_fr k0 k0.size (by omega) f1
  clear hc f1 k0 E0
  have b5 : B1 (w1.alloc (.cells #[.slice A1 n1 c1] 25)) w1.heap.size (.slice A1 n1 c1) := B1.new' rfl
  replace b2 := b2.keeps (keeps_alloc w1 (.cells #[.slice A1 n1 c1] 25))
  have hc2 := hc1.keeps (keeps_alloc w1 (.cells #[.slice A1 n1 c1] 25))
  have fr2 := fr1.keeps (keeps_alloc w1 (.cells #[.slice A1 n1 c1] 25))
  have kw2 := kw1.trans (keeps_alloc w1 (.cells #[.slice A1 n1 c1] 25))
  obtain ⟨W2, hX⟩ : ∃ u : World, u = w1.alloc (.cells #[.slice A1 n1 c1] 25) := ⟨_, rfl⟩
  have sX : W2.heap.size = w1.heap.size + 1 := by rw [hX]; simp
  clear hc1 kw1 fr1
  rw [← hX] at b5 b2 hc2 fr2 kw2
  have hh2 := hX
  clear hX
  by_cases h0 : n1 = 0
  · subst h0
    obtain ⟨q7, q8⟩ := id b5
    rw [hh2] at q7 q8
    go_wp2_with fail
    rw [← hh2]
    rw [← hh2] at q7 q8
    clear hh2 q7 q8
    obtain ⟨z7, z8⟩ := id b5
    have hcD := (hc2).keeps (keeps_d0 W2)
    have frD := (fr2).keeps (keeps_d0 W2)
    have kwD := (kw2).trans (keeps_d0 W2)
    have b2D := b2.keeps (keeps_d0 W2)
    have b5D := (b5).keeps (keeps_d0 W2)
    have hT3 : (500 : Int) ≤ 900000000000000 := by omega
    have o7 : w1.heap.size < w.heap.size + 1 ∨ w.heap.size + 1 + 1 ≤ w1.heap.size := by omega
    have o2 : w.heap.size < w.heap.size + 1 ∨ w.heap.size + 1 + 1 ≤ w.heap.size := by omega
    have of : w.heap.size + 1 + 1 ≤ w.heap.size + 2 ∨ w1.heap.size ≤ w.heap.size + 1 ∨ w.heap.size + 1 + 1 ≤ w.heap.size + 1 := by omega
    have eW : (W2).drew.heap.size = (W2).heap.size := rfl
    clear hc2 fr2 kw2 b5 b2
    go_wp2_with fail
    go_region_law ((first | (refine step_dist (n := 2) (T := 500) (hcD.mono (by omega)) hT3 (by omega) rfl (by kernel_rfl) ?_; intro A5 c5 l5 wB hro hl5 hcB fB; have b2B := b2D.fr fB o2; have b5B := b5D.fr fB o7; have frB := frD.fr fB of; obtain ⟨y1, y2⟩ := id b2B; obtain ⟨y7, y8⟩ := id b5B)))
    all_goals (
      have kwB : Keeps w wB := below_fr kwD kwD.size (by omega) fB
      have sB := fB.size
      have HW := hid ((Fr.refl w.heap.size (w.heap.size + 1) wB).setCell (p := ⟨w.heap.size, 0, none⟩) (Nat.le_refl _) (Nat.lt_succ_self _) (.slice A1 0 c1))
      have HK := hid ((show Below w.heap.size w wB from kwB).setCell (p := ⟨w.heap.size, 0, none⟩) (Nat.le_refl _) (.slice A1 0 c1))
      have HR := hid ((frB.fr HW.out (.inl (by omega))).widen (lo' := w.heap.size) (hi' := (wB.setCell ⟨w.heap.size, 0, none⟩ (.slice A1 0 c1)).heap.size) (by omega) (by simp [World.setCell]; omega) (Nat.le_refl _))
      have HS := hid ((Sl.fr (Has.fracsE hro (by omega)) HW.out (by omega)).widen (lo' := w.heap.size) (hi' := (wB.setCell ⟨w.heap.size, 0, none⟩ (.slice A1 0 c1)).heap.size) (by omega) (by simp [World.setCell]) (Nat.le_refl _))
      clear hcD frD kwD b2D b5D b2B b5B frB hro kwB fB z7 z8 y7 y8
      go_wp2_with fail
      exact bodyPost_ret (v := .tuple #[.agg #[.slice A1 0 c1], .slice A5 2 c5]) (by simp [results, Try.results23, go_sem, y1, y2]) rfl ⟨_, _, _, _, _, _, _, _, rfl, HR.out, HS.out, HK.out⟩)
  have t0 : ((n1 : Int) == 0) = false := by rw [beq_eq_false_iff_ne]; omega
  obtain ⟨q7, q8⟩ := id b5
  rw [hh2] at q7 q8
  go_wp2_with fail
  rw [← hh2]
  rw [← hh2] at q7 q8
  clear hh2
  refine (one_any hc2 (by omega) (by omega)).mono ?_
  rintro e w2 ⟨b, rfl, hc3, f3⟩
  have s3 := f3.size
  replace b2 := b2.fr f3 (by omega)
  replace b5 := b5.fr f3 (by omega)
  have fr3 := fr2.fr f3 (.inl (by omega))
  have kw3 : Keeps w w2 := below_fr kw2 kw2.size (by omega) f3
  clear hc2 fr2 kw2 f3 q7 q8
  cases b
  · obtain ⟨z7, z8⟩ := id b5
    have hcD := (hc3).keeps (keeps_d0 w2)
    have frD := (fr3).keeps (keeps_d0 w2)
    have kwD := (kw3).trans (keeps_d0 w2)
    have b2D := b2.keeps (keeps_d0 w2)
    have b5D := (b5).keeps (keeps_d0 w2)
    have hT3 : (500 : Int) ≤ 900000000000000 := by omega
    have o7 : w1.heap.size < w.heap.size + 1 ∨ w.heap.size + 1 + 1 ≤ w1.heap.size := by omega
    have o2 : w.heap.size < w.heap.size + 1 ∨ w.heap.size + 1 + 1 ≤ w.heap.size := by omega
    have of : w.heap.size + 1 + 1 ≤ w.heap.size + 2 ∨ w1.heap.size ≤ w.heap.size + 1 ∨ w.heap.size + 1 + 1 ≤ w.heap.size + 1 := by omega
    have eW : (w2).drew.heap.size = (w2).heap.size := rfl
    clear hc3 fr3 kw3 b5 b2
    go_wp2_with fail
    go_region_law ((first | (refine step_dist (n := n1) (T := 500) (hcD.mono (by omega)) hT3 (by omega) rfl (by kernel_rfl) ?_; intro A5 c5 l5 wB hro hl5 hcB fB; have b2B := b2D.fr fB o2; have b5B := b5D.fr fB o7; have frB := frD.fr fB of; obtain ⟨y1, y2⟩ := id b2B; obtain ⟨y7, y8⟩ := id b5B)))
    all_goals (
      have kwB : Keeps w wB := below_fr kwD kwD.size (by omega) fB
      have sB := fB.size
      have HW := hid ((Fr.refl w.heap.size (w.heap.size + 1) wB).setCell (p := ⟨w.heap.size, 0, none⟩) (Nat.le_refl _) (Nat.lt_succ_self _) (.slice A1 n1 c1))
      have HK := hid ((show Below w.heap.size w wB from kwB).setCell (p := ⟨w.heap.size, 0, none⟩) (Nat.le_refl _) (.slice A1 n1 c1))
      have HR := hid ((frB.fr HW.out (.inl (by omega))).widen (lo' := w.heap.size) (hi' := (wB.setCell ⟨w.heap.size, 0, none⟩ (.slice A1 n1 c1)).heap.size) (by omega) (by simp [World.setCell]; omega) (Nat.le_refl _))
      have HS := hid ((Sl.fr (Has.fracsE hro (by omega)) HW.out (by omega)).widen (lo' := w.heap.size) (hi' := (wB.setCell ⟨w.heap.size, 0, none⟩ (.slice A1 n1 c1)).heap.size) (by omega) (by simp [World.setCell]) (Nat.le_refl _))
      clear hcD frD kwD b2D b5D b2B b5B frB hro kwB fB z7 z8 y7 y8
      go_wp2_with fail
      exact bodyPost_ret (v := .tuple #[.agg #[.slice A1 n1 c1], .slice A5 n1 c5]) (by simp [results, Try.results23, go_sem, y1, y2]) rfl ⟨_, _, _, _, _, _, _, _, rfl, HR.out, HS.out, HK.out⟩)
  · obtain ⟨z7, z8⟩ := id b5
    have hcD := (hc3).keeps (keeps_d0 w2)
    have frD := (fr3).keeps (keeps_d0 w2)
    have kwD := (kw3).trans (keeps_d0 w2)
    have b2D := b2.keeps (keeps_d0 w2)
    have b5D := (b5).keeps (keeps_d0 w2)
    have hT3 : (500 : Int) ≤ 900000000000000 := by omega
    have o7 : w1.heap.size < w.heap.size + 1 ∨ w.heap.size + 1 + 1 ≤ w1.heap.size := by omega
    have o2 : w.heap.size < w.heap.size + 1 ∨ w.heap.size + 1 + 1 ≤ w.heap.size := by omega
    have of : w.heap.size + 1 + 1 ≤ w.heap.size + 2 ∨ w1.heap.size ≤ w.heap.size + 1 ∨ w.heap.size + 1 + 1 ≤ w.heap.size + 1 := by omega
    have eW : (w2).drew.heap.size = (w2).heap.size := rfl
    clear hc3 fr3 kw3 b5 b2
    go_wp2_with fail
    go_region_law ((first | (refine step_dist (n := 2) (T := 500) (hcD.mono (by omega)) hT3 (by omega) rfl (by kernel_rfl) ?_; intro A5 c5 l5 wB hro hl5 hcB fB; have b2B := b2D.fr fB o2; have b5B := b5D.fr fB o7; have frB := frD.fr fB of; obtain ⟨y1, y2⟩ := id b2B; obtain ⟨y7, y8⟩ := id b5B)))
    all_goals (
      have kwB : Keeps w wB := below_fr kwD kwD.size (by omega) fB
      have sB := fB.size
      have HW := hid ((Fr.refl w.heap.size (w.heap.size + 1) wB).setCell (p := ⟨w.heap.size, 0, none⟩) (Nat.le_refl _) (Nat.lt_succ_self _) (.slice A1 n1 c1))
      have HK := hid ((show Below w.heap.size w wB from kwB).setCell (p := ⟨w.heap.size, 0, none⟩) (Nat.le_refl _) (.slice A1 n1 c1))
      have HR := hid ((frB.fr HW.out (.inl (by omega))).widen (lo' := w.heap.size) (hi' := (wB.setCell ⟨w.heap.size, 0, none⟩ (.slice A1 n1 c1)).heap.size) (by omega) (by simp [World.setCell]; omega) (Nat.le_refl _))
      have HS := hid ((Sl.fr (Has.fracsE hro (by omega)) HW.out (by omega)).widen (lo' := w.heap.size) (hi' := (wB.setCell ⟨w.heap.size, 0, none⟩ (.slice A1 n1 c1)).heap.size) (by omega) (by simp [World.setCell]) (Nat.le_refl _))
      clear hcD frD kwD b2D b5D b2B b5B frB hro kwB fB z7 z8 y7 y8
      go_wp2_with fail
      exact bodyPost_ret (v := .tuple #[.agg #[.slice A1 n1 c1], .slice A5 2 c5]) (by simp [results, Try.results23, go_sem, y1, y2]) rfl ⟨_, _, _, _, _, _, _, _, rfl, HR.out, HS.out, HK.out⟩)
end Go.Proofs.Ytnopedjgagoahaa
