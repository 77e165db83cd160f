/- What is drawn for RowRatio, DeltaOf, PostProcess, ProductOf, BestGuess, ExpectedOutput (bounds alone). -/
import Derived.Test.YtnopedjgagoahaaDrawA
namespace Go.Proofs.Ytnopedjgagoahaa
open Go.RowKit
set_option linter.unusedVariables false
set_option linter.unusedSimpArgs false

/-- A mechanism and two numbers. -/
def DrawsX (w : World) (e : Ending) (w' : World) : Prop := ∃ A n c ll i k, e = .returned (.tuple #[.agg #[.slice A n c], .int .i64 i, .int .i64 k]) ∧ FRows w' w.heap.size w'.heap.size A n ll ∧ (-10 ≤ i ∧ i ≤ 20) ∧ (-10 ≤ k ∧ k ≤ 20) ∧ Keeps w w'
theorem wrap_add_nat (n d : Nat) (h : n ≤ 1000000 ∧ d ≤ 1000) : ∃ K : Nat, IntKind.i64.wrap ((n : Int) + (d : Int)) = K ∧ K = n + d := by
  rw [IntWalk.i64_in _ (by omega)]
  exact ⟨n + d, by omega, rfl⟩
theorem wrap_sub1 {x : Int} {K : Nat} (hx : 0 ≤ x ∧ (x < (K : Int) ∨ (K : Int) ≤ 1 ∧ x = 0)) (hK : K ≤ 12) : ∃ i : Int, IntKind.i64.wrap (x - 1) = i ∧ -1 ≤ i ∧ i ≤ 12 := by
  rw [IntWalk.i64_in _ (by omega)]
  exact ⟨x - 1, rfl, by omega, by omega⟩
theorem step_pickN {W : World} {ops : Array Oper} {o : Oper} {a : Act} {K : Act → World → Prop} {Q : Exit → Act → World → Prop} {E : Prop} {g : Nat} {T n n' : Int}
    (hc : Cur W g T) (hT : T ≤ 999999999999999) (hn : n ≤ 65536) (he : n' = n) (hgd : o.guard = none)
    (hrun : (execOp a.eval o).run Try.prog W = .ok (.enter 85 #[.pointer (some ⟨g, 0, none⟩), .int .i64 n']) W)
    (h : ∀ x w', (0 ≤ x ∧ (x < n ∨ n ≤ 1 ∧ x = 0)) → Cur w' g (T + 2) → Fr g (g + 1) W w' → K (a.put o.dst (.int .i64 x)) w') :
    if Region.wanted o (yielded ops a.tmps) = true then Oper.wp Try.prog o a W K Q else E := by
  subst he; exact step_pickM hc hT hn hgd hrun h
set_option maxRecDepth 100000 in
set_option maxHeartbeats 3200000 in
theorem DrawRowRatio_any {A : Option Addr} {hi n c : Nat} {w : World} (hb : Bytes w hi A n) :
    Calls Try.prog 95 #[.slice A n c] w (DrawsX w) := by
  have kG := keeps_alloc w (.cells #[.slice none 0 0] 25)
  have hc := Cur.new (t := 119) (c := c) (hb.keeps kG)
  have k0 := kG.trans (keeps_alloc (w.alloc (.cells #[.slice none 0 0] 25)) (.cells #[.slice A n c, .int .i64 0, .int .u64 0] 119))
  have b2 : B1 (w.alloc (.cells #[.slice none 0 0] 25)) w.heap.size (.slice none 0 0) := B1.new' rfl
  replace b2 := b2.keeps (keeps_alloc _ (.cells #[.slice A n c, .int .i64 0, .int .u64 0] 119))
  rw [show (w.alloc (.cells #[.slice none 0 0] 25)).heap.size = w.heap.size + 1 by simp] at hc
  have E0 := hid (show ((w.alloc (.cells #[.slice none 0 0] 25)).alloc (.cells #[.slice A n c, .int .i64 0, .int .u64 0] 119)).heap.size = w.heap.size + 2 by simp)
  clear kG
  go_enter Try.func95, Try.ntmps95
  go_wp2_with fail
  refine (anyMechanism_any hc (by omega)).mono ?_
  rintro e w1 ⟨A1, n1, c1, ll, rfl, fr1, hn1, hc1, f1⟩
  have s1 := f1.size
  rw [E0.out] at fr1 s1
  replace b2 := b2.fr f1 (by omega)
  have kw1 : Keeps w w1 := below_fr k0 k0.size (by omega) f1
  clear hc f1 k0 E0
  have b6 : B1 (w1.alloc (.cells #[.slice A1 n1 c1] 25)) w1.heap.size (.slice A1 n1 c1) := B1.new' rfl
  replace b2 := b2.keeps (keeps_alloc w1 (.cells #[.slice A1 n1 c1] 25))
  have hc2 := hc1.keeps (keeps_alloc w1 (.cells #[.slice A1 n1 c1] 25))
  have fr2 := fr1.keeps (keeps_alloc w1 (.cells #[.slice A1 n1 c1] 25))
  have kw2 := kw1.trans (keeps_alloc w1 (.cells #[.slice A1 n1 c1] 25))
  obtain ⟨W2, hX⟩ : ∃ u : World, u = w1.alloc (.cells #[.slice A1 n1 c1] 25) := ⟨_, rfl⟩
  have sX : W2.heap.size = w1.heap.size + 1 := by rw [hX]; simp
  clear hc1 kw1
  rw [← hX] at b6 b2 hc2 fr2 kw2
  go_wp2_with fail
  rw [← hX]
  clear hX fr1
  obtain ⟨z1, z2⟩ := id b6
  obtain ⟨K2, e2, hK2⟩ := wrap_add_nat n1 2 (by omega)
  obtain ⟨K1, e1, hK1⟩ := wrap_add_nat n1 1 (by omega)
  replace e2 := hid (show IntKind.i64.wrap ((n1 : Int) + 2) = K2 from e2)
  replace e1 := hid (show IntKind.i64.wrap ((n1 : Int) + 1) = K1 from e1)
  have b6D := b6.keeps (keeps_d0 W2)
  have b2D := b2.keeps (keeps_d0 W2)
  have hcD := hc2.keeps (keeps_d0 W2)
  have frD := fr2.keeps (keeps_d0 W2)
  have kwD := kw2.trans (keeps_d0 W2)
  have hT3 : (0 : Int) + 200 ≤ 999999999999999 := by omega
  have hT4 : (0 : Int) + 200 + 2 ≤ 999999999999999 := by omega
  have q2 : (K2 : Int) ≤ 65536 := by omega
  have q1 : (K1 : Int) ≤ 65536 := by omega
  have hK12 : K2 ≤ 12 := by omega
  have o6 : w1.heap.size < w.heap.size + 1 ∨ w.heap.size + 1 + 1 ≤ w1.heap.size := by omega
  have o2 : w.heap.size < w.heap.size + 1 ∨ w.heap.size + 1 + 1 ≤ w.heap.size := by omega
  have of : w.heap.size + 1 + 1 ≤ w.heap.size + 2 ∨ w1.heap.size ≤ w.heap.size + 1 ∨ w.heap.size + 1 + 1 ≤ w.heap.size + 1 := by omega
  clear hc2 fr2 b6 b2 kw2
  go_region_law ((first | (refine step_pickN (n := K2) (n' := IntKind.i64.wrap ((n1 : Int) + 2)) hcD hT3 q2 e2.out rfl (by kernel_rfl) ?_; intro x wB hx hcB fB; have b6B := b6D.fr fB o6; have b2B := b2D.fr fB o2; have frB := frD.fr fB of; have xi := wrap_sub1 hx hK12; obtain ⟨i, hi1, hi2⟩ := xi; obtain ⟨y1, y2⟩ := id b6B; obtain ⟨y3, y4⟩ := id b2B) | (refine step_pickN (n := K1) (n' := IntKind.i64.wrap ((n1 : Int) + 1)) hcB hT4 q1 e1.out rfl (by kernel_rfl) ?_; intro y wC hy hcC fC; have b6C := b6B.fr fC o6; have b2C := b2B.fr fC o2; have frC := frB.fr fC of; obtain ⟨y5, y6⟩ := id b6C; obtain ⟨y7, y8⟩ := id b2C)))
  all_goals (
    have kwC : Keeps w wC := below_fr (below_fr kwD kwD.size (by omega) fB) (Below.size (below_fr kwD kwD.size (by omega) fB)) (by omega) fC
    have HW := hid ((Fr.refl w.heap.size (w.heap.size + 1) wC).setCell (p := ⟨w.heap.size, 0, none⟩) (Nat.le_refl _) (Nat.lt_succ_self _) (.slice A1 n1 c1))
    have sC := fC.size
    have sB := fB.size
    have eW : W2.drew.heap.size = W2.heap.size := rfl
    have HR := hid ((frC.fr HW.out (.inl (by omega))).widen (lo' := w.heap.size) (hi' := (wC.setCell ⟨w.heap.size, 0, none⟩ (.slice A1 n1 c1)).heap.size) (by omega) (by simp [World.setCell]; omega) (Nat.le_refl _))
    have HK := hid ((show Below w.heap.size w wC from kwC).setCell (p := ⟨w.heap.size, 0, none⟩) (Nat.le_refl _) (.slice A1 n1 c1))
    clear hcD frD b6D b2D kwD z1 z2 y1 y2 y3 y4 y5 y6 b6B b2B frB hcB fB hcC fC b6C frC kwC
    go_wp2_with fail
    exact bodyPost_ret (v := .tuple #[.agg #[.slice A1 n1 c1], .int .i64 i, .int .i64 y]) (by simp [results, Try.results95, go_sem, y7, y8]) rfl ⟨_, _, _, _, _, _, rfl, HR.out, by omega, by omega, HK.out⟩)
end Go.Proofs.Ytnopedjgagoahaa

/- What is drawn for DeltaOf (bounds alone). -/
namespace Go.Proofs.Ytnopedjgagoahaa
open Go.RowKit
set_option linter.unusedVariables false
set_option linter.unusedSimpArgs false

/-- A mechanism, two numbers and a fraction. -/
def DrawsY (w : World) (e : Ending) (w' : World) : Prop := ∃ A n c ll i k p q, e = .returned (.tuple #[.agg #[.slice A n c], .int .i64 i, .int .i64 k, .agg #[.int .i64 p, .int .i64 q]]) ∧ FRows w' w.heap.size w'.heap.size A n ll ∧ (-10 ≤ i ∧ i ≤ 20) ∧ (-10 ≤ k ∧ k ≤ 20) ∧ Sm p q ∧ Keeps w w'
theorem fr_set3 {w : World} {p : Nat} (a b c : Value) : Fr p (p + 2) w (((w.setCell ⟨p, 0, none⟩ a).setCell ⟨p + 1, 0, none⟩ b).setCell ⟨p + 1, 1, none⟩ c) :=
  (((Fr.refl p (p + 2) w).setCell (p := ⟨p, 0, none⟩) (Nat.le_refl _) (by show p < p + 2; omega) a).setCell (p := ⟨p + 1, 0, none⟩) (by show p ≤ p + 1; omega) (by show p + 1 < p + 2; omega) b).setCell (p := ⟨p + 1, 1, none⟩) (by show p ≤ p + 1; omega) (by show p + 1 < p + 2; omega) c
theorem keeps_set3 {w0 w : World} (k : Keeps w0 w) (a b c : Value) : Keeps w0 (((w.setCell ⟨w0.heap.size, 0, none⟩ a).setCell ⟨w0.heap.size + 1, 0, none⟩ b).setCell ⟨w0.heap.size + 1, 1, none⟩ c) :=
  (((show Below w0.heap.size w0 w from k).setCell (p := ⟨w0.heap.size, 0, none⟩) (Nat.le_refl _) a).setCell (p := ⟨w0.heap.size + 1, 0, none⟩) (by show _ ≤ w0.heap.size + 1; omega) b).setCell (p := ⟨w0.heap.size + 1, 1, none⟩) (by show _ ≤ w0.heap.size + 1; omega) c
set_option maxRecDepth 100000 in
set_option maxHeartbeats 3200000 in
theorem DrawDeltaOf_any {A : Option Addr} {hi n c : Nat} {w : World} (hb : Bytes w hi A n) :
    Calls Try.prog 15 #[.slice A n c] w (DrawsY w) := by
  have kG := (keeps_alloc w (.cells #[.slice none 0 0] 25)).trans (keeps_alloc (w.alloc (.cells #[.slice none 0 0] 25)) (.cells #[.int .i64 0, .int .i64 0] 31))
  have hc := Cur.new (t := 119) (c := c) (hb.keeps kG)
  have k0 := kG.trans (keeps_alloc ((w.alloc (.cells #[.slice none 0 0] 25)).alloc (.cells #[.int .i64 0, .int .i64 0] 31)) (.cells #[.slice A n c, .int .i64 0, .int .u64 0] 119))
  have b2 : B1 (w.alloc (.cells #[.slice none 0 0] 25)) w.heap.size (.slice none 0 0) := B1.new' rfl
  replace b2 := (b2.keeps (keeps_alloc _ (.cells #[.int .i64 0, .int .i64 0] 31))).keeps (keeps_alloc _ (.cells #[.slice A n c, .int .i64 0, .int .u64 0] 119))
  have b5 : Bx ((w.alloc (.cells #[.slice none 0 0] 25)).alloc (.cells #[.int .i64 0, .int .i64 0] 31)) (w.heap.size + 1) 0 0 := Bx.new' (by simp)
  replace b5 := b5.keeps (keeps_alloc _ (.cells #[.slice A n c, .int .i64 0, .int .u64 0] 119))
  rw [show ((w.alloc (.cells #[.slice none 0 0] 25)).alloc (.cells #[.int .i64 0, .int .i64 0] 31)).heap.size = w.heap.size + 2 by simp] at hc
  have E0 := hid (show (((w.alloc (.cells #[.slice none 0 0] 25)).alloc (.cells #[.int .i64 0, .int .i64 0] 31)).alloc (.cells #[.slice A n c, .int .i64 0, .int .u64 0] 119)).heap.size = w.heap.size + 3 by simp)
  have hb3 := hb.keeps k0
  clear kG
  go_enter Try.func15, Try.ntmps15
  go_wp2_with fail
  refine (DrawRowRatio_any hb3).mono ?_
  rintro e w1 ⟨A1, n1, c1, ll, i, k, rfl, fr1, hi1, hk1, k1⟩
  have s1 := k1.size
  rw [E0.out] at fr1 s1
  have hc1 := hc.keeps k1
  replace b2 := b2.keeps k1
  replace b5 := b5.keeps k1
  have kw1 := k0.trans k1
  clear hc k1 k0 E0 hb3
  have b7 : B1 (w1.alloc (.cells #[.slice A1 n1 c1] 25)) w1.heap.size (.slice A1 n1 c1) := B1.new' rfl
  replace b2 := b2.keeps (keeps_alloc w1 (.cells #[.slice A1 n1 c1] 25))
  replace b5 := b5.keeps (keeps_alloc w1 (.cells #[.slice A1 n1 c1] 25))
  have hc2 := hc1.keeps (keeps_alloc w1 (.cells #[.slice A1 n1 c1] 25))
  have fr2 := fr1.keeps (keeps_alloc w1 (.cells #[.slice A1 n1 c1] 25))
  have kw2 := kw1.trans (keeps_alloc w1 (.cells #[.slice A1 n1 c1] 25))
  clear hc1 kw1 fr1
  go_wp2_with fail
  refine (one_any hc2 (by omega) (by omega)).mono ?_
  rintro e w2 ⟨b, rfl, hc3, f3⟩
  have s3 := f3.size
  simp at s3
  replace b2 := b2.fr f3 (by omega)
  replace b5 := b5.fr f3 (by omega)
  replace b7 := b7.fr f3 (by omega)
  have fr3 := fr2.fr f3 (.inl (by omega))
  have kw3 : Keeps w w2 := below_fr kw2 kw2.size (by omega) f3
  clear hc2 fr2 kw2 f3
  cases b
  · go_wp2_with fail
    refine (pick_any hc3 (by omega) (by omega)).mono ?_
    rintro e w3 ⟨x, rfl, hx, hc4, f4⟩
    replace b2 := b2.fr f4 (by omega)
    replace b5 := b5.fr f4 (by omega)
    replace b7 := b7.fr f4 (by omega)
    have fr4 := fr3.fr f4 (.inl (by omega))
    have kw4 : Keeps w w3 := below_fr kw3 kw3.size (by omega) f4
    have s4 := f4.size
    clear hc3 fr3 kw3 f4
    go_wp2_with fail
    refine (pick_any hc4 (by omega) (by omega)).mono ?_
    rintro e w4 ⟨y, rfl, hy, hc5, f5⟩
    replace b2 := b2.fr f5 (by omega)
    replace b5 := b5.fr f5 (by omega)
    replace b7 := b7.fr f5 (by omega)
    have fr5 := fr4.fr f5 (.inl (by omega))
    have kw5 : Keeps w w4 := below_fr kw4 kw4.size (by omega) f5
    have s5 := f5.size
    clear hc4 fr4 kw4 f5 hc5
    go_wp2_with fail
    obtain ⟨r1, r2, r3, HS⟩ : ∃ r1 r2 r3, Hid (mkF (1 + x) (1 + y) = (r1, r2, r3)) := ⟨_, _, _, rfl⟩
    have hsm := mkF_sm (1 + x) (1 + y)
    rw [HS.out] at hsm
    refine (fMake_any (n := 1 + x) (d := 1 + y) (by omega) (by omega)).mono ?_
    rintro e w5 ⟨rfl, k6⟩
    rw [HS.out]
    have k7 := k6.trans (keeps_alloc w5 (.cells #[.int .i64 r1, .int .i64 r2] 31))
    replace b2 := b2.keeps k7
    replace b5 := b5.keeps k7
    replace b7 := b7.keeps k7
    have fr6 := fr5.keeps k7
    have kw6 := kw5.trans k7
    have b10 : Bx (w5.alloc (.cells #[.int .i64 r1, .int .i64 r2] 31)) w5.heap.size r1 r2 := Bx.new' (by simp)
    have s6 := k7.size
    have s6' := k6.size
    obtain ⟨W, hX⟩ : ∃ u : World, u = w5.alloc (.cells #[.int .i64 r1, .int .i64 r2] 31) := ⟨_, rfl⟩
    clear fr5 kw5 k6 k7 HS
    rw [← hX] at b2 b5 b7 fr6 kw6 b10 s6
    go_wp2_with fail
    rw [← hX]
    clear hX
    obtain ⟨z1, z2⟩ := id b2
    obtain ⟨z3, z4, z5, z6⟩ := id b5
    obtain ⟨z7, z8⟩ := id b7
    obtain ⟨z9, z10, _, _⟩ := id b10
    have frD := fr6.keeps (keeps_d0 W)
    have kwD := kw6.trans (keeps_d0 W)
    have HF := hid (fr_set3 (w := W.drew) (p := w.heap.size) (.slice A1 n1 c1) (.int .i64 r1) (.int .i64 r2))
    have HK := hid (keeps_set3 kwD (.slice A1 n1 c1) (.int .i64 r1) (.int .i64 r2))
    have eW : W.drew.heap.size = W.heap.size := rfl
    have HR := hid ((frD.fr HF.out (.inl (by omega))).widen (lo' := w.heap.size) (hi' := (((W.drew.setCell ⟨w.heap.size, 0, none⟩ (.slice A1 n1 c1)).setCell ⟨w.heap.size + 1, 0, none⟩ (.int .i64 r1)).setCell ⟨w.heap.size + 1, 1, none⟩ (.int .i64 r2)).heap.size) (by omega) (by simp [World.setCell]; omega) (Nat.le_refl _))
    have n1_ : w5.heap.size ≠ w.heap.size := by omega
    have n2_ : w5.heap.size ≠ w.heap.size + 1 := by omega
    have n3_ : w1.heap.size ≠ w.heap.size := by omega
    have n4_ : w1.heap.size ≠ w.heap.size + 1 := by omega
    have n5_ : w.heap.size ≠ w.heap.size + 1 := by omega
    have n6_ : w.heap.size + 1 ≠ w.heap.size := by omega
    clear frD kwD fr6 kw6 b2 b5 b7 b10
    go_region
    all_goals (
      go_wp2_with fail
      exact bodyPost_ret (v := .tuple #[.agg #[.slice A1 n1 c1], .int .i64 i, .int .i64 k, .agg #[.int .i64 r1, .int .i64 r2]]) (by simp [results, Try.results15, go_sem, z1, z2, z3, z4, z5, z6]) rfl ⟨_, _, _, _, _, _, _, _, rfl, HR.out, hi1, hk1, hsm, HK.out⟩)
  · obtain ⟨z7, z8⟩ := id b7
    have hcD := hc3.keeps (keeps_d0 w2)
    have frD := fr3.keeps (keeps_d0 w2)
    have kwD := kw3.trans (keeps_d0 w2)
    have b2D := b2.keeps (keeps_d0 w2)
    have b5D := b5.keeps (keeps_d0 w2)
    have b7D := b7.keeps (keeps_d0 w2)
    have hT3 : (0 : Int) + 2 ≤ 900000000000000 := by omega
    have o7 : w1.heap.size < w.heap.size + 2 ∨ w.heap.size + 2 + 1 ≤ w1.heap.size := by omega
    have o2 : w.heap.size < w.heap.size + 2 ∨ w.heap.size + 2 + 1 ≤ w.heap.size := by omega
    have o5 : w.heap.size + 1 < w.heap.size + 2 ∨ w.heap.size + 2 + 1 ≤ w.heap.size + 1 := by omega
    have of : w.heap.size + 2 + 1 ≤ w.heap.size + 3 ∨ w1.heap.size ≤ w.heap.size + 2 ∨ w.heap.size + 2 + 1 ≤ w.heap.size + 2 := by omega
    have eW : w2.drew.heap.size = w2.heap.size := rfl
    clear hc3 fr3 kw3 b2 b5 b7
    go_wp2_with fail
    go_region_law ((first | (refine step_anyFrac hcD hT3 rfl (by kernel_rfl) ?_; intro p q wB sm hcB fB; have b2B := b2D.fr fB o2; have b5B := b5D.fr fB o5; have b7B := b7D.fr fB o7; have frB := frD.fr fB of; obtain ⟨y1, y2⟩ := id b2B; obtain ⟨y3, y4, y5, y6⟩ := id b5B; obtain ⟨y7, y8⟩ := id b7B)))
    all_goals (
      have kwB : Keeps w wB := below_fr kwD kwD.size (by omega) fB
      have sB := fB.size
      have HF := hid (fr_set3 (w := wB) (p := w.heap.size) (.slice A1 n1 c1) (.int .i64 p) (.int .i64 q))
      have HK := hid (keeps_set3 kwB (.slice A1 n1 c1) (.int .i64 p) (.int .i64 q))
      have HR := hid ((frB.fr HF.out (.inl (by omega))).widen (lo' := w.heap.size) (hi' := (((wB.setCell ⟨w.heap.size, 0, none⟩ (.slice A1 n1 c1)).setCell ⟨w.heap.size + 1, 0, none⟩ (.int .i64 p)).setCell ⟨w.heap.size + 1, 1, none⟩ (.int .i64 q)).heap.size) (by omega) (by simp [World.setCell]; omega) (Nat.le_refl _))
      clear hcD frD kwD b2D b5D b7D b2B b5B b7B frB kwB hcB fB z7 z8 y7 y8
      go_wp2_with fail
      exact bodyPost_ret (v := .tuple #[.agg #[.slice A1 n1 c1], .int .i64 i, .int .i64 k, .agg #[.int .i64 p, .int .i64 q]]) (by simp [results, Try.results15, go_sem, y1, y2, y3, y4, y5, y6]) rfl ⟨_, _, _, _, _, _, _, _, rfl, HR.out, hi1, hk1, sm, HK.out⟩)
end Go.Proofs.Ytnopedjgagoahaa

