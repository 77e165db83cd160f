/- What is drawn for PostProcess and ProductOf (bounds alone). -/
import Derived.Test.YtnopedjgagoahaaDrawA
namespace Go.Proofs.Ytnopedjgagoahaa
open Go.RowKit
set_option linter.unusedVariables false
set_option linter.unusedSimpArgs false

/-- Two mechanisms. -/
def DrawsZ (w : World) (e : Ending) (w' : World) : Prop := ∃ A n c ll A' n' c' tt, e = .returned (.tuple #[.agg #[.slice A n c], .agg #[.slice A' n' c']]) ∧ FRows w' w.heap.size w'.heap.size A n ll ∧ FRows w' w.heap.size w'.heap.size A' n' tt ∧ Keeps w w'
theorem fr_set11 {w : World} {p : Nat} (a b : Value) : Fr p (p + 2) w ((w.setCell ⟨p, 0, none⟩ a).setCell ⟨p + 1, 0, none⟩ b) :=
  ((Fr.refl p (p + 2) w).setCell (p := ⟨p, 0, none⟩) (Nat.le_refl _) (by show p < p + 2; omega) a).setCell (p := ⟨p + 1, 0, none⟩) (by show p ≤ p + 1; omega) (by show p + 1 < p + 2; omega) b
theorem keeps_set11 {w0 w : World} (k : Keeps w0 w) (a b : Value) : Keeps w0 ((w.setCell ⟨w0.heap.size, 0, none⟩ a).setCell ⟨w0.heap.size + 1, 0, none⟩ b) :=
  ((show Below w0.heap.size w0 w from k).setCell (p := ⟨w0.heap.size, 0, none⟩) (Nat.le_refl _) a).setCell (p := ⟨w0.heap.size + 1, 0, none⟩) (by show _ ≤ w0.heap.size + 1; omega) b
theorem step_anyMech {W : World} {ops : Array Oper} {o : Oper} {a : Act} {K : Act → World → Prop} {Q : Exit → Act → World → Prop} {E : Prop} {g : Nat} {T : Int}
    (hc : Cur W g T) (hT : T ≤ 700000000000000) (hgd : o.guard = none)
    (hrun : (execOp a.eval o).run Try.prog W = .ok (.enter 83 #[.pointer (some ⟨g, 0, none⟩)]) W)
    (h : ∀ A n c ll w', FRows w' W.heap.size w'.heap.size A n ll → Fr g (g + 1) W w' → K (a.put o.dst (.agg #[.slice A n c])) w') :
    if Region.wanted o (yielded ops a.tmps) = true then Oper.wp Try.prog o a W K Q else E := by
  have hw : Region.wanted o (yielded ops a.tmps) = true := by simp [Region.wanted, hgd]
  rw [if_pos hw]
  unfold Oper.wp
  rw [hrun, Oper.upon_enter]
  refine (anyMechanism_any hc hT).mono fun e w' hh => ?_
  obtain ⟨A, n, c, ll, rfl, h1, h2, h3, h4⟩ := hh
  exact h A n c ll w' h1 h4
theorem Fr.of_below {B : Nat} {w w' : World} (k : Below B w w') : Fr B w.heap.size w w' := ⟨k.os, k.tape, k.output, k.size, fun i hi ho => k.block i (by omega)⟩
set_option maxRecDepth 100000 in
set_option maxHeartbeats 3200000 in
theorem DrawPostProcess_any {A : Option Addr} {hi n c : Nat} {w : World} (hb : Bytes w hi A n) :
    Calls Try.prog 12 #[.slice A n c] w (DrawsZ w) := by
  have kG := (keeps_alloc w (.cells #[.slice none 0 0] 25)).trans (keeps_alloc (w.alloc (.cells #[.slice none 0 0] 25)) (.cells #[.slice none 0 0] 25))
  have hc := Cur.new (t := 119) (c := c) (hb.keeps kG)
  have k0 := kG.trans (keeps_alloc ((w.alloc (.cells #[.slice none 0 0] 25)).alloc (.cells #[.slice none 0 0] 25)) (.cells #[.slice A n c, .int .i64 0, .int .u64 0] 119))
  have b2 : B1 (w.alloc (.cells #[.slice none 0 0] 25)) w.heap.size (.slice none 0 0) := B1.new' rfl
  replace b2 := (b2.keeps (keeps_alloc _ (.cells #[.slice none 0 0] 25))).keeps (keeps_alloc _ (.cells #[.slice A n c, .int .i64 0, .int .u64 0] 119))
  have b3 : B1 ((w.alloc (.cells #[.slice none 0 0] 25)).alloc (.cells #[.slice none 0 0] 25)) (w.heap.size + 1) (.slice none 0 0) := B1.new' (by simp)
  replace b3 := b3.keeps (keeps_alloc _ (.cells #[.slice A n c, .int .i64 0, .int .u64 0] 119))
  rw [show ((w.alloc (.cells #[.slice none 0 0] 25)).alloc (.cells #[.slice none 0 0] 25)).heap.size = w.heap.size + 2 by simp] at hc
  have E0 := hid (show (((w.alloc (.cells #[.slice none 0 0] 25)).alloc (.cells #[.slice none 0 0] 25)).alloc (.cells #[.slice A n c, .int .i64 0, .int .u64 0] 119)).heap.size = w.heap.size + 3 by simp)
  clear kG
  go_enter Try.func12, Try.ntmps12
  go_wp2_with fail
  refine (anyMechanism_any hc (by omega)).mono ?_
  rintro e w1 ⟨A1, n1, c1, ll, rfl, fr1, hn1, hc1, f1⟩
  have s1 := f1.size
  rw [E0.out] at fr1 s1
  replace b2 := b2.fr f1 (by omega)
  replace b3 := b3.fr f1 (by omega)
  have kw1 : Keeps w w1 := below_fr k0 k0.size (by omega) f1
  clear hc f1 k0 E0
  have b5 : B1 (w1.alloc (.cells #[.slice A1 n1 c1] 25)) w1.heap.size (.slice A1 n1 c1) := B1.new' rfl
  replace b2 := b2.keeps (keeps_alloc w1 (.cells #[.slice A1 n1 c1] 25))
  replace b3 := b3.keeps (keeps_alloc w1 (.cells #[.slice A1 n1 c1] 25))
  have hc2 := hc1.keeps (keeps_alloc w1 (.cells #[.slice A1 n1 c1] 25))
  have fr2 := fr1.keeps (keeps_alloc w1 (.cells #[.slice A1 n1 c1] 25))
  have kw2 := kw1.trans (keeps_alloc w1 (.cells #[.slice A1 n1 c1] 25))
  obtain ⟨W2, hX⟩ : ∃ u : World, u = w1.alloc (.cells #[.slice A1 n1 c1] 25) := ⟨_, rfl⟩
  have sX : W2.heap.size = w1.heap.size + 1 := by rw [hX]; simp
  clear hc1 kw1 fr1
  rw [← hX] at b5 b2 b3 hc2 fr2 kw2
  have hh2 := hX
  clear hX
  by_cases h0 : n1 = 0
  · subst h0
    obtain ⟨q7, q8⟩ := id b5
    rw [hh2] at q7 q8
    go_wp2_with fail
    rw [← hh2]
    rw [← hh2] at q7 q8
    clear hh2 q7 q8
    obtain ⟨z7, z8⟩ := id b5
    have hcD := (hc2).keeps (keeps_d0 W2)
    have frD := (fr2).keeps (keeps_d0 W2)
    have kwD := (kw2).trans (keeps_d0 W2)
    have b2D := b2.keeps (keeps_d0 W2)
    have b3D := b3.keeps (keeps_d0 W2)
    have b5D := (b5).keeps (keeps_d0 W2)
    have hT3 : (0 : Int) + 200 + 2 ≤ 700000000000000 := by omega
    have o7 : w1.heap.size < w.heap.size + 2 ∨ w.heap.size + 2 + 1 ≤ w1.heap.size := by omega
    have o2 : w.heap.size < w.heap.size + 2 ∨ w.heap.size + 2 + 1 ≤ w.heap.size := by omega
    have o3 : w.heap.size + 1 < w.heap.size + 2 ∨ w.heap.size + 2 + 1 ≤ w.heap.size + 1 := by omega
    have of : w.heap.size + 2 + 1 ≤ w.heap.size + 3 ∨ w1.heap.size ≤ w.heap.size + 2 ∨ w.heap.size + 2 + 1 ≤ w.heap.size + 2 := by omega
    have eW : (W2).drew.heap.size = (W2).heap.size := rfl
    clear hc2 fr2 kw2 b5 b2 b3
    go_wp2_with fail
    go_region_law ((first | (refine step_anyMech (T := 0 + 200 + 2) (hcD.mono (by omega)) hT3 rfl (by kernel_rfl) ?_; intro A5 n5 c5 tt wB frE fB; have b2B := b2D.fr fB o2; have b3B := b3D.fr fB o3; have b5B := b5D.fr fB o7; have frB := frD.fr fB of; obtain ⟨y1, y2⟩ := id b2B; obtain ⟨y3, y4⟩ := id b3B; obtain ⟨y7, y8⟩ := id b5B)))
    all_goals (
      have kwB : Keeps w wB := below_fr kwD kwD.size (by omega) fB
      have sB := fB.size
      have HF := hid (fr_set11 (w := wB) (p := w.heap.size) (.slice A1 0 c1) (.slice A5 n5 c5))
      have HK := hid (keeps_set11 kwB (.slice A1 0 c1) (.slice A5 n5 c5))
      have HR := hid ((frB.fr HF.out (.inl (by omega))).widen (lo' := w.heap.size) (hi' := ((wB.setCell ⟨w.heap.size, 0, none⟩ (.slice A1 0 c1)).setCell ⟨w.heap.size + 1, 0, none⟩ (.slice A5 n5 c5)).heap.size) (by omega) (by simp [World.setCell]; omega) (Nat.le_refl _))
      have HS := hid ((frE.fr HF.out (.inl (by omega))).widen (lo' := w.heap.size) (hi' := ((wB.setCell ⟨w.heap.size, 0, none⟩ (.slice A1 0 c1)).setCell ⟨w.heap.size + 1, 0, none⟩ (.slice A5 n5 c5)).heap.size) (by omega) (by simp [World.setCell]) (Nat.le_refl _))
      clear hcD frD kwD b2D b3D b5D b2B b3B b5B frB frE kwB fB z7 z8 y7 y8
      go_wp2_with fail
      exact bodyPost_ret (v := .tuple #[.agg #[.slice A1 0 c1], .agg #[.slice A5 n5 c5]]) (by simp [results, Try.results12, go_sem, y1, y2, y3, y4]) rfl ⟨_, _, _, _, _, _, _, _, rfl, HR.out, HS.out, HK.out⟩)
  have t0 : ((n1 : Int) == 0) = false := by rw [beq_eq_false_iff_ne]; omega
  obtain ⟨q7, q8⟩ := id b5
  rw [hh2] at q7 q8
  go_wp2_with fail
  rw [← hh2]
  rw [← hh2] at q7 q8
  clear hh2
  refine (one_any hc2 (by omega) (by omega)).mono ?_
  rintro e w2 ⟨b, rfl, hc3, f3⟩
  have s3 := f3.size
  replace b2 := b2.fr f3 (by omega)
  replace b3 := b3.fr f3 (by omega)
  replace b5 := b5.fr f3 (by omega)
  have fr3 := fr2.fr f3 (.inl (by omega))
  have kw3 : Keeps w w2 := below_fr kw2 kw2.size (by omega) f3
  clear hc2 fr2 kw2 f3 q7 q8
  cases b
  · have b6 : B1 (w2.alloc (.cells #[.slice none 0 0] 25)) w2.heap.size (.slice none 0 0) := B1.new' rfl
    replace b2 := b2.keeps (keeps_alloc w2 (.cells #[.slice none 0 0] 25))
    replace b3 := b3.keeps (keeps_alloc w2 (.cells #[.slice none 0 0] 25))
    replace b5 := b5.keeps (keeps_alloc w2 (.cells #[.slice none 0 0] 25))
    have hc4 := hc3.keeps (keeps_alloc w2 (.cells #[.slice none 0 0] 25))
    have fr4 := fr3.keeps (keeps_alloc w2 (.cells #[.slice none 0 0] 25))
    have kw4 := kw3.trans (keeps_alloc w2 (.cells #[.slice none 0 0] 25))
    clear hc3 fr3 kw3
    go_wp2_with fail
    refine (pick_any hc4 (by omega) (by omega)).mono ?_
    rintro e w4 ⟨x, rfl, hx, hc5, f5⟩
    have s5 := f5.size
    simp at s5
    replace b2 := b2.fr f5 (by omega)
    replace b3 := b3.fr f5 (by omega)
    replace b5 := b5.fr f5 (by omega)
    replace b6 := b6.fr f5 (by omega)
    have fr5 := fr4.fr f5 (.inl (by omega))
    have kw5 : Keeps w w4 := below_fr kw4 kw4.size (by omega) f5
    clear hc4 fr4 kw4 f5
    obtain ⟨K, hK⟩ : ∃ K : Nat, (1 : Int) + x = K := ⟨(1 + x).toNat, by omega⟩
    have hK3 : 1 ≤ K ∧ K ≤ 3 := by omega
    obtain ⟨z7, z8⟩ := id b5
    have hn1' : 0 < n1 := by omega
    have hn1i : (0 : Int) < (n1 : Int) := by omega
    obtain ⟨bb, off, A7, m, c7, eA, _, _, hc7, hr7⟩ := fr5.at_ (k := 0) hn1'; subst eA; rw [Nat.add_zero] at hc7; have hm25 := hn1.2 0 hn1'; rw [Fracs.len hr7] at hm25
    go_wp2_with fail
    clear hK hx
    clear hc7 hr7
    go_loopw [33] (fun i wr => ∃ (k : Nat) (v : Value) (tt : List (List QQ)), k ≤ m ∧ i = .int .i64 k ∧ Built wr (w2.heap.size + 1) v k tt wr.heap.size ∧ tt.length = k ∧ B1 wr w2.heap.size v ∧ B1 wr w1.heap.size (.slice (some ⟨bb, off, none⟩) n1 c1) ∧ B1 wr w.heap.size (.slice none 0 0) ∧ B1 wr (w.heap.size + 1) (.slice none 0 0) ∧ FRows wr (w.heap.size + 3) w1.heap.size (some ⟨bb, off, none⟩) n1 ll ∧ Cur wr (w.heap.size + 2) (300 + 8 * k) ∧ Keeps w wr ∧ w2.heap.size + 1 ≤ wr.heap.size) (fun i _ => m - (intOf i).toNat)
    case atStart => exact ⟨0, _, [], Nat.zero_le _, rfl, Built.nil_ _ _ _, rfl, b6, b5, b2, b3, fr5, hc5.mono (by omega), kw5, s5⟩
    clear hc5 fr5 kw5 b2 b3 b5 b6 z7 z8
    case round =>
      obtain ⟨k, v, tt, hk, rfl, bu, htl, b6, b5, b2, b3, fr, hc, kw, sr⟩ := hrel
      obtain ⟨A2, C2, rfl⟩ := bu.form
      obtain ⟨z1, z2⟩ := id b6
      by_cases hlt : k < m
      · have hi1 : (k : Int) < (m : Int) := by omega
        have hcD := hc.keeps (keeps_d0 wr)
        have buD := bu.keeps (keeps_d0 wr)
        have b2D := b2.keeps (keeps_d0 wr)
        have b3D := b3.keeps (keeps_d0 wr)
        have b5D := b5.keeps (keeps_d0 wr)
        have b6D := b6.keeps (keeps_d0 wr)
        have frD := fr.keeps (keeps_d0 wr)
        have kwD := kw.trans (keeps_d0 wr)
        have eW : wr.drew.heap.size = wr.heap.size := rfl
        have hT3 : (300 : Int) + 8 * (k : Int) ≤ 900000000000000 := by omega
        have hK6 : 1 ≤ K ∧ K ≤ 64 := by omega
        have hgB : w.heap.size + 2 + 1 ≤ w2.heap.size + 1 := by omega
        have o7 : w1.heap.size < w.heap.size + 2 ∨ w.heap.size + 2 + 1 ≤ w1.heap.size := by omega
        have o6 : w2.heap.size < w.heap.size + 2 ∨ w.heap.size + 2 + 1 ≤ w2.heap.size := by omega
        have o2 : w.heap.size < w.heap.size + 2 ∨ w.heap.size + 2 + 1 ≤ w.heap.size := by omega
        have o3 : w.heap.size + 1 < w.heap.size + 2 ∨ w.heap.size + 2 + 1 ≤ w.heap.size + 1 := by omega
        have of : w.heap.size + 2 + 1 ≤ w.heap.size + 3 ∨ w1.heap.size ≤ w.heap.size + 2 ∨ w.heap.size + 2 + 1 ≤ w.heap.size + 2 := by omega
        clear hc bu b2 b3 b5 b6 fr kw
        go_wp2_with fail
        go_region_law ((first | (refine step_dist (n := K) hcD hT3 hK6 rfl (by kernel_rfl) ?_; intro A5 c5 l5 wB hro hl5 hcB fB; have buB := (buD.fr fB hgB).snoc htl l5; have b2B := b2D.fr fB o2; have b3B := b3D.fr fB o3; have b5B := b5D.fr fB o7; have b6B := b6D.fr fB o6; have frB := frD.fr fB of; have sB := fB.size; have roB := (RowH.of_own hro (by omega) (by omega)).last htl; obtain ⟨y1, y2⟩ := id b6B; have y3 := (b6B.keeps (keeps_alloc wB (.cells #[.slice A5 K c5] 43))).1) | (have q1 : k ≤ 67108864 := (by omega); refine step_append_row (ll := tt ++ [l5]) buB roB q1 sr _ _ rfl rfl rfl rfl ?_; intro v' w' bu5 kb5; have b6C := b6B.below kb5 (Nat.lt_succ_self _); obtain ⟨u1, u2⟩ := id b6C; have fm := bu5.form; obtain ⟨A6, C6, e6⟩ := fm; subst e6)))
        all_goals (
          have kwB : Keeps w wB := below_fr kwD kwD.size (by omega) fB
          have HW := hid ((Fr.refl w2.heap.size (w2.heap.size + 1) w').setCell (p := ⟨w2.heap.size, 0, none⟩) (Nat.le_refl _) (Nat.lt_succ_self _) (.slice A6 (k + 1) C6))
          have es := hid (show (w'.setCell ⟨w2.heap.size, 0, none⟩ (.slice A6 (k + 1) C6)).heap.size = w'.heap.size by simp [World.setCell])
          have BU := hid (bu5.fr HW.out (Nat.le_refl _))
          have B6 := hid (b6C.set (.slice A6 (k + 1) C6))
          have B5 := hid ((b5B.below kb5 (by omega)).fr HW.out (by omega))
          have B2 := hid ((b2B.below kb5 (by omega)).fr HW.out (by omega))
          have B3 := hid ((b3B.below kb5 (by omega)).fr HW.out (by omega))
          have HC := hid ((hcB.below kb5 (by omega)).fr HW.out (by omega))
          have HR := hid ((frB.fr (Fr.of_below kb5) (by omega)).fr HW.out (by omega))
          have HK := hid ((show Below w.heap.size w w' from Below.trans kwB (kb5.mono (by omega))).setCell (p := ⟨w2.heap.size, 0, none⟩) (by show _ ≤ w2.heap.size; omega) (.slice A6 (k + 1) C6))
          have ks := kb5.size
          clear z1 z2 y1 y2 y3 u1 u2 hcD buD b2D b3D b5D b6D frD kwD buB b2B b3B b5B b6B frB roB hro hcB bu5 kb5 b6C kwB fB
          go_wp2_with fail
          go_roundw
          case rel => exact ⟨k + 1, _, tt ++ [l5], by omega, by go_num, by rw [es.out]; exact BU.out, by simp [htl], B6.out, B5.out, B2.out, B3.out, HR.out, HC.out.mono (by omega), HK.out, by rw [es.out]; omega⟩
          case measure => simp [intOf]; omega)
      · have hi1 : ¬ (k : Int) < (m : Int) := by omega
        obtain ⟨z3, z4⟩ := id b2
        obtain ⟨z5, z6⟩ := id b3
        obtain ⟨z7, z8⟩ := id b5
        have frD := fr.keeps (keeps_d0 wr)
        have kwD := kw.trans (keeps_d0 wr)
        have rfD := (RF.of_built (bu.keeps (keeps_d0 wr))).rows htl (by omega)
        have HF := hid (fr_set11 (w := wr.drew) (p := w.heap.size) (.slice (some ⟨bb, off, none⟩) n1 c1) (.slice A2 k C2))
        have HK := hid (keeps_set11 kwD (.slice (some ⟨bb, off, none⟩) n1 c1) (.slice A2 k C2))
        have eW : wr.drew.heap.size = wr.heap.size := rfl
        have HR := hid ((frD.fr HF.out (.inl (by omega))).widen (lo' := w.heap.size) (hi' := ((wr.drew.setCell ⟨w.heap.size, 0, none⟩ (.slice (some ⟨bb, off, none⟩) n1 c1)).setCell ⟨w.heap.size + 1, 0, none⟩ (.slice A2 k C2)).heap.size) (by omega) (by simp [World.setCell]; omega) (Nat.le_refl _))
        have HS := hid ((rfD.fr HF.out (.inl (by omega))).widen (lo' := w.heap.size) (hi' := ((wr.drew.setCell ⟨w.heap.size, 0, none⟩ (.slice (some ⟨bb, off, none⟩) n1 c1)).setCell ⟨w.heap.size + 1, 0, none⟩ (.slice A2 k C2)).heap.size) (by omega) (by simp [World.setCell]) (Nat.le_refl _))
        have n1_ : w1.heap.size ≠ w.heap.size := by omega
        have n2_ : w1.heap.size ≠ w.heap.size + 1 := by omega
        have n3_ : w2.heap.size ≠ w.heap.size := by omega
        have n4_ : w2.heap.size ≠ w.heap.size + 1 := by omega
        have n5_ : w.heap.size ≠ w.heap.size + 1 := by omega
        have n6_ : w.heap.size + 1 ≠ w.heap.size := by omega
        clear frD kwD rfD fr kw bu b2 b3 b5 b6 hc
        go_wp2_with fail
        go_region
        all_goals (
          go_wp2_with fail
          exact bodyPost_ret (v := .tuple #[.agg #[.slice (some ⟨bb, off, none⟩) n1 c1], .agg #[.slice A2 k C2]]) (by simp [results, Try.results12, go_sem, z3, z4, z5, z6]) rfl ⟨_, _, _, _, _, _, _, _, rfl, HR.out, HS.out, HK.out⟩)
  · obtain ⟨z7, z8⟩ := id b5
    have hcD := (hc3).keeps (keeps_d0 w2)
    have frD := (fr3).keeps (keeps_d0 w2)
    have kwD := (kw3).trans (keeps_d0 w2)
    have b2D := b2.keeps (keeps_d0 w2)
    have b3D := b3.keeps (keeps_d0 w2)
    have b5D := (b5).keeps (keeps_d0 w2)
    have hT3 : (0 : Int) + 200 + 2 ≤ 700000000000000 := by omega
    have o7 : w1.heap.size < w.heap.size + 2 ∨ w.heap.size + 2 + 1 ≤ w1.heap.size := by omega
    have o2 : w.heap.size < w.heap.size + 2 ∨ w.heap.size + 2 + 1 ≤ w.heap.size := by omega
    have o3 : w.heap.size + 1 < w.heap.size + 2 ∨ w.heap.size + 2 + 1 ≤ w.heap.size + 1 := by omega
    have of : w.heap.size + 2 + 1 ≤ w.heap.size + 3 ∨ w1.heap.size ≤ w.heap.size + 2 ∨ w.heap.size + 2 + 1 ≤ w.heap.size + 2 := by omega
    have eW : (w2).drew.heap.size = (w2).heap.size := rfl
    clear hc3 fr3 kw3 b5 b2 b3
    go_wp2_with fail
    go_region_law ((first | (refine step_anyMech (T := 0 + 200 + 2) (hcD.mono (by omega)) hT3 rfl (by kernel_rfl) ?_; intro A5 n5 c5 tt wB frE fB; have b2B := b2D.fr fB o2; have b3B := b3D.fr fB o3; have b5B := b5D.fr fB o7; have frB := frD.fr fB of; obtain ⟨y1, y2⟩ := id b2B; obtain ⟨y3, y4⟩ := id b3B; obtain ⟨y7, y8⟩ := id b5B)))
    all_goals (
      have kwB : Keeps w wB := below_fr kwD kwD.size (by omega) fB
      have sB := fB.size
      have HF := hid (fr_set11 (w := wB) (p := w.heap.size) (.slice A1 n1 c1) (.slice A5 n5 c5))
      have HK := hid (keeps_set11 kwB (.slice A1 n1 c1) (.slice A5 n5 c5))
      have HR := hid ((frB.fr HF.out (.inl (by omega))).widen (lo' := w.heap.size) (hi' := ((wB.setCell ⟨w.heap.size, 0, none⟩ (.slice A1 n1 c1)).setCell ⟨w.heap.size + 1, 0, none⟩ (.slice A5 n5 c5)).heap.size) (by omega) (by simp [World.setCell]; omega) (Nat.le_refl _))
      have HS := hid ((frE.fr HF.out (.inl (by omega))).widen (lo' := w.heap.size) (hi' := ((wB.setCell ⟨w.heap.size, 0, none⟩ (.slice A1 n1 c1)).setCell ⟨w.heap.size + 1, 0, none⟩ (.slice A5 n5 c5)).heap.size) (by omega) (by simp [World.setCell]) (Nat.le_refl _))
      clear hcD frD kwD b2D b3D b5D b2B b3B b5B frB frE kwB fB z7 z8 y7 y8
      go_wp2_with fail
      exact bodyPost_ret (v := .tuple #[.agg #[.slice A1 n1 c1], .agg #[.slice A5 n5 c5]]) (by simp [results, Try.results12, go_sem, y1, y2, y3, y4]) rfl ⟨_, _, _, _, _, _, _, _, rfl, HR.out, HS.out, HK.out⟩)
set_option maxRecDepth 100000 in
set_option maxHeartbeats 3200000 in
theorem DrawProductOf_any {A : Option Addr} {hi n c : Nat} {w : World} (hb : Bytes w hi A n) :
    Calls Try.prog 26 #[.slice A n c] w (DrawsZ w) := by
  have kG := (keeps_alloc w (.cells #[.slice none 0 0] 25)).trans (keeps_alloc (w.alloc (.cells #[.slice none 0 0] 25)) (.cells #[.slice none 0 0] 25))
  have hc := Cur.new (t := 119) (c := c) (hb.keeps kG)
  have k0 := kG.trans (keeps_alloc ((w.alloc (.cells #[.slice none 0 0] 25)).alloc (.cells #[.slice none 0 0] 25)) (.cells #[.slice A n c, .int .i64 0, .int .u64 0] 119))
  have b2 : B1 (w.alloc (.cells #[.slice none 0 0] 25)) w.heap.size (.slice none 0 0) := B1.new' rfl
  replace b2 := (b2.keeps (keeps_alloc _ (.cells #[.slice none 0 0] 25))).keeps (keeps_alloc _ (.cells #[.slice A n c, .int .i64 0, .int .u64 0] 119))
  have b3 : B1 ((w.alloc (.cells #[.slice none 0 0] 25)).alloc (.cells #[.slice none 0 0] 25)) (w.heap.size + 1) (.slice none 0 0) := B1.new' (by simp)
  replace b3 := b3.keeps (keeps_alloc _ (.cells #[.slice A n c, .int .i64 0, .int .u64 0] 119))
  rw [show ((w.alloc (.cells #[.slice none 0 0] 25)).alloc (.cells #[.slice none 0 0] 25)).heap.size = w.heap.size + 2 by simp] at hc
  have E0 := hid (show (((w.alloc (.cells #[.slice none 0 0] 25)).alloc (.cells #[.slice none 0 0] 25)).alloc (.cells #[.slice A n c, .int .i64 0, .int .u64 0] 119)).heap.size = w.heap.size + 3 by simp)
  clear kG
  go_enter Try.func26, Try.ntmps26
  go_wp2_with fail
  refine (anyMechanism_any hc (by omega)).mono ?_
  rintro e w1 ⟨A1, n1, c1, ll, rfl, fr1, hn1, hc1, f1⟩
  have s1 := f1.size
  rw [E0.out] at fr1 s1
  replace b2 := b2.fr f1 (by omega)
  replace b3 := b3.fr f1 (by omega)
  have kw1 : Keeps w w1 := below_fr k0 k0.size (by omega) f1
  clear hc f1 k0 E0
  have b5 : B1 (w1.alloc (.cells #[.slice A1 n1 c1] 25)) w1.heap.size (.slice A1 n1 c1) := B1.new' rfl
  replace b2 := b2.keeps (keeps_alloc w1 (.cells #[.slice A1 n1 c1] 25))
  replace b3 := b3.keeps (keeps_alloc w1 (.cells #[.slice A1 n1 c1] 25))
  have hc2 := hc1.keeps (keeps_alloc w1 (.cells #[.slice A1 n1 c1] 25))
  have fr2 := fr1.keeps (keeps_alloc w1 (.cells #[.slice A1 n1 c1] 25))
  have kw2 := kw1.trans (keeps_alloc w1 (.cells #[.slice A1 n1 c1] 25))
  obtain ⟨W2, hX⟩ : ∃ u : World, u = w1.alloc (.cells #[.slice A1 n1 c1] 25) := ⟨_, rfl⟩
  have sX : W2.heap.size = w1.heap.size + 1 := by rw [hX]; simp
  clear hc1 kw1 fr1
  rw [← hX] at b5 b2 b3 hc2 fr2 kw2
  have hh2 := hX
  clear hX
  by_cases h0 : n1 = 0
  · subst h0
    obtain ⟨q7, q8⟩ := id b5
    rw [hh2] at q7 q8
    go_wp2_with fail
    rw [← hh2]
    rw [← hh2] at q7 q8
    clear hh2 q7 q8
    obtain ⟨z7, z8⟩ := id b5
    have hcD := (hc2).keeps (keeps_d0 W2)
    have frD := (fr2).keeps (keeps_d0 W2)
    have kwD := (kw2).trans (keeps_d0 W2)
    have b2D := b2.keeps (keeps_d0 W2)
    have b3D := b3.keeps (keeps_d0 W2)
    have b5D := (b5).keeps (keeps_d0 W2)
    have hT3 : (0 : Int) + 200 + 2 ≤ 700000000000000 := by omega
    have o7 : w1.heap.size < w.heap.size + 2 ∨ w.heap.size + 2 + 1 ≤ w1.heap.size := by omega
    have o2 : w.heap.size < w.heap.size + 2 ∨ w.heap.size + 2 + 1 ≤ w.heap.size := by omega
    have o3 : w.heap.size + 1 < w.heap.size + 2 ∨ w.heap.size + 2 + 1 ≤ w.heap.size + 1 := by omega
    have of : w.heap.size + 2 + 1 ≤ w.heap.size + 3 ∨ w1.heap.size ≤ w.heap.size + 2 ∨ w.heap.size + 2 + 1 ≤ w.heap.size + 2 := by omega
    have eW : (W2).drew.heap.size = (W2).heap.size := rfl
    clear hc2 fr2 kw2 b5 b2 b3
    go_wp2_with fail
    go_region_law ((first | (refine step_anyMech (T := 0 + 200 + 2) (hcD.mono (by omega)) hT3 rfl (by kernel_rfl) ?_; intro A5 n5 c5 tt wB frE fB; have b2B := b2D.fr fB o2; have b3B := b3D.fr fB o3; have b5B := b5D.fr fB o7; have frB := frD.fr fB of; obtain ⟨y1, y2⟩ := id b2B; obtain ⟨y3, y4⟩ := id b3B; obtain ⟨y7, y8⟩ := id b5B)))
    all_goals (
      have kwB : Keeps w wB := below_fr kwD kwD.size (by omega) fB
      have sB := fB.size
      have HF := hid (fr_set11 (w := wB) (p := w.heap.size) (.slice A1 0 c1) (.slice A5 n5 c5))
      have HK := hid (keeps_set11 kwB (.slice A1 0 c1) (.slice A5 n5 c5))
      have HR := hid ((frB.fr HF.out (.inl (by omega))).widen (lo' := w.heap.size) (hi' := ((wB.setCell ⟨w.heap.size, 0, none⟩ (.slice A1 0 c1)).setCell ⟨w.heap.size + 1, 0, none⟩ (.slice A5 n5 c5)).heap.size) (by omega) (by simp [World.setCell]; omega) (Nat.le_refl _))
      have HS := hid ((frE.fr HF.out (.inl (by omega))).widen (lo' := w.heap.size) (hi' := ((wB.setCell ⟨w.heap.size, 0, none⟩ (.slice A1 0 c1)).setCell ⟨w.heap.size + 1, 0, none⟩ (.slice A5 n5 c5)).heap.size) (by omega) (by simp [World.setCell]) (Nat.le_refl _))
      clear hcD frD kwD b2D b3D b5D b2B b3B b5B frB frE kwB fB z7 z8 y7 y8
      go_wp2_with fail
      exact bodyPost_ret (v := .tuple #[.agg #[.slice A1 0 c1], .agg #[.slice A5 n5 c5]]) (by simp [results, Try.results26, go_sem, y1, y2, y3, y4]) rfl ⟨_, _, _, _, _, _, _, _, rfl, HR.out, HS.out, HK.out⟩)
  have t0 : ((n1 : Int) == 0) = false := by rw [beq_eq_false_iff_ne]; omega
  obtain ⟨q7, q8⟩ := id b5
  rw [hh2] at q7 q8
  go_wp2_with fail
  rw [← hh2]
  rw [← hh2] at q7 q8
  clear hh2
  refine (one_any hc2 (by omega) (by omega)).mono ?_
  rintro e w2 ⟨b, rfl, hc3, f3⟩
  have s3 := f3.size
  replace b2 := b2.fr f3 (by omega)
  replace b3 := b3.fr f3 (by omega)
  replace b5 := b5.fr f3 (by omega)
  have fr3 := fr2.fr f3 (.inl (by omega))
  have kw3 : Keeps w w2 := below_fr kw2 kw2.size (by omega) f3
  clear hc2 fr2 kw2 f3 q7 q8
  cases b
  · have b6 : B1 (w2.alloc (.cells #[.slice none 0 0] 25)) w2.heap.size (.slice none 0 0) := B1.new' rfl
    replace b2 := b2.keeps (keeps_alloc w2 (.cells #[.slice none 0 0] 25))
    replace b3 := b3.keeps (keeps_alloc w2 (.cells #[.slice none 0 0] 25))
    replace b5 := b5.keeps (keeps_alloc w2 (.cells #[.slice none 0 0] 25))
    have hc4 := hc3.keeps (keeps_alloc w2 (.cells #[.slice none 0 0] 25))
    have fr4 := fr3.keeps (keeps_alloc w2 (.cells #[.slice none 0 0] 25))
    have kw4 := kw3.trans (keeps_alloc w2 (.cells #[.slice none 0 0] 25))
    clear hc3 fr3 kw3
    go_wp2_with fail
    refine (pick_any hc4 (by omega) (by omega)).mono ?_
    rintro e w4 ⟨x, rfl, hx, hc5, f5⟩
    have s5 := f5.size
    simp at s5
    replace b2 := b2.fr f5 (by omega)
    replace b3 := b3.fr f5 (by omega)
    replace b5 := b5.fr f5 (by omega)
    replace b6 := b6.fr f5 (by omega)
    have fr5 := fr4.fr f5 (.inl (by omega))
    have kw5 : Keeps w w4 := below_fr kw4 kw4.size (by omega) f5
    clear hc4 fr4 kw4 f5
    obtain ⟨K, hK⟩ : ∃ K : Nat, (1 : Int) + x = K := ⟨(1 + x).toNat, by omega⟩
    have hK3 : 1 ≤ K ∧ K ≤ 3 := by omega
    obtain ⟨z7, z8⟩ := id b5
    have hn1' : 0 < n1 := by omega
    have hn1i : (0 : Int) < (n1 : Int) := by omega
    have hm25 : n1 ≤ 25 := (by omega)
    go_wp2_with fail
    clear hK hx
    skip
    go_loopw [31] (fun i wr => ∃ (k : Nat) (v : Value) (tt : List (List QQ)), k ≤ n1 ∧ i = .int .i64 k ∧ Built wr (w2.heap.size + 1) v k tt wr.heap.size ∧ tt.length = k ∧ B1 wr w2.heap.size v ∧ B1 wr w1.heap.size (.slice A1 n1 c1) ∧ B1 wr w.heap.size (.slice none 0 0) ∧ B1 wr (w.heap.size + 1) (.slice none 0 0) ∧ FRows wr (w.heap.size + 3) w1.heap.size A1 n1 ll ∧ Cur wr (w.heap.size + 2) (300 + 8 * k) ∧ Keeps w wr ∧ w2.heap.size + 1 ≤ wr.heap.size) (fun i _ => n1 - (intOf i).toNat)
    case atStart => exact ⟨0, _, [], Nat.zero_le _, rfl, Built.nil_ _ _ _, rfl, b6, b5, b2, b3, fr5, hc5.mono (by omega), kw5, s5⟩
    clear hc5 fr5 kw5 b2 b3 b5 b6 z7 z8
    case round =>
      obtain ⟨k, v, tt, hk, rfl, bu, htl, b6, b5, b2, b3, fr, hc, kw, sr⟩ := hrel
      obtain ⟨A2, C2, rfl⟩ := bu.form
      obtain ⟨z1, z2⟩ := id b6
      by_cases hlt : k < n1
      · have hi1 : (k : Int) < (n1 : Int) := by omega
        have hcD := hc.keeps (keeps_d0 wr)
        have buD := bu.keeps (keeps_d0 wr)
        have b2D := b2.keeps (keeps_d0 wr)
        have b3D := b3.keeps (keeps_d0 wr)
        have b5D := b5.keeps (keeps_d0 wr)
        have b6D := b6.keeps (keeps_d0 wr)
        have frD := fr.keeps (keeps_d0 wr)
        have kwD := kw.trans (keeps_d0 wr)
        have eW : wr.drew.heap.size = wr.heap.size := rfl
        have hT3 : (300 : Int) + 8 * (k : Int) ≤ 900000000000000 := by omega
        have hK6 : 1 ≤ K ∧ K ≤ 64 := by omega
        have hgB : w.heap.size + 2 + 1 ≤ w2.heap.size + 1 := by omega
        have o7 : w1.heap.size < w.heap.size + 2 ∨ w.heap.size + 2 + 1 ≤ w1.heap.size := by omega
        have o6 : w2.heap.size < w.heap.size + 2 ∨ w.heap.size + 2 + 1 ≤ w2.heap.size := by omega
        have o2 : w.heap.size < w.heap.size + 2 ∨ w.heap.size + 2 + 1 ≤ w.heap.size := by omega
        have o3 : w.heap.size + 1 < w.heap.size + 2 ∨ w.heap.size + 2 + 1 ≤ w.heap.size + 1 := by omega
        have of : w.heap.size + 2 + 1 ≤ w.heap.size + 3 ∨ w1.heap.size ≤ w.heap.size + 2 ∨ w.heap.size + 2 + 1 ≤ w.heap.size + 2 := by omega
        clear hc bu b2 b3 b5 b6 fr kw
        go_wp2_with fail
        go_region_law ((first | (refine step_dist (n := K) hcD hT3 hK6 rfl (by kernel_rfl) ?_; intro A5 c5 l5 wB hro hl5 hcB fB; have buB := (buD.fr fB hgB).snoc htl l5; have b2B := b2D.fr fB o2; have b3B := b3D.fr fB o3; have b5B := b5D.fr fB o7; have b6B := b6D.fr fB o6; have frB := frD.fr fB of; have sB := fB.size; have roB := (RowH.of_own hro (by omega) (by omega)).last htl; obtain ⟨y1, y2⟩ := id b6B; have y3 := (b6B.keeps (keeps_alloc wB (.cells #[.slice A5 K c5] 43))).1) | (have q1 : k ≤ 67108864 := (by omega); refine step_append_row (ll := tt ++ [l5]) buB roB q1 sr _ _ rfl rfl rfl rfl ?_; intro v' w' bu5 kb5; have b6C := b6B.below kb5 (Nat.lt_succ_self _); obtain ⟨u1, u2⟩ := id b6C; have fm := bu5.form; obtain ⟨A6, C6, e6⟩ := fm; subst e6)))
        all_goals (
          have kwB : Keeps w wB := below_fr kwD kwD.size (by omega) fB
          have HW := hid ((Fr.refl w2.heap.size (w2.heap.size + 1) w').setCell (p := ⟨w2.heap.size, 0, none⟩) (Nat.le_refl _) (Nat.lt_succ_self _) (.slice A6 (k + 1) C6))
          have es := hid (show (w'.setCell ⟨w2.heap.size, 0, none⟩ (.slice A6 (k + 1) C6)).heap.size = w'.heap.size by simp [World.setCell])
          have BU := hid (bu5.fr HW.out (Nat.le_refl _))
          have B6 := hid (b6C.set (.slice A6 (k + 1) C6))
          have B5 := hid ((b5B.below kb5 (by omega)).fr HW.out (by omega))
          have B2 := hid ((b2B.below kb5 (by omega)).fr HW.out (by omega))
          have B3 := hid ((b3B.below kb5 (by omega)).fr HW.out (by omega))
          have HC := hid ((hcB.below kb5 (by omega)).fr HW.out (by omega))
          have HR := hid ((frB.fr (Fr.of_below kb5) (by omega)).fr HW.out (by omega))
          have HK := hid ((show Below w.heap.size w w' from Below.trans kwB (kb5.mono (by omega))).setCell (p := ⟨w2.heap.size, 0, none⟩) (by show _ ≤ w2.heap.size; omega) (.slice A6 (k + 1) C6))
          have ks := kb5.size
          clear z1 z2 y1 y2 y3 u1 u2 hcD buD b2D b3D b5D b6D frD kwD buB b2B b3B b5B b6B frB roB hro hcB bu5 kb5 b6C kwB fB
          go_wp2_with fail
          go_roundw
          case rel => exact ⟨k + 1, _, tt ++ [l5], by omega, by go_num, by rw [es.out]; exact BU.out, by simp [htl], B6.out, B5.out, B2.out, B3.out, HR.out, HC.out.mono (by omega), HK.out, by rw [es.out]; omega⟩
          case measure => simp [intOf]; omega)
      · have hi1 : ¬ (k : Int) < (n1 : Int) := by omega
        obtain ⟨z3, z4⟩ := id b2
        obtain ⟨z5, z6⟩ := id b3
        obtain ⟨z7, z8⟩ := id b5
        have frD := fr.keeps (keeps_d0 wr)
        have kwD := kw.trans (keeps_d0 wr)
        have rfD := (RF.of_built (bu.keeps (keeps_d0 wr))).rows htl (by omega)
        have HF := hid (fr_set11 (w := wr.drew) (p := w.heap.size) (.slice A1 n1 c1) (.slice A2 k C2))
        have HK := hid (keeps_set11 kwD (.slice A1 n1 c1) (.slice A2 k C2))
        have eW : wr.drew.heap.size = wr.heap.size := rfl
        have HR := hid ((frD.fr HF.out (.inl (by omega))).widen (lo' := w.heap.size) (hi' := ((wr.drew.setCell ⟨w.heap.size, 0, none⟩ (.slice A1 n1 c1)).setCell ⟨w.heap.size + 1, 0, none⟩ (.slice A2 k C2)).heap.size) (by omega) (by simp [World.setCell]; omega) (Nat.le_refl _))
        have HS := hid ((rfD.fr HF.out (.inl (by omega))).widen (lo' := w.heap.size) (hi' := ((wr.drew.setCell ⟨w.heap.size, 0, none⟩ (.slice A1 n1 c1)).setCell ⟨w.heap.size + 1, 0, none⟩ (.slice A2 k C2)).heap.size) (by omega) (by simp [World.setCell]) (Nat.le_refl _))
        have n1_ : w1.heap.size ≠ w.heap.size := by omega
        have n2_ : w1.heap.size ≠ w.heap.size + 1 := by omega
        have n3_ : w2.heap.size ≠ w.heap.size := by omega
        have n4_ : w2.heap.size ≠ w.heap.size + 1 := by omega
        have n5_ : w.heap.size ≠ w.heap.size + 1 := by omega
        have n6_ : w.heap.size + 1 ≠ w.heap.size := by omega
        clear frD kwD rfD fr kw bu b2 b3 b5 b6 hc
        go_wp2_with fail
        go_region
        all_goals (
          go_wp2_with fail
          exact bodyPost_ret (v := .tuple #[.agg #[.slice A1 n1 c1], .agg #[.slice A2 k C2]]) (by simp [results, Try.results26, go_sem, z3, z4, z5, z6]) rfl ⟨_, _, _, _, _, _, _, _, rfl, HR.out, HS.out, HK.out⟩)
  · obtain ⟨z7, z8⟩ := id b5
    have hcD := (hc3).keeps (keeps_d0 w2)
    have frD := (fr3).keeps (keeps_d0 w2)
    have kwD := (kw3).trans (keeps_d0 w2)
    have b2D := b2.keeps (keeps_d0 w2)
    have b3D := b3.keeps (keeps_d0 w2)
    have b5D := (b5).keeps (keeps_d0 w2)
    have hT3 : (0 : Int) + 200 + 2 ≤ 700000000000000 := by omega
    have o7 : w1.heap.size < w.heap.size + 2 ∨ w.heap.size + 2 + 1 ≤ w1.heap.size := by omega
    have o2 : w.heap.size < w.heap.size + 2 ∨ w.heap.size + 2 + 1 ≤ w.heap.size := by omega
    have o3 : w.heap.size + 1 < w.heap.size + 2 ∨ w.heap.size + 2 + 1 ≤ w.heap.size + 1 := by omega
    have of : w.heap.size + 2 + 1 ≤ w.heap.size + 3 ∨ w1.heap.size ≤ w.heap.size + 2 ∨ w.heap.size + 2 + 1 ≤ w.heap.size + 2 := by omega
    have eW : (w2).drew.heap.size = (w2).heap.size := rfl
    clear hc3 fr3 kw3 b5 b2 b3
    go_wp2_with fail
    go_region_law ((first | (refine step_anyMech (T := 0 + 200 + 2) (hcD.mono (by omega)) hT3 rfl (by kernel_rfl) ?_; intro A5 n5 c5 tt wB frE fB; have b2B := b2D.fr fB o2; have b3B := b3D.fr fB o3; have b5B := b5D.fr fB o7; have frB := frD.fr fB of; obtain ⟨y1, y2⟩ := id b2B; obtain ⟨y3, y4⟩ := id b3B; obtain ⟨y7, y8⟩ := id b5B)))
    all_goals (
      have kwB : Keeps w wB := below_fr kwD kwD.size (by omega) fB
      have sB := fB.size
      have HF := hid (fr_set11 (w := wB) (p := w.heap.size) (.slice A1 n1 c1) (.slice A5 n5 c5))
      have HK := hid (keeps_set11 kwB (.slice A1 n1 c1) (.slice A5 n5 c5))
      have HR := hid ((frB.fr HF.out (.inl (by omega))).widen (lo' := w.heap.size) (hi' := ((wB.setCell ⟨w.heap.size, 0, none⟩ (.slice A1 n1 c1)).setCell ⟨w.heap.size + 1, 0, none⟩ (.slice A5 n5 c5)).heap.size) (by omega) (by simp [World.setCell]; omega) (Nat.le_refl _))
      have HS := hid ((frE.fr HF.out (.inl (by omega))).widen (lo' := w.heap.size) (hi' := ((wB.setCell ⟨w.heap.size, 0, none⟩ (.slice A1 n1 c1)).setCell ⟨w.heap.size + 1, 0, none⟩ (.slice A5 n5 c5)).heap.size) (by omega) (by simp [World.setCell]) (Nat.le_refl _))
      clear hcD frD kwD b2D b3D b5D b2B b3B b5B frB frE kwB fB z7 z8 y7 y8
      go_wp2_with fail
      exact bodyPost_ret (v := .tuple #[.agg #[.slice A1 n1 c1], .agg #[.slice A5 n5 c5]]) (by simp [results, Try.results26, go_sem, y1, y2, y3, y4]) rfl ⟨_, _, _, _, _, _, _, _, rfl, HR.out, HS.out, HK.out⟩)
end Go.Proofs.Ytnopedjgagoahaa
