/- What the proof of the statement leans on, part 6: walks of functions and plain lemmas, with no condition. -/
import Derived.Test.YtlkjhkkfdmjfcaaGreatDoorQ4
namespace Go.Proofs.YtlkjhkkfdmjfcaaGreatDoor
open Go.RowKit Go.Sort
set_option linter.unusedVariables false
set_option linter.unusedSimpArgs false
theorem flop {P : Program} {f : Nat} {a : Array Value} {w : World} {v : Ending} (h : Calls P f a w fun e w' => e = v ∧ w' = w) : Calls P f a w fun e w' => e = v ∧ w = w' := h.mono fun _ _ ⟨h1, h2⟩ => ⟨h1, h2.symm⟩
theorem smE_eq {s s' : Int} {us : List Int} (h : s = s') : smE s s' us = true := by unfold smE; rw [decide_eq_true h]; rfl
theorem smE_no {s s' : Int} {us : List Int} (h : ¬ s = s') (h1 : ¬ s' = -1) : smE s s' us = false := by unfold smE; rw [decide_eq_false h, decide_eq_false h1]; rfl
theorem smE_in {s s' : Int} {us : List Int} (h : ¬ s = s') (h1 : s' = -1) : smE s s' us = decide (s ∈ us) := by unfold smE; rw [decide_eq_false h, decide_eq_true h1]; simp
theorem vaTo_next {vs us : List Int} {k : Nat} (h : vaTo vs us k = true) (h1 : decide (vs.getD k 0 ∈ us) = true) : vaTo vs us (k + 1) = true := by unfold vaTo; rw [h, h1]; rfl
theorem coTo_next {l : List VV} {ws us ws' : List Int} {k : Nat} (h : coTo l ws us ws' k = true) (h1 : coR l ws us ws' k = true) : coTo l ws us ws' (k + 1) = true := by unfold coTo; rw [h, h1]; rfl
set_option maxRecDepth 100000 in
set_option maxHeartbeats 6400000 in
theorem followsFrom_any {A A' V H V' H' : Option Addr} {lo hi lo1 hi1 lo2 hi2 lo3 hi3 lo4 hi4 a c0 q e n c m d n' c' m' d' : Nat} {ps vs ws us xs : List Int} {l : List VV} {lv sm lu su : Int} {w : World} (h : Ints w lo hi A a ps) (hg : geoB ps = true) (h' : Sch w A' q e l) (hlv : LvOk l q) (hv : Ints w lo1 hi1 V n vs) (hw : Ints w lo2 hi2 H m ws) (hu : Ints w lo3 hi3 V' n' us) (hx : Ints w lo4 hi4 H' m' xs) (h0 : 0 ≤ lv) (h1 : 0 ≤ lu) (hW : whB l ws = true) (hX : whB l xs = true) :
    Calls Tryz.prog 92 #[.agg #[.slice A a c0], .slice A' q e, .agg #[.int .i64 lv, .slice V n c, .slice H m d, .int .i64 sm], .agg #[.int .i64 lu, .slice V' n' c', .slice H' m' d', .int .i64 su]] w fun e w' => e = .returned (.bool (flB ps l (lv, vs, ws, sm) (lu, us, xs, su))) ∧ Keeps w w' := by
  obtain ⟨lo9, hi9, hz⟩ := h'.v
  have HQ := hid (Vars.len hz)
  have hq := hz.le
  have ha := h.le
  have hn := hv.le
  have HN := hid hv.1
  have HLV := hid hlv
  have HG := hid hg
  have HT := hid (tree_of hg)
  have HPL := hid h.1
  have HWW := hid hW
  have HXX := hid hX
  clear hg hlv hW hX
  obtain ⟨p, HP⟩ : ∃ p, Hid (flB ps l (lv, vs, ws, sm) (lu, us, xs, su) = p) := ⟨_, rfl⟩
  rw [HP.out]
  go_enter Tryz.func92, Tryz.ntmps92
  have kw := keeps_refl w
  replace kw := Keeps.trans kw (keeps_alloc w (.cells #[.slice A a c0] 32))
  have b4 : B1 (w.alloc (.cells #[.slice A a c0] 32)) w.heap.size (.slice A a c0) := B1.new' (by simp)
  replace b4 := b4.keeps (keeps_alloc (w.alloc (.cells #[.slice A a c0] 32)) (.cells #[.int .i64 lv, .slice V n c, .slice H m d, .int .i64 sm] 61))
  replace kw := Keeps.trans kw (keeps_alloc (w.alloc (.cells #[.slice A a c0] 32)) (.cells #[.int .i64 lv, .slice V n c, .slice H m d, .int .i64 sm] 61))
  have b6 : Bl ((w.alloc (.cells #[.slice A a c0] 32)).alloc (.cells #[.int .i64 lv, .slice V n c, .slice H m d, .int .i64 sm] 61)) (w.heap.size + 1) [.int .i64 lv, .slice V n c, .slice H m d, .int .i64 sm] := Bl.new' (by simp) (by simp)
  replace b4 := b4.keeps (keeps_alloc ((w.alloc (.cells #[.slice A a c0] 32)).alloc (.cells #[.int .i64 lv, .slice V n c, .slice H m d, .int .i64 sm] 61)) (.cells #[.int .i64 lu, .slice V' n' c', .slice H' m' d', .int .i64 su] 61))
  replace b6 := b6.keeps (keeps_alloc ((w.alloc (.cells #[.slice A a c0] 32)).alloc (.cells #[.int .i64 lv, .slice V n c, .slice H m d, .int .i64 sm] 61)) (.cells #[.int .i64 lu, .slice V' n' c', .slice H' m' d', .int .i64 su] 61))
  replace kw := Keeps.trans kw (keeps_alloc ((w.alloc (.cells #[.slice A a c0] 32)).alloc (.cells #[.int .i64 lv, .slice V n c, .slice H m d, .int .i64 sm] 61)) (.cells #[.int .i64 lu, .slice V' n' c', .slice H' m' d', .int .i64 su] 61))
  have b7 : Bl (((w.alloc (.cells #[.slice A a c0] 32)).alloc (.cells #[.int .i64 lv, .slice V n c, .slice H m d, .int .i64 sm] 61)).alloc (.cells #[.int .i64 lu, .slice V' n' c', .slice H' m' d', .int .i64 su] 61)) (w.heap.size + 1 + 1) [.int .i64 lu, .slice V' n' c', .slice H' m' d', .int .i64 su] := Bl.new' (by simp) (by simp)
  by_cases he : lv = lu
  · have t0 : (lv == lu) = true := by rw [beq_iff_eq]; exact he
    have t9 : (lv != lu) = false := by rw [bne, t0]; rfl
    have HLB := hid (show lvlB ps lv lu = true by rw [he]; exact lvlB_self _ _)
    clear he
    obtain ⟨ca1, fa1⟩ := id b4
    have ca2_0 := (b6.2 0 _ rfl).1
    have ca2_1 := (b6.2 1 _ rfl).1
    have ca2_2 := (b6.2 2 _ rfl).1
    have ca2_3 := (b6.2 3 _ rfl).1
    have ca3_0 := (b7.2 0 _ rfl).1
    have ca3_1 := (b7.2 1 _ rfl).1
    have ca3_2 := (b7.2 2 _ rfl).1
    have ca3_3 := (b7.2 3 _ rfl).1
    go_wp2_with fail
    clear ca1 fa1 ca2_0 ca2_1 ca2_2 ca2_3 ca3_0 ca3_1 ca3_2 ca3_3
    go_loopw [51] (fun i wr => ∃ k : Nat, k ≤ n ∧ i = .int .i64 k ∧ Hid (vaTo vs us k = true) ∧ Bl wr (w.heap.size + 1) [.int .i64 lv, .slice V n c, .slice H m d, .int .i64 sm] ∧ Bl wr (w.heap.size + 1 + 1) [.int .i64 lu, .slice V' n' c', .slice H' m' d', .int .i64 su] ∧ Keeps w wr) (fun i _ => n - (intOf i).toNat)
    case atStart => exact ⟨0, Nat.zero_le _, rfl, hid rfl, b6, b7, kw⟩
    clear b4 b6 b7 kw
    case round =>
      obtain ⟨k, hk, rfl, HK, b6, b7, kw⟩ := hrel
      by_cases hlt : k < n
      · obtain ⟨bl, ol, x, rfl, _, _, hcx, hxx⟩ := (hv.keeps kw).at_ hlt
        have HXK := hid hxx.out
        clear hxx
        have hi1 : (k : Int) < (n : Int) := by omega
        have ca4_0 := (b6.2 0 _ rfl).1
        have ca4_1 := (b6.2 1 _ rfl).1
        have ca4_2 := (b6.2 2 _ rfl).1
        have ca4_3 := (b6.2 3 _ rfl).1
        have ca5_0 := (b7.2 0 _ rfl).1
        have ca5_1 := (b7.2 1 _ rfl).1
        have ca5_2 := (b7.2 2 _ rfl).1
        have ca5_3 := (b7.2 3 _ rfl).1
        go_wp2_with fail
        clear ca4_0 ca4_1 ca4_2 ca4_3 ca5_0 ca5_1 ca5_2 ca5_3
        obtain ⟨pH1, H1⟩ : ∃ pB, Hid (decide (x ∈ us) = pB) := ⟨_, rfl⟩
        refine (flop (containsI_any (v := x) (hu.keeps kw))).mono ?_
        rintro e w' ⟨rfl, rfl⟩
        rw [H1.out]
        cases pH1
        · obtain rfl : p = false := HP.out.symm.trans (flB_va HN.out hlt (by rw [← HXK.out]; exact of_decide_eq_false H1.out))
          have ca6_0 := (b6.2 0 _ rfl).1
          have ca6_1 := (b6.2 1 _ rfl).1
          have ca6_2 := (b6.2 2 _ rfl).1
          have ca6_3 := (b6.2 3 _ rfl).1
          have ca7_0 := (b7.2 0 _ rfl).1
          have ca7_1 := (b7.2 1 _ rfl).1
          have ca7_2 := (b7.2 2 _ rfl).1
          have ca7_3 := (b7.2 3 _ rfl).1
          go_wp2_with fail
          clear ca6_0 ca6_1 ca6_2 ca6_3 ca7_0 ca7_1 ca7_2 ca7_3
          go_ret
          exact ⟨ret_bool rfl, kw⟩
        · skip
          have HM := hid (vaTo_next (vs := vs) HK.out (by rw [← HXK.out]; exact H1.out))
          have ca6_0 := (b6.2 0 _ rfl).1
          have ca6_1 := (b6.2 1 _ rfl).1
          have ca6_2 := (b6.2 2 _ rfl).1
          have ca6_3 := (b6.2 3 _ rfl).1
          have ca7_0 := (b7.2 0 _ rfl).1
          have ca7_1 := (b7.2 1 _ rfl).1
          have ca7_2 := (b7.2 2 _ rfl).1
          have ca7_3 := (b7.2 3 _ rfl).1
          go_wp2_with fail
          clear ca6_0 ca6_1 ca6_2 ca6_3 ca7_0 ca7_1 ca7_2 ca7_3
          go_roundw
          case rel => exact ⟨k + 1, by omega, by go_num, HM, b6, b7, kw⟩
          case measure => simp [intOf]; omega
      obtain rfl : n = k := by omega
      have HVA := HK
      clear HK
      have hi1 : ¬ (n : Int) < (n : Int) := by omega
      have ca4_0 := (b6.2 0 _ rfl).1
      have ca4_1 := (b6.2 1 _ rfl).1
      have ca4_2 := (b6.2 2 _ rfl).1
      have ca4_3 := (b6.2 3 _ rfl).1
      have ca5_0 := (b7.2 0 _ rfl).1
      have ca5_1 := (b7.2 1 _ rfl).1
      have ca5_2 := (b7.2 2 _ rfl).1
      have ca5_3 := (b7.2 3 _ rfl).1
      go_wp2_with fail
      clear ca4_0 ca4_1 ca4_2 ca4_3 ca5_0 ca5_1 ca5_2 ca5_3
      go_loopw [63] (fun i wr => ∃ j : Nat, j ≤ q ∧ i = .int .i64 j ∧ Hid (coTo l ws us xs j = true) ∧ Bl wr (w.heap.size + 1) [.int .i64 lv, .slice V n c, .slice H m d, .int .i64 sm] ∧ Bl wr (w.heap.size + 1 + 1) [.int .i64 lu, .slice V' n' c', .slice H' m' d', .int .i64 su] ∧ Keeps w wr) (fun i _ => q - (intOf i).toNat)
      case atStart => exact ⟨0, Nat.zero_le _, rfl, hid rfl, b6, b7, kw⟩
      clear b6 b7 kw
      case round =>
        obtain ⟨j, hj, rfl, HK, b6, b7, kw⟩ := hrel
        by_cases hlt : j < q
        · have hi1 : (j : Int) < (q : Int) := by omega
          obtain ⟨ca, HA⟩ : ∃ z, Hid (cnI l ws j = z) := ⟨_, rfl⟩
          obtain ⟨cb, HB⟩ : ∃ z, Hid (cnI l xs j = z) := ⟨_, rfl⟩
          have HAB := hid (show 0 ≤ ca ∧ ca ≤ 255 by have := cn_bd HQ.out HLV.out HWW.out hlt; rw [HA.out] at this; exact this)
          obtain ⟨pM, HM⟩ : ∃ z, Hid (decide ((j : Int) ∈ us) = z) := ⟨_, rfl⟩
          go_wp2_with fail
          have q0_b6 : wr.cell? ⟨w.heap.size + 1, 0, none⟩ = some (.int .i64 lv) := (b6.2 0 _ rfl).1
          have rq0_b6 := fun d os => cell_regrown q0_b6 d os
          have q1_b6 : wr.cell? ⟨w.heap.size + 1, 1, none⟩ = some (.slice V n c) := (b6.2 1 _ rfl).1
          have rq1_b6 := fun d os => cell_regrown q1_b6 d os
          have q2_b6 : wr.cell? ⟨w.heap.size + 1, 2, none⟩ = some (.slice H m d) := (b6.2 2 _ rfl).1
          have rq2_b6 := fun d os => cell_regrown q2_b6 d os
          have q3_b6 : wr.cell? ⟨w.heap.size + 1, 3, none⟩ = some (.int .i64 sm) := (b6.2 3 _ rfl).1
          have rq3_b6 := fun d os => cell_regrown q3_b6 d os
          have q0_b7 : wr.cell? ⟨w.heap.size + 1 + 1, 0, none⟩ = some (.int .i64 lu) := (b7.2 0 _ rfl).1
          have rq0_b7 := fun d os => cell_regrown q0_b7 d os
          have q1_b7 : wr.cell? ⟨w.heap.size + 1 + 1, 1, none⟩ = some (.slice V' n' c') := (b7.2 1 _ rfl).1
          have rq1_b7 := fun d os => cell_regrown q1_b7 d os
          have q2_b7 : wr.cell? ⟨w.heap.size + 1 + 1, 2, none⟩ = some (.slice H' m' d') := (b7.2 2 _ rfl).1
          have rq2_b7 := fun d os => cell_regrown q2_b7 d os
          have q3_b7 : wr.cell? ⟨w.heap.size + 1 + 1, 3, none⟩ = some (.int .i64 su) := (b7.2 3 _ rfl).1
          have rq3_b7 := fun d os => cell_regrown q3_b7 d os
          have cQ0 := hid (fun (dQ : Nat) (oQ : Array Obj) => conditionOf_any (lv := lv) (sm := sm) (V := V) (n := n) (c := c) (d := d) (hw.keeps (Keeps.trans kw (below_regrown wr dQ oQ))) (h'.keeps (Keeps.trans kw (below_regrown wr dQ oQ))) HLV.out HWW.out hlt)
          rw [HA.out] at cQ0
          have cQ1 := hid (fun (dQ : Nat) (oQ : Array Obj) => conditionOf_any (lv := lu) (sm := su) (V := V') (n := n') (c := c') (d := d') (hx.keeps (Keeps.trans kw (below_regrown wr dQ oQ))) (h'.keeps (Keeps.trans kw (below_regrown wr dQ oQ))) HLV.out HXX.out hlt)
          rw [HB.out] at cQ1
          refine wp_region_quiet_below (by kernel_rfl) (by kernel_rfl) ?_
          iterate 10 (go_big_quiet_step ((first | with_reducible exact Calls.regrown_of (cQ0.out _ _) | with_reducible exact Calls.regrown_of (cQ1.out _ _))))
          refine wpQuiet_nil ?_
          intro _ hw'
          obtain ⟨⟨dq, osq⟩, hw''⟩ := hw'
          subst hw''
          clear q0_b6 rq0_b6 q1_b6 rq1_b6 q2_b6 rq2_b6 q3_b6 rq3_b6 q0_b7 rq0_b7 q1_b7 rq1_b7 q2_b7 rq2_b7 q3_b7 rq3_b7 cQ0 cQ1
          have kQ := below_regrown wr dq osq
          obtain ⟨wQ6, hwQ⟩ : ∃ u, u = grow (redrawn wr dq) osq := ⟨_, rfl⟩
          rw [← hwQ] at kQ
          rw [← hwQ]
          clear hwQ
          replace b6 := b6.keeps kQ
          replace b7 := b7.keeps kQ
          replace kw := Keeps.trans kw kQ
          have lt7 := b7.lt
          have sz8 := kw.size
          clear kQ
          have ca9_0 := (b6.2 0 _ rfl).1
          have ca9_1 := (b6.2 1 _ rfl).1
          have ca9_2 := (b6.2 2 _ rfl).1
          have ca9_3 := (b6.2 3 _ rfl).1
          have ca10_0 := (b7.2 0 _ rfl).1
          have ca10_1 := (b7.2 1 _ rfl).1
          have ca10_2 := (b7.2 2 _ rfl).1
          have ca10_3 := (b7.2 3 _ rfl).1
          go_wp2_with fail
          clear ca9_0 ca9_1 ca9_2 ca9_3 ca10_0 ca10_1 ca10_2 ca10_3
          refine (flop (containsI_any (v := (j : Int)) (hu.keeps kw))).mono ?_
          rintro e w' ⟨rfl, rfl⟩
          rw [HM.out]
          cases pM
          · have ca11_0 := (b6.2 0 _ rfl).1
            have ca11_1 := (b6.2 1 _ rfl).1
            have ca11_2 := (b6.2 2 _ rfl).1
            have ca11_3 := (b6.2 3 _ rfl).1
            have ca12_0 := (b7.2 0 _ rfl).1
            have ca12_1 := (b7.2 1 _ rfl).1
            have ca12_2 := (b7.2 2 _ rfl).1
            have ca12_3 := (b7.2 3 _ rfl).1
            go_wp2_with fail
            clear ca11_0 ca11_1 ca11_2 ca11_3 ca12_0 ca12_1 ca12_2 ca12_3
            refine (flop (containsI_any (v := (j : Int)) (hu.keeps kw))).mono ?_
            rintro e w' ⟨rfl, rfl⟩
            rw [HM.out]
            by_cases ec : ca = cb
            · have t1 : (ca == cb) = true := by rw [beq_iff_eq]; exact ec
              have HY := hid ((coR_out (of_decide_eq_false HM.out) HA.out HB.out).trans (decide_eq_true ec))
              clear ec
              have HC := hid (coTo_next (l := l) (ws := ws) (us := us) (ws' := xs) HK.out HY.out)
              have ca13_0 := (b6.2 0 _ rfl).1
              have ca13_1 := (b6.2 1 _ rfl).1
              have ca13_2 := (b6.2 2 _ rfl).1
              have ca13_3 := (b6.2 3 _ rfl).1
              have ca14_0 := (b7.2 0 _ rfl).1
              have ca14_1 := (b7.2 1 _ rfl).1
              have ca14_2 := (b7.2 2 _ rfl).1
              have ca14_3 := (b7.2 3 _ rfl).1
              go_wp2_with fail
              clear ca13_0 ca13_1 ca13_2 ca13_3 ca14_0 ca14_1 ca14_2 ca14_3
              go_roundw
              case rel => exact ⟨j + 1, by omega, by go_num, HC, b6, b7, kw⟩
              case measure => simp [intOf]; omega
            have t1 : (ca == cb) = false := by rw [beq_eq_false_iff_ne]; exact ec
            have HY := hid ((coR_out (of_decide_eq_false HM.out) HA.out HB.out).trans (decide_eq_false ec))
            clear ec
            obtain rfl : p = false := HP.out.symm.trans (flB_co HQ.out hlt HY.out)
            have ca13_0 := (b6.2 0 _ rfl).1
            have ca13_1 := (b6.2 1 _ rfl).1
            have ca13_2 := (b6.2 2 _ rfl).1
            have ca13_3 := (b6.2 3 _ rfl).1
            have ca14_0 := (b7.2 0 _ rfl).1
            have ca14_1 := (b7.2 1 _ rfl).1
            have ca14_2 := (b7.2 2 _ rfl).1
            have ca14_3 := (b7.2 3 _ rfl).1
            go_wp2_with fail
            clear ca13_0 ca13_1 ca13_2 ca13_3 ca14_0 ca14_1 ca14_2 ca14_3
            go_ret
            exact ⟨ret_bool rfl, kw⟩
          by_cases eb : bNot ca cb = 0
          rotate_left
          · have t2 : ¬ bits BinOp.andNot IntKind.i64 ca cb = 0 := eb
            have HY := hid ((coR_in (of_decide_eq_true HM.out) HA.out HB.out).trans (decide_eq_false (fun e9 => eb ((bits_eq HAB.out).2 e9))))
            clear eb
            obtain rfl : p = false := HP.out.symm.trans (flB_co HQ.out hlt HY.out)
            have ca11_0 := (b6.2 0 _ rfl).1
            have ca11_1 := (b6.2 1 _ rfl).1
            have ca11_2 := (b6.2 2 _ rfl).1
            have ca11_3 := (b6.2 3 _ rfl).1
            have ca12_0 := (b7.2 0 _ rfl).1
            have ca12_1 := (b7.2 1 _ rfl).1
            have ca12_2 := (b7.2 2 _ rfl).1
            have ca12_3 := (b7.2 3 _ rfl).1
            go_wp2_with fail
            clear ca11_0 ca11_1 ca11_2 ca11_3 ca12_0 ca12_1 ca12_2 ca12_3
            go_ret
            exact ⟨ret_bool rfl, kw⟩
          have t2 : bits BinOp.andNot IntKind.i64 ca cb = 0 := eb
          have HY := hid ((coR_in (of_decide_eq_true HM.out) HA.out HB.out).trans (decide_eq_true ((bits_eq HAB.out).1 eb)))
          clear eb
          have ca11_0 := (b6.2 0 _ rfl).1
          have ca11_1 := (b6.2 1 _ rfl).1
          have ca11_2 := (b6.2 2 _ rfl).1
          have ca11_3 := (b6.2 3 _ rfl).1
          have ca12_0 := (b7.2 0 _ rfl).1
          have ca12_1 := (b7.2 1 _ rfl).1
          have ca12_2 := (b7.2 2 _ rfl).1
          have ca12_3 := (b7.2 3 _ rfl).1
          go_wp2_with fail
          clear ca11_0 ca11_1 ca11_2 ca11_3 ca12_0 ca12_1 ca12_2 ca12_3
          refine (flop (containsI_any (v := (j : Int)) (hu.keeps kw))).mono ?_
          rintro e w' ⟨rfl, rfl⟩
          rw [HM.out]
          have HC := hid (coTo_next (l := l) (ws := ws) (us := us) (ws' := xs) HK.out HY.out)
          have ca13_0 := (b6.2 0 _ rfl).1
          have ca13_1 := (b6.2 1 _ rfl).1
          have ca13_2 := (b6.2 2 _ rfl).1
          have ca13_3 := (b6.2 3 _ rfl).1
          have ca14_0 := (b7.2 0 _ rfl).1
          have ca14_1 := (b7.2 1 _ rfl).1
          have ca14_2 := (b7.2 2 _ rfl).1
          have ca14_3 := (b7.2 3 _ rfl).1
          go_wp2_with fail
          clear ca13_0 ca13_1 ca13_2 ca13_3 ca14_0 ca14_1 ca14_2 ca14_3
          go_roundw
          case rel => exact ⟨j + 1, by omega, by go_num, HC, b6, b7, kw⟩
          case measure => simp [intOf]; omega
        obtain rfl : q = j := by omega
        have HE := hid ((flB_yes (t := (lv, vs, ws, sm)) (u := (lu, us, xs, su)) HN.out HQ.out HLB.out HVA.out HK.out).symm.trans HP.out)
        have hi1 : ¬ (q : Int) < (q : Int) := by omega
        by_cases es : sm = su
        · have t1 : (sm == su) = true := by rw [beq_iff_eq]; exact es
          have t3 : (sm != su) = false := by rw [bne, t1]; rfl
          obtain rfl : p = true := HE.out.symm.trans (smE_eq es)
          clear es
          have ca6_0 := (b6.2 0 _ rfl).1
          have ca6_1 := (b6.2 1 _ rfl).1
          have ca6_2 := (b6.2 2 _ rfl).1
          have ca6_3 := (b6.2 3 _ rfl).1
          have ca7_0 := (b7.2 0 _ rfl).1
          have ca7_1 := (b7.2 1 _ rfl).1
          have ca7_2 := (b7.2 2 _ rfl).1
          have ca7_3 := (b7.2 3 _ rfl).1
          go_wp2_with fail
          clear ca6_0 ca6_1 ca6_2 ca6_3 ca7_0 ca7_1 ca7_2 ca7_3
          go_ret
          exact ⟨ret_bool rfl, kw⟩
        have t1 : (sm == su) = false := by rw [beq_eq_false_iff_ne]; exact es
        by_cases em : su = -1
        rotate_left
        · have t2 : (su == -1) = false := by rw [beq_eq_false_iff_ne]; exact em
          obtain rfl : p = false := HE.out.symm.trans (smE_no es em)
          clear es em
          have ca6_0 := (b6.2 0 _ rfl).1
          have ca6_1 := (b6.2 1 _ rfl).1
          have ca6_2 := (b6.2 2 _ rfl).1
          have ca6_3 := (b6.2 3 _ rfl).1
          have ca7_0 := (b7.2 0 _ rfl).1
          have ca7_1 := (b7.2 1 _ rfl).1
          have ca7_2 := (b7.2 2 _ rfl).1
          have ca7_3 := (b7.2 3 _ rfl).1
          go_wp2_with fail
          clear ca6_0 ca6_1 ca6_2 ca6_3 ca7_0 ca7_1 ca7_2 ca7_3
          go_ret
          exact ⟨ret_bool rfl, kw⟩
        have t2 : (su == -1) = true := by rw [beq_iff_eq]; exact em
        obtain rfl : p = decide (sm ∈ us) := HE.out.symm.trans (smE_in es em)
        clear es em
        have ca6_0 := (b6.2 0 _ rfl).1
        have ca6_1 := (b6.2 1 _ rfl).1
        have ca6_2 := (b6.2 2 _ rfl).1
        have ca6_3 := (b6.2 3 _ rfl).1
        have ca7_0 := (b7.2 0 _ rfl).1
        have ca7_1 := (b7.2 1 _ rfl).1
        have ca7_2 := (b7.2 2 _ rfl).1
        have ca7_3 := (b7.2 3 _ rfl).1
        go_wp2_with fail
        clear ca6_0 ca6_1 ca6_2 ca6_3 ca7_0 ca7_1 ca7_2 ca7_3
        refine (flop (containsI_any (v := sm) (hu.keeps kw))).mono ?_
        rintro e w' ⟨rfl, rfl⟩
        have ca8_0 := (b6.2 0 _ rfl).1
        have ca8_1 := (b6.2 1 _ rfl).1
        have ca8_2 := (b6.2 2 _ rfl).1
        have ca8_3 := (b6.2 3 _ rfl).1
        have ca9_0 := (b7.2 0 _ rfl).1
        have ca9_1 := (b7.2 1 _ rfl).1
        have ca9_2 := (b7.2 2 _ rfl).1
        have ca9_3 := (b7.2 3 _ rfl).1
        go_wp2_with fail
        clear ca8_0 ca8_1 ca8_2 ca8_3 ca9_0 ca9_1 ca9_2 ca9_3
        go_ret
        exact ⟨ret_bool rfl, kw⟩
  have t0 : (lv == lu) = false := by rw [beq_eq_false_iff_ne]; exact he
  have t9 : (lv != lu) = true := by rw [bne, t0]; rfl
  by_cases hle : lu < lv
  · have HLB := hid (lvlB_gt (ps := ps) hle)
    obtain ⟨ca1, fa1⟩ := id b4
    obtain rfl : p = false := HP.out.symm.trans (flB_lv HLB.out)
    have ca2_0 := (b6.2 0 _ rfl).1
    have ca2_1 := (b6.2 1 _ rfl).1
    have ca2_2 := (b6.2 2 _ rfl).1
    have ca2_3 := (b6.2 3 _ rfl).1
    have ca3_0 := (b7.2 0 _ rfl).1
    have ca3_1 := (b7.2 1 _ rfl).1
    have ca3_2 := (b7.2 2 _ rfl).1
    have ca3_3 := (b7.2 3 _ rfl).1
    go_wp2_with fail
    clear ca1 fa1 ca2_0 ca2_1 ca2_2 ca2_3 ca3_0 ca3_1 ca3_2 ca3_3
    go_ret
    exact ⟨ret_bool rfl, kw⟩
  obtain ⟨ca1, fa1⟩ := id b4
  have ca2_0 := (b6.2 0 _ rfl).1
  have ca2_1 := (b6.2 1 _ rfl).1
  have ca2_2 := (b6.2 2 _ rfl).1
  have ca2_3 := (b6.2 3 _ rfl).1
  have ca3_0 := (b7.2 0 _ rfl).1
  have ca3_1 := (b7.2 1 _ rfl).1
  have ca3_2 := (b7.2 2 _ rfl).1
  have ca3_3 := (b7.2 3 _ rfl).1
  go_wp2_with fail
  clear ca1 fa1 ca2_0 ca2_1 ca2_2 ca2_3 ca3_0 ca3_1 ca3_2 ca3_3
  refine (leavesOf_any (h.keeps kw) HG.out).mono ?_
  rintro e w4 ⟨LA, LC, rfl, mL, k4⟩
  replace b4 := b4.keeps k4
  replace b6 := b6.keeps k4
  replace b7 := b7.keeps k4
  replace kw := Keeps.trans kw k4
  have lt5 := b7.lt
  have sz6 := kw.size
  clear k4
  obtain ⟨LN, hLN⟩ : ∃ x, (leaves ps).length = x := ⟨_, rfl⟩
  rw [hLN] at mL
  rw [hLN]
  have HLN := hid hLN
  clear hLN
  have mLi := mL.1
  have hLN9 := mLi.le
  clear mL
  obtain ⟨ca7, fa7⟩ := id b4
  have ca8_0 := (b6.2 0 _ rfl).1
  have ca8_1 := (b6.2 1 _ rfl).1
  have ca8_2 := (b6.2 2 _ rfl).1
  have ca8_3 := (b6.2 3 _ rfl).1
  have ca9_0 := (b7.2 0 _ rfl).1
  have ca9_1 := (b7.2 1 _ rfl).1
  have ca9_2 := (b7.2 2 _ rfl).1
  have ca9_3 := (b7.2 3 _ rfl).1
  go_wp2_with fail
  clear ca7 fa7 ca8_0 ca8_1 ca8_2 ca8_3 ca9_0 ca9_1 ca9_2 ca9_3
  go_loopw [30] (fun i wr => ∃ k : Nat, k ≤ LN ∧ i = .int .i64 k ∧ Hid (lvTo ps lv lu k = true) ∧ B1 wr w.heap.size (.slice A a c0) ∧ Bl wr (w.heap.size + 1) [.int .i64 lv, .slice V n c, .slice H m d, .int .i64 sm] ∧ Bl wr (w.heap.size + 1 + 1) [.int .i64 lu, .slice V' n' c', .slice H' m' d', .int .i64 su] ∧ Keeps w4 wr ∧ Keeps w wr) (fun i _ => LN - (intOf i).toNat)
  case atStart => exact ⟨0, Nat.zero_le _, rfl, hid rfl, b4, b6, b7, keeps_refl _, kw⟩
  clear b4 b6 b7 kw
  case round =>
    obtain ⟨k, hk, rfl, HK, b4, b6, b7, kv, kw⟩ := hrel
    by_cases hlt : k < LN
    · obtain ⟨bl, ol, x, rfl, _, _, hcx, hxx⟩ := (mLi.keeps kv).at_ hlt
      have hla := leaf_area (ps := ps) (k := k) (by rw [HLN.out]; exact hlt)
      rw [← hxx.out, HPL.out] at hla
      obtain ⟨rfl, hla2⟩ := hla
      obtain ⟨X, hX⟩ : ∃ X, lfAt ps k = X := ⟨_, rfl⟩
      rw [hX] at hcx hla2
      have HX9 := hid hX
      clear hX hxx
      have hi1 : (k : Int) < (LN : Int) := by omega
      obtain ⟨D, hD⟩ : ∃ z, dep ps X = z := ⟨_, rfl⟩
      have HD := hid hD
      clear hD
      obtain ⟨ca10, fa10⟩ := id b4
      have ca11_0 := (b6.2 0 _ rfl).1
      have ca11_1 := (b6.2 1 _ rfl).1
      have ca11_2 := (b6.2 2 _ rfl).1
      have ca11_3 := (b6.2 3 _ rfl).1
      have ca12_0 := (b7.2 0 _ rfl).1
      have ca12_1 := (b7.2 1 _ rfl).1
      have ca12_2 := (b7.2 2 _ rfl).1
      have ca12_3 := (b7.2 3 _ rfl).1
      go_wp2_with fail
      clear ca10 fa10 ca11_0 ca11_1 ca11_2 ca11_3 ca12_0 ca12_1 ca12_2 ca12_3
      refine (depthOf_any (h.keeps kw) HT.out hla2).mono ?_
      rintro e w13 ⟨rfl, k13⟩
      rw [HD.out]
      replace b4 := b4.keeps k13
      replace b6 := b6.keeps k13
      replace b7 := b7.keeps k13
      replace kw := Keeps.trans kw k13
      replace kv := Keeps.trans kv k13
      have lt14 := b7.lt
      have sz15 := kw.size
      have sz16 := kv.size
      clear k13
      by_cases q1 : lv ≤ (D : Int)
      rotate_left
      · have HM := hid (lvTo_next HK.out (by rw [HX9.out, HD.out]; omega))
        obtain ⟨ca17, fa17⟩ := id b4
        have ca18_0 := (b6.2 0 _ rfl).1
        have ca18_1 := (b6.2 1 _ rfl).1
        have ca18_2 := (b6.2 2 _ rfl).1
        have ca18_3 := (b6.2 3 _ rfl).1
        have ca19_0 := (b7.2 0 _ rfl).1
        have ca19_1 := (b7.2 1 _ rfl).1
        have ca19_2 := (b7.2 2 _ rfl).1
        have ca19_3 := (b7.2 3 _ rfl).1
        go_wp2_with fail
        clear ca17 fa17 ca18_0 ca18_1 ca18_2 ca18_3 ca19_0 ca19_1 ca19_2 ca19_3
        go_roundw
        case rel => exact ⟨k + 1, by omega, by go_num, HM, b4, b6, b7, kv, kw⟩
        case measure => simp [intOf]; omega
      by_cases q2 : (D : Int) < lu
      · have HLB := hid (lvlB_no (ps := ps) (a := lv) (b := lu) HLN.out hlt (by omega) (by rw [HX9.out, HD.out]; exact q1) (by rw [HX9.out, HD.out]; exact q2))
        obtain ⟨ca17, fa17⟩ := id b4
        obtain rfl : p = false := HP.out.symm.trans (flB_lv HLB.out)
        have ca18_0 := (b6.2 0 _ rfl).1
        have ca18_1 := (b6.2 1 _ rfl).1
        have ca18_2 := (b6.2 2 _ rfl).1
        have ca18_3 := (b6.2 3 _ rfl).1
        have ca19_0 := (b7.2 0 _ rfl).1
        have ca19_1 := (b7.2 1 _ rfl).1
        have ca19_2 := (b7.2 2 _ rfl).1
        have ca19_3 := (b7.2 3 _ rfl).1
        go_wp2_with fail
        clear ca17 fa17 ca18_0 ca18_1 ca18_2 ca18_3 ca19_0 ca19_1 ca19_2 ca19_3
        go_ret
        exact ⟨ret_bool rfl, kw⟩
      have HM := hid (lvTo_next HK.out (by rw [HX9.out, HD.out]; omega))
      obtain ⟨ca17, fa17⟩ := id b4
      have ca18_0 := (b6.2 0 _ rfl).1
      have ca18_1 := (b6.2 1 _ rfl).1
      have ca18_2 := (b6.2 2 _ rfl).1
      have ca18_3 := (b6.2 3 _ rfl).1
      have ca19_0 := (b7.2 0 _ rfl).1
      have ca19_1 := (b7.2 1 _ rfl).1
      have ca19_2 := (b7.2 2 _ rfl).1
      have ca19_3 := (b7.2 3 _ rfl).1
      go_wp2_with fail
      clear ca17 fa17 ca18_0 ca18_1 ca18_2 ca18_3 ca19_0 ca19_1 ca19_2 ca19_3
      go_roundw
      case rel => exact ⟨k + 1, by omega, by go_num, HM, b4, b6, b7, kv, kw⟩
      case measure => simp [intOf]; omega
    obtain rfl : LN = k := by omega
    have HLB := hid (lvlB_yes (ps := ps) HLN.out (show lv < lu by omega) HK.out)
    clear HK
    have hi1 : ¬ (LN : Int) < (LN : Int) := by omega
    obtain ⟨ca10, fa10⟩ := id b4
    have ca11_0 := (b6.2 0 _ rfl).1
    have ca11_1 := (b6.2 1 _ rfl).1
    have ca11_2 := (b6.2 2 _ rfl).1
    have ca11_3 := (b6.2 3 _ rfl).1
    have ca12_0 := (b7.2 0 _ rfl).1
    have ca12_1 := (b7.2 1 _ rfl).1
    have ca12_2 := (b7.2 2 _ rfl).1
    have ca12_3 := (b7.2 3 _ rfl).1
    go_wp2_with fail
    clear ca10 fa10 ca11_0 ca11_1 ca11_2 ca11_3 ca12_0 ca12_1 ca12_2 ca12_3
    go_loopw [51] (fun i wr => ∃ k : Nat, k ≤ n ∧ i = .int .i64 k ∧ Hid (vaTo vs us k = true) ∧ Bl wr (w.heap.size + 1) [.int .i64 lv, .slice V n c, .slice H m d, .int .i64 sm] ∧ Bl wr (w.heap.size + 1 + 1) [.int .i64 lu, .slice V' n' c', .slice H' m' d', .int .i64 su] ∧ Keeps w wr) (fun i _ => n - (intOf i).toNat)
    case atStart => exact ⟨0, Nat.zero_le _, rfl, hid rfl, b6, b7, kw⟩
    clear b4 b6 b7 kw
    case round =>
      obtain ⟨k, hk, rfl, HK, b6, b7, kw⟩ := hrel
      by_cases hlt : k < n
      · obtain ⟨bl, ol, x, rfl, _, _, hcx, hxx⟩ := (hv.keeps kw).at_ hlt
        have HXK := hid hxx.out
        clear hxx
        have hi1 : (k : Int) < (n : Int) := by omega
        have ca13_0 := (b6.2 0 _ rfl).1
        have ca13_1 := (b6.2 1 _ rfl).1
        have ca13_2 := (b6.2 2 _ rfl).1
        have ca13_3 := (b6.2 3 _ rfl).1
        have ca14_0 := (b7.2 0 _ rfl).1
        have ca14_1 := (b7.2 1 _ rfl).1
        have ca14_2 := (b7.2 2 _ rfl).1
        have ca14_3 := (b7.2 3 _ rfl).1
        go_wp2_with fail
        clear ca13_0 ca13_1 ca13_2 ca13_3 ca14_0 ca14_1 ca14_2 ca14_3
        obtain ⟨pH1, H1⟩ : ∃ pB, Hid (decide (x ∈ us) = pB) := ⟨_, rfl⟩
        refine (flop (containsI_any (v := x) (hu.keeps kw))).mono ?_
        rintro e w' ⟨rfl, rfl⟩
        rw [H1.out]
        cases pH1
        · obtain rfl : p = false := HP.out.symm.trans (flB_va HN.out hlt (by rw [← HXK.out]; exact of_decide_eq_false H1.out))
          have ca15_0 := (b6.2 0 _ rfl).1
          have ca15_1 := (b6.2 1 _ rfl).1
          have ca15_2 := (b6.2 2 _ rfl).1
          have ca15_3 := (b6.2 3 _ rfl).1
          have ca16_0 := (b7.2 0 _ rfl).1
          have ca16_1 := (b7.2 1 _ rfl).1
          have ca16_2 := (b7.2 2 _ rfl).1
          have ca16_3 := (b7.2 3 _ rfl).1
          go_wp2_with fail
          clear ca15_0 ca15_1 ca15_2 ca15_3 ca16_0 ca16_1 ca16_2 ca16_3
          go_ret
          exact ⟨ret_bool rfl, kw⟩
        · skip
          have HM := hid (vaTo_next (vs := vs) HK.out (by rw [← HXK.out]; exact H1.out))
          have ca15_0 := (b6.2 0 _ rfl).1
          have ca15_1 := (b6.2 1 _ rfl).1
          have ca15_2 := (b6.2 2 _ rfl).1
          have ca15_3 := (b6.2 3 _ rfl).1
          have ca16_0 := (b7.2 0 _ rfl).1
          have ca16_1 := (b7.2 1 _ rfl).1
          have ca16_2 := (b7.2 2 _ rfl).1
          have ca16_3 := (b7.2 3 _ rfl).1
          go_wp2_with fail
          clear ca15_0 ca15_1 ca15_2 ca15_3 ca16_0 ca16_1 ca16_2 ca16_3
          go_roundw
          case rel => exact ⟨k + 1, by omega, by go_num, HM, b6, b7, kw⟩
          case measure => simp [intOf]; omega
      obtain rfl : n = k := by omega
      have HVA := HK
      clear HK
      have hi1 : ¬ (n : Int) < (n : Int) := by omega
      have ca13_0 := (b6.2 0 _ rfl).1
      have ca13_1 := (b6.2 1 _ rfl).1
      have ca13_2 := (b6.2 2 _ rfl).1
      have ca13_3 := (b6.2 3 _ rfl).1
      have ca14_0 := (b7.2 0 _ rfl).1
      have ca14_1 := (b7.2 1 _ rfl).1
      have ca14_2 := (b7.2 2 _ rfl).1
      have ca14_3 := (b7.2 3 _ rfl).1
      go_wp2_with fail
      clear ca13_0 ca13_1 ca13_2 ca13_3 ca14_0 ca14_1 ca14_2 ca14_3
      go_loopw [63] (fun i wr => ∃ j : Nat, j ≤ q ∧ i = .int .i64 j ∧ Hid (coTo l ws us xs j = true) ∧ Bl wr (w.heap.size + 1) [.int .i64 lv, .slice V n c, .slice H m d, .int .i64 sm] ∧ Bl wr (w.heap.size + 1 + 1) [.int .i64 lu, .slice V' n' c', .slice H' m' d', .int .i64 su] ∧ Keeps w wr) (fun i _ => q - (intOf i).toNat)
      case atStart => exact ⟨0, Nat.zero_le _, rfl, hid rfl, b6, b7, kw⟩
      clear b6 b7 kw
      case round =>
        obtain ⟨j, hj, rfl, HK, b6, b7, kw⟩ := hrel
        by_cases hlt : j < q
        · have hi1 : (j : Int) < (q : Int) := by omega
          obtain ⟨ca, HA⟩ : ∃ z, Hid (cnI l ws j = z) := ⟨_, rfl⟩
          obtain ⟨cb, HB⟩ : ∃ z, Hid (cnI l xs j = z) := ⟨_, rfl⟩
          have HAB := hid (show 0 ≤ ca ∧ ca ≤ 255 by have := cn_bd HQ.out HLV.out HWW.out hlt; rw [HA.out] at this; exact this)
          obtain ⟨pM, HM⟩ : ∃ z, Hid (decide ((j : Int) ∈ us) = z) := ⟨_, rfl⟩
          go_wp2_with fail
          have q0_b6 : wr.cell? ⟨w.heap.size + 1, 0, none⟩ = some (.int .i64 lv) := (b6.2 0 _ rfl).1
          have rq0_b6 := fun d os => cell_regrown q0_b6 d os
          have q1_b6 : wr.cell? ⟨w.heap.size + 1, 1, none⟩ = some (.slice V n c) := (b6.2 1 _ rfl).1
          have rq1_b6 := fun d os => cell_regrown q1_b6 d os
          have q2_b6 : wr.cell? ⟨w.heap.size + 1, 2, none⟩ = some (.slice H m d) := (b6.2 2 _ rfl).1
          have rq2_b6 := fun d os => cell_regrown q2_b6 d os
          have q3_b6 : wr.cell? ⟨w.heap.size + 1, 3, none⟩ = some (.int .i64 sm) := (b6.2 3 _ rfl).1
          have rq3_b6 := fun d os => cell_regrown q3_b6 d os
          have q0_b7 : wr.cell? ⟨w.heap.size + 1 + 1, 0, none⟩ = some (.int .i64 lu) := (b7.2 0 _ rfl).1
          have rq0_b7 := fun d os => cell_regrown q0_b7 d os
          have q1_b7 : wr.cell? ⟨w.heap.size + 1 + 1, 1, none⟩ = some (.slice V' n' c') := (b7.2 1 _ rfl).1
          have rq1_b7 := fun d os => cell_regrown q1_b7 d os
          have q2_b7 : wr.cell? ⟨w.heap.size + 1 + 1, 2, none⟩ = some (.slice H' m' d') := (b7.2 2 _ rfl).1
          have rq2_b7 := fun d os => cell_regrown q2_b7 d os
          have q3_b7 : wr.cell? ⟨w.heap.size + 1 + 1, 3, none⟩ = some (.int .i64 su) := (b7.2 3 _ rfl).1
          have rq3_b7 := fun d os => cell_regrown q3_b7 d os
          have cQ0 := hid (fun (dQ : Nat) (oQ : Array Obj) => conditionOf_any (lv := lv) (sm := sm) (V := V) (n := n) (c := c) (d := d) (hw.keeps (Keeps.trans kw (below_regrown wr dQ oQ))) (h'.keeps (Keeps.trans kw (below_regrown wr dQ oQ))) HLV.out HWW.out hlt)
          rw [HA.out] at cQ0
          have cQ1 := hid (fun (dQ : Nat) (oQ : Array Obj) => conditionOf_any (lv := lu) (sm := su) (V := V') (n := n') (c := c') (d := d') (hx.keeps (Keeps.trans kw (below_regrown wr dQ oQ))) (h'.keeps (Keeps.trans kw (below_regrown wr dQ oQ))) HLV.out HXX.out hlt)
          rw [HB.out] at cQ1
          refine wp_region_quiet_below (by kernel_rfl) (by kernel_rfl) ?_
          iterate 10 (go_big_quiet_step ((first | with_reducible exact Calls.regrown_of (cQ0.out _ _) | with_reducible exact Calls.regrown_of (cQ1.out _ _))))
          refine wpQuiet_nil ?_
          intro _ hw'
          obtain ⟨⟨dq, osq⟩, hw''⟩ := hw'
          subst hw''
          clear q0_b6 rq0_b6 q1_b6 rq1_b6 q2_b6 rq2_b6 q3_b6 rq3_b6 q0_b7 rq0_b7 q1_b7 rq1_b7 q2_b7 rq2_b7 q3_b7 rq3_b7 cQ0 cQ1
          have kQ := below_regrown wr dq osq
          obtain ⟨wQ15, hwQ⟩ : ∃ u, u = grow (redrawn wr dq) osq := ⟨_, rfl⟩
          rw [← hwQ] at kQ
          rw [← hwQ]
          clear hwQ
          replace b6 := b6.keeps kQ
          replace b7 := b7.keeps kQ
          replace kw := Keeps.trans kw kQ
          have lt16 := b7.lt
          have sz17 := kw.size
          clear kQ
          have ca18_0 := (b6.2 0 _ rfl).1
          have ca18_1 := (b6.2 1 _ rfl).1
          have ca18_2 := (b6.2 2 _ rfl).1
          have ca18_3 := (b6.2 3 _ rfl).1
          have ca19_0 := (b7.2 0 _ rfl).1
          have ca19_1 := (b7.2 1 _ rfl).1
          have ca19_2 := (b7.2 2 _ rfl).1
          have ca19_3 := (b7.2 3 _ rfl).1
          go_wp2_with fail
          clear ca18_0 ca18_1 ca18_2 ca18_3 ca19_0 ca19_1 ca19_2 ca19_3
          refine (flop (containsI_any (v := (j : Int)) (hu.keeps kw))).mono ?_
          rintro e w' ⟨rfl, rfl⟩
          rw [HM.out]
          cases pM
          · have ca20_0 := (b6.2 0 _ rfl).1
            have ca20_1 := (b6.2 1 _ rfl).1
            have ca20_2 := (b6.2 2 _ rfl).1
            have ca20_3 := (b6.2 3 _ rfl).1
            have ca21_0 := (b7.2 0 _ rfl).1
            have ca21_1 := (b7.2 1 _ rfl).1
            have ca21_2 := (b7.2 2 _ rfl).1
            have ca21_3 := (b7.2 3 _ rfl).1
            go_wp2_with fail
            clear ca20_0 ca20_1 ca20_2 ca20_3 ca21_0 ca21_1 ca21_2 ca21_3
            refine (flop (containsI_any (v := (j : Int)) (hu.keeps kw))).mono ?_
            rintro e w' ⟨rfl, rfl⟩
            rw [HM.out]
            by_cases ec : ca = cb
            · have t1 : (ca == cb) = true := by rw [beq_iff_eq]; exact ec
              have HY := hid ((coR_out (of_decide_eq_false HM.out) HA.out HB.out).trans (decide_eq_true ec))
              clear ec
              have HC := hid (coTo_next (l := l) (ws := ws) (us := us) (ws' := xs) HK.out HY.out)
              have ca22_0 := (b6.2 0 _ rfl).1
              have ca22_1 := (b6.2 1 _ rfl).1
              have ca22_2 := (b6.2 2 _ rfl).1
              have ca22_3 := (b6.2 3 _ rfl).1
              have ca23_0 := (b7.2 0 _ rfl).1
              have ca23_1 := (b7.2 1 _ rfl).1
              have ca23_2 := (b7.2 2 _ rfl).1
              have ca23_3 := (b7.2 3 _ rfl).1
              go_wp2_with fail
              clear ca22_0 ca22_1 ca22_2 ca22_3 ca23_0 ca23_1 ca23_2 ca23_3
              go_roundw
              case rel => exact ⟨j + 1, by omega, by go_num, HC, b6, b7, kw⟩
              case measure => simp [intOf]; omega
            have t1 : (ca == cb) = false := by rw [beq_eq_false_iff_ne]; exact ec
            have HY := hid ((coR_out (of_decide_eq_false HM.out) HA.out HB.out).trans (decide_eq_false ec))
            clear ec
            obtain rfl : p = false := HP.out.symm.trans (flB_co HQ.out hlt HY.out)
            have ca22_0 := (b6.2 0 _ rfl).1
            have ca22_1 := (b6.2 1 _ rfl).1
            have ca22_2 := (b6.2 2 _ rfl).1
            have ca22_3 := (b6.2 3 _ rfl).1
            have ca23_0 := (b7.2 0 _ rfl).1
            have ca23_1 := (b7.2 1 _ rfl).1
            have ca23_2 := (b7.2 2 _ rfl).1
            have ca23_3 := (b7.2 3 _ rfl).1
            go_wp2_with fail
            clear ca22_0 ca22_1 ca22_2 ca22_3 ca23_0 ca23_1 ca23_2 ca23_3
            go_ret
            exact ⟨ret_bool rfl, kw⟩
          by_cases eb : bNot ca cb = 0
          rotate_left
          · have t2 : ¬ bits BinOp.andNot IntKind.i64 ca cb = 0 := eb
            have HY := hid ((coR_in (of_decide_eq_true HM.out) HA.out HB.out).trans (decide_eq_false (fun e9 => eb ((bits_eq HAB.out).2 e9))))
            clear eb
            obtain rfl : p = false := HP.out.symm.trans (flB_co HQ.out hlt HY.out)
            have ca20_0 := (b6.2 0 _ rfl).1
            have ca20_1 := (b6.2 1 _ rfl).1
            have ca20_2 := (b6.2 2 _ rfl).1
            have ca20_3 := (b6.2 3 _ rfl).1
            have ca21_0 := (b7.2 0 _ rfl).1
            have ca21_1 := (b7.2 1 _ rfl).1
            have ca21_2 := (b7.2 2 _ rfl).1
            have ca21_3 := (b7.2 3 _ rfl).1
            go_wp2_with fail
            clear ca20_0 ca20_1 ca20_2 ca20_3 ca21_0 ca21_1 ca21_2 ca21_3
            go_ret
            exact ⟨ret_bool rfl, kw⟩
          have t2 : bits BinOp.andNot IntKind.i64 ca cb = 0 := eb
          have HY := hid ((coR_in (of_decide_eq_true HM.out) HA.out HB.out).trans (decide_eq_true ((bits_eq HAB.out).1 eb)))
          clear eb
          have ca20_0 := (b6.2 0 _ rfl).1
          have ca20_1 := (b6.2 1 _ rfl).1
          have ca20_2 := (b6.2 2 _ rfl).1
          have ca20_3 := (b6.2 3 _ rfl).1
          have ca21_0 := (b7.2 0 _ rfl).1
          have ca21_1 := (b7.2 1 _ rfl).1
          have ca21_2 := (b7.2 2 _ rfl).1
          have ca21_3 := (b7.2 3 _ rfl).1
          go_wp2_with fail
          clear ca20_0 ca20_1 ca20_2 ca20_3 ca21_0 ca21_1 ca21_2 ca21_3
          refine (flop (containsI_any (v := (j : Int)) (hu.keeps kw))).mono ?_
          rintro e w' ⟨rfl, rfl⟩
          rw [HM.out]
          have HC := hid (coTo_next (l := l) (ws := ws) (us := us) (ws' := xs) HK.out HY.out)
          have ca22_0 := (b6.2 0 _ rfl).1
          have ca22_1 := (b6.2 1 _ rfl).1
          have ca22_2 := (b6.2 2 _ rfl).1
          have ca22_3 := (b6.2 3 _ rfl).1
          have ca23_0 := (b7.2 0 _ rfl).1
          have ca23_1 := (b7.2 1 _ rfl).1
          have ca23_2 := (b7.2 2 _ rfl).1
          have ca23_3 := (b7.2 3 _ rfl).1
          go_wp2_with fail
          clear ca22_0 ca22_1 ca22_2 ca22_3 ca23_0 ca23_1 ca23_2 ca23_3
          go_roundw
          case rel => exact ⟨j + 1, by omega, by go_num, HC, b6, b7, kw⟩
          case measure => simp [intOf]; omega
        obtain rfl : q = j := by omega
        have HE := hid ((flB_yes (t := (lv, vs, ws, sm)) (u := (lu, us, xs, su)) HN.out HQ.out HLB.out HVA.out HK.out).symm.trans HP.out)
        have hi1 : ¬ (q : Int) < (q : Int) := by omega
        by_cases es : sm = su
        · have t1 : (sm == su) = true := by rw [beq_iff_eq]; exact es
          have t3 : (sm != su) = false := by rw [bne, t1]; rfl
          obtain rfl : p = true := HE.out.symm.trans (smE_eq es)
          clear es
          have ca15_0 := (b6.2 0 _ rfl).1
          have ca15_1 := (b6.2 1 _ rfl).1
          have ca15_2 := (b6.2 2 _ rfl).1
          have ca15_3 := (b6.2 3 _ rfl).1
          have ca16_0 := (b7.2 0 _ rfl).1
          have ca16_1 := (b7.2 1 _ rfl).1
          have ca16_2 := (b7.2 2 _ rfl).1
          have ca16_3 := (b7.2 3 _ rfl).1
          go_wp2_with fail
          clear ca15_0 ca15_1 ca15_2 ca15_3 ca16_0 ca16_1 ca16_2 ca16_3
          go_ret
          exact ⟨ret_bool rfl, kw⟩
        have t1 : (sm == su) = false := by rw [beq_eq_false_iff_ne]; exact es
        by_cases em : su = -1
        rotate_left
        · have t2 : (su == -1) = false := by rw [beq_eq_false_iff_ne]; exact em
          obtain rfl : p = false := HE.out.symm.trans (smE_no es em)
          clear es em
          have ca15_0 := (b6.2 0 _ rfl).1
          have ca15_1 := (b6.2 1 _ rfl).1
          have ca15_2 := (b6.2 2 _ rfl).1
          have ca15_3 := (b6.2 3 _ rfl).1
          have ca16_0 := (b7.2 0 _ rfl).1
          have ca16_1 := (b7.2 1 _ rfl).1
          have ca16_2 := (b7.2 2 _ rfl).1
          have ca16_3 := (b7.2 3 _ rfl).1
          go_wp2_with fail
          clear ca15_0 ca15_1 ca15_2 ca15_3 ca16_0 ca16_1 ca16_2 ca16_3
          go_ret
          exact ⟨ret_bool rfl, kw⟩
        have t2 : (su == -1) = true := by rw [beq_iff_eq]; exact em
        obtain rfl : p = decide (sm ∈ us) := HE.out.symm.trans (smE_in es em)
        clear es em
        have ca15_0 := (b6.2 0 _ rfl).1
        have ca15_1 := (b6.2 1 _ rfl).1
        have ca15_2 := (b6.2 2 _ rfl).1
        have ca15_3 := (b6.2 3 _ rfl).1
        have ca16_0 := (b7.2 0 _ rfl).1
        have ca16_1 := (b7.2 1 _ rfl).1
        have ca16_2 := (b7.2 2 _ rfl).1
        have ca16_3 := (b7.2 3 _ rfl).1
        go_wp2_with fail
        clear ca15_0 ca15_1 ca15_2 ca15_3 ca16_0 ca16_1 ca16_2 ca16_3
        refine (flop (containsI_any (v := sm) (hu.keeps kw))).mono ?_
        rintro e w' ⟨rfl, rfl⟩
        have ca17_0 := (b6.2 0 _ rfl).1
        have ca17_1 := (b6.2 1 _ rfl).1
        have ca17_2 := (b6.2 2 _ rfl).1
        have ca17_3 := (b6.2 3 _ rfl).1
        have ca18_0 := (b7.2 0 _ rfl).1
        have ca18_1 := (b7.2 1 _ rfl).1
        have ca18_2 := (b7.2 2 _ rfl).1
        have ca18_3 := (b7.2 3 _ rfl).1
        go_wp2_with fail
        clear ca17_0 ca17_1 ca17_2 ca17_3 ca18_0 ca18_1 ca18_2 ca18_3
        go_ret
        exact ⟨ret_bool rfl, kw⟩
set_option maxRecDepth 100000 in
set_option maxHeartbeats 6400000 in
theorem lFollows_any {A A' V H V' H' : Option Addr} {lo hi lo1 hi1 lo2 hi2 lo3 hi3 lo4 hi4 a c0 q e n c m d n' c' m' d' : Nat} {ps vs ws us xs : List Int} {l : List VV} {lv sm lu su : Int} {w : World} (h : Ints w lo hi A a ps) (hg : geoB ps = true) (h' : Sch w A' q e l) (hlv : LvOk l q) (hv : Ints w lo1 hi1 V n vs) (hw : Ints w lo2 hi2 H m ws) (hu : Ints w lo3 hi3 V' n' us) (hx : Ints w lo4 hi4 H' m' xs) (h0 : 0 ≤ lv) (h1 : 0 ≤ lu) (hW : whB l ws = true) (hX : whB l xs = true) :
    Calls Tryz.prog 94 #[.agg #[.slice A a c0], .slice A' q e, .agg #[.int .i64 lv, .slice V n c, .slice H m d, .int .i64 sm], .agg #[.int .i64 lu, .slice V' n' c', .slice H' m' d', .int .i64 su]] w fun e w' => e = .returned (.bool (flB ps l (lv, vs, ws, sm) (lu, us, xs, su))) ∧ Keeps w w' := by
  obtain ⟨lo9, hi9, hz⟩ := h'.v
  have HQ := hid (Vars.len hz)
  have hq := hz.le
  have ha := h.le
  have hn := hv.le
  have HN := hid hv.1
  have HLV := hid hlv
  have HG := hid hg
  have HT := hid (tree_of hg)
  have HPL := hid h.1
  have HWW := hid hW
  have HXX := hid hX
  clear hg hlv hW hX
  obtain ⟨p, HP⟩ : ∃ p, Hid (flB ps l (lv, vs, ws, sm) (lu, us, xs, su) = p) := ⟨_, rfl⟩
  rw [HP.out]
  go_enter Tryz.func94, Tryz.ntmps94
  have kw := keeps_refl w
  replace kw := Keeps.trans kw (keeps_alloc w (.cells #[.slice A a c0] 32))
  have b4 : B1 (w.alloc (.cells #[.slice A a c0] 32)) w.heap.size (.slice A a c0) := B1.new' (by simp)
  replace b4 := b4.keeps (keeps_alloc (w.alloc (.cells #[.slice A a c0] 32)) (.cells #[.int .i64 lv, .slice V n c, .slice H m d, .int .i64 sm] 61))
  replace kw := Keeps.trans kw (keeps_alloc (w.alloc (.cells #[.slice A a c0] 32)) (.cells #[.int .i64 lv, .slice V n c, .slice H m d, .int .i64 sm] 61))
  have b6 : Bl ((w.alloc (.cells #[.slice A a c0] 32)).alloc (.cells #[.int .i64 lv, .slice V n c, .slice H m d, .int .i64 sm] 61)) (w.heap.size + 1) [.int .i64 lv, .slice V n c, .slice H m d, .int .i64 sm] := Bl.new' (by simp) (by simp)
  replace b4 := b4.keeps (keeps_alloc ((w.alloc (.cells #[.slice A a c0] 32)).alloc (.cells #[.int .i64 lv, .slice V n c, .slice H m d, .int .i64 sm] 61)) (.cells #[.int .i64 lu, .slice V' n' c', .slice H' m' d', .int .i64 su] 61))
  replace b6 := b6.keeps (keeps_alloc ((w.alloc (.cells #[.slice A a c0] 32)).alloc (.cells #[.int .i64 lv, .slice V n c, .slice H m d, .int .i64 sm] 61)) (.cells #[.int .i64 lu, .slice V' n' c', .slice H' m' d', .int .i64 su] 61))
  replace kw := Keeps.trans kw (keeps_alloc ((w.alloc (.cells #[.slice A a c0] 32)).alloc (.cells #[.int .i64 lv, .slice V n c, .slice H m d, .int .i64 sm] 61)) (.cells #[.int .i64 lu, .slice V' n' c', .slice H' m' d', .int .i64 su] 61))
  have b7 : Bl (((w.alloc (.cells #[.slice A a c0] 32)).alloc (.cells #[.int .i64 lv, .slice V n c, .slice H m d, .int .i64 sm] 61)).alloc (.cells #[.int .i64 lu, .slice V' n' c', .slice H' m' d', .int .i64 su] 61)) (w.heap.size + 1 + 1) [.int .i64 lu, .slice V' n' c', .slice H' m' d', .int .i64 su] := Bl.new' (by simp) (by simp)
  obtain ⟨ca1, fa1⟩ := id b4
  have ca2_0 := (b6.2 0 _ rfl).1
  have ca2_1 := (b6.2 1 _ rfl).1
  have ca2_2 := (b6.2 2 _ rfl).1
  have ca2_3 := (b6.2 3 _ rfl).1
  have ca3_0 := (b7.2 0 _ rfl).1
  have ca3_1 := (b7.2 1 _ rfl).1
  have ca3_2 := (b7.2 2 _ rfl).1
  have ca3_3 := (b7.2 3 _ rfl).1
  go_wp2_with fail
  clear ca1 fa1 ca2_0 ca2_1 ca2_2 ca2_3 ca3_0 ca3_1 ca3_2 ca3_3
  obtain ⟨pHLB, HLB⟩ : ∃ pB, Hid (lvlB ps lv lu = pB) := ⟨_, rfl⟩
  refine (lLevels_any (V := V) (H := H) (V' := V') (H' := H') (n := n) (c := c) (m := m) (d := d) (n' := n') (c' := c') (m' := m') (d' := d') (sm := sm) (su := su) (h.keeps kw) HG.out h0 h1).mono ?_
  rintro e w4 ⟨rfl, k4⟩
  rw [HLB.out]
  replace b4 := b4.keeps k4
  replace b6 := b6.keeps k4
  replace b7 := b7.keeps k4
  replace kw := Keeps.trans kw k4
  have lt5 := b7.lt
  have sz6 := kw.size
  clear k4
  cases pHLB
  · obtain rfl : p = false := HP.out.symm.trans (flB_lv HLB.out)
    have ca7_0 := (b6.2 0 _ rfl).1
    have ca7_1 := (b6.2 1 _ rfl).1
    have ca7_2 := (b6.2 2 _ rfl).1
    have ca7_3 := (b6.2 3 _ rfl).1
    have ca8_0 := (b7.2 0 _ rfl).1
    have ca8_1 := (b7.2 1 _ rfl).1
    have ca8_2 := (b7.2 2 _ rfl).1
    have ca8_3 := (b7.2 3 _ rfl).1
    go_wp2_with fail
    clear ca7_0 ca7_1 ca7_2 ca7_3 ca8_0 ca8_1 ca8_2 ca8_3
    go_ret
    exact ⟨ret_bool rfl, kw⟩
  · skip
    by_cases es : sm = su
    · have t1 : (sm == su) = true := by rw [beq_iff_eq]; exact es
      have t3 : (sm != su) = false := by rw [bne, t1]; rfl
      have HSM := hid (smE_eq (us := us) es)
      clear es
      have ca7_0 := (b6.2 0 _ rfl).1
      have ca7_1 := (b6.2 1 _ rfl).1
      have ca7_2 := (b6.2 2 _ rfl).1
      have ca7_3 := (b6.2 3 _ rfl).1
      have ca8_0 := (b7.2 0 _ rfl).1
      have ca8_1 := (b7.2 1 _ rfl).1
      have ca8_2 := (b7.2 2 _ rfl).1
      have ca8_3 := (b7.2 3 _ rfl).1
      go_wp2_with fail
      clear ca7_0 ca7_1 ca7_2 ca7_3 ca8_0 ca8_1 ca8_2 ca8_3
      go_loopw [42] (fun i wr => ∃ k : Nat, k ≤ n ∧ i = .int .i64 k ∧ Hid (vaTo vs us k = true) ∧ Bl wr (w.heap.size + 1) [.int .i64 lv, .slice V n c, .slice H m d, .int .i64 sm] ∧ Bl wr (w.heap.size + 1 + 1) [.int .i64 lu, .slice V' n' c', .slice H' m' d', .int .i64 su] ∧ Keeps w wr) (fun i _ => n - (intOf i).toNat)
      case atStart => exact ⟨0, Nat.zero_le _, rfl, hid rfl, b6, b7, kw⟩
      clear b4 b6 b7 kw
      case round =>
        obtain ⟨k, hk, rfl, HK, b6, b7, kw⟩ := hrel
        by_cases hlt : k < n
        · obtain ⟨bl, ol, x, rfl, _, _, hcx, hxx⟩ := (hv.keeps kw).at_ hlt
          have HXK := hid hxx.out
          clear hxx
          have hi1 : (k : Int) < (n : Int) := by omega
          have ca9_0 := (b6.2 0 _ rfl).1
          have ca9_1 := (b6.2 1 _ rfl).1
          have ca9_2 := (b6.2 2 _ rfl).1
          have ca9_3 := (b6.2 3 _ rfl).1
          have ca10_0 := (b7.2 0 _ rfl).1
          have ca10_1 := (b7.2 1 _ rfl).1
          have ca10_2 := (b7.2 2 _ rfl).1
          have ca10_3 := (b7.2 3 _ rfl).1
          go_wp2_with fail
          clear ca9_0 ca9_1 ca9_2 ca9_3 ca10_0 ca10_1 ca10_2 ca10_3
          obtain ⟨pH1, H1⟩ : ∃ pB, Hid (decide (x ∈ us) = pB) := ⟨_, rfl⟩
          refine (l1Has_any (v := x) (hu.keeps kw)).mono ?_
          rintro e w' ⟨rfl, rfl⟩
          rw [H1.out]
          cases pH1
          · obtain rfl : p = false := HP.out.symm.trans (flB_va HN.out hlt (by rw [← HXK.out]; exact of_decide_eq_false H1.out))
            have ca11_0 := (b6.2 0 _ rfl).1
            have ca11_1 := (b6.2 1 _ rfl).1
            have ca11_2 := (b6.2 2 _ rfl).1
            have ca11_3 := (b6.2 3 _ rfl).1
            have ca12_0 := (b7.2 0 _ rfl).1
            have ca12_1 := (b7.2 1 _ rfl).1
            have ca12_2 := (b7.2 2 _ rfl).1
            have ca12_3 := (b7.2 3 _ rfl).1
            go_wp2_with fail
            clear ca11_0 ca11_1 ca11_2 ca11_3 ca12_0 ca12_1 ca12_2 ca12_3
            go_ret
            exact ⟨ret_bool rfl, kw⟩
          · skip
            have HM := hid (vaTo_next (vs := vs) HK.out (by rw [← HXK.out]; exact H1.out))
            have ca11_0 := (b6.2 0 _ rfl).1
            have ca11_1 := (b6.2 1 _ rfl).1
            have ca11_2 := (b6.2 2 _ rfl).1
            have ca11_3 := (b6.2 3 _ rfl).1
            have ca12_0 := (b7.2 0 _ rfl).1
            have ca12_1 := (b7.2 1 _ rfl).1
            have ca12_2 := (b7.2 2 _ rfl).1
            have ca12_3 := (b7.2 3 _ rfl).1
            go_wp2_with fail
            clear ca11_0 ca11_1 ca11_2 ca11_3 ca12_0 ca12_1 ca12_2 ca12_3
            go_roundw
            case rel => exact ⟨k + 1, by omega, by go_num, HM, b6, b7, kw⟩
            case measure => simp [intOf]; omega
        obtain rfl : n = k := by omega
        have HVA := HK
        clear HK
        have hi1 : ¬ (n : Int) < (n : Int) := by omega
        have ca9_0 := (b6.2 0 _ rfl).1
        have ca9_1 := (b6.2 1 _ rfl).1
        have ca9_2 := (b6.2 2 _ rfl).1
        have ca9_3 := (b6.2 3 _ rfl).1
        have ca10_0 := (b7.2 0 _ rfl).1
        have ca10_1 := (b7.2 1 _ rfl).1
        have ca10_2 := (b7.2 2 _ rfl).1
        have ca10_3 := (b7.2 3 _ rfl).1
        go_wp2_with fail
        clear ca9_0 ca9_1 ca9_2 ca9_3 ca10_0 ca10_1 ca10_2 ca10_3
        go_loopw [54] (fun i wr => ∃ j : Nat, j ≤ q ∧ i = .int .i64 j ∧ Hid (coTo l ws us xs j = true) ∧ Bl wr (w.heap.size + 1) [.int .i64 lv, .slice V n c, .slice H m d, .int .i64 sm] ∧ Bl wr (w.heap.size + 1 + 1) [.int .i64 lu, .slice V' n' c', .slice H' m' d', .int .i64 su] ∧ Keeps w wr) (fun i _ => q - (intOf i).toNat)
        case atStart => exact ⟨0, Nat.zero_le _, rfl, hid rfl, b6, b7, kw⟩
        clear b6 b7 kw
        case round =>
          obtain ⟨j, hj, rfl, HK, b6, b7, kw⟩ := hrel
          by_cases hlt : j < q
          · have hi1 : (j : Int) < (q : Int) := by omega
            obtain ⟨ca, HA⟩ : ∃ z, Hid (cnI l ws j = z) := ⟨_, rfl⟩
            obtain ⟨cb, HB⟩ : ∃ z, Hid (cnI l xs j = z) := ⟨_, rfl⟩
            have HAB := hid (show 0 ≤ ca ∧ ca ≤ 255 by have := cn_bd HQ.out HLV.out HWW.out hlt; rw [HA.out] at this; exact this)
            obtain ⟨pM, HM⟩ : ∃ z, Hid (decide ((j : Int) ∈ us) = z) := ⟨_, rfl⟩
            go_wp2_with fail
            have q0_b6 : wr.cell? ⟨w.heap.size + 1, 0, none⟩ = some (.int .i64 lv) := (b6.2 0 _ rfl).1
            have rq0_b6 := fun d os => cell_regrown q0_b6 d os
            have q1_b6 : wr.cell? ⟨w.heap.size + 1, 1, none⟩ = some (.slice V n c) := (b6.2 1 _ rfl).1
            have rq1_b6 := fun d os => cell_regrown q1_b6 d os
            have q2_b6 : wr.cell? ⟨w.heap.size + 1, 2, none⟩ = some (.slice H m d) := (b6.2 2 _ rfl).1
            have rq2_b6 := fun d os => cell_regrown q2_b6 d os
            have q3_b6 : wr.cell? ⟨w.heap.size + 1, 3, none⟩ = some (.int .i64 sm) := (b6.2 3 _ rfl).1
            have rq3_b6 := fun d os => cell_regrown q3_b6 d os
            have q0_b7 : wr.cell? ⟨w.heap.size + 1 + 1, 0, none⟩ = some (.int .i64 lu) := (b7.2 0 _ rfl).1
            have rq0_b7 := fun d os => cell_regrown q0_b7 d os
            have q1_b7 : wr.cell? ⟨w.heap.size + 1 + 1, 1, none⟩ = some (.slice V' n' c') := (b7.2 1 _ rfl).1
            have rq1_b7 := fun d os => cell_regrown q1_b7 d os
            have q2_b7 : wr.cell? ⟨w.heap.size + 1 + 1, 2, none⟩ = some (.slice H' m' d') := (b7.2 2 _ rfl).1
            have rq2_b7 := fun d os => cell_regrown q2_b7 d os
            have q3_b7 : wr.cell? ⟨w.heap.size + 1 + 1, 3, none⟩ = some (.int .i64 su) := (b7.2 3 _ rfl).1
            have rq3_b7 := fun d os => cell_regrown q3_b7 d os
            have cQ0 := hid (fun (dQ : Nat) (oQ : Array Obj) => lSet_any (lv := lv) (sm := sm) (V := V) (n := n) (c := c) (d := d) (hw.keeps (Keeps.trans kw (below_regrown wr dQ oQ))) (h'.keeps (Keeps.trans kw (below_regrown wr dQ oQ))) HLV.out HWW.out hlt)
            rw [HA.out] at cQ0
            have cQ1 := hid (fun (dQ : Nat) (oQ : Array Obj) => lSet_any (lv := lu) (sm := su) (V := V') (n := n') (c := c') (d := d') (hx.keeps (Keeps.trans kw (below_regrown wr dQ oQ))) (h'.keeps (Keeps.trans kw (below_regrown wr dQ oQ))) HLV.out HXX.out hlt)
            rw [HB.out] at cQ1
            refine wp_region_quiet_below (by kernel_rfl) (by kernel_rfl) ?_
            iterate 10 (go_big_quiet_step ((first | with_reducible exact Calls.regrown_of (cQ0.out _ _) | with_reducible exact Calls.regrown_of (cQ1.out _ _))))
            refine wpQuiet_nil ?_
            intro _ hw'
            obtain ⟨⟨dq, osq⟩, hw''⟩ := hw'
            subst hw''
            clear q0_b6 rq0_b6 q1_b6 rq1_b6 q2_b6 rq2_b6 q3_b6 rq3_b6 q0_b7 rq0_b7 q1_b7 rq1_b7 q2_b7 rq2_b7 q3_b7 rq3_b7 cQ0 cQ1
            have kQ := below_regrown wr dq osq
            obtain ⟨wQ11, hwQ⟩ : ∃ u, u = grow (redrawn wr dq) osq := ⟨_, rfl⟩
            rw [← hwQ] at kQ
            rw [← hwQ]
            clear hwQ
            replace b6 := b6.keeps kQ
            replace b7 := b7.keeps kQ
            replace kw := Keeps.trans kw kQ
            have lt12 := b7.lt
            have sz13 := kw.size
            clear kQ
            by_cases ec : ca = cb
            · have t1 : (ca == cb) = true := by rw [beq_iff_eq]; exact ec
              have HY := hid (show coR l ws us xs j = true by
                cases pM
                · rw [coR_out (of_decide_eq_false HM.out) HA.out HB.out]; exact decide_eq_true ec
                · rw [coR_in (of_decide_eq_true HM.out) HA.out HB.out, ← ec]; exact decide_eq_true (bAnd_self HAB.out))
              have HC := hid (coTo_next (l := l) (ws := ws) (us := us) (ws' := xs) HK.out HY.out)
              have ca14_0 := (b6.2 0 _ rfl).1
              have ca14_1 := (b6.2 1 _ rfl).1
              have ca14_2 := (b6.2 2 _ rfl).1
              have ca14_3 := (b6.2 3 _ rfl).1
              have ca15_0 := (b7.2 0 _ rfl).1
              have ca15_1 := (b7.2 1 _ rfl).1
              have ca15_2 := (b7.2 2 _ rfl).1
              have ca15_3 := (b7.2 3 _ rfl).1
              go_wp2_with fail
              clear ca14_0 ca14_1 ca14_2 ca14_3 ca15_0 ca15_1 ca15_2 ca15_3
              go_roundw
              case rel => exact ⟨j + 1, by omega, by go_num, HC, b6, b7, kw⟩
              case measure => simp [intOf]; omega
            have t1 : (ca == cb) = false := by rw [beq_eq_false_iff_ne]; exact ec
            have ca14_0 := (b6.2 0 _ rfl).1
            have ca14_1 := (b6.2 1 _ rfl).1
            have ca14_2 := (b6.2 2 _ rfl).1
            have ca14_3 := (b6.2 3 _ rfl).1
            have ca15_0 := (b7.2 0 _ rfl).1
            have ca15_1 := (b7.2 1 _ rfl).1
            have ca15_2 := (b7.2 2 _ rfl).1
            have ca15_3 := (b7.2 3 _ rfl).1
            go_wp2_with fail
            clear ca14_0 ca14_1 ca14_2 ca14_3 ca15_0 ca15_1 ca15_2 ca15_3
            refine (l1Has_any (v := (j : Int)) (hu.keeps kw)).mono ?_
            rintro e w' ⟨rfl, rfl⟩
            rw [HM.out]
            cases pM
            · obtain rfl : p = false := HP.out.symm.trans (flB_co HQ.out hlt ((coR_out (of_decide_eq_false HM.out) HA.out HB.out).trans (decide_eq_false ec)))
              have ca16_0 := (b6.2 0 _ rfl).1
              have ca16_1 := (b6.2 1 _ rfl).1
              have ca16_2 := (b6.2 2 _ rfl).1
              have ca16_3 := (b6.2 3 _ rfl).1
              have ca17_0 := (b7.2 0 _ rfl).1
              have ca17_1 := (b7.2 1 _ rfl).1
              have ca17_2 := (b7.2 2 _ rfl).1
              have ca17_3 := (b7.2 3 _ rfl).1
              go_wp2_with fail
              clear ca16_0 ca16_1 ca16_2 ca16_3 ca17_0 ca17_1 ca17_2 ca17_3
              go_ret
              exact ⟨ret_bool rfl, kw⟩
            by_cases eb : bAnd ca cb = ca
            · have t2 : bits BinOp.and IntKind.i64 ca cb = ca := eb
              have HY := hid ((coR_in (of_decide_eq_true HM.out) HA.out HB.out).trans (decide_eq_true eb))
              clear eb
              have HC := hid (coTo_next (l := l) (ws := ws) (us := us) (ws' := xs) HK.out HY.out)
              have ca16_0 := (b6.2 0 _ rfl).1
              have ca16_1 := (b6.2 1 _ rfl).1
              have ca16_2 := (b6.2 2 _ rfl).1
              have ca16_3 := (b6.2 3 _ rfl).1
              have ca17_0 := (b7.2 0 _ rfl).1
              have ca17_1 := (b7.2 1 _ rfl).1
              have ca17_2 := (b7.2 2 _ rfl).1
              have ca17_3 := (b7.2 3 _ rfl).1
              go_wp2_with fail
              clear ca16_0 ca16_1 ca16_2 ca16_3 ca17_0 ca17_1 ca17_2 ca17_3
              go_roundw
              case rel => exact ⟨j + 1, by omega, by go_num, HC, b6, b7, kw⟩
              case measure => simp [intOf]; omega
            have t2 : ¬ bits BinOp.and IntKind.i64 ca cb = ca := eb
            have t5 : (bits BinOp.and IntKind.i64 ca cb != ca) = true := by rw [bne_iff_ne]; exact eb
            have t6 : (ca != cb) = true := by rw [bne_iff_ne]; exact ec
            have HY := hid ((coR_in (of_decide_eq_true HM.out) HA.out HB.out).trans (decide_eq_false eb))
            clear eb
            obtain rfl : p = false := HP.out.symm.trans (flB_co HQ.out hlt HY.out)
            have ca16_0 := (b6.2 0 _ rfl).1
            have ca16_1 := (b6.2 1 _ rfl).1
            have ca16_2 := (b6.2 2 _ rfl).1
            have ca16_3 := (b6.2 3 _ rfl).1
            have ca17_0 := (b7.2 0 _ rfl).1
            have ca17_1 := (b7.2 1 _ rfl).1
            have ca17_2 := (b7.2 2 _ rfl).1
            have ca17_3 := (b7.2 3 _ rfl).1
            go_wp2_with fail
            clear ca16_0 ca16_1 ca16_2 ca16_3 ca17_0 ca17_1 ca17_2 ca17_3
            go_ret
            exact ⟨ret_bool rfl, kw⟩
          obtain rfl : q = j := by omega
          have HE := hid ((flB_yes (t := (lv, vs, ws, sm)) (u := (lu, us, xs, su)) HN.out HQ.out HLB.out HVA.out HK.out).symm.trans HP.out)
          have hi1 : ¬ (q : Int) < (q : Int) := by omega
          obtain rfl : p = true := HE.out.symm.trans HSM.out
          go_wp2_with fail
          go_ret
          exact ⟨ret_bool rfl, kw⟩
    have t1 : (sm == su) = false := by rw [beq_eq_false_iff_ne]; exact es
    have t3 : (sm != su) = true := by rw [bne, t1]; rfl
    by_cases em : su = -1
    rotate_left
    · have t2 : (su == -1) = false := by rw [beq_eq_false_iff_ne]; exact em
      have t4 : (su != -1) = true := by rw [bne, t2]; rfl
      obtain rfl : p = false := HP.out.symm.trans (flB_sm (smE_no es em))
      have ca7_0 := (b6.2 0 _ rfl).1
      have ca7_1 := (b6.2 1 _ rfl).1
      have ca7_2 := (b6.2 2 _ rfl).1
      have ca7_3 := (b6.2 3 _ rfl).1
      have ca8_0 := (b7.2 0 _ rfl).1
      have ca8_1 := (b7.2 1 _ rfl).1
      have ca8_2 := (b7.2 2 _ rfl).1
      have ca8_3 := (b7.2 3 _ rfl).1
      go_wp2_with fail
      clear ca7_0 ca7_1 ca7_2 ca7_3 ca8_0 ca8_1 ca8_2 ca8_3
      go_ret
      exact ⟨ret_bool rfl, kw⟩
    have t2 : (su == -1) = true := by rw [beq_iff_eq]; exact em
    have t4 : (su != -1) = false := by rw [bne, t2]; rfl
    obtain ⟨pS, HS⟩ : ∃ z, Hid (decide (sm ∈ us) = z) := ⟨_, rfl⟩
    have HSM := hid ((smE_in (us := us) es em).trans HS.out)
    clear es em
    have ca7_0 := (b6.2 0 _ rfl).1
    have ca7_1 := (b6.2 1 _ rfl).1
    have ca7_2 := (b6.2 2 _ rfl).1
    have ca7_3 := (b6.2 3 _ rfl).1
    have ca8_0 := (b7.2 0 _ rfl).1
    have ca8_1 := (b7.2 1 _ rfl).1
    have ca8_2 := (b7.2 2 _ rfl).1
    have ca8_3 := (b7.2 3 _ rfl).1
    go_wp2_with fail
    clear ca7_0 ca7_1 ca7_2 ca7_3 ca8_0 ca8_1 ca8_2 ca8_3
    refine (l1Has_any (v := sm) (hu.keeps kw)).mono ?_
    rintro e w' ⟨rfl, rfl⟩
    rw [HS.out]
    cases pS
    · obtain rfl : p = false := HP.out.symm.trans (flB_sm HSM.out)
      have ca9_0 := (b6.2 0 _ rfl).1
      have ca9_1 := (b6.2 1 _ rfl).1
      have ca9_2 := (b6.2 2 _ rfl).1
      have ca9_3 := (b6.2 3 _ rfl).1
      have ca10_0 := (b7.2 0 _ rfl).1
      have ca10_1 := (b7.2 1 _ rfl).1
      have ca10_2 := (b7.2 2 _ rfl).1
      have ca10_3 := (b7.2 3 _ rfl).1
      go_wp2_with fail
      clear ca9_0 ca9_1 ca9_2 ca9_3 ca10_0 ca10_1 ca10_2 ca10_3
      go_ret
      exact ⟨ret_bool rfl, kw⟩
    have ca9_0 := (b6.2 0 _ rfl).1
    have ca9_1 := (b6.2 1 _ rfl).1
    have ca9_2 := (b6.2 2 _ rfl).1
    have ca9_3 := (b6.2 3 _ rfl).1
    have ca10_0 := (b7.2 0 _ rfl).1
    have ca10_1 := (b7.2 1 _ rfl).1
    have ca10_2 := (b7.2 2 _ rfl).1
    have ca10_3 := (b7.2 3 _ rfl).1
    go_wp2_with fail
    clear ca9_0 ca9_1 ca9_2 ca9_3 ca10_0 ca10_1 ca10_2 ca10_3
    go_loopw [42] (fun i wr => ∃ k : Nat, k ≤ n ∧ i = .int .i64 k ∧ Hid (vaTo vs us k = true) ∧ Bl wr (w.heap.size + 1) [.int .i64 lv, .slice V n c, .slice H m d, .int .i64 sm] ∧ Bl wr (w.heap.size + 1 + 1) [.int .i64 lu, .slice V' n' c', .slice H' m' d', .int .i64 su] ∧ Keeps w wr) (fun i _ => n - (intOf i).toNat)
    case atStart => exact ⟨0, Nat.zero_le _, rfl, hid rfl, b6, b7, kw⟩
    clear b4 b6 b7 kw
    case round =>
      obtain ⟨k, hk, rfl, HK, b6, b7, kw⟩ := hrel
      by_cases hlt : k < n
      · obtain ⟨bl, ol, x, rfl, _, _, hcx, hxx⟩ := (hv.keeps kw).at_ hlt
        have HXK := hid hxx.out
        clear hxx
        have hi1 : (k : Int) < (n : Int) := by omega
        have ca11_0 := (b6.2 0 _ rfl).1
        have ca11_1 := (b6.2 1 _ rfl).1
        have ca11_2 := (b6.2 2 _ rfl).1
        have ca11_3 := (b6.2 3 _ rfl).1
        have ca12_0 := (b7.2 0 _ rfl).1
        have ca12_1 := (b7.2 1 _ rfl).1
        have ca12_2 := (b7.2 2 _ rfl).1
        have ca12_3 := (b7.2 3 _ rfl).1
        go_wp2_with fail
        clear ca11_0 ca11_1 ca11_2 ca11_3 ca12_0 ca12_1 ca12_2 ca12_3
        obtain ⟨pH1, H1⟩ : ∃ pB, Hid (decide (x ∈ us) = pB) := ⟨_, rfl⟩
        refine (l1Has_any (v := x) (hu.keeps kw)).mono ?_
        rintro e w' ⟨rfl, rfl⟩
        rw [H1.out]
        cases pH1
        · obtain rfl : p = false := HP.out.symm.trans (flB_va HN.out hlt (by rw [← HXK.out]; exact of_decide_eq_false H1.out))
          have ca13_0 := (b6.2 0 _ rfl).1
          have ca13_1 := (b6.2 1 _ rfl).1
          have ca13_2 := (b6.2 2 _ rfl).1
          have ca13_3 := (b6.2 3 _ rfl).1
          have ca14_0 := (b7.2 0 _ rfl).1
          have ca14_1 := (b7.2 1 _ rfl).1
          have ca14_2 := (b7.2 2 _ rfl).1
          have ca14_3 := (b7.2 3 _ rfl).1
          go_wp2_with fail
          clear ca13_0 ca13_1 ca13_2 ca13_3 ca14_0 ca14_1 ca14_2 ca14_3
          go_ret
          exact ⟨ret_bool rfl, kw⟩
        · skip
          have HM := hid (vaTo_next (vs := vs) HK.out (by rw [← HXK.out]; exact H1.out))
          have ca13_0 := (b6.2 0 _ rfl).1
          have ca13_1 := (b6.2 1 _ rfl).1
          have ca13_2 := (b6.2 2 _ rfl).1
          have ca13_3 := (b6.2 3 _ rfl).1
          have ca14_0 := (b7.2 0 _ rfl).1
          have ca14_1 := (b7.2 1 _ rfl).1
          have ca14_2 := (b7.2 2 _ rfl).1
          have ca14_3 := (b7.2 3 _ rfl).1
          go_wp2_with fail
          clear ca13_0 ca13_1 ca13_2 ca13_3 ca14_0 ca14_1 ca14_2 ca14_3
          go_roundw
          case rel => exact ⟨k + 1, by omega, by go_num, HM, b6, b7, kw⟩
          case measure => simp [intOf]; omega
      obtain rfl : n = k := by omega
      have HVA := HK
      clear HK
      have hi1 : ¬ (n : Int) < (n : Int) := by omega
      have ca11_0 := (b6.2 0 _ rfl).1
      have ca11_1 := (b6.2 1 _ rfl).1
      have ca11_2 := (b6.2 2 _ rfl).1
      have ca11_3 := (b6.2 3 _ rfl).1
      have ca12_0 := (b7.2 0 _ rfl).1
      have ca12_1 := (b7.2 1 _ rfl).1
      have ca12_2 := (b7.2 2 _ rfl).1
      have ca12_3 := (b7.2 3 _ rfl).1
      go_wp2_with fail
      clear ca11_0 ca11_1 ca11_2 ca11_3 ca12_0 ca12_1 ca12_2 ca12_3
      go_loopw [54] (fun i wr => ∃ j : Nat, j ≤ q ∧ i = .int .i64 j ∧ Hid (coTo l ws us xs j = true) ∧ Bl wr (w.heap.size + 1) [.int .i64 lv, .slice V n c, .slice H m d, .int .i64 sm] ∧ Bl wr (w.heap.size + 1 + 1) [.int .i64 lu, .slice V' n' c', .slice H' m' d', .int .i64 su] ∧ Keeps w wr) (fun i _ => q - (intOf i).toNat)
      case atStart => exact ⟨0, Nat.zero_le _, rfl, hid rfl, b6, b7, kw⟩
      clear b6 b7 kw
      case round =>
        obtain ⟨j, hj, rfl, HK, b6, b7, kw⟩ := hrel
        by_cases hlt : j < q
        · have hi1 : (j : Int) < (q : Int) := by omega
          obtain ⟨ca, HA⟩ : ∃ z, Hid (cnI l ws j = z) := ⟨_, rfl⟩
          obtain ⟨cb, HB⟩ : ∃ z, Hid (cnI l xs j = z) := ⟨_, rfl⟩
          have HAB := hid (show 0 ≤ ca ∧ ca ≤ 255 by have := cn_bd HQ.out HLV.out HWW.out hlt; rw [HA.out] at this; exact this)
          obtain ⟨pM, HM⟩ : ∃ z, Hid (decide ((j : Int) ∈ us) = z) := ⟨_, rfl⟩
          go_wp2_with fail
          have q0_b6 : wr.cell? ⟨w.heap.size + 1, 0, none⟩ = some (.int .i64 lv) := (b6.2 0 _ rfl).1
          have rq0_b6 := fun d os => cell_regrown q0_b6 d os
          have q1_b6 : wr.cell? ⟨w.heap.size + 1, 1, none⟩ = some (.slice V n c) := (b6.2 1 _ rfl).1
          have rq1_b6 := fun d os => cell_regrown q1_b6 d os
          have q2_b6 : wr.cell? ⟨w.heap.size + 1, 2, none⟩ = some (.slice H m d) := (b6.2 2 _ rfl).1
          have rq2_b6 := fun d os => cell_regrown q2_b6 d os
          have q3_b6 : wr.cell? ⟨w.heap.size + 1, 3, none⟩ = some (.int .i64 sm) := (b6.2 3 _ rfl).1
          have rq3_b6 := fun d os => cell_regrown q3_b6 d os
          have q0_b7 : wr.cell? ⟨w.heap.size + 1 + 1, 0, none⟩ = some (.int .i64 lu) := (b7.2 0 _ rfl).1
          have rq0_b7 := fun d os => cell_regrown q0_b7 d os
          have q1_b7 : wr.cell? ⟨w.heap.size + 1 + 1, 1, none⟩ = some (.slice V' n' c') := (b7.2 1 _ rfl).1
          have rq1_b7 := fun d os => cell_regrown q1_b7 d os
          have q2_b7 : wr.cell? ⟨w.heap.size + 1 + 1, 2, none⟩ = some (.slice H' m' d') := (b7.2 2 _ rfl).1
          have rq2_b7 := fun d os => cell_regrown q2_b7 d os
          have q3_b7 : wr.cell? ⟨w.heap.size + 1 + 1, 3, none⟩ = some (.int .i64 su) := (b7.2 3 _ rfl).1
          have rq3_b7 := fun d os => cell_regrown q3_b7 d os
          have cQ0 := hid (fun (dQ : Nat) (oQ : Array Obj) => lSet_any (lv := lv) (sm := sm) (V := V) (n := n) (c := c) (d := d) (hw.keeps (Keeps.trans kw (below_regrown wr dQ oQ))) (h'.keeps (Keeps.trans kw (below_regrown wr dQ oQ))) HLV.out HWW.out hlt)
          rw [HA.out] at cQ0
          have cQ1 := hid (fun (dQ : Nat) (oQ : Array Obj) => lSet_any (lv := lu) (sm := su) (V := V') (n := n') (c := c') (d := d') (hx.keeps (Keeps.trans kw (below_regrown wr dQ oQ))) (h'.keeps (Keeps.trans kw (below_regrown wr dQ oQ))) HLV.out HXX.out hlt)
          rw [HB.out] at cQ1
          refine wp_region_quiet_below (by kernel_rfl) (by kernel_rfl) ?_
          iterate 10 (go_big_quiet_step ((first | with_reducible exact Calls.regrown_of (cQ0.out _ _) | with_reducible exact Calls.regrown_of (cQ1.out _ _))))
          refine wpQuiet_nil ?_
          intro _ hw'
          obtain ⟨⟨dq, osq⟩, hw''⟩ := hw'
          subst hw''
          clear q0_b6 rq0_b6 q1_b6 rq1_b6 q2_b6 rq2_b6 q3_b6 rq3_b6 q0_b7 rq0_b7 q1_b7 rq1_b7 q2_b7 rq2_b7 q3_b7 rq3_b7 cQ0 cQ1
          have kQ := below_regrown wr dq osq
          obtain ⟨wQ13, hwQ⟩ : ∃ u, u = grow (redrawn wr dq) osq := ⟨_, rfl⟩
          rw [← hwQ] at kQ
          rw [← hwQ]
          clear hwQ
          replace b6 := b6.keeps kQ
          replace b7 := b7.keeps kQ
          replace kw := Keeps.trans kw kQ
          have lt14 := b7.lt
          have sz15 := kw.size
          clear kQ
          by_cases ec : ca = cb
          · have t1 : (ca == cb) = true := by rw [beq_iff_eq]; exact ec
            have HY := hid (show coR l ws us xs j = true by
              cases pM
              · rw [coR_out (of_decide_eq_false HM.out) HA.out HB.out]; exact decide_eq_true ec
              · rw [coR_in (of_decide_eq_true HM.out) HA.out HB.out, ← ec]; exact decide_eq_true (bAnd_self HAB.out))
            have HC := hid (coTo_next (l := l) (ws := ws) (us := us) (ws' := xs) HK.out HY.out)
            have ca16_0 := (b6.2 0 _ rfl).1
            have ca16_1 := (b6.2 1 _ rfl).1
            have ca16_2 := (b6.2 2 _ rfl).1
            have ca16_3 := (b6.2 3 _ rfl).1
            have ca17_0 := (b7.2 0 _ rfl).1
            have ca17_1 := (b7.2 1 _ rfl).1
            have ca17_2 := (b7.2 2 _ rfl).1
            have ca17_3 := (b7.2 3 _ rfl).1
            go_wp2_with fail
            clear ca16_0 ca16_1 ca16_2 ca16_3 ca17_0 ca17_1 ca17_2 ca17_3
            go_roundw
            case rel => exact ⟨j + 1, by omega, by go_num, HC, b6, b7, kw⟩
            case measure => simp [intOf]; omega
          have t1 : (ca == cb) = false := by rw [beq_eq_false_iff_ne]; exact ec
          have ca16_0 := (b6.2 0 _ rfl).1
          have ca16_1 := (b6.2 1 _ rfl).1
          have ca16_2 := (b6.2 2 _ rfl).1
          have ca16_3 := (b6.2 3 _ rfl).1
          have ca17_0 := (b7.2 0 _ rfl).1
          have ca17_1 := (b7.2 1 _ rfl).1
          have ca17_2 := (b7.2 2 _ rfl).1
          have ca17_3 := (b7.2 3 _ rfl).1
          go_wp2_with fail
          clear ca16_0 ca16_1 ca16_2 ca16_3 ca17_0 ca17_1 ca17_2 ca17_3
          refine (l1Has_any (v := (j : Int)) (hu.keeps kw)).mono ?_
          rintro e w' ⟨rfl, rfl⟩
          rw [HM.out]
          cases pM
          · obtain rfl : p = false := HP.out.symm.trans (flB_co HQ.out hlt ((coR_out (of_decide_eq_false HM.out) HA.out HB.out).trans (decide_eq_false ec)))
            have ca18_0 := (b6.2 0 _ rfl).1
            have ca18_1 := (b6.2 1 _ rfl).1
            have ca18_2 := (b6.2 2 _ rfl).1
            have ca18_3 := (b6.2 3 _ rfl).1
            have ca19_0 := (b7.2 0 _ rfl).1
            have ca19_1 := (b7.2 1 _ rfl).1
            have ca19_2 := (b7.2 2 _ rfl).1
            have ca19_3 := (b7.2 3 _ rfl).1
            go_wp2_with fail
            clear ca18_0 ca18_1 ca18_2 ca18_3 ca19_0 ca19_1 ca19_2 ca19_3
            go_ret
            exact ⟨ret_bool rfl, kw⟩
          by_cases eb : bAnd ca cb = ca
          · have t2 : bits BinOp.and IntKind.i64 ca cb = ca := eb
            have HY := hid ((coR_in (of_decide_eq_true HM.out) HA.out HB.out).trans (decide_eq_true eb))
            clear eb
            have HC := hid (coTo_next (l := l) (ws := ws) (us := us) (ws' := xs) HK.out HY.out)
            have ca18_0 := (b6.2 0 _ rfl).1
            have ca18_1 := (b6.2 1 _ rfl).1
            have ca18_2 := (b6.2 2 _ rfl).1
            have ca18_3 := (b6.2 3 _ rfl).1
            have ca19_0 := (b7.2 0 _ rfl).1
            have ca19_1 := (b7.2 1 _ rfl).1
            have ca19_2 := (b7.2 2 _ rfl).1
            have ca19_3 := (b7.2 3 _ rfl).1
            go_wp2_with fail
            clear ca18_0 ca18_1 ca18_2 ca18_3 ca19_0 ca19_1 ca19_2 ca19_3
            go_roundw
            case rel => exact ⟨j + 1, by omega, by go_num, HC, b6, b7, kw⟩
            case measure => simp [intOf]; omega
          have t2 : ¬ bits BinOp.and IntKind.i64 ca cb = ca := eb
          have t5 : (bits BinOp.and IntKind.i64 ca cb != ca) = true := by rw [bne_iff_ne]; exact eb
          have t6 : (ca != cb) = true := by rw [bne_iff_ne]; exact ec
          have HY := hid ((coR_in (of_decide_eq_true HM.out) HA.out HB.out).trans (decide_eq_false eb))
          clear eb
          obtain rfl : p = false := HP.out.symm.trans (flB_co HQ.out hlt HY.out)
          have ca18_0 := (b6.2 0 _ rfl).1
          have ca18_1 := (b6.2 1 _ rfl).1
          have ca18_2 := (b6.2 2 _ rfl).1
          have ca18_3 := (b6.2 3 _ rfl).1
          have ca19_0 := (b7.2 0 _ rfl).1
          have ca19_1 := (b7.2 1 _ rfl).1
          have ca19_2 := (b7.2 2 _ rfl).1
          have ca19_3 := (b7.2 3 _ rfl).1
          go_wp2_with fail
          clear ca18_0 ca18_1 ca18_2 ca18_3 ca19_0 ca19_1 ca19_2 ca19_3
          go_ret
          exact ⟨ret_bool rfl, kw⟩
        obtain rfl : q = j := by omega
        have HE := hid ((flB_yes (t := (lv, vs, ws, sm)) (u := (lu, us, xs, su)) HN.out HQ.out HLB.out HVA.out HK.out).symm.trans HP.out)
        have hi1 : ¬ (q : Int) < (q : Int) := by omega
        obtain rfl : p = true := HE.out.symm.trans HSM.out
        go_wp2_with fail
        go_ret
        exact ⟨ret_bool rfl, kw⟩
end Go.Proofs.YtlkjhkkfdmjfcaaGreatDoor
