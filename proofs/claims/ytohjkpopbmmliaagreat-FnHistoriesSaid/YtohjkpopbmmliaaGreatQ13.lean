/- The law FnHistories: the law FnHistories returns true for all arguments; the statement as it was given, with no condition. -/
import Derived.Test.YtohjkpopbmmliaaGreatQ12
namespace Go.Proofs.YtohjkpopbmmliaaGreat
open Go.RowKit Go.Sort
set_option linter.unusedVariables false
set_option linter.unusedSimpArgs false
set_option maxRecDepth 100000 in
set_option maxHeartbeats 25600000 in
theorem FnHistories_law (A0 : Option Addr) (n0 c0 : Nat) (A1 : Option Addr) (n1 c1 : Nat) (w : World) (wa0 : BytesArg w A0 n0) (wa1 : BytesArg w A1 n1) :
    Calls Tryz.prog 3 #[.slice A0 n0 c0, .slice A1 n1 c1] w fun e w' => e = .returned (.bool true) ∧ Below w.heap.size w w' := by
  have m0 := wa0.1
  have m1 := wa1.1
  unfold maxLen at m0 m1
  have B0 : Bytes w w.heap.size A0 n0 := wa0
  have B1_ : Bytes w w.heap.size A1 n1 := wa1
  go_enter Tryz.func3, Tryz.ntmps3
  have kw := keeps_refl w
  go_wp2_with fail
  refine (big_any m0 m1).mono ?_
  rintro e w' ⟨b, rfl, rfl⟩
  cases b
  rotate_left
  · go_wp2_with fail
    go_ret
    exact ⟨rfl, kw⟩
  go_wp2_with fail
  refine (DrawAddRelease_any (B0.keeps kw)).mono ?_
  rintro e w1 ⟨A2, N2, C2, ps, S2, q, cq, l, R, n7, cr, rs, d1, d2, d3, d4, P, m, cm, ts, x1, x2, x3, x4, rfl, iG, hN, iS, hcap, hSD, hR, hcr, hr14, hT, hcm, hm21, k1⟩
  replace kw := Keeps.trans kw k1
  have sz2 := kw.size
  clear k1
  have hS : Sch w1 S2 q cq l := ⟨⟨_, _, iS⟩, hSD.names, hcap.1, hcap.2⟩
  clear iS hcap hSD hcr hcm
  replace iG := iG.keeps (keeps_alloc w1 (.cells #[.slice A2 N2 C2] 26))
  replace hS := hS.keeps (keeps_alloc w1 (.cells #[.slice A2 N2 C2] 26))
  replace hR := hR.keeps (keeps_alloc w1 (.cells #[.slice A2 N2 C2] 26))
  replace hT := hT.keeps (keeps_alloc w1 (.cells #[.slice A2 N2 C2] 26))
  replace kw := Keeps.trans kw (keeps_alloc w1 (.cells #[.slice A2 N2 C2] 26))
  have b5 : B1 (w1.alloc (.cells #[.slice A2 N2 C2] 26)) w1.heap.size (.slice A2 N2 C2) := B1.new' (by simp)
  replace b5 := b5.keeps (keeps_alloc (w1.alloc (.cells #[.slice A2 N2 C2] 26)) (.cells #[.int .i64 d1, .int .i64 d2, .int .i64 d3, .int .i64 d4] 32))
  replace iG := iG.keeps (keeps_alloc (w1.alloc (.cells #[.slice A2 N2 C2] 26)) (.cells #[.int .i64 d1, .int .i64 d2, .int .i64 d3, .int .i64 d4] 32))
  replace hS := hS.keeps (keeps_alloc (w1.alloc (.cells #[.slice A2 N2 C2] 26)) (.cells #[.int .i64 d1, .int .i64 d2, .int .i64 d3, .int .i64 d4] 32))
  replace hR := hR.keeps (keeps_alloc (w1.alloc (.cells #[.slice A2 N2 C2] 26)) (.cells #[.int .i64 d1, .int .i64 d2, .int .i64 d3, .int .i64 d4] 32))
  replace hT := hT.keeps (keeps_alloc (w1.alloc (.cells #[.slice A2 N2 C2] 26)) (.cells #[.int .i64 d1, .int .i64 d2, .int .i64 d3, .int .i64 d4] 32))
  replace kw := Keeps.trans kw (keeps_alloc (w1.alloc (.cells #[.slice A2 N2 C2] 26)) (.cells #[.int .i64 d1, .int .i64 d2, .int .i64 d3, .int .i64 d4] 32))
  have b8 : Bl ((w1.alloc (.cells #[.slice A2 N2 C2] 26)).alloc (.cells #[.int .i64 d1, .int .i64 d2, .int .i64 d3, .int .i64 d4] 32)) (w1.heap.size + 1) [.int .i64 d1, .int .i64 d2, .int .i64 d3, .int .i64 d4] := Bl.new' (by simp) (by simp)
  replace b5 := b5.keeps (keeps_alloc ((w1.alloc (.cells #[.slice A2 N2 C2] 26)).alloc (.cells #[.int .i64 d1, .int .i64 d2, .int .i64 d3, .int .i64 d4] 32)) (.cells #[.int .i64 x1, .int .i64 x2, .int .i64 x3, .int .i64 x4] 32))
  replace b8 := b8.keeps (keeps_alloc ((w1.alloc (.cells #[.slice A2 N2 C2] 26)).alloc (.cells #[.int .i64 d1, .int .i64 d2, .int .i64 d3, .int .i64 d4] 32)) (.cells #[.int .i64 x1, .int .i64 x2, .int .i64 x3, .int .i64 x4] 32))
  replace iG := iG.keeps (keeps_alloc ((w1.alloc (.cells #[.slice A2 N2 C2] 26)).alloc (.cells #[.int .i64 d1, .int .i64 d2, .int .i64 d3, .int .i64 d4] 32)) (.cells #[.int .i64 x1, .int .i64 x2, .int .i64 x3, .int .i64 x4] 32))
  replace hS := hS.keeps (keeps_alloc ((w1.alloc (.cells #[.slice A2 N2 C2] 26)).alloc (.cells #[.int .i64 d1, .int .i64 d2, .int .i64 d3, .int .i64 d4] 32)) (.cells #[.int .i64 x1, .int .i64 x2, .int .i64 x3, .int .i64 x4] 32))
  replace hR := hR.keeps (keeps_alloc ((w1.alloc (.cells #[.slice A2 N2 C2] 26)).alloc (.cells #[.int .i64 d1, .int .i64 d2, .int .i64 d3, .int .i64 d4] 32)) (.cells #[.int .i64 x1, .int .i64 x2, .int .i64 x3, .int .i64 x4] 32))
  replace hT := hT.keeps (keeps_alloc ((w1.alloc (.cells #[.slice A2 N2 C2] 26)).alloc (.cells #[.int .i64 d1, .int .i64 d2, .int .i64 d3, .int .i64 d4] 32)) (.cells #[.int .i64 x1, .int .i64 x2, .int .i64 x3, .int .i64 x4] 32))
  replace kw := Keeps.trans kw (keeps_alloc ((w1.alloc (.cells #[.slice A2 N2 C2] 26)).alloc (.cells #[.int .i64 d1, .int .i64 d2, .int .i64 d3, .int .i64 d4] 32)) (.cells #[.int .i64 x1, .int .i64 x2, .int .i64 x3, .int .i64 x4] 32))
  have b10 : Bl (((w1.alloc (.cells #[.slice A2 N2 C2] 26)).alloc (.cells #[.int .i64 d1, .int .i64 d2, .int .i64 d3, .int .i64 d4] 32)).alloc (.cells #[.int .i64 x1, .int .i64 x2, .int .i64 x3, .int .i64 x4] 32)) (w1.heap.size + 1 + 1) [.int .i64 x1, .int .i64 x2, .int .i64 x3, .int .i64 x4] := Bl.new' (by simp) (by simp)
  obtain ⟨zs, z, HZ⟩ : ∃ zs z, Hid (adQ ps l rs (d1, d2, d3, d4) ts (x1, x2, x3, x4) = (zs, z)) := ⟨_, _, rfl⟩
  have HCA := hid (hs_can (ps := ps) (l := l) (rs := rs) (ts := ts) (b := (d1, d2, d3, d4)) (x := (x1, x2, x3, x4)))
  rw [HZ.out] at HCA
  obtain ⟨q1, cb, HC⟩ : ∃ q1 cb, Hid (caQ ps l rs (d1, d2, d3, d4) ts (x1, x2, x3, x4) = (q1, cb)) := ⟨_, _, rfl⟩
  rw [HC.out] at HCA
  obtain rfl : z = q1 := HCA.out
  clear HCA
  obtain ⟨r, rb, HQ⟩ : ∃ r rb, Hid (rqQ ps l rs (d1, d2, d3, d4) (x1, x2, x3, x4) = (r, rb)) := ⟨_, _, rfl⟩
  obtain ⟨ca3, fa3⟩ := id b5
  have ca4_0 : (((w1.alloc (.cells #[.slice A2 N2 C2] 26)).alloc (.cells #[.int .i64 d1, .int .i64 d2, .int .i64 d3, .int .i64 d4] 32)).alloc (.cells #[.int .i64 x1, .int .i64 x2, .int .i64 x3, .int .i64 x4] 32)).cell? ⟨w1.heap.size + 1, 0, none⟩ = some (.int .i64 d1) := (b8.2 0 _ rfl).1
  have ca4_1 : (((w1.alloc (.cells #[.slice A2 N2 C2] 26)).alloc (.cells #[.int .i64 d1, .int .i64 d2, .int .i64 d3, .int .i64 d4] 32)).alloc (.cells #[.int .i64 x1, .int .i64 x2, .int .i64 x3, .int .i64 x4] 32)).cell? ⟨w1.heap.size + 1, 1, none⟩ = some (.int .i64 d2) := (b8.2 1 _ rfl).1
  have ca4_2 : (((w1.alloc (.cells #[.slice A2 N2 C2] 26)).alloc (.cells #[.int .i64 d1, .int .i64 d2, .int .i64 d3, .int .i64 d4] 32)).alloc (.cells #[.int .i64 x1, .int .i64 x2, .int .i64 x3, .int .i64 x4] 32)).cell? ⟨w1.heap.size + 1, 2, none⟩ = some (.int .i64 d3) := (b8.2 2 _ rfl).1
  have ca4_3 : (((w1.alloc (.cells #[.slice A2 N2 C2] 26)).alloc (.cells #[.int .i64 d1, .int .i64 d2, .int .i64 d3, .int .i64 d4] 32)).alloc (.cells #[.int .i64 x1, .int .i64 x2, .int .i64 x3, .int .i64 x4] 32)).cell? ⟨w1.heap.size + 1, 3, none⟩ = some (.int .i64 d4) := (b8.2 3 _ rfl).1
  have ca5_0 : (((w1.alloc (.cells #[.slice A2 N2 C2] 26)).alloc (.cells #[.int .i64 d1, .int .i64 d2, .int .i64 d3, .int .i64 d4] 32)).alloc (.cells #[.int .i64 x1, .int .i64 x2, .int .i64 x3, .int .i64 x4] 32)).cell? ⟨w1.heap.size + 1 + 1, 0, none⟩ = some (.int .i64 x1) := (b10.2 0 _ rfl).1
  have ca5_1 : (((w1.alloc (.cells #[.slice A2 N2 C2] 26)).alloc (.cells #[.int .i64 d1, .int .i64 d2, .int .i64 d3, .int .i64 d4] 32)).alloc (.cells #[.int .i64 x1, .int .i64 x2, .int .i64 x3, .int .i64 x4] 32)).cell? ⟨w1.heap.size + 1 + 1, 1, none⟩ = some (.int .i64 x2) := (b10.2 1 _ rfl).1
  have ca5_2 : (((w1.alloc (.cells #[.slice A2 N2 C2] 26)).alloc (.cells #[.int .i64 d1, .int .i64 d2, .int .i64 d3, .int .i64 d4] 32)).alloc (.cells #[.int .i64 x1, .int .i64 x2, .int .i64 x3, .int .i64 x4] 32)).cell? ⟨w1.heap.size + 1 + 1, 2, none⟩ = some (.int .i64 x3) := (b10.2 2 _ rfl).1
  have ca5_3 : (((w1.alloc (.cells #[.slice A2 N2 C2] 26)).alloc (.cells #[.int .i64 d1, .int .i64 d2, .int .i64 d3, .int .i64 d4] 32)).alloc (.cells #[.int .i64 x1, .int .i64 x2, .int .i64 x3, .int .i64 x4] 32)).cell? ⟨w1.heap.size + 1 + 1, 3, none⟩ = some (.int .i64 x4) := (b10.2 3 _ rfl).1
  go_wp2_with fail
  clear ca3 fa3 ca4_0 ca4_1 ca4_2 ca4_3 ca5_0 ca5_1 ca5_2 ca5_3
  refine (implAddRelease_gen iG hS hR hT).mono ?_
  rintro e w6 ⟨H1, n8, c8, rfl, mH1, k6⟩
  replace b5 := b5.keeps k6
  replace b8 := b8.keeps k6
  replace b10 := b10.keeps k6
  replace iG := iG.keeps k6
  replace hS := hS.keeps k6
  replace hR := hR.keeps k6
  replace hT := hT.keeps k6
  replace kw := Keeps.trans kw k6
  have lt7 := b10.lt
  have sz8 := kw.size
  clear k6
  rw [HZ.out]
  rw [HZ.out] at mH1
  replace mH1 : Rels true true w6 _ _ H1 n8 zs := RelsO.rels mH1
  obtain ⟨ca9, fa9⟩ := id b5
  have ca10_0 : w6.cell? ⟨w1.heap.size + 1, 0, none⟩ = some (.int .i64 d1) := (b8.2 0 _ rfl).1
  have ca10_1 : w6.cell? ⟨w1.heap.size + 1, 1, none⟩ = some (.int .i64 d2) := (b8.2 1 _ rfl).1
  have ca10_2 : w6.cell? ⟨w1.heap.size + 1, 2, none⟩ = some (.int .i64 d3) := (b8.2 2 _ rfl).1
  have ca10_3 : w6.cell? ⟨w1.heap.size + 1, 3, none⟩ = some (.int .i64 d4) := (b8.2 3 _ rfl).1
  have ca11_0 : w6.cell? ⟨w1.heap.size + 1 + 1, 0, none⟩ = some (.int .i64 x1) := (b10.2 0 _ rfl).1
  have ca11_1 : w6.cell? ⟨w1.heap.size + 1 + 1, 1, none⟩ = some (.int .i64 x2) := (b10.2 1 _ rfl).1
  have ca11_2 : w6.cell? ⟨w1.heap.size + 1 + 1, 2, none⟩ = some (.int .i64 x3) := (b10.2 2 _ rfl).1
  have ca11_3 : w6.cell? ⟨w1.heap.size + 1 + 1, 3, none⟩ = some (.int .i64 x4) := (b10.2 3 _ rfl).1
  go_wp2_with fail
  clear ca9 fa9 ca10_0 ca10_1 ca10_2 ca10_3 ca11_0 ca11_1 ca11_2 ca11_3
  refine (specAddRelease_gen iG hS hR hT).mono ?_
  rintro e w12 ⟨H2, n9, c9, rfl, mH2, k12⟩
  replace b5 := b5.keeps k12
  replace b8 := b8.keeps k12
  replace b10 := b10.keeps k12
  replace iG := iG.keeps k12
  replace hS := hS.keeps k12
  replace hR := hR.keeps k12
  replace hT := hT.keeps k12
  replace mH1 := mH1.keeps k12
  replace kw := Keeps.trans kw k12
  have lt13 := b10.lt
  have sz14 := kw.size
  clear k12
  rw [HZ.out]
  rw [HZ.out] at mH2
  replace mH2 : Rels true true w12 _ _ H2 n9 zs := RelsO.rels mH2
  cases z
  · have hrr : (r != r) = false := by simp
    have HG0 := hid (fun (e1 : cb = true) (e2 : rb = true) => show ¬ 0 < r from by
      have h := hs_left (ps := ps) (l := l) (rs := rs) (ts := ts) (b := (d1, d2, d3, d4)) (x := (x1, x2, x3, x4)) (by rw [HC.out]; exact e1) (by rw [HQ.out]; exact e2)
      rw [HC.out, HQ.out] at h
      exact of_decide_eq_false h.symm)
    cases cb <;> cases rb
    all_goals (
      (try have hr0 := HG0.out rfl rfl)
      clear HG0
      go_wp2_with fail
      refine (pSameReleases_true mH1 mH2).mono ?_
      rintro e w15 ⟨rfl, k15⟩
      replace b5 := b5.keeps k15
      replace b8 := b8.keeps k15
      replace b10 := b10.keeps k15
      replace iG := iG.keeps k15
      replace hS := hS.keeps k15
      replace hR := hR.keeps k15
      replace hT := hT.keeps k15
      replace mH1 := mH1.keeps k15
      replace mH2 := mH2.keeps k15
      replace kw := Keeps.trans kw k15
      have lt16 := b10.lt
      have sz17 := kw.size
      clear k15
      obtain ⟨ca18, fa18⟩ := id b5
      have ca19_0 : w15.cell? ⟨w1.heap.size + 1, 0, none⟩ = some (.int .i64 d1) := (b8.2 0 _ rfl).1
      have ca19_1 : w15.cell? ⟨w1.heap.size + 1, 1, none⟩ = some (.int .i64 d2) := (b8.2 1 _ rfl).1
      have ca19_2 : w15.cell? ⟨w1.heap.size + 1, 2, none⟩ = some (.int .i64 d3) := (b8.2 2 _ rfl).1
      have ca19_3 : w15.cell? ⟨w1.heap.size + 1, 3, none⟩ = some (.int .i64 d4) := (b8.2 3 _ rfl).1
      have ca20_0 : w15.cell? ⟨w1.heap.size + 1 + 1, 0, none⟩ = some (.int .i64 x1) := (b10.2 0 _ rfl).1
      have ca20_1 : w15.cell? ⟨w1.heap.size + 1 + 1, 1, none⟩ = some (.int .i64 x2) := (b10.2 1 _ rfl).1
      have ca20_2 : w15.cell? ⟨w1.heap.size + 1 + 1, 2, none⟩ = some (.int .i64 x3) := (b10.2 2 _ rfl).1
      have ca20_3 : w15.cell? ⟨w1.heap.size + 1 + 1, 3, none⟩ = some (.int .i64 x4) := (b10.2 3 _ rfl).1
      go_wp2_with fail
      clear ca18 fa18 ca19_0 ca19_1 ca19_2 ca19_3 ca20_0 ca20_1 ca20_2 ca20_3
      refine (implCanAdd_gen iG hS hR hT).mono ?_
      rintro e w21 ⟨rfl, k21⟩
      replace b5 := b5.keeps k21
      replace b8 := b8.keeps k21
      replace b10 := b10.keeps k21
      replace iG := iG.keeps k21
      replace hS := hS.keeps k21
      replace hR := hR.keeps k21
      replace hT := hT.keeps k21
      replace mH1 := mH1.keeps k21
      replace mH2 := mH2.keeps k21
      replace kw := Keeps.trans kw k21
      have lt22 := b10.lt
      have sz23 := kw.size
      clear k21
      rw [HC.out]
      obtain ⟨ca24, fa24⟩ := id b5
      have ca25_0 : w21.cell? ⟨w1.heap.size + 1, 0, none⟩ = some (.int .i64 d1) := (b8.2 0 _ rfl).1
      have ca25_1 : w21.cell? ⟨w1.heap.size + 1, 1, none⟩ = some (.int .i64 d2) := (b8.2 1 _ rfl).1
      have ca25_2 : w21.cell? ⟨w1.heap.size + 1, 2, none⟩ = some (.int .i64 d3) := (b8.2 2 _ rfl).1
      have ca25_3 : w21.cell? ⟨w1.heap.size + 1, 3, none⟩ = some (.int .i64 d4) := (b8.2 3 _ rfl).1
      have ca26_0 : w21.cell? ⟨w1.heap.size + 1 + 1, 0, none⟩ = some (.int .i64 x1) := (b10.2 0 _ rfl).1
      have ca26_1 : w21.cell? ⟨w1.heap.size + 1 + 1, 1, none⟩ = some (.int .i64 x2) := (b10.2 1 _ rfl).1
      have ca26_2 : w21.cell? ⟨w1.heap.size + 1 + 1, 2, none⟩ = some (.int .i64 x3) := (b10.2 2 _ rfl).1
      have ca26_3 : w21.cell? ⟨w1.heap.size + 1 + 1, 3, none⟩ = some (.int .i64 x4) := (b10.2 3 _ rfl).1
      go_wp2_with fail
      clear ca24 fa24 ca25_0 ca25_1 ca25_2 ca25_3 ca26_0 ca26_1 ca26_2 ca26_3
      refine (implReleasesLeft_gen iG hS hR).mono ?_
      rintro e w27 ⟨rfl, k27⟩
      replace b5 := b5.keeps k27
      replace b8 := b8.keeps k27
      replace b10 := b10.keeps k27
      replace iG := iG.keeps k27
      replace hS := hS.keeps k27
      replace hR := hR.keeps k27
      replace hT := hT.keeps k27
      replace mH1 := mH1.keeps k27
      replace mH2 := mH2.keeps k27
      replace kw := Keeps.trans kw k27
      have lt28 := b10.lt
      have sz29 := kw.size
      clear k27
      rw [HQ.out]
      obtain ⟨ca30, fa30⟩ := id b5
      have ca31_0 : w27.cell? ⟨w1.heap.size + 1, 0, none⟩ = some (.int .i64 d1) := (b8.2 0 _ rfl).1
      have ca31_1 : w27.cell? ⟨w1.heap.size + 1, 1, none⟩ = some (.int .i64 d2) := (b8.2 1 _ rfl).1
      have ca31_2 : w27.cell? ⟨w1.heap.size + 1, 2, none⟩ = some (.int .i64 d3) := (b8.2 2 _ rfl).1
      have ca31_3 : w27.cell? ⟨w1.heap.size + 1, 3, none⟩ = some (.int .i64 d4) := (b8.2 3 _ rfl).1
      have ca32_0 : w27.cell? ⟨w1.heap.size + 1 + 1, 0, none⟩ = some (.int .i64 x1) := (b10.2 0 _ rfl).1
      have ca32_1 : w27.cell? ⟨w1.heap.size + 1 + 1, 1, none⟩ = some (.int .i64 x2) := (b10.2 1 _ rfl).1
      have ca32_2 : w27.cell? ⟨w1.heap.size + 1 + 1, 2, none⟩ = some (.int .i64 x3) := (b10.2 2 _ rfl).1
      have ca32_3 : w27.cell? ⟨w1.heap.size + 1 + 1, 3, none⟩ = some (.int .i64 x4) := (b10.2 3 _ rfl).1
      go_wp2_with fail
      clear ca30 fa30 ca31_0 ca31_1 ca31_2 ca31_3 ca32_0 ca32_1 ca32_2 ca32_3
      refine (specReleasesLeft_gen iG hS hR).mono ?_
      rintro e w33 ⟨rfl, k33⟩
      replace b5 := b5.keeps k33
      replace b8 := b8.keeps k33
      replace b10 := b10.keeps k33
      replace iG := iG.keeps k33
      replace hS := hS.keeps k33
      replace hR := hR.keeps k33
      replace hT := hT.keeps k33
      replace mH1 := mH1.keeps k33
      replace mH2 := mH2.keeps k33
      replace kw := Keeps.trans kw k33
      have lt34 := b10.lt
      have sz35 := kw.size
      clear k33
      rw [HQ.out]
      go_wp2_with fail
      refine (DrawFirstOverrun_any (B1_.keeps kw)).mono ?_
      rintro e w36 ⟨A3, N3, C3, ps3, S3, q3, cq3, l3, R3, n3, cr3, rs3, e1, e2, e3, e4, rfl, jG, jN, jS, jcap, jSD, jR, jcr, jr14, k36⟩
      replace b5 := b5.keeps k36
      replace b8 := b8.keeps k36
      replace b10 := b10.keeps k36
      replace iG := iG.keeps k36
      replace hS := hS.keeps k36
      replace hR := hR.keeps k36
      replace hT := hT.keeps k36
      replace mH1 := mH1.keeps k36
      replace mH2 := mH2.keeps k36
      replace kw := Keeps.trans kw k36
      have lt37 := b10.lt
      have sz38 := kw.size
      clear k36
      have jS' : Sch w36 S3 q3 cq3 l3 := ⟨⟨_, _, jS⟩, jSD.names, jcap.1, jcap.2⟩
      clear jS jcap jSD
      replace jG := jG.keeps (keeps_alloc w36 (.cells #[.slice A3 N3 C3] 26))
      replace jS' := jS'.keeps (keeps_alloc w36 (.cells #[.slice A3 N3 C3] 26))
      replace jR := jR.keeps (keeps_alloc w36 (.cells #[.slice A3 N3 C3] 26))
      replace kw := Keeps.trans kw (keeps_alloc w36 (.cells #[.slice A3 N3 C3] 26))
      have b29 : B1 (w36.alloc (.cells #[.slice A3 N3 C3] 26)) w36.heap.size (.slice A3 N3 C3) := B1.new' (by simp)
      replace b29 := b29.keeps (keeps_alloc (w36.alloc (.cells #[.slice A3 N3 C3] 26)) (.cells #[.int .i64 e1, .int .i64 e2, .int .i64 e3, .int .i64 e4] 32))
      replace jG := jG.keeps (keeps_alloc (w36.alloc (.cells #[.slice A3 N3 C3] 26)) (.cells #[.int .i64 e1, .int .i64 e2, .int .i64 e3, .int .i64 e4] 32))
      replace jS' := jS'.keeps (keeps_alloc (w36.alloc (.cells #[.slice A3 N3 C3] 26)) (.cells #[.int .i64 e1, .int .i64 e2, .int .i64 e3, .int .i64 e4] 32))
      replace jR := jR.keeps (keeps_alloc (w36.alloc (.cells #[.slice A3 N3 C3] 26)) (.cells #[.int .i64 e1, .int .i64 e2, .int .i64 e3, .int .i64 e4] 32))
      replace kw := Keeps.trans kw (keeps_alloc (w36.alloc (.cells #[.slice A3 N3 C3] 26)) (.cells #[.int .i64 e1, .int .i64 e2, .int .i64 e3, .int .i64 e4] 32))
      have b32 : Bl ((w36.alloc (.cells #[.slice A3 N3 C3] 26)).alloc (.cells #[.int .i64 e1, .int .i64 e2, .int .i64 e3, .int .i64 e4] 32)) (w36.heap.size + 1) [.int .i64 e1, .int .i64 e2, .int .i64 e3, .int .i64 e4] := Bl.new' (by simp) (by simp)
      obtain ⟨i9, ib, HF⟩ : ∃ i9 ib, Hid (foQ ps3 l3 rs3 (e1, e2, e3, e4) = (i9, ib)) := ⟨_, _, rfl⟩
      obtain ⟨ca39, fa39⟩ := id b29
      have ca40_0 : ((w36.alloc (.cells #[.slice A3 N3 C3] 26)).alloc (.cells #[.int .i64 e1, .int .i64 e2, .int .i64 e3, .int .i64 e4] 32)).cell? ⟨w36.heap.size + 1, 0, none⟩ = some (.int .i64 e1) := (b32.2 0 _ rfl).1
      have ca40_1 : ((w36.alloc (.cells #[.slice A3 N3 C3] 26)).alloc (.cells #[.int .i64 e1, .int .i64 e2, .int .i64 e3, .int .i64 e4] 32)).cell? ⟨w36.heap.size + 1, 1, none⟩ = some (.int .i64 e2) := (b32.2 1 _ rfl).1
      have ca40_2 : ((w36.alloc (.cells #[.slice A3 N3 C3] 26)).alloc (.cells #[.int .i64 e1, .int .i64 e2, .int .i64 e3, .int .i64 e4] 32)).cell? ⟨w36.heap.size + 1, 2, none⟩ = some (.int .i64 e3) := (b32.2 2 _ rfl).1
      have ca40_3 : ((w36.alloc (.cells #[.slice A3 N3 C3] 26)).alloc (.cells #[.int .i64 e1, .int .i64 e2, .int .i64 e3, .int .i64 e4] 32)).cell? ⟨w36.heap.size + 1, 3, none⟩ = some (.int .i64 e4) := (b32.2 3 _ rfl).1
      go_wp2_with fail
      clear ca39 fa39 ca40_0 ca40_1 ca40_2 ca40_3
      refine (implFirstOverrun_gen jG jS' jR jcr).mono ?_
      rintro e w41 ⟨rfl, k41⟩
      replace b29 := b29.keeps k41
      replace b32 := b32.keeps k41
      replace jG := jG.keeps k41
      replace jS' := jS'.keeps k41
      replace jR := jR.keeps k41
      replace kw := Keeps.trans kw k41
      have lt42 := b32.lt
      have sz43 := kw.size
      clear k41
      rw [HF.out]
      obtain ⟨ca44, fa44⟩ := id b29
      have ca45_0 : w41.cell? ⟨w36.heap.size + 1, 0, none⟩ = some (.int .i64 e1) := (b32.2 0 _ rfl).1
      have ca45_1 : w41.cell? ⟨w36.heap.size + 1, 1, none⟩ = some (.int .i64 e2) := (b32.2 1 _ rfl).1
      have ca45_2 : w41.cell? ⟨w36.heap.size + 1, 2, none⟩ = some (.int .i64 e3) := (b32.2 2 _ rfl).1
      have ca45_3 : w41.cell? ⟨w36.heap.size + 1, 3, none⟩ = some (.int .i64 e4) := (b32.2 3 _ rfl).1
      go_wp2_with fail
      clear ca44 fa44 ca45_0 ca45_1 ca45_2 ca45_3
      refine (specFirstOverrun_gen jG jS' jR jcr).mono ?_
      rintro e w46 ⟨rfl, k46⟩
      replace b29 := b29.keeps k46
      replace b32 := b32.keeps k46
      replace jG := jG.keeps k46
      replace jS' := jS'.keeps k46
      replace jR := jR.keeps k46
      replace kw := Keeps.trans kw k46
      have lt47 := b32.lt
      have sz48 := kw.size
      clear k46
      rw [HF.out]
      have hii : (i9 == i9) = true := by simp
      cases ib
      all_goals (
        go_wp2_with fail
        go_ret
        exact ⟨rfl, kw⟩))
  · obtain ⟨⟨s1, s2, s3, s4⟩, hLB, hLS, hHL, hWI, hHI, hGS, m9, hRQ, hRQ0, hm12⟩ := hs_law (ps := ps) (l := l) (rs := rs) (ts := ts) (b := (d1, d2, d3, d4)) (x := (x1, x2, x3, x4)) (by rw [HC.out])
    have hz9 := HZ.out
    rw [adQ_yes (by rw [HC.out])] at hz9
    obtain rfl : rs ++ [((rs.length : Int) + 1, ts, (x1, x2, x3, x4))] = zs := congrArg (fun p : List RL × Bool => p.1) hz9
    obtain rfl : cb = true := by have := (caQ_parts (show (caQ ps l rs (d1, d2, d3, d4) ts (x1, x2, x3, x4)).1 = true by rw [HC.out])).1; rw [HC.out] at this; exact this
    rw [HQ.out] at hRQ0
    injection hRQ0 with er eb
    subst eb
    have HLB := hid hLB
    have HLS := hid hLS
    have HHL := hid hHL
    have HWI := hid hWI
    have HHI := hid hHI
    have HRQ := hid hRQ
    have hr0 : 0 < r := by omega
    have hr1 : r ≤ 13 := by omega
    have hrm : (((m9 : Nat) : Int) != r - 1) = false := by simp; omega
    have hrr : (r != r) = false := by simp
    clear hLB hLS hHL hWI hHI hGS hRQ hz9 er hm12
    obtain ⟨zs, hzs⟩ : ∃ zs, rs ++ [((rs.length : Int) + 1, ts, (x1, x2, x3, x4))] = zs := ⟨_, rfl⟩
    rw [hzs] at HHL HHI HRQ HZ mH1 mH2
    clear hzs
    go_wp2_with fail
    refine (pSameReleases_true mH1 mH2).mono ?_
    rintro e w15 ⟨rfl, k15⟩
    replace b5 := b5.keeps k15
    replace b8 := b8.keeps k15
    replace b10 := b10.keeps k15
    replace iG := iG.keeps k15
    replace hS := hS.keeps k15
    replace hR := hR.keeps k15
    replace hT := hT.keeps k15
    replace mH1 := mH1.keeps k15
    replace mH2 := mH2.keeps k15
    replace kw := Keeps.trans kw k15
    have lt16 := b10.lt
    have sz17 := kw.size
    clear k15
    obtain ⟨ca18, fa18⟩ := id b5
    have ca19_0 : w15.cell? ⟨w1.heap.size + 1, 0, none⟩ = some (.int .i64 d1) := (b8.2 0 _ rfl).1
    have ca19_1 : w15.cell? ⟨w1.heap.size + 1, 1, none⟩ = some (.int .i64 d2) := (b8.2 1 _ rfl).1
    have ca19_2 : w15.cell? ⟨w1.heap.size + 1, 2, none⟩ = some (.int .i64 d3) := (b8.2 2 _ rfl).1
    have ca19_3 : w15.cell? ⟨w1.heap.size + 1, 3, none⟩ = some (.int .i64 d4) := (b8.2 3 _ rfl).1
    have ca20_0 : w15.cell? ⟨w1.heap.size + 1 + 1, 0, none⟩ = some (.int .i64 x1) := (b10.2 0 _ rfl).1
    have ca20_1 : w15.cell? ⟨w1.heap.size + 1 + 1, 1, none⟩ = some (.int .i64 x2) := (b10.2 1 _ rfl).1
    have ca20_2 : w15.cell? ⟨w1.heap.size + 1 + 1, 2, none⟩ = some (.int .i64 x3) := (b10.2 2 _ rfl).1
    have ca20_3 : w15.cell? ⟨w1.heap.size + 1 + 1, 3, none⟩ = some (.int .i64 x4) := (b10.2 3 _ rfl).1
    go_wp2_with fail
    clear ca18 fa18 ca19_0 ca19_1 ca19_2 ca19_3 ca20_0 ca20_1 ca20_2 ca20_3
    refine (implCanAdd_gen iG hS hR hT).mono ?_
    rintro e w21 ⟨rfl, k21⟩
    replace b5 := b5.keeps k21
    replace b8 := b8.keeps k21
    replace b10 := b10.keeps k21
    replace iG := iG.keeps k21
    replace hS := hS.keeps k21
    replace hR := hR.keeps k21
    replace hT := hT.keeps k21
    replace mH1 := mH1.keeps k21
    replace mH2 := mH2.keeps k21
    replace kw := Keeps.trans kw k21
    have lt22 := b10.lt
    have sz23 := kw.size
    clear k21
    rw [HC.out]
    obtain ⟨ca24, fa24⟩ := id b5
    have ca25_0 : w21.cell? ⟨w1.heap.size + 1, 0, none⟩ = some (.int .i64 d1) := (b8.2 0 _ rfl).1
    have ca25_1 : w21.cell? ⟨w1.heap.size + 1, 1, none⟩ = some (.int .i64 d2) := (b8.2 1 _ rfl).1
    have ca25_2 : w21.cell? ⟨w1.heap.size + 1, 2, none⟩ = some (.int .i64 d3) := (b8.2 2 _ rfl).1
    have ca25_3 : w21.cell? ⟨w1.heap.size + 1, 3, none⟩ = some (.int .i64 d4) := (b8.2 3 _ rfl).1
    have ca26_0 : w21.cell? ⟨w1.heap.size + 1 + 1, 0, none⟩ = some (.int .i64 x1) := (b10.2 0 _ rfl).1
    have ca26_1 : w21.cell? ⟨w1.heap.size + 1 + 1, 1, none⟩ = some (.int .i64 x2) := (b10.2 1 _ rfl).1
    have ca26_2 : w21.cell? ⟨w1.heap.size + 1 + 1, 2, none⟩ = some (.int .i64 x3) := (b10.2 2 _ rfl).1
    have ca26_3 : w21.cell? ⟨w1.heap.size + 1 + 1, 3, none⟩ = some (.int .i64 x4) := (b10.2 3 _ rfl).1
    go_wp2_with fail
    clear ca24 fa24 ca25_0 ca25_1 ca25_2 ca25_3 ca26_0 ca26_1 ca26_2 ca26_3
    refine (implReleasesLeft_gen iG hS hR).mono ?_
    rintro e w27 ⟨rfl, k27⟩
    replace b5 := b5.keeps k27
    replace b8 := b8.keeps k27
    replace b10 := b10.keeps k27
    replace iG := iG.keeps k27
    replace hS := hS.keeps k27
    replace hR := hR.keeps k27
    replace hT := hT.keeps k27
    replace mH1 := mH1.keeps k27
    replace mH2 := mH2.keeps k27
    replace kw := Keeps.trans kw k27
    have lt28 := b10.lt
    have sz29 := kw.size
    clear k27
    rw [HQ.out]
    obtain ⟨ca30, fa30⟩ := id b5
    have ca31_0 : w27.cell? ⟨w1.heap.size + 1, 0, none⟩ = some (.int .i64 d1) := (b8.2 0 _ rfl).1
    have ca31_1 : w27.cell? ⟨w1.heap.size + 1, 1, none⟩ = some (.int .i64 d2) := (b8.2 1 _ rfl).1
    have ca31_2 : w27.cell? ⟨w1.heap.size + 1, 2, none⟩ = some (.int .i64 d3) := (b8.2 2 _ rfl).1
    have ca31_3 : w27.cell? ⟨w1.heap.size + 1, 3, none⟩ = some (.int .i64 d4) := (b8.2 3 _ rfl).1
    have ca32_0 : w27.cell? ⟨w1.heap.size + 1 + 1, 0, none⟩ = some (.int .i64 x1) := (b10.2 0 _ rfl).1
    have ca32_1 : w27.cell? ⟨w1.heap.size + 1 + 1, 1, none⟩ = some (.int .i64 x2) := (b10.2 1 _ rfl).1
    have ca32_2 : w27.cell? ⟨w1.heap.size + 1 + 1, 2, none⟩ = some (.int .i64 x3) := (b10.2 2 _ rfl).1
    have ca32_3 : w27.cell? ⟨w1.heap.size + 1 + 1, 3, none⟩ = some (.int .i64 x4) := (b10.2 3 _ rfl).1
    go_wp2_with fail
    clear ca30 fa30 ca31_0 ca31_1 ca31_2 ca31_3 ca32_0 ca32_1 ca32_2 ca32_3
    refine (specReleasesLeft_gen iG hS hR).mono ?_
    rintro e w33 ⟨rfl, k33⟩
    replace b5 := b5.keeps k33
    replace b8 := b8.keeps k33
    replace b10 := b10.keeps k33
    replace iG := iG.keeps k33
    replace hS := hS.keeps k33
    replace hR := hR.keeps k33
    replace hT := hT.keeps k33
    replace mH1 := mH1.keeps k33
    replace mH2 := mH2.keeps k33
    replace kw := Keeps.trans kw k33
    have lt34 := b10.lt
    have sz35 := kw.size
    clear k33
    rw [HQ.out]
    obtain ⟨ca36, fa36⟩ := id b5
    have ca37_0 : w33.cell? ⟨w1.heap.size + 1, 0, none⟩ = some (.int .i64 d1) := (b8.2 0 _ rfl).1
    have ca37_1 : w33.cell? ⟨w1.heap.size + 1, 1, none⟩ = some (.int .i64 d2) := (b8.2 1 _ rfl).1
    have ca37_2 : w33.cell? ⟨w1.heap.size + 1, 2, none⟩ = some (.int .i64 d3) := (b8.2 2 _ rfl).1
    have ca37_3 : w33.cell? ⟨w1.heap.size + 1, 3, none⟩ = some (.int .i64 d4) := (b8.2 3 _ rfl).1
    have ca38_0 : w33.cell? ⟨w1.heap.size + 1 + 1, 0, none⟩ = some (.int .i64 x1) := (b10.2 0 _ rfl).1
    have ca38_1 : w33.cell? ⟨w1.heap.size + 1 + 1, 1, none⟩ = some (.int .i64 x2) := (b10.2 1 _ rfl).1
    have ca38_2 : w33.cell? ⟨w1.heap.size + 1 + 1, 2, none⟩ = some (.int .i64 x3) := (b10.2 2 _ rfl).1
    have ca38_3 : w33.cell? ⟨w1.heap.size + 1 + 1, 3, none⟩ = some (.int .i64 x4) := (b10.2 3 _ rfl).1
    go_wp2_with fail
    clear ca36 fa36 ca37_0 ca37_1 ca37_2 ca37_3 ca38_0 ca38_1 ca38_2 ca38_3
    refine (implHistoryLoss_gen iG hS mH1).mono ?_
    rintro e w39 ⟨rfl, k39⟩
    replace b5 := b5.keeps k39
    replace b8 := b8.keeps k39
    replace b10 := b10.keeps k39
    replace iG := iG.keeps k39
    replace hS := hS.keeps k39
    replace hR := hR.keeps k39
    replace hT := hT.keeps k39
    replace mH1 := mH1.keeps k39
    replace mH2 := mH2.keeps k39
    replace kw := Keeps.trans kw k39
    have lt40 := b10.lt
    have sz41 := kw.size
    clear k39
    rw [HHL.out]
    replace b5 := b5.keeps (keeps_alloc w39 (.cells #[.int .i64 s1, .int .i64 s2, .int .i64 s3, .int .i64 s4] 32))
    replace b8 := b8.keeps (keeps_alloc w39 (.cells #[.int .i64 s1, .int .i64 s2, .int .i64 s3, .int .i64 s4] 32))
    replace b10 := b10.keeps (keeps_alloc w39 (.cells #[.int .i64 s1, .int .i64 s2, .int .i64 s3, .int .i64 s4] 32))
    replace iG := iG.keeps (keeps_alloc w39 (.cells #[.int .i64 s1, .int .i64 s2, .int .i64 s3, .int .i64 s4] 32))
    replace hS := hS.keeps (keeps_alloc w39 (.cells #[.int .i64 s1, .int .i64 s2, .int .i64 s3, .int .i64 s4] 32))
    replace hR := hR.keeps (keeps_alloc w39 (.cells #[.int .i64 s1, .int .i64 s2, .int .i64 s3, .int .i64 s4] 32))
    replace hT := hT.keeps (keeps_alloc w39 (.cells #[.int .i64 s1, .int .i64 s2, .int .i64 s3, .int .i64 s4] 32))
    replace mH1 := mH1.keeps (keeps_alloc w39 (.cells #[.int .i64 s1, .int .i64 s2, .int .i64 s3, .int .i64 s4] 32))
    replace mH2 := mH2.keeps (keeps_alloc w39 (.cells #[.int .i64 s1, .int .i64 s2, .int .i64 s3, .int .i64 s4] 32))
    replace kw := Keeps.trans kw (keeps_alloc w39 (.cells #[.int .i64 s1, .int .i64 s2, .int .i64 s3, .int .i64 s4] 32))
    have b21 : Bl (w39.alloc (.cells #[.int .i64 s1, .int .i64 s2, .int .i64 s3, .int .i64 s4] 32)) w39.heap.size [.int .i64 s1, .int .i64 s2, .int .i64 s3, .int .i64 s4] := Bl.new' (by simp) (by simp)
    have ca42_0 : (w39.alloc (.cells #[.int .i64 s1, .int .i64 s2, .int .i64 s3, .int .i64 s4] 32)).cell? ⟨w1.heap.size + 1, 0, none⟩ = some (.int .i64 d1) := (b8.2 0 _ rfl).1
    have ca42_1 : (w39.alloc (.cells #[.int .i64 s1, .int .i64 s2, .int .i64 s3, .int .i64 s4] 32)).cell? ⟨w1.heap.size + 1, 1, none⟩ = some (.int .i64 d2) := (b8.2 1 _ rfl).1
    have ca42_2 : (w39.alloc (.cells #[.int .i64 s1, .int .i64 s2, .int .i64 s3, .int .i64 s4] 32)).cell? ⟨w1.heap.size + 1, 2, none⟩ = some (.int .i64 d3) := (b8.2 2 _ rfl).1
    have ca42_3 : (w39.alloc (.cells #[.int .i64 s1, .int .i64 s2, .int .i64 s3, .int .i64 s4] 32)).cell? ⟨w1.heap.size + 1, 3, none⟩ = some (.int .i64 d4) := (b8.2 3 _ rfl).1
    have ca43_0 : (w39.alloc (.cells #[.int .i64 s1, .int .i64 s2, .int .i64 s3, .int .i64 s4] 32)).cell? ⟨w39.heap.size, 0, none⟩ = some (.int .i64 s1) := (b21.2 0 _ rfl).1
    have ca43_1 : (w39.alloc (.cells #[.int .i64 s1, .int .i64 s2, .int .i64 s3, .int .i64 s4] 32)).cell? ⟨w39.heap.size, 1, none⟩ = some (.int .i64 s2) := (b21.2 1 _ rfl).1
    have ca43_2 : (w39.alloc (.cells #[.int .i64 s1, .int .i64 s2, .int .i64 s3, .int .i64 s4] 32)).cell? ⟨w39.heap.size, 2, none⟩ = some (.int .i64 s3) := (b21.2 2 _ rfl).1
    have ca43_3 : (w39.alloc (.cells #[.int .i64 s1, .int .i64 s2, .int .i64 s3, .int .i64 s4] 32)).cell? ⟨w39.heap.size, 3, none⟩ = some (.int .i64 s4) := (b21.2 3 _ rfl).1
    go_wp2_with fail
    clear ca42_0 ca42_1 ca42_2 ca42_3 ca43_0 ca43_1 ca43_2 ca43_3
    refine (implIsWithin_yes HLB.out HLS.out).mono ?_
    rintro e w44 ⟨rfl, k44⟩
    rw [HWI.out]
    replace b5 := b5.keeps k44
    replace b8 := b8.keeps k44
    replace b10 := b10.keeps k44
    replace b21 := b21.keeps k44
    replace iG := iG.keeps k44
    replace hS := hS.keeps k44
    replace hR := hR.keeps k44
    replace hT := hT.keeps k44
    replace mH1 := mH1.keeps k44
    replace mH2 := mH2.keeps k44
    replace kw := Keeps.trans kw k44
    have lt45 := b21.lt
    have sz46 := kw.size
    clear k44
    obtain ⟨ca47, fa47⟩ := id b5
    go_wp2_with fail
    clear ca47 fa47
    refine (implIsHistory_yes iG hS mH1 HHI.out).mono ?_
    rintro e w48 ⟨rfl, k48⟩
    replace b5 := b5.keeps k48
    replace b8 := b8.keeps k48
    replace b10 := b10.keeps k48
    replace b21 := b21.keeps k48
    replace iG := iG.keeps k48
    replace hS := hS.keeps k48
    replace hR := hR.keeps k48
    replace hT := hT.keeps k48
    replace mH1 := mH1.keeps k48
    replace mH2 := mH2.keeps k48
    replace kw := Keeps.trans kw k48
    have lt49 := b21.lt
    have sz50 := kw.size
    clear k48
    obtain ⟨ca51, fa51⟩ := id b5
    have ca52_0 : w48.cell? ⟨w1.heap.size + 1, 0, none⟩ = some (.int .i64 d1) := (b8.2 0 _ rfl).1
    have ca52_1 : w48.cell? ⟨w1.heap.size + 1, 1, none⟩ = some (.int .i64 d2) := (b8.2 1 _ rfl).1
    have ca52_2 : w48.cell? ⟨w1.heap.size + 1, 2, none⟩ = some (.int .i64 d3) := (b8.2 2 _ rfl).1
    have ca52_3 : w48.cell? ⟨w1.heap.size + 1, 3, none⟩ = some (.int .i64 d4) := (b8.2 3 _ rfl).1
    have ca53_0 : w48.cell? ⟨w1.heap.size + 1 + 1, 0, none⟩ = some (.int .i64 x1) := (b10.2 0 _ rfl).1
    have ca53_1 : w48.cell? ⟨w1.heap.size + 1 + 1, 1, none⟩ = some (.int .i64 x2) := (b10.2 1 _ rfl).1
    have ca53_2 : w48.cell? ⟨w1.heap.size + 1 + 1, 2, none⟩ = some (.int .i64 x3) := (b10.2 2 _ rfl).1
    have ca53_3 : w48.cell? ⟨w1.heap.size + 1 + 1, 3, none⟩ = some (.int .i64 x4) := (b10.2 3 _ rfl).1
    go_wp2_with fail
    clear ca51 fa51 ca52_0 ca52_1 ca52_2 ca52_3 ca53_0 ca53_1 ca53_2 ca53_3
    refine (implReleasesLeft_gen iG hS mH1).mono ?_
    rintro e w54 ⟨rfl, k54⟩
    replace b5 := b5.keeps k54
    replace b8 := b8.keeps k54
    replace b10 := b10.keeps k54
    replace b21 := b21.keeps k54
    replace iG := iG.keeps k54
    replace hS := hS.keeps k54
    replace hR := hR.keeps k54
    replace hT := hT.keeps k54
    replace mH1 := mH1.keeps k54
    replace mH2 := mH2.keeps k54
    replace kw := Keeps.trans kw k54
    have lt55 := b21.lt
    have sz56 := kw.size
    clear k54
    rw [HRQ.out]
    go_wp2_with fail
    refine (DrawFirstOverrun_any (B1_.keeps kw)).mono ?_
    rintro e w57 ⟨A3, N3, C3, ps3, S3, q3, cq3, l3, R3, n3, cr3, rs3, e1, e2, e3, e4, rfl, jG, jN, jS, jcap, jSD, jR, jcr, jr14, k57⟩
    replace b5 := b5.keeps k57
    replace b8 := b8.keeps k57
    replace b10 := b10.keeps k57
    replace b21 := b21.keeps k57
    replace iG := iG.keeps k57
    replace hS := hS.keeps k57
    replace hR := hR.keeps k57
    replace hT := hT.keeps k57
    replace mH1 := mH1.keeps k57
    replace mH2 := mH2.keeps k57
    replace kw := Keeps.trans kw k57
    have lt58 := b21.lt
    have sz59 := kw.size
    clear k57
    have jS' : Sch w57 S3 q3 cq3 l3 := ⟨⟨_, _, jS⟩, jSD.names, jcap.1, jcap.2⟩
    clear jS jcap jSD
    replace jG := jG.keeps (keeps_alloc w57 (.cells #[.slice A3 N3 C3] 26))
    replace jS' := jS'.keeps (keeps_alloc w57 (.cells #[.slice A3 N3 C3] 26))
    replace jR := jR.keeps (keeps_alloc w57 (.cells #[.slice A3 N3 C3] 26))
    replace kw := Keeps.trans kw (keeps_alloc w57 (.cells #[.slice A3 N3 C3] 26))
    have b29 : B1 (w57.alloc (.cells #[.slice A3 N3 C3] 26)) w57.heap.size (.slice A3 N3 C3) := B1.new' (by simp)
    replace b29 := b29.keeps (keeps_alloc (w57.alloc (.cells #[.slice A3 N3 C3] 26)) (.cells #[.int .i64 e1, .int .i64 e2, .int .i64 e3, .int .i64 e4] 32))
    replace jG := jG.keeps (keeps_alloc (w57.alloc (.cells #[.slice A3 N3 C3] 26)) (.cells #[.int .i64 e1, .int .i64 e2, .int .i64 e3, .int .i64 e4] 32))
    replace jS' := jS'.keeps (keeps_alloc (w57.alloc (.cells #[.slice A3 N3 C3] 26)) (.cells #[.int .i64 e1, .int .i64 e2, .int .i64 e3, .int .i64 e4] 32))
    replace jR := jR.keeps (keeps_alloc (w57.alloc (.cells #[.slice A3 N3 C3] 26)) (.cells #[.int .i64 e1, .int .i64 e2, .int .i64 e3, .int .i64 e4] 32))
    replace kw := Keeps.trans kw (keeps_alloc (w57.alloc (.cells #[.slice A3 N3 C3] 26)) (.cells #[.int .i64 e1, .int .i64 e2, .int .i64 e3, .int .i64 e4] 32))
    have b32 : Bl ((w57.alloc (.cells #[.slice A3 N3 C3] 26)).alloc (.cells #[.int .i64 e1, .int .i64 e2, .int .i64 e3, .int .i64 e4] 32)) (w57.heap.size + 1) [.int .i64 e1, .int .i64 e2, .int .i64 e3, .int .i64 e4] := Bl.new' (by simp) (by simp)
    obtain ⟨i9, ib, HF⟩ : ∃ i9 ib, Hid (foQ ps3 l3 rs3 (e1, e2, e3, e4) = (i9, ib)) := ⟨_, _, rfl⟩
    obtain ⟨ca60, fa60⟩ := id b29
    have ca61_0 : ((w57.alloc (.cells #[.slice A3 N3 C3] 26)).alloc (.cells #[.int .i64 e1, .int .i64 e2, .int .i64 e3, .int .i64 e4] 32)).cell? ⟨w57.heap.size + 1, 0, none⟩ = some (.int .i64 e1) := (b32.2 0 _ rfl).1
    have ca61_1 : ((w57.alloc (.cells #[.slice A3 N3 C3] 26)).alloc (.cells #[.int .i64 e1, .int .i64 e2, .int .i64 e3, .int .i64 e4] 32)).cell? ⟨w57.heap.size + 1, 1, none⟩ = some (.int .i64 e2) := (b32.2 1 _ rfl).1
    have ca61_2 : ((w57.alloc (.cells #[.slice A3 N3 C3] 26)).alloc (.cells #[.int .i64 e1, .int .i64 e2, .int .i64 e3, .int .i64 e4] 32)).cell? ⟨w57.heap.size + 1, 2, none⟩ = some (.int .i64 e3) := (b32.2 2 _ rfl).1
    have ca61_3 : ((w57.alloc (.cells #[.slice A3 N3 C3] 26)).alloc (.cells #[.int .i64 e1, .int .i64 e2, .int .i64 e3, .int .i64 e4] 32)).cell? ⟨w57.heap.size + 1, 3, none⟩ = some (.int .i64 e4) := (b32.2 3 _ rfl).1
    go_wp2_with fail
    clear ca60 fa60 ca61_0 ca61_1 ca61_2 ca61_3
    refine (implFirstOverrun_gen jG jS' jR jcr).mono ?_
    rintro e w62 ⟨rfl, k62⟩
    replace b29 := b29.keeps k62
    replace b32 := b32.keeps k62
    replace jG := jG.keeps k62
    replace jS' := jS'.keeps k62
    replace jR := jR.keeps k62
    replace kw := Keeps.trans kw k62
    have lt63 := b32.lt
    have sz64 := kw.size
    clear k62
    rw [HF.out]
    obtain ⟨ca65, fa65⟩ := id b29
    have ca66_0 : w62.cell? ⟨w57.heap.size + 1, 0, none⟩ = some (.int .i64 e1) := (b32.2 0 _ rfl).1
    have ca66_1 : w62.cell? ⟨w57.heap.size + 1, 1, none⟩ = some (.int .i64 e2) := (b32.2 1 _ rfl).1
    have ca66_2 : w62.cell? ⟨w57.heap.size + 1, 2, none⟩ = some (.int .i64 e3) := (b32.2 2 _ rfl).1
    have ca66_3 : w62.cell? ⟨w57.heap.size + 1, 3, none⟩ = some (.int .i64 e4) := (b32.2 3 _ rfl).1
    go_wp2_with fail
    clear ca65 fa65 ca66_0 ca66_1 ca66_2 ca66_3
    refine (specFirstOverrun_gen jG jS' jR jcr).mono ?_
    rintro e w67 ⟨rfl, k67⟩
    replace b29 := b29.keeps k67
    replace b32 := b32.keeps k67
    replace jG := jG.keeps k67
    replace jS' := jS'.keeps k67
    replace jR := jR.keeps k67
    replace kw := Keeps.trans kw k67
    have lt68 := b32.lt
    have sz69 := kw.size
    clear k67
    rw [HF.out]
    have hii : (i9 == i9) = true := by simp
    cases ib
    all_goals (
      go_wp2_with fail
      go_ret
      exact ⟨rfl, kw⟩)
end Go.Proofs.YtohjkpopbmmliaaGreat
namespace Go.Proofs.YtohjkpopbmmliaaGreat
namespace fnHistories
open Go.ChangeShapes Go.WideShapes Go.ChangeAt Go.RowKit
open Go.ChangeMaps (open_string shut_string)
set_option linter.unusedVariables false
set_option maxRecDepth 100000 in
theorem lifted (os : Os) (started : os.Started) (H : Type) (enc : TypeId × Value → H) :
    ReturnsInHanded {} Tryz.checked os 3 .any (Rows.fnHistoriesSpec.pre6 enc Tryz.prog Tryz.f3 Rows.fnHistoriesRow.domain false) (Rows.fnHistoriesSpec.post enc Tryz.prog Tryz.f3 false true false false) := by
  refine returnsInHanded_of_change (C := Tryz.checked) own started (by kernel_rfl) Tryz.func3
    (ChangeSpec.witness6 (enc := enc) (C := Tryz.checked) false ⟨#[], #[.slice none 0 0, .slice none 0 0], []⟩ 8 (by kernel_rfl) (by kernel_rfl) (by kernel_rfl) (by kernel_rfl)) ?_
  intro W base args ds gs before hval0 hW hcnd _
  have hval : ∀ (j : Nat) t v, Tryz.f3.params[j]? = some t → args[j]? = some v → Value.okWide Tryz.prog W .any base t v := hval0
  have hW' := hW
  obtain ⟨p, q, hA0, hV, rfl, hfz, hnd⟩ := hW
  have hA : DataW.TrodAll enc Tryz.prog W 0 (fun _ => true) true Tryz.f3.params.toList args.toList ds p := hA0
  rw [Tryz.params3] at hA hval
  obtain ⟨v0, vs0, d0, ds0, p0, q0, hargs, rfl, rfl, h0, r0⟩ := trodAll_cons hA
  obtain ⟨v1, vs1, d1, ds1, p1, q1, rfl, rfl, rfl, h1, r1⟩ := trodAll_cons r0
  obtain ⟨rfl, rfl, rfl⟩ := trodAll_nil r1
  obtain rfl : args = #[v0, v1] := by cases args; simp_all
  obtain ⟨rfl, rfl⟩ := trodVars_none hV
  have k0 := h0
  have lt0 : ∀ x ∈ p0, x.block < W.heap.size := by obtain ⟨m, hm⟩ := k0; exact DataW.trod_lt m _ _ _ hm
  obtain ⟨A0, n0, c0, rfl, w0⟩ := open_arg_bytes (hval 0 22 v0 rfl rfl) h0
  have k1 := h1
  have lt1 : ∀ x ∈ p1, x.block < W.heap.size := by obtain ⟨m, hm⟩ := k1; exact DataW.trod_lt m _ _ _ hm
  obtain ⟨A1, n1, c1, rfl, w1⟩ := open_arg_bytes (hval 1 22 v1 rfl rfl) h1
  clear hA0 hval0
  refine (FnHistories_law A0 n0 c0 A1 n1 c1 W w0 w1).mono fun e W' ⟨he, bel⟩ => ?_
  subst he
  exact ⟨_, rfl, _, _, _, [], _, [], hW', trodAll_mk1 (shut_bool Tryz.underlying4 _), (trodAll_cons_mk (Below.trod laidOut (by kernel_rfl) (of_decide_eq_true (by kernel_rfl)) k0 bel lt0) (trodAll_cons_mk (Below.trod laidOut (by kernel_rfl) (of_decide_eq_true (by kernel_rfl)) k1 bel lt1) trodAll_mk0)), rfl, bel.frame _, fun h => by cases h⟩
theorem over : Rows.fnHistoriesRow.holds Tryz.pinned (OpenSpec.ofChange Rows.fnHistoriesSpec) :=
  OpenClaim.holds_of_wide 3 Tryz.f3 rfl rfl rfl rfl rfl rfl rfl ⟨rfl, rfl, rfl, rfl, rfl⟩ rfl rfl rfl rfl rfl (by kernel_rfl) Tryz.func3 (by kernel_rfl)
    (of_decide_eq_true (by kernel_rfl)) (by unfold Func.isWrapper; first | (rw [if_pos (by decide +kernel)]; kernel_rfl) | (rw [if_neg (by decide +kernel)]; exact ⟨rfl, rfl⟩))
    (fun os started H enc _ => lifted os started H enc)
theorem proved : Rows.FnHistoriesSaid := over
#print axioms proved
end fnHistories
end Go.Proofs.YtohjkpopbmmliaaGreat
