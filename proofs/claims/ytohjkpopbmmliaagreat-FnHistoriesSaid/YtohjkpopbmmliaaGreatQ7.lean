/- What the proof of the statement leans on, part 8: walks of functions and plain lemmas, with no condition. -/
import Derived.WalkSmall
import Derived.Lib.QuietBelow
import Derived.Test.YtohjkpopbmmliaaGreatQ6
namespace Go.Proofs.YtohjkpopbmmliaaGreat
open Go.RowKit Go.Sort
set_option linter.unusedVariables false
set_option linter.unusedSimpArgs false
set_option maxRecDepth 100000 in
set_option maxHeartbeats 3200000 in
theorem implHistoryLoss_gen {A A' R : Option Addr} {lo hi a c0 lo3 hi3 n q cq cr : Nat} {un : Bool} {ps : List Int} {l : List VV} {rs : List RL} {w : World} (h : Ints w lo hi A a ps) (h' : Sch w A' q cq l) (hr : Rels true un w lo3 hi3 R n rs) :
    Calls Tryz.prog 14 #[.agg #[.slice A a c0], .slice A' q cq, .slice R n cr] w fun e w' => e = .returned (lossV (hlQ ps l rs)) ∧ Keeps w w' := by
  have hq : q ≤ 67108864 := by obtain ⟨_, _, hv⟩ := h'.v; exact hv.le
  have hn := hr.le
  have HRL := hid hr.len
  go_enter Tryz.func14, Tryz.ntmps14
  have kw := keeps_refl w
  replace kw := Keeps.trans kw (keeps_alloc w (.cells #[.slice A a c0] 26))
  have b3 : B1 (w.alloc (.cells #[.slice A a c0] 26)) w.heap.size (.slice A a c0) := B1.new' (by simp)
  replace b3 := b3.keeps (keeps_alloc (w.alloc (.cells #[.slice A a c0] 26)) (.cells #[.int .i64 0, .int .i64 0, .int .i64 0, .int .i64 0] 32))
  replace kw := Keeps.trans kw (keeps_alloc (w.alloc (.cells #[.slice A a c0] 26)) (.cells #[.int .i64 0, .int .i64 0, .int .i64 0, .int .i64 0] 32))
  have b6 : Bl ((w.alloc (.cells #[.slice A a c0] 26)).alloc (.cells #[.int .i64 0, .int .i64 0, .int .i64 0, .int .i64 0] 32)) (w.heap.size + 1) [.int .i64 0, .int .i64 0, .int .i64 0, .int .i64 0] := Bl.new' (by simp) (by simp)
  obtain ⟨ca1, fa1⟩ := id b3
  go_wp2_with fail
  clear ca1 fa1
  obtain ⟨pHH, HH⟩ : ∃ pB, Hid (hisB ps l rs = pB) := ⟨_, rfl⟩
  refine (isHistory_any (h.keeps kw) (h'.keeps kw) (hr.keeps kw)).mono ?_
  rintro e w2 ⟨rfl, k2⟩
  rw [HH.out]
  replace b3 := b3.keeps k2
  replace b6 := b6.keeps k2
  replace kw := Keeps.trans kw k2
  have lt3 := b6.lt
  have sz4 := kw.size
  clear k2
  cases pHH
  · have HX := hid (hlQ_no HH.out)
    have ca5_0 : w2.cell? ⟨w.heap.size + 1, 0, none⟩ = some (.int .i64 0) := (b6.2 0 _ rfl).1
    have fa5_0 : w2.frozen? ⟨w.heap.size + 1, 0, none⟩ = false := (b6.2 0 _ rfl).2
    have ca5_1 : w2.cell? ⟨w.heap.size + 1, 1, none⟩ = some (.int .i64 0) := (b6.2 1 _ rfl).1
    have fa5_1 : w2.frozen? ⟨w.heap.size + 1, 1, none⟩ = false := (b6.2 1 _ rfl).2
    have ca5_2 : w2.cell? ⟨w.heap.size + 1, 2, none⟩ = some (.int .i64 0) := (b6.2 2 _ rfl).1
    have fa5_2 : w2.frozen? ⟨w.heap.size + 1, 2, none⟩ = false := (b6.2 2 _ rfl).2
    have ca5_3 : w2.cell? ⟨w.heap.size + 1, 3, none⟩ = some (.int .i64 0) := (b6.2 3 _ rfl).1
    have fa5_3 : w2.frozen? ⟨w.heap.size + 1, 3, none⟩ = false := (b6.2 3 _ rfl).2
    replace b3 := b3.far (p := ⟨w.heap.size + 1, 0, none⟩) (by show _ ≠ (w.heap.size + 1); omega) (.int .i64 0)
    replace kw := Below.setCell kw (p := ⟨w.heap.size + 1, 0, none⟩) (by show _ ≤ (w.heap.size + 1); omega) (.int .i64 0)
    replace b6 : Bl (w2.setCell ⟨w.heap.size + 1, 0, none⟩ (.int .i64 0)) (w.heap.size + 1) [.int .i64 0, .int .i64 0, .int .i64 0, .int .i64 0] := b6.set 0 (.int .i64 0)
    replace b3 := b3.far (p := ⟨w.heap.size + 1, 1, none⟩) (by show _ ≠ (w.heap.size + 1); omega) (.int .i64 0)
    replace kw := Below.setCell kw (p := ⟨w.heap.size + 1, 1, none⟩) (by show _ ≤ (w.heap.size + 1); omega) (.int .i64 0)
    replace b6 : Bl ((w2.setCell ⟨w.heap.size + 1, 0, none⟩ (.int .i64 0)).setCell ⟨w.heap.size + 1, 1, none⟩ (.int .i64 0)) (w.heap.size + 1) [.int .i64 0, .int .i64 0, .int .i64 0, .int .i64 0] := b6.set 1 (.int .i64 0)
    replace b3 := b3.far (p := ⟨w.heap.size + 1, 2, none⟩) (by show _ ≠ (w.heap.size + 1); omega) (.int .i64 0)
    replace kw := Below.setCell kw (p := ⟨w.heap.size + 1, 2, none⟩) (by show _ ≤ (w.heap.size + 1); omega) (.int .i64 0)
    replace b6 : Bl (((w2.setCell ⟨w.heap.size + 1, 0, none⟩ (.int .i64 0)).setCell ⟨w.heap.size + 1, 1, none⟩ (.int .i64 0)).setCell ⟨w.heap.size + 1, 2, none⟩ (.int .i64 0)) (w.heap.size + 1) [.int .i64 0, .int .i64 0, .int .i64 0, .int .i64 0] := b6.set 2 (.int .i64 0)
    replace b3 := b3.far (p := ⟨w.heap.size + 1, 3, none⟩) (by show _ ≠ (w.heap.size + 1); omega) (.int .i64 0)
    replace kw := Below.setCell kw (p := ⟨w.heap.size + 1, 3, none⟩) (by show _ ≤ (w.heap.size + 1); omega) (.int .i64 0)
    replace b6 : Bl ((((w2.setCell ⟨w.heap.size + 1, 0, none⟩ (.int .i64 0)).setCell ⟨w.heap.size + 1, 1, none⟩ (.int .i64 0)).setCell ⟨w.heap.size + 1, 2, none⟩ (.int .i64 0)).setCell ⟨w.heap.size + 1, 3, none⟩ (.int .i64 0)) (w.heap.size + 1) [.int .i64 0, .int .i64 0, .int .i64 0, .int .i64 0] := b6.set 3 (.int .i64 0)
    have HK := hid kw
    clear kw
    go_wp2_with fail
    clear ca5_0 fa5_0 ca5_1 fa5_1 ca5_2 fa5_2 ca5_3 fa5_3
    have ca0_0 : ((((w2.setCell ⟨w.heap.size + 1, 0, none⟩ (.int .i64 0)).setCell ⟨w.heap.size + 1, 1, none⟩ (.int .i64 0)).setCell ⟨w.heap.size + 1, 2, none⟩ (.int .i64 0)).setCell ⟨w.heap.size + 1, 3, none⟩ (.int .i64 0)).cell? ⟨w.heap.size + 1, 0, none⟩ = some (.int .i64 0) := (b6.2 0 _ rfl).1
    have ca0_1 : ((((w2.setCell ⟨w.heap.size + 1, 0, none⟩ (.int .i64 0)).setCell ⟨w.heap.size + 1, 1, none⟩ (.int .i64 0)).setCell ⟨w.heap.size + 1, 2, none⟩ (.int .i64 0)).setCell ⟨w.heap.size + 1, 3, none⟩ (.int .i64 0)).cell? ⟨w.heap.size + 1, 1, none⟩ = some (.int .i64 0) := (b6.2 1 _ rfl).1
    have ca0_2 : ((((w2.setCell ⟨w.heap.size + 1, 0, none⟩ (.int .i64 0)).setCell ⟨w.heap.size + 1, 1, none⟩ (.int .i64 0)).setCell ⟨w.heap.size + 1, 2, none⟩ (.int .i64 0)).setCell ⟨w.heap.size + 1, 3, none⟩ (.int .i64 0)).cell? ⟨w.heap.size + 1, 2, none⟩ = some (.int .i64 0) := (b6.2 2 _ rfl).1
    have ca0_3 : ((((w2.setCell ⟨w.heap.size + 1, 0, none⟩ (.int .i64 0)).setCell ⟨w.heap.size + 1, 1, none⟩ (.int .i64 0)).setCell ⟨w.heap.size + 1, 2, none⟩ (.int .i64 0)).setCell ⟨w.heap.size + 1, 3, none⟩ (.int .i64 0)).cell? ⟨w.heap.size + 1, 3, none⟩ = some (.int .i64 0) := (b6.2 3 _ rfl).1
    try simp only [Exit.inBlock, Exit.then]
    exact bodyPost_ret (v := .tuple #[.agg #[.int .i64 0, .int .i64 0, .int .i64 0, .int .i64 0], .bool false]) (by simp [results, Tryz.results14, go_sem, ca0_0, ca0_1, ca0_2, ca0_3]) rfl ⟨ls_ret HX.out, HK.out⟩
  · skip
    have hb12 := (his_loss HH.out).1
    rw [HRL.out] at hb12
    obtain ⟨r1, r2, r3, r4, p, HR⟩ : ∃ r1 r2 r3 r4 p, Hid (comQ (rlLs rs) = ((r1, r2, r3, r4), p)) := ⟨_, _, _, _, _, rfl⟩
    have HX := hid ((hlQ_yes HH.out).trans HR.out)
    obtain ⟨ca5, fa5⟩ := id b3
    go_wp2_with fail
    clear ca5 fa5
    refine (historyLoss_any (hr.keeps kw)).mono ?_
    rintro e w6 ⟨rfl, k6⟩
    rw [HR.out]
    replace b3 := b3.keeps k6
    replace b6 := b6.keeps k6
    replace kw := Keeps.trans kw k6
    have lt7 := b6.lt
    have sz8 := kw.size
    clear k6
    have ca9_0 : w6.cell? ⟨w.heap.size + 1, 0, none⟩ = some (.int .i64 0) := (b6.2 0 _ rfl).1
    have fa9_0 : w6.frozen? ⟨w.heap.size + 1, 0, none⟩ = false := (b6.2 0 _ rfl).2
    have ca9_1 : w6.cell? ⟨w.heap.size + 1, 1, none⟩ = some (.int .i64 0) := (b6.2 1 _ rfl).1
    have fa9_1 : w6.frozen? ⟨w.heap.size + 1, 1, none⟩ = false := (b6.2 1 _ rfl).2
    have ca9_2 : w6.cell? ⟨w.heap.size + 1, 2, none⟩ = some (.int .i64 0) := (b6.2 2 _ rfl).1
    have fa9_2 : w6.frozen? ⟨w.heap.size + 1, 2, none⟩ = false := (b6.2 2 _ rfl).2
    have ca9_3 : w6.cell? ⟨w.heap.size + 1, 3, none⟩ = some (.int .i64 0) := (b6.2 3 _ rfl).1
    have fa9_3 : w6.frozen? ⟨w.heap.size + 1, 3, none⟩ = false := (b6.2 3 _ rfl).2
    replace b3 := b3.far (p := ⟨w.heap.size + 1, 0, none⟩) (by show _ ≠ (w.heap.size + 1); omega) (.int .i64 r1)
    replace kw := Below.setCell kw (p := ⟨w.heap.size + 1, 0, none⟩) (by show _ ≤ (w.heap.size + 1); omega) (.int .i64 r1)
    replace b6 : Bl (w6.setCell ⟨w.heap.size + 1, 0, none⟩ (.int .i64 r1)) (w.heap.size + 1) [.int .i64 r1, .int .i64 0, .int .i64 0, .int .i64 0] := b6.set 0 (.int .i64 r1)
    replace b3 := b3.far (p := ⟨w.heap.size + 1, 1, none⟩) (by show _ ≠ (w.heap.size + 1); omega) (.int .i64 r2)
    replace kw := Below.setCell kw (p := ⟨w.heap.size + 1, 1, none⟩) (by show _ ≤ (w.heap.size + 1); omega) (.int .i64 r2)
    replace b6 : Bl ((w6.setCell ⟨w.heap.size + 1, 0, none⟩ (.int .i64 r1)).setCell ⟨w.heap.size + 1, 1, none⟩ (.int .i64 r2)) (w.heap.size + 1) [.int .i64 r1, .int .i64 r2, .int .i64 0, .int .i64 0] := b6.set 1 (.int .i64 r2)
    replace b3 := b3.far (p := ⟨w.heap.size + 1, 2, none⟩) (by show _ ≠ (w.heap.size + 1); omega) (.int .i64 r3)
    replace kw := Below.setCell kw (p := ⟨w.heap.size + 1, 2, none⟩) (by show _ ≤ (w.heap.size + 1); omega) (.int .i64 r3)
    replace b6 : Bl (((w6.setCell ⟨w.heap.size + 1, 0, none⟩ (.int .i64 r1)).setCell ⟨w.heap.size + 1, 1, none⟩ (.int .i64 r2)).setCell ⟨w.heap.size + 1, 2, none⟩ (.int .i64 r3)) (w.heap.size + 1) [.int .i64 r1, .int .i64 r2, .int .i64 r3, .int .i64 0] := b6.set 2 (.int .i64 r3)
    replace b3 := b3.far (p := ⟨w.heap.size + 1, 3, none⟩) (by show _ ≠ (w.heap.size + 1); omega) (.int .i64 r4)
    replace kw := Below.setCell kw (p := ⟨w.heap.size + 1, 3, none⟩) (by show _ ≤ (w.heap.size + 1); omega) (.int .i64 r4)
    replace b6 : Bl ((((w6.setCell ⟨w.heap.size + 1, 0, none⟩ (.int .i64 r1)).setCell ⟨w.heap.size + 1, 1, none⟩ (.int .i64 r2)).setCell ⟨w.heap.size + 1, 2, none⟩ (.int .i64 r3)).setCell ⟨w.heap.size + 1, 3, none⟩ (.int .i64 r4)) (w.heap.size + 1) [.int .i64 r1, .int .i64 r2, .int .i64 r3, .int .i64 r4] := b6.set 3 (.int .i64 r4)
    have HK := hid kw
    clear kw
    go_wp2_with fail
    clear ca9_0 fa9_0 ca9_1 fa9_1 ca9_2 fa9_2 ca9_3 fa9_3
    have ca0_0 : ((((w6.setCell ⟨w.heap.size + 1, 0, none⟩ (.int .i64 r1)).setCell ⟨w.heap.size + 1, 1, none⟩ (.int .i64 r2)).setCell ⟨w.heap.size + 1, 2, none⟩ (.int .i64 r3)).setCell ⟨w.heap.size + 1, 3, none⟩ (.int .i64 r4)).cell? ⟨w.heap.size + 1, 0, none⟩ = some (.int .i64 r1) := (b6.2 0 _ rfl).1
    have ca0_1 : ((((w6.setCell ⟨w.heap.size + 1, 0, none⟩ (.int .i64 r1)).setCell ⟨w.heap.size + 1, 1, none⟩ (.int .i64 r2)).setCell ⟨w.heap.size + 1, 2, none⟩ (.int .i64 r3)).setCell ⟨w.heap.size + 1, 3, none⟩ (.int .i64 r4)).cell? ⟨w.heap.size + 1, 1, none⟩ = some (.int .i64 r2) := (b6.2 1 _ rfl).1
    have ca0_2 : ((((w6.setCell ⟨w.heap.size + 1, 0, none⟩ (.int .i64 r1)).setCell ⟨w.heap.size + 1, 1, none⟩ (.int .i64 r2)).setCell ⟨w.heap.size + 1, 2, none⟩ (.int .i64 r3)).setCell ⟨w.heap.size + 1, 3, none⟩ (.int .i64 r4)).cell? ⟨w.heap.size + 1, 2, none⟩ = some (.int .i64 r3) := (b6.2 2 _ rfl).1
    have ca0_3 : ((((w6.setCell ⟨w.heap.size + 1, 0, none⟩ (.int .i64 r1)).setCell ⟨w.heap.size + 1, 1, none⟩ (.int .i64 r2)).setCell ⟨w.heap.size + 1, 2, none⟩ (.int .i64 r3)).setCell ⟨w.heap.size + 1, 3, none⟩ (.int .i64 r4)).cell? ⟨w.heap.size + 1, 3, none⟩ = some (.int .i64 r4) := (b6.2 3 _ rfl).1
    try simp only [Exit.inBlock, Exit.then]
    exact bodyPost_ret (v := .tuple #[.agg #[.int .i64 r1, .int .i64 r2, .int .i64 r3, .int .i64 r4], .bool p]) (by simp [results, Tryz.results14, go_sem, ca0_0, ca0_1, ca0_2, ca0_3]) rfl ⟨ls_ret HX.out, HK.out⟩
set_option maxRecDepth 100000 in
set_option maxHeartbeats 6400000 in
theorem implFirstOverrun_gen {A A' R : Option Addr} {lo hi a c0 lo3 hi3 n q cq cr : Nat} {un : Bool} {ps : List Int} {l : List VV} {rs : List RL} {d1 d2 d3 d4 : Int} {w : World} (h : Ints w lo hi A a ps) (h' : Sch w A' q cq l) (hr : Rels true un w lo3 hi3 R n rs) (hcr : n ≤ cr) :
    Calls Tryz.prog 18 #[.agg #[.slice A a c0], .slice A' q cq, .slice R n cr, .agg #[.int .i64 d1, .int .i64 d2, .int .i64 d3, .int .i64 d4]] w fun e w' => e = .returned (.tuple #[.int .i64 (foQ ps l rs (d1, d2, d3, d4)).1, .bool (foQ ps l rs (d1, d2, d3, d4)).2]) ∧ Keeps w w' := by
  have hq : q ≤ 67108864 := by obtain ⟨_, _, hv⟩ := h'.v; exact hv.le
  have hn := hr.le
  have HRL := hid hr.len
  obtain ⟨q0, q1, HQ⟩ : ∃ q0 q1, Hid (foQ ps l rs (d1, d2, d3, d4) = (q0, q1)) := ⟨_, _, rfl⟩
  rw [HQ.out]
  go_enter Tryz.func18, Tryz.ntmps18
  have kw := keeps_refl w
  replace kw := Keeps.trans kw (keeps_alloc w (.cells #[.slice A a c0] 26))
  have b4 : B1 (w.alloc (.cells #[.slice A a c0] 26)) w.heap.size (.slice A a c0) := B1.new' (by simp)
  replace b4 := b4.keeps (keeps_alloc (w.alloc (.cells #[.slice A a c0] 26)) (.cells #[.int .i64 d1, .int .i64 d2, .int .i64 d3, .int .i64 d4] 32))
  replace kw := Keeps.trans kw (keeps_alloc (w.alloc (.cells #[.slice A a c0] 26)) (.cells #[.int .i64 d1, .int .i64 d2, .int .i64 d3, .int .i64 d4] 32))
  have b7 : Bl ((w.alloc (.cells #[.slice A a c0] 26)).alloc (.cells #[.int .i64 d1, .int .i64 d2, .int .i64 d3, .int .i64 d4] 32)) (w.heap.size + 1) [.int .i64 d1, .int .i64 d2, .int .i64 d3, .int .i64 d4] := Bl.new' (by simp) (by simp)
  obtain ⟨ca1, fa1⟩ := id b4
  have ca2_0 : ((w.alloc (.cells #[.slice A a c0] 26)).alloc (.cells #[.int .i64 d1, .int .i64 d2, .int .i64 d3, .int .i64 d4] 32)).cell? ⟨w.heap.size + 1, 0, none⟩ = some (.int .i64 d1) := (b7.2 0 _ rfl).1
  have ca2_1 : ((w.alloc (.cells #[.slice A a c0] 26)).alloc (.cells #[.int .i64 d1, .int .i64 d2, .int .i64 d3, .int .i64 d4] 32)).cell? ⟨w.heap.size + 1, 1, none⟩ = some (.int .i64 d2) := (b7.2 1 _ rfl).1
  have ca2_2 : ((w.alloc (.cells #[.slice A a c0] 26)).alloc (.cells #[.int .i64 d1, .int .i64 d2, .int .i64 d3, .int .i64 d4] 32)).cell? ⟨w.heap.size + 1, 2, none⟩ = some (.int .i64 d3) := (b7.2 2 _ rfl).1
  have ca2_3 : ((w.alloc (.cells #[.slice A a c0] 26)).alloc (.cells #[.int .i64 d1, .int .i64 d2, .int .i64 d3, .int .i64 d4] 32)).cell? ⟨w.heap.size + 1, 3, none⟩ = some (.int .i64 d4) := (b7.2 3 _ rfl).1
  go_wp2_with fail
  clear ca1 fa1 ca2_0 ca2_1 ca2_2 ca2_3
  obtain ⟨pHH, HH⟩ : ∃ pB, Hid (hisB ps l rs = pB) := ⟨_, rfl⟩
  refine (isHistory_any (h.keeps kw) (h'.keeps kw) (hr.keeps kw)).mono ?_
  rintro e w3 ⟨rfl, k3⟩
  rw [HH.out]
  replace b4 := b4.keeps k3
  replace b7 := b7.keeps k3
  replace kw := Keeps.trans kw k3
  have lt4 := b7.lt
  have sz5 := kw.size
  clear k3
  cases pHH
  · obtain ⟨e0, e1⟩ : q0 = 0 ∧ q1 = false := by have := HQ.out.symm.trans (foQ_no (by rw [HH.out]; rfl)); injection this with a b; exact ⟨a, b⟩
    subst e0 e1
    obtain ⟨ca6, fa6⟩ := id b4
    have ca7_0 : w3.cell? ⟨w.heap.size + 1, 0, none⟩ = some (.int .i64 d1) := (b7.2 0 _ rfl).1
    have ca7_1 : w3.cell? ⟨w.heap.size + 1, 1, none⟩ = some (.int .i64 d2) := (b7.2 1 _ rfl).1
    have ca7_2 : w3.cell? ⟨w.heap.size + 1, 2, none⟩ = some (.int .i64 d3) := (b7.2 2 _ rfl).1
    have ca7_3 : w3.cell? ⟨w.heap.size + 1, 3, none⟩ = some (.int .i64 d4) := (b7.2 3 _ rfl).1
    go_wp2_with fail
    clear ca6 fa6 ca7_0 ca7_1 ca7_2 ca7_3
    go_ret2
    exact ⟨rfl, kw⟩
  · skip
    obtain ⟨ca6, fa6⟩ := id b4
    have ca7_0 : w3.cell? ⟨w.heap.size + 1, 0, none⟩ = some (.int .i64 d1) := (b7.2 0 _ rfl).1
    have ca7_1 : w3.cell? ⟨w.heap.size + 1, 1, none⟩ = some (.int .i64 d2) := (b7.2 1 _ rfl).1
    have ca7_2 : w3.cell? ⟨w.heap.size + 1, 2, none⟩ = some (.int .i64 d3) := (b7.2 2 _ rfl).1
    have ca7_3 : w3.cell? ⟨w.heap.size + 1, 3, none⟩ = some (.int .i64 d4) := (b7.2 3 _ rfl).1
    go_wp2_with fail
    clear ca6 fa6 ca7_0 ca7_1 ca7_2 ca7_3
    obtain ⟨pHB, HB⟩ : ∃ pB, Hid (lossB d1 d2 d3 d4 = pB) := ⟨_, rfl⟩
    refine (IsLoss_any).mono ?_
    rintro e w8 ⟨rfl, k8⟩
    rw [HB.out]
    replace b4 := b4.keeps k8
    replace b7 := b7.keeps k8
    replace kw := Keeps.trans kw k8
    have lt9 := b7.lt
    have sz10 := kw.size
    clear k8
    cases pHB
    · obtain ⟨e0, e1⟩ : q0 = 0 ∧ q1 = false := by have := HQ.out.symm.trans (foQ_no (by rw [HH.out]; exact HB.out)); injection this with a b; exact ⟨a, b⟩
      subst e0 e1
      obtain ⟨ca11, fa11⟩ := id b4
      have ca12_0 : w8.cell? ⟨w.heap.size + 1, 0, none⟩ = some (.int .i64 d1) := (b7.2 0 _ rfl).1
      have ca12_1 : w8.cell? ⟨w.heap.size + 1, 1, none⟩ = some (.int .i64 d2) := (b7.2 1 _ rfl).1
      have ca12_2 : w8.cell? ⟨w.heap.size + 1, 2, none⟩ = some (.int .i64 d3) := (b7.2 2 _ rfl).1
      have ca12_3 : w8.cell? ⟨w.heap.size + 1, 3, none⟩ = some (.int .i64 d4) := (b7.2 3 _ rfl).1
      go_wp2_with fail
      clear ca11 fa11 ca12_0 ca12_1 ca12_2 ca12_3
      go_ret2
      exact ⟨rfl, kw⟩
    · skip
      have HB2 := hid (show lsB (d1, d2, d3, d4) = true from HB.out)
      obtain ⟨e0, e1⟩ : q0 = (cn (d1, d2, d3, d4) (comTo (rlLs rs)) rs.length : Int) ∧ q1 = true := by have := HQ.out.symm.trans (foQ_yes (by rw [HH.out]; exact HB.out)); injection this with a b; exact ⟨a, b⟩
      subst e1
      have HE := hid e0
      rw [HRL.out] at HE
      have hb12 := (his_loss HH.out).1
      rw [HRL.out] at hb12
      have HLS := hid (his_loss HH.out).2
      have HLN := hid (show (rlLs rs).length = n by rw [rlLs_len, HRL.out])
      have HCT := hid (fun k (hk : k ≤ n) => (show comQ (rlLs (rs.take k)) = comTo (rlLs rs) k by rw [rlLs_take]; exact com_take (by rw [HLN.out]; omega) (fun j hj => HLS.out j (by rw [← rlLs_len]; exact hj)) (by rw [HLN.out]; exact hk)))
      have HGD := hid (fun k (hk : k ≤ n) => comTo_good (n := n) (fun j hj => HLS.out j (by rw [HRL.out]; omega)) k hk)
      clear e0
      obtain ⟨ca11, fa11⟩ := id b4
      go_wp2_with fail
      clear ca11 fa11
      go_loopw [25] (fun i wr => ∃ k : Nat, k ≤ n ∧ i = .int .i64 k ∧ Hid (cn (d1, d2, d3, d4) (comTo (rlLs rs)) k = k) ∧ Bl wr (w.heap.size + 1) [.int .i64 d1, .int .i64 d2, .int .i64 d3, .int .i64 d4] ∧ Keeps w wr) (fun i _ => n - (intOf i).toNat)
      case atStart => exact ⟨0, Nat.zero_le _, rfl, hid rfl, b7, kw⟩
      clear b4 b7 kw
      case round =>
        obtain ⟨k, hk, rfl, HT, b7, kw⟩ := hrel
        by_cases hlt : k < n
        · have hi1 : (k : Int) < (n : Int) := by omega
          have hrk := (hr.keeps kw).front (show k + 1 ≤ n from hlt)
          obtain ⟨r1, r2, r3, r4, p, HR⟩ : ∃ r1 r2 r3 r4 p, Hid (comTo (rlLs rs) (k + 1) = ((r1, r2, r3, r4), p)) := ⟨_, _, _, _, _, rfl⟩
          have HC := hid ((HCT.out (k + 1) hlt).trans HR.out)
          have lt7 := b7.lt
          have hk1 : ((k : Int) + 1) ≤ (n : Int) := by omega
          have hk5 : ((k : Int) + 1) ≤ (cr : Int) := by omega
          have hk6 : ¬ cr < k + 1 := by omega
          have hk2 : (0 : Int) ≤ (k : Int) + 1 := by omega
          have hk3 : ((k : Int) + 1).toNat = k + 1 := by omega
          go_wp2_with fail
          refine (historyLoss_any (c := cr) hrk).mono ?_
          rintro e w12 ⟨rfl, k12⟩
          rw [HC.out]
          replace b7 := b7.keeps k12
          replace kw := Keeps.trans kw k12
          have lt13 := b7.lt
          have sz14 := kw.size
          clear k12
          clear hrk
          replace b7 := b7.keeps (keeps_alloc w12 (.cells #[.int .i64 r1, .int .i64 r2, .int .i64 r3, .int .i64 r4] 32))
          replace kw := Keeps.trans kw (keeps_alloc w12 (.cells #[.int .i64 r1, .int .i64 r2, .int .i64 r3, .int .i64 r4] 32))
          have b11 : Bl (w12.alloc (.cells #[.int .i64 r1, .int .i64 r2, .int .i64 r3, .int .i64 r4] 32)) w12.heap.size [.int .i64 r1, .int .i64 r2, .int .i64 r3, .int .i64 r4] := Bl.new' (by simp) (by simp)
          cases p
          · have HX := hid (cn_no HT.out (lfB_no (by rw [HR.out])) (show k < n from hlt))
            obtain rfl : q0 = (k : Int) := by rw [HE.out, HX.out]
            have ca15_0 : (w12.alloc (.cells #[.int .i64 r1, .int .i64 r2, .int .i64 r3, .int .i64 r4] 32)).cell? ⟨w.heap.size + 1, 0, none⟩ = some (.int .i64 d1) := (b7.2 0 _ rfl).1
            have ca15_1 : (w12.alloc (.cells #[.int .i64 r1, .int .i64 r2, .int .i64 r3, .int .i64 r4] 32)).cell? ⟨w.heap.size + 1, 1, none⟩ = some (.int .i64 d2) := (b7.2 1 _ rfl).1
            have ca15_2 : (w12.alloc (.cells #[.int .i64 r1, .int .i64 r2, .int .i64 r3, .int .i64 r4] 32)).cell? ⟨w.heap.size + 1, 2, none⟩ = some (.int .i64 d3) := (b7.2 2 _ rfl).1
            have ca15_3 : (w12.alloc (.cells #[.int .i64 r1, .int .i64 r2, .int .i64 r3, .int .i64 r4] 32)).cell? ⟨w.heap.size + 1, 3, none⟩ = some (.int .i64 d4) := (b7.2 3 _ rfl).1
            go_wp2_with fail
            clear ca15_0 ca15_1 ca15_2 ca15_3
            go_ret2
            exact ⟨rfl, kw⟩
          · skip
            have HS := hid (HGD.out (k + 1) hlt _ HR.out)
            obtain ⟨z, HZ⟩ : ∃ z, Hid (wiB (d1, d2, d3, d4) (r1, r2, r3, r4) = z) := ⟨_, rfl⟩
            have HL := hid ((lfB_eq (b := (d1, d2, d3, d4)) HR.out).trans HZ.out)
            have ca15_0 : (w12.alloc (.cells #[.int .i64 r1, .int .i64 r2, .int .i64 r3, .int .i64 r4] 32)).cell? ⟨w.heap.size + 1, 0, none⟩ = some (.int .i64 d1) := (b7.2 0 _ rfl).1
            have ca15_1 : (w12.alloc (.cells #[.int .i64 r1, .int .i64 r2, .int .i64 r3, .int .i64 r4] 32)).cell? ⟨w.heap.size + 1, 1, none⟩ = some (.int .i64 d2) := (b7.2 1 _ rfl).1
            have ca15_2 : (w12.alloc (.cells #[.int .i64 r1, .int .i64 r2, .int .i64 r3, .int .i64 r4] 32)).cell? ⟨w.heap.size + 1, 2, none⟩ = some (.int .i64 d3) := (b7.2 2 _ rfl).1
            have ca15_3 : (w12.alloc (.cells #[.int .i64 r1, .int .i64 r2, .int .i64 r3, .int .i64 r4] 32)).cell? ⟨w.heap.size + 1, 3, none⟩ = some (.int .i64 d4) := (b7.2 3 _ rfl).1
            have ca16_0 : (w12.alloc (.cells #[.int .i64 r1, .int .i64 r2, .int .i64 r3, .int .i64 r4] 32)).cell? ⟨w12.heap.size, 0, none⟩ = some (.int .i64 r1) := (b11.2 0 _ rfl).1
            have ca16_1 : (w12.alloc (.cells #[.int .i64 r1, .int .i64 r2, .int .i64 r3, .int .i64 r4] 32)).cell? ⟨w12.heap.size, 1, none⟩ = some (.int .i64 r2) := (b11.2 1 _ rfl).1
            have ca16_2 : (w12.alloc (.cells #[.int .i64 r1, .int .i64 r2, .int .i64 r3, .int .i64 r4] 32)).cell? ⟨w12.heap.size, 2, none⟩ = some (.int .i64 r3) := (b11.2 2 _ rfl).1
            have ca16_3 : (w12.alloc (.cells #[.int .i64 r1, .int .i64 r2, .int .i64 r3, .int .i64 r4] 32)).cell? ⟨w12.heap.size, 3, none⟩ = some (.int .i64 r4) := (b11.2 3 _ rfl).1
            go_wp2_with fail
            clear ca15_0 ca15_1 ca15_2 ca15_3 ca16_0 ca16_1 ca16_2 ca16_3
            refine (isWithin_any HB2.out HS.out).mono ?_
            rintro e w17 ⟨rfl, k17⟩
            rw [HZ.out]
            replace b7 := b7.keeps k17
            replace b11 := b11.keeps k17
            replace kw := Keeps.trans kw k17
            have lt18 := b11.lt
            have sz19 := kw.size
            clear k17
            cases z
            · have HX := hid (cn_no HT.out HL.out (show k < n from hlt))
              obtain rfl : q0 = (k : Int) := by rw [HE.out, HX.out]
              have ca20_0 : w17.cell? ⟨w.heap.size + 1, 0, none⟩ = some (.int .i64 d1) := (b7.2 0 _ rfl).1
              have ca20_1 : w17.cell? ⟨w.heap.size + 1, 1, none⟩ = some (.int .i64 d2) := (b7.2 1 _ rfl).1
              have ca20_2 : w17.cell? ⟨w.heap.size + 1, 2, none⟩ = some (.int .i64 d3) := (b7.2 2 _ rfl).1
              have ca20_3 : w17.cell? ⟨w.heap.size + 1, 3, none⟩ = some (.int .i64 d4) := (b7.2 3 _ rfl).1
              go_wp2_with fail
              clear ca20_0 ca20_1 ca20_2 ca20_3
              go_ret2
              exact ⟨rfl, kw⟩
            have HN := hid (cn_yes HT.out HL.out)
            have ca20_0 : w17.cell? ⟨w.heap.size + 1, 0, none⟩ = some (.int .i64 d1) := (b7.2 0 _ rfl).1
            have ca20_1 : w17.cell? ⟨w.heap.size + 1, 1, none⟩ = some (.int .i64 d2) := (b7.2 1 _ rfl).1
            have ca20_2 : w17.cell? ⟨w.heap.size + 1, 2, none⟩ = some (.int .i64 d3) := (b7.2 2 _ rfl).1
            have ca20_3 : w17.cell? ⟨w.heap.size + 1, 3, none⟩ = some (.int .i64 d4) := (b7.2 3 _ rfl).1
            go_wp2_with fail
            clear ca20_0 ca20_1 ca20_2 ca20_3
            go_roundw
            case rel => exact ⟨k + 1, by omega, by go_num, HN, b7, kw⟩
            case measure => simp [intOf]; omega
        · obtain rfl : k = n := by omega
          obtain rfl : q0 = (k : Int) := by rw [HE.out, HT.out]
          go_wp2
          go_ret2
          exact ⟨rfl, kw⟩
set_option maxRecDepth 100000 in
set_option maxHeartbeats 6400000 in
theorem specFirstOverrun_gen {A A' R : Option Addr} {lo hi a c0 lo3 hi3 n q cq cr : Nat} {un : Bool} {ps : List Int} {l : List VV} {rs : List RL} {d1 d2 d3 d4 : Int} {w : World} (h : Ints w lo hi A a ps) (h' : Sch w A' q cq l) (hr : Rels true un w lo3 hi3 R n rs) (hcr : n ≤ cr) :
    Calls Tryz.prog 19 #[.agg #[.slice A a c0], .slice A' q cq, .slice R n cr, .agg #[.int .i64 d1, .int .i64 d2, .int .i64 d3, .int .i64 d4]] w fun e w' => e = .returned (.tuple #[.int .i64 (foQ ps l rs (d1, d2, d3, d4)).1, .bool (foQ ps l rs (d1, d2, d3, d4)).2]) ∧ Keeps w w' := by
  have hq : q ≤ 67108864 := by obtain ⟨_, _, hv⟩ := h'.v; exact hv.le
  have hn := hr.le
  have HRL := hid hr.len
  obtain ⟨q0, q1, HQ⟩ : ∃ q0 q1, Hid (foQ ps l rs (d1, d2, d3, d4) = (q0, q1)) := ⟨_, _, rfl⟩
  rw [HQ.out]
  go_enter Tryz.func19, Tryz.ntmps19
  have kw := keeps_refl w
  replace kw := Keeps.trans kw (keeps_alloc w (.cells #[.slice A a c0] 26))
  have b4 : B1 (w.alloc (.cells #[.slice A a c0] 26)) w.heap.size (.slice A a c0) := B1.new' (by simp)
  replace b4 := b4.keeps (keeps_alloc (w.alloc (.cells #[.slice A a c0] 26)) (.cells #[.int .i64 d1, .int .i64 d2, .int .i64 d3, .int .i64 d4] 32))
  replace kw := Keeps.trans kw (keeps_alloc (w.alloc (.cells #[.slice A a c0] 26)) (.cells #[.int .i64 d1, .int .i64 d2, .int .i64 d3, .int .i64 d4] 32))
  have b7 : Bl ((w.alloc (.cells #[.slice A a c0] 26)).alloc (.cells #[.int .i64 d1, .int .i64 d2, .int .i64 d3, .int .i64 d4] 32)) (w.heap.size + 1) [.int .i64 d1, .int .i64 d2, .int .i64 d3, .int .i64 d4] := Bl.new' (by simp) (by simp)
  obtain ⟨ca1, fa1⟩ := id b4
  have ca2_0 : ((w.alloc (.cells #[.slice A a c0] 26)).alloc (.cells #[.int .i64 d1, .int .i64 d2, .int .i64 d3, .int .i64 d4] 32)).cell? ⟨w.heap.size + 1, 0, none⟩ = some (.int .i64 d1) := (b7.2 0 _ rfl).1
  have ca2_1 : ((w.alloc (.cells #[.slice A a c0] 26)).alloc (.cells #[.int .i64 d1, .int .i64 d2, .int .i64 d3, .int .i64 d4] 32)).cell? ⟨w.heap.size + 1, 1, none⟩ = some (.int .i64 d2) := (b7.2 1 _ rfl).1
  have ca2_2 : ((w.alloc (.cells #[.slice A a c0] 26)).alloc (.cells #[.int .i64 d1, .int .i64 d2, .int .i64 d3, .int .i64 d4] 32)).cell? ⟨w.heap.size + 1, 2, none⟩ = some (.int .i64 d3) := (b7.2 2 _ rfl).1
  have ca2_3 : ((w.alloc (.cells #[.slice A a c0] 26)).alloc (.cells #[.int .i64 d1, .int .i64 d2, .int .i64 d3, .int .i64 d4] 32)).cell? ⟨w.heap.size + 1, 3, none⟩ = some (.int .i64 d4) := (b7.2 3 _ rfl).1
  go_wp2_with fail
  clear ca1 fa1 ca2_0 ca2_1 ca2_2 ca2_3
  obtain ⟨pHH, HH⟩ : ∃ pB, Hid (hisB ps l rs = pB) := ⟨_, rfl⟩
  refine (rlHistory_any (h.keeps kw) (h'.keeps kw) (hr.keeps kw)).mono ?_
  rintro e w3 ⟨rfl, k3⟩
  rw [HH.out]
  replace b4 := b4.keeps k3
  replace b7 := b7.keeps k3
  replace kw := Keeps.trans kw k3
  have lt4 := b7.lt
  have sz5 := kw.size
  clear k3
  cases pHH
  · obtain ⟨e0, e1⟩ : q0 = 0 ∧ q1 = false := by have := HQ.out.symm.trans (foQ_no (by rw [HH.out]; rfl)); injection this with a b; exact ⟨a, b⟩
    subst e0 e1
    obtain ⟨ca6, fa6⟩ := id b4
    have ca7_0 : w3.cell? ⟨w.heap.size + 1, 0, none⟩ = some (.int .i64 d1) := (b7.2 0 _ rfl).1
    have ca7_1 : w3.cell? ⟨w.heap.size + 1, 1, none⟩ = some (.int .i64 d2) := (b7.2 1 _ rfl).1
    have ca7_2 : w3.cell? ⟨w.heap.size + 1, 2, none⟩ = some (.int .i64 d3) := (b7.2 2 _ rfl).1
    have ca7_3 : w3.cell? ⟨w.heap.size + 1, 3, none⟩ = some (.int .i64 d4) := (b7.2 3 _ rfl).1
    go_wp2_with fail
    clear ca6 fa6 ca7_0 ca7_1 ca7_2 ca7_3
    go_ret2
    exact ⟨rfl, kw⟩
  · skip
    obtain ⟨ca6, fa6⟩ := id b4
    have ca7_0 : w3.cell? ⟨w.heap.size + 1, 0, none⟩ = some (.int .i64 d1) := (b7.2 0 _ rfl).1
    have ca7_1 : w3.cell? ⟨w.heap.size + 1, 1, none⟩ = some (.int .i64 d2) := (b7.2 1 _ rfl).1
    have ca7_2 : w3.cell? ⟨w.heap.size + 1, 2, none⟩ = some (.int .i64 d3) := (b7.2 2 _ rfl).1
    have ca7_3 : w3.cell? ⟨w.heap.size + 1, 3, none⟩ = some (.int .i64 d4) := (b7.2 3 _ rfl).1
    go_wp2_with fail
    clear ca6 fa6 ca7_0 ca7_1 ca7_2 ca7_3
    obtain ⟨pHB, HB⟩ : ∃ pB, Hid (lossB d1 d2 d3 d4 = pB) := ⟨_, rfl⟩
    refine (pGood_any).mono ?_
    rintro e w8 ⟨rfl, k8⟩
    rw [HB.out]
    replace b4 := b4.keeps k8
    replace b7 := b7.keeps k8
    replace kw := Keeps.trans kw k8
    have lt9 := b7.lt
    have sz10 := kw.size
    clear k8
    cases pHB
    · obtain ⟨e0, e1⟩ : q0 = 0 ∧ q1 = false := by have := HQ.out.symm.trans (foQ_no (by rw [HH.out]; exact HB.out)); injection this with a b; exact ⟨a, b⟩
      subst e0 e1
      obtain ⟨ca11, fa11⟩ := id b4
      have ca12_0 : w8.cell? ⟨w.heap.size + 1, 0, none⟩ = some (.int .i64 d1) := (b7.2 0 _ rfl).1
      have ca12_1 : w8.cell? ⟨w.heap.size + 1, 1, none⟩ = some (.int .i64 d2) := (b7.2 1 _ rfl).1
      have ca12_2 : w8.cell? ⟨w.heap.size + 1, 2, none⟩ = some (.int .i64 d3) := (b7.2 2 _ rfl).1
      have ca12_3 : w8.cell? ⟨w.heap.size + 1, 3, none⟩ = some (.int .i64 d4) := (b7.2 3 _ rfl).1
      go_wp2_with fail
      clear ca11 fa11 ca12_0 ca12_1 ca12_2 ca12_3
      go_ret2
      exact ⟨rfl, kw⟩
    · skip
      have HB2 := hid (show lsB (d1, d2, d3, d4) = true from HB.out)
      obtain ⟨e0, e1⟩ : q0 = (cn (d1, d2, d3, d4) (comTo (rlLs rs)) rs.length : Int) ∧ q1 = true := by have := HQ.out.symm.trans (foQ_yes (by rw [HH.out]; exact HB.out)); injection this with a b; exact ⟨a, b⟩
      subst e1
      have HE := hid e0
      rw [HRL.out] at HE
      have hb12 := (his_loss HH.out).1
      rw [HRL.out] at hb12
      have HLS := hid (his_loss HH.out).2
      have HLN := hid (show (rlLs rs).length = n by rw [rlLs_len, HRL.out])
      have HCT := hid (fun k (hk : k ≤ n) => (show comQ (rlLs (rs.take k)) = comTo (rlLs rs) k by rw [rlLs_take]; exact com_take (by rw [HLN.out]; omega) (fun j hj => HLS.out j (by rw [← rlLs_len]; exact hj)) (by rw [HLN.out]; exact hk)))
      have HGD := hid (fun k (hk : k ≤ n) => comTo_good (n := n) (fun j hj => HLS.out j (by rw [HRL.out]; omega)) k hk)
      clear e0
      obtain ⟨ca11, fa11⟩ := id b4
      go_wp2_with fail
      clear ca11 fa11
      go_loopw [23] (fun i wr => ∃ k : Nat, k ≤ n ∧ i = .int .i64 k ∧ Hid (cn (d1, d2, d3, d4) (comTo (rlLs rs)) k = k) ∧ Bl wr (w.heap.size + 1) [.int .i64 d1, .int .i64 d2, .int .i64 d3, .int .i64 d4] ∧ Keeps w wr) (fun i _ => n - (intOf i).toNat)
      case atStart => exact ⟨0, Nat.zero_le _, rfl, hid rfl, b7, kw⟩
      clear b4 b7 kw
      case round =>
        obtain ⟨k, hk, rfl, HT, b7, kw⟩ := hrel
        by_cases hlt : k < n
        · have hi1 : (k : Int) < (n : Int) := by omega
          have hrk := (hr.keeps kw).front (show k + 1 ≤ n from hlt)
          obtain ⟨r1, r2, r3, r4, p, HR⟩ : ∃ r1 r2 r3 r4 p, Hid (comTo (rlLs rs) (k + 1) = ((r1, r2, r3, r4), p)) := ⟨_, _, _, _, _, rfl⟩
          have HC := hid ((HCT.out (k + 1) hlt).trans HR.out)
          have lt7 := b7.lt
          obtain ⟨z, HZ⟩ : ∃ z, Hid (lfB (d1, d2, d3, d4) (comTo (rlLs rs) (k + 1)) = z) := ⟨_, rfl⟩
          have HFI := hid (fun (w' : World) (kk : Keeps wr w') => rlFits_any (c := cr) (hrk.keeps kk) (more_nil w') (by omega) HB2.out (by rw [List.append_nil, HCT.out (k + 1) hlt]; exact HGD.out (k + 1) hlt))
          rw [List.append_nil, HCT.out (k + 1) hlt, HZ.out] at HFI
          clear hrk
          have hk1 : ((k : Int) + 1) ≤ (n : Int) := by omega
          have hk5 : ((k : Int) + 1) ≤ (cr : Int) := by omega
          have hk6 : ¬ cr < k + 1 := by omega
          have hk2 : (0 : Int) ≤ (k : Int) + 1 := by omega
          have hk3 : ((k : Int) + 1).toNat = k + 1 := by omega
          have hn2 : (n : Int) ≤ n := Int.le_refl _
          have hk4 : ¬ n < k + 1 := by omega
          have q0_b7 : wr.cell? ⟨w.heap.size + 1, 0, none⟩ = some (.int .i64 d1) := (b7.2 0 _ rfl).1
          have rq0_b7 := fun d os => cell_regrown q0_b7 d os
          have q1_b7 : wr.cell? ⟨w.heap.size + 1, 1, none⟩ = some (.int .i64 d2) := (b7.2 1 _ rfl).1
          have rq1_b7 := fun d os => cell_regrown q1_b7 d os
          have q2_b7 : wr.cell? ⟨w.heap.size + 1, 2, none⟩ = some (.int .i64 d3) := (b7.2 2 _ rfl).1
          have rq2_b7 := fun d os => cell_regrown q2_b7 d os
          have q3_b7 : wr.cell? ⟨w.heap.size + 1, 3, none⟩ = some (.int .i64 d4) := (b7.2 3 _ rfl).1
          have rq3_b7 := fun d os => cell_regrown q3_b7 d os
          have cQ0 := hid (fun (dQ : Nat) (oQ : Array Obj) => HFI.out _ (below_regrown wr dQ oQ))
          go_wp2_with fail
          refine wp_region_quiet_below (by kernel_rfl) (by kernel_rfl) ?_
          iterate 7 (go_big_quiet_step ((first | with_reducible exact Calls.regrown_of (cQ0.out _ _))))
          refine wpQuiet_nil ?_
          intro _ hw'
          obtain ⟨⟨dq, osq⟩, hw''⟩ := hw'
          subst hw''
          clear q0_b7 rq0_b7 q1_b7 rq1_b7 q2_b7 rq2_b7 q3_b7 rq3_b7 cQ0
          have kQ := below_regrown wr dq osq
          obtain ⟨wQ12, hwQ⟩ : ∃ u, u = grow (redrawn wr dq) osq := ⟨_, rfl⟩
          rw [← hwQ] at kQ
          rw [← hwQ]
          clear hwQ
          replace b7 := b7.keeps kQ
          replace kw := Keeps.trans kw kQ
          have lt13 := b7.lt
          have sz14 := kw.size
          clear kQ
          cases z
          · have HX := hid (cn_no HT.out HZ.out (show k < n from hlt))
            obtain rfl : q0 = (k : Int) := by rw [HE.out, HX.out]
            have ca15_0 : wQ12.cell? ⟨w.heap.size + 1, 0, none⟩ = some (.int .i64 d1) := (b7.2 0 _ rfl).1
            have ca15_1 : wQ12.cell? ⟨w.heap.size + 1, 1, none⟩ = some (.int .i64 d2) := (b7.2 1 _ rfl).1
            have ca15_2 : wQ12.cell? ⟨w.heap.size + 1, 2, none⟩ = some (.int .i64 d3) := (b7.2 2 _ rfl).1
            have ca15_3 : wQ12.cell? ⟨w.heap.size + 1, 3, none⟩ = some (.int .i64 d4) := (b7.2 3 _ rfl).1
            go_wp2_with fail
            clear ca15_0 ca15_1 ca15_2 ca15_3
            go_ret2
            exact ⟨rfl, kw⟩
          have HN := hid (cn_yes HT.out HZ.out)
          have ca15_0 : wQ12.cell? ⟨w.heap.size + 1, 0, none⟩ = some (.int .i64 d1) := (b7.2 0 _ rfl).1
          have ca15_1 : wQ12.cell? ⟨w.heap.size + 1, 1, none⟩ = some (.int .i64 d2) := (b7.2 1 _ rfl).1
          have ca15_2 : wQ12.cell? ⟨w.heap.size + 1, 2, none⟩ = some (.int .i64 d3) := (b7.2 2 _ rfl).1
          have ca15_3 : wQ12.cell? ⟨w.heap.size + 1, 3, none⟩ = some (.int .i64 d4) := (b7.2 3 _ rfl).1
          go_wp2_with fail
          clear ca15_0 ca15_1 ca15_2 ca15_3
          go_roundw
          case rel => exact ⟨k + 1, by omega, by go_num, HN, b7, kw⟩
          case measure => simp [intOf]; omega
        · obtain rfl : k = n := by omega
          obtain rfl : q0 = (k : Int) := by rw [HE.out, HT.out]
          go_wp2
          go_ret2
          exact ⟨rfl, kw⟩
set_option maxRecDepth 100000 in
set_option maxHeartbeats 6400000 in
theorem implReleasesLeft_gen {A A' R : Option Addr} {lo hi a c0 lo3 hi3 n q cq cr : Nat} {un : Bool} {d1 d2 d3 d4 x1 x2 x3 x4 : Int} {ps : List Int} {l : List VV} {rs : List RL} {w : World} (h : Ints w lo hi A a ps) (h' : Sch w A' q cq l) (hr : Rels true un w lo3 hi3 R n rs) :
    Calls Tryz.prog 12 #[.agg #[.slice A a c0], .slice A' q cq, .slice R n cr, .agg #[.int .i64 d1, .int .i64 d2, .int .i64 d3, .int .i64 d4], .agg #[.int .i64 x1, .int .i64 x2, .int .i64 x3, .int .i64 x4]] w fun e w' => e = .returned (.tuple #[.int .i64 (rqQ ps l rs (d1, d2, d3, d4) (x1, x2, x3, x4)).1, .bool (rqQ ps l rs (d1, d2, d3, d4) (x1, x2, x3, x4)).2]) ∧ Keeps w w' := by
  have hq : q ≤ 67108864 := by obtain ⟨_, _, hv⟩ := h'.v; exact hv.le
  have hn := hr.le
  have HRL := hid hr.len
  obtain ⟨q0, q1, HQ⟩ : ∃ q0 q1, Hid (rqQ ps l rs (d1, d2, d3, d4) (x1, x2, x3, x4) = (q0, q1)) := ⟨_, _, rfl⟩
  rw [HQ.out]
  go_enter Tryz.func12, Tryz.ntmps12
  have kw := keeps_refl w
  replace kw := Keeps.trans kw (keeps_alloc w (.cells #[.slice A a c0] 26))
  have b5 : B1 (w.alloc (.cells #[.slice A a c0] 26)) w.heap.size (.slice A a c0) := B1.new' (by simp)
  replace b5 := b5.keeps (keeps_alloc (w.alloc (.cells #[.slice A a c0] 26)) (.cells #[.int .i64 d1, .int .i64 d2, .int .i64 d3, .int .i64 d4] 32))
  replace kw := Keeps.trans kw (keeps_alloc (w.alloc (.cells #[.slice A a c0] 26)) (.cells #[.int .i64 d1, .int .i64 d2, .int .i64 d3, .int .i64 d4] 32))
  have b8 : Bl ((w.alloc (.cells #[.slice A a c0] 26)).alloc (.cells #[.int .i64 d1, .int .i64 d2, .int .i64 d3, .int .i64 d4] 32)) (w.heap.size + 1) [.int .i64 d1, .int .i64 d2, .int .i64 d3, .int .i64 d4] := Bl.new' (by simp) (by simp)
  replace b5 := b5.keeps (keeps_alloc ((w.alloc (.cells #[.slice A a c0] 26)).alloc (.cells #[.int .i64 d1, .int .i64 d2, .int .i64 d3, .int .i64 d4] 32)) (.cells #[.int .i64 x1, .int .i64 x2, .int .i64 x3, .int .i64 x4] 32))
  replace b8 := b8.keeps (keeps_alloc ((w.alloc (.cells #[.slice A a c0] 26)).alloc (.cells #[.int .i64 d1, .int .i64 d2, .int .i64 d3, .int .i64 d4] 32)) (.cells #[.int .i64 x1, .int .i64 x2, .int .i64 x3, .int .i64 x4] 32))
  replace kw := Keeps.trans kw (keeps_alloc ((w.alloc (.cells #[.slice A a c0] 26)).alloc (.cells #[.int .i64 d1, .int .i64 d2, .int .i64 d3, .int .i64 d4] 32)) (.cells #[.int .i64 x1, .int .i64 x2, .int .i64 x3, .int .i64 x4] 32))
  have b9 : Bl (((w.alloc (.cells #[.slice A a c0] 26)).alloc (.cells #[.int .i64 d1, .int .i64 d2, .int .i64 d3, .int .i64 d4] 32)).alloc (.cells #[.int .i64 x1, .int .i64 x2, .int .i64 x3, .int .i64 x4] 32)) (w.heap.size + 1 + 1) [.int .i64 x1, .int .i64 x2, .int .i64 x3, .int .i64 x4] := Bl.new' (by simp) (by simp)
  obtain ⟨ca1, fa1⟩ := id b5
  have ca2_0 : (((w.alloc (.cells #[.slice A a c0] 26)).alloc (.cells #[.int .i64 d1, .int .i64 d2, .int .i64 d3, .int .i64 d4] 32)).alloc (.cells #[.int .i64 x1, .int .i64 x2, .int .i64 x3, .int .i64 x4] 32)).cell? ⟨w.heap.size + 1, 0, none⟩ = some (.int .i64 d1) := (b8.2 0 _ rfl).1
  have ca2_1 : (((w.alloc (.cells #[.slice A a c0] 26)).alloc (.cells #[.int .i64 d1, .int .i64 d2, .int .i64 d3, .int .i64 d4] 32)).alloc (.cells #[.int .i64 x1, .int .i64 x2, .int .i64 x3, .int .i64 x4] 32)).cell? ⟨w.heap.size + 1, 1, none⟩ = some (.int .i64 d2) := (b8.2 1 _ rfl).1
  have ca2_2 : (((w.alloc (.cells #[.slice A a c0] 26)).alloc (.cells #[.int .i64 d1, .int .i64 d2, .int .i64 d3, .int .i64 d4] 32)).alloc (.cells #[.int .i64 x1, .int .i64 x2, .int .i64 x3, .int .i64 x4] 32)).cell? ⟨w.heap.size + 1, 2, none⟩ = some (.int .i64 d3) := (b8.2 2 _ rfl).1
  have ca2_3 : (((w.alloc (.cells #[.slice A a c0] 26)).alloc (.cells #[.int .i64 d1, .int .i64 d2, .int .i64 d3, .int .i64 d4] 32)).alloc (.cells #[.int .i64 x1, .int .i64 x2, .int .i64 x3, .int .i64 x4] 32)).cell? ⟨w.heap.size + 1, 3, none⟩ = some (.int .i64 d4) := (b8.2 3 _ rfl).1
  have ca3_0 : (((w.alloc (.cells #[.slice A a c0] 26)).alloc (.cells #[.int .i64 d1, .int .i64 d2, .int .i64 d3, .int .i64 d4] 32)).alloc (.cells #[.int .i64 x1, .int .i64 x2, .int .i64 x3, .int .i64 x4] 32)).cell? ⟨w.heap.size + 1 + 1, 0, none⟩ = some (.int .i64 x1) := (b9.2 0 _ rfl).1
  have ca3_1 : (((w.alloc (.cells #[.slice A a c0] 26)).alloc (.cells #[.int .i64 d1, .int .i64 d2, .int .i64 d3, .int .i64 d4] 32)).alloc (.cells #[.int .i64 x1, .int .i64 x2, .int .i64 x3, .int .i64 x4] 32)).cell? ⟨w.heap.size + 1 + 1, 1, none⟩ = some (.int .i64 x2) := (b9.2 1 _ rfl).1
  have ca3_2 : (((w.alloc (.cells #[.slice A a c0] 26)).alloc (.cells #[.int .i64 d1, .int .i64 d2, .int .i64 d3, .int .i64 d4] 32)).alloc (.cells #[.int .i64 x1, .int .i64 x2, .int .i64 x3, .int .i64 x4] 32)).cell? ⟨w.heap.size + 1 + 1, 2, none⟩ = some (.int .i64 x3) := (b9.2 2 _ rfl).1
  have ca3_3 : (((w.alloc (.cells #[.slice A a c0] 26)).alloc (.cells #[.int .i64 d1, .int .i64 d2, .int .i64 d3, .int .i64 d4] 32)).alloc (.cells #[.int .i64 x1, .int .i64 x2, .int .i64 x3, .int .i64 x4] 32)).cell? ⟨w.heap.size + 1 + 1, 3, none⟩ = some (.int .i64 x4) := (b9.2 3 _ rfl).1
  go_wp2_with fail
  clear ca1 fa1 ca2_0 ca2_1 ca2_2 ca2_3 ca3_0 ca3_1 ca3_2 ca3_3
  obtain ⟨pH1, H1⟩ : ∃ pB, Hid (hisB ps l rs = pB) := ⟨_, rfl⟩
  refine (isHistory_any (h.keeps kw) (h'.keeps kw) (hr.keeps kw)).mono ?_
  rintro e w4 ⟨rfl, k4⟩
  rw [H1.out]
  replace b5 := b5.keeps k4
  replace b8 := b8.keeps k4
  replace b9 := b9.keeps k4
  replace kw := Keeps.trans kw k4
  have lt5 := b9.lt
  have sz6 := kw.size
  clear k4
  cases pH1
  · obtain ⟨e0, e1⟩ : q0 = 0 ∧ q1 = false := by have := HQ.out.symm.trans (rqQ_no (by rw [H1.out]; rfl)); injection this with a b; exact ⟨a, b⟩
    subst e0 e1
    obtain ⟨ca7, fa7⟩ := id b5
    have ca8_0 : w4.cell? ⟨w.heap.size + 1, 0, none⟩ = some (.int .i64 d1) := (b8.2 0 _ rfl).1
    have ca8_1 : w4.cell? ⟨w.heap.size + 1, 1, none⟩ = some (.int .i64 d2) := (b8.2 1 _ rfl).1
    have ca8_2 : w4.cell? ⟨w.heap.size + 1, 2, none⟩ = some (.int .i64 d3) := (b8.2 2 _ rfl).1
    have ca8_3 : w4.cell? ⟨w.heap.size + 1, 3, none⟩ = some (.int .i64 d4) := (b8.2 3 _ rfl).1
    have ca9_0 : w4.cell? ⟨w.heap.size + 1 + 1, 0, none⟩ = some (.int .i64 x1) := (b9.2 0 _ rfl).1
    have ca9_1 : w4.cell? ⟨w.heap.size + 1 + 1, 1, none⟩ = some (.int .i64 x2) := (b9.2 1 _ rfl).1
    have ca9_2 : w4.cell? ⟨w.heap.size + 1 + 1, 2, none⟩ = some (.int .i64 x3) := (b9.2 2 _ rfl).1
    have ca9_3 : w4.cell? ⟨w.heap.size + 1 + 1, 3, none⟩ = some (.int .i64 x4) := (b9.2 3 _ rfl).1
    go_wp2_with fail
    clear ca7 fa7 ca8_0 ca8_1 ca8_2 ca8_3 ca9_0 ca9_1 ca9_2 ca9_3
    go_ret2
    exact ⟨rfl, kw⟩
  · skip
    obtain ⟨ca7, fa7⟩ := id b5
    have ca8_0 : w4.cell? ⟨w.heap.size + 1, 0, none⟩ = some (.int .i64 d1) := (b8.2 0 _ rfl).1
    have ca8_1 : w4.cell? ⟨w.heap.size + 1, 1, none⟩ = some (.int .i64 d2) := (b8.2 1 _ rfl).1
    have ca8_2 : w4.cell? ⟨w.heap.size + 1, 2, none⟩ = some (.int .i64 d3) := (b8.2 2 _ rfl).1
    have ca8_3 : w4.cell? ⟨w.heap.size + 1, 3, none⟩ = some (.int .i64 d4) := (b8.2 3 _ rfl).1
    have ca9_0 : w4.cell? ⟨w.heap.size + 1 + 1, 0, none⟩ = some (.int .i64 x1) := (b9.2 0 _ rfl).1
    have ca9_1 : w4.cell? ⟨w.heap.size + 1 + 1, 1, none⟩ = some (.int .i64 x2) := (b9.2 1 _ rfl).1
    have ca9_2 : w4.cell? ⟨w.heap.size + 1 + 1, 2, none⟩ = some (.int .i64 x3) := (b9.2 2 _ rfl).1
    have ca9_3 : w4.cell? ⟨w.heap.size + 1 + 1, 3, none⟩ = some (.int .i64 x4) := (b9.2 3 _ rfl).1
    go_wp2_with fail
    clear ca7 fa7 ca8_0 ca8_1 ca8_2 ca8_3 ca9_0 ca9_1 ca9_2 ca9_3
    obtain ⟨pH2, H2⟩ : ∃ pB, Hid (lossB d1 d2 d3 d4 = pB) := ⟨_, rfl⟩
    refine (IsLoss_any).mono ?_
    rintro e w10 ⟨rfl, k10⟩
    rw [H2.out]
    replace b5 := b5.keeps k10
    replace b8 := b8.keeps k10
    replace b9 := b9.keeps k10
    replace kw := Keeps.trans kw k10
    have lt11 := b9.lt
    have sz12 := kw.size
    clear k10
    cases pH2
    · obtain ⟨e0, e1⟩ : q0 = 0 ∧ q1 = false := by have := HQ.out.symm.trans (rqQ_no (by rw [H1.out, show lsB (d1, d2, d3, d4) = false from H2.out]; rfl)); injection this with a b; exact ⟨a, b⟩
      subst e0 e1
      obtain ⟨ca13, fa13⟩ := id b5
      have ca14_0 : w10.cell? ⟨w.heap.size + 1, 0, none⟩ = some (.int .i64 d1) := (b8.2 0 _ rfl).1
      have ca14_1 : w10.cell? ⟨w.heap.size + 1, 1, none⟩ = some (.int .i64 d2) := (b8.2 1 _ rfl).1
      have ca14_2 : w10.cell? ⟨w.heap.size + 1, 2, none⟩ = some (.int .i64 d3) := (b8.2 2 _ rfl).1
      have ca14_3 : w10.cell? ⟨w.heap.size + 1, 3, none⟩ = some (.int .i64 d4) := (b8.2 3 _ rfl).1
      have ca15_0 : w10.cell? ⟨w.heap.size + 1 + 1, 0, none⟩ = some (.int .i64 x1) := (b9.2 0 _ rfl).1
      have ca15_1 : w10.cell? ⟨w.heap.size + 1 + 1, 1, none⟩ = some (.int .i64 x2) := (b9.2 1 _ rfl).1
      have ca15_2 : w10.cell? ⟨w.heap.size + 1 + 1, 2, none⟩ = some (.int .i64 x3) := (b9.2 2 _ rfl).1
      have ca15_3 : w10.cell? ⟨w.heap.size + 1 + 1, 3, none⟩ = some (.int .i64 x4) := (b9.2 3 _ rfl).1
      go_wp2_with fail
      clear ca13 fa13 ca14_0 ca14_1 ca14_2 ca14_3 ca15_0 ca15_1 ca15_2 ca15_3
      go_ret2
      exact ⟨rfl, kw⟩
    · skip
      obtain ⟨ca13, fa13⟩ := id b5
      have ca14_0 : w10.cell? ⟨w.heap.size + 1, 0, none⟩ = some (.int .i64 d1) := (b8.2 0 _ rfl).1
      have ca14_1 : w10.cell? ⟨w.heap.size + 1, 1, none⟩ = some (.int .i64 d2) := (b8.2 1 _ rfl).1
      have ca14_2 : w10.cell? ⟨w.heap.size + 1, 2, none⟩ = some (.int .i64 d3) := (b8.2 2 _ rfl).1
      have ca14_3 : w10.cell? ⟨w.heap.size + 1, 3, none⟩ = some (.int .i64 d4) := (b8.2 3 _ rfl).1
      have ca15_0 : w10.cell? ⟨w.heap.size + 1 + 1, 0, none⟩ = some (.int .i64 x1) := (b9.2 0 _ rfl).1
      have ca15_1 : w10.cell? ⟨w.heap.size + 1 + 1, 1, none⟩ = some (.int .i64 x2) := (b9.2 1 _ rfl).1
      have ca15_2 : w10.cell? ⟨w.heap.size + 1 + 1, 2, none⟩ = some (.int .i64 x3) := (b9.2 2 _ rfl).1
      have ca15_3 : w10.cell? ⟨w.heap.size + 1 + 1, 3, none⟩ = some (.int .i64 x4) := (b9.2 3 _ rfl).1
      go_wp2_with fail
      clear ca13 fa13 ca14_0 ca14_1 ca14_2 ca14_3 ca15_0 ca15_1 ca15_2 ca15_3
      obtain ⟨pH4, H4⟩ : ∃ pB, Hid (lossB x1 x2 x3 x4 = pB) := ⟨_, rfl⟩
      refine (IsLoss_any).mono ?_
      rintro e w16 ⟨rfl, k16⟩
      rw [H4.out]
      replace b5 := b5.keeps k16
      replace b8 := b8.keeps k16
      replace b9 := b9.keeps k16
      replace kw := Keeps.trans kw k16
      have lt17 := b9.lt
      have sz18 := kw.size
      clear k16
      cases pH4
      · obtain ⟨e0, e1⟩ : q0 = 0 ∧ q1 = false := by have := HQ.out.symm.trans (rqQ_no (by rw [show lsB (x1, x2, x3, x4) = false from H4.out]; simp)); injection this with a b; exact ⟨a, b⟩
        subst e0 e1
        obtain ⟨ca19, fa19⟩ := id b5
        have ca20_0 : w16.cell? ⟨w.heap.size + 1, 0, none⟩ = some (.int .i64 d1) := (b8.2 0 _ rfl).1
        have ca20_1 : w16.cell? ⟨w.heap.size + 1, 1, none⟩ = some (.int .i64 d2) := (b8.2 1 _ rfl).1
        have ca20_2 : w16.cell? ⟨w.heap.size + 1, 2, none⟩ = some (.int .i64 d3) := (b8.2 2 _ rfl).1
        have ca20_3 : w16.cell? ⟨w.heap.size + 1, 3, none⟩ = some (.int .i64 d4) := (b8.2 3 _ rfl).1
        have ca21_0 : w16.cell? ⟨w.heap.size + 1 + 1, 0, none⟩ = some (.int .i64 x1) := (b9.2 0 _ rfl).1
        have ca21_1 : w16.cell? ⟨w.heap.size + 1 + 1, 1, none⟩ = some (.int .i64 x2) := (b9.2 1 _ rfl).1
        have ca21_2 : w16.cell? ⟨w.heap.size + 1 + 1, 2, none⟩ = some (.int .i64 x3) := (b9.2 2 _ rfl).1
        have ca21_3 : w16.cell? ⟨w.heap.size + 1 + 1, 3, none⟩ = some (.int .i64 x4) := (b9.2 3 _ rfl).1
        go_wp2_with fail
        clear ca19 fa19 ca20_0 ca20_1 ca20_2 ca20_3 ca21_0 ca21_1 ca21_2 ca21_3
        go_ret2
        exact ⟨rfl, kw⟩
      · skip
        have HA := hid (show (hisB ps l rs && lsB (d1, d2, d3, d4) && lsB (x1, x2, x3, x4)) = true by rw [H1.out, show lsB (d1, d2, d3, d4) = true from H2.out, show lsB (x1, x2, x3, x4) = true from H4.out]; rfl)
        have HAA := HA.out
        simp only [Bool.and_eq_true] at HAA
        have HAB := hid HAA
        clear HAA
        obtain ⟨e0, e1⟩ : q0 = (cn (d1, d2, d3, d4) (exq (rlLs rs) (x1, x2, x3, x4)) (12 - rs.length) : Int) ∧ q1 = true := by have := HQ.out.symm.trans (rqQ_yes HA.out); injection this with a b; exact ⟨a, b⟩
        subst e1
        rw [HRL.out] at e0
        have HE := hid e0
        clear e0
        obtain ⟨ca19, fa19⟩ := id b5
        have ca20_0 : w16.cell? ⟨w.heap.size + 1, 0, none⟩ = some (.int .i64 d1) := (b8.2 0 _ rfl).1
        have ca20_1 : w16.cell? ⟨w.heap.size + 1, 1, none⟩ = some (.int .i64 d2) := (b8.2 1 _ rfl).1
        have ca20_2 : w16.cell? ⟨w.heap.size + 1, 2, none⟩ = some (.int .i64 d3) := (b8.2 2 _ rfl).1
        have ca20_3 : w16.cell? ⟨w.heap.size + 1, 3, none⟩ = some (.int .i64 d4) := (b8.2 3 _ rfl).1
        have ca21_0 : w16.cell? ⟨w.heap.size + 1 + 1, 0, none⟩ = some (.int .i64 x1) := (b9.2 0 _ rfl).1
        have ca21_1 : w16.cell? ⟨w.heap.size + 1 + 1, 1, none⟩ = some (.int .i64 x2) := (b9.2 1 _ rfl).1
        have ca21_2 : w16.cell? ⟨w.heap.size + 1 + 1, 2, none⟩ = some (.int .i64 x3) := (b9.2 2 _ rfl).1
        have ca21_3 : w16.cell? ⟨w.heap.size + 1 + 1, 3, none⟩ = some (.int .i64 x4) := (b9.2 3 _ rfl).1
        go_wp2_with fail
        clear ca19 fa19 ca20_0 ca20_1 ca20_2 ca20_3 ca21_0 ca21_1 ca21_2 ca21_3
        refine (usesLeft_any (c := cr) (hr.keeps kw) HAB.out.1.1 HAB.out.1.2 HAB.out.2).mono ?_
        rintro e w22 ⟨rfl, k22⟩
        rw [← HE.out]
        replace b5 := b5.keeps k22
        replace b8 := b8.keeps k22
        replace b9 := b9.keeps k22
        replace kw := Keeps.trans kw k22
        have lt23 := b9.lt
        have sz24 := kw.size
        clear k22
        go_wp2_with fail
        go_ret2
        exact ⟨rfl, kw⟩
theorem own_more {w : World} {B n c : Nat} {A : Option Addr} {l : List LQ} (h : Has w B 32 4 (.slice A n c) n (lcs l)) (h0 : 0 < n) (h1 : n ≤ 1000) : More w A n c l := by
  have hs := (SlM.of_own h (by omega) (by omega)).1
  obtain ⟨b, off, e, _⟩ := hs.2.2.2 h0
  exact .inr ⟨h0, h1, _, _, b, off, e, hs⟩
set_option maxRecDepth 100000 in
set_option maxHeartbeats 6400000 in
theorem specReleasesLeft_gen {A A' R : Option Addr} {lo hi a c0 lo3 hi3 n q cq cr : Nat} {un : Bool} {d1 d2 d3 d4 x1 x2 x3 x4 : Int} {ps : List Int} {l : List VV} {rs : List RL} {w : World} (h : Ints w lo hi A a ps) (h' : Sch w A' q cq l) (hr : Rels true un w lo3 hi3 R n rs) :
    Calls Tryz.prog 13 #[.agg #[.slice A a c0], .slice A' q cq, .slice R n cr, .agg #[.int .i64 d1, .int .i64 d2, .int .i64 d3, .int .i64 d4], .agg #[.int .i64 x1, .int .i64 x2, .int .i64 x3, .int .i64 x4]] w fun e w' => e = .returned (.tuple #[.int .i64 (rqQ ps l rs (d1, d2, d3, d4) (x1, x2, x3, x4)).1, .bool (rqQ ps l rs (d1, d2, d3, d4) (x1, x2, x3, x4)).2]) ∧ Keeps w w' := by
  have hq : q ≤ 67108864 := by obtain ⟨_, _, hv⟩ := h'.v; exact hv.le
  have hn := hr.le
  have HRL := hid hr.len
  obtain ⟨q0, q1, HQ⟩ : ∃ q0 q1, Hid (rqQ ps l rs (d1, d2, d3, d4) (x1, x2, x3, x4) = (q0, q1)) := ⟨_, _, rfl⟩
  rw [HQ.out]
  go_enter Tryz.func13, Tryz.ntmps13
  have kw := keeps_refl w
  replace kw := Keeps.trans kw (keeps_alloc w (.cells #[.slice A a c0] 26))
  have b5 : B1 (w.alloc (.cells #[.slice A a c0] 26)) w.heap.size (.slice A a c0) := B1.new' (by simp)
  replace b5 := b5.keeps (keeps_alloc (w.alloc (.cells #[.slice A a c0] 26)) (.cells #[.int .i64 d1, .int .i64 d2, .int .i64 d3, .int .i64 d4] 32))
  replace kw := Keeps.trans kw (keeps_alloc (w.alloc (.cells #[.slice A a c0] 26)) (.cells #[.int .i64 d1, .int .i64 d2, .int .i64 d3, .int .i64 d4] 32))
  have b8 : Bl ((w.alloc (.cells #[.slice A a c0] 26)).alloc (.cells #[.int .i64 d1, .int .i64 d2, .int .i64 d3, .int .i64 d4] 32)) (w.heap.size + 1) [.int .i64 d1, .int .i64 d2, .int .i64 d3, .int .i64 d4] := Bl.new' (by simp) (by simp)
  replace b5 := b5.keeps (keeps_alloc ((w.alloc (.cells #[.slice A a c0] 26)).alloc (.cells #[.int .i64 d1, .int .i64 d2, .int .i64 d3, .int .i64 d4] 32)) (.cells #[.int .i64 x1, .int .i64 x2, .int .i64 x3, .int .i64 x4] 32))
  replace b8 := b8.keeps (keeps_alloc ((w.alloc (.cells #[.slice A a c0] 26)).alloc (.cells #[.int .i64 d1, .int .i64 d2, .int .i64 d3, .int .i64 d4] 32)) (.cells #[.int .i64 x1, .int .i64 x2, .int .i64 x3, .int .i64 x4] 32))
  replace kw := Keeps.trans kw (keeps_alloc ((w.alloc (.cells #[.slice A a c0] 26)).alloc (.cells #[.int .i64 d1, .int .i64 d2, .int .i64 d3, .int .i64 d4] 32)) (.cells #[.int .i64 x1, .int .i64 x2, .int .i64 x3, .int .i64 x4] 32))
  have b9 : Bl (((w.alloc (.cells #[.slice A a c0] 26)).alloc (.cells #[.int .i64 d1, .int .i64 d2, .int .i64 d3, .int .i64 d4] 32)).alloc (.cells #[.int .i64 x1, .int .i64 x2, .int .i64 x3, .int .i64 x4] 32)) (w.heap.size + 1 + 1) [.int .i64 x1, .int .i64 x2, .int .i64 x3, .int .i64 x4] := Bl.new' (by simp) (by simp)
  obtain ⟨ca1, fa1⟩ := id b5
  have ca2_0 : (((w.alloc (.cells #[.slice A a c0] 26)).alloc (.cells #[.int .i64 d1, .int .i64 d2, .int .i64 d3, .int .i64 d4] 32)).alloc (.cells #[.int .i64 x1, .int .i64 x2, .int .i64 x3, .int .i64 x4] 32)).cell? ⟨w.heap.size + 1, 0, none⟩ = some (.int .i64 d1) := (b8.2 0 _ rfl).1
  have ca2_1 : (((w.alloc (.cells #[.slice A a c0] 26)).alloc (.cells #[.int .i64 d1, .int .i64 d2, .int .i64 d3, .int .i64 d4] 32)).alloc (.cells #[.int .i64 x1, .int .i64 x2, .int .i64 x3, .int .i64 x4] 32)).cell? ⟨w.heap.size + 1, 1, none⟩ = some (.int .i64 d2) := (b8.2 1 _ rfl).1
  have ca2_2 : (((w.alloc (.cells #[.slice A a c0] 26)).alloc (.cells #[.int .i64 d1, .int .i64 d2, .int .i64 d3, .int .i64 d4] 32)).alloc (.cells #[.int .i64 x1, .int .i64 x2, .int .i64 x3, .int .i64 x4] 32)).cell? ⟨w.heap.size + 1, 2, none⟩ = some (.int .i64 d3) := (b8.2 2 _ rfl).1
  have ca2_3 : (((w.alloc (.cells #[.slice A a c0] 26)).alloc (.cells #[.int .i64 d1, .int .i64 d2, .int .i64 d3, .int .i64 d4] 32)).alloc (.cells #[.int .i64 x1, .int .i64 x2, .int .i64 x3, .int .i64 x4] 32)).cell? ⟨w.heap.size + 1, 3, none⟩ = some (.int .i64 d4) := (b8.2 3 _ rfl).1
  have ca3_0 : (((w.alloc (.cells #[.slice A a c0] 26)).alloc (.cells #[.int .i64 d1, .int .i64 d2, .int .i64 d3, .int .i64 d4] 32)).alloc (.cells #[.int .i64 x1, .int .i64 x2, .int .i64 x3, .int .i64 x4] 32)).cell? ⟨w.heap.size + 1 + 1, 0, none⟩ = some (.int .i64 x1) := (b9.2 0 _ rfl).1
  have ca3_1 : (((w.alloc (.cells #[.slice A a c0] 26)).alloc (.cells #[.int .i64 d1, .int .i64 d2, .int .i64 d3, .int .i64 d4] 32)).alloc (.cells #[.int .i64 x1, .int .i64 x2, .int .i64 x3, .int .i64 x4] 32)).cell? ⟨w.heap.size + 1 + 1, 1, none⟩ = some (.int .i64 x2) := (b9.2 1 _ rfl).1
  have ca3_2 : (((w.alloc (.cells #[.slice A a c0] 26)).alloc (.cells #[.int .i64 d1, .int .i64 d2, .int .i64 d3, .int .i64 d4] 32)).alloc (.cells #[.int .i64 x1, .int .i64 x2, .int .i64 x3, .int .i64 x4] 32)).cell? ⟨w.heap.size + 1 + 1, 2, none⟩ = some (.int .i64 x3) := (b9.2 2 _ rfl).1
  have ca3_3 : (((w.alloc (.cells #[.slice A a c0] 26)).alloc (.cells #[.int .i64 d1, .int .i64 d2, .int .i64 d3, .int .i64 d4] 32)).alloc (.cells #[.int .i64 x1, .int .i64 x2, .int .i64 x3, .int .i64 x4] 32)).cell? ⟨w.heap.size + 1 + 1, 3, none⟩ = some (.int .i64 x4) := (b9.2 3 _ rfl).1
  go_wp2_with fail
  clear ca1 fa1 ca2_0 ca2_1 ca2_2 ca2_3 ca3_0 ca3_1 ca3_2 ca3_3
  have htn : Tabs true true w 0 w.heap.size none 0 [] := ⟨⟨Nat.le_refl _, fun h => absurd h (by omega)⟩, rfl, by omega, fun j => by simp [smT, t0]⟩
  have HPN := hid (show plB ps l [] = true from rfl)
  obtain ⟨pHA0, HA0⟩ : ∃ pB, Hid ((hisB ps l rs && lsB (d1, d2, d3, d4) && plB ps l [] && lsB (x1, x2, x3, x4)) = pB) := ⟨_, rfl⟩
  refine (rlAsked_any (h.keeps kw) (h'.keeps kw) (hr.keeps kw) (htn.keeps kw)).mono ?_
  rintro e w4 ⟨rfl, k4⟩
  rw [HA0.out]
  replace b5 := b5.keeps k4
  replace b8 := b8.keeps k4
  replace b9 := b9.keeps k4
  replace kw := Keeps.trans kw k4
  have lt5 := b9.lt
  have sz6 := kw.size
  clear k4
  cases pHA0
  · obtain ⟨e0, e1⟩ : q0 = 0 ∧ q1 = false := by have := HQ.out.symm.trans (rqQ_no (by have := HA0.out; rwa [HPN.out, Bool.and_true] at this)); injection this with a b; exact ⟨a, b⟩
    subst e0 e1
    obtain ⟨ca7, fa7⟩ := id b5
    have ca8_0 : w4.cell? ⟨w.heap.size + 1, 0, none⟩ = some (.int .i64 d1) := (b8.2 0 _ rfl).1
    have ca8_1 : w4.cell? ⟨w.heap.size + 1, 1, none⟩ = some (.int .i64 d2) := (b8.2 1 _ rfl).1
    have ca8_2 : w4.cell? ⟨w.heap.size + 1, 2, none⟩ = some (.int .i64 d3) := (b8.2 2 _ rfl).1
    have ca8_3 : w4.cell? ⟨w.heap.size + 1, 3, none⟩ = some (.int .i64 d4) := (b8.2 3 _ rfl).1
    have ca9_0 : w4.cell? ⟨w.heap.size + 1 + 1, 0, none⟩ = some (.int .i64 x1) := (b9.2 0 _ rfl).1
    have ca9_1 : w4.cell? ⟨w.heap.size + 1 + 1, 1, none⟩ = some (.int .i64 x2) := (b9.2 1 _ rfl).1
    have ca9_2 : w4.cell? ⟨w.heap.size + 1 + 1, 2, none⟩ = some (.int .i64 x3) := (b9.2 2 _ rfl).1
    have ca9_3 : w4.cell? ⟨w.heap.size + 1 + 1, 3, none⟩ = some (.int .i64 x4) := (b9.2 3 _ rfl).1
    go_wp2_with fail
    clear ca7 fa7 ca8_0 ca8_1 ca8_2 ca8_3 ca9_0 ca9_1 ca9_2 ca9_3
    go_ret2
    exact ⟨rfl, kw⟩
  · skip
    have HA := hid (show (hisB ps l rs && lsB (d1, d2, d3, d4) && lsB (x1, x2, x3, x4)) = true by have := HA0.out; rwa [HPN.out, Bool.and_true] at this)
    clear htn
    have HAA := HA.out
    simp only [Bool.and_eq_true] at HAA
    have HAB := hid HAA
    clear HAA
    obtain ⟨e0, e1⟩ : q0 = (cn (d1, d2, d3, d4) (exq (rlLs rs) (x1, x2, x3, x4)) (12 - rs.length) : Int) ∧ q1 = true := by have := HQ.out.symm.trans (rqQ_yes HA.out); injection this with a b; exact ⟨a, b⟩
    subst e1
    rw [HRL.out] at e0
    have HE := hid e0
    clear e0
    have hh := HAB.out.1.1
    have h12 := (his_loss hh).1
    have HRL := hid hr.len
    rw [HRL.out] at h12
    have HLS := hid (his_loss hh).2
    have HLN := hid (show (rlLs rs).length = n by rw [rlLs_len, HRL.out])
    have HG := hid (fun k (hk : k < (rlLs rs).length) => HLS.out k (by rw [← rlLs_len]; exact hk))
    clear hh
    have HEX := hid (fun m (hm : m ≤ 12) => exq_com (x := (x1, x2, x3, x4)) (m := m) (show (rlLs rs).length ≤ 12 by rw [HLN.out]; exact h12) hm HG.out HAB.out.2)
    have HEG := hid (fun m s => exq_good (m := m) (s := s) HG.out HAB.out.2)
    go_wp2_with fail
    go_loopw [12, 13] (fun i v wr => ∃ k : Nat, k ≤ 12 - n ∧ i = .int .i64 k ∧ Hid (cn (d1, d2, d3, d4) (exq (rlLs rs) (x1, x2, x3, x4)) k = k) ∧ Has wr (w.heap.size + 1 + 1 + 1) 32 4 v k (lcs (List.replicate k (x1, x2, x3, x4))) ∧ Bl wr (w.heap.size + 1) [.int .i64 d1, .int .i64 d2, .int .i64 d3, .int .i64 d4] ∧ Bl wr (w.heap.size + 1 + 1) [.int .i64 x1, .int .i64 x2, .int .i64 x3, .int .i64 x4] ∧ Keeps w wr) (fun i _ _ => 12 - n - (intOf i).toNat)
    case atStart => exact ⟨0, Nat.zero_le _, rfl, hid rfl, World.ownsRow_nil _ _ _ _, b8, b9, kw⟩
    clear b5 b8 b9 kw
    case round =>
      obtain ⟨k, hk, rfl, HT, hown, b8, b9, kw⟩ := hrel
      by_cases hlt : k < 12 - n
      · have hi1 : (n : Int) + (k : Int) < 12 := by omega
        have lt9 := b9.lt
        have HT1 := hid (show List.replicate (k + 1) (x1, x2, x3, x4) = List.replicate k (x1, x2, x3, x4) ++ [(x1, x2, x3, x4)] from List.replicate_succ')
        have ca7_0 : wr.cell? ⟨w.heap.size + 1, 0, none⟩ = some (.int .i64 d1) := (b8.2 0 _ rfl).1
        have fa7_0 : wr.frozen? ⟨w.heap.size + 1, 0, none⟩ = false := (b8.2 0 _ rfl).2
        have ca7_1 : wr.cell? ⟨w.heap.size + 1, 1, none⟩ = some (.int .i64 d2) := (b8.2 1 _ rfl).1
        have fa7_1 : wr.frozen? ⟨w.heap.size + 1, 1, none⟩ = false := (b8.2 1 _ rfl).2
        have ca7_2 : wr.cell? ⟨w.heap.size + 1, 2, none⟩ = some (.int .i64 d3) := (b8.2 2 _ rfl).1
        have fa7_2 : wr.frozen? ⟨w.heap.size + 1, 2, none⟩ = false := (b8.2 2 _ rfl).2
        have ca7_3 : wr.cell? ⟨w.heap.size + 1, 3, none⟩ = some (.int .i64 d4) := (b8.2 3 _ rfl).1
        have fa7_3 : wr.frozen? ⟨w.heap.size + 1, 3, none⟩ = false := (b8.2 3 _ rfl).2
        have ca8_0 : wr.cell? ⟨w.heap.size + 1 + 1, 0, none⟩ = some (.int .i64 x1) := (b9.2 0 _ rfl).1
        have fa8_0 : wr.frozen? ⟨w.heap.size + 1 + 1, 0, none⟩ = false := (b9.2 0 _ rfl).2
        have ca8_1 : wr.cell? ⟨w.heap.size + 1 + 1, 1, none⟩ = some (.int .i64 x2) := (b9.2 1 _ rfl).1
        have fa8_1 : wr.frozen? ⟨w.heap.size + 1 + 1, 1, none⟩ = false := (b9.2 1 _ rfl).2
        have ca8_2 : wr.cell? ⟨w.heap.size + 1 + 1, 2, none⟩ = some (.int .i64 x3) := (b9.2 2 _ rfl).1
        have fa8_2 : wr.frozen? ⟨w.heap.size + 1 + 1, 2, none⟩ = false := (b9.2 2 _ rfl).2
        have ca8_3 : wr.cell? ⟨w.heap.size + 1 + 1, 3, none⟩ = some (.int .i64 x4) := (b9.2 3 _ rfl).1
        have fa8_3 : wr.frozen? ⟨w.heap.size + 1 + 1, 3, none⟩ = false := (b9.2 3 _ rfl).2
        go_wp2_with (at_builtin; refine append_loss (xs := List.replicate k (x1, x2, x3, x4)) hown (by omega) (by omega) _ _ rfl rfl rfl (by first | rfl | (simp <;> rfl)) ?_; intro v' w' hown' hb'; have fm := hown'.form; obtain ⟨A2, C2, e2⟩ := fm; subst e2; have sz' := hb'.size; have q8 := b8.fr (l := w.heap.size + 1 + 1 + 1) (h' := w'.heap.size + w.heap.size + 3) ⟨hb'.os, hb'.tape, hb'.output, hb'.size, fun j h1 h2 => hb'.block j (by omega)⟩ (by omega); have y80 := (q8.2 0 _ rfl).1; have y81 := (q8.2 1 _ rfl).1; have y82 := (q8.2 2 _ rfl).1; have y83 := (q8.2 3 _ rfl).1)
        rw [← HT1.out] at hown'
        have q9 := b9.fr (l := w.heap.size + 1 + 1 + 1) (h' := w'.heap.size + w.heap.size + 3) ⟨hb'.os, hb'.tape, hb'.output, hb'.size, fun j h1 h2 => hb'.block j (by omega)⟩ (by omega)
        clear b8 b9
        have b8 := q8
        have b9 := q9
        replace kw : Keeps w w' := Below.trans kw (hb'.mono (by omega))
        have hmr : More w' A2 (k + 1) C2 (List.replicate (k + 1) (x1, x2, x3, x4)) := own_more hown' (by omega) (by omega)
        clear hown hb' q8 q9 y80 y81 y82 y83
        obtain ⟨z, HZ⟩ : ∃ z, Hid (lfB (d1, d2, d3, d4) (exq (rlLs rs) (x1, x2, x3, x4) (k + 1)) = z) := ⟨_, rfl⟩
        refine (rlFits_any (c := cr) (hr.keeps kw) hmr (by omega) HAB.out.1.2 (by rw [HEX.out (k + 1) (by omega)]; exact HEG.out (k + 1))).mono ?_
        rintro e w9 ⟨rfl, k9⟩
        replace b8 := b8.keeps k9
        replace b9 := b9.keeps k9
        replace hown' := hown'.keeps k9
        replace kw := Keeps.trans kw k9
        have lt10 := b9.lt
        have sz11 := kw.size
        clear k9
        clear hmr
        rw [HEX.out (k + 1) (by omega), HZ.out]
        cases z
        · have HF := hid (cn_no HT.out HZ.out hlt)
          obtain rfl : q0 = (k : Int) := by rw [HE.out, HF.out]
          go_wp2_with fail
          go_ret2
          exact ⟨rfl, kw⟩
        have HN := hid (cn_yes HT.out HZ.out)
        go_wp2_with fail
        go_roundw
        case rel => exact ⟨k + 1, by omega, by go_num, HN, hown', b8, b9, kw⟩
        case measure => simp [intOf]; omega
      · obtain rfl : k = 12 - n := by omega
        have HQ9 := hid (show q0 = ((12 - n : Nat) : Int) by rw [HE.out, HT.out])
        have hi1 : ¬ ((n : Int) + ((12 - n : Nat) : Int) < 12) := by omega
        have hk12 : 12 - n ≤ 12 := by omega
        obtain ⟨K, hK⟩ : ∃ K, 12 - n = K := ⟨_, rfl⟩
        have HKK := hid hK
        rw [hK] at hi1 hk12 ⊢
        clear hK
        go_wp2
        go_ret2
        exact ⟨by rw [HQ9.out, HKK.out]; rfl, kw⟩
end Go.Proofs.YtohjkpopbmmliaaGreat
namespace Go.Proofs.YtohjkpopbmmliaaGreat
open Go.RowKit
set_option linter.unusedVariables false
set_option linter.unusedSimpArgs false
/-- The slice (A, n) reads as bytes, in blocks below hi. -/
def Bytes (w : World) (hi : Nat) (A : Option Addr) (n : Nat) : Prop :=
  n ≤ 9223372036854775807 ∧ hi ≤ w.heap.size ∧ (0 < n → ∃ b off, A = some ⟨b, off, none⟩ ∧ b < hi ∧ ∀ j, j < n → ∃ x : Int, 0 ≤ x ∧ x ≤ 255 ∧ w.cell? ⟨b, off + j, none⟩ = some (.int .u8 x))
theorem Bytes.fr {w w' : World} {hi n l h' : Nat} {A : Option Addr} (h : Bytes w hi A n) (hf : Fr l h' w w') (ho : hi ≤ l ∨ h' ≤ l) : Bytes w' hi A n :=
  ⟨h.1, Nat.le_trans h.2.1 hf.size, fun hn => by
    obtain ⟨b, off, e, hb, hc⟩ := h.2.2 hn
    refine ⟨b, off, e, hb, fun j hj => ?_⟩
    obtain ⟨x, h0, h1, h2⟩ := hc j hj
    have := h.2.1
    exact ⟨x, h0, h1, (hf.cell (p := ⟨b, off + j, none⟩) (by show b < _; omega) (by show b < _ ∨ _ ≤ b; omega)).trans h2⟩⟩
theorem Bytes.keeps {w w' : World} {hi n : Nat} {A : Option Addr} (h : Bytes w hi A n) (k : Keeps w w') : Bytes w' hi A n := h.fr (Fr.of_keeps k 0 0) (by omega)
/-- A cursor in block g that has drawn at most T times. -/
structure Cur (w : World) (g : Nat) (T : Int) : Prop where
  ex : ∃ (A : Option Addr) (n c : Nat) (k s : Int), Bytes w g A n ∧ w.cell? ⟨g, 0, none⟩ = some (.slice A n c) ∧ w.cell? ⟨g, 1, none⟩ = some (.int .i64 k) ∧ w.cell? ⟨g, 2, none⟩ = some (.int .u64 s) ∧
    w.frozen? ⟨g, 1, none⟩ = false ∧ w.frozen? ⟨g, 2, none⟩ = false ∧ (0 ≤ k ∧ k ≤ T) ∧ (0 ≤ s ∧ s ≤ 18446744073709551615)
theorem Cur.lt {w : World} {g : Nat} {T : Int} (h : Cur w g T) : g < w.heap.size := by
  obtain ⟨A, n, c, k, s, _, h1, _⟩ := h; exact World.block_lt_of_cell? w _ h1
theorem Cur.fr {w w' : World} {g l h' : Nat} {T : Int} (h : Cur w g T) (hf : Fr l h' w w') (ho : g < l ∨ (h' ≤ g ∧ h' ≤ l)) : Cur w' g T := by
  have hl := h.lt
  obtain ⟨A, n, c, k, s, h0, h1, h2, h3, h4, h5, h6, h7⟩ := h
  have e := hf.block g hl (by omega)
  exact ⟨A, n, c, k, s, h0.fr hf (by omega), (World.cell?_of_block (w := w) e).trans h1, (World.cell?_of_block (w := w) e).trans h2, (World.cell?_of_block (w := w) e).trans h3, (World.frozen?_of_block (w := w) e).trans h4, (World.frozen?_of_block (w := w) e).trans h5, h6, h7⟩
theorem Cur.keeps {w w' : World} {g : Nat} {T : Int} (h : Cur w g T) (k : Keeps w w') : Cur w' g T := h.fr (Fr.of_keeps k 0 0) (by omega)
theorem Cur.mono {w : World} {g : Nat} {T T' : Int} (h : Cur w g T) (hT : T ≤ T') : Cur w g T' := by
  obtain ⟨A, n, c, k, s, h0, h1, h2, h3, h4, h5, h6, h7⟩ := h
  exact ⟨A, n, c, k, s, h0, h1, h2, h3, h4, h5, by omega, h7⟩
theorem u64_wrap_bd (v : Int) : 0 ≤ IntKind.u64.wrap v ∧ IntKind.u64.wrap v ≤ 18446744073709551615 := by rw [IntKind.wrap_u64]; omega
theorem and255 (E : Int) (h0 : 0 ≤ E ∧ E ≤ 18446744073709551615) : 0 ≤ wrap64 (bits BinOp.and IntKind.u64 (E / 1099511627776) 255) ∧ wrap64 (bits BinOp.and IntKind.u64 (E / 1099511627776) 255) ≤ 255 := by
  have h := bits_and_u64_nat (E / 1099511627776).toNat 255 (by omega) (by omega)
  rw [Int.toNat_of_nonneg (by omega)] at h
  have h2 : (E / 1099511627776).toNat &&& 255 ≤ 255 := Nat.and_le_right
  have h3 : bits BinOp.and IntKind.u64 (E / 1099511627776) 255 = (((E / 1099511627776).toNat &&& 255 : Nat) : Int) := h
  rw [h3]
  unfold wrap64
  omega
/-- Behind a step of the cursor. -/
theorem Cur.step {w : World} {g n c : Nat} {A : Option Addr} {T k s : Int} (h0 : Bytes w g A n) (h1 : w.cell? ⟨g, 0, none⟩ = some (.slice A n c)) (h2 : w.cell? ⟨g, 1, none⟩ = some (.int .i64 k)) (h3 : w.cell? ⟨g, 2, none⟩ = some (.int .u64 s))
    (h4 : w.frozen? ⟨g, 1, none⟩ = false) (h5 : w.frozen? ⟨g, 2, none⟩ = false) (h6 : 0 ≤ k ∧ k ≤ T) (a b : Nat) (s' : Int) (hs : 0 ≤ s' ∧ s' ≤ 18446744073709551615) :
    Cur ((((w.drewN a).setCell ⟨g, 1, none⟩ (.int .i64 (k + 1))).setCell ⟨g, 2, none⟩ (.int .u64 s')).drewN b) g (T + 1) ∧ Fr g (g + 1) w ((((w.drewN a).setCell ⟨g, 1, none⟩ (.int .i64 (k + 1))).setCell ⟨g, 2, none⟩ (.int .u64 s')).drewN b) := by
  have hf : Fr g (g + 1) w (((w.drewN a).setCell ⟨g, 1, none⟩ (.int .i64 (k + 1))).setCell ⟨g, 2, none⟩ (.int .u64 s')) := (((Fr.refl _ _ _).drewN a).setCell (p := ⟨g, 1, none⟩) (Nat.le_refl _) (Nat.lt_succ_self _) _).setCell (p := ⟨g, 2, none⟩) (Nat.le_refl _) (Nat.lt_succ_self _) _
  have hC : Cur (((w.drewN a).setCell ⟨g, 1, none⟩ (.int .i64 (k + 1))).setCell ⟨g, 2, none⟩ (.int .u64 s')) g (T + 1) := by
    refine ⟨A, n, c, k + 1, s', h0.fr hf (.inl (Nat.le_refl _)), ?_, ?_, ?_, by simpa using h4, by simpa using h5, by omega, hs⟩
    · rw [World.cell?_setCell_other _ _ _ _ (by simp), World.cell?_setCell_other _ _ _ _ (by simp)]; exact h1
    · rw [World.cell?_setCell_other _ _ _ _ (by simp)]; exact World.cell?_setCell_same _ _ _ (show (w.drewN a).cell? _ = _ from h2)
    · exact World.cell?_setCell_same _ _ _ ((World.cell?_setCell_other _ _ _ _ (by simp)).trans (show (w.drewN a).cell? _ = _ from h3))
  exact ⟨hC.keeps (Keeps.drewN _ b), hf.drewN b⟩
set_option maxRecDepth 100000 in
set_option maxHeartbeats 1600000 in
theorem next_any {g : Nat} {T : Int} {w : World} (h : Cur w g T) (hT : T ≤ 1000000000000000) :
    Calls Tryz.prog 172 #[.pointer (some ⟨g, 0, none⟩)] w fun e w' => ∃ x, e = .returned (.int .i64 x) ∧ (0 ≤ x ∧ x ≤ 255) ∧ Cur w' g (T + 1) ∧ Fr g (g + 1) w w' := by
  obtain ⟨A, n, c, k, s, h0, h1, h2, h3, h4, h5, ⟨k0, k1⟩, h7⟩ := h
  have hn := h0.1
  by_cases hlt : k < n
  · obtain ⟨j, rfl⟩ : ∃ j : Nat, k = j := ⟨k.toNat, by omega⟩
    obtain ⟨b, off, rfl, hb, hc⟩ := h0.2.2 (by omega)
    obtain ⟨x, x0, x1, hx⟩ := hc j (by omega)
    have hst := hid (Cur.step (T := T) h0 h1 h2 h3 h4 h5 ⟨k0, k1⟩)
    have hle : (j : Int) + 1 ≤ (n : Int) := by omega
    go_enter Tryz.func172, Tryz.ntmps172
    go_wp2_with fail
    go_quiet (fail)
    go_wp2_with fail
    go_quiet (fail)
    go_wp2_with fail
    go_quiet (fail)
    go_wp2
    go_ret
    exact ⟨x, rfl, ⟨x0, x1⟩, (hst.out _ _ _ (u64_wrap_bd _)).1, (hst.out _ _ _ (u64_wrap_bd _)).2⟩
  · have hst := hid (Cur.step (T := T) h0 h1 h2 h3 h4 h5 ⟨k0, k1⟩)
    have hle : ¬ (k + 1 ≤ (n : Int)) := by omega
    go_enter Tryz.func172, Tryz.ntmps172
    go_wp2_with fail
    go_quiet (fail)
    go_wp2_with fail
    go_quiet (fail)
    go_wp2
    go_ret
    exact ⟨_, rfl, and255 _ (u64_wrap_bd _), (hst.out _ _ _ (u64_wrap_bd _)).1, (hst.out _ _ _ (u64_wrap_bd _)).2⟩
set_option maxRecDepth 100000 in
set_option maxHeartbeats 1600000 in
theorem pick_any {g : Nat} {T n : Int} {w : World} (h : Cur w g T) (hT : T ≤ 999999999999999) (hn : n ≤ 65536) :
    Calls Tryz.prog 134 #[.pointer (some ⟨g, 0, none⟩), .int .i64 n] w fun e w' => ∃ x, e = .returned (.int .i64 x) ∧ (0 ≤ x ∧ (x < n ∨ n ≤ 1 ∧ x = 0)) ∧ Cur w' g (T + 2) ∧ Fr g (g + 1) w w' := by
  by_cases h1 : n ≤ 1
  · go_enter Tryz.func134, Tryz.ntmps134
    go_wp2
    go_ret
    exact ⟨0, rfl, by omega, h.mono (by omega), Fr.refl _ _ _⟩
  · have hn0 : ¬ n = 0 := by omega
    have HM := hid (fun (y : Int) (hy : 0 ≤ y) => (show 0 ≤ y % n ∧ y % n < n from ⟨Int.emod_nonneg _ (by omega), Int.emod_lt_of_pos _ (by omega)⟩))
    by_cases h2 : 200 < n
    · go_enter Tryz.func134, Tryz.ntmps134
      go_wp2_with fail
      refine (next_any h (by omega)).mono ?_
      rintro e w1 ⟨x, rfl, ⟨x0, x1⟩, hc, hf⟩
      go_wp2_with fail
      refine (next_any hc (by omega)).mono ?_
      rintro e w2 ⟨y, rfl, ⟨y0, y1⟩, hc2, hf2⟩
      have hm := HM.out (x * 256 + y) (by omega)
      go_wp2
      go_ret
      exact ⟨_, rfl, by omega, hc2.mono (by omega), hf.trans hf2⟩
    · go_enter Tryz.func134, Tryz.ntmps134
      go_wp2_with fail
      refine (next_any h (by omega)).mono ?_
      rintro e w1 ⟨x, rfl, ⟨x0, x1⟩, hc, hf⟩
      have hm := HM.out x (by omega)
      go_wp2
      go_ret
      exact ⟨_, rfl, by omega, hc.mono (by omega), hf⟩
set_option maxHeartbeats 1600000 in
theorem one_any {g : Nat} {T n : Int} {w : World} (h : Cur w g T) (hT : T ≤ 999999999999999) (hn : n ≤ 65536) :
    Calls Tryz.prog 111 #[.pointer (some ⟨g, 0, none⟩), .int .i64 n] w fun e w' => ∃ b, e = .returned (.bool b) ∧ Cur w' g (T + 2) ∧ Fr g (g + 1) w w' := by
  go_enter Tryz.func111, Tryz.ntmps111
  go_wp2_with fail
  refine (pick_any h hT hn).mono ?_
  rintro e w1 ⟨x, rfl, _, hc, hf⟩
  go_wp2
  go_ret
  exact ⟨_, rfl, hc, hf⟩
set_option maxHeartbeats 1600000 in
theorem among_any {g : Nat} {T : Int} {lo hi n c : Nat} {A : Option Addr} {xs : List Int} {w : World} (h : Cur w g T) (hT : T ≤ 999999999999999) (hx : Ints w lo hi A n xs) (hg : g < lo) (h0 : 0 < n) (hn : n ≤ 65536) :
    Calls Tryz.prog 114 #[.pointer (some ⟨g, 0, none⟩), .slice A n c] w fun e w' => ∃ x j, e = .returned (.int .i64 x) ∧ j < n ∧ x = xs.getD j 0 ∧ Cur w' g (T + 2) ∧ Fr g (g + 1) w w' := by
  go_enter Tryz.func114, Tryz.ntmps114
  go_wp2_with fail
  refine (pick_any h hT (by omega)).mono ?_
  rintro e w1 ⟨y, rfl, hy, hc, hf⟩
  obtain ⟨j, rfl⟩ : ∃ j : Nat, y = j := ⟨y.toNat, by omega⟩
  have hj : j < n := by omega
  have hj1 : (j : Int) < (n : Int) := by omega
  obtain ⟨b, off, x, rfl, _, _, hcx, hxx⟩ := (hx.fr hf (by omega)).at_ hj
  go_wp2
  go_ret
  exact ⟨x, j, rfl, hj, hxx.out, hc, hf⟩
end Go.Proofs.YtohjkpopbmmliaaGreat
namespace Go.Proofs.YtohjkpopbmmliaaGreat
open Go.RowKit
set_option linter.unusedVariables false
set_option linter.unusedSimpArgs false
theorem Fr.setNew {lo hi : Nat} {a w : World} (h : Fr lo hi a w) {p : Addr} (hp : a.heap.size ≤ p.block) (u : Value) : Fr lo hi a (w.setCell p u) :=
  ⟨h.os, h.tape, h.output, Nat.le_trans h.size (by simp [World.setCell]), fun k hk ho => by rw [Below.heap_setCell _ _ _ _ (by omega)]; exact h.block k hk ho⟩
theorem Fr.keeps {lo hi : Nat} {a b c : World} (h : Fr lo hi a b) (k : Keeps b c) : Fr lo hi a c := h.trans (Fr.of_keeps k lo hi)
/-- A literal slice of ints. -/
theorem lit_ints (w : World) (xs : List Int) (hn : xs.length ≤ 67108864) : Ints (w.alloc (.cells (xs.map (Value.int .i64)).toArray 3)) w.heap.size (w.heap.size + 1) (some ⟨w.heap.size, 0, none⟩) xs.length xs := by
  have ho : Own (w.alloc (.cells (xs.map (Value.int .i64)).toArray 3)) w.heap.size xs := heap_alloc_new w _
  exact (ho.mine rfl hn (Nat.le_refl _) (Nat.lt_succ_self _) (by simp)).1
/-- A pair of numbers that are not great. -/
def Sm (p q : Int) : Prop := (-2000000000 ≤ p ∧ p ≤ 2000000000) ∧ (-2000000000 ≤ q ∧ q ≤ 2000000000)
theorem mkF_sm (n d : Int) : Sm (mkF n d).1 (mkF n d).2.1 := by have := mkF_qb n d; unfold QB at this; unfold Sm; omega
/-- What a drawing function that hands back a fraction leaves. -/
def DrawsQ (w : World) (g : Nat) (T : Int) (e : Ending) (w' : World) : Prop := ∃ p q, e = .returned (.agg #[.int .i64 p, .int .i64 q]) ∧ Sm p q ∧ Cur w' g T ∧ Fr g (g + 1) w w'
set_option maxRecDepth 100000 in
set_option maxHeartbeats 1600000 in
theorem frac_any {g : Nat} {T : Int} {w : World} (h : Cur w g T) (hT : T ≤ 990000000000000) :
    Calls Tryz.prog 188 #[.pointer (some ⟨g, 0, none⟩)] w (DrawsQ w g (T + 4)) := by
  have lg := h.lt
  go_enter Tryz.func188, Tryz.ntmps188
  have f : Fr g (g + 1) w w := Fr.refl _ _ _
  have hc := h
  replace f := f.keeps (keeps_alloc w (.cells #[.int .i64 0, .int .i64 0] 30))
  replace hc := hc.keeps (keeps_alloc w (.cells #[.int .i64 0, .int .i64 0] 30))
  have b2 : Bx (w.alloc (.cells #[.int .i64 0, .int .i64 0] 30)) w.heap.size 0 0 := Bx.new' (by simp)
  go_wp2_with fail
  refine (pick_any hc (by omega) (by omega)).mono ?_
  rintro e w1 ⟨x, rfl, hx, hn, ff⟩
  replace f := f.trans ff
  clear hc
  have hc := hn
  replace b2 := b2.fr ff (by first | omega | (simp; omega))
  clear ff hn
  have sz1 := f.size
  have lt1 := b2.lt
  go_wp2_with fail
  refine (pick_any hc (by omega) (by omega)).mono ?_
  rintro e w2 ⟨y, rfl, hy, hn, ff⟩
  replace f := f.trans ff
  clear hc
  have hc := hn
  replace b2 := b2.fr ff (by first | omega | (simp; omega))
  clear ff hn
  have sz2 := f.size
  have lt2 := b2.lt
  go_wp2_with fail
  obtain ⟨r1, r2, r3, HS⟩ : ∃ r1 r2 r3, Hid (mkF (x - 20) (1 + y) = (r1, r2, r3)) := ⟨_, _, _, rfl⟩
  have hsm := mkF_sm (x - 20) (1 + y)
  rw [HS.out] at hsm
  refine (fMake_any (n := x - 20) (d := 1 + y) (by omega) (by omega)).mono ?_
  rintro e w3 ⟨rfl, kk⟩
  replace f := f.keeps kk
  replace hc := hc.keeps kk
  replace b2 := b2.keeps kk
  clear kk
  have sz3 := f.size
  have lt3 := b2.lt
  rw [HS.out]
  replace f := f.keeps (keeps_alloc w3 (.cells #[.int .i64 r1, .int .i64 r2] 30))
  replace hc := hc.keeps (keeps_alloc w3 (.cells #[.int .i64 r1, .int .i64 r2] 30))
  replace b2 := b2.keeps (keeps_alloc w3 (.cells #[.int .i64 r1, .int .i64 r2] 30))
  have b3 : Bx (w3.alloc (.cells #[.int .i64 r1, .int .i64 r2] 30)) w3.heap.size r1 r2 := Bx.new' (by simp)
  obtain ⟨ca4, cb4, fa4, fb4⟩ := id b2
  obtain ⟨ca5, cb5, fa5, fb5⟩ := id b3
  replace f := (f.setNew (p := ⟨w.heap.size, 0, none⟩) (by show _ ≤ w.heap.size; omega) (.int .i64 r1)).setNew (p := ⟨w.heap.size, 1, none⟩) (by show _ ≤ w.heap.size; omega) (.int .i64 r2)
  replace hc := hc.fr (fr_set2 (p := w.heap.size) (.int .i64 r1) (.int .i64 r2)) (by omega)
  replace b3 := b3.set2 (p := w.heap.size) (by omega) (.int .i64 r1) (.int .i64 r2)
  replace b2 := b2.set r1 r2
  clear lt3
  go_wp2_with fail
  clear ca4 cb4 fa4 fb4 ca5 cb5 fa5 fb5
  obtain ⟨ca0, cb0, -, -⟩ := id b2
  exact bodyPost_ret (v := .agg #[.int .i64 r1, .int .i64 r2]) (by simp [results, Tryz.results188, go_sem, ca0, cb0]) rfl ⟨_, _, rfl, hsm, hc.mono (by omega), f⟩
theorem among_small {xs : List Int} {j : Nat} (h : ∀ x, x ∈ xs → -2000000000 ≤ x ∧ x ≤ 2000000000) (hj : j < xs.length) : -2000000000 ≤ xs.getD j 0 ∧ xs.getD j 0 ≤ 2000000000 := by
  have e : xs.getD j 0 = xs[j] := by simp [List.getD, hj]
  rw [e]; exact h _ (List.getElem_mem hj)
set_option maxRecDepth 100000 in
set_option maxHeartbeats 3200000 in
theorem anyFrac_any {g : Nat} {T : Int} {w : World} (h : Cur w g T) (hT : T ≤ 900000000000000) :
    Calls Tryz.prog 154 #[.pointer (some ⟨g, 0, none⟩)] w (DrawsQ w g (T + 10)) := by
  have lg := h.lt
  go_enter Tryz.func154, Tryz.ntmps154
  have f : Fr g (g + 1) w w := Fr.refl _ _ _
  have hc := h
  replace f := f.keeps (keeps_alloc w (.cells #[.int .i64 0, .int .i64 0] 30))
  replace hc := hc.keeps (keeps_alloc w (.cells #[.int .i64 0, .int .i64 0] 30))
  have b2 : Bx (w.alloc (.cells #[.int .i64 0, .int .i64 0] 30)) w.heap.size 0 0 := Bx.new' (by simp)
  go_wp2_with fail
  refine (pick_any hc (by omega) (by omega)).mono ?_
  rintro e w1 ⟨v, rfl, hv, hn, ff⟩
  replace f := f.trans ff
  clear hc
  have hc := hn
  replace b2 := b2.fr ff (by first | omega | (simp; omega))
  clear ff hn
  have sz1 := f.size
  have lt1 := b2.lt
  by_cases h0 : v = 0
  · subst h0
    clear hv
    have Lx : Ints (w1.alloc (.cells #[.int .i64 1000000000, .int .i64 (-1000000000), .int .i64 999999999, .int .i64 1000000001] 3)) w1.heap.size (w1.heap.size + 1) (some ⟨w1.heap.size, 0, none⟩) 4 [1000000000, -1000000000, 999999999, 1000000001] := lit_ints w1 [1000000000, -1000000000, 999999999, 1000000001] (by decide)
    replace f := f.keeps (keeps_alloc w1 (.cells #[.int .i64 1000000000, .int .i64 (-1000000000), .int .i64 999999999, .int .i64 1000000001] 3))
    replace hc := hc.keeps (keeps_alloc w1 (.cells #[.int .i64 1000000000, .int .i64 (-1000000000), .int .i64 999999999, .int .i64 1000000001] 3))
    replace b2 := b2.keeps (keeps_alloc w1 (.cells #[.int .i64 1000000000, .int .i64 (-1000000000), .int .i64 999999999, .int .i64 1000000001] 3))
    go_wp2_with fail
    refine (among_any hc (by omega) Lx (by first | omega | (simp; omega)) (by omega) (by omega)).mono ?_
    rintro e w2 ⟨x, xj, rfl, xh, xe, hn, ff⟩
    replace f := f.trans ff
    clear hc
    have hc := hn
    replace b2 := b2.fr ff (by first | omega | (simp; omega))
    clear ff hn
    have sz2 := f.size
    have lt2 := b2.lt
    have xb := among_small (xs := [1000000000, -1000000000, 999999999, 1000000001]) (j := xj) (by decide) (by simpa using xh)
    rw [← xe] at xb
    clear Lx xe
    have Ly : Ints (w2.alloc (.cells #[.int .i64 1, .int .i64 7, .int .i64 999999999, .int .i64 999999937] 3)) w2.heap.size (w2.heap.size + 1) (some ⟨w2.heap.size, 0, none⟩) 4 [1, 7, 999999999, 999999937] := lit_ints w2 [1, 7, 999999999, 999999937] (by decide)
    replace f := f.keeps (keeps_alloc w2 (.cells #[.int .i64 1, .int .i64 7, .int .i64 999999999, .int .i64 999999937] 3))
    replace hc := hc.keeps (keeps_alloc w2 (.cells #[.int .i64 1, .int .i64 7, .int .i64 999999999, .int .i64 999999937] 3))
    replace b2 := b2.keeps (keeps_alloc w2 (.cells #[.int .i64 1, .int .i64 7, .int .i64 999999999, .int .i64 999999937] 3))
    go_wp2_with fail
    refine (among_any hc (by omega) Ly (by first | omega | (simp; omega)) (by omega) (by omega)).mono ?_
    rintro e w3 ⟨y, yj, rfl, yh, ye, hn, ff⟩
    replace f := f.trans ff
    clear hc
    have hc := hn
    replace b2 := b2.fr ff (by first | omega | (simp; omega))
    clear ff hn
    have sz3 := f.size
    have lt3 := b2.lt
    have yb := among_small (xs := [1, 7, 999999999, 999999937]) (j := yj) (by decide) (by simpa using yh)
    rw [← ye] at yb
    clear Ly ye
    have hsm : Sm x y := by unfold Sm; omega
    obtain ⟨ca4, cb4, fa4, fb4⟩ := id b2
    replace f := (f.setNew (p := ⟨w.heap.size, 0, none⟩) (by show _ ≤ w.heap.size; omega) (.int .i64 x)).setNew (p := ⟨w.heap.size, 1, none⟩) (by show _ ≤ w.heap.size; omega) (.int .i64 y)
    replace hc := hc.fr (fr_set2 (p := w.heap.size) (.int .i64 x) (.int .i64 y)) (by omega)
    replace b2 := b2.set x y
    go_wp2_with fail
    clear ca4 cb4 fa4 fb4
    obtain ⟨ca0, cb0, -, -⟩ := id b2
    exact bodyPost_ret (v := .agg #[.int .i64 x, .int .i64 y]) (by simp [results, Tryz.results154, go_sem, ca0, cb0]) rfl ⟨_, _, rfl, hsm, hc.mono (by omega), f⟩
  have t0 : (v == 0) = false := by rw [beq_eq_false_iff_ne]; exact h0
  by_cases h1 : v = 1
  · subst h1
    clear hv t0 h0
    go_wp2_with fail
    refine (pick_any hc (by omega) (by omega)).mono ?_
    rintro e w2 ⟨x, rfl, hx, hn, ff⟩
    replace f := f.trans ff
    clear hc
    have hc := hn
    replace b2 := b2.fr ff (by first | omega | (simp; omega))
    clear ff hn
    have sz2 := f.size
    have lt2 := b2.lt
    go_wp2_with fail
    refine (pick_any hc (by omega) (by omega)).mono ?_
    rintro e w3 ⟨y, rfl, hy, hn, ff⟩
    replace f := f.trans ff
    clear hc
    have hc := hn
    replace b2 := b2.fr ff (by first | omega | (simp; omega))
    clear ff hn
    have sz3 := f.size
    have lt3 := b2.lt
    have hsm : Sm (x - 4) (y - 1) := by unfold Sm; omega
    obtain ⟨ca4, cb4, fa4, fb4⟩ := id b2
    replace f := (f.setNew (p := ⟨w.heap.size, 0, none⟩) (by show _ ≤ w.heap.size; omega) (.int .i64 (x - 4))).setNew (p := ⟨w.heap.size, 1, none⟩) (by show _ ≤ w.heap.size; omega) (.int .i64 (y - 1))
    replace hc := hc.fr (fr_set2 (p := w.heap.size) (.int .i64 (x - 4)) (.int .i64 (y - 1))) (by omega)
    replace b2 := b2.set (x - 4) (y - 1)
    go_wp2_with fail
    clear ca4 cb4 fa4 fb4
    obtain ⟨ca0, cb0, -, -⟩ := id b2
    exact bodyPost_ret (v := .agg #[.int .i64 (x - 4), .int .i64 (y - 1)]) (by simp [results, Tryz.results154, go_sem, ca0, cb0]) rfl ⟨_, _, rfl, hsm, hc.mono (by omega), f⟩
  have t1 : (v == 1) = false := by rw [beq_eq_false_iff_ne]; exact h1
  by_cases h2 : v = 2
  · subst h2
    clear hv t0 h0 t1 h1
    go_wp2_with fail
    refine (pick_any hc (by omega) (by omega)).mono ?_
    rintro e w2 ⟨x, rfl, hx, hn, ff⟩
    replace f := f.trans ff
    clear hc
    have hc := hn
    replace b2 := b2.fr ff (by first | omega | (simp; omega))
    clear ff hn
    have sz2 := f.size
    have lt2 := b2.lt
    have Ly : Ints (w2.alloc (.cells #[.int .i64 1000000000, .int .i64 1000000001, .int .i64 999999937] 3)) w2.heap.size (w2.heap.size + 1) (some ⟨w2.heap.size, 0, none⟩) 3 [1000000000, 1000000001, 999999937] := lit_ints w2 [1000000000, 1000000001, 999999937] (by decide)
    replace f := f.keeps (keeps_alloc w2 (.cells #[.int .i64 1000000000, .int .i64 1000000001, .int .i64 999999937] 3))
    replace hc := hc.keeps (keeps_alloc w2 (.cells #[.int .i64 1000000000, .int .i64 1000000001, .int .i64 999999937] 3))
    replace b2 := b2.keeps (keeps_alloc w2 (.cells #[.int .i64 1000000000, .int .i64 1000000001, .int .i64 999999937] 3))
    go_wp2_with fail
    refine (among_any hc (by omega) Ly (by first | omega | (simp; omega)) (by omega) (by omega)).mono ?_
    rintro e w3 ⟨y, yj, rfl, yh, ye, hn, ff⟩
    replace f := f.trans ff
    clear hc
    have hc := hn
    replace b2 := b2.fr ff (by first | omega | (simp; omega))
    clear ff hn
    have sz3 := f.size
    have lt3 := b2.lt
    have yb := among_small (xs := [1000000000, 1000000001, 999999937]) (j := yj) (by decide) (by simpa using yh)
    rw [← ye] at yb
    clear Ly ye
    have hsm : Sm x y := by unfold Sm; omega
    obtain ⟨ca4, cb4, fa4, fb4⟩ := id b2
    replace f := (f.setNew (p := ⟨w.heap.size, 0, none⟩) (by show _ ≤ w.heap.size; omega) (.int .i64 x)).setNew (p := ⟨w.heap.size, 1, none⟩) (by show _ ≤ w.heap.size; omega) (.int .i64 y)
    replace hc := hc.fr (fr_set2 (p := w.heap.size) (.int .i64 x) (.int .i64 y)) (by omega)
    replace b2 := b2.set x y
    go_wp2_with fail
    clear ca4 cb4 fa4 fb4
    obtain ⟨ca0, cb0, -, -⟩ := id b2
    exact bodyPost_ret (v := .agg #[.int .i64 x, .int .i64 y]) (by simp [results, Tryz.results154, go_sem, ca0, cb0]) rfl ⟨_, _, rfl, hsm, hc.mono (by omega), f⟩
  have t2 : (v == 2) = false := by rw [beq_eq_false_iff_ne]; exact h2
  go_wp2_with fail
  refine (frac_any hc (by omega)).mono ?_
  rintro e w2 ⟨x, y, rfl, hsm, hn, ff⟩
  replace f := f.trans ff
  clear hc
  have hc := hn
  replace b2 := b2.fr ff (by first | omega | (simp; omega))
  clear ff hn
  have sz2 := f.size
  have lt2 := b2.lt
  obtain ⟨ca3, cb3, fa3, fb3⟩ := id b2
  replace f := (f.setNew (p := ⟨w.heap.size, 0, none⟩) (by show _ ≤ w.heap.size; omega) (.int .i64 x)).setNew (p := ⟨w.heap.size, 1, none⟩) (by show _ ≤ w.heap.size; omega) (.int .i64 y)
  replace hc := hc.fr (fr_set2 (p := w.heap.size) (.int .i64 x) (.int .i64 y)) (by omega)
  replace b2 := b2.set x y
  go_wp2_with fail
  clear ca3 cb3 fa3 fb3
  obtain ⟨ca0, cb0, -, -⟩ := id b2
  exact bodyPost_ret (v := .agg #[.int .i64 x, .int .i64 y]) (by simp [results, Tryz.results154, go_sem, ca0, cb0]) rfl ⟨_, _, rfl, hsm, hc.mono (by omega), f⟩
theorem Cur.new {w : World} {hi n c : Nat} {A : Option Addr} {t : TypeId} (h : Bytes w hi A n) : Cur (w.alloc (.cells #[.slice A n c, .int .i64 0, .int .u64 0] t)) w.heap.size 0 := by
  have hb : Bytes w w.heap.size A n := ⟨h.1, Nat.le_refl _, fun hn => by obtain ⟨b, off, e, h1, h2⟩ := h.2.2 hn; exact ⟨b, off, e, Nat.lt_of_lt_of_le h1 h.2.1, h2⟩⟩
  have hh := heap_alloc_new w (.cells #[.slice A n c, .int .i64 0, .int .u64 0] t)
  have hk : ∀ j v, #[Value.slice A n c, .int .i64 0, .int .u64 0][j]? = some v → (w.alloc (.cells #[.slice A n c, .int .i64 0, .int .u64 0] t)).cell? ⟨w.heap.size, j, none⟩ = some v := fun j v hv => by rw [cell_of_row _ _ j _ _ _ hh]; exact hv
  exact ⟨A, n, c, 0, 0, hb.keeps (keeps_alloc _ _), hk 0 _ rfl, hk 1 _ rfl, hk 2 _ rfl, by simp only [World.frozen?, hh]; simp, by simp only [World.frozen?, hh]; simp, by omega, by omega⟩
end Go.Proofs.YtohjkpopbmmliaaGreat
namespace Go.Proofs.YtohjkpopbmmliaaGreat
open Go.ChangeShapes Go.WideShapes Go.ChangeAt Go.RowKit
set_option linter.unusedVariables false
set_option linter.unusedSimpArgs false
/-- A slice of bytes that came in. -/
def BytesArg (w : World) (A : Option Addr) (n : Nat) : Prop := Bytes w w.heap.size A n
section
variable {H : Type} {enc : TypeId × Value → H} {w : World} {held : Bool}
set_option maxRecDepth 100000 in
theorem open_arg_bytes {r : Reach} {b0 : Nat} {v : Value} {d : DataW H} {p : List MemPlace} (hv : Value.okWide Tryz.prog w r b0 22 v) (h : DataW.Trod enc Tryz.prog w 0 (fun _ => true) held 22 v d p) :
    ∃ A n c, v = .slice A n c ∧ BytesArg w A n := by
  obtain ⟨A, n, c, rfl⟩ := okWide_slice Tryz.underlying22 hv
  obtain ⟨fuel, h⟩ := h
  refine ⟨A, n, c, rfl, ?_⟩
  rcases open_ints Tryz.underlying22 Tryz.underlying5 (by kernel_rfl) h with ⟨hcs, _⟩ | ⟨a, l, c', zs, hcs, _, hl, hm, hz, _, hcell, hwz⟩
  · simp [Value.cells] at hcs
    obtain ⟨rfl, rfl, rfl⟩ := hcs
    exact ⟨by omega, Nat.le_refl _, fun h0 => absurd h0 (by omega)⟩
  · simp [Value.cells] at hcs
    obtain ⟨rfl, rfl, rfl⟩ := hcs
    have hzl : n ≤ zs.length := by simp at hz; omega
    refine ⟨by unfold maxLen at hm; omega, Nat.le_refl _, fun h0 => ?_⟩
    obtain ⟨b, off, spot⟩ := a
    have hc0 := hcell 0 (by omega)
    have hsp : spot = none := by simpa [Addr.add] using World.cell?_spot hc0
    subst hsp
    refine ⟨b, off, rfl, ?_, fun j hj => ?_⟩
    · rcases Nat.lt_or_ge b w.heap.size with h1 | h1
      · exact h1
      · simp [World.cell?, Addr.add, Array.getElem?_eq_none h1] at hc0
    · have := hcell j (by omega)
      rw [Addr.add_lit] at this
      have hmem : zs.getD j 0 ∈ zs := by
        have hj2 : j < zs.length := by omega
        simp only [List.getD, List.getElem?_eq_getElem hj2, Option.getD_some]
        exact List.getElem_mem hj2
      have hb := bounds_u8 (hwz _ hmem)
      exact ⟨_, hb.1, hb.2, this⟩
end
set_option maxHeartbeats 400000 in
theorem sameInts_true {A B : Option Addr} {lo hi lo' hi' n n' c c' : Nat} {xs : List Int} {w : World} (ha : Ints w lo hi A n xs) (hb : Ints w lo' hi' B n' xs) :
    Calls Tryz.prog 139 #[.slice A n c, .slice B n' c'] w fun e w' => e = .returned (.bool true) ∧ Quiet w w' := by
  obtain rfl : n = n' := ha.1.symm.trans hb.1
  have hn := ha.le
  have hl := ha.1
  have hbb : ((n : Int) != n) = false := by simp
  go_enter Tryz.func139, Tryz.ntmps139
  go_wp2_with fail
  go_loopw [13] (fun i wr => ∃ k : Nat, k ≤ n ∧ i = .int .i64 k ∧ Quiet w wr) (fun i _ => n - (intOf i).toNat)
  case atStart => exact ⟨0, Nat.zero_le _, rfl, Quiet.refl _⟩
  case round =>
    obtain ⟨k, hk, rfl, hq⟩ := hrel
    by_cases hlt : k < n
    · obtain ⟨b, off, x, rfl, _, _, hc, hx⟩ := (ha.quiet hq).at_ hlt
      obtain ⟨b', off', x', rfl, _, _, hc', hx'⟩ := (hb.quiet hq).at_ hlt
      obtain rfl : x = x' := hx.out.trans hx'.out.symm
      clear hx hx'
      have hi1 : (k : Int) < (n : Int) := by omega
      have hne : (x != x) = false := by simp
      go_wp2_with fail
      go_quiet (fail)
      go_wp2
      go_roundw
      case rel => exact ⟨k + 1, by omega, by go_num, hq.step _⟩
      case measure => simp [intOf]; omega
    · go_wp2
      go_ret
      exact ⟨rfl, hq⟩
def AnyBool (w : World) (e : Ending) (w' : World) : Prop := ∃ b, e = .returned (.bool b) ∧ w = w'
theorem big_any {A B : Option Addr} {n c n' c' : Nat} {w : World} (h1 : n ≤ 9223372036854775807) (h2 : n' ≤ 9223372036854775807) :
    Calls Tryz.prog 6 #[.slice A n c, .slice B n' c'] w (AnyBool w) := by
  by_cases h : 1048576 < n
  · have g : (1048576 : Int) < (n : Int) := by omega
    go_enter Tryz.func6, Tryz.ntmps6
    go_wp2
    go_ret
    exact ⟨_, rfl, rfl⟩
  · have g : ¬ (1048576 : Int) < (n : Int) := by omega
    have g2 : (n : Int) ≤ 1048576 := by omega
    go_enter Tryz.func6, Tryz.ntmps6
    go_wp2
    go_ret
    exact ⟨_, rfl, rfl⟩
end Go.Proofs.YtohjkpopbmmliaaGreat
namespace Go.Proofs.YtohjkpopbmmliaaGreat
open Go.RowKit Go.Sort
set_option linter.unusedVariables false
set_option linter.unusedSimpArgs false
set_option maxRecDepth 100000 in
set_option maxHeartbeats 1600000 in
theorem pSameTable_true {V H : Option Addr} {n c m d : Nat} {lv sm : Int} {w : World} {V' H' : Option Addr} {c' d' lo hi lo' hi' lo2 hi2 lo3 hi3 : Nat} {xs ys : List Int} (h : Ints w lo hi V n xs) (g : Ints w lo2 hi2 H m ys) (h' : Ints w lo' hi' V' n xs) (g' : Ints w lo3 hi3 H' m ys) :
    Calls Tryz.prog 99 #[.agg #[.int .i64 lv, .slice V n c, .slice H m d, .int .i64 sm], .agg #[.int .i64 lv, .slice V' n c', .slice H' m d', .int .i64 sm]] w fun e w' => e = .returned (.bool true) ∧ Keeps w w' := by
  have e1 : (lv == lv) = true := by simp
  have e2 : (sm == sm) = true := by simp
  go_enter Tryz.func99, Tryz.ntmps99
  have kw := keeps_refl w
  replace kw := Keeps.trans kw (keeps_alloc w (.cells #[.int .i64 lv, .slice V n c, .slice H m d, .int .i64 sm] 120))
  have b2 : Bl (w.alloc (.cells #[.int .i64 lv, .slice V n c, .slice H m d, .int .i64 sm] 120)) w.heap.size [.int .i64 lv, .slice V n c, .slice H m d, .int .i64 sm] := Bl.new' (by simp) (by simp)
  replace b2 := b2.keeps (keeps_alloc (w.alloc (.cells #[.int .i64 lv, .slice V n c, .slice H m d, .int .i64 sm] 120)) (.cells #[.int .i64 lv, .slice V' n c', .slice H' m d', .int .i64 sm] 120))
  replace kw := Keeps.trans kw (keeps_alloc (w.alloc (.cells #[.int .i64 lv, .slice V n c, .slice H m d, .int .i64 sm] 120)) (.cells #[.int .i64 lv, .slice V' n c', .slice H' m d', .int .i64 sm] 120))
  have b3 : Bl ((w.alloc (.cells #[.int .i64 lv, .slice V n c, .slice H m d, .int .i64 sm] 120)).alloc (.cells #[.int .i64 lv, .slice V' n c', .slice H' m d', .int .i64 sm] 120)) (w.heap.size + 1) [.int .i64 lv, .slice V' n c', .slice H' m d', .int .i64 sm] := Bl.new' (by simp) (by simp)
  have ca1_0 : ((w.alloc (.cells #[.int .i64 lv, .slice V n c, .slice H m d, .int .i64 sm] 120)).alloc (.cells #[.int .i64 lv, .slice V' n c', .slice H' m d', .int .i64 sm] 120)).cell? ⟨w.heap.size, 0, none⟩ = some (.int .i64 lv) := (b2.2 0 _ rfl).1
  have ca1_1 : ((w.alloc (.cells #[.int .i64 lv, .slice V n c, .slice H m d, .int .i64 sm] 120)).alloc (.cells #[.int .i64 lv, .slice V' n c', .slice H' m d', .int .i64 sm] 120)).cell? ⟨w.heap.size, 1, none⟩ = some (.slice V n c) := (b2.2 1 _ rfl).1
  have ca1_2 : ((w.alloc (.cells #[.int .i64 lv, .slice V n c, .slice H m d, .int .i64 sm] 120)).alloc (.cells #[.int .i64 lv, .slice V' n c', .slice H' m d', .int .i64 sm] 120)).cell? ⟨w.heap.size, 2, none⟩ = some (.slice H m d) := (b2.2 2 _ rfl).1
  have ca1_3 : ((w.alloc (.cells #[.int .i64 lv, .slice V n c, .slice H m d, .int .i64 sm] 120)).alloc (.cells #[.int .i64 lv, .slice V' n c', .slice H' m d', .int .i64 sm] 120)).cell? ⟨w.heap.size, 3, none⟩ = some (.int .i64 sm) := (b2.2 3 _ rfl).1
  have ca2_0 : ((w.alloc (.cells #[.int .i64 lv, .slice V n c, .slice H m d, .int .i64 sm] 120)).alloc (.cells #[.int .i64 lv, .slice V' n c', .slice H' m d', .int .i64 sm] 120)).cell? ⟨w.heap.size + 1, 0, none⟩ = some (.int .i64 lv) := (b3.2 0 _ rfl).1
  have ca2_1 : ((w.alloc (.cells #[.int .i64 lv, .slice V n c, .slice H m d, .int .i64 sm] 120)).alloc (.cells #[.int .i64 lv, .slice V' n c', .slice H' m d', .int .i64 sm] 120)).cell? ⟨w.heap.size + 1, 1, none⟩ = some (.slice V' n c') := (b3.2 1 _ rfl).1
  have ca2_2 : ((w.alloc (.cells #[.int .i64 lv, .slice V n c, .slice H m d, .int .i64 sm] 120)).alloc (.cells #[.int .i64 lv, .slice V' n c', .slice H' m d', .int .i64 sm] 120)).cell? ⟨w.heap.size + 1, 2, none⟩ = some (.slice H' m d') := (b3.2 2 _ rfl).1
  have ca2_3 : ((w.alloc (.cells #[.int .i64 lv, .slice V n c, .slice H m d, .int .i64 sm] 120)).alloc (.cells #[.int .i64 lv, .slice V' n c', .slice H' m d', .int .i64 sm] 120)).cell? ⟨w.heap.size + 1, 3, none⟩ = some (.int .i64 sm) := (b3.2 3 _ rfl).1
  go_wp2_with fail
  clear ca1_0 ca1_1 ca1_2 ca1_3 ca2_0 ca2_1 ca2_2 ca2_3
  refine (sameInts_true (h.keeps kw) (h'.keeps kw)).mono ?_
  rintro e w3 ⟨rfl, k3⟩
  replace k3 := Quiet.keeps k3
  replace b2 := b2.keeps k3
  replace b3 := b3.keeps k3
  replace kw := Keeps.trans kw k3
  have lt4 := b3.lt
  have sz5 := kw.size
  clear k3
  have ca6_0 : w3.cell? ⟨w.heap.size, 0, none⟩ = some (.int .i64 lv) := (b2.2 0 _ rfl).1
  have ca6_1 : w3.cell? ⟨w.heap.size, 1, none⟩ = some (.slice V n c) := (b2.2 1 _ rfl).1
  have ca6_2 : w3.cell? ⟨w.heap.size, 2, none⟩ = some (.slice H m d) := (b2.2 2 _ rfl).1
  have ca6_3 : w3.cell? ⟨w.heap.size, 3, none⟩ = some (.int .i64 sm) := (b2.2 3 _ rfl).1
  have ca7_0 : w3.cell? ⟨w.heap.size + 1, 0, none⟩ = some (.int .i64 lv) := (b3.2 0 _ rfl).1
  have ca7_1 : w3.cell? ⟨w.heap.size + 1, 1, none⟩ = some (.slice V' n c') := (b3.2 1 _ rfl).1
  have ca7_2 : w3.cell? ⟨w.heap.size + 1, 2, none⟩ = some (.slice H' m d') := (b3.2 2 _ rfl).1
  have ca7_3 : w3.cell? ⟨w.heap.size + 1, 3, none⟩ = some (.int .i64 sm) := (b3.2 3 _ rfl).1
  go_wp2_with fail
  clear ca6_0 ca6_1 ca6_2 ca6_3 ca7_0 ca7_1 ca7_2 ca7_3
  refine (sameInts_true (g.keeps kw) (g'.keeps kw)).mono ?_
  rintro e w8 ⟨rfl, k8⟩
  replace k8 := Quiet.keeps k8
  replace b2 := b2.keeps k8
  replace b3 := b3.keeps k8
  replace kw := Keeps.trans kw k8
  have lt9 := b3.lt
  have sz10 := kw.size
  clear k8
  have ca11_0 : w8.cell? ⟨w.heap.size, 0, none⟩ = some (.int .i64 lv) := (b2.2 0 _ rfl).1
  have ca11_1 : w8.cell? ⟨w.heap.size, 1, none⟩ = some (.slice V n c) := (b2.2 1 _ rfl).1
  have ca11_2 : w8.cell? ⟨w.heap.size, 2, none⟩ = some (.slice H m d) := (b2.2 2 _ rfl).1
  have ca11_3 : w8.cell? ⟨w.heap.size, 3, none⟩ = some (.int .i64 sm) := (b2.2 3 _ rfl).1
  have ca12_0 : w8.cell? ⟨w.heap.size + 1, 0, none⟩ = some (.int .i64 lv) := (b3.2 0 _ rfl).1
  have ca12_1 : w8.cell? ⟨w.heap.size + 1, 1, none⟩ = some (.slice V' n c') := (b3.2 1 _ rfl).1
  have ca12_2 : w8.cell? ⟨w.heap.size + 1, 2, none⟩ = some (.slice H' m d') := (b3.2 2 _ rfl).1
  have ca12_3 : w8.cell? ⟨w.heap.size + 1, 3, none⟩ = some (.int .i64 sm) := (b3.2 3 _ rfl).1
  go_wp2_with fail
  clear ca11_0 ca11_1 ca11_2 ca11_3 ca12_0 ca12_1 ca12_2 ca12_3
  go_ret
  exact ⟨by first | rfl | simp, kw⟩
set_option maxRecDepth 100000 in
set_option maxHeartbeats 3200000 in
theorem pSameTables_true {A B : Option Addr} {lo hi lo' hi' n n' c c' : Nat} {un un' : Bool} {l : List TT} {w : World} (ha : Tabs true un w lo hi A n l) (hb : Tabs true un' w lo' hi' B n' l) :
    Calls Tryz.prog 52 #[.slice A n c, .slice B n' c'] w fun e w' => e = .returned (.bool true) ∧ Keeps w w' := by
  obtain rfl : n = n' := ha.len.symm.trans hb.len
  have hn := ha.le
  have hbb : ((n : Int) != n) = false := by simp
  go_enter Tryz.func52, Tryz.ntmps52
  go_wp2_with fail
  go_loopw [13] (fun i wr => ∃ k : Nat, k ≤ n ∧ i = .int .i64 k ∧ Keeps w wr) (fun i _ => n - (intOf i).toNat)
  case atStart => exact ⟨0, Nat.zero_le _, rfl, keeps_refl _⟩
  case round =>
    obtain ⟨k, hk, rfl, hq⟩ := hrel
    by_cases hlt : k < n
    · obtain ⟨b, off, lv, V, nv, cv, H, nh, ch, sm, vs, hs, rfl, _, _, hc0, hc1, hc2, hc3, hv, hh, hx⟩ := (ha.keeps hq).at_ hlt
      obtain ⟨b', off', lv', V', nv', cv', H', nh', ch', sm', vs', hs', rfl, _, _, hc0', hc1', hc2', hc3', hv', hh', hx'⟩ := (hb.keeps hq).at_ hlt
      have e0 := hx.out.trans hx'.out.symm
      obtain rfl : lv = lv' := congrArg (fun p : TT => p.1) e0
      obtain rfl : vs = vs' := congrArg (fun p : TT => p.2.1) e0
      obtain rfl : hs = hs' := congrArg (fun p : TT => p.2.2.1) e0
      obtain rfl : sm = sm' := congrArg (fun p : TT => p.2.2.2) e0
      obtain rfl : nv = nv' := hv.1.symm.trans hv'.1
      obtain rfl : nh = nh' := hh.1.symm.trans hh'.1
      clear hx hx' e0
      have hi1 : (k : Int) < (n : Int) := by omega
      have kS := hid (show ∀ w', Keeps wr w' → (w'.cell? ⟨b, off + k * 4, none⟩ = some (.int .i64 lv) ∧ w'.cell? ⟨b, off + k * 4 + 1, none⟩ = some (.slice V nv cv) ∧ w'.cell? ⟨b, off + k * 4 + 2, none⟩ = some (.slice H nh ch) ∧ w'.cell? ⟨b, off + k * 4 + 3, none⟩ = some (.int .i64 sm) ∧ w'.cell? ⟨b', off' + k * 4, none⟩ = some (.int .i64 lv) ∧ w'.cell? ⟨b', off' + k * 4 + 1, none⟩ = some (.slice V' nv cv') ∧ w'.cell? ⟨b', off' + k * 4 + 2, none⟩ = some (.slice H' nh ch') ∧ w'.cell? ⟨b', off' + k * 4 + 3, none⟩ = some (.int .i64 sm)) from fun w' q => ⟨cell_keeps hc0 q, cell_keeps hc1 q, cell_keeps hc2 q, cell_keeps hc3 q, cell_keeps hc0' q, cell_keeps hc1' q, cell_keeps hc2' q, cell_keeps hc3' q⟩)
      go_wp2_with fail
      go_region_held3 (fun w' => w'.cell? ⟨b, off + k * 4, none⟩ = some (.int .i64 lv) ∧ w'.cell? ⟨b, off + k * 4 + 1, none⟩ = some (.slice V nv cv) ∧ w'.cell? ⟨b, off + k * 4 + 2, none⟩ = some (.slice H nh ch) ∧ w'.cell? ⟨b, off + k * 4 + 3, none⟩ = some (.int .i64 sm) ∧ w'.cell? ⟨b', off' + k * 4, none⟩ = some (.int .i64 lv) ∧ w'.cell? ⟨b', off' + k * 4 + 1, none⟩ = some (.slice V' nv cv') ∧ w'.cell? ⟨b', off' + k * 4 + 2, none⟩ = some (.slice H' nh ch') ∧ w'.cell? ⟨b', off' + k * 4 + 3, none⟩ = some (.int .i64 sm)) (first | with_reducible exact kS.out _ (keeps_d0 _) | with_reducible exact kS.out _ k1 | go_keep)
        ((go_at_call 99; refine (pSameTable_true (hv.keeps (keeps_d0 wr)) (hh.keeps (keeps_d0 wr)) (hv'.keeps (keeps_d0 wr)) (hh'.keeps (keeps_d0 wr))).mono ?_; rintro e w1 ⟨rfl, k0⟩; have k1 : Keeps wr w1 := keeps_d k0; clear k0))
      have H2 := hid (hq.trans k1)
      clear k1 hq kS
      go_wp2
      go_roundw
      case rel => exact ⟨k + 1, by omega, by go_num, H2.out⟩
      case measure => simp [intOf]; omega
    · go_wp2
      go_ret
      exact ⟨rfl, hq⟩
set_option maxRecDepth 100000 in
set_option maxHeartbeats 6400000 in
theorem pSameReleases_true {A B : Option Addr} {lo hi lo' hi' n n' c c' : Nat} {un un' : Bool} {l : List RL} {w : World} (ha : Rels true un w lo hi A n l) (hb : Rels true un' w lo' hi' B n' l) :
    Calls Tryz.prog 10 #[.slice A n c, .slice B n' c'] w fun e w' => e = .returned (.bool true) ∧ Keeps w w' := by
  obtain rfl : n = n' := ha.len.symm.trans hb.len
  have hn := ha.le
  have hbb : ((n : Int) != n) = false := by simp
  go_enter Tryz.func10, Tryz.ntmps10
  go_wp2_with fail
  go_loopw [13] (fun i wr => ∃ k : Nat, k ≤ n ∧ i = .int .i64 k ∧ Keeps w wr) (fun i _ => n - (intOf i).toNat)
  case atStart => exact ⟨0, Nat.zero_le _, rfl, keeps_refl _⟩
  case round =>
    obtain ⟨k, hk, rfl, hq⟩ := hrel
    by_cases hlt : k < n
    · obtain ⟨b, off, v, P, np, cp, x1, x2, x3, x4, pl, rfl, _, _, hc0, hc1, hc2, hc3, hc4, hc5, hpl, hx⟩ := (ha.keeps hq).at_ hlt
      obtain ⟨b', off', v', P', np', cp', x1', x2', x3', x4', pl', rfl, _, _, hc0', hc1', hc2', hc3', hc4', hc5', hpl', hx'⟩ := (hb.keeps hq).at_ hlt
      have e0 := hx.out.trans hx'.out.symm
      obtain rfl : v = v' := congrArg (fun p : RL => p.1) e0
      obtain rfl : pl = pl' := congrArg (fun p : RL => p.2.1) e0
      obtain rfl : x1 = x1' := congrArg (fun p : RL => p.2.2.1) e0
      obtain rfl : x2 = x2' := congrArg (fun p : RL => p.2.2.2.1) e0
      obtain rfl : x3 = x3' := congrArg (fun p : RL => p.2.2.2.2.1) e0
      obtain rfl : x4 = x4' := congrArg (fun p : RL => p.2.2.2.2.2) e0
      obtain rfl : np = np' := hpl.len.symm.trans hpl'.len
      clear hx hx' e0
      have hi1 : (k : Int) < (n : Int) := by omega

      have hvv : (v != v) = false := by simp
      have HTP := hid (fun (w' : World) (kk : Keeps wr w') => pSameTables_true (c := cp) (c' := cp') (hpl.keeps kk) (hpl'.keeps kk))
      clear hpl hpl'
      have r_hc0 := fun d os => cell_regrown hc0 d os
      have r_hc1 := fun d os => cell_regrown hc1 d os
      have r_hc2 := fun d os => cell_regrown hc2 d os
      have r_hc3 := fun d os => cell_regrown hc3 d os
      have r_hc4 := fun d os => cell_regrown hc4 d os
      have r_hc5 := fun d os => cell_regrown hc5 d os
      have r_hc0' := fun d os => cell_regrown hc0' d os
      have r_hc1' := fun d os => cell_regrown hc1' d os
      have r_hc2' := fun d os => cell_regrown hc2' d os
      have r_hc3' := fun d os => cell_regrown hc3' d os
      have r_hc4' := fun d os => cell_regrown hc4' d os
      have r_hc5' := fun d os => cell_regrown hc5' d os
      have cQ0 := hid (fun (dQ : Nat) (oQ : Array Obj) => HTP.out _ (below_regrown wr dQ oQ))
      go_wp2_with fail
      refine wp_region_quiet_below (by kernel_rfl) (by kernel_rfl) ?_
      iterate 38 (go_big_quiet_step ((first | with_reducible exact Calls.regrown_of (cQ0.out _ _))))
      refine wpQuiet_nil ?_
      intro _ hw'
      obtain ⟨⟨dq, osq⟩, hw''⟩ := hw'
      subst hw''
      clear r_hc0 r_hc1 r_hc2 r_hc3 r_hc4 r_hc5 r_hc0' r_hc1' r_hc2' r_hc3' r_hc4' r_hc5' cQ0
      have kQ := below_regrown wr dq osq
      obtain ⟨wQ1, hwQ⟩ : ∃ u, u = grow (redrawn wr dq) osq := ⟨_, rfl⟩
      rw [← hwQ] at kQ
      rw [← hwQ]
      clear hwQ
      replace hq := Keeps.trans hq kQ
      have sz2 := hq.size
      clear kQ
      clear HTP
      go_wp2
      go_roundw
      case rel => exact ⟨k + 1, by omega, by go_num, hq⟩
      case measure => simp [intOf]; omega
    · go_wp2
      go_ret
      exact ⟨rfl, hq⟩
set_option maxRecDepth 100000 in
set_option maxHeartbeats 1600000 in
theorem implIsHistory_yes {A A' R : Option Addr} {lo hi a c0 lo3 hi3 n c q e : Nat} {un : Bool} {ps : List Int} {l : List VV} {rs : List RL} {w : World} (h : Ints w lo hi A a ps) (h' : Sch w A' q e l) (hr : Rels true un w lo3 hi3 R n rs) (hh : hisB ps l rs = true) :
    Calls Tryz.prog 16 #[.agg #[.slice A a c0], .slice A' q e, .slice R n c] w fun e w' => e = .returned (.tuple #[.bool true, .bool true]) ∧ Keeps w w' := by
  have HH := hid hh
  have HG := hid (hisB_parts hh).1
  have HS := hid (hisB_parts hh).2.1
  clear hh
  go_enter Tryz.func16, Tryz.ntmps16
  have kw := keeps_refl w
  replace kw := Keeps.trans kw (keeps_alloc w (.cells #[.slice A a c0] 26))
  have b3 : B1 (w.alloc (.cells #[.slice A a c0] 26)) w.heap.size (.slice A a c0) := B1.new' (by simp)
  obtain ⟨ca1, fa1⟩ := id b3
  go_wp2_with fail
  clear ca1 fa1
  refine (IsGeo_any (h.keeps kw)).mono ?_
  rintro e w2 ⟨rfl, k2⟩
  rw [HG.out]
  replace b3 := b3.keeps k2
  replace kw := Keeps.trans kw k2
  have lt3 := b3.lt
  have sz4 := kw.size
  clear k2
  obtain ⟨ca5, fa5⟩ := id b3
  go_wp2_with fail
  clear ca5 fa5
  obtain ⟨_, _, hv9⟩ := (h'.keeps kw).v
  refine (IsSchema_any hv9 h'.ok h'.cap h'.c64).mono ?_
  rintro e w6 ⟨rfl, k6⟩
  rw [HS.out]
  replace b3 := b3.keeps k6
  replace kw := Keeps.trans kw k6
  have lt7 := b3.lt
  have sz8 := kw.size
  clear k6
  clear hv9
  obtain ⟨ca9, fa9⟩ := id b3
  go_wp2_with fail
  clear ca9 fa9
  refine (isHistory_any (h.keeps kw) (h'.keeps kw) (hr.keeps kw)).mono ?_
  rintro e w10 ⟨rfl, k10⟩
  rw [HH.out]
  replace b3 := b3.keeps k10
  replace kw := Keeps.trans kw k10
  have lt11 := b3.lt
  have sz12 := kw.size
  clear k10
  obtain ⟨ca13, fa13⟩ := id b3
  go_wp2_with fail
  clear ca13 fa13
  go_ret2
  exact ⟨rfl, kw⟩
set_option maxRecDepth 100000 in
set_option maxHeartbeats 1600000 in
theorem implIsWithin_yes {d1 d2 d3 d4 x1 x2 x3 x4 : Int} {w : World} (hb : lsB (d1, d2, d3, d4) = true) (hx : lsB (x1, x2, x3, x4) = true) :
    Calls Tryz.prog 15 #[.agg #[.int .i64 d1, .int .i64 d2, .int .i64 d3, .int .i64 d4], .agg #[.int .i64 x1, .int .i64 x2, .int .i64 x3, .int .i64 x4]] w fun e w' => e = .returned (.tuple #[.bool (wiB (d1, d2, d3, d4) (x1, x2, x3, x4)), .bool true]) ∧ Keeps w w' := by
  have HB := hid hb
  have HX := hid hx
  have HB2 := hid (show lossB d1 d2 d3 d4 = true from hb)
  have HX2 := hid (show lossB x1 x2 x3 x4 = true from hx)
  clear hb hx
  obtain ⟨p, HP⟩ : ∃ p, Hid (wiB (d1, d2, d3, d4) (x1, x2, x3, x4) = p) := ⟨_, rfl⟩
  rw [HP.out]
  go_enter Tryz.func15, Tryz.ntmps15
  have kw := keeps_refl w
  replace kw := Keeps.trans kw (keeps_alloc w (.cells #[.int .i64 d1, .int .i64 d2, .int .i64 d3, .int .i64 d4] 32))
  have b2 : Bl (w.alloc (.cells #[.int .i64 d1, .int .i64 d2, .int .i64 d3, .int .i64 d4] 32)) w.heap.size [.int .i64 d1, .int .i64 d2, .int .i64 d3, .int .i64 d4] := Bl.new' (by simp) (by simp)
  replace b2 := b2.keeps (keeps_alloc (w.alloc (.cells #[.int .i64 d1, .int .i64 d2, .int .i64 d3, .int .i64 d4] 32)) (.cells #[.int .i64 x1, .int .i64 x2, .int .i64 x3, .int .i64 x4] 32))
  replace kw := Keeps.trans kw (keeps_alloc (w.alloc (.cells #[.int .i64 d1, .int .i64 d2, .int .i64 d3, .int .i64 d4] 32)) (.cells #[.int .i64 x1, .int .i64 x2, .int .i64 x3, .int .i64 x4] 32))
  have b3 : Bl ((w.alloc (.cells #[.int .i64 d1, .int .i64 d2, .int .i64 d3, .int .i64 d4] 32)).alloc (.cells #[.int .i64 x1, .int .i64 x2, .int .i64 x3, .int .i64 x4] 32)) (w.heap.size + 1) [.int .i64 x1, .int .i64 x2, .int .i64 x3, .int .i64 x4] := Bl.new' (by simp) (by simp)
  have ca1_0 : ((w.alloc (.cells #[.int .i64 d1, .int .i64 d2, .int .i64 d3, .int .i64 d4] 32)).alloc (.cells #[.int .i64 x1, .int .i64 x2, .int .i64 x3, .int .i64 x4] 32)).cell? ⟨w.heap.size, 0, none⟩ = some (.int .i64 d1) := (b2.2 0 _ rfl).1
  have ca1_1 : ((w.alloc (.cells #[.int .i64 d1, .int .i64 d2, .int .i64 d3, .int .i64 d4] 32)).alloc (.cells #[.int .i64 x1, .int .i64 x2, .int .i64 x3, .int .i64 x4] 32)).cell? ⟨w.heap.size, 1, none⟩ = some (.int .i64 d2) := (b2.2 1 _ rfl).1
  have ca1_2 : ((w.alloc (.cells #[.int .i64 d1, .int .i64 d2, .int .i64 d3, .int .i64 d4] 32)).alloc (.cells #[.int .i64 x1, .int .i64 x2, .int .i64 x3, .int .i64 x4] 32)).cell? ⟨w.heap.size, 2, none⟩ = some (.int .i64 d3) := (b2.2 2 _ rfl).1
  have ca1_3 : ((w.alloc (.cells #[.int .i64 d1, .int .i64 d2, .int .i64 d3, .int .i64 d4] 32)).alloc (.cells #[.int .i64 x1, .int .i64 x2, .int .i64 x3, .int .i64 x4] 32)).cell? ⟨w.heap.size, 3, none⟩ = some (.int .i64 d4) := (b2.2 3 _ rfl).1
  have ca2_0 : ((w.alloc (.cells #[.int .i64 d1, .int .i64 d2, .int .i64 d3, .int .i64 d4] 32)).alloc (.cells #[.int .i64 x1, .int .i64 x2, .int .i64 x3, .int .i64 x4] 32)).cell? ⟨w.heap.size + 1, 0, none⟩ = some (.int .i64 x1) := (b3.2 0 _ rfl).1
  have ca2_1 : ((w.alloc (.cells #[.int .i64 d1, .int .i64 d2, .int .i64 d3, .int .i64 d4] 32)).alloc (.cells #[.int .i64 x1, .int .i64 x2, .int .i64 x3, .int .i64 x4] 32)).cell? ⟨w.heap.size + 1, 1, none⟩ = some (.int .i64 x2) := (b3.2 1 _ rfl).1
  have ca2_2 : ((w.alloc (.cells #[.int .i64 d1, .int .i64 d2, .int .i64 d3, .int .i64 d4] 32)).alloc (.cells #[.int .i64 x1, .int .i64 x2, .int .i64 x3, .int .i64 x4] 32)).cell? ⟨w.heap.size + 1, 2, none⟩ = some (.int .i64 x3) := (b3.2 2 _ rfl).1
  have ca2_3 : ((w.alloc (.cells #[.int .i64 d1, .int .i64 d2, .int .i64 d3, .int .i64 d4] 32)).alloc (.cells #[.int .i64 x1, .int .i64 x2, .int .i64 x3, .int .i64 x4] 32)).cell? ⟨w.heap.size + 1, 3, none⟩ = some (.int .i64 x4) := (b3.2 3 _ rfl).1
  go_wp2_with fail
  clear ca1_0 ca1_1 ca1_2 ca1_3 ca2_0 ca2_1 ca2_2 ca2_3
  refine (IsLoss_any).mono ?_
  rintro e w3 ⟨rfl, k3⟩
  rw [HB2.out]
  replace b2 := b2.keeps k3
  replace b3 := b3.keeps k3
  replace kw := Keeps.trans kw k3
  have lt4 := b3.lt
  have sz5 := kw.size
  clear k3
  have ca6_0 : w3.cell? ⟨w.heap.size, 0, none⟩ = some (.int .i64 d1) := (b2.2 0 _ rfl).1
  have ca6_1 : w3.cell? ⟨w.heap.size, 1, none⟩ = some (.int .i64 d2) := (b2.2 1 _ rfl).1
  have ca6_2 : w3.cell? ⟨w.heap.size, 2, none⟩ = some (.int .i64 d3) := (b2.2 2 _ rfl).1
  have ca6_3 : w3.cell? ⟨w.heap.size, 3, none⟩ = some (.int .i64 d4) := (b2.2 3 _ rfl).1
  have ca7_0 : w3.cell? ⟨w.heap.size + 1, 0, none⟩ = some (.int .i64 x1) := (b3.2 0 _ rfl).1
  have ca7_1 : w3.cell? ⟨w.heap.size + 1, 1, none⟩ = some (.int .i64 x2) := (b3.2 1 _ rfl).1
  have ca7_2 : w3.cell? ⟨w.heap.size + 1, 2, none⟩ = some (.int .i64 x3) := (b3.2 2 _ rfl).1
  have ca7_3 : w3.cell? ⟨w.heap.size + 1, 3, none⟩ = some (.int .i64 x4) := (b3.2 3 _ rfl).1
  go_wp2_with fail
  clear ca6_0 ca6_1 ca6_2 ca6_3 ca7_0 ca7_1 ca7_2 ca7_3
  refine (IsLoss_any).mono ?_
  rintro e w8 ⟨rfl, k8⟩
  rw [HX2.out]
  replace b2 := b2.keeps k8
  replace b3 := b3.keeps k8
  replace kw := Keeps.trans kw k8
  have lt9 := b3.lt
  have sz10 := kw.size
  clear k8
  have ca11_0 : w8.cell? ⟨w.heap.size, 0, none⟩ = some (.int .i64 d1) := (b2.2 0 _ rfl).1
  have ca11_1 : w8.cell? ⟨w.heap.size, 1, none⟩ = some (.int .i64 d2) := (b2.2 1 _ rfl).1
  have ca11_2 : w8.cell? ⟨w.heap.size, 2, none⟩ = some (.int .i64 d3) := (b2.2 2 _ rfl).1
  have ca11_3 : w8.cell? ⟨w.heap.size, 3, none⟩ = some (.int .i64 d4) := (b2.2 3 _ rfl).1
  have ca12_0 : w8.cell? ⟨w.heap.size + 1, 0, none⟩ = some (.int .i64 x1) := (b3.2 0 _ rfl).1
  have ca12_1 : w8.cell? ⟨w.heap.size + 1, 1, none⟩ = some (.int .i64 x2) := (b3.2 1 _ rfl).1
  have ca12_2 : w8.cell? ⟨w.heap.size + 1, 2, none⟩ = some (.int .i64 x3) := (b3.2 2 _ rfl).1
  have ca12_3 : w8.cell? ⟨w.heap.size + 1, 3, none⟩ = some (.int .i64 x4) := (b3.2 3 _ rfl).1
  go_wp2_with fail
  clear ca11_0 ca11_1 ca11_2 ca11_3 ca12_0 ca12_1 ca12_2 ca12_3
  refine (isWithin_any HB.out HX.out).mono ?_
  rintro e w13 ⟨rfl, k13⟩
  rw [HP.out]
  replace b2 := b2.keeps k13
  replace b3 := b3.keeps k13
  replace kw := Keeps.trans kw k13
  have lt14 := b3.lt
  have sz15 := kw.size
  clear k13
  have ca16_0 : w13.cell? ⟨w.heap.size, 0, none⟩ = some (.int .i64 d1) := (b2.2 0 _ rfl).1
  have ca16_1 : w13.cell? ⟨w.heap.size, 1, none⟩ = some (.int .i64 d2) := (b2.2 1 _ rfl).1
  have ca16_2 : w13.cell? ⟨w.heap.size, 2, none⟩ = some (.int .i64 d3) := (b2.2 2 _ rfl).1
  have ca16_3 : w13.cell? ⟨w.heap.size, 3, none⟩ = some (.int .i64 d4) := (b2.2 3 _ rfl).1
  have ca17_0 : w13.cell? ⟨w.heap.size + 1, 0, none⟩ = some (.int .i64 x1) := (b3.2 0 _ rfl).1
  have ca17_1 : w13.cell? ⟨w.heap.size + 1, 1, none⟩ = some (.int .i64 x2) := (b3.2 1 _ rfl).1
  have ca17_2 : w13.cell? ⟨w.heap.size + 1, 2, none⟩ = some (.int .i64 x3) := (b3.2 2 _ rfl).1
  have ca17_3 : w13.cell? ⟨w.heap.size + 1, 3, none⟩ = some (.int .i64 x4) := (b3.2 3 _ rfl).1
  go_wp2_with fail
  clear ca16_0 ca16_1 ca16_2 ca16_3 ca17_0 ca17_1 ca17_2 ca17_3
  go_ret2
  exact ⟨rfl, kw⟩
end Go.Proofs.YtohjkpopbmmliaaGreat
namespace Go.Proofs.YtohjkpopbmmliaaGreat
open Go.RowKit
set_option linter.unusedVariables false
set_option linter.unusedSimpArgs false
/-- One that goes well is taken off. -/
theorem cn_shift {b : LQ} {q : Nat → LQ × Bool} (h1 : lfB b (q 1) = true) : ∀ n, cn b q (n + 1) = cn b (fun k => q (k + 1)) n + 1 := by
  intro n
  induction n with
  | zero => exact cn_yes (k := 0) rfl h1
  | succ n ih =>
    have e1 : cn b q (n + 1 + 1) = if cn b q (n + 1) < n + 1 then cn b q (n + 1) else if lfB b (q (n + 1 + 1)) = true then n + 1 + 1 else n + 1 := rfl
    have e2 : cn b (fun k => q (k + 1)) (n + 1) = if cn b (fun k => q (k + 1)) n < n then cn b (fun k => q (k + 1)) n else if lfB b (q (n + 1 + 1)) = true then n + 1 else n := rfl
    rw [e1, e2, ih]
    by_cases h : cn b (fun k => q (k + 1)) n < n
    · rw [if_pos (show cn b (fun k => q (k + 1)) n + 1 < n + 1 by omega), if_pos h]
    · rw [if_neg (show ¬ cn b (fun k => q (k + 1)) n + 1 < n + 1 by omega), if_neg h]
      split <;> rfl
theorem exq_snoc (ls : List LQ) (x : LQ) (k : Nat) : exq (ls ++ [x]) x k = exq ls x (k + 1) := by
  unfold exq
  rw [List.length_append, List.length_singleton, List.append_assoc, show [x] ++ List.replicate k x = List.replicate (k + 1) x from (List.replicate_succ).symm, show ls.length + 1 + k = ls.length + (k + 1) by omega]
theorem hisTo_snoc {ps : List Int} {l : List VV} {rs : List RL} {r : RL} : ∀ k, k ≤ rs.length → hisTo ps l (rs ++ [r]) k = hisTo ps l rs k
  | 0, _ => rfl
  | k + 1, h => by
    have e : (rs ++ [r]).getD k rl0 = rs.getD k rl0 := by simp only [List.getD]; rw [List.getElem?_append_left (by omega)]
    show (hisTo ps l (rs ++ [r]) k && (decide (((rs ++ [r]).getD k rl0).1 = (k : Int) + 1) && relB ps l ((rs ++ [r]).getD k rl0))) = _
    rw [hisTo_snoc k (by omega), e]; rfl
theorem his_snoc {ps : List Int} {l : List VV} {rs : List RL} {ts : List TT} {x : LQ} (h : hisB ps l rs = true) (hn : rs.length < 12) (hp : plB ps l ts = true) (hx : lsB x = true) : hisB ps l (rs ++ [((rs.length : Int) + 1, ts, x)]) = true := by
  have hp5 := hisB_parts h
  have h5 : hisTo ps l rs rs.length = true := by
    unfold hisB at h
    simp only [Bool.and_eq_true] at h
    exact h.2
  unfold hisB
  rw [hp5.1, hp5.2.1, List.length_append, List.length_singleton, decide_eq_true (show rs.length + 1 ≤ 12 by omega)]
  have e : (rs ++ [((rs.length : Int) + 1, ts, x)]).getD rs.length rl0 = ((rs.length : Int) + 1, ts, x) := by simp [List.getD]
  show (true && (hisTo ps l (rs ++ [((rs.length : Int) + 1, ts, x)]) rs.length && (decide (((rs ++ [((rs.length : Int) + 1, ts, x)]).getD rs.length rl0).1 = (rs.length : Int) + 1) && relB ps l ((rs ++ [((rs.length : Int) + 1, ts, x)]).getD rs.length rl0)))) = true
  rw [hisTo_snoc _ (Nat.le_refl _), h5, e]
  have e2 : relB ps l ((rs.length : Int) + 1, ts, x) = true := by
    unfold relB
    rw [hp, show lossB x.1 x.2.1 x.2.2.1 x.2.2.2 = true from hx]
    unfold inB
    rw [decide_eq_true (show 1 ≤ (((rs.length : Int) + 1, ts, x) : RL).1 ∧ (((rs.length : Int) + 1, ts, x) : RL).1 ≤ 999 from ⟨by show (1 : Int) ≤ (rs.length : Int) + 1; omega, by show (rs.length : Int) + 1 ≤ 999; omega⟩)]
    rfl
  rw [e2]; simp
/-- What the law FnHistories asks of an added release. -/
theorem hs_law {ps : List Int} {l : List VV} {rs : List RL} {ts : List TT} {b x : LQ} (h : (caQ ps l rs b ts x).1 = true) :
    ∃ s, lsB b = true ∧ lsB s = true ∧ hlQ ps l (rs ++ [((rs.length : Int) + 1, ts, x)]) = (s, true) ∧ wiB b s = true ∧ hisB ps l (rs ++ [((rs.length : Int) + 1, ts, x)]) = true ∧ (geoB ps && schB l) = true ∧
      ∃ m : Nat, rqQ ps l (rs ++ [((rs.length : Int) + 1, ts, x)]) b x = ((m : Int), true) ∧ rqQ ps l rs b x = (((m + 1 : Nat) : Int), true) ∧ m ≤ 12 := by
  have hc : (hisB ps l rs && lsB b && plB ps l ts && lsB x) = true := by
    cases e : (hisB ps l rs && lsB b && plB ps l ts && lsB x) with
    | true => rfl
    | false => rw [caQ_no e] at h; cases h
  rw [caQ_yes hc] at h
  have hpos := cn_pos.1 (of_decide_eq_true h)
  simp only [Bool.and_eq_true] at hc
  obtain ⟨⟨⟨hh, hb⟩, hp⟩, hx⟩ := hc
  have h12 := hisB_parts hh
  have hn : rs.length < 12 := by omega
  have hh2 := his_snoc hh hn hp hx
  have hg : ∀ k, k < (rlLs rs).length → lsB ((rlLs rs).getD k lz) = true := fun k hk => (his_loss hh).2 k (by rw [← rlLs_len]; exact hk)
  have el : rlLs (rs ++ [((rs.length : Int) + 1, ts, x)]) = rlLs rs ++ [x] := by unfold rlLs; rw [List.map_append]; rfl
  have e1 : comQ (rlLs (rs ++ [((rs.length : Int) + 1, ts, x)])) = exq (rlLs rs) x 1 := by
    rw [el]
    exact exq_com (m := 1) (by rw [rlLs_len]; omega) (by omega) hg hx
  have hq := hpos.2
  unfold lfB at hq
  rw [Bool.and_eq_true] at hq
  refine ⟨(exq (rlLs rs) x 1).1, hb, exq_good (m := 1) hg hx (Prod.ext rfl hq.1), ?_, hq.2, hh2, by rw [h12.1, h12.2.1]; rfl, cn b (exq (rlLs rs ++ [x]) x) (12 - (rs.length + 1)), ?_, ?_, ?_⟩
  · rw [hlQ_yes hh2, e1]; exact Prod.ext rfl hq.1
  · rw [rqQ_yes (by rw [hh2, hb, hx]; rfl), el, List.length_append, List.length_singleton]
  · rw [rqQ_yes (by rw [hh, hb, hx]; rfl), show 12 - rs.length = (12 - (rs.length + 1)) + 1 by omega, cn_shift hpos.2]
    have e3 : exq (rlLs rs ++ [x]) x = fun k => exq (rlLs rs) x (k + 1) := funext fun k => exq_snoc _ _ k
    rw [e3]
  · exact Nat.le_trans (cn_le _ _ _) (by omega)
/-- An answer that the law compares with another one. -/
theorem hs_can {ps : List Int} {l : List VV} {rs : List RL} {ts : List TT} {b x : LQ} : (adQ ps l rs b ts x).2 = (caQ ps l rs b ts x).1 := by
  cases e : (caQ ps l rs b ts x).1 with
  | false => rw [adQ_no e]
  | true => rw [adQ_yes e]
theorem hs_left {ps : List Int} {l : List VV} {rs : List RL} {ts : List TT} {b x : LQ} (h1 : (caQ ps l rs b ts x).2 = true) (h2 : (rqQ ps l rs b x).2 = true) : (caQ ps l rs b ts x).1 = decide (0 < (rqQ ps l rs b x).1) := by
  have hc : (hisB ps l rs && lsB b && plB ps l ts && lsB x) = true := by
    cases e : (hisB ps l rs && lsB b && plB ps l ts && lsB x) with
    | true => rfl
    | false => rw [caQ_no e] at h1; cases h1
  have hc2 := hc
  simp only [Bool.and_eq_true] at hc2
  rw [caQ_yes hc, rqQ_yes (by rw [hc2.1.1.1, hc2.1.1.2, hc2.2]; rfl)]
  dsimp only
  by_cases e : 0 < cn b (exq (rlLs rs) x) (12 - rs.length)
  · rw [decide_eq_true e, decide_eq_true (by omega)]
  · rw [decide_eq_false e, decide_eq_false (by omega)]
end Go.Proofs.YtohjkpopbmmliaaGreat
