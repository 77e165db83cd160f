/- The law FnRevisions: it returns true for all arguments, where the library's three listed tables lie as its text lays them; the statement as it was given (a tied card), with no condition of our own. -/
import Derived.LaidMore
import Derived.MakeChecks
import Derived.Lib.LaidTab
import Derived.Test.YtlkjhkkfdmjfcaaGreatDoorCards
import Derived.Test.YtlkjhkkfdmjfcaaGreatDoorTie
import Derived.ProofKit
import Derived.OpenShut
import Derived.Stop.Joined
import Derived.SevenTiedAt
import Derived.Test.YtlkjhkkfdmjfcaaGreatDoorQ7
import Derived.Test.YtlkjhkkfdmjfcaaGreatDoorQ12
import Derived.Test.YtlkjhkkfdmjfcaaGreatDoorQ14
import Derived.Test.YtlkjhkkfdmjfcaaGreatDoorQ16
namespace Go.Proofs.YtlkjhkkfdmjfcaaGreatDoor
open Go.RowKit Go.Sort
set_option linter.unusedVariables false
set_option linter.unusedSimpArgs false
theorem nt_his {ps : List Int} {l : List VV} {rs : List RL} {ts : List TT} {z : List Int} (h : ntQ ps l rs ts = (z, true)) : hisB ps l rs = true := by
  cases h1 : (hisB ps l rs && plB ps l ts)
  · rw [ntQ_no h1] at h; injection h with _ h; cases h
  · simp only [Bool.and_eq_true] at h1; exact h1.1
set_option maxRecDepth 100000 in
set_option maxHeartbeats 12800000 in
theorem FnRevisions_law (A0 : Option Addr) (n0 c0 : Nat) (A1 : Option Addr) (n1 c1 : Nat) (w : World) (wa0 : BytesArg w A0 n0) (wa1 : BytesArg w A1 n1) (ht9 : Tab10 w) :
    Calls Tryz.prog 4 #[.slice A0 n0 c0, .slice A1 n1 c1] w fun e w' => e = .returned (.bool true) ∧ Below w.heap.size w w' := by
  have HTB := hid ht9
  clear ht9
  have m0 := wa0.1
  have m1 := wa1.1
  unfold maxLen at m0 m1
  have B0 : Bytes w w.heap.size A0 n0 := wa0
  have B1_ : Bytes w w.heap.size A1 n1 := wa1
  go_enter Tryz.func4, Tryz.ntmps4
  have kw := keeps_refl w
  go_wp2_with fail
  refine (big_any m0 m1).mono ?_
  rintro e w' ⟨b, rfl, rfl⟩
  cases b
  rotate_left
  · go_wp2_with fail
    go_ret
    exact ⟨rfl, kw⟩
  go_wp2_with fail
  refine (DrawPlanChanges_any (B0.keeps kw)).mono ?_
  rintro e w1 ⟨A2, N2, C2, ps, S2, q, cq, l, v, P, np, cp, x1, x2, x3, x4, ts, v', P', np', cp', y1, y2, y3, y4, us, rfl, iG, hN, iS, hcap, hSD, hT, hU, k1⟩
  replace kw := Keeps.trans kw k1
  have sz2 := kw.size
  clear k1
  have hS : Sch w1 S2 q cq l := ⟨⟨_, _, iS⟩, hSD.names, hcap.1, hcap.2⟩
  clear iS hcap hSD hN
  replace iG := iG.keeps (keeps_alloc w1 (.cells #[.slice A2 N2 C2] 32))
  replace hS := hS.keeps (keeps_alloc w1 (.cells #[.slice A2 N2 C2] 32))
  replace hT := hT.keeps (keeps_alloc w1 (.cells #[.slice A2 N2 C2] 32))
  replace hU := hU.keeps (keeps_alloc w1 (.cells #[.slice A2 N2 C2] 32))
  replace kw := Keeps.trans kw (keeps_alloc w1 (.cells #[.slice A2 N2 C2] 32))
  have b5 : B1 (w1.alloc (.cells #[.slice A2 N2 C2] 32)) w1.heap.size (.slice A2 N2 C2) := B1.new' (by simp)
  replace b5 := b5.keeps (keeps_alloc (w1.alloc (.cells #[.slice A2 N2 C2] 32)) (.cells #[.int .i64 v, .slice P np cp, .int .i64 x1, .int .i64 x2, .int .i64 x3, .int .i64 x4] 50))
  replace iG := iG.keeps (keeps_alloc (w1.alloc (.cells #[.slice A2 N2 C2] 32)) (.cells #[.int .i64 v, .slice P np cp, .int .i64 x1, .int .i64 x2, .int .i64 x3, .int .i64 x4] 50))
  replace hS := hS.keeps (keeps_alloc (w1.alloc (.cells #[.slice A2 N2 C2] 32)) (.cells #[.int .i64 v, .slice P np cp, .int .i64 x1, .int .i64 x2, .int .i64 x3, .int .i64 x4] 50))
  replace hT := hT.keeps (keeps_alloc (w1.alloc (.cells #[.slice A2 N2 C2] 32)) (.cells #[.int .i64 v, .slice P np cp, .int .i64 x1, .int .i64 x2, .int .i64 x3, .int .i64 x4] 50))
  replace hU := hU.keeps (keeps_alloc (w1.alloc (.cells #[.slice A2 N2 C2] 32)) (.cells #[.int .i64 v, .slice P np cp, .int .i64 x1, .int .i64 x2, .int .i64 x3, .int .i64 x4] 50))
  replace kw := Keeps.trans kw (keeps_alloc (w1.alloc (.cells #[.slice A2 N2 C2] 32)) (.cells #[.int .i64 v, .slice P np cp, .int .i64 x1, .int .i64 x2, .int .i64 x3, .int .i64 x4] 50))
  have b7 : Bl ((w1.alloc (.cells #[.slice A2 N2 C2] 32)).alloc (.cells #[.int .i64 v, .slice P np cp, .int .i64 x1, .int .i64 x2, .int .i64 x3, .int .i64 x4] 50)) (w1.heap.size + 1) [.int .i64 v, .slice P np cp, .int .i64 x1, .int .i64 x2, .int .i64 x3, .int .i64 x4] := Bl.new' (by simp) (by simp)
  replace b5 := b5.keeps (keeps_alloc ((w1.alloc (.cells #[.slice A2 N2 C2] 32)).alloc (.cells #[.int .i64 v, .slice P np cp, .int .i64 x1, .int .i64 x2, .int .i64 x3, .int .i64 x4] 50)) (.cells #[.int .i64 v', .slice P' np' cp', .int .i64 y1, .int .i64 y2, .int .i64 y3, .int .i64 y4] 50))
  replace b7 := b7.keeps (keeps_alloc ((w1.alloc (.cells #[.slice A2 N2 C2] 32)).alloc (.cells #[.int .i64 v, .slice P np cp, .int .i64 x1, .int .i64 x2, .int .i64 x3, .int .i64 x4] 50)) (.cells #[.int .i64 v', .slice P' np' cp', .int .i64 y1, .int .i64 y2, .int .i64 y3, .int .i64 y4] 50))
  replace iG := iG.keeps (keeps_alloc ((w1.alloc (.cells #[.slice A2 N2 C2] 32)).alloc (.cells #[.int .i64 v, .slice P np cp, .int .i64 x1, .int .i64 x2, .int .i64 x3, .int .i64 x4] 50)) (.cells #[.int .i64 v', .slice P' np' cp', .int .i64 y1, .int .i64 y2, .int .i64 y3, .int .i64 y4] 50))
  replace hS := hS.keeps (keeps_alloc ((w1.alloc (.cells #[.slice A2 N2 C2] 32)).alloc (.cells #[.int .i64 v, .slice P np cp, .int .i64 x1, .int .i64 x2, .int .i64 x3, .int .i64 x4] 50)) (.cells #[.int .i64 v', .slice P' np' cp', .int .i64 y1, .int .i64 y2, .int .i64 y3, .int .i64 y4] 50))
  replace hT := hT.keeps (keeps_alloc ((w1.alloc (.cells #[.slice A2 N2 C2] 32)).alloc (.cells #[.int .i64 v, .slice P np cp, .int .i64 x1, .int .i64 x2, .int .i64 x3, .int .i64 x4] 50)) (.cells #[.int .i64 v', .slice P' np' cp', .int .i64 y1, .int .i64 y2, .int .i64 y3, .int .i64 y4] 50))
  replace hU := hU.keeps (keeps_alloc ((w1.alloc (.cells #[.slice A2 N2 C2] 32)).alloc (.cells #[.int .i64 v, .slice P np cp, .int .i64 x1, .int .i64 x2, .int .i64 x3, .int .i64 x4] 50)) (.cells #[.int .i64 v', .slice P' np' cp', .int .i64 y1, .int .i64 y2, .int .i64 y3, .int .i64 y4] 50))
  replace kw := Keeps.trans kw (keeps_alloc ((w1.alloc (.cells #[.slice A2 N2 C2] 32)).alloc (.cells #[.int .i64 v, .slice P np cp, .int .i64 x1, .int .i64 x2, .int .i64 x3, .int .i64 x4] 50)) (.cells #[.int .i64 v', .slice P' np' cp', .int .i64 y1, .int .i64 y2, .int .i64 y3, .int .i64 y4] 50))
  have b8 : Bl (((w1.alloc (.cells #[.slice A2 N2 C2] 32)).alloc (.cells #[.int .i64 v, .slice P np cp, .int .i64 x1, .int .i64 x2, .int .i64 x3, .int .i64 x4] 50)).alloc (.cells #[.int .i64 v', .slice P' np' cp', .int .i64 y1, .int .i64 y2, .int .i64 y3, .int .i64 y4] 50)) (w1.heap.size + 1 + 1) [.int .i64 v', .slice P' np' cp', .int .i64 y1, .int .i64 y2, .int .i64 y3, .int .i64 y4] := Bl.new' (by simp) (by simp)
  obtain ⟨q0, q1, q2, HQ⟩ : ∃ q0 q1 q2, Hid (pcQ ps l (v, ts, x1, x2, x3, x4) (v', us, y1, y2, y3, y4) = (q0, q1, q2)) := ⟨_, _, _, rfl⟩
  have HW := hid (pc_swap ps l (v, ts, x1, x2, x3, x4) (v', us, y1, y2, y3, y4))
  rw [HQ.out] at HW
  have hqq : (q2 != q2) = false := by simp
  obtain ⟨ca3, fa3⟩ := id b5
  have ca4_0 := (b7.2 0 _ rfl).1
  have ca4_1 := (b7.2 1 _ rfl).1
  have ca4_2 := (b7.2 2 _ rfl).1
  have ca4_3 := (b7.2 3 _ rfl).1
  have ca4_4 := (b7.2 4 _ rfl).1
  have ca4_5 := (b7.2 5 _ rfl).1
  have ca5_0 := (b8.2 0 _ rfl).1
  have ca5_1 := (b8.2 1 _ rfl).1
  have ca5_2 := (b8.2 2 _ rfl).1
  have ca5_3 := (b8.2 3 _ rfl).1
  have ca5_4 := (b8.2 4 _ rfl).1
  have ca5_5 := (b8.2 5 _ rfl).1
  go_wp2_with fail
  clear ca3 fa3 ca4_0 ca4_1 ca4_2 ca4_3 ca4_4 ca4_5 ca5_0 ca5_1 ca5_2 ca5_3 ca5_4 ca5_5
  refine (implPlanChanges_gen iG hS hT hU).mono ?_
  rintro e w6 ⟨D1_, d1_, f1_, E1_, e1_, g1_, L1_, U1_, l1_, u1_, rfl, hb1_, mA1_, mB1_, k6⟩
  replace b5 := b5.keeps k6
  replace b7 := b7.keeps k6
  replace b8 := b8.keeps k6
  replace iG := iG.keeps k6
  replace hS := hS.keeps k6
  replace hT := hT.keeps k6
  replace hU := hU.keeps k6
  replace kw := Keeps.trans kw k6
  have lt7 := b8.lt
  have sz8 := kw.size
  clear k6
  rw [HQ.out]
  rw [HQ.out] at mA1_ mB1_
  obtain ⟨ca9, fa9⟩ := id b5
  have ca10_0 := (b7.2 0 _ rfl).1
  have ca10_1 := (b7.2 1 _ rfl).1
  have ca10_2 := (b7.2 2 _ rfl).1
  have ca10_3 := (b7.2 3 _ rfl).1
  have ca10_4 := (b7.2 4 _ rfl).1
  have ca10_5 := (b7.2 5 _ rfl).1
  have ca11_0 := (b8.2 0 _ rfl).1
  have ca11_1 := (b8.2 1 _ rfl).1
  have ca11_2 := (b8.2 2 _ rfl).1
  have ca11_3 := (b8.2 3 _ rfl).1
  have ca11_4 := (b8.2 4 _ rfl).1
  have ca11_5 := (b8.2 5 _ rfl).1
  go_wp2_with fail
  clear ca9 fa9 ca10_0 ca10_1 ca10_2 ca10_3 ca10_4 ca10_5 ca11_0 ca11_1 ca11_2 ca11_3 ca11_4 ca11_5
  refine (specPlanChanges_gen iG hS hT hU).mono ?_
  rintro e w12 ⟨D2_, d2_, f2_, E2_, e2_, g2_, L2_, U2_, l2_, u2_, rfl, hb2_, mA2_, mB2_, k12⟩
  replace b5 := b5.keeps k12
  replace b7 := b7.keeps k12
  replace b8 := b8.keeps k12
  replace iG := iG.keeps k12
  replace hS := hS.keeps k12
  replace hT := hT.keeps k12
  replace hU := hU.keeps k12
  replace mA1_ := mA1_.keeps k12
  replace mB1_ := mB1_.keeps k12
  replace kw := Keeps.trans kw k12
  have lt13 := b8.lt
  have sz14 := kw.size
  clear k12
  rw [HQ.out]
  rw [HQ.out] at mA2_ mB2_
  go_wp2_with fail
  refine (sameInts_true mA1_.ints mA2_.ints).mono ?_
  rintro e w15 ⟨rfl, k15⟩
  replace k15 := Quiet.keeps k15
  replace b5 := b5.keeps k15
  replace b7 := b7.keeps k15
  replace b8 := b8.keeps k15
  replace iG := iG.keeps k15
  replace hS := hS.keeps k15
  replace hT := hT.keeps k15
  replace hU := hU.keeps k15
  replace mA1_ := mA1_.keeps k15
  replace mB1_ := mB1_.keeps k15
  replace mA2_ := mA2_.keeps k15
  replace mB2_ := mB2_.keeps k15
  replace kw := Keeps.trans kw k15
  have lt16 := b8.lt
  have sz17 := kw.size
  clear k15
  go_wp2_with fail
  refine (sameInts_true mB1_.ints mB2_.ints).mono ?_
  rintro e w18 ⟨rfl, k18⟩
  replace k18 := Quiet.keeps k18
  replace b5 := b5.keeps k18
  replace b7 := b7.keeps k18
  replace b8 := b8.keeps k18
  replace iG := iG.keeps k18
  replace hS := hS.keeps k18
  replace hT := hT.keeps k18
  replace hU := hU.keeps k18
  replace mA1_ := mA1_.keeps k18
  replace mB1_ := mB1_.keeps k18
  replace mA2_ := mA2_.keeps k18
  replace mB2_ := mB2_.keeps k18
  replace kw := Keeps.trans kw k18
  have lt19 := b8.lt
  have sz20 := kw.size
  clear k18
  clear mA2_ mB2_ hqq
  obtain ⟨ca21, fa21⟩ := id b5
  have ca22_0 := (b7.2 0 _ rfl).1
  have ca22_1 := (b7.2 1 _ rfl).1
  have ca22_2 := (b7.2 2 _ rfl).1
  have ca22_3 := (b7.2 3 _ rfl).1
  have ca22_4 := (b7.2 4 _ rfl).1
  have ca22_5 := (b7.2 5 _ rfl).1
  have ca23_0 := (b8.2 0 _ rfl).1
  have ca23_1 := (b8.2 1 _ rfl).1
  have ca23_2 := (b8.2 2 _ rfl).1
  have ca23_3 := (b8.2 3 _ rfl).1
  have ca23_4 := (b8.2 4 _ rfl).1
  have ca23_5 := (b8.2 5 _ rfl).1
  go_wp2_with fail
  clear ca21 fa21 ca22_0 ca22_1 ca22_2 ca22_3 ca22_4 ca22_5 ca23_0 ca23_1 ca23_2 ca23_3 ca23_4 ca23_5
  refine (implPlanChanges_gen iG hS hU hT).mono ?_
  rintro e w24 ⟨D3_, d3_, f3_, E3_, e3_, g3_, L3_, U3_, l3_, u3_, rfl, hb3_, mA3_, mB3_, k24⟩
  replace b5 := b5.keeps k24
  replace b7 := b7.keeps k24
  replace b8 := b8.keeps k24
  replace iG := iG.keeps k24
  replace hS := hS.keeps k24
  replace hT := hT.keeps k24
  replace hU := hU.keeps k24
  replace mA1_ := mA1_.keeps k24
  replace mB1_ := mB1_.keeps k24
  replace kw := Keeps.trans kw k24
  have lt25 := b8.lt
  have sz26 := kw.size
  clear k24
  rw [HW.out]
  rw [HW.out] at mA3_ mB3_
  clear iG hS hT hU b5 b7 b8
  go_wp2_with fail
  refine (sameInts_true mA3_.ints mB1_.ints).mono ?_
  rintro e w27 ⟨rfl, k27⟩
  replace k27 := Quiet.keeps k27
  replace mA1_ := mA1_.keeps k27
  replace mB1_ := mB1_.keeps k27
  replace mA3_ := mA3_.keeps k27
  replace mB3_ := mB3_.keeps k27
  replace kw := Keeps.trans kw k27
  have sz28 := kw.size
  clear k27
  go_wp2_with fail
  refine (sameInts_true mB3_.ints mA1_.ints).mono ?_
  rintro e w29 ⟨rfl, k29⟩
  replace k29 := Quiet.keeps k29
  replace mA1_ := mA1_.keeps k29
  replace mB1_ := mB1_.keeps k29
  replace mA3_ := mA3_.keeps k29
  replace mB3_ := mB3_.keeps k29
  replace kw := Keeps.trans kw k29
  have sz30 := kw.size
  clear k29
  go_wp2_with fail
  clear mA1_ mB1_ mA3_ mB3_
  refine (DrawNewTables_any (B1_.keeps kw)).mono ?_
  rintro e w31 ⟨A3, N3, C3, ps3, S3, q3, cq3, l3, R3, n3, cr3, rs3, P3, m3, cm3, ts3, rfl, jG, jN, jS, jcap, jSD, jR, jcr, jr14, jT, jcm, k31⟩
  replace kw := Keeps.trans kw k31
  have sz32 := kw.size
  clear k31
  have jS' : Sch w31 S3 q3 cq3 l3 := ⟨⟨_, _, jS⟩, jSD.names, jcap.1, jcap.2⟩
  clear jS jcap jSD jN
  replace jG := jG.keeps (keeps_alloc w31 (.cells #[.slice A3 N3 C3] 32))
  replace jS' := jS'.keeps (keeps_alloc w31 (.cells #[.slice A3 N3 C3] 32))
  replace jR := jR.keeps (keeps_alloc w31 (.cells #[.slice A3 N3 C3] 32))
  replace jT := jT.keeps (keeps_alloc w31 (.cells #[.slice A3 N3 C3] 32))
  replace kw := Keeps.trans kw (keeps_alloc w31 (.cells #[.slice A3 N3 C3] 32))
  have b18 : B1 (w31.alloc (.cells #[.slice A3 N3 C3] 32)) w31.heap.size (.slice A3 N3 C3) := B1.new' (by simp)
  obtain ⟨z0, z1, HZ⟩ : ∃ z0 z1, Hid (ntQ ps3 l3 rs3 ts3 = (z0, z1)) := ⟨_, _, rfl⟩
  have hzz : (z1 != z1) = false := by simp
  obtain ⟨ca33, fa33⟩ := id b18
  go_wp2_with fail
  clear ca33 fa33
  refine (implNewTables_gen jG jS' jR jT).mono ?_
  rintro e w34 ⟨D4_, d4_, f4_, rfl, mA4_, k34⟩
  replace b18 := b18.keeps k34
  replace jG := jG.keeps k34
  replace jS' := jS'.keeps k34
  replace jR := jR.keeps k34
  replace jT := jT.keeps k34
  replace kw := Keeps.trans kw k34
  have lt35 := b18.lt
  have sz36 := kw.size
  clear k34
  rw [HZ.out]
  rw [HZ.out] at mA4_
  obtain ⟨ca37, fa37⟩ := id b18
  go_wp2_with fail
  clear ca37 fa37
  refine (specNewTables_gen jG jS' jR jT).mono ?_
  rintro e w38 ⟨D5_, d5_, f5_, rfl, mA5_, k38⟩
  replace b18 := b18.keeps k38
  replace jG := jG.keeps k38
  replace jS' := jS'.keeps k38
  replace jR := jR.keeps k38
  replace jT := jT.keeps k38
  replace mA4_ := mA4_.keeps k38
  replace kw := Keeps.trans kw k38
  have lt39 := b18.lt
  have sz40 := kw.size
  clear k38
  rw [HZ.out]
  rw [HZ.out] at mA5_
  go_wp2_with fail
  refine (sameInts_true mA4_.ints mA5_.ints).mono ?_
  rintro e w41 ⟨rfl, k41⟩
  replace k41 := Quiet.keeps k41
  replace b18 := b18.keeps k41
  replace jG := jG.keeps k41
  replace jS' := jS'.keeps k41
  replace jR := jR.keeps k41
  replace jT := jT.keeps k41
  replace mA4_ := mA4_.keeps k41
  replace mA5_ := mA5_.keeps k41
  replace kw := Keeps.trans kw k41
  have lt42 := b18.lt
  have sz43 := kw.size
  clear k41
  clear mA4_ mA5_ jT
  cases z1
  · clear jG jS' jR b18
    go_wp2_with fail
    refine (DrawHistoryText_any (B1_.keeps kw)).mono ?_
    rintro e w44 ⟨A4, N4, C4, ps4, S4, q4, cq4, l4, R4, n4, cr4, rs4, rfl, kG, kN, kS, kcap, kSD, kR, kcr, kr14, k44⟩
    replace kw := Keeps.trans kw k44
    have sz45 := kw.size
    clear k44
    have kS' : Sch w44 S4 q4 cq4 l4 := ⟨⟨_, _, kS⟩, kSD.names, kcap.1, kcap.2⟩
    clear kS kcap kSD kN
    replace kG := kG.keeps (keeps_alloc w44 (.cells #[.slice A4 N4 C4] 32))
    replace kS' := kS'.keeps (keeps_alloc w44 (.cells #[.slice A4 N4 C4] 32))
    replace kR := kR.keeps (keeps_alloc w44 (.cells #[.slice A4 N4 C4] 32))
    replace kw := Keeps.trans kw (keeps_alloc w44 (.cells #[.slice A4 N4 C4] 32))
    have b32 : B1 (w44.alloc (.cells #[.slice A4 N4 C4] 32)) w44.heap.size (.slice A4 N4 C4) := B1.new' (by simp)
    obtain ⟨s0, s1, HX⟩ : ∃ s0 s1, Hid (htQ ps4 l4 rs4 = (s0, s1)) := ⟨_, _, rfl⟩
    have hss : (s0 == s0) = true := by show (s0.data == s0.data) = true; simp
    obtain ⟨ca46, fa46⟩ := id b32
    go_wp2_with fail
    clear ca46 fa46
    refine (implHistoryText_any kG kS' kR (HTB.out.keeps kw)).mono ?_
    rintro e w47 ⟨rfl, k47⟩
    replace b32 := b32.keeps k47
    replace kG := kG.keeps k47
    replace kS' := kS'.keeps k47
    replace kR := kR.keeps k47
    replace kw := Keeps.trans kw k47
    have lt48 := b32.lt
    have sz49 := kw.size
    clear k47
    rw [HX.out]
    obtain ⟨ca50, fa50⟩ := id b32
    go_wp2_with fail
    clear ca50 fa50
    refine (specHistoryText_any kG kS' kR).mono ?_
    rintro e w51 ⟨rfl, k51⟩
    replace b32 := b32.keeps k51
    replace kG := kG.keeps k51
    replace kS' := kS'.keeps k51
    replace kR := kR.keeps k51
    replace kw := Keeps.trans kw k51
    have lt52 := b32.lt
    have sz53 := kw.size
    clear k51
    rw [HX.out]
    clear b32
    cases s1
    all_goals (
      go_wp2_with fail
      go_ret
      exact ⟨by first | rfl | simp, kw⟩)
  have HH := hid (nt_his HZ.out)
  have HRL := hid jR.len
  have hn3 := jR.le
  have l18 := b18.lt
  go_wp2_with fail
  go_loopw [141] (fun i wr => ∃ k : Nat, k ≤ n3 ∧ i = .int .i64 k ∧ Keeps w41 wr) (fun i _ => n3 - (intOf i).toNat)
  case atStart => exact ⟨0, Nat.zero_le _, rfl, keeps_refl _⟩
  case round =>
    obtain ⟨k, hk, rfl, kr⟩ := hrel
    obtain ⟨wq, rfl⟩ : ∃ u : World, u = wr := ⟨_, rfl⟩
    by_cases hlt : k < n3
    rotate_left
    · obtain rfl : k = n3 := by omega
      replace kw := Keeps.trans kw kr
      clear jG jS' jR b18
      go_wp2_with fail
      refine (DrawHistoryText_any (B1_.keeps kw)).mono ?_
      rintro e w44 ⟨A4, N4, C4, ps4, S4, q4, cq4, l4, R4, n4, cr4, rs4, rfl, kG, kN, kS, kcap, kSD, kR, kcr, kr14, k44⟩
      replace kw := Keeps.trans kw k44
      have sz45 := kw.size
      clear k44
      have kS' : Sch w44 S4 q4 cq4 l4 := ⟨⟨_, _, kS⟩, kSD.names, kcap.1, kcap.2⟩
      clear kS kcap kSD kN
      replace kG := kG.keeps (keeps_alloc w44 (.cells #[.slice A4 N4 C4] 32))
      replace kS' := kS'.keeps (keeps_alloc w44 (.cells #[.slice A4 N4 C4] 32))
      replace kR := kR.keeps (keeps_alloc w44 (.cells #[.slice A4 N4 C4] 32))
      replace kw := Keeps.trans kw (keeps_alloc w44 (.cells #[.slice A4 N4 C4] 32))
      have b32 : B1 (w44.alloc (.cells #[.slice A4 N4 C4] 32)) w44.heap.size (.slice A4 N4 C4) := B1.new' (by simp)
      obtain ⟨s0, s1, HX⟩ : ∃ s0 s1, Hid (htQ ps4 l4 rs4 = (s0, s1)) := ⟨_, _, rfl⟩
      have hss : (s0 == s0) = true := by show (s0.data == s0.data) = true; simp
      obtain ⟨ca46, fa46⟩ := id b32
      go_wp2_with fail
      clear ca46 fa46
      refine (implHistoryText_any kG kS' kR (HTB.out.keeps kw)).mono ?_
      rintro e w47 ⟨rfl, k47⟩
      replace b32 := b32.keeps k47
      replace kG := kG.keeps k47
      replace kS' := kS'.keeps k47
      replace kR := kR.keeps k47
      replace kw := Keeps.trans kw k47
      have lt48 := b32.lt
      have sz49 := kw.size
      clear k47
      rw [HX.out]
      obtain ⟨ca50, fa50⟩ := id b32
      go_wp2_with fail
      clear ca50 fa50
      refine (specHistoryText_any kG kS' kR).mono ?_
      rintro e w51 ⟨rfl, k51⟩
      replace b32 := b32.keeps k51
      replace kG := kG.keeps k51
      replace kS' := kS'.keeps k51
      replace kR := kR.keeps k51
      replace kw := Keeps.trans kw k51
      have lt52 := b32.lt
      have sz53 := kw.size
      clear k51
      rw [HX.out]
      clear b32
      cases s1
      all_goals (
        go_wp2_with fail
        go_ret
        exact ⟨by first | rfl | simp, kw⟩)
    have hi1 : (k : Int) < (n3 : Int) := by omega
    obtain ⟨b, off, v, P, np, cp, x1, x2, x3, x4, pl, rfl, hb1, hb2, e0, e1, e2, e3, e4, e5, htp, hx⟩ := (jR.keeps kr).at_ hlt
    have HTL := hid htp.len
    have hnp := htp.le
    have b27 : Bl (wq.alloc (.cells #[.int .i64 v, .slice P np cp, .int .i64 x1, .int .i64 x2, .int .i64 x3, .int .i64 x4] 50)) wq.heap.size [.int .i64 v, .slice P np cp, .int .i64 x1, .int .i64 x2, .int .i64 x3, .int .i64 x4] := Bl.new' (by simp) (by simp)
    have kq : Keeps w41 (wq.alloc (.cells #[.int .i64 v, .slice P np cp, .int .i64 x1, .int .i64 x2, .int .i64 x3, .int .i64 x4] 50)) := Keeps.trans kr (keeps_alloc wq (.cells #[.int .i64 v, .slice P np cp, .int .i64 x1, .int .i64 x2, .int .i64 x3, .int .i64 x4] 50))
    replace htp := htp.keeps (keeps_alloc wq (.cells #[.int .i64 v, .slice P np cp, .int .i64 x1, .int .i64 x2, .int .i64 x3, .int .i64 x4] 50))
    have ca1 := (b27.2 1 _ rfl).1
    go_wp2_with fail
    clear e0 e1 e2 e3 e4 e5 ca1
    obtain ⟨wp, hX⟩ : ∃ u : World, u = wq.alloc (.cells #[.int .i64 v, .slice P np cp, .int .i64 x1, .int .i64 x2, .int .i64 x3, .int .i64 x4] 50) := ⟨_, rfl⟩
    have szp : wq.heap.size < wp.heap.size := by rw [hX]; simp
    rw [← hX] at b27 kq htp
    try rw [← hX]
    clear hX
    go_loopw [148] (fun i wr => ∃ j : Nat, j ≤ np ∧ i = .int .i64 j ∧ Keeps wp wr) (fun i _ => np - (intOf i).toNat)
    case atStart => exact ⟨0, Nat.zero_le _, rfl, keeps_refl _⟩
    case round =>
      obtain ⟨j, hj, rfl, kj⟩ := hrel
      by_cases hjt : j < np
      rotate_left
      · obtain rfl : j = np := by omega
        have KK := hid (Keeps.trans kq kj)
        clear kj kq
        go_wp2_with fail
        go_roundw
        case rel => exact ⟨k + 1, by omega, by go_num, KK.out⟩
        case measure => simp [intOf]; omega
      have hj1 : (j : Int) < (np : Int) := by omega
      obtain ⟨b', off', lu, V', n', c', H', m', d', su, us', xs', rfl, _, _, f0, f1, f2, f3, gv, gh, hx2⟩ := (htp.keeps kj).at_ hjt
      obtain ⟨z, hz, hz1, hz2⟩ := rv_first HH.out (by rw [HRL.out]; exact hlt) hx.out (by rw [HTL.out]; exact hjt) hx2.out
      have HZV := hid hz
      clear hz hx2
      have kk := Keeps.trans kq kj
      have iG := jG.keeps kk
      have iS := jS'.keeps kk
      have iR := jR.keeps kk
      have b18r := b18.keeps kk
      have b27r := b27.keeps kj
      have h1 : ¬ z > v := by omega
      have h2 : ¬ z < 1 := by omega
      replace b18r := b18r.keeps (keeps_alloc wr (.cells #[.int .i64 lu, .slice V' n' c', .slice H' m' d', .int .i64 su] 61))
      replace b27r := b27r.keeps (keeps_alloc wr (.cells #[.int .i64 lu, .slice V' n' c', .slice H' m' d', .int .i64 su] 61))
      replace iG := iG.keeps (keeps_alloc wr (.cells #[.int .i64 lu, .slice V' n' c', .slice H' m' d', .int .i64 su] 61))
      replace iS := iS.keeps (keeps_alloc wr (.cells #[.int .i64 lu, .slice V' n' c', .slice H' m' d', .int .i64 su] 61))
      replace iR := iR.keeps (keeps_alloc wr (.cells #[.int .i64 lu, .slice V' n' c', .slice H' m' d', .int .i64 su] 61))
      replace gv := gv.keeps (keeps_alloc wr (.cells #[.int .i64 lu, .slice V' n' c', .slice H' m' d', .int .i64 su] 61))
      replace gh := gh.keeps (keeps_alloc wr (.cells #[.int .i64 lu, .slice V' n' c', .slice H' m' d', .int .i64 su] 61))
      replace kj := Keeps.trans kj (keeps_alloc wr (.cells #[.int .i64 lu, .slice V' n' c', .slice H' m' d', .int .i64 su] 61))
      have b29 : Bl (wr.alloc (.cells #[.int .i64 lu, .slice V' n' c', .slice H' m' d', .int .i64 su] 61)) wr.heap.size [.int .i64 lu, .slice V' n' c', .slice H' m' d', .int .i64 su] := Bl.new' (by simp) (by simp)
      obtain ⟨ca44, fa44⟩ := id b18r
      have ca45_0 := (b29.2 0 _ rfl).1
      have ca45_1 := (b29.2 1 _ rfl).1
      have ca45_2 := (b29.2 2 _ rfl).1
      have ca45_3 := (b29.2 3 _ rfl).1
      go_wp2_with fail
      clear ca44 fa44 ca45_0 ca45_1 ca45_2 ca45_3
      clear f0 f1 f2 f3
      refine (implFirstVersionOf_gen iG iS iR gv gh).mono ?_
      rintro e w46 ⟨rfl, k46⟩
      replace b18r := b18r.keeps k46
      replace b27r := b27r.keeps k46
      replace b29 := b29.keeps k46
      replace iG := iG.keeps k46
      replace iS := iS.keeps k46
      replace iR := iR.keeps k46
      replace gv := gv.keeps k46
      replace gh := gh.keeps k46
      replace kj := Keeps.trans kj k46
      have lt47 := b29.lt
      have sz48 := kj.size
      clear k46
      rw [HZV.out]
      have ca49_0 := (b27r.2 0 _ rfl).1
      have ca49_1 := (b27r.2 1 _ rfl).1
      have ca49_2 := (b27r.2 2 _ rfl).1
      have ca49_3 := (b27r.2 3 _ rfl).1
      have ca49_4 := (b27r.2 4 _ rfl).1
      have ca49_5 := (b27r.2 5 _ rfl).1
      have KJ := hid kj
      clear kj
      go_wp2_with fail
      clear ca49_0 ca49_1 ca49_2 ca49_3 ca49_4 ca49_5
      go_roundw
      case rel => exact ⟨j + 1, by omega, by go_num, KJ.out⟩
      case measure => simp [intOf]; omega
end Go.Proofs.YtlkjhkkfdmjfcaaGreatDoor
namespace Go.Proofs.YtlkjhkkfdmjfcaaGreatDoor
open Go.RowKit
set_option linter.unusedVariables false
def laid3 : List (String × DataW Unit) := [("math/bits.deBruijn32tab", Rows.laid_math_bits_deBruijn32tab), ("math/bits.deBruijn64tab", Rows.laid_math_bits_deBruijn64tab), ("internal/strconv.uint64pow10", Rows.laid_internal_strconv_uint64pow10)]
theorem pow10_global : Tryz.prog.globalNamed "internal/strconv.uint64pow10" = some 0 := by kernel_rfl
theorem pow10_type : (Tryz.prog.globals[0]?).map (·.type) = some 189 := by kernel_rfl
theorem pow10_data : (Rows.laid_internal_strconv_uint64pow10 : DataW Unit) = Lib.tabData .u64 Lib.pow10Tab := by kernel_rfl
theorem tab10_of {W : World} (h : laidMetH Tryz.prog laid3 W) : Tab10 W := by
  rw [MakeChecks.laidMetH_plain _ _ _ (by kernel_rfl)] at h
  obtain ⟨ps, ⟨_, _, _, _, _, _, _, _, _, _, ⟨_, _, _, _, _, _, _, _, _, _, ⟨g, t, cs, fuel, p, q, hg, ht, hv, hd, _, _⟩, _⟩, _⟩, _⟩ := h
  obtain rfl := Option.some.inj (pow10_global.symm.trans hg)
  obtain rfl := Option.some.inj (pow10_type.symm.trans ht)
  unfold Tab10 Lib.TabIs
  rw [pow10_data] at hd
  rw [hv, ← Lib.cells_of_tab Tryz.underlying189 Tryz.underlying97 (by kernel_rfl) (by kernel_rfl) hd]
end Go.Proofs.YtlkjhkkfdmjfcaaGreatDoor
namespace Go.Proofs.YtlkjhkkfdmjfcaaGreatDoor
namespace fnRevisions
open Go.ChangeShapes Go.WideShapes Go.ChangeAt Go.RowKit
open Go.ChangeMaps (open_string shut_string)
set_option linter.unusedVariables false
/-- The heap that the start lays meets the list. -/
theorem door_met (os : Os) (args : Array Value) : laidMetH Tryz.prog Rows.fnRevisionsRow.laid ((World.doorLaid Tryz.prog 400 os).forCall (fun _ _ => 0) ⟨#[], args, []⟩).memory :=
  laidMetH_of_parts3 (fuel := 8) (laidMet_of_run' 8 (by kernel_rfl) (by kernel_rfl)) (by kernel_rfl) (by kernel_rfl)
/-- What the list says of the table of powers. -/
theorem tab10_of_laid {W : World} (h : laidMetH Tryz.prog Rows.fnRevisionsRow.laid W) : Tab10 W := tab10_of h
set_option maxRecDepth 100000 in
theorem lifted (os : Os) (started : os.Started) (H : Type) (enc : TypeId × Value → H) :
    ReturnsInHanded {} Tryz.checked os 4 .any (fun w args => (Rows.fnRevisionsSpec.pre enc Tryz.prog Tryz.f4 [] false w args ∧ laidMetH Tryz.prog Rows.fnRevisionsRow.laid w) ∧ sizedMet enc Tryz.prog Tryz.f4 (OpenSpec.ofChange Rows.fnRevisionsSpec) false w args) (Rows.fnRevisionsSpec.post enc Tryz.prog Tryz.f4 false true false false) := by
  refine returnsInHanded_of_change_and (C := Tryz.checked) (X := fun w _ => laidMetH Tryz.prog Rows.fnRevisionsRow.laid w) (fun _ _ _ hh h => h.of_heap hh) own started (by kernel_rfl) Tryz.func4
    (ChangeSpec.witness_shaped (enc := enc) (C := Tryz.checked) (os := os) (X := fun w _ => laidMetH Tryz.prog Rows.fnRevisionsRow.laid w) false (World.doorLaid Tryz.prog 400 os) #[.slice none 0 0, .slice none 0 0] 8 rfl (World.shaped_of_RefB (by kernel_rfl) (by kernel_rfl)) (by kernel_rfl) (by kernel_rfl) (by kernel_rfl) (door_met os _)) ?_
  intro W base args ds gs before hval0 hW _ _ hL _
  have ht10 : Tab10 W := tab10_of_laid hL
  have hval : ∀ (j : Nat) t v, Tryz.f4.params[j]? = some t → args[j]? = some v → Value.okWide Tryz.prog W .any base t v := hval0
  have hW' := hW
  obtain ⟨p, q, hA0, hV, rfl, hfz, hnd⟩ := hW
  have hA : DataW.TrodAll enc Tryz.prog W 0 (fun _ => true) true Tryz.f4.params.toList args.toList ds p := hA0
  rw [Tryz.params4] at hA hval
  obtain ⟨v0, vs0, d0, ds0, p0, q0, hargs, rfl, rfl, h0, r0⟩ := trodAll_cons hA
  obtain ⟨v1, vs1, d1, ds1, p1, q1, rfl, rfl, rfl, h1, r1⟩ := trodAll_cons r0
  obtain ⟨rfl, rfl, rfl⟩ := trodAll_nil r1
  obtain rfl : args = #[v0, v1] := by cases args; simp_all
  obtain ⟨rfl, rfl⟩ := trodVars_none hV
  have k0 := h0
  have lt0 : ∀ x ∈ p0, x.block < W.heap.size := by obtain ⟨m, hm⟩ := k0; exact DataW.trod_lt m _ _ _ hm
  obtain ⟨A0, n0, c0, rfl, w0⟩ := open_arg_bytes (hval 0 42 v0 rfl rfl) h0
  have k1 := h1
  have lt1 : ∀ x ∈ p1, x.block < W.heap.size := by obtain ⟨m, hm⟩ := k1; exact DataW.trod_lt m _ _ _ hm
  obtain ⟨A1, n1, c1, rfl, w1⟩ := open_arg_bytes (hval 1 42 v1 rfl rfl) h1
  clear hA0 hval0
  refine (FnRevisions_law A0 n0 c0 A1 n1 c1 W w0 w1 ht10).mono fun e W' ⟨he, bel⟩ => ?_
  subst he
  exact ⟨_, rfl, _, _, _, [], _, [], hW', trodAll_mk1 (shut_bool Tryz.underlying4 _), (trodAll_cons_mk (Below.trod laidOut (by kernel_rfl) (of_decide_eq_true (by kernel_rfl)) k0 bel lt0) (trodAll_cons_mk (Below.trod laidOut (by kernel_rfl) (of_decide_eq_true (by kernel_rfl)) k1 bel lt1) trodAll_mk0)), rfl, bel.frame _, fun h => by cases h⟩
theorem over : Rows.fnRevisionsRow.holds Tryz.pinned (OpenSpec.ofChange Rows.fnRevisionsSpec) :=
  OpenClaim.holds_of_wide 4 Tryz.f4 rfl rfl rfl rfl rfl rfl rfl ⟨rfl, rfl, rfl, rfl, rfl⟩ rfl rfl rfl rfl rfl (by kernel_rfl) Tryz.func4 (by kernel_rfl)
    (of_decide_eq_true (by kernel_rfl)) (by unfold Func.isWrapper; first | (rw [if_pos (by decide +kernel)]; kernel_rfl) | (rw [if_neg (by decide +kernel)]; exact ⟨rfl, rfl⟩))
    (fun os started H enc _ => lifted os started H enc)
theorem said : Rows.FnRevisionsSaid := over
/-- The tied card. -/
theorem proved : Rows.FnRevisionsCardSaid :=
  Claim7.holds_tied_plain_at .later [] [.data, .data, .data] true (true, "bf91cb0f0d770c3a499191be71decbcb381d662a72f85fa3f230ae2bc55b08b9") false
    said (fun _ h => by cases h) (by kernel_rfl) (fun _ h => by cases h) fnRevisions_row_tie rfl ⟨rfl, rfl⟩ (by kernel_rfl) rfl
    (fun f fn hf hfn => by
      obtain rfl : f = 4 := Option.some.inj ((show Tryz.prog.funcNamed "loop.example/g00908/laws.FnRevisions" = some 4 by kernel_rfl).symm.trans hf) |>.symm
      obtain rfl : fn = Tryz.f4 := (Option.some.inj (Tryz.func4.symm.trans hfn)).symm
      exact ⟨by kernel_rfl, fun j t ht => by
        rw [Tryz.params4] at ht
        have hm : t ∈ [42, 42] := by simpa using Array.mem_of_getElem? ht
        have hall : ([42, 42].all fun u => !Tryz.prog.wantsStandIn u) = true := by kernel_rfl
        exact (show Tryz.prog.wantsStandIn t = false by simpa using List.all_eq_true.1 hall t hm)⟩)
    (by kernel_rfl)
#print axioms proved
end fnRevisions
end Go.Proofs.YtlkjhkkfdmjfcaaGreatDoor
