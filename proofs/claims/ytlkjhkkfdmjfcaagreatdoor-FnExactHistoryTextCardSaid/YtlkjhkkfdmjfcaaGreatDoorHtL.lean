/- The law FnExactHistoryText: the walk. -/
import Derived.Test.YtlkjhkkfdmjfcaaGreatDoorTxh
import Derived.Test.YtlkjhkkfdmjfcaaGreatDoorRelH
import Derived.Test.YtlkjhkkfdmjfcaaGreatDoorOpV
import Derived.Test.YtlkjhkkfdmjfcaaGreatDoorKB
import Derived.Deep.RegionHeld3
namespace Go.Proofs.YtlkjhkkfdmjfcaaGreatDoor
open Go.ChangeShapes Go.WideShapes Go.ChangeAt Go.RowKit
set_option linter.unusedVariables false
set_option linter.unusedSimpArgs false
theorem str_ne (r : ByteArray) : (r != r) = false := by show (!(r.data == r.data)) = false; simp
theorem sch_full {w : World} {A : Option Addr} {n lo hi : Nat} {l : List VV} (h : Vars w lo hi A n l) (ok : NamesOk l) : Sch w A n n l := ⟨⟨_, _, h⟩, ok, Nat.le_refl _, by have := h.le; unfold maxLen; omega⟩
theorem specHistoryText_full {A A' R : Option Addr} {lo hi a c0 lo3 hi3 n q lo9 hi9 cr : Nat} {un : Bool} {ps : List Int} {l : List VV} {rs : List RL} {w : World} (h : Ints w lo hi A a ps) (hv : Vars w lo9 hi9 A' q l) (ok : NamesOk l) (hr : Rels true un w lo3 hi3 R n rs) (ht : Tab10 w) :
    Calls Tryz.prog 8 #[.agg #[.slice A a c0], .slice A' q q, .slice R n cr] w fun e w' => e = .returned (.tuple #[.string (htQ ps l rs).1, .bool (htQ ps l rs).2]) ∧ Keeps w w' :=
  specHistoryText_any h (sch_full hv ok) hr
theorem implHistoryText_full {A A' R : Option Addr} {lo hi a c0 lo3 hi3 n q lo9 hi9 cr : Nat} {un : Bool} {ps : List Int} {l : List VV} {rs : List RL} {w : World} (h : Ints w lo hi A a ps) (hv : Vars w lo9 hi9 A' q l) (ok : NamesOk l) (hr : Rels true un w lo3 hi3 R n rs) (ht : Tab10 w) :
    Calls Tryz.prog 12 #[.agg #[.slice A a c0], .slice A' q q, .slice R n cr] w fun e w' => e = .returned (.tuple #[.string (htQ ps l rs).1, .bool (htQ ps l rs).2]) ∧ Keeps w w' :=
  implHistoryText_any h (sch_full hv ok) hr ht
set_option maxRecDepth 100000 in
set_option maxHeartbeats 6400000 in
theorem FnExactHistoryText_law (A0 : Option Addr) (n0 c0 : Nat) (z0 : List Int) (A1 : Option Addr) (n1 c1 : Nat) (z1 : List VV) (A2 : Option Addr) (n2 c2 : Nat) (z2 : List RL) (w : World) (wa0 : IntsArg w A0 n0 z0) (wa1 : VarsArg w A1 n1 z1) (wa2 : RelsArg w A2 n2 z2) (ht9 : Tab10 w) :
    Calls Tryz.prog 3 #[.agg #[.slice A0 n0 c0], .slice A1 n1 c1, .slice A2 n2 c2] w fun e w' => e = .returned (.bool true) ∧ Below w.heap.size w w' := by
  have HNK := hid (show NamesOk z1 from wa1.2.2.1)
  have HTB := hid ht9
  go_enter Tryz.func3, Tryz.ntmps3
  have kw := keeps_refl w
  replace kw := Keeps.trans kw (keeps_alloc w (.cells #[.slice A0 n0 c0] 24))
  have p0 : B1 (w.alloc (.cells #[.slice A0 n0 c0] 24)) w.heap.size (.slice A0 n0 c0) := B1.new' (by simp)
  obtain ⟨ca1, fa1⟩ := id p0
  go_wp2_with fail
  clear ca1 fa1
  by_cases hs0 : (n0 : Int) ≤ 1048576
  rotate_left
  · have hm0 := wa0.1
    refine (szGeo_no _ _ _ (1048576) _ hm0 (by omega) (by omega) (by omega)).mono ?_
    rintro e w2 ⟨rfl, k2⟩
    have ss3 := k2.size
    simp at ss3
    replace p0 := p0.keeps k2
    replace kw := Keeps.trans kw k2
    have lt4 := p0.lt
    have sz5 := kw.size
    clear k2
    go_wp2_with fail
    go_ret
    exact ⟨rfl, kw⟩
  have h0 := wa0.ints (by omega)
  refine (szGeo_ok _ _ _ (1048576) _ (by omega) (by omega)).mono ?_
  rintro e w2 ⟨rfl, k2⟩
  have ss3 := k2.size
  simp at ss3
  replace p0 := p0.keeps k2
  replace kw := Keeps.trans kw k2
  have lt4 := p0.lt
  have sz5 := kw.size
  clear k2
  have tz0 : ¬ (1048576 - (n0 : Int) < 0) := by omega
  obtain ⟨ca6, fa6⟩ := id p0
  go_wp2_with fail
  clear ca6 fa6
  by_cases hs1 : ((n1 : Int) + vsz z1 n1) ≤ 1048576 - (n0 : Int)
  rotate_left
  · have hm1 := wa1.1
    refine (szVariableS_any (left := 1048576 - (n0 : Int)) (wa1.keeps kw) (by omega) (by omega)).mono ?_
    rintro e w7 ⟨rfl, k7⟩
    rw [szVs_no (left := 1048576 - (n0 : Int)) (n := n1) (l := z1) (by omega)]
    have ss8 := k7.size
    replace p0 := p0.keeps k7
    replace kw := Keeps.trans kw k7
    have lt9 := p0.lt
    have sz10 := kw.size
    clear k7
    go_wp2_with fail
    go_ret
    exact ⟨rfl, kw⟩
  have h1 := wa1.vars (by omega)
  refine (szVariableS_any (left := 1048576 - (n0 : Int)) (wa1.keeps kw) (by omega) (by omega)).mono ?_
  rintro e w7 ⟨rfl, k7⟩
  rw [szVs_ok (left := 1048576 - (n0 : Int)) (n := n1) (l := z1) (by omega)]
  have ss8 := k7.size
  replace p0 := p0.keeps k7
  replace kw := Keeps.trans kw k7
  have lt9 := p0.lt
  have sz10 := kw.size
  clear k7
  have tz1 : ¬ (1048576 - (n0 : Int) - ((n1 : Int) + vsz z1 n1) < 0) := by omega
  obtain ⟨ca11, fa11⟩ := id p0
  go_wp2_with fail
  clear ca11 fa11
  by_cases hs2 : ((n2 + rlsz z2 n2 : Nat) : Int) ≤ 1048576 - (n0 : Int) - ((n1 : Int) + vsz z1 n1)
  rotate_left
  · have hm2 := wa2.1
    refine (szReleaseS_any (left := 1048576 - (n0 : Int) - ((n1 : Int) + vsz z1 n1)) (wa2.keeps kw) (by omega) (by omega)).mono ?_
    rintro e w12 ⟨rfl, k12⟩
    rw [szQ_no (left := 1048576 - (n0 : Int) - ((n1 : Int) + vsz z1 n1)) (s := n2 + rlsz z2 n2) hs2]
    have ss13 := k12.size
    replace p0 := p0.keeps k12
    replace kw := Keeps.trans kw k12
    have lt14 := p0.lt
    have sz15 := kw.size
    clear k12
    go_wp2_with fail
    go_ret
    exact ⟨rfl, kw⟩
  have h2 := wa2.rels (by omega)
  refine (szReleaseS_any (left := 1048576 - (n0 : Int) - ((n1 : Int) + vsz z1 n1)) (wa2.keeps kw) (by omega) (by omega)).mono ?_
  rintro e w12 ⟨rfl, k12⟩
  rw [szQ_ok (left := 1048576 - (n0 : Int) - ((n1 : Int) + vsz z1 n1)) (s := n2 + rlsz z2 n2) hs2]
  have ss13 := k12.size
  replace p0 := p0.keeps k12
  replace kw := Keeps.trans kw k12
  have lt14 := p0.lt
  have sz15 := kw.size
  clear k12
  have tz2 : ¬ (1048576 - (n0 : Int) - ((n1 : Int) + vsz z1 n1) - ((n2 + rlsz z2 n2 : Nat) : Int) < 0) := by omega
  obtain ⟨ca16, fa16⟩ := id p0
  go_wp2_with fail
  clear ca16 fa16
  obtain ⟨r0, r1, HR⟩ : ∃ r0 r1, Hid (htQ z0 z1 z2 = (r0, r1)) := ⟨_, _, rfl⟩
  refine (toGeo_any (h0.keeps kw)).mono ?_
  rintro e w17 ⟨By0, rfl, y0, k17⟩
  have ss18 := k17.size
  replace p0 := p0.keeps k17
  replace kw := Keeps.trans kw k17
  have lt19 := p0.lt
  have sz20 := kw.size
  clear k17
  obtain ⟨ca21, fa21⟩ := id p0
  go_wp2_with fail
  clear ca21 fa21
  refine (toVariableS_any (h1.keeps kw)).mono ?_
  rintro e w22 ⟨By1, rfl, y1, k22⟩
  have ss23 := k22.size
  replace p0 := p0.keeps k22
  replace y0 := y0.keeps k22
  replace kw := Keeps.trans kw k22
  have lt24 := p0.lt
  have sz25 := kw.size
  clear k22
  obtain ⟨ca26, fa26⟩ := id p0
  go_wp2_with fail
  clear ca26 fa26
  refine (toReleaseS_any (h2.keeps kw)).mono ?_
  rintro e w27 ⟨By2, rfl, y2, k27⟩
  have ss28 := k27.size
  replace p0 := p0.keeps k27
  replace y0 := y0.keeps k27
  replace y1 := y1.keeps k27
  replace kw := Keeps.trans kw k27
  have lt29 := p0.lt
  have sz30 := kw.size
  clear k27
  obtain ⟨ca31, fa31⟩ := id p0
  go_wp2_with fail
  clear ca31 fa31
  refine (specHistoryText_full y0.1 y1.1 HNK.out y2 (HTB.out.keeps kw)).mono ?_
  rintro e w32 ⟨rfl, k32⟩
  rw [HR.out]
  have ss33 := k32.size
  replace p0 := p0.keeps k32
  replace y0 := y0.keeps k32
  replace y1 := y1.keeps k32
  replace y2 := y2.keeps k32
  replace kw := Keeps.trans kw k32
  have lt34 := p0.lt
  have sz35 := kw.size
  clear k32
  clear y0
  clear y1
  clear y2
  obtain ⟨ca36, fa36⟩ := id p0
  go_wp2_with fail
  clear ca36 fa36
  refine (toGeo_any (h0.keeps kw)).mono ?_
  rintro e w37 ⟨Bx0, rfl, x0, k37⟩
  have ss38 := k37.size
  replace p0 := p0.keeps k37
  replace kw := Keeps.trans kw k37
  have lt39 := p0.lt
  have sz40 := kw.size
  clear k37
  replace p0 := p0.keeps (keeps_alloc w37 (.cells #[.slice Bx0 n0 n0] 32))
  replace x0 := x0.keeps (keeps_alloc w37 (.cells #[.slice Bx0 n0 n0] 32))
  replace kw := Keeps.trans kw (keeps_alloc w37 (.cells #[.slice Bx0 n0 n0] 32))
  have bx0 : B1 (w37.alloc (.cells #[.slice Bx0 n0 n0] 32)) w37.heap.size (.slice Bx0 n0 n0) := B1.new' (by simp)
  obtain ⟨ca41, fa41⟩ := id p0
  obtain ⟨ca42, fa42⟩ := id bx0
  go_wp2_with fail
  clear ca41 fa41 ca42 fa42
  refine (toVariableS_any (h1.keeps kw)).mono ?_
  rintro e w43 ⟨Bx1, rfl, x1, k43⟩
  have ss44 := k43.size
  simp at ss44
  replace p0 := p0.keeps k43
  replace bx0 := bx0.keeps k43
  replace x0 := x0.keeps k43
  replace kw := Keeps.trans kw k43
  have lt45 := bx0.lt
  have sz46 := kw.size
  clear k43
  replace x1 := x1.widen (lo' := w37.heap.size + 1) (by simp) (Nat.le_refl _) (Nat.le_refl _)
  obtain ⟨ca47, fa47⟩ := id p0
  obtain ⟨ca48, fa48⟩ := id bx0
  go_wp2_with fail
  clear ca47 fa47 ca48 fa48
  refine (toReleaseS_any (h2.keeps kw)).mono ?_
  rintro e w49 ⟨Bx2, rfl, x2, k49⟩
  have ss50 := k49.size
  replace p0 := p0.keeps k49
  replace bx0 := bx0.keeps k49
  replace x0 := x0.keeps k49
  replace x1 := x1.keeps k49
  replace kw := Keeps.trans kw k49
  have lt51 := bx0.lt
  have sz52 := kw.size
  clear k49
  obtain ⟨ca53, fa53⟩ := id p0
  obtain ⟨ca54, fa54⟩ := id bx0
  go_wp2_with fail
  clear ca53 fa53 ca54 fa54
  refine (implHistoryText_full x0.1 x1.1 HNK.out x2 (HTB.out.keeps kw)).mono ?_
  rintro e w55 ⟨rfl, k55⟩
  rw [HR.out]
  have ss56 := k55.size
  replace p0 := p0.keeps k55
  replace bx0 := bx0.keeps k55
  replace x0 := x0.keeps k55
  replace x1 := x1.keeps k55
  replace x2 := x2.keeps k55
  replace kw := Keeps.trans kw k55
  have lt57 := bx0.lt
  have sz58 := kw.size
  clear k55
  obtain ⟨ca59, fa59⟩ := id p0
  obtain ⟨ca60, fa60⟩ := id bx0
  go_wp2_with fail
  clear ca59 fa59 ca60 fa60
  have e0 : (r0 != r0) = false := str_ne r0
  have e1 : (r1 != r1) = false := by simp
  obtain ⟨ca61, -⟩ := id bx0
  obtain ⟨ca62, -⟩ := id p0
  have kS := hid (show ∀ w', Keeps w55 w' → (w'.cell? ⟨w37.heap.size, 0, none⟩ = some (.slice Bx0 n0 n0) ∧ w'.cell? ⟨w.heap.size, 0, none⟩ = some (.slice A0 n0 c0)) from fun w' k => ⟨cell_keeps ca61 k, cell_keeps ca62 k⟩)
  go_region_held3 (fun w' => w'.cell? ⟨w37.heap.size, 0, none⟩ = some (.slice Bx0 n0 n0) ∧ w'.cell? ⟨w.heap.size, 0, none⟩ = some (.slice A0 n0 c0)) (first | exact kS.out _ (keeps_d0 w55) | exact kS.out _ kW | go_keep)
    ((first | (go_at_call 9; refine (toGeo_any (h0.keeps (Keeps.trans kw (keeps_d0 w55)))).mono ?_; rintro e wB63 ⟨Bt63, rfl, t0, kB⟩; have kW : Keeps w55 wB63 := keeps_d kB; clear kB) | (go_at_call 13; refine (eqGeo_true (x0.1.keeps kW) t0.1).mono ?_; rintro e wC63 ⟨rfl, kC⟩; replace kW : Keeps w55 wC63 := kW.trans kC; clear kC)))
  clear kS t0
  clear ca61 ca62
  have ss64 := kW.size
  replace p0 := p0.keeps kW
  replace bx0 := bx0.keeps kW
  replace x0 := x0.keeps kW
  replace x1 := x1.keeps kW
  replace x2 := x2.keeps kW
  replace kw := Keeps.trans kw kW
  have lt65 := bx0.lt
  have sz66 := kw.size
  clear kW
  obtain ⟨ca67, fa67⟩ := id p0
  obtain ⟨ca68, fa68⟩ := id bx0
  go_wp2_with fail
  clear ca67 fa67 ca68 fa68
  refine (toVariableS_any (h1.keeps kw)).mono ?_
  rintro e w69 ⟨Bt1, rfl, t1, k69⟩
  have ss70 := k69.size
  replace p0 := p0.keeps k69
  replace bx0 := bx0.keeps k69
  replace x0 := x0.keeps k69
  replace x1 := x1.keeps k69
  replace x2 := x2.keeps k69
  replace kw := Keeps.trans kw k69
  have lt71 := bx0.lt
  have sz72 := kw.size
  clear k69
  obtain ⟨ca73, fa73⟩ := id p0
  obtain ⟨ca74, fa74⟩ := id bx0
  go_wp2_with fail
  clear ca73 fa73 ca74 fa74
  refine (eqVariableS_true x1.1 t1.1).mono ?_
  rintro e w75 ⟨rfl, k75⟩
  have ss76 := k75.size
  replace p0 := p0.keeps k75
  replace bx0 := bx0.keeps k75
  replace x0 := x0.keeps k75
  replace x1 := x1.keeps k75
  replace x2 := x2.keeps k75
  replace t1 := t1.keeps k75
  replace kw := Keeps.trans kw k75
  have lt77 := bx0.lt
  have sz78 := kw.size
  clear k75
  clear t1
  obtain ⟨ca79, fa79⟩ := id p0
  obtain ⟨ca80, fa80⟩ := id bx0
  go_wp2_with fail
  clear ca79 fa79 ca80 fa80
  refine (toReleaseS_any (h2.keeps kw)).mono ?_
  rintro e w81 ⟨Bt2, rfl, t2, k81⟩
  have ss82 := k81.size
  replace p0 := p0.keeps k81
  replace bx0 := bx0.keeps k81
  replace x0 := x0.keeps k81
  replace x1 := x1.keeps k81
  replace x2 := x2.keeps k81
  replace kw := Keeps.trans kw k81
  have lt83 := bx0.lt
  have sz84 := kw.size
  clear k81
  obtain ⟨ca85, fa85⟩ := id p0
  obtain ⟨ca86, fa86⟩ := id bx0
  go_wp2_with fail
  clear ca85 fa85 ca86 fa86
  refine (eqReleaseS_true x2 t2).mono ?_
  rintro e w87 ⟨rfl, k87⟩
  have ss88 := k87.size
  replace p0 := p0.keeps k87
  replace bx0 := bx0.keeps k87
  replace x0 := x0.keeps k87
  replace x1 := x1.keeps k87
  replace x2 := x2.keeps k87
  replace t2 := t2.keeps k87
  replace kw := Keeps.trans kw k87
  have lt89 := bx0.lt
  have sz90 := kw.size
  clear k87
  clear t2
  obtain ⟨ca91, fa91⟩ := id p0
  obtain ⟨ca92, fa92⟩ := id bx0
  go_wp2_with fail
  clear ca91 fa91 ca92 fa92
  go_ret
  exact ⟨rfl, kw⟩
end Go.Proofs.YtlkjhkkfdmjfcaaGreatDoor
