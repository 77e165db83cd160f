/- TypeAt: of the program and of the reference, and the law. -/
import Derived.Test.YtnopedjgagoahaaTat
import Derived.Test.YtnopedjgagoahaaVarH
import Derived.Test.YtnopedjgagoahaaDat
import Derived.Deep.QuietTactic
import Derived.BigQuiet
namespace Go.Proofs.Ytnopedjgagoahaa
open Go.ChangeShapes Go.WideShapes Go.ChangeAt Go.RowKit
set_option linter.unusedVariables false
set_option linter.unusedSimpArgs false

def taB (ps : List Int) (l : List VV) (i : Int) : Bool := tyB ps l && inB i 0 (tyN ps l - 1)
def taQ (ps : List Int) (l : List VV) (i : Int) : Int × List Int × Bool := if taB ps l i = true then (taLeaf ps l i, taVals l i, true) else (0, [], false)
theorem taQ_no {ps : List Int} {l : List VV} {i : Int} (h : taB ps l i = false) : taQ ps l i = (0, [], false) := if_neg (by rw [h]; simp)
theorem taQ_yes {ps : List Int} {l : List VV} {i : Int} (h : taB ps l i = true) : taQ ps l i = (taLeaf ps l i, taVals l i, true) := if_pos h
/-- A leaf, values of one's own, and whether they are fine. -/
def TaRes (w : World) (R : Int × List Int × Bool) (e : Ending) (w' : World) : Prop := ∃ A n c, e = .returned (.tuple #[.int .i64 R.1, .slice A n c, .bool R.2.2]) ∧ Mine w' w.heap.size w'.heap.size A n R.2.1 ∧ Keeps w w'
theorem TaRes.no {w w' : World} {R : Int × List Int × Bool} (h : R = (0, [], false)) (k : Keeps w w') : TaRes w R (.returned (.tuple #[.int .i64 0, .slice none 0 0, .bool false])) w' := by
  subst h; exact ⟨_, _, _, rfl, Mine.nil_ _ _, k⟩
theorem TaRes.yes {w w' : World} {R : Int × List Int × Bool} {a : Int} {xs : List Int} {A : Option Addr} {n c : Nat} (h : R = (a, xs, true)) (m : Mine w' w.heap.size w'.heap.size A n xs) (k : Keeps w w') : TaRes w R (.returned (.tuple #[.int .i64 a, .slice A n c, .bool true])) w' := by
  subst h; exact ⟨_, _, _, rfl, m, k⟩
theorem tyB_parts {ps : List Int} {l : List VV} (ht : tyB ps l = true) : geoB ps = true ∧ schB l = true := by unfold tyB at ht; simp only [Bool.and_eq_true] at ht; exact ht.1

set_option maxRecDepth 100000 in
set_option maxHeartbeats 3200000 in
theorem implTypeAt_any {A : Option Addr} {lo hi n c : Nat} {ps : List Int} {A' : Option Addr} {lo' hi' m : Nat} {l : List VV} {w : World} (h : Ints w lo hi A n ps) (hv : Vars w lo' hi' A' m l) (ok : NamesOk l) {i : Int} :
    Calls Try.prog 56 #[.agg #[.slice A n c], .slice A' m m, .int .i64 i] w (TaRes w (taQ ps l i)) := by
  have hm := hv.le
  have h' : Sch w A' m m l := ⟨⟨_, _, hv⟩, ok, Nat.le_refl _, by unfold maxLen; omega⟩
  have HB := hid (show taB ps l i = (tyB ps l && inB i 0 (tyN ps l - 1)) from rfl)
  go_enter Try.func56, Try.ntmps56
  have kw := keeps_refl w
  replace kw := Keeps.trans kw (keeps_alloc w (.cells #[.slice A n c] 53))
  have b3 : B1 (w.alloc (.cells #[.slice A n c] 53)) w.heap.size (.slice A n c) := B1.new' (by simp)
  obtain ⟨ca1, fa1⟩ := id b3
  go_wp2_with fail
  clear ca1 fa1
  obtain ⟨pH1, H1⟩ : ∃ pB, Hid (tyB ps l = pB) := ⟨_, rfl⟩
  refine (areTyped_any (h.keeps kw) (h'.keeps kw)).mono ?_
  rintro e w2 ⟨rfl, k2⟩
  rw [H1.out]
  replace b3 := b3.keeps k2
  replace kw := Keeps.trans kw k2
  have lt3 := b3.lt
  have sz4 := kw.size
  clear k2
  cases pH1
  · have HN := hid (taQ_no (i := i) (show taB ps l i = false by rw [HB.out]; rw [H1.out]; rfl))
    go_wp2_with fail
    go_ret3
    exact TaRes.no HN.out kw
  · skip
    have hp := tyB_parts H1.out
    have hb := tyN_bd hp.1 hp.2
    obtain ⟨Z, hZ⟩ : ∃ Z, tyN ps l = Z := ⟨_, rfl⟩
    rw [hZ] at hb HB
    have HZ := hid hZ
    clear hZ
    obtain ⟨hg, hs⟩ := hp
    obtain ⟨hb0, hb1⟩ := hb
    replace hg := hid hg
    replace hs := hid hs
    by_cases i0 : 0 ≤ i
    rotate_left
    · have i0' : i < 0 := by omega
      have HN := hid (taQ_no (i := i) (show taB ps l i = false by rw [HB.out]; rw [show inB i 0 (Z - 1) = false by rw [Bool.eq_false_iff]; intro e; have := inB_true.1 e; omega, Bool.and_false]))
      go_wp2_with fail
      go_ret3
      exact TaRes.no HN.out kw
    obtain ⟨ca5, fa5⟩ := id b3
    go_wp2_with fail
    clear ca5 fa5
    refine (typeCount_any (h.keeps kw) (h'.keeps kw) hg.out hs.out).mono ?_
    rintro e w6 ⟨rfl, k6⟩
    rw [HZ.out]
    replace b3 := b3.keeps k6
    replace kw := Keeps.trans kw k6
    have lt7 := b3.lt
    have sz8 := kw.size
    clear k6
    by_cases i1 : i < Z
    rotate_left
    · have i1' : Z ≤ i := by omega
      have HN := hid (taQ_no (i := i) (show taB ps l i = false by rw [HB.out]; rw [show inB i 0 (Z - 1) = false by rw [Bool.eq_false_iff]; intro e; have := inB_true.1 e; omega, Bool.and_false]))
      go_wp2_with fail
      go_ret3
      exact TaRes.no HN.out kw
    have hi2 : 0 ≤ i ∧ i ≤ Z - 1 := by omega
    have H2 := hid (inB_true.2 hi2)
    have HY := hid (taQ_yes (i := i) (show taB ps l i = true by rw [HB.out, H1.out, H2.out]; rfl))
    obtain ⟨ca9, fa9⟩ := id b3
    go_wp2_with fail
    clear ca9 fa9
    have ksz := hid kw.size
    refine (typeAt_any (h.keeps kw) (h'.keeps kw) H1.out (by omega) (by rw [HZ.out]; omega)).mono ?_
    rintro e w10 ⟨VA, rfl, mV, k10⟩
    replace b3 := b3.keeps k10
    replace kw := Keeps.trans kw k10
    have lt11 := b3.lt
    have sz12 := kw.size
    clear k10
    obtain ⟨la, hla⟩ : ∃ a, taLeaf ps l i = a := ⟨_, rfl⟩
    obtain ⟨lv, hlv⟩ : ∃ a, taVals l i = a := ⟨_, rfl⟩
    rw [hla, hlv] at HY
    rw [hlv] at mV
    rw [hla]
    clear hla hlv
    replace b3 := b3.keeps (keeps_alloc w10 (.cells #[.int .i64 la, .int .i64 0, .slice VA m m] 160))
    replace mV := mV.keeps (keeps_alloc w10 (.cells #[.int .i64 la, .int .i64 0, .slice VA m m] 160))
    replace kw := Keeps.trans kw (keeps_alloc w10 (.cells #[.int .i64 la, .int .i64 0, .slice VA m m] 160))
    have b9 : Bl (w10.alloc (.cells #[.int .i64 la, .int .i64 0, .slice VA m m] 160)) w10.heap.size [.int .i64 la, .int .i64 0, .slice VA m m] := Bl.new' (by simp) (by simp)
    go_wp2_with fail
    obtain ⟨W, hX⟩ : ∃ u : World, u = (w10.alloc (.cells #[.int .i64 la, .int .i64 0, .slice VA m m] 160)) := ⟨_, rfl⟩
    have szX12 := hid (show W.heap.size = w10.heap.size + 1 by rw [hX]; simp)
    rw [← hX] at b3
    rw [← hX] at b9
    rw [← hX] at mV
    rw [← hX] at kw
    rw [← hX]
    clear hX
    have sz14 := kw.size
    have hsz := hid (show w10.heap.size ≤ W.heap.size by rw [szX12.out]; omega)
    have bD := b9.keeps (keeps_d0 W)
    have q0 := (bD.2 0 _ rfl).1
    have r0 := (b9.2 0 _ rfl).1
    have q1 := (bD.2 1 _ rfl).1
    have r1 := (b9.2 1 _ rfl).1
    have q2 := (bD.2 2 _ rfl).1
    have r2 := (b9.2 2 _ rfl).1
    go_quiet (fail)
    have HM := hid mV
    have HK := hid kw
    have HL := hid (show w.heap.size ≤ _ from (show Keeps w _ from kw).size)
    clear mV kw q0 q1 q2 r0 r1 r2 bD
    go_wp2
    go_ret3
    refine TaRes.yes HY.out ?_ ?_
    · exact (HM.out.keeps (Keeps.drewN _ _)).widen (by have := ksz.out; simp at this ⊢; omega) (Nat.le_trans hsz.out (Keeps.drewN _ _).size) (Nat.le_refl _)
    · exact HK.out.trans (Keeps.drewN _ _)
set_option maxRecDepth 100000 in
set_option maxHeartbeats 3200000 in
theorem specTypeAt_any {A : Option Addr} {lo hi n c : Nat} {ps : List Int} {A' : Option Addr} {lo' hi' m : Nat} {l : List VV} {w : World} (h : Ints w lo hi A n ps) (hv : Vars w lo' hi' A' m l) (ok : NamesOk l) {i : Int} :
    Calls Try.prog 53 #[.agg #[.slice A n c], .slice A' m m, .int .i64 i] w (TaRes w (taQ ps l i)) := by
  have hm := hv.le
  have h' : Sch w A' m m l := ⟨⟨_, _, hv⟩, ok, Nat.le_refl _, by unfold maxLen; omega⟩
  have HB := hid (show taB ps l i = (tyB ps l && inB i 0 (tyN ps l - 1)) from rfl)
  go_enter Try.func53, Try.ntmps53
  have kw := keeps_refl w
  replace kw := Keeps.trans kw (keeps_alloc w (.cells #[.slice A n c] 53))
  have b3 : B1 (w.alloc (.cells #[.slice A n c] 53)) w.heap.size (.slice A n c) := B1.new' (by simp)
  obtain ⟨ca1, fa1⟩ := id b3
  go_wp2_with fail
  clear ca1 fa1
  obtain ⟨pH1, H1⟩ : ∃ pB, Hid (tyB ps l = pB) := ⟨_, rfl⟩
  refine (aGood_any (h.keeps kw) (h'.keeps kw)).mono ?_
  rintro e w2 ⟨rfl, k2⟩
  rw [H1.out]
  replace b3 := b3.keeps k2
  replace kw := Keeps.trans kw k2
  have lt3 := b3.lt
  have sz4 := kw.size
  clear k2
  cases pH1
  · have HN := hid (taQ_no (i := i) (show taB ps l i = false by rw [HB.out]; rw [H1.out]; rfl))
    go_wp2_with fail
    go_ret3
    exact TaRes.no HN.out kw
  · skip
    have hp := tyB_parts H1.out
    have hb := tyN_bd hp.1 hp.2
    obtain ⟨Z, hZ⟩ : ∃ Z, tyN ps l = Z := ⟨_, rfl⟩
    rw [hZ] at hb HB
    have HZ := hid hZ
    clear hZ
    obtain ⟨hg, hs⟩ := hp
    obtain ⟨hb0, hb1⟩ := hb
    replace hg := hid hg
    replace hs := hid hs
    obtain ⟨ca5, fa5⟩ := id b3
    go_wp2_with fail
    clear ca5 fa5
    refine (aTypes_any (h.keeps kw) (h'.keeps kw) hg.out hs.out).mono ?_
    rintro e w6 ⟨rfl, k6⟩
    rw [HZ.out]
    replace b3 := b3.keeps k6
    replace kw := Keeps.trans kw k6
    have lt7 := b3.lt
    have sz8 := kw.size
    clear k6
    go_wp2_with fail
    obtain ⟨p2, H2⟩ : ∃ p, Hid (inB i 0 (Z - 1) = p) := ⟨_, rfl⟩
    refine (l1In_any _ _ _ _).mono ?_
    rintro e w' ⟨rfl, rfl⟩
    rw [H2.out]
    cases p2
    · have HN := hid (taQ_no (i := i) (show taB ps l i = false by rw [HB.out]; rw [H2.out, Bool.and_false]))
      go_wp2_with fail
      go_ret3
      exact TaRes.no HN.out kw
    have hi2 := inB_true.1 H2.out
    have HY := hid (taQ_yes (i := i) (show taB ps l i = true by rw [HB.out, H1.out, H2.out]; rfl))
    obtain ⟨ca9, fa9⟩ := id b3
    go_wp2_with fail
    clear ca9 fa9
    have ksz := hid kw.size
    refine (aRecord_any (h.keeps kw) (h'.keeps kw) H1.out (by omega) (by rw [HZ.out]; omega)).mono ?_
    rintro e w10 ⟨VA, rfl, mV, k10⟩
    replace b3 := b3.keeps k10
    replace kw := Keeps.trans kw k10
    have lt11 := b3.lt
    have sz12 := kw.size
    clear k10
    obtain ⟨la, hla⟩ : ∃ a, taLeaf ps l i = a := ⟨_, rfl⟩
    obtain ⟨lv, hlv⟩ : ∃ a, taVals l i = a := ⟨_, rfl⟩
    rw [hla, hlv] at HY
    rw [hlv] at mV
    rw [hla]
    clear hla hlv
    replace b3 := b3.keeps (keeps_alloc w10 (.cells #[.int .i64 la, .int .i64 0, .slice VA m m] 160))
    replace mV := mV.keeps (keeps_alloc w10 (.cells #[.int .i64 la, .int .i64 0, .slice VA m m] 160))
    replace kw := Keeps.trans kw (keeps_alloc w10 (.cells #[.int .i64 la, .int .i64 0, .slice VA m m] 160))
    have b9 : Bl (w10.alloc (.cells #[.int .i64 la, .int .i64 0, .slice VA m m] 160)) w10.heap.size [.int .i64 la, .int .i64 0, .slice VA m m] := Bl.new' (by simp) (by simp)
    go_wp2_with fail
    obtain ⟨W, hX⟩ : ∃ u : World, u = (w10.alloc (.cells #[.int .i64 la, .int .i64 0, .slice VA m m] 160)) := ⟨_, rfl⟩
    have szX12 := hid (show W.heap.size = w10.heap.size + 1 by rw [hX]; simp)
    rw [← hX] at b3
    rw [← hX] at b9
    rw [← hX] at mV
    rw [← hX] at kw
    rw [← hX]
    clear hX
    have sz14 := kw.size
    have hsz := hid (show w10.heap.size ≤ W.heap.size by rw [szX12.out]; omega)
    have bD := b9.keeps (keeps_d0 W)
    have q0 := (bD.2 0 _ rfl).1
    have r0 := (b9.2 0 _ rfl).1
    have q1 := (bD.2 1 _ rfl).1
    have r1 := (b9.2 1 _ rfl).1
    have q2 := (bD.2 2 _ rfl).1
    have r2 := (b9.2 2 _ rfl).1
    go_quiet (fail)
    have HM := hid mV
    have HK := hid kw
    have HL := hid (show w.heap.size ≤ _ from (show Keeps w _ from kw).size)
    clear mV kw q0 q1 q2 r0 r1 r2 bD
    go_wp2
    go_ret3
    refine TaRes.yes HY.out ?_ ?_
    · exact (HM.out.keeps (Keeps.drewN _ _)).widen (by have := ksz.out; simp at this ⊢; omega) (Nat.le_trans hsz.out (Keeps.drewN _ _).size) (Nat.le_refl _)
    · exact HK.out.trans (Keeps.drewN _ _)
end Go.Proofs.Ytnopedjgagoahaa
