/- The law FnGuesses: the walk. -/
import Derived.Test.YtnopedjgagoahaaDrawE
import Derived.Test.YtnopedjgagoahaaDrawZ
import Derived.Test.YtnopedjgagoahaaKK
import Derived.Test.YtnopedjgagoahaaMeL
import Derived.Test.YtnopedjgagoahaaMex
import Derived.Test.YtnopedjgagoahaaMpr
import Derived.Test.YtnopedjgagoahaaCmpf
namespace Go.Proofs.Ytnopedjgagoahaa
open Go.RowKit
set_option linter.unusedVariables false
set_option linter.unusedSimpArgs false

theorem nbQ_fracG {ll : List (List QQ)} {a b : Int} (e : nbQ ll = (a, b, true)) : fracB a b = true := by
  by_cases h : mechB ll = true
  · rw [nbQ_yes h] at e
    exact (accQ_fine (by decide) (fun _ _ _ h => nbSt_fine h) _).ok e
  · rw [nbQ_no (by simpa using h)] at e; cases e
theorem bgQ_frac {ll : List (List QQ)} {pr : List QQ} {a b : Int} (e : bgQ ll pr = (a, b, true)) : fracB a b = true := by
  by_cases h : bgB ll pr = true
  · rw [bgQ_yes h] at e
    exact (accQ_fine (by decide) (fun _ _ _ _ => bgOut_fine _ _ _ _ _ _) _).ok e
  · rw [bgQ_no (by simpa using h)] at e; cases e
theorem wf_smallG {i : Int} (h : -10 ≤ i ∧ i ≤ 20) : (Lit.int .i64 i).wf = true := by simp [Lit.wf, IntKind.min, IntKind.max, IntKind.signed, IntKind.bits]; omega
/-- Some fraction and a mark. -/
def SomeQ (w : World) (e : Ending) (w' : World) : Prop := ∃ r1 r2 r3, e = .returned (.tuple #[.agg #[.int .i64 r1, .int .i64 r2], .bool r3]) ∧ Keeps w w'

set_option maxRecDepth 100000 in
set_option maxHeartbeats 1600000 in
theorem MulFracW_any {a b c d : Int} {w : World} :
    Calls Try.prog 32 #[.agg #[.int .i64 a, .int .i64 b], .agg #[.int .i64 c, .int .i64 d]] w (SomeQ w) := by
  by_cases h1 : fracB a b = true
  · by_cases h2 : fracB c d = true
    · exact (MulFrac_any h1 h2).mono fun e w' h => ⟨_, _, _, h.1, h.2⟩
    · skip
      have H1 := hid h1
      have H2 := hid (show fracB c d = false by simpa using h2)
      clear h1 h2
      go_enter Try.func32, Try.ntmps32
      have kw := keeps_refl w
      replace kw := Keeps.trans kw (keeps_alloc w (.cells #[.int .i64 a, .int .i64 b] 31))
      have b2 : Bx (w.alloc (.cells #[.int .i64 a, .int .i64 b] 31)) w.heap.size a b := Bx.new' (by simp)
      replace b2 := b2.keeps (keeps_alloc (w.alloc (.cells #[.int .i64 a, .int .i64 b] 31)) (.cells #[.int .i64 c, .int .i64 d] 31))
      replace kw := Keeps.trans kw (keeps_alloc (w.alloc (.cells #[.int .i64 a, .int .i64 b] 31)) (.cells #[.int .i64 c, .int .i64 d] 31))
      have b3 : Bx ((w.alloc (.cells #[.int .i64 a, .int .i64 b] 31)).alloc (.cells #[.int .i64 c, .int .i64 d] 31)) (w.heap.size + 1) c d := Bx.new' (by simp)
      replace b2 := b2.keeps (keeps_alloc ((w.alloc (.cells #[.int .i64 a, .int .i64 b] 31)).alloc (.cells #[.int .i64 c, .int .i64 d] 31)) (.cells #[.int .i64 0, .int .i64 0] 31))
      replace b3 := b3.keeps (keeps_alloc ((w.alloc (.cells #[.int .i64 a, .int .i64 b] 31)).alloc (.cells #[.int .i64 c, .int .i64 d] 31)) (.cells #[.int .i64 0, .int .i64 0] 31))
      replace kw := Keeps.trans kw (keeps_alloc ((w.alloc (.cells #[.int .i64 a, .int .i64 b] 31)).alloc (.cells #[.int .i64 c, .int .i64 d] 31)) (.cells #[.int .i64 0, .int .i64 0] 31))
      have b4 : Bx (((w.alloc (.cells #[.int .i64 a, .int .i64 b] 31)).alloc (.cells #[.int .i64 c, .int .i64 d] 31)).alloc (.cells #[.int .i64 0, .int .i64 0] 31)) (w.heap.size + 1 + 1) 0 0 := Bx.new' (by simp)
      obtain ⟨ca1, cb1, fa1, fb1⟩ := id b2
      go_wp2_with fail
      clear ca1 cb1 fa1 fb1
      refine (IsFrac_any).mono ?_
      rintro e w2 ⟨rfl, k2⟩
      rw [H1.out]
      replace b2 := b2.keeps k2
      replace b3 := b3.keeps k2
      replace b4 := b4.keeps k2
      replace kw := Keeps.trans kw k2
      have lt3 := b4.lt
      have sz4 := kw.size
      clear k2
      obtain ⟨ca5, cb5, fa5, fb5⟩ := id b3
      go_wp2_with fail
      clear ca5 cb5 fa5 fb5
      refine (IsFrac_any).mono ?_
      rintro e w6 ⟨rfl, k6⟩
      rw [H2.out]
      replace b2 := b2.keeps k6
      replace b3 := b3.keeps k6
      replace b4 := b4.keeps k6
      replace kw := Keeps.trans kw k6
      have lt7 := b4.lt
      have sz8 := kw.size
      clear k6
      obtain ⟨ca9, cb9, fa9, fb9⟩ := id b4
      go_wp2_with fail
      clear ca9 cb9 fa9 fb9
      obtain ⟨ca0, cb0, fa0, fb0⟩ := id b4
      try simp only [Exit.inBlock, Exit.then]
      refine bodyPost_ret (v := .tuple #[.agg #[.int .i64 0, .int .i64 0], .bool false]) (by simp [results, Try.results32, go_sem, ca0, cb0]) rfl ⟨_, _, _, rfl, ?_⟩
      exact below_set2 kw (p := (w.heap.size + 1 + 1)) (by omega) _ _
  · have H1 := hid (show fracB a b = false by simpa using h1)
    clear h1
    go_enter Try.func32, Try.ntmps32
    have kw := keeps_refl w
    replace kw := Keeps.trans kw (keeps_alloc w (.cells #[.int .i64 a, .int .i64 b] 31))
    have b2 : Bx (w.alloc (.cells #[.int .i64 a, .int .i64 b] 31)) w.heap.size a b := Bx.new' (by simp)
    replace b2 := b2.keeps (keeps_alloc (w.alloc (.cells #[.int .i64 a, .int .i64 b] 31)) (.cells #[.int .i64 c, .int .i64 d] 31))
    replace kw := Keeps.trans kw (keeps_alloc (w.alloc (.cells #[.int .i64 a, .int .i64 b] 31)) (.cells #[.int .i64 c, .int .i64 d] 31))
    have b3 : Bx ((w.alloc (.cells #[.int .i64 a, .int .i64 b] 31)).alloc (.cells #[.int .i64 c, .int .i64 d] 31)) (w.heap.size + 1) c d := Bx.new' (by simp)
    replace b2 := b2.keeps (keeps_alloc ((w.alloc (.cells #[.int .i64 a, .int .i64 b] 31)).alloc (.cells #[.int .i64 c, .int .i64 d] 31)) (.cells #[.int .i64 0, .int .i64 0] 31))
    replace b3 := b3.keeps (keeps_alloc ((w.alloc (.cells #[.int .i64 a, .int .i64 b] 31)).alloc (.cells #[.int .i64 c, .int .i64 d] 31)) (.cells #[.int .i64 0, .int .i64 0] 31))
    replace kw := Keeps.trans kw (keeps_alloc ((w.alloc (.cells #[.int .i64 a, .int .i64 b] 31)).alloc (.cells #[.int .i64 c, .int .i64 d] 31)) (.cells #[.int .i64 0, .int .i64 0] 31))
    have b4 : Bx (((w.alloc (.cells #[.int .i64 a, .int .i64 b] 31)).alloc (.cells #[.int .i64 c, .int .i64 d] 31)).alloc (.cells #[.int .i64 0, .int .i64 0] 31)) (w.heap.size + 1 + 1) 0 0 := Bx.new' (by simp)
    obtain ⟨ca1, cb1, fa1, fb1⟩ := id b2
    go_wp2_with fail
    clear ca1 cb1 fa1 fb1
    refine (IsFrac_any).mono ?_
    rintro e w2 ⟨rfl, k2⟩
    rw [H1.out]
    replace b2 := b2.keeps k2
    replace b3 := b3.keeps k2
    replace b4 := b4.keeps k2
    replace kw := Keeps.trans kw k2
    have lt3 := b4.lt
    have sz4 := kw.size
    clear k2
    obtain ⟨ca5, cb5, fa5, fb5⟩ := id b4
    go_wp2_with fail
    clear ca5 cb5 fa5 fb5
    obtain ⟨ca0, cb0, fa0, fb0⟩ := id b4
    try simp only [Exit.inBlock, Exit.then]
    refine bodyPost_ret (v := .tuple #[.agg #[.int .i64 0, .int .i64 0], .bool false]) (by simp [results, Try.results32, go_sem, ca0, cb0]) rfl ⟨_, _, _, rfl, ?_⟩
    exact below_set2 kw (p := (w.heap.size + 1 + 1)) (by omega) _ _
set_option maxRecDepth 100000 in
set_option maxHeartbeats 25600000 in
theorem FnGuesses_law (A0 : Option Addr) (n0 c0 : Nat) (A1 : Option Addr) (n1 c1 : Nat) (w : World) (wa0 : BytesArg w A0 n0) (wa1 : BytesArg w A1 n1) :
    Calls Try.prog 4 #[.slice A0 n0 c0, .slice A1 n1 c1] w fun e w' => e = .returned (.bool true) ∧ Below w.heap.size w w' := by
  have B0 := wa0
  have B1_ := wa1
  have m0 := wa0.1
  have m1 := wa1.1
  obtain ⟨S, hS⟩ : ∃ S, wrap64 ((n0 : Int) + (n1 : Int)) = S := ⟨_, rfl⟩
  by_cases hlt : 1048576 < S
  · go_enter Try.func4, Try.ntmps4
    have kw := keeps_refl w
    go_wp2_with fail
    go_ret
    exact ⟨rfl, kw⟩
  go_enter Try.func4, Try.ntmps4
  have kw := keeps_refl w
  go_wp2_with fail
  refine (DrawBestGuess_any B0).mono ?_
  rintro e w1 ⟨mA, mN, mC, mm, pA, pN, pC, pr, rfl, mF, pF, k1⟩
  replace kw := Keeps.trans kw k1
  have sz2 := kw.size
  clear k1
  replace mF := mF.keeps (keeps_alloc w1 (.cells #[.slice mA mN mC] 25))
  replace pF := pF.keeps (keeps_alloc w1 (.cells #[.slice mA mN mC] 25))
  replace kw := Keeps.trans kw (keeps_alloc w1 (.cells #[.slice mA mN mC] 25))
  have b5 : B1 (w1.alloc (.cells #[.slice mA mN mC] 25)) w1.heap.size (.slice mA mN mC) := B1.new' (by simp)
  obtain ⟨ca3, fa3⟩ := id b5
  go_wp2_with fail
  clear ca3 fa3
  obtain ⟨g1, g2, ok, HG⟩ : ∃ x y z, Hid (bgQ mm pr = (x, y, z)) := ⟨_, _, _, rfl⟩
  refine (implBestGuess_any mF pF).mono ?_
  rintro e w4 ⟨rfl, k4⟩
  rw [HG.out]
  replace b5 := b5.keeps k4
  replace mF := mF.keeps k4
  replace pF := pF.keeps k4
  replace kw := Keeps.trans kw k4
  have lt5 := b5.lt
  have sz6 := kw.size
  clear k4
  replace b5 := b5.keeps (keeps_alloc w4 (.cells #[.int .i64 g1, .int .i64 g2] 31))
  replace mF := mF.keeps (keeps_alloc w4 (.cells #[.int .i64 g1, .int .i64 g2] 31))
  replace pF := pF.keeps (keeps_alloc w4 (.cells #[.int .i64 g1, .int .i64 g2] 31))
  replace kw := Keeps.trans kw (keeps_alloc w4 (.cells #[.int .i64 g1, .int .i64 g2] 31))
  have b7 : Bx (w4.alloc (.cells #[.int .i64 g1, .int .i64 g2] 31)) w4.heap.size g1 g2 := Bx.new' (by simp)
  obtain ⟨ca7, fa7⟩ := id b5
  go_wp2_with fail
  clear ca7 fa7
  refine (specBestGuess_any mF pF).mono ?_
  rintro e w8 ⟨rfl, k8⟩
  rw [HG.out]
  replace b5 := b5.keeps k8
  replace b7 := b7.keeps k8
  replace mF := mF.keeps k8
  replace pF := pF.keeps k8
  replace kw := Keeps.trans kw k8
  have lt9 := b7.lt
  have sz10 := kw.size
  clear k8
  replace b5 := b5.keeps (keeps_alloc w8 (.cells #[.int .i64 g1, .int .i64 g2] 31))
  replace b7 := b7.keeps (keeps_alloc w8 (.cells #[.int .i64 g1, .int .i64 g2] 31))
  replace mF := mF.keeps (keeps_alloc w8 (.cells #[.int .i64 g1, .int .i64 g2] 31))
  replace pF := pF.keeps (keeps_alloc w8 (.cells #[.int .i64 g1, .int .i64 g2] 31))
  replace kw := Keeps.trans kw (keeps_alloc w8 (.cells #[.int .i64 g1, .int .i64 g2] 31))
  have b9 : Bx (w8.alloc (.cells #[.int .i64 g1, .int .i64 g2] 31)) w8.heap.size g1 g2 := Bx.new' (by simp)
  clear b5 mF
  go_wp2_with fail
  refine (DrawProductOf_any (B1_.keeps kw)).mono ?_
  rintro e w11 ⟨aA, aN, aC, aa, bA, bN, bC, bb, rfl, aF, bF, k11⟩
  replace b7 := b7.keeps k11
  replace b9 := b9.keeps k11
  replace pF := pF.keeps k11
  replace kw := Keeps.trans kw k11
  have lt12 := b9.lt
  have sz13 := kw.size
  clear k11
  replace b7 := b7.keeps (keeps_alloc w11 (.cells #[.slice aA aN aC] 25))
  replace b9 := b9.keeps (keeps_alloc w11 (.cells #[.slice aA aN aC] 25))
  replace pF := pF.keeps (keeps_alloc w11 (.cells #[.slice aA aN aC] 25))
  replace aF := aF.keeps (keeps_alloc w11 (.cells #[.slice aA aN aC] 25))
  replace bF := bF.keeps (keeps_alloc w11 (.cells #[.slice aA aN aC] 25))
  replace kw := Keeps.trans kw (keeps_alloc w11 (.cells #[.slice aA aN aC] 25))
  have b11 : B1 (w11.alloc (.cells #[.slice aA aN aC] 25)) w11.heap.size (.slice aA aN aC) := B1.new' (by simp)
  replace b7 := b7.keeps (keeps_alloc (w11.alloc (.cells #[.slice aA aN aC] 25)) (.cells #[.slice bA bN bC] 25))
  replace b9 := b9.keeps (keeps_alloc (w11.alloc (.cells #[.slice aA aN aC] 25)) (.cells #[.slice bA bN bC] 25))
  replace b11 := b11.keeps (keeps_alloc (w11.alloc (.cells #[.slice aA aN aC] 25)) (.cells #[.slice bA bN bC] 25))
  replace pF := pF.keeps (keeps_alloc (w11.alloc (.cells #[.slice aA aN aC] 25)) (.cells #[.slice bA bN bC] 25))
  replace aF := aF.keeps (keeps_alloc (w11.alloc (.cells #[.slice aA aN aC] 25)) (.cells #[.slice bA bN bC] 25))
  replace bF := bF.keeps (keeps_alloc (w11.alloc (.cells #[.slice aA aN aC] 25)) (.cells #[.slice bA bN bC] 25))
  replace kw := Keeps.trans kw (keeps_alloc (w11.alloc (.cells #[.slice aA aN aC] 25)) (.cells #[.slice bA bN bC] 25))
  have b12 : B1 ((w11.alloc (.cells #[.slice aA aN aC] 25)).alloc (.cells #[.slice bA bN bC] 25)) (w11.heap.size + 1) (.slice bA bN bC) := B1.new' (by simp)
  obtain ⟨ca14, fa14⟩ := id b11
  obtain ⟨ca15, fa15⟩ := id b12
  go_wp2_with fail
  clear ca14 fa14 ca15 fa15
  obtain ⟨xx, one, HP⟩ : ∃ x y, Hid (prQ aa bb = (x, y)) := ⟨_, _, rfl⟩
  refine (implProductOf_any aF bF).mono ?_
  rintro e w16 ⟨xA, xN, xC, rfl, xM, k16⟩
  replace b7 := b7.keeps k16
  replace b9 := b9.keeps k16
  replace b11 := b11.keeps k16
  replace b12 := b12.keeps k16
  replace pF := pF.keeps k16
  replace aF := aF.keeps k16
  replace bF := bF.keeps k16
  replace kw := Keeps.trans kw k16
  have lt17 := b12.lt
  have sz18 := kw.size
  clear k16
  rw [HP.out] at xM
  rw [HP.out]
  dsimp only at xM
  dsimp only
  replace b7 := b7.keeps (keeps_alloc w16 (.cells #[.slice xA xN xC] 25))
  replace b9 := b9.keeps (keeps_alloc w16 (.cells #[.slice xA xN xC] 25))
  replace b11 := b11.keeps (keeps_alloc w16 (.cells #[.slice xA xN xC] 25))
  replace b12 := b12.keeps (keeps_alloc w16 (.cells #[.slice xA xN xC] 25))
  replace pF := pF.keeps (keeps_alloc w16 (.cells #[.slice xA xN xC] 25))
  replace aF := aF.keeps (keeps_alloc w16 (.cells #[.slice xA xN xC] 25))
  replace bF := bF.keeps (keeps_alloc w16 (.cells #[.slice xA xN xC] 25))
  replace xM := xM.keeps (keeps_alloc w16 (.cells #[.slice xA xN xC] 25))
  replace kw := Keeps.trans kw (keeps_alloc w16 (.cells #[.slice xA xN xC] 25))
  have b13 : B1 (w16.alloc (.cells #[.slice xA xN xC] 25)) w16.heap.size (.slice xA xN xC) := B1.new' (by simp)
  obtain ⟨ca19, fa19⟩ := id b11
  obtain ⟨ca20, fa20⟩ := id b12
  go_wp2_with fail
  clear ca19 fa19 ca20 fa20
  refine (specProductOf_any aF bF).mono ?_
  rintro e w21 ⟨uA, uN, uC, rfl, uM, k21⟩
  replace b7 := b7.keeps k21
  replace b9 := b9.keeps k21
  replace b11 := b11.keeps k21
  replace b12 := b12.keeps k21
  replace b13 := b13.keeps k21
  replace pF := pF.keeps k21
  replace aF := aF.keeps k21
  replace bF := bF.keeps k21
  replace xM := xM.keeps k21
  replace kw := Keeps.trans kw k21
  have lt22 := b13.lt
  have sz23 := kw.size
  clear k21
  rw [HP.out] at uM
  rw [HP.out]
  dsimp only at uM
  dsimp only
  replace b7 := b7.keeps (keeps_alloc w21 (.cells #[.slice uA uN uC] 25))
  replace b9 := b9.keeps (keeps_alloc w21 (.cells #[.slice uA uN uC] 25))
  replace b11 := b11.keeps (keeps_alloc w21 (.cells #[.slice uA uN uC] 25))
  replace b12 := b12.keeps (keeps_alloc w21 (.cells #[.slice uA uN uC] 25))
  replace b13 := b13.keeps (keeps_alloc w21 (.cells #[.slice uA uN uC] 25))
  replace pF := pF.keeps (keeps_alloc w21 (.cells #[.slice uA uN uC] 25))
  replace aF := aF.keeps (keeps_alloc w21 (.cells #[.slice uA uN uC] 25))
  replace bF := bF.keeps (keeps_alloc w21 (.cells #[.slice uA uN uC] 25))
  replace xM := xM.keeps (keeps_alloc w21 (.cells #[.slice uA uN uC] 25))
  replace uM := uM.keeps (keeps_alloc w21 (.cells #[.slice uA uN uC] 25))
  replace kw := Keeps.trans kw (keeps_alloc w21 (.cells #[.slice uA uN uC] 25))
  have b15 : B1 (w21.alloc (.cells #[.slice uA uN uC] 25)) w21.heap.size (.slice uA uN uC) := B1.new' (by simp)
  go_wp2_with fail
  refine (DrawExpectedOutput_any (B1_.keeps kw)).mono ?_
  rintro e w24 ⟨hA, hN, hC, hh, i, rfl, hF, hi, k24⟩
  replace b7 := b7.keeps k24
  replace b9 := b9.keeps k24
  replace b11 := b11.keeps k24
  replace b12 := b12.keeps k24
  replace b13 := b13.keeps k24
  replace b15 := b15.keeps k24
  replace pF := pF.keeps k24
  replace aF := aF.keeps k24
  replace bF := bF.keeps k24
  replace xM := xM.keeps k24
  replace uM := uM.keeps k24
  replace kw := Keeps.trans kw k24
  have lt25 := b15.lt
  have sz26 := kw.size
  clear k24
  replace b7 := b7.keeps (keeps_alloc w24 (.cells #[.slice hA hN hC] 25))
  replace b9 := b9.keeps (keeps_alloc w24 (.cells #[.slice hA hN hC] 25))
  replace b11 := b11.keeps (keeps_alloc w24 (.cells #[.slice hA hN hC] 25))
  replace b12 := b12.keeps (keeps_alloc w24 (.cells #[.slice hA hN hC] 25))
  replace b13 := b13.keeps (keeps_alloc w24 (.cells #[.slice hA hN hC] 25))
  replace b15 := b15.keeps (keeps_alloc w24 (.cells #[.slice hA hN hC] 25))
  replace pF := pF.keeps (keeps_alloc w24 (.cells #[.slice hA hN hC] 25))
  replace aF := aF.keeps (keeps_alloc w24 (.cells #[.slice hA hN hC] 25))
  replace bF := bF.keeps (keeps_alloc w24 (.cells #[.slice hA hN hC] 25))
  replace xM := xM.keeps (keeps_alloc w24 (.cells #[.slice hA hN hC] 25))
  replace uM := uM.keeps (keeps_alloc w24 (.cells #[.slice hA hN hC] 25))
  replace hF := hF.keeps (keeps_alloc w24 (.cells #[.slice hA hN hC] 25))
  replace kw := Keeps.trans kw (keeps_alloc w24 (.cells #[.slice hA hN hC] 25))
  have b17 : B1 (w24.alloc (.cells #[.slice hA hN hC] 25)) w24.heap.size (.slice hA hN hC) := B1.new' (by simp)
  obtain ⟨ca27, fa27⟩ := id b17
  have wi := wf_smallG hi
  go_wp2_with fail
  clear ca27 fa27
  obtain ⟨e1, e2, three, HE⟩ : ∃ x y z, Hid (exQ hh i = (x, y, z)) := ⟨_, _, _, rfl⟩
  refine (implExpectedOutput_any hF wi).mono ?_
  rintro e w28 ⟨rfl, k28⟩
  rw [HE.out]
  replace b7 := b7.keeps k28
  replace b9 := b9.keeps k28
  replace b11 := b11.keeps k28
  replace b12 := b12.keeps k28
  replace b13 := b13.keeps k28
  replace b15 := b15.keeps k28
  replace b17 := b17.keeps k28
  replace pF := pF.keeps k28
  replace aF := aF.keeps k28
  replace bF := bF.keeps k28
  replace xM := xM.keeps k28
  replace uM := uM.keeps k28
  replace hF := hF.keeps k28
  replace kw := Keeps.trans kw k28
  have lt29 := b17.lt
  have sz30 := kw.size
  clear k28
  replace b7 := b7.keeps (keeps_alloc w28 (.cells #[.int .i64 e1, .int .i64 e2] 31))
  replace b9 := b9.keeps (keeps_alloc w28 (.cells #[.int .i64 e1, .int .i64 e2] 31))
  replace b11 := b11.keeps (keeps_alloc w28 (.cells #[.int .i64 e1, .int .i64 e2] 31))
  replace b12 := b12.keeps (keeps_alloc w28 (.cells #[.int .i64 e1, .int .i64 e2] 31))
  replace b13 := b13.keeps (keeps_alloc w28 (.cells #[.int .i64 e1, .int .i64 e2] 31))
  replace b15 := b15.keeps (keeps_alloc w28 (.cells #[.int .i64 e1, .int .i64 e2] 31))
  replace b17 := b17.keeps (keeps_alloc w28 (.cells #[.int .i64 e1, .int .i64 e2] 31))
  replace pF := pF.keeps (keeps_alloc w28 (.cells #[.int .i64 e1, .int .i64 e2] 31))
  replace aF := aF.keeps (keeps_alloc w28 (.cells #[.int .i64 e1, .int .i64 e2] 31))
  replace bF := bF.keeps (keeps_alloc w28 (.cells #[.int .i64 e1, .int .i64 e2] 31))
  replace xM := xM.keeps (keeps_alloc w28 (.cells #[.int .i64 e1, .int .i64 e2] 31))
  replace uM := uM.keeps (keeps_alloc w28 (.cells #[.int .i64 e1, .int .i64 e2] 31))
  replace hF := hF.keeps (keeps_alloc w28 (.cells #[.int .i64 e1, .int .i64 e2] 31))
  replace kw := Keeps.trans kw (keeps_alloc w28 (.cells #[.int .i64 e1, .int .i64 e2] 31))
  have b19 : Bx (w28.alloc (.cells #[.int .i64 e1, .int .i64 e2] 31)) w28.heap.size e1 e2 := Bx.new' (by simp)
  obtain ⟨ca31, fa31⟩ := id b17
  go_wp2_with fail
  clear ca31 fa31
  refine (specExpectedOutput_any hF wi).mono ?_
  rintro e w32 ⟨rfl, k32⟩
  rw [HE.out]
  replace b7 := b7.keeps k32
  replace b9 := b9.keeps k32
  replace b11 := b11.keeps k32
  replace b12 := b12.keeps k32
  replace b13 := b13.keeps k32
  replace b15 := b15.keeps k32
  replace b17 := b17.keeps k32
  replace b19 := b19.keeps k32
  replace pF := pF.keeps k32
  replace aF := aF.keeps k32
  replace bF := bF.keeps k32
  replace xM := xM.keeps k32
  replace uM := uM.keeps k32
  replace hF := hF.keeps k32
  replace kw := Keeps.trans kw k32
  have lt33 := b19.lt
  have sz34 := kw.size
  clear k32
  replace b7 := b7.keeps (keeps_alloc w32 (.cells #[.int .i64 e1, .int .i64 e2] 31))
  replace b9 := b9.keeps (keeps_alloc w32 (.cells #[.int .i64 e1, .int .i64 e2] 31))
  replace b11 := b11.keeps (keeps_alloc w32 (.cells #[.int .i64 e1, .int .i64 e2] 31))
  replace b12 := b12.keeps (keeps_alloc w32 (.cells #[.int .i64 e1, .int .i64 e2] 31))
  replace b13 := b13.keeps (keeps_alloc w32 (.cells #[.int .i64 e1, .int .i64 e2] 31))
  replace b15 := b15.keeps (keeps_alloc w32 (.cells #[.int .i64 e1, .int .i64 e2] 31))
  replace b17 := b17.keeps (keeps_alloc w32 (.cells #[.int .i64 e1, .int .i64 e2] 31))
  replace b19 := b19.keeps (keeps_alloc w32 (.cells #[.int .i64 e1, .int .i64 e2] 31))
  replace pF := pF.keeps (keeps_alloc w32 (.cells #[.int .i64 e1, .int .i64 e2] 31))
  replace aF := aF.keeps (keeps_alloc w32 (.cells #[.int .i64 e1, .int .i64 e2] 31))
  replace bF := bF.keeps (keeps_alloc w32 (.cells #[.int .i64 e1, .int .i64 e2] 31))
  replace xM := xM.keeps (keeps_alloc w32 (.cells #[.int .i64 e1, .int .i64 e2] 31))
  replace uM := uM.keeps (keeps_alloc w32 (.cells #[.int .i64 e1, .int .i64 e2] 31))
  replace hF := hF.keeps (keeps_alloc w32 (.cells #[.int .i64 e1, .int .i64 e2] 31))
  replace kw := Keeps.trans kw (keeps_alloc w32 (.cells #[.int .i64 e1, .int .i64 e2] 31))
  have b21 : Bx (w32.alloc (.cells #[.int .i64 e1, .int .i64 e2] 31)) w32.heap.size e1 e2 := Bx.new' (by simp)
  clear b17 hF
  clear hi wi HE
  have t1_ : (ok != ok) = false := by simp
  have t2_ : (one != one) = false := by simp
  have t3_ : (three != three) = false := by simp
  obtain ⟨ca35, cb35, fa35, fb35⟩ := id b7
  obtain ⟨ca36, cb36, fa36, fb36⟩ := id b9
  obtain ⟨ca37, fa37⟩ := id b13
  obtain ⟨ca38, fa38⟩ := id b15
  go_wp2_with fail
  clear ca35 cb35 fa35 fb35 ca36 cb36 fa36 fb36 ca37 fa37 ca38 fa38
  refine (qMechanism_true xM.rows uM.rows).mono ?_
  rintro e w39 ⟨rfl, k39⟩
  replace b7 := b7.keeps k39
  replace b9 := b9.keeps k39
  replace b11 := b11.keeps k39
  replace b12 := b12.keeps k39
  replace b13 := b13.keeps k39
  replace b15 := b15.keeps k39
  replace b19 := b19.keeps k39
  replace b21 := b21.keeps k39
  replace pF := pF.keeps k39
  replace aF := aF.keeps k39
  replace bF := bF.keeps k39
  replace xM := xM.keeps k39
  replace uM := uM.keeps k39
  replace kw := Keeps.trans kw k39
  have lt40 := b21.lt
  have sz41 := kw.size
  clear k39
  clear b15 uM
  obtain ⟨ca42, cb42, fa42, fb42⟩ := id b19
  obtain ⟨ca43, cb43, fa43, fb43⟩ := id b21
  cases one
  · cases ok
    · go_wp2_with fail
      clear ca42 cb42 fa42 fb42 ca43 cb43 fa43 fb43
      go_ret
      exact ⟨rfl, kw⟩
    have hpl := Fracs.len pF
    have hple := pF.le
    have HGF := hid (bgQ_frac HG.out)
    have HL := hid hpl
    clear hpl
    have HW := hid kw
    have hsz := kw.size
    go_wp2_with fail
    clear ca42 cb42 fa42 fb42 ca43 cb43 fa43 fb43
    obtain ⟨wv, hX⟩ : ∃ u : World, u = w39 := ⟨_, rfl⟩
    rw [← hX] at pF b7 kw
    rw [← hX]
    clear hX HW
    go_loopw [171] (fun i wr => ∃ k : Nat, k ≤ pN ∧ i = .int .i64 k ∧ Bx wr w4.heap.size g1 g2 ∧ Fracs wr _ _ pA pN pr ∧ Keeps w wr) (fun i _ => pN - (intOf i).toNat)
    case atStart => exact ⟨0, Nat.zero_le _, rfl, b7, pF, kw⟩
    clear b7 pF kw
    case round =>
      obtain ⟨k, hk, rfl, b7, pF, kw⟩ := hrel
      have lt7 := b7.lt
      have szk := kw.size
      by_cases hkn : k < pN
      · obtain ⟨ba, oa, x, y, rfl, _, hb, hc, hd, hx⟩ := Fracs.at_ pF hkn
        have hki : (k : Int) < (pN : Int) := by omega
        have HU := guess_up HG.out (i := k) (by rw [HL.out]; exact hkn) hx.out
        obtain ⟨hu1, hu2⟩ := HU
        have HC := hid (cfQ_yes hu1 HGF.out)
        obtain ⟨o, HO⟩ : ∃ o, Hid (cmpQ x y g1 g2 = o) := ⟨_, rfl⟩
        rw [HO.out] at hu2 HC
        clear hu1
        replace b7 := b7.keeps (keeps_alloc wr (.cells #[.int .i64 x, .int .i64 y] 31))
        replace pF := pF.keeps (keeps_alloc wr (.cells #[.int .i64 x, .int .i64 y] 31))
        replace kw := Keeps.trans kw (keeps_alloc wr (.cells #[.int .i64 x, .int .i64 y] 31))
        have b34 : Bx (wr.alloc (.cells #[.int .i64 x, .int .i64 y] 31)) wr.heap.size x y := Bx.new' (by simp)
        obtain ⟨ca44, cb44, fa44, fb44⟩ := id b7
        obtain ⟨ca45, cb45, fa45, fb45⟩ := id b34
        go_wp2_with fail
        clear ca44 cb44 fa44 fb44 ca45 cb45 fa45 fb45
        refine (CompareFrac_any).mono ?_
        rintro e w46 ⟨rfl, k46⟩
        rw [HC.out]
        replace b7 := b7.keeps k46
        replace b34 := b34.keeps k46
        replace pF := pF.keeps k46
        replace kw := Keeps.trans kw k46
        have lt47 := b34.lt
        have sz48 := kw.size
        clear k46
        clear hc hd
        go_wp2_with fail
        go_roundw
        case rel => exact ⟨k + 1, by omega, by go_num, b7, pF, kw⟩
        case measure => simp [intOf]; omega
      · obtain rfl : k = pN := by omega
        go_wp2_with fail
        go_ret
        exact ⟨rfl, kw⟩
  obtain ⟨r1, r2, r3, HR⟩ : ∃ x y z, Hid (nbQ aa = (x, y, z)) := ⟨_, _, _, rfl⟩
  obtain ⟨ca44, fa44⟩ := id b11
  go_wp2_with fail
  clear ca42 cb42 fa42 fb42 ca43 cb43 fa43 fb43 ca44 fa44
  refine (implNeighbourRatio_any aF).mono ?_
  rintro e w45 ⟨rfl, k45⟩
  rw [HR.out]
  replace b7 := b7.keeps k45
  replace b9 := b9.keeps k45
  replace b11 := b11.keeps k45
  replace b12 := b12.keeps k45
  replace b13 := b13.keeps k45
  replace b19 := b19.keeps k45
  replace b21 := b21.keeps k45
  replace pF := pF.keeps k45
  replace aF := aF.keeps k45
  replace bF := bF.keeps k45
  replace xM := xM.keeps k45
  replace kw := Keeps.trans kw k45
  have lt46 := b21.lt
  have sz47 := kw.size
  clear k45
  replace b7 := b7.keeps (keeps_alloc w45 (.cells #[.int .i64 r1, .int .i64 r2] 31))
  replace b9 := b9.keeps (keeps_alloc w45 (.cells #[.int .i64 r1, .int .i64 r2] 31))
  replace b11 := b11.keeps (keeps_alloc w45 (.cells #[.int .i64 r1, .int .i64 r2] 31))
  replace b12 := b12.keeps (keeps_alloc w45 (.cells #[.int .i64 r1, .int .i64 r2] 31))
  replace b13 := b13.keeps (keeps_alloc w45 (.cells #[.int .i64 r1, .int .i64 r2] 31))
  replace b19 := b19.keeps (keeps_alloc w45 (.cells #[.int .i64 r1, .int .i64 r2] 31))
  replace b21 := b21.keeps (keeps_alloc w45 (.cells #[.int .i64 r1, .int .i64 r2] 31))
  replace pF := pF.keeps (keeps_alloc w45 (.cells #[.int .i64 r1, .int .i64 r2] 31))
  replace aF := aF.keeps (keeps_alloc w45 (.cells #[.int .i64 r1, .int .i64 r2] 31))
  replace bF := bF.keeps (keeps_alloc w45 (.cells #[.int .i64 r1, .int .i64 r2] 31))
  replace xM := xM.keeps (keeps_alloc w45 (.cells #[.int .i64 r1, .int .i64 r2] 31))
  replace kw := Keeps.trans kw (keeps_alloc w45 (.cells #[.int .i64 r1, .int .i64 r2] 31))
  have b23 : Bx (w45.alloc (.cells #[.int .i64 r1, .int .i64 r2] 31)) w45.heap.size r1 r2 := Bx.new' (by simp)
  obtain ⟨s1, s2, s3, HS⟩ : ∃ x y z, Hid (nbQ bb = (x, y, z)) := ⟨_, _, _, rfl⟩
  obtain ⟨ca48, fa48⟩ := id b12
  go_wp2_with fail
  clear ca48 fa48
  refine (implNeighbourRatio_any bF).mono ?_
  rintro e w49 ⟨rfl, k49⟩
  rw [HS.out]
  replace b7 := b7.keeps k49
  replace b9 := b9.keeps k49
  replace b11 := b11.keeps k49
  replace b12 := b12.keeps k49
  replace b13 := b13.keeps k49
  replace b19 := b19.keeps k49
  replace b21 := b21.keeps k49
  replace b23 := b23.keeps k49
  replace pF := pF.keeps k49
  replace aF := aF.keeps k49
  replace bF := bF.keeps k49
  replace xM := xM.keeps k49
  replace kw := Keeps.trans kw k49
  have lt50 := b23.lt
  have sz51 := kw.size
  clear k49
  replace b7 := b7.keeps (keeps_alloc w49 (.cells #[.int .i64 s1, .int .i64 s2] 31))
  replace b9 := b9.keeps (keeps_alloc w49 (.cells #[.int .i64 s1, .int .i64 s2] 31))
  replace b11 := b11.keeps (keeps_alloc w49 (.cells #[.int .i64 s1, .int .i64 s2] 31))
  replace b12 := b12.keeps (keeps_alloc w49 (.cells #[.int .i64 s1, .int .i64 s2] 31))
  replace b13 := b13.keeps (keeps_alloc w49 (.cells #[.int .i64 s1, .int .i64 s2] 31))
  replace b19 := b19.keeps (keeps_alloc w49 (.cells #[.int .i64 s1, .int .i64 s2] 31))
  replace b21 := b21.keeps (keeps_alloc w49 (.cells #[.int .i64 s1, .int .i64 s2] 31))
  replace b23 := b23.keeps (keeps_alloc w49 (.cells #[.int .i64 s1, .int .i64 s2] 31))
  replace pF := pF.keeps (keeps_alloc w49 (.cells #[.int .i64 s1, .int .i64 s2] 31))
  replace aF := aF.keeps (keeps_alloc w49 (.cells #[.int .i64 s1, .int .i64 s2] 31))
  replace bF := bF.keeps (keeps_alloc w49 (.cells #[.int .i64 s1, .int .i64 s2] 31))
  replace xM := xM.keeps (keeps_alloc w49 (.cells #[.int .i64 s1, .int .i64 s2] 31))
  replace kw := Keeps.trans kw (keeps_alloc w49 (.cells #[.int .i64 s1, .int .i64 s2] 31))
  have b25 : Bx (w49.alloc (.cells #[.int .i64 s1, .int .i64 s2] 31)) w49.heap.size s1 s2 := Bx.new' (by simp)
  obtain ⟨t1, t2, t3, HT⟩ : ∃ x y z, Hid (nbQ xx = (x, y, z)) := ⟨_, _, _, rfl⟩
  obtain ⟨ca52, fa52⟩ := id b13
  go_wp2_with fail
  clear ca52 fa52
  refine (implNeighbourRatio_any xM.rows).mono ?_
  rintro e w53 ⟨rfl, k53⟩
  rw [HT.out]
  replace b7 := b7.keeps k53
  replace b9 := b9.keeps k53
  replace b11 := b11.keeps k53
  replace b12 := b12.keeps k53
  replace b13 := b13.keeps k53
  replace b19 := b19.keeps k53
  replace b21 := b21.keeps k53
  replace b23 := b23.keeps k53
  replace b25 := b25.keeps k53
  replace pF := pF.keeps k53
  replace aF := aF.keeps k53
  replace bF := bF.keeps k53
  replace xM := xM.keeps k53
  replace kw := Keeps.trans kw k53
  have lt54 := b25.lt
  have sz55 := kw.size
  clear k53
  replace b7 := b7.keeps (keeps_alloc w53 (.cells #[.int .i64 t1, .int .i64 t2] 31))
  replace b9 := b9.keeps (keeps_alloc w53 (.cells #[.int .i64 t1, .int .i64 t2] 31))
  replace b11 := b11.keeps (keeps_alloc w53 (.cells #[.int .i64 t1, .int .i64 t2] 31))
  replace b12 := b12.keeps (keeps_alloc w53 (.cells #[.int .i64 t1, .int .i64 t2] 31))
  replace b13 := b13.keeps (keeps_alloc w53 (.cells #[.int .i64 t1, .int .i64 t2] 31))
  replace b19 := b19.keeps (keeps_alloc w53 (.cells #[.int .i64 t1, .int .i64 t2] 31))
  replace b21 := b21.keeps (keeps_alloc w53 (.cells #[.int .i64 t1, .int .i64 t2] 31))
  replace b23 := b23.keeps (keeps_alloc w53 (.cells #[.int .i64 t1, .int .i64 t2] 31))
  replace b25 := b25.keeps (keeps_alloc w53 (.cells #[.int .i64 t1, .int .i64 t2] 31))
  replace pF := pF.keeps (keeps_alloc w53 (.cells #[.int .i64 t1, .int .i64 t2] 31))
  replace aF := aF.keeps (keeps_alloc w53 (.cells #[.int .i64 t1, .int .i64 t2] 31))
  replace bF := bF.keeps (keeps_alloc w53 (.cells #[.int .i64 t1, .int .i64 t2] 31))
  replace xM := xM.keeps (keeps_alloc w53 (.cells #[.int .i64 t1, .int .i64 t2] 31))
  replace kw := Keeps.trans kw (keeps_alloc w53 (.cells #[.int .i64 t1, .int .i64 t2] 31))
  have b27 : Bx (w53.alloc (.cells #[.int .i64 t1, .int .i64 t2] 31)) w53.heap.size t1 t2 := Bx.new' (by simp)
  obtain ⟨ca56, cb56, fa56, fb56⟩ := id b23
  obtain ⟨ca57, cb57, fa57, fb57⟩ := id b25
  go_wp2_with fail
  clear ca56 cb56 fa56 fb56 ca57 cb57 fa57 fb57
  cases r3
  · refine (MulFracW_any).mono ?_
    rintro e w58 ⟨v1, v2, told, rfl, k58⟩
    replace b7 := b7.keeps k58
    replace b9 := b9.keeps k58
    replace b11 := b11.keeps k58
    replace b12 := b12.keeps k58
    replace b13 := b13.keeps k58
    replace b19 := b19.keeps k58
    replace b21 := b21.keeps k58
    replace b23 := b23.keeps k58
    replace b25 := b25.keeps k58
    replace b27 := b27.keeps k58
    replace pF := pF.keeps k58
    replace aF := aF.keeps k58
    replace bF := bF.keeps k58
    replace xM := xM.keeps k58
    replace kw := Keeps.trans kw k58
    have lt59 := b27.lt
    have sz60 := kw.size
    clear k58
    replace b7 := b7.keeps (keeps_alloc w58 (.cells #[.int .i64 v1, .int .i64 v2] 31))
    replace b9 := b9.keeps (keeps_alloc w58 (.cells #[.int .i64 v1, .int .i64 v2] 31))
    replace b11 := b11.keeps (keeps_alloc w58 (.cells #[.int .i64 v1, .int .i64 v2] 31))
    replace b12 := b12.keeps (keeps_alloc w58 (.cells #[.int .i64 v1, .int .i64 v2] 31))
    replace b13 := b13.keeps (keeps_alloc w58 (.cells #[.int .i64 v1, .int .i64 v2] 31))
    replace b19 := b19.keeps (keeps_alloc w58 (.cells #[.int .i64 v1, .int .i64 v2] 31))
    replace b21 := b21.keeps (keeps_alloc w58 (.cells #[.int .i64 v1, .int .i64 v2] 31))
    replace b23 := b23.keeps (keeps_alloc w58 (.cells #[.int .i64 v1, .int .i64 v2] 31))
    replace b25 := b25.keeps (keeps_alloc w58 (.cells #[.int .i64 v1, .int .i64 v2] 31))
    replace b27 := b27.keeps (keeps_alloc w58 (.cells #[.int .i64 v1, .int .i64 v2] 31))
    replace pF := pF.keeps (keeps_alloc w58 (.cells #[.int .i64 v1, .int .i64 v2] 31))
    replace aF := aF.keeps (keeps_alloc w58 (.cells #[.int .i64 v1, .int .i64 v2] 31))
    replace bF := bF.keeps (keeps_alloc w58 (.cells #[.int .i64 v1, .int .i64 v2] 31))
    replace xM := xM.keeps (keeps_alloc w58 (.cells #[.int .i64 v1, .int .i64 v2] 31))
    replace kw := Keeps.trans kw (keeps_alloc w58 (.cells #[.int .i64 v1, .int .i64 v2] 31))
    have b29 : Bx (w58.alloc (.cells #[.int .i64 v1, .int .i64 v2] 31)) w58.heap.size v1 v2 := Bx.new' (by simp)
    cases ok
    · go_wp2_with fail
      go_ret
      exact ⟨rfl, kw⟩
    have hpl := Fracs.len pF
    have hple := pF.le
    have HGF := hid (bgQ_frac HG.out)
    have HL := hid hpl
    clear hpl
    have HW := hid kw
    have hsz := kw.size
    go_wp2_with fail
    obtain ⟨wv, hX⟩ : ∃ u : World, u = (w58.alloc (.cells #[.int .i64 v1, .int .i64 v2] 31)) := ⟨_, rfl⟩
    rw [← hX] at pF b7 kw
    rw [← hX]
    clear hX HW
    go_loopw [171] (fun i wr => ∃ k : Nat, k ≤ pN ∧ i = .int .i64 k ∧ Bx wr w4.heap.size g1 g2 ∧ Fracs wr _ _ pA pN pr ∧ Keeps w wr) (fun i _ => pN - (intOf i).toNat)
    case atStart => exact ⟨0, Nat.zero_le _, rfl, b7, pF, kw⟩
    clear b7 pF kw
    case round =>
      obtain ⟨k, hk, rfl, b7, pF, kw⟩ := hrel
      have lt7 := b7.lt
      have szk := kw.size
      by_cases hkn : k < pN
      · obtain ⟨ba, oa, x, y, rfl, _, hb, hc, hd, hx⟩ := Fracs.at_ pF hkn
        have hki : (k : Int) < (pN : Int) := by omega
        have HU := guess_up HG.out (i := k) (by rw [HL.out]; exact hkn) hx.out
        obtain ⟨hu1, hu2⟩ := HU
        have HC := hid (cfQ_yes hu1 HGF.out)
        obtain ⟨o, HO⟩ : ∃ o, Hid (cmpQ x y g1 g2 = o) := ⟨_, rfl⟩
        rw [HO.out] at hu2 HC
        clear hu1
        replace b7 := b7.keeps (keeps_alloc wr (.cells #[.int .i64 x, .int .i64 y] 31))
        replace pF := pF.keeps (keeps_alloc wr (.cells #[.int .i64 x, .int .i64 y] 31))
        replace kw := Keeps.trans kw (keeps_alloc wr (.cells #[.int .i64 x, .int .i64 y] 31))
        have b34 : Bx (wr.alloc (.cells #[.int .i64 x, .int .i64 y] 31)) wr.heap.size x y := Bx.new' (by simp)
        obtain ⟨ca61, cb61, fa61, fb61⟩ := id b7
        obtain ⟨ca62, cb62, fa62, fb62⟩ := id b34
        go_wp2_with fail
        clear ca61 cb61 fa61 fb61 ca62 cb62 fa62 fb62
        refine (CompareFrac_any).mono ?_
        rintro e w63 ⟨rfl, k63⟩
        rw [HC.out]
        replace b7 := b7.keeps k63
        replace b34 := b34.keeps k63
        replace pF := pF.keeps k63
        replace kw := Keeps.trans kw k63
        have lt64 := b34.lt
        have sz65 := kw.size
        clear k63
        clear hc hd
        go_wp2_with fail
        go_roundw
        case rel => exact ⟨k + 1, by omega, by go_num, b7, pF, kw⟩
        case measure => simp [intOf]; omega
      · obtain rfl : k = pN := by omega
        go_wp2_with fail
        go_ret
        exact ⟨rfl, kw⟩
  cases s3
  · refine (MulFracW_any).mono ?_
    rintro e w58 ⟨v1, v2, told, rfl, k58⟩
    replace b7 := b7.keeps k58
    replace b9 := b9.keeps k58
    replace b11 := b11.keeps k58
    replace b12 := b12.keeps k58
    replace b13 := b13.keeps k58
    replace b19 := b19.keeps k58
    replace b21 := b21.keeps k58
    replace b23 := b23.keeps k58
    replace b25 := b25.keeps k58
    replace b27 := b27.keeps k58
    replace pF := pF.keeps k58
    replace aF := aF.keeps k58
    replace bF := bF.keeps k58
    replace xM := xM.keeps k58
    replace kw := Keeps.trans kw k58
    have lt59 := b27.lt
    have sz60 := kw.size
    clear k58
    replace b7 := b7.keeps (keeps_alloc w58 (.cells #[.int .i64 v1, .int .i64 v2] 31))
    replace b9 := b9.keeps (keeps_alloc w58 (.cells #[.int .i64 v1, .int .i64 v2] 31))
    replace b11 := b11.keeps (keeps_alloc w58 (.cells #[.int .i64 v1, .int .i64 v2] 31))
    replace b12 := b12.keeps (keeps_alloc w58 (.cells #[.int .i64 v1, .int .i64 v2] 31))
    replace b13 := b13.keeps (keeps_alloc w58 (.cells #[.int .i64 v1, .int .i64 v2] 31))
    replace b19 := b19.keeps (keeps_alloc w58 (.cells #[.int .i64 v1, .int .i64 v2] 31))
    replace b21 := b21.keeps (keeps_alloc w58 (.cells #[.int .i64 v1, .int .i64 v2] 31))
    replace b23 := b23.keeps (keeps_alloc w58 (.cells #[.int .i64 v1, .int .i64 v2] 31))
    replace b25 := b25.keeps (keeps_alloc w58 (.cells #[.int .i64 v1, .int .i64 v2] 31))
    replace b27 := b27.keeps (keeps_alloc w58 (.cells #[.int .i64 v1, .int .i64 v2] 31))
    replace pF := pF.keeps (keeps_alloc w58 (.cells #[.int .i64 v1, .int .i64 v2] 31))
    replace aF := aF.keeps (keeps_alloc w58 (.cells #[.int .i64 v1, .int .i64 v2] 31))
    replace bF := bF.keeps (keeps_alloc w58 (.cells #[.int .i64 v1, .int .i64 v2] 31))
    replace xM := xM.keeps (keeps_alloc w58 (.cells #[.int .i64 v1, .int .i64 v2] 31))
    replace kw := Keeps.trans kw (keeps_alloc w58 (.cells #[.int .i64 v1, .int .i64 v2] 31))
    have b29 : Bx (w58.alloc (.cells #[.int .i64 v1, .int .i64 v2] 31)) w58.heap.size v1 v2 := Bx.new' (by simp)
    cases ok
    · go_wp2_with fail
      go_ret
      exact ⟨rfl, kw⟩
    have hpl := Fracs.len pF
    have hple := pF.le
    have HGF := hid (bgQ_frac HG.out)
    have HL := hid hpl
    clear hpl
    have HW := hid kw
    have hsz := kw.size
    go_wp2_with fail
    obtain ⟨wv, hX⟩ : ∃ u : World, u = (w58.alloc (.cells #[.int .i64 v1, .int .i64 v2] 31)) := ⟨_, rfl⟩
    rw [← hX] at pF b7 kw
    rw [← hX]
    clear hX HW
    go_loopw [171] (fun i wr => ∃ k : Nat, k ≤ pN ∧ i = .int .i64 k ∧ Bx wr w4.heap.size g1 g2 ∧ Fracs wr _ _ pA pN pr ∧ Keeps w wr) (fun i _ => pN - (intOf i).toNat)
    case atStart => exact ⟨0, Nat.zero_le _, rfl, b7, pF, kw⟩
    clear b7 pF kw
    case round =>
      obtain ⟨k, hk, rfl, b7, pF, kw⟩ := hrel
      have lt7 := b7.lt
      have szk := kw.size
      by_cases hkn : k < pN
      · obtain ⟨ba, oa, x, y, rfl, _, hb, hc, hd, hx⟩ := Fracs.at_ pF hkn
        have hki : (k : Int) < (pN : Int) := by omega
        have HU := guess_up HG.out (i := k) (by rw [HL.out]; exact hkn) hx.out
        obtain ⟨hu1, hu2⟩ := HU
        have HC := hid (cfQ_yes hu1 HGF.out)
        obtain ⟨o, HO⟩ : ∃ o, Hid (cmpQ x y g1 g2 = o) := ⟨_, rfl⟩
        rw [HO.out] at hu2 HC
        clear hu1
        replace b7 := b7.keeps (keeps_alloc wr (.cells #[.int .i64 x, .int .i64 y] 31))
        replace pF := pF.keeps (keeps_alloc wr (.cells #[.int .i64 x, .int .i64 y] 31))
        replace kw := Keeps.trans kw (keeps_alloc wr (.cells #[.int .i64 x, .int .i64 y] 31))
        have b34 : Bx (wr.alloc (.cells #[.int .i64 x, .int .i64 y] 31)) wr.heap.size x y := Bx.new' (by simp)
        obtain ⟨ca61, cb61, fa61, fb61⟩ := id b7
        obtain ⟨ca62, cb62, fa62, fb62⟩ := id b34
        go_wp2_with fail
        clear ca61 cb61 fa61 fb61 ca62 cb62 fa62 fb62
        refine (CompareFrac_any).mono ?_
        rintro e w63 ⟨rfl, k63⟩
        rw [HC.out]
        replace b7 := b7.keeps k63
        replace b34 := b34.keeps k63
        replace pF := pF.keeps k63
        replace kw := Keeps.trans kw k63
        have lt64 := b34.lt
        have sz65 := kw.size
        clear k63
        clear hc hd
        go_wp2_with fail
        go_roundw
        case rel => exact ⟨k + 1, by omega, by go_num, b7, pF, kw⟩
        case measure => simp [intOf]; omega
      · obtain rfl : k = pN := by omega
        go_wp2_with fail
        go_ret
        exact ⟨rfl, kw⟩
  obtain ⟨v1, v2, told, HV⟩ : ∃ x y z, Hid (mkF (r1 * s1) (r2 * s2) = (x, y, z)) := ⟨_, _, _, rfl⟩
  refine (MulFrac_any (nbQ_fracG HR.out) (nbQ_fracG HS.out)).mono ?_
  rintro e w58 ⟨rfl, k58⟩
  rw [HV.out]
  replace b7 := b7.keeps k58
  replace b9 := b9.keeps k58
  replace b11 := b11.keeps k58
  replace b12 := b12.keeps k58
  replace b13 := b13.keeps k58
  replace b19 := b19.keeps k58
  replace b21 := b21.keeps k58
  replace b23 := b23.keeps k58
  replace b25 := b25.keeps k58
  replace b27 := b27.keeps k58
  replace pF := pF.keeps k58
  replace aF := aF.keeps k58
  replace bF := bF.keeps k58
  replace xM := xM.keeps k58
  replace kw := Keeps.trans kw k58
  have lt59 := b27.lt
  have sz60 := kw.size
  clear k58
  replace b7 := b7.keeps (keeps_alloc w58 (.cells #[.int .i64 v1, .int .i64 v2] 31))
  replace b9 := b9.keeps (keeps_alloc w58 (.cells #[.int .i64 v1, .int .i64 v2] 31))
  replace b11 := b11.keeps (keeps_alloc w58 (.cells #[.int .i64 v1, .int .i64 v2] 31))
  replace b12 := b12.keeps (keeps_alloc w58 (.cells #[.int .i64 v1, .int .i64 v2] 31))
  replace b13 := b13.keeps (keeps_alloc w58 (.cells #[.int .i64 v1, .int .i64 v2] 31))
  replace b19 := b19.keeps (keeps_alloc w58 (.cells #[.int .i64 v1, .int .i64 v2] 31))
  replace b21 := b21.keeps (keeps_alloc w58 (.cells #[.int .i64 v1, .int .i64 v2] 31))
  replace b23 := b23.keeps (keeps_alloc w58 (.cells #[.int .i64 v1, .int .i64 v2] 31))
  replace b25 := b25.keeps (keeps_alloc w58 (.cells #[.int .i64 v1, .int .i64 v2] 31))
  replace b27 := b27.keeps (keeps_alloc w58 (.cells #[.int .i64 v1, .int .i64 v2] 31))
  replace pF := pF.keeps (keeps_alloc w58 (.cells #[.int .i64 v1, .int .i64 v2] 31))
  replace aF := aF.keeps (keeps_alloc w58 (.cells #[.int .i64 v1, .int .i64 v2] 31))
  replace bF := bF.keeps (keeps_alloc w58 (.cells #[.int .i64 v1, .int .i64 v2] 31))
  replace xM := xM.keeps (keeps_alloc w58 (.cells #[.int .i64 v1, .int .i64 v2] 31))
  replace kw := Keeps.trans kw (keeps_alloc w58 (.cells #[.int .i64 v1, .int .i64 v2] 31))
  have b29 : Bx (w58.alloc (.cells #[.int .i64 v1, .int .i64 v2] 31)) w58.heap.size v1 v2 := Bx.new' (by simp)
  cases t3
  · cases ok
    · go_wp2_with fail
      go_ret
      exact ⟨rfl, kw⟩
    have hpl := Fracs.len pF
    have hple := pF.le
    have HGF := hid (bgQ_frac HG.out)
    have HL := hid hpl
    clear hpl
    have HW := hid kw
    have hsz := kw.size
    go_wp2_with fail
    obtain ⟨wv, hX⟩ : ∃ u : World, u = (w58.alloc (.cells #[.int .i64 v1, .int .i64 v2] 31)) := ⟨_, rfl⟩
    rw [← hX] at pF b7 kw
    rw [← hX]
    clear hX HW
    go_loopw [171] (fun i wr => ∃ k : Nat, k ≤ pN ∧ i = .int .i64 k ∧ Bx wr w4.heap.size g1 g2 ∧ Fracs wr _ _ pA pN pr ∧ Keeps w wr) (fun i _ => pN - (intOf i).toNat)
    case atStart => exact ⟨0, Nat.zero_le _, rfl, b7, pF, kw⟩
    clear b7 pF kw
    case round =>
      obtain ⟨k, hk, rfl, b7, pF, kw⟩ := hrel
      have lt7 := b7.lt
      have szk := kw.size
      by_cases hkn : k < pN
      · obtain ⟨ba, oa, x, y, rfl, _, hb, hc, hd, hx⟩ := Fracs.at_ pF hkn
        have hki : (k : Int) < (pN : Int) := by omega
        have HU := guess_up HG.out (i := k) (by rw [HL.out]; exact hkn) hx.out
        obtain ⟨hu1, hu2⟩ := HU
        have HC := hid (cfQ_yes hu1 HGF.out)
        obtain ⟨o, HO⟩ : ∃ o, Hid (cmpQ x y g1 g2 = o) := ⟨_, rfl⟩
        rw [HO.out] at hu2 HC
        clear hu1
        replace b7 := b7.keeps (keeps_alloc wr (.cells #[.int .i64 x, .int .i64 y] 31))
        replace pF := pF.keeps (keeps_alloc wr (.cells #[.int .i64 x, .int .i64 y] 31))
        replace kw := Keeps.trans kw (keeps_alloc wr (.cells #[.int .i64 x, .int .i64 y] 31))
        have b34 : Bx (wr.alloc (.cells #[.int .i64 x, .int .i64 y] 31)) wr.heap.size x y := Bx.new' (by simp)
        obtain ⟨ca61, cb61, fa61, fb61⟩ := id b7
        obtain ⟨ca62, cb62, fa62, fb62⟩ := id b34
        go_wp2_with fail
        clear ca61 cb61 fa61 fb61 ca62 cb62 fa62 fb62
        refine (CompareFrac_any).mono ?_
        rintro e w63 ⟨rfl, k63⟩
        rw [HC.out]
        replace b7 := b7.keeps k63
        replace b34 := b34.keeps k63
        replace pF := pF.keeps k63
        replace kw := Keeps.trans kw k63
        have lt64 := b34.lt
        have sz65 := kw.size
        clear k63
        clear hc hd
        go_wp2_with fail
        go_roundw
        case rel => exact ⟨k + 1, by omega, by go_num, b7, pF, kw⟩
        case measure => simp [intOf]; omega
      · obtain rfl : k = pN := by omega
        go_wp2_with fail
        go_ret
        exact ⟨rfl, kw⟩
  cases told
  · cases ok
    · go_wp2_with fail
      go_ret
      exact ⟨rfl, kw⟩
    have hpl := Fracs.len pF
    have hple := pF.le
    have HGF := hid (bgQ_frac HG.out)
    have HL := hid hpl
    clear hpl
    have HW := hid kw
    have hsz := kw.size
    go_wp2_with fail
    obtain ⟨wv, hX⟩ : ∃ u : World, u = (w58.alloc (.cells #[.int .i64 v1, .int .i64 v2] 31)) := ⟨_, rfl⟩
    rw [← hX] at pF b7 kw
    rw [← hX]
    clear hX HW
    go_loopw [171] (fun i wr => ∃ k : Nat, k ≤ pN ∧ i = .int .i64 k ∧ Bx wr w4.heap.size g1 g2 ∧ Fracs wr _ _ pA pN pr ∧ Keeps w wr) (fun i _ => pN - (intOf i).toNat)
    case atStart => exact ⟨0, Nat.zero_le _, rfl, b7, pF, kw⟩
    clear b7 pF kw
    case round =>
      obtain ⟨k, hk, rfl, b7, pF, kw⟩ := hrel
      have lt7 := b7.lt
      have szk := kw.size
      by_cases hkn : k < pN
      · obtain ⟨ba, oa, x, y, rfl, _, hb, hc, hd, hx⟩ := Fracs.at_ pF hkn
        have hki : (k : Int) < (pN : Int) := by omega
        have HU := guess_up HG.out (i := k) (by rw [HL.out]; exact hkn) hx.out
        obtain ⟨hu1, hu2⟩ := HU
        have HC := hid (cfQ_yes hu1 HGF.out)
        obtain ⟨o, HO⟩ : ∃ o, Hid (cmpQ x y g1 g2 = o) := ⟨_, rfl⟩
        rw [HO.out] at hu2 HC
        clear hu1
        replace b7 := b7.keeps (keeps_alloc wr (.cells #[.int .i64 x, .int .i64 y] 31))
        replace pF := pF.keeps (keeps_alloc wr (.cells #[.int .i64 x, .int .i64 y] 31))
        replace kw := Keeps.trans kw (keeps_alloc wr (.cells #[.int .i64 x, .int .i64 y] 31))
        have b34 : Bx (wr.alloc (.cells #[.int .i64 x, .int .i64 y] 31)) wr.heap.size x y := Bx.new' (by simp)
        obtain ⟨ca61, cb61, fa61, fb61⟩ := id b7
        obtain ⟨ca62, cb62, fa62, fb62⟩ := id b34
        go_wp2_with fail
        clear ca61 cb61 fa61 fb61 ca62 cb62 fa62 fb62
        refine (CompareFrac_any).mono ?_
        rintro e w63 ⟨rfl, k63⟩
        rw [HC.out]
        replace b7 := b7.keeps k63
        replace b34 := b34.keeps k63
        replace pF := pF.keeps k63
        replace kw := Keeps.trans kw k63
        have lt64 := b34.lt
        have sz65 := kw.size
        clear k63
        clear hc hd
        go_wp2_with fail
        go_roundw
        case rel => exact ⟨k + 1, by omega, by go_num, b7, pF, kw⟩
        case measure => simp [intOf]; omega
      · obtain rfl : k = pN := by omega
        go_wp2_with fail
        go_ret
        exact ⟨rfl, kw⟩
  have hle := pr_ratio HP.out HR.out HS.out HT.out HV.out
  have HC1 := hid (cfQ_yes (nbQ_fracG HT.out) ((Fine.mk _ _).ok HV.out))
  obtain ⟨o1, HO1⟩ : ∃ o, Hid (cmpQ t1 t2 v1 v2 = o) := ⟨_, rfl⟩
  rw [HO1.out] at hle HC1
  obtain ⟨ca61, cb61, fa61, fb61⟩ := id b27
  obtain ⟨ca62, cb62, fa62, fb62⟩ := id b29
  go_wp2_with fail
  clear ca61 cb61 fa61 fb61 ca62 cb62 fa62 fb62
  refine (CompareFrac_any).mono ?_
  rintro e w63 ⟨rfl, k63⟩
  rw [HC1.out]
  replace b7 := b7.keeps k63
  replace b9 := b9.keeps k63
  replace b11 := b11.keeps k63
  replace b12 := b12.keeps k63
  replace b13 := b13.keeps k63
  replace b19 := b19.keeps k63
  replace b21 := b21.keeps k63
  replace b23 := b23.keeps k63
  replace b25 := b25.keeps k63
  replace b27 := b27.keeps k63
  replace b29 := b29.keeps k63
  replace pF := pF.keeps k63
  replace aF := aF.keeps k63
  replace bF := bF.keeps k63
  replace xM := xM.keeps k63
  replace kw := Keeps.trans kw k63
  have lt64 := b29.lt
  have sz65 := kw.size
  clear k63
  cases ok
  · go_wp2_with fail
    go_ret
    exact ⟨rfl, kw⟩
  have hpl := Fracs.len pF
  have hple := pF.le
  have HGF := hid (bgQ_frac HG.out)
  have HL := hid hpl
  clear hpl
  have HW := hid kw
  have hsz := kw.size
  go_wp2_with fail
  obtain ⟨wv, hX⟩ : ∃ u : World, u = w63 := ⟨_, rfl⟩
  rw [← hX] at pF b7 kw
  rw [← hX]
  clear hX HW
  go_loopw [171] (fun i wr => ∃ k : Nat, k ≤ pN ∧ i = .int .i64 k ∧ Bx wr w4.heap.size g1 g2 ∧ Fracs wr _ _ pA pN pr ∧ Keeps w wr) (fun i _ => pN - (intOf i).toNat)
  case atStart => exact ⟨0, Nat.zero_le _, rfl, b7, pF, kw⟩
  clear b7 pF kw
  case round =>
    obtain ⟨k, hk, rfl, b7, pF, kw⟩ := hrel
    have lt7 := b7.lt
    have szk := kw.size
    by_cases hkn : k < pN
    · obtain ⟨ba, oa, x, y, rfl, _, hb, hc, hd, hx⟩ := Fracs.at_ pF hkn
      have hki : (k : Int) < (pN : Int) := by omega
      have HU := guess_up HG.out (i := k) (by rw [HL.out]; exact hkn) hx.out
      obtain ⟨hu1, hu2⟩ := HU
      have HC := hid (cfQ_yes hu1 HGF.out)
      obtain ⟨o, HO⟩ : ∃ o, Hid (cmpQ x y g1 g2 = o) := ⟨_, rfl⟩
      rw [HO.out] at hu2 HC
      clear hu1
      replace b7 := b7.keeps (keeps_alloc wr (.cells #[.int .i64 x, .int .i64 y] 31))
      replace pF := pF.keeps (keeps_alloc wr (.cells #[.int .i64 x, .int .i64 y] 31))
      replace kw := Keeps.trans kw (keeps_alloc wr (.cells #[.int .i64 x, .int .i64 y] 31))
      have b34 : Bx (wr.alloc (.cells #[.int .i64 x, .int .i64 y] 31)) wr.heap.size x y := Bx.new' (by simp)
      obtain ⟨ca66, cb66, fa66, fb66⟩ := id b7
      obtain ⟨ca67, cb67, fa67, fb67⟩ := id b34
      go_wp2_with fail
      clear ca66 cb66 fa66 fb66 ca67 cb67 fa67 fb67
      refine (CompareFrac_any).mono ?_
      rintro e w68 ⟨rfl, k68⟩
      rw [HC.out]
      replace b7 := b7.keeps k68
      replace b34 := b34.keeps k68
      replace pF := pF.keeps k68
      replace kw := Keeps.trans kw k68
      have lt69 := b34.lt
      have sz70 := kw.size
      clear k68
      clear hc hd
      go_wp2_with fail
      go_roundw
      case rel => exact ⟨k + 1, by omega, by go_num, b7, pF, kw⟩
      case measure => simp [intOf]; omega
    · obtain rfl : k = pN := by omega
      go_wp2_with fail
      go_ret
      exact ⟨rfl, kw⟩
end Go.Proofs.Ytnopedjgagoahaa
