/- CompareFrac of the program. -/
import Derived.Test.YtnopedjgagoahaaKD
namespace Go.Proofs.Ytnopedjgagoahaa
open Go.RowKit
set_option linter.unusedVariables false
set_option linter.unusedSimpArgs false

def cfQ (a b c d : Int) : Int × Bool := if (fracB a b && fracB c d) = true then (cmpQ a b c d, true) else (0, false)
theorem cfQ_no1 {a b c d : Int} (h : fracB a b = false) : cfQ a b c d = (0, false) := by unfold cfQ; rw [h]; rfl
theorem cfQ_no2 {a b c d : Int} (h : fracB c d = false) : cfQ a b c d = (0, false) := by unfold cfQ; rw [h, Bool.and_false]; rfl
theorem cfQ_yes {a b c d : Int} (h : fracB a b = true) (k : fracB c d = true) : cfQ a b c d = (cmpQ a b c d, true) := by unfold cfQ; rw [h, k]; rfl
theorem ret_ib {a b : Int} {p q : Bool} (h1 : a = b) (h2 : p = q) : Ending.returned (.tuple #[.int .i64 a, .bool p]) = .returned (.tuple #[.int .i64 b, .bool q]) := by rw [h1, h2]
set_option maxRecDepth 100000 in
set_option maxHeartbeats 1600000 in
theorem CompareFrac_any {a b c d : Int} {w : World} :
    Calls Try.prog 20 #[.agg #[.int .i64 a, .int .i64 b], .agg #[.int .i64 c, .int .i64 d]] w fun e w' => e = .returned (.tuple #[.int .i64 (cfQ a b c d).1, .bool (cfQ a b c d).2]) ∧ Keeps w w' := by
  go_enter Try.func20, Try.ntmps20
  have kw := keeps_refl w
  replace kw := Keeps.trans kw (keeps_alloc w (.cells #[.int .i64 a, .int .i64 b] 31))
  have b2 : Bx (w.alloc (.cells #[.int .i64 a, .int .i64 b] 31)) w.heap.size a b := Bx.new' (by simp)
  replace b2 := b2.keeps (keeps_alloc (w.alloc (.cells #[.int .i64 a, .int .i64 b] 31)) (.cells #[.int .i64 c, .int .i64 d] 31))
  replace kw := Keeps.trans kw (keeps_alloc (w.alloc (.cells #[.int .i64 a, .int .i64 b] 31)) (.cells #[.int .i64 c, .int .i64 d] 31))
  have b3 : Bx ((w.alloc (.cells #[.int .i64 a, .int .i64 b] 31)).alloc (.cells #[.int .i64 c, .int .i64 d] 31)) (w.heap.size + 1) c d := Bx.new' (by simp)
  obtain ⟨ca1, cb1, fa1, fb1⟩ := id b2
  obtain ⟨ca2, cb2, fa2, fb2⟩ := id b3
  go_wp2_with fail
  clear ca1 cb1 fa1 fb1 ca2 cb2 fa2 fb2
  obtain ⟨pH1, H1⟩ : ∃ pB, Hid (fracB a b = pB) := ⟨_, rfl⟩
  refine (IsFrac_any).mono ?_
  rintro e w3 ⟨rfl, k3⟩
  rw [H1.out]
  replace b2 := b2.keeps k3
  replace b3 := b3.keeps k3
  replace kw := Keeps.trans kw k3
  have lt4 := b3.lt
  have sz5 := kw.size
  clear k3
  cases pH1
  · have HF := hid (cfQ_no1 (c := c) (d := d) H1.out)
    go_wp2_with fail
    go_ret2
    exact ⟨ret_ib (by rw [HF.out]) (by rw [HF.out]), kw⟩
  · skip
    obtain ⟨ca6, cb6, fa6, fb6⟩ := id b2
    obtain ⟨ca7, cb7, fa7, fb7⟩ := id b3
    go_wp2_with fail
    clear ca6 cb6 fa6 fb6 ca7 cb7 fa7 fb7
    obtain ⟨pH2, H2⟩ : ∃ pB, Hid (fracB c d = pB) := ⟨_, rfl⟩
    refine (IsFrac_any).mono ?_
    rintro e w8 ⟨rfl, k8⟩
    rw [H2.out]
    replace b2 := b2.keeps k8
    replace b3 := b3.keeps k8
    replace kw := Keeps.trans kw k8
    have lt9 := b3.lt
    have sz10 := kw.size
    clear k8
    cases pH2
    · have HF := hid (cfQ_no2 (a := a) (b := b) H2.out)
      go_wp2_with fail
      go_ret2
      exact ⟨ret_ib (by rw [HF.out]) (by rw [HF.out]), kw⟩
    · skip
      have HF := hid (cfQ_yes H1.out H2.out)
      obtain ⟨ca11, cb11, fa11, fb11⟩ := id b2
      obtain ⟨ca12, cb12, fa12, fb12⟩ := id b3
      go_wp2_with fail
      clear ca11 cb11 fa11 fb11 ca12 cb12 fa12 fb12
      refine (cmpFrac_any (fracB_qb H1.out) (fracB_qb H2.out)).mono ?_
      rintro e w13 ⟨rfl, k13⟩
      replace b2 := b2.keeps k13
      replace b3 := b3.keeps k13
      replace kw := Keeps.trans kw k13
      have lt14 := b3.lt
      have sz15 := kw.size
      clear k13
      go_wp2_with fail
      go_ret2
      exact ⟨ret_ib (by rw [HF.out]) (by rw [HF.out]), kw⟩
end Go.Proofs.Ytnopedjgagoahaa
