/- ConsistentEstimates of the reference and of the program; the law. -/
import Derived.Test.YtnopedjgagoahaaCon
import Derived.Test.YtnopedjgagoahaaConI
namespace Go.Proofs.Ytnopedjgagoahaa
open Go.RowKit
set_option linter.unusedVariables false
set_option linter.unusedSimpArgs false

set_option maxRecDepth 100000 in
set_option maxHeartbeats 1600000 in
theorem specConsistentEstimates_any {A0 A1 A2 : Option Addr} {l0 l1 l2 u0 u1 u2 n0 n1 n2 c0 c1 c2 : Nat} {ps y v : List Int} {w : World} (h0 : Ints w l0 u0 A0 n0 ps) (h1 : Ints w l1 u1 A1 n1 y) (h2 : Ints w l2 u2 A2 n2 v) :
    Calls Try.prog 235 #[.agg #[.slice A0 n0 c0], .slice A1 n1 c1, .slice A2 n2 c2] w fun e w' => ∃ A N C, e = .returned (.tuple #[.slice A N C, .bool (conQ ps y v).2]) ∧ FracsM w' w.heap.size w'.heap.size A N (conQ ps y v).1 ∧ Keeps w w' := by
  have hl0 := h0.1
  have hl1 := h1.1
  have hl2 := h2.1
  go_enter Try.func235, Try.ntmps235
  have kw := keeps_refl w
  replace kw := Keeps.trans kw (keeps_alloc w (.cells #[.slice A0 n0 c0] 53))
  have b3 : B1 (w.alloc (.cells #[.slice A0 n0 c0] 53)) w.heap.size (.slice A0 n0 c0) := B1.new' (by simp)
  obtain ⟨ca1, fa1⟩ := id b3
  go_wp2_with fail
  clear ca1 fa1
  obtain ⟨pH1, H1⟩ : ∃ pB, Hid (treeB ps y v = pB) := ⟨_, rfl⟩
  refine (wTree_any (h0.keeps kw) (h1.keeps kw) (h2.keeps kw)).mono ?_
  rintro e w2 ⟨rfl, k2⟩
  rw [H1.out]
  replace b3 := b3.keeps k2
  replace kw := Keeps.trans kw k2
  have lt3 := b3.lt
  have sz4 := kw.size
  clear k2
  cases pH1
  · have HF := hid (conQ_no H1.out)
    go_wp2_with fail
    go_ret2
    exact ⟨none, 0, 0, by rw [HF.out]; rfl, by rw [HF.out]; exact SlM.nil_ _ _, kw⟩
  · skip
    have HT := hid (treeB_true.1 H1.out)
    obtain ⟨rfl, rfl⟩ : n1 = n0 ∧ n2 = n0 := by have := HT.out; omega
    have HF := hid (conQ_yes H1.out hl0)
    obtain ⟨ca5, fa5⟩ := id b3
    go_wp2_with fail
    clear ca5 fa5
    refine (wConsistent_any (h0.keeps kw) (h1.keeps kw) (h2.keeps kw) H1.out).mono ?_
    rintro e w6 ⟨Aa, Na, Ca, rfl, q1, k6⟩
    replace b3 := b3.keeps k6
    replace kw := Keeps.trans kw k6
    have lt7 := b3.lt
    have sz8 := kw.size
    clear k6
    go_wp2_with fail
    go_ret2
    exact ⟨Aa, Na, Ca, by rw [HF.out]; rfl, by rw [HF.out]; exact q1.widen (by omega) (Nat.le_refl _) (Nat.le_refl _), kw⟩
set_option maxRecDepth 100000 in
set_option maxHeartbeats 1600000 in
theorem implConsistentEstimates_any {A0 A1 A2 : Option Addr} {l0 l1 l2 u0 u1 u2 n0 n1 n2 c0 c1 c2 : Nat} {ps y v : List Int} {w : World} (h0 : Ints w l0 u0 A0 n0 ps) (h1 : Ints w l1 u1 A1 n1 y) (h2 : Ints w l2 u2 A2 n2 v) :
    Calls Try.prog 114 #[.agg #[.slice A0 n0 c0], .slice A1 n1 c1, .slice A2 n2 c2] w fun e w' => ∃ A N C, e = .returned (.tuple #[.slice A N C, .bool (conQ ps y v).2]) ∧ FracsM w' w.heap.size w'.heap.size A N (conQ ps y v).1 ∧ Keeps w w' := by
  have hl0 := h0.1
  have hl1 := h1.1
  have hl2 := h2.1
  go_enter Try.func114, Try.ntmps114
  have kw := keeps_refl w
  replace kw := Keeps.trans kw (keeps_alloc w (.cells #[.slice A0 n0 c0] 53))
  have b3 : B1 (w.alloc (.cells #[.slice A0 n0 c0] 53)) w.heap.size (.slice A0 n0 c0) := B1.new' (by simp)
  obtain ⟨ca1, fa1⟩ := id b3
  go_wp2_with fail
  clear ca1 fa1
  obtain ⟨pH1, H1⟩ : ∃ pB, Hid (treeB ps y v = pB) := ⟨_, rfl⟩
  refine (areTreeValues_any (h0.keeps kw) (h1.keeps kw) (h2.keeps kw)).mono ?_
  rintro e w2 ⟨rfl, k2⟩
  rw [H1.out]
  replace b3 := b3.keeps k2
  replace kw := Keeps.trans kw k2
  have lt3 := b3.lt
  have sz4 := kw.size
  clear k2
  cases pH1
  · have HF := hid (conQ_no H1.out)
    go_wp2_with fail
    go_ret2
    exact ⟨none, 0, 0, by rw [HF.out]; rfl, by rw [HF.out]; exact SlM.nil_ _ _, kw⟩
  · skip
    have HT := hid (treeB_true.1 H1.out)
    obtain ⟨rfl, rfl⟩ : n1 = n0 ∧ n2 = n0 := by have := HT.out; omega
    have HF := hid (conQ_yes H1.out hl0)
    obtain ⟨ca5, fa5⟩ := id b3
    go_wp2_with fail
    clear ca5 fa5
    refine (consistentEstimates_any (h0.keeps kw) (h1.keeps kw) (h2.keeps kw) H1.out).mono ?_
    rintro e w6 ⟨Aa, Na, Ca, rfl, q1, k6⟩
    replace b3 := b3.keeps k6
    replace kw := Keeps.trans kw k6
    have lt7 := b3.lt
    have sz8 := kw.size
    clear k6
    go_wp2_with fail
    go_ret2
    exact ⟨Aa, Na, Ca, by rw [HF.out]; rfl, by rw [HF.out]; exact q1.widen (by omega) (Nat.le_refl _) (Nat.le_refl _), kw⟩
end Go.Proofs.Ytnopedjgagoahaa
