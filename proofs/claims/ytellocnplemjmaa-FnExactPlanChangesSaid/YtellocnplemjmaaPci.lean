/- PlanChanges: of the program and of the reference. -/
import Derived.Test.YtellocnplemjmaaPch
import Derived.Deep.RegionHeld3
namespace Go.Proofs.Ytellocnplemjmaa
open Go.RowKit Go.Sort
set_option linter.unusedVariables false
set_option linter.unusedSimpArgs false
/-- Two lists of whole numbers and whether they count. -/
def TwoI (w : World) (l1 l2 : List Int) (ok : Bool) (e : Ending) (w' : World) : Prop :=
  ∃ A N C A' N' C' L1 U1 L2 U2, e = .returned (.tuple #[.slice A N C, .slice A' N' C', .bool ok]) ∧ (w.heap.size ≤ L1 ∧ U1 ≤ w'.heap.size ∧ w.heap.size ≤ L2 ∧ U2 ≤ w'.heap.size ∧ (U1 ≤ L2 ∨ U2 ≤ L1)) ∧ Mine w' L1 U1 A N l1 ∧ Mine w' L2 U2 A' N' l2 ∧ Keeps w w'
theorem TwoI.no {w w' : World} (k : Keeps w w') : TwoI w [] [] false (.returned (.tuple #[.slice none 0 0, .slice none 0 0, .bool false])) w' := by
  have := k.size
  exact ⟨_, _, _, _, _, _, w'.heap.size, w'.heap.size, w'.heap.size, w'.heap.size, rfl, by omega, Mine.nil_ w' _, Mine.nil_ w' _, k⟩

set_option maxRecDepth 100000 in
set_option maxHeartbeats 6400000 in
theorem implPlanChanges_any {A A' Q1 Q2 : Option Addr} {lo hi a c0 lo3 hi3 lo4 hi4 n1 c1 n2 c2 q lo9 hi9 : Nat} {un un' : Bool} {va x1 x2 x3 x4 vb y1 y2 y3 y4 : Int} {ps : List Int} {l : List VV} {ts us : List TT} {w : World} (h : Ints w lo hi A a ps) (hz : Vars w lo9 hi9 A' q l) (ok : NamesOk l) (hp : Tabs true un w lo3 hi3 Q1 n1 ts) (hr : Tabs true un' w lo4 hi4 Q2 n2 us) :
    Calls Try.prog 12 #[.agg #[.slice A a c0], .slice A' q q, .agg #[.int .i64 va, .slice Q1 n1 c1, .int .i64 x1, .int .i64 x2, .int .i64 x3, .int .i64 x4], .agg #[.int .i64 vb, .slice Q2 n2 c2, .int .i64 y1, .int .i64 y2, .int .i64 y3, .int .i64 y4]] w fun e w' => TwoI w (pcQ ps l (va, ts, x1, x2, x3, x4) (vb, us, y1, y2, y3, y4)).1 (pcQ ps l (va, ts, x1, x2, x3, x4) (vb, us, y1, y2, y3, y4)).2.1 (pcQ ps l (va, ts, x1, x2, x3, x4) (vb, us, y1, y2, y3, y4)).2.2 e w' := by
  have hq := hz.le
  have HZ := hid (Vars.len hz)
  have h' : Sch w A' q q l := ⟨⟨_, _, hz⟩, ok, Nat.le_refl _, by unfold maxLen; omega⟩
  obtain ⟨q0, q1, q2, HQ⟩ : ∃ q0 q1 q2, Hid (pcQ ps l (va, ts, x1, x2, x3, x4) (vb, us, y1, y2, y3, y4) = (q0, q1, q2)) := ⟨_, _, _, rfl⟩
  rw [HQ.out]
  go_enter Try.func12, Try.ntmps12
  have kw := keeps_refl w
  replace kw := Keeps.trans kw (keeps_alloc w (.cells #[.slice A a c0] 38))
  have b4 : B1 (w.alloc (.cells #[.slice A a c0] 38)) w.heap.size (.slice A a c0) := B1.new' (by simp)
  replace b4 := b4.keeps (keeps_alloc (w.alloc (.cells #[.slice A a c0] 38)) (.cells #[.int .i64 va, .slice Q1 n1 c1, .int .i64 x1, .int .i64 x2, .int .i64 x3, .int .i64 x4] 47))
  replace kw := Keeps.trans kw (keeps_alloc (w.alloc (.cells #[.slice A a c0] 38)) (.cells #[.int .i64 va, .slice Q1 n1 c1, .int .i64 x1, .int .i64 x2, .int .i64 x3, .int .i64 x4] 47))
  have b6 : Bl ((w.alloc (.cells #[.slice A a c0] 38)).alloc (.cells #[.int .i64 va, .slice Q1 n1 c1, .int .i64 x1, .int .i64 x2, .int .i64 x3, .int .i64 x4] 47)) (w.heap.size + 1) [.int .i64 va, .slice Q1 n1 c1, .int .i64 x1, .int .i64 x2, .int .i64 x3, .int .i64 x4] := Bl.new' (by simp) (by simp)
  replace b4 := b4.keeps (keeps_alloc ((w.alloc (.cells #[.slice A a c0] 38)).alloc (.cells #[.int .i64 va, .slice Q1 n1 c1, .int .i64 x1, .int .i64 x2, .int .i64 x3, .int .i64 x4] 47)) (.cells #[.int .i64 vb, .slice Q2 n2 c2, .int .i64 y1, .int .i64 y2, .int .i64 y3, .int .i64 y4] 47))
  replace b6 := b6.keeps (keeps_alloc ((w.alloc (.cells #[.slice A a c0] 38)).alloc (.cells #[.int .i64 va, .slice Q1 n1 c1, .int .i64 x1, .int .i64 x2, .int .i64 x3, .int .i64 x4] 47)) (.cells #[.int .i64 vb, .slice Q2 n2 c2, .int .i64 y1, .int .i64 y2, .int .i64 y3, .int .i64 y4] 47))
  replace kw := Keeps.trans kw (keeps_alloc ((w.alloc (.cells #[.slice A a c0] 38)).alloc (.cells #[.int .i64 va, .slice Q1 n1 c1, .int .i64 x1, .int .i64 x2, .int .i64 x3, .int .i64 x4] 47)) (.cells #[.int .i64 vb, .slice Q2 n2 c2, .int .i64 y1, .int .i64 y2, .int .i64 y3, .int .i64 y4] 47))
  have b7 : Bl (((w.alloc (.cells #[.slice A a c0] 38)).alloc (.cells #[.int .i64 va, .slice Q1 n1 c1, .int .i64 x1, .int .i64 x2, .int .i64 x3, .int .i64 x4] 47)).alloc (.cells #[.int .i64 vb, .slice Q2 n2 c2, .int .i64 y1, .int .i64 y2, .int .i64 y3, .int .i64 y4] 47)) (w.heap.size + 1 + 1) [.int .i64 vb, .slice Q2 n2 c2, .int .i64 y1, .int .i64 y2, .int .i64 y3, .int .i64 y4] := Bl.new' (by simp) (by simp)
  obtain ⟨ca1, fa1⟩ := id b4
  have ca2_0 : (((w.alloc (.cells #[.slice A a c0] 38)).alloc (.cells #[.int .i64 va, .slice Q1 n1 c1, .int .i64 x1, .int .i64 x2, .int .i64 x3, .int .i64 x4] 47)).alloc (.cells #[.int .i64 vb, .slice Q2 n2 c2, .int .i64 y1, .int .i64 y2, .int .i64 y3, .int .i64 y4] 47)).cell? ⟨w.heap.size + 1, 0, none⟩ = some (.int .i64 va) := (b6.2 0 _ rfl).1
  have fa2_0 : (((w.alloc (.cells #[.slice A a c0] 38)).alloc (.cells #[.int .i64 va, .slice Q1 n1 c1, .int .i64 x1, .int .i64 x2, .int .i64 x3, .int .i64 x4] 47)).alloc (.cells #[.int .i64 vb, .slice Q2 n2 c2, .int .i64 y1, .int .i64 y2, .int .i64 y3, .int .i64 y4] 47)).frozen? ⟨w.heap.size + 1, 0, none⟩ = false := (b6.2 0 _ rfl).2
  have ca2_1 : (((w.alloc (.cells #[.slice A a c0] 38)).alloc (.cells #[.int .i64 va, .slice Q1 n1 c1, .int .i64 x1, .int .i64 x2, .int .i64 x3, .int .i64 x4] 47)).alloc (.cells #[.int .i64 vb, .slice Q2 n2 c2, .int .i64 y1, .int .i64 y2, .int .i64 y3, .int .i64 y4] 47)).cell? ⟨w.heap.size + 1, 1, none⟩ = some (.slice Q1 n1 c1) := (b6.2 1 _ rfl).1
  have fa2_1 : (((w.alloc (.cells #[.slice A a c0] 38)).alloc (.cells #[.int .i64 va, .slice Q1 n1 c1, .int .i64 x1, .int .i64 x2, .int .i64 x3, .int .i64 x4] 47)).alloc (.cells #[.int .i64 vb, .slice Q2 n2 c2, .int .i64 y1, .int .i64 y2, .int .i64 y3, .int .i64 y4] 47)).frozen? ⟨w.heap.size + 1, 1, none⟩ = false := (b6.2 1 _ rfl).2
  have ca2_2 : (((w.alloc (.cells #[.slice A a c0] 38)).alloc (.cells #[.int .i64 va, .slice Q1 n1 c1, .int .i64 x1, .int .i64 x2, .int .i64 x3, .int .i64 x4] 47)).alloc (.cells #[.int .i64 vb, .slice Q2 n2 c2, .int .i64 y1, .int .i64 y2, .int .i64 y3, .int .i64 y4] 47)).cell? ⟨w.heap.size + 1, 2, none⟩ = some (.int .i64 x1) := (b6.2 2 _ rfl).1
  have fa2_2 : (((w.alloc (.cells #[.slice A a c0] 38)).alloc (.cells #[.int .i64 va, .slice Q1 n1 c1, .int .i64 x1, .int .i64 x2, .int .i64 x3, .int .i64 x4] 47)).alloc (.cells #[.int .i64 vb, .slice Q2 n2 c2, .int .i64 y1, .int .i64 y2, .int .i64 y3, .int .i64 y4] 47)).frozen? ⟨w.heap.size + 1, 2, none⟩ = false := (b6.2 2 _ rfl).2
  have ca2_3 : (((w.alloc (.cells #[.slice A a c0] 38)).alloc (.cells #[.int .i64 va, .slice Q1 n1 c1, .int .i64 x1, .int .i64 x2, .int .i64 x3, .int .i64 x4] 47)).alloc (.cells #[.int .i64 vb, .slice Q2 n2 c2, .int .i64 y1, .int .i64 y2, .int .i64 y3, .int .i64 y4] 47)).cell? ⟨w.heap.size + 1, 3, none⟩ = some (.int .i64 x2) := (b6.2 3 _ rfl).1
  have fa2_3 : (((w.alloc (.cells #[.slice A a c0] 38)).alloc (.cells #[.int .i64 va, .slice Q1 n1 c1, .int .i64 x1, .int .i64 x2, .int .i64 x3, .int .i64 x4] 47)).alloc (.cells #[.int .i64 vb, .slice Q2 n2 c2, .int .i64 y1, .int .i64 y2, .int .i64 y3, .int .i64 y4] 47)).frozen? ⟨w.heap.size + 1, 3, none⟩ = false := (b6.2 3 _ rfl).2
  have ca2_4 : (((w.alloc (.cells #[.slice A a c0] 38)).alloc (.cells #[.int .i64 va, .slice Q1 n1 c1, .int .i64 x1, .int .i64 x2, .int .i64 x3, .int .i64 x4] 47)).alloc (.cells #[.int .i64 vb, .slice Q2 n2 c2, .int .i64 y1, .int .i64 y2, .int .i64 y3, .int .i64 y4] 47)).cell? ⟨w.heap.size + 1, 4, none⟩ = some (.int .i64 x3) := (b6.2 4 _ rfl).1
  have fa2_4 : (((w.alloc (.cells #[.slice A a c0] 38)).alloc (.cells #[.int .i64 va, .slice Q1 n1 c1, .int .i64 x1, .int .i64 x2, .int .i64 x3, .int .i64 x4] 47)).alloc (.cells #[.int .i64 vb, .slice Q2 n2 c2, .int .i64 y1, .int .i64 y2, .int .i64 y3, .int .i64 y4] 47)).frozen? ⟨w.heap.size + 1, 4, none⟩ = false := (b6.2 4 _ rfl).2
  have ca2_5 : (((w.alloc (.cells #[.slice A a c0] 38)).alloc (.cells #[.int .i64 va, .slice Q1 n1 c1, .int .i64 x1, .int .i64 x2, .int .i64 x3, .int .i64 x4] 47)).alloc (.cells #[.int .i64 vb, .slice Q2 n2 c2, .int .i64 y1, .int .i64 y2, .int .i64 y3, .int .i64 y4] 47)).cell? ⟨w.heap.size + 1, 5, none⟩ = some (.int .i64 x4) := (b6.2 5 _ rfl).1
  have fa2_5 : (((w.alloc (.cells #[.slice A a c0] 38)).alloc (.cells #[.int .i64 va, .slice Q1 n1 c1, .int .i64 x1, .int .i64 x2, .int .i64 x3, .int .i64 x4] 47)).alloc (.cells #[.int .i64 vb, .slice Q2 n2 c2, .int .i64 y1, .int .i64 y2, .int .i64 y3, .int .i64 y4] 47)).frozen? ⟨w.heap.size + 1, 5, none⟩ = false := (b6.2 5 _ rfl).2
  have ca3_0 : (((w.alloc (.cells #[.slice A a c0] 38)).alloc (.cells #[.int .i64 va, .slice Q1 n1 c1, .int .i64 x1, .int .i64 x2, .int .i64 x3, .int .i64 x4] 47)).alloc (.cells #[.int .i64 vb, .slice Q2 n2 c2, .int .i64 y1, .int .i64 y2, .int .i64 y3, .int .i64 y4] 47)).cell? ⟨w.heap.size + 1 + 1, 0, none⟩ = some (.int .i64 vb) := (b7.2 0 _ rfl).1
  have fa3_0 : (((w.alloc (.cells #[.slice A a c0] 38)).alloc (.cells #[.int .i64 va, .slice Q1 n1 c1, .int .i64 x1, .int .i64 x2, .int .i64 x3, .int .i64 x4] 47)).alloc (.cells #[.int .i64 vb, .slice Q2 n2 c2, .int .i64 y1, .int .i64 y2, .int .i64 y3, .int .i64 y4] 47)).frozen? ⟨w.heap.size + 1 + 1, 0, none⟩ = false := (b7.2 0 _ rfl).2
  have ca3_1 : (((w.alloc (.cells #[.slice A a c0] 38)).alloc (.cells #[.int .i64 va, .slice Q1 n1 c1, .int .i64 x1, .int .i64 x2, .int .i64 x3, .int .i64 x4] 47)).alloc (.cells #[.int .i64 vb, .slice Q2 n2 c2, .int .i64 y1, .int .i64 y2, .int .i64 y3, .int .i64 y4] 47)).cell? ⟨w.heap.size + 1 + 1, 1, none⟩ = some (.slice Q2 n2 c2) := (b7.2 1 _ rfl).1
  have fa3_1 : (((w.alloc (.cells #[.slice A a c0] 38)).alloc (.cells #[.int .i64 va, .slice Q1 n1 c1, .int .i64 x1, .int .i64 x2, .int .i64 x3, .int .i64 x4] 47)).alloc (.cells #[.int .i64 vb, .slice Q2 n2 c2, .int .i64 y1, .int .i64 y2, .int .i64 y3, .int .i64 y4] 47)).frozen? ⟨w.heap.size + 1 + 1, 1, none⟩ = false := (b7.2 1 _ rfl).2
  have ca3_2 : (((w.alloc (.cells #[.slice A a c0] 38)).alloc (.cells #[.int .i64 va, .slice Q1 n1 c1, .int .i64 x1, .int .i64 x2, .int .i64 x3, .int .i64 x4] 47)).alloc (.cells #[.int .i64 vb, .slice Q2 n2 c2, .int .i64 y1, .int .i64 y2, .int .i64 y3, .int .i64 y4] 47)).cell? ⟨w.heap.size + 1 + 1, 2, none⟩ = some (.int .i64 y1) := (b7.2 2 _ rfl).1
  have fa3_2 : (((w.alloc (.cells #[.slice A a c0] 38)).alloc (.cells #[.int .i64 va, .slice Q1 n1 c1, .int .i64 x1, .int .i64 x2, .int .i64 x3, .int .i64 x4] 47)).alloc (.cells #[.int .i64 vb, .slice Q2 n2 c2, .int .i64 y1, .int .i64 y2, .int .i64 y3, .int .i64 y4] 47)).frozen? ⟨w.heap.size + 1 + 1, 2, none⟩ = false := (b7.2 2 _ rfl).2
  have ca3_3 : (((w.alloc (.cells #[.slice A a c0] 38)).alloc (.cells #[.int .i64 va, .slice Q1 n1 c1, .int .i64 x1, .int .i64 x2, .int .i64 x3, .int .i64 x4] 47)).alloc (.cells #[.int .i64 vb, .slice Q2 n2 c2, .int .i64 y1, .int .i64 y2, .int .i64 y3, .int .i64 y4] 47)).cell? ⟨w.heap.size + 1 + 1, 3, none⟩ = some (.int .i64 y2) := (b7.2 3 _ rfl).1
  have fa3_3 : (((w.alloc (.cells #[.slice A a c0] 38)).alloc (.cells #[.int .i64 va, .slice Q1 n1 c1, .int .i64 x1, .int .i64 x2, .int .i64 x3, .int .i64 x4] 47)).alloc (.cells #[.int .i64 vb, .slice Q2 n2 c2, .int .i64 y1, .int .i64 y2, .int .i64 y3, .int .i64 y4] 47)).frozen? ⟨w.heap.size + 1 + 1, 3, none⟩ = false := (b7.2 3 _ rfl).2
  have ca3_4 : (((w.alloc (.cells #[.slice A a c0] 38)).alloc (.cells #[.int .i64 va, .slice Q1 n1 c1, .int .i64 x1, .int .i64 x2, .int .i64 x3, .int .i64 x4] 47)).alloc (.cells #[.int .i64 vb, .slice Q2 n2 c2, .int .i64 y1, .int .i64 y2, .int .i64 y3, .int .i64 y4] 47)).cell? ⟨w.heap.size + 1 + 1, 4, none⟩ = some (.int .i64 y3) := (b7.2 4 _ rfl).1
  have fa3_4 : (((w.alloc (.cells #[.slice A a c0] 38)).alloc (.cells #[.int .i64 va, .slice Q1 n1 c1, .int .i64 x1, .int .i64 x2, .int .i64 x3, .int .i64 x4] 47)).alloc (.cells #[.int .i64 vb, .slice Q2 n2 c2, .int .i64 y1, .int .i64 y2, .int .i64 y3, .int .i64 y4] 47)).frozen? ⟨w.heap.size + 1 + 1, 4, none⟩ = false := (b7.2 4 _ rfl).2
  have ca3_5 : (((w.alloc (.cells #[.slice A a c0] 38)).alloc (.cells #[.int .i64 va, .slice Q1 n1 c1, .int .i64 x1, .int .i64 x2, .int .i64 x3, .int .i64 x4] 47)).alloc (.cells #[.int .i64 vb, .slice Q2 n2 c2, .int .i64 y1, .int .i64 y2, .int .i64 y3, .int .i64 y4] 47)).cell? ⟨w.heap.size + 1 + 1, 5, none⟩ = some (.int .i64 y4) := (b7.2 5 _ rfl).1
  have fa3_5 : (((w.alloc (.cells #[.slice A a c0] 38)).alloc (.cells #[.int .i64 va, .slice Q1 n1 c1, .int .i64 x1, .int .i64 x2, .int .i64 x3, .int .i64 x4] 47)).alloc (.cells #[.int .i64 vb, .slice Q2 n2 c2, .int .i64 y1, .int .i64 y2, .int .i64 y3, .int .i64 y4] 47)).frozen? ⟨w.heap.size + 1 + 1, 5, none⟩ = false := (b7.2 5 _ rfl).2
  go_wp2_with fail
  clear ca1 fa1 ca2_0 fa2_0 ca2_1 fa2_1 ca2_2 fa2_2 ca2_3 fa2_3 ca2_4 fa2_4 ca2_5 fa2_5 ca3_0 fa3_0 ca3_1 fa3_1 ca3_2 fa3_2 ca3_3 fa3_3 ca3_4 fa3_4 ca3_5 fa3_5
  obtain ⟨pHG, HG⟩ : ∃ pB, Hid (geoB ps = pB) := ⟨_, rfl⟩
  refine (IsGeo_any (h.keeps kw)).mono ?_
  rintro e w4 ⟨rfl, k4⟩
  rw [HG.out]
  replace b4 := b4.keeps k4
  replace b6 := b6.keeps k4
  replace b7 := b7.keeps k4
  replace kw := Keeps.trans kw k4
  have lt5 := b7.lt
  have sz6 := kw.size
  clear k4
  cases pHG
  · obtain ⟨e0, e1, e2⟩ : q0 = [] ∧ q1 = [] ∧ q2 = false := by have := HQ.out.symm.trans (pcQ_no (by rw [HG.out]; rfl)); injection this with a b; injection b with b c; exact ⟨a, b, c⟩
    subst e0 e1 e2
    obtain ⟨ca7, fa7⟩ := id b4
    have ca8_0 : w4.cell? ⟨w.heap.size + 1, 0, none⟩ = some (.int .i64 va) := (b6.2 0 _ rfl).1
    have fa8_0 : w4.frozen? ⟨w.heap.size + 1, 0, none⟩ = false := (b6.2 0 _ rfl).2
    have ca8_1 : w4.cell? ⟨w.heap.size + 1, 1, none⟩ = some (.slice Q1 n1 c1) := (b6.2 1 _ rfl).1
    have fa8_1 : w4.frozen? ⟨w.heap.size + 1, 1, none⟩ = false := (b6.2 1 _ rfl).2
    have ca8_2 : w4.cell? ⟨w.heap.size + 1, 2, none⟩ = some (.int .i64 x1) := (b6.2 2 _ rfl).1
    have fa8_2 : w4.frozen? ⟨w.heap.size + 1, 2, none⟩ = false := (b6.2 2 _ rfl).2
    have ca8_3 : w4.cell? ⟨w.heap.size + 1, 3, none⟩ = some (.int .i64 x2) := (b6.2 3 _ rfl).1
    have fa8_3 : w4.frozen? ⟨w.heap.size + 1, 3, none⟩ = false := (b6.2 3 _ rfl).2
    have ca8_4 : w4.cell? ⟨w.heap.size + 1, 4, none⟩ = some (.int .i64 x3) := (b6.2 4 _ rfl).1
    have fa8_4 : w4.frozen? ⟨w.heap.size + 1, 4, none⟩ = false := (b6.2 4 _ rfl).2
    have ca8_5 : w4.cell? ⟨w.heap.size + 1, 5, none⟩ = some (.int .i64 x4) := (b6.2 5 _ rfl).1
    have fa8_5 : w4.frozen? ⟨w.heap.size + 1, 5, none⟩ = false := (b6.2 5 _ rfl).2
    have ca9_0 : w4.cell? ⟨w.heap.size + 1 + 1, 0, none⟩ = some (.int .i64 vb) := (b7.2 0 _ rfl).1
    have fa9_0 : w4.frozen? ⟨w.heap.size + 1 + 1, 0, none⟩ = false := (b7.2 0 _ rfl).2
    have ca9_1 : w4.cell? ⟨w.heap.size + 1 + 1, 1, none⟩ = some (.slice Q2 n2 c2) := (b7.2 1 _ rfl).1
    have fa9_1 : w4.frozen? ⟨w.heap.size + 1 + 1, 1, none⟩ = false := (b7.2 1 _ rfl).2
    have ca9_2 : w4.cell? ⟨w.heap.size + 1 + 1, 2, none⟩ = some (.int .i64 y1) := (b7.2 2 _ rfl).1
    have fa9_2 : w4.frozen? ⟨w.heap.size + 1 + 1, 2, none⟩ = false := (b7.2 2 _ rfl).2
    have ca9_3 : w4.cell? ⟨w.heap.size + 1 + 1, 3, none⟩ = some (.int .i64 y2) := (b7.2 3 _ rfl).1
    have fa9_3 : w4.frozen? ⟨w.heap.size + 1 + 1, 3, none⟩ = false := (b7.2 3 _ rfl).2
    have ca9_4 : w4.cell? ⟨w.heap.size + 1 + 1, 4, none⟩ = some (.int .i64 y3) := (b7.2 4 _ rfl).1
    have fa9_4 : w4.frozen? ⟨w.heap.size + 1 + 1, 4, none⟩ = false := (b7.2 4 _ rfl).2
    have ca9_5 : w4.cell? ⟨w.heap.size + 1 + 1, 5, none⟩ = some (.int .i64 y4) := (b7.2 5 _ rfl).1
    have fa9_5 : w4.frozen? ⟨w.heap.size + 1 + 1, 5, none⟩ = false := (b7.2 5 _ rfl).2
    go_wp2_with fail
    clear ca7 fa7 ca8_0 fa8_0 ca8_1 fa8_1 ca8_2 fa8_2 ca8_3 fa8_3 ca8_4 fa8_4 ca8_5 fa8_5 ca9_0 fa9_0 ca9_1 fa9_1 ca9_2 fa9_2 ca9_3 fa9_3 ca9_4 fa9_4 ca9_5 fa9_5
    go_ret3
    exact TwoI.no kw
  · skip
    obtain ⟨ca7, fa7⟩ := id b4
    have ca8_0 : w4.cell? ⟨w.heap.size + 1, 0, none⟩ = some (.int .i64 va) := (b6.2 0 _ rfl).1
    have fa8_0 : w4.frozen? ⟨w.heap.size + 1, 0, none⟩ = false := (b6.2 0 _ rfl).2
    have ca8_1 : w4.cell? ⟨w.heap.size + 1, 1, none⟩ = some (.slice Q1 n1 c1) := (b6.2 1 _ rfl).1
    have fa8_1 : w4.frozen? ⟨w.heap.size + 1, 1, none⟩ = false := (b6.2 1 _ rfl).2
    have ca8_2 : w4.cell? ⟨w.heap.size + 1, 2, none⟩ = some (.int .i64 x1) := (b6.2 2 _ rfl).1
    have fa8_2 : w4.frozen? ⟨w.heap.size + 1, 2, none⟩ = false := (b6.2 2 _ rfl).2
    have ca8_3 : w4.cell? ⟨w.heap.size + 1, 3, none⟩ = some (.int .i64 x2) := (b6.2 3 _ rfl).1
    have fa8_3 : w4.frozen? ⟨w.heap.size + 1, 3, none⟩ = false := (b6.2 3 _ rfl).2
    have ca8_4 : w4.cell? ⟨w.heap.size + 1, 4, none⟩ = some (.int .i64 x3) := (b6.2 4 _ rfl).1
    have fa8_4 : w4.frozen? ⟨w.heap.size + 1, 4, none⟩ = false := (b6.2 4 _ rfl).2
    have ca8_5 : w4.cell? ⟨w.heap.size + 1, 5, none⟩ = some (.int .i64 x4) := (b6.2 5 _ rfl).1
    have fa8_5 : w4.frozen? ⟨w.heap.size + 1, 5, none⟩ = false := (b6.2 5 _ rfl).2
    have ca9_0 : w4.cell? ⟨w.heap.size + 1 + 1, 0, none⟩ = some (.int .i64 vb) := (b7.2 0 _ rfl).1
    have fa9_0 : w4.frozen? ⟨w.heap.size + 1 + 1, 0, none⟩ = false := (b7.2 0 _ rfl).2
    have ca9_1 : w4.cell? ⟨w.heap.size + 1 + 1, 1, none⟩ = some (.slice Q2 n2 c2) := (b7.2 1 _ rfl).1
    have fa9_1 : w4.frozen? ⟨w.heap.size + 1 + 1, 1, none⟩ = false := (b7.2 1 _ rfl).2
    have ca9_2 : w4.cell? ⟨w.heap.size + 1 + 1, 2, none⟩ = some (.int .i64 y1) := (b7.2 2 _ rfl).1
    have fa9_2 : w4.frozen? ⟨w.heap.size + 1 + 1, 2, none⟩ = false := (b7.2 2 _ rfl).2
    have ca9_3 : w4.cell? ⟨w.heap.size + 1 + 1, 3, none⟩ = some (.int .i64 y2) := (b7.2 3 _ rfl).1
    have fa9_3 : w4.frozen? ⟨w.heap.size + 1 + 1, 3, none⟩ = false := (b7.2 3 _ rfl).2
    have ca9_4 : w4.cell? ⟨w.heap.size + 1 + 1, 4, none⟩ = some (.int .i64 y3) := (b7.2 4 _ rfl).1
    have fa9_4 : w4.frozen? ⟨w.heap.size + 1 + 1, 4, none⟩ = false := (b7.2 4 _ rfl).2
    have ca9_5 : w4.cell? ⟨w.heap.size + 1 + 1, 5, none⟩ = some (.int .i64 y4) := (b7.2 5 _ rfl).1
    have fa9_5 : w4.frozen? ⟨w.heap.size + 1 + 1, 5, none⟩ = false := (b7.2 5 _ rfl).2
    go_wp2_with fail
    clear ca7 fa7 ca8_0 fa8_0 ca8_1 fa8_1 ca8_2 fa8_2 ca8_3 fa8_3 ca8_4 fa8_4 ca8_5 fa8_5 ca9_0 fa9_0 ca9_1 fa9_1 ca9_2 fa9_2 ca9_3 fa9_3 ca9_4 fa9_4 ca9_5 fa9_5
    obtain ⟨pHS, HS⟩ : ∃ pB, Hid (schB l = pB) := ⟨_, rfl⟩
    refine (IsSchema_any (Sl.keeps hz kw) h'.ok h'.cap h'.c64).mono ?_
    rintro e w10 ⟨rfl, k10⟩
    rw [HS.out]
    replace b4 := b4.keeps k10
    replace b6 := b6.keeps k10
    replace b7 := b7.keeps k10
    replace kw := Keeps.trans kw k10
    have lt11 := b7.lt
    have sz12 := kw.size
    clear k10
    cases pHS
    · obtain ⟨e0, e1, e2⟩ : q0 = [] ∧ q1 = [] ∧ q2 = false := by have := HQ.out.symm.trans (pcQ_no (by rw [HG.out, HS.out]; rfl)); injection this with a b; injection b with b c; exact ⟨a, b, c⟩
      subst e0 e1 e2
      obtain ⟨ca13, fa13⟩ := id b4
      have ca14_0 : w10.cell? ⟨w.heap.size + 1, 0, none⟩ = some (.int .i64 va) := (b6.2 0 _ rfl).1
      have fa14_0 : w10.frozen? ⟨w.heap.size + 1, 0, none⟩ = false := (b6.2 0 _ rfl).2
      have ca14_1 : w10.cell? ⟨w.heap.size + 1, 1, none⟩ = some (.slice Q1 n1 c1) := (b6.2 1 _ rfl).1
      have fa14_1 : w10.frozen? ⟨w.heap.size + 1, 1, none⟩ = false := (b6.2 1 _ rfl).2
      have ca14_2 : w10.cell? ⟨w.heap.size + 1, 2, none⟩ = some (.int .i64 x1) := (b6.2 2 _ rfl).1
      have fa14_2 : w10.frozen? ⟨w.heap.size + 1, 2, none⟩ = false := (b6.2 2 _ rfl).2
      have ca14_3 : w10.cell? ⟨w.heap.size + 1, 3, none⟩ = some (.int .i64 x2) := (b6.2 3 _ rfl).1
      have fa14_3 : w10.frozen? ⟨w.heap.size + 1, 3, none⟩ = false := (b6.2 3 _ rfl).2
      have ca14_4 : w10.cell? ⟨w.heap.size + 1, 4, none⟩ = some (.int .i64 x3) := (b6.2 4 _ rfl).1
      have fa14_4 : w10.frozen? ⟨w.heap.size + 1, 4, none⟩ = false := (b6.2 4 _ rfl).2
      have ca14_5 : w10.cell? ⟨w.heap.size + 1, 5, none⟩ = some (.int .i64 x4) := (b6.2 5 _ rfl).1
      have fa14_5 : w10.frozen? ⟨w.heap.size + 1, 5, none⟩ = false := (b6.2 5 _ rfl).2
      have ca15_0 : w10.cell? ⟨w.heap.size + 1 + 1, 0, none⟩ = some (.int .i64 vb) := (b7.2 0 _ rfl).1
      have fa15_0 : w10.frozen? ⟨w.heap.size + 1 + 1, 0, none⟩ = false := (b7.2 0 _ rfl).2
      have ca15_1 : w10.cell? ⟨w.heap.size + 1 + 1, 1, none⟩ = some (.slice Q2 n2 c2) := (b7.2 1 _ rfl).1
      have fa15_1 : w10.frozen? ⟨w.heap.size + 1 + 1, 1, none⟩ = false := (b7.2 1 _ rfl).2
      have ca15_2 : w10.cell? ⟨w.heap.size + 1 + 1, 2, none⟩ = some (.int .i64 y1) := (b7.2 2 _ rfl).1
      have fa15_2 : w10.frozen? ⟨w.heap.size + 1 + 1, 2, none⟩ = false := (b7.2 2 _ rfl).2
      have ca15_3 : w10.cell? ⟨w.heap.size + 1 + 1, 3, none⟩ = some (.int .i64 y2) := (b7.2 3 _ rfl).1
      have fa15_3 : w10.frozen? ⟨w.heap.size + 1 + 1, 3, none⟩ = false := (b7.2 3 _ rfl).2
      have ca15_4 : w10.cell? ⟨w.heap.size + 1 + 1, 4, none⟩ = some (.int .i64 y3) := (b7.2 4 _ rfl).1
      have fa15_4 : w10.frozen? ⟨w.heap.size + 1 + 1, 4, none⟩ = false := (b7.2 4 _ rfl).2
      have ca15_5 : w10.cell? ⟨w.heap.size + 1 + 1, 5, none⟩ = some (.int .i64 y4) := (b7.2 5 _ rfl).1
      have fa15_5 : w10.frozen? ⟨w.heap.size + 1 + 1, 5, none⟩ = false := (b7.2 5 _ rfl).2
      go_wp2_with fail
      clear ca13 fa13 ca14_0 fa14_0 ca14_1 fa14_1 ca14_2 fa14_2 ca14_3 fa14_3 ca14_4 fa14_4 ca14_5 fa14_5 ca15_0 fa15_0 ca15_1 fa15_1 ca15_2 fa15_2 ca15_3 fa15_3 ca15_4 fa15_4 ca15_5 fa15_5
      go_ret3
      exact TwoI.no kw
    · skip
      obtain ⟨ca13, fa13⟩ := id b4
      have ca14_0 : w10.cell? ⟨w.heap.size + 1, 0, none⟩ = some (.int .i64 va) := (b6.2 0 _ rfl).1
      have fa14_0 : w10.frozen? ⟨w.heap.size + 1, 0, none⟩ = false := (b6.2 0 _ rfl).2
      have ca14_1 : w10.cell? ⟨w.heap.size + 1, 1, none⟩ = some (.slice Q1 n1 c1) := (b6.2 1 _ rfl).1
      have fa14_1 : w10.frozen? ⟨w.heap.size + 1, 1, none⟩ = false := (b6.2 1 _ rfl).2
      have ca14_2 : w10.cell? ⟨w.heap.size + 1, 2, none⟩ = some (.int .i64 x1) := (b6.2 2 _ rfl).1
      have fa14_2 : w10.frozen? ⟨w.heap.size + 1, 2, none⟩ = false := (b6.2 2 _ rfl).2
      have ca14_3 : w10.cell? ⟨w.heap.size + 1, 3, none⟩ = some (.int .i64 x2) := (b6.2 3 _ rfl).1
      have fa14_3 : w10.frozen? ⟨w.heap.size + 1, 3, none⟩ = false := (b6.2 3 _ rfl).2
      have ca14_4 : w10.cell? ⟨w.heap.size + 1, 4, none⟩ = some (.int .i64 x3) := (b6.2 4 _ rfl).1
      have fa14_4 : w10.frozen? ⟨w.heap.size + 1, 4, none⟩ = false := (b6.2 4 _ rfl).2
      have ca14_5 : w10.cell? ⟨w.heap.size + 1, 5, none⟩ = some (.int .i64 x4) := (b6.2 5 _ rfl).1
      have fa14_5 : w10.frozen? ⟨w.heap.size + 1, 5, none⟩ = false := (b6.2 5 _ rfl).2
      have ca15_0 : w10.cell? ⟨w.heap.size + 1 + 1, 0, none⟩ = some (.int .i64 vb) := (b7.2 0 _ rfl).1
      have fa15_0 : w10.frozen? ⟨w.heap.size + 1 + 1, 0, none⟩ = false := (b7.2 0 _ rfl).2
      have ca15_1 : w10.cell? ⟨w.heap.size + 1 + 1, 1, none⟩ = some (.slice Q2 n2 c2) := (b7.2 1 _ rfl).1
      have fa15_1 : w10.frozen? ⟨w.heap.size + 1 + 1, 1, none⟩ = false := (b7.2 1 _ rfl).2
      have ca15_2 : w10.cell? ⟨w.heap.size + 1 + 1, 2, none⟩ = some (.int .i64 y1) := (b7.2 2 _ rfl).1
      have fa15_2 : w10.frozen? ⟨w.heap.size + 1 + 1, 2, none⟩ = false := (b7.2 2 _ rfl).2
      have ca15_3 : w10.cell? ⟨w.heap.size + 1 + 1, 3, none⟩ = some (.int .i64 y2) := (b7.2 3 _ rfl).1
      have fa15_3 : w10.frozen? ⟨w.heap.size + 1 + 1, 3, none⟩ = false := (b7.2 3 _ rfl).2
      have ca15_4 : w10.cell? ⟨w.heap.size + 1 + 1, 4, none⟩ = some (.int .i64 y3) := (b7.2 4 _ rfl).1
      have fa15_4 : w10.frozen? ⟨w.heap.size + 1 + 1, 4, none⟩ = false := (b7.2 4 _ rfl).2
      have ca15_5 : w10.cell? ⟨w.heap.size + 1 + 1, 5, none⟩ = some (.int .i64 y4) := (b7.2 5 _ rfl).1
      have fa15_5 : w10.frozen? ⟨w.heap.size + 1 + 1, 5, none⟩ = false := (b7.2 5 _ rfl).2
      go_wp2_with fail
      clear ca13 fa13 ca14_0 fa14_0 ca14_1 fa14_1 ca14_2 fa14_2 ca14_3 fa14_3 ca14_4 fa14_4 ca14_5 fa14_5 ca15_0 fa15_0 ca15_1 fa15_1 ca15_2 fa15_2 ca15_3 fa15_3 ca15_4 fa15_4 ca15_5 fa15_5
      obtain ⟨pHA, HA⟩ : ∃ pB, Hid (relB ps l (va, ts, x1, x2, x3, x4) = pB) := ⟨_, rfl⟩
      refine (isRelease_any (c := c1) (h.keeps kw) (h'.keeps kw) (hp.keeps kw) HG.out HS.out).mono ?_
      rintro e w16 ⟨rfl, k16⟩
      rw [HA.out]
      replace b4 := b4.keeps k16
      replace b6 := b6.keeps k16
      replace b7 := b7.keeps k16
      replace kw := Keeps.trans kw k16
      have lt17 := b7.lt
      have sz18 := kw.size
      clear k16
      cases pHA
      · obtain ⟨e0, e1, e2⟩ : q0 = [] ∧ q1 = [] ∧ q2 = false := by have := HQ.out.symm.trans (pcQ_no (by rw [HG.out, HS.out, HA.out]; rfl)); injection this with a b; injection b with b c; exact ⟨a, b, c⟩
        subst e0 e1 e2
        obtain ⟨ca19, fa19⟩ := id b4
        have ca20_0 : w16.cell? ⟨w.heap.size + 1, 0, none⟩ = some (.int .i64 va) := (b6.2 0 _ rfl).1
        have fa20_0 : w16.frozen? ⟨w.heap.size + 1, 0, none⟩ = false := (b6.2 0 _ rfl).2
        have ca20_1 : w16.cell? ⟨w.heap.size + 1, 1, none⟩ = some (.slice Q1 n1 c1) := (b6.2 1 _ rfl).1
        have fa20_1 : w16.frozen? ⟨w.heap.size + 1, 1, none⟩ = false := (b6.2 1 _ rfl).2
        have ca20_2 : w16.cell? ⟨w.heap.size + 1, 2, none⟩ = some (.int .i64 x1) := (b6.2 2 _ rfl).1
        have fa20_2 : w16.frozen? ⟨w.heap.size + 1, 2, none⟩ = false := (b6.2 2 _ rfl).2
        have ca20_3 : w16.cell? ⟨w.heap.size + 1, 3, none⟩ = some (.int .i64 x2) := (b6.2 3 _ rfl).1
        have fa20_3 : w16.frozen? ⟨w.heap.size + 1, 3, none⟩ = false := (b6.2 3 _ rfl).2
        have ca20_4 : w16.cell? ⟨w.heap.size + 1, 4, none⟩ = some (.int .i64 x3) := (b6.2 4 _ rfl).1
        have fa20_4 : w16.frozen? ⟨w.heap.size + 1, 4, none⟩ = false := (b6.2 4 _ rfl).2
        have ca20_5 : w16.cell? ⟨w.heap.size + 1, 5, none⟩ = some (.int .i64 x4) := (b6.2 5 _ rfl).1
        have fa20_5 : w16.frozen? ⟨w.heap.size + 1, 5, none⟩ = false := (b6.2 5 _ rfl).2
        have ca21_0 : w16.cell? ⟨w.heap.size + 1 + 1, 0, none⟩ = some (.int .i64 vb) := (b7.2 0 _ rfl).1
        have fa21_0 : w16.frozen? ⟨w.heap.size + 1 + 1, 0, none⟩ = false := (b7.2 0 _ rfl).2
        have ca21_1 : w16.cell? ⟨w.heap.size + 1 + 1, 1, none⟩ = some (.slice Q2 n2 c2) := (b7.2 1 _ rfl).1
        have fa21_1 : w16.frozen? ⟨w.heap.size + 1 + 1, 1, none⟩ = false := (b7.2 1 _ rfl).2
        have ca21_2 : w16.cell? ⟨w.heap.size + 1 + 1, 2, none⟩ = some (.int .i64 y1) := (b7.2 2 _ rfl).1
        have fa21_2 : w16.frozen? ⟨w.heap.size + 1 + 1, 2, none⟩ = false := (b7.2 2 _ rfl).2
        have ca21_3 : w16.cell? ⟨w.heap.size + 1 + 1, 3, none⟩ = some (.int .i64 y2) := (b7.2 3 _ rfl).1
        have fa21_3 : w16.frozen? ⟨w.heap.size + 1 + 1, 3, none⟩ = false := (b7.2 3 _ rfl).2
        have ca21_4 : w16.cell? ⟨w.heap.size + 1 + 1, 4, none⟩ = some (.int .i64 y3) := (b7.2 4 _ rfl).1
        have fa21_4 : w16.frozen? ⟨w.heap.size + 1 + 1, 4, none⟩ = false := (b7.2 4 _ rfl).2
        have ca21_5 : w16.cell? ⟨w.heap.size + 1 + 1, 5, none⟩ = some (.int .i64 y4) := (b7.2 5 _ rfl).1
        have fa21_5 : w16.frozen? ⟨w.heap.size + 1 + 1, 5, none⟩ = false := (b7.2 5 _ rfl).2
        go_wp2_with fail
        clear ca19 fa19 ca20_0 fa20_0 ca20_1 fa20_1 ca20_2 fa20_2 ca20_3 fa20_3 ca20_4 fa20_4 ca20_5 fa20_5 ca21_0 fa21_0 ca21_1 fa21_1 ca21_2 fa21_2 ca21_3 fa21_3 ca21_4 fa21_4 ca21_5 fa21_5
        go_ret3
        exact TwoI.no kw
      · skip
        obtain ⟨ca19, fa19⟩ := id b4
        have ca20_0 : w16.cell? ⟨w.heap.size + 1, 0, none⟩ = some (.int .i64 va) := (b6.2 0 _ rfl).1
        have fa20_0 : w16.frozen? ⟨w.heap.size + 1, 0, none⟩ = false := (b6.2 0 _ rfl).2
        have ca20_1 : w16.cell? ⟨w.heap.size + 1, 1, none⟩ = some (.slice Q1 n1 c1) := (b6.2 1 _ rfl).1
        have fa20_1 : w16.frozen? ⟨w.heap.size + 1, 1, none⟩ = false := (b6.2 1 _ rfl).2
        have ca20_2 : w16.cell? ⟨w.heap.size + 1, 2, none⟩ = some (.int .i64 x1) := (b6.2 2 _ rfl).1
        have fa20_2 : w16.frozen? ⟨w.heap.size + 1, 2, none⟩ = false := (b6.2 2 _ rfl).2
        have ca20_3 : w16.cell? ⟨w.heap.size + 1, 3, none⟩ = some (.int .i64 x2) := (b6.2 3 _ rfl).1
        have fa20_3 : w16.frozen? ⟨w.heap.size + 1, 3, none⟩ = false := (b6.2 3 _ rfl).2
        have ca20_4 : w16.cell? ⟨w.heap.size + 1, 4, none⟩ = some (.int .i64 x3) := (b6.2 4 _ rfl).1
        have fa20_4 : w16.frozen? ⟨w.heap.size + 1, 4, none⟩ = false := (b6.2 4 _ rfl).2
        have ca20_5 : w16.cell? ⟨w.heap.size + 1, 5, none⟩ = some (.int .i64 x4) := (b6.2 5 _ rfl).1
        have fa20_5 : w16.frozen? ⟨w.heap.size + 1, 5, none⟩ = false := (b6.2 5 _ rfl).2
        have ca21_0 : w16.cell? ⟨w.heap.size + 1 + 1, 0, none⟩ = some (.int .i64 vb) := (b7.2 0 _ rfl).1
        have fa21_0 : w16.frozen? ⟨w.heap.size + 1 + 1, 0, none⟩ = false := (b7.2 0 _ rfl).2
        have ca21_1 : w16.cell? ⟨w.heap.size + 1 + 1, 1, none⟩ = some (.slice Q2 n2 c2) := (b7.2 1 _ rfl).1
        have fa21_1 : w16.frozen? ⟨w.heap.size + 1 + 1, 1, none⟩ = false := (b7.2 1 _ rfl).2
        have ca21_2 : w16.cell? ⟨w.heap.size + 1 + 1, 2, none⟩ = some (.int .i64 y1) := (b7.2 2 _ rfl).1
        have fa21_2 : w16.frozen? ⟨w.heap.size + 1 + 1, 2, none⟩ = false := (b7.2 2 _ rfl).2
        have ca21_3 : w16.cell? ⟨w.heap.size + 1 + 1, 3, none⟩ = some (.int .i64 y2) := (b7.2 3 _ rfl).1
        have fa21_3 : w16.frozen? ⟨w.heap.size + 1 + 1, 3, none⟩ = false := (b7.2 3 _ rfl).2
        have ca21_4 : w16.cell? ⟨w.heap.size + 1 + 1, 4, none⟩ = some (.int .i64 y3) := (b7.2 4 _ rfl).1
        have fa21_4 : w16.frozen? ⟨w.heap.size + 1 + 1, 4, none⟩ = false := (b7.2 4 _ rfl).2
        have ca21_5 : w16.cell? ⟨w.heap.size + 1 + 1, 5, none⟩ = some (.int .i64 y4) := (b7.2 5 _ rfl).1
        have fa21_5 : w16.frozen? ⟨w.heap.size + 1 + 1, 5, none⟩ = false := (b7.2 5 _ rfl).2
        go_wp2_with fail
        clear ca19 fa19 ca20_0 fa20_0 ca20_1 fa20_1 ca20_2 fa20_2 ca20_3 fa20_3 ca20_4 fa20_4 ca20_5 fa20_5 ca21_0 fa21_0 ca21_1 fa21_1 ca21_2 fa21_2 ca21_3 fa21_3 ca21_4 fa21_4 ca21_5 fa21_5
        obtain ⟨pHB, HB⟩ : ∃ pB, Hid (relB ps l (vb, us, y1, y2, y3, y4) = pB) := ⟨_, rfl⟩
        refine (isRelease_any (c := c2) (h.keeps kw) (h'.keeps kw) (hr.keeps kw) HG.out HS.out).mono ?_
        rintro e w22 ⟨rfl, k22⟩
        rw [HB.out]
        replace b4 := b4.keeps k22
        replace b6 := b6.keeps k22
        replace b7 := b7.keeps k22
        replace kw := Keeps.trans kw k22
        have lt23 := b7.lt
        have sz24 := kw.size
        clear k22
        cases pHB
        · obtain ⟨e0, e1, e2⟩ : q0 = [] ∧ q1 = [] ∧ q2 = false := by have := HQ.out.symm.trans (pcQ_no (by rw [HG.out, HS.out, HA.out, HB.out]; rfl)); injection this with a b; injection b with b c; exact ⟨a, b, c⟩
          subst e0 e1 e2
          obtain ⟨ca25, fa25⟩ := id b4
          have ca26_0 : w22.cell? ⟨w.heap.size + 1, 0, none⟩ = some (.int .i64 va) := (b6.2 0 _ rfl).1
          have fa26_0 : w22.frozen? ⟨w.heap.size + 1, 0, none⟩ = false := (b6.2 0 _ rfl).2
          have ca26_1 : w22.cell? ⟨w.heap.size + 1, 1, none⟩ = some (.slice Q1 n1 c1) := (b6.2 1 _ rfl).1
          have fa26_1 : w22.frozen? ⟨w.heap.size + 1, 1, none⟩ = false := (b6.2 1 _ rfl).2
          have ca26_2 : w22.cell? ⟨w.heap.size + 1, 2, none⟩ = some (.int .i64 x1) := (b6.2 2 _ rfl).1
          have fa26_2 : w22.frozen? ⟨w.heap.size + 1, 2, none⟩ = false := (b6.2 2 _ rfl).2
          have ca26_3 : w22.cell? ⟨w.heap.size + 1, 3, none⟩ = some (.int .i64 x2) := (b6.2 3 _ rfl).1
          have fa26_3 : w22.frozen? ⟨w.heap.size + 1, 3, none⟩ = false := (b6.2 3 _ rfl).2
          have ca26_4 : w22.cell? ⟨w.heap.size + 1, 4, none⟩ = some (.int .i64 x3) := (b6.2 4 _ rfl).1
          have fa26_4 : w22.frozen? ⟨w.heap.size + 1, 4, none⟩ = false := (b6.2 4 _ rfl).2
          have ca26_5 : w22.cell? ⟨w.heap.size + 1, 5, none⟩ = some (.int .i64 x4) := (b6.2 5 _ rfl).1
          have fa26_5 : w22.frozen? ⟨w.heap.size + 1, 5, none⟩ = false := (b6.2 5 _ rfl).2
          have ca27_0 : w22.cell? ⟨w.heap.size + 1 + 1, 0, none⟩ = some (.int .i64 vb) := (b7.2 0 _ rfl).1
          have fa27_0 : w22.frozen? ⟨w.heap.size + 1 + 1, 0, none⟩ = false := (b7.2 0 _ rfl).2
          have ca27_1 : w22.cell? ⟨w.heap.size + 1 + 1, 1, none⟩ = some (.slice Q2 n2 c2) := (b7.2 1 _ rfl).1
          have fa27_1 : w22.frozen? ⟨w.heap.size + 1 + 1, 1, none⟩ = false := (b7.2 1 _ rfl).2
          have ca27_2 : w22.cell? ⟨w.heap.size + 1 + 1, 2, none⟩ = some (.int .i64 y1) := (b7.2 2 _ rfl).1
          have fa27_2 : w22.frozen? ⟨w.heap.size + 1 + 1, 2, none⟩ = false := (b7.2 2 _ rfl).2
          have ca27_3 : w22.cell? ⟨w.heap.size + 1 + 1, 3, none⟩ = some (.int .i64 y2) := (b7.2 3 _ rfl).1
          have fa27_3 : w22.frozen? ⟨w.heap.size + 1 + 1, 3, none⟩ = false := (b7.2 3 _ rfl).2
          have ca27_4 : w22.cell? ⟨w.heap.size + 1 + 1, 4, none⟩ = some (.int .i64 y3) := (b7.2 4 _ rfl).1
          have fa27_4 : w22.frozen? ⟨w.heap.size + 1 + 1, 4, none⟩ = false := (b7.2 4 _ rfl).2
          have ca27_5 : w22.cell? ⟨w.heap.size + 1 + 1, 5, none⟩ = some (.int .i64 y4) := (b7.2 5 _ rfl).1
          have fa27_5 : w22.frozen? ⟨w.heap.size + 1 + 1, 5, none⟩ = false := (b7.2 5 _ rfl).2
          go_wp2_with fail
          clear ca25 fa25 ca26_0 fa26_0 ca26_1 fa26_1 ca26_2 fa26_2 ca26_3 fa26_3 ca26_4 fa26_4 ca26_5 fa26_5 ca27_0 fa27_0 ca27_1 fa27_1 ca27_2 fa27_2 ca27_3 fa27_3 ca27_4 fa27_4 ca27_5 fa27_5
          go_ret3
          exact TwoI.no kw
        · skip
          obtain ⟨e0, e1, e2⟩ : q0 = pcL l us ts ∧ q1 = pcL l ts us ∧ q2 = true := by have := HQ.out.symm.trans (pcQ_yes (by rw [HG.out, HS.out, HA.out, HB.out]; rfl)); injection this with a b; injection b with b c; exact ⟨a, b, c⟩
          subst e0 e1 e2
          have HT := hid (pl_wh (relB_pl HA.out))
          have HU := hid (pl_wh (relB_pl HB.out))
          have HLV := hid (schB_lv HZ.out HS.out).1
          have HP := hid (pcL_len l us ts)
          obtain ⟨ca25, fa25⟩ := id b4
          have ca26_0 : w22.cell? ⟨w.heap.size + 1, 0, none⟩ = some (.int .i64 va) := (b6.2 0 _ rfl).1
          have fa26_0 : w22.frozen? ⟨w.heap.size + 1, 0, none⟩ = false := (b6.2 0 _ rfl).2
          have ca26_1 : w22.cell? ⟨w.heap.size + 1, 1, none⟩ = some (.slice Q1 n1 c1) := (b6.2 1 _ rfl).1
          have fa26_1 : w22.frozen? ⟨w.heap.size + 1, 1, none⟩ = false := (b6.2 1 _ rfl).2
          have ca26_2 : w22.cell? ⟨w.heap.size + 1, 2, none⟩ = some (.int .i64 x1) := (b6.2 2 _ rfl).1
          have fa26_2 : w22.frozen? ⟨w.heap.size + 1, 2, none⟩ = false := (b6.2 2 _ rfl).2
          have ca26_3 : w22.cell? ⟨w.heap.size + 1, 3, none⟩ = some (.int .i64 x2) := (b6.2 3 _ rfl).1
          have fa26_3 : w22.frozen? ⟨w.heap.size + 1, 3, none⟩ = false := (b6.2 3 _ rfl).2
          have ca26_4 : w22.cell? ⟨w.heap.size + 1, 4, none⟩ = some (.int .i64 x3) := (b6.2 4 _ rfl).1
          have fa26_4 : w22.frozen? ⟨w.heap.size + 1, 4, none⟩ = false := (b6.2 4 _ rfl).2
          have ca26_5 : w22.cell? ⟨w.heap.size + 1, 5, none⟩ = some (.int .i64 x4) := (b6.2 5 _ rfl).1
          have fa26_5 : w22.frozen? ⟨w.heap.size + 1, 5, none⟩ = false := (b6.2 5 _ rfl).2
          have ca27_0 : w22.cell? ⟨w.heap.size + 1 + 1, 0, none⟩ = some (.int .i64 vb) := (b7.2 0 _ rfl).1
          have fa27_0 : w22.frozen? ⟨w.heap.size + 1 + 1, 0, none⟩ = false := (b7.2 0 _ rfl).2
          have ca27_1 : w22.cell? ⟨w.heap.size + 1 + 1, 1, none⟩ = some (.slice Q2 n2 c2) := (b7.2 1 _ rfl).1
          have fa27_1 : w22.frozen? ⟨w.heap.size + 1 + 1, 1, none⟩ = false := (b7.2 1 _ rfl).2
          have ca27_2 : w22.cell? ⟨w.heap.size + 1 + 1, 2, none⟩ = some (.int .i64 y1) := (b7.2 2 _ rfl).1
          have fa27_2 : w22.frozen? ⟨w.heap.size + 1 + 1, 2, none⟩ = false := (b7.2 2 _ rfl).2
          have ca27_3 : w22.cell? ⟨w.heap.size + 1 + 1, 3, none⟩ = some (.int .i64 y2) := (b7.2 3 _ rfl).1
          have fa27_3 : w22.frozen? ⟨w.heap.size + 1 + 1, 3, none⟩ = false := (b7.2 3 _ rfl).2
          have ca27_4 : w22.cell? ⟨w.heap.size + 1 + 1, 4, none⟩ = some (.int .i64 y3) := (b7.2 4 _ rfl).1
          have fa27_4 : w22.frozen? ⟨w.heap.size + 1 + 1, 4, none⟩ = false := (b7.2 4 _ rfl).2
          have ca27_5 : w22.cell? ⟨w.heap.size + 1 + 1, 5, none⟩ = some (.int .i64 y4) := (b7.2 5 _ rfl).1
          have fa27_5 : w22.frozen? ⟨w.heap.size + 1 + 1, 5, none⟩ = false := (b7.2 5 _ rfl).2
          go_wp2_with fail
          clear ca25 fa25 ca26_0 fa26_0 ca26_1 fa26_1 ca26_2 fa26_2 ca26_3 fa26_3 ca26_4 fa26_4 ca26_5 fa26_5 ca27_0 fa27_0 ca27_1 fa27_1 ca27_2 fa27_2 ca27_3 fa27_3 ca27_4 fa27_4 ca27_5 fa27_5
          have ca1 := (b6.2 1 _ rfl).1
          have ca2 := (b7.2 1 _ rfl).1
          have kS := hid (show ∀ w', Keeps w22 w' → (w'.cell? ⟨w.heap.size + 1, 1, none⟩ = some (.slice Q1 n1 c1) ∧ w'.cell? ⟨w.heap.size + 1 + 1, 1, none⟩ = some (.slice Q2 n2 c2)) from fun w' k => ⟨cell_keeps ca1 k, cell_keeps ca2 k⟩)
          have hD := h'.keeps (kw.trans (keeps_d0 w22))
          have hpD := hp.keeps (kw.trans (keeps_d0 w22))
          have hrD := hr.keeps (kw.trans (keeps_d0 w22))
          go_region_held3 (fun w' => w'.cell? ⟨w.heap.size + 1, 1, none⟩ = some (.slice Q1 n1 c1) ∧ w'.cell? ⟨w.heap.size + 1 + 1, 1, none⟩ = some (.slice Q2 n2 c2)) (first | with_reducible exact kS.out _ (keeps_d0 w22) | with_reducible exact kS.out _ kW | go_keep)
            ((first | (go_at_call 40; (with_reducible refine (newIn_any (c := c2) (c9 := c1) hD HLV.out hrD hpD HU.out HT.out).mono ?_); rintro e wB ⟨A1, N1, C1, rfl, m1, kB⟩; have kW : Keeps w22 wB := keeps_d kB; replace m1 : Mine wB w22.heap.size wB.heap.size A1 N1 (pcL l us ts) := m1; clear kB) | (go_at_call 40; (with_reducible refine (newIn_any (c := c1) (c9 := c2) (h'.keeps (kw.trans kW)) HLV.out (hp.keeps (kw.trans kW)) (hr.keeps (kw.trans kW)) HT.out HU.out).mono ?_); rintro e wC ⟨A2, N2, C2, rfl, m2, kC⟩; have szB := kW.size; have szC := kC.size; replace m1 := m1.keeps kC; replace kW := kW.trans kC; clear kC)))
          clear kS hD hpD hrD ca1 ca2
          have szw := kw.size
          have HK := hid (kw.trans kW)
          clear kw kW b4 b6 b7
          go_wp2_with fail
          go_ret3
          exact ⟨A1, N1, C1, A2, N2, C2, _, _, _, _, rfl, by omega, m1, m2, HK.out⟩
set_option maxRecDepth 100000 in
set_option maxHeartbeats 6400000 in
theorem specPlanChanges_any {A A' Q1 Q2 : Option Addr} {lo hi a c0 lo3 hi3 lo4 hi4 n1 c1 n2 c2 q lo9 hi9 : Nat} {un un' : Bool} {va x1 x2 x3 x4 vb y1 y2 y3 y4 : Int} {ps : List Int} {l : List VV} {ts us : List TT} {w : World} (h : Ints w lo hi A a ps) (hz : Vars w lo9 hi9 A' q l) (ok : NamesOk l) (hp : Tabs true un w lo3 hi3 Q1 n1 ts) (hr : Tabs true un' w lo4 hi4 Q2 n2 us) :
    Calls Try.prog 8 #[.agg #[.slice A a c0], .slice A' q q, .agg #[.int .i64 va, .slice Q1 n1 c1, .int .i64 x1, .int .i64 x2, .int .i64 x3, .int .i64 x4], .agg #[.int .i64 vb, .slice Q2 n2 c2, .int .i64 y1, .int .i64 y2, .int .i64 y3, .int .i64 y4]] w fun e w' => TwoI w (pcQ ps l (va, ts, x1, x2, x3, x4) (vb, us, y1, y2, y3, y4)).1 (pcQ ps l (va, ts, x1, x2, x3, x4) (vb, us, y1, y2, y3, y4)).2.1 (pcQ ps l (va, ts, x1, x2, x3, x4) (vb, us, y1, y2, y3, y4)).2.2 e w' := by
  have hq := hz.le
  have HZ := hid (Vars.len hz)
  have h' : Sch w A' q q l := ⟨⟨_, _, hz⟩, ok, Nat.le_refl _, by unfold maxLen; omega⟩
  obtain ⟨q0, q1, q2, HQ⟩ : ∃ q0 q1 q2, Hid (pcQ ps l (va, ts, x1, x2, x3, x4) (vb, us, y1, y2, y3, y4) = (q0, q1, q2)) := ⟨_, _, _, rfl⟩
  rw [HQ.out]
  go_enter Try.func8, Try.ntmps8
  have kw := keeps_refl w
  replace kw := Keeps.trans kw (keeps_alloc w (.cells #[.slice A a c0] 38))
  have b4 : B1 (w.alloc (.cells #[.slice A a c0] 38)) w.heap.size (.slice A a c0) := B1.new' (by simp)
  replace b4 := b4.keeps (keeps_alloc (w.alloc (.cells #[.slice A a c0] 38)) (.cells #[.int .i64 va, .slice Q1 n1 c1, .int .i64 x1, .int .i64 x2, .int .i64 x3, .int .i64 x4] 47))
  replace kw := Keeps.trans kw (keeps_alloc (w.alloc (.cells #[.slice A a c0] 38)) (.cells #[.int .i64 va, .slice Q1 n1 c1, .int .i64 x1, .int .i64 x2, .int .i64 x3, .int .i64 x4] 47))
  have b6 : Bl ((w.alloc (.cells #[.slice A a c0] 38)).alloc (.cells #[.int .i64 va, .slice Q1 n1 c1, .int .i64 x1, .int .i64 x2, .int .i64 x3, .int .i64 x4] 47)) (w.heap.size + 1) [.int .i64 va, .slice Q1 n1 c1, .int .i64 x1, .int .i64 x2, .int .i64 x3, .int .i64 x4] := Bl.new' (by simp) (by simp)
  replace b4 := b4.keeps (keeps_alloc ((w.alloc (.cells #[.slice A a c0] 38)).alloc (.cells #[.int .i64 va, .slice Q1 n1 c1, .int .i64 x1, .int .i64 x2, .int .i64 x3, .int .i64 x4] 47)) (.cells #[.int .i64 vb, .slice Q2 n2 c2, .int .i64 y1, .int .i64 y2, .int .i64 y3, .int .i64 y4] 47))
  replace b6 := b6.keeps (keeps_alloc ((w.alloc (.cells #[.slice A a c0] 38)).alloc (.cells #[.int .i64 va, .slice Q1 n1 c1, .int .i64 x1, .int .i64 x2, .int .i64 x3, .int .i64 x4] 47)) (.cells #[.int .i64 vb, .slice Q2 n2 c2, .int .i64 y1, .int .i64 y2, .int .i64 y3, .int .i64 y4] 47))
  replace kw := Keeps.trans kw (keeps_alloc ((w.alloc (.cells #[.slice A a c0] 38)).alloc (.cells #[.int .i64 va, .slice Q1 n1 c1, .int .i64 x1, .int .i64 x2, .int .i64 x3, .int .i64 x4] 47)) (.cells #[.int .i64 vb, .slice Q2 n2 c2, .int .i64 y1, .int .i64 y2, .int .i64 y3, .int .i64 y4] 47))
  have b7 : Bl (((w.alloc (.cells #[.slice A a c0] 38)).alloc (.cells #[.int .i64 va, .slice Q1 n1 c1, .int .i64 x1, .int .i64 x2, .int .i64 x3, .int .i64 x4] 47)).alloc (.cells #[.int .i64 vb, .slice Q2 n2 c2, .int .i64 y1, .int .i64 y2, .int .i64 y3, .int .i64 y4] 47)) (w.heap.size + 1 + 1) [.int .i64 vb, .slice Q2 n2 c2, .int .i64 y1, .int .i64 y2, .int .i64 y3, .int .i64 y4] := Bl.new' (by simp) (by simp)
  obtain ⟨ca1, fa1⟩ := id b4
  have ca2_0 : (((w.alloc (.cells #[.slice A a c0] 38)).alloc (.cells #[.int .i64 va, .slice Q1 n1 c1, .int .i64 x1, .int .i64 x2, .int .i64 x3, .int .i64 x4] 47)).alloc (.cells #[.int .i64 vb, .slice Q2 n2 c2, .int .i64 y1, .int .i64 y2, .int .i64 y3, .int .i64 y4] 47)).cell? ⟨w.heap.size + 1, 0, none⟩ = some (.int .i64 va) := (b6.2 0 _ rfl).1
  have fa2_0 : (((w.alloc (.cells #[.slice A a c0] 38)).alloc (.cells #[.int .i64 va, .slice Q1 n1 c1, .int .i64 x1, .int .i64 x2, .int .i64 x3, .int .i64 x4] 47)).alloc (.cells #[.int .i64 vb, .slice Q2 n2 c2, .int .i64 y1, .int .i64 y2, .int .i64 y3, .int .i64 y4] 47)).frozen? ⟨w.heap.size + 1, 0, none⟩ = false := (b6.2 0 _ rfl).2
  have ca2_1 : (((w.alloc (.cells #[.slice A a c0] 38)).alloc (.cells #[.int .i64 va, .slice Q1 n1 c1, .int .i64 x1, .int .i64 x2, .int .i64 x3, .int .i64 x4] 47)).alloc (.cells #[.int .i64 vb, .slice Q2 n2 c2, .int .i64 y1, .int .i64 y2, .int .i64 y3, .int .i64 y4] 47)).cell? ⟨w.heap.size + 1, 1, none⟩ = some (.slice Q1 n1 c1) := (b6.2 1 _ rfl).1
  have fa2_1 : (((w.alloc (.cells #[.slice A a c0] 38)).alloc (.cells #[.int .i64 va, .slice Q1 n1 c1, .int .i64 x1, .int .i64 x2, .int .i64 x3, .int .i64 x4] 47)).alloc (.cells #[.int .i64 vb, .slice Q2 n2 c2, .int .i64 y1, .int .i64 y2, .int .i64 y3, .int .i64 y4] 47)).frozen? ⟨w.heap.size + 1, 1, none⟩ = false := (b6.2 1 _ rfl).2
  have ca2_2 : (((w.alloc (.cells #[.slice A a c0] 38)).alloc (.cells #[.int .i64 va, .slice Q1 n1 c1, .int .i64 x1, .int .i64 x2, .int .i64 x3, .int .i64 x4] 47)).alloc (.cells #[.int .i64 vb, .slice Q2 n2 c2, .int .i64 y1, .int .i64 y2, .int .i64 y3, .int .i64 y4] 47)).cell? ⟨w.heap.size + 1, 2, none⟩ = some (.int .i64 x1) := (b6.2 2 _ rfl).1
  have fa2_2 : (((w.alloc (.cells #[.slice A a c0] 38)).alloc (.cells #[.int .i64 va, .slice Q1 n1 c1, .int .i64 x1, .int .i64 x2, .int .i64 x3, .int .i64 x4] 47)).alloc (.cells #[.int .i64 vb, .slice Q2 n2 c2, .int .i64 y1, .int .i64 y2, .int .i64 y3, .int .i64 y4] 47)).frozen? ⟨w.heap.size + 1, 2, none⟩ = false := (b6.2 2 _ rfl).2
  have ca2_3 : (((w.alloc (.cells #[.slice A a c0] 38)).alloc (.cells #[.int .i64 va, .slice Q1 n1 c1, .int .i64 x1, .int .i64 x2, .int .i64 x3, .int .i64 x4] 47)).alloc (.cells #[.int .i64 vb, .slice Q2 n2 c2, .int .i64 y1, .int .i64 y2, .int .i64 y3, .int .i64 y4] 47)).cell? ⟨w.heap.size + 1, 3, none⟩ = some (.int .i64 x2) := (b6.2 3 _ rfl).1
  have fa2_3 : (((w.alloc (.cells #[.slice A a c0] 38)).alloc (.cells #[.int .i64 va, .slice Q1 n1 c1, .int .i64 x1, .int .i64 x2, .int .i64 x3, .int .i64 x4] 47)).alloc (.cells #[.int .i64 vb, .slice Q2 n2 c2, .int .i64 y1, .int .i64 y2, .int .i64 y3, .int .i64 y4] 47)).frozen? ⟨w.heap.size + 1, 3, none⟩ = false := (b6.2 3 _ rfl).2
  have ca2_4 : (((w.alloc (.cells #[.slice A a c0] 38)).alloc (.cells #[.int .i64 va, .slice Q1 n1 c1, .int .i64 x1, .int .i64 x2, .int .i64 x3, .int .i64 x4] 47)).alloc (.cells #[.int .i64 vb, .slice Q2 n2 c2, .int .i64 y1, .int .i64 y2, .int .i64 y3, .int .i64 y4] 47)).cell? ⟨w.heap.size + 1, 4, none⟩ = some (.int .i64 x3) := (b6.2 4 _ rfl).1
  have fa2_4 : (((w.alloc (.cells #[.slice A a c0] 38)).alloc (.cells #[.int .i64 va, .slice Q1 n1 c1, .int .i64 x1, .int .i64 x2, .int .i64 x3, .int .i64 x4] 47)).alloc (.cells #[.int .i64 vb, .slice Q2 n2 c2, .int .i64 y1, .int .i64 y2, .int .i64 y3, .int .i64 y4] 47)).frozen? ⟨w.heap.size + 1, 4, none⟩ = false := (b6.2 4 _ rfl).2
  have ca2_5 : (((w.alloc (.cells #[.slice A a c0] 38)).alloc (.cells #[.int .i64 va, .slice Q1 n1 c1, .int .i64 x1, .int .i64 x2, .int .i64 x3, .int .i64 x4] 47)).alloc (.cells #[.int .i64 vb, .slice Q2 n2 c2, .int .i64 y1, .int .i64 y2, .int .i64 y3, .int .i64 y4] 47)).cell? ⟨w.heap.size + 1, 5, none⟩ = some (.int .i64 x4) := (b6.2 5 _ rfl).1
  have fa2_5 : (((w.alloc (.cells #[.slice A a c0] 38)).alloc (.cells #[.int .i64 va, .slice Q1 n1 c1, .int .i64 x1, .int .i64 x2, .int .i64 x3, .int .i64 x4] 47)).alloc (.cells #[.int .i64 vb, .slice Q2 n2 c2, .int .i64 y1, .int .i64 y2, .int .i64 y3, .int .i64 y4] 47)).frozen? ⟨w.heap.size + 1, 5, none⟩ = false := (b6.2 5 _ rfl).2
  have ca3_0 : (((w.alloc (.cells #[.slice A a c0] 38)).alloc (.cells #[.int .i64 va, .slice Q1 n1 c1, .int .i64 x1, .int .i64 x2, .int .i64 x3, .int .i64 x4] 47)).alloc (.cells #[.int .i64 vb, .slice Q2 n2 c2, .int .i64 y1, .int .i64 y2, .int .i64 y3, .int .i64 y4] 47)).cell? ⟨w.heap.size + 1 + 1, 0, none⟩ = some (.int .i64 vb) := (b7.2 0 _ rfl).1
  have fa3_0 : (((w.alloc (.cells #[.slice A a c0] 38)).alloc (.cells #[.int .i64 va, .slice Q1 n1 c1, .int .i64 x1, .int .i64 x2, .int .i64 x3, .int .i64 x4] 47)).alloc (.cells #[.int .i64 vb, .slice Q2 n2 c2, .int .i64 y1, .int .i64 y2, .int .i64 y3, .int .i64 y4] 47)).frozen? ⟨w.heap.size + 1 + 1, 0, none⟩ = false := (b7.2 0 _ rfl).2
  have ca3_1 : (((w.alloc (.cells #[.slice A a c0] 38)).alloc (.cells #[.int .i64 va, .slice Q1 n1 c1, .int .i64 x1, .int .i64 x2, .int .i64 x3, .int .i64 x4] 47)).alloc (.cells #[.int .i64 vb, .slice Q2 n2 c2, .int .i64 y1, .int .i64 y2, .int .i64 y3, .int .i64 y4] 47)).cell? ⟨w.heap.size + 1 + 1, 1, none⟩ = some (.slice Q2 n2 c2) := (b7.2 1 _ rfl).1
  have fa3_1 : (((w.alloc (.cells #[.slice A a c0] 38)).alloc (.cells #[.int .i64 va, .slice Q1 n1 c1, .int .i64 x1, .int .i64 x2, .int .i64 x3, .int .i64 x4] 47)).alloc (.cells #[.int .i64 vb, .slice Q2 n2 c2, .int .i64 y1, .int .i64 y2, .int .i64 y3, .int .i64 y4] 47)).frozen? ⟨w.heap.size + 1 + 1, 1, none⟩ = false := (b7.2 1 _ rfl).2
  have ca3_2 : (((w.alloc (.cells #[.slice A a c0] 38)).alloc (.cells #[.int .i64 va, .slice Q1 n1 c1, .int .i64 x1, .int .i64 x2, .int .i64 x3, .int .i64 x4] 47)).alloc (.cells #[.int .i64 vb, .slice Q2 n2 c2, .int .i64 y1, .int .i64 y2, .int .i64 y3, .int .i64 y4] 47)).cell? ⟨w.heap.size + 1 + 1, 2, none⟩ = some (.int .i64 y1) := (b7.2 2 _ rfl).1
  have fa3_2 : (((w.alloc (.cells #[.slice A a c0] 38)).alloc (.cells #[.int .i64 va, .slice Q1 n1 c1, .int .i64 x1, .int .i64 x2, .int .i64 x3, .int .i64 x4] 47)).alloc (.cells #[.int .i64 vb, .slice Q2 n2 c2, .int .i64 y1, .int .i64 y2, .int .i64 y3, .int .i64 y4] 47)).frozen? ⟨w.heap.size + 1 + 1, 2, none⟩ = false := (b7.2 2 _ rfl).2
  have ca3_3 : (((w.alloc (.cells #[.slice A a c0] 38)).alloc (.cells #[.int .i64 va, .slice Q1 n1 c1, .int .i64 x1, .int .i64 x2, .int .i64 x3, .int .i64 x4] 47)).alloc (.cells #[.int .i64 vb, .slice Q2 n2 c2, .int .i64 y1, .int .i64 y2, .int .i64 y3, .int .i64 y4] 47)).cell? ⟨w.heap.size + 1 + 1, 3, none⟩ = some (.int .i64 y2) := (b7.2 3 _ rfl).1
  have fa3_3 : (((w.alloc (.cells #[.slice A a c0] 38)).alloc (.cells #[.int .i64 va, .slice Q1 n1 c1, .int .i64 x1, .int .i64 x2, .int .i64 x3, .int .i64 x4] 47)).alloc (.cells #[.int .i64 vb, .slice Q2 n2 c2, .int .i64 y1, .int .i64 y2, .int .i64 y3, .int .i64 y4] 47)).frozen? ⟨w.heap.size + 1 + 1, 3, none⟩ = false := (b7.2 3 _ rfl).2
  have ca3_4 : (((w.alloc (.cells #[.slice A a c0] 38)).alloc (.cells #[.int .i64 va, .slice Q1 n1 c1, .int .i64 x1, .int .i64 x2, .int .i64 x3, .int .i64 x4] 47)).alloc (.cells #[.int .i64 vb, .slice Q2 n2 c2, .int .i64 y1, .int .i64 y2, .int .i64 y3, .int .i64 y4] 47)).cell? ⟨w.heap.size + 1 + 1, 4, none⟩ = some (.int .i64 y3) := (b7.2 4 _ rfl).1
  have fa3_4 : (((w.alloc (.cells #[.slice A a c0] 38)).alloc (.cells #[.int .i64 va, .slice Q1 n1 c1, .int .i64 x1, .int .i64 x2, .int .i64 x3, .int .i64 x4] 47)).alloc (.cells #[.int .i64 vb, .slice Q2 n2 c2, .int .i64 y1, .int .i64 y2, .int .i64 y3, .int .i64 y4] 47)).frozen? ⟨w.heap.size + 1 + 1, 4, none⟩ = false := (b7.2 4 _ rfl).2
  have ca3_5 : (((w.alloc (.cells #[.slice A a c0] 38)).alloc (.cells #[.int .i64 va, .slice Q1 n1 c1, .int .i64 x1, .int .i64 x2, .int .i64 x3, .int .i64 x4] 47)).alloc (.cells #[.int .i64 vb, .slice Q2 n2 c2, .int .i64 y1, .int .i64 y2, .int .i64 y3, .int .i64 y4] 47)).cell? ⟨w.heap.size + 1 + 1, 5, none⟩ = some (.int .i64 y4) := (b7.2 5 _ rfl).1
  have fa3_5 : (((w.alloc (.cells #[.slice A a c0] 38)).alloc (.cells #[.int .i64 va, .slice Q1 n1 c1, .int .i64 x1, .int .i64 x2, .int .i64 x3, .int .i64 x4] 47)).alloc (.cells #[.int .i64 vb, .slice Q2 n2 c2, .int .i64 y1, .int .i64 y2, .int .i64 y3, .int .i64 y4] 47)).frozen? ⟨w.heap.size + 1 + 1, 5, none⟩ = false := (b7.2 5 _ rfl).2
  go_wp2_with fail
  clear ca1 fa1 ca2_0 fa2_0 ca2_1 fa2_1 ca2_2 fa2_2 ca2_3 fa2_3 ca2_4 fa2_4 ca2_5 fa2_5 ca3_0 fa3_0 ca3_1 fa3_1 ca3_2 fa3_2 ca3_3 fa3_3 ca3_4 fa3_4 ca3_5 fa3_5
  obtain ⟨pH1, H1⟩ : ∃ pB, Hid ((geoB ps && schB l) = pB) := ⟨_, rfl⟩
  refine (nInput_any (h.keeps kw) (h'.keeps kw)).mono ?_
  rintro e w4 ⟨rfl, k4⟩
  rw [H1.out]
  replace b4 := b4.keeps k4
  replace b6 := b6.keeps k4
  replace b7 := b7.keeps k4
  replace kw := Keeps.trans kw k4
  have lt5 := b7.lt
  have sz6 := kw.size
  clear k4
  cases pH1
  · obtain ⟨e0, e1, e2⟩ : q0 = [] ∧ q1 = [] ∧ q2 = false := by have := HQ.out.symm.trans (pcQ_no (by rw [H1.out]; rfl)); injection this with a b; injection b with b c; exact ⟨a, b, c⟩
    subst e0 e1 e2
    obtain ⟨ca7, fa7⟩ := id b4
    have ca8_0 : w4.cell? ⟨w.heap.size + 1, 0, none⟩ = some (.int .i64 va) := (b6.2 0 _ rfl).1
    have fa8_0 : w4.frozen? ⟨w.heap.size + 1, 0, none⟩ = false := (b6.2 0 _ rfl).2
    have ca8_1 : w4.cell? ⟨w.heap.size + 1, 1, none⟩ = some (.slice Q1 n1 c1) := (b6.2 1 _ rfl).1
    have fa8_1 : w4.frozen? ⟨w.heap.size + 1, 1, none⟩ = false := (b6.2 1 _ rfl).2
    have ca8_2 : w4.cell? ⟨w.heap.size + 1, 2, none⟩ = some (.int .i64 x1) := (b6.2 2 _ rfl).1
    have fa8_2 : w4.frozen? ⟨w.heap.size + 1, 2, none⟩ = false := (b6.2 2 _ rfl).2
    have ca8_3 : w4.cell? ⟨w.heap.size + 1, 3, none⟩ = some (.int .i64 x2) := (b6.2 3 _ rfl).1
    have fa8_3 : w4.frozen? ⟨w.heap.size + 1, 3, none⟩ = false := (b6.2 3 _ rfl).2
    have ca8_4 : w4.cell? ⟨w.heap.size + 1, 4, none⟩ = some (.int .i64 x3) := (b6.2 4 _ rfl).1
    have fa8_4 : w4.frozen? ⟨w.heap.size + 1, 4, none⟩ = false := (b6.2 4 _ rfl).2
    have ca8_5 : w4.cell? ⟨w.heap.size + 1, 5, none⟩ = some (.int .i64 x4) := (b6.2 5 _ rfl).1
    have fa8_5 : w4.frozen? ⟨w.heap.size + 1, 5, none⟩ = false := (b6.2 5 _ rfl).2
    have ca9_0 : w4.cell? ⟨w.heap.size + 1 + 1, 0, none⟩ = some (.int .i64 vb) := (b7.2 0 _ rfl).1
    have fa9_0 : w4.frozen? ⟨w.heap.size + 1 + 1, 0, none⟩ = false := (b7.2 0 _ rfl).2
    have ca9_1 : w4.cell? ⟨w.heap.size + 1 + 1, 1, none⟩ = some (.slice Q2 n2 c2) := (b7.2 1 _ rfl).1
    have fa9_1 : w4.frozen? ⟨w.heap.size + 1 + 1, 1, none⟩ = false := (b7.2 1 _ rfl).2
    have ca9_2 : w4.cell? ⟨w.heap.size + 1 + 1, 2, none⟩ = some (.int .i64 y1) := (b7.2 2 _ rfl).1
    have fa9_2 : w4.frozen? ⟨w.heap.size + 1 + 1, 2, none⟩ = false := (b7.2 2 _ rfl).2
    have ca9_3 : w4.cell? ⟨w.heap.size + 1 + 1, 3, none⟩ = some (.int .i64 y2) := (b7.2 3 _ rfl).1
    have fa9_3 : w4.frozen? ⟨w.heap.size + 1 + 1, 3, none⟩ = false := (b7.2 3 _ rfl).2
    have ca9_4 : w4.cell? ⟨w.heap.size + 1 + 1, 4, none⟩ = some (.int .i64 y3) := (b7.2 4 _ rfl).1
    have fa9_4 : w4.frozen? ⟨w.heap.size + 1 + 1, 4, none⟩ = false := (b7.2 4 _ rfl).2
    have ca9_5 : w4.cell? ⟨w.heap.size + 1 + 1, 5, none⟩ = some (.int .i64 y4) := (b7.2 5 _ rfl).1
    have fa9_5 : w4.frozen? ⟨w.heap.size + 1 + 1, 5, none⟩ = false := (b7.2 5 _ rfl).2
    go_wp2_with fail
    clear ca7 fa7 ca8_0 fa8_0 ca8_1 fa8_1 ca8_2 fa8_2 ca8_3 fa8_3 ca8_4 fa8_4 ca8_5 fa8_5 ca9_0 fa9_0 ca9_1 fa9_1 ca9_2 fa9_2 ca9_3 fa9_3 ca9_4 fa9_4 ca9_5 fa9_5
    go_ret3
    exact TwoI.no kw
  · skip
    have HG := hid (show geoB ps = true by have := H1.out; simp only [Bool.and_eq_true] at this; exact this.1)
    have HS := hid (show schB l = true by have := H1.out; simp only [Bool.and_eq_true] at this; exact this.2)
    obtain ⟨ca7, fa7⟩ := id b4
    have ca8_0 : w4.cell? ⟨w.heap.size + 1, 0, none⟩ = some (.int .i64 va) := (b6.2 0 _ rfl).1
    have fa8_0 : w4.frozen? ⟨w.heap.size + 1, 0, none⟩ = false := (b6.2 0 _ rfl).2
    have ca8_1 : w4.cell? ⟨w.heap.size + 1, 1, none⟩ = some (.slice Q1 n1 c1) := (b6.2 1 _ rfl).1
    have fa8_1 : w4.frozen? ⟨w.heap.size + 1, 1, none⟩ = false := (b6.2 1 _ rfl).2
    have ca8_2 : w4.cell? ⟨w.heap.size + 1, 2, none⟩ = some (.int .i64 x1) := (b6.2 2 _ rfl).1
    have fa8_2 : w4.frozen? ⟨w.heap.size + 1, 2, none⟩ = false := (b6.2 2 _ rfl).2
    have ca8_3 : w4.cell? ⟨w.heap.size + 1, 3, none⟩ = some (.int .i64 x2) := (b6.2 3 _ rfl).1
    have fa8_3 : w4.frozen? ⟨w.heap.size + 1, 3, none⟩ = false := (b6.2 3 _ rfl).2
    have ca8_4 : w4.cell? ⟨w.heap.size + 1, 4, none⟩ = some (.int .i64 x3) := (b6.2 4 _ rfl).1
    have fa8_4 : w4.frozen? ⟨w.heap.size + 1, 4, none⟩ = false := (b6.2 4 _ rfl).2
    have ca8_5 : w4.cell? ⟨w.heap.size + 1, 5, none⟩ = some (.int .i64 x4) := (b6.2 5 _ rfl).1
    have fa8_5 : w4.frozen? ⟨w.heap.size + 1, 5, none⟩ = false := (b6.2 5 _ rfl).2
    have ca9_0 : w4.cell? ⟨w.heap.size + 1 + 1, 0, none⟩ = some (.int .i64 vb) := (b7.2 0 _ rfl).1
    have fa9_0 : w4.frozen? ⟨w.heap.size + 1 + 1, 0, none⟩ = false := (b7.2 0 _ rfl).2
    have ca9_1 : w4.cell? ⟨w.heap.size + 1 + 1, 1, none⟩ = some (.slice Q2 n2 c2) := (b7.2 1 _ rfl).1
    have fa9_1 : w4.frozen? ⟨w.heap.size + 1 + 1, 1, none⟩ = false := (b7.2 1 _ rfl).2
    have ca9_2 : w4.cell? ⟨w.heap.size + 1 + 1, 2, none⟩ = some (.int .i64 y1) := (b7.2 2 _ rfl).1
    have fa9_2 : w4.frozen? ⟨w.heap.size + 1 + 1, 2, none⟩ = false := (b7.2 2 _ rfl).2
    have ca9_3 : w4.cell? ⟨w.heap.size + 1 + 1, 3, none⟩ = some (.int .i64 y2) := (b7.2 3 _ rfl).1
    have fa9_3 : w4.frozen? ⟨w.heap.size + 1 + 1, 3, none⟩ = false := (b7.2 3 _ rfl).2
    have ca9_4 : w4.cell? ⟨w.heap.size + 1 + 1, 4, none⟩ = some (.int .i64 y3) := (b7.2 4 _ rfl).1
    have fa9_4 : w4.frozen? ⟨w.heap.size + 1 + 1, 4, none⟩ = false := (b7.2 4 _ rfl).2
    have ca9_5 : w4.cell? ⟨w.heap.size + 1 + 1, 5, none⟩ = some (.int .i64 y4) := (b7.2 5 _ rfl).1
    have fa9_5 : w4.frozen? ⟨w.heap.size + 1 + 1, 5, none⟩ = false := (b7.2 5 _ rfl).2
    go_wp2_with fail
    clear ca7 fa7 ca8_0 fa8_0 ca8_1 fa8_1 ca8_2 fa8_2 ca8_3 fa8_3 ca8_4 fa8_4 ca8_5 fa8_5 ca9_0 fa9_0 ca9_1 fa9_1 ca9_2 fa9_2 ca9_3 fa9_3 ca9_4 fa9_4 ca9_5 fa9_5
    obtain ⟨pHA, HA⟩ : ∃ pB, Hid (relB ps l (va, ts, x1, x2, x3, x4) = pB) := ⟨_, rfl⟩
    refine (rlGood_any (c := c1) (h.keeps kw) (h'.keeps kw) (hp.keeps kw) HG.out HS.out).mono ?_
    rintro e w10 ⟨rfl, k10⟩
    rw [HA.out]
    replace b4 := b4.keeps k10
    replace b6 := b6.keeps k10
    replace b7 := b7.keeps k10
    replace kw := Keeps.trans kw k10
    have lt11 := b7.lt
    have sz12 := kw.size
    clear k10
    cases pHA
    · obtain ⟨e0, e1, e2⟩ : q0 = [] ∧ q1 = [] ∧ q2 = false := by have := HQ.out.symm.trans (pcQ_no (by rw [HG.out, HS.out, HA.out]; rfl)); injection this with a b; injection b with b c; exact ⟨a, b, c⟩
      subst e0 e1 e2
      obtain ⟨ca13, fa13⟩ := id b4
      have ca14_0 : w10.cell? ⟨w.heap.size + 1, 0, none⟩ = some (.int .i64 va) := (b6.2 0 _ rfl).1
      have fa14_0 : w10.frozen? ⟨w.heap.size + 1, 0, none⟩ = false := (b6.2 0 _ rfl).2
      have ca14_1 : w10.cell? ⟨w.heap.size + 1, 1, none⟩ = some (.slice Q1 n1 c1) := (b6.2 1 _ rfl).1
      have fa14_1 : w10.frozen? ⟨w.heap.size + 1, 1, none⟩ = false := (b6.2 1 _ rfl).2
      have ca14_2 : w10.cell? ⟨w.heap.size + 1, 2, none⟩ = some (.int .i64 x1) := (b6.2 2 _ rfl).1
      have fa14_2 : w10.frozen? ⟨w.heap.size + 1, 2, none⟩ = false := (b6.2 2 _ rfl).2
      have ca14_3 : w10.cell? ⟨w.heap.size + 1, 3, none⟩ = some (.int .i64 x2) := (b6.2 3 _ rfl).1
      have fa14_3 : w10.frozen? ⟨w.heap.size + 1, 3, none⟩ = false := (b6.2 3 _ rfl).2
      have ca14_4 : w10.cell? ⟨w.heap.size + 1, 4, none⟩ = some (.int .i64 x3) := (b6.2 4 _ rfl).1
      have fa14_4 : w10.frozen? ⟨w.heap.size + 1, 4, none⟩ = false := (b6.2 4 _ rfl).2
      have ca14_5 : w10.cell? ⟨w.heap.size + 1, 5, none⟩ = some (.int .i64 x4) := (b6.2 5 _ rfl).1
      have fa14_5 : w10.frozen? ⟨w.heap.size + 1, 5, none⟩ = false := (b6.2 5 _ rfl).2
      have ca15_0 : w10.cell? ⟨w.heap.size + 1 + 1, 0, none⟩ = some (.int .i64 vb) := (b7.2 0 _ rfl).1
      have fa15_0 : w10.frozen? ⟨w.heap.size + 1 + 1, 0, none⟩ = false := (b7.2 0 _ rfl).2
      have ca15_1 : w10.cell? ⟨w.heap.size + 1 + 1, 1, none⟩ = some (.slice Q2 n2 c2) := (b7.2 1 _ rfl).1
      have fa15_1 : w10.frozen? ⟨w.heap.size + 1 + 1, 1, none⟩ = false := (b7.2 1 _ rfl).2
      have ca15_2 : w10.cell? ⟨w.heap.size + 1 + 1, 2, none⟩ = some (.int .i64 y1) := (b7.2 2 _ rfl).1
      have fa15_2 : w10.frozen? ⟨w.heap.size + 1 + 1, 2, none⟩ = false := (b7.2 2 _ rfl).2
      have ca15_3 : w10.cell? ⟨w.heap.size + 1 + 1, 3, none⟩ = some (.int .i64 y2) := (b7.2 3 _ rfl).1
      have fa15_3 : w10.frozen? ⟨w.heap.size + 1 + 1, 3, none⟩ = false := (b7.2 3 _ rfl).2
      have ca15_4 : w10.cell? ⟨w.heap.size + 1 + 1, 4, none⟩ = some (.int .i64 y3) := (b7.2 4 _ rfl).1
      have fa15_4 : w10.frozen? ⟨w.heap.size + 1 + 1, 4, none⟩ = false := (b7.2 4 _ rfl).2
      have ca15_5 : w10.cell? ⟨w.heap.size + 1 + 1, 5, none⟩ = some (.int .i64 y4) := (b7.2 5 _ rfl).1
      have fa15_5 : w10.frozen? ⟨w.heap.size + 1 + 1, 5, none⟩ = false := (b7.2 5 _ rfl).2
      go_wp2_with fail
      clear ca13 fa13 ca14_0 fa14_0 ca14_1 fa14_1 ca14_2 fa14_2 ca14_3 fa14_3 ca14_4 fa14_4 ca14_5 fa14_5 ca15_0 fa15_0 ca15_1 fa15_1 ca15_2 fa15_2 ca15_3 fa15_3 ca15_4 fa15_4 ca15_5 fa15_5
      go_ret3
      exact TwoI.no kw
    · skip
      obtain ⟨ca13, fa13⟩ := id b4
      have ca14_0 : w10.cell? ⟨w.heap.size + 1, 0, none⟩ = some (.int .i64 va) := (b6.2 0 _ rfl).1
      have fa14_0 : w10.frozen? ⟨w.heap.size + 1, 0, none⟩ = false := (b6.2 0 _ rfl).2
      have ca14_1 : w10.cell? ⟨w.heap.size + 1, 1, none⟩ = some (.slice Q1 n1 c1) := (b6.2 1 _ rfl).1
      have fa14_1 : w10.frozen? ⟨w.heap.size + 1, 1, none⟩ = false := (b6.2 1 _ rfl).2
      have ca14_2 : w10.cell? ⟨w.heap.size + 1, 2, none⟩ = some (.int .i64 x1) := (b6.2 2 _ rfl).1
      have fa14_2 : w10.frozen? ⟨w.heap.size + 1, 2, none⟩ = false := (b6.2 2 _ rfl).2
      have ca14_3 : w10.cell? ⟨w.heap.size + 1, 3, none⟩ = some (.int .i64 x2) := (b6.2 3 _ rfl).1
      have fa14_3 : w10.frozen? ⟨w.heap.size + 1, 3, none⟩ = false := (b6.2 3 _ rfl).2
      have ca14_4 : w10.cell? ⟨w.heap.size + 1, 4, none⟩ = some (.int .i64 x3) := (b6.2 4 _ rfl).1
      have fa14_4 : w10.frozen? ⟨w.heap.size + 1, 4, none⟩ = false := (b6.2 4 _ rfl).2
      have ca14_5 : w10.cell? ⟨w.heap.size + 1, 5, none⟩ = some (.int .i64 x4) := (b6.2 5 _ rfl).1
      have fa14_5 : w10.frozen? ⟨w.heap.size + 1, 5, none⟩ = false := (b6.2 5 _ rfl).2
      have ca15_0 : w10.cell? ⟨w.heap.size + 1 + 1, 0, none⟩ = some (.int .i64 vb) := (b7.2 0 _ rfl).1
      have fa15_0 : w10.frozen? ⟨w.heap.size + 1 + 1, 0, none⟩ = false := (b7.2 0 _ rfl).2
      have ca15_1 : w10.cell? ⟨w.heap.size + 1 + 1, 1, none⟩ = some (.slice Q2 n2 c2) := (b7.2 1 _ rfl).1
      have fa15_1 : w10.frozen? ⟨w.heap.size + 1 + 1, 1, none⟩ = false := (b7.2 1 _ rfl).2
      have ca15_2 : w10.cell? ⟨w.heap.size + 1 + 1, 2, none⟩ = some (.int .i64 y1) := (b7.2 2 _ rfl).1
      have fa15_2 : w10.frozen? ⟨w.heap.size + 1 + 1, 2, none⟩ = false := (b7.2 2 _ rfl).2
      have ca15_3 : w10.cell? ⟨w.heap.size + 1 + 1, 3, none⟩ = some (.int .i64 y2) := (b7.2 3 _ rfl).1
      have fa15_3 : w10.frozen? ⟨w.heap.size + 1 + 1, 3, none⟩ = false := (b7.2 3 _ rfl).2
      have ca15_4 : w10.cell? ⟨w.heap.size + 1 + 1, 4, none⟩ = some (.int .i64 y3) := (b7.2 4 _ rfl).1
      have fa15_4 : w10.frozen? ⟨w.heap.size + 1 + 1, 4, none⟩ = false := (b7.2 4 _ rfl).2
      have ca15_5 : w10.cell? ⟨w.heap.size + 1 + 1, 5, none⟩ = some (.int .i64 y4) := (b7.2 5 _ rfl).1
      have fa15_5 : w10.frozen? ⟨w.heap.size + 1 + 1, 5, none⟩ = false := (b7.2 5 _ rfl).2
      go_wp2_with fail
      clear ca13 fa13 ca14_0 fa14_0 ca14_1 fa14_1 ca14_2 fa14_2 ca14_3 fa14_3 ca14_4 fa14_4 ca14_5 fa14_5 ca15_0 fa15_0 ca15_1 fa15_1 ca15_2 fa15_2 ca15_3 fa15_3 ca15_4 fa15_4 ca15_5 fa15_5
      obtain ⟨pHB, HB⟩ : ∃ pB, Hid (relB ps l (vb, us, y1, y2, y3, y4) = pB) := ⟨_, rfl⟩
      refine (rlGood_any (c := c2) (h.keeps kw) (h'.keeps kw) (hr.keeps kw) HG.out HS.out).mono ?_
      rintro e w16 ⟨rfl, k16⟩
      rw [HB.out]
      replace b4 := b4.keeps k16
      replace b6 := b6.keeps k16
      replace b7 := b7.keeps k16
      replace kw := Keeps.trans kw k16
      have lt17 := b7.lt
      have sz18 := kw.size
      clear k16
      cases pHB
      · obtain ⟨e0, e1, e2⟩ : q0 = [] ∧ q1 = [] ∧ q2 = false := by have := HQ.out.symm.trans (pcQ_no (by rw [HG.out, HS.out, HA.out, HB.out]; rfl)); injection this with a b; injection b with b c; exact ⟨a, b, c⟩
        subst e0 e1 e2
        obtain ⟨ca19, fa19⟩ := id b4
        have ca20_0 : w16.cell? ⟨w.heap.size + 1, 0, none⟩ = some (.int .i64 va) := (b6.2 0 _ rfl).1
        have fa20_0 : w16.frozen? ⟨w.heap.size + 1, 0, none⟩ = false := (b6.2 0 _ rfl).2
        have ca20_1 : w16.cell? ⟨w.heap.size + 1, 1, none⟩ = some (.slice Q1 n1 c1) := (b6.2 1 _ rfl).1
        have fa20_1 : w16.frozen? ⟨w.heap.size + 1, 1, none⟩ = false := (b6.2 1 _ rfl).2
        have ca20_2 : w16.cell? ⟨w.heap.size + 1, 2, none⟩ = some (.int .i64 x1) := (b6.2 2 _ rfl).1
        have fa20_2 : w16.frozen? ⟨w.heap.size + 1, 2, none⟩ = false := (b6.2 2 _ rfl).2
        have ca20_3 : w16.cell? ⟨w.heap.size + 1, 3, none⟩ = some (.int .i64 x2) := (b6.2 3 _ rfl).1
        have fa20_3 : w16.frozen? ⟨w.heap.size + 1, 3, none⟩ = false := (b6.2 3 _ rfl).2
        have ca20_4 : w16.cell? ⟨w.heap.size + 1, 4, none⟩ = some (.int .i64 x3) := (b6.2 4 _ rfl).1
        have fa20_4 : w16.frozen? ⟨w.heap.size + 1, 4, none⟩ = false := (b6.2 4 _ rfl).2
        have ca20_5 : w16.cell? ⟨w.heap.size + 1, 5, none⟩ = some (.int .i64 x4) := (b6.2 5 _ rfl).1
        have fa20_5 : w16.frozen? ⟨w.heap.size + 1, 5, none⟩ = false := (b6.2 5 _ rfl).2
        have ca21_0 : w16.cell? ⟨w.heap.size + 1 + 1, 0, none⟩ = some (.int .i64 vb) := (b7.2 0 _ rfl).1
        have fa21_0 : w16.frozen? ⟨w.heap.size + 1 + 1, 0, none⟩ = false := (b7.2 0 _ rfl).2
        have ca21_1 : w16.cell? ⟨w.heap.size + 1 + 1, 1, none⟩ = some (.slice Q2 n2 c2) := (b7.2 1 _ rfl).1
        have fa21_1 : w16.frozen? ⟨w.heap.size + 1 + 1, 1, none⟩ = false := (b7.2 1 _ rfl).2
        have ca21_2 : w16.cell? ⟨w.heap.size + 1 + 1, 2, none⟩ = some (.int .i64 y1) := (b7.2 2 _ rfl).1
        have fa21_2 : w16.frozen? ⟨w.heap.size + 1 + 1, 2, none⟩ = false := (b7.2 2 _ rfl).2
        have ca21_3 : w16.cell? ⟨w.heap.size + 1 + 1, 3, none⟩ = some (.int .i64 y2) := (b7.2 3 _ rfl).1
        have fa21_3 : w16.frozen? ⟨w.heap.size + 1 + 1, 3, none⟩ = false := (b7.2 3 _ rfl).2
        have ca21_4 : w16.cell? ⟨w.heap.size + 1 + 1, 4, none⟩ = some (.int .i64 y3) := (b7.2 4 _ rfl).1
        have fa21_4 : w16.frozen? ⟨w.heap.size + 1 + 1, 4, none⟩ = false := (b7.2 4 _ rfl).2
        have ca21_5 : w16.cell? ⟨w.heap.size + 1 + 1, 5, none⟩ = some (.int .i64 y4) := (b7.2 5 _ rfl).1
        have fa21_5 : w16.frozen? ⟨w.heap.size + 1 + 1, 5, none⟩ = false := (b7.2 5 _ rfl).2
        go_wp2_with fail
        clear ca19 fa19 ca20_0 fa20_0 ca20_1 fa20_1 ca20_2 fa20_2 ca20_3 fa20_3 ca20_4 fa20_4 ca20_5 fa20_5 ca21_0 fa21_0 ca21_1 fa21_1 ca21_2 fa21_2 ca21_3 fa21_3 ca21_4 fa21_4 ca21_5 fa21_5
        go_ret3
        exact TwoI.no kw
      · skip
        obtain ⟨e0, e1, e2⟩ : q0 = pcL l us ts ∧ q1 = pcL l ts us ∧ q2 = true := by have := HQ.out.symm.trans (pcQ_yes (by rw [HG.out, HS.out, HA.out, HB.out]; rfl)); injection this with a b; injection b with b c; exact ⟨a, b, c⟩
        subst e0 e1 e2
        have HT := hid (pl_wh (relB_pl HA.out))
        have HU := hid (pl_wh (relB_pl HB.out))
        have HLV := hid (schB_lv HZ.out HS.out).1
        have HP := hid (pcL_len l us ts)
        obtain ⟨ca19, fa19⟩ := id b4
        have ca20_0 : w16.cell? ⟨w.heap.size + 1, 0, none⟩ = some (.int .i64 va) := (b6.2 0 _ rfl).1
        have fa20_0 : w16.frozen? ⟨w.heap.size + 1, 0, none⟩ = false := (b6.2 0 _ rfl).2
        have ca20_1 : w16.cell? ⟨w.heap.size + 1, 1, none⟩ = some (.slice Q1 n1 c1) := (b6.2 1 _ rfl).1
        have fa20_1 : w16.frozen? ⟨w.heap.size + 1, 1, none⟩ = false := (b6.2 1 _ rfl).2
        have ca20_2 : w16.cell? ⟨w.heap.size + 1, 2, none⟩ = some (.int .i64 x1) := (b6.2 2 _ rfl).1
        have fa20_2 : w16.frozen? ⟨w.heap.size + 1, 2, none⟩ = false := (b6.2 2 _ rfl).2
        have ca20_3 : w16.cell? ⟨w.heap.size + 1, 3, none⟩ = some (.int .i64 x2) := (b6.2 3 _ rfl).1
        have fa20_3 : w16.frozen? ⟨w.heap.size + 1, 3, none⟩ = false := (b6.2 3 _ rfl).2
        have ca20_4 : w16.cell? ⟨w.heap.size + 1, 4, none⟩ = some (.int .i64 x3) := (b6.2 4 _ rfl).1
        have fa20_4 : w16.frozen? ⟨w.heap.size + 1, 4, none⟩ = false := (b6.2 4 _ rfl).2
        have ca20_5 : w16.cell? ⟨w.heap.size + 1, 5, none⟩ = some (.int .i64 x4) := (b6.2 5 _ rfl).1
        have fa20_5 : w16.frozen? ⟨w.heap.size + 1, 5, none⟩ = false := (b6.2 5 _ rfl).2
        have ca21_0 : w16.cell? ⟨w.heap.size + 1 + 1, 0, none⟩ = some (.int .i64 vb) := (b7.2 0 _ rfl).1
        have fa21_0 : w16.frozen? ⟨w.heap.size + 1 + 1, 0, none⟩ = false := (b7.2 0 _ rfl).2
        have ca21_1 : w16.cell? ⟨w.heap.size + 1 + 1, 1, none⟩ = some (.slice Q2 n2 c2) := (b7.2 1 _ rfl).1
        have fa21_1 : w16.frozen? ⟨w.heap.size + 1 + 1, 1, none⟩ = false := (b7.2 1 _ rfl).2
        have ca21_2 : w16.cell? ⟨w.heap.size + 1 + 1, 2, none⟩ = some (.int .i64 y1) := (b7.2 2 _ rfl).1
        have fa21_2 : w16.frozen? ⟨w.heap.size + 1 + 1, 2, none⟩ = false := (b7.2 2 _ rfl).2
        have ca21_3 : w16.cell? ⟨w.heap.size + 1 + 1, 3, none⟩ = some (.int .i64 y2) := (b7.2 3 _ rfl).1
        have fa21_3 : w16.frozen? ⟨w.heap.size + 1 + 1, 3, none⟩ = false := (b7.2 3 _ rfl).2
        have ca21_4 : w16.cell? ⟨w.heap.size + 1 + 1, 4, none⟩ = some (.int .i64 y3) := (b7.2 4 _ rfl).1
        have fa21_4 : w16.frozen? ⟨w.heap.size + 1 + 1, 4, none⟩ = false := (b7.2 4 _ rfl).2
        have ca21_5 : w16.cell? ⟨w.heap.size + 1 + 1, 5, none⟩ = some (.int .i64 y4) := (b7.2 5 _ rfl).1
        have fa21_5 : w16.frozen? ⟨w.heap.size + 1 + 1, 5, none⟩ = false := (b7.2 5 _ rfl).2
        go_wp2_with fail
        clear ca19 fa19 ca20_0 fa20_0 ca20_1 fa20_1 ca20_2 fa20_2 ca20_3 fa20_3 ca20_4 fa20_4 ca20_5 fa20_5 ca21_0 fa21_0 ca21_1 fa21_1 ca21_2 fa21_2 ca21_3 fa21_3 ca21_4 fa21_4 ca21_5 fa21_5
        have ca1 := (b6.2 1 _ rfl).1
        have ca2 := (b7.2 1 _ rfl).1
        have kS := hid (show ∀ w', Keeps w16 w' → (w'.cell? ⟨w.heap.size + 1, 1, none⟩ = some (.slice Q1 n1 c1) ∧ w'.cell? ⟨w.heap.size + 1 + 1, 1, none⟩ = some (.slice Q2 n2 c2)) from fun w' k => ⟨cell_keeps ca1 k, cell_keeps ca2 k⟩)
        have hD := h'.keeps (kw.trans (keeps_d0 w16))
        have hpD := hp.keeps (kw.trans (keeps_d0 w16))
        have hrD := hr.keeps (kw.trans (keeps_d0 w16))
        go_region_held3 (fun w' => w'.cell? ⟨w.heap.size + 1, 1, none⟩ = some (.slice Q1 n1 c1) ∧ w'.cell? ⟨w.heap.size + 1 + 1, 1, none⟩ = some (.slice Q2 n2 c2)) (first | with_reducible exact kS.out _ (keeps_d0 w16) | with_reducible exact kS.out _ kW | go_keep)
          ((first | (go_at_call 33; (with_reducible refine (rlMissing_any (c := c2) (c9 := c1) hD HLV.out hrD hpD HU.out HT.out).mono ?_); rintro e wB ⟨A1, N1, C1, rfl, m1, kB⟩; have kW : Keeps w16 wB := keeps_d kB; replace m1 : Mine wB w16.heap.size wB.heap.size A1 N1 (pcL l us ts) := m1; clear kB) | (go_at_call 33; (with_reducible refine (rlMissing_any (c := c1) (c9 := c2) (h'.keeps (kw.trans kW)) HLV.out (hp.keeps (kw.trans kW)) (hr.keeps (kw.trans kW)) HT.out HU.out).mono ?_); rintro e wC ⟨A2, N2, C2, rfl, m2, kC⟩; have szB := kW.size; have szC := kC.size; replace m1 := m1.keeps kC; replace kW := kW.trans kC; clear kC)))
        clear kS hD hpD hrD ca1 ca2
        have szw := kw.size
        have HK := hid (kw.trans kW)
        clear kw kW b4 b6 b7
        go_wp2_with fail
        go_ret3
        exact ⟨A1, N1, C1, A2, N2, C2, _, _, _, _, rfl, by omega, m1, m2, HK.out⟩
end Go.Proofs.Ytellocnplemjmaa
