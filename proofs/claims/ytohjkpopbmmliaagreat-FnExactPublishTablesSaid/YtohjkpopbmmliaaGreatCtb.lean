/- The cell and the amount of a record: of the program and of the reference. -/
import Derived.Test.YtohjkpopbmmliaaGreatFol
import Derived.Test.YtohjkpopbmmliaaGreatTc
import Derived.IntWalk
import Derived.Deep.LoopGhost
namespace Go.Proofs.YtohjkpopbmmliaaGreat
open Go.RowKit Go.Sort
set_option linter.unusedVariables false
set_option linter.unusedSimpArgs false

theorem callsK {P : Program} {f : FuncId} {args : Array Value} {w : World} {v : Value} (h : Calls P f args w fun e w' => e = .returned v ∧ w = w') : Calls P f args w fun e w' => e = .returned v ∧ Keeps w w' :=
  h.mono fun _ _ ⟨a, b⟩ => ⟨a, by subst b; exact keeps_refl _⟩
/-- The value at place k is in its set. -/
def meR (ws zs : List Int) (k : Nat) : Bool := decide (ws.getD k 0 = 0) || !(decide (bits .and .i64 (ws.getD k 0 / 2 ^ (zs.getD k 0).toNat) 1 = 0))
def meTo (ws zs : List Int) : Nat → Bool
  | 0 => true
  | k + 1 => meTo ws zs k && meR ws zs k
def meB (ws zs : List Int) : Bool := meTo ws zs ws.length
theorem meTo_bad {ws zs : List Int} {k n : Nat} (h : meTo ws zs k = false) (hn : k ≤ n) : meTo ws zs n = false := by
  induction n with
  | zero => obtain rfl : k = 0 := by omega
            exact h
  | succ n ih =>
    rcases Nat.lt_or_ge n k with h1 | h1
    · obtain rfl : k = n + 1 := by omega
      exact h
    · unfold meTo; rw [ih h1]; rfl
theorem meB_no {ws zs : List Int} {n k : Nat} (hl : ws.length = n) (hk : k < n) (h : meR ws zs k = false) : meB ws zs = false := by
  unfold meB; rw [hl, meTo_bad (k := k + 1) (by unfold meTo; rw [h, Bool.and_false]) hk]
theorem meB_yes {ws zs : List Int} {n : Nat} (hl : ws.length = n) (h : meTo ws zs n = true) : meB ws zs = true := by unfold meB; rw [hl, h]
theorem meR_zero {ws zs : List Int} {k : Nat} {u : Int} (hu : u = ws.getD k 0) (h : u = 0) : meR ws zs k = true := by unfold meR; rw [← hu, decide_eq_true h]; rfl
theorem meR_of {ws zs : List Int} {k : Nat} {u v r : Int} (hu : u = ws.getD k 0) (hv : v = zs.getD k 0) (h : ¬ u = 0) (e : bits .and .i64 (u / 2 ^ v.toNat) 1 = r) : meR ws zs k = !(r == 0) := by
  unfold meR; rw [← hu, ← hv, decide_eq_false h, e, Bool.false_or]
  rfl

set_option maxRecDepth 100000 in
set_option maxHeartbeats 6400000 in
theorem meetsWhere_any {V H B : Option Addr} {lo hi lo2 hi2 n c m d z cz : Nat} {ws zs : List Int} {lv sm x y : Int} {w : World} (hw : Ints w lo hi H m ws) (hz : Ints w lo2 hi2 B z zs) (hmz : m ≤ z) (hbz : ∀ k, k < z → 0 ≤ zs.getD k 0 ∧ zs.getD k 0 ≤ 7) :
    Calls Tryz.prog 194 #[.agg #[.int .i64 lv, .slice V n c, .slice H m d, .int .i64 sm], .agg #[.int .i64 x, .int .i64 y, .slice B z cz]] w fun e w' => e = .returned (.bool (meB ws zs)) ∧ Keeps w w' := by
  have HL := hid hw.1
  have hm := hw.le
  have HZ := hid hbz
  have hz9 := hz.le
  clear hbz
  go_enter Tryz.func194, Tryz.ntmps194
  have kw := keeps_refl w
  replace kw := Keeps.trans kw (keeps_alloc w (.cells #[.int .i64 lv, .slice V n c, .slice H m d, .int .i64 sm] 120))
  have b2 : Bl (w.alloc (.cells #[.int .i64 lv, .slice V n c, .slice H m d, .int .i64 sm] 120)) w.heap.size [.int .i64 lv, .slice V n c, .slice H m d, .int .i64 sm] := Bl.new' (by simp) (by simp)
  replace b2 := b2.keeps (keeps_alloc (w.alloc (.cells #[.int .i64 lv, .slice V n c, .slice H m d, .int .i64 sm] 120)) (.cells #[.int .i64 x, .int .i64 y, .slice B z cz] 128))
  replace kw := Keeps.trans kw (keeps_alloc (w.alloc (.cells #[.int .i64 lv, .slice V n c, .slice H m d, .int .i64 sm] 120)) (.cells #[.int .i64 x, .int .i64 y, .slice B z cz] 128))
  have b3 : Bl ((w.alloc (.cells #[.int .i64 lv, .slice V n c, .slice H m d, .int .i64 sm] 120)).alloc (.cells #[.int .i64 x, .int .i64 y, .slice B z cz] 128)) (w.heap.size + 1) [.int .i64 x, .int .i64 y, .slice B z cz] := Bl.new' (by simp) (by simp)
  have ca1_0 : ((w.alloc (.cells #[.int .i64 lv, .slice V n c, .slice H m d, .int .i64 sm] 120)).alloc (.cells #[.int .i64 x, .int .i64 y, .slice B z cz] 128)).cell? ⟨w.heap.size, 0, none⟩ = some (.int .i64 lv) := (b2.2 0 _ rfl).1
  have fa1_0 : ((w.alloc (.cells #[.int .i64 lv, .slice V n c, .slice H m d, .int .i64 sm] 120)).alloc (.cells #[.int .i64 x, .int .i64 y, .slice B z cz] 128)).frozen? ⟨w.heap.size, 0, none⟩ = false := (b2.2 0 _ rfl).2
  have ca1_1 : ((w.alloc (.cells #[.int .i64 lv, .slice V n c, .slice H m d, .int .i64 sm] 120)).alloc (.cells #[.int .i64 x, .int .i64 y, .slice B z cz] 128)).cell? ⟨w.heap.size, 1, none⟩ = some (.slice V n c) := (b2.2 1 _ rfl).1
  have fa1_1 : ((w.alloc (.cells #[.int .i64 lv, .slice V n c, .slice H m d, .int .i64 sm] 120)).alloc (.cells #[.int .i64 x, .int .i64 y, .slice B z cz] 128)).frozen? ⟨w.heap.size, 1, none⟩ = false := (b2.2 1 _ rfl).2
  have ca1_2 : ((w.alloc (.cells #[.int .i64 lv, .slice V n c, .slice H m d, .int .i64 sm] 120)).alloc (.cells #[.int .i64 x, .int .i64 y, .slice B z cz] 128)).cell? ⟨w.heap.size, 2, none⟩ = some (.slice H m d) := (b2.2 2 _ rfl).1
  have fa1_2 : ((w.alloc (.cells #[.int .i64 lv, .slice V n c, .slice H m d, .int .i64 sm] 120)).alloc (.cells #[.int .i64 x, .int .i64 y, .slice B z cz] 128)).frozen? ⟨w.heap.size, 2, none⟩ = false := (b2.2 2 _ rfl).2
  have ca1_3 : ((w.alloc (.cells #[.int .i64 lv, .slice V n c, .slice H m d, .int .i64 sm] 120)).alloc (.cells #[.int .i64 x, .int .i64 y, .slice B z cz] 128)).cell? ⟨w.heap.size, 3, none⟩ = some (.int .i64 sm) := (b2.2 3 _ rfl).1
  have fa1_3 : ((w.alloc (.cells #[.int .i64 lv, .slice V n c, .slice H m d, .int .i64 sm] 120)).alloc (.cells #[.int .i64 x, .int .i64 y, .slice B z cz] 128)).frozen? ⟨w.heap.size, 3, none⟩ = false := (b2.2 3 _ rfl).2
  have ca2_0 : ((w.alloc (.cells #[.int .i64 lv, .slice V n c, .slice H m d, .int .i64 sm] 120)).alloc (.cells #[.int .i64 x, .int .i64 y, .slice B z cz] 128)).cell? ⟨w.heap.size + 1, 0, none⟩ = some (.int .i64 x) := (b3.2 0 _ rfl).1
  have fa2_0 : ((w.alloc (.cells #[.int .i64 lv, .slice V n c, .slice H m d, .int .i64 sm] 120)).alloc (.cells #[.int .i64 x, .int .i64 y, .slice B z cz] 128)).frozen? ⟨w.heap.size + 1, 0, none⟩ = false := (b3.2 0 _ rfl).2
  have ca2_1 : ((w.alloc (.cells #[.int .i64 lv, .slice V n c, .slice H m d, .int .i64 sm] 120)).alloc (.cells #[.int .i64 x, .int .i64 y, .slice B z cz] 128)).cell? ⟨w.heap.size + 1, 1, none⟩ = some (.int .i64 y) := (b3.2 1 _ rfl).1
  have fa2_1 : ((w.alloc (.cells #[.int .i64 lv, .slice V n c, .slice H m d, .int .i64 sm] 120)).alloc (.cells #[.int .i64 x, .int .i64 y, .slice B z cz] 128)).frozen? ⟨w.heap.size + 1, 1, none⟩ = false := (b3.2 1 _ rfl).2
  have ca2_2 : ((w.alloc (.cells #[.int .i64 lv, .slice V n c, .slice H m d, .int .i64 sm] 120)).alloc (.cells #[.int .i64 x, .int .i64 y, .slice B z cz] 128)).cell? ⟨w.heap.size + 1, 2, none⟩ = some (.slice B z cz) := (b3.2 2 _ rfl).1
  have fa2_2 : ((w.alloc (.cells #[.int .i64 lv, .slice V n c, .slice H m d, .int .i64 sm] 120)).alloc (.cells #[.int .i64 x, .int .i64 y, .slice B z cz] 128)).frozen? ⟨w.heap.size + 1, 2, none⟩ = false := (b3.2 2 _ rfl).2
  go_wp2_with fail
  clear ca1_0 fa1_0 ca1_1 fa1_1 ca1_2 fa1_2 ca1_3 fa1_3 ca2_0 fa2_0 ca2_1 fa2_1 ca2_2 fa2_2
  go_loopw [10] (fun i wr => ∃ k : Nat, k ≤ m ∧ i = .int .i64 k ∧ Hid (meTo ws zs k = true) ∧ Bl wr w.heap.size [.int .i64 lv, .slice V n c, .slice H m d, .int .i64 sm] ∧ Bl wr (w.heap.size + 1) [.int .i64 x, .int .i64 y, .slice B z cz] ∧ Keeps w wr) (fun i _ => m - (intOf i).toNat)
  case atStart => exact ⟨0, Nat.zero_le _, rfl, hid rfl, b2, b3, kw⟩
  clear b2 b3 kw
  case round =>
    obtain ⟨k, hk, rfl, HT, b2, b3, kw⟩ := hrel
    by_cases hlt : k < m
    · obtain ⟨b, off, u, rfl, _, _, hcu, hu⟩ := (hw.keeps kw).at_ hlt
      have hkz : k < z := by omega
      obtain ⟨b', off', v, rfl, _, _, hcv, hv⟩ := (hz.keeps kw).at_ hkz
      have hi1 : (k : Int) < (m : Int) := by omega
      have hi2 : (k : Int) < (z : Int) := by omega
      have hvb := HZ.out k hkz
      rw [← hv.out] at hvb
      by_cases hu0 : u = 0
      · have HN := hid (show meTo ws zs (k + 1) = true by unfold meTo; rw [HT.out, meR_zero hu.out hu0]; rfl)
        clear hu hv
        subst hu0
        have t1 : ((0 : Int) != 0) = false := rfl
        have ca3_0 : wr.cell? ⟨w.heap.size, 0, none⟩ = some (.int .i64 lv) := (b2.2 0 _ rfl).1
        have fa3_0 : wr.frozen? ⟨w.heap.size, 0, none⟩ = false := (b2.2 0 _ rfl).2
        have ca3_1 : wr.cell? ⟨w.heap.size, 1, none⟩ = some (.slice V n c) := (b2.2 1 _ rfl).1
        have fa3_1 : wr.frozen? ⟨w.heap.size, 1, none⟩ = false := (b2.2 1 _ rfl).2
        have ca3_2 : wr.cell? ⟨w.heap.size, 2, none⟩ = some (.slice (some ⟨b, off, none⟩) m d) := (b2.2 2 _ rfl).1
        have fa3_2 : wr.frozen? ⟨w.heap.size, 2, none⟩ = false := (b2.2 2 _ rfl).2
        have ca3_3 : wr.cell? ⟨w.heap.size, 3, none⟩ = some (.int .i64 sm) := (b2.2 3 _ rfl).1
        have fa3_3 : wr.frozen? ⟨w.heap.size, 3, none⟩ = false := (b2.2 3 _ rfl).2
        have ca4_0 : wr.cell? ⟨w.heap.size + 1, 0, none⟩ = some (.int .i64 x) := (b3.2 0 _ rfl).1
        have fa4_0 : wr.frozen? ⟨w.heap.size + 1, 0, none⟩ = false := (b3.2 0 _ rfl).2
        have ca4_1 : wr.cell? ⟨w.heap.size + 1, 1, none⟩ = some (.int .i64 y) := (b3.2 1 _ rfl).1
        have fa4_1 : wr.frozen? ⟨w.heap.size + 1, 1, none⟩ = false := (b3.2 1 _ rfl).2
        have ca4_2 : wr.cell? ⟨w.heap.size + 1, 2, none⟩ = some (.slice (some ⟨b', off', none⟩) z cz) := (b3.2 2 _ rfl).1
        have fa4_2 : wr.frozen? ⟨w.heap.size + 1, 2, none⟩ = false := (b3.2 2 _ rfl).2
        go_wp2_with fail
        clear ca3_0 fa3_0 ca3_1 fa3_1 ca3_2 fa3_2 ca3_3 fa3_3 ca4_0 fa4_0 ca4_1 fa4_1 ca4_2 fa4_2
        go_roundw
        case rel => exact ⟨k + 1, by omega, by go_num, HN, b2, b3, kw⟩
        case measure => simp [intOf]; omega
      have t1 : (u != 0) = true := by rw [bne_iff_ne]; exact hu0
      obtain ⟨r, hr⟩ : ∃ r, bits .and .i64 (u / 2 ^ v.toNat) 1 = r := ⟨_, rfl⟩
      have HR := hid (meR_of hu.out hv.out hu0 hr)
      clear hu hv hu0
      have hv8 : v = 0 ∨ v = 1 ∨ v = 2 ∨ v = 3 ∨ v = 4 ∨ v = 5 ∨ v = 6 ∨ v = 7 := by omega
      rcases hv8 with rfl | rfl | rfl | rfl | rfl | rfl | rfl | rfl
      · rw [show u / 2 ^ (0 : Int).toNat = u by simp] at hr
        have ca3_0 : wr.cell? ⟨w.heap.size, 0, none⟩ = some (.int .i64 lv) := (b2.2 0 _ rfl).1
        have fa3_0 : wr.frozen? ⟨w.heap.size, 0, none⟩ = false := (b2.2 0 _ rfl).2
        have ca3_1 : wr.cell? ⟨w.heap.size, 1, none⟩ = some (.slice V n c) := (b2.2 1 _ rfl).1
        have fa3_1 : wr.frozen? ⟨w.heap.size, 1, none⟩ = false := (b2.2 1 _ rfl).2
        have ca3_2 : wr.cell? ⟨w.heap.size, 2, none⟩ = some (.slice (some ⟨b, off, none⟩) m d) := (b2.2 2 _ rfl).1
        have fa3_2 : wr.frozen? ⟨w.heap.size, 2, none⟩ = false := (b2.2 2 _ rfl).2
        have ca3_3 : wr.cell? ⟨w.heap.size, 3, none⟩ = some (.int .i64 sm) := (b2.2 3 _ rfl).1
        have fa3_3 : wr.frozen? ⟨w.heap.size, 3, none⟩ = false := (b2.2 3 _ rfl).2
        have ca4_0 : wr.cell? ⟨w.heap.size + 1, 0, none⟩ = some (.int .i64 x) := (b3.2 0 _ rfl).1
        have fa4_0 : wr.frozen? ⟨w.heap.size + 1, 0, none⟩ = false := (b3.2 0 _ rfl).2
        have ca4_1 : wr.cell? ⟨w.heap.size + 1, 1, none⟩ = some (.int .i64 y) := (b3.2 1 _ rfl).1
        have fa4_1 : wr.frozen? ⟨w.heap.size + 1, 1, none⟩ = false := (b3.2 1 _ rfl).2
        have ca4_2 : wr.cell? ⟨w.heap.size + 1, 2, none⟩ = some (.slice (some ⟨b', off', none⟩) z cz) := (b3.2 2 _ rfl).1
        have fa4_2 : wr.frozen? ⟨w.heap.size + 1, 2, none⟩ = false := (b3.2 2 _ rfl).2
        by_cases hr0 : r = 0
        · have HF := hid (meB_no HL.out hlt (by rw [HR.out, hr0]; rfl))
          have t2 : (r == 0) = true := by rw [beq_iff_eq]; exact hr0
          clear hr0
          go_wp2_with fail
          clear ca3_0 fa3_0 ca3_1 fa3_1 ca3_2 fa3_2 ca3_3 fa3_3 ca4_0 fa4_0 ca4_1 fa4_1 ca4_2 fa4_2
          go_ret
          exact ⟨ret_bool HF.out.symm, kw⟩
        have HN := hid (show meTo ws zs (k + 1) = true by unfold meTo; rw [HT.out, HR.out]; simpa using hr0)
        have t2 : (r == 0) = false := by rw [beq_eq_false_iff_ne]; exact hr0
        clear hr0
        go_wp2_with fail
        clear ca3_0 fa3_0 ca3_1 fa3_1 ca3_2 fa3_2 ca3_3 fa3_3 ca4_0 fa4_0 ca4_1 fa4_1 ca4_2 fa4_2
        go_roundw
        case rel => exact ⟨k + 1, by omega, by go_num, HN, b2, b3, kw⟩
        case measure => simp [intOf]; omega
      · rw [show u / 2 ^ (1 : Int).toNat = u / 2 by simp] at hr
        have ca3_0 : wr.cell? ⟨w.heap.size, 0, none⟩ = some (.int .i64 lv) := (b2.2 0 _ rfl).1
        have fa3_0 : wr.frozen? ⟨w.heap.size, 0, none⟩ = false := (b2.2 0 _ rfl).2
        have ca3_1 : wr.cell? ⟨w.heap.size, 1, none⟩ = some (.slice V n c) := (b2.2 1 _ rfl).1
        have fa3_1 : wr.frozen? ⟨w.heap.size, 1, none⟩ = false := (b2.2 1 _ rfl).2
        have ca3_2 : wr.cell? ⟨w.heap.size, 2, none⟩ = some (.slice (some ⟨b, off, none⟩) m d) := (b2.2 2 _ rfl).1
        have fa3_2 : wr.frozen? ⟨w.heap.size, 2, none⟩ = false := (b2.2 2 _ rfl).2
        have ca3_3 : wr.cell? ⟨w.heap.size, 3, none⟩ = some (.int .i64 sm) := (b2.2 3 _ rfl).1
        have fa3_3 : wr.frozen? ⟨w.heap.size, 3, none⟩ = false := (b2.2 3 _ rfl).2
        have ca4_0 : wr.cell? ⟨w.heap.size + 1, 0, none⟩ = some (.int .i64 x) := (b3.2 0 _ rfl).1
        have fa4_0 : wr.frozen? ⟨w.heap.size + 1, 0, none⟩ = false := (b3.2 0 _ rfl).2
        have ca4_1 : wr.cell? ⟨w.heap.size + 1, 1, none⟩ = some (.int .i64 y) := (b3.2 1 _ rfl).1
        have fa4_1 : wr.frozen? ⟨w.heap.size + 1, 1, none⟩ = false := (b3.2 1 _ rfl).2
        have ca4_2 : wr.cell? ⟨w.heap.size + 1, 2, none⟩ = some (.slice (some ⟨b', off', none⟩) z cz) := (b3.2 2 _ rfl).1
        have fa4_2 : wr.frozen? ⟨w.heap.size + 1, 2, none⟩ = false := (b3.2 2 _ rfl).2
        by_cases hr0 : r = 0
        · have HF := hid (meB_no HL.out hlt (by rw [HR.out, hr0]; rfl))
          have t2 : (r == 0) = true := by rw [beq_iff_eq]; exact hr0
          clear hr0
          go_wp2_with fail
          clear ca3_0 fa3_0 ca3_1 fa3_1 ca3_2 fa3_2 ca3_3 fa3_3 ca4_0 fa4_0 ca4_1 fa4_1 ca4_2 fa4_2
          go_ret
          exact ⟨ret_bool HF.out.symm, kw⟩
        have HN := hid (show meTo ws zs (k + 1) = true by unfold meTo; rw [HT.out, HR.out]; simpa using hr0)
        have t2 : (r == 0) = false := by rw [beq_eq_false_iff_ne]; exact hr0
        clear hr0
        go_wp2_with fail
        clear ca3_0 fa3_0 ca3_1 fa3_1 ca3_2 fa3_2 ca3_3 fa3_3 ca4_0 fa4_0 ca4_1 fa4_1 ca4_2 fa4_2
        go_roundw
        case rel => exact ⟨k + 1, by omega, by go_num, HN, b2, b3, kw⟩
        case measure => simp [intOf]; omega
      · rw [show u / 2 ^ (2 : Int).toNat = u / 4 by simp] at hr
        have ca3_0 : wr.cell? ⟨w.heap.size, 0, none⟩ = some (.int .i64 lv) := (b2.2 0 _ rfl).1
        have fa3_0 : wr.frozen? ⟨w.heap.size, 0, none⟩ = false := (b2.2 0 _ rfl).2
        have ca3_1 : wr.cell? ⟨w.heap.size, 1, none⟩ = some (.slice V n c) := (b2.2 1 _ rfl).1
        have fa3_1 : wr.frozen? ⟨w.heap.size, 1, none⟩ = false := (b2.2 1 _ rfl).2
        have ca3_2 : wr.cell? ⟨w.heap.size, 2, none⟩ = some (.slice (some ⟨b, off, none⟩) m d) := (b2.2 2 _ rfl).1
        have fa3_2 : wr.frozen? ⟨w.heap.size, 2, none⟩ = false := (b2.2 2 _ rfl).2
        have ca3_3 : wr.cell? ⟨w.heap.size, 3, none⟩ = some (.int .i64 sm) := (b2.2 3 _ rfl).1
        have fa3_3 : wr.frozen? ⟨w.heap.size, 3, none⟩ = false := (b2.2 3 _ rfl).2
        have ca4_0 : wr.cell? ⟨w.heap.size + 1, 0, none⟩ = some (.int .i64 x) := (b3.2 0 _ rfl).1
        have fa4_0 : wr.frozen? ⟨w.heap.size + 1, 0, none⟩ = false := (b3.2 0 _ rfl).2
        have ca4_1 : wr.cell? ⟨w.heap.size + 1, 1, none⟩ = some (.int .i64 y) := (b3.2 1 _ rfl).1
        have fa4_1 : wr.frozen? ⟨w.heap.size + 1, 1, none⟩ = false := (b3.2 1 _ rfl).2
        have ca4_2 : wr.cell? ⟨w.heap.size + 1, 2, none⟩ = some (.slice (some ⟨b', off', none⟩) z cz) := (b3.2 2 _ rfl).1
        have fa4_2 : wr.frozen? ⟨w.heap.size + 1, 2, none⟩ = false := (b3.2 2 _ rfl).2
        by_cases hr0 : r = 0
        · have HF := hid (meB_no HL.out hlt (by rw [HR.out, hr0]; rfl))
          have t2 : (r == 0) = true := by rw [beq_iff_eq]; exact hr0
          clear hr0
          go_wp2_with fail
          clear ca3_0 fa3_0 ca3_1 fa3_1 ca3_2 fa3_2 ca3_3 fa3_3 ca4_0 fa4_0 ca4_1 fa4_1 ca4_2 fa4_2
          go_ret
          exact ⟨ret_bool HF.out.symm, kw⟩
        have HN := hid (show meTo ws zs (k + 1) = true by unfold meTo; rw [HT.out, HR.out]; simpa using hr0)
        have t2 : (r == 0) = false := by rw [beq_eq_false_iff_ne]; exact hr0
        clear hr0
        go_wp2_with fail
        clear ca3_0 fa3_0 ca3_1 fa3_1 ca3_2 fa3_2 ca3_3 fa3_3 ca4_0 fa4_0 ca4_1 fa4_1 ca4_2 fa4_2
        go_roundw
        case rel => exact ⟨k + 1, by omega, by go_num, HN, b2, b3, kw⟩
        case measure => simp [intOf]; omega
      · rw [show u / 2 ^ (3 : Int).toNat = u / 8 by simp] at hr
        have ca3_0 : wr.cell? ⟨w.heap.size, 0, none⟩ = some (.int .i64 lv) := (b2.2 0 _ rfl).1
        have fa3_0 : wr.frozen? ⟨w.heap.size, 0, none⟩ = false := (b2.2 0 _ rfl).2
        have ca3_1 : wr.cell? ⟨w.heap.size, 1, none⟩ = some (.slice V n c) := (b2.2 1 _ rfl).1
        have fa3_1 : wr.frozen? ⟨w.heap.size, 1, none⟩ = false := (b2.2 1 _ rfl).2
        have ca3_2 : wr.cell? ⟨w.heap.size, 2, none⟩ = some (.slice (some ⟨b, off, none⟩) m d) := (b2.2 2 _ rfl).1
        have fa3_2 : wr.frozen? ⟨w.heap.size, 2, none⟩ = false := (b2.2 2 _ rfl).2
        have ca3_3 : wr.cell? ⟨w.heap.size, 3, none⟩ = some (.int .i64 sm) := (b2.2 3 _ rfl).1
        have fa3_3 : wr.frozen? ⟨w.heap.size, 3, none⟩ = false := (b2.2 3 _ rfl).2
        have ca4_0 : wr.cell? ⟨w.heap.size + 1, 0, none⟩ = some (.int .i64 x) := (b3.2 0 _ rfl).1
        have fa4_0 : wr.frozen? ⟨w.heap.size + 1, 0, none⟩ = false := (b3.2 0 _ rfl).2
        have ca4_1 : wr.cell? ⟨w.heap.size + 1, 1, none⟩ = some (.int .i64 y) := (b3.2 1 _ rfl).1
        have fa4_1 : wr.frozen? ⟨w.heap.size + 1, 1, none⟩ = false := (b3.2 1 _ rfl).2
        have ca4_2 : wr.cell? ⟨w.heap.size + 1, 2, none⟩ = some (.slice (some ⟨b', off', none⟩) z cz) := (b3.2 2 _ rfl).1
        have fa4_2 : wr.frozen? ⟨w.heap.size + 1, 2, none⟩ = false := (b3.2 2 _ rfl).2
        by_cases hr0 : r = 0
        · have HF := hid (meB_no HL.out hlt (by rw [HR.out, hr0]; rfl))
          have t2 : (r == 0) = true := by rw [beq_iff_eq]; exact hr0
          clear hr0
          go_wp2_with fail
          clear ca3_0 fa3_0 ca3_1 fa3_1 ca3_2 fa3_2 ca3_3 fa3_3 ca4_0 fa4_0 ca4_1 fa4_1 ca4_2 fa4_2
          go_ret
          exact ⟨ret_bool HF.out.symm, kw⟩
        have HN := hid (show meTo ws zs (k + 1) = true by unfold meTo; rw [HT.out, HR.out]; simpa using hr0)
        have t2 : (r == 0) = false := by rw [beq_eq_false_iff_ne]; exact hr0
        clear hr0
        go_wp2_with fail
        clear ca3_0 fa3_0 ca3_1 fa3_1 ca3_2 fa3_2 ca3_3 fa3_3 ca4_0 fa4_0 ca4_1 fa4_1 ca4_2 fa4_2
        go_roundw
        case rel => exact ⟨k + 1, by omega, by go_num, HN, b2, b3, kw⟩
        case measure => simp [intOf]; omega
      · rw [show u / 2 ^ (4 : Int).toNat = u / 16 by simp] at hr
        have ca3_0 : wr.cell? ⟨w.heap.size, 0, none⟩ = some (.int .i64 lv) := (b2.2 0 _ rfl).1
        have fa3_0 : wr.frozen? ⟨w.heap.size, 0, none⟩ = false := (b2.2 0 _ rfl).2
        have ca3_1 : wr.cell? ⟨w.heap.size, 1, none⟩ = some (.slice V n c) := (b2.2 1 _ rfl).1
        have fa3_1 : wr.frozen? ⟨w.heap.size, 1, none⟩ = false := (b2.2 1 _ rfl).2
        have ca3_2 : wr.cell? ⟨w.heap.size, 2, none⟩ = some (.slice (some ⟨b, off, none⟩) m d) := (b2.2 2 _ rfl).1
        have fa3_2 : wr.frozen? ⟨w.heap.size, 2, none⟩ = false := (b2.2 2 _ rfl).2
        have ca3_3 : wr.cell? ⟨w.heap.size, 3, none⟩ = some (.int .i64 sm) := (b2.2 3 _ rfl).1
        have fa3_3 : wr.frozen? ⟨w.heap.size, 3, none⟩ = false := (b2.2 3 _ rfl).2
        have ca4_0 : wr.cell? ⟨w.heap.size + 1, 0, none⟩ = some (.int .i64 x) := (b3.2 0 _ rfl).1
        have fa4_0 : wr.frozen? ⟨w.heap.size + 1, 0, none⟩ = false := (b3.2 0 _ rfl).2
        have ca4_1 : wr.cell? ⟨w.heap.size + 1, 1, none⟩ = some (.int .i64 y) := (b3.2 1 _ rfl).1
        have fa4_1 : wr.frozen? ⟨w.heap.size + 1, 1, none⟩ = false := (b3.2 1 _ rfl).2
        have ca4_2 : wr.cell? ⟨w.heap.size + 1, 2, none⟩ = some (.slice (some ⟨b', off', none⟩) z cz) := (b3.2 2 _ rfl).1
        have fa4_2 : wr.frozen? ⟨w.heap.size + 1, 2, none⟩ = false := (b3.2 2 _ rfl).2
        by_cases hr0 : r = 0
        · have HF := hid (meB_no HL.out hlt (by rw [HR.out, hr0]; rfl))
          have t2 : (r == 0) = true := by rw [beq_iff_eq]; exact hr0
          clear hr0
          go_wp2_with fail
          clear ca3_0 fa3_0 ca3_1 fa3_1 ca3_2 fa3_2 ca3_3 fa3_3 ca4_0 fa4_0 ca4_1 fa4_1 ca4_2 fa4_2
          go_ret
          exact ⟨ret_bool HF.out.symm, kw⟩
        have HN := hid (show meTo ws zs (k + 1) = true by unfold meTo; rw [HT.out, HR.out]; simpa using hr0)
        have t2 : (r == 0) = false := by rw [beq_eq_false_iff_ne]; exact hr0
        clear hr0
        go_wp2_with fail
        clear ca3_0 fa3_0 ca3_1 fa3_1 ca3_2 fa3_2 ca3_3 fa3_3 ca4_0 fa4_0 ca4_1 fa4_1 ca4_2 fa4_2
        go_roundw
        case rel => exact ⟨k + 1, by omega, by go_num, HN, b2, b3, kw⟩
        case measure => simp [intOf]; omega
      · rw [show u / 2 ^ (5 : Int).toNat = u / 32 by simp] at hr
        have ca3_0 : wr.cell? ⟨w.heap.size, 0, none⟩ = some (.int .i64 lv) := (b2.2 0 _ rfl).1
        have fa3_0 : wr.frozen? ⟨w.heap.size, 0, none⟩ = false := (b2.2 0 _ rfl).2
        have ca3_1 : wr.cell? ⟨w.heap.size, 1, none⟩ = some (.slice V n c) := (b2.2 1 _ rfl).1
        have fa3_1 : wr.frozen? ⟨w.heap.size, 1, none⟩ = false := (b2.2 1 _ rfl).2
        have ca3_2 : wr.cell? ⟨w.heap.size, 2, none⟩ = some (.slice (some ⟨b, off, none⟩) m d) := (b2.2 2 _ rfl).1
        have fa3_2 : wr.frozen? ⟨w.heap.size, 2, none⟩ = false := (b2.2 2 _ rfl).2
        have ca3_3 : wr.cell? ⟨w.heap.size, 3, none⟩ = some (.int .i64 sm) := (b2.2 3 _ rfl).1
        have fa3_3 : wr.frozen? ⟨w.heap.size, 3, none⟩ = false := (b2.2 3 _ rfl).2
        have ca4_0 : wr.cell? ⟨w.heap.size + 1, 0, none⟩ = some (.int .i64 x) := (b3.2 0 _ rfl).1
        have fa4_0 : wr.frozen? ⟨w.heap.size + 1, 0, none⟩ = false := (b3.2 0 _ rfl).2
        have ca4_1 : wr.cell? ⟨w.heap.size + 1, 1, none⟩ = some (.int .i64 y) := (b3.2 1 _ rfl).1
        have fa4_1 : wr.frozen? ⟨w.heap.size + 1, 1, none⟩ = false := (b3.2 1 _ rfl).2
        have ca4_2 : wr.cell? ⟨w.heap.size + 1, 2, none⟩ = some (.slice (some ⟨b', off', none⟩) z cz) := (b3.2 2 _ rfl).1
        have fa4_2 : wr.frozen? ⟨w.heap.size + 1, 2, none⟩ = false := (b3.2 2 _ rfl).2
        by_cases hr0 : r = 0
        · have HF := hid (meB_no HL.out hlt (by rw [HR.out, hr0]; rfl))
          have t2 : (r == 0) = true := by rw [beq_iff_eq]; exact hr0
          clear hr0
          go_wp2_with fail
          clear ca3_0 fa3_0 ca3_1 fa3_1 ca3_2 fa3_2 ca3_3 fa3_3 ca4_0 fa4_0 ca4_1 fa4_1 ca4_2 fa4_2
          go_ret
          exact ⟨ret_bool HF.out.symm, kw⟩
        have HN := hid (show meTo ws zs (k + 1) = true by unfold meTo; rw [HT.out, HR.out]; simpa using hr0)
        have t2 : (r == 0) = false := by rw [beq_eq_false_iff_ne]; exact hr0
        clear hr0
        go_wp2_with fail
        clear ca3_0 fa3_0 ca3_1 fa3_1 ca3_2 fa3_2 ca3_3 fa3_3 ca4_0 fa4_0 ca4_1 fa4_1 ca4_2 fa4_2
        go_roundw
        case rel => exact ⟨k + 1, by omega, by go_num, HN, b2, b3, kw⟩
        case measure => simp [intOf]; omega
      · rw [show u / 2 ^ (6 : Int).toNat = u / 64 by simp] at hr
        have ca3_0 : wr.cell? ⟨w.heap.size, 0, none⟩ = some (.int .i64 lv) := (b2.2 0 _ rfl).1
        have fa3_0 : wr.frozen? ⟨w.heap.size, 0, none⟩ = false := (b2.2 0 _ rfl).2
        have ca3_1 : wr.cell? ⟨w.heap.size, 1, none⟩ = some (.slice V n c) := (b2.2 1 _ rfl).1
        have fa3_1 : wr.frozen? ⟨w.heap.size, 1, none⟩ = false := (b2.2 1 _ rfl).2
        have ca3_2 : wr.cell? ⟨w.heap.size, 2, none⟩ = some (.slice (some ⟨b, off, none⟩) m d) := (b2.2 2 _ rfl).1
        have fa3_2 : wr.frozen? ⟨w.heap.size, 2, none⟩ = false := (b2.2 2 _ rfl).2
        have ca3_3 : wr.cell? ⟨w.heap.size, 3, none⟩ = some (.int .i64 sm) := (b2.2 3 _ rfl).1
        have fa3_3 : wr.frozen? ⟨w.heap.size, 3, none⟩ = false := (b2.2 3 _ rfl).2
        have ca4_0 : wr.cell? ⟨w.heap.size + 1, 0, none⟩ = some (.int .i64 x) := (b3.2 0 _ rfl).1
        have fa4_0 : wr.frozen? ⟨w.heap.size + 1, 0, none⟩ = false := (b3.2 0 _ rfl).2
        have ca4_1 : wr.cell? ⟨w.heap.size + 1, 1, none⟩ = some (.int .i64 y) := (b3.2 1 _ rfl).1
        have fa4_1 : wr.frozen? ⟨w.heap.size + 1, 1, none⟩ = false := (b3.2 1 _ rfl).2
        have ca4_2 : wr.cell? ⟨w.heap.size + 1, 2, none⟩ = some (.slice (some ⟨b', off', none⟩) z cz) := (b3.2 2 _ rfl).1
        have fa4_2 : wr.frozen? ⟨w.heap.size + 1, 2, none⟩ = false := (b3.2 2 _ rfl).2
        by_cases hr0 : r = 0
        · have HF := hid (meB_no HL.out hlt (by rw [HR.out, hr0]; rfl))
          have t2 : (r == 0) = true := by rw [beq_iff_eq]; exact hr0
          clear hr0
          go_wp2_with fail
          clear ca3_0 fa3_0 ca3_1 fa3_1 ca3_2 fa3_2 ca3_3 fa3_3 ca4_0 fa4_0 ca4_1 fa4_1 ca4_2 fa4_2
          go_ret
          exact ⟨ret_bool HF.out.symm, kw⟩
        have HN := hid (show meTo ws zs (k + 1) = true by unfold meTo; rw [HT.out, HR.out]; simpa using hr0)
        have t2 : (r == 0) = false := by rw [beq_eq_false_iff_ne]; exact hr0
        clear hr0
        go_wp2_with fail
        clear ca3_0 fa3_0 ca3_1 fa3_1 ca3_2 fa3_2 ca3_3 fa3_3 ca4_0 fa4_0 ca4_1 fa4_1 ca4_2 fa4_2
        go_roundw
        case rel => exact ⟨k + 1, by omega, by go_num, HN, b2, b3, kw⟩
        case measure => simp [intOf]; omega
      · rw [show u / 2 ^ (7 : Int).toNat = u / 128 by simp] at hr
        have ca3_0 : wr.cell? ⟨w.heap.size, 0, none⟩ = some (.int .i64 lv) := (b2.2 0 _ rfl).1
        have fa3_0 : wr.frozen? ⟨w.heap.size, 0, none⟩ = false := (b2.2 0 _ rfl).2
        have ca3_1 : wr.cell? ⟨w.heap.size, 1, none⟩ = some (.slice V n c) := (b2.2 1 _ rfl).1
        have fa3_1 : wr.frozen? ⟨w.heap.size, 1, none⟩ = false := (b2.2 1 _ rfl).2
        have ca3_2 : wr.cell? ⟨w.heap.size, 2, none⟩ = some (.slice (some ⟨b, off, none⟩) m d) := (b2.2 2 _ rfl).1
        have fa3_2 : wr.frozen? ⟨w.heap.size, 2, none⟩ = false := (b2.2 2 _ rfl).2
        have ca3_3 : wr.cell? ⟨w.heap.size, 3, none⟩ = some (.int .i64 sm) := (b2.2 3 _ rfl).1
        have fa3_3 : wr.frozen? ⟨w.heap.size, 3, none⟩ = false := (b2.2 3 _ rfl).2
        have ca4_0 : wr.cell? ⟨w.heap.size + 1, 0, none⟩ = some (.int .i64 x) := (b3.2 0 _ rfl).1
        have fa4_0 : wr.frozen? ⟨w.heap.size + 1, 0, none⟩ = false := (b3.2 0 _ rfl).2
        have ca4_1 : wr.cell? ⟨w.heap.size + 1, 1, none⟩ = some (.int .i64 y) := (b3.2 1 _ rfl).1
        have fa4_1 : wr.frozen? ⟨w.heap.size + 1, 1, none⟩ = false := (b3.2 1 _ rfl).2
        have ca4_2 : wr.cell? ⟨w.heap.size + 1, 2, none⟩ = some (.slice (some ⟨b', off', none⟩) z cz) := (b3.2 2 _ rfl).1
        have fa4_2 : wr.frozen? ⟨w.heap.size + 1, 2, none⟩ = false := (b3.2 2 _ rfl).2
        by_cases hr0 : r = 0
        · have HF := hid (meB_no HL.out hlt (by rw [HR.out, hr0]; rfl))
          have t2 : (r == 0) = true := by rw [beq_iff_eq]; exact hr0
          clear hr0
          go_wp2_with fail
          clear ca3_0 fa3_0 ca3_1 fa3_1 ca3_2 fa3_2 ca3_3 fa3_3 ca4_0 fa4_0 ca4_1 fa4_1 ca4_2 fa4_2
          go_ret
          exact ⟨ret_bool HF.out.symm, kw⟩
        have HN := hid (show meTo ws zs (k + 1) = true by unfold meTo; rw [HT.out, HR.out]; simpa using hr0)
        have t2 : (r == 0) = false := by rw [beq_eq_false_iff_ne]; exact hr0
        clear hr0
        go_wp2_with fail
        clear ca3_0 fa3_0 ca3_1 fa3_1 ca3_2 fa3_2 ca3_3 fa3_3 ca4_0 fa4_0 ca4_1 fa4_1 ca4_2 fa4_2
        go_roundw
        case rel => exact ⟨k + 1, by omega, by go_num, HN, b2, b3, kw⟩
        case measure => simp [intOf]; omega
    · obtain rfl : k = m := by omega
      have HX := hid (meB_yes HL.out HT.out)
      go_wp2
      go_ret
      exact ⟨ret_bool HX.out.symm, kw⟩
set_option maxRecDepth 100000 in
set_option maxHeartbeats 6400000 in
theorem uMeets_any {V H B : Option Addr} {lo hi lo2 hi2 n c m d z cz : Nat} {ws zs : List Int} {lv sm : Int} {w : World} (hw : Ints w lo hi H m ws) (hz : Ints w lo2 hi2 B z zs) (hmz : m ≤ z) (hbz : ∀ k, k < z → 0 ≤ zs.getD k 0 ∧ zs.getD k 0 ≤ 7) :
    Calls Tryz.prog 164 #[.agg #[.int .i64 lv, .slice V n c, .slice H m d, .int .i64 sm], .slice B z cz] w fun e w' => e = .returned (.bool (meB ws zs)) ∧ Keeps w w' := by
  have HL := hid hw.1
  have hm := hw.le
  have HZ := hid hbz
  have hz9 := hz.le
  clear hbz
  go_enter Tryz.func164, Tryz.ntmps164
  have kw := keeps_refl w
  replace kw := Keeps.trans kw (keeps_alloc w (.cells #[.int .i64 lv, .slice V n c, .slice H m d, .int .i64 sm] 120))
  have b2 : Bl (w.alloc (.cells #[.int .i64 lv, .slice V n c, .slice H m d, .int .i64 sm] 120)) w.heap.size [.int .i64 lv, .slice V n c, .slice H m d, .int .i64 sm] := Bl.new' (by simp) (by simp)
  have ca1_0 : (w.alloc (.cells #[.int .i64 lv, .slice V n c, .slice H m d, .int .i64 sm] 120)).cell? ⟨w.heap.size, 0, none⟩ = some (.int .i64 lv) := (b2.2 0 _ rfl).1
  have fa1_0 : (w.alloc (.cells #[.int .i64 lv, .slice V n c, .slice H m d, .int .i64 sm] 120)).frozen? ⟨w.heap.size, 0, none⟩ = false := (b2.2 0 _ rfl).2
  have ca1_1 : (w.alloc (.cells #[.int .i64 lv, .slice V n c, .slice H m d, .int .i64 sm] 120)).cell? ⟨w.heap.size, 1, none⟩ = some (.slice V n c) := (b2.2 1 _ rfl).1
  have fa1_1 : (w.alloc (.cells #[.int .i64 lv, .slice V n c, .slice H m d, .int .i64 sm] 120)).frozen? ⟨w.heap.size, 1, none⟩ = false := (b2.2 1 _ rfl).2
  have ca1_2 : (w.alloc (.cells #[.int .i64 lv, .slice V n c, .slice H m d, .int .i64 sm] 120)).cell? ⟨w.heap.size, 2, none⟩ = some (.slice H m d) := (b2.2 2 _ rfl).1
  have fa1_2 : (w.alloc (.cells #[.int .i64 lv, .slice V n c, .slice H m d, .int .i64 sm] 120)).frozen? ⟨w.heap.size, 2, none⟩ = false := (b2.2 2 _ rfl).2
  have ca1_3 : (w.alloc (.cells #[.int .i64 lv, .slice V n c, .slice H m d, .int .i64 sm] 120)).cell? ⟨w.heap.size, 3, none⟩ = some (.int .i64 sm) := (b2.2 3 _ rfl).1
  have fa1_3 : (w.alloc (.cells #[.int .i64 lv, .slice V n c, .slice H m d, .int .i64 sm] 120)).frozen? ⟨w.heap.size, 3, none⟩ = false := (b2.2 3 _ rfl).2
  go_wp2_with fail
  clear ca1_0 fa1_0 ca1_1 fa1_1 ca1_2 fa1_2 ca1_3 fa1_3
  go_loopw [10] (fun i wr => ∃ k : Nat, k ≤ m ∧ i = .int .i64 k ∧ Hid (meTo ws zs k = true) ∧ Bl wr w.heap.size [.int .i64 lv, .slice V n c, .slice H m d, .int .i64 sm] ∧ Keeps w wr) (fun i _ => m - (intOf i).toNat)
  case atStart => exact ⟨0, Nat.zero_le _, rfl, hid rfl, b2, kw⟩
  clear b2 kw
  case round =>
    obtain ⟨k, hk, rfl, HT, b2, kw⟩ := hrel
    by_cases hlt : k < m
    · obtain ⟨b, off, u, rfl, _, _, hcu, hu⟩ := (hw.keeps kw).at_ hlt
      have hkz : k < z := by omega
      obtain ⟨b', off', v, rfl, _, _, hcv, hv⟩ := (hz.keeps kw).at_ hkz
      have hi1 : (k : Int) < (m : Int) := by omega
      have hi2 : (k : Int) < (z : Int) := by omega
      have hvb := HZ.out k hkz
      rw [← hv.out] at hvb
      by_cases hu0 : u = 0
      · have HN := hid (show meTo ws zs (k + 1) = true by unfold meTo; rw [HT.out, meR_zero hu.out hu0]; rfl)
        clear hu hv
        subst hu0
        have t1 : ((0 : Int) != 0) = false := rfl
        have ca2_0 : wr.cell? ⟨w.heap.size, 0, none⟩ = some (.int .i64 lv) := (b2.2 0 _ rfl).1
        have fa2_0 : wr.frozen? ⟨w.heap.size, 0, none⟩ = false := (b2.2 0 _ rfl).2
        have ca2_1 : wr.cell? ⟨w.heap.size, 1, none⟩ = some (.slice V n c) := (b2.2 1 _ rfl).1
        have fa2_1 : wr.frozen? ⟨w.heap.size, 1, none⟩ = false := (b2.2 1 _ rfl).2
        have ca2_2 : wr.cell? ⟨w.heap.size, 2, none⟩ = some (.slice (some ⟨b, off, none⟩) m d) := (b2.2 2 _ rfl).1
        have fa2_2 : wr.frozen? ⟨w.heap.size, 2, none⟩ = false := (b2.2 2 _ rfl).2
        have ca2_3 : wr.cell? ⟨w.heap.size, 3, none⟩ = some (.int .i64 sm) := (b2.2 3 _ rfl).1
        have fa2_3 : wr.frozen? ⟨w.heap.size, 3, none⟩ = false := (b2.2 3 _ rfl).2
        go_wp2_with fail
        clear ca2_0 fa2_0 ca2_1 fa2_1 ca2_2 fa2_2 ca2_3 fa2_3
        go_roundw
        case rel => exact ⟨k + 1, by omega, by go_num, HN, b2, kw⟩
        case measure => simp [intOf]; omega
      have t1 : (u != 0) = true := by rw [bne_iff_ne]; exact hu0
      obtain ⟨r, hr⟩ : ∃ r, bits .and .i64 (u / 2 ^ v.toNat) 1 = r := ⟨_, rfl⟩
      have HR := hid (meR_of hu.out hv.out hu0 hr)
      clear hu hv hu0
      have hv8 : v = 0 ∨ v = 1 ∨ v = 2 ∨ v = 3 ∨ v = 4 ∨ v = 5 ∨ v = 6 ∨ v = 7 := by omega
      rcases hv8 with rfl | rfl | rfl | rfl | rfl | rfl | rfl | rfl
      · rw [show u / 2 ^ (0 : Int).toNat = u by simp] at hr
        have ca2_0 : wr.cell? ⟨w.heap.size, 0, none⟩ = some (.int .i64 lv) := (b2.2 0 _ rfl).1
        have fa2_0 : wr.frozen? ⟨w.heap.size, 0, none⟩ = false := (b2.2 0 _ rfl).2
        have ca2_1 : wr.cell? ⟨w.heap.size, 1, none⟩ = some (.slice V n c) := (b2.2 1 _ rfl).1
        have fa2_1 : wr.frozen? ⟨w.heap.size, 1, none⟩ = false := (b2.2 1 _ rfl).2
        have ca2_2 : wr.cell? ⟨w.heap.size, 2, none⟩ = some (.slice (some ⟨b, off, none⟩) m d) := (b2.2 2 _ rfl).1
        have fa2_2 : wr.frozen? ⟨w.heap.size, 2, none⟩ = false := (b2.2 2 _ rfl).2
        have ca2_3 : wr.cell? ⟨w.heap.size, 3, none⟩ = some (.int .i64 sm) := (b2.2 3 _ rfl).1
        have fa2_3 : wr.frozen? ⟨w.heap.size, 3, none⟩ = false := (b2.2 3 _ rfl).2
        by_cases hr0 : r = 0
        · have HF := hid (meB_no HL.out hlt (by rw [HR.out, hr0]; rfl))
          have t2 : (r == 0) = true := by rw [beq_iff_eq]; exact hr0
          clear hr0
          go_wp2_with fail
          clear ca2_0 fa2_0 ca2_1 fa2_1 ca2_2 fa2_2 ca2_3 fa2_3
          go_ret
          exact ⟨ret_bool HF.out.symm, kw⟩
        have HN := hid (show meTo ws zs (k + 1) = true by unfold meTo; rw [HT.out, HR.out]; simpa using hr0)
        have t2 : (r == 0) = false := by rw [beq_eq_false_iff_ne]; exact hr0
        clear hr0
        go_wp2_with fail
        clear ca2_0 fa2_0 ca2_1 fa2_1 ca2_2 fa2_2 ca2_3 fa2_3
        go_roundw
        case rel => exact ⟨k + 1, by omega, by go_num, HN, b2, kw⟩
        case measure => simp [intOf]; omega
      · rw [show u / 2 ^ (1 : Int).toNat = u / 2 by simp] at hr
        have ca2_0 : wr.cell? ⟨w.heap.size, 0, none⟩ = some (.int .i64 lv) := (b2.2 0 _ rfl).1
        have fa2_0 : wr.frozen? ⟨w.heap.size, 0, none⟩ = false := (b2.2 0 _ rfl).2
        have ca2_1 : wr.cell? ⟨w.heap.size, 1, none⟩ = some (.slice V n c) := (b2.2 1 _ rfl).1
        have fa2_1 : wr.frozen? ⟨w.heap.size, 1, none⟩ = false := (b2.2 1 _ rfl).2
        have ca2_2 : wr.cell? ⟨w.heap.size, 2, none⟩ = some (.slice (some ⟨b, off, none⟩) m d) := (b2.2 2 _ rfl).1
        have fa2_2 : wr.frozen? ⟨w.heap.size, 2, none⟩ = false := (b2.2 2 _ rfl).2
        have ca2_3 : wr.cell? ⟨w.heap.size, 3, none⟩ = some (.int .i64 sm) := (b2.2 3 _ rfl).1
        have fa2_3 : wr.frozen? ⟨w.heap.size, 3, none⟩ = false := (b2.2 3 _ rfl).2
        by_cases hr0 : r = 0
        · have HF := hid (meB_no HL.out hlt (by rw [HR.out, hr0]; rfl))
          have t2 : (r == 0) = true := by rw [beq_iff_eq]; exact hr0
          clear hr0
          go_wp2_with fail
          clear ca2_0 fa2_0 ca2_1 fa2_1 ca2_2 fa2_2 ca2_3 fa2_3
          go_ret
          exact ⟨ret_bool HF.out.symm, kw⟩
        have HN := hid (show meTo ws zs (k + 1) = true by unfold meTo; rw [HT.out, HR.out]; simpa using hr0)
        have t2 : (r == 0) = false := by rw [beq_eq_false_iff_ne]; exact hr0
        clear hr0
        go_wp2_with fail
        clear ca2_0 fa2_0 ca2_1 fa2_1 ca2_2 fa2_2 ca2_3 fa2_3
        go_roundw
        case rel => exact ⟨k + 1, by omega, by go_num, HN, b2, kw⟩
        case measure => simp [intOf]; omega
      · rw [show u / 2 ^ (2 : Int).toNat = u / 4 by simp] at hr
        have ca2_0 : wr.cell? ⟨w.heap.size, 0, none⟩ = some (.int .i64 lv) := (b2.2 0 _ rfl).1
        have fa2_0 : wr.frozen? ⟨w.heap.size, 0, none⟩ = false := (b2.2 0 _ rfl).2
        have ca2_1 : wr.cell? ⟨w.heap.size, 1, none⟩ = some (.slice V n c) := (b2.2 1 _ rfl).1
        have fa2_1 : wr.frozen? ⟨w.heap.size, 1, none⟩ = false := (b2.2 1 _ rfl).2
        have ca2_2 : wr.cell? ⟨w.heap.size, 2, none⟩ = some (.slice (some ⟨b, off, none⟩) m d) := (b2.2 2 _ rfl).1
        have fa2_2 : wr.frozen? ⟨w.heap.size, 2, none⟩ = false := (b2.2 2 _ rfl).2
        have ca2_3 : wr.cell? ⟨w.heap.size, 3, none⟩ = some (.int .i64 sm) := (b2.2 3 _ rfl).1
        have fa2_3 : wr.frozen? ⟨w.heap.size, 3, none⟩ = false := (b2.2 3 _ rfl).2
        by_cases hr0 : r = 0
        · have HF := hid (meB_no HL.out hlt (by rw [HR.out, hr0]; rfl))
          have t2 : (r == 0) = true := by rw [beq_iff_eq]; exact hr0
          clear hr0
          go_wp2_with fail
          clear ca2_0 fa2_0 ca2_1 fa2_1 ca2_2 fa2_2 ca2_3 fa2_3
          go_ret
          exact ⟨ret_bool HF.out.symm, kw⟩
        have HN := hid (show meTo ws zs (k + 1) = true by unfold meTo; rw [HT.out, HR.out]; simpa using hr0)
        have t2 : (r == 0) = false := by rw [beq_eq_false_iff_ne]; exact hr0
        clear hr0
        go_wp2_with fail
        clear ca2_0 fa2_0 ca2_1 fa2_1 ca2_2 fa2_2 ca2_3 fa2_3
        go_roundw
        case rel => exact ⟨k + 1, by omega, by go_num, HN, b2, kw⟩
        case measure => simp [intOf]; omega
      · rw [show u / 2 ^ (3 : Int).toNat = u / 8 by simp] at hr
        have ca2_0 : wr.cell? ⟨w.heap.size, 0, none⟩ = some (.int .i64 lv) := (b2.2 0 _ rfl).1
        have fa2_0 : wr.frozen? ⟨w.heap.size, 0, none⟩ = false := (b2.2 0 _ rfl).2
        have ca2_1 : wr.cell? ⟨w.heap.size, 1, none⟩ = some (.slice V n c) := (b2.2 1 _ rfl).1
        have fa2_1 : wr.frozen? ⟨w.heap.size, 1, none⟩ = false := (b2.2 1 _ rfl).2
        have ca2_2 : wr.cell? ⟨w.heap.size, 2, none⟩ = some (.slice (some ⟨b, off, none⟩) m d) := (b2.2 2 _ rfl).1
        have fa2_2 : wr.frozen? ⟨w.heap.size, 2, none⟩ = false := (b2.2 2 _ rfl).2
        have ca2_3 : wr.cell? ⟨w.heap.size, 3, none⟩ = some (.int .i64 sm) := (b2.2 3 _ rfl).1
        have fa2_3 : wr.frozen? ⟨w.heap.size, 3, none⟩ = false := (b2.2 3 _ rfl).2
        by_cases hr0 : r = 0
        · have HF := hid (meB_no HL.out hlt (by rw [HR.out, hr0]; rfl))
          have t2 : (r == 0) = true := by rw [beq_iff_eq]; exact hr0
          clear hr0
          go_wp2_with fail
          clear ca2_0 fa2_0 ca2_1 fa2_1 ca2_2 fa2_2 ca2_3 fa2_3
          go_ret
          exact ⟨ret_bool HF.out.symm, kw⟩
        have HN := hid (show meTo ws zs (k + 1) = true by unfold meTo; rw [HT.out, HR.out]; simpa using hr0)
        have t2 : (r == 0) = false := by rw [beq_eq_false_iff_ne]; exact hr0
        clear hr0
        go_wp2_with fail
        clear ca2_0 fa2_0 ca2_1 fa2_1 ca2_2 fa2_2 ca2_3 fa2_3
        go_roundw
        case rel => exact ⟨k + 1, by omega, by go_num, HN, b2, kw⟩
        case measure => simp [intOf]; omega
      · rw [show u / 2 ^ (4 : Int).toNat = u / 16 by simp] at hr
        have ca2_0 : wr.cell? ⟨w.heap.size, 0, none⟩ = some (.int .i64 lv) := (b2.2 0 _ rfl).1
        have fa2_0 : wr.frozen? ⟨w.heap.size, 0, none⟩ = false := (b2.2 0 _ rfl).2
        have ca2_1 : wr.cell? ⟨w.heap.size, 1, none⟩ = some (.slice V n c) := (b2.2 1 _ rfl).1
        have fa2_1 : wr.frozen? ⟨w.heap.size, 1, none⟩ = false := (b2.2 1 _ rfl).2
        have ca2_2 : wr.cell? ⟨w.heap.size, 2, none⟩ = some (.slice (some ⟨b, off, none⟩) m d) := (b2.2 2 _ rfl).1
        have fa2_2 : wr.frozen? ⟨w.heap.size, 2, none⟩ = false := (b2.2 2 _ rfl).2
        have ca2_3 : wr.cell? ⟨w.heap.size, 3, none⟩ = some (.int .i64 sm) := (b2.2 3 _ rfl).1
        have fa2_3 : wr.frozen? ⟨w.heap.size, 3, none⟩ = false := (b2.2 3 _ rfl).2
        by_cases hr0 : r = 0
        · have HF := hid (meB_no HL.out hlt (by rw [HR.out, hr0]; rfl))
          have t2 : (r == 0) = true := by rw [beq_iff_eq]; exact hr0
          clear hr0
          go_wp2_with fail
          clear ca2_0 fa2_0 ca2_1 fa2_1 ca2_2 fa2_2 ca2_3 fa2_3
          go_ret
          exact ⟨ret_bool HF.out.symm, kw⟩
        have HN := hid (show meTo ws zs (k + 1) = true by unfold meTo; rw [HT.out, HR.out]; simpa using hr0)
        have t2 : (r == 0) = false := by rw [beq_eq_false_iff_ne]; exact hr0
        clear hr0
        go_wp2_with fail
        clear ca2_0 fa2_0 ca2_1 fa2_1 ca2_2 fa2_2 ca2_3 fa2_3
        go_roundw
        case rel => exact ⟨k + 1, by omega, by go_num, HN, b2, kw⟩
        case measure => simp [intOf]; omega
      · rw [show u / 2 ^ (5 : Int).toNat = u / 32 by simp] at hr
        have ca2_0 : wr.cell? ⟨w.heap.size, 0, none⟩ = some (.int .i64 lv) := (b2.2 0 _ rfl).1
        have fa2_0 : wr.frozen? ⟨w.heap.size, 0, none⟩ = false := (b2.2 0 _ rfl).2
        have ca2_1 : wr.cell? ⟨w.heap.size, 1, none⟩ = some (.slice V n c) := (b2.2 1 _ rfl).1
        have fa2_1 : wr.frozen? ⟨w.heap.size, 1, none⟩ = false := (b2.2 1 _ rfl).2
        have ca2_2 : wr.cell? ⟨w.heap.size, 2, none⟩ = some (.slice (some ⟨b, off, none⟩) m d) := (b2.2 2 _ rfl).1
        have fa2_2 : wr.frozen? ⟨w.heap.size, 2, none⟩ = false := (b2.2 2 _ rfl).2
        have ca2_3 : wr.cell? ⟨w.heap.size, 3, none⟩ = some (.int .i64 sm) := (b2.2 3 _ rfl).1
        have fa2_3 : wr.frozen? ⟨w.heap.size, 3, none⟩ = false := (b2.2 3 _ rfl).2
        by_cases hr0 : r = 0
        · have HF := hid (meB_no HL.out hlt (by rw [HR.out, hr0]; rfl))
          have t2 : (r == 0) = true := by rw [beq_iff_eq]; exact hr0
          clear hr0
          go_wp2_with fail
          clear ca2_0 fa2_0 ca2_1 fa2_1 ca2_2 fa2_2 ca2_3 fa2_3
          go_ret
          exact ⟨ret_bool HF.out.symm, kw⟩
        have HN := hid (show meTo ws zs (k + 1) = true by unfold meTo; rw [HT.out, HR.out]; simpa using hr0)
        have t2 : (r == 0) = false := by rw [beq_eq_false_iff_ne]; exact hr0
        clear hr0
        go_wp2_with fail
        clear ca2_0 fa2_0 ca2_1 fa2_1 ca2_2 fa2_2 ca2_3 fa2_3
        go_roundw
        case rel => exact ⟨k + 1, by omega, by go_num, HN, b2, kw⟩
        case measure => simp [intOf]; omega
      · rw [show u / 2 ^ (6 : Int).toNat = u / 64 by simp] at hr
        have ca2_0 : wr.cell? ⟨w.heap.size, 0, none⟩ = some (.int .i64 lv) := (b2.2 0 _ rfl).1
        have fa2_0 : wr.frozen? ⟨w.heap.size, 0, none⟩ = false := (b2.2 0 _ rfl).2
        have ca2_1 : wr.cell? ⟨w.heap.size, 1, none⟩ = some (.slice V n c) := (b2.2 1 _ rfl).1
        have fa2_1 : wr.frozen? ⟨w.heap.size, 1, none⟩ = false := (b2.2 1 _ rfl).2
        have ca2_2 : wr.cell? ⟨w.heap.size, 2, none⟩ = some (.slice (some ⟨b, off, none⟩) m d) := (b2.2 2 _ rfl).1
        have fa2_2 : wr.frozen? ⟨w.heap.size, 2, none⟩ = false := (b2.2 2 _ rfl).2
        have ca2_3 : wr.cell? ⟨w.heap.size, 3, none⟩ = some (.int .i64 sm) := (b2.2 3 _ rfl).1
        have fa2_3 : wr.frozen? ⟨w.heap.size, 3, none⟩ = false := (b2.2 3 _ rfl).2
        by_cases hr0 : r = 0
        · have HF := hid (meB_no HL.out hlt (by rw [HR.out, hr0]; rfl))
          have t2 : (r == 0) = true := by rw [beq_iff_eq]; exact hr0
          clear hr0
          go_wp2_with fail
          clear ca2_0 fa2_0 ca2_1 fa2_1 ca2_2 fa2_2 ca2_3 fa2_3
          go_ret
          exact ⟨ret_bool HF.out.symm, kw⟩
        have HN := hid (show meTo ws zs (k + 1) = true by unfold meTo; rw [HT.out, HR.out]; simpa using hr0)
        have t2 : (r == 0) = false := by rw [beq_eq_false_iff_ne]; exact hr0
        clear hr0
        go_wp2_with fail
        clear ca2_0 fa2_0 ca2_1 fa2_1 ca2_2 fa2_2 ca2_3 fa2_3
        go_roundw
        case rel => exact ⟨k + 1, by omega, by go_num, HN, b2, kw⟩
        case measure => simp [intOf]; omega
      · rw [show u / 2 ^ (7 : Int).toNat = u / 128 by simp] at hr
        have ca2_0 : wr.cell? ⟨w.heap.size, 0, none⟩ = some (.int .i64 lv) := (b2.2 0 _ rfl).1
        have fa2_0 : wr.frozen? ⟨w.heap.size, 0, none⟩ = false := (b2.2 0 _ rfl).2
        have ca2_1 : wr.cell? ⟨w.heap.size, 1, none⟩ = some (.slice V n c) := (b2.2 1 _ rfl).1
        have fa2_1 : wr.frozen? ⟨w.heap.size, 1, none⟩ = false := (b2.2 1 _ rfl).2
        have ca2_2 : wr.cell? ⟨w.heap.size, 2, none⟩ = some (.slice (some ⟨b, off, none⟩) m d) := (b2.2 2 _ rfl).1
        have fa2_2 : wr.frozen? ⟨w.heap.size, 2, none⟩ = false := (b2.2 2 _ rfl).2
        have ca2_3 : wr.cell? ⟨w.heap.size, 3, none⟩ = some (.int .i64 sm) := (b2.2 3 _ rfl).1
        have fa2_3 : wr.frozen? ⟨w.heap.size, 3, none⟩ = false := (b2.2 3 _ rfl).2
        by_cases hr0 : r = 0
        · have HF := hid (meB_no HL.out hlt (by rw [HR.out, hr0]; rfl))
          have t2 : (r == 0) = true := by rw [beq_iff_eq]; exact hr0
          clear hr0
          go_wp2_with fail
          clear ca2_0 fa2_0 ca2_1 fa2_1 ca2_2 fa2_2 ca2_3 fa2_3
          go_ret
          exact ⟨ret_bool HF.out.symm, kw⟩
        have HN := hid (show meTo ws zs (k + 1) = true by unfold meTo; rw [HT.out, HR.out]; simpa using hr0)
        have t2 : (r == 0) = false := by rw [beq_eq_false_iff_ne]; exact hr0
        clear hr0
        go_wp2_with fail
        clear ca2_0 fa2_0 ca2_1 fa2_1 ca2_2 fa2_2 ca2_3 fa2_3
        go_roundw
        case rel => exact ⟨k + 1, by omega, by go_num, HN, b2, kw⟩
        case measure => simp [intOf]; omega
    · obtain rfl : k = m := by omega
      have HX := hid (meB_yes HL.out HT.out)
      go_wp2
      go_ret
      exact ⟨ret_bool HX.out.symm, kw⟩
set_option maxRecDepth 100000 in
set_option maxHeartbeats 3200000 in
theorem ancestorAt_any {A : Option Addr} {lo hi n c i : Nat} {ps : List Int} {lv : Int} {w : World} (h : Ints w lo hi A n ps) (ht : Tree ps) (hin : i < n) :
    Calls Tryz.prog 193 #[.agg #[.slice A n c], .int .i64 (i : Int), .int .i64 lv] w fun e w' => e = .returned (.int .i64 (gupI ps i lv)) ∧ Keeps w w' := by
  have hn := h.le
  have hl := h.1
  have HT := hid ht
  have HU := hid (fun k => upK_dep ht (i := i) (by omega) k)
  have hdl := dep_le ht i (by omega)
  clear ht
  go_enter Tryz.func193, Tryz.ntmps193
  have kw := keeps_refl w
  replace kw := Keeps.trans kw (keeps_alloc w (.cells #[.slice A n c] 26))
  have b3 : B1 (w.alloc (.cells #[.slice A n c] 26)) w.heap.size (.slice A n c) := B1.new' (by simp)
  obtain ⟨ca1, fa1⟩ := id b3
  go_wp2_with fail
  clear ca1 fa1
  refine (depthOf_any (h.keeps kw) HT.out hin).mono ?_
  rintro e w2 ⟨rfl, k2⟩
  replace b3 := b3.keeps k2
  replace kw := Keeps.trans kw k2
  have lt3 := b3.lt
  have sz4 := kw.size
  clear k2
  by_cases h0 : lv < 0
  · have HX := hid (gup_neg (ps := ps) (i := i) h0)
    go_wp2_with fail
    go_ret
    exact ⟨ret_int HX.out.symm, kw⟩
  obtain ⟨L, rfl⟩ : ∃ L : Nat, lv = (L : Int) := ⟨lv.toNat, by omega⟩
  obtain ⟨D, hD⟩ : ∃ D, dep ps i = D := ⟨_, rfl⟩
  rw [hD] at hdl HU
  rw [hD]
  have HD := hid hD
  clear hD h0
  have hL0 : ¬ (L : Int) < 0 := by omega
  by_cases hd : (D : Int) < (L : Int)
  · have HX := hid (gup_deep (ps := ps) (i := i) (lv := (L : Int)) (by omega) (by have := HD.out; omega))
    go_wp2_with fail
    go_ret
    exact ⟨ret_int HX.out.symm, kw⟩
  go_wp2_with fail
  go_loopw [1, 7] (fun a b wr => ∃ j : Nat, j ≤ D - L ∧ j ≤ D ∧ a = .int .i64 (upK ps i j : Nat) ∧ b = .int .i64 ((D - j : Nat) : Int) ∧ B1 wr w.heap.size (.slice A n c) ∧ Keeps w wr) (fun _ b _ => (intOf b).toNat)
  case atStart => exact ⟨0, Nat.zero_le _, Nat.zero_le _, rfl, rfl, b3, kw⟩
  clear b3 kw
  case round =>
    obtain ⟨j, hj, hjD, rfl, rfl, b3, kw⟩ := hrel
    have hu := HU.out j hjD
    obtain ⟨K, hK⟩ : ∃ K, upK ps i j = K := ⟨_, rfl⟩
    rw [hK] at hu
    rw [hK]
    have HK := hid hK
    clear hK
    by_cases hlt : L < D - j
    · obtain ⟨b, off, x, rfl, _, _, hx0, hx⟩ := (h.keeps kw).at_ (k := K) (by omega)
      have hK0 : 0 < K := by
        rcases Nat.eq_zero_or_pos K with e | e
        · rw [e, dep_zero] at hu; omega
        · exact e
      have hp := HT.out.2 K (by omega) hK0
      rw [← hx.out] at hp
      obtain ⟨m, rfl⟩ : ∃ m : Nat, x = (m : Int) := ⟨x.toNat, by omega⟩
      have HN := hid (show upK ps i (j + 1) = m by show (ps.getD (upK ps i j) 0).toNat = m; rw [HK.out, ← hx.out]; rfl)
      have hj1 : (K : Int) < (n : Int) := by omega
      have hj2 : (L : Int) < ((D - j : Nat) : Int) := by omega
      obtain ⟨E, hE⟩ : ∃ E, D - j = E := ⟨_, rfl⟩
      have HEE := hid hE
      rw [hE] at hj2 hlt ⊢
      have hE9 : E ≤ 67108864 := by omega
      have hE1 : 1 ≤ E := by omega
      clear hE hx hp hu
      obtain ⟨ca3, fa3⟩ := id b3
      go_wp2_with fail
      clear ca3 fa3
      go_roundw
      case rel => exact ⟨j + 1, by have := HEE.out; omega, by have := HEE.out; omega, by rw [HN.out], by congr 1; have := HEE.out; omega, b3, kw⟩
      case measure => simp [intOf]; omega
    · have hj2 : ¬ (L : Int) < ((D - j : Nat) : Int) := by omega
      obtain ⟨E, hE⟩ : ∃ E, D - j = E := ⟨_, rfl⟩
      have HEE := hid hE
      rw [hE] at hj2 ⊢
      have hE9 : E ≤ 67108864 := by omega
      have HX := hid (gup_at (ps := ps) (i := i) (lv := (L : Int)) (by omega) (by have := HD.out; omega))
      have HX2 := hid (show gupI ps i (L : Int) = (K : Int) by rw [HX.out, HD.out, Int.toNat_natCast, show D - L = j by omega, HK.out])
      clear hE
      go_wp2
      go_ret
      exact ⟨ret_int HX2.out.symm, kw⟩
theorem lev_inc (ps : List Int) (lv : Int) {i j : Nat} (h : i < j) (hj : j < (lev ps lv).length) : (lev ps lv).getD i 0 < (lev ps lv).getD j 0 := by
  have hp : (lev ps lv).Pairwise (· < ·) := by
    unfold lev levTo
    refine List.Pairwise.map _ (fun a b h => Int.ofNat_lt.2 h) ?_
    exact List.Pairwise.filter _ (List.pairwise_lt_range)
  have := List.pairwise_iff_getElem.1 hp i j (by omega) hj h
  simpa [List.getD, hj, show i < (lev ps lv).length by omega] using this
theorem lev_up {ps : List Int} (ht : Tree ps) {i : Nat} {lv : Int} (hi : i < ps.length) (h : 0 ≤ gupI ps i lv) (h0 : 0 ≤ lv) : gupI ps i lv ∈ lev ps lv := by
  have h1 := (gup_ge (ps := ps) (i := i) h0).1 h
  rw [gup_at (by omega) (by omega)]
  have h2 := upK_dep ht hi (dep ps i - lv.toNat) (by omega)
  unfold lev levTo
  refine List.mem_map.2 ⟨_, List.mem_filter.2 ⟨List.mem_range.2 h2.1, ?_⟩, rfl⟩
  unfold isAt
  rw [beq_iff_eq]; omega
theorem bs_end {xs : List Int} {n lo : Nat} {v : Int} (hl : xs.length = n) (hm : v ∈ xs) (hs : ∀ i j, i < j → j < n → xs.getD i 0 < xs.getD j 0) (h1 : ∀ t, t < lo → xs.getD t 0 < v) (h2 : ∀ t, lo ≤ t → t < n → v ≤ xs.getD t 0) : lo = posN xs v ∧ lo < n ∧ xs.getD lo 0 = v := by
  have p1 := posN_lt hm
  have p2 := posN_at hm
  have q1 : ¬ posN xs v < lo := fun h => by have := h1 _ h; omega
  have q2 : ¬ lo < posN xs v := fun h => by have := hs lo (posN xs v) h (by omega); have := h2 lo (Nat.le_refl _) (by omega); omega
  have e : lo = posN xs v := by omega
  subst e
  exact ⟨rfl, by omega, p2⟩
theorem isNaNcI_any (x : Int) (w : World) : Calls Tryz.prog 210 #[.int .i64 x] w fun e w' => e = .returned (.bool false) ∧ w' = w := by
  go_enter Tryz.func210, Tryz.ntmps210
  go_wp2
  go_ret
  exact ⟨by simp, rfl⟩
theorem isNaNsI_any (x : Int) (w : World) : Calls Tryz.prog 209 #[.int .i64 x] w fun e w' => e = .returned (.bool false) ∧ w' = w := by
  go_enter Tryz.func209, Tryz.ntmps209
  go_wp2
  go_ret
  exact ⟨by simp, rfl⟩
theorem lessI_any (x y : Int) (w : World) : Calls Tryz.prog 208 #[.int .i64 x, .int .i64 y] w fun e w' => e = .returned (.bool (decide (x < y))) ∧ w' = w := by
  go_enter Tryz.func208, Tryz.ntmps208
  go_wp2_with (go_at_call 210; refine (isNaNcI_any _ _).mono ?_; rintro e w' ⟨rfl, rfl⟩)
  go_ret
  exact ⟨rfl, rfl⟩
set_option maxHeartbeats 4000000 in
set_option maxRecDepth 1000000 in
theorem binSearch_any {A : Option Addr} {lo9 hi9 n c : Nat} {xs : List Int} {v : Int} {w : World} (h : Ints w lo9 hi9 A n xs) (hm : v ∈ xs) (hs : ∀ i j, i < j → j < n → xs.getD i 0 < xs.getD j 0) :
    Calls Tryz.prog 204 #[.slice A n c, .int .i64 v] w fun e w' => e = .returned (.tuple #[.int .i64 (posN xs v : Nat), .bool true]) ∧ w = w' := by
  have hn := h.le
  have S := hid hs
  have HE := hid (fun lo => bs_end (lo := lo) h.1 hm hs)
  clear hs
  go_enter Tryz.func204, Tryz.ntmps204
  go_wp2
  go_loopg [7, 8] n (fun g s7 s8 wr => ∃ lo hi : Nat, s7 = .int .i64 lo ∧ s8 = .int .i64 hi ∧ lo ≤ hi ∧ hi ≤ n ∧ hi - lo ≤ g ∧ wr = w ∧ Hid ((∀ t, t < lo → xs.getD t 0 < v) ∧ (∀ t, hi ≤ t → t < n → v ≤ xs.getD t 0)))
  case atStart => exact ⟨0, n, rfl, rfl, Nat.zero_le _, Nat.le_refl _, by omega, rfl, hid ⟨fun t ht => absurd ht (Nat.not_lt_zero _), fun t h1 h2 => by omega⟩⟩
  case round =>
    obtain ⟨lo, hi, rfl, rfl, hlh, hin, hg, rfl, I⟩ := hrel
    by_cases hlt : lo < hi
    · obtain ⟨b, off, y, rfl, _, _, cm, hy⟩ := h.at_ (k := (lo + hi) / 2) (by omega)
      by_cases hyx : y < v
      · go_wp2_with (first | (go_at_call 208; refine (lessI_any _ _ _).mono ?_; rintro e w' ⟨rfl, rfl⟩) | (go_at_call 209; refine (isNaNsI_any _ _).mono ?_; rintro e w' ⟨rfl, rfl⟩))
        go_roundg (hi - ((lo + hi) / 2 + 1))
        case measure => omega
        case rel =>
          refine ⟨(lo + hi) / 2 + 1, hi, by rw [show ((lo : Int) + (hi : Int)) / 2 + 1 = (((lo + hi) / 2 + 1 : Nat) : Int) by omega], rfl, by omega, hin, Nat.le_refl _, rfl, hid ⟨fun t ht => ?_, I.out.2⟩⟩
          rcases Nat.lt_or_ge t ((lo + hi) / 2) with q | q
          · have := S.out t ((lo + hi) / 2) q (by omega); have := hy.out; omega
          · obtain rfl : t = (lo + hi) / 2 := by omega
            have := hy.out; omega
      · go_wp2_with (first | (go_at_call 208; refine (lessI_any _ _ _).mono ?_; rintro e w' ⟨rfl, rfl⟩) | (go_at_call 209; refine (isNaNsI_any _ _).mono ?_; rintro e w' ⟨rfl, rfl⟩))
        go_roundg ((lo + hi) / 2 - lo)
        case measure => omega
        case rel =>
          refine ⟨lo, (lo + hi) / 2, rfl, by rw [show ((lo : Int) + (hi : Int)) / 2 = (((lo + hi) / 2 : Nat) : Int) by omega], by omega, by omega, Nat.le_refl _, rfl, hid ⟨I.out.1, fun t ht htn => ?_⟩⟩
          rcases Nat.lt_or_ge ((lo + hi) / 2) t with q | q
          · have := S.out ((lo + hi) / 2) t q htn; have := hy.out; omega
          · obtain rfl : t = (lo + hi) / 2 := by omega
            have := hy.out; omega
    · have : hi = lo := by omega
      subst this
      obtain ⟨e1, e2, e3⟩ := HE.out hi I.out.1 I.out.2
      obtain ⟨b, off, y, rfl, _, _, cm, hy⟩ := h.at_ (k := hi) e2
      have hyx : y = v := by rw [hy.out, e3]
      have t1 : (y == v) = true := by rw [beq_iff_eq]; exact hyx
      have E1 := hid e1
      have e2' : (hi : Int) < (n : Int) := by omega
      clear e1 e3 hy hyx
      go_wp2_with (first | (go_at_call 208; refine (lessI_any _ _ _).mono ?_; rintro e w' ⟨rfl, rfl⟩) | (go_at_call 209; refine (isNaNsI_any _ _).mono ?_; rintro e w' ⟨rfl, rfl⟩))
      go_ret2
      exact ⟨by rw [← E1.out]; first | rfl | (simp [*]), rfl⟩
/-- The cell of an area and the values of the variables. -/
def ciI (ps : List Int) (l : List VV) (lv : Int) (vs : List Int) (a : Int) (ys : List Int) : Int := (posN (lev ps lv) a : Int) * prodTo (partL l vs) vs.length + ixTo (partL l vs) ys vs.length
theorem ciI_bd {ps : List Int} {l : List VV} {t : TT} {a : Int} {ys : List Int} {q : Nat} (hl : l.length = q) (hs : schB l = true) (hv : vsB q t.2.1 = true) (hf : fitB (partL l t.2.1) ys = true) (hm : a ∈ lev ps t.1) : 0 ≤ ciI ps l t.1 t.2.1 a ys ∧ ciI ps l t.1 t.2.1 a ys < tabN ps l t := by
  have h1 := partL_lv (schB_lv hl hs).1 hv
  have h2 := ixTo_bd (l := partL l t.2.1) hf (by rw [partL_len]; exact h1) t.2.1.length (by rw [partL_len]; exact Nat.le_refl _)
  have h3 := posN_lt hm
  have h4 := prodTo_bd h1 t.2.1.length (Nat.le_refl _)
  unfold ciI tabN
  have h5 := Int.mul_le_mul_of_nonneg_right (show ((posN (lev ps t.1) a : Int) + 1) ≤ ((lev ps t.1).length : Int) by omega) (show 0 ≤ prodTo (partL l t.2.1) t.2.1.length by omega)
  rw [Int.add_mul, Int.one_mul] at h5
  have h6 := Int.mul_nonneg (show 0 ≤ (posN (lev ps t.1) a : Int) by omega) (show 0 ≤ prodTo (partL l t.2.1) t.2.1.length by omega)
  omega
/-- The parts of a list of variables that the walks ask for. -/
theorem part_sch {w : World} {A : Option Addr} {n C : Nat} {l : List VV} {vs : List Int} {lo hi : Nat} (m : VarsM w lo hi A n (partL l vs)) (hk : NamesOk l) (hc : n ≤ C) (hC : C ≤ maxLen) : Sch w A n C (partL l vs) := ⟨⟨lo, hi, m.1⟩, partL_names hk, hc, hC⟩
set_option maxRecDepth 100000 in
set_option maxHeartbeats 6400000 in
theorem cellIndex_any {A A' V H B : Option Addr} {lo hi a c0 lo' hi' lo2 hi2 n c m d q e z cz : Nat} {ps vs ys : List Int} {l : List VV} {lv sm x : Int} {w : World} (h : Ints w lo hi A a ps) (h' : Sch w A' q e l) (hV : Ints w lo' hi' V n vs) (hz : Ints w lo2 hi2 B z ys) (hg : geoB ps = true) (hs : schB l = true) (hvs : vsB q vs = true) (hf : fitB (partL l vs) ys = true) (hm : x ∈ lev ps lv) :
    Calls Tryz.prog 195 #[.agg #[.slice A a c0], .slice A' q e, .agg #[.int .i64 lv, .slice V n c, .slice H m d, .int .i64 sm], .int .i64 x, .slice B z cz] w fun e w' => e = .returned (.int .i64 (ciI ps l lv vs x ys)) ∧ Keeps w w' := by
  obtain ⟨lo9, hi9, hv9⟩ := h'.v
  have hl := Vars.len hv9
  have hnl := hV.1
  obtain ⟨hlv, -, h6⟩ := schB_lv hl hs
  have hn6 : n ≤ 6 := by have := vsB_len hvs; omega
  have hPV0 := partL_lv hlv hvs
  have hix := ixTo_bd (l := partL l vs) hf (by rw [partL_len]; exact hPV0) vs.length (by rw [partL_len]; exact Nat.le_refl _)
  have hpb := prodTo_bd hPV0 vs.length (Nat.le_refl _)
  rw [hnl] at hPV0 hix hpb
  have HPV := hid hPV0
  have HN := hid (show ciI ps l lv vs x ys = (posN (lev ps lv) x : Int) * prodTo (partL l vs) n + ixTo (partL l vs) ys n by unfold ciI; rw [hnl])
  have HT := hid (tree_of hg)
  have HV := hid hvs
  have HF := hid hf
  have HM := hid hm
  have HNK := hid h'.ok
  have hp := posN_lt hm
  have hl30 := lev_len ps lv
  have hg30 := (geoB_true.1 hg).1
  have h86 := pow8 (k := n) hn6
  obtain ⟨L, hL⟩ : ∃ L, (lev ps lv).length = L := ⟨_, rfl⟩
  obtain ⟨P, hP⟩ : ∃ P, prodTo (partL l vs) n = P := ⟨_, rfl⟩
  obtain ⟨X, hX⟩ : ∃ X, ixTo (partL l vs) ys n = X := ⟨_, rfl⟩
  obtain ⟨J, hJ⟩ : ∃ J, posN (lev ps lv) x = J := ⟨_, rfl⟩
  rw [hP, hX] at hix
  rw [hP] at hpb
  rw [hJ, hL] at hp
  rw [hL] at hl30
  rw [hJ, hP, hX] at HN
  have HLL := hid hL
  have HPP := hid hP
  have HXX := hid hX
  have HJJ := hid hJ
  have hJ30 : J < 30 := by omega
  have hP1 : 1 ≤ P := hpb.1
  have hP2 : P ≤ 262144 := by omega
  have hX0 : 0 ≤ X := hix.1
  have hX1 : X ≤ 262144 := by omega
  have hJP := Int.mul_nonneg (show 0 ≤ (J : Int) by omega) (show 0 ≤ P by omega)
  have hJP2 := Int.mul_le_mul (show (J : Int) ≤ 30 by omega) hP2 (show 0 ≤ P by omega) (by omega)
  have hJP3 : (J : Int) * P ≤ 7864320 := by omega
  have HS := hid (fun i j (h1 : i < j) (h2 : j < (lev ps lv).length) => lev_inc ps lv h1 h2)
  clear hl hnl hlv hg hs hvs hf hm h6 hPV0 hix hpb hp hl30 hg30 h86 hL hP hX hJ hJP2
  go_enter Tryz.func195, Tryz.ntmps195
  have kw := keeps_refl w
  replace kw := Keeps.trans kw (keeps_alloc w (.cells #[.slice A a c0] 26))
  have b5 : B1 (w.alloc (.cells #[.slice A a c0] 26)) w.heap.size (.slice A a c0) := B1.new' (by simp)
  replace b5 := b5.keeps (keeps_alloc (w.alloc (.cells #[.slice A a c0] 26)) (.cells #[.int .i64 lv, .slice V n c, .slice H m d, .int .i64 sm] 120))
  replace kw := Keeps.trans kw (keeps_alloc (w.alloc (.cells #[.slice A a c0] 26)) (.cells #[.int .i64 lv, .slice V n c, .slice H m d, .int .i64 sm] 120))
  have b7 : Bl ((w.alloc (.cells #[.slice A a c0] 26)).alloc (.cells #[.int .i64 lv, .slice V n c, .slice H m d, .int .i64 sm] 120)) (w.heap.size + 1) [.int .i64 lv, .slice V n c, .slice H m d, .int .i64 sm] := Bl.new' (by simp) (by simp)
  obtain ⟨ca1, fa1⟩ := id b5
  have ca2_0 : ((w.alloc (.cells #[.slice A a c0] 26)).alloc (.cells #[.int .i64 lv, .slice V n c, .slice H m d, .int .i64 sm] 120)).cell? ⟨w.heap.size + 1, 0, none⟩ = some (.int .i64 lv) := (b7.2 0 _ rfl).1
  have fa2_0 : ((w.alloc (.cells #[.slice A a c0] 26)).alloc (.cells #[.int .i64 lv, .slice V n c, .slice H m d, .int .i64 sm] 120)).frozen? ⟨w.heap.size + 1, 0, none⟩ = false := (b7.2 0 _ rfl).2
  have ca2_1 : ((w.alloc (.cells #[.slice A a c0] 26)).alloc (.cells #[.int .i64 lv, .slice V n c, .slice H m d, .int .i64 sm] 120)).cell? ⟨w.heap.size + 1, 1, none⟩ = some (.slice V n c) := (b7.2 1 _ rfl).1
  have fa2_1 : ((w.alloc (.cells #[.slice A a c0] 26)).alloc (.cells #[.int .i64 lv, .slice V n c, .slice H m d, .int .i64 sm] 120)).frozen? ⟨w.heap.size + 1, 1, none⟩ = false := (b7.2 1 _ rfl).2
  have ca2_2 : ((w.alloc (.cells #[.slice A a c0] 26)).alloc (.cells #[.int .i64 lv, .slice V n c, .slice H m d, .int .i64 sm] 120)).cell? ⟨w.heap.size + 1, 2, none⟩ = some (.slice H m d) := (b7.2 2 _ rfl).1
  have fa2_2 : ((w.alloc (.cells #[.slice A a c0] 26)).alloc (.cells #[.int .i64 lv, .slice V n c, .slice H m d, .int .i64 sm] 120)).frozen? ⟨w.heap.size + 1, 2, none⟩ = false := (b7.2 2 _ rfl).2
  have ca2_3 : ((w.alloc (.cells #[.slice A a c0] 26)).alloc (.cells #[.int .i64 lv, .slice V n c, .slice H m d, .int .i64 sm] 120)).cell? ⟨w.heap.size + 1, 3, none⟩ = some (.int .i64 sm) := (b7.2 3 _ rfl).1
  have fa2_3 : ((w.alloc (.cells #[.slice A a c0] 26)).alloc (.cells #[.int .i64 lv, .slice V n c, .slice H m d, .int .i64 sm] 120)).frozen? ⟨w.heap.size + 1, 3, none⟩ = false := (b7.2 3 _ rfl).2
  go_wp2_with fail
  clear ca1 fa1 ca2_0 fa2_0 ca2_1 fa2_1 ca2_2 fa2_2 ca2_3 fa2_3
  refine (areasAt_any (lv := lv) (h.keeps kw) HT.out).mono ?_
  rintro e w3 ⟨LA, LC, rfl, mL, k3⟩
  replace b5 := b5.keeps k3
  replace b7 := b7.keeps k3
  replace kw := Keeps.trans kw k3
  have lt4 := b7.lt
  have sz5 := kw.size
  clear k3
  have mLi := mL.1
  clear mL
  obtain ⟨ca6, fa6⟩ := id b5
  have ca7_0 : w3.cell? ⟨w.heap.size + 1, 0, none⟩ = some (.int .i64 lv) := (b7.2 0 _ rfl).1
  have fa7_0 : w3.frozen? ⟨w.heap.size + 1, 0, none⟩ = false := (b7.2 0 _ rfl).2
  have ca7_1 : w3.cell? ⟨w.heap.size + 1, 1, none⟩ = some (.slice V n c) := (b7.2 1 _ rfl).1
  have fa7_1 : w3.frozen? ⟨w.heap.size + 1, 1, none⟩ = false := (b7.2 1 _ rfl).2
  have ca7_2 : w3.cell? ⟨w.heap.size + 1, 2, none⟩ = some (.slice H m d) := (b7.2 2 _ rfl).1
  have fa7_2 : w3.frozen? ⟨w.heap.size + 1, 2, none⟩ = false := (b7.2 2 _ rfl).2
  have ca7_3 : w3.cell? ⟨w.heap.size + 1, 3, none⟩ = some (.int .i64 sm) := (b7.2 3 _ rfl).1
  have fa7_3 : w3.frozen? ⟨w.heap.size + 1, 3, none⟩ = false := (b7.2 3 _ rfl).2
  go_wp2_with fail
  clear ca6 fa6 ca7_0 fa7_0 ca7_1 fa7_1 ca7_2 fa7_2 ca7_3 fa7_3
  refine (binSearch_any mLi HM.out HS.out).mono ?_
  rintro e w2 ⟨rfl, rfl⟩
  rw [HJJ.out]
  clear mLi
  obtain ⟨ca8, fa8⟩ := id b5
  have ca9_0 : w3.cell? ⟨w.heap.size + 1, 0, none⟩ = some (.int .i64 lv) := (b7.2 0 _ rfl).1
  have fa9_0 : w3.frozen? ⟨w.heap.size + 1, 0, none⟩ = false := (b7.2 0 _ rfl).2
  have ca9_1 : w3.cell? ⟨w.heap.size + 1, 1, none⟩ = some (.slice V n c) := (b7.2 1 _ rfl).1
  have fa9_1 : w3.frozen? ⟨w.heap.size + 1, 1, none⟩ = false := (b7.2 1 _ rfl).2
  have ca9_2 : w3.cell? ⟨w.heap.size + 1, 2, none⟩ = some (.slice H m d) := (b7.2 2 _ rfl).1
  have fa9_2 : w3.frozen? ⟨w.heap.size + 1, 2, none⟩ = false := (b7.2 2 _ rfl).2
  have ca9_3 : w3.cell? ⟨w.heap.size + 1, 3, none⟩ = some (.int .i64 sm) := (b7.2 3 _ rfl).1
  have fa9_3 : w3.frozen? ⟨w.heap.size + 1, 3, none⟩ = false := (b7.2 3 _ rfl).2
  go_wp2_with fail
  clear ca8 fa8 ca9_0 fa9_0 ca9_1 fa9_1 ca9_2 fa9_2 ca9_3 fa9_3
  refine (crossed_any (c := c) (d := d) (lv := lv) (sm := sm) (H := H) (m := m) (hV.keeps kw) (h'.keeps kw) HV.out).mono ?_
  rintro e w10 ⟨PA, PC, rfl, mP, hC1, hC2, k10⟩
  replace b5 := b5.keeps k10
  replace b7 := b7.keeps k10
  replace kw := Keeps.trans kw k10
  have lt11 := b7.lt
  have sz12 := kw.size
  clear k10
  have hSP := part_sch mP HNK.out hC1 hC2
  clear mP
  go_wp2_with fail
  obtain ⟨l9, u9, hv8⟩ := id hSP.v
  refine (combinations_any hv8 HPV.out hn6).mono ?_
  rintro e w13 ⟨rfl, k13⟩
  rw [HPP.out]
  replace b5 := b5.keeps k13
  replace b7 := b7.keeps k13
  replace hSP := hSP.keeps k13
  replace kw := Keeps.trans kw k13
  have lt14 := b7.lt
  have sz15 := kw.size
  clear k13
  clear hv8
  go_wp2_with fail
  refine (indexOfValues_any (hz.keeps kw) hSP HF.out HPV.out hn6).mono ?_
  rintro e w16 ⟨rfl, k16⟩
  rw [HXX.out]
  replace b5 := b5.keeps k16
  replace b7 := b7.keeps k16
  replace hSP := hSP.keeps k16
  replace kw := Keeps.trans kw k16
  have lt17 := b7.lt
  have sz18 := kw.size
  clear k16
  go_wp2_with fail
  go_ret
  exact ⟨ret_int HN.out.symm, kw⟩
/-- The amount of a record. -/
def ceA (t : TT) (zs : List Int) : Int := if t.2.2.2 < 0 then 1 else zs.getD t.2.2.2.toNat 0
/-- The cell and the amount of a record of an area. -/
def ceQ (ps : List Int) (l : List VV) (t : TT) (i : Nat) (zs : List Int) : Int × Int :=
  if 0 ≤ gupI ps i t.1 ∧ meB t.2.2.1 zs = true then (ciI ps l t.1 t.2.1 (gupI ps i t.1) (pickL zs t.2.1), ceA t zs) else (-1, 0)
theorem ceQ_no1 {ps : List Int} {l : List VV} {t : TT} {i : Nat} {zs : List Int} (h : gupI ps i t.1 < 0) : ceQ ps l t i zs = (-1, 0) := if_neg fun e => by have := e.1; omega
theorem ceQ_no2 {ps : List Int} {l : List VV} {t : TT} {i : Nat} {zs : List Int} (h : meB t.2.2.1 zs = false) : ceQ ps l t i zs = (-1, 0) := if_neg fun e => by rw [h] at e; cases e.2
theorem ceQ_yes {ps : List Int} {l : List VV} {t : TT} {i : Nat} {zs : List Int} (h : ¬ gupI ps i t.1 < 0) (h2 : meB t.2.2.1 zs = true) : ceQ ps l t i zs = (ciI ps l t.1 t.2.1 (gupI ps i t.1) (pickL zs t.2.1), ceA t zs) := if_pos ⟨by omega, h2⟩
theorem ceQ_bd {ps : List Int} {l : List VV} {t : TT} {i : Nat} {zs : List Int} (hg : geoB ps = true) (hs : schB l = true) (ht : tabB ps l t = true) (hf : fitB l zs = true) (hi : i < ps.length) :
    (-1 ≤ (ceQ ps l t i zs).1 ∧ (ceQ ps l t i zs).1 < tabN ps l t) ∧ 0 ≤ (ceQ ps l t i zs).2 ∧ (ceQ ps l t i zs).2 ≤ 7 := by
  obtain ⟨h1, h2, h3, h4, h5⟩ := tabB_parts ht
  have h0 := tab_lv ht
  by_cases hn : gupI ps i t.1 < 0
  · rw [ceQ_no1 hn]; simp; omega
  cases hw : meB t.2.2.1 zs with
  | false => rw [ceQ_no2 hw]; simp; omega
  | true =>
    rw [ceQ_yes hn hw]
    have hm := lev_up (tree_of hg) hi (by omega) h0
    have hb := ciI_bd (ps := ps) (t := t) (a := gupI ps i t.1) rfl hs h1 (partL_fit hf h1) hm
    refine ⟨⟨by omega, hb.2⟩, ?_⟩
    show 0 ≤ ceA t zs ∧ ceA t zs ≤ 7
    unfold ceA
    split
    · omega
    · have h6 := fitB_row hf (k := t.2.2.2.toNat) (by omega)
      have h7 := (schB_lv rfl hs).1 t.2.2.2.toNat (by omega)
      omega
set_option maxRecDepth 100000 in
set_option maxHeartbeats 12800000 in
theorem contribution_any {A A' V H B : Option Addr} {lo hi a c0 lo' hi' lo2 hi2 lo3 hi3 n c m d q e z cz i : Nat} {ps vs ws zs : List Int} {l : List VV} {lv sm y : Int} {w : World} (h : Ints w lo hi A a ps) (h' : Sch w A' q e l) (hV : Ints w lo' hi' V n vs) (hH : Ints w lo2 hi2 H m ws) (hz : Ints w lo3 hi3 B z zs) (hg : geoB ps = true) (hs : schB l = true) (ht : tabB ps l (lv, vs, ws, sm) = true) (hf : fitB l zs = true) (hi_ : i < a) :
    Calls Tryz.prog 170 #[.agg #[.slice A a c0], .slice A' q e, .agg #[.int .i64 lv, .slice V n c, .slice H m d, .int .i64 sm], .agg #[.int .i64 (i : Int), .int .i64 y, .slice B z cz]] w fun e w' => e = .returned (.tuple #[.int .i64 (ceQ ps l (lv, vs, ws, sm) i zs).1, .int .i64 (ceQ ps l (lv, vs, ws, sm) i zs).2]) ∧ Keeps w w' := by
  obtain ⟨lo9, hi9, hv9⟩ := h'.v
  have hl := Vars.len hv9
  have hq := hv9.le
  have hnl := hV.1
  obtain ⟨t1_, t2_, t3_, t4_, t5_⟩ := tabB_parts ht
  have HLV := hid (tab_lv ht)
  have hzl : z = q := by have h1 := (fitB_row hf (k := 0) (by have := (schB_lv hl hs).2.1; omega)).1; have h2 := hz.1; omega
  have hmq : m = q := by have h1 : ws.length = l.length := (whB_at t2_ (k := 0) (by have := (schB_lv hl hs).2.1; omega)).1; have h2 := hH.1; omega
  have HSM := hid t3_
  have hsm1 := t3_.1
  have hsm2 : sm ≤ (q : Int) - 1 := by have := t3_.2; simp only [hl] at this; exact this
  obtain ⟨hlv, h1_, h6⟩ := schB_lv hl hs
  have hvs : vsB q vs = true := by have := t1_; simp only [hl] at this; exact this
  have HVS := hid hvs
  have hn6 : n ≤ 6 := by have := vsB_len hvs; omega
  have HZB := hid (fun k (hk : k < z) => (show 0 ≤ zs.getD k 0 ∧ zs.getD k 0 ≤ 7 by
    have h1 := fitB_row hf (k := k) (by omega)
    have h2 := hlv k (by omega)
    omega))
  have HPF := hid (partL_fit hf (by rw [hl]; exact hvs))
  have HG := hid hg
  have HS := hid hs
  have HT := hid (tree_of hg)
  have HPL := hid h.1
  have HVA := hid (fun k (hk : k < n) => vsB_at hvs (k := k) (by rw [hnl]; exact hk))
  have HC1 := hid (fun h => ceQ_no1 (l := l) (t := (lv, vs, ws, sm)) (zs := zs) (i := i) (ps := ps) h)
  have HC2 := hid (fun h => ceQ_no2 (ps := ps) (l := l) (t := (lv, vs, ws, sm)) (i := i) (zs := zs) h)
  have HC3 := hid (fun h h2 => ceQ_yes (ps := ps) (l := l) (t := (lv, vs, ws, sm)) (i := i) (zs := zs) h h2)
  have HBD := hid (ceQ_bd (i := i) hg hs ht hf (by rw [h.1]; exact hi_))
  have HPK := hid (pickL_len zs vs)
  have HPT := hid (fun k (hk : k < vs.length) => pickL_at zs vs hk)
  have HNL := hid hnl
  have HLI := hid (fun (hh : 0 ≤ gupI ps i lv) => lev_up (tree_of hg) (i := i) (by rw [h.1]; exact hi_) hh (tab_lv ht))
  have hmz : m ≤ z := by omega
  have hqz : q ≤ z := by omega
  have hzq : z ≤ q := by omega
  clear hl hnl t1_ t2_ t3_ t4_ t5_ hlv h1_ h6 hvs hg hs ht hf hzl hmq
  obtain ⟨cx, cy, HQ⟩ : ∃ cx cy, Hid (ceQ ps l (lv, vs, ws, sm) i zs = (cx, cy)) := ⟨_, _, rfl⟩
  rw [HQ.out]
  obtain ⟨u, HU⟩ : ∃ u, Hid (gupI ps i lv = u) := ⟨_, rfl⟩
  have HLU := hid (show 0 ≤ u → u ∈ lev ps lv from by have := HLI.out; rw [HU.out] at this; exact this)
  have hma : maxLen = maxLen := rfl
  have HRN := hid (fun (h : u < 0 ∨ meB ws zs = false) => (show cx = -1 ∧ cy = 0 by
    have e := HQ.out.symm.trans (h.elim (fun h => HC1.out (by show gupI ps i lv < 0; rw [HU.out]; exact h)) (fun h => HC2.out h))
    injection e with a b; exact ⟨a, b⟩))
  go_enter Tryz.func170, Tryz.ntmps170
  have kw := keeps_refl w
  replace kw := Keeps.trans kw (keeps_alloc w (.cells #[.slice A a c0] 26))
  have b4 : B1 (w.alloc (.cells #[.slice A a c0] 26)) w.heap.size (.slice A a c0) := B1.new' (by simp)
  replace b4 := b4.keeps (keeps_alloc (w.alloc (.cells #[.slice A a c0] 26)) (.cells #[.int .i64 lv, .slice V n c, .slice H m d, .int .i64 sm] 120))
  replace kw := Keeps.trans kw (keeps_alloc (w.alloc (.cells #[.slice A a c0] 26)) (.cells #[.int .i64 lv, .slice V n c, .slice H m d, .int .i64 sm] 120))
  have b6 : Bl ((w.alloc (.cells #[.slice A a c0] 26)).alloc (.cells #[.int .i64 lv, .slice V n c, .slice H m d, .int .i64 sm] 120)) (w.heap.size + 1) [.int .i64 lv, .slice V n c, .slice H m d, .int .i64 sm] := Bl.new' (by simp) (by simp)
  replace b4 := b4.keeps (keeps_alloc ((w.alloc (.cells #[.slice A a c0] 26)).alloc (.cells #[.int .i64 lv, .slice V n c, .slice H m d, .int .i64 sm] 120)) (.cells #[.int .i64 (i : Int), .int .i64 y, .slice B z cz] 128))
  replace b6 := b6.keeps (keeps_alloc ((w.alloc (.cells #[.slice A a c0] 26)).alloc (.cells #[.int .i64 lv, .slice V n c, .slice H m d, .int .i64 sm] 120)) (.cells #[.int .i64 (i : Int), .int .i64 y, .slice B z cz] 128))
  replace kw := Keeps.trans kw (keeps_alloc ((w.alloc (.cells #[.slice A a c0] 26)).alloc (.cells #[.int .i64 lv, .slice V n c, .slice H m d, .int .i64 sm] 120)) (.cells #[.int .i64 (i : Int), .int .i64 y, .slice B z cz] 128))
  have b7 : Bl (((w.alloc (.cells #[.slice A a c0] 26)).alloc (.cells #[.int .i64 lv, .slice V n c, .slice H m d, .int .i64 sm] 120)).alloc (.cells #[.int .i64 (i : Int), .int .i64 y, .slice B z cz] 128)) (w.heap.size + 1 + 1) [.int .i64 (i : Int), .int .i64 y, .slice B z cz] := Bl.new' (by simp) (by simp)
  obtain ⟨ca1, fa1⟩ := id b4
  have ca2_0 : (((w.alloc (.cells #[.slice A a c0] 26)).alloc (.cells #[.int .i64 lv, .slice V n c, .slice H m d, .int .i64 sm] 120)).alloc (.cells #[.int .i64 (i : Int), .int .i64 y, .slice B z cz] 128)).cell? ⟨w.heap.size + 1, 0, none⟩ = some (.int .i64 lv) := (b6.2 0 _ rfl).1
  have fa2_0 : (((w.alloc (.cells #[.slice A a c0] 26)).alloc (.cells #[.int .i64 lv, .slice V n c, .slice H m d, .int .i64 sm] 120)).alloc (.cells #[.int .i64 (i : Int), .int .i64 y, .slice B z cz] 128)).frozen? ⟨w.heap.size + 1, 0, none⟩ = false := (b6.2 0 _ rfl).2
  have ca2_1 : (((w.alloc (.cells #[.slice A a c0] 26)).alloc (.cells #[.int .i64 lv, .slice V n c, .slice H m d, .int .i64 sm] 120)).alloc (.cells #[.int .i64 (i : Int), .int .i64 y, .slice B z cz] 128)).cell? ⟨w.heap.size + 1, 1, none⟩ = some (.slice V n c) := (b6.2 1 _ rfl).1
  have fa2_1 : (((w.alloc (.cells #[.slice A a c0] 26)).alloc (.cells #[.int .i64 lv, .slice V n c, .slice H m d, .int .i64 sm] 120)).alloc (.cells #[.int .i64 (i : Int), .int .i64 y, .slice B z cz] 128)).frozen? ⟨w.heap.size + 1, 1, none⟩ = false := (b6.2 1 _ rfl).2
  have ca2_2 : (((w.alloc (.cells #[.slice A a c0] 26)).alloc (.cells #[.int .i64 lv, .slice V n c, .slice H m d, .int .i64 sm] 120)).alloc (.cells #[.int .i64 (i : Int), .int .i64 y, .slice B z cz] 128)).cell? ⟨w.heap.size + 1, 2, none⟩ = some (.slice H m d) := (b6.2 2 _ rfl).1
  have fa2_2 : (((w.alloc (.cells #[.slice A a c0] 26)).alloc (.cells #[.int .i64 lv, .slice V n c, .slice H m d, .int .i64 sm] 120)).alloc (.cells #[.int .i64 (i : Int), .int .i64 y, .slice B z cz] 128)).frozen? ⟨w.heap.size + 1, 2, none⟩ = false := (b6.2 2 _ rfl).2
  have ca2_3 : (((w.alloc (.cells #[.slice A a c0] 26)).alloc (.cells #[.int .i64 lv, .slice V n c, .slice H m d, .int .i64 sm] 120)).alloc (.cells #[.int .i64 (i : Int), .int .i64 y, .slice B z cz] 128)).cell? ⟨w.heap.size + 1, 3, none⟩ = some (.int .i64 sm) := (b6.2 3 _ rfl).1
  have fa2_3 : (((w.alloc (.cells #[.slice A a c0] 26)).alloc (.cells #[.int .i64 lv, .slice V n c, .slice H m d, .int .i64 sm] 120)).alloc (.cells #[.int .i64 (i : Int), .int .i64 y, .slice B z cz] 128)).frozen? ⟨w.heap.size + 1, 3, none⟩ = false := (b6.2 3 _ rfl).2
  have ca3_0 : (((w.alloc (.cells #[.slice A a c0] 26)).alloc (.cells #[.int .i64 lv, .slice V n c, .slice H m d, .int .i64 sm] 120)).alloc (.cells #[.int .i64 (i : Int), .int .i64 y, .slice B z cz] 128)).cell? ⟨w.heap.size + 1 + 1, 0, none⟩ = some (.int .i64 (i : Int)) := (b7.2 0 _ rfl).1
  have fa3_0 : (((w.alloc (.cells #[.slice A a c0] 26)).alloc (.cells #[.int .i64 lv, .slice V n c, .slice H m d, .int .i64 sm] 120)).alloc (.cells #[.int .i64 (i : Int), .int .i64 y, .slice B z cz] 128)).frozen? ⟨w.heap.size + 1 + 1, 0, none⟩ = false := (b7.2 0 _ rfl).2
  have ca3_1 : (((w.alloc (.cells #[.slice A a c0] 26)).alloc (.cells #[.int .i64 lv, .slice V n c, .slice H m d, .int .i64 sm] 120)).alloc (.cells #[.int .i64 (i : Int), .int .i64 y, .slice B z cz] 128)).cell? ⟨w.heap.size + 1 + 1, 1, none⟩ = some (.int .i64 y) := (b7.2 1 _ rfl).1
  have fa3_1 : (((w.alloc (.cells #[.slice A a c0] 26)).alloc (.cells #[.int .i64 lv, .slice V n c, .slice H m d, .int .i64 sm] 120)).alloc (.cells #[.int .i64 (i : Int), .int .i64 y, .slice B z cz] 128)).frozen? ⟨w.heap.size + 1 + 1, 1, none⟩ = false := (b7.2 1 _ rfl).2
  have ca3_2 : (((w.alloc (.cells #[.slice A a c0] 26)).alloc (.cells #[.int .i64 lv, .slice V n c, .slice H m d, .int .i64 sm] 120)).alloc (.cells #[.int .i64 (i : Int), .int .i64 y, .slice B z cz] 128)).cell? ⟨w.heap.size + 1 + 1, 2, none⟩ = some (.slice B z cz) := (b7.2 2 _ rfl).1
  have fa3_2 : (((w.alloc (.cells #[.slice A a c0] 26)).alloc (.cells #[.int .i64 lv, .slice V n c, .slice H m d, .int .i64 sm] 120)).alloc (.cells #[.int .i64 (i : Int), .int .i64 y, .slice B z cz] 128)).frozen? ⟨w.heap.size + 1 + 1, 2, none⟩ = false := (b7.2 2 _ rfl).2
  go_wp2_with fail
  clear ca1 fa1 ca2_0 fa2_0 ca2_1 fa2_1 ca2_2 fa2_2 ca2_3 fa2_3 ca3_0 fa3_0 ca3_1 fa3_1 ca3_2 fa3_2
  refine (ancestorAt_any (lv := lv) (h.keeps kw) HT.out hi_).mono ?_
  rintro e w4 ⟨rfl, k4⟩
  rw [HU.out]
  replace b4 := b4.keeps k4
  replace b6 := b6.keeps k4
  replace b7 := b7.keeps k4
  replace kw := Keeps.trans kw k4
  have lt5 := b7.lt
  have sz6 := kw.size
  clear k4
  by_cases hu0 : u < 0
  · obtain ⟨rfl, rfl⟩ := HRN.out (Or.inl hu0)
    obtain ⟨ca7, fa7⟩ := id b4
    have ca8_0 : w4.cell? ⟨w.heap.size + 1, 0, none⟩ = some (.int .i64 lv) := (b6.2 0 _ rfl).1
    have fa8_0 : w4.frozen? ⟨w.heap.size + 1, 0, none⟩ = false := (b6.2 0 _ rfl).2
    have ca8_1 : w4.cell? ⟨w.heap.size + 1, 1, none⟩ = some (.slice V n c) := (b6.2 1 _ rfl).1
    have fa8_1 : w4.frozen? ⟨w.heap.size + 1, 1, none⟩ = false := (b6.2 1 _ rfl).2
    have ca8_2 : w4.cell? ⟨w.heap.size + 1, 2, none⟩ = some (.slice H m d) := (b6.2 2 _ rfl).1
    have fa8_2 : w4.frozen? ⟨w.heap.size + 1, 2, none⟩ = false := (b6.2 2 _ rfl).2
    have ca8_3 : w4.cell? ⟨w.heap.size + 1, 3, none⟩ = some (.int .i64 sm) := (b6.2 3 _ rfl).1
    have fa8_3 : w4.frozen? ⟨w.heap.size + 1, 3, none⟩ = false := (b6.2 3 _ rfl).2
    have ca9_0 : w4.cell? ⟨w.heap.size + 1 + 1, 0, none⟩ = some (.int .i64 (i : Int)) := (b7.2 0 _ rfl).1
    have fa9_0 : w4.frozen? ⟨w.heap.size + 1 + 1, 0, none⟩ = false := (b7.2 0 _ rfl).2
    have ca9_1 : w4.cell? ⟨w.heap.size + 1 + 1, 1, none⟩ = some (.int .i64 y) := (b7.2 1 _ rfl).1
    have fa9_1 : w4.frozen? ⟨w.heap.size + 1 + 1, 1, none⟩ = false := (b7.2 1 _ rfl).2
    have ca9_2 : w4.cell? ⟨w.heap.size + 1 + 1, 2, none⟩ = some (.slice B z cz) := (b7.2 2 _ rfl).1
    have fa9_2 : w4.frozen? ⟨w.heap.size + 1 + 1, 2, none⟩ = false := (b7.2 2 _ rfl).2
    go_wp2_with fail
    clear ca7 fa7 ca8_0 fa8_0 ca8_1 fa8_1 ca8_2 fa8_2 ca8_3 fa8_3 ca9_0 fa9_0 ca9_1 fa9_1 ca9_2 fa9_2
    go_ret2
    exact ⟨rfl, kw⟩
  obtain ⟨p, HP⟩ : ∃ p, Hid (meB ws zs = p) := ⟨_, rfl⟩
  obtain ⟨ca7, fa7⟩ := id b4
  have ca8_0 : w4.cell? ⟨w.heap.size + 1, 0, none⟩ = some (.int .i64 lv) := (b6.2 0 _ rfl).1
  have fa8_0 : w4.frozen? ⟨w.heap.size + 1, 0, none⟩ = false := (b6.2 0 _ rfl).2
  have ca8_1 : w4.cell? ⟨w.heap.size + 1, 1, none⟩ = some (.slice V n c) := (b6.2 1 _ rfl).1
  have fa8_1 : w4.frozen? ⟨w.heap.size + 1, 1, none⟩ = false := (b6.2 1 _ rfl).2
  have ca8_2 : w4.cell? ⟨w.heap.size + 1, 2, none⟩ = some (.slice H m d) := (b6.2 2 _ rfl).1
  have fa8_2 : w4.frozen? ⟨w.heap.size + 1, 2, none⟩ = false := (b6.2 2 _ rfl).2
  have ca8_3 : w4.cell? ⟨w.heap.size + 1, 3, none⟩ = some (.int .i64 sm) := (b6.2 3 _ rfl).1
  have fa8_3 : w4.frozen? ⟨w.heap.size + 1, 3, none⟩ = false := (b6.2 3 _ rfl).2
  have ca9_0 : w4.cell? ⟨w.heap.size + 1 + 1, 0, none⟩ = some (.int .i64 (i : Int)) := (b7.2 0 _ rfl).1
  have fa9_0 : w4.frozen? ⟨w.heap.size + 1 + 1, 0, none⟩ = false := (b7.2 0 _ rfl).2
  have ca9_1 : w4.cell? ⟨w.heap.size + 1 + 1, 1, none⟩ = some (.int .i64 y) := (b7.2 1 _ rfl).1
  have fa9_1 : w4.frozen? ⟨w.heap.size + 1 + 1, 1, none⟩ = false := (b7.2 1 _ rfl).2
  have ca9_2 : w4.cell? ⟨w.heap.size + 1 + 1, 2, none⟩ = some (.slice B z cz) := (b7.2 2 _ rfl).1
  have fa9_2 : w4.frozen? ⟨w.heap.size + 1 + 1, 2, none⟩ = false := (b7.2 2 _ rfl).2
  go_wp2_with fail
  clear ca7 fa7 ca8_0 fa8_0 ca8_1 fa8_1 ca8_2 fa8_2 ca8_3 fa8_3 ca9_0 fa9_0 ca9_1 fa9_1 ca9_2 fa9_2
  refine (meetsWhere_any (hH.keeps kw) (hz.keeps kw) (by omega) HZB.out).mono ?_
  rintro e w10 ⟨rfl, k10⟩
  rw [HP.out]
  replace b4 := b4.keeps k10
  replace b6 := b6.keeps k10
  replace b7 := b7.keeps k10
  replace kw := Keeps.trans kw k10
  have lt11 := b7.lt
  have sz12 := kw.size
  clear k10
  cases p
  · obtain ⟨rfl, rfl⟩ := HRN.out (Or.inr HP.out)
    obtain ⟨ca13, fa13⟩ := id b4
    have ca14_0 : w10.cell? ⟨w.heap.size + 1, 0, none⟩ = some (.int .i64 lv) := (b6.2 0 _ rfl).1
    have fa14_0 : w10.frozen? ⟨w.heap.size + 1, 0, none⟩ = false := (b6.2 0 _ rfl).2
    have ca14_1 : w10.cell? ⟨w.heap.size + 1, 1, none⟩ = some (.slice V n c) := (b6.2 1 _ rfl).1
    have fa14_1 : w10.frozen? ⟨w.heap.size + 1, 1, none⟩ = false := (b6.2 1 _ rfl).2
    have ca14_2 : w10.cell? ⟨w.heap.size + 1, 2, none⟩ = some (.slice H m d) := (b6.2 2 _ rfl).1
    have fa14_2 : w10.frozen? ⟨w.heap.size + 1, 2, none⟩ = false := (b6.2 2 _ rfl).2
    have ca14_3 : w10.cell? ⟨w.heap.size + 1, 3, none⟩ = some (.int .i64 sm) := (b6.2 3 _ rfl).1
    have fa14_3 : w10.frozen? ⟨w.heap.size + 1, 3, none⟩ = false := (b6.2 3 _ rfl).2
    have ca15_0 : w10.cell? ⟨w.heap.size + 1 + 1, 0, none⟩ = some (.int .i64 (i : Int)) := (b7.2 0 _ rfl).1
    have fa15_0 : w10.frozen? ⟨w.heap.size + 1 + 1, 0, none⟩ = false := (b7.2 0 _ rfl).2
    have ca15_1 : w10.cell? ⟨w.heap.size + 1 + 1, 1, none⟩ = some (.int .i64 y) := (b7.2 1 _ rfl).1
    have fa15_1 : w10.frozen? ⟨w.heap.size + 1 + 1, 1, none⟩ = false := (b7.2 1 _ rfl).2
    have ca15_2 : w10.cell? ⟨w.heap.size + 1 + 1, 2, none⟩ = some (.slice B z cz) := (b7.2 2 _ rfl).1
    have fa15_2 : w10.frozen? ⟨w.heap.size + 1 + 1, 2, none⟩ = false := (b7.2 2 _ rfl).2
    go_wp2_with fail
    clear ca13 fa13 ca14_0 fa14_0 ca14_1 fa14_1 ca14_2 fa14_2 ca14_3 fa14_3 ca15_0 fa15_0 ca15_1 fa15_1 ca15_2 fa15_2
    go_ret2
    exact ⟨rfl, kw⟩
  have hq0 : ¬ gupI ps i lv < 0 := by rw [HU.out]; omega
  have HQY := hid (show cx = ciI ps l lv vs u (pickL zs vs) ∧ cy = ceA (lv, vs, ws, sm) zs from by
    have e := HQ.out.symm.trans (HC3.out (by first | exact hq0 | exact Int.not_lt.1 hq0) HP.out)
    rw [show gupI ps i (lv, vs, ws, sm).1 = u from HU.out] at e
    injection e with a b; exact ⟨a, b⟩)
  have HLU2 := hid (HLU.out (by omega))
  clear hq0
  have hmk := make_ints n (by omega)
  obtain ⟨ca13, fa13⟩ := id b4
  have ca14_0 : w10.cell? ⟨w.heap.size + 1, 0, none⟩ = some (.int .i64 lv) := (b6.2 0 _ rfl).1
  have fa14_0 : w10.frozen? ⟨w.heap.size + 1, 0, none⟩ = false := (b6.2 0 _ rfl).2
  have ca14_1 : w10.cell? ⟨w.heap.size + 1, 1, none⟩ = some (.slice V n c) := (b6.2 1 _ rfl).1
  have fa14_1 : w10.frozen? ⟨w.heap.size + 1, 1, none⟩ = false := (b6.2 1 _ rfl).2
  have ca14_2 : w10.cell? ⟨w.heap.size + 1, 2, none⟩ = some (.slice H m d) := (b6.2 2 _ rfl).1
  have fa14_2 : w10.frozen? ⟨w.heap.size + 1, 2, none⟩ = false := (b6.2 2 _ rfl).2
  have ca14_3 : w10.cell? ⟨w.heap.size + 1, 3, none⟩ = some (.int .i64 sm) := (b6.2 3 _ rfl).1
  have fa14_3 : w10.frozen? ⟨w.heap.size + 1, 3, none⟩ = false := (b6.2 3 _ rfl).2
  have ca15_0 : w10.cell? ⟨w.heap.size + 1 + 1, 0, none⟩ = some (.int .i64 (i : Int)) := (b7.2 0 _ rfl).1
  have fa15_0 : w10.frozen? ⟨w.heap.size + 1 + 1, 0, none⟩ = false := (b7.2 0 _ rfl).2
  have ca15_1 : w10.cell? ⟨w.heap.size + 1 + 1, 1, none⟩ = some (.int .i64 y) := (b7.2 1 _ rfl).1
  have fa15_1 : w10.frozen? ⟨w.heap.size + 1 + 1, 1, none⟩ = false := (b7.2 1 _ rfl).2
  have ca15_2 : w10.cell? ⟨w.heap.size + 1 + 1, 2, none⟩ = some (.slice B z cz) := (b7.2 2 _ rfl).1
  have fa15_2 : w10.frozen? ⟨w.heap.size + 1 + 1, 2, none⟩ = false := (b7.2 2 _ rfl).2
  replace b4 := b4.keeps (keeps_alloc w10 (.cells (madeCells #[.int .i64 0] n) 3))
  replace b6 := b6.keeps (keeps_alloc w10 (.cells (madeCells #[.int .i64 0] n) 3))
  replace b7 := b7.keeps (keeps_alloc w10 (.cells (madeCells #[.int .i64 0] n) 3))
  replace kw := Keeps.trans kw (keeps_alloc w10 (.cells (madeCells #[.int .i64 0] n) 3))
  obtain ⟨ca16, fa16⟩ := id b4
  have ca17_0 : (w10.alloc (.cells (madeCells #[.int .i64 0] n) 3)).cell? ⟨w.heap.size + 1, 0, none⟩ = some (.int .i64 lv) := (b6.2 0 _ rfl).1
  have fa17_0 : (w10.alloc (.cells (madeCells #[.int .i64 0] n) 3)).frozen? ⟨w.heap.size + 1, 0, none⟩ = false := (b6.2 0 _ rfl).2
  have ca17_1 : (w10.alloc (.cells (madeCells #[.int .i64 0] n) 3)).cell? ⟨w.heap.size + 1, 1, none⟩ = some (.slice V n c) := (b6.2 1 _ rfl).1
  have fa17_1 : (w10.alloc (.cells (madeCells #[.int .i64 0] n) 3)).frozen? ⟨w.heap.size + 1, 1, none⟩ = false := (b6.2 1 _ rfl).2
  have ca17_2 : (w10.alloc (.cells (madeCells #[.int .i64 0] n) 3)).cell? ⟨w.heap.size + 1, 2, none⟩ = some (.slice H m d) := (b6.2 2 _ rfl).1
  have fa17_2 : (w10.alloc (.cells (madeCells #[.int .i64 0] n) 3)).frozen? ⟨w.heap.size + 1, 2, none⟩ = false := (b6.2 2 _ rfl).2
  have ca17_3 : (w10.alloc (.cells (madeCells #[.int .i64 0] n) 3)).cell? ⟨w.heap.size + 1, 3, none⟩ = some (.int .i64 sm) := (b6.2 3 _ rfl).1
  have fa17_3 : (w10.alloc (.cells (madeCells #[.int .i64 0] n) 3)).frozen? ⟨w.heap.size + 1, 3, none⟩ = false := (b6.2 3 _ rfl).2
  have ca18_0 : (w10.alloc (.cells (madeCells #[.int .i64 0] n) 3)).cell? ⟨w.heap.size + 1 + 1, 0, none⟩ = some (.int .i64 (i : Int)) := (b7.2 0 _ rfl).1
  have fa18_0 : (w10.alloc (.cells (madeCells #[.int .i64 0] n) 3)).frozen? ⟨w.heap.size + 1 + 1, 0, none⟩ = false := (b7.2 0 _ rfl).2
  have ca18_1 : (w10.alloc (.cells (madeCells #[.int .i64 0] n) 3)).cell? ⟨w.heap.size + 1 + 1, 1, none⟩ = some (.int .i64 y) := (b7.2 1 _ rfl).1
  have fa18_1 : (w10.alloc (.cells (madeCells #[.int .i64 0] n) 3)).frozen? ⟨w.heap.size + 1 + 1, 1, none⟩ = false := (b7.2 1 _ rfl).2
  have ca18_2 : (w10.alloc (.cells (madeCells #[.int .i64 0] n) 3)).cell? ⟨w.heap.size + 1 + 1, 2, none⟩ = some (.slice B z cz) := (b7.2 2 _ rfl).1
  have fa18_2 : (w10.alloc (.cells (madeCells #[.int .i64 0] n) 3)).frozen? ⟨w.heap.size + 1 + 1, 2, none⟩ = false := (b7.2 2 _ rfl).2
  go_wp2_with fail
  clear ca13 fa13 ca14_0 fa14_0 ca14_1 fa14_1 ca14_2 fa14_2 ca14_3 fa14_3 ca15_0 fa15_0 ca15_1 fa15_1 ca15_2 fa15_2 ca16 fa16 ca17_0 fa17_0 ca17_1 fa17_1 ca17_2 fa17_2 ca17_3 fa17_3 ca18_0 fa18_0 ca18_1 fa18_1 ca18_2 fa18_2
  clear hmk
  have own : Own (w10.alloc (.cells (madeCells #[.int .i64 0] n) 3)) (w10.heap.size) (padTo (pickL zs vs) 0) := by
    rw [padTo_zero, HPK.out, HNL.out]
    have q_ := Own.new w10 n
    rwa [show w10.heap.size = w10.heap.size by simp] at q_
  have sz19 := kw.size
  obtain ⟨G, hG⟩ : ∃ G, w10.heap.size = G := ⟨_, rfl⟩
  rw [hG] at own ⊢
  have hGw : w.heap.size + 3 ≤ G := by simp at sz19; omega
  clear hG
  go_loopw [36] (fun i_ wr => ∃ k : Nat, k ≤ n ∧ i_ = .int .i64 k ∧ Own wr G (padTo (pickL zs vs) k) ∧ B1 wr w.heap.size (.slice A a c0) ∧ Bl wr (w.heap.size + 1) [.int .i64 lv, .slice V n c, .slice H m d, .int .i64 sm] ∧ Bl wr (w.heap.size + 1 + 1) [.int .i64 (i : Int), .int .i64 y, .slice B z cz] ∧ Keeps w wr) (fun i_ _ => n - (intOf i_).toNat)
  case atStart => exact ⟨0, Nat.zero_le _, rfl, own, b4, b6, b7, kw⟩
  clear own b4 b6 b7 kw
  case round =>
    obtain ⟨k, hk, rfl, own, b4, b6, b7, kw⟩ := hrel
    have ltG := own.lt
    by_cases hlt : k < n
    · obtain ⟨bv, ov, v, rfl, _, _, hcv, hv⟩ := (hV.keeps kw).at_ hlt
      have hvb := HVA.out k hlt
      rw [← hv.out] at hvb
      obtain ⟨j, rfl⟩ : ∃ j : Nat, v = (j : Int) := ⟨v.toNat, by omega⟩
      have hjz : j < z := by omega
      obtain ⟨bz, oz, u9, rfl, _, _, hcu, hu9⟩ := (hz.keeps kw).at_ hjz
      have hi1 : (k : Int) < (n : Int) := by omega
      have hi2 : (j : Int) < (z : Int) := by omega
      have HX := hid (padTo_succ (pickL zs vs) k (by rw [HPK.out, HNL.out]; exact hlt))
      rw [HPT.out k (by rw [HNL.out]; exact hlt), ← hv.out, Int.toNat_natCast, ← hu9.out] at HX
      obtain ⟨y9, hcy9, -⟩ := own.at_ k (by rw [padTo_len _ _ (by rw [HPK.out, HNL.out]; omega), HPK.out, HNL.out]; exact hlt)
      have hfy9 := own.frozen k
      have O1 := hid (own.set_ k u9)
      rw [HX.out] at O1
      clear own hv hu9 hvb
      have N_b4 := hid (b4.far (p := ⟨G, k, none⟩) (by show _ ≠ G; omega) (.int .i64 u9))
      have N_b6 := hid (b6.far (p := ⟨G, k, none⟩) (by show _ ≠ G; omega) (.int .i64 u9))
      have N_b7 := hid (b7.far (p := ⟨G, k, none⟩) (by show _ ≠ G; omega) (.int .i64 u9))
      have N_kw := hid (kw.setCell (p := ⟨G, k, none⟩) (by show w.heap.size ≤ G; omega) (.int .i64 u9))
      obtain ⟨ca20, fa20⟩ := id b4
      have ca21_0 : wr.cell? ⟨w.heap.size + 1, 0, none⟩ = some (.int .i64 lv) := (b6.2 0 _ rfl).1
      have fa21_0 : wr.frozen? ⟨w.heap.size + 1, 0, none⟩ = false := (b6.2 0 _ rfl).2
      have ca21_1 : wr.cell? ⟨w.heap.size + 1, 1, none⟩ = some (.slice (some ⟨bv, ov, none⟩) n c) := (b6.2 1 _ rfl).1
      have fa21_1 : wr.frozen? ⟨w.heap.size + 1, 1, none⟩ = false := (b6.2 1 _ rfl).2
      have ca21_2 : wr.cell? ⟨w.heap.size + 1, 2, none⟩ = some (.slice H m d) := (b6.2 2 _ rfl).1
      have fa21_2 : wr.frozen? ⟨w.heap.size + 1, 2, none⟩ = false := (b6.2 2 _ rfl).2
      have ca21_3 : wr.cell? ⟨w.heap.size + 1, 3, none⟩ = some (.int .i64 sm) := (b6.2 3 _ rfl).1
      have fa21_3 : wr.frozen? ⟨w.heap.size + 1, 3, none⟩ = false := (b6.2 3 _ rfl).2
      have ca22_0 : wr.cell? ⟨w.heap.size + 1 + 1, 0, none⟩ = some (.int .i64 (i : Int)) := (b7.2 0 _ rfl).1
      have fa22_0 : wr.frozen? ⟨w.heap.size + 1 + 1, 0, none⟩ = false := (b7.2 0 _ rfl).2
      have ca22_1 : wr.cell? ⟨w.heap.size + 1 + 1, 1, none⟩ = some (.int .i64 y) := (b7.2 1 _ rfl).1
      have fa22_1 : wr.frozen? ⟨w.heap.size + 1 + 1, 1, none⟩ = false := (b7.2 1 _ rfl).2
      have ca22_2 : wr.cell? ⟨w.heap.size + 1 + 1, 2, none⟩ = some (.slice (some ⟨bz, oz, none⟩) z cz) := (b7.2 2 _ rfl).1
      have fa22_2 : wr.frozen? ⟨w.heap.size + 1 + 1, 2, none⟩ = false := (b7.2 2 _ rfl).2
      go_wp2_with fail
      clear ca20 fa20 ca21_0 fa21_0 ca21_1 fa21_1 ca21_2 fa21_2 ca21_3 fa21_3 ca22_0 fa22_0 ca22_1 fa22_1 ca22_2 fa22_2
      go_roundw
      case rel => exact ⟨k + 1, by omega, by go_num, O1.out, N_b4.out, N_b6.out, N_b7.out, N_kw.out⟩
      case measure => simp [intOf]; omega
    obtain rfl : k = n := by omega
    have HPA := hid (show padTo (pickL zs vs) k = pickL zs vs by rw [← HNL.out, ← HPK.out]; exact padTo_all _)
    rw [HPA.out] at own
    have mY := (own.mine (n := k) (lo := G) (hi := wr.heap.size) (by rw [HPK.out, HNL.out]) (by omega) (Nat.le_refl _) ltG (Nat.le_refl _)).1
    clear own ltG
    by_cases hs0 : sm < 0
    · have HCY := hid (show cy = 1 from HQY.out.2.trans (if_pos hs0))
      obtain ⟨ca20, fa20⟩ := id b4
      have ca21_0 : wr.cell? ⟨w.heap.size + 1, 0, none⟩ = some (.int .i64 lv) := (b6.2 0 _ rfl).1
      have fa21_0 : wr.frozen? ⟨w.heap.size + 1, 0, none⟩ = false := (b6.2 0 _ rfl).2
      have ca21_1 : wr.cell? ⟨w.heap.size + 1, 1, none⟩ = some (.slice V k c) := (b6.2 1 _ rfl).1
      have fa21_1 : wr.frozen? ⟨w.heap.size + 1, 1, none⟩ = false := (b6.2 1 _ rfl).2
      have ca21_2 : wr.cell? ⟨w.heap.size + 1, 2, none⟩ = some (.slice H m d) := (b6.2 2 _ rfl).1
      have fa21_2 : wr.frozen? ⟨w.heap.size + 1, 2, none⟩ = false := (b6.2 2 _ rfl).2
      have ca21_3 : wr.cell? ⟨w.heap.size + 1, 3, none⟩ = some (.int .i64 sm) := (b6.2 3 _ rfl).1
      have fa21_3 : wr.frozen? ⟨w.heap.size + 1, 3, none⟩ = false := (b6.2 3 _ rfl).2
      have ca22_0 : wr.cell? ⟨w.heap.size + 1 + 1, 0, none⟩ = some (.int .i64 (i : Int)) := (b7.2 0 _ rfl).1
      have fa22_0 : wr.frozen? ⟨w.heap.size + 1 + 1, 0, none⟩ = false := (b7.2 0 _ rfl).2
      have ca22_1 : wr.cell? ⟨w.heap.size + 1 + 1, 1, none⟩ = some (.int .i64 y) := (b7.2 1 _ rfl).1
      have fa22_1 : wr.frozen? ⟨w.heap.size + 1 + 1, 1, none⟩ = false := (b7.2 1 _ rfl).2
      have ca22_2 : wr.cell? ⟨w.heap.size + 1 + 1, 2, none⟩ = some (.slice B z cz) := (b7.2 2 _ rfl).1
      have fa22_2 : wr.frozen? ⟨w.heap.size + 1 + 1, 2, none⟩ = false := (b7.2 2 _ rfl).2
      go_wp2_with fail
      clear ca20 fa20 ca21_0 fa21_0 ca21_1 fa21_1 ca21_2 fa21_2 ca21_3 fa21_3 ca22_0 fa22_0 ca22_1 fa22_1 ca22_2 fa22_2
      refine (cellIndex_any (c := c) (m := m) (d := d) (H := H) (sm := sm) (h.keeps kw) (h'.keeps kw) (hV.keeps kw) mY HG.out HS.out HVS.out HPF.out HLU2.out).mono ?_
      rintro e w23 ⟨rfl, k23⟩
      rw [← HQY.out.1]
      replace b4 := b4.keeps k23
      replace b6 := b6.keeps k23
      replace b7 := b7.keeps k23
      replace mY := mY.keeps k23
      replace kw := Keeps.trans kw k23
      have lt24 := b7.lt
      have sz25 := kw.size
      clear k23
      go_wp2_with fail
      go_ret2
      exact ⟨by rw [HCY.out]; rfl, kw⟩
    obtain ⟨j, rfl⟩ : ∃ j : Nat, sm = (j : Int) := ⟨sm.toNat, by omega⟩
    have hjz : j < z := by omega
    have hi2 : (j : Int) < (z : Int) := by omega
    obtain ⟨bz, oz, u9, rfl, _, _, hcu, hu9⟩ := (hz.keeps kw).at_ hjz
    have hj0 : (0 : Int) ≤ (j : Int) := by omega
    have HCY := hid (show cy = u9 from HQY.out.2.trans ((if_neg hs0).trans (by show zs.getD ((j : Int)).toNat 0 = u9; rw [Int.toNat_natCast]; exact hu9.out.symm)))
    clear hu9
    obtain ⟨ca20, fa20⟩ := id b4
    have ca21_0 : wr.cell? ⟨w.heap.size + 1, 0, none⟩ = some (.int .i64 lv) := (b6.2 0 _ rfl).1
    have fa21_0 : wr.frozen? ⟨w.heap.size + 1, 0, none⟩ = false := (b6.2 0 _ rfl).2
    have ca21_1 : wr.cell? ⟨w.heap.size + 1, 1, none⟩ = some (.slice V k c) := (b6.2 1 _ rfl).1
    have fa21_1 : wr.frozen? ⟨w.heap.size + 1, 1, none⟩ = false := (b6.2 1 _ rfl).2
    have ca21_2 : wr.cell? ⟨w.heap.size + 1, 2, none⟩ = some (.slice H m d) := (b6.2 2 _ rfl).1
    have fa21_2 : wr.frozen? ⟨w.heap.size + 1, 2, none⟩ = false := (b6.2 2 _ rfl).2
    have ca21_3 : wr.cell? ⟨w.heap.size + 1, 3, none⟩ = some (.int .i64 (j : Int)) := (b6.2 3 _ rfl).1
    have fa21_3 : wr.frozen? ⟨w.heap.size + 1, 3, none⟩ = false := (b6.2 3 _ rfl).2
    have ca22_0 : wr.cell? ⟨w.heap.size + 1 + 1, 0, none⟩ = some (.int .i64 (i : Int)) := (b7.2 0 _ rfl).1
    have fa22_0 : wr.frozen? ⟨w.heap.size + 1 + 1, 0, none⟩ = false := (b7.2 0 _ rfl).2
    have ca22_1 : wr.cell? ⟨w.heap.size + 1 + 1, 1, none⟩ = some (.int .i64 y) := (b7.2 1 _ rfl).1
    have fa22_1 : wr.frozen? ⟨w.heap.size + 1 + 1, 1, none⟩ = false := (b7.2 1 _ rfl).2
    have ca22_2 : wr.cell? ⟨w.heap.size + 1 + 1, 2, none⟩ = some (.slice (some ⟨bz, oz, none⟩) z cz) := (b7.2 2 _ rfl).1
    have fa22_2 : wr.frozen? ⟨w.heap.size + 1 + 1, 2, none⟩ = false := (b7.2 2 _ rfl).2
    go_wp2_with fail
    clear ca20 fa20 ca21_0 fa21_0 ca21_1 fa21_1 ca21_2 fa21_2 ca21_3 fa21_3 ca22_0 fa22_0 ca22_1 fa22_1 ca22_2 fa22_2
    refine (cellIndex_any (c := c) (m := m) (d := d) (H := H) (sm := (j : Int)) (h.keeps kw) (h'.keeps kw) (hV.keeps kw) mY HG.out HS.out HVS.out HPF.out HLU2.out).mono ?_
    rintro e w23 ⟨rfl, k23⟩
    rw [← HQY.out.1]
    replace b4 := b4.keeps k23
    replace b6 := b6.keeps k23
    replace b7 := b7.keeps k23
    replace mY := mY.keeps k23
    replace kw := Keeps.trans kw k23
    have lt24 := b7.lt
    have sz25 := kw.size
    clear k23
    go_wp2_with fail
    go_ret2
    exact ⟨by rw [HCY.out]; rfl, kw⟩
set_option maxRecDepth 100000 in
set_option maxHeartbeats 12800000 in
theorem uCell_any {A A' V H B : Option Addr} {lo hi a c0 lo' hi' lo2 hi2 lo3 hi3 n c m d q e z cz i : Nat} {ps vs ws zs : List Int} {l : List VV} {lv sm y : Int} {w : World} (h : Ints w lo hi A a ps) (h' : Sch w A' q e l) (hV : Ints w lo' hi' V n vs) (hH : Ints w lo2 hi2 H m ws) (hz : Ints w lo3 hi3 B z zs) (hg : geoB ps = true) (hs : schB l = true) (ht : tabB ps l (lv, vs, ws, sm) = true) (hf : fitB l zs = true) (hi_ : i < a) :
    Calls Tryz.prog 128 #[.agg #[.slice A a c0], .slice A' q e, .agg #[.int .i64 lv, .slice V n c, .slice H m d, .int .i64 sm], .agg #[.int .i64 (i : Int), .int .i64 y, .slice B z cz]] w fun e w' => e = .returned (.tuple #[.int .i64 (ceQ ps l (lv, vs, ws, sm) i zs).1, .int .i64 (ceQ ps l (lv, vs, ws, sm) i zs).2]) ∧ Keeps w w' := by
  obtain ⟨lo9, hi9, hv9⟩ := h'.v
  have hl := Vars.len hv9
  have hq := hv9.le
  have hnl := hV.1
  obtain ⟨t1_, t2_, t3_, t4_, t5_⟩ := tabB_parts ht
  have HLV := hid (tab_lv ht)
  have hzl : z = q := by have h1 := (fitB_row hf (k := 0) (by have := (schB_lv hl hs).2.1; omega)).1; have h2 := hz.1; omega
  have hmq : m = q := by have h1 : ws.length = l.length := (whB_at t2_ (k := 0) (by have := (schB_lv hl hs).2.1; omega)).1; have h2 := hH.1; omega
  have HSM := hid t3_
  have hsm1 := t3_.1
  have hsm2 : sm ≤ (q : Int) - 1 := by have := t3_.2; simp only [hl] at this; exact this
  obtain ⟨hlv, h1_, h6⟩ := schB_lv hl hs
  have hvs : vsB q vs = true := by have := t1_; simp only [hl] at this; exact this
  have HVS := hid hvs
  have hn6 : n ≤ 6 := by have := vsB_len hvs; omega
  have HZB := hid (fun k (hk : k < z) => (show 0 ≤ zs.getD k 0 ∧ zs.getD k 0 ≤ 7 by
    have h1 := fitB_row hf (k := k) (by omega)
    have h2 := hlv k (by omega)
    omega))
  have HPF := hid (partL_fit hf (by rw [hl]; exact hvs))
  have HG := hid hg
  have HS := hid hs
  have HT := hid (tree_of hg)
  have HPL := hid h.1
  have HVA := hid (fun k (hk : k < n) => vsB_at hvs (k := k) (by rw [hnl]; exact hk))
  have HC1 := hid (fun h => ceQ_no1 (l := l) (t := (lv, vs, ws, sm)) (zs := zs) (i := i) (ps := ps) h)
  have HC2 := hid (fun h => ceQ_no2 (ps := ps) (l := l) (t := (lv, vs, ws, sm)) (i := i) (zs := zs) h)
  have HC3 := hid (fun h h2 => ceQ_yes (ps := ps) (l := l) (t := (lv, vs, ws, sm)) (i := i) (zs := zs) h h2)
  have HBD := hid (ceQ_bd (i := i) hg hs ht hf (by rw [h.1]; exact hi_))
  have HPK := hid (pickL_len zs vs)
  have HPT := hid (fun k (hk : k < vs.length) => pickL_at zs vs hk)
  have HNL := hid hnl
  have HLI := hid (fun (hh : 0 ≤ gupI ps i lv) => lev_up (tree_of hg) (i := i) (by rw [h.1]; exact hi_) hh (tab_lv ht))
  have hmz : m ≤ z := by omega
  have hqz : q ≤ z := by omega
  have hzq : z ≤ q := by omega
  clear hl hnl t1_ t2_ t3_ t4_ t5_ hlv h1_ h6 hvs hg hs ht hf hzl hmq
  obtain ⟨cx, cy, HQ⟩ : ∃ cx cy, Hid (ceQ ps l (lv, vs, ws, sm) i zs = (cx, cy)) := ⟨_, _, rfl⟩
  rw [HQ.out]
  obtain ⟨u, HU⟩ : ∃ u, Hid (gupI ps i lv = u) := ⟨_, rfl⟩
  have HLU := hid (show 0 ≤ u → u ∈ lev ps lv from by have := HLI.out; rw [HU.out] at this; exact this)
  have hma : maxLen = maxLen := rfl
  have HRN := hid (fun (h : u < 0 ∨ meB ws zs = false) => (show cx = -1 ∧ cy = 0 by
    have e := HQ.out.symm.trans (h.elim (fun h => HC1.out (by show gupI ps i lv < 0; rw [HU.out]; exact h)) (fun h => HC2.out h))
    injection e with a b; exact ⟨a, b⟩))
  go_enter Tryz.func128, Tryz.ntmps128
  have kw := keeps_refl w
  replace kw := Keeps.trans kw (keeps_alloc w (.cells #[.slice A a c0] 26))
  have b4 : B1 (w.alloc (.cells #[.slice A a c0] 26)) w.heap.size (.slice A a c0) := B1.new' (by simp)
  replace b4 := b4.keeps (keeps_alloc (w.alloc (.cells #[.slice A a c0] 26)) (.cells #[.int .i64 lv, .slice V n c, .slice H m d, .int .i64 sm] 120))
  replace kw := Keeps.trans kw (keeps_alloc (w.alloc (.cells #[.slice A a c0] 26)) (.cells #[.int .i64 lv, .slice V n c, .slice H m d, .int .i64 sm] 120))
  have b6 : Bl ((w.alloc (.cells #[.slice A a c0] 26)).alloc (.cells #[.int .i64 lv, .slice V n c, .slice H m d, .int .i64 sm] 120)) (w.heap.size + 1) [.int .i64 lv, .slice V n c, .slice H m d, .int .i64 sm] := Bl.new' (by simp) (by simp)
  replace b4 := b4.keeps (keeps_alloc ((w.alloc (.cells #[.slice A a c0] 26)).alloc (.cells #[.int .i64 lv, .slice V n c, .slice H m d, .int .i64 sm] 120)) (.cells #[.int .i64 (i : Int), .int .i64 y, .slice B z cz] 128))
  replace b6 := b6.keeps (keeps_alloc ((w.alloc (.cells #[.slice A a c0] 26)).alloc (.cells #[.int .i64 lv, .slice V n c, .slice H m d, .int .i64 sm] 120)) (.cells #[.int .i64 (i : Int), .int .i64 y, .slice B z cz] 128))
  replace kw := Keeps.trans kw (keeps_alloc ((w.alloc (.cells #[.slice A a c0] 26)).alloc (.cells #[.int .i64 lv, .slice V n c, .slice H m d, .int .i64 sm] 120)) (.cells #[.int .i64 (i : Int), .int .i64 y, .slice B z cz] 128))
  have b7 : Bl (((w.alloc (.cells #[.slice A a c0] 26)).alloc (.cells #[.int .i64 lv, .slice V n c, .slice H m d, .int .i64 sm] 120)).alloc (.cells #[.int .i64 (i : Int), .int .i64 y, .slice B z cz] 128)) (w.heap.size + 1 + 1) [.int .i64 (i : Int), .int .i64 y, .slice B z cz] := Bl.new' (by simp) (by simp)
  obtain ⟨ca1, fa1⟩ := id b4
  have ca2_0 : (((w.alloc (.cells #[.slice A a c0] 26)).alloc (.cells #[.int .i64 lv, .slice V n c, .slice H m d, .int .i64 sm] 120)).alloc (.cells #[.int .i64 (i : Int), .int .i64 y, .slice B z cz] 128)).cell? ⟨w.heap.size + 1, 0, none⟩ = some (.int .i64 lv) := (b6.2 0 _ rfl).1
  have fa2_0 : (((w.alloc (.cells #[.slice A a c0] 26)).alloc (.cells #[.int .i64 lv, .slice V n c, .slice H m d, .int .i64 sm] 120)).alloc (.cells #[.int .i64 (i : Int), .int .i64 y, .slice B z cz] 128)).frozen? ⟨w.heap.size + 1, 0, none⟩ = false := (b6.2 0 _ rfl).2
  have ca2_1 : (((w.alloc (.cells #[.slice A a c0] 26)).alloc (.cells #[.int .i64 lv, .slice V n c, .slice H m d, .int .i64 sm] 120)).alloc (.cells #[.int .i64 (i : Int), .int .i64 y, .slice B z cz] 128)).cell? ⟨w.heap.size + 1, 1, none⟩ = some (.slice V n c) := (b6.2 1 _ rfl).1
  have fa2_1 : (((w.alloc (.cells #[.slice A a c0] 26)).alloc (.cells #[.int .i64 lv, .slice V n c, .slice H m d, .int .i64 sm] 120)).alloc (.cells #[.int .i64 (i : Int), .int .i64 y, .slice B z cz] 128)).frozen? ⟨w.heap.size + 1, 1, none⟩ = false := (b6.2 1 _ rfl).2
  have ca2_2 : (((w.alloc (.cells #[.slice A a c0] 26)).alloc (.cells #[.int .i64 lv, .slice V n c, .slice H m d, .int .i64 sm] 120)).alloc (.cells #[.int .i64 (i : Int), .int .i64 y, .slice B z cz] 128)).cell? ⟨w.heap.size + 1, 2, none⟩ = some (.slice H m d) := (b6.2 2 _ rfl).1
  have fa2_2 : (((w.alloc (.cells #[.slice A a c0] 26)).alloc (.cells #[.int .i64 lv, .slice V n c, .slice H m d, .int .i64 sm] 120)).alloc (.cells #[.int .i64 (i : Int), .int .i64 y, .slice B z cz] 128)).frozen? ⟨w.heap.size + 1, 2, none⟩ = false := (b6.2 2 _ rfl).2
  have ca2_3 : (((w.alloc (.cells #[.slice A a c0] 26)).alloc (.cells #[.int .i64 lv, .slice V n c, .slice H m d, .int .i64 sm] 120)).alloc (.cells #[.int .i64 (i : Int), .int .i64 y, .slice B z cz] 128)).cell? ⟨w.heap.size + 1, 3, none⟩ = some (.int .i64 sm) := (b6.2 3 _ rfl).1
  have fa2_3 : (((w.alloc (.cells #[.slice A a c0] 26)).alloc (.cells #[.int .i64 lv, .slice V n c, .slice H m d, .int .i64 sm] 120)).alloc (.cells #[.int .i64 (i : Int), .int .i64 y, .slice B z cz] 128)).frozen? ⟨w.heap.size + 1, 3, none⟩ = false := (b6.2 3 _ rfl).2
  have ca3_0 : (((w.alloc (.cells #[.slice A a c0] 26)).alloc (.cells #[.int .i64 lv, .slice V n c, .slice H m d, .int .i64 sm] 120)).alloc (.cells #[.int .i64 (i : Int), .int .i64 y, .slice B z cz] 128)).cell? ⟨w.heap.size + 1 + 1, 0, none⟩ = some (.int .i64 (i : Int)) := (b7.2 0 _ rfl).1
  have fa3_0 : (((w.alloc (.cells #[.slice A a c0] 26)).alloc (.cells #[.int .i64 lv, .slice V n c, .slice H m d, .int .i64 sm] 120)).alloc (.cells #[.int .i64 (i : Int), .int .i64 y, .slice B z cz] 128)).frozen? ⟨w.heap.size + 1 + 1, 0, none⟩ = false := (b7.2 0 _ rfl).2
  have ca3_1 : (((w.alloc (.cells #[.slice A a c0] 26)).alloc (.cells #[.int .i64 lv, .slice V n c, .slice H m d, .int .i64 sm] 120)).alloc (.cells #[.int .i64 (i : Int), .int .i64 y, .slice B z cz] 128)).cell? ⟨w.heap.size + 1 + 1, 1, none⟩ = some (.int .i64 y) := (b7.2 1 _ rfl).1
  have fa3_1 : (((w.alloc (.cells #[.slice A a c0] 26)).alloc (.cells #[.int .i64 lv, .slice V n c, .slice H m d, .int .i64 sm] 120)).alloc (.cells #[.int .i64 (i : Int), .int .i64 y, .slice B z cz] 128)).frozen? ⟨w.heap.size + 1 + 1, 1, none⟩ = false := (b7.2 1 _ rfl).2
  have ca3_2 : (((w.alloc (.cells #[.slice A a c0] 26)).alloc (.cells #[.int .i64 lv, .slice V n c, .slice H m d, .int .i64 sm] 120)).alloc (.cells #[.int .i64 (i : Int), .int .i64 y, .slice B z cz] 128)).cell? ⟨w.heap.size + 1 + 1, 2, none⟩ = some (.slice B z cz) := (b7.2 2 _ rfl).1
  have fa3_2 : (((w.alloc (.cells #[.slice A a c0] 26)).alloc (.cells #[.int .i64 lv, .slice V n c, .slice H m d, .int .i64 sm] 120)).alloc (.cells #[.int .i64 (i : Int), .int .i64 y, .slice B z cz] 128)).frozen? ⟨w.heap.size + 1 + 1, 2, none⟩ = false := (b7.2 2 _ rfl).2
  go_wp2_with fail
  clear ca1 fa1 ca2_0 fa2_0 ca2_1 fa2_1 ca2_2 fa2_2 ca2_3 fa2_3 ca3_0 fa3_0 ca3_1 fa3_1 ca3_2 fa3_2
  refine (gUp_any (lv := lv) (h.keeps kw) HT.out hi_).mono ?_
  rintro e w4 ⟨rfl, k4⟩
  rw [HU.out]
  replace b4 := b4.keeps k4
  replace b6 := b6.keeps k4
  replace b7 := b7.keeps k4
  replace kw := Keeps.trans kw k4
  have lt5 := b7.lt
  have sz6 := kw.size
  clear k4
  by_cases hu0 : u < 0
  · obtain ⟨rfl, rfl⟩ := HRN.out (Or.inl hu0)
    obtain ⟨ca7, fa7⟩ := id b4
    have ca8_0 : w4.cell? ⟨w.heap.size + 1, 0, none⟩ = some (.int .i64 lv) := (b6.2 0 _ rfl).1
    have fa8_0 : w4.frozen? ⟨w.heap.size + 1, 0, none⟩ = false := (b6.2 0 _ rfl).2
    have ca8_1 : w4.cell? ⟨w.heap.size + 1, 1, none⟩ = some (.slice V n c) := (b6.2 1 _ rfl).1
    have fa8_1 : w4.frozen? ⟨w.heap.size + 1, 1, none⟩ = false := (b6.2 1 _ rfl).2
    have ca8_2 : w4.cell? ⟨w.heap.size + 1, 2, none⟩ = some (.slice H m d) := (b6.2 2 _ rfl).1
    have fa8_2 : w4.frozen? ⟨w.heap.size + 1, 2, none⟩ = false := (b6.2 2 _ rfl).2
    have ca8_3 : w4.cell? ⟨w.heap.size + 1, 3, none⟩ = some (.int .i64 sm) := (b6.2 3 _ rfl).1
    have fa8_3 : w4.frozen? ⟨w.heap.size + 1, 3, none⟩ = false := (b6.2 3 _ rfl).2
    have ca9_0 : w4.cell? ⟨w.heap.size + 1 + 1, 0, none⟩ = some (.int .i64 (i : Int)) := (b7.2 0 _ rfl).1
    have fa9_0 : w4.frozen? ⟨w.heap.size + 1 + 1, 0, none⟩ = false := (b7.2 0 _ rfl).2
    have ca9_1 : w4.cell? ⟨w.heap.size + 1 + 1, 1, none⟩ = some (.int .i64 y) := (b7.2 1 _ rfl).1
    have fa9_1 : w4.frozen? ⟨w.heap.size + 1 + 1, 1, none⟩ = false := (b7.2 1 _ rfl).2
    have ca9_2 : w4.cell? ⟨w.heap.size + 1 + 1, 2, none⟩ = some (.slice B z cz) := (b7.2 2 _ rfl).1
    have fa9_2 : w4.frozen? ⟨w.heap.size + 1 + 1, 2, none⟩ = false := (b7.2 2 _ rfl).2
    go_wp2_with fail
    clear ca7 fa7 ca8_0 fa8_0 ca8_1 fa8_1 ca8_2 fa8_2 ca8_3 fa8_3 ca9_0 fa9_0 ca9_1 fa9_1 ca9_2 fa9_2
    go_ret2
    exact ⟨rfl, kw⟩
  obtain ⟨p, HP⟩ : ∃ p, Hid (meB ws zs = p) := ⟨_, rfl⟩
  obtain ⟨ca7, fa7⟩ := id b4
  have ca8_0 : w4.cell? ⟨w.heap.size + 1, 0, none⟩ = some (.int .i64 lv) := (b6.2 0 _ rfl).1
  have fa8_0 : w4.frozen? ⟨w.heap.size + 1, 0, none⟩ = false := (b6.2 0 _ rfl).2
  have ca8_1 : w4.cell? ⟨w.heap.size + 1, 1, none⟩ = some (.slice V n c) := (b6.2 1 _ rfl).1
  have fa8_1 : w4.frozen? ⟨w.heap.size + 1, 1, none⟩ = false := (b6.2 1 _ rfl).2
  have ca8_2 : w4.cell? ⟨w.heap.size + 1, 2, none⟩ = some (.slice H m d) := (b6.2 2 _ rfl).1
  have fa8_2 : w4.frozen? ⟨w.heap.size + 1, 2, none⟩ = false := (b6.2 2 _ rfl).2
  have ca8_3 : w4.cell? ⟨w.heap.size + 1, 3, none⟩ = some (.int .i64 sm) := (b6.2 3 _ rfl).1
  have fa8_3 : w4.frozen? ⟨w.heap.size + 1, 3, none⟩ = false := (b6.2 3 _ rfl).2
  have ca9_0 : w4.cell? ⟨w.heap.size + 1 + 1, 0, none⟩ = some (.int .i64 (i : Int)) := (b7.2 0 _ rfl).1
  have fa9_0 : w4.frozen? ⟨w.heap.size + 1 + 1, 0, none⟩ = false := (b7.2 0 _ rfl).2
  have ca9_1 : w4.cell? ⟨w.heap.size + 1 + 1, 1, none⟩ = some (.int .i64 y) := (b7.2 1 _ rfl).1
  have fa9_1 : w4.frozen? ⟨w.heap.size + 1 + 1, 1, none⟩ = false := (b7.2 1 _ rfl).2
  have ca9_2 : w4.cell? ⟨w.heap.size + 1 + 1, 2, none⟩ = some (.slice B z cz) := (b7.2 2 _ rfl).1
  have fa9_2 : w4.frozen? ⟨w.heap.size + 1 + 1, 2, none⟩ = false := (b7.2 2 _ rfl).2
  go_wp2_with fail
  clear ca7 fa7 ca8_0 fa8_0 ca8_1 fa8_1 ca8_2 fa8_2 ca8_3 fa8_3 ca9_0 fa9_0 ca9_1 fa9_1 ca9_2 fa9_2
  refine (uMeets_any (hH.keeps kw) (hz.keeps kw) (by omega) HZB.out).mono ?_
  rintro e w10 ⟨rfl, k10⟩
  rw [HP.out]
  replace b4 := b4.keeps k10
  replace b6 := b6.keeps k10
  replace b7 := b7.keeps k10
  replace kw := Keeps.trans kw k10
  have lt11 := b7.lt
  have sz12 := kw.size
  clear k10
  cases p
  · obtain ⟨rfl, rfl⟩ := HRN.out (Or.inr HP.out)
    obtain ⟨ca13, fa13⟩ := id b4
    have ca14_0 : w10.cell? ⟨w.heap.size + 1, 0, none⟩ = some (.int .i64 lv) := (b6.2 0 _ rfl).1
    have fa14_0 : w10.frozen? ⟨w.heap.size + 1, 0, none⟩ = false := (b6.2 0 _ rfl).2
    have ca14_1 : w10.cell? ⟨w.heap.size + 1, 1, none⟩ = some (.slice V n c) := (b6.2 1 _ rfl).1
    have fa14_1 : w10.frozen? ⟨w.heap.size + 1, 1, none⟩ = false := (b6.2 1 _ rfl).2
    have ca14_2 : w10.cell? ⟨w.heap.size + 1, 2, none⟩ = some (.slice H m d) := (b6.2 2 _ rfl).1
    have fa14_2 : w10.frozen? ⟨w.heap.size + 1, 2, none⟩ = false := (b6.2 2 _ rfl).2
    have ca14_3 : w10.cell? ⟨w.heap.size + 1, 3, none⟩ = some (.int .i64 sm) := (b6.2 3 _ rfl).1
    have fa14_3 : w10.frozen? ⟨w.heap.size + 1, 3, none⟩ = false := (b6.2 3 _ rfl).2
    have ca15_0 : w10.cell? ⟨w.heap.size + 1 + 1, 0, none⟩ = some (.int .i64 (i : Int)) := (b7.2 0 _ rfl).1
    have fa15_0 : w10.frozen? ⟨w.heap.size + 1 + 1, 0, none⟩ = false := (b7.2 0 _ rfl).2
    have ca15_1 : w10.cell? ⟨w.heap.size + 1 + 1, 1, none⟩ = some (.int .i64 y) := (b7.2 1 _ rfl).1
    have fa15_1 : w10.frozen? ⟨w.heap.size + 1 + 1, 1, none⟩ = false := (b7.2 1 _ rfl).2
    have ca15_2 : w10.cell? ⟨w.heap.size + 1 + 1, 2, none⟩ = some (.slice B z cz) := (b7.2 2 _ rfl).1
    have fa15_2 : w10.frozen? ⟨w.heap.size + 1 + 1, 2, none⟩ = false := (b7.2 2 _ rfl).2
    go_wp2_with fail
    clear ca13 fa13 ca14_0 fa14_0 ca14_1 fa14_1 ca14_2 fa14_2 ca14_3 fa14_3 ca15_0 fa15_0 ca15_1 fa15_1 ca15_2 fa15_2
    go_ret2
    exact ⟨rfl, kw⟩
  have hq0 : ¬ gupI ps i lv < 0 := by rw [HU.out]; omega
  have HQY := hid (show cx = ciI ps l lv vs u (pickL zs vs) ∧ cy = ceA (lv, vs, ws, sm) zs from by
    have e := HQ.out.symm.trans (HC3.out (by first | exact hq0 | exact Int.not_lt.1 hq0) HP.out)
    rw [show gupI ps i (lv, vs, ws, sm).1 = u from HU.out] at e
    injection e with a b; exact ⟨a, b⟩)
  have HLU2 := hid (HLU.out (by omega))
  clear hq0
  have hlv9 := (schB_lv rfl HS.out).1
  obtain ⟨lo7, hi7, hv7⟩ := h'.v
  have hPV0 := partL_lv hlv9 (show vsB l.length vs = true by rw [Vars.len hv7]; exact HVS.out)
  have hix := ixTo_bd (l := partL l vs) HPF.out (by rw [partL_len]; exact hPV0) vs.length (by rw [partL_len]; exact Nat.le_refl _)
  have hpb := prodTo_bd hPV0 vs.length (Nat.le_refl _)
  rw [HNL.out] at hPV0 hix hpb
  have HPV := hid hPV0
  have HCN := hid (show ciI ps l lv vs u (pickL zs vs) = (posN (lev ps lv) u : Int) * prodTo (partL l vs) n + ixTo (partL l vs) (pickL zs vs) n by unfold ciI; rw [HNL.out])
  have hp := posN_lt HLU2.out
  have hl30 := lev_len ps lv
  have hg30 := (geoB_true.1 HG.out).1
  have h86 := pow8 (k := n) hn6
  obtain ⟨L, hL⟩ : ∃ L, (lev ps lv).length = L := ⟨_, rfl⟩
  obtain ⟨P, hP⟩ : ∃ P, prodTo (partL l vs) n = P := ⟨_, rfl⟩
  obtain ⟨X, hX⟩ : ∃ X, ixTo (partL l vs) (pickL zs vs) n = X := ⟨_, rfl⟩
  obtain ⟨J, hJ⟩ : ∃ J, posN (lev ps lv) u = J := ⟨_, rfl⟩
  rw [hP, hX] at hix
  rw [hP] at hpb
  rw [hJ, hL] at hp
  rw [hL] at hl30
  rw [hJ, hP, hX] at HCN
  have HLL := hid hL
  have HPP := hid hP
  have HXX := hid hX
  have HJJ := hid hJ
  have hJ30 : J < 30 := by omega
  have hP1 : 1 ≤ P := hpb.1
  have hP2 : P ≤ 262144 := by omega
  have hX0 : 0 ≤ X := hix.1
  have hX1 : X ≤ 262144 := by omega
  have hJP := Int.mul_nonneg (show 0 ≤ (J : Int) by omega) (show 0 ≤ P by omega)
  have hJP2 := Int.mul_le_mul (show (J : Int) ≤ 30 by omega) hP2 (show 0 ≤ P by omega) (by omega)
  have hJP3 : (J : Int) * P ≤ 7864320 := by omega
  have w1_ : IntKind.i64.wrap ((J : Int) * P) = (J : Int) * P := IntWalk.i64_in _ (by omega)
  have w2_ : IntKind.i64.wrap ((J : Int) * P + X) = (J : Int) * P + X := IntWalk.i64_in _ (by omega)
  have HCX := hid (show cx = (J : Int) * P + X from HQY.out.1.trans HCN.out)
  have HNK := hid h'.ok
  clear hlv9 hv7 hPV0 hix hpb hp hl30 hg30 h86 hL hP hX hJ hJP2
  obtain ⟨ca13, fa13⟩ := id b4
  have ca14_0 : w10.cell? ⟨w.heap.size + 1, 0, none⟩ = some (.int .i64 lv) := (b6.2 0 _ rfl).1
  have fa14_0 : w10.frozen? ⟨w.heap.size + 1, 0, none⟩ = false := (b6.2 0 _ rfl).2
  have ca14_1 : w10.cell? ⟨w.heap.size + 1, 1, none⟩ = some (.slice V n c) := (b6.2 1 _ rfl).1
  have fa14_1 : w10.frozen? ⟨w.heap.size + 1, 1, none⟩ = false := (b6.2 1 _ rfl).2
  have ca14_2 : w10.cell? ⟨w.heap.size + 1, 2, none⟩ = some (.slice H m d) := (b6.2 2 _ rfl).1
  have fa14_2 : w10.frozen? ⟨w.heap.size + 1, 2, none⟩ = false := (b6.2 2 _ rfl).2
  have ca14_3 : w10.cell? ⟨w.heap.size + 1, 3, none⟩ = some (.int .i64 sm) := (b6.2 3 _ rfl).1
  have fa14_3 : w10.frozen? ⟨w.heap.size + 1, 3, none⟩ = false := (b6.2 3 _ rfl).2
  have ca15_0 : w10.cell? ⟨w.heap.size + 1 + 1, 0, none⟩ = some (.int .i64 (i : Int)) := (b7.2 0 _ rfl).1
  have fa15_0 : w10.frozen? ⟨w.heap.size + 1 + 1, 0, none⟩ = false := (b7.2 0 _ rfl).2
  have ca15_1 : w10.cell? ⟨w.heap.size + 1 + 1, 1, none⟩ = some (.int .i64 y) := (b7.2 1 _ rfl).1
  have fa15_1 : w10.frozen? ⟨w.heap.size + 1 + 1, 1, none⟩ = false := (b7.2 1 _ rfl).2
  have ca15_2 : w10.cell? ⟨w.heap.size + 1 + 1, 2, none⟩ = some (.slice B z cz) := (b7.2 2 _ rfl).1
  have fa15_2 : w10.frozen? ⟨w.heap.size + 1 + 1, 2, none⟩ = false := (b7.2 2 _ rfl).2
  go_wp2_with fail
  clear ca13 fa13 ca14_0 fa14_0 ca14_1 fa14_1 ca14_2 fa14_2 ca14_3 fa14_3 ca15_0 fa15_0 ca15_1 fa15_1 ca15_2 fa15_2
  refine (sPart_any (hV.keeps kw) (h'.keeps kw) HVS.out).mono ?_
  rintro e w16 ⟨PA, PC, rfl, mP, hC1, hC2, k16⟩
  replace b4 := b4.keeps k16
  replace b6 := b6.keeps k16
  replace b7 := b7.keeps k16
  replace kw := Keeps.trans kw k16
  have lt17 := b7.lt
  have sz18 := kw.size
  clear k16
  have hSP := part_sch mP HNK.out hC1 hC2
  clear mP
  obtain ⟨c40, -⟩ := id b4
  have c60 := (b6.2 0 _ rfl).1
  have c61 := (b6.2 1 _ rfl).1
  have c72 := (b7.2 2 _ rfl).1
  have kS := hid (show ∀ w', Keeps w16 w' → (w'.cell? ⟨w.heap.size, 0, none⟩ = some (.slice A a c0) ∧ w'.cell? ⟨w.heap.size + 1, 0, none⟩ = some (.int .i64 lv) ∧ w'.cell? ⟨w.heap.size + 1, 1, none⟩ = some (.slice V n c) ∧ w'.cell? ⟨w.heap.size + 1 + 1, 2, none⟩ = some (.slice B z cz)) from fun w' k => ⟨cell_keeps c40 k, cell_keeps c60 k, cell_keeps c61 k, cell_keeps c72 k⟩)
  obtain ⟨l9, u9, hv8⟩ := id hSP.v
  obtain ⟨ca19, fa19⟩ := id b4
  have ca20_0 : w16.cell? ⟨w.heap.size + 1, 0, none⟩ = some (.int .i64 lv) := (b6.2 0 _ rfl).1
  have fa20_0 : w16.frozen? ⟨w.heap.size + 1, 0, none⟩ = false := (b6.2 0 _ rfl).2
  have ca20_1 : w16.cell? ⟨w.heap.size + 1, 1, none⟩ = some (.slice V n c) := (b6.2 1 _ rfl).1
  have fa20_1 : w16.frozen? ⟨w.heap.size + 1, 1, none⟩ = false := (b6.2 1 _ rfl).2
  have ca20_2 : w16.cell? ⟨w.heap.size + 1, 2, none⟩ = some (.slice H m d) := (b6.2 2 _ rfl).1
  have fa20_2 : w16.frozen? ⟨w.heap.size + 1, 2, none⟩ = false := (b6.2 2 _ rfl).2
  have ca20_3 : w16.cell? ⟨w.heap.size + 1, 3, none⟩ = some (.int .i64 sm) := (b6.2 3 _ rfl).1
  have fa20_3 : w16.frozen? ⟨w.heap.size + 1, 3, none⟩ = false := (b6.2 3 _ rfl).2
  have ca21_0 : w16.cell? ⟨w.heap.size + 1 + 1, 0, none⟩ = some (.int .i64 (i : Int)) := (b7.2 0 _ rfl).1
  have fa21_0 : w16.frozen? ⟨w.heap.size + 1 + 1, 0, none⟩ = false := (b7.2 0 _ rfl).2
  have ca21_1 : w16.cell? ⟨w.heap.size + 1 + 1, 1, none⟩ = some (.int .i64 y) := (b7.2 1 _ rfl).1
  have fa21_1 : w16.frozen? ⟨w.heap.size + 1 + 1, 1, none⟩ = false := (b7.2 1 _ rfl).2
  have ca21_2 : w16.cell? ⟨w.heap.size + 1 + 1, 2, none⟩ = some (.slice B z cz) := (b7.2 2 _ rfl).1
  have fa21_2 : w16.frozen? ⟨w.heap.size + 1 + 1, 2, none⟩ = false := (b7.2 2 _ rfl).2
  go_wp2_with fail
  clear ca19 fa19 ca20_0 fa20_0 ca20_1 fa20_1 ca20_2 fa20_2 ca20_3 fa20_3 ca21_0 fa21_0 ca21_1 fa21_1 ca21_2 fa21_2
  have kW := keeps_d0 w16
  go_region_held3 (fun w' => w'.cell? ⟨w.heap.size, 0, none⟩ = some (.slice A a c0) ∧ w'.cell? ⟨w.heap.size + 1, 0, none⟩ = some (.int .i64 lv) ∧ w'.cell? ⟨w.heap.size + 1, 1, none⟩ = some (.slice V n c) ∧ w'.cell? ⟨w.heap.size + 1 + 1, 2, none⟩ = some (.slice B z cz)) (first | with_reducible exact kS.out _ (keeps_d0 _) | with_reducible exact kS.out _ kW | go_keep)
    ((first | (go_at_call 123; refine (gLevel_any (lv := lv) (c := c0) (h.keeps (Keeps.trans kw kW)) HT.out).mono ?_; rintro e wB ⟨LA, LC, rfl, mL, kB⟩; replace mL := mL.1; replace kW : Keeps w16 wB := kW.trans kB; clear kB) | (go_at_call 165; refine (callsK (l1Find_any mL HLU2.out)).mono ?_; rintro e wB ⟨rfl, kB⟩; rw [HJJ.out]; replace kW : Keeps w16 wB := kW.trans kB; clear kB) | (go_at_call 161; refine (sCount_any (c := PC) (Sl.keeps hv8 kW) HPV.out hn6).mono ?_; rintro e wB ⟨rfl, kB⟩; rw [HPP.out]; replace kW : Keeps w16 wB := kW.trans kB; clear kB) | (go_at_call 167; refine (sPick_any (c := c) (d := cz) (hV.keeps (Keeps.trans kw kW)) (hz.keeps (Keeps.trans kw kW)) (show vsB z vs = true by rw [show z = q by omega]; exact HVS.out)).mono ?_; rintro e wB ⟨YA, YC, rfl, mY, kB⟩; replace mY := mY.1; replace kW : Keeps w16 wB := kW.trans kB; clear kB) | (go_at_call 166; refine (sIndex_any (c := YC) (d := PC) mY (hSP.keeps kW) HPF.out HPV.out hn6).mono ?_; rintro e wB ⟨rfl, kB⟩; rw [HXX.out]; replace kW : Keeps w16 wB := kW.trans kB; clear kB)))
  clear kS c40 c60 c61 c72 hv8 mL mY
  replace b4 := b4.keeps kW
  replace b6 := b6.keeps kW
  replace b7 := b7.keeps kW
  replace hSP := hSP.keeps kW
  replace kw := Keeps.trans kw kW
  have lt22 := b7.lt
  have sz23 := kw.size
  clear kW
  obtain ⟨wy, rfl⟩ : ∃ u : World, u = wB := ⟨_, rfl⟩
  by_cases hs0 : sm < 0
  · have HCY := hid (show cy = 1 from HQY.out.2.trans (if_pos hs0))
    obtain ⟨ca24, fa24⟩ := id b4
    have ca25_0 : wy.cell? ⟨w.heap.size + 1, 0, none⟩ = some (.int .i64 lv) := (b6.2 0 _ rfl).1
    have fa25_0 : wy.frozen? ⟨w.heap.size + 1, 0, none⟩ = false := (b6.2 0 _ rfl).2
    have ca25_1 : wy.cell? ⟨w.heap.size + 1, 1, none⟩ = some (.slice V n c) := (b6.2 1 _ rfl).1
    have fa25_1 : wy.frozen? ⟨w.heap.size + 1, 1, none⟩ = false := (b6.2 1 _ rfl).2
    have ca25_2 : wy.cell? ⟨w.heap.size + 1, 2, none⟩ = some (.slice H m d) := (b6.2 2 _ rfl).1
    have fa25_2 : wy.frozen? ⟨w.heap.size + 1, 2, none⟩ = false := (b6.2 2 _ rfl).2
    have ca25_3 : wy.cell? ⟨w.heap.size + 1, 3, none⟩ = some (.int .i64 sm) := (b6.2 3 _ rfl).1
    have fa25_3 : wy.frozen? ⟨w.heap.size + 1, 3, none⟩ = false := (b6.2 3 _ rfl).2
    have ca26_0 : wy.cell? ⟨w.heap.size + 1 + 1, 0, none⟩ = some (.int .i64 (i : Int)) := (b7.2 0 _ rfl).1
    have fa26_0 : wy.frozen? ⟨w.heap.size + 1 + 1, 0, none⟩ = false := (b7.2 0 _ rfl).2
    have ca26_1 : wy.cell? ⟨w.heap.size + 1 + 1, 1, none⟩ = some (.int .i64 y) := (b7.2 1 _ rfl).1
    have fa26_1 : wy.frozen? ⟨w.heap.size + 1 + 1, 1, none⟩ = false := (b7.2 1 _ rfl).2
    have ca26_2 : wy.cell? ⟨w.heap.size + 1 + 1, 2, none⟩ = some (.slice B z cz) := (b7.2 2 _ rfl).1
    have fa26_2 : wy.frozen? ⟨w.heap.size + 1 + 1, 2, none⟩ = false := (b7.2 2 _ rfl).2
    go_wp2_with fail
    clear ca24 fa24 ca25_0 fa25_0 ca25_1 fa25_1 ca25_2 fa25_2 ca25_3 fa25_3 ca26_0 fa26_0 ca26_1 fa26_1 ca26_2 fa26_2
    go_ret2
    exact ⟨by rw [HCY.out, HCX.out]; rfl, kw⟩
  obtain ⟨j, rfl⟩ : ∃ j : Nat, sm = (j : Int) := ⟨sm.toNat, by omega⟩
  have hjz : j < z := by omega
  have hi2 : (j : Int) < (z : Int) := by omega
  obtain ⟨bz, oz, u9, rfl, _, _, hcu, hu9⟩ := (hz.keeps kw).at_ hjz
  have hj0 : ¬ (j : Int) < 0 := by omega
  have HCY := hid (show cy = u9 from HQY.out.2.trans ((if_neg hs0).trans (by show zs.getD ((j : Int)).toNat 0 = u9; rw [Int.toNat_natCast]; exact hu9.out.symm)))
  clear hu9
  obtain ⟨ca24, fa24⟩ := id b4
  have ca25_0 : wy.cell? ⟨w.heap.size + 1, 0, none⟩ = some (.int .i64 lv) := (b6.2 0 _ rfl).1
  have fa25_0 : wy.frozen? ⟨w.heap.size + 1, 0, none⟩ = false := (b6.2 0 _ rfl).2
  have ca25_1 : wy.cell? ⟨w.heap.size + 1, 1, none⟩ = some (.slice V n c) := (b6.2 1 _ rfl).1
  have fa25_1 : wy.frozen? ⟨w.heap.size + 1, 1, none⟩ = false := (b6.2 1 _ rfl).2
  have ca25_2 : wy.cell? ⟨w.heap.size + 1, 2, none⟩ = some (.slice H m d) := (b6.2 2 _ rfl).1
  have fa25_2 : wy.frozen? ⟨w.heap.size + 1, 2, none⟩ = false := (b6.2 2 _ rfl).2
  have ca25_3 : wy.cell? ⟨w.heap.size + 1, 3, none⟩ = some (.int .i64 (j : Int)) := (b6.2 3 _ rfl).1
  have fa25_3 : wy.frozen? ⟨w.heap.size + 1, 3, none⟩ = false := (b6.2 3 _ rfl).2
  have ca26_0 : wy.cell? ⟨w.heap.size + 1 + 1, 0, none⟩ = some (.int .i64 (i : Int)) := (b7.2 0 _ rfl).1
  have fa26_0 : wy.frozen? ⟨w.heap.size + 1 + 1, 0, none⟩ = false := (b7.2 0 _ rfl).2
  have ca26_1 : wy.cell? ⟨w.heap.size + 1 + 1, 1, none⟩ = some (.int .i64 y) := (b7.2 1 _ rfl).1
  have fa26_1 : wy.frozen? ⟨w.heap.size + 1 + 1, 1, none⟩ = false := (b7.2 1 _ rfl).2
  have ca26_2 : wy.cell? ⟨w.heap.size + 1 + 1, 2, none⟩ = some (.slice (some ⟨bz, oz, none⟩) z cz) := (b7.2 2 _ rfl).1
  have fa26_2 : wy.frozen? ⟨w.heap.size + 1 + 1, 2, none⟩ = false := (b7.2 2 _ rfl).2
  go_wp2_with fail
  go_quiet (fail)
  clear ca24 fa24 ca25_0 fa25_0 ca25_1 fa25_1 ca25_2 fa25_2 ca25_3 fa25_3 ca26_0 fa26_0 ca26_1 fa26_1 ca26_2 fa26_2
  go_wp2_with fail
  go_ret2
  exact ⟨by rw [HCY.out, HCX.out]; rfl, kw.trans (Keeps.drewN _ _)⟩
end Go.Proofs.YtohjkpopbmmliaaGreat
