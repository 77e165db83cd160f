/- HistoryLoss, FirstOverrun, CanAdd, ReleasesLeft of the program and of the reference. -/
import Derived.Test.YtohjkpopbmmliaaGreatHil
import Derived.Deep.RegionHeld3
import Derived.Lib.QuietBelow
namespace Go.Proofs.YtohjkpopbmmliaaGreat
open Go.RowKit Go.Sort
set_option linter.unusedVariables false
set_option linter.unusedSimpArgs false

theorem more_nil (w : World) : More w none 0 0 [] := .inl ⟨rfl, rfl, rfl, rfl⟩
theorem exq_fine (ls : List LQ) (x : LQ) (k : Nat) : (exq ls x k).2 = true ∨ exq ls x k = (lz, false) := comTo_fine _ _
theorem lz_of {q : LQ × Bool} {s : LQ} (h : q.2 = true ∨ q = (lz, false)) (e : q = (s, false)) : q = (lz, false) := by
  rcases h with h | h
  · rw [e] at h; cases h
  · exact h
theorem lfB_eq {b s : LQ} {q : LQ × Bool} (h : q = (s, true)) : lfB b q = wiB b s := by unfold lfB; rw [h]; rfl
theorem com_take {ls : List LQ} {k : Nat} (h1 : ls.length ≤ 30) (h : ∀ k, k < ls.length → lsB (ls.getD k lz) = true) (hk : k ≤ ls.length) : comQ (ls.take k) = comTo ls k := by
  have hl : (ls.take k).length = k := by rw [List.length_take]; omega
  rw [comQ_of (by omega) (fun j hj => ?_), hl]
  · exact comTo_take hk
  · rw [hl] at hj
    have : (ls.take k).getD j lz = ls.getD j lz := by simp [List.getD, List.getElem?_take, hj]
    rw [this]; exact h j (by omega)
theorem hisB_in1 {ps : List Int} {l : List VV} {rs : List RL} {p : Bool} (h : hisB ps l rs = false) : (hisB ps l rs && p) = false := by rw [h]; rfl

set_option maxRecDepth 100000 in
set_option maxHeartbeats 3200000 in
theorem rlFits_any {R M : Option Addr} {lo hi n c m cm : Nat} {un : Bool} {rs : List RL} {ms : List LQ} {d1 d2 d3 d4 : Int} {w : World} (hr : Rels true un w lo hi R n rs) (hm : More w M m cm ms) (hn : n ≤ 1000) (hb : lsB (d1, d2, d3, d4) = true) (hg : ∀ s, comQ (rlLs rs ++ ms) = (s, true) → lsB s = true) :
    Calls Tryz.prog 57 #[.slice R n c, .slice M m cm, .agg #[.int .i64 d1, .int .i64 d2, .int .i64 d3, .int .i64 d4]] w fun e w' => e = .returned (.bool (lfB (d1, d2, d3, d4) (comQ (rlLs rs ++ ms)))) ∧ Keeps w w' := by
  have HB := hid hb
  have HG := hid hg
  clear hb hg
  obtain ⟨r1, r2, r3, r4, p, HR⟩ : ∃ r1 r2 r3 r4 p, Hid (comQ (rlLs rs ++ ms) = ((r1, r2, r3, r4), p)) := ⟨_, _, _, _, _, rfl⟩
  go_enter Tryz.func57, Tryz.ntmps57
  have kw := keeps_refl w
  replace kw := Keeps.trans kw (keeps_alloc w (.cells #[.int .i64 d1, .int .i64 d2, .int .i64 d3, .int .i64 d4] 32))
  have b5 : Bl (w.alloc (.cells #[.int .i64 d1, .int .i64 d2, .int .i64 d3, .int .i64 d4] 32)) w.heap.size [.int .i64 d1, .int .i64 d2, .int .i64 d3, .int .i64 d4] := Bl.new' (by simp) (by simp)
  have ca1_0 : (w.alloc (.cells #[.int .i64 d1, .int .i64 d2, .int .i64 d3, .int .i64 d4] 32)).cell? ⟨w.heap.size, 0, none⟩ = some (.int .i64 d1) := (b5.2 0 _ rfl).1
  have fa1_0 : (w.alloc (.cells #[.int .i64 d1, .int .i64 d2, .int .i64 d3, .int .i64 d4] 32)).frozen? ⟨w.heap.size, 0, none⟩ = false := (b5.2 0 _ rfl).2
  have ca1_1 : (w.alloc (.cells #[.int .i64 d1, .int .i64 d2, .int .i64 d3, .int .i64 d4] 32)).cell? ⟨w.heap.size, 1, none⟩ = some (.int .i64 d2) := (b5.2 1 _ rfl).1
  have fa1_1 : (w.alloc (.cells #[.int .i64 d1, .int .i64 d2, .int .i64 d3, .int .i64 d4] 32)).frozen? ⟨w.heap.size, 1, none⟩ = false := (b5.2 1 _ rfl).2
  have ca1_2 : (w.alloc (.cells #[.int .i64 d1, .int .i64 d2, .int .i64 d3, .int .i64 d4] 32)).cell? ⟨w.heap.size, 2, none⟩ = some (.int .i64 d3) := (b5.2 2 _ rfl).1
  have fa1_2 : (w.alloc (.cells #[.int .i64 d1, .int .i64 d2, .int .i64 d3, .int .i64 d4] 32)).frozen? ⟨w.heap.size, 2, none⟩ = false := (b5.2 2 _ rfl).2
  have ca1_3 : (w.alloc (.cells #[.int .i64 d1, .int .i64 d2, .int .i64 d3, .int .i64 d4] 32)).cell? ⟨w.heap.size, 3, none⟩ = some (.int .i64 d4) := (b5.2 3 _ rfl).1
  have fa1_3 : (w.alloc (.cells #[.int .i64 d1, .int .i64 d2, .int .i64 d3, .int .i64 d4] 32)).frozen? ⟨w.heap.size, 3, none⟩ = false := (b5.2 3 _ rfl).2
  go_wp2_with fail
  clear ca1_0 fa1_0 ca1_1 fa1_1 ca1_2 fa1_2 ca1_3 fa1_3
  refine (rlSpent_any (hr.keeps kw) (hm.keeps kw) hn).mono ?_
  rintro e w2 ⟨rfl, k2⟩
  rw [HR.out]
  replace b5 := b5.keeps k2
  replace kw := Keeps.trans kw k2
  have lt3 := b5.lt
  have sz4 := kw.size
  clear k2
  replace b5 := b5.keeps (keeps_alloc w2 (.cells #[.int .i64 r1, .int .i64 r2, .int .i64 r3, .int .i64 r4] 32))
  replace kw := Keeps.trans kw (keeps_alloc w2 (.cells #[.int .i64 r1, .int .i64 r2, .int .i64 r3, .int .i64 r4] 32))
  have b7 : Bl (w2.alloc (.cells #[.int .i64 r1, .int .i64 r2, .int .i64 r3, .int .i64 r4] 32)) w2.heap.size [.int .i64 r1, .int .i64 r2, .int .i64 r3, .int .i64 r4] := Bl.new' (by simp) (by simp)
  cases p
  · have HX := hid (lfB_no (b := (d1, d2, d3, d4)) (show (comQ (rlLs rs ++ ms)).2 = false by rw [HR.out]))
    have ca5_0 : (w2.alloc (.cells #[.int .i64 r1, .int .i64 r2, .int .i64 r3, .int .i64 r4] 32)).cell? ⟨w.heap.size, 0, none⟩ = some (.int .i64 d1) := (b5.2 0 _ rfl).1
    have fa5_0 : (w2.alloc (.cells #[.int .i64 r1, .int .i64 r2, .int .i64 r3, .int .i64 r4] 32)).frozen? ⟨w.heap.size, 0, none⟩ = false := (b5.2 0 _ rfl).2
    have ca5_1 : (w2.alloc (.cells #[.int .i64 r1, .int .i64 r2, .int .i64 r3, .int .i64 r4] 32)).cell? ⟨w.heap.size, 1, none⟩ = some (.int .i64 d2) := (b5.2 1 _ rfl).1
    have fa5_1 : (w2.alloc (.cells #[.int .i64 r1, .int .i64 r2, .int .i64 r3, .int .i64 r4] 32)).frozen? ⟨w.heap.size, 1, none⟩ = false := (b5.2 1 _ rfl).2
    have ca5_2 : (w2.alloc (.cells #[.int .i64 r1, .int .i64 r2, .int .i64 r3, .int .i64 r4] 32)).cell? ⟨w.heap.size, 2, none⟩ = some (.int .i64 d3) := (b5.2 2 _ rfl).1
    have fa5_2 : (w2.alloc (.cells #[.int .i64 r1, .int .i64 r2, .int .i64 r3, .int .i64 r4] 32)).frozen? ⟨w.heap.size, 2, none⟩ = false := (b5.2 2 _ rfl).2
    have ca5_3 : (w2.alloc (.cells #[.int .i64 r1, .int .i64 r2, .int .i64 r3, .int .i64 r4] 32)).cell? ⟨w.heap.size, 3, none⟩ = some (.int .i64 d4) := (b5.2 3 _ rfl).1
    have fa5_3 : (w2.alloc (.cells #[.int .i64 r1, .int .i64 r2, .int .i64 r3, .int .i64 r4] 32)).frozen? ⟨w.heap.size, 3, none⟩ = false := (b5.2 3 _ rfl).2
    go_wp2_with fail
    clear ca5_0 fa5_0 ca5_1 fa5_1 ca5_2 fa5_2 ca5_3 fa5_3
    go_ret
    exact ⟨ret_bool HX.out.symm, kw⟩
  · skip
    have HX := hid (lfB_eq (b := (d1, d2, d3, d4)) HR.out)
    have HS := hid (HG.out _ HR.out)
    obtain ⟨z, HZ⟩ : ∃ z, Hid (wiB (d1, d2, d3, d4) (r1, r2, r3, r4) = z) := ⟨_, rfl⟩
    have ca5_0 : (w2.alloc (.cells #[.int .i64 r1, .int .i64 r2, .int .i64 r3, .int .i64 r4] 32)).cell? ⟨w.heap.size, 0, none⟩ = some (.int .i64 d1) := (b5.2 0 _ rfl).1
    have fa5_0 : (w2.alloc (.cells #[.int .i64 r1, .int .i64 r2, .int .i64 r3, .int .i64 r4] 32)).frozen? ⟨w.heap.size, 0, none⟩ = false := (b5.2 0 _ rfl).2
    have ca5_1 : (w2.alloc (.cells #[.int .i64 r1, .int .i64 r2, .int .i64 r3, .int .i64 r4] 32)).cell? ⟨w.heap.size, 1, none⟩ = some (.int .i64 d2) := (b5.2 1 _ rfl).1
    have fa5_1 : (w2.alloc (.cells #[.int .i64 r1, .int .i64 r2, .int .i64 r3, .int .i64 r4] 32)).frozen? ⟨w.heap.size, 1, none⟩ = false := (b5.2 1 _ rfl).2
    have ca5_2 : (w2.alloc (.cells #[.int .i64 r1, .int .i64 r2, .int .i64 r3, .int .i64 r4] 32)).cell? ⟨w.heap.size, 2, none⟩ = some (.int .i64 d3) := (b5.2 2 _ rfl).1
    have fa5_2 : (w2.alloc (.cells #[.int .i64 r1, .int .i64 r2, .int .i64 r3, .int .i64 r4] 32)).frozen? ⟨w.heap.size, 2, none⟩ = false := (b5.2 2 _ rfl).2
    have ca5_3 : (w2.alloc (.cells #[.int .i64 r1, .int .i64 r2, .int .i64 r3, .int .i64 r4] 32)).cell? ⟨w.heap.size, 3, none⟩ = some (.int .i64 d4) := (b5.2 3 _ rfl).1
    have fa5_3 : (w2.alloc (.cells #[.int .i64 r1, .int .i64 r2, .int .i64 r3, .int .i64 r4] 32)).frozen? ⟨w.heap.size, 3, none⟩ = false := (b5.2 3 _ rfl).2
    have ca6_0 : (w2.alloc (.cells #[.int .i64 r1, .int .i64 r2, .int .i64 r3, .int .i64 r4] 32)).cell? ⟨w2.heap.size, 0, none⟩ = some (.int .i64 r1) := (b7.2 0 _ rfl).1
    have fa6_0 : (w2.alloc (.cells #[.int .i64 r1, .int .i64 r2, .int .i64 r3, .int .i64 r4] 32)).frozen? ⟨w2.heap.size, 0, none⟩ = false := (b7.2 0 _ rfl).2
    have ca6_1 : (w2.alloc (.cells #[.int .i64 r1, .int .i64 r2, .int .i64 r3, .int .i64 r4] 32)).cell? ⟨w2.heap.size, 1, none⟩ = some (.int .i64 r2) := (b7.2 1 _ rfl).1
    have fa6_1 : (w2.alloc (.cells #[.int .i64 r1, .int .i64 r2, .int .i64 r3, .int .i64 r4] 32)).frozen? ⟨w2.heap.size, 1, none⟩ = false := (b7.2 1 _ rfl).2
    have ca6_2 : (w2.alloc (.cells #[.int .i64 r1, .int .i64 r2, .int .i64 r3, .int .i64 r4] 32)).cell? ⟨w2.heap.size, 2, none⟩ = some (.int .i64 r3) := (b7.2 2 _ rfl).1
    have fa6_2 : (w2.alloc (.cells #[.int .i64 r1, .int .i64 r2, .int .i64 r3, .int .i64 r4] 32)).frozen? ⟨w2.heap.size, 2, none⟩ = false := (b7.2 2 _ rfl).2
    have ca6_3 : (w2.alloc (.cells #[.int .i64 r1, .int .i64 r2, .int .i64 r3, .int .i64 r4] 32)).cell? ⟨w2.heap.size, 3, none⟩ = some (.int .i64 r4) := (b7.2 3 _ rfl).1
    have fa6_3 : (w2.alloc (.cells #[.int .i64 r1, .int .i64 r2, .int .i64 r3, .int .i64 r4] 32)).frozen? ⟨w2.heap.size, 3, none⟩ = false := (b7.2 3 _ rfl).2
    go_wp2_with fail
    clear ca5_0 fa5_0 ca5_1 fa5_1 ca5_2 fa5_2 ca5_3 fa5_3 ca6_0 fa6_0 ca6_1 fa6_1 ca6_2 fa6_2 ca6_3 fa6_3
    refine (IsWithin_any HB.out HS.out).mono ?_
    rintro e w7 ⟨rfl, k7⟩
    rw [HZ.out]
    replace b5 := b5.keeps k7
    replace b7 := b7.keeps k7
    replace kw := Keeps.trans kw k7
    have lt8 := b7.lt
    have sz9 := kw.size
    clear k7
    go_wp2_with fail
    go_ret
    exact ⟨ret_bool (HX.out.trans HZ.out).symm, kw⟩
set_option maxRecDepth 100000 in
set_option maxHeartbeats 6400000 in
theorem usesFrom_any {d1 d2 d3 d4 s1 s2 s3 s4 x1 x2 x3 x4 : Int} {m : Nat} {ls : List LQ} {w : World} (hb : lsB (d1, d2, d3, d4) = true) (hx : lsB (x1, x2, x3, x4) = true) (hg : ∀ k, k < ls.length → lsB (ls.getD k lz) = true) (hs : comTo ls ls.length = ((s1, s2, s3, s4), true)) (hm : m ≤ 12) :
    Calls Tryz.prog 103 #[.agg #[.int .i64 d1, .int .i64 d2, .int .i64 d3, .int .i64 d4], .agg #[.int .i64 s1, .int .i64 s2, .int .i64 s3, .int .i64 s4], .agg #[.int .i64 x1, .int .i64 x2, .int .i64 x3, .int .i64 x4], .int .i64 m] w fun e w' => e = .returned (.int .i64 (cn (d1, d2, d3, d4) (exq ls (x1, x2, x3, x4)) m : Nat)) ∧ Keeps w w' := by
  have HB := hid hb
  have HX := hid hx
  have HG := hid (fun m s e => exq_good (m := m) (s := s) hg hx e)
  have HS := hid ((exq_zero ls (x1, x2, x3, x4)).trans hs)
  clear hb hx hg hs
  go_enter Tryz.func103, Tryz.ntmps103
  have kw := keeps_refl w
  replace kw := Keeps.trans kw (keeps_alloc w (.cells #[.int .i64 d1, .int .i64 d2, .int .i64 d3, .int .i64 d4] 32))
  have b4 : Bl (w.alloc (.cells #[.int .i64 d1, .int .i64 d2, .int .i64 d3, .int .i64 d4] 32)) w.heap.size [.int .i64 d1, .int .i64 d2, .int .i64 d3, .int .i64 d4] := Bl.new' (by simp) (by simp)
  replace b4 := b4.keeps (keeps_alloc (w.alloc (.cells #[.int .i64 d1, .int .i64 d2, .int .i64 d3, .int .i64 d4] 32)) (.cells #[.int .i64 s1, .int .i64 s2, .int .i64 s3, .int .i64 s4] 32))
  replace kw := Keeps.trans kw (keeps_alloc (w.alloc (.cells #[.int .i64 d1, .int .i64 d2, .int .i64 d3, .int .i64 d4] 32)) (.cells #[.int .i64 s1, .int .i64 s2, .int .i64 s3, .int .i64 s4] 32))
  have b5 : Bl ((w.alloc (.cells #[.int .i64 d1, .int .i64 d2, .int .i64 d3, .int .i64 d4] 32)).alloc (.cells #[.int .i64 s1, .int .i64 s2, .int .i64 s3, .int .i64 s4] 32)) (w.heap.size + 1) [.int .i64 s1, .int .i64 s2, .int .i64 s3, .int .i64 s4] := Bl.new' (by simp) (by simp)
  replace b4 := b4.keeps (keeps_alloc ((w.alloc (.cells #[.int .i64 d1, .int .i64 d2, .int .i64 d3, .int .i64 d4] 32)).alloc (.cells #[.int .i64 s1, .int .i64 s2, .int .i64 s3, .int .i64 s4] 32)) (.cells #[.int .i64 x1, .int .i64 x2, .int .i64 x3, .int .i64 x4] 32))
  replace b5 := b5.keeps (keeps_alloc ((w.alloc (.cells #[.int .i64 d1, .int .i64 d2, .int .i64 d3, .int .i64 d4] 32)).alloc (.cells #[.int .i64 s1, .int .i64 s2, .int .i64 s3, .int .i64 s4] 32)) (.cells #[.int .i64 x1, .int .i64 x2, .int .i64 x3, .int .i64 x4] 32))
  replace kw := Keeps.trans kw (keeps_alloc ((w.alloc (.cells #[.int .i64 d1, .int .i64 d2, .int .i64 d3, .int .i64 d4] 32)).alloc (.cells #[.int .i64 s1, .int .i64 s2, .int .i64 s3, .int .i64 s4] 32)) (.cells #[.int .i64 x1, .int .i64 x2, .int .i64 x3, .int .i64 x4] 32))
  have b6 : Bl (((w.alloc (.cells #[.int .i64 d1, .int .i64 d2, .int .i64 d3, .int .i64 d4] 32)).alloc (.cells #[.int .i64 s1, .int .i64 s2, .int .i64 s3, .int .i64 s4] 32)).alloc (.cells #[.int .i64 x1, .int .i64 x2, .int .i64 x3, .int .i64 x4] 32)) (w.heap.size + 1 + 1) [.int .i64 x1, .int .i64 x2, .int .i64 x3, .int .i64 x4] := Bl.new' (by simp) (by simp)
  go_wp2_with fail
  go_loopw [13] (fun i wr => ∃ (k : Nat) (t1 t2 t3 t4 : Int), k ≤ m ∧ i = .int .i64 k ∧ Hid (cn (d1, d2, d3, d4) (exq ls (x1, x2, x3, x4)) k = k) ∧ Hid (exq ls (x1, x2, x3, x4) k = ((t1, t2, t3, t4), true)) ∧ Bl wr w.heap.size [.int .i64 d1, .int .i64 d2, .int .i64 d3, .int .i64 d4] ∧ Bl wr (w.heap.size + 1) [.int .i64 t1, .int .i64 t2, .int .i64 t3, .int .i64 t4] ∧ Bl wr (w.heap.size + 1 + 1) [.int .i64 x1, .int .i64 x2, .int .i64 x3, .int .i64 x4] ∧ Keeps w wr) (fun i _ => m - (intOf i).toNat)
  case atStart => exact ⟨0, _, _, _, _, Nat.zero_le _, rfl, hid rfl, HS, b4, b5, b6, kw⟩
  clear b4 b5 b6 kw
  case round =>
    obtain ⟨k, t1, t2, t3, t4, hk, rfl, HT, HE, b4, b5, b6, kw⟩ := hrel
    by_cases hlt : k < m
    · have hi1 : (k : Int) < (m : Int) := by omega
      have lt6 := b6.lt
      have HTS := hid (HG.out k _ HE.out)
      obtain ⟨r1, r2, r3, r4, p, HR⟩ : ∃ r1 r2 r3 r4 p, Hid (two (t1, t2, t3, t4) (x1, x2, x3, x4) = ((r1, r2, r3, r4), p)) := ⟨_, _, _, _, _, rfl⟩
      have HN := hid ((exq_next HE.out).trans HR.out)
      have ca1_0 : wr.cell? ⟨w.heap.size + 1, 0, none⟩ = some (.int .i64 t1) := (b5.2 0 _ rfl).1
      have fa1_0 : wr.frozen? ⟨w.heap.size + 1, 0, none⟩ = false := (b5.2 0 _ rfl).2
      have ca1_1 : wr.cell? ⟨w.heap.size + 1, 1, none⟩ = some (.int .i64 t2) := (b5.2 1 _ rfl).1
      have fa1_1 : wr.frozen? ⟨w.heap.size + 1, 1, none⟩ = false := (b5.2 1 _ rfl).2
      have ca1_2 : wr.cell? ⟨w.heap.size + 1, 2, none⟩ = some (.int .i64 t3) := (b5.2 2 _ rfl).1
      have fa1_2 : wr.frozen? ⟨w.heap.size + 1, 2, none⟩ = false := (b5.2 2 _ rfl).2
      have ca1_3 : wr.cell? ⟨w.heap.size + 1, 3, none⟩ = some (.int .i64 t4) := (b5.2 3 _ rfl).1
      have fa1_3 : wr.frozen? ⟨w.heap.size + 1, 3, none⟩ = false := (b5.2 3 _ rfl).2
      have ca2_0 : wr.cell? ⟨w.heap.size + 1 + 1, 0, none⟩ = some (.int .i64 x1) := (b6.2 0 _ rfl).1
      have fa2_0 : wr.frozen? ⟨w.heap.size + 1 + 1, 0, none⟩ = false := (b6.2 0 _ rfl).2
      have ca2_1 : wr.cell? ⟨w.heap.size + 1 + 1, 1, none⟩ = some (.int .i64 x2) := (b6.2 1 _ rfl).1
      have fa2_1 : wr.frozen? ⟨w.heap.size + 1 + 1, 1, none⟩ = false := (b6.2 1 _ rfl).2
      have ca2_2 : wr.cell? ⟨w.heap.size + 1 + 1, 2, none⟩ = some (.int .i64 x3) := (b6.2 2 _ rfl).1
      have fa2_2 : wr.frozen? ⟨w.heap.size + 1 + 1, 2, none⟩ = false := (b6.2 2 _ rfl).2
      have ca2_3 : wr.cell? ⟨w.heap.size + 1 + 1, 3, none⟩ = some (.int .i64 x4) := (b6.2 3 _ rfl).1
      have fa2_3 : wr.frozen? ⟨w.heap.size + 1 + 1, 3, none⟩ = false := (b6.2 3 _ rfl).2
      go_wp2_with fail
      clear ca1_0 fa1_0 ca1_1 fa1_1 ca1_2 fa1_2 ca1_3 fa1_3 ca2_0 fa2_0 ca2_1 fa2_1 ca2_2 fa2_2 ca2_3 fa2_3
      refine (composed_any HTS.out HX.out).mono ?_
      rintro e w3 ⟨rfl, k3⟩
      rw [HR.out]
      replace b4 := b4.keeps k3
      replace b5 := b5.keeps k3
      replace b6 := b6.keeps k3
      replace kw := Keeps.trans kw k3
      have lt4 := b6.lt
      have sz5 := kw.size
      clear k3
      replace b4 := b4.keeps (keeps_alloc w3 (.cells #[.int .i64 r1, .int .i64 r2, .int .i64 r3, .int .i64 r4] 32))
      replace b5 := b5.keeps (keeps_alloc w3 (.cells #[.int .i64 r1, .int .i64 r2, .int .i64 r3, .int .i64 r4] 32))
      replace b6 := b6.keeps (keeps_alloc w3 (.cells #[.int .i64 r1, .int .i64 r2, .int .i64 r3, .int .i64 r4] 32))
      replace kw := Keeps.trans kw (keeps_alloc w3 (.cells #[.int .i64 r1, .int .i64 r2, .int .i64 r3, .int .i64 r4] 32))
      have b10 : Bl (w3.alloc (.cells #[.int .i64 r1, .int .i64 r2, .int .i64 r3, .int .i64 r4] 32)) w3.heap.size [.int .i64 r1, .int .i64 r2, .int .i64 r3, .int .i64 r4] := Bl.new' (by simp) (by simp)
      cases p
      · have HF := hid (cn_no HT.out (lfB_no (by rw [HN.out])) hlt)
        have ca6_0 : (w3.alloc (.cells #[.int .i64 r1, .int .i64 r2, .int .i64 r3, .int .i64 r4] 32)).cell? ⟨w.heap.size, 0, none⟩ = some (.int .i64 d1) := (b4.2 0 _ rfl).1
        have fa6_0 : (w3.alloc (.cells #[.int .i64 r1, .int .i64 r2, .int .i64 r3, .int .i64 r4] 32)).frozen? ⟨w.heap.size, 0, none⟩ = false := (b4.2 0 _ rfl).2
        have ca6_1 : (w3.alloc (.cells #[.int .i64 r1, .int .i64 r2, .int .i64 r3, .int .i64 r4] 32)).cell? ⟨w.heap.size, 1, none⟩ = some (.int .i64 d2) := (b4.2 1 _ rfl).1
        have fa6_1 : (w3.alloc (.cells #[.int .i64 r1, .int .i64 r2, .int .i64 r3, .int .i64 r4] 32)).frozen? ⟨w.heap.size, 1, none⟩ = false := (b4.2 1 _ rfl).2
        have ca6_2 : (w3.alloc (.cells #[.int .i64 r1, .int .i64 r2, .int .i64 r3, .int .i64 r4] 32)).cell? ⟨w.heap.size, 2, none⟩ = some (.int .i64 d3) := (b4.2 2 _ rfl).1
        have fa6_2 : (w3.alloc (.cells #[.int .i64 r1, .int .i64 r2, .int .i64 r3, .int .i64 r4] 32)).frozen? ⟨w.heap.size, 2, none⟩ = false := (b4.2 2 _ rfl).2
        have ca6_3 : (w3.alloc (.cells #[.int .i64 r1, .int .i64 r2, .int .i64 r3, .int .i64 r4] 32)).cell? ⟨w.heap.size, 3, none⟩ = some (.int .i64 d4) := (b4.2 3 _ rfl).1
        have fa6_3 : (w3.alloc (.cells #[.int .i64 r1, .int .i64 r2, .int .i64 r3, .int .i64 r4] 32)).frozen? ⟨w.heap.size, 3, none⟩ = false := (b4.2 3 _ rfl).2
        have ca7_0 : (w3.alloc (.cells #[.int .i64 r1, .int .i64 r2, .int .i64 r3, .int .i64 r4] 32)).cell? ⟨w3.heap.size, 0, none⟩ = some (.int .i64 r1) := (b10.2 0 _ rfl).1
        have fa7_0 : (w3.alloc (.cells #[.int .i64 r1, .int .i64 r2, .int .i64 r3, .int .i64 r4] 32)).frozen? ⟨w3.heap.size, 0, none⟩ = false := (b10.2 0 _ rfl).2
        have ca7_1 : (w3.alloc (.cells #[.int .i64 r1, .int .i64 r2, .int .i64 r3, .int .i64 r4] 32)).cell? ⟨w3.heap.size, 1, none⟩ = some (.int .i64 r2) := (b10.2 1 _ rfl).1
        have fa7_1 : (w3.alloc (.cells #[.int .i64 r1, .int .i64 r2, .int .i64 r3, .int .i64 r4] 32)).frozen? ⟨w3.heap.size, 1, none⟩ = false := (b10.2 1 _ rfl).2
        have ca7_2 : (w3.alloc (.cells #[.int .i64 r1, .int .i64 r2, .int .i64 r3, .int .i64 r4] 32)).cell? ⟨w3.heap.size, 2, none⟩ = some (.int .i64 r3) := (b10.2 2 _ rfl).1
        have fa7_2 : (w3.alloc (.cells #[.int .i64 r1, .int .i64 r2, .int .i64 r3, .int .i64 r4] 32)).frozen? ⟨w3.heap.size, 2, none⟩ = false := (b10.2 2 _ rfl).2
        have ca7_3 : (w3.alloc (.cells #[.int .i64 r1, .int .i64 r2, .int .i64 r3, .int .i64 r4] 32)).cell? ⟨w3.heap.size, 3, none⟩ = some (.int .i64 r4) := (b10.2 3 _ rfl).1
        have fa7_3 : (w3.alloc (.cells #[.int .i64 r1, .int .i64 r2, .int .i64 r3, .int .i64 r4] 32)).frozen? ⟨w3.heap.size, 3, none⟩ = false := (b10.2 3 _ rfl).2
        go_wp2_with fail
        clear ca6_0 fa6_0 ca6_1 fa6_1 ca6_2 fa6_2 ca6_3 fa6_3 ca7_0 fa7_0 ca7_1 fa7_1 ca7_2 fa7_2 ca7_3 fa7_3
        go_ret
        exact ⟨ret_int (by rw [HF.out]), kw⟩
      · skip
        have HRS := hid (HG.out (k + 1) _ HN.out)
        obtain ⟨z, HZ⟩ : ∃ z, Hid (wiB (d1, d2, d3, d4) (r1, r2, r3, r4) = z) := ⟨_, rfl⟩
        have HL := hid ((lfB_eq (b := (d1, d2, d3, d4)) HN.out).trans HZ.out)
        have ca6_0 : (w3.alloc (.cells #[.int .i64 r1, .int .i64 r2, .int .i64 r3, .int .i64 r4] 32)).cell? ⟨w.heap.size, 0, none⟩ = some (.int .i64 d1) := (b4.2 0 _ rfl).1
        have fa6_0 : (w3.alloc (.cells #[.int .i64 r1, .int .i64 r2, .int .i64 r3, .int .i64 r4] 32)).frozen? ⟨w.heap.size, 0, none⟩ = false := (b4.2 0 _ rfl).2
        have ca6_1 : (w3.alloc (.cells #[.int .i64 r1, .int .i64 r2, .int .i64 r3, .int .i64 r4] 32)).cell? ⟨w.heap.size, 1, none⟩ = some (.int .i64 d2) := (b4.2 1 _ rfl).1
        have fa6_1 : (w3.alloc (.cells #[.int .i64 r1, .int .i64 r2, .int .i64 r3, .int .i64 r4] 32)).frozen? ⟨w.heap.size, 1, none⟩ = false := (b4.2 1 _ rfl).2
        have ca6_2 : (w3.alloc (.cells #[.int .i64 r1, .int .i64 r2, .int .i64 r3, .int .i64 r4] 32)).cell? ⟨w.heap.size, 2, none⟩ = some (.int .i64 d3) := (b4.2 2 _ rfl).1
        have fa6_2 : (w3.alloc (.cells #[.int .i64 r1, .int .i64 r2, .int .i64 r3, .int .i64 r4] 32)).frozen? ⟨w.heap.size, 2, none⟩ = false := (b4.2 2 _ rfl).2
        have ca6_3 : (w3.alloc (.cells #[.int .i64 r1, .int .i64 r2, .int .i64 r3, .int .i64 r4] 32)).cell? ⟨w.heap.size, 3, none⟩ = some (.int .i64 d4) := (b4.2 3 _ rfl).1
        have fa6_3 : (w3.alloc (.cells #[.int .i64 r1, .int .i64 r2, .int .i64 r3, .int .i64 r4] 32)).frozen? ⟨w.heap.size, 3, none⟩ = false := (b4.2 3 _ rfl).2
        have ca7_0 : (w3.alloc (.cells #[.int .i64 r1, .int .i64 r2, .int .i64 r3, .int .i64 r4] 32)).cell? ⟨w3.heap.size, 0, none⟩ = some (.int .i64 r1) := (b10.2 0 _ rfl).1
        have fa7_0 : (w3.alloc (.cells #[.int .i64 r1, .int .i64 r2, .int .i64 r3, .int .i64 r4] 32)).frozen? ⟨w3.heap.size, 0, none⟩ = false := (b10.2 0 _ rfl).2
        have ca7_1 : (w3.alloc (.cells #[.int .i64 r1, .int .i64 r2, .int .i64 r3, .int .i64 r4] 32)).cell? ⟨w3.heap.size, 1, none⟩ = some (.int .i64 r2) := (b10.2 1 _ rfl).1
        have fa7_1 : (w3.alloc (.cells #[.int .i64 r1, .int .i64 r2, .int .i64 r3, .int .i64 r4] 32)).frozen? ⟨w3.heap.size, 1, none⟩ = false := (b10.2 1 _ rfl).2
        have ca7_2 : (w3.alloc (.cells #[.int .i64 r1, .int .i64 r2, .int .i64 r3, .int .i64 r4] 32)).cell? ⟨w3.heap.size, 2, none⟩ = some (.int .i64 r3) := (b10.2 2 _ rfl).1
        have fa7_2 : (w3.alloc (.cells #[.int .i64 r1, .int .i64 r2, .int .i64 r3, .int .i64 r4] 32)).frozen? ⟨w3.heap.size, 2, none⟩ = false := (b10.2 2 _ rfl).2
        have ca7_3 : (w3.alloc (.cells #[.int .i64 r1, .int .i64 r2, .int .i64 r3, .int .i64 r4] 32)).cell? ⟨w3.heap.size, 3, none⟩ = some (.int .i64 r4) := (b10.2 3 _ rfl).1
        have fa7_3 : (w3.alloc (.cells #[.int .i64 r1, .int .i64 r2, .int .i64 r3, .int .i64 r4] 32)).frozen? ⟨w3.heap.size, 3, none⟩ = false := (b10.2 3 _ rfl).2
        go_wp2_with fail
        clear ca6_0 fa6_0 ca6_1 fa6_1 ca6_2 fa6_2 ca6_3 fa6_3 ca7_0 fa7_0 ca7_1 fa7_1 ca7_2 fa7_2 ca7_3 fa7_3
        refine (isWithin_any HB.out HRS.out).mono ?_
        rintro e w8 ⟨rfl, k8⟩
        rw [HZ.out]
        replace b4 := b4.keeps k8
        replace b5 := b5.keeps k8
        replace b6 := b6.keeps k8
        replace b10 := b10.keeps k8
        replace kw := Keeps.trans kw k8
        have lt9 := b10.lt
        have sz10 := kw.size
        clear k8
        cases z
        · have HF := hid (cn_no HT.out HL.out hlt)
          have ca11_0 : w8.cell? ⟨w.heap.size, 0, none⟩ = some (.int .i64 d1) := (b4.2 0 _ rfl).1
          have fa11_0 : w8.frozen? ⟨w.heap.size, 0, none⟩ = false := (b4.2 0 _ rfl).2
          have ca11_1 : w8.cell? ⟨w.heap.size, 1, none⟩ = some (.int .i64 d2) := (b4.2 1 _ rfl).1
          have fa11_1 : w8.frozen? ⟨w.heap.size, 1, none⟩ = false := (b4.2 1 _ rfl).2
          have ca11_2 : w8.cell? ⟨w.heap.size, 2, none⟩ = some (.int .i64 d3) := (b4.2 2 _ rfl).1
          have fa11_2 : w8.frozen? ⟨w.heap.size, 2, none⟩ = false := (b4.2 2 _ rfl).2
          have ca11_3 : w8.cell? ⟨w.heap.size, 3, none⟩ = some (.int .i64 d4) := (b4.2 3 _ rfl).1
          have fa11_3 : w8.frozen? ⟨w.heap.size, 3, none⟩ = false := (b4.2 3 _ rfl).2
          have ca12_0 : w8.cell? ⟨w3.heap.size, 0, none⟩ = some (.int .i64 r1) := (b10.2 0 _ rfl).1
          have fa12_0 : w8.frozen? ⟨w3.heap.size, 0, none⟩ = false := (b10.2 0 _ rfl).2
          have ca12_1 : w8.cell? ⟨w3.heap.size, 1, none⟩ = some (.int .i64 r2) := (b10.2 1 _ rfl).1
          have fa12_1 : w8.frozen? ⟨w3.heap.size, 1, none⟩ = false := (b10.2 1 _ rfl).2
          have ca12_2 : w8.cell? ⟨w3.heap.size, 2, none⟩ = some (.int .i64 r3) := (b10.2 2 _ rfl).1
          have fa12_2 : w8.frozen? ⟨w3.heap.size, 2, none⟩ = false := (b10.2 2 _ rfl).2
          have ca12_3 : w8.cell? ⟨w3.heap.size, 3, none⟩ = some (.int .i64 r4) := (b10.2 3 _ rfl).1
          have fa12_3 : w8.frozen? ⟨w3.heap.size, 3, none⟩ = false := (b10.2 3 _ rfl).2
          go_wp2_with fail
          clear ca11_0 fa11_0 ca11_1 fa11_1 ca11_2 fa11_2 ca11_3 fa11_3 ca12_0 fa12_0 ca12_1 fa12_1 ca12_2 fa12_2 ca12_3 fa12_3
          go_ret
          exact ⟨ret_int (by rw [HF.out]), kw⟩
        have HM := hid (cn_yes HT.out HL.out)
        have ca11_0 : w8.cell? ⟨w3.heap.size, 0, none⟩ = some (.int .i64 r1) := (b10.2 0 _ rfl).1
        have fa11_0 : w8.frozen? ⟨w3.heap.size, 0, none⟩ = false := (b10.2 0 _ rfl).2
        have ca11_1 : w8.cell? ⟨w3.heap.size, 1, none⟩ = some (.int .i64 r2) := (b10.2 1 _ rfl).1
        have fa11_1 : w8.frozen? ⟨w3.heap.size, 1, none⟩ = false := (b10.2 1 _ rfl).2
        have ca11_2 : w8.cell? ⟨w3.heap.size, 2, none⟩ = some (.int .i64 r3) := (b10.2 2 _ rfl).1
        have fa11_2 : w8.frozen? ⟨w3.heap.size, 2, none⟩ = false := (b10.2 2 _ rfl).2
        have ca11_3 : w8.cell? ⟨w3.heap.size, 3, none⟩ = some (.int .i64 r4) := (b10.2 3 _ rfl).1
        have fa11_3 : w8.frozen? ⟨w3.heap.size, 3, none⟩ = false := (b10.2 3 _ rfl).2
        have ca12_0 : w8.cell? ⟨w.heap.size + 1, 0, none⟩ = some (.int .i64 t1) := (b5.2 0 _ rfl).1
        have fa12_0 : w8.frozen? ⟨w.heap.size + 1, 0, none⟩ = false := (b5.2 0 _ rfl).2
        have ca12_1 : w8.cell? ⟨w.heap.size + 1, 1, none⟩ = some (.int .i64 t2) := (b5.2 1 _ rfl).1
        have fa12_1 : w8.frozen? ⟨w.heap.size + 1, 1, none⟩ = false := (b5.2 1 _ rfl).2
        have ca12_2 : w8.cell? ⟨w.heap.size + 1, 2, none⟩ = some (.int .i64 t3) := (b5.2 2 _ rfl).1
        have fa12_2 : w8.frozen? ⟨w.heap.size + 1, 2, none⟩ = false := (b5.2 2 _ rfl).2
        have ca12_3 : w8.cell? ⟨w.heap.size + 1, 3, none⟩ = some (.int .i64 t4) := (b5.2 3 _ rfl).1
        have fa12_3 : w8.frozen? ⟨w.heap.size + 1, 3, none⟩ = false := (b5.2 3 _ rfl).2
        replace b4 := b4.far (p := ⟨w.heap.size + 1, 0, none⟩) (by show _ ≠ (w.heap.size + 1); omega) (.int .i64 r1)
        replace b6 := b6.far (p := ⟨w.heap.size + 1, 0, none⟩) (by show _ ≠ (w.heap.size + 1); omega) (.int .i64 r1)
        replace b10 := b10.far (p := ⟨w.heap.size + 1, 0, none⟩) (by show _ ≠ (w.heap.size + 1); omega) (.int .i64 r1)
        replace kw := Below.setCell kw (p := ⟨w.heap.size + 1, 0, none⟩) (by show _ ≤ (w.heap.size + 1); omega) (.int .i64 r1)
        replace b5 : Bl (w8.setCell ⟨w.heap.size + 1, 0, none⟩ (.int .i64 r1)) (w.heap.size + 1) [.int .i64 r1, .int .i64 t2, .int .i64 t3, .int .i64 t4] := b5.set 0 (.int .i64 r1)
        replace b4 := b4.far (p := ⟨w.heap.size + 1, 1, none⟩) (by show _ ≠ (w.heap.size + 1); omega) (.int .i64 r2)
        replace b6 := b6.far (p := ⟨w.heap.size + 1, 1, none⟩) (by show _ ≠ (w.heap.size + 1); omega) (.int .i64 r2)
        replace b10 := b10.far (p := ⟨w.heap.size + 1, 1, none⟩) (by show _ ≠ (w.heap.size + 1); omega) (.int .i64 r2)
        replace kw := Below.setCell kw (p := ⟨w.heap.size + 1, 1, none⟩) (by show _ ≤ (w.heap.size + 1); omega) (.int .i64 r2)
        replace b5 : Bl ((w8.setCell ⟨w.heap.size + 1, 0, none⟩ (.int .i64 r1)).setCell ⟨w.heap.size + 1, 1, none⟩ (.int .i64 r2)) (w.heap.size + 1) [.int .i64 r1, .int .i64 r2, .int .i64 t3, .int .i64 t4] := b5.set 1 (.int .i64 r2)
        replace b4 := b4.far (p := ⟨w.heap.size + 1, 2, none⟩) (by show _ ≠ (w.heap.size + 1); omega) (.int .i64 r3)
        replace b6 := b6.far (p := ⟨w.heap.size + 1, 2, none⟩) (by show _ ≠ (w.heap.size + 1); omega) (.int .i64 r3)
        replace b10 := b10.far (p := ⟨w.heap.size + 1, 2, none⟩) (by show _ ≠ (w.heap.size + 1); omega) (.int .i64 r3)
        replace kw := Below.setCell kw (p := ⟨w.heap.size + 1, 2, none⟩) (by show _ ≤ (w.heap.size + 1); omega) (.int .i64 r3)
        replace b5 : Bl (((w8.setCell ⟨w.heap.size + 1, 0, none⟩ (.int .i64 r1)).setCell ⟨w.heap.size + 1, 1, none⟩ (.int .i64 r2)).setCell ⟨w.heap.size + 1, 2, none⟩ (.int .i64 r3)) (w.heap.size + 1) [.int .i64 r1, .int .i64 r2, .int .i64 r3, .int .i64 t4] := b5.set 2 (.int .i64 r3)
        replace b4 := b4.far (p := ⟨w.heap.size + 1, 3, none⟩) (by show _ ≠ (w.heap.size + 1); omega) (.int .i64 r4)
        replace b6 := b6.far (p := ⟨w.heap.size + 1, 3, none⟩) (by show _ ≠ (w.heap.size + 1); omega) (.int .i64 r4)
        replace b10 := b10.far (p := ⟨w.heap.size + 1, 3, none⟩) (by show _ ≠ (w.heap.size + 1); omega) (.int .i64 r4)
        replace kw := Below.setCell kw (p := ⟨w.heap.size + 1, 3, none⟩) (by show _ ≤ (w.heap.size + 1); omega) (.int .i64 r4)
        replace b5 : Bl ((((w8.setCell ⟨w.heap.size + 1, 0, none⟩ (.int .i64 r1)).setCell ⟨w.heap.size + 1, 1, none⟩ (.int .i64 r2)).setCell ⟨w.heap.size + 1, 2, none⟩ (.int .i64 r3)).setCell ⟨w.heap.size + 1, 3, none⟩ (.int .i64 r4)) (w.heap.size + 1) [.int .i64 r1, .int .i64 r2, .int .i64 r3, .int .i64 r4] := b5.set 3 (.int .i64 r4)
        clear b10
        go_wp2_with fail
        clear ca11_0 fa11_0 ca11_1 fa11_1 ca11_2 fa11_2 ca11_3 fa11_3 ca12_0 fa12_0 ca12_1 fa12_1 ca12_2 fa12_2 ca12_3 fa12_3
        go_roundw
        case rel => exact ⟨k + 1, r1, r2, r3, r4, by omega, by go_num, HM, HN, b4, b5, b6, kw⟩
        case measure => simp [intOf]; omega
    · obtain rfl : k = m := by omega
      go_wp2
      go_ret
      exact ⟨ret_int (by rw [HT.out]), kw⟩
set_option maxRecDepth 100000 in
set_option maxHeartbeats 3200000 in
theorem usesLeft_any {R : Option Addr} {lo hi n c : Nat} {un : Bool} {ps : List Int} {l : List VV} {rs : List RL} {d1 d2 d3 d4 x1 x2 x3 x4 : Int} {w : World} (hr : Rels true un w lo hi R n rs) (hh : hisB ps l rs = true) (hb : lsB (d1, d2, d3, d4) = true) (hx : lsB (x1, x2, x3, x4) = true) :
    Calls Tryz.prog 56 #[.slice R n c, .agg #[.int .i64 d1, .int .i64 d2, .int .i64 d3, .int .i64 d4], .agg #[.int .i64 x1, .int .i64 x2, .int .i64 x3, .int .i64 x4]] w fun e w' => e = .returned (.int .i64 (cn (d1, d2, d3, d4) (exq (rlLs rs) (x1, x2, x3, x4)) (12 - n) : Nat)) ∧ Keeps w w' := by
  have HB := hid hb
  have HX := hid hx
  have h12 := (his_loss hh).1
  have HRL := hid hr.len
  rw [HRL.out] at h12
  have HLS := hid (his_loss hh).2
  have HLN := hid (show (rlLs rs).length = n by rw [rlLs_len, HRL.out])
  have HG := hid (fun k (hk : k < (rlLs rs).length) => HLS.out k (by rw [← rlLs_len]; exact hk))
  obtain ⟨r1, r2, r3, r4, p, HR⟩ : ∃ r1 r2 r3 r4 p, Hid (comQ (rlLs rs) = ((r1, r2, r3, r4), p)) := ⟨_, _, _, _, _, rfl⟩
  have HC := hid ((comQ_of (show (rlLs rs).length ≤ 30 by rw [HLN.out]; omega) HG.out).symm.trans HR.out)
  clear hb hx hh
  go_enter Tryz.func56, Tryz.ntmps56
  have kw := keeps_refl w
  replace kw := Keeps.trans kw (keeps_alloc w (.cells #[.int .i64 d1, .int .i64 d2, .int .i64 d3, .int .i64 d4] 32))
  have b4 : Bl (w.alloc (.cells #[.int .i64 d1, .int .i64 d2, .int .i64 d3, .int .i64 d4] 32)) w.heap.size [.int .i64 d1, .int .i64 d2, .int .i64 d3, .int .i64 d4] := Bl.new' (by simp) (by simp)
  replace b4 := b4.keeps (keeps_alloc (w.alloc (.cells #[.int .i64 d1, .int .i64 d2, .int .i64 d3, .int .i64 d4] 32)) (.cells #[.int .i64 x1, .int .i64 x2, .int .i64 x3, .int .i64 x4] 32))
  replace kw := Keeps.trans kw (keeps_alloc (w.alloc (.cells #[.int .i64 d1, .int .i64 d2, .int .i64 d3, .int .i64 d4] 32)) (.cells #[.int .i64 x1, .int .i64 x2, .int .i64 x3, .int .i64 x4] 32))
  have b5 : Bl ((w.alloc (.cells #[.int .i64 d1, .int .i64 d2, .int .i64 d3, .int .i64 d4] 32)).alloc (.cells #[.int .i64 x1, .int .i64 x2, .int .i64 x3, .int .i64 x4] 32)) (w.heap.size + 1) [.int .i64 x1, .int .i64 x2, .int .i64 x3, .int .i64 x4] := Bl.new' (by simp) (by simp)
  go_wp2_with fail
  refine (historyLoss_any (hr.keeps kw)).mono ?_
  rintro e w1 ⟨rfl, k1⟩
  rw [HR.out]
  replace b4 := b4.keeps k1
  replace b5 := b5.keeps k1
  replace kw := Keeps.trans kw k1
  have lt2 := b5.lt
  have sz3 := kw.size
  clear k1
  replace b4 := b4.keeps (keeps_alloc w1 (.cells #[.int .i64 r1, .int .i64 r2, .int .i64 r3, .int .i64 r4] 32))
  replace b5 := b5.keeps (keeps_alloc w1 (.cells #[.int .i64 r1, .int .i64 r2, .int .i64 r3, .int .i64 r4] 32))
  replace kw := Keeps.trans kw (keeps_alloc w1 (.cells #[.int .i64 r1, .int .i64 r2, .int .i64 r3, .int .i64 r4] 32))
  have b7 : Bl (w1.alloc (.cells #[.int .i64 r1, .int .i64 r2, .int .i64 r3, .int .i64 r4] 32)) w1.heap.size [.int .i64 r1, .int .i64 r2, .int .i64 r3, .int .i64 r4] := Bl.new' (by simp) (by simp)
  cases p
  · have HZ := hid (show cn (d1, d2, d3, d4) (exq (rlLs rs) (x1, x2, x3, x4)) (12 - n) = 0 by
      have h0 := comTo_fine (rlLs rs) (rlLs rs).length
      have h1 := exq_stop (x := (x1, x2, x3, x4)) (k := 1) (lz_of h0 HC.out)
      by_cases hz : 12 - n = 0
      · rw [hz]; rfl
      · exact cn_no rfl (lfB_no (by rw [h1])) (by omega))
    go_wp2_with fail
    go_ret
    exact ⟨ret_int (by rw [HZ.out]; rfl), kw⟩
  · skip
    have hn12 : (12 : Int) - (n : Int) = ((12 - n : Nat) : Int) := by omega
    have ca4_0 : (w1.alloc (.cells #[.int .i64 r1, .int .i64 r2, .int .i64 r3, .int .i64 r4] 32)).cell? ⟨w.heap.size, 0, none⟩ = some (.int .i64 d1) := (b4.2 0 _ rfl).1
    have fa4_0 : (w1.alloc (.cells #[.int .i64 r1, .int .i64 r2, .int .i64 r3, .int .i64 r4] 32)).frozen? ⟨w.heap.size, 0, none⟩ = false := (b4.2 0 _ rfl).2
    have ca4_1 : (w1.alloc (.cells #[.int .i64 r1, .int .i64 r2, .int .i64 r3, .int .i64 r4] 32)).cell? ⟨w.heap.size, 1, none⟩ = some (.int .i64 d2) := (b4.2 1 _ rfl).1
    have fa4_1 : (w1.alloc (.cells #[.int .i64 r1, .int .i64 r2, .int .i64 r3, .int .i64 r4] 32)).frozen? ⟨w.heap.size, 1, none⟩ = false := (b4.2 1 _ rfl).2
    have ca4_2 : (w1.alloc (.cells #[.int .i64 r1, .int .i64 r2, .int .i64 r3, .int .i64 r4] 32)).cell? ⟨w.heap.size, 2, none⟩ = some (.int .i64 d3) := (b4.2 2 _ rfl).1
    have fa4_2 : (w1.alloc (.cells #[.int .i64 r1, .int .i64 r2, .int .i64 r3, .int .i64 r4] 32)).frozen? ⟨w.heap.size, 2, none⟩ = false := (b4.2 2 _ rfl).2
    have ca4_3 : (w1.alloc (.cells #[.int .i64 r1, .int .i64 r2, .int .i64 r3, .int .i64 r4] 32)).cell? ⟨w.heap.size, 3, none⟩ = some (.int .i64 d4) := (b4.2 3 _ rfl).1
    have fa4_3 : (w1.alloc (.cells #[.int .i64 r1, .int .i64 r2, .int .i64 r3, .int .i64 r4] 32)).frozen? ⟨w.heap.size, 3, none⟩ = false := (b4.2 3 _ rfl).2
    have ca5_0 : (w1.alloc (.cells #[.int .i64 r1, .int .i64 r2, .int .i64 r3, .int .i64 r4] 32)).cell? ⟨w.heap.size + 1, 0, none⟩ = some (.int .i64 x1) := (b5.2 0 _ rfl).1
    have fa5_0 : (w1.alloc (.cells #[.int .i64 r1, .int .i64 r2, .int .i64 r3, .int .i64 r4] 32)).frozen? ⟨w.heap.size + 1, 0, none⟩ = false := (b5.2 0 _ rfl).2
    have ca5_1 : (w1.alloc (.cells #[.int .i64 r1, .int .i64 r2, .int .i64 r3, .int .i64 r4] 32)).cell? ⟨w.heap.size + 1, 1, none⟩ = some (.int .i64 x2) := (b5.2 1 _ rfl).1
    have fa5_1 : (w1.alloc (.cells #[.int .i64 r1, .int .i64 r2, .int .i64 r3, .int .i64 r4] 32)).frozen? ⟨w.heap.size + 1, 1, none⟩ = false := (b5.2 1 _ rfl).2
    have ca5_2 : (w1.alloc (.cells #[.int .i64 r1, .int .i64 r2, .int .i64 r3, .int .i64 r4] 32)).cell? ⟨w.heap.size + 1, 2, none⟩ = some (.int .i64 x3) := (b5.2 2 _ rfl).1
    have fa5_2 : (w1.alloc (.cells #[.int .i64 r1, .int .i64 r2, .int .i64 r3, .int .i64 r4] 32)).frozen? ⟨w.heap.size + 1, 2, none⟩ = false := (b5.2 2 _ rfl).2
    have ca5_3 : (w1.alloc (.cells #[.int .i64 r1, .int .i64 r2, .int .i64 r3, .int .i64 r4] 32)).cell? ⟨w.heap.size + 1, 3, none⟩ = some (.int .i64 x4) := (b5.2 3 _ rfl).1
    have fa5_3 : (w1.alloc (.cells #[.int .i64 r1, .int .i64 r2, .int .i64 r3, .int .i64 r4] 32)).frozen? ⟨w.heap.size + 1, 3, none⟩ = false := (b5.2 3 _ rfl).2
    have ca6_0 : (w1.alloc (.cells #[.int .i64 r1, .int .i64 r2, .int .i64 r3, .int .i64 r4] 32)).cell? ⟨w1.heap.size, 0, none⟩ = some (.int .i64 r1) := (b7.2 0 _ rfl).1
    have fa6_0 : (w1.alloc (.cells #[.int .i64 r1, .int .i64 r2, .int .i64 r3, .int .i64 r4] 32)).frozen? ⟨w1.heap.size, 0, none⟩ = false := (b7.2 0 _ rfl).2
    have ca6_1 : (w1.alloc (.cells #[.int .i64 r1, .int .i64 r2, .int .i64 r3, .int .i64 r4] 32)).cell? ⟨w1.heap.size, 1, none⟩ = some (.int .i64 r2) := (b7.2 1 _ rfl).1
    have fa6_1 : (w1.alloc (.cells #[.int .i64 r1, .int .i64 r2, .int .i64 r3, .int .i64 r4] 32)).frozen? ⟨w1.heap.size, 1, none⟩ = false := (b7.2 1 _ rfl).2
    have ca6_2 : (w1.alloc (.cells #[.int .i64 r1, .int .i64 r2, .int .i64 r3, .int .i64 r4] 32)).cell? ⟨w1.heap.size, 2, none⟩ = some (.int .i64 r3) := (b7.2 2 _ rfl).1
    have fa6_2 : (w1.alloc (.cells #[.int .i64 r1, .int .i64 r2, .int .i64 r3, .int .i64 r4] 32)).frozen? ⟨w1.heap.size, 2, none⟩ = false := (b7.2 2 _ rfl).2
    have ca6_3 : (w1.alloc (.cells #[.int .i64 r1, .int .i64 r2, .int .i64 r3, .int .i64 r4] 32)).cell? ⟨w1.heap.size, 3, none⟩ = some (.int .i64 r4) := (b7.2 3 _ rfl).1
    have fa6_3 : (w1.alloc (.cells #[.int .i64 r1, .int .i64 r2, .int .i64 r3, .int .i64 r4] 32)).frozen? ⟨w1.heap.size, 3, none⟩ = false := (b7.2 3 _ rfl).2
    go_wp2_with fail
    clear ca4_0 fa4_0 ca4_1 fa4_1 ca4_2 fa4_2 ca4_3 fa4_3 ca5_0 fa5_0 ca5_1 fa5_1 ca5_2 fa5_2 ca5_3 fa5_3 ca6_0 fa6_0 ca6_1 fa6_1 ca6_2 fa6_2 ca6_3 fa6_3
    refine (usesFrom_any (m := 12 - n) HB.out HX.out HG.out HC.out (by omega)).mono ?_
    rintro e w7 ⟨rfl, k7⟩
    replace b4 := b4.keeps k7
    replace b5 := b5.keeps k7
    replace b7 := b7.keeps k7
    replace kw := Keeps.trans kw k7
    have lt8 := b7.lt
    have sz9 := kw.size
    clear k7
    obtain ⟨N, hN⟩ : ∃ N, cn (d1, d2, d3, d4) (exq (rlLs rs) (x1, x2, x3, x4)) (12 - n) = N := ⟨_, rfl⟩
    rw [hN]
    have HN := hid hN
    clear hN
    go_wp2_with fail
    go_ret
    exact ⟨ret_int (by rw [HN.out]), kw⟩
set_option maxRecDepth 100000 in
set_option maxHeartbeats 3200000 in
theorem rlAsked_any {A A' R Q : Option Addr} {lo hi a c0 lo3 hi3 n c lo4 hi4 m cm q e : Nat} {un un' : Bool} {ps : List Int} {l : List VV} {rs : List RL} {ts : List TT} {d1 d2 d3 d4 x1 x2 x3 x4 : Int} {w : World} (h : Ints w lo hi A a ps) (h' : Sch w A' q e l) (hr : Rels true un w lo3 hi3 R n rs) (ht : Tabs true un' w lo4 hi4 Q m ts) :
    Calls Tryz.prog 49 #[.agg #[.slice A a c0], .slice A' q e, .slice R n c, .agg #[.int .i64 d1, .int .i64 d2, .int .i64 d3, .int .i64 d4], .slice Q m cm, .agg #[.int .i64 x1, .int .i64 x2, .int .i64 x3, .int .i64 x4]] w fun e w' => e = .returned (.bool (hisB ps l rs && lsB (d1, d2, d3, d4) && plB ps l ts && lsB (x1, x2, x3, x4))) ∧ Keeps w w' := by
  obtain ⟨Z, hZ⟩ : ∃ Z, (hisB ps l rs && lsB (d1, d2, d3, d4) && plB ps l ts && lsB (x1, x2, x3, x4)) = Z := ⟨_, rfl⟩
  rw [hZ]
  have HB := hid (show (hisB ps l rs && lossB d1 d2 d3 d4 && plB ps l ts && lossB x1 x2 x3 x4) = Z from hZ)
  clear hZ
  go_enter Tryz.func49, Tryz.ntmps49
  have kw := keeps_refl w
  replace kw := Keeps.trans kw (keeps_alloc w (.cells #[.slice A a c0] 26))
  have b6 : B1 (w.alloc (.cells #[.slice A a c0] 26)) w.heap.size (.slice A a c0) := B1.new' (by simp)
  replace b6 := b6.keeps (keeps_alloc (w.alloc (.cells #[.slice A a c0] 26)) (.cells #[.int .i64 d1, .int .i64 d2, .int .i64 d3, .int .i64 d4] 32))
  replace kw := Keeps.trans kw (keeps_alloc (w.alloc (.cells #[.slice A a c0] 26)) (.cells #[.int .i64 d1, .int .i64 d2, .int .i64 d3, .int .i64 d4] 32))
  have b9 : Bl ((w.alloc (.cells #[.slice A a c0] 26)).alloc (.cells #[.int .i64 d1, .int .i64 d2, .int .i64 d3, .int .i64 d4] 32)) (w.heap.size + 1) [.int .i64 d1, .int .i64 d2, .int .i64 d3, .int .i64 d4] := Bl.new' (by simp) (by simp)
  replace b6 := b6.keeps (keeps_alloc ((w.alloc (.cells #[.slice A a c0] 26)).alloc (.cells #[.int .i64 d1, .int .i64 d2, .int .i64 d3, .int .i64 d4] 32)) (.cells #[.int .i64 x1, .int .i64 x2, .int .i64 x3, .int .i64 x4] 32))
  replace b9 := b9.keeps (keeps_alloc ((w.alloc (.cells #[.slice A a c0] 26)).alloc (.cells #[.int .i64 d1, .int .i64 d2, .int .i64 d3, .int .i64 d4] 32)) (.cells #[.int .i64 x1, .int .i64 x2, .int .i64 x3, .int .i64 x4] 32))
  replace kw := Keeps.trans kw (keeps_alloc ((w.alloc (.cells #[.slice A a c0] 26)).alloc (.cells #[.int .i64 d1, .int .i64 d2, .int .i64 d3, .int .i64 d4] 32)) (.cells #[.int .i64 x1, .int .i64 x2, .int .i64 x3, .int .i64 x4] 32))
  have b11 : Bl (((w.alloc (.cells #[.slice A a c0] 26)).alloc (.cells #[.int .i64 d1, .int .i64 d2, .int .i64 d3, .int .i64 d4] 32)).alloc (.cells #[.int .i64 x1, .int .i64 x2, .int .i64 x3, .int .i64 x4] 32)) (w.heap.size + 1 + 1) [.int .i64 x1, .int .i64 x2, .int .i64 x3, .int .i64 x4] := Bl.new' (by simp) (by simp)
  obtain ⟨ca1, fa1⟩ := id b6
  have ca2_0 : (((w.alloc (.cells #[.slice A a c0] 26)).alloc (.cells #[.int .i64 d1, .int .i64 d2, .int .i64 d3, .int .i64 d4] 32)).alloc (.cells #[.int .i64 x1, .int .i64 x2, .int .i64 x3, .int .i64 x4] 32)).cell? ⟨w.heap.size + 1, 0, none⟩ = some (.int .i64 d1) := (b9.2 0 _ rfl).1
  have fa2_0 : (((w.alloc (.cells #[.slice A a c0] 26)).alloc (.cells #[.int .i64 d1, .int .i64 d2, .int .i64 d3, .int .i64 d4] 32)).alloc (.cells #[.int .i64 x1, .int .i64 x2, .int .i64 x3, .int .i64 x4] 32)).frozen? ⟨w.heap.size + 1, 0, none⟩ = false := (b9.2 0 _ rfl).2
  have ca2_1 : (((w.alloc (.cells #[.slice A a c0] 26)).alloc (.cells #[.int .i64 d1, .int .i64 d2, .int .i64 d3, .int .i64 d4] 32)).alloc (.cells #[.int .i64 x1, .int .i64 x2, .int .i64 x3, .int .i64 x4] 32)).cell? ⟨w.heap.size + 1, 1, none⟩ = some (.int .i64 d2) := (b9.2 1 _ rfl).1
  have fa2_1 : (((w.alloc (.cells #[.slice A a c0] 26)).alloc (.cells #[.int .i64 d1, .int .i64 d2, .int .i64 d3, .int .i64 d4] 32)).alloc (.cells #[.int .i64 x1, .int .i64 x2, .int .i64 x3, .int .i64 x4] 32)).frozen? ⟨w.heap.size + 1, 1, none⟩ = false := (b9.2 1 _ rfl).2
  have ca2_2 : (((w.alloc (.cells #[.slice A a c0] 26)).alloc (.cells #[.int .i64 d1, .int .i64 d2, .int .i64 d3, .int .i64 d4] 32)).alloc (.cells #[.int .i64 x1, .int .i64 x2, .int .i64 x3, .int .i64 x4] 32)).cell? ⟨w.heap.size + 1, 2, none⟩ = some (.int .i64 d3) := (b9.2 2 _ rfl).1
  have fa2_2 : (((w.alloc (.cells #[.slice A a c0] 26)).alloc (.cells #[.int .i64 d1, .int .i64 d2, .int .i64 d3, .int .i64 d4] 32)).alloc (.cells #[.int .i64 x1, .int .i64 x2, .int .i64 x3, .int .i64 x4] 32)).frozen? ⟨w.heap.size + 1, 2, none⟩ = false := (b9.2 2 _ rfl).2
  have ca2_3 : (((w.alloc (.cells #[.slice A a c0] 26)).alloc (.cells #[.int .i64 d1, .int .i64 d2, .int .i64 d3, .int .i64 d4] 32)).alloc (.cells #[.int .i64 x1, .int .i64 x2, .int .i64 x3, .int .i64 x4] 32)).cell? ⟨w.heap.size + 1, 3, none⟩ = some (.int .i64 d4) := (b9.2 3 _ rfl).1
  have fa2_3 : (((w.alloc (.cells #[.slice A a c0] 26)).alloc (.cells #[.int .i64 d1, .int .i64 d2, .int .i64 d3, .int .i64 d4] 32)).alloc (.cells #[.int .i64 x1, .int .i64 x2, .int .i64 x3, .int .i64 x4] 32)).frozen? ⟨w.heap.size + 1, 3, none⟩ = false := (b9.2 3 _ rfl).2
  have ca3_0 : (((w.alloc (.cells #[.slice A a c0] 26)).alloc (.cells #[.int .i64 d1, .int .i64 d2, .int .i64 d3, .int .i64 d4] 32)).alloc (.cells #[.int .i64 x1, .int .i64 x2, .int .i64 x3, .int .i64 x4] 32)).cell? ⟨w.heap.size + 1 + 1, 0, none⟩ = some (.int .i64 x1) := (b11.2 0 _ rfl).1
  have fa3_0 : (((w.alloc (.cells #[.slice A a c0] 26)).alloc (.cells #[.int .i64 d1, .int .i64 d2, .int .i64 d3, .int .i64 d4] 32)).alloc (.cells #[.int .i64 x1, .int .i64 x2, .int .i64 x3, .int .i64 x4] 32)).frozen? ⟨w.heap.size + 1 + 1, 0, none⟩ = false := (b11.2 0 _ rfl).2
  have ca3_1 : (((w.alloc (.cells #[.slice A a c0] 26)).alloc (.cells #[.int .i64 d1, .int .i64 d2, .int .i64 d3, .int .i64 d4] 32)).alloc (.cells #[.int .i64 x1, .int .i64 x2, .int .i64 x3, .int .i64 x4] 32)).cell? ⟨w.heap.size + 1 + 1, 1, none⟩ = some (.int .i64 x2) := (b11.2 1 _ rfl).1
  have fa3_1 : (((w.alloc (.cells #[.slice A a c0] 26)).alloc (.cells #[.int .i64 d1, .int .i64 d2, .int .i64 d3, .int .i64 d4] 32)).alloc (.cells #[.int .i64 x1, .int .i64 x2, .int .i64 x3, .int .i64 x4] 32)).frozen? ⟨w.heap.size + 1 + 1, 1, none⟩ = false := (b11.2 1 _ rfl).2
  have ca3_2 : (((w.alloc (.cells #[.slice A a c0] 26)).alloc (.cells #[.int .i64 d1, .int .i64 d2, .int .i64 d3, .int .i64 d4] 32)).alloc (.cells #[.int .i64 x1, .int .i64 x2, .int .i64 x3, .int .i64 x4] 32)).cell? ⟨w.heap.size + 1 + 1, 2, none⟩ = some (.int .i64 x3) := (b11.2 2 _ rfl).1
  have fa3_2 : (((w.alloc (.cells #[.slice A a c0] 26)).alloc (.cells #[.int .i64 d1, .int .i64 d2, .int .i64 d3, .int .i64 d4] 32)).alloc (.cells #[.int .i64 x1, .int .i64 x2, .int .i64 x3, .int .i64 x4] 32)).frozen? ⟨w.heap.size + 1 + 1, 2, none⟩ = false := (b11.2 2 _ rfl).2
  have ca3_3 : (((w.alloc (.cells #[.slice A a c0] 26)).alloc (.cells #[.int .i64 d1, .int .i64 d2, .int .i64 d3, .int .i64 d4] 32)).alloc (.cells #[.int .i64 x1, .int .i64 x2, .int .i64 x3, .int .i64 x4] 32)).cell? ⟨w.heap.size + 1 + 1, 3, none⟩ = some (.int .i64 x4) := (b11.2 3 _ rfl).1
  have fa3_3 : (((w.alloc (.cells #[.slice A a c0] 26)).alloc (.cells #[.int .i64 d1, .int .i64 d2, .int .i64 d3, .int .i64 d4] 32)).alloc (.cells #[.int .i64 x1, .int .i64 x2, .int .i64 x3, .int .i64 x4] 32)).frozen? ⟨w.heap.size + 1 + 1, 3, none⟩ = false := (b11.2 3 _ rfl).2
  go_wp2_with fail
  clear ca1 fa1 ca2_0 fa2_0 ca2_1 fa2_1 ca2_2 fa2_2 ca2_3 fa2_3 ca3_0 fa3_0 ca3_1 fa3_1 ca3_2 fa3_2 ca3_3 fa3_3
  obtain ⟨pH1, H1⟩ : ∃ pB, Hid (hisB ps l rs = pB) := ⟨_, rfl⟩
  refine (rlHistory_any (h.keeps kw) (h'.keeps kw) (hr.keeps kw)).mono ?_
  rintro e w4 ⟨rfl, k4⟩
  rw [H1.out]
  replace b6 := b6.keeps k4
  replace b9 := b9.keeps k4
  replace b11 := b11.keeps k4
  replace kw := Keeps.trans kw k4
  have lt5 := b11.lt
  have sz6 := kw.size
  clear k4
  cases pH1
  · obtain ⟨ca7, fa7⟩ := id b6
    have ca8_0 : w4.cell? ⟨w.heap.size + 1, 0, none⟩ = some (.int .i64 d1) := (b9.2 0 _ rfl).1
    have fa8_0 : w4.frozen? ⟨w.heap.size + 1, 0, none⟩ = false := (b9.2 0 _ rfl).2
    have ca8_1 : w4.cell? ⟨w.heap.size + 1, 1, none⟩ = some (.int .i64 d2) := (b9.2 1 _ rfl).1
    have fa8_1 : w4.frozen? ⟨w.heap.size + 1, 1, none⟩ = false := (b9.2 1 _ rfl).2
    have ca8_2 : w4.cell? ⟨w.heap.size + 1, 2, none⟩ = some (.int .i64 d3) := (b9.2 2 _ rfl).1
    have fa8_2 : w4.frozen? ⟨w.heap.size + 1, 2, none⟩ = false := (b9.2 2 _ rfl).2
    have ca8_3 : w4.cell? ⟨w.heap.size + 1, 3, none⟩ = some (.int .i64 d4) := (b9.2 3 _ rfl).1
    have fa8_3 : w4.frozen? ⟨w.heap.size + 1, 3, none⟩ = false := (b9.2 3 _ rfl).2
    have ca9_0 : w4.cell? ⟨w.heap.size + 1 + 1, 0, none⟩ = some (.int .i64 x1) := (b11.2 0 _ rfl).1
    have fa9_0 : w4.frozen? ⟨w.heap.size + 1 + 1, 0, none⟩ = false := (b11.2 0 _ rfl).2
    have ca9_1 : w4.cell? ⟨w.heap.size + 1 + 1, 1, none⟩ = some (.int .i64 x2) := (b11.2 1 _ rfl).1
    have fa9_1 : w4.frozen? ⟨w.heap.size + 1 + 1, 1, none⟩ = false := (b11.2 1 _ rfl).2
    have ca9_2 : w4.cell? ⟨w.heap.size + 1 + 1, 2, none⟩ = some (.int .i64 x3) := (b11.2 2 _ rfl).1
    have fa9_2 : w4.frozen? ⟨w.heap.size + 1 + 1, 2, none⟩ = false := (b11.2 2 _ rfl).2
    have ca9_3 : w4.cell? ⟨w.heap.size + 1 + 1, 3, none⟩ = some (.int .i64 x4) := (b11.2 3 _ rfl).1
    have fa9_3 : w4.frozen? ⟨w.heap.size + 1 + 1, 3, none⟩ = false := (b11.2 3 _ rfl).2
    go_wp2_with fail
    clear ca7 fa7 ca8_0 fa8_0 ca8_1 fa8_1 ca8_2 fa8_2 ca8_3 fa8_3 ca9_0 fa9_0 ca9_1 fa9_1 ca9_2 fa9_2 ca9_3 fa9_3
    go_ret
    exact ⟨ret_bool (by rw [← HB.out, H1.out]; rfl), kw⟩
  · skip
    obtain ⟨ca7, fa7⟩ := id b6
    have ca8_0 : w4.cell? ⟨w.heap.size + 1, 0, none⟩ = some (.int .i64 d1) := (b9.2 0 _ rfl).1
    have fa8_0 : w4.frozen? ⟨w.heap.size + 1, 0, none⟩ = false := (b9.2 0 _ rfl).2
    have ca8_1 : w4.cell? ⟨w.heap.size + 1, 1, none⟩ = some (.int .i64 d2) := (b9.2 1 _ rfl).1
    have fa8_1 : w4.frozen? ⟨w.heap.size + 1, 1, none⟩ = false := (b9.2 1 _ rfl).2
    have ca8_2 : w4.cell? ⟨w.heap.size + 1, 2, none⟩ = some (.int .i64 d3) := (b9.2 2 _ rfl).1
    have fa8_2 : w4.frozen? ⟨w.heap.size + 1, 2, none⟩ = false := (b9.2 2 _ rfl).2
    have ca8_3 : w4.cell? ⟨w.heap.size + 1, 3, none⟩ = some (.int .i64 d4) := (b9.2 3 _ rfl).1
    have fa8_3 : w4.frozen? ⟨w.heap.size + 1, 3, none⟩ = false := (b9.2 3 _ rfl).2
    have ca9_0 : w4.cell? ⟨w.heap.size + 1 + 1, 0, none⟩ = some (.int .i64 x1) := (b11.2 0 _ rfl).1
    have fa9_0 : w4.frozen? ⟨w.heap.size + 1 + 1, 0, none⟩ = false := (b11.2 0 _ rfl).2
    have ca9_1 : w4.cell? ⟨w.heap.size + 1 + 1, 1, none⟩ = some (.int .i64 x2) := (b11.2 1 _ rfl).1
    have fa9_1 : w4.frozen? ⟨w.heap.size + 1 + 1, 1, none⟩ = false := (b11.2 1 _ rfl).2
    have ca9_2 : w4.cell? ⟨w.heap.size + 1 + 1, 2, none⟩ = some (.int .i64 x3) := (b11.2 2 _ rfl).1
    have fa9_2 : w4.frozen? ⟨w.heap.size + 1 + 1, 2, none⟩ = false := (b11.2 2 _ rfl).2
    have ca9_3 : w4.cell? ⟨w.heap.size + 1 + 1, 3, none⟩ = some (.int .i64 x4) := (b11.2 3 _ rfl).1
    have fa9_3 : w4.frozen? ⟨w.heap.size + 1 + 1, 3, none⟩ = false := (b11.2 3 _ rfl).2
    go_wp2_with fail
    clear ca7 fa7 ca8_0 fa8_0 ca8_1 fa8_1 ca8_2 fa8_2 ca8_3 fa8_3 ca9_0 fa9_0 ca9_1 fa9_1 ca9_2 fa9_2 ca9_3 fa9_3
    obtain ⟨pH2, H2⟩ : ∃ pB, Hid (lossB d1 d2 d3 d4 = pB) := ⟨_, rfl⟩
    refine (pGood_any).mono ?_
    rintro e w10 ⟨rfl, k10⟩
    rw [H2.out]
    replace b6 := b6.keeps k10
    replace b9 := b9.keeps k10
    replace b11 := b11.keeps k10
    replace kw := Keeps.trans kw k10
    have lt11 := b11.lt
    have sz12 := kw.size
    clear k10
    cases pH2
    · obtain ⟨ca13, fa13⟩ := id b6
      have ca14_0 : w10.cell? ⟨w.heap.size + 1, 0, none⟩ = some (.int .i64 d1) := (b9.2 0 _ rfl).1
      have fa14_0 : w10.frozen? ⟨w.heap.size + 1, 0, none⟩ = false := (b9.2 0 _ rfl).2
      have ca14_1 : w10.cell? ⟨w.heap.size + 1, 1, none⟩ = some (.int .i64 d2) := (b9.2 1 _ rfl).1
      have fa14_1 : w10.frozen? ⟨w.heap.size + 1, 1, none⟩ = false := (b9.2 1 _ rfl).2
      have ca14_2 : w10.cell? ⟨w.heap.size + 1, 2, none⟩ = some (.int .i64 d3) := (b9.2 2 _ rfl).1
      have fa14_2 : w10.frozen? ⟨w.heap.size + 1, 2, none⟩ = false := (b9.2 2 _ rfl).2
      have ca14_3 : w10.cell? ⟨w.heap.size + 1, 3, none⟩ = some (.int .i64 d4) := (b9.2 3 _ rfl).1
      have fa14_3 : w10.frozen? ⟨w.heap.size + 1, 3, none⟩ = false := (b9.2 3 _ rfl).2
      have ca15_0 : w10.cell? ⟨w.heap.size + 1 + 1, 0, none⟩ = some (.int .i64 x1) := (b11.2 0 _ rfl).1
      have fa15_0 : w10.frozen? ⟨w.heap.size + 1 + 1, 0, none⟩ = false := (b11.2 0 _ rfl).2
      have ca15_1 : w10.cell? ⟨w.heap.size + 1 + 1, 1, none⟩ = some (.int .i64 x2) := (b11.2 1 _ rfl).1
      have fa15_1 : w10.frozen? ⟨w.heap.size + 1 + 1, 1, none⟩ = false := (b11.2 1 _ rfl).2
      have ca15_2 : w10.cell? ⟨w.heap.size + 1 + 1, 2, none⟩ = some (.int .i64 x3) := (b11.2 2 _ rfl).1
      have fa15_2 : w10.frozen? ⟨w.heap.size + 1 + 1, 2, none⟩ = false := (b11.2 2 _ rfl).2
      have ca15_3 : w10.cell? ⟨w.heap.size + 1 + 1, 3, none⟩ = some (.int .i64 x4) := (b11.2 3 _ rfl).1
      have fa15_3 : w10.frozen? ⟨w.heap.size + 1 + 1, 3, none⟩ = false := (b11.2 3 _ rfl).2
      go_wp2_with fail
      clear ca13 fa13 ca14_0 fa14_0 ca14_1 fa14_1 ca14_2 fa14_2 ca14_3 fa14_3 ca15_0 fa15_0 ca15_1 fa15_1 ca15_2 fa15_2 ca15_3 fa15_3
      go_ret
      exact ⟨ret_bool (by rw [← HB.out, H1.out, H2.out]; rfl), kw⟩
    · skip
      obtain ⟨ca13, fa13⟩ := id b6
      have ca14_0 : w10.cell? ⟨w.heap.size + 1, 0, none⟩ = some (.int .i64 d1) := (b9.2 0 _ rfl).1
      have fa14_0 : w10.frozen? ⟨w.heap.size + 1, 0, none⟩ = false := (b9.2 0 _ rfl).2
      have ca14_1 : w10.cell? ⟨w.heap.size + 1, 1, none⟩ = some (.int .i64 d2) := (b9.2 1 _ rfl).1
      have fa14_1 : w10.frozen? ⟨w.heap.size + 1, 1, none⟩ = false := (b9.2 1 _ rfl).2
      have ca14_2 : w10.cell? ⟨w.heap.size + 1, 2, none⟩ = some (.int .i64 d3) := (b9.2 2 _ rfl).1
      have fa14_2 : w10.frozen? ⟨w.heap.size + 1, 2, none⟩ = false := (b9.2 2 _ rfl).2
      have ca14_3 : w10.cell? ⟨w.heap.size + 1, 3, none⟩ = some (.int .i64 d4) := (b9.2 3 _ rfl).1
      have fa14_3 : w10.frozen? ⟨w.heap.size + 1, 3, none⟩ = false := (b9.2 3 _ rfl).2
      have ca15_0 : w10.cell? ⟨w.heap.size + 1 + 1, 0, none⟩ = some (.int .i64 x1) := (b11.2 0 _ rfl).1
      have fa15_0 : w10.frozen? ⟨w.heap.size + 1 + 1, 0, none⟩ = false := (b11.2 0 _ rfl).2
      have ca15_1 : w10.cell? ⟨w.heap.size + 1 + 1, 1, none⟩ = some (.int .i64 x2) := (b11.2 1 _ rfl).1
      have fa15_1 : w10.frozen? ⟨w.heap.size + 1 + 1, 1, none⟩ = false := (b11.2 1 _ rfl).2
      have ca15_2 : w10.cell? ⟨w.heap.size + 1 + 1, 2, none⟩ = some (.int .i64 x3) := (b11.2 2 _ rfl).1
      have fa15_2 : w10.frozen? ⟨w.heap.size + 1 + 1, 2, none⟩ = false := (b11.2 2 _ rfl).2
      have ca15_3 : w10.cell? ⟨w.heap.size + 1 + 1, 3, none⟩ = some (.int .i64 x4) := (b11.2 3 _ rfl).1
      have fa15_3 : w10.frozen? ⟨w.heap.size + 1 + 1, 3, none⟩ = false := (b11.2 3 _ rfl).2
      go_wp2_with fail
      clear ca13 fa13 ca14_0 fa14_0 ca14_1 fa14_1 ca14_2 fa14_2 ca14_3 fa14_3 ca15_0 fa15_0 ca15_1 fa15_1 ca15_2 fa15_2 ca15_3 fa15_3
      have HGS := hid (hisB_parts H1.out)
      obtain ⟨pH3, H3⟩ : ∃ pB, Hid (plB ps l ts = pB) := ⟨_, rfl⟩
      refine (nPlan_any (h.keeps kw) (h'.keeps kw) (ht.keeps kw) HGS.out.1 HGS.out.2.1).mono ?_
      rintro e w16 ⟨rfl, k16⟩
      rw [H3.out]
      replace b6 := b6.keeps k16
      replace b9 := b9.keeps k16
      replace b11 := b11.keeps k16
      replace kw := Keeps.trans kw k16
      have lt17 := b11.lt
      have sz18 := kw.size
      clear k16
      cases pH3
      · obtain ⟨ca19, fa19⟩ := id b6
        have ca20_0 : w16.cell? ⟨w.heap.size + 1, 0, none⟩ = some (.int .i64 d1) := (b9.2 0 _ rfl).1
        have fa20_0 : w16.frozen? ⟨w.heap.size + 1, 0, none⟩ = false := (b9.2 0 _ rfl).2
        have ca20_1 : w16.cell? ⟨w.heap.size + 1, 1, none⟩ = some (.int .i64 d2) := (b9.2 1 _ rfl).1
        have fa20_1 : w16.frozen? ⟨w.heap.size + 1, 1, none⟩ = false := (b9.2 1 _ rfl).2
        have ca20_2 : w16.cell? ⟨w.heap.size + 1, 2, none⟩ = some (.int .i64 d3) := (b9.2 2 _ rfl).1
        have fa20_2 : w16.frozen? ⟨w.heap.size + 1, 2, none⟩ = false := (b9.2 2 _ rfl).2
        have ca20_3 : w16.cell? ⟨w.heap.size + 1, 3, none⟩ = some (.int .i64 d4) := (b9.2 3 _ rfl).1
        have fa20_3 : w16.frozen? ⟨w.heap.size + 1, 3, none⟩ = false := (b9.2 3 _ rfl).2
        have ca21_0 : w16.cell? ⟨w.heap.size + 1 + 1, 0, none⟩ = some (.int .i64 x1) := (b11.2 0 _ rfl).1
        have fa21_0 : w16.frozen? ⟨w.heap.size + 1 + 1, 0, none⟩ = false := (b11.2 0 _ rfl).2
        have ca21_1 : w16.cell? ⟨w.heap.size + 1 + 1, 1, none⟩ = some (.int .i64 x2) := (b11.2 1 _ rfl).1
        have fa21_1 : w16.frozen? ⟨w.heap.size + 1 + 1, 1, none⟩ = false := (b11.2 1 _ rfl).2
        have ca21_2 : w16.cell? ⟨w.heap.size + 1 + 1, 2, none⟩ = some (.int .i64 x3) := (b11.2 2 _ rfl).1
        have fa21_2 : w16.frozen? ⟨w.heap.size + 1 + 1, 2, none⟩ = false := (b11.2 2 _ rfl).2
        have ca21_3 : w16.cell? ⟨w.heap.size + 1 + 1, 3, none⟩ = some (.int .i64 x4) := (b11.2 3 _ rfl).1
        have fa21_3 : w16.frozen? ⟨w.heap.size + 1 + 1, 3, none⟩ = false := (b11.2 3 _ rfl).2
        go_wp2_with fail
        clear ca19 fa19 ca20_0 fa20_0 ca20_1 fa20_1 ca20_2 fa20_2 ca20_3 fa20_3 ca21_0 fa21_0 ca21_1 fa21_1 ca21_2 fa21_2 ca21_3 fa21_3
        go_ret
        exact ⟨ret_bool (by rw [← HB.out, H1.out, H2.out, H3.out]; rfl), kw⟩
      · skip
        obtain ⟨ca19, fa19⟩ := id b6
        have ca20_0 : w16.cell? ⟨w.heap.size + 1, 0, none⟩ = some (.int .i64 d1) := (b9.2 0 _ rfl).1
        have fa20_0 : w16.frozen? ⟨w.heap.size + 1, 0, none⟩ = false := (b9.2 0 _ rfl).2
        have ca20_1 : w16.cell? ⟨w.heap.size + 1, 1, none⟩ = some (.int .i64 d2) := (b9.2 1 _ rfl).1
        have fa20_1 : w16.frozen? ⟨w.heap.size + 1, 1, none⟩ = false := (b9.2 1 _ rfl).2
        have ca20_2 : w16.cell? ⟨w.heap.size + 1, 2, none⟩ = some (.int .i64 d3) := (b9.2 2 _ rfl).1
        have fa20_2 : w16.frozen? ⟨w.heap.size + 1, 2, none⟩ = false := (b9.2 2 _ rfl).2
        have ca20_3 : w16.cell? ⟨w.heap.size + 1, 3, none⟩ = some (.int .i64 d4) := (b9.2 3 _ rfl).1
        have fa20_3 : w16.frozen? ⟨w.heap.size + 1, 3, none⟩ = false := (b9.2 3 _ rfl).2
        have ca21_0 : w16.cell? ⟨w.heap.size + 1 + 1, 0, none⟩ = some (.int .i64 x1) := (b11.2 0 _ rfl).1
        have fa21_0 : w16.frozen? ⟨w.heap.size + 1 + 1, 0, none⟩ = false := (b11.2 0 _ rfl).2
        have ca21_1 : w16.cell? ⟨w.heap.size + 1 + 1, 1, none⟩ = some (.int .i64 x2) := (b11.2 1 _ rfl).1
        have fa21_1 : w16.frozen? ⟨w.heap.size + 1 + 1, 1, none⟩ = false := (b11.2 1 _ rfl).2
        have ca21_2 : w16.cell? ⟨w.heap.size + 1 + 1, 2, none⟩ = some (.int .i64 x3) := (b11.2 2 _ rfl).1
        have fa21_2 : w16.frozen? ⟨w.heap.size + 1 + 1, 2, none⟩ = false := (b11.2 2 _ rfl).2
        have ca21_3 : w16.cell? ⟨w.heap.size + 1 + 1, 3, none⟩ = some (.int .i64 x4) := (b11.2 3 _ rfl).1
        have fa21_3 : w16.frozen? ⟨w.heap.size + 1 + 1, 3, none⟩ = false := (b11.2 3 _ rfl).2
        go_wp2_with fail
        clear ca19 fa19 ca20_0 fa20_0 ca20_1 fa20_1 ca20_2 fa20_2 ca20_3 fa20_3 ca21_0 fa21_0 ca21_1 fa21_1 ca21_2 fa21_2 ca21_3 fa21_3
        obtain ⟨p4, H4⟩ : ∃ pB, Hid (lossB x1 x2 x3 x4 = pB) := ⟨_, rfl⟩
        refine (pGood_any).mono ?_
        rintro e w22 ⟨rfl, k22⟩
        rw [H4.out]
        replace b6 := b6.keeps k22
        replace b9 := b9.keeps k22
        replace b11 := b11.keeps k22
        replace kw := Keeps.trans kw k22
        have lt23 := b11.lt
        have sz24 := kw.size
        clear k22
        obtain ⟨ca25, fa25⟩ := id b6
        have ca26_0 : w22.cell? ⟨w.heap.size + 1, 0, none⟩ = some (.int .i64 d1) := (b9.2 0 _ rfl).1
        have fa26_0 : w22.frozen? ⟨w.heap.size + 1, 0, none⟩ = false := (b9.2 0 _ rfl).2
        have ca26_1 : w22.cell? ⟨w.heap.size + 1, 1, none⟩ = some (.int .i64 d2) := (b9.2 1 _ rfl).1
        have fa26_1 : w22.frozen? ⟨w.heap.size + 1, 1, none⟩ = false := (b9.2 1 _ rfl).2
        have ca26_2 : w22.cell? ⟨w.heap.size + 1, 2, none⟩ = some (.int .i64 d3) := (b9.2 2 _ rfl).1
        have fa26_2 : w22.frozen? ⟨w.heap.size + 1, 2, none⟩ = false := (b9.2 2 _ rfl).2
        have ca26_3 : w22.cell? ⟨w.heap.size + 1, 3, none⟩ = some (.int .i64 d4) := (b9.2 3 _ rfl).1
        have fa26_3 : w22.frozen? ⟨w.heap.size + 1, 3, none⟩ = false := (b9.2 3 _ rfl).2
        have ca27_0 : w22.cell? ⟨w.heap.size + 1 + 1, 0, none⟩ = some (.int .i64 x1) := (b11.2 0 _ rfl).1
        have fa27_0 : w22.frozen? ⟨w.heap.size + 1 + 1, 0, none⟩ = false := (b11.2 0 _ rfl).2
        have ca27_1 : w22.cell? ⟨w.heap.size + 1 + 1, 1, none⟩ = some (.int .i64 x2) := (b11.2 1 _ rfl).1
        have fa27_1 : w22.frozen? ⟨w.heap.size + 1 + 1, 1, none⟩ = false := (b11.2 1 _ rfl).2
        have ca27_2 : w22.cell? ⟨w.heap.size + 1 + 1, 2, none⟩ = some (.int .i64 x3) := (b11.2 2 _ rfl).1
        have fa27_2 : w22.frozen? ⟨w.heap.size + 1 + 1, 2, none⟩ = false := (b11.2 2 _ rfl).2
        have ca27_3 : w22.cell? ⟨w.heap.size + 1 + 1, 3, none⟩ = some (.int .i64 x4) := (b11.2 3 _ rfl).1
        have fa27_3 : w22.frozen? ⟨w.heap.size + 1 + 1, 3, none⟩ = false := (b11.2 3 _ rfl).2
        go_wp2_with fail
        clear ca25 fa25 ca26_0 fa26_0 ca26_1 fa26_1 ca26_2 fa26_2 ca26_3 fa26_3 ca27_0 fa27_0 ca27_1 fa27_1 ca27_2 fa27_2 ca27_3 fa27_3
        go_ret
        exact ⟨ret_bool (by rw [← HB.out, H1.out, H2.out, H3.out, H4.out]; rfl), kw⟩
theorem one_los (w : World) (x : LQ) {g : Nat} (hg : w.heap.size = g) : Los (w.alloc (.cells #[.int .i64 x.1, .int .i64 x.2.1, .int .i64 x.2.2.1, .int .i64 x.2.2.2] 32)) 0 (w.alloc (.cells #[.int .i64 x.1, .int .i64 x.2.1, .int .i64 x.2.2.1, .int .i64 x.2.2.2] 32)).heap.size (some ⟨g, 0, none⟩) 1 [x] := by
  subst hg
  have ho : OwnC (w.alloc (.cells #[.int .i64 x.1, .int .i64 x.2.1, .int .i64 x.2.2.1, .int .i64 x.2.2.2] 32)) w.heap.size 32 (lcs [x]) := by unfold OwnC; rw [heap_alloc_new]; rfl
  exact hown_los ho rfl (by omega) ho.lt
set_option maxRecDepth 100000 in
set_option maxHeartbeats 3200000 in
theorem rlCan_any {R : Option Addr} {lo hi n c : Nat} {un : Bool} {ps : List Int} {l : List VV} {rs : List RL} {d1 d2 d3 d4 x1 x2 x3 x4 : Int} {w : World} (hr : Rels true un w lo hi R n rs) (hh : hisB ps l rs = true) (hb : lsB (d1, d2, d3, d4) = true) (hx : lsB (x1, x2, x3, x4) = true) :
    Calls Tryz.prog 50 #[.slice R n c, .agg #[.int .i64 d1, .int .i64 d2, .int .i64 d3, .int .i64 d4], .agg #[.int .i64 x1, .int .i64 x2, .int .i64 x3, .int .i64 x4]] w fun e w' => e = .returned (.bool (decide (0 < cn (d1, d2, d3, d4) (exq (rlLs rs) (x1, x2, x3, x4)) (12 - n)))) ∧ Keeps w w' := by
  have h12 := (his_loss hh).1
  have HRL := hid hr.len
  rw [HRL.out] at h12
  have HLS := hid (his_loss hh).2
  have HLN := hid (show (rlLs rs).length = n by rw [rlLs_len, HRL.out])
  have HG := hid (fun k (hk : k < (rlLs rs).length) => HLS.out k (by rw [← rlLs_len]; exact hk))
  have HB := hid hb
  have HX := hid hx
  clear hh hb hx
  have HP := hid (cn_pos (b := (d1, d2, d3, d4)) (q := exq (rlLs rs) (x1, x2, x3, x4)) (n := 12 - n))
  have HE := hid (exq_com (m := 1) (show (rlLs rs).length ≤ 12 by rw [HLN.out]; exact h12) (by omega) HG.out HX.out)
  have HEG := hid (fun s => exq_good (m := 1) (s := s) HG.out HX.out)
  rw [show List.replicate 1 (x1, x2, x3, x4) = [(x1, x2, x3, x4)] from rfl] at HE
  rw [← HE.out] at HEG
  go_enter Tryz.func50, Tryz.ntmps50
  have kw := keeps_refl w
  replace kw := Keeps.trans kw (keeps_alloc w (.cells #[.int .i64 d1, .int .i64 d2, .int .i64 d3, .int .i64 d4] 32))
  have b4 : Bl (w.alloc (.cells #[.int .i64 d1, .int .i64 d2, .int .i64 d3, .int .i64 d4] 32)) w.heap.size [.int .i64 d1, .int .i64 d2, .int .i64 d3, .int .i64 d4] := Bl.new' (by simp) (by simp)
  replace b4 := b4.keeps (keeps_alloc (w.alloc (.cells #[.int .i64 d1, .int .i64 d2, .int .i64 d3, .int .i64 d4] 32)) (.cells #[.int .i64 x1, .int .i64 x2, .int .i64 x3, .int .i64 x4] 32))
  replace kw := Keeps.trans kw (keeps_alloc (w.alloc (.cells #[.int .i64 d1, .int .i64 d2, .int .i64 d3, .int .i64 d4] 32)) (.cells #[.int .i64 x1, .int .i64 x2, .int .i64 x3, .int .i64 x4] 32))
  have b5 : Bl ((w.alloc (.cells #[.int .i64 d1, .int .i64 d2, .int .i64 d3, .int .i64 d4] 32)).alloc (.cells #[.int .i64 x1, .int .i64 x2, .int .i64 x3, .int .i64 x4] 32)) (w.heap.size + 1) [.int .i64 x1, .int .i64 x2, .int .i64 x3, .int .i64 x4] := Bl.new' (by simp) (by simp)
  have ca1_0 : ((w.alloc (.cells #[.int .i64 d1, .int .i64 d2, .int .i64 d3, .int .i64 d4] 32)).alloc (.cells #[.int .i64 x1, .int .i64 x2, .int .i64 x3, .int .i64 x4] 32)).cell? ⟨w.heap.size, 0, none⟩ = some (.int .i64 d1) := (b4.2 0 _ rfl).1
  have fa1_0 : ((w.alloc (.cells #[.int .i64 d1, .int .i64 d2, .int .i64 d3, .int .i64 d4] 32)).alloc (.cells #[.int .i64 x1, .int .i64 x2, .int .i64 x3, .int .i64 x4] 32)).frozen? ⟨w.heap.size, 0, none⟩ = false := (b4.2 0 _ rfl).2
  have ca1_1 : ((w.alloc (.cells #[.int .i64 d1, .int .i64 d2, .int .i64 d3, .int .i64 d4] 32)).alloc (.cells #[.int .i64 x1, .int .i64 x2, .int .i64 x3, .int .i64 x4] 32)).cell? ⟨w.heap.size, 1, none⟩ = some (.int .i64 d2) := (b4.2 1 _ rfl).1
  have fa1_1 : ((w.alloc (.cells #[.int .i64 d1, .int .i64 d2, .int .i64 d3, .int .i64 d4] 32)).alloc (.cells #[.int .i64 x1, .int .i64 x2, .int .i64 x3, .int .i64 x4] 32)).frozen? ⟨w.heap.size, 1, none⟩ = false := (b4.2 1 _ rfl).2
  have ca1_2 : ((w.alloc (.cells #[.int .i64 d1, .int .i64 d2, .int .i64 d3, .int .i64 d4] 32)).alloc (.cells #[.int .i64 x1, .int .i64 x2, .int .i64 x3, .int .i64 x4] 32)).cell? ⟨w.heap.size, 2, none⟩ = some (.int .i64 d3) := (b4.2 2 _ rfl).1
  have fa1_2 : ((w.alloc (.cells #[.int .i64 d1, .int .i64 d2, .int .i64 d3, .int .i64 d4] 32)).alloc (.cells #[.int .i64 x1, .int .i64 x2, .int .i64 x3, .int .i64 x4] 32)).frozen? ⟨w.heap.size, 2, none⟩ = false := (b4.2 2 _ rfl).2
  have ca1_3 : ((w.alloc (.cells #[.int .i64 d1, .int .i64 d2, .int .i64 d3, .int .i64 d4] 32)).alloc (.cells #[.int .i64 x1, .int .i64 x2, .int .i64 x3, .int .i64 x4] 32)).cell? ⟨w.heap.size, 3, none⟩ = some (.int .i64 d4) := (b4.2 3 _ rfl).1
  have fa1_3 : ((w.alloc (.cells #[.int .i64 d1, .int .i64 d2, .int .i64 d3, .int .i64 d4] 32)).alloc (.cells #[.int .i64 x1, .int .i64 x2, .int .i64 x3, .int .i64 x4] 32)).frozen? ⟨w.heap.size, 3, none⟩ = false := (b4.2 3 _ rfl).2
  have ca2_0 : ((w.alloc (.cells #[.int .i64 d1, .int .i64 d2, .int .i64 d3, .int .i64 d4] 32)).alloc (.cells #[.int .i64 x1, .int .i64 x2, .int .i64 x3, .int .i64 x4] 32)).cell? ⟨w.heap.size + 1, 0, none⟩ = some (.int .i64 x1) := (b5.2 0 _ rfl).1
  have fa2_0 : ((w.alloc (.cells #[.int .i64 d1, .int .i64 d2, .int .i64 d3, .int .i64 d4] 32)).alloc (.cells #[.int .i64 x1, .int .i64 x2, .int .i64 x3, .int .i64 x4] 32)).frozen? ⟨w.heap.size + 1, 0, none⟩ = false := (b5.2 0 _ rfl).2
  have ca2_1 : ((w.alloc (.cells #[.int .i64 d1, .int .i64 d2, .int .i64 d3, .int .i64 d4] 32)).alloc (.cells #[.int .i64 x1, .int .i64 x2, .int .i64 x3, .int .i64 x4] 32)).cell? ⟨w.heap.size + 1, 1, none⟩ = some (.int .i64 x2) := (b5.2 1 _ rfl).1
  have fa2_1 : ((w.alloc (.cells #[.int .i64 d1, .int .i64 d2, .int .i64 d3, .int .i64 d4] 32)).alloc (.cells #[.int .i64 x1, .int .i64 x2, .int .i64 x3, .int .i64 x4] 32)).frozen? ⟨w.heap.size + 1, 1, none⟩ = false := (b5.2 1 _ rfl).2
  have ca2_2 : ((w.alloc (.cells #[.int .i64 d1, .int .i64 d2, .int .i64 d3, .int .i64 d4] 32)).alloc (.cells #[.int .i64 x1, .int .i64 x2, .int .i64 x3, .int .i64 x4] 32)).cell? ⟨w.heap.size + 1, 2, none⟩ = some (.int .i64 x3) := (b5.2 2 _ rfl).1
  have fa2_2 : ((w.alloc (.cells #[.int .i64 d1, .int .i64 d2, .int .i64 d3, .int .i64 d4] 32)).alloc (.cells #[.int .i64 x1, .int .i64 x2, .int .i64 x3, .int .i64 x4] 32)).frozen? ⟨w.heap.size + 1, 2, none⟩ = false := (b5.2 2 _ rfl).2
  have ca2_3 : ((w.alloc (.cells #[.int .i64 d1, .int .i64 d2, .int .i64 d3, .int .i64 d4] 32)).alloc (.cells #[.int .i64 x1, .int .i64 x2, .int .i64 x3, .int .i64 x4] 32)).cell? ⟨w.heap.size + 1, 3, none⟩ = some (.int .i64 x4) := (b5.2 3 _ rfl).1
  have fa2_3 : ((w.alloc (.cells #[.int .i64 d1, .int .i64 d2, .int .i64 d3, .int .i64 d4] 32)).alloc (.cells #[.int .i64 x1, .int .i64 x2, .int .i64 x3, .int .i64 x4] 32)).frozen? ⟨w.heap.size + 1, 3, none⟩ = false := (b5.2 3 _ rfl).2
  by_cases hn : n < 12
  rotate_left
  · have HD := hid (decide_eq_false (p := 0 < cn (d1, d2, d3, d4) (exq (rlLs rs) (x1, x2, x3, x4)) (12 - n)) (fun q => by have := (HP.out.1 q).1; omega))
    go_wp2_with fail
    clear ca1_0 fa1_0 ca1_1 fa1_1 ca1_2 fa1_2 ca1_3 fa1_3 ca2_0 fa2_0 ca2_1 fa2_1 ca2_2 fa2_2 ca2_3 fa2_3
    go_ret
    exact ⟨ret_bool HD.out.symm, kw⟩
  have hn1 : (n : Int) < 12 := by omega
  go_wp2_with fail
  clear ca1_0 fa1_0 ca1_1 fa1_1 ca1_2 fa1_2 ca1_3 fa1_3 ca2_0 fa2_0 ca2_1 fa2_1 ca2_2 fa2_2 ca2_3 fa2_3
  replace b4 := b4.keeps (keeps_alloc ((w.alloc (.cells #[.int .i64 d1, .int .i64 d2, .int .i64 d3, .int .i64 d4] 32)).alloc (.cells #[.int .i64 x1, .int .i64 x2, .int .i64 x3, .int .i64 x4] 32)) (.cells #[.int .i64 x1, .int .i64 x2, .int .i64 x3, .int .i64 x4] 32))
  replace b5 := b5.keeps (keeps_alloc ((w.alloc (.cells #[.int .i64 d1, .int .i64 d2, .int .i64 d3, .int .i64 d4] 32)).alloc (.cells #[.int .i64 x1, .int .i64 x2, .int .i64 x3, .int .i64 x4] 32)) (.cells #[.int .i64 x1, .int .i64 x2, .int .i64 x3, .int .i64 x4] 32))
  replace kw := Keeps.trans kw (keeps_alloc ((w.alloc (.cells #[.int .i64 d1, .int .i64 d2, .int .i64 d3, .int .i64 d4] 32)).alloc (.cells #[.int .i64 x1, .int .i64 x2, .int .i64 x3, .int .i64 x4] 32)) (.cells #[.int .i64 x1, .int .i64 x2, .int .i64 x3, .int .i64 x4] 32))
  have hmr : More (((w.alloc (.cells #[.int .i64 d1, .int .i64 d2, .int .i64 d3, .int .i64 d4] 32)).alloc (.cells #[.int .i64 x1, .int .i64 x2, .int .i64 x3, .int .i64 x4] 32)).alloc (.cells #[.int .i64 x1, .int .i64 x2, .int .i64 x3, .int .i64 x4] 32)) (some ⟨w.heap.size + 1 + 1, 0, none⟩) 1 1 [(x1, x2, x3, x4)] := .inr ⟨by omega, by omega, 0, _, _, _, rfl, one_los _ _ (by simp)⟩
  refine (rlFits_any (hr.keeps kw) hmr (by omega) HB.out HEG.out).mono ?_
  rintro e w3 ⟨rfl, k3⟩
  replace b4 := b4.keeps k3
  replace b5 := b5.keeps k3
  replace kw := Keeps.trans kw k3
  have lt4 := b5.lt
  have sz5 := kw.size
  clear k3
  clear hmr
  rw [HE.out]
  obtain ⟨z, HZ⟩ : ∃ z, Hid (lfB (d1, d2, d3, d4) (exq (rlLs rs) (x1, x2, x3, x4) 1) = z) := ⟨_, rfl⟩
  rw [HZ.out]
  have HD := hid (show decide (0 < cn (d1, d2, d3, d4) (exq (rlLs rs) (x1, x2, x3, x4)) (12 - n)) = z by cases z; (exact decide_eq_false (fun q => by have := (HP.out.1 q).2; rw [HZ.out] at this; cases this)); (exact decide_eq_true (HP.out.2 ⟨by omega, HZ.out⟩)))
  go_wp2_with fail
  go_ret
  exact ⟨ret_bool HD.out.symm, kw⟩
set_option maxRecDepth 100000 in
set_option maxHeartbeats 6400000 in
theorem implCanAdd_any {A A' R Q : Option Addr} {lo hi a c0 lo3 hi3 n q lo9 hi9 : Nat} {lo4 hi4 m : Nat} {un un' : Bool} {ts : List TT} {d1 d2 d3 d4 x1 x2 x3 x4 : Int} {ps : List Int} {l : List VV} {rs : List RL} {w : World} (h : Ints w lo hi A a ps) (hv : Vars w lo9 hi9 A' q l) (ok : NamesOk l) (hr : Rels true un w lo3 hi3 R n rs) (ht : Tabs true un' w lo4 hi4 Q m ts) :
    Calls Tryz.prog 11 #[.agg #[.slice A a c0], .slice A' q q, .slice R n n, .agg #[.int .i64 d1, .int .i64 d2, .int .i64 d3, .int .i64 d4], .slice Q m m, .agg #[.int .i64 x1, .int .i64 x2, .int .i64 x3, .int .i64 x4]] w fun e w' => e = .returned (.tuple #[.bool (caQ ps l rs (d1, d2, d3, d4) ts (x1, x2, x3, x4)).1, .bool (caQ ps l rs (d1, d2, d3, d4) ts (x1, x2, x3, x4)).2]) ∧ Keeps w w' := by
  have hq := hv.le
  have h' : Sch w A' q q l := ⟨⟨_, _, hv⟩, ok, Nat.le_refl _, by unfold maxLen; omega⟩
  have hn := hr.le
  have HRL := hid hr.len
  obtain ⟨q0, q1, HQ⟩ : ∃ q0 q1, Hid (caQ ps l rs (d1, d2, d3, d4) ts (x1, x2, x3, x4) = (q0, q1)) := ⟨_, _, rfl⟩
  rw [HQ.out]
  go_enter Tryz.func11, Tryz.ntmps11
  have kw := keeps_refl w
  replace kw := Keeps.trans kw (keeps_alloc w (.cells #[.slice A a c0] 26))
  have b6 : B1 (w.alloc (.cells #[.slice A a c0] 26)) w.heap.size (.slice A a c0) := B1.new' (by simp)
  replace b6 := b6.keeps (keeps_alloc (w.alloc (.cells #[.slice A a c0] 26)) (.cells #[.int .i64 d1, .int .i64 d2, .int .i64 d3, .int .i64 d4] 32))
  replace kw := Keeps.trans kw (keeps_alloc (w.alloc (.cells #[.slice A a c0] 26)) (.cells #[.int .i64 d1, .int .i64 d2, .int .i64 d3, .int .i64 d4] 32))
  have b9 : Bl ((w.alloc (.cells #[.slice A a c0] 26)).alloc (.cells #[.int .i64 d1, .int .i64 d2, .int .i64 d3, .int .i64 d4] 32)) (w.heap.size + 1) [.int .i64 d1, .int .i64 d2, .int .i64 d3, .int .i64 d4] := Bl.new' (by simp) (by simp)
  replace b6 := b6.keeps (keeps_alloc ((w.alloc (.cells #[.slice A a c0] 26)).alloc (.cells #[.int .i64 d1, .int .i64 d2, .int .i64 d3, .int .i64 d4] 32)) (.cells #[.int .i64 x1, .int .i64 x2, .int .i64 x3, .int .i64 x4] 32))
  replace b9 := b9.keeps (keeps_alloc ((w.alloc (.cells #[.slice A a c0] 26)).alloc (.cells #[.int .i64 d1, .int .i64 d2, .int .i64 d3, .int .i64 d4] 32)) (.cells #[.int .i64 x1, .int .i64 x2, .int .i64 x3, .int .i64 x4] 32))
  replace kw := Keeps.trans kw (keeps_alloc ((w.alloc (.cells #[.slice A a c0] 26)).alloc (.cells #[.int .i64 d1, .int .i64 d2, .int .i64 d3, .int .i64 d4] 32)) (.cells #[.int .i64 x1, .int .i64 x2, .int .i64 x3, .int .i64 x4] 32))
  have b11 : Bl (((w.alloc (.cells #[.slice A a c0] 26)).alloc (.cells #[.int .i64 d1, .int .i64 d2, .int .i64 d3, .int .i64 d4] 32)).alloc (.cells #[.int .i64 x1, .int .i64 x2, .int .i64 x3, .int .i64 x4] 32)) (w.heap.size + 1 + 1) [.int .i64 x1, .int .i64 x2, .int .i64 x3, .int .i64 x4] := Bl.new' (by simp) (by simp)
  obtain ⟨ca1, fa1⟩ := id b6
  have ca2_0 : (((w.alloc (.cells #[.slice A a c0] 26)).alloc (.cells #[.int .i64 d1, .int .i64 d2, .int .i64 d3, .int .i64 d4] 32)).alloc (.cells #[.int .i64 x1, .int .i64 x2, .int .i64 x3, .int .i64 x4] 32)).cell? ⟨w.heap.size + 1, 0, none⟩ = some (.int .i64 d1) := (b9.2 0 _ rfl).1
  have fa2_0 : (((w.alloc (.cells #[.slice A a c0] 26)).alloc (.cells #[.int .i64 d1, .int .i64 d2, .int .i64 d3, .int .i64 d4] 32)).alloc (.cells #[.int .i64 x1, .int .i64 x2, .int .i64 x3, .int .i64 x4] 32)).frozen? ⟨w.heap.size + 1, 0, none⟩ = false := (b9.2 0 _ rfl).2
  have ca2_1 : (((w.alloc (.cells #[.slice A a c0] 26)).alloc (.cells #[.int .i64 d1, .int .i64 d2, .int .i64 d3, .int .i64 d4] 32)).alloc (.cells #[.int .i64 x1, .int .i64 x2, .int .i64 x3, .int .i64 x4] 32)).cell? ⟨w.heap.size + 1, 1, none⟩ = some (.int .i64 d2) := (b9.2 1 _ rfl).1
  have fa2_1 : (((w.alloc (.cells #[.slice A a c0] 26)).alloc (.cells #[.int .i64 d1, .int .i64 d2, .int .i64 d3, .int .i64 d4] 32)).alloc (.cells #[.int .i64 x1, .int .i64 x2, .int .i64 x3, .int .i64 x4] 32)).frozen? ⟨w.heap.size + 1, 1, none⟩ = false := (b9.2 1 _ rfl).2
  have ca2_2 : (((w.alloc (.cells #[.slice A a c0] 26)).alloc (.cells #[.int .i64 d1, .int .i64 d2, .int .i64 d3, .int .i64 d4] 32)).alloc (.cells #[.int .i64 x1, .int .i64 x2, .int .i64 x3, .int .i64 x4] 32)).cell? ⟨w.heap.size + 1, 2, none⟩ = some (.int .i64 d3) := (b9.2 2 _ rfl).1
  have fa2_2 : (((w.alloc (.cells #[.slice A a c0] 26)).alloc (.cells #[.int .i64 d1, .int .i64 d2, .int .i64 d3, .int .i64 d4] 32)).alloc (.cells #[.int .i64 x1, .int .i64 x2, .int .i64 x3, .int .i64 x4] 32)).frozen? ⟨w.heap.size + 1, 2, none⟩ = false := (b9.2 2 _ rfl).2
  have ca2_3 : (((w.alloc (.cells #[.slice A a c0] 26)).alloc (.cells #[.int .i64 d1, .int .i64 d2, .int .i64 d3, .int .i64 d4] 32)).alloc (.cells #[.int .i64 x1, .int .i64 x2, .int .i64 x3, .int .i64 x4] 32)).cell? ⟨w.heap.size + 1, 3, none⟩ = some (.int .i64 d4) := (b9.2 3 _ rfl).1
  have fa2_3 : (((w.alloc (.cells #[.slice A a c0] 26)).alloc (.cells #[.int .i64 d1, .int .i64 d2, .int .i64 d3, .int .i64 d4] 32)).alloc (.cells #[.int .i64 x1, .int .i64 x2, .int .i64 x3, .int .i64 x4] 32)).frozen? ⟨w.heap.size + 1, 3, none⟩ = false := (b9.2 3 _ rfl).2
  have ca3_0 : (((w.alloc (.cells #[.slice A a c0] 26)).alloc (.cells #[.int .i64 d1, .int .i64 d2, .int .i64 d3, .int .i64 d4] 32)).alloc (.cells #[.int .i64 x1, .int .i64 x2, .int .i64 x3, .int .i64 x4] 32)).cell? ⟨w.heap.size + 1 + 1, 0, none⟩ = some (.int .i64 x1) := (b11.2 0 _ rfl).1
  have fa3_0 : (((w.alloc (.cells #[.slice A a c0] 26)).alloc (.cells #[.int .i64 d1, .int .i64 d2, .int .i64 d3, .int .i64 d4] 32)).alloc (.cells #[.int .i64 x1, .int .i64 x2, .int .i64 x3, .int .i64 x4] 32)).frozen? ⟨w.heap.size + 1 + 1, 0, none⟩ = false := (b11.2 0 _ rfl).2
  have ca3_1 : (((w.alloc (.cells #[.slice A a c0] 26)).alloc (.cells #[.int .i64 d1, .int .i64 d2, .int .i64 d3, .int .i64 d4] 32)).alloc (.cells #[.int .i64 x1, .int .i64 x2, .int .i64 x3, .int .i64 x4] 32)).cell? ⟨w.heap.size + 1 + 1, 1, none⟩ = some (.int .i64 x2) := (b11.2 1 _ rfl).1
  have fa3_1 : (((w.alloc (.cells #[.slice A a c0] 26)).alloc (.cells #[.int .i64 d1, .int .i64 d2, .int .i64 d3, .int .i64 d4] 32)).alloc (.cells #[.int .i64 x1, .int .i64 x2, .int .i64 x3, .int .i64 x4] 32)).frozen? ⟨w.heap.size + 1 + 1, 1, none⟩ = false := (b11.2 1 _ rfl).2
  have ca3_2 : (((w.alloc (.cells #[.slice A a c0] 26)).alloc (.cells #[.int .i64 d1, .int .i64 d2, .int .i64 d3, .int .i64 d4] 32)).alloc (.cells #[.int .i64 x1, .int .i64 x2, .int .i64 x3, .int .i64 x4] 32)).cell? ⟨w.heap.size + 1 + 1, 2, none⟩ = some (.int .i64 x3) := (b11.2 2 _ rfl).1
  have fa3_2 : (((w.alloc (.cells #[.slice A a c0] 26)).alloc (.cells #[.int .i64 d1, .int .i64 d2, .int .i64 d3, .int .i64 d4] 32)).alloc (.cells #[.int .i64 x1, .int .i64 x2, .int .i64 x3, .int .i64 x4] 32)).frozen? ⟨w.heap.size + 1 + 1, 2, none⟩ = false := (b11.2 2 _ rfl).2
  have ca3_3 : (((w.alloc (.cells #[.slice A a c0] 26)).alloc (.cells #[.int .i64 d1, .int .i64 d2, .int .i64 d3, .int .i64 d4] 32)).alloc (.cells #[.int .i64 x1, .int .i64 x2, .int .i64 x3, .int .i64 x4] 32)).cell? ⟨w.heap.size + 1 + 1, 3, none⟩ = some (.int .i64 x4) := (b11.2 3 _ rfl).1
  have fa3_3 : (((w.alloc (.cells #[.slice A a c0] 26)).alloc (.cells #[.int .i64 d1, .int .i64 d2, .int .i64 d3, .int .i64 d4] 32)).alloc (.cells #[.int .i64 x1, .int .i64 x2, .int .i64 x3, .int .i64 x4] 32)).frozen? ⟨w.heap.size + 1 + 1, 3, none⟩ = false := (b11.2 3 _ rfl).2
  go_wp2_with fail
  clear ca1 fa1 ca2_0 fa2_0 ca2_1 fa2_1 ca2_2 fa2_2 ca2_3 fa2_3 ca3_0 fa3_0 ca3_1 fa3_1 ca3_2 fa3_2 ca3_3 fa3_3
  obtain ⟨pH1, H1⟩ : ∃ pB, Hid (hisB ps l rs = pB) := ⟨_, rfl⟩
  refine (isHistory_any (h.keeps kw) (h'.keeps kw) (hr.keeps kw)).mono ?_
  rintro e w4 ⟨rfl, k4⟩
  rw [H1.out]
  replace b6 := b6.keeps k4
  replace b9 := b9.keeps k4
  replace b11 := b11.keeps k4
  replace kw := Keeps.trans kw k4
  have lt5 := b11.lt
  have sz6 := kw.size
  clear k4
  cases pH1
  · obtain ⟨e0, e1⟩ : q0 = false ∧ q1 = false := by have := HQ.out.symm.trans (caQ_no (by rw [H1.out]; rfl)); injection this with a b; exact ⟨a, b⟩
    subst e0 e1
    obtain ⟨ca7, fa7⟩ := id b6
    have ca8_0 : w4.cell? ⟨w.heap.size + 1, 0, none⟩ = some (.int .i64 d1) := (b9.2 0 _ rfl).1
    have fa8_0 : w4.frozen? ⟨w.heap.size + 1, 0, none⟩ = false := (b9.2 0 _ rfl).2
    have ca8_1 : w4.cell? ⟨w.heap.size + 1, 1, none⟩ = some (.int .i64 d2) := (b9.2 1 _ rfl).1
    have fa8_1 : w4.frozen? ⟨w.heap.size + 1, 1, none⟩ = false := (b9.2 1 _ rfl).2
    have ca8_2 : w4.cell? ⟨w.heap.size + 1, 2, none⟩ = some (.int .i64 d3) := (b9.2 2 _ rfl).1
    have fa8_2 : w4.frozen? ⟨w.heap.size + 1, 2, none⟩ = false := (b9.2 2 _ rfl).2
    have ca8_3 : w4.cell? ⟨w.heap.size + 1, 3, none⟩ = some (.int .i64 d4) := (b9.2 3 _ rfl).1
    have fa8_3 : w4.frozen? ⟨w.heap.size + 1, 3, none⟩ = false := (b9.2 3 _ rfl).2
    have ca9_0 : w4.cell? ⟨w.heap.size + 1 + 1, 0, none⟩ = some (.int .i64 x1) := (b11.2 0 _ rfl).1
    have fa9_0 : w4.frozen? ⟨w.heap.size + 1 + 1, 0, none⟩ = false := (b11.2 0 _ rfl).2
    have ca9_1 : w4.cell? ⟨w.heap.size + 1 + 1, 1, none⟩ = some (.int .i64 x2) := (b11.2 1 _ rfl).1
    have fa9_1 : w4.frozen? ⟨w.heap.size + 1 + 1, 1, none⟩ = false := (b11.2 1 _ rfl).2
    have ca9_2 : w4.cell? ⟨w.heap.size + 1 + 1, 2, none⟩ = some (.int .i64 x3) := (b11.2 2 _ rfl).1
    have fa9_2 : w4.frozen? ⟨w.heap.size + 1 + 1, 2, none⟩ = false := (b11.2 2 _ rfl).2
    have ca9_3 : w4.cell? ⟨w.heap.size + 1 + 1, 3, none⟩ = some (.int .i64 x4) := (b11.2 3 _ rfl).1
    have fa9_3 : w4.frozen? ⟨w.heap.size + 1 + 1, 3, none⟩ = false := (b11.2 3 _ rfl).2
    go_wp2_with fail
    clear ca7 fa7 ca8_0 fa8_0 ca8_1 fa8_1 ca8_2 fa8_2 ca8_3 fa8_3 ca9_0 fa9_0 ca9_1 fa9_1 ca9_2 fa9_2 ca9_3 fa9_3
    go_ret2
    exact ⟨rfl, kw⟩
  · skip
    obtain ⟨ca7, fa7⟩ := id b6
    have ca8_0 : w4.cell? ⟨w.heap.size + 1, 0, none⟩ = some (.int .i64 d1) := (b9.2 0 _ rfl).1
    have fa8_0 : w4.frozen? ⟨w.heap.size + 1, 0, none⟩ = false := (b9.2 0 _ rfl).2
    have ca8_1 : w4.cell? ⟨w.heap.size + 1, 1, none⟩ = some (.int .i64 d2) := (b9.2 1 _ rfl).1
    have fa8_1 : w4.frozen? ⟨w.heap.size + 1, 1, none⟩ = false := (b9.2 1 _ rfl).2
    have ca8_2 : w4.cell? ⟨w.heap.size + 1, 2, none⟩ = some (.int .i64 d3) := (b9.2 2 _ rfl).1
    have fa8_2 : w4.frozen? ⟨w.heap.size + 1, 2, none⟩ = false := (b9.2 2 _ rfl).2
    have ca8_3 : w4.cell? ⟨w.heap.size + 1, 3, none⟩ = some (.int .i64 d4) := (b9.2 3 _ rfl).1
    have fa8_3 : w4.frozen? ⟨w.heap.size + 1, 3, none⟩ = false := (b9.2 3 _ rfl).2
    have ca9_0 : w4.cell? ⟨w.heap.size + 1 + 1, 0, none⟩ = some (.int .i64 x1) := (b11.2 0 _ rfl).1
    have fa9_0 : w4.frozen? ⟨w.heap.size + 1 + 1, 0, none⟩ = false := (b11.2 0 _ rfl).2
    have ca9_1 : w4.cell? ⟨w.heap.size + 1 + 1, 1, none⟩ = some (.int .i64 x2) := (b11.2 1 _ rfl).1
    have fa9_1 : w4.frozen? ⟨w.heap.size + 1 + 1, 1, none⟩ = false := (b11.2 1 _ rfl).2
    have ca9_2 : w4.cell? ⟨w.heap.size + 1 + 1, 2, none⟩ = some (.int .i64 x3) := (b11.2 2 _ rfl).1
    have fa9_2 : w4.frozen? ⟨w.heap.size + 1 + 1, 2, none⟩ = false := (b11.2 2 _ rfl).2
    have ca9_3 : w4.cell? ⟨w.heap.size + 1 + 1, 3, none⟩ = some (.int .i64 x4) := (b11.2 3 _ rfl).1
    have fa9_3 : w4.frozen? ⟨w.heap.size + 1 + 1, 3, none⟩ = false := (b11.2 3 _ rfl).2
    go_wp2_with fail
    clear ca7 fa7 ca8_0 fa8_0 ca8_1 fa8_1 ca8_2 fa8_2 ca8_3 fa8_3 ca9_0 fa9_0 ca9_1 fa9_1 ca9_2 fa9_2 ca9_3 fa9_3
    obtain ⟨pH2, H2⟩ : ∃ pB, Hid (lossB d1 d2 d3 d4 = pB) := ⟨_, rfl⟩
    refine (IsLoss_any).mono ?_
    rintro e w10 ⟨rfl, k10⟩
    rw [H2.out]
    replace b6 := b6.keeps k10
    replace b9 := b9.keeps k10
    replace b11 := b11.keeps k10
    replace kw := Keeps.trans kw k10
    have lt11 := b11.lt
    have sz12 := kw.size
    clear k10
    cases pH2
    · obtain ⟨e0, e1⟩ : q0 = false ∧ q1 = false := by have := HQ.out.symm.trans (caQ_no (by rw [H1.out, show lsB (d1, d2, d3, d4) = false from H2.out]; rfl)); injection this with a b; exact ⟨a, b⟩
      subst e0 e1
      obtain ⟨ca13, fa13⟩ := id b6
      have ca14_0 : w10.cell? ⟨w.heap.size + 1, 0, none⟩ = some (.int .i64 d1) := (b9.2 0 _ rfl).1
      have fa14_0 : w10.frozen? ⟨w.heap.size + 1, 0, none⟩ = false := (b9.2 0 _ rfl).2
      have ca14_1 : w10.cell? ⟨w.heap.size + 1, 1, none⟩ = some (.int .i64 d2) := (b9.2 1 _ rfl).1
      have fa14_1 : w10.frozen? ⟨w.heap.size + 1, 1, none⟩ = false := (b9.2 1 _ rfl).2
      have ca14_2 : w10.cell? ⟨w.heap.size + 1, 2, none⟩ = some (.int .i64 d3) := (b9.2 2 _ rfl).1
      have fa14_2 : w10.frozen? ⟨w.heap.size + 1, 2, none⟩ = false := (b9.2 2 _ rfl).2
      have ca14_3 : w10.cell? ⟨w.heap.size + 1, 3, none⟩ = some (.int .i64 d4) := (b9.2 3 _ rfl).1
      have fa14_3 : w10.frozen? ⟨w.heap.size + 1, 3, none⟩ = false := (b9.2 3 _ rfl).2
      have ca15_0 : w10.cell? ⟨w.heap.size + 1 + 1, 0, none⟩ = some (.int .i64 x1) := (b11.2 0 _ rfl).1
      have fa15_0 : w10.frozen? ⟨w.heap.size + 1 + 1, 0, none⟩ = false := (b11.2 0 _ rfl).2
      have ca15_1 : w10.cell? ⟨w.heap.size + 1 + 1, 1, none⟩ = some (.int .i64 x2) := (b11.2 1 _ rfl).1
      have fa15_1 : w10.frozen? ⟨w.heap.size + 1 + 1, 1, none⟩ = false := (b11.2 1 _ rfl).2
      have ca15_2 : w10.cell? ⟨w.heap.size + 1 + 1, 2, none⟩ = some (.int .i64 x3) := (b11.2 2 _ rfl).1
      have fa15_2 : w10.frozen? ⟨w.heap.size + 1 + 1, 2, none⟩ = false := (b11.2 2 _ rfl).2
      have ca15_3 : w10.cell? ⟨w.heap.size + 1 + 1, 3, none⟩ = some (.int .i64 x4) := (b11.2 3 _ rfl).1
      have fa15_3 : w10.frozen? ⟨w.heap.size + 1 + 1, 3, none⟩ = false := (b11.2 3 _ rfl).2
      go_wp2_with fail
      clear ca13 fa13 ca14_0 fa14_0 ca14_1 fa14_1 ca14_2 fa14_2 ca14_3 fa14_3 ca15_0 fa15_0 ca15_1 fa15_1 ca15_2 fa15_2 ca15_3 fa15_3
      go_ret2
      exact ⟨rfl, kw⟩
    · skip
      obtain ⟨ca13, fa13⟩ := id b6
      have ca14_0 : w10.cell? ⟨w.heap.size + 1, 0, none⟩ = some (.int .i64 d1) := (b9.2 0 _ rfl).1
      have fa14_0 : w10.frozen? ⟨w.heap.size + 1, 0, none⟩ = false := (b9.2 0 _ rfl).2
      have ca14_1 : w10.cell? ⟨w.heap.size + 1, 1, none⟩ = some (.int .i64 d2) := (b9.2 1 _ rfl).1
      have fa14_1 : w10.frozen? ⟨w.heap.size + 1, 1, none⟩ = false := (b9.2 1 _ rfl).2
      have ca14_2 : w10.cell? ⟨w.heap.size + 1, 2, none⟩ = some (.int .i64 d3) := (b9.2 2 _ rfl).1
      have fa14_2 : w10.frozen? ⟨w.heap.size + 1, 2, none⟩ = false := (b9.2 2 _ rfl).2
      have ca14_3 : w10.cell? ⟨w.heap.size + 1, 3, none⟩ = some (.int .i64 d4) := (b9.2 3 _ rfl).1
      have fa14_3 : w10.frozen? ⟨w.heap.size + 1, 3, none⟩ = false := (b9.2 3 _ rfl).2
      have ca15_0 : w10.cell? ⟨w.heap.size + 1 + 1, 0, none⟩ = some (.int .i64 x1) := (b11.2 0 _ rfl).1
      have fa15_0 : w10.frozen? ⟨w.heap.size + 1 + 1, 0, none⟩ = false := (b11.2 0 _ rfl).2
      have ca15_1 : w10.cell? ⟨w.heap.size + 1 + 1, 1, none⟩ = some (.int .i64 x2) := (b11.2 1 _ rfl).1
      have fa15_1 : w10.frozen? ⟨w.heap.size + 1 + 1, 1, none⟩ = false := (b11.2 1 _ rfl).2
      have ca15_2 : w10.cell? ⟨w.heap.size + 1 + 1, 2, none⟩ = some (.int .i64 x3) := (b11.2 2 _ rfl).1
      have fa15_2 : w10.frozen? ⟨w.heap.size + 1 + 1, 2, none⟩ = false := (b11.2 2 _ rfl).2
      have ca15_3 : w10.cell? ⟨w.heap.size + 1 + 1, 3, none⟩ = some (.int .i64 x4) := (b11.2 3 _ rfl).1
      have fa15_3 : w10.frozen? ⟨w.heap.size + 1 + 1, 3, none⟩ = false := (b11.2 3 _ rfl).2
      go_wp2_with fail
      clear ca13 fa13 ca14_0 fa14_0 ca14_1 fa14_1 ca14_2 fa14_2 ca14_3 fa14_3 ca15_0 fa15_0 ca15_1 fa15_1 ca15_2 fa15_2 ca15_3 fa15_3
      have HGS := hid (hisB_parts H1.out)
      obtain ⟨pH3, H3⟩ : ∃ pB, Hid (plB ps l ts = pB) := ⟨_, rfl⟩
      refine (isPlan_any (h.keeps kw) (h'.keeps kw) (ht.keeps kw) HGS.out.1 HGS.out.2.1).mono ?_
      rintro e w16 ⟨rfl, k16⟩
      rw [H3.out]
      replace b6 := b6.keeps k16
      replace b9 := b9.keeps k16
      replace b11 := b11.keeps k16
      replace kw := Keeps.trans kw k16
      have lt17 := b11.lt
      have sz18 := kw.size
      clear k16
      cases pH3
      · obtain ⟨e0, e1⟩ : q0 = false ∧ q1 = false := by have := HQ.out.symm.trans (caQ_no (by rw [H3.out]; simp)); injection this with a b; exact ⟨a, b⟩
        subst e0 e1
        obtain ⟨ca19, fa19⟩ := id b6
        have ca20_0 : w16.cell? ⟨w.heap.size + 1, 0, none⟩ = some (.int .i64 d1) := (b9.2 0 _ rfl).1
        have fa20_0 : w16.frozen? ⟨w.heap.size + 1, 0, none⟩ = false := (b9.2 0 _ rfl).2
        have ca20_1 : w16.cell? ⟨w.heap.size + 1, 1, none⟩ = some (.int .i64 d2) := (b9.2 1 _ rfl).1
        have fa20_1 : w16.frozen? ⟨w.heap.size + 1, 1, none⟩ = false := (b9.2 1 _ rfl).2
        have ca20_2 : w16.cell? ⟨w.heap.size + 1, 2, none⟩ = some (.int .i64 d3) := (b9.2 2 _ rfl).1
        have fa20_2 : w16.frozen? ⟨w.heap.size + 1, 2, none⟩ = false := (b9.2 2 _ rfl).2
        have ca20_3 : w16.cell? ⟨w.heap.size + 1, 3, none⟩ = some (.int .i64 d4) := (b9.2 3 _ rfl).1
        have fa20_3 : w16.frozen? ⟨w.heap.size + 1, 3, none⟩ = false := (b9.2 3 _ rfl).2
        have ca21_0 : w16.cell? ⟨w.heap.size + 1 + 1, 0, none⟩ = some (.int .i64 x1) := (b11.2 0 _ rfl).1
        have fa21_0 : w16.frozen? ⟨w.heap.size + 1 + 1, 0, none⟩ = false := (b11.2 0 _ rfl).2
        have ca21_1 : w16.cell? ⟨w.heap.size + 1 + 1, 1, none⟩ = some (.int .i64 x2) := (b11.2 1 _ rfl).1
        have fa21_1 : w16.frozen? ⟨w.heap.size + 1 + 1, 1, none⟩ = false := (b11.2 1 _ rfl).2
        have ca21_2 : w16.cell? ⟨w.heap.size + 1 + 1, 2, none⟩ = some (.int .i64 x3) := (b11.2 2 _ rfl).1
        have fa21_2 : w16.frozen? ⟨w.heap.size + 1 + 1, 2, none⟩ = false := (b11.2 2 _ rfl).2
        have ca21_3 : w16.cell? ⟨w.heap.size + 1 + 1, 3, none⟩ = some (.int .i64 x4) := (b11.2 3 _ rfl).1
        have fa21_3 : w16.frozen? ⟨w.heap.size + 1 + 1, 3, none⟩ = false := (b11.2 3 _ rfl).2
        go_wp2_with fail
        clear ca19 fa19 ca20_0 fa20_0 ca20_1 fa20_1 ca20_2 fa20_2 ca20_3 fa20_3 ca21_0 fa21_0 ca21_1 fa21_1 ca21_2 fa21_2 ca21_3 fa21_3
        go_ret2
        exact ⟨rfl, kw⟩
      · skip
        obtain ⟨ca19, fa19⟩ := id b6
        have ca20_0 : w16.cell? ⟨w.heap.size + 1, 0, none⟩ = some (.int .i64 d1) := (b9.2 0 _ rfl).1
        have fa20_0 : w16.frozen? ⟨w.heap.size + 1, 0, none⟩ = false := (b9.2 0 _ rfl).2
        have ca20_1 : w16.cell? ⟨w.heap.size + 1, 1, none⟩ = some (.int .i64 d2) := (b9.2 1 _ rfl).1
        have fa20_1 : w16.frozen? ⟨w.heap.size + 1, 1, none⟩ = false := (b9.2 1 _ rfl).2
        have ca20_2 : w16.cell? ⟨w.heap.size + 1, 2, none⟩ = some (.int .i64 d3) := (b9.2 2 _ rfl).1
        have fa20_2 : w16.frozen? ⟨w.heap.size + 1, 2, none⟩ = false := (b9.2 2 _ rfl).2
        have ca20_3 : w16.cell? ⟨w.heap.size + 1, 3, none⟩ = some (.int .i64 d4) := (b9.2 3 _ rfl).1
        have fa20_3 : w16.frozen? ⟨w.heap.size + 1, 3, none⟩ = false := (b9.2 3 _ rfl).2
        have ca21_0 : w16.cell? ⟨w.heap.size + 1 + 1, 0, none⟩ = some (.int .i64 x1) := (b11.2 0 _ rfl).1
        have fa21_0 : w16.frozen? ⟨w.heap.size + 1 + 1, 0, none⟩ = false := (b11.2 0 _ rfl).2
        have ca21_1 : w16.cell? ⟨w.heap.size + 1 + 1, 1, none⟩ = some (.int .i64 x2) := (b11.2 1 _ rfl).1
        have fa21_1 : w16.frozen? ⟨w.heap.size + 1 + 1, 1, none⟩ = false := (b11.2 1 _ rfl).2
        have ca21_2 : w16.cell? ⟨w.heap.size + 1 + 1, 2, none⟩ = some (.int .i64 x3) := (b11.2 2 _ rfl).1
        have fa21_2 : w16.frozen? ⟨w.heap.size + 1 + 1, 2, none⟩ = false := (b11.2 2 _ rfl).2
        have ca21_3 : w16.cell? ⟨w.heap.size + 1 + 1, 3, none⟩ = some (.int .i64 x4) := (b11.2 3 _ rfl).1
        have fa21_3 : w16.frozen? ⟨w.heap.size + 1 + 1, 3, none⟩ = false := (b11.2 3 _ rfl).2
        go_wp2_with fail
        clear ca19 fa19 ca20_0 fa20_0 ca20_1 fa20_1 ca20_2 fa20_2 ca20_3 fa20_3 ca21_0 fa21_0 ca21_1 fa21_1 ca21_2 fa21_2 ca21_3 fa21_3
        obtain ⟨pH4, H4⟩ : ∃ pB, Hid (lossB x1 x2 x3 x4 = pB) := ⟨_, rfl⟩
        refine (IsLoss_any).mono ?_
        rintro e w22 ⟨rfl, k22⟩
        rw [H4.out]
        replace b6 := b6.keeps k22
        replace b9 := b9.keeps k22
        replace b11 := b11.keeps k22
        replace kw := Keeps.trans kw k22
        have lt23 := b11.lt
        have sz24 := kw.size
        clear k22
        cases pH4
        · obtain ⟨e0, e1⟩ : q0 = false ∧ q1 = false := by have := HQ.out.symm.trans (caQ_no (by rw [show lsB (x1, x2, x3, x4) = false from H4.out]; simp)); injection this with a b; exact ⟨a, b⟩
          subst e0 e1
          obtain ⟨ca25, fa25⟩ := id b6
          have ca26_0 : w22.cell? ⟨w.heap.size + 1, 0, none⟩ = some (.int .i64 d1) := (b9.2 0 _ rfl).1
          have fa26_0 : w22.frozen? ⟨w.heap.size + 1, 0, none⟩ = false := (b9.2 0 _ rfl).2
          have ca26_1 : w22.cell? ⟨w.heap.size + 1, 1, none⟩ = some (.int .i64 d2) := (b9.2 1 _ rfl).1
          have fa26_1 : w22.frozen? ⟨w.heap.size + 1, 1, none⟩ = false := (b9.2 1 _ rfl).2
          have ca26_2 : w22.cell? ⟨w.heap.size + 1, 2, none⟩ = some (.int .i64 d3) := (b9.2 2 _ rfl).1
          have fa26_2 : w22.frozen? ⟨w.heap.size + 1, 2, none⟩ = false := (b9.2 2 _ rfl).2
          have ca26_3 : w22.cell? ⟨w.heap.size + 1, 3, none⟩ = some (.int .i64 d4) := (b9.2 3 _ rfl).1
          have fa26_3 : w22.frozen? ⟨w.heap.size + 1, 3, none⟩ = false := (b9.2 3 _ rfl).2
          have ca27_0 : w22.cell? ⟨w.heap.size + 1 + 1, 0, none⟩ = some (.int .i64 x1) := (b11.2 0 _ rfl).1
          have fa27_0 : w22.frozen? ⟨w.heap.size + 1 + 1, 0, none⟩ = false := (b11.2 0 _ rfl).2
          have ca27_1 : w22.cell? ⟨w.heap.size + 1 + 1, 1, none⟩ = some (.int .i64 x2) := (b11.2 1 _ rfl).1
          have fa27_1 : w22.frozen? ⟨w.heap.size + 1 + 1, 1, none⟩ = false := (b11.2 1 _ rfl).2
          have ca27_2 : w22.cell? ⟨w.heap.size + 1 + 1, 2, none⟩ = some (.int .i64 x3) := (b11.2 2 _ rfl).1
          have fa27_2 : w22.frozen? ⟨w.heap.size + 1 + 1, 2, none⟩ = false := (b11.2 2 _ rfl).2
          have ca27_3 : w22.cell? ⟨w.heap.size + 1 + 1, 3, none⟩ = some (.int .i64 x4) := (b11.2 3 _ rfl).1
          have fa27_3 : w22.frozen? ⟨w.heap.size + 1 + 1, 3, none⟩ = false := (b11.2 3 _ rfl).2
          go_wp2_with fail
          clear ca25 fa25 ca26_0 fa26_0 ca26_1 fa26_1 ca26_2 fa26_2 ca26_3 fa26_3 ca27_0 fa27_0 ca27_1 fa27_1 ca27_2 fa27_2 ca27_3 fa27_3
          go_ret2
          exact ⟨rfl, kw⟩
        · skip
          have HA := hid (show (hisB ps l rs && lsB (d1, d2, d3, d4) && plB ps l ts && lsB (x1, x2, x3, x4)) = true by rw [H1.out, H3.out, show lsB (d1, d2, d3, d4) = true from H2.out, show lsB (x1, x2, x3, x4) = true from H4.out]; rfl)
          have HAA := HA.out
          simp only [Bool.and_eq_true] at HAA
          have HAB := hid HAA
          clear HAA
          obtain ⟨e0, e1⟩ : q0 = decide (0 < cn (d1, d2, d3, d4) (exq (rlLs rs) (x1, x2, x3, x4)) (12 - rs.length)) ∧ q1 = true := by have := HQ.out.symm.trans (caQ_yes HA.out); injection this with a b; exact ⟨a, b⟩
          subst e1
          rw [HRL.out] at e0
          have HE := hid e0
          clear e0
          obtain ⟨ca25, fa25⟩ := id b6
          have ca26_0 : w22.cell? ⟨w.heap.size + 1, 0, none⟩ = some (.int .i64 d1) := (b9.2 0 _ rfl).1
          have fa26_0 : w22.frozen? ⟨w.heap.size + 1, 0, none⟩ = false := (b9.2 0 _ rfl).2
          have ca26_1 : w22.cell? ⟨w.heap.size + 1, 1, none⟩ = some (.int .i64 d2) := (b9.2 1 _ rfl).1
          have fa26_1 : w22.frozen? ⟨w.heap.size + 1, 1, none⟩ = false := (b9.2 1 _ rfl).2
          have ca26_2 : w22.cell? ⟨w.heap.size + 1, 2, none⟩ = some (.int .i64 d3) := (b9.2 2 _ rfl).1
          have fa26_2 : w22.frozen? ⟨w.heap.size + 1, 2, none⟩ = false := (b9.2 2 _ rfl).2
          have ca26_3 : w22.cell? ⟨w.heap.size + 1, 3, none⟩ = some (.int .i64 d4) := (b9.2 3 _ rfl).1
          have fa26_3 : w22.frozen? ⟨w.heap.size + 1, 3, none⟩ = false := (b9.2 3 _ rfl).2
          have ca27_0 : w22.cell? ⟨w.heap.size + 1 + 1, 0, none⟩ = some (.int .i64 x1) := (b11.2 0 _ rfl).1
          have fa27_0 : w22.frozen? ⟨w.heap.size + 1 + 1, 0, none⟩ = false := (b11.2 0 _ rfl).2
          have ca27_1 : w22.cell? ⟨w.heap.size + 1 + 1, 1, none⟩ = some (.int .i64 x2) := (b11.2 1 _ rfl).1
          have fa27_1 : w22.frozen? ⟨w.heap.size + 1 + 1, 1, none⟩ = false := (b11.2 1 _ rfl).2
          have ca27_2 : w22.cell? ⟨w.heap.size + 1 + 1, 2, none⟩ = some (.int .i64 x3) := (b11.2 2 _ rfl).1
          have fa27_2 : w22.frozen? ⟨w.heap.size + 1 + 1, 2, none⟩ = false := (b11.2 2 _ rfl).2
          have ca27_3 : w22.cell? ⟨w.heap.size + 1 + 1, 3, none⟩ = some (.int .i64 x4) := (b11.2 3 _ rfl).1
          have fa27_3 : w22.frozen? ⟨w.heap.size + 1 + 1, 3, none⟩ = false := (b11.2 3 _ rfl).2
          go_wp2_with fail
          clear ca25 fa25 ca26_0 fa26_0 ca26_1 fa26_1 ca26_2 fa26_2 ca26_3 fa26_3 ca27_0 fa27_0 ca27_1 fa27_1 ca27_2 fa27_2 ca27_3 fa27_3
          refine (usesLeft_any (c := n) (hr.keeps kw) HAB.out.1.1.1 HAB.out.1.1.2 HAB.out.2).mono ?_
          rintro e w28 ⟨rfl, k28⟩
          replace b6 := b6.keeps k28
          replace b9 := b9.keeps k28
          replace b11 := b11.keeps k28
          replace kw := Keeps.trans kw k28
          have lt29 := b11.lt
          have sz30 := kw.size
          clear k28
          obtain ⟨N, hN⟩ : ∃ N, cn (d1, d2, d3, d4) (exq (rlLs rs) (x1, x2, x3, x4)) (12 - n) = N := ⟨_, rfl⟩
          rw [hN] at HE
          rw [hN]
          clear hN
          by_cases h0 : 0 < N
          · obtain rfl : q0 = true := by rw [HE.out]; exact decide_eq_true h0
            go_wp2_with fail
            go_ret2
            exact ⟨by first | rfl | (simp; omega), kw⟩
          · obtain rfl : q0 = false := by rw [HE.out]; exact decide_eq_false h0
            obtain rfl : N = 0 := by omega
            go_wp2_with fail
            go_ret2
            exact ⟨by first | rfl | (simp; omega), kw⟩
end Go.Proofs.YtohjkpopbmmliaaGreat
