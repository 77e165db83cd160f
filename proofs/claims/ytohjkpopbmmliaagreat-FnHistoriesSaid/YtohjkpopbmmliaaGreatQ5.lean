/- What the proof of the statement leans on, part 6: walks of functions and plain lemmas, with no condition. -/
import Derived.Deep.RegionHeld3
import Derived.Lib.QuietBelow
import Derived.Deep.RegionLaw
import Derived.Test.YtohjkpopbmmliaaGreatQ4
namespace Go.Proofs.YtohjkpopbmmliaaGreat
open Go.RowKit Go.Sort
set_option linter.unusedVariables false
set_option linter.unusedSimpArgs false
theorem more_nil (w : World) : More w none 0 0 [] := .inl ⟨rfl, rfl, rfl, rfl⟩
theorem lz_of {q : LQ × Bool} {s : LQ} (h : q.2 = true ∨ q = (lz, false)) (e : q = (s, false)) : q = (lz, false) := by
  rcases h with h | h
  · rw [e] at h; cases h
  · exact h
theorem lfB_eq {b s : LQ} {q : LQ × Bool} (h : q = (s, true)) : lfB b q = wiB b s := by unfold lfB; rw [h]; rfl
theorem com_take {ls : List LQ} {k : Nat} (h1 : ls.length ≤ 30) (h : ∀ k, k < ls.length → lsB (ls.getD k lz) = true) (hk : k ≤ ls.length) : comQ (ls.take k) = comTo ls k := by
  have hl : (ls.take k).length = k := by rw [List.length_take]; omega
  rw [comQ_of (by omega) (fun j hj => ?_), hl]
  · exact comTo_take hk
  · rw [hl] at hj
    have : (ls.take k).getD j lz = ls.getD j lz := by simp [List.getD, List.getElem?_take, hj]
    rw [this]; exact h j (by omega)
set_option maxRecDepth 100000 in
set_option maxHeartbeats 3200000 in
theorem rlFits_any {R M : Option Addr} {lo hi n c m cm : Nat} {un : Bool} {rs : List RL} {ms : List LQ} {d1 d2 d3 d4 : Int} {w : World} (hr : Rels true un w lo hi R n rs) (hm : More w M m cm ms) (hn : n ≤ 1000) (hb : lsB (d1, d2, d3, d4) = true) (hg : ∀ s, comQ (rlLs rs ++ ms) = (s, true) → lsB s = true) :
    Calls Tryz.prog 57 #[.slice R n c, .slice M m cm, .agg #[.int .i64 d1, .int .i64 d2, .int .i64 d3, .int .i64 d4]] w fun e w' => e = .returned (.bool (lfB (d1, d2, d3, d4) (comQ (rlLs rs ++ ms)))) ∧ Keeps w w' := by
  have HB := hid hb
  have HG := hid hg
  clear hb hg
  obtain ⟨r1, r2, r3, r4, p, HR⟩ : ∃ r1 r2 r3 r4 p, Hid (comQ (rlLs rs ++ ms) = ((r1, r2, r3, r4), p)) := ⟨_, _, _, _, _, rfl⟩
  go_enter Tryz.func57, Tryz.ntmps57
  have kw := keeps_refl w
  replace kw := Keeps.trans kw (keeps_alloc w (.cells #[.int .i64 d1, .int .i64 d2, .int .i64 d3, .int .i64 d4] 32))
  have b5 : Bl (w.alloc (.cells #[.int .i64 d1, .int .i64 d2, .int .i64 d3, .int .i64 d4] 32)) w.heap.size [.int .i64 d1, .int .i64 d2, .int .i64 d3, .int .i64 d4] := Bl.new' (by simp) (by simp)
  have ca1_0 : (w.alloc (.cells #[.int .i64 d1, .int .i64 d2, .int .i64 d3, .int .i64 d4] 32)).cell? ⟨w.heap.size, 0, none⟩ = some (.int .i64 d1) := (b5.2 0 _ rfl).1
  have ca1_1 : (w.alloc (.cells #[.int .i64 d1, .int .i64 d2, .int .i64 d3, .int .i64 d4] 32)).cell? ⟨w.heap.size, 1, none⟩ = some (.int .i64 d2) := (b5.2 1 _ rfl).1
  have ca1_2 : (w.alloc (.cells #[.int .i64 d1, .int .i64 d2, .int .i64 d3, .int .i64 d4] 32)).cell? ⟨w.heap.size, 2, none⟩ = some (.int .i64 d3) := (b5.2 2 _ rfl).1
  have ca1_3 : (w.alloc (.cells #[.int .i64 d1, .int .i64 d2, .int .i64 d3, .int .i64 d4] 32)).cell? ⟨w.heap.size, 3, none⟩ = some (.int .i64 d4) := (b5.2 3 _ rfl).1
  go_wp2_with fail
  clear ca1_0 ca1_1 ca1_2 ca1_3
  refine (rlSpent_any (hr.keeps kw) (hm.keeps kw) hn).mono ?_
  rintro e w2 ⟨rfl, k2⟩
  rw [HR.out]
  replace b5 := b5.keeps k2
  replace kw := Keeps.trans kw k2
  have lt3 := b5.lt
  have sz4 := kw.size
  clear k2
  replace b5 := b5.keeps (keeps_alloc w2 (.cells #[.int .i64 r1, .int .i64 r2, .int .i64 r3, .int .i64 r4] 32))
  replace kw := Keeps.trans kw (keeps_alloc w2 (.cells #[.int .i64 r1, .int .i64 r2, .int .i64 r3, .int .i64 r4] 32))
  have b7 : Bl (w2.alloc (.cells #[.int .i64 r1, .int .i64 r2, .int .i64 r3, .int .i64 r4] 32)) w2.heap.size [.int .i64 r1, .int .i64 r2, .int .i64 r3, .int .i64 r4] := Bl.new' (by simp) (by simp)
  cases p
  · have HX := hid (lfB_no (b := (d1, d2, d3, d4)) (show (comQ (rlLs rs ++ ms)).2 = false by rw [HR.out]))
    have ca5_0 : (w2.alloc (.cells #[.int .i64 r1, .int .i64 r2, .int .i64 r3, .int .i64 r4] 32)).cell? ⟨w.heap.size, 0, none⟩ = some (.int .i64 d1) := (b5.2 0 _ rfl).1
    have ca5_1 : (w2.alloc (.cells #[.int .i64 r1, .int .i64 r2, .int .i64 r3, .int .i64 r4] 32)).cell? ⟨w.heap.size, 1, none⟩ = some (.int .i64 d2) := (b5.2 1 _ rfl).1
    have ca5_2 : (w2.alloc (.cells #[.int .i64 r1, .int .i64 r2, .int .i64 r3, .int .i64 r4] 32)).cell? ⟨w.heap.size, 2, none⟩ = some (.int .i64 d3) := (b5.2 2 _ rfl).1
    have ca5_3 : (w2.alloc (.cells #[.int .i64 r1, .int .i64 r2, .int .i64 r3, .int .i64 r4] 32)).cell? ⟨w.heap.size, 3, none⟩ = some (.int .i64 d4) := (b5.2 3 _ rfl).1
    go_wp2_with fail
    clear ca5_0 ca5_1 ca5_2 ca5_3
    go_ret
    exact ⟨ret_bool HX.out.symm, kw⟩
  · skip
    have HX := hid (lfB_eq (b := (d1, d2, d3, d4)) HR.out)
    have HS := hid (HG.out _ HR.out)
    obtain ⟨z, HZ⟩ : ∃ z, Hid (wiB (d1, d2, d3, d4) (r1, r2, r3, r4) = z) := ⟨_, rfl⟩
    have ca5_0 : (w2.alloc (.cells #[.int .i64 r1, .int .i64 r2, .int .i64 r3, .int .i64 r4] 32)).cell? ⟨w.heap.size, 0, none⟩ = some (.int .i64 d1) := (b5.2 0 _ rfl).1
    have ca5_1 : (w2.alloc (.cells #[.int .i64 r1, .int .i64 r2, .int .i64 r3, .int .i64 r4] 32)).cell? ⟨w.heap.size, 1, none⟩ = some (.int .i64 d2) := (b5.2 1 _ rfl).1
    have ca5_2 : (w2.alloc (.cells #[.int .i64 r1, .int .i64 r2, .int .i64 r3, .int .i64 r4] 32)).cell? ⟨w.heap.size, 2, none⟩ = some (.int .i64 d3) := (b5.2 2 _ rfl).1
    have ca5_3 : (w2.alloc (.cells #[.int .i64 r1, .int .i64 r2, .int .i64 r3, .int .i64 r4] 32)).cell? ⟨w.heap.size, 3, none⟩ = some (.int .i64 d4) := (b5.2 3 _ rfl).1
    have ca6_0 : (w2.alloc (.cells #[.int .i64 r1, .int .i64 r2, .int .i64 r3, .int .i64 r4] 32)).cell? ⟨w2.heap.size, 0, none⟩ = some (.int .i64 r1) := (b7.2 0 _ rfl).1
    have ca6_1 : (w2.alloc (.cells #[.int .i64 r1, .int .i64 r2, .int .i64 r3, .int .i64 r4] 32)).cell? ⟨w2.heap.size, 1, none⟩ = some (.int .i64 r2) := (b7.2 1 _ rfl).1
    have ca6_2 : (w2.alloc (.cells #[.int .i64 r1, .int .i64 r2, .int .i64 r3, .int .i64 r4] 32)).cell? ⟨w2.heap.size, 2, none⟩ = some (.int .i64 r3) := (b7.2 2 _ rfl).1
    have ca6_3 : (w2.alloc (.cells #[.int .i64 r1, .int .i64 r2, .int .i64 r3, .int .i64 r4] 32)).cell? ⟨w2.heap.size, 3, none⟩ = some (.int .i64 r4) := (b7.2 3 _ rfl).1
    go_wp2_with fail
    clear ca5_0 ca5_1 ca5_2 ca5_3 ca6_0 ca6_1 ca6_2 ca6_3
    refine (IsWithin_any HB.out HS.out).mono ?_
    rintro e w7 ⟨rfl, k7⟩
    rw [HZ.out]
    replace b5 := b5.keeps k7
    replace b7 := b7.keeps k7
    replace kw := Keeps.trans kw k7
    have lt8 := b7.lt
    have sz9 := kw.size
    clear k7
    go_wp2_with fail
    go_ret
    exact ⟨ret_bool (HX.out.trans HZ.out).symm, kw⟩
set_option maxRecDepth 100000 in
set_option maxHeartbeats 6400000 in
theorem usesFrom_any {d1 d2 d3 d4 s1 s2 s3 s4 x1 x2 x3 x4 : Int} {m : Nat} {ls : List LQ} {w : World} (hb : lsB (d1, d2, d3, d4) = true) (hx : lsB (x1, x2, x3, x4) = true) (hg : ∀ k, k < ls.length → lsB (ls.getD k lz) = true) (hs : comTo ls ls.length = ((s1, s2, s3, s4), true)) (hm : m ≤ 12) :
    Calls Tryz.prog 103 #[.agg #[.int .i64 d1, .int .i64 d2, .int .i64 d3, .int .i64 d4], .agg #[.int .i64 s1, .int .i64 s2, .int .i64 s3, .int .i64 s4], .agg #[.int .i64 x1, .int .i64 x2, .int .i64 x3, .int .i64 x4], .int .i64 m] w fun e w' => e = .returned (.int .i64 (cn (d1, d2, d3, d4) (exq ls (x1, x2, x3, x4)) m : Nat)) ∧ Keeps w w' := by
  have HB := hid hb
  have HX := hid hx
  have HG := hid (fun m s e => exq_good (m := m) (s := s) hg hx e)
  have HS := hid ((exq_zero ls (x1, x2, x3, x4)).trans hs)
  clear hb hx hg hs
  go_enter Tryz.func103, Tryz.ntmps103
  have kw := keeps_refl w
  replace kw := Keeps.trans kw (keeps_alloc w (.cells #[.int .i64 d1, .int .i64 d2, .int .i64 d3, .int .i64 d4] 32))
  have b4 : Bl (w.alloc (.cells #[.int .i64 d1, .int .i64 d2, .int .i64 d3, .int .i64 d4] 32)) w.heap.size [.int .i64 d1, .int .i64 d2, .int .i64 d3, .int .i64 d4] := Bl.new' (by simp) (by simp)
  replace b4 := b4.keeps (keeps_alloc (w.alloc (.cells #[.int .i64 d1, .int .i64 d2, .int .i64 d3, .int .i64 d4] 32)) (.cells #[.int .i64 s1, .int .i64 s2, .int .i64 s3, .int .i64 s4] 32))
  replace kw := Keeps.trans kw (keeps_alloc (w.alloc (.cells #[.int .i64 d1, .int .i64 d2, .int .i64 d3, .int .i64 d4] 32)) (.cells #[.int .i64 s1, .int .i64 s2, .int .i64 s3, .int .i64 s4] 32))
  have b5 : Bl ((w.alloc (.cells #[.int .i64 d1, .int .i64 d2, .int .i64 d3, .int .i64 d4] 32)).alloc (.cells #[.int .i64 s1, .int .i64 s2, .int .i64 s3, .int .i64 s4] 32)) (w.heap.size + 1) [.int .i64 s1, .int .i64 s2, .int .i64 s3, .int .i64 s4] := Bl.new' (by simp) (by simp)
  replace b4 := b4.keeps (keeps_alloc ((w.alloc (.cells #[.int .i64 d1, .int .i64 d2, .int .i64 d3, .int .i64 d4] 32)).alloc (.cells #[.int .i64 s1, .int .i64 s2, .int .i64 s3, .int .i64 s4] 32)) (.cells #[.int .i64 x1, .int .i64 x2, .int .i64 x3, .int .i64 x4] 32))
  replace b5 := b5.keeps (keeps_alloc ((w.alloc (.cells #[.int .i64 d1, .int .i64 d2, .int .i64 d3, .int .i64 d4] 32)).alloc (.cells #[.int .i64 s1, .int .i64 s2, .int .i64 s3, .int .i64 s4] 32)) (.cells #[.int .i64 x1, .int .i64 x2, .int .i64 x3, .int .i64 x4] 32))
  replace kw := Keeps.trans kw (keeps_alloc ((w.alloc (.cells #[.int .i64 d1, .int .i64 d2, .int .i64 d3, .int .i64 d4] 32)).alloc (.cells #[.int .i64 s1, .int .i64 s2, .int .i64 s3, .int .i64 s4] 32)) (.cells #[.int .i64 x1, .int .i64 x2, .int .i64 x3, .int .i64 x4] 32))
  have b6 : Bl (((w.alloc (.cells #[.int .i64 d1, .int .i64 d2, .int .i64 d3, .int .i64 d4] 32)).alloc (.cells #[.int .i64 s1, .int .i64 s2, .int .i64 s3, .int .i64 s4] 32)).alloc (.cells #[.int .i64 x1, .int .i64 x2, .int .i64 x3, .int .i64 x4] 32)) (w.heap.size + 1 + 1) [.int .i64 x1, .int .i64 x2, .int .i64 x3, .int .i64 x4] := Bl.new' (by simp) (by simp)
  go_wp2_with fail
  go_loopw [13] (fun i wr => ∃ (k : Nat) (t1 t2 t3 t4 : Int), k ≤ m ∧ i = .int .i64 k ∧ Hid (cn (d1, d2, d3, d4) (exq ls (x1, x2, x3, x4)) k = k) ∧ Hid (exq ls (x1, x2, x3, x4) k = ((t1, t2, t3, t4), true)) ∧ Bl wr w.heap.size [.int .i64 d1, .int .i64 d2, .int .i64 d3, .int .i64 d4] ∧ Bl wr (w.heap.size + 1) [.int .i64 t1, .int .i64 t2, .int .i64 t3, .int .i64 t4] ∧ Bl wr (w.heap.size + 1 + 1) [.int .i64 x1, .int .i64 x2, .int .i64 x3, .int .i64 x4] ∧ Keeps w wr) (fun i _ => m - (intOf i).toNat)
  case atStart => exact ⟨0, _, _, _, _, Nat.zero_le _, rfl, hid rfl, HS, b4, b5, b6, kw⟩
  clear b4 b5 b6 kw
  case round =>
    obtain ⟨k, t1, t2, t3, t4, hk, rfl, HT, HE, b4, b5, b6, kw⟩ := hrel
    by_cases hlt : k < m
    · have hi1 : (k : Int) < (m : Int) := by omega
      have lt6 := b6.lt
      have HTS := hid (HG.out k _ HE.out)
      obtain ⟨r1, r2, r3, r4, p, HR⟩ : ∃ r1 r2 r3 r4 p, Hid (two (t1, t2, t3, t4) (x1, x2, x3, x4) = ((r1, r2, r3, r4), p)) := ⟨_, _, _, _, _, rfl⟩
      have HN := hid ((exq_next HE.out).trans HR.out)
      have ca1_0 : wr.cell? ⟨w.heap.size + 1, 0, none⟩ = some (.int .i64 t1) := (b5.2 0 _ rfl).1
      have fa1_0 : wr.frozen? ⟨w.heap.size + 1, 0, none⟩ = false := (b5.2 0 _ rfl).2
      have ca1_1 : wr.cell? ⟨w.heap.size + 1, 1, none⟩ = some (.int .i64 t2) := (b5.2 1 _ rfl).1
      have fa1_1 : wr.frozen? ⟨w.heap.size + 1, 1, none⟩ = false := (b5.2 1 _ rfl).2
      have ca1_2 : wr.cell? ⟨w.heap.size + 1, 2, none⟩ = some (.int .i64 t3) := (b5.2 2 _ rfl).1
      have fa1_2 : wr.frozen? ⟨w.heap.size + 1, 2, none⟩ = false := (b5.2 2 _ rfl).2
      have ca1_3 : wr.cell? ⟨w.heap.size + 1, 3, none⟩ = some (.int .i64 t4) := (b5.2 3 _ rfl).1
      have fa1_3 : wr.frozen? ⟨w.heap.size + 1, 3, none⟩ = false := (b5.2 3 _ rfl).2
      have ca2_0 : wr.cell? ⟨w.heap.size + 1 + 1, 0, none⟩ = some (.int .i64 x1) := (b6.2 0 _ rfl).1
      have ca2_1 : wr.cell? ⟨w.heap.size + 1 + 1, 1, none⟩ = some (.int .i64 x2) := (b6.2 1 _ rfl).1
      have ca2_2 : wr.cell? ⟨w.heap.size + 1 + 1, 2, none⟩ = some (.int .i64 x3) := (b6.2 2 _ rfl).1
      have ca2_3 : wr.cell? ⟨w.heap.size + 1 + 1, 3, none⟩ = some (.int .i64 x4) := (b6.2 3 _ rfl).1
      go_wp2_with fail
      clear ca1_0 fa1_0 ca1_1 fa1_1 ca1_2 fa1_2 ca1_3 fa1_3 ca2_0 ca2_1 ca2_2 ca2_3
      refine (composed_any HTS.out HX.out).mono ?_
      rintro e w3 ⟨rfl, k3⟩
      rw [HR.out]
      replace b4 := b4.keeps k3
      replace b5 := b5.keeps k3
      replace b6 := b6.keeps k3
      replace kw := Keeps.trans kw k3
      have lt4 := b6.lt
      have sz5 := kw.size
      clear k3
      replace b4 := b4.keeps (keeps_alloc w3 (.cells #[.int .i64 r1, .int .i64 r2, .int .i64 r3, .int .i64 r4] 32))
      replace b5 := b5.keeps (keeps_alloc w3 (.cells #[.int .i64 r1, .int .i64 r2, .int .i64 r3, .int .i64 r4] 32))
      replace b6 := b6.keeps (keeps_alloc w3 (.cells #[.int .i64 r1, .int .i64 r2, .int .i64 r3, .int .i64 r4] 32))
      replace kw := Keeps.trans kw (keeps_alloc w3 (.cells #[.int .i64 r1, .int .i64 r2, .int .i64 r3, .int .i64 r4] 32))
      have b10 : Bl (w3.alloc (.cells #[.int .i64 r1, .int .i64 r2, .int .i64 r3, .int .i64 r4] 32)) w3.heap.size [.int .i64 r1, .int .i64 r2, .int .i64 r3, .int .i64 r4] := Bl.new' (by simp) (by simp)
      cases p
      · have HF := hid (cn_no HT.out (lfB_no (by rw [HN.out])) hlt)
        have ca6_0 : (w3.alloc (.cells #[.int .i64 r1, .int .i64 r2, .int .i64 r3, .int .i64 r4] 32)).cell? ⟨w.heap.size, 0, none⟩ = some (.int .i64 d1) := (b4.2 0 _ rfl).1
        have ca6_1 : (w3.alloc (.cells #[.int .i64 r1, .int .i64 r2, .int .i64 r3, .int .i64 r4] 32)).cell? ⟨w.heap.size, 1, none⟩ = some (.int .i64 d2) := (b4.2 1 _ rfl).1
        have ca6_2 : (w3.alloc (.cells #[.int .i64 r1, .int .i64 r2, .int .i64 r3, .int .i64 r4] 32)).cell? ⟨w.heap.size, 2, none⟩ = some (.int .i64 d3) := (b4.2 2 _ rfl).1
        have ca6_3 : (w3.alloc (.cells #[.int .i64 r1, .int .i64 r2, .int .i64 r3, .int .i64 r4] 32)).cell? ⟨w.heap.size, 3, none⟩ = some (.int .i64 d4) := (b4.2 3 _ rfl).1
        have ca7_0 : (w3.alloc (.cells #[.int .i64 r1, .int .i64 r2, .int .i64 r3, .int .i64 r4] 32)).cell? ⟨w3.heap.size, 0, none⟩ = some (.int .i64 r1) := (b10.2 0 _ rfl).1
        have ca7_1 : (w3.alloc (.cells #[.int .i64 r1, .int .i64 r2, .int .i64 r3, .int .i64 r4] 32)).cell? ⟨w3.heap.size, 1, none⟩ = some (.int .i64 r2) := (b10.2 1 _ rfl).1
        have ca7_2 : (w3.alloc (.cells #[.int .i64 r1, .int .i64 r2, .int .i64 r3, .int .i64 r4] 32)).cell? ⟨w3.heap.size, 2, none⟩ = some (.int .i64 r3) := (b10.2 2 _ rfl).1
        have ca7_3 : (w3.alloc (.cells #[.int .i64 r1, .int .i64 r2, .int .i64 r3, .int .i64 r4] 32)).cell? ⟨w3.heap.size, 3, none⟩ = some (.int .i64 r4) := (b10.2 3 _ rfl).1
        go_wp2_with fail
        clear ca6_0 ca6_1 ca6_2 ca6_3 ca7_0 ca7_1 ca7_2 ca7_3
        go_ret
        exact ⟨ret_int (by rw [HF.out]), kw⟩
      · skip
        have HRS := hid (HG.out (k + 1) _ HN.out)
        obtain ⟨z, HZ⟩ : ∃ z, Hid (wiB (d1, d2, d3, d4) (r1, r2, r3, r4) = z) := ⟨_, rfl⟩
        have HL := hid ((lfB_eq (b := (d1, d2, d3, d4)) HN.out).trans HZ.out)
        have ca6_0 : (w3.alloc (.cells #[.int .i64 r1, .int .i64 r2, .int .i64 r3, .int .i64 r4] 32)).cell? ⟨w.heap.size, 0, none⟩ = some (.int .i64 d1) := (b4.2 0 _ rfl).1
        have ca6_1 : (w3.alloc (.cells #[.int .i64 r1, .int .i64 r2, .int .i64 r3, .int .i64 r4] 32)).cell? ⟨w.heap.size, 1, none⟩ = some (.int .i64 d2) := (b4.2 1 _ rfl).1
        have ca6_2 : (w3.alloc (.cells #[.int .i64 r1, .int .i64 r2, .int .i64 r3, .int .i64 r4] 32)).cell? ⟨w.heap.size, 2, none⟩ = some (.int .i64 d3) := (b4.2 2 _ rfl).1
        have ca6_3 : (w3.alloc (.cells #[.int .i64 r1, .int .i64 r2, .int .i64 r3, .int .i64 r4] 32)).cell? ⟨w.heap.size, 3, none⟩ = some (.int .i64 d4) := (b4.2 3 _ rfl).1
        have ca7_0 : (w3.alloc (.cells #[.int .i64 r1, .int .i64 r2, .int .i64 r3, .int .i64 r4] 32)).cell? ⟨w3.heap.size, 0, none⟩ = some (.int .i64 r1) := (b10.2 0 _ rfl).1
        have ca7_1 : (w3.alloc (.cells #[.int .i64 r1, .int .i64 r2, .int .i64 r3, .int .i64 r4] 32)).cell? ⟨w3.heap.size, 1, none⟩ = some (.int .i64 r2) := (b10.2 1 _ rfl).1
        have ca7_2 : (w3.alloc (.cells #[.int .i64 r1, .int .i64 r2, .int .i64 r3, .int .i64 r4] 32)).cell? ⟨w3.heap.size, 2, none⟩ = some (.int .i64 r3) := (b10.2 2 _ rfl).1
        have ca7_3 : (w3.alloc (.cells #[.int .i64 r1, .int .i64 r2, .int .i64 r3, .int .i64 r4] 32)).cell? ⟨w3.heap.size, 3, none⟩ = some (.int .i64 r4) := (b10.2 3 _ rfl).1
        go_wp2_with fail
        clear ca6_0 ca6_1 ca6_2 ca6_3 ca7_0 ca7_1 ca7_2 ca7_3
        refine (isWithin_any HB.out HRS.out).mono ?_
        rintro e w8 ⟨rfl, k8⟩
        rw [HZ.out]
        replace b4 := b4.keeps k8
        replace b5 := b5.keeps k8
        replace b6 := b6.keeps k8
        replace b10 := b10.keeps k8
        replace kw := Keeps.trans kw k8
        have lt9 := b10.lt
        have sz10 := kw.size
        clear k8
        cases z
        · have HF := hid (cn_no HT.out HL.out hlt)
          have ca11_0 : w8.cell? ⟨w.heap.size, 0, none⟩ = some (.int .i64 d1) := (b4.2 0 _ rfl).1
          have ca11_1 : w8.cell? ⟨w.heap.size, 1, none⟩ = some (.int .i64 d2) := (b4.2 1 _ rfl).1
          have ca11_2 : w8.cell? ⟨w.heap.size, 2, none⟩ = some (.int .i64 d3) := (b4.2 2 _ rfl).1
          have ca11_3 : w8.cell? ⟨w.heap.size, 3, none⟩ = some (.int .i64 d4) := (b4.2 3 _ rfl).1
          have ca12_0 : w8.cell? ⟨w3.heap.size, 0, none⟩ = some (.int .i64 r1) := (b10.2 0 _ rfl).1
          have ca12_1 : w8.cell? ⟨w3.heap.size, 1, none⟩ = some (.int .i64 r2) := (b10.2 1 _ rfl).1
          have ca12_2 : w8.cell? ⟨w3.heap.size, 2, none⟩ = some (.int .i64 r3) := (b10.2 2 _ rfl).1
          have ca12_3 : w8.cell? ⟨w3.heap.size, 3, none⟩ = some (.int .i64 r4) := (b10.2 3 _ rfl).1
          go_wp2_with fail
          clear ca11_0 ca11_1 ca11_2 ca11_3 ca12_0 ca12_1 ca12_2 ca12_3
          go_ret
          exact ⟨ret_int (by rw [HF.out]), kw⟩
        have HM := hid (cn_yes HT.out HL.out)
        have ca11_0 : w8.cell? ⟨w3.heap.size, 0, none⟩ = some (.int .i64 r1) := (b10.2 0 _ rfl).1
        have ca11_1 : w8.cell? ⟨w3.heap.size, 1, none⟩ = some (.int .i64 r2) := (b10.2 1 _ rfl).1
        have ca11_2 : w8.cell? ⟨w3.heap.size, 2, none⟩ = some (.int .i64 r3) := (b10.2 2 _ rfl).1
        have ca11_3 : w8.cell? ⟨w3.heap.size, 3, none⟩ = some (.int .i64 r4) := (b10.2 3 _ rfl).1
        have ca12_0 : w8.cell? ⟨w.heap.size + 1, 0, none⟩ = some (.int .i64 t1) := (b5.2 0 _ rfl).1
        have fa12_0 : w8.frozen? ⟨w.heap.size + 1, 0, none⟩ = false := (b5.2 0 _ rfl).2
        have ca12_1 : w8.cell? ⟨w.heap.size + 1, 1, none⟩ = some (.int .i64 t2) := (b5.2 1 _ rfl).1
        have fa12_1 : w8.frozen? ⟨w.heap.size + 1, 1, none⟩ = false := (b5.2 1 _ rfl).2
        have ca12_2 : w8.cell? ⟨w.heap.size + 1, 2, none⟩ = some (.int .i64 t3) := (b5.2 2 _ rfl).1
        have fa12_2 : w8.frozen? ⟨w.heap.size + 1, 2, none⟩ = false := (b5.2 2 _ rfl).2
        have ca12_3 : w8.cell? ⟨w.heap.size + 1, 3, none⟩ = some (.int .i64 t4) := (b5.2 3 _ rfl).1
        have fa12_3 : w8.frozen? ⟨w.heap.size + 1, 3, none⟩ = false := (b5.2 3 _ rfl).2
        replace b4 := b4.far (p := ⟨w.heap.size + 1, 0, none⟩) (by show _ ≠ (w.heap.size + 1); omega) (.int .i64 r1)
        replace b6 := b6.far (p := ⟨w.heap.size + 1, 0, none⟩) (by show _ ≠ (w.heap.size + 1); omega) (.int .i64 r1)
        replace b10 := b10.far (p := ⟨w.heap.size + 1, 0, none⟩) (by show _ ≠ (w.heap.size + 1); omega) (.int .i64 r1)
        replace kw := Below.setCell kw (p := ⟨w.heap.size + 1, 0, none⟩) (by show _ ≤ (w.heap.size + 1); omega) (.int .i64 r1)
        replace b5 : Bl (w8.setCell ⟨w.heap.size + 1, 0, none⟩ (.int .i64 r1)) (w.heap.size + 1) [.int .i64 r1, .int .i64 t2, .int .i64 t3, .int .i64 t4] := b5.set 0 (.int .i64 r1)
        replace b4 := b4.far (p := ⟨w.heap.size + 1, 1, none⟩) (by show _ ≠ (w.heap.size + 1); omega) (.int .i64 r2)
        replace b6 := b6.far (p := ⟨w.heap.size + 1, 1, none⟩) (by show _ ≠ (w.heap.size + 1); omega) (.int .i64 r2)
        replace b10 := b10.far (p := ⟨w.heap.size + 1, 1, none⟩) (by show _ ≠ (w.heap.size + 1); omega) (.int .i64 r2)
        replace kw := Below.setCell kw (p := ⟨w.heap.size + 1, 1, none⟩) (by show _ ≤ (w.heap.size + 1); omega) (.int .i64 r2)
        replace b5 : Bl ((w8.setCell ⟨w.heap.size + 1, 0, none⟩ (.int .i64 r1)).setCell ⟨w.heap.size + 1, 1, none⟩ (.int .i64 r2)) (w.heap.size + 1) [.int .i64 r1, .int .i64 r2, .int .i64 t3, .int .i64 t4] := b5.set 1 (.int .i64 r2)
        replace b4 := b4.far (p := ⟨w.heap.size + 1, 2, none⟩) (by show _ ≠ (w.heap.size + 1); omega) (.int .i64 r3)
        replace b6 := b6.far (p := ⟨w.heap.size + 1, 2, none⟩) (by show _ ≠ (w.heap.size + 1); omega) (.int .i64 r3)
        replace b10 := b10.far (p := ⟨w.heap.size + 1, 2, none⟩) (by show _ ≠ (w.heap.size + 1); omega) (.int .i64 r3)
        replace kw := Below.setCell kw (p := ⟨w.heap.size + 1, 2, none⟩) (by show _ ≤ (w.heap.size + 1); omega) (.int .i64 r3)
        replace b5 : Bl (((w8.setCell ⟨w.heap.size + 1, 0, none⟩ (.int .i64 r1)).setCell ⟨w.heap.size + 1, 1, none⟩ (.int .i64 r2)).setCell ⟨w.heap.size + 1, 2, none⟩ (.int .i64 r3)) (w.heap.size + 1) [.int .i64 r1, .int .i64 r2, .int .i64 r3, .int .i64 t4] := b5.set 2 (.int .i64 r3)
        replace b4 := b4.far (p := ⟨w.heap.size + 1, 3, none⟩) (by show _ ≠ (w.heap.size + 1); omega) (.int .i64 r4)
        replace b6 := b6.far (p := ⟨w.heap.size + 1, 3, none⟩) (by show _ ≠ (w.heap.size + 1); omega) (.int .i64 r4)
        replace b10 := b10.far (p := ⟨w.heap.size + 1, 3, none⟩) (by show _ ≠ (w.heap.size + 1); omega) (.int .i64 r4)
        replace kw := Below.setCell kw (p := ⟨w.heap.size + 1, 3, none⟩) (by show _ ≤ (w.heap.size + 1); omega) (.int .i64 r4)
        replace b5 : Bl ((((w8.setCell ⟨w.heap.size + 1, 0, none⟩ (.int .i64 r1)).setCell ⟨w.heap.size + 1, 1, none⟩ (.int .i64 r2)).setCell ⟨w.heap.size + 1, 2, none⟩ (.int .i64 r3)).setCell ⟨w.heap.size + 1, 3, none⟩ (.int .i64 r4)) (w.heap.size + 1) [.int .i64 r1, .int .i64 r2, .int .i64 r3, .int .i64 r4] := b5.set 3 (.int .i64 r4)
        clear b10
        go_wp2_with fail
        clear ca11_0 ca11_1 ca11_2 ca11_3 ca12_0 fa12_0 ca12_1 fa12_1 ca12_2 fa12_2 ca12_3 fa12_3
        go_roundw
        case rel => exact ⟨k + 1, r1, r2, r3, r4, by omega, by go_num, HM, HN, b4, b5, b6, kw⟩
        case measure => simp [intOf]; omega
    · obtain rfl : k = m := by omega
      go_wp2
      go_ret
      exact ⟨ret_int (by rw [HT.out]), kw⟩
set_option maxRecDepth 100000 in
set_option maxHeartbeats 3200000 in
theorem usesLeft_any {R : Option Addr} {lo hi n c : Nat} {un : Bool} {ps : List Int} {l : List VV} {rs : List RL} {d1 d2 d3 d4 x1 x2 x3 x4 : Int} {w : World} (hr : Rels true un w lo hi R n rs) (hh : hisB ps l rs = true) (hb : lsB (d1, d2, d3, d4) = true) (hx : lsB (x1, x2, x3, x4) = true) :
    Calls Tryz.prog 56 #[.slice R n c, .agg #[.int .i64 d1, .int .i64 d2, .int .i64 d3, .int .i64 d4], .agg #[.int .i64 x1, .int .i64 x2, .int .i64 x3, .int .i64 x4]] w fun e w' => e = .returned (.int .i64 (cn (d1, d2, d3, d4) (exq (rlLs rs) (x1, x2, x3, x4)) (12 - n) : Nat)) ∧ Keeps w w' := by
  have HB := hid hb
  have HX := hid hx
  have h12 := (his_loss hh).1
  have HRL := hid hr.len
  rw [HRL.out] at h12
  have HLS := hid (his_loss hh).2
  have HLN := hid (show (rlLs rs).length = n by rw [rlLs_len, HRL.out])
  have HG := hid (fun k (hk : k < (rlLs rs).length) => HLS.out k (by rw [← rlLs_len]; exact hk))
  obtain ⟨r1, r2, r3, r4, p, HR⟩ : ∃ r1 r2 r3 r4 p, Hid (comQ (rlLs rs) = ((r1, r2, r3, r4), p)) := ⟨_, _, _, _, _, rfl⟩
  have HC := hid ((comQ_of (show (rlLs rs).length ≤ 30 by rw [HLN.out]; omega) HG.out).symm.trans HR.out)
  clear hb hx hh
  go_enter Tryz.func56, Tryz.ntmps56
  have kw := keeps_refl w
  replace kw := Keeps.trans kw (keeps_alloc w (.cells #[.int .i64 d1, .int .i64 d2, .int .i64 d3, .int .i64 d4] 32))
  have b4 : Bl (w.alloc (.cells #[.int .i64 d1, .int .i64 d2, .int .i64 d3, .int .i64 d4] 32)) w.heap.size [.int .i64 d1, .int .i64 d2, .int .i64 d3, .int .i64 d4] := Bl.new' (by simp) (by simp)
  replace b4 := b4.keeps (keeps_alloc (w.alloc (.cells #[.int .i64 d1, .int .i64 d2, .int .i64 d3, .int .i64 d4] 32)) (.cells #[.int .i64 x1, .int .i64 x2, .int .i64 x3, .int .i64 x4] 32))
  replace kw := Keeps.trans kw (keeps_alloc (w.alloc (.cells #[.int .i64 d1, .int .i64 d2, .int .i64 d3, .int .i64 d4] 32)) (.cells #[.int .i64 x1, .int .i64 x2, .int .i64 x3, .int .i64 x4] 32))
  have b5 : Bl ((w.alloc (.cells #[.int .i64 d1, .int .i64 d2, .int .i64 d3, .int .i64 d4] 32)).alloc (.cells #[.int .i64 x1, .int .i64 x2, .int .i64 x3, .int .i64 x4] 32)) (w.heap.size + 1) [.int .i64 x1, .int .i64 x2, .int .i64 x3, .int .i64 x4] := Bl.new' (by simp) (by simp)
  go_wp2_with fail
  refine (historyLoss_any (hr.keeps kw)).mono ?_
  rintro e w1 ⟨rfl, k1⟩
  rw [HR.out]
  replace b4 := b4.keeps k1
  replace b5 := b5.keeps k1
  replace kw := Keeps.trans kw k1
  have lt2 := b5.lt
  have sz3 := kw.size
  clear k1
  replace b4 := b4.keeps (keeps_alloc w1 (.cells #[.int .i64 r1, .int .i64 r2, .int .i64 r3, .int .i64 r4] 32))
  replace b5 := b5.keeps (keeps_alloc w1 (.cells #[.int .i64 r1, .int .i64 r2, .int .i64 r3, .int .i64 r4] 32))
  replace kw := Keeps.trans kw (keeps_alloc w1 (.cells #[.int .i64 r1, .int .i64 r2, .int .i64 r3, .int .i64 r4] 32))
  have b7 : Bl (w1.alloc (.cells #[.int .i64 r1, .int .i64 r2, .int .i64 r3, .int .i64 r4] 32)) w1.heap.size [.int .i64 r1, .int .i64 r2, .int .i64 r3, .int .i64 r4] := Bl.new' (by simp) (by simp)
  cases p
  · have HZ := hid (show cn (d1, d2, d3, d4) (exq (rlLs rs) (x1, x2, x3, x4)) (12 - n) = 0 by
      have h0 := comTo_fine (rlLs rs) (rlLs rs).length
      have h1 := exq_stop (x := (x1, x2, x3, x4)) (k := 1) (lz_of h0 HC.out)
      by_cases hz : 12 - n = 0
      · rw [hz]; rfl
      · exact cn_no rfl (lfB_no (by rw [h1])) (by omega))
    go_wp2_with fail
    go_ret
    exact ⟨ret_int (by rw [HZ.out]; rfl), kw⟩
  · skip
    have hn12 : (12 : Int) - (n : Int) = ((12 - n : Nat) : Int) := by omega
    have ca4_0 : (w1.alloc (.cells #[.int .i64 r1, .int .i64 r2, .int .i64 r3, .int .i64 r4] 32)).cell? ⟨w.heap.size, 0, none⟩ = some (.int .i64 d1) := (b4.2 0 _ rfl).1
    have ca4_1 : (w1.alloc (.cells #[.int .i64 r1, .int .i64 r2, .int .i64 r3, .int .i64 r4] 32)).cell? ⟨w.heap.size, 1, none⟩ = some (.int .i64 d2) := (b4.2 1 _ rfl).1
    have ca4_2 : (w1.alloc (.cells #[.int .i64 r1, .int .i64 r2, .int .i64 r3, .int .i64 r4] 32)).cell? ⟨w.heap.size, 2, none⟩ = some (.int .i64 d3) := (b4.2 2 _ rfl).1
    have ca4_3 : (w1.alloc (.cells #[.int .i64 r1, .int .i64 r2, .int .i64 r3, .int .i64 r4] 32)).cell? ⟨w.heap.size, 3, none⟩ = some (.int .i64 d4) := (b4.2 3 _ rfl).1
    have ca5_0 : (w1.alloc (.cells #[.int .i64 r1, .int .i64 r2, .int .i64 r3, .int .i64 r4] 32)).cell? ⟨w.heap.size + 1, 0, none⟩ = some (.int .i64 x1) := (b5.2 0 _ rfl).1
    have ca5_1 : (w1.alloc (.cells #[.int .i64 r1, .int .i64 r2, .int .i64 r3, .int .i64 r4] 32)).cell? ⟨w.heap.size + 1, 1, none⟩ = some (.int .i64 x2) := (b5.2 1 _ rfl).1
    have ca5_2 : (w1.alloc (.cells #[.int .i64 r1, .int .i64 r2, .int .i64 r3, .int .i64 r4] 32)).cell? ⟨w.heap.size + 1, 2, none⟩ = some (.int .i64 x3) := (b5.2 2 _ rfl).1
    have ca5_3 : (w1.alloc (.cells #[.int .i64 r1, .int .i64 r2, .int .i64 r3, .int .i64 r4] 32)).cell? ⟨w.heap.size + 1, 3, none⟩ = some (.int .i64 x4) := (b5.2 3 _ rfl).1
    have ca6_0 : (w1.alloc (.cells #[.int .i64 r1, .int .i64 r2, .int .i64 r3, .int .i64 r4] 32)).cell? ⟨w1.heap.size, 0, none⟩ = some (.int .i64 r1) := (b7.2 0 _ rfl).1
    have ca6_1 : (w1.alloc (.cells #[.int .i64 r1, .int .i64 r2, .int .i64 r3, .int .i64 r4] 32)).cell? ⟨w1.heap.size, 1, none⟩ = some (.int .i64 r2) := (b7.2 1 _ rfl).1
    have ca6_2 : (w1.alloc (.cells #[.int .i64 r1, .int .i64 r2, .int .i64 r3, .int .i64 r4] 32)).cell? ⟨w1.heap.size, 2, none⟩ = some (.int .i64 r3) := (b7.2 2 _ rfl).1
    have ca6_3 : (w1.alloc (.cells #[.int .i64 r1, .int .i64 r2, .int .i64 r3, .int .i64 r4] 32)).cell? ⟨w1.heap.size, 3, none⟩ = some (.int .i64 r4) := (b7.2 3 _ rfl).1
    go_wp2_with fail
    clear ca4_0 ca4_1 ca4_2 ca4_3 ca5_0 ca5_1 ca5_2 ca5_3 ca6_0 ca6_1 ca6_2 ca6_3
    refine (usesFrom_any (m := 12 - n) HB.out HX.out HG.out HC.out (by omega)).mono ?_
    rintro e w7 ⟨rfl, k7⟩
    replace b4 := b4.keeps k7
    replace b5 := b5.keeps k7
    replace b7 := b7.keeps k7
    replace kw := Keeps.trans kw k7
    have lt8 := b7.lt
    have sz9 := kw.size
    clear k7
    obtain ⟨N, hN⟩ : ∃ N, cn (d1, d2, d3, d4) (exq (rlLs rs) (x1, x2, x3, x4)) (12 - n) = N := ⟨_, rfl⟩
    rw [hN]
    have HN := hid hN
    clear hN
    go_wp2_with fail
    go_ret
    exact ⟨ret_int (by rw [HN.out]), kw⟩
set_option maxRecDepth 100000 in
set_option maxHeartbeats 3200000 in
theorem rlAsked_any {A A' R Q : Option Addr} {lo hi a c0 lo3 hi3 n c lo4 hi4 m cm q e : Nat} {un un' : Bool} {ps : List Int} {l : List VV} {rs : List RL} {ts : List TT} {d1 d2 d3 d4 x1 x2 x3 x4 : Int} {w : World} (h : Ints w lo hi A a ps) (h' : Sch w A' q e l) (hr : Rels true un w lo3 hi3 R n rs) (ht : Tabs true un' w lo4 hi4 Q m ts) :
    Calls Tryz.prog 49 #[.agg #[.slice A a c0], .slice A' q e, .slice R n c, .agg #[.int .i64 d1, .int .i64 d2, .int .i64 d3, .int .i64 d4], .slice Q m cm, .agg #[.int .i64 x1, .int .i64 x2, .int .i64 x3, .int .i64 x4]] w fun e w' => e = .returned (.bool (hisB ps l rs && lsB (d1, d2, d3, d4) && plB ps l ts && lsB (x1, x2, x3, x4))) ∧ Keeps w w' := by
  obtain ⟨Z, hZ⟩ : ∃ Z, (hisB ps l rs && lsB (d1, d2, d3, d4) && plB ps l ts && lsB (x1, x2, x3, x4)) = Z := ⟨_, rfl⟩
  rw [hZ]
  have HB := hid (show (hisB ps l rs && lossB d1 d2 d3 d4 && plB ps l ts && lossB x1 x2 x3 x4) = Z from hZ)
  clear hZ
  go_enter Tryz.func49, Tryz.ntmps49
  have kw := keeps_refl w
  replace kw := Keeps.trans kw (keeps_alloc w (.cells #[.slice A a c0] 26))
  have b6 : B1 (w.alloc (.cells #[.slice A a c0] 26)) w.heap.size (.slice A a c0) := B1.new' (by simp)
  replace b6 := b6.keeps (keeps_alloc (w.alloc (.cells #[.slice A a c0] 26)) (.cells #[.int .i64 d1, .int .i64 d2, .int .i64 d3, .int .i64 d4] 32))
  replace kw := Keeps.trans kw (keeps_alloc (w.alloc (.cells #[.slice A a c0] 26)) (.cells #[.int .i64 d1, .int .i64 d2, .int .i64 d3, .int .i64 d4] 32))
  have b9 : Bl ((w.alloc (.cells #[.slice A a c0] 26)).alloc (.cells #[.int .i64 d1, .int .i64 d2, .int .i64 d3, .int .i64 d4] 32)) (w.heap.size + 1) [.int .i64 d1, .int .i64 d2, .int .i64 d3, .int .i64 d4] := Bl.new' (by simp) (by simp)
  replace b6 := b6.keeps (keeps_alloc ((w.alloc (.cells #[.slice A a c0] 26)).alloc (.cells #[.int .i64 d1, .int .i64 d2, .int .i64 d3, .int .i64 d4] 32)) (.cells #[.int .i64 x1, .int .i64 x2, .int .i64 x3, .int .i64 x4] 32))
  replace b9 := b9.keeps (keeps_alloc ((w.alloc (.cells #[.slice A a c0] 26)).alloc (.cells #[.int .i64 d1, .int .i64 d2, .int .i64 d3, .int .i64 d4] 32)) (.cells #[.int .i64 x1, .int .i64 x2, .int .i64 x3, .int .i64 x4] 32))
  replace kw := Keeps.trans kw (keeps_alloc ((w.alloc (.cells #[.slice A a c0] 26)).alloc (.cells #[.int .i64 d1, .int .i64 d2, .int .i64 d3, .int .i64 d4] 32)) (.cells #[.int .i64 x1, .int .i64 x2, .int .i64 x3, .int .i64 x4] 32))
  have b11 : Bl (((w.alloc (.cells #[.slice A a c0] 26)).alloc (.cells #[.int .i64 d1, .int .i64 d2, .int .i64 d3, .int .i64 d4] 32)).alloc (.cells #[.int .i64 x1, .int .i64 x2, .int .i64 x3, .int .i64 x4] 32)) (w.heap.size + 1 + 1) [.int .i64 x1, .int .i64 x2, .int .i64 x3, .int .i64 x4] := Bl.new' (by simp) (by simp)
  obtain ⟨ca1, fa1⟩ := id b6
  have ca2_0 : (((w.alloc (.cells #[.slice A a c0] 26)).alloc (.cells #[.int .i64 d1, .int .i64 d2, .int .i64 d3, .int .i64 d4] 32)).alloc (.cells #[.int .i64 x1, .int .i64 x2, .int .i64 x3, .int .i64 x4] 32)).cell? ⟨w.heap.size + 1, 0, none⟩ = some (.int .i64 d1) := (b9.2 0 _ rfl).1
  have ca2_1 : (((w.alloc (.cells #[.slice A a c0] 26)).alloc (.cells #[.int .i64 d1, .int .i64 d2, .int .i64 d3, .int .i64 d4] 32)).alloc (.cells #[.int .i64 x1, .int .i64 x2, .int .i64 x3, .int .i64 x4] 32)).cell? ⟨w.heap.size + 1, 1, none⟩ = some (.int .i64 d2) := (b9.2 1 _ rfl).1
  have ca2_2 : (((w.alloc (.cells #[.slice A a c0] 26)).alloc (.cells #[.int .i64 d1, .int .i64 d2, .int .i64 d3, .int .i64 d4] 32)).alloc (.cells #[.int .i64 x1, .int .i64 x2, .int .i64 x3, .int .i64 x4] 32)).cell? ⟨w.heap.size + 1, 2, none⟩ = some (.int .i64 d3) := (b9.2 2 _ rfl).1
  have ca2_3 : (((w.alloc (.cells #[.slice A a c0] 26)).alloc (.cells #[.int .i64 d1, .int .i64 d2, .int .i64 d3, .int .i64 d4] 32)).alloc (.cells #[.int .i64 x1, .int .i64 x2, .int .i64 x3, .int .i64 x4] 32)).cell? ⟨w.heap.size + 1, 3, none⟩ = some (.int .i64 d4) := (b9.2 3 _ rfl).1
  have ca3_0 : (((w.alloc (.cells #[.slice A a c0] 26)).alloc (.cells #[.int .i64 d1, .int .i64 d2, .int .i64 d3, .int .i64 d4] 32)).alloc (.cells #[.int .i64 x1, .int .i64 x2, .int .i64 x3, .int .i64 x4] 32)).cell? ⟨w.heap.size + 1 + 1, 0, none⟩ = some (.int .i64 x1) := (b11.2 0 _ rfl).1
  have ca3_1 : (((w.alloc (.cells #[.slice A a c0] 26)).alloc (.cells #[.int .i64 d1, .int .i64 d2, .int .i64 d3, .int .i64 d4] 32)).alloc (.cells #[.int .i64 x1, .int .i64 x2, .int .i64 x3, .int .i64 x4] 32)).cell? ⟨w.heap.size + 1 + 1, 1, none⟩ = some (.int .i64 x2) := (b11.2 1 _ rfl).1
  have ca3_2 : (((w.alloc (.cells #[.slice A a c0] 26)).alloc (.cells #[.int .i64 d1, .int .i64 d2, .int .i64 d3, .int .i64 d4] 32)).alloc (.cells #[.int .i64 x1, .int .i64 x2, .int .i64 x3, .int .i64 x4] 32)).cell? ⟨w.heap.size + 1 + 1, 2, none⟩ = some (.int .i64 x3) := (b11.2 2 _ rfl).1
  have ca3_3 : (((w.alloc (.cells #[.slice A a c0] 26)).alloc (.cells #[.int .i64 d1, .int .i64 d2, .int .i64 d3, .int .i64 d4] 32)).alloc (.cells #[.int .i64 x1, .int .i64 x2, .int .i64 x3, .int .i64 x4] 32)).cell? ⟨w.heap.size + 1 + 1, 3, none⟩ = some (.int .i64 x4) := (b11.2 3 _ rfl).1
  go_wp2_with fail
  clear ca1 fa1 ca2_0 ca2_1 ca2_2 ca2_3 ca3_0 ca3_1 ca3_2 ca3_3
  obtain ⟨pH1, H1⟩ : ∃ pB, Hid (hisB ps l rs = pB) := ⟨_, rfl⟩
  refine (rlHistory_any (h.keeps kw) (h'.keeps kw) (hr.keeps kw)).mono ?_
  rintro e w4 ⟨rfl, k4⟩
  rw [H1.out]
  replace b6 := b6.keeps k4
  replace b9 := b9.keeps k4
  replace b11 := b11.keeps k4
  replace kw := Keeps.trans kw k4
  have lt5 := b11.lt
  have sz6 := kw.size
  clear k4
  cases pH1
  · obtain ⟨ca7, fa7⟩ := id b6
    have ca8_0 : w4.cell? ⟨w.heap.size + 1, 0, none⟩ = some (.int .i64 d1) := (b9.2 0 _ rfl).1
    have ca8_1 : w4.cell? ⟨w.heap.size + 1, 1, none⟩ = some (.int .i64 d2) := (b9.2 1 _ rfl).1
    have ca8_2 : w4.cell? ⟨w.heap.size + 1, 2, none⟩ = some (.int .i64 d3) := (b9.2 2 _ rfl).1
    have ca8_3 : w4.cell? ⟨w.heap.size + 1, 3, none⟩ = some (.int .i64 d4) := (b9.2 3 _ rfl).1
    have ca9_0 : w4.cell? ⟨w.heap.size + 1 + 1, 0, none⟩ = some (.int .i64 x1) := (b11.2 0 _ rfl).1
    have ca9_1 : w4.cell? ⟨w.heap.size + 1 + 1, 1, none⟩ = some (.int .i64 x2) := (b11.2 1 _ rfl).1
    have ca9_2 : w4.cell? ⟨w.heap.size + 1 + 1, 2, none⟩ = some (.int .i64 x3) := (b11.2 2 _ rfl).1
    have ca9_3 : w4.cell? ⟨w.heap.size + 1 + 1, 3, none⟩ = some (.int .i64 x4) := (b11.2 3 _ rfl).1
    go_wp2_with fail
    clear ca7 fa7 ca8_0 ca8_1 ca8_2 ca8_3 ca9_0 ca9_1 ca9_2 ca9_3
    go_ret
    exact ⟨ret_bool (by rw [← HB.out, H1.out]; rfl), kw⟩
  · skip
    obtain ⟨ca7, fa7⟩ := id b6
    have ca8_0 : w4.cell? ⟨w.heap.size + 1, 0, none⟩ = some (.int .i64 d1) := (b9.2 0 _ rfl).1
    have ca8_1 : w4.cell? ⟨w.heap.size + 1, 1, none⟩ = some (.int .i64 d2) := (b9.2 1 _ rfl).1
    have ca8_2 : w4.cell? ⟨w.heap.size + 1, 2, none⟩ = some (.int .i64 d3) := (b9.2 2 _ rfl).1
    have ca8_3 : w4.cell? ⟨w.heap.size + 1, 3, none⟩ = some (.int .i64 d4) := (b9.2 3 _ rfl).1
    have ca9_0 : w4.cell? ⟨w.heap.size + 1 + 1, 0, none⟩ = some (.int .i64 x1) := (b11.2 0 _ rfl).1
    have ca9_1 : w4.cell? ⟨w.heap.size + 1 + 1, 1, none⟩ = some (.int .i64 x2) := (b11.2 1 _ rfl).1
    have ca9_2 : w4.cell? ⟨w.heap.size + 1 + 1, 2, none⟩ = some (.int .i64 x3) := (b11.2 2 _ rfl).1
    have ca9_3 : w4.cell? ⟨w.heap.size + 1 + 1, 3, none⟩ = some (.int .i64 x4) := (b11.2 3 _ rfl).1
    go_wp2_with fail
    clear ca7 fa7 ca8_0 ca8_1 ca8_2 ca8_3 ca9_0 ca9_1 ca9_2 ca9_3
    obtain ⟨pH2, H2⟩ : ∃ pB, Hid (lossB d1 d2 d3 d4 = pB) := ⟨_, rfl⟩
    refine (pGood_any).mono ?_
    rintro e w10 ⟨rfl, k10⟩
    rw [H2.out]
    replace b6 := b6.keeps k10
    replace b9 := b9.keeps k10
    replace b11 := b11.keeps k10
    replace kw := Keeps.trans kw k10
    have lt11 := b11.lt
    have sz12 := kw.size
    clear k10
    cases pH2
    · obtain ⟨ca13, fa13⟩ := id b6
      have ca14_0 : w10.cell? ⟨w.heap.size + 1, 0, none⟩ = some (.int .i64 d1) := (b9.2 0 _ rfl).1
      have ca14_1 : w10.cell? ⟨w.heap.size + 1, 1, none⟩ = some (.int .i64 d2) := (b9.2 1 _ rfl).1
      have ca14_2 : w10.cell? ⟨w.heap.size + 1, 2, none⟩ = some (.int .i64 d3) := (b9.2 2 _ rfl).1
      have ca14_3 : w10.cell? ⟨w.heap.size + 1, 3, none⟩ = some (.int .i64 d4) := (b9.2 3 _ rfl).1
      have ca15_0 : w10.cell? ⟨w.heap.size + 1 + 1, 0, none⟩ = some (.int .i64 x1) := (b11.2 0 _ rfl).1
      have ca15_1 : w10.cell? ⟨w.heap.size + 1 + 1, 1, none⟩ = some (.int .i64 x2) := (b11.2 1 _ rfl).1
      have ca15_2 : w10.cell? ⟨w.heap.size + 1 + 1, 2, none⟩ = some (.int .i64 x3) := (b11.2 2 _ rfl).1
      have ca15_3 : w10.cell? ⟨w.heap.size + 1 + 1, 3, none⟩ = some (.int .i64 x4) := (b11.2 3 _ rfl).1
      go_wp2_with fail
      clear ca13 fa13 ca14_0 ca14_1 ca14_2 ca14_3 ca15_0 ca15_1 ca15_2 ca15_3
      go_ret
      exact ⟨ret_bool (by rw [← HB.out, H1.out, H2.out]; rfl), kw⟩
    · skip
      obtain ⟨ca13, fa13⟩ := id b6
      have ca14_0 : w10.cell? ⟨w.heap.size + 1, 0, none⟩ = some (.int .i64 d1) := (b9.2 0 _ rfl).1
      have ca14_1 : w10.cell? ⟨w.heap.size + 1, 1, none⟩ = some (.int .i64 d2) := (b9.2 1 _ rfl).1
      have ca14_2 : w10.cell? ⟨w.heap.size + 1, 2, none⟩ = some (.int .i64 d3) := (b9.2 2 _ rfl).1
      have ca14_3 : w10.cell? ⟨w.heap.size + 1, 3, none⟩ = some (.int .i64 d4) := (b9.2 3 _ rfl).1
      have ca15_0 : w10.cell? ⟨w.heap.size + 1 + 1, 0, none⟩ = some (.int .i64 x1) := (b11.2 0 _ rfl).1
      have ca15_1 : w10.cell? ⟨w.heap.size + 1 + 1, 1, none⟩ = some (.int .i64 x2) := (b11.2 1 _ rfl).1
      have ca15_2 : w10.cell? ⟨w.heap.size + 1 + 1, 2, none⟩ = some (.int .i64 x3) := (b11.2 2 _ rfl).1
      have ca15_3 : w10.cell? ⟨w.heap.size + 1 + 1, 3, none⟩ = some (.int .i64 x4) := (b11.2 3 _ rfl).1
      go_wp2_with fail
      clear ca13 fa13 ca14_0 ca14_1 ca14_2 ca14_3 ca15_0 ca15_1 ca15_2 ca15_3
      have HGS := hid (hisB_parts H1.out)
      obtain ⟨pH3, H3⟩ : ∃ pB, Hid (plB ps l ts = pB) := ⟨_, rfl⟩
      refine (nPlan_any (h.keeps kw) (h'.keeps kw) (ht.keeps kw) HGS.out.1 HGS.out.2.1).mono ?_
      rintro e w16 ⟨rfl, k16⟩
      rw [H3.out]
      replace b6 := b6.keeps k16
      replace b9 := b9.keeps k16
      replace b11 := b11.keeps k16
      replace kw := Keeps.trans kw k16
      have lt17 := b11.lt
      have sz18 := kw.size
      clear k16
      cases pH3
      · obtain ⟨ca19, fa19⟩ := id b6
        have ca20_0 : w16.cell? ⟨w.heap.size + 1, 0, none⟩ = some (.int .i64 d1) := (b9.2 0 _ rfl).1
        have ca20_1 : w16.cell? ⟨w.heap.size + 1, 1, none⟩ = some (.int .i64 d2) := (b9.2 1 _ rfl).1
        have ca20_2 : w16.cell? ⟨w.heap.size + 1, 2, none⟩ = some (.int .i64 d3) := (b9.2 2 _ rfl).1
        have ca20_3 : w16.cell? ⟨w.heap.size + 1, 3, none⟩ = some (.int .i64 d4) := (b9.2 3 _ rfl).1
        have ca21_0 : w16.cell? ⟨w.heap.size + 1 + 1, 0, none⟩ = some (.int .i64 x1) := (b11.2 0 _ rfl).1
        have ca21_1 : w16.cell? ⟨w.heap.size + 1 + 1, 1, none⟩ = some (.int .i64 x2) := (b11.2 1 _ rfl).1
        have ca21_2 : w16.cell? ⟨w.heap.size + 1 + 1, 2, none⟩ = some (.int .i64 x3) := (b11.2 2 _ rfl).1
        have ca21_3 : w16.cell? ⟨w.heap.size + 1 + 1, 3, none⟩ = some (.int .i64 x4) := (b11.2 3 _ rfl).1
        go_wp2_with fail
        clear ca19 fa19 ca20_0 ca20_1 ca20_2 ca20_3 ca21_0 ca21_1 ca21_2 ca21_3
        go_ret
        exact ⟨ret_bool (by rw [← HB.out, H1.out, H2.out, H3.out]; rfl), kw⟩
      · skip
        obtain ⟨ca19, fa19⟩ := id b6
        have ca20_0 : w16.cell? ⟨w.heap.size + 1, 0, none⟩ = some (.int .i64 d1) := (b9.2 0 _ rfl).1
        have ca20_1 : w16.cell? ⟨w.heap.size + 1, 1, none⟩ = some (.int .i64 d2) := (b9.2 1 _ rfl).1
        have ca20_2 : w16.cell? ⟨w.heap.size + 1, 2, none⟩ = some (.int .i64 d3) := (b9.2 2 _ rfl).1
        have ca20_3 : w16.cell? ⟨w.heap.size + 1, 3, none⟩ = some (.int .i64 d4) := (b9.2 3 _ rfl).1
        have ca21_0 : w16.cell? ⟨w.heap.size + 1 + 1, 0, none⟩ = some (.int .i64 x1) := (b11.2 0 _ rfl).1
        have ca21_1 : w16.cell? ⟨w.heap.size + 1 + 1, 1, none⟩ = some (.int .i64 x2) := (b11.2 1 _ rfl).1
        have ca21_2 : w16.cell? ⟨w.heap.size + 1 + 1, 2, none⟩ = some (.int .i64 x3) := (b11.2 2 _ rfl).1
        have ca21_3 : w16.cell? ⟨w.heap.size + 1 + 1, 3, none⟩ = some (.int .i64 x4) := (b11.2 3 _ rfl).1
        go_wp2_with fail
        clear ca19 fa19 ca20_0 ca20_1 ca20_2 ca20_3 ca21_0 ca21_1 ca21_2 ca21_3
        obtain ⟨p4, H4⟩ : ∃ pB, Hid (lossB x1 x2 x3 x4 = pB) := ⟨_, rfl⟩
        refine (pGood_any).mono ?_
        rintro e w22 ⟨rfl, k22⟩
        rw [H4.out]
        replace b6 := b6.keeps k22
        replace b9 := b9.keeps k22
        replace b11 := b11.keeps k22
        replace kw := Keeps.trans kw k22
        have lt23 := b11.lt
        have sz24 := kw.size
        clear k22
        obtain ⟨ca25, fa25⟩ := id b6
        have ca26_0 : w22.cell? ⟨w.heap.size + 1, 0, none⟩ = some (.int .i64 d1) := (b9.2 0 _ rfl).1
        have ca26_1 : w22.cell? ⟨w.heap.size + 1, 1, none⟩ = some (.int .i64 d2) := (b9.2 1 _ rfl).1
        have ca26_2 : w22.cell? ⟨w.heap.size + 1, 2, none⟩ = some (.int .i64 d3) := (b9.2 2 _ rfl).1
        have ca26_3 : w22.cell? ⟨w.heap.size + 1, 3, none⟩ = some (.int .i64 d4) := (b9.2 3 _ rfl).1
        have ca27_0 : w22.cell? ⟨w.heap.size + 1 + 1, 0, none⟩ = some (.int .i64 x1) := (b11.2 0 _ rfl).1
        have ca27_1 : w22.cell? ⟨w.heap.size + 1 + 1, 1, none⟩ = some (.int .i64 x2) := (b11.2 1 _ rfl).1
        have ca27_2 : w22.cell? ⟨w.heap.size + 1 + 1, 2, none⟩ = some (.int .i64 x3) := (b11.2 2 _ rfl).1
        have ca27_3 : w22.cell? ⟨w.heap.size + 1 + 1, 3, none⟩ = some (.int .i64 x4) := (b11.2 3 _ rfl).1
        go_wp2_with fail
        clear ca25 fa25 ca26_0 ca26_1 ca26_2 ca26_3 ca27_0 ca27_1 ca27_2 ca27_3
        go_ret
        exact ⟨ret_bool (by rw [← HB.out, H1.out, H2.out, H3.out, H4.out]; rfl), kw⟩
theorem one_los (w : World) (x : LQ) {g : Nat} (hg : w.heap.size = g) : Los (w.alloc (.cells #[.int .i64 x.1, .int .i64 x.2.1, .int .i64 x.2.2.1, .int .i64 x.2.2.2] 32)) 0 (w.alloc (.cells #[.int .i64 x.1, .int .i64 x.2.1, .int .i64 x.2.2.1, .int .i64 x.2.2.2] 32)).heap.size (some ⟨g, 0, none⟩) 1 [x] := by
  subst hg
  have ho : OwnC (w.alloc (.cells #[.int .i64 x.1, .int .i64 x.2.1, .int .i64 x.2.2.1, .int .i64 x.2.2.2] 32)) w.heap.size 32 (lcs [x]) := by unfold OwnC; rw [heap_alloc_new]; rfl
  exact hown_los ho rfl (by omega) ho.lt
set_option maxRecDepth 100000 in
set_option maxHeartbeats 3200000 in
theorem rlCan_any {R : Option Addr} {lo hi n c : Nat} {un : Bool} {ps : List Int} {l : List VV} {rs : List RL} {d1 d2 d3 d4 x1 x2 x3 x4 : Int} {w : World} (hr : Rels true un w lo hi R n rs) (hh : hisB ps l rs = true) (hb : lsB (d1, d2, d3, d4) = true) (hx : lsB (x1, x2, x3, x4) = true) :
    Calls Tryz.prog 50 #[.slice R n c, .agg #[.int .i64 d1, .int .i64 d2, .int .i64 d3, .int .i64 d4], .agg #[.int .i64 x1, .int .i64 x2, .int .i64 x3, .int .i64 x4]] w fun e w' => e = .returned (.bool (decide (0 < cn (d1, d2, d3, d4) (exq (rlLs rs) (x1, x2, x3, x4)) (12 - n)))) ∧ Keeps w w' := by
  have h12 := (his_loss hh).1
  have HRL := hid hr.len
  rw [HRL.out] at h12
  have HLS := hid (his_loss hh).2
  have HLN := hid (show (rlLs rs).length = n by rw [rlLs_len, HRL.out])
  have HG := hid (fun k (hk : k < (rlLs rs).length) => HLS.out k (by rw [← rlLs_len]; exact hk))
  have HB := hid hb
  have HX := hid hx
  clear hh hb hx
  have HP := hid (cn_pos (b := (d1, d2, d3, d4)) (q := exq (rlLs rs) (x1, x2, x3, x4)) (n := 12 - n))
  have HE := hid (exq_com (m := 1) (show (rlLs rs).length ≤ 12 by rw [HLN.out]; exact h12) (by omega) HG.out HX.out)
  have HEG := hid (fun s => exq_good (m := 1) (s := s) HG.out HX.out)
  rw [show List.replicate 1 (x1, x2, x3, x4) = [(x1, x2, x3, x4)] from rfl] at HE
  rw [← HE.out] at HEG
  go_enter Tryz.func50, Tryz.ntmps50
  have kw := keeps_refl w
  replace kw := Keeps.trans kw (keeps_alloc w (.cells #[.int .i64 d1, .int .i64 d2, .int .i64 d3, .int .i64 d4] 32))
  have b4 : Bl (w.alloc (.cells #[.int .i64 d1, .int .i64 d2, .int .i64 d3, .int .i64 d4] 32)) w.heap.size [.int .i64 d1, .int .i64 d2, .int .i64 d3, .int .i64 d4] := Bl.new' (by simp) (by simp)
  replace b4 := b4.keeps (keeps_alloc (w.alloc (.cells #[.int .i64 d1, .int .i64 d2, .int .i64 d3, .int .i64 d4] 32)) (.cells #[.int .i64 x1, .int .i64 x2, .int .i64 x3, .int .i64 x4] 32))
  replace kw := Keeps.trans kw (keeps_alloc (w.alloc (.cells #[.int .i64 d1, .int .i64 d2, .int .i64 d3, .int .i64 d4] 32)) (.cells #[.int .i64 x1, .int .i64 x2, .int .i64 x3, .int .i64 x4] 32))
  have b5 : Bl ((w.alloc (.cells #[.int .i64 d1, .int .i64 d2, .int .i64 d3, .int .i64 d4] 32)).alloc (.cells #[.int .i64 x1, .int .i64 x2, .int .i64 x3, .int .i64 x4] 32)) (w.heap.size + 1) [.int .i64 x1, .int .i64 x2, .int .i64 x3, .int .i64 x4] := Bl.new' (by simp) (by simp)
  have ca1_0 : ((w.alloc (.cells #[.int .i64 d1, .int .i64 d2, .int .i64 d3, .int .i64 d4] 32)).alloc (.cells #[.int .i64 x1, .int .i64 x2, .int .i64 x3, .int .i64 x4] 32)).cell? ⟨w.heap.size, 0, none⟩ = some (.int .i64 d1) := (b4.2 0 _ rfl).1
  have ca1_1 : ((w.alloc (.cells #[.int .i64 d1, .int .i64 d2, .int .i64 d3, .int .i64 d4] 32)).alloc (.cells #[.int .i64 x1, .int .i64 x2, .int .i64 x3, .int .i64 x4] 32)).cell? ⟨w.heap.size, 1, none⟩ = some (.int .i64 d2) := (b4.2 1 _ rfl).1
  have ca1_2 : ((w.alloc (.cells #[.int .i64 d1, .int .i64 d2, .int .i64 d3, .int .i64 d4] 32)).alloc (.cells #[.int .i64 x1, .int .i64 x2, .int .i64 x3, .int .i64 x4] 32)).cell? ⟨w.heap.size, 2, none⟩ = some (.int .i64 d3) := (b4.2 2 _ rfl).1
  have ca1_3 : ((w.alloc (.cells #[.int .i64 d1, .int .i64 d2, .int .i64 d3, .int .i64 d4] 32)).alloc (.cells #[.int .i64 x1, .int .i64 x2, .int .i64 x3, .int .i64 x4] 32)).cell? ⟨w.heap.size, 3, none⟩ = some (.int .i64 d4) := (b4.2 3 _ rfl).1
  have ca2_0 : ((w.alloc (.cells #[.int .i64 d1, .int .i64 d2, .int .i64 d3, .int .i64 d4] 32)).alloc (.cells #[.int .i64 x1, .int .i64 x2, .int .i64 x3, .int .i64 x4] 32)).cell? ⟨w.heap.size + 1, 0, none⟩ = some (.int .i64 x1) := (b5.2 0 _ rfl).1
  have ca2_1 : ((w.alloc (.cells #[.int .i64 d1, .int .i64 d2, .int .i64 d3, .int .i64 d4] 32)).alloc (.cells #[.int .i64 x1, .int .i64 x2, .int .i64 x3, .int .i64 x4] 32)).cell? ⟨w.heap.size + 1, 1, none⟩ = some (.int .i64 x2) := (b5.2 1 _ rfl).1
  have ca2_2 : ((w.alloc (.cells #[.int .i64 d1, .int .i64 d2, .int .i64 d3, .int .i64 d4] 32)).alloc (.cells #[.int .i64 x1, .int .i64 x2, .int .i64 x3, .int .i64 x4] 32)).cell? ⟨w.heap.size + 1, 2, none⟩ = some (.int .i64 x3) := (b5.2 2 _ rfl).1
  have ca2_3 : ((w.alloc (.cells #[.int .i64 d1, .int .i64 d2, .int .i64 d3, .int .i64 d4] 32)).alloc (.cells #[.int .i64 x1, .int .i64 x2, .int .i64 x3, .int .i64 x4] 32)).cell? ⟨w.heap.size + 1, 3, none⟩ = some (.int .i64 x4) := (b5.2 3 _ rfl).1
  by_cases hn : n < 12
  rotate_left
  · have HD := hid (decide_eq_false (p := 0 < cn (d1, d2, d3, d4) (exq (rlLs rs) (x1, x2, x3, x4)) (12 - n)) (fun q => by have := (HP.out.1 q).1; omega))
    go_wp2_with fail
    clear ca1_0 ca1_1 ca1_2 ca1_3 ca2_0 ca2_1 ca2_2 ca2_3
    go_ret
    exact ⟨ret_bool HD.out.symm, kw⟩
  have hn1 : (n : Int) < 12 := by omega
  go_wp2_with fail
  clear ca1_0 ca1_1 ca1_2 ca1_3 ca2_0 ca2_1 ca2_2 ca2_3
  replace b4 := b4.keeps (keeps_alloc ((w.alloc (.cells #[.int .i64 d1, .int .i64 d2, .int .i64 d3, .int .i64 d4] 32)).alloc (.cells #[.int .i64 x1, .int .i64 x2, .int .i64 x3, .int .i64 x4] 32)) (.cells #[.int .i64 x1, .int .i64 x2, .int .i64 x3, .int .i64 x4] 32))
  replace b5 := b5.keeps (keeps_alloc ((w.alloc (.cells #[.int .i64 d1, .int .i64 d2, .int .i64 d3, .int .i64 d4] 32)).alloc (.cells #[.int .i64 x1, .int .i64 x2, .int .i64 x3, .int .i64 x4] 32)) (.cells #[.int .i64 x1, .int .i64 x2, .int .i64 x3, .int .i64 x4] 32))
  replace kw := Keeps.trans kw (keeps_alloc ((w.alloc (.cells #[.int .i64 d1, .int .i64 d2, .int .i64 d3, .int .i64 d4] 32)).alloc (.cells #[.int .i64 x1, .int .i64 x2, .int .i64 x3, .int .i64 x4] 32)) (.cells #[.int .i64 x1, .int .i64 x2, .int .i64 x3, .int .i64 x4] 32))
  have hmr : More (((w.alloc (.cells #[.int .i64 d1, .int .i64 d2, .int .i64 d3, .int .i64 d4] 32)).alloc (.cells #[.int .i64 x1, .int .i64 x2, .int .i64 x3, .int .i64 x4] 32)).alloc (.cells #[.int .i64 x1, .int .i64 x2, .int .i64 x3, .int .i64 x4] 32)) (some ⟨w.heap.size + 1 + 1, 0, none⟩) 1 1 [(x1, x2, x3, x4)] := .inr ⟨by omega, by omega, 0, _, _, _, rfl, one_los _ _ (by simp)⟩
  refine (rlFits_any (hr.keeps kw) hmr (by omega) HB.out HEG.out).mono ?_
  rintro e w3 ⟨rfl, k3⟩
  replace b4 := b4.keeps k3
  replace b5 := b5.keeps k3
  replace kw := Keeps.trans kw k3
  have lt4 := b5.lt
  have sz5 := kw.size
  clear k3
  clear hmr
  rw [HE.out]
  obtain ⟨z, HZ⟩ : ∃ z, Hid (lfB (d1, d2, d3, d4) (exq (rlLs rs) (x1, x2, x3, x4) 1) = z) := ⟨_, rfl⟩
  rw [HZ.out]
  have HD := hid (show decide (0 < cn (d1, d2, d3, d4) (exq (rlLs rs) (x1, x2, x3, x4)) (12 - n)) = z by cases z; (exact decide_eq_false (fun q => by have := (HP.out.1 q).2; rw [HZ.out] at this; cases this)); (exact decide_eq_true (HP.out.2 ⟨by omega, HZ.out⟩)))
  go_wp2_with fail
  go_ret
  exact ⟨ret_bool HD.out.symm, kw⟩
set_option maxRecDepth 100000 in
set_option maxHeartbeats 6400000 in
theorem implCanAdd_gen {A A' R Q : Option Addr} {lo hi a c0 lo3 hi3 n q cq cr : Nat} {lo4 hi4 m cm : Nat} {un un' : Bool} {ts : List TT} {d1 d2 d3 d4 x1 x2 x3 x4 : Int} {ps : List Int} {l : List VV} {rs : List RL} {w : World} (h : Ints w lo hi A a ps) (h' : Sch w A' q cq l) (hr : Rels true un w lo3 hi3 R n rs) (ht : Tabs true un' w lo4 hi4 Q m ts) :
    Calls Tryz.prog 11 #[.agg #[.slice A a c0], .slice A' q cq, .slice R n cr, .agg #[.int .i64 d1, .int .i64 d2, .int .i64 d3, .int .i64 d4], .slice Q m cm, .agg #[.int .i64 x1, .int .i64 x2, .int .i64 x3, .int .i64 x4]] w fun e w' => e = .returned (.tuple #[.bool (caQ ps l rs (d1, d2, d3, d4) ts (x1, x2, x3, x4)).1, .bool (caQ ps l rs (d1, d2, d3, d4) ts (x1, x2, x3, x4)).2]) ∧ Keeps w w' := by
  have hq : q ≤ 67108864 := by obtain ⟨_, _, hv⟩ := h'.v; exact hv.le
  have hn := hr.le
  have HRL := hid hr.len
  obtain ⟨q0, q1, HQ⟩ : ∃ q0 q1, Hid (caQ ps l rs (d1, d2, d3, d4) ts (x1, x2, x3, x4) = (q0, q1)) := ⟨_, _, rfl⟩
  rw [HQ.out]
  go_enter Tryz.func11, Tryz.ntmps11
  have kw := keeps_refl w
  replace kw := Keeps.trans kw (keeps_alloc w (.cells #[.slice A a c0] 26))
  have b6 : B1 (w.alloc (.cells #[.slice A a c0] 26)) w.heap.size (.slice A a c0) := B1.new' (by simp)
  replace b6 := b6.keeps (keeps_alloc (w.alloc (.cells #[.slice A a c0] 26)) (.cells #[.int .i64 d1, .int .i64 d2, .int .i64 d3, .int .i64 d4] 32))
  replace kw := Keeps.trans kw (keeps_alloc (w.alloc (.cells #[.slice A a c0] 26)) (.cells #[.int .i64 d1, .int .i64 d2, .int .i64 d3, .int .i64 d4] 32))
  have b9 : Bl ((w.alloc (.cells #[.slice A a c0] 26)).alloc (.cells #[.int .i64 d1, .int .i64 d2, .int .i64 d3, .int .i64 d4] 32)) (w.heap.size + 1) [.int .i64 d1, .int .i64 d2, .int .i64 d3, .int .i64 d4] := Bl.new' (by simp) (by simp)
  replace b6 := b6.keeps (keeps_alloc ((w.alloc (.cells #[.slice A a c0] 26)).alloc (.cells #[.int .i64 d1, .int .i64 d2, .int .i64 d3, .int .i64 d4] 32)) (.cells #[.int .i64 x1, .int .i64 x2, .int .i64 x3, .int .i64 x4] 32))
  replace b9 := b9.keeps (keeps_alloc ((w.alloc (.cells #[.slice A a c0] 26)).alloc (.cells #[.int .i64 d1, .int .i64 d2, .int .i64 d3, .int .i64 d4] 32)) (.cells #[.int .i64 x1, .int .i64 x2, .int .i64 x3, .int .i64 x4] 32))
  replace kw := Keeps.trans kw (keeps_alloc ((w.alloc (.cells #[.slice A a c0] 26)).alloc (.cells #[.int .i64 d1, .int .i64 d2, .int .i64 d3, .int .i64 d4] 32)) (.cells #[.int .i64 x1, .int .i64 x2, .int .i64 x3, .int .i64 x4] 32))
  have b11 : Bl (((w.alloc (.cells #[.slice A a c0] 26)).alloc (.cells #[.int .i64 d1, .int .i64 d2, .int .i64 d3, .int .i64 d4] 32)).alloc (.cells #[.int .i64 x1, .int .i64 x2, .int .i64 x3, .int .i64 x4] 32)) (w.heap.size + 1 + 1) [.int .i64 x1, .int .i64 x2, .int .i64 x3, .int .i64 x4] := Bl.new' (by simp) (by simp)
  obtain ⟨ca1, fa1⟩ := id b6
  have ca2_0 : (((w.alloc (.cells #[.slice A a c0] 26)).alloc (.cells #[.int .i64 d1, .int .i64 d2, .int .i64 d3, .int .i64 d4] 32)).alloc (.cells #[.int .i64 x1, .int .i64 x2, .int .i64 x3, .int .i64 x4] 32)).cell? ⟨w.heap.size + 1, 0, none⟩ = some (.int .i64 d1) := (b9.2 0 _ rfl).1
  have ca2_1 : (((w.alloc (.cells #[.slice A a c0] 26)).alloc (.cells #[.int .i64 d1, .int .i64 d2, .int .i64 d3, .int .i64 d4] 32)).alloc (.cells #[.int .i64 x1, .int .i64 x2, .int .i64 x3, .int .i64 x4] 32)).cell? ⟨w.heap.size + 1, 1, none⟩ = some (.int .i64 d2) := (b9.2 1 _ rfl).1
  have ca2_2 : (((w.alloc (.cells #[.slice A a c0] 26)).alloc (.cells #[.int .i64 d1, .int .i64 d2, .int .i64 d3, .int .i64 d4] 32)).alloc (.cells #[.int .i64 x1, .int .i64 x2, .int .i64 x3, .int .i64 x4] 32)).cell? ⟨w.heap.size + 1, 2, none⟩ = some (.int .i64 d3) := (b9.2 2 _ rfl).1
  have ca2_3 : (((w.alloc (.cells #[.slice A a c0] 26)).alloc (.cells #[.int .i64 d1, .int .i64 d2, .int .i64 d3, .int .i64 d4] 32)).alloc (.cells #[.int .i64 x1, .int .i64 x2, .int .i64 x3, .int .i64 x4] 32)).cell? ⟨w.heap.size + 1, 3, none⟩ = some (.int .i64 d4) := (b9.2 3 _ rfl).1
  have ca3_0 : (((w.alloc (.cells #[.slice A a c0] 26)).alloc (.cells #[.int .i64 d1, .int .i64 d2, .int .i64 d3, .int .i64 d4] 32)).alloc (.cells #[.int .i64 x1, .int .i64 x2, .int .i64 x3, .int .i64 x4] 32)).cell? ⟨w.heap.size + 1 + 1, 0, none⟩ = some (.int .i64 x1) := (b11.2 0 _ rfl).1
  have ca3_1 : (((w.alloc (.cells #[.slice A a c0] 26)).alloc (.cells #[.int .i64 d1, .int .i64 d2, .int .i64 d3, .int .i64 d4] 32)).alloc (.cells #[.int .i64 x1, .int .i64 x2, .int .i64 x3, .int .i64 x4] 32)).cell? ⟨w.heap.size + 1 + 1, 1, none⟩ = some (.int .i64 x2) := (b11.2 1 _ rfl).1
  have ca3_2 : (((w.alloc (.cells #[.slice A a c0] 26)).alloc (.cells #[.int .i64 d1, .int .i64 d2, .int .i64 d3, .int .i64 d4] 32)).alloc (.cells #[.int .i64 x1, .int .i64 x2, .int .i64 x3, .int .i64 x4] 32)).cell? ⟨w.heap.size + 1 + 1, 2, none⟩ = some (.int .i64 x3) := (b11.2 2 _ rfl).1
  have ca3_3 : (((w.alloc (.cells #[.slice A a c0] 26)).alloc (.cells #[.int .i64 d1, .int .i64 d2, .int .i64 d3, .int .i64 d4] 32)).alloc (.cells #[.int .i64 x1, .int .i64 x2, .int .i64 x3, .int .i64 x4] 32)).cell? ⟨w.heap.size + 1 + 1, 3, none⟩ = some (.int .i64 x4) := (b11.2 3 _ rfl).1
  go_wp2_with fail
  clear ca1 fa1 ca2_0 ca2_1 ca2_2 ca2_3 ca3_0 ca3_1 ca3_2 ca3_3
  obtain ⟨pH1, H1⟩ : ∃ pB, Hid (hisB ps l rs = pB) := ⟨_, rfl⟩
  refine (isHistory_any (h.keeps kw) (h'.keeps kw) (hr.keeps kw)).mono ?_
  rintro e w4 ⟨rfl, k4⟩
  rw [H1.out]
  replace b6 := b6.keeps k4
  replace b9 := b9.keeps k4
  replace b11 := b11.keeps k4
  replace kw := Keeps.trans kw k4
  have lt5 := b11.lt
  have sz6 := kw.size
  clear k4
  cases pH1
  · obtain ⟨e0, e1⟩ : q0 = false ∧ q1 = false := by have := HQ.out.symm.trans (caQ_no (by rw [H1.out]; rfl)); injection this with a b; exact ⟨a, b⟩
    subst e0 e1
    obtain ⟨ca7, fa7⟩ := id b6
    have ca8_0 : w4.cell? ⟨w.heap.size + 1, 0, none⟩ = some (.int .i64 d1) := (b9.2 0 _ rfl).1
    have ca8_1 : w4.cell? ⟨w.heap.size + 1, 1, none⟩ = some (.int .i64 d2) := (b9.2 1 _ rfl).1
    have ca8_2 : w4.cell? ⟨w.heap.size + 1, 2, none⟩ = some (.int .i64 d3) := (b9.2 2 _ rfl).1
    have ca8_3 : w4.cell? ⟨w.heap.size + 1, 3, none⟩ = some (.int .i64 d4) := (b9.2 3 _ rfl).1
    have ca9_0 : w4.cell? ⟨w.heap.size + 1 + 1, 0, none⟩ = some (.int .i64 x1) := (b11.2 0 _ rfl).1
    have ca9_1 : w4.cell? ⟨w.heap.size + 1 + 1, 1, none⟩ = some (.int .i64 x2) := (b11.2 1 _ rfl).1
    have ca9_2 : w4.cell? ⟨w.heap.size + 1 + 1, 2, none⟩ = some (.int .i64 x3) := (b11.2 2 _ rfl).1
    have ca9_3 : w4.cell? ⟨w.heap.size + 1 + 1, 3, none⟩ = some (.int .i64 x4) := (b11.2 3 _ rfl).1
    go_wp2_with fail
    clear ca7 fa7 ca8_0 ca8_1 ca8_2 ca8_3 ca9_0 ca9_1 ca9_2 ca9_3
    go_ret2
    exact ⟨rfl, kw⟩
  · skip
    obtain ⟨ca7, fa7⟩ := id b6
    have ca8_0 : w4.cell? ⟨w.heap.size + 1, 0, none⟩ = some (.int .i64 d1) := (b9.2 0 _ rfl).1
    have ca8_1 : w4.cell? ⟨w.heap.size + 1, 1, none⟩ = some (.int .i64 d2) := (b9.2 1 _ rfl).1
    have ca8_2 : w4.cell? ⟨w.heap.size + 1, 2, none⟩ = some (.int .i64 d3) := (b9.2 2 _ rfl).1
    have ca8_3 : w4.cell? ⟨w.heap.size + 1, 3, none⟩ = some (.int .i64 d4) := (b9.2 3 _ rfl).1
    have ca9_0 : w4.cell? ⟨w.heap.size + 1 + 1, 0, none⟩ = some (.int .i64 x1) := (b11.2 0 _ rfl).1
    have ca9_1 : w4.cell? ⟨w.heap.size + 1 + 1, 1, none⟩ = some (.int .i64 x2) := (b11.2 1 _ rfl).1
    have ca9_2 : w4.cell? ⟨w.heap.size + 1 + 1, 2, none⟩ = some (.int .i64 x3) := (b11.2 2 _ rfl).1
    have ca9_3 : w4.cell? ⟨w.heap.size + 1 + 1, 3, none⟩ = some (.int .i64 x4) := (b11.2 3 _ rfl).1
    go_wp2_with fail
    clear ca7 fa7 ca8_0 ca8_1 ca8_2 ca8_3 ca9_0 ca9_1 ca9_2 ca9_3
    obtain ⟨pH2, H2⟩ : ∃ pB, Hid (lossB d1 d2 d3 d4 = pB) := ⟨_, rfl⟩
    refine (IsLoss_any).mono ?_
    rintro e w10 ⟨rfl, k10⟩
    rw [H2.out]
    replace b6 := b6.keeps k10
    replace b9 := b9.keeps k10
    replace b11 := b11.keeps k10
    replace kw := Keeps.trans kw k10
    have lt11 := b11.lt
    have sz12 := kw.size
    clear k10
    cases pH2
    · obtain ⟨e0, e1⟩ : q0 = false ∧ q1 = false := by have := HQ.out.symm.trans (caQ_no (by rw [H1.out, show lsB (d1, d2, d3, d4) = false from H2.out]; rfl)); injection this with a b; exact ⟨a, b⟩
      subst e0 e1
      obtain ⟨ca13, fa13⟩ := id b6
      have ca14_0 : w10.cell? ⟨w.heap.size + 1, 0, none⟩ = some (.int .i64 d1) := (b9.2 0 _ rfl).1
      have ca14_1 : w10.cell? ⟨w.heap.size + 1, 1, none⟩ = some (.int .i64 d2) := (b9.2 1 _ rfl).1
      have ca14_2 : w10.cell? ⟨w.heap.size + 1, 2, none⟩ = some (.int .i64 d3) := (b9.2 2 _ rfl).1
      have ca14_3 : w10.cell? ⟨w.heap.size + 1, 3, none⟩ = some (.int .i64 d4) := (b9.2 3 _ rfl).1
      have ca15_0 : w10.cell? ⟨w.heap.size + 1 + 1, 0, none⟩ = some (.int .i64 x1) := (b11.2 0 _ rfl).1
      have ca15_1 : w10.cell? ⟨w.heap.size + 1 + 1, 1, none⟩ = some (.int .i64 x2) := (b11.2 1 _ rfl).1
      have ca15_2 : w10.cell? ⟨w.heap.size + 1 + 1, 2, none⟩ = some (.int .i64 x3) := (b11.2 2 _ rfl).1
      have ca15_3 : w10.cell? ⟨w.heap.size + 1 + 1, 3, none⟩ = some (.int .i64 x4) := (b11.2 3 _ rfl).1
      go_wp2_with fail
      clear ca13 fa13 ca14_0 ca14_1 ca14_2 ca14_3 ca15_0 ca15_1 ca15_2 ca15_3
      go_ret2
      exact ⟨rfl, kw⟩
    · skip
      obtain ⟨ca13, fa13⟩ := id b6
      have ca14_0 : w10.cell? ⟨w.heap.size + 1, 0, none⟩ = some (.int .i64 d1) := (b9.2 0 _ rfl).1
      have ca14_1 : w10.cell? ⟨w.heap.size + 1, 1, none⟩ = some (.int .i64 d2) := (b9.2 1 _ rfl).1
      have ca14_2 : w10.cell? ⟨w.heap.size + 1, 2, none⟩ = some (.int .i64 d3) := (b9.2 2 _ rfl).1
      have ca14_3 : w10.cell? ⟨w.heap.size + 1, 3, none⟩ = some (.int .i64 d4) := (b9.2 3 _ rfl).1
      have ca15_0 : w10.cell? ⟨w.heap.size + 1 + 1, 0, none⟩ = some (.int .i64 x1) := (b11.2 0 _ rfl).1
      have ca15_1 : w10.cell? ⟨w.heap.size + 1 + 1, 1, none⟩ = some (.int .i64 x2) := (b11.2 1 _ rfl).1
      have ca15_2 : w10.cell? ⟨w.heap.size + 1 + 1, 2, none⟩ = some (.int .i64 x3) := (b11.2 2 _ rfl).1
      have ca15_3 : w10.cell? ⟨w.heap.size + 1 + 1, 3, none⟩ = some (.int .i64 x4) := (b11.2 3 _ rfl).1
      go_wp2_with fail
      clear ca13 fa13 ca14_0 ca14_1 ca14_2 ca14_3 ca15_0 ca15_1 ca15_2 ca15_3
      have HGS := hid (hisB_parts H1.out)
      obtain ⟨pH3, H3⟩ : ∃ pB, Hid (plB ps l ts = pB) := ⟨_, rfl⟩
      refine (isPlan_any (h.keeps kw) (h'.keeps kw) (ht.keeps kw) HGS.out.1 HGS.out.2.1).mono ?_
      rintro e w16 ⟨rfl, k16⟩
      rw [H3.out]
      replace b6 := b6.keeps k16
      replace b9 := b9.keeps k16
      replace b11 := b11.keeps k16
      replace kw := Keeps.trans kw k16
      have lt17 := b11.lt
      have sz18 := kw.size
      clear k16
      cases pH3
      · obtain ⟨e0, e1⟩ : q0 = false ∧ q1 = false := by have := HQ.out.symm.trans (caQ_no (by rw [H3.out]; simp)); injection this with a b; exact ⟨a, b⟩
        subst e0 e1
        obtain ⟨ca19, fa19⟩ := id b6
        have ca20_0 : w16.cell? ⟨w.heap.size + 1, 0, none⟩ = some (.int .i64 d1) := (b9.2 0 _ rfl).1
        have ca20_1 : w16.cell? ⟨w.heap.size + 1, 1, none⟩ = some (.int .i64 d2) := (b9.2 1 _ rfl).1
        have ca20_2 : w16.cell? ⟨w.heap.size + 1, 2, none⟩ = some (.int .i64 d3) := (b9.2 2 _ rfl).1
        have ca20_3 : w16.cell? ⟨w.heap.size + 1, 3, none⟩ = some (.int .i64 d4) := (b9.2 3 _ rfl).1
        have ca21_0 : w16.cell? ⟨w.heap.size + 1 + 1, 0, none⟩ = some (.int .i64 x1) := (b11.2 0 _ rfl).1
        have ca21_1 : w16.cell? ⟨w.heap.size + 1 + 1, 1, none⟩ = some (.int .i64 x2) := (b11.2 1 _ rfl).1
        have ca21_2 : w16.cell? ⟨w.heap.size + 1 + 1, 2, none⟩ = some (.int .i64 x3) := (b11.2 2 _ rfl).1
        have ca21_3 : w16.cell? ⟨w.heap.size + 1 + 1, 3, none⟩ = some (.int .i64 x4) := (b11.2 3 _ rfl).1
        go_wp2_with fail
        clear ca19 fa19 ca20_0 ca20_1 ca20_2 ca20_3 ca21_0 ca21_1 ca21_2 ca21_3
        go_ret2
        exact ⟨rfl, kw⟩
      · skip
        obtain ⟨ca19, fa19⟩ := id b6
        have ca20_0 : w16.cell? ⟨w.heap.size + 1, 0, none⟩ = some (.int .i64 d1) := (b9.2 0 _ rfl).1
        have ca20_1 : w16.cell? ⟨w.heap.size + 1, 1, none⟩ = some (.int .i64 d2) := (b9.2 1 _ rfl).1
        have ca20_2 : w16.cell? ⟨w.heap.size + 1, 2, none⟩ = some (.int .i64 d3) := (b9.2 2 _ rfl).1
        have ca20_3 : w16.cell? ⟨w.heap.size + 1, 3, none⟩ = some (.int .i64 d4) := (b9.2 3 _ rfl).1
        have ca21_0 : w16.cell? ⟨w.heap.size + 1 + 1, 0, none⟩ = some (.int .i64 x1) := (b11.2 0 _ rfl).1
        have ca21_1 : w16.cell? ⟨w.heap.size + 1 + 1, 1, none⟩ = some (.int .i64 x2) := (b11.2 1 _ rfl).1
        have ca21_2 : w16.cell? ⟨w.heap.size + 1 + 1, 2, none⟩ = some (.int .i64 x3) := (b11.2 2 _ rfl).1
        have ca21_3 : w16.cell? ⟨w.heap.size + 1 + 1, 3, none⟩ = some (.int .i64 x4) := (b11.2 3 _ rfl).1
        go_wp2_with fail
        clear ca19 fa19 ca20_0 ca20_1 ca20_2 ca20_3 ca21_0 ca21_1 ca21_2 ca21_3
        obtain ⟨pH4, H4⟩ : ∃ pB, Hid (lossB x1 x2 x3 x4 = pB) := ⟨_, rfl⟩
        refine (IsLoss_any).mono ?_
        rintro e w22 ⟨rfl, k22⟩
        rw [H4.out]
        replace b6 := b6.keeps k22
        replace b9 := b9.keeps k22
        replace b11 := b11.keeps k22
        replace kw := Keeps.trans kw k22
        have lt23 := b11.lt
        have sz24 := kw.size
        clear k22
        cases pH4
        · obtain ⟨e0, e1⟩ : q0 = false ∧ q1 = false := by have := HQ.out.symm.trans (caQ_no (by rw [show lsB (x1, x2, x3, x4) = false from H4.out]; simp)); injection this with a b; exact ⟨a, b⟩
          subst e0 e1
          obtain ⟨ca25, fa25⟩ := id b6
          have ca26_0 : w22.cell? ⟨w.heap.size + 1, 0, none⟩ = some (.int .i64 d1) := (b9.2 0 _ rfl).1
          have ca26_1 : w22.cell? ⟨w.heap.size + 1, 1, none⟩ = some (.int .i64 d2) := (b9.2 1 _ rfl).1
          have ca26_2 : w22.cell? ⟨w.heap.size + 1, 2, none⟩ = some (.int .i64 d3) := (b9.2 2 _ rfl).1
          have ca26_3 : w22.cell? ⟨w.heap.size + 1, 3, none⟩ = some (.int .i64 d4) := (b9.2 3 _ rfl).1
          have ca27_0 : w22.cell? ⟨w.heap.size + 1 + 1, 0, none⟩ = some (.int .i64 x1) := (b11.2 0 _ rfl).1
          have ca27_1 : w22.cell? ⟨w.heap.size + 1 + 1, 1, none⟩ = some (.int .i64 x2) := (b11.2 1 _ rfl).1
          have ca27_2 : w22.cell? ⟨w.heap.size + 1 + 1, 2, none⟩ = some (.int .i64 x3) := (b11.2 2 _ rfl).1
          have ca27_3 : w22.cell? ⟨w.heap.size + 1 + 1, 3, none⟩ = some (.int .i64 x4) := (b11.2 3 _ rfl).1
          go_wp2_with fail
          clear ca25 fa25 ca26_0 ca26_1 ca26_2 ca26_3 ca27_0 ca27_1 ca27_2 ca27_3
          go_ret2
          exact ⟨rfl, kw⟩
        · skip
          have HA := hid (show (hisB ps l rs && lsB (d1, d2, d3, d4) && plB ps l ts && lsB (x1, x2, x3, x4)) = true by rw [H1.out, H3.out, show lsB (d1, d2, d3, d4) = true from H2.out, show lsB (x1, x2, x3, x4) = true from H4.out]; rfl)
          have HAA := HA.out
          simp only [Bool.and_eq_true] at HAA
          have HAB := hid HAA
          clear HAA
          obtain ⟨e0, e1⟩ : q0 = decide (0 < cn (d1, d2, d3, d4) (exq (rlLs rs) (x1, x2, x3, x4)) (12 - rs.length)) ∧ q1 = true := by have := HQ.out.symm.trans (caQ_yes HA.out); injection this with a b; exact ⟨a, b⟩
          subst e1
          rw [HRL.out] at e0
          have HE := hid e0
          clear e0
          obtain ⟨ca25, fa25⟩ := id b6
          have ca26_0 : w22.cell? ⟨w.heap.size + 1, 0, none⟩ = some (.int .i64 d1) := (b9.2 0 _ rfl).1
          have ca26_1 : w22.cell? ⟨w.heap.size + 1, 1, none⟩ = some (.int .i64 d2) := (b9.2 1 _ rfl).1
          have ca26_2 : w22.cell? ⟨w.heap.size + 1, 2, none⟩ = some (.int .i64 d3) := (b9.2 2 _ rfl).1
          have ca26_3 : w22.cell? ⟨w.heap.size + 1, 3, none⟩ = some (.int .i64 d4) := (b9.2 3 _ rfl).1
          have ca27_0 : w22.cell? ⟨w.heap.size + 1 + 1, 0, none⟩ = some (.int .i64 x1) := (b11.2 0 _ rfl).1
          have ca27_1 : w22.cell? ⟨w.heap.size + 1 + 1, 1, none⟩ = some (.int .i64 x2) := (b11.2 1 _ rfl).1
          have ca27_2 : w22.cell? ⟨w.heap.size + 1 + 1, 2, none⟩ = some (.int .i64 x3) := (b11.2 2 _ rfl).1
          have ca27_3 : w22.cell? ⟨w.heap.size + 1 + 1, 3, none⟩ = some (.int .i64 x4) := (b11.2 3 _ rfl).1
          go_wp2_with fail
          clear ca25 fa25 ca26_0 ca26_1 ca26_2 ca26_3 ca27_0 ca27_1 ca27_2 ca27_3
          refine (usesLeft_any (c := cr) (hr.keeps kw) HAB.out.1.1.1 HAB.out.1.1.2 HAB.out.2).mono ?_
          rintro e w28 ⟨rfl, k28⟩
          replace b6 := b6.keeps k28
          replace b9 := b9.keeps k28
          replace b11 := b11.keeps k28
          replace kw := Keeps.trans kw k28
          have lt29 := b11.lt
          have sz30 := kw.size
          clear k28
          obtain ⟨N, hN⟩ : ∃ N, cn (d1, d2, d3, d4) (exq (rlLs rs) (x1, x2, x3, x4)) (12 - n) = N := ⟨_, rfl⟩
          rw [hN] at HE
          rw [hN]
          clear hN
          by_cases h0 : 0 < N
          · obtain rfl : q0 = true := by rw [HE.out]; exact decide_eq_true h0
            go_wp2_with fail
            go_ret2
            exact ⟨by first | rfl | (simp; omega), kw⟩
          · obtain rfl : q0 = false := by rw [HE.out]; exact decide_eq_false h0
            obtain rfl : N = 0 := by omega
            go_wp2_with fail
            go_ret2
            exact ⟨by first | rfl | (simp; omega), kw⟩
end Go.Proofs.YtohjkpopbmmliaaGreat
namespace Go.Proofs.YtohjkpopbmmliaaGreat
open Go.RowKit
set_option linter.unusedVariables false
set_option linter.unusedSimpArgs false
/-- A copy of a slice of ints. -/
def CpRes (w : World) (xs : List Int) (n : Nat) (e : Ending) (w' : World) : Prop := ∃ A1 C1, e = .returned (.slice A1 n C1) ∧ Mine w' w.heap.size w'.heap.size A1 n xs ∧ Keeps w w'
set_option maxRecDepth 100000 in
set_option maxHeartbeats 1600000 in
theorem l1Own_cp {A : Option Addr} {lo hi n c : Nat} {xs : List Int} {w : World} (h : Ints w lo hi A n xs) :
    Calls Tryz.prog 72 #[.slice A n c] w (CpRes w xs n) := by
  cases A with
  | some p => exact (l1Own_copy h (fun e => by cases e)).mono fun e w' ⟨A1, C1, h1, h2, _, h3⟩ => ⟨A1, C1, h1, h2, h3⟩
  | none =>
    have hl := h.1
    have hq : ∀ w' : World, (binOp .eql 24 (.slice none n c) (.slice none 0 0)).run Tryz.prog w' = .ok (.bool true) w' := fun w' => by
      have := Lib.run_eql_slice_nil (P := Tryz.prog) w' 24 3 none n c 0 0 Tryz.underlying24
      exact this
    obtain rfl : n = 0 := by
      rcases Nat.eq_zero_or_pos n with h0 | h0
      · exact h0
      · obtain ⟨b, off, e, _⟩ := h.2.2.2 h0
        cases e
    obtain rfl : xs = [] := by simpa using hl
    obtain ⟨i, hi, hz0, hz1, hz2⟩ := info_parts info_int
    have hm := World.ownsRow_made (e := 3) (size := 1) w #[] 0 (Nat.le_refl _) (Nat.zero_le _) rfl
    go_enter Tryz.func72, Tryz.ntmps72
    go_wp2_with (at_builtin; refine wpList_append_own_noneC _ rfl _ _ 24 rfl w.heap.size 3 i 1 Tryz.underlying24 hi _ 0 [] rfl hm rfl ?_)
    go_ret
    first
    | exact ⟨_, _, rfl, Mine.of_own hm (by omega), keeps_alloc _ _⟩
    | exact ⟨_, _, rfl, Mine.nil_ _ _, keeps_refl _⟩
set_option maxRecDepth 100000 in
set_option maxHeartbeats 1600000 in
theorem cloneI_cp {A : Option Addr} {lo hi n c : Nat} {xs : List Int} {w : World} (h : Ints w lo hi A n xs) :
    Calls Tryz.prog 138 #[.slice A n c] w (CpRes w xs n) := by
  cases A with
  | some p => exact (cloneI_copy h (fun e => by cases e)).mono fun e w' ⟨A1, C1, h1, h2, _, h3⟩ => ⟨A1, C1, h1, h2, h3⟩
  | none =>
    have hl := h.1
    have hq : ∀ w' : World, (binOp .eql 24 (.slice none n c) (.slice none 0 0)).run Tryz.prog w' = .ok (.bool true) w' := fun w' => by
      have := Lib.run_eql_slice_nil (P := Tryz.prog) w' 24 3 none n c 0 0 Tryz.underlying24
      exact this
    obtain rfl : n = 0 := by
      rcases Nat.eq_zero_or_pos n with h0 | h0
      · exact h0
      · obtain ⟨b, off, e, _⟩ := h.2.2.2 h0
        cases e
    obtain rfl : xs = [] := by simpa using hl
    obtain ⟨i, hi, hz0, hz1, hz2⟩ := info_parts info_int
    have hm := World.ownsRow_made (e := 3) (size := 1) w #[] 0 (Nat.le_refl _) (Nat.zero_le _) rfl
    go_enter Tryz.func138, Tryz.ntmps138
    go_wp2_with (at_builtin; refine wpList_append_own_noneC _ rfl _ _ 24 rfl w.heap.size 3 i 1 Tryz.underlying24 hi _ 0 [] rfl hm rfl ?_)
    go_ret
    first
    | exact ⟨_, _, rfl, Mine.of_own hm (by omega), keeps_alloc _ _⟩
    | exact ⟨_, _, rfl, Mine.nil_ _ _, keeps_refl _⟩
/-- Two slices of ints of one's own, apart from each other. -/
structure TwM (w : World) (lo hi : Nat) (A1 : Option Addr) (n1 : Nat) (xs : List Int) (A2 : Option Addr) (n2 : Nat) (ys : List Int) : Prop where
  top : hi ≤ w.heap.size
  ex : ∃ l1 h1 l2 h2, lo ≤ l1 ∧ h1 ≤ hi ∧ lo ≤ l2 ∧ h2 ≤ hi ∧ (h1 ≤ l2 ∨ h2 ≤ l1) ∧ Mine w l1 h1 A1 n1 xs ∧ Mine w l2 h2 A2 n2 ys
section
variable {w w' : World} {lo hi l h' n1 n2 n3 : Nat} {A1 A2 A3 : Option Addr} {xs ys zs : List Int}
theorem TwM.fr (h : TwM w lo hi A1 n1 xs A2 n2 ys) (f : Fr l h' w w') (ho : h' ≤ lo ∨ hi ≤ l ∨ h' ≤ l) : TwM w' lo hi A1 n1 xs A2 n2 ys := by
  obtain ⟨ht, l1, h1, l2, h2, q1, q2, q3, q4, d1, m1, m2⟩ := h
  exact ⟨Nat.le_trans ht f.size, l1, h1, l2, h2, q1, q2, q3, q4, d1, m1.fr f (by omega), m2.fr f (by omega)⟩
theorem TwM.widen {lo' hi' : Nat} (h : TwM w lo hi A1 n1 xs A2 n2 ys) (h1 : lo' ≤ lo) (h2 : hi ≤ hi') (h3 : hi' ≤ w.heap.size) : TwM w lo' hi' A1 n1 xs A2 n2 ys := by
  obtain ⟨ht, a1, b1, a2, b2, q1, q2, q3, q4, d1, m1, m2⟩ := h
  exact ⟨h3, a1, b1, a2, b2, by omega, by omega, by omega, by omega, d1, m1, m2⟩
theorem TwM.a (h : TwM w lo hi A1 n1 xs A2 n2 ys) : Ints w lo hi A1 n1 xs := by
  obtain ⟨ht, a1, b1, a2, b2, q1, q2, q3, q4, d1, m1, m2⟩ := h
  exact m1.1.widen q1 q2 ht
theorem TwM.b (h : TwM w lo hi A1 n1 xs A2 n2 ys) : Ints w lo hi A2 n2 ys := by
  obtain ⟨ht, a1, b1, a2, b2, q1, q2, q3, q4, d1, m1, m2⟩ := h
  exact m2.1.widen q3 q4 ht
theorem TwM.of_two {wA w' : World} {B lo1 n1 n2 : Nat} {A1 A2 : Option Addr} {xs ys : List Int} (m1 : Mine wA lo1 wA.heap.size A1 n1 xs) (k : Keeps wA w') (m2 : Mine w' wA.heap.size w'.heap.size A2 n2 ys) (h : B ≤ lo1) (h2 : lo1 ≤ wA.heap.size) : TwM w' B w'.heap.size A1 n1 xs A2 n2 ys :=
  ⟨Nat.le_refl _, lo1, wA.heap.size, wA.heap.size, w'.heap.size, h, k.size, by omega, Nat.le_refl _, .inl (Nat.le_refl _), m1.keeps k, m2⟩
end
/-- A table of one's own. -/
def TwRes (w : World) (lv sm : Int) (n1 : Nat) (xs : List Int) (n2 : Nat) (ys : List Int) (e : Ending) (w' : World) : Prop :=
  ∃ A1 c1 A2 c2, e = .returned (.agg #[.int .i64 lv, .slice A1 n1 c1, .slice A2 n2 c2, .int .i64 sm]) ∧ TwM w' w.heap.size w'.heap.size A1 n1 xs A2 n2 ys ∧ Keeps w w'
theorem step_cpc {W : World} {ops : Array Oper} {o : Oper} {a : Act} {K : Act → World → Prop} {Q : Exit → Act → World → Prop} {E : Prop} {lo hi n c : Nat} {A : Option Addr} {xs : List Int}
    (hx : Ints W lo hi A n xs) (hgd : o.guard = none)
    (hrun : (execOp a.eval o).run Tryz.prog W = .ok (.enter 138 #[.slice A n c]) W)
    (h : ∀ A1 C1 w', Mine w' W.heap.size w'.heap.size A1 n xs → Keeps W w' → K (a.put o.dst (.slice A1 n C1)) w') :
    if Region.wanted o (yielded ops a.tmps) = true then Oper.wp Tryz.prog o a W K Q else E := by
  have hw : Region.wanted o (yielded ops a.tmps) = true := by simp [Region.wanted, hgd]
  rw [if_pos hw]
  unfold Oper.wp
  rw [hrun, Oper.upon_enter]
  refine (cloneI_cp hx).mono fun e w' hh => ?_
  obtain ⟨A1, C1, rfl, h1, h3⟩ := hh
  exact h A1 C1 w' h1 h3
set_option maxRecDepth 100000 in
set_option maxHeartbeats 6400000 in
theorem copyTable_tw {A1 A2 : Option Addr} {n1 n2 c1 c2 l1 u1 l2 u2 : Nat} {lv sm : Int} {xs ys : List Int} {w : World} (h1 : Ints w l1 u1 A1 n1 xs) (h2 : Ints w l2 u2 A2 n2 ys) :
    Calls Tryz.prog 96 #[.agg #[.int .i64 lv, .slice A1 n1 c1, .slice A2 n2 c2, .int .i64 sm]] w (TwRes w lv sm n1 xs n2 ys) := by
  go_enter Tryz.func96, Tryz.ntmps96
  have kw := keeps_refl w
  replace kw := Keeps.trans kw (keeps_alloc w (.cells #[.int .i64 lv, .slice A1 n1 c1, .slice A2 n2 c2, .int .i64 sm] 120))
  have b1 : Bl (w.alloc (.cells #[.int .i64 lv, .slice A1 n1 c1, .slice A2 n2 c2, .int .i64 sm] 120)) w.heap.size [.int .i64 lv, .slice A1 n1 c1, .slice A2 n2 c2, .int .i64 sm] := Bl.new' (by simp) (by simp)
  replace b1 := b1.keeps (keeps_alloc (w.alloc (.cells #[.int .i64 lv, .slice A1 n1 c1, .slice A2 n2 c2, .int .i64 sm] 120)) (.cells #[.int .i64 0, .slice none 0 0, .slice none 0 0, .int .i64 0] 120))
  replace kw := Keeps.trans kw (keeps_alloc (w.alloc (.cells #[.int .i64 lv, .slice A1 n1 c1, .slice A2 n2 c2, .int .i64 sm] 120)) (.cells #[.int .i64 0, .slice none 0 0, .slice none 0 0, .int .i64 0] 120))
  have b2 : Bl ((w.alloc (.cells #[.int .i64 lv, .slice A1 n1 c1, .slice A2 n2 c2, .int .i64 sm] 120)).alloc (.cells #[.int .i64 0, .slice none 0 0, .slice none 0 0, .int .i64 0] 120)) (w.heap.size + 1) [.int .i64 0, .slice none 0 0, .slice none 0 0, .int .i64 0] := Bl.new' (by simp) (by simp)
  go_wp2_with fail
  obtain ⟨W, hX⟩ : ∃ u : World, u = ((w.alloc (.cells #[.int .i64 lv, .slice A1 n1 c1, .slice A2 n2 c2, .int .i64 sm] 120)).alloc (.cells #[.int .i64 0, .slice none 0 0, .slice none 0 0, .int .i64 0] 120)) := ⟨_, rfl⟩
  have szX0 := hid (show W.heap.size = w.heap.size + 1 + 1 by rw [hX]; simp)
  rw [← hX] at b1
  rw [← hX] at b2
  rw [← hX] at kw
  rw [← hX]
  clear hX
  have sz2 := kw.size
  have hxD := h1.keeps (kw.trans (keeps_d0 W))
  have hyD := h2.keeps (kw.trans (keeps_d0 W))
  have b1D := b1.keeps (keeps_d0 W)
  have b2D := b2.keeps (keeps_d0 W)
  have sW : w.heap.size + 2 ≤ W.drew.heap.size := by show _ ≤ W.heap.size; rw [szX0.out]; omega
  have kwD := kw.trans (keeps_d0 W)
  have z0D : W.drew.cell? ⟨w.heap.size, 0, none⟩ = some (.int .i64 lv) := (b1D.2 0 _ rfl).1
  have y0D : W.drew.frozen? ⟨w.heap.size, 0, none⟩ = false := (b1D.2 0 _ rfl).2
  have z1D : W.drew.cell? ⟨w.heap.size, 1, none⟩ = some (.slice A1 n1 c1) := (b1D.2 1 _ rfl).1
  have y1D : W.drew.frozen? ⟨w.heap.size, 1, none⟩ = false := (b1D.2 1 _ rfl).2
  have z2D : W.drew.cell? ⟨w.heap.size, 2, none⟩ = some (.slice A2 n2 c2) := (b1D.2 2 _ rfl).1
  have y2D : W.drew.frozen? ⟨w.heap.size, 2, none⟩ = false := (b1D.2 2 _ rfl).2
  have z3D : W.drew.cell? ⟨w.heap.size, 3, none⟩ = some (.int .i64 sm) := (b1D.2 3 _ rfl).1
  have y3D : W.drew.frozen? ⟨w.heap.size, 3, none⟩ = false := (b1D.2 3 _ rfl).2
  go_region_law ((first | (refine step_cpc (c := c2) hyA rfl (by kernel_rfl) ?_; intro B2_ C2_ wZ m2 kZ; have TT := hid (TwM.of_two (B := w.heap.size + 2) m1 kZ m2 (by omega) kA.size); have b1Z := b1A.keeps kZ; have b2Z := b2A.keeps kZ; have kwZ := (kwD.trans kA).trans kZ; have sZ := Nat.le_trans kA.size kZ.size; have z0wZ : wZ.cell? ⟨w.heap.size, 0, none⟩ = some (.int .i64 lv) := (b1Z.2 0 _ rfl).1; have y0wZ : wZ.frozen? ⟨w.heap.size, 0, none⟩ = false := (b1Z.2 0 _ rfl).2; have z1wZ : wZ.cell? ⟨w.heap.size, 1, none⟩ = some (.slice A1 n1 c1) := (b1Z.2 1 _ rfl).1; have y1wZ : wZ.frozen? ⟨w.heap.size, 1, none⟩ = false := (b1Z.2 1 _ rfl).2; have z2wZ : wZ.cell? ⟨w.heap.size, 2, none⟩ = some (.slice A2 n2 c2) := (b1Z.2 2 _ rfl).1; have y2wZ : wZ.frozen? ⟨w.heap.size, 2, none⟩ = false := (b1Z.2 2 _ rfl).2; have z3wZ : wZ.cell? ⟨w.heap.size, 3, none⟩ = some (.int .i64 sm) := (b1Z.2 3 _ rfl).1; have y3wZ : wZ.frozen? ⟨w.heap.size, 3, none⟩ = false := (b1Z.2 3 _ rfl).2) | (refine step_cpc (c := c1) hxB rfl (by kernel_rfl) ?_; intro B1_ C1_ wZ m1 kZ; have TT := hid ((TwM.of_two (B := w.heap.size + 2) m2 kZ m1 (by omega) kB.size).swap); have b1Z := b1B.keeps kZ; have b2Z := b2B.keeps kZ; have kwZ := (kwD.trans kB).trans kZ; have sZ := Nat.le_trans kB.size kZ.size; have z0wZ : wZ.cell? ⟨w.heap.size, 0, none⟩ = some (.int .i64 lv) := (b1Z.2 0 _ rfl).1; have y0wZ : wZ.frozen? ⟨w.heap.size, 0, none⟩ = false := (b1Z.2 0 _ rfl).2; have z1wZ : wZ.cell? ⟨w.heap.size, 1, none⟩ = some (.slice A1 n1 c1) := (b1Z.2 1 _ rfl).1; have y1wZ : wZ.frozen? ⟨w.heap.size, 1, none⟩ = false := (b1Z.2 1 _ rfl).2; have z2wZ : wZ.cell? ⟨w.heap.size, 2, none⟩ = some (.slice A2 n2 c2) := (b1Z.2 2 _ rfl).1; have y2wZ : wZ.frozen? ⟨w.heap.size, 2, none⟩ = false := (b1Z.2 2 _ rfl).2; have z3wZ : wZ.cell? ⟨w.heap.size, 3, none⟩ = some (.int .i64 sm) := (b1Z.2 3 _ rfl).1; have y3wZ : wZ.frozen? ⟨w.heap.size, 3, none⟩ = false := (b1Z.2 3 _ rfl).2) | (refine step_cpc (c := c1) hxD rfl (by kernel_rfl) ?_; intro B1_ C1_ wA m1 kA; have b1A := b1D.keeps kA; have b2A := b2D.keeps kA; have hyA := hyD.keeps kA; have z0wA : wA.cell? ⟨w.heap.size, 0, none⟩ = some (.int .i64 lv) := (b1A.2 0 _ rfl).1; have y0wA : wA.frozen? ⟨w.heap.size, 0, none⟩ = false := (b1A.2 0 _ rfl).2; have z1wA : wA.cell? ⟨w.heap.size, 1, none⟩ = some (.slice A1 n1 c1) := (b1A.2 1 _ rfl).1; have y1wA : wA.frozen? ⟨w.heap.size, 1, none⟩ = false := (b1A.2 1 _ rfl).2; have z2wA : wA.cell? ⟨w.heap.size, 2, none⟩ = some (.slice A2 n2 c2) := (b1A.2 2 _ rfl).1; have y2wA : wA.frozen? ⟨w.heap.size, 2, none⟩ = false := (b1A.2 2 _ rfl).2; have z3wA : wA.cell? ⟨w.heap.size, 3, none⟩ = some (.int .i64 sm) := (b1A.2 3 _ rfl).1; have y3wA : wA.frozen? ⟨w.heap.size, 3, none⟩ = false := (b1A.2 3 _ rfl).2) | (refine step_cpc (c := c2) hyD rfl (by kernel_rfl) ?_; intro B2_ C2_ wB m2 kB; have b1B := b1D.keeps kB; have b2B := b2D.keeps kB; have hxB := hxD.keeps kB; have z0wB : wB.cell? ⟨w.heap.size, 0, none⟩ = some (.int .i64 lv) := (b1B.2 0 _ rfl).1; have y0wB : wB.frozen? ⟨w.heap.size, 0, none⟩ = false := (b1B.2 0 _ rfl).2; have z1wB : wB.cell? ⟨w.heap.size, 1, none⟩ = some (.slice A1 n1 c1) := (b1B.2 1 _ rfl).1; have y1wB : wB.frozen? ⟨w.heap.size, 1, none⟩ = false := (b1B.2 1 _ rfl).2; have z2wB : wB.cell? ⟨w.heap.size, 2, none⟩ = some (.slice A2 n2 c2) := (b1B.2 2 _ rfl).1; have y2wB : wB.frozen? ⟨w.heap.size, 2, none⟩ = false := (b1B.2 2 _ rfl).2; have z3wB : wB.cell? ⟨w.heap.size, 3, none⟩ = some (.int .i64 sm) := (b1B.2 3 _ rfl).1; have y3wB : wB.frozen? ⟨w.heap.size, 3, none⟩ = false := (b1B.2 3 _ rfl).2)))
  all_goals (
    replace b2Z := b2Z.far (p := ⟨w.heap.size, 1, none⟩) (by show _ ≠ w.heap.size; omega) (.slice B1_ n1 C1_)
    replace kwZ := Below.setCell kwZ (p := ⟨w.heap.size, 1, none⟩) (by show _ ≤ w.heap.size; omega) (.slice B1_ n1 C1_)
    replace b1Z : Bl (wZ.setCell ⟨w.heap.size, 1, none⟩ (.slice B1_ n1 C1_)) w.heap.size [.int .i64 lv, .slice B1_ n1 C1_, .slice A2 n2 c2, .int .i64 sm] := b1Z.set 1 (.slice B1_ n1 C1_)
    replace b2Z := b2Z.far (p := ⟨w.heap.size, 2, none⟩) (by show _ ≠ w.heap.size; omega) (.slice B2_ n2 C2_)
    replace kwZ := Below.setCell kwZ (p := ⟨w.heap.size, 2, none⟩) (by show _ ≤ w.heap.size; omega) (.slice B2_ n2 C2_)
    replace b1Z : Bl ((wZ.setCell ⟨w.heap.size, 1, none⟩ (.slice B1_ n1 C1_)).setCell ⟨w.heap.size, 2, none⟩ (.slice B2_ n2 C2_)) w.heap.size [.int .i64 lv, .slice B1_ n1 C1_, .slice B2_ n2 C2_, .int .i64 sm] := b1Z.set 2 (.slice B2_ n2 C2_)
    have ca3_0 : ((wZ.setCell ⟨w.heap.size, 1, none⟩ (.slice B1_ n1 C1_)).setCell ⟨w.heap.size, 2, none⟩ (.slice B2_ n2 C2_)).cell? ⟨w.heap.size, 0, none⟩ = some (.int .i64 lv) := (b1Z.2 0 _ rfl).1
    have ca3_1 : ((wZ.setCell ⟨w.heap.size, 1, none⟩ (.slice B1_ n1 C1_)).setCell ⟨w.heap.size, 2, none⟩ (.slice B2_ n2 C2_)).cell? ⟨w.heap.size, 1, none⟩ = some (.slice B1_ n1 C1_) := (b1Z.2 1 _ rfl).1
    have ca3_2 : ((wZ.setCell ⟨w.heap.size, 1, none⟩ (.slice B1_ n1 C1_)).setCell ⟨w.heap.size, 2, none⟩ (.slice B2_ n2 C2_)).cell? ⟨w.heap.size, 2, none⟩ = some (.slice B2_ n2 C2_) := (b1Z.2 2 _ rfl).1
    have ca3_3 : ((wZ.setCell ⟨w.heap.size, 1, none⟩ (.slice B1_ n1 C1_)).setCell ⟨w.heap.size, 2, none⟩ (.slice B2_ n2 C2_)).cell? ⟨w.heap.size, 3, none⟩ = some (.int .i64 sm) := (b1Z.2 3 _ rfl).1
    have ca4_0 : ((wZ.setCell ⟨w.heap.size, 1, none⟩ (.slice B1_ n1 C1_)).setCell ⟨w.heap.size, 2, none⟩ (.slice B2_ n2 C2_)).cell? ⟨(w.heap.size + 1), 0, none⟩ = some (.int .i64 0) := (b2Z.2 0 _ rfl).1
    have fa4_0 : ((wZ.setCell ⟨w.heap.size, 1, none⟩ (.slice B1_ n1 C1_)).setCell ⟨w.heap.size, 2, none⟩ (.slice B2_ n2 C2_)).frozen? ⟨(w.heap.size + 1), 0, none⟩ = false := (b2Z.2 0 _ rfl).2
    have ca4_1 : ((wZ.setCell ⟨w.heap.size, 1, none⟩ (.slice B1_ n1 C1_)).setCell ⟨w.heap.size, 2, none⟩ (.slice B2_ n2 C2_)).cell? ⟨(w.heap.size + 1), 1, none⟩ = some (.slice none 0 0) := (b2Z.2 1 _ rfl).1
    have fa4_1 : ((wZ.setCell ⟨w.heap.size, 1, none⟩ (.slice B1_ n1 C1_)).setCell ⟨w.heap.size, 2, none⟩ (.slice B2_ n2 C2_)).frozen? ⟨(w.heap.size + 1), 1, none⟩ = false := (b2Z.2 1 _ rfl).2
    have ca4_2 : ((wZ.setCell ⟨w.heap.size, 1, none⟩ (.slice B1_ n1 C1_)).setCell ⟨w.heap.size, 2, none⟩ (.slice B2_ n2 C2_)).cell? ⟨(w.heap.size + 1), 2, none⟩ = some (.slice none 0 0) := (b2Z.2 2 _ rfl).1
    have fa4_2 : ((wZ.setCell ⟨w.heap.size, 1, none⟩ (.slice B1_ n1 C1_)).setCell ⟨w.heap.size, 2, none⟩ (.slice B2_ n2 C2_)).frozen? ⟨(w.heap.size + 1), 2, none⟩ = false := (b2Z.2 2 _ rfl).2
    have ca4_3 : ((wZ.setCell ⟨w.heap.size, 1, none⟩ (.slice B1_ n1 C1_)).setCell ⟨w.heap.size, 2, none⟩ (.slice B2_ n2 C2_)).cell? ⟨(w.heap.size + 1), 3, none⟩ = some (.int .i64 0) := (b2Z.2 3 _ rfl).1
    have fa4_3 : ((wZ.setCell ⟨w.heap.size, 1, none⟩ (.slice B1_ n1 C1_)).setCell ⟨w.heap.size, 2, none⟩ (.slice B2_ n2 C2_)).frozen? ⟨(w.heap.size + 1), 3, none⟩ = false := (b2Z.2 3 _ rfl).2
    replace b1Z := b1Z.far (p := ⟨(w.heap.size + 1), 0, none⟩) (by show _ ≠ (w.heap.size + 1); omega) (.int .i64 lv)
    replace kwZ := Below.setCell kwZ (p := ⟨(w.heap.size + 1), 0, none⟩) (by show _ ≤ (w.heap.size + 1); omega) (.int .i64 lv)
    replace b2Z : Bl (((wZ.setCell ⟨w.heap.size, 1, none⟩ (.slice B1_ n1 C1_)).setCell ⟨w.heap.size, 2, none⟩ (.slice B2_ n2 C2_)).setCell ⟨(w.heap.size + 1), 0, none⟩ (.int .i64 lv)) (w.heap.size + 1) [.int .i64 lv, .slice none 0 0, .slice none 0 0, .int .i64 0] := b2Z.set 0 (.int .i64 lv)
    replace b1Z := b1Z.far (p := ⟨(w.heap.size + 1), 1, none⟩) (by show _ ≠ (w.heap.size + 1); omega) (.slice B1_ n1 C1_)
    replace kwZ := Below.setCell kwZ (p := ⟨(w.heap.size + 1), 1, none⟩) (by show _ ≤ (w.heap.size + 1); omega) (.slice B1_ n1 C1_)
    replace b2Z : Bl ((((wZ.setCell ⟨w.heap.size, 1, none⟩ (.slice B1_ n1 C1_)).setCell ⟨w.heap.size, 2, none⟩ (.slice B2_ n2 C2_)).setCell ⟨(w.heap.size + 1), 0, none⟩ (.int .i64 lv)).setCell ⟨(w.heap.size + 1), 1, none⟩ (.slice B1_ n1 C1_)) (w.heap.size + 1) [.int .i64 lv, .slice B1_ n1 C1_, .slice none 0 0, .int .i64 0] := b2Z.set 1 (.slice B1_ n1 C1_)
    replace b1Z := b1Z.far (p := ⟨(w.heap.size + 1), 2, none⟩) (by show _ ≠ (w.heap.size + 1); omega) (.slice B2_ n2 C2_)
    replace kwZ := Below.setCell kwZ (p := ⟨(w.heap.size + 1), 2, none⟩) (by show _ ≤ (w.heap.size + 1); omega) (.slice B2_ n2 C2_)
    replace b2Z : Bl (((((wZ.setCell ⟨w.heap.size, 1, none⟩ (.slice B1_ n1 C1_)).setCell ⟨w.heap.size, 2, none⟩ (.slice B2_ n2 C2_)).setCell ⟨(w.heap.size + 1), 0, none⟩ (.int .i64 lv)).setCell ⟨(w.heap.size + 1), 1, none⟩ (.slice B1_ n1 C1_)).setCell ⟨(w.heap.size + 1), 2, none⟩ (.slice B2_ n2 C2_)) (w.heap.size + 1) [.int .i64 lv, .slice B1_ n1 C1_, .slice B2_ n2 C2_, .int .i64 0] := b2Z.set 2 (.slice B2_ n2 C2_)
    replace b1Z := b1Z.far (p := ⟨(w.heap.size + 1), 3, none⟩) (by show _ ≠ (w.heap.size + 1); omega) (.int .i64 sm)
    replace kwZ := Below.setCell kwZ (p := ⟨(w.heap.size + 1), 3, none⟩) (by show _ ≤ (w.heap.size + 1); omega) (.int .i64 sm)
    replace b2Z : Bl ((((((wZ.setCell ⟨w.heap.size, 1, none⟩ (.slice B1_ n1 C1_)).setCell ⟨w.heap.size, 2, none⟩ (.slice B2_ n2 C2_)).setCell ⟨(w.heap.size + 1), 0, none⟩ (.int .i64 lv)).setCell ⟨(w.heap.size + 1), 1, none⟩ (.slice B1_ n1 C1_)).setCell ⟨(w.heap.size + 1), 2, none⟩ (.slice B2_ n2 C2_)).setCell ⟨(w.heap.size + 1), 3, none⟩ (.int .i64 sm)) (w.heap.size + 1) [.int .i64 lv, .slice B1_ n1 C1_, .slice B2_ n2 C2_, .int .i64 sm] := b2Z.set 3 (.int .i64 sm)
    have TT2 := hid ((TT.out.fr (fr_one (p := w.heap.size) (i := 1) (.slice B1_ n1 C1_)) (by omega)).fr (fr_one (p := w.heap.size) (i := 2) (.slice B2_ n2 C2_)) (by omega))
    replace TT2 := hid (TT2.out.fr (fr_one (p := w.heap.size + 1) (i := 0) (.int .i64 lv)) (by omega))
    replace TT2 := hid (TT2.out.fr (fr_one (p := w.heap.size + 1) (i := 1) (.slice B1_ n1 C1_)) (by omega))
    replace TT2 := hid (TT2.out.fr (fr_one (p := w.heap.size + 1) (i := 2) (.slice B2_ n2 C2_)) (by omega))
    replace TT2 := hid (TT2.out.fr (fr_one (p := w.heap.size + 1) (i := 3) (.int .i64 sm)) (by omega))
    have TT3 := hid (TT2.out.widen (lo' := w.heap.size) (hi' := ((((((wZ.setCell ⟨w.heap.size, 1, none⟩ (.slice B1_ n1 C1_)).setCell ⟨w.heap.size, 2, none⟩ (.slice B2_ n2 C2_)).setCell ⟨(w.heap.size + 1), 0, none⟩ (.int .i64 lv)).setCell ⟨(w.heap.size + 1), 1, none⟩ (.slice B1_ n1 C1_)).setCell ⟨(w.heap.size + 1), 2, none⟩ (.slice B2_ n2 C2_)).setCell ⟨(w.heap.size + 1), 3, none⟩ (.int .i64 sm)).heap.size) (by omega) (by simp [World.setCell]) (Nat.le_refl _))
    have HK := hid kwZ
    clear TT TT2 kwZ
    try clear hyA
    try clear hxB
    try clear m1 m2
    go_wp2_with fail
    clear ca3_0 ca3_1 ca3_2 ca3_3 ca4_0 fa4_0 ca4_1 fa4_1 ca4_2 fa4_2 ca4_3 fa4_3
    have ca0_0 : ((((((wZ.setCell ⟨w.heap.size, 1, none⟩ (.slice B1_ n1 C1_)).setCell ⟨w.heap.size, 2, none⟩ (.slice B2_ n2 C2_)).setCell ⟨(w.heap.size + 1), 0, none⟩ (.int .i64 lv)).setCell ⟨(w.heap.size + 1), 1, none⟩ (.slice B1_ n1 C1_)).setCell ⟨(w.heap.size + 1), 2, none⟩ (.slice B2_ n2 C2_)).setCell ⟨(w.heap.size + 1), 3, none⟩ (.int .i64 sm)).cell? ⟨(w.heap.size + 1), 0, none⟩ = some (.int .i64 lv) := (b2Z.2 0 _ rfl).1
    have ca0_1 : ((((((wZ.setCell ⟨w.heap.size, 1, none⟩ (.slice B1_ n1 C1_)).setCell ⟨w.heap.size, 2, none⟩ (.slice B2_ n2 C2_)).setCell ⟨(w.heap.size + 1), 0, none⟩ (.int .i64 lv)).setCell ⟨(w.heap.size + 1), 1, none⟩ (.slice B1_ n1 C1_)).setCell ⟨(w.heap.size + 1), 2, none⟩ (.slice B2_ n2 C2_)).setCell ⟨(w.heap.size + 1), 3, none⟩ (.int .i64 sm)).cell? ⟨(w.heap.size + 1), 1, none⟩ = some (.slice B1_ n1 C1_) := (b2Z.2 1 _ rfl).1
    have ca0_2 : ((((((wZ.setCell ⟨w.heap.size, 1, none⟩ (.slice B1_ n1 C1_)).setCell ⟨w.heap.size, 2, none⟩ (.slice B2_ n2 C2_)).setCell ⟨(w.heap.size + 1), 0, none⟩ (.int .i64 lv)).setCell ⟨(w.heap.size + 1), 1, none⟩ (.slice B1_ n1 C1_)).setCell ⟨(w.heap.size + 1), 2, none⟩ (.slice B2_ n2 C2_)).setCell ⟨(w.heap.size + 1), 3, none⟩ (.int .i64 sm)).cell? ⟨(w.heap.size + 1), 2, none⟩ = some (.slice B2_ n2 C2_) := (b2Z.2 2 _ rfl).1
    have ca0_3 : ((((((wZ.setCell ⟨w.heap.size, 1, none⟩ (.slice B1_ n1 C1_)).setCell ⟨w.heap.size, 2, none⟩ (.slice B2_ n2 C2_)).setCell ⟨(w.heap.size + 1), 0, none⟩ (.int .i64 lv)).setCell ⟨(w.heap.size + 1), 1, none⟩ (.slice B1_ n1 C1_)).setCell ⟨(w.heap.size + 1), 2, none⟩ (.slice B2_ n2 C2_)).setCell ⟨(w.heap.size + 1), 3, none⟩ (.int .i64 sm)).cell? ⟨(w.heap.size + 1), 3, none⟩ = some (.int .i64 sm) := (b2Z.2 3 _ rfl).1
    try simp only [Exit.inBlock, Exit.then]
    exact bodyPost_ret (v := .agg #[.int .i64 lv, .slice B1_ n1 C1_, .slice B2_ n2 C2_, .int .i64 sm]) (by simp [results, Tryz.results96, go_sem, ca0_0, ca0_1, ca0_2, ca0_3]) rfl ⟨_, _, _, _, rfl, TT3.out, HK.out⟩)
set_option maxRecDepth 100000 in
set_option maxHeartbeats 6400000 in
theorem nOwn_tw {A1 A2 : Option Addr} {n1 n2 c1 c2 l1 u1 l2 u2 : Nat} {lv sm : Int} {xs ys : List Int} {w : World} (h1 : Ints w l1 u1 A1 n1 xs) (h2 : Ints w l2 u2 A2 n2 ys) :
    Calls Tryz.prog 98 #[.agg #[.int .i64 lv, .slice A1 n1 c1, .slice A2 n2 c2, .int .i64 sm]] w (TwRes w lv sm n1 xs n2 ys) := by
  go_enter Tryz.func98, Tryz.ntmps98
  have kw := keeps_refl w
  replace kw := Keeps.trans kw (keeps_alloc w (.cells #[.int .i64 lv, .slice A1 n1 c1, .slice A2 n2 c2, .int .i64 sm] 120))
  have b1 : Bl (w.alloc (.cells #[.int .i64 lv, .slice A1 n1 c1, .slice A2 n2 c2, .int .i64 sm] 120)) w.heap.size [.int .i64 lv, .slice A1 n1 c1, .slice A2 n2 c2, .int .i64 sm] := Bl.new' (by simp) (by simp)
  replace b1 := b1.keeps (keeps_alloc (w.alloc (.cells #[.int .i64 lv, .slice A1 n1 c1, .slice A2 n2 c2, .int .i64 sm] 120)) (.cells #[.int .i64 0, .slice none 0 0, .slice none 0 0, .int .i64 0] 120))
  replace kw := Keeps.trans kw (keeps_alloc (w.alloc (.cells #[.int .i64 lv, .slice A1 n1 c1, .slice A2 n2 c2, .int .i64 sm] 120)) (.cells #[.int .i64 0, .slice none 0 0, .slice none 0 0, .int .i64 0] 120))
  have b2 : Bl ((w.alloc (.cells #[.int .i64 lv, .slice A1 n1 c1, .slice A2 n2 c2, .int .i64 sm] 120)).alloc (.cells #[.int .i64 0, .slice none 0 0, .slice none 0 0, .int .i64 0] 120)) (w.heap.size + 1) [.int .i64 0, .slice none 0 0, .slice none 0 0, .int .i64 0] := Bl.new' (by simp) (by simp)
  go_wp2_with fail
  obtain ⟨W, hX⟩ : ∃ u : World, u = ((w.alloc (.cells #[.int .i64 lv, .slice A1 n1 c1, .slice A2 n2 c2, .int .i64 sm] 120)).alloc (.cells #[.int .i64 0, .slice none 0 0, .slice none 0 0, .int .i64 0] 120)) := ⟨_, rfl⟩
  have szX0 := hid (show W.heap.size = w.heap.size + 1 + 1 by rw [hX]; simp)
  rw [← hX] at b1
  rw [← hX] at b2
  rw [← hX] at kw
  rw [← hX]
  clear hX
  have sz2 := kw.size
  have hxD := h1.keeps (kw.trans (keeps_d0 W))
  have hyD := h2.keeps (kw.trans (keeps_d0 W))
  have b1D := b1.keeps (keeps_d0 W)
  have b2D := b2.keeps (keeps_d0 W)
  have sW : w.heap.size + 2 ≤ W.drew.heap.size := by show _ ≤ W.heap.size; rw [szX0.out]; omega
  have kwD := kw.trans (keeps_d0 W)
  have z0D : W.drew.cell? ⟨w.heap.size, 0, none⟩ = some (.int .i64 lv) := (b1D.2 0 _ rfl).1
  have y0D : W.drew.frozen? ⟨w.heap.size, 0, none⟩ = false := (b1D.2 0 _ rfl).2
  have z1D : W.drew.cell? ⟨w.heap.size, 1, none⟩ = some (.slice A1 n1 c1) := (b1D.2 1 _ rfl).1
  have y1D : W.drew.frozen? ⟨w.heap.size, 1, none⟩ = false := (b1D.2 1 _ rfl).2
  have z2D : W.drew.cell? ⟨w.heap.size, 2, none⟩ = some (.slice A2 n2 c2) := (b1D.2 2 _ rfl).1
  have y2D : W.drew.frozen? ⟨w.heap.size, 2, none⟩ = false := (b1D.2 2 _ rfl).2
  have z3D : W.drew.cell? ⟨w.heap.size, 3, none⟩ = some (.int .i64 sm) := (b1D.2 3 _ rfl).1
  have y3D : W.drew.frozen? ⟨w.heap.size, 3, none⟩ = false := (b1D.2 3 _ rfl).2
  have zq0D : W.drew.cell? ⟨(w.heap.size + 1), 0, none⟩ = some (.int .i64 0) := (b2D.2 0 _ rfl).1
  have yq0D : W.drew.frozen? ⟨(w.heap.size + 1), 0, none⟩ = false := (b2D.2 0 _ rfl).2
  have zq1D : W.drew.cell? ⟨(w.heap.size + 1), 1, none⟩ = some (.slice none 0 0) := (b2D.2 1 _ rfl).1
  have yq1D : W.drew.frozen? ⟨(w.heap.size + 1), 1, none⟩ = false := (b2D.2 1 _ rfl).2
  have zq2D : W.drew.cell? ⟨(w.heap.size + 1), 2, none⟩ = some (.slice none 0 0) := (b2D.2 2 _ rfl).1
  have yq2D : W.drew.frozen? ⟨(w.heap.size + 1), 2, none⟩ = false := (b2D.2 2 _ rfl).2
  have zq3D : W.drew.cell? ⟨(w.heap.size + 1), 3, none⟩ = some (.int .i64 0) := (b2D.2 3 _ rfl).1
  have yq3D : W.drew.frozen? ⟨(w.heap.size + 1), 3, none⟩ = false := (b2D.2 3 _ rfl).2
  have kS := hid (show ∀ w', Keeps W w' → (w'.cell? ⟨w.heap.size, 0, none⟩ = some (.int .i64 lv) ∧ w'.cell? ⟨w.heap.size, 1, none⟩ = some (.slice A1 n1 c1) ∧ w'.cell? ⟨w.heap.size, 2, none⟩ = some (.slice A2 n2 c2) ∧ w'.cell? ⟨w.heap.size, 3, none⟩ = some (.int .i64 sm)) from fun w' k => ⟨((b1.keeps k).2 0 _ rfl).1, ((b1.keeps k).2 1 _ rfl).1, ((b1.keeps k).2 2 _ rfl).1, ((b1.keeps k).2 3 _ rfl).1⟩)
  have kT := hid (show ∀ w', Keeps W w' → ∀ v0 v1 v2 v3, (((((w'.setCell ⟨w.heap.size + 1, 0, none⟩ v0).setCell ⟨w.heap.size + 1, 1, none⟩ v1).setCell ⟨w.heap.size + 1, 2, none⟩ v2).setCell ⟨w.heap.size + 1, 3, none⟩ v3).cell? ⟨w.heap.size, 0, none⟩ = some (.int .i64 lv) ∧ ((((w'.setCell ⟨w.heap.size + 1, 0, none⟩ v0).setCell ⟨w.heap.size + 1, 1, none⟩ v1).setCell ⟨w.heap.size + 1, 2, none⟩ v2).setCell ⟨w.heap.size + 1, 3, none⟩ v3).cell? ⟨w.heap.size, 1, none⟩ = some (.slice A1 n1 c1) ∧ ((((w'.setCell ⟨w.heap.size + 1, 0, none⟩ v0).setCell ⟨w.heap.size + 1, 1, none⟩ v1).setCell ⟨w.heap.size + 1, 2, none⟩ v2).setCell ⟨w.heap.size + 1, 3, none⟩ v3).cell? ⟨w.heap.size, 2, none⟩ = some (.slice A2 n2 c2) ∧ ((((w'.setCell ⟨w.heap.size + 1, 0, none⟩ v0).setCell ⟨w.heap.size + 1, 1, none⟩ v1).setCell ⟨w.heap.size + 1, 2, none⟩ v2).setCell ⟨w.heap.size + 1, 3, none⟩ v3).cell? ⟨w.heap.size, 3, none⟩ = some (.int .i64 sm)) from fun w' k v0 v1 v2 v3 => ⟨((((((b1.keeps k).far (p := ⟨w.heap.size + 1, 0, none⟩) (by show _ ≠ _; simp) v0).far (p := ⟨w.heap.size + 1, 1, none⟩) (by show _ ≠ _; simp) v1).far (p := ⟨w.heap.size + 1, 2, none⟩) (by show _ ≠ _; simp) v2).far (p := ⟨w.heap.size + 1, 3, none⟩) (by show _ ≠ _; simp) v3).2 0 _ rfl).1, ((((((b1.keeps k).far (p := ⟨w.heap.size + 1, 0, none⟩) (by show _ ≠ _; simp) v0).far (p := ⟨w.heap.size + 1, 1, none⟩) (by show _ ≠ _; simp) v1).far (p := ⟨w.heap.size + 1, 2, none⟩) (by show _ ≠ _; simp) v2).far (p := ⟨w.heap.size + 1, 3, none⟩) (by show _ ≠ _; simp) v3).2 1 _ rfl).1, ((((((b1.keeps k).far (p := ⟨w.heap.size + 1, 0, none⟩) (by show _ ≠ _; simp) v0).far (p := ⟨w.heap.size + 1, 1, none⟩) (by show _ ≠ _; simp) v1).far (p := ⟨w.heap.size + 1, 2, none⟩) (by show _ ≠ _; simp) v2).far (p := ⟨w.heap.size + 1, 3, none⟩) (by show _ ≠ _; simp) v3).2 2 _ rfl).1, ((((((b1.keeps k).far (p := ⟨w.heap.size + 1, 0, none⟩) (by show _ ≠ _; simp) v0).far (p := ⟨w.heap.size + 1, 1, none⟩) (by show _ ≠ _; simp) v1).far (p := ⟨w.heap.size + 1, 2, none⟩) (by show _ ≠ _; simp) v2).far (p := ⟨w.heap.size + 1, 3, none⟩) (by show _ ≠ _; simp) v3).2 3 _ rfl).1⟩)
  have sW2 : w.heap.size + 2 ≤ W.heap.size := sW
  have kW := keeps_d0 W
  clear z0D y0D zq0D yq0D z1D y1D zq1D yq1D z2D y2D zq2D yq2D z3D y3D zq3D yq3D
  go_region_held3 (fun w' => w'.cell? ⟨w.heap.size, 0, none⟩ = some (.int .i64 lv) ∧ w'.cell? ⟨w.heap.size, 1, none⟩ = some (.slice A1 n1 c1) ∧ w'.cell? ⟨w.heap.size, 2, none⟩ = some (.slice A2 n2 c2) ∧ w'.cell? ⟨w.heap.size, 3, none⟩ = some (.int .i64 sm)) (first | with_reducible exact kS.out _ (keeps_d0 _) | with_reducible exact kS.out _ kW | with_reducible exact kT.out _ kW _ _ _ _ | go_keep)
    ((first | (have q9 := kA; (go_at_call 72; refine (l1Own_cp (c := c2) (h2.keeps (Keeps.trans kw kW))).mono ?_; rintro e wZ ⟨B2_, C2_, rfl, m2, kZ⟩; have TT := hid (TwM.of_two (B := w.heap.size + 2) m1 kZ m2 (by omega) kA.size); replace kW : Keeps W wZ := kW.trans kZ; have b2Z := b2.keeps kW; have zq0wZ : wZ.cell? ⟨(w.heap.size + 1), 0, none⟩ = some (.int .i64 0) := (b2Z.2 0 _ rfl).1; have yq0wZ : wZ.frozen? ⟨(w.heap.size + 1), 0, none⟩ = false := (b2Z.2 0 _ rfl).2; have zq1wZ : wZ.cell? ⟨(w.heap.size + 1), 1, none⟩ = some (.slice none 0 0) := (b2Z.2 1 _ rfl).1; have yq1wZ : wZ.frozen? ⟨(w.heap.size + 1), 1, none⟩ = false := (b2Z.2 1 _ rfl).2; have zq2wZ : wZ.cell? ⟨(w.heap.size + 1), 2, none⟩ = some (.slice none 0 0) := (b2Z.2 2 _ rfl).1; have yq2wZ : wZ.frozen? ⟨(w.heap.size + 1), 2, none⟩ = false := (b2Z.2 2 _ rfl).2; have zq3wZ : wZ.cell? ⟨(w.heap.size + 1), 3, none⟩ = some (.int .i64 0) := (b2Z.2 3 _ rfl).1; have yq3wZ : wZ.frozen? ⟨(w.heap.size + 1), 3, none⟩ = false := (b2Z.2 3 _ rfl).2)) | (go_at_call 72; refine (l1Own_cp (c := c1) (h1.keeps (Keeps.trans kw kW))).mono ?_; rintro e wA ⟨B1_, C1_, rfl, m1, kA⟩; replace kW : Keeps W wA := kW.trans kA)))
  have kwZ := Keeps.trans kw kW
  have sZ := kW.size
  all_goals (
    replace kwZ := Below.setCell kwZ (p := ⟨(w.heap.size + 1), 0, none⟩) (by show _ ≤ (w.heap.size + 1); omega) (.int .i64 lv)
    replace b2Z : Bl (wZ.setCell ⟨(w.heap.size + 1), 0, none⟩ (.int .i64 lv)) (w.heap.size + 1) [.int .i64 lv, .slice none 0 0, .slice none 0 0, .int .i64 0] := b2Z.set 0 (.int .i64 lv)
    replace kwZ := Below.setCell kwZ (p := ⟨(w.heap.size + 1), 1, none⟩) (by show _ ≤ (w.heap.size + 1); omega) (.slice B1_ n1 C1_)
    replace b2Z : Bl ((wZ.setCell ⟨(w.heap.size + 1), 0, none⟩ (.int .i64 lv)).setCell ⟨(w.heap.size + 1), 1, none⟩ (.slice B1_ n1 C1_)) (w.heap.size + 1) [.int .i64 lv, .slice B1_ n1 C1_, .slice none 0 0, .int .i64 0] := b2Z.set 1 (.slice B1_ n1 C1_)
    replace kwZ := Below.setCell kwZ (p := ⟨(w.heap.size + 1), 2, none⟩) (by show _ ≤ (w.heap.size + 1); omega) (.slice B2_ n2 C2_)
    replace b2Z : Bl (((wZ.setCell ⟨(w.heap.size + 1), 0, none⟩ (.int .i64 lv)).setCell ⟨(w.heap.size + 1), 1, none⟩ (.slice B1_ n1 C1_)).setCell ⟨(w.heap.size + 1), 2, none⟩ (.slice B2_ n2 C2_)) (w.heap.size + 1) [.int .i64 lv, .slice B1_ n1 C1_, .slice B2_ n2 C2_, .int .i64 0] := b2Z.set 2 (.slice B2_ n2 C2_)
    replace kwZ := Below.setCell kwZ (p := ⟨(w.heap.size + 1), 3, none⟩) (by show _ ≤ (w.heap.size + 1); omega) (.int .i64 sm)
    replace b2Z : Bl ((((wZ.setCell ⟨(w.heap.size + 1), 0, none⟩ (.int .i64 lv)).setCell ⟨(w.heap.size + 1), 1, none⟩ (.slice B1_ n1 C1_)).setCell ⟨(w.heap.size + 1), 2, none⟩ (.slice B2_ n2 C2_)).setCell ⟨(w.heap.size + 1), 3, none⟩ (.int .i64 sm)) (w.heap.size + 1) [.int .i64 lv, .slice B1_ n1 C1_, .slice B2_ n2 C2_, .int .i64 sm] := b2Z.set 3 (.int .i64 sm)
    have TT2 := hid TT.out
    replace TT2 := hid (TT2.out.fr (fr_one (p := w.heap.size + 1) (i := 0) (.int .i64 lv)) (by omega))
    replace TT2 := hid (TT2.out.fr (fr_one (p := w.heap.size + 1) (i := 1) (.slice B1_ n1 C1_)) (by omega))
    replace TT2 := hid (TT2.out.fr (fr_one (p := w.heap.size + 1) (i := 2) (.slice B2_ n2 C2_)) (by omega))
    replace TT2 := hid (TT2.out.fr (fr_one (p := w.heap.size + 1) (i := 3) (.int .i64 sm)) (by omega))
    have TT3 := hid (TT2.out.widen (lo' := w.heap.size) (hi' := ((((wZ.setCell ⟨(w.heap.size + 1), 0, none⟩ (.int .i64 lv)).setCell ⟨(w.heap.size + 1), 1, none⟩ (.slice B1_ n1 C1_)).setCell ⟨(w.heap.size + 1), 2, none⟩ (.slice B2_ n2 C2_)).setCell ⟨(w.heap.size + 1), 3, none⟩ (.int .i64 sm)).heap.size) (by omega) (by simp [World.setCell]) (Nat.le_refl _))
    have HK := hid kwZ
    clear TT TT2 kwZ
    try clear hyA
    try clear hxB
    try clear m1 m2
    go_wp2_with fail
    have ca0_0 : ((((wZ.setCell ⟨(w.heap.size + 1), 0, none⟩ (.int .i64 lv)).setCell ⟨(w.heap.size + 1), 1, none⟩ (.slice B1_ n1 C1_)).setCell ⟨(w.heap.size + 1), 2, none⟩ (.slice B2_ n2 C2_)).setCell ⟨(w.heap.size + 1), 3, none⟩ (.int .i64 sm)).cell? ⟨(w.heap.size + 1), 0, none⟩ = some (.int .i64 lv) := (b2Z.2 0 _ rfl).1
    have ca0_1 : ((((wZ.setCell ⟨(w.heap.size + 1), 0, none⟩ (.int .i64 lv)).setCell ⟨(w.heap.size + 1), 1, none⟩ (.slice B1_ n1 C1_)).setCell ⟨(w.heap.size + 1), 2, none⟩ (.slice B2_ n2 C2_)).setCell ⟨(w.heap.size + 1), 3, none⟩ (.int .i64 sm)).cell? ⟨(w.heap.size + 1), 1, none⟩ = some (.slice B1_ n1 C1_) := (b2Z.2 1 _ rfl).1
    have ca0_2 : ((((wZ.setCell ⟨(w.heap.size + 1), 0, none⟩ (.int .i64 lv)).setCell ⟨(w.heap.size + 1), 1, none⟩ (.slice B1_ n1 C1_)).setCell ⟨(w.heap.size + 1), 2, none⟩ (.slice B2_ n2 C2_)).setCell ⟨(w.heap.size + 1), 3, none⟩ (.int .i64 sm)).cell? ⟨(w.heap.size + 1), 2, none⟩ = some (.slice B2_ n2 C2_) := (b2Z.2 2 _ rfl).1
    have ca0_3 : ((((wZ.setCell ⟨(w.heap.size + 1), 0, none⟩ (.int .i64 lv)).setCell ⟨(w.heap.size + 1), 1, none⟩ (.slice B1_ n1 C1_)).setCell ⟨(w.heap.size + 1), 2, none⟩ (.slice B2_ n2 C2_)).setCell ⟨(w.heap.size + 1), 3, none⟩ (.int .i64 sm)).cell? ⟨(w.heap.size + 1), 3, none⟩ = some (.int .i64 sm) := (b2Z.2 3 _ rfl).1
    try simp only [Exit.inBlock, Exit.then]
    exact bodyPost_ret (v := .agg #[.int .i64 lv, .slice B1_ n1 C1_, .slice B2_ n2 C2_, .int .i64 sm]) (by simp [results, Tryz.results98, go_sem, ca0_0, ca0_1, ca0_2, ca0_3]) rfl ⟨_, _, _, _, rfl, TT3.out, HK.out⟩)
end Go.Proofs.YtohjkpopbmmliaaGreat
namespace Go.Proofs.YtohjkpopbmmliaaGreat
open Go.ChangeShapes Go.WideShapes Go.ChangeAt Go.RowKit Go.Deep
set_option linter.unusedVariables false
set_option linter.unusedSimpArgs false
abbrev PP := TT × List Int
def p0 : PP := (t0, [])
def dP (p : PP) : List D := [.i p.1.1, .sl p.1.2.1.length (p.1.2.1.map D.i), .sl p.1.2.2.1.length (p.1.2.2.1.map D.i), .i p.1.2.2.2, .sl p.2.length (p.2.map D.i)]
def smP (p : PP) : Prop := smT p.1 ∧ p.2.length ≤ 67108864
structure Pubs (ex un : Bool) (w : World) (lo hi : Nat) (A : Option Addr) (n : Nat) (l : List PP) : Prop where
  r : RgS ex un w lo hi A n (l.flatMap dP)
  len : l.length = n
  le : n ≤ 67108864
  sm : ∀ j, smP (l.getD j p0)
section
variable {ex un : Bool} {w w' : World} {lo hi n : Nat} {A : Option Addr} {l : List PP}
end
/-- Sizes, as the laws count them. -/
def szPP (p : PP) : Nat := p.1.2.1.length + p.1.2.2.1.length + p.2.length
/-- Published tables that came in. -/
structure PubsArg (w : World) (A : Option Addr) (n : Nat) (l : List PP) : Prop where
  r : RgS true false w 0 w.heap.size A n (l.flatMap dP)
  len : l.length = n
  le : n ≤ maxLen
  sm : ∀ j, ((l.getD j p0).1.2.1.length ≤ maxLen ∧ (l.getD j p0).1.2.2.1.length ≤ maxLen) ∧ (l.getD j p0).2.length ≤ maxLen
section
variable {H : Type} {enc : TypeId × Value → H} {w : World} {held : Bool}
end
end Go.Proofs.YtohjkpopbmmliaaGreat
