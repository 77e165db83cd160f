/- The texts of histories: walks. -/
import Derived.Test.YtlkjhkkfdmjfcaaGreatDoorTxl
import Derived.Deep.RegionHeld3
namespace Go.Proofs.YtlkjhkkfdmjfcaaGreatDoor
open Go.RowKit Go.Sort
set_option linter.unusedVariables false
set_option linter.unusedSimpArgs false
/-- What was written is there still, where the world has gone on above. -/
theorem isb_keeps {T e B b : Nat} {vs : List Value} {w w' : World} (h : Lib.IsBuilderF T e B b vs w) (k : Keeps w w') : Lib.IsBuilderF T e B b vs w' := by
  have key : ∀ p, Lib.BuilderAtF T e B b p vs w → Lib.BuilderAtF T e B b p vs w' := fun p hh => by
    obtain ⟨hB, v, hb, ho, hne⟩ := hh
    have lt : ∀ g o, w.heap[g]? = some o → w'.heap[g]? = some o := fun g o hg => by
      rw [k.block g (Array.getElem?_eq_some_iff.1 hg).1]; exact hg
    refine ⟨hB, v, lt _ _ hb, ⟨ho.1, ?_⟩, hne⟩
    rcases ho.2 with h3 | ⟨g, cap, cur, fz, hv, hb2, hg, rest⟩
    · exact .inl h3
    · exact .inr ⟨g, cap, cur, fz, hv, hb2, lt _ _ hg, rest⟩
  rcases h with h | h
  · exact .inl (key _ h)
  · exact .inr (key _ h)
theorem strCells_bs (d : List UInt8) : Lib.strCells (bs d) = Lib.byteCells d := by simp [Lib.strCells, Lib.byteCells, bs]
theorem byteCells_app (a b : List UInt8) : Lib.byteCells a ++ Lib.byteCells b = Lib.byteCells (a ++ b) := by simp [Lib.byteCells]
/-- A text of a release, piece by piece. -/
theorem relT_bs {l : List VV} {v a b c d : Int} {pl : List TT} {m : Nat} (hm : pl.length = m) :
    ((((((({ data := #[118, 101, 114, 115, 105, 111, 110, 32] } : ByteArray) ++ bs (Lib.itoa v)) ++ ({ data := #[32] } : ByteArray)) ++ bs (fracT a b)) ++ ({ data := #[32] } : ByteArray)) ++ bs (fracT c d)) ++ ({ data := #[10] } : ByteArray)) ++ bs (planTo l pl m) = bs (relT l (v, pl, a, b, c, d)) := by
  subst hm
  rw [show ({ data := #[118, 101, 114, 115, 105, 111, 110, 32] } : ByteArray) = bs [118, 101, 114, 115, 105, 111, 110, 32] from rfl, show ({ data := #[32] } : ByteArray) = bs [32] from rfl, show ({ data := #[10] } : ByteArray) = bs [10] from rfl]
  simp only [bs_app, relT, List.append_assoc]

theorem obj_cell {w : World} {g i : Nat} {vs : Array Value} {T : TypeId} {fz : Nat × Nat} {v : Value} (h : w.heap[g]? = some (.cells vs T fz)) (hv : vs[i]? = some v) : w.cell? ⟨g, i, none⟩ = some v := by
  simp [World.cell?, h, hv]
set_option maxRecDepth 100000 in
set_option maxHeartbeats 12800000 in
theorem specHistoryText_any {A A' R : Option Addr} {lo hi a c0 lo3 hi3 n q cq cr : Nat} {un : Bool} {ps : List Int} {l : List VV} {rs : List RL} {w : World} (h : Ints w lo hi A a ps) (h' : Sch w A' q cq l) (hr : Rels true un w lo3 hi3 R n rs) :
    Calls Tryz.prog 8 #[.agg #[.slice A a c0], .slice A' q cq, .slice R n cr] w fun e w' => e = .returned (.tuple #[.string (htQ ps l rs).1, .bool (htQ ps l rs).2]) ∧ Keeps w w' := by
  have hn := hr.le
  have HRL := hid hr.len
  obtain ⟨z0, z1, HZ⟩ : ∃ z0 z1, Hid (htQ ps l rs = (z0, z1)) := ⟨_, _, rfl⟩
  rw [HZ.out]
  obtain ⟨lo9, hi9, hs⟩ := h'.v
  go_enter Tryz.func8, Tryz.ntmps8
  have kw := keeps_refl w
  replace kw := Keeps.trans kw (keeps_alloc w (.cells #[.slice A a c0] 32))
  have b3 : B1 (w.alloc (.cells #[.slice A a c0] 32)) w.heap.size (.slice A a c0) := B1.new' (by simp)
  obtain ⟨ca1, fa1⟩ := id b3
  go_wp2_with fail
  clear ca1 fa1
  obtain ⟨pH1, H1⟩ : ∃ pB, Hid (hisB ps l rs = pB) := ⟨_, rfl⟩
  refine (rlHistory_any (h.keeps kw) (h'.keeps kw) (hr.keeps kw)).mono ?_
  rintro e w2 ⟨rfl, k2⟩
  rw [H1.out]
  replace b3 := b3.keeps k2
  replace kw := Keeps.trans kw k2
  have lt3 := b3.lt
  have sz4 := kw.size
  clear k2
  cases pH1
  · have HX := hid (HZ.out.symm.trans (htQ_no H1.out))
    obtain ⟨ca5, fa5⟩ := id b3
    go_wp2_with fail
    clear ca5 fa5
    go_ret2
    obtain ⟨e0, e1⟩ : z0 = bs [] ∧ z1 = false := by have := HX.out; injection this with a b; exact ⟨a, b⟩
    subst e0 e1
    exact ⟨rfl, kw⟩
  · skip
    have hp := hisB_parts H1.out
    have HG := hid hp.1
    have HS := hid hp.2.1
    have hn12 := hp.2.2.1
    rw [HRL.out] at hn12
    have HRB := hid (fun k (hk : k < n) => hp.2.2.2 k (by rw [HRL.out]; exact hk))
    obtain ⟨e0, e1⟩ : z0 = bs (hisT l rs rs.length) ∧ z1 = true := by have := HZ.out.symm.trans (htQ_yes H1.out); injection this with a b; exact ⟨a, b⟩
    subst e1
    have HE0 := hid e0
    rw [HRL.out] at HE0
    clear hp e0 HZ
    go_wp2_with fail
    go_loopw [8, 20] (fun sv i wr => ∃ (k : Nat) (s : ByteArray), sv = .string s ∧ i = .int .i64 k ∧ k ≤ n ∧ Hid (s = bs (hisT l rs k)) ∧ B1 wr w.heap.size (.slice A a c0) ∧ Keeps w wr) (fun _ i _ => n - (intOf i).toNat)
    case atStart => exact ⟨0, _, rfl, rfl, Nat.zero_le _, hid rfl, b3, kw⟩
    clear b3 kw
    case round =>
      obtain ⟨k, s, rfl, rfl, hk, HE, b3, kw⟩ := hrel
      by_cases hlt : k < n
      rotate_left
      · obtain rfl : n = k := by omega
        go_wp2
        go_ret2
        exact ⟨ret_sb (HE.out.trans HE0.out.symm), kw⟩
      obtain ⟨b, off, v, P, np, cp, x1, x2, x3, x4, pl, rfl, _, _, hc0, hc1, hc2, hc3, hc4, hc5, hpl, hx⟩ := (hr.keeps kw).at_ hlt
      have hrb := (HRB.out k hlt).2
      rw [← hx.out] at hrb
      have hi1 : (k : Int) < (n : Int) := by omega
      have HPL := hid hpl.len
      have hrl := relT_len HG.out HS.out hrb
      have hsz := hisT_len H1.out k (by rw [HRL.out]; omega)
      have HRR := hid (relT_bs (l := l) (v := v) (a := x1) (b := x2) (c := x3) (d := x4) HPL.out)
      have hrb2 := hrb
      unfold relB at hrb2
      simp only [Bool.and_eq_true] at hrb2
      have hvb := inB_true.1 hrb2.1.1
      have HPB := hid (show plB ps l pl = true from hrb2.1.2)
      have hls := hrb2.2
      unfold lossB at hls
      simp only [Bool.and_eq_true] at hls
      have HF1 := hid (show fracB x1 x2 = true from hls.1.1)
      have HF2 := hid (show fracB x3 x4 = true from hls.1.2)
      have hvb2 : 1 ≤ v ∧ v ≤ 999 := hvb
      have HXR := hid hx.out
      have hl1 := Lib.itoa_length_le v (by omega) (by omega)
      rw [← bs_size] at hl1
      have hl2 : (bs (fracT x1 x2)).size ≤ 43 := by rw [bs_size]; have := frac_n HF1.out; exact fracT_len (by omega) (by omega)
      have hl3 : (bs (fracT x3 x4)).size ≤ 43 := by rw [bs_size]; have := frac_n HF2.out; exact fracT_len (by omega) (by omega)
      have hl4 := planTo_len HG.out HS.out HPB.out np (by rw [HPL.out]; exact Nat.le_refl _)
      rw [← bs_size] at hl4
      have hnp : np ≤ 20 := by have := (plB_at HPB.out).1; rw [HPL.out] at this; exact this
      clear hrb hrb2 hls hvb hx
      rw [← bs_size, ← HE.out] at hsz
      obtain ⟨vn, rfl⟩ : ∃ m : Nat, v = m := ⟨v.toNat, by omega⟩
      have HC1 := hid (fun (W0 W : World) (_ : Keeps W0 W) => l1Num_any vn (by omega) W)
      rw [itoa_nat] at hl1 HRR
      have HC2 := hid (fun (W0 W : World) (_ : Keeps W0 W) => fText_any (w := W) HF1.out)
      have HC3 := hid (fun (W0 W : World) (_ : Keeps W0 W) => fText_any (w := W) HF2.out)
      obtain ⟨sV, hsV⟩ : ∃ z, bs (Lib.decDigits vn) = z := ⟨_, rfl⟩
      obtain ⟨sA, hsA⟩ : ∃ z, bs (fracT x1 x2) = z := ⟨_, rfl⟩
      obtain ⟨sC, hsC⟩ : ∃ z, bs (fracT x3 x4) = z := ⟨_, rfl⟩
      obtain ⟨sP, hsP⟩ : ∃ z, bs (planTo l pl np) = z := ⟨_, rfl⟩
      rw [hsV] at hl1 HC1 HRR
      rw [hsA] at hl2 HC2 HRR
      rw [hsC] at hl3 HC3 HRR
      rw [hsP] at hl4 HRR
      have HSP := hid hsP
      clear hsV hsA hsC hsP
      have hz0 : ¬ (9223372036854775807 < 8 + sV.size) := by omega
      have hz1 : ¬ (9223372036854775807 < 8 + sV.size + 1) := by omega
      have hz2 : ¬ (9223372036854775807 < 8 + sV.size + 1 + sA.size) := by omega
      have hz3 : ¬ (9223372036854775807 < 8 + sV.size + 1 + sA.size + 1) := by omega
      have hz4 : ¬ (9223372036854775807 < 8 + sV.size + 1 + sA.size + 1 + sC.size) := by omega
      have hz5 : ¬ (9223372036854775807 < 8 + sV.size + 1 + sA.size + 1 + sC.size + 1) := by omega
      have hz6 : ¬ (9223372036854775807 < 8 + sV.size + 1 + sA.size + 1 + sC.size + 1 + sP.size) := by omega
      have hz7 : ¬ (9223372036854775807 < s.size + (8 + sV.size + 1 + sA.size + 1 + sC.size + 1 + sP.size)) := by omega
      have HN := hid (show s ++ (((((((({ data := #[118, 101, 114, 115, 105, 111, 110, 32] } : ByteArray) ++ sV) ++ ({ data := #[32] } : ByteArray)) ++ sA) ++ ({ data := #[32] } : ByteArray)) ++ sC) ++ ({ data := #[10] } : ByteArray)) ++ sP) = bs (hisT l rs (k + 1)) by
        rw [HRR.out, HE.out, bs_app, HXR.out]; rfl)
      have lt8 := b3.lt
      replace b3 := b3.keeps (keeps_alloc wr (.cells #[.int .i64 (vn : Int), .slice P np cp, .int .i64 x1, .int .i64 x2, .int .i64 x3, .int .i64 x4] 50))
      replace hpl := hpl.keeps (keeps_alloc wr (.cells #[.int .i64 (vn : Int), .slice P np cp, .int .i64 x1, .int .i64 x2, .int .i64 x3, .int .i64 x4] 50))
      replace kw := Keeps.trans kw (keeps_alloc wr (.cells #[.int .i64 (vn : Int), .slice P np cp, .int .i64 x1, .int .i64 x2, .int .i64 x3, .int .i64 x4] 50))
      have b10 : Bl (wr.alloc (.cells #[.int .i64 (vn : Int), .slice P np cp, .int .i64 x1, .int .i64 x2, .int .i64 x3, .int .i64 x4] 50)) wr.heap.size [.int .i64 (vn : Int), .slice P np cp, .int .i64 x1, .int .i64 x2, .int .i64 x3, .int .i64 x4] := Bl.new' (by simp) (by simp)
      obtain ⟨ca5, fa5⟩ := id b3
      have ca6_0 : (wr.alloc (.cells #[.int .i64 (vn : Int), .slice P np cp, .int .i64 x1, .int .i64 x2, .int .i64 x3, .int .i64 x4] 50)).cell? ⟨wr.heap.size, 0, none⟩ = some (.int .i64 (vn : Int)) := (b10.2 0 _ rfl).1
      have fa6_0 : (wr.alloc (.cells #[.int .i64 (vn : Int), .slice P np cp, .int .i64 x1, .int .i64 x2, .int .i64 x3, .int .i64 x4] 50)).frozen? ⟨wr.heap.size, 0, none⟩ = false := (b10.2 0 _ rfl).2
      have ca6_1 : (wr.alloc (.cells #[.int .i64 (vn : Int), .slice P np cp, .int .i64 x1, .int .i64 x2, .int .i64 x3, .int .i64 x4] 50)).cell? ⟨wr.heap.size, 1, none⟩ = some (.slice P np cp) := (b10.2 1 _ rfl).1
      have fa6_1 : (wr.alloc (.cells #[.int .i64 (vn : Int), .slice P np cp, .int .i64 x1, .int .i64 x2, .int .i64 x3, .int .i64 x4] 50)).frozen? ⟨wr.heap.size, 1, none⟩ = false := (b10.2 1 _ rfl).2
      have ca6_2 : (wr.alloc (.cells #[.int .i64 (vn : Int), .slice P np cp, .int .i64 x1, .int .i64 x2, .int .i64 x3, .int .i64 x4] 50)).cell? ⟨wr.heap.size, 2, none⟩ = some (.int .i64 x1) := (b10.2 2 _ rfl).1
      have fa6_2 : (wr.alloc (.cells #[.int .i64 (vn : Int), .slice P np cp, .int .i64 x1, .int .i64 x2, .int .i64 x3, .int .i64 x4] 50)).frozen? ⟨wr.heap.size, 2, none⟩ = false := (b10.2 2 _ rfl).2
      have ca6_3 : (wr.alloc (.cells #[.int .i64 (vn : Int), .slice P np cp, .int .i64 x1, .int .i64 x2, .int .i64 x3, .int .i64 x4] 50)).cell? ⟨wr.heap.size, 3, none⟩ = some (.int .i64 x2) := (b10.2 3 _ rfl).1
      have fa6_3 : (wr.alloc (.cells #[.int .i64 (vn : Int), .slice P np cp, .int .i64 x1, .int .i64 x2, .int .i64 x3, .int .i64 x4] 50)).frozen? ⟨wr.heap.size, 3, none⟩ = false := (b10.2 3 _ rfl).2
      have ca6_4 : (wr.alloc (.cells #[.int .i64 (vn : Int), .slice P np cp, .int .i64 x1, .int .i64 x2, .int .i64 x3, .int .i64 x4] 50)).cell? ⟨wr.heap.size, 4, none⟩ = some (.int .i64 x3) := (b10.2 4 _ rfl).1
      have fa6_4 : (wr.alloc (.cells #[.int .i64 (vn : Int), .slice P np cp, .int .i64 x1, .int .i64 x2, .int .i64 x3, .int .i64 x4] 50)).frozen? ⟨wr.heap.size, 4, none⟩ = false := (b10.2 4 _ rfl).2
      have ca6_5 : (wr.alloc (.cells #[.int .i64 (vn : Int), .slice P np cp, .int .i64 x1, .int .i64 x2, .int .i64 x3, .int .i64 x4] 50)).cell? ⟨wr.heap.size, 5, none⟩ = some (.int .i64 x4) := (b10.2 5 _ rfl).1
      have fa6_5 : (wr.alloc (.cells #[.int .i64 (vn : Int), .slice P np cp, .int .i64 x1, .int .i64 x2, .int .i64 x3, .int .i64 x4] 50)).frozen? ⟨wr.heap.size, 5, none⟩ = false := (b10.2 5 _ rfl).2
      go_wp2_with fail
      clear ca5 fa5 ca6_0 fa6_0 ca6_1 fa6_1 ca6_2 fa6_2 ca6_3 fa6_3 ca6_4 fa6_4 ca6_5 fa6_5
      refine (PlanText_yes (h.keeps kw) (h'.keeps kw) hpl HG.out HS.out HPB.out).mono ?_
      rintro e w7 ⟨rfl, k7⟩
      rw [HSP.out]
      replace b3 := b3.keeps k7
      replace b10 := b10.keeps k7
      replace hpl := hpl.keeps k7
      replace kw := Keeps.trans kw k7
      have lt8 := b10.lt
      have sz9 := kw.size
      clear k7
      clear hc0 hc1 hc2 hc3 hc4 hc5 hl1 hl2 hl3 hl4 hrl hsz hpl
      have q0_b10 : w7.cell? ⟨wr.heap.size, 0, none⟩ = some (.int .i64 (vn : Int)) := (b10.2 0 _ rfl).1
      have rq0_b10 := fun d os => cell_regrown q0_b10 d os
      have q1_b10 : w7.cell? ⟨wr.heap.size, 1, none⟩ = some (.slice P np cp) := (b10.2 1 _ rfl).1
      have rq1_b10 := fun d os => cell_regrown q1_b10 d os
      have q2_b10 : w7.cell? ⟨wr.heap.size, 2, none⟩ = some (.int .i64 x1) := (b10.2 2 _ rfl).1
      have rq2_b10 := fun d os => cell_regrown q2_b10 d os
      have q3_b10 : w7.cell? ⟨wr.heap.size, 3, none⟩ = some (.int .i64 x2) := (b10.2 3 _ rfl).1
      have rq3_b10 := fun d os => cell_regrown q3_b10 d os
      have q4_b10 : w7.cell? ⟨wr.heap.size, 4, none⟩ = some (.int .i64 x3) := (b10.2 4 _ rfl).1
      have rq4_b10 := fun d os => cell_regrown q4_b10 d os
      have q5_b10 : w7.cell? ⟨wr.heap.size, 5, none⟩ = some (.int .i64 x4) := (b10.2 5 _ rfl).1
      have rq5_b10 := fun d os => cell_regrown q5_b10 d os
      have cQ0 := hid (fun (dQ : Nat) (oQ : Array Obj) => HC1.out _ _ (below_regrown w7 dQ oQ))
      have cQ1 := hid (fun (dQ : Nat) (oQ : Array Obj) => HC2.out _ _ (below_regrown w7 dQ oQ))
      have cQ2 := hid (fun (dQ : Nat) (oQ : Array Obj) => HC3.out _ _ (below_regrown w7 dQ oQ))
      go_wp2_with fail
      refine wp_region_quiet_below (by kernel_rfl) (by kernel_rfl) ?_
      iterate 22 (go_big_quiet_step ((first | with_reducible exact Calls.regrown_of (cQ0.out _ _) | with_reducible exact Calls.regrown_of (cQ1.out _ _) | with_reducible exact Calls.regrown_of (cQ2.out _ _))))
      refine wpQuiet_nil ?_
      intro _ hw'
      obtain ⟨⟨dq, osq⟩, hw''⟩ := hw'
      subst hw''
      clear q0_b10 rq0_b10 q1_b10 rq1_b10 q2_b10 rq2_b10 q3_b10 rq3_b10 q4_b10 rq4_b10 q5_b10 rq5_b10 cQ0 cQ1 cQ2
      have kQ := below_regrown w7 dq osq
      obtain ⟨wQ10, hwQ⟩ : ∃ u, u = grow (redrawn w7 dq) osq := ⟨_, rfl⟩
      rw [← hwQ] at kQ
      rw [← hwQ]
      clear hwQ
      replace b3 := b3.keeps kQ
      replace b10 := b10.keeps kQ
      replace kw := Keeps.trans kw kQ
      have lt11 := b10.lt
      have sz12 := kw.size
      clear kQ
      clear HC1 HC2 HC3 hz0 hz1 hz2 hz3 hz4 hz5 hz6 hz7 b10
      go_wp2_with fail
      go_roundw
      case rel => exact ⟨k + 1, _, rfl, by go_num, hlt, HN, b3, kw⟩
      case measure => simp [intOf]; omega
set_option maxRecDepth 100000 in
set_option maxHeartbeats 12800000 in
theorem implHistoryText_any {A A' R : Option Addr} {lo hi a c0 lo3 hi3 n q cq cr : Nat} {un : Bool} {ps : List Int} {l : List VV} {rs : List RL} {w : World} (h : Ints w lo hi A a ps) (h' : Sch w A' q cq l) (hr : Rels true un w lo3 hi3 R n rs) (ht : Tab10 w) :
    Calls Tryz.prog 12 #[.agg #[.slice A a c0], .slice A' q cq, .slice R n cr] w fun e w' => e = .returned (.tuple #[.string (htQ ps l rs).1, .bool (htQ ps l rs).2]) ∧ Keeps w w' := by
  have hn := hr.le
  have HRL := hid hr.len
  obtain ⟨z0, z1, HZ⟩ : ∃ z0 z1, Hid (htQ ps l rs = (z0, z1)) := ⟨_, _, rfl⟩
  rw [HZ.out]
  obtain ⟨lo9, hi9, hs⟩ := h'.v
  go_enter Tryz.func12, Tryz.ntmps12
  have kw := keeps_refl w
  replace kw := Keeps.trans kw (keeps_alloc w (.cells #[.slice A a c0] 32))
  have b3 : B1 (w.alloc (.cells #[.slice A a c0] 32)) w.heap.size (.slice A a c0) := B1.new' (by simp)
  obtain ⟨ca1, fa1⟩ := id b3
  go_wp2_with fail
  clear ca1 fa1
  obtain ⟨pH1, H1⟩ : ∃ pB, Hid (hisB ps l rs = pB) := ⟨_, rfl⟩
  refine (isHistory_any (h.keeps kw) (h'.keeps kw) (hr.keeps kw)).mono ?_
  rintro e w2 ⟨rfl, k2⟩
  rw [H1.out]
  replace b3 := b3.keeps k2
  replace kw := Keeps.trans kw k2
  have lt3 := b3.lt
  have sz4 := kw.size
  clear k2
  cases pH1
  · have HX := hid (HZ.out.symm.trans (htQ_no H1.out))
    obtain ⟨ca5, fa5⟩ := id b3
    go_wp2_with fail
    clear ca5 fa5
    go_ret2
    obtain ⟨e0, e1⟩ : z0 = bs [] ∧ z1 = false := by have := HX.out; injection this with a b; exact ⟨a, b⟩
    subst e0 e1
    exact ⟨rfl, kw⟩
  · skip
    have hp := hisB_parts H1.out
    have HG := hid hp.1
    have HS := hid hp.2.1
    have hn12 := hp.2.2.1
    rw [HRL.out] at hn12
    have HRB := hid (fun k (hk : k < n) => hp.2.2.2 k (by rw [HRL.out]; exact hk))
    obtain ⟨e0, e1⟩ : z0 = bs (hisT l rs rs.length) ∧ z1 = true := by have := HZ.out.symm.trans (htQ_yes H1.out); injection this with a b; exact ⟨a, b⟩
    subst e1
    have HE0 := hid e0
    rw [HRL.out] at HE0
    clear hp e0 HZ
    have lt9 := b3.lt
    have hB0 : Lib.IsBuilderF 87 5 w2.heap.size w2.heap.size (Lib.byteCells (hisT l rs 0)) (w2.alloc (.cells #[.pointer none, .slice none 0 0] 87)) := Lib.IsBuilderF.of (Lib.fresh_isBuilder 87 5 w2)
    obtain ⟨B, hB⟩ : ∃ z, w2.heap.size = z := ⟨_, rfl⟩
    rw [hB] at hB0
    have kw9 := Keeps.trans kw (keeps_alloc w2 (.cells #[.pointer none, .slice none 0 0] 87))
    have hB1 : w.heap.size < B := by omega
    have hB2 : B < (w2.alloc (.cells #[.pointer none, .slice none 0 0] 87)).heap.size := by simp; omega
    clear b3 kw
    go_wp2_with fail
    try rw [hB]
    go_loopw [18] (fun i wr => ∃ k : Nat, i = .int .i64 k ∧ k ≤ n ∧ Lib.IsBuilderF 87 5 B B (Lib.byteCells (hisT l rs k)) wr ∧ B < wr.heap.size ∧ Keeps w wr) (fun i _ => n - (intOf i).toNat)
    case atStart => exact ⟨0, rfl, Nat.zero_le _, hB0, hB2, kw9⟩
    clear hB0 kw9 hB2 hB
    case round =>
      obtain ⟨k, rfl, hk, hBk, hBw, kw⟩ := hrel
      by_cases hlt : k < n
      rotate_left
      · obtain rfl : n = k := by omega
        go_wp2_with fail
        refine (string_any hBk (by omega)).mono ?_
        rintro e w8 ⟨rfl, _, b8, _⟩
        have KW := hid (Below.trans kw (b8.mono (by omega)))
        clear hBk kw b8
        go_wp2_with fail
        go_ret2
        exact ⟨ret_sb HE0.out.symm, KW.out⟩
      obtain ⟨b, off, v, P, np, cp, x1, x2, x3, x4, pl, rfl, _, _, hc0, hc1, hc2, hc3, hc4, hc5, hpl, hx⟩ := (hr.keeps kw).at_ hlt
      have hrb := (HRB.out k hlt).2
      rw [← hx.out] at hrb
      have hi1 : (k : Int) < (n : Int) := by omega
      have HPL := hid hpl.len
      have hrl := relT_len HG.out HS.out hrb
      have hsz := hisT_len H1.out k (by rw [HRL.out]; omega)
      have HRR := hid (relT_bs (l := l) (v := v) (a := x1) (b := x2) (c := x3) (d := x4) HPL.out)
      have hrb2 := hrb
      unfold relB at hrb2
      simp only [Bool.and_eq_true] at hrb2
      have hvb := inB_true.1 hrb2.1.1
      have HPB := hid (show plB ps l pl = true from hrb2.1.2)
      have hls := hrb2.2
      unfold lossB at hls
      simp only [Bool.and_eq_true] at hls
      have HF1 := hid (show fracB x1 x2 = true from hls.1.1)
      have HF2 := hid (show fracB x3 x4 = true from hls.1.2)
      have hvb2 : 1 ≤ v ∧ v ≤ 999 := hvb
      have HXR := hid hx.out
      have hl1 := Lib.itoa_length_le v (by omega) (by omega)
      rw [← bs_size] at hl1
      have hl2 : (bs (fracT x1 x2)).size ≤ 43 := by rw [bs_size]; have := frac_n HF1.out; exact fracT_len (by omega) (by omega)
      have hl3 : (bs (fracT x3 x4)).size ≤ 43 := by rw [bs_size]; have := frac_n HF2.out; exact fracT_len (by omega) (by omega)
      have hl4 := planTo_len HG.out HS.out HPB.out np (by rw [HPL.out]; exact Nat.le_refl _)
      rw [← bs_size] at hl4
      have hnp : np ≤ 20 := by have := (plB_at HPB.out).1; rw [HPL.out] at this; exact this
      clear hrb hrb2 hls hvb hx
      have HC1 := hid (fun (W : World) (z : Tab10 W) => itoa_k (n := v) (by omega) z)
      have HC2 := hid (fun (W : World) (z : Tab10 W) => fracText_any (w := W) z HF1.out)
      have HC3 := hid (fun (W : World) (z : Tab10 W) => fracText_any (w := W) z HF2.out)
      obtain ⟨sV, hsV⟩ : ∃ z, bs (Lib.itoa v) = z := ⟨_, rfl⟩
      obtain ⟨sA, hsA⟩ : ∃ z, bs (fracT x1 x2) = z := ⟨_, rfl⟩
      obtain ⟨sC, hsC⟩ : ∃ z, bs (fracT x3 x4) = z := ⟨_, rfl⟩
      obtain ⟨sP, hsP⟩ : ∃ z, bs (planTo l pl np) = z := ⟨_, rfl⟩
      rw [hsV] at hl1 HC1 HRR
      rw [hsA] at hl2 HC2 HRR
      rw [hsC] at hl3 HC3 HRR
      rw [hsP] at hl4 HRR
      have HSP := hid hsP
      clear hsV hsA hsC hsP
      have hz0 : ¬ (9223372036854775807 < 8 + sV.size) := by omega
      have hz1 : ¬ (9223372036854775807 < 8 + sV.size + 1) := by omega
      have hz2 : ¬ (9223372036854775807 < 8 + sV.size + 1 + sA.size) := by omega
      have hz3 : ¬ (9223372036854775807 < 8 + sV.size + 1 + sA.size + 1) := by omega
      have hz4 : ¬ (9223372036854775807 < 8 + sV.size + 1 + sA.size + 1 + sC.size) := by omega
      have hz5 : ¬ (9223372036854775807 < 8 + sV.size + 1 + sA.size + 1 + sC.size + 1) := by omega
      have hz6 : ¬ (9223372036854775807 < 8 + sV.size + 1 + sA.size + 1 + sC.size + 1 + sP.size) := by omega
      have hBk2 := isb_keeps hBk (keeps_alloc wr (.cells #[.int .i64 v, .slice P np cp, .int .i64 x1, .int .i64 x2, .int .i64 x3, .int .i64 x4] 50))
      have HOB := hid (heap_alloc_new wr (.cells #[.int .i64 v, .slice P np cp, .int .i64 x1, .int .i64 x2, .int .i64 x3, .int .i64 x4] 50))
      have HXS := hid (show (((((((({ data := #[118, 101, 114, 115, 105, 111, 110, 32] } : ByteArray) ++ sV) ++ ({ data := #[32] } : ByteArray)) ++ sA) ++ ({ data := #[32] } : ByteArray)) ++ sC) ++ ({ data := #[10] } : ByteArray)) ++ sP).size = 8 + sV.size + 1 + sA.size + 1 + sC.size + 1 + sP.size by simp only [ByteArray.size_append]; first | rfl | (simp; done) | omega)
      replace hpl := hpl.keeps (keeps_alloc wr (.cells #[.int .i64 v, .slice P np cp, .int .i64 x1, .int .i64 x2, .int .i64 x3, .int .i64 x4] 50))
      replace kw := Keeps.trans kw (keeps_alloc wr (.cells #[.int .i64 v, .slice P np cp, .int .i64 x1, .int .i64 x2, .int .i64 x3, .int .i64 x4] 50))
      have b10 : Bl (wr.alloc (.cells #[.int .i64 v, .slice P np cp, .int .i64 x1, .int .i64 x2, .int .i64 x3, .int .i64 x4] 50)) wr.heap.size [.int .i64 v, .slice P np cp, .int .i64 x1, .int .i64 x2, .int .i64 x3, .int .i64 x4] := Bl.new' (by simp) (by simp)
      have ca5_0 : (wr.alloc (.cells #[.int .i64 v, .slice P np cp, .int .i64 x1, .int .i64 x2, .int .i64 x3, .int .i64 x4] 50)).cell? ⟨wr.heap.size, 0, none⟩ = some (.int .i64 v) := (b10.2 0 _ rfl).1
      have fa5_0 : (wr.alloc (.cells #[.int .i64 v, .slice P np cp, .int .i64 x1, .int .i64 x2, .int .i64 x3, .int .i64 x4] 50)).frozen? ⟨wr.heap.size, 0, none⟩ = false := (b10.2 0 _ rfl).2
      have ca5_1 : (wr.alloc (.cells #[.int .i64 v, .slice P np cp, .int .i64 x1, .int .i64 x2, .int .i64 x3, .int .i64 x4] 50)).cell? ⟨wr.heap.size, 1, none⟩ = some (.slice P np cp) := (b10.2 1 _ rfl).1
      have fa5_1 : (wr.alloc (.cells #[.int .i64 v, .slice P np cp, .int .i64 x1, .int .i64 x2, .int .i64 x3, .int .i64 x4] 50)).frozen? ⟨wr.heap.size, 1, none⟩ = false := (b10.2 1 _ rfl).2
      have ca5_2 : (wr.alloc (.cells #[.int .i64 v, .slice P np cp, .int .i64 x1, .int .i64 x2, .int .i64 x3, .int .i64 x4] 50)).cell? ⟨wr.heap.size, 2, none⟩ = some (.int .i64 x1) := (b10.2 2 _ rfl).1
      have fa5_2 : (wr.alloc (.cells #[.int .i64 v, .slice P np cp, .int .i64 x1, .int .i64 x2, .int .i64 x3, .int .i64 x4] 50)).frozen? ⟨wr.heap.size, 2, none⟩ = false := (b10.2 2 _ rfl).2
      have ca5_3 : (wr.alloc (.cells #[.int .i64 v, .slice P np cp, .int .i64 x1, .int .i64 x2, .int .i64 x3, .int .i64 x4] 50)).cell? ⟨wr.heap.size, 3, none⟩ = some (.int .i64 x2) := (b10.2 3 _ rfl).1
      have fa5_3 : (wr.alloc (.cells #[.int .i64 v, .slice P np cp, .int .i64 x1, .int .i64 x2, .int .i64 x3, .int .i64 x4] 50)).frozen? ⟨wr.heap.size, 3, none⟩ = false := (b10.2 3 _ rfl).2
      have ca5_4 : (wr.alloc (.cells #[.int .i64 v, .slice P np cp, .int .i64 x1, .int .i64 x2, .int .i64 x3, .int .i64 x4] 50)).cell? ⟨wr.heap.size, 4, none⟩ = some (.int .i64 x3) := (b10.2 4 _ rfl).1
      have fa5_4 : (wr.alloc (.cells #[.int .i64 v, .slice P np cp, .int .i64 x1, .int .i64 x2, .int .i64 x3, .int .i64 x4] 50)).frozen? ⟨wr.heap.size, 4, none⟩ = false := (b10.2 4 _ rfl).2
      have ca5_5 : (wr.alloc (.cells #[.int .i64 v, .slice P np cp, .int .i64 x1, .int .i64 x2, .int .i64 x3, .int .i64 x4] 50)).cell? ⟨wr.heap.size, 5, none⟩ = some (.int .i64 x4) := (b10.2 5 _ rfl).1
      have fa5_5 : (wr.alloc (.cells #[.int .i64 v, .slice P np cp, .int .i64 x1, .int .i64 x2, .int .i64 x3, .int .i64 x4] 50)).frozen? ⟨wr.heap.size, 5, none⟩ = false := (b10.2 5 _ rfl).2
      go_wp2_with fail
      have kS := hid (show ∀ w', Keeps (wr.alloc (.cells #[.int .i64 v, .slice P np cp, .int .i64 x1, .int .i64 x2, .int .i64 x3, .int .i64 x4] 50)) w' → (w'.cell? ⟨wr.heap.size, 0, none⟩ = some (.int .i64 v) ∧ w'.cell? ⟨wr.heap.size, 1, none⟩ = some (.slice P np cp) ∧ w'.cell? ⟨wr.heap.size, 2, none⟩ = some (.int .i64 x1) ∧ w'.cell? ⟨wr.heap.size, 3, none⟩ = some (.int .i64 x2) ∧ w'.cell? ⟨wr.heap.size, 4, none⟩ = some (.int .i64 x3) ∧ w'.cell? ⟨wr.heap.size, 5, none⟩ = some (.int .i64 x4)) from fun w' k => ⟨cell_keeps ca5_0 k, cell_keeps ca5_1 k, cell_keeps ca5_2 k, cell_keeps ca5_3 k, cell_keeps ca5_4 k, cell_keeps ca5_5 k⟩)
      clear ca5_0 fa5_0 ca5_1 fa5_1 ca5_2 fa5_2 ca5_3 fa5_3 ca5_4 fa5_4 ca5_5 fa5_5
      have HLB := hid (show (Lib.byteCells (hisT l rs k)).length + (((((((({ data := #[118, 101, 114, 115, 105, 111, 110, 32] } : ByteArray) ++ sV) ++ ({ data := #[32] } : ByteArray)) ++ sA) ++ ({ data := #[32] } : ByteArray)) ++ sC) ++ ({ data := #[10] } : ByteArray)) ++ sP).size ≤ 140737488355328 by rw [Lib.byteCells_length, HXS.out]; omega)
      have htK := ht.keeps kw
      have hsK := hs.keeps kw
      have hwr := hBw
      have hWs : wr.heap.size ≤ (wr.alloc (.cells #[.int .i64 v, .slice P np cp, .int .i64 x1, .int .i64 x2, .int .i64 x3, .int .i64 x4] 50)).heap.size := by simp
      clear hc0 hc1 hc2 hc3 hc4 hc5 hl1 hl2 hl3 hl4 hrl hsz b10 hBk
      have kW := keeps_d0 (wr.alloc (.cells #[.int .i64 v, .slice P np cp, .int .i64 x1, .int .i64 x2, .int .i64 x3, .int .i64 x4] 50))
      go_region_held3 (fun w' => w'.cell? ⟨wr.heap.size, 0, none⟩ = some (.int .i64 v) ∧ w'.cell? ⟨wr.heap.size, 1, none⟩ = some (.slice P np cp) ∧ w'.cell? ⟨wr.heap.size, 2, none⟩ = some (.int .i64 x1) ∧ w'.cell? ⟨wr.heap.size, 3, none⟩ = some (.int .i64 x2) ∧ w'.cell? ⟨wr.heap.size, 4, none⟩ = some (.int .i64 x3) ∧ w'.cell? ⟨wr.heap.size, 5, none⟩ = some (.int .i64 x4)) (first | with_reducible exact kS.out _ (keeps_d0 _) | with_reducible exact kS.out _ kW | with_reducible exact cZ.out | go_keep)
        ((first | (go_at_call 38; (with_reducible refine (HC1.out _ (htK.keeps kW)).mono ?_); rintro e wB ⟨rfl, kB⟩; replace kW : Keeps (wr.alloc (.cells #[.int .i64 v, .slice P np cp, .int .i64 x1, .int .i64 x2, .int .i64 x3, .int .i64 x4] 50)) wB := kW.trans kB; clear kB) | (go_at_call 39; (with_reducible refine (HC2.out _ (htK.keeps kW)).mono ?_); rintro e wB ⟨rfl, kB⟩; replace kW : Keeps (wr.alloc (.cells #[.int .i64 v, .slice P np cp, .int .i64 x1, .int .i64 x2, .int .i64 x3, .int .i64 x4] 50)) wB := kW.trans kB; clear kB) | (go_at_call 39; (with_reducible refine (HC3.out _ (htK.keeps kW)).mono ?_); rintro e wB ⟨rfl, kB⟩; replace kW : Keeps (wr.alloc (.cells #[.int .i64 v, .slice P np cp, .int .i64 x1, .int .i64 x2, .int .i64 x3, .int .i64 x4] 50)) wB := kW.trans kB; clear kB) | (go_at_call 40; refine (planText_any (hsK.keeps kW) (hpl.keeps kW) HG.out HS.out HPB.out (htK.keeps kW)).mono ?_; rintro e wB ⟨rfl, kB⟩; rw [HSP.out]; replace kW : Keeps (wr.alloc (.cells #[.int .i64 v, .slice P np cp, .int .i64 x1, .int .i64 x2, .int .i64 x3, .int .i64 x4] 50)) wB := kW.trans kB; clear kB) | (go_at_call 37; refine (write_any (isb_keeps hBk2 kW) HLB.out (by have := kW.size; omega)).mono ?_; rintro e wE ⟨rfl, hBE, bE, oE⟩; have HOE := hid (oE _ _ ((kW.block _ (by simp)).trans HOB.out) (by simp; omega) (by simp)); have cZ := hid (show wE.cell? ⟨wr.heap.size, 0, none⟩ = some (.int .i64 v) ∧ wE.cell? ⟨wr.heap.size, 1, none⟩ = some (.slice P np cp) ∧ wE.cell? ⟨wr.heap.size, 2, none⟩ = some (.int .i64 x1) ∧ wE.cell? ⟨wr.heap.size, 3, none⟩ = some (.int .i64 x2) ∧ wE.cell? ⟨wr.heap.size, 4, none⟩ = some (.int .i64 x3) ∧ wE.cell? ⟨wr.heap.size, 5, none⟩ = some (.int .i64 x4) from ⟨obj_cell HOE.out rfl, obj_cell HOE.out rfl, obj_cell HOE.out rfl, obj_cell HOE.out rfl, obj_cell HOE.out rfl, obj_cell HOE.out rfl⟩))))
      have hb9 : Lib.byteCells (hisT l rs k) ++ Lib.strCells (((((((({ data := #[118, 101, 114, 115, 105, 111, 110, 32] } : ByteArray) ++ sV) ++ ({ data := #[32] } : ByteArray)) ++ sA) ++ ({ data := #[32] } : ByteArray)) ++ sC) ++ ({ data := #[10] } : ByteArray)) ++ sP) = Lib.byteCells (hisT l rs (k + 1)) := by
        rw [HRR.out, strCells_bs, byteCells_app, HXR.out]; rfl
      rw [hb9] at hBE
      have H1_ := hid (show Lib.IsBuilderF 87 5 B B (Lib.byteCells (hisT l rs (k + 1))) wE from .inr hBE)
      have H2_ := hid (Below.trans (kw.trans kW) (bE.mono (by omega)))
      have H3_ := hid (show B < wE.heap.size by have := kW.size; have := bE.size; omega)
      clear hBE bE oE HOE cZ kW kw kS hBk2 hb9 HC1 HC2 HC3 htK hsK hpl hz0 hz1 hz2 hz3 hz4 hz5 hz6
      go_wp2_with fail
      go_roundw
      case rel => exact ⟨k + 1, by go_num, hlt, H1_.out, H3_.out, H2_.out⟩
      case measure => simp [intOf]; omega
end Go.Proofs.YtlkjhkkfdmjfcaaGreatDoor
