/- AddRelease: of the program and of the reference. -/
import Derived.Test.YtohjkpopbmmliaaGreatHim
import Derived.Test.YtohjkpopbmmliaaGreatGro
import Derived.Test.YtohjkpopbmmliaaGreatBlk
import Derived.Deep.RegionLaw
namespace Go.Proofs.YtohjkpopbmmliaaGreat
open Go.RowKit Go.Sort Go.Deep
set_option linter.unusedVariables false
set_option linter.unusedSimpArgs false
theorem make_tabsI (n : Nat) (hn : n ≤ 67108864) (w : World) :
    (Instr.makeSlice 33 (.int .i64 (n : Int)) (.int .i64 (n : Int))).run Tryz.prog w = .ok (.slice (some ⟨w.heap.size, 0, none⟩) n n) (w.alloc (.cells (madeCells #[.int .i64 0, .slice none 0 0, .slice none 0 0, .int .i64 0] (n * 4)) 120)) := by
  have info : (Tryz.prog.info? 120).map (fun i => (i.zero, i.size, i.bytes)) = some (some (.agg #[.int .i64 0, .slice none 0 0, .slice none 0 0, .int .i64 0]), 4, 64) := by kernel_rfl
  obtain ⟨i, hi, hz0, hz1, hz2⟩ := info_parts info
  have h := run_make_rowN (P := Tryz.prog) 33 120 i _ Tryz.underlying33 hi hz0 .i64 .i64 n n (Nat.le_refl _) (by rw [hz2]; omega) (by omega) w
  rw [hz1] at h
  simpa [Value.cells] using h
theorem make_relsI (n : Nat) (hn : n ≤ 67108863) (w : World) :
    (Instr.makeSlice 28 (.int .i64 0) (.int .i64 ((n : Int) + 1))).run Tryz.prog w = .ok (.slice (some ⟨w.heap.size, 0, none⟩) 0 (n + 1)) (w.alloc (.cells (madeCells #[.int .i64 0, .slice none 0 0, .int .i64 0, .int .i64 0, .int .i64 0, .int .i64 0] ((n + 1) * 6)) 87)) := by
  have info : (Tryz.prog.info? 87).map (fun i => (i.zero, i.size, i.bytes)) = some (some (.agg #[.int .i64 0, .slice none 0 0, .int .i64 0, .int .i64 0, .int .i64 0, .int .i64 0]), 6, 64) := by kernel_rfl
  obtain ⟨i, hi, hz0, hz1, hz2⟩ := info_parts info
  have h := run_make_rowN (P := Tryz.prog) 28 87 i _ Tryz.underlying28 hi hz0 .i64 .i64 0 (n + 1) (Nat.zero_le _) (by rw [hz2]; omega) (by omega) w
  rw [hz1] at h
  simpa [Value.cells] using h
theorem info_rel : (Tryz.prog.info? 87).map (fun i => (i.zero, i.size, i.bytes)) = some (some (.agg #[.int .i64 0, .slice none 0 0, .int .i64 0, .int .i64 0, .int .i64 0, .int .i64 0]), 6, 64) := by kernel_rfl
theorem info_tabI : (Tryz.prog.info? 120).map (fun i => (i.zero, i.size, i.bytes)) = some (some (.agg #[.int .i64 0, .slice none 0 0, .slice none 0 0, .int .i64 0]), 4, 64) := by kernel_rfl
/-- What AddRelease says. -/
def adQ (ps : List Int) (l : List VV) (rs : List RL) (b : LQ) (ts : List TT) (x : LQ) : List RL × Bool := if (caQ ps l rs b ts x).1 = true then (rs ++ [((rs.length : Int) + 1, ts, x)], true) else ([], false)
theorem adQ_no {ps : List Int} {l : List VV} {rs : List RL} {b x : LQ} {ts : List TT} (h : (caQ ps l rs b ts x).1 = false) : adQ ps l rs b ts x = ([], false) := if_neg (by rw [h]; simp)
theorem adQ_yes {ps : List Int} {l : List VV} {rs : List RL} {b x : LQ} {ts : List TT} (h : (caQ ps l rs b ts x).1 = true) : adQ ps l rs b ts x = (rs ++ [((rs.length : Int) + 1, ts, x)], true) := if_pos h
theorem caQ_parts {ps : List Int} {l : List VV} {rs : List RL} {b x : LQ} {ts : List TT} (h : (caQ ps l rs b ts x).1 = true) : (caQ ps l rs b ts x).2 = true ∧ hisB ps l rs = true ∧ plB ps l ts = true := by
  unfold caQ at h ⊢
  split at h
  · rename_i hh
    rw [if_pos hh]
    simp only [Bool.and_eq_true] at hh
    exact ⟨rfl, hh.1.1.1, hh.1.2⟩
  · cases h
def AdRes (w : World) (R : List RL × Bool) (e : Ending) (w' : World) : Prop := ∃ A n c, e = .returned (.tuple #[.slice A n c, .bool R.2]) ∧ RelsO w' w.heap.size w'.heap.size A n R.1 ∧ Keeps w w'
theorem AdRes.no {w w' : World} {R : List RL × Bool} (h : R = ([], false)) (k : Keeps w w') : AdRes w R (.returned (.tuple #[.slice none 0 0, .bool false])) w' := by
  subst h; exact ⟨none, 0, 0, rfl, RowsM.nil_ _ _ _ _ (Nat.le_refl _), k⟩
theorem AdRes.yes {w w' : World} {R : List RL × Bool} {B E : Nat} {v : Value} {cs : List Value} {L U : Nat → Nat} {l : List RL} (h : R = (l, true)) (hG : GrowC 6 rl0 RwR w' B E v cs L U l) (hl : l.length ≤ 67108864) (hB : w.heap.size ≤ B) (hB2 : B ≤ w'.heap.size) (k : Keeps w w') : AdRes w R (.returned (.tuple #[v, .bool true])) w' := by
  subst h
  obtain ⟨A, c, rfl, hM⟩ := hG.rowsM hl hB2
  exact ⟨A, _, c, rfl, RowsM.widen hM hB (Nat.le_refl _) (Nat.le_refl _), k⟩
theorem rl_tsz {ps : List Int} {l : List VV} {ts : List TT} (hs : schB l = true) (hp : plB ps l ts = true) : ts.length + tsz ts ts.length ≤ 300 := by
  obtain ⟨h20, hp⟩ := plB_at hp
  obtain ⟨_, _, hq6⟩ := schB_lv rfl hs
  have key : ∀ k, k ≤ ts.length → tsz ts k ≤ k * 12 := by
    intro k
    induction k with
    | zero => intro _; rw [tsz_zero]; exact Nat.zero_le _
    | succ k ih =>
      intro hk
      have ih := ih (by omega)
      rw [tsz_succ (by omega), Nat.succ_mul]
      obtain ⟨p1, p2, _, _, _⟩ := tabB_parts (hp k (by omega))
      have v1 := vsB_len p1
      have w1 : (ts.getD k t0).2.2.1.length = l.length := by
        unfold whB at p2
        simp only [Bool.and_eq_true, decide_eq_true_eq] at p2
        exact p2.1
      unfold szT
      rw [w1]
      omega
  have := key ts.length (Nat.le_refl _)
  omega
theorem rlsz_app (l : List RL) (x : RL) : rlsz (l ++ [x]) (l ++ [x]).length = rlsz l l.length + szRl x := by
  rw [List.length_append, List.length_singleton, rlsz_succ (by simp)]
  have e1 : (l ++ [x]).getD l.length rl0 = x := by simp [List.getD]
  have key : ∀ k, k ≤ l.length → rlsz (l ++ [x]) k = rlsz l k := by
    intro k
    induction k with
    | zero => intro _; rw [rlsz_zero, rlsz_zero]
    | succ k ih =>
      intro hk
      rw [rlsz_succ (by simp; omega), rlsz_succ (by omega), ih (by omega)]
      congr 2
      simp only [List.getD]
      rw [List.getElem?_append_left (by omega)]
  rw [e1, key _ (Nat.le_refl _)]
theorem adQ_len {ps : List Int} {l : List VV} {rs : List RL} {b x : LQ} {ts : List TT} : (adQ ps l rs b ts x).1.length + rlsz (adQ ps l rs b ts x).1 (adQ ps l rs b ts x).1.length ≤ 1048576 := by
  cases hb : (caQ ps l rs b ts x).1 with
  | false => rw [adQ_no hb]; simp [rlsz_zero]
  | true =>
    obtain ⟨_, hh, hp⟩ := caQ_parts hb
    rw [adQ_yes hb]
    dsimp only
    obtain ⟨_, hs, h12, hk⟩ := hisB_parts hh
    have key : ∀ k, k ≤ rs.length → rlsz rs k ≤ k * 300 := by
      intro k
      induction k with
      | zero => intro _; rw [rlsz_zero]; exact Nat.zero_le _
      | succ k ih =>
        intro h
        have ih := ih (by omega)
        rw [rlsz_succ (by omega), Nat.succ_mul]
        have hr := (hk k (by omega)).2
        unfold relB at hr
        simp only [Bool.and_eq_true] at hr
        have := rl_tsz hs hr.1.2
        unfold szRl
        omega
    have h1 := key _ (Nat.le_refl _)
    have h2 := rl_tsz hs hp
    rw [rlsz_app]
    unfold szRl
    rw [List.length_append, List.length_singleton]
    dsimp only
    omega

set_option maxRecDepth 100000 in
set_option maxHeartbeats 6400000 in
theorem copyTables_any {Q : Option Addr} {lo hi n c : Nat} {un : Bool} {ts : List TT} {w : World} (ht : Tabs true un w lo hi Q n ts) :
    Calls Tryz.prog 48 #[.slice Q n c] w fun e w' => ∃ P, e = .returned (.slice P n n) ∧ RowsM 4 t0 RwT w' w.heap.size w'.heap.size P n ts ∧ Keeps w w' := by
  have HTL := hid ht.len
  have hn := ht.le
  have hmk := make_tabsI n hn
  go_enter Tryz.func48, Tryz.ntmps48
  have kw := keeps_refl w
  replace kw := Keeps.trans kw (keeps_alloc w (.cells (madeCells #[.int .i64 0, .slice none 0 0, .slice none 0 0, .int .i64 0] (n * 4)) 120))
  go_wp2_with fail
  clear hmk
  have F0 := FillS.new (sz := 4) (z := t0) (R := RwT) w #[.int .i64 0, .slice none 0 0, .slice none 0 0, .int .i64 0] n 120 ts
  go_loopw [11] (fun i wr => ∃ (k : Nat) (cs : List Value) (L U : Nat → Nat), k ≤ n ∧ i = .int .i64 k ∧ FillS 4 t0 RwT wr w.heap.size n 120 cs L U ts k ∧ Keeps w wr) (fun i _ => n - (intOf i).toNat)
  case atStart => exact ⟨0, _, _, _, Nat.zero_le _, rfl, F0, kw⟩
  clear F0 kw
  case round =>
    obtain ⟨k, cs, L, U, hk, rfl, hF, kw⟩ := hrel
    by_cases hlt : k < n
    rotate_left
    · obtain rfl : k = n := by omega
      have HM := hid (hF.rowsM HTL.out hn (lo := w.heap.size) (Nat.le_refl _))
      clear hF
      go_wp2
      go_ret
      exact ⟨_, rfl, HM.out, kw⟩
    obtain ⟨b, off, lv, V, nv, cv, H, nh, ch, sm, vs, ws, rfl, _, _, hc0, hc1, hc2, hc3, hvv, hhh, hx⟩ := (ht.keeps kw).at_ hlt
    have hi1 : (k : Int) < (n : Int) := by omega
    have HX := hid hx.out
    have hnv := hid hvv.1
    have hnh := hid hhh.1
    clear hx
    have kr := keeps_refl wr
    have lF := hF.lt
    replace kw := Keeps.trans kw (keeps_alloc wr (.cells #[.int .i64 lv, .slice V nv cv, .slice H nh ch, .int .i64 sm] 120))
    replace kr := Keeps.trans kr (keeps_alloc wr (.cells #[.int .i64 lv, .slice V nv cv, .slice H nh ch, .int .i64 sm] 120))
    have b5 : Bl (wr.alloc (.cells #[.int .i64 lv, .slice V nv cv, .slice H nh ch, .int .i64 sm] 120)) wr.heap.size [.int .i64 lv, .slice V nv cv, .slice H nh ch, .int .i64 sm] := Bl.new' (by simp) (by simp)
    have ca1_0 : (wr.alloc (.cells #[.int .i64 lv, .slice V nv cv, .slice H nh ch, .int .i64 sm] 120)).cell? ⟨wr.heap.size, 0, none⟩ = some (.int .i64 lv) := (b5.2 0 _ rfl).1
    have fa1_0 : (wr.alloc (.cells #[.int .i64 lv, .slice V nv cv, .slice H nh ch, .int .i64 sm] 120)).frozen? ⟨wr.heap.size, 0, none⟩ = false := (b5.2 0 _ rfl).2
    have ca1_1 : (wr.alloc (.cells #[.int .i64 lv, .slice V nv cv, .slice H nh ch, .int .i64 sm] 120)).cell? ⟨wr.heap.size, 1, none⟩ = some (.slice V nv cv) := (b5.2 1 _ rfl).1
    have fa1_1 : (wr.alloc (.cells #[.int .i64 lv, .slice V nv cv, .slice H nh ch, .int .i64 sm] 120)).frozen? ⟨wr.heap.size, 1, none⟩ = false := (b5.2 1 _ rfl).2
    have ca1_2 : (wr.alloc (.cells #[.int .i64 lv, .slice V nv cv, .slice H nh ch, .int .i64 sm] 120)).cell? ⟨wr.heap.size, 2, none⟩ = some (.slice H nh ch) := (b5.2 2 _ rfl).1
    have fa1_2 : (wr.alloc (.cells #[.int .i64 lv, .slice V nv cv, .slice H nh ch, .int .i64 sm] 120)).frozen? ⟨wr.heap.size, 2, none⟩ = false := (b5.2 2 _ rfl).2
    have ca1_3 : (wr.alloc (.cells #[.int .i64 lv, .slice V nv cv, .slice H nh ch, .int .i64 sm] 120)).cell? ⟨wr.heap.size, 3, none⟩ = some (.int .i64 sm) := (b5.2 3 _ rfl).1
    have fa1_3 : (wr.alloc (.cells #[.int .i64 lv, .slice V nv cv, .slice H nh ch, .int .i64 sm] 120)).frozen? ⟨wr.heap.size, 3, none⟩ = false := (b5.2 3 _ rfl).2
    go_wp2_with fail
    clear ca1_0 fa1_0 ca1_1 fa1_1 ca1_2 fa1_2 ca1_3 fa1_3
    clear hc0 hc1 hc2 hc3
    have sW : wr.heap.size ≤ (wr.alloc (.cells #[.int .i64 lv, .slice V nv cv, .slice H nh ch, .int .i64 sm] 120)).heap.size := kr.size
    refine (copyTable_tw (c1 := cv) (c2 := ch) (hvv.keeps kr) (hhh.keeps kr)).mono ?_
    rintro e wB ⟨A1, C1, A2, C2, rfl, tw, kB⟩
    have kx := hid (kr.trans kB)
    replace tw := hid (tw.widen (lo' := wr.heap.size) sW (Nat.le_refl _) (Nat.le_refl _))
    replace b5 := b5.keeps kB
    replace kw := Keeps.trans kw kB
    replace kr := Keeps.trans kr kB
    have lt2 := b5.lt
    have sz3 := kw.size
    have sz4 := kr.size
    clear kB kr
    have F9 := hF.keeps RwT.ok kx.out
    have FP := hid (hF.tab hlt kx.out HX.out.symm hnv.out hnh.out (cv := C1) (ch := C2) tw.out)
    have hl5 := F9.len
    have hm5 := Nat.mul_le_mul_right 4 (show k + 1 ≤ n from hlt)
    rw [Nat.succ_mul] at hm5
    have d0 := F9.own.cell (k * 4) (by omega)
    have f0 := F9.own.frozen (k * 4)
    have d1 := F9.own.cell (k * 4 + 1) (by omega)
    have f1 := F9.own.frozen (k * 4 + 1)
    have d2 := F9.own.cell (k * 4 + 2) (by omega)
    have f2 := F9.own.frozen (k * 4 + 2)
    have d3 := F9.own.cell (k * 4 + 3) (by omega)
    have f3 := F9.own.frozen (k * 4 + 3)
    have N5 := hid (show Keeps w ((((wB.setCell ⟨w.heap.size, k * 4, none⟩ (.int .i64 lv)).setCell ⟨w.heap.size, k * 4 + 1, none⟩ (.slice A1 nv C1)).setCell ⟨w.heap.size, k * 4 + 2, none⟩ (.slice A2 nh C2)).setCell ⟨w.heap.size, k * 4 + 3, none⟩ (.int .i64 sm)) from (Below.setCell (Below.setCell (Below.setCell (Below.setCell kw (p := ⟨w.heap.size, k * 4, none⟩) (Nat.le_refl _) _) (p := ⟨w.heap.size, k * 4 + 1, none⟩) (Nat.le_refl _) _) (p := ⟨w.heap.size, k * 4 + 2, none⟩) (Nat.le_refl _) _) (p := ⟨w.heap.size, k * 4 + 3, none⟩) (Nat.le_refl _) _))
    obtain ⟨cs2, L2, U2, F2⟩ := FP.out
    have N6 := hid F2
    clear FP F2 F9 hF kw b5 hl5 hm5 kx tw
    go_wp2_with fail
    go_roundw
    case rel => exact ⟨k + 1, cs2, L2, U2, by omega, by go_num, N6.out, N5.out⟩
    case measure => simp [intOf]; omega
theorem step_nOwn {W : World} {ops : Array Oper} {o : Oper} {a : Act} {K : Act → World → Prop} {Q : Exit → Act → World → Prop} {E : Prop} {l1 u1 l2 u2 n1 n2 c1 c2 : Nat} {A1 A2 : Option Addr} {xs ys : List Int} {lv sm : Int}
    (h1 : Ints W l1 u1 A1 n1 xs) (h2 : Ints W l2 u2 A2 n2 ys) (hgd : o.guard = none)
    (hrun : (execOp a.eval o).run Tryz.prog W = .ok (.enter 98 #[.agg #[.int .i64 lv, .slice A1 n1 c1, .slice A2 n2 c2, .int .i64 sm]]) W)
    (h : ∀ B1 C1 B2 C2 w', TwM w' W.heap.size w'.heap.size B1 n1 xs B2 n2 ys → Keeps W w' → K (a.put o.dst (.agg #[.int .i64 lv, .slice B1 n1 C1, .slice B2 n2 C2, .int .i64 sm])) w') :
    if Region.wanted o (yielded ops a.tmps) = true then Oper.wp Tryz.prog o a W K Q else E := by
  have hw : Region.wanted o (yielded ops a.tmps) = true := by simp [Region.wanted, hgd]
  rw [if_pos hw]
  unfold Oper.wp
  rw [hrun, Oper.upon_enter]
  refine (nOwn_tw h1 h2).mono fun e w' hh => ?_
  obtain ⟨B1, C1, B2, C2, rfl, h3, h4⟩ := hh
  exact h B1 C1 B2 C2 w' h3 h4
set_option maxRecDepth 100000 in
set_option maxHeartbeats 6400000 in
theorem rlOwn_any {P : Option Addr} {np cp lo hi : Nat} {un : Bool} {v x1 x2 x3 x4 : Int} {pl : List TT} {w : World} (ht : Tabs true un w lo hi P np pl) :
    Calls Tryz.prog 51 #[.agg #[.int .i64 v, .slice P np cp, .int .i64 x1, .int .i64 x2, .int .i64 x3, .int .i64 x4]] w fun e w' => ∃ P' c', e = .returned (.agg #[.int .i64 v, .slice P' np c', .int .i64 x1, .int .i64 x2, .int .i64 x3, .int .i64 x4]) ∧ RowsM 4 t0 RwT w' w.heap.size w'.heap.size P' np pl ∧ Keeps w w' := by
  have HTL := hid ht.len
  have hn := ht.le
  have HIT := hid info_tabI
  go_enter Tryz.func51, Tryz.ntmps51
  have kw := keeps_refl w
  replace kw := Keeps.trans kw (keeps_alloc w (.cells #[.int .i64 v, .slice P np cp, .int .i64 x1, .int .i64 x2, .int .i64 x3, .int .i64 x4] 87))
  have b1 : Bl (w.alloc (.cells #[.int .i64 v, .slice P np cp, .int .i64 x1, .int .i64 x2, .int .i64 x3, .int .i64 x4] 87)) w.heap.size [.int .i64 v, .slice P np cp, .int .i64 x1, .int .i64 x2, .int .i64 x3, .int .i64 x4] := Bl.new' (by simp) (by simp)
  replace b1 := b1.keeps (keeps_alloc (w.alloc (.cells #[.int .i64 v, .slice P np cp, .int .i64 x1, .int .i64 x2, .int .i64 x3, .int .i64 x4] 87)) (.cells #[.int .i64 0, .slice none 0 0, .int .i64 0, .int .i64 0, .int .i64 0, .int .i64 0] 87))
  replace kw := Keeps.trans kw (keeps_alloc (w.alloc (.cells #[.int .i64 v, .slice P np cp, .int .i64 x1, .int .i64 x2, .int .i64 x3, .int .i64 x4] 87)) (.cells #[.int .i64 0, .slice none 0 0, .int .i64 0, .int .i64 0, .int .i64 0, .int .i64 0] 87))
  have b2 : Bl ((w.alloc (.cells #[.int .i64 v, .slice P np cp, .int .i64 x1, .int .i64 x2, .int .i64 x3, .int .i64 x4] 87)).alloc (.cells #[.int .i64 0, .slice none 0 0, .int .i64 0, .int .i64 0, .int .i64 0, .int .i64 0] 87)) (w.heap.size + 1) [.int .i64 0, .slice none 0 0, .int .i64 0, .int .i64 0, .int .i64 0, .int .i64 0] := Bl.new' (by simp) (by simp)
  have ca1_0 : ((w.alloc (.cells #[.int .i64 v, .slice P np cp, .int .i64 x1, .int .i64 x2, .int .i64 x3, .int .i64 x4] 87)).alloc (.cells #[.int .i64 0, .slice none 0 0, .int .i64 0, .int .i64 0, .int .i64 0, .int .i64 0] 87)).cell? ⟨w.heap.size, 0, none⟩ = some (.int .i64 v) := (b1.2 0 _ rfl).1
  have fa1_0 : ((w.alloc (.cells #[.int .i64 v, .slice P np cp, .int .i64 x1, .int .i64 x2, .int .i64 x3, .int .i64 x4] 87)).alloc (.cells #[.int .i64 0, .slice none 0 0, .int .i64 0, .int .i64 0, .int .i64 0, .int .i64 0] 87)).frozen? ⟨w.heap.size, 0, none⟩ = false := (b1.2 0 _ rfl).2
  have ca1_1 : ((w.alloc (.cells #[.int .i64 v, .slice P np cp, .int .i64 x1, .int .i64 x2, .int .i64 x3, .int .i64 x4] 87)).alloc (.cells #[.int .i64 0, .slice none 0 0, .int .i64 0, .int .i64 0, .int .i64 0, .int .i64 0] 87)).cell? ⟨w.heap.size, 1, none⟩ = some (.slice P np cp) := (b1.2 1 _ rfl).1
  have fa1_1 : ((w.alloc (.cells #[.int .i64 v, .slice P np cp, .int .i64 x1, .int .i64 x2, .int .i64 x3, .int .i64 x4] 87)).alloc (.cells #[.int .i64 0, .slice none 0 0, .int .i64 0, .int .i64 0, .int .i64 0, .int .i64 0] 87)).frozen? ⟨w.heap.size, 1, none⟩ = false := (b1.2 1 _ rfl).2
  have ca1_2 : ((w.alloc (.cells #[.int .i64 v, .slice P np cp, .int .i64 x1, .int .i64 x2, .int .i64 x3, .int .i64 x4] 87)).alloc (.cells #[.int .i64 0, .slice none 0 0, .int .i64 0, .int .i64 0, .int .i64 0, .int .i64 0] 87)).cell? ⟨w.heap.size, 2, none⟩ = some (.int .i64 x1) := (b1.2 2 _ rfl).1
  have fa1_2 : ((w.alloc (.cells #[.int .i64 v, .slice P np cp, .int .i64 x1, .int .i64 x2, .int .i64 x3, .int .i64 x4] 87)).alloc (.cells #[.int .i64 0, .slice none 0 0, .int .i64 0, .int .i64 0, .int .i64 0, .int .i64 0] 87)).frozen? ⟨w.heap.size, 2, none⟩ = false := (b1.2 2 _ rfl).2
  have ca1_3 : ((w.alloc (.cells #[.int .i64 v, .slice P np cp, .int .i64 x1, .int .i64 x2, .int .i64 x3, .int .i64 x4] 87)).alloc (.cells #[.int .i64 0, .slice none 0 0, .int .i64 0, .int .i64 0, .int .i64 0, .int .i64 0] 87)).cell? ⟨w.heap.size, 3, none⟩ = some (.int .i64 x2) := (b1.2 3 _ rfl).1
  have fa1_3 : ((w.alloc (.cells #[.int .i64 v, .slice P np cp, .int .i64 x1, .int .i64 x2, .int .i64 x3, .int .i64 x4] 87)).alloc (.cells #[.int .i64 0, .slice none 0 0, .int .i64 0, .int .i64 0, .int .i64 0, .int .i64 0] 87)).frozen? ⟨w.heap.size, 3, none⟩ = false := (b1.2 3 _ rfl).2
  have ca1_4 : ((w.alloc (.cells #[.int .i64 v, .slice P np cp, .int .i64 x1, .int .i64 x2, .int .i64 x3, .int .i64 x4] 87)).alloc (.cells #[.int .i64 0, .slice none 0 0, .int .i64 0, .int .i64 0, .int .i64 0, .int .i64 0] 87)).cell? ⟨w.heap.size, 4, none⟩ = some (.int .i64 x3) := (b1.2 4 _ rfl).1
  have fa1_4 : ((w.alloc (.cells #[.int .i64 v, .slice P np cp, .int .i64 x1, .int .i64 x2, .int .i64 x3, .int .i64 x4] 87)).alloc (.cells #[.int .i64 0, .slice none 0 0, .int .i64 0, .int .i64 0, .int .i64 0, .int .i64 0] 87)).frozen? ⟨w.heap.size, 4, none⟩ = false := (b1.2 4 _ rfl).2
  have ca1_5 : ((w.alloc (.cells #[.int .i64 v, .slice P np cp, .int .i64 x1, .int .i64 x2, .int .i64 x3, .int .i64 x4] 87)).alloc (.cells #[.int .i64 0, .slice none 0 0, .int .i64 0, .int .i64 0, .int .i64 0, .int .i64 0] 87)).cell? ⟨w.heap.size, 5, none⟩ = some (.int .i64 x4) := (b1.2 5 _ rfl).1
  have fa1_5 : ((w.alloc (.cells #[.int .i64 v, .slice P np cp, .int .i64 x1, .int .i64 x2, .int .i64 x3, .int .i64 x4] 87)).alloc (.cells #[.int .i64 0, .slice none 0 0, .int .i64 0, .int .i64 0, .int .i64 0, .int .i64 0] 87)).frozen? ⟨w.heap.size, 5, none⟩ = false := (b1.2 5 _ rfl).2
  replace b1 := b1.keeps (keeps_alloc ((w.alloc (.cells #[.int .i64 v, .slice P np cp, .int .i64 x1, .int .i64 x2, .int .i64 x3, .int .i64 x4] 87)).alloc (.cells #[.int .i64 0, .slice none 0 0, .int .i64 0, .int .i64 0, .int .i64 0, .int .i64 0] 87)) (.cells #[.int .i64 v, .slice none 0 0, .int .i64 x1, .int .i64 x2, .int .i64 x3, .int .i64 x4] 87))
  replace b2 := b2.keeps (keeps_alloc ((w.alloc (.cells #[.int .i64 v, .slice P np cp, .int .i64 x1, .int .i64 x2, .int .i64 x3, .int .i64 x4] 87)).alloc (.cells #[.int .i64 0, .slice none 0 0, .int .i64 0, .int .i64 0, .int .i64 0, .int .i64 0] 87)) (.cells #[.int .i64 v, .slice none 0 0, .int .i64 x1, .int .i64 x2, .int .i64 x3, .int .i64 x4] 87))
  replace kw := Keeps.trans kw (keeps_alloc ((w.alloc (.cells #[.int .i64 v, .slice P np cp, .int .i64 x1, .int .i64 x2, .int .i64 x3, .int .i64 x4] 87)).alloc (.cells #[.int .i64 0, .slice none 0 0, .int .i64 0, .int .i64 0, .int .i64 0, .int .i64 0] 87)) (.cells #[.int .i64 v, .slice none 0 0, .int .i64 x1, .int .i64 x2, .int .i64 x3, .int .i64 x4] 87))
  have b3 : Bl (((w.alloc (.cells #[.int .i64 v, .slice P np cp, .int .i64 x1, .int .i64 x2, .int .i64 x3, .int .i64 x4] 87)).alloc (.cells #[.int .i64 0, .slice none 0 0, .int .i64 0, .int .i64 0, .int .i64 0, .int .i64 0] 87)).alloc (.cells #[.int .i64 v, .slice none 0 0, .int .i64 x1, .int .i64 x2, .int .i64 x3, .int .i64 x4] 87)) (w.heap.size + 1 + 1) [.int .i64 v, .slice none 0 0, .int .i64 x1, .int .i64 x2, .int .i64 x3, .int .i64 x4] := Bl.new' (by simp) (by simp)
  have ca2_0 : (((w.alloc (.cells #[.int .i64 v, .slice P np cp, .int .i64 x1, .int .i64 x2, .int .i64 x3, .int .i64 x4] 87)).alloc (.cells #[.int .i64 0, .slice none 0 0, .int .i64 0, .int .i64 0, .int .i64 0, .int .i64 0] 87)).alloc (.cells #[.int .i64 v, .slice none 0 0, .int .i64 x1, .int .i64 x2, .int .i64 x3, .int .i64 x4] 87)).cell? ⟨w.heap.size, 0, none⟩ = some (.int .i64 v) := (b1.2 0 _ rfl).1
  have fa2_0 : (((w.alloc (.cells #[.int .i64 v, .slice P np cp, .int .i64 x1, .int .i64 x2, .int .i64 x3, .int .i64 x4] 87)).alloc (.cells #[.int .i64 0, .slice none 0 0, .int .i64 0, .int .i64 0, .int .i64 0, .int .i64 0] 87)).alloc (.cells #[.int .i64 v, .slice none 0 0, .int .i64 x1, .int .i64 x2, .int .i64 x3, .int .i64 x4] 87)).frozen? ⟨w.heap.size, 0, none⟩ = false := (b1.2 0 _ rfl).2
  have ca2_1 : (((w.alloc (.cells #[.int .i64 v, .slice P np cp, .int .i64 x1, .int .i64 x2, .int .i64 x3, .int .i64 x4] 87)).alloc (.cells #[.int .i64 0, .slice none 0 0, .int .i64 0, .int .i64 0, .int .i64 0, .int .i64 0] 87)).alloc (.cells #[.int .i64 v, .slice none 0 0, .int .i64 x1, .int .i64 x2, .int .i64 x3, .int .i64 x4] 87)).cell? ⟨w.heap.size, 1, none⟩ = some (.slice P np cp) := (b1.2 1 _ rfl).1
  have fa2_1 : (((w.alloc (.cells #[.int .i64 v, .slice P np cp, .int .i64 x1, .int .i64 x2, .int .i64 x3, .int .i64 x4] 87)).alloc (.cells #[.int .i64 0, .slice none 0 0, .int .i64 0, .int .i64 0, .int .i64 0, .int .i64 0] 87)).alloc (.cells #[.int .i64 v, .slice none 0 0, .int .i64 x1, .int .i64 x2, .int .i64 x3, .int .i64 x4] 87)).frozen? ⟨w.heap.size, 1, none⟩ = false := (b1.2 1 _ rfl).2
  have ca2_2 : (((w.alloc (.cells #[.int .i64 v, .slice P np cp, .int .i64 x1, .int .i64 x2, .int .i64 x3, .int .i64 x4] 87)).alloc (.cells #[.int .i64 0, .slice none 0 0, .int .i64 0, .int .i64 0, .int .i64 0, .int .i64 0] 87)).alloc (.cells #[.int .i64 v, .slice none 0 0, .int .i64 x1, .int .i64 x2, .int .i64 x3, .int .i64 x4] 87)).cell? ⟨w.heap.size, 2, none⟩ = some (.int .i64 x1) := (b1.2 2 _ rfl).1
  have fa2_2 : (((w.alloc (.cells #[.int .i64 v, .slice P np cp, .int .i64 x1, .int .i64 x2, .int .i64 x3, .int .i64 x4] 87)).alloc (.cells #[.int .i64 0, .slice none 0 0, .int .i64 0, .int .i64 0, .int .i64 0, .int .i64 0] 87)).alloc (.cells #[.int .i64 v, .slice none 0 0, .int .i64 x1, .int .i64 x2, .int .i64 x3, .int .i64 x4] 87)).frozen? ⟨w.heap.size, 2, none⟩ = false := (b1.2 2 _ rfl).2
  have ca2_3 : (((w.alloc (.cells #[.int .i64 v, .slice P np cp, .int .i64 x1, .int .i64 x2, .int .i64 x3, .int .i64 x4] 87)).alloc (.cells #[.int .i64 0, .slice none 0 0, .int .i64 0, .int .i64 0, .int .i64 0, .int .i64 0] 87)).alloc (.cells #[.int .i64 v, .slice none 0 0, .int .i64 x1, .int .i64 x2, .int .i64 x3, .int .i64 x4] 87)).cell? ⟨w.heap.size, 3, none⟩ = some (.int .i64 x2) := (b1.2 3 _ rfl).1
  have fa2_3 : (((w.alloc (.cells #[.int .i64 v, .slice P np cp, .int .i64 x1, .int .i64 x2, .int .i64 x3, .int .i64 x4] 87)).alloc (.cells #[.int .i64 0, .slice none 0 0, .int .i64 0, .int .i64 0, .int .i64 0, .int .i64 0] 87)).alloc (.cells #[.int .i64 v, .slice none 0 0, .int .i64 x1, .int .i64 x2, .int .i64 x3, .int .i64 x4] 87)).frozen? ⟨w.heap.size, 3, none⟩ = false := (b1.2 3 _ rfl).2
  have ca2_4 : (((w.alloc (.cells #[.int .i64 v, .slice P np cp, .int .i64 x1, .int .i64 x2, .int .i64 x3, .int .i64 x4] 87)).alloc (.cells #[.int .i64 0, .slice none 0 0, .int .i64 0, .int .i64 0, .int .i64 0, .int .i64 0] 87)).alloc (.cells #[.int .i64 v, .slice none 0 0, .int .i64 x1, .int .i64 x2, .int .i64 x3, .int .i64 x4] 87)).cell? ⟨w.heap.size, 4, none⟩ = some (.int .i64 x3) := (b1.2 4 _ rfl).1
  have fa2_4 : (((w.alloc (.cells #[.int .i64 v, .slice P np cp, .int .i64 x1, .int .i64 x2, .int .i64 x3, .int .i64 x4] 87)).alloc (.cells #[.int .i64 0, .slice none 0 0, .int .i64 0, .int .i64 0, .int .i64 0, .int .i64 0] 87)).alloc (.cells #[.int .i64 v, .slice none 0 0, .int .i64 x1, .int .i64 x2, .int .i64 x3, .int .i64 x4] 87)).frozen? ⟨w.heap.size, 4, none⟩ = false := (b1.2 4 _ rfl).2
  have ca2_5 : (((w.alloc (.cells #[.int .i64 v, .slice P np cp, .int .i64 x1, .int .i64 x2, .int .i64 x3, .int .i64 x4] 87)).alloc (.cells #[.int .i64 0, .slice none 0 0, .int .i64 0, .int .i64 0, .int .i64 0, .int .i64 0] 87)).alloc (.cells #[.int .i64 v, .slice none 0 0, .int .i64 x1, .int .i64 x2, .int .i64 x3, .int .i64 x4] 87)).cell? ⟨w.heap.size, 5, none⟩ = some (.int .i64 x4) := (b1.2 5 _ rfl).1
  have fa2_5 : (((w.alloc (.cells #[.int .i64 v, .slice P np cp, .int .i64 x1, .int .i64 x2, .int .i64 x3, .int .i64 x4] 87)).alloc (.cells #[.int .i64 0, .slice none 0 0, .int .i64 0, .int .i64 0, .int .i64 0, .int .i64 0] 87)).alloc (.cells #[.int .i64 v, .slice none 0 0, .int .i64 x1, .int .i64 x2, .int .i64 x3, .int .i64 x4] 87)).frozen? ⟨w.heap.size, 5, none⟩ = false := (b1.2 5 _ rfl).2
  have ca3_0 : (((w.alloc (.cells #[.int .i64 v, .slice P np cp, .int .i64 x1, .int .i64 x2, .int .i64 x3, .int .i64 x4] 87)).alloc (.cells #[.int .i64 0, .slice none 0 0, .int .i64 0, .int .i64 0, .int .i64 0, .int .i64 0] 87)).alloc (.cells #[.int .i64 v, .slice none 0 0, .int .i64 x1, .int .i64 x2, .int .i64 x3, .int .i64 x4] 87)).cell? ⟨w.heap.size + 1 + 1, 0, none⟩ = some (.int .i64 v) := (b3.2 0 _ rfl).1
  have fa3_0 : (((w.alloc (.cells #[.int .i64 v, .slice P np cp, .int .i64 x1, .int .i64 x2, .int .i64 x3, .int .i64 x4] 87)).alloc (.cells #[.int .i64 0, .slice none 0 0, .int .i64 0, .int .i64 0, .int .i64 0, .int .i64 0] 87)).alloc (.cells #[.int .i64 v, .slice none 0 0, .int .i64 x1, .int .i64 x2, .int .i64 x3, .int .i64 x4] 87)).frozen? ⟨w.heap.size + 1 + 1, 0, none⟩ = false := (b3.2 0 _ rfl).2
  have ca3_1 : (((w.alloc (.cells #[.int .i64 v, .slice P np cp, .int .i64 x1, .int .i64 x2, .int .i64 x3, .int .i64 x4] 87)).alloc (.cells #[.int .i64 0, .slice none 0 0, .int .i64 0, .int .i64 0, .int .i64 0, .int .i64 0] 87)).alloc (.cells #[.int .i64 v, .slice none 0 0, .int .i64 x1, .int .i64 x2, .int .i64 x3, .int .i64 x4] 87)).cell? ⟨w.heap.size + 1 + 1, 1, none⟩ = some (.slice none 0 0) := (b3.2 1 _ rfl).1
  have fa3_1 : (((w.alloc (.cells #[.int .i64 v, .slice P np cp, .int .i64 x1, .int .i64 x2, .int .i64 x3, .int .i64 x4] 87)).alloc (.cells #[.int .i64 0, .slice none 0 0, .int .i64 0, .int .i64 0, .int .i64 0, .int .i64 0] 87)).alloc (.cells #[.int .i64 v, .slice none 0 0, .int .i64 x1, .int .i64 x2, .int .i64 x3, .int .i64 x4] 87)).frozen? ⟨w.heap.size + 1 + 1, 1, none⟩ = false := (b3.2 1 _ rfl).2
  have ca3_2 : (((w.alloc (.cells #[.int .i64 v, .slice P np cp, .int .i64 x1, .int .i64 x2, .int .i64 x3, .int .i64 x4] 87)).alloc (.cells #[.int .i64 0, .slice none 0 0, .int .i64 0, .int .i64 0, .int .i64 0, .int .i64 0] 87)).alloc (.cells #[.int .i64 v, .slice none 0 0, .int .i64 x1, .int .i64 x2, .int .i64 x3, .int .i64 x4] 87)).cell? ⟨w.heap.size + 1 + 1, 2, none⟩ = some (.int .i64 x1) := (b3.2 2 _ rfl).1
  have fa3_2 : (((w.alloc (.cells #[.int .i64 v, .slice P np cp, .int .i64 x1, .int .i64 x2, .int .i64 x3, .int .i64 x4] 87)).alloc (.cells #[.int .i64 0, .slice none 0 0, .int .i64 0, .int .i64 0, .int .i64 0, .int .i64 0] 87)).alloc (.cells #[.int .i64 v, .slice none 0 0, .int .i64 x1, .int .i64 x2, .int .i64 x3, .int .i64 x4] 87)).frozen? ⟨w.heap.size + 1 + 1, 2, none⟩ = false := (b3.2 2 _ rfl).2
  have ca3_3 : (((w.alloc (.cells #[.int .i64 v, .slice P np cp, .int .i64 x1, .int .i64 x2, .int .i64 x3, .int .i64 x4] 87)).alloc (.cells #[.int .i64 0, .slice none 0 0, .int .i64 0, .int .i64 0, .int .i64 0, .int .i64 0] 87)).alloc (.cells #[.int .i64 v, .slice none 0 0, .int .i64 x1, .int .i64 x2, .int .i64 x3, .int .i64 x4] 87)).cell? ⟨w.heap.size + 1 + 1, 3, none⟩ = some (.int .i64 x2) := (b3.2 3 _ rfl).1
  have fa3_3 : (((w.alloc (.cells #[.int .i64 v, .slice P np cp, .int .i64 x1, .int .i64 x2, .int .i64 x3, .int .i64 x4] 87)).alloc (.cells #[.int .i64 0, .slice none 0 0, .int .i64 0, .int .i64 0, .int .i64 0, .int .i64 0] 87)).alloc (.cells #[.int .i64 v, .slice none 0 0, .int .i64 x1, .int .i64 x2, .int .i64 x3, .int .i64 x4] 87)).frozen? ⟨w.heap.size + 1 + 1, 3, none⟩ = false := (b3.2 3 _ rfl).2
  have ca3_4 : (((w.alloc (.cells #[.int .i64 v, .slice P np cp, .int .i64 x1, .int .i64 x2, .int .i64 x3, .int .i64 x4] 87)).alloc (.cells #[.int .i64 0, .slice none 0 0, .int .i64 0, .int .i64 0, .int .i64 0, .int .i64 0] 87)).alloc (.cells #[.int .i64 v, .slice none 0 0, .int .i64 x1, .int .i64 x2, .int .i64 x3, .int .i64 x4] 87)).cell? ⟨w.heap.size + 1 + 1, 4, none⟩ = some (.int .i64 x3) := (b3.2 4 _ rfl).1
  have fa3_4 : (((w.alloc (.cells #[.int .i64 v, .slice P np cp, .int .i64 x1, .int .i64 x2, .int .i64 x3, .int .i64 x4] 87)).alloc (.cells #[.int .i64 0, .slice none 0 0, .int .i64 0, .int .i64 0, .int .i64 0, .int .i64 0] 87)).alloc (.cells #[.int .i64 v, .slice none 0 0, .int .i64 x1, .int .i64 x2, .int .i64 x3, .int .i64 x4] 87)).frozen? ⟨w.heap.size + 1 + 1, 4, none⟩ = false := (b3.2 4 _ rfl).2
  have ca3_5 : (((w.alloc (.cells #[.int .i64 v, .slice P np cp, .int .i64 x1, .int .i64 x2, .int .i64 x3, .int .i64 x4] 87)).alloc (.cells #[.int .i64 0, .slice none 0 0, .int .i64 0, .int .i64 0, .int .i64 0, .int .i64 0] 87)).alloc (.cells #[.int .i64 v, .slice none 0 0, .int .i64 x1, .int .i64 x2, .int .i64 x3, .int .i64 x4] 87)).cell? ⟨w.heap.size + 1 + 1, 5, none⟩ = some (.int .i64 x4) := (b3.2 5 _ rfl).1
  have fa3_5 : (((w.alloc (.cells #[.int .i64 v, .slice P np cp, .int .i64 x1, .int .i64 x2, .int .i64 x3, .int .i64 x4] 87)).alloc (.cells #[.int .i64 0, .slice none 0 0, .int .i64 0, .int .i64 0, .int .i64 0, .int .i64 0] 87)).alloc (.cells #[.int .i64 v, .slice none 0 0, .int .i64 x1, .int .i64 x2, .int .i64 x3, .int .i64 x4] 87)).frozen? ⟨w.heap.size + 1 + 1, 5, none⟩ = false := (b3.2 5 _ rfl).2
  go_wp2_with fail
  clear ca1_0 fa1_0 ca1_1 fa1_1 ca1_2 fa1_2 ca1_3 fa1_3 ca1_4 fa1_4 ca1_5 fa1_5 ca2_0 fa2_0 ca2_1 fa2_1 ca2_2 fa2_2 ca2_3 fa2_3 ca2_4 fa2_4 ca2_5 fa2_5 ca3_0 fa3_0 ca3_1 fa3_1 ca3_2 fa3_2 ca3_3 fa3_3 ca3_4 fa3_4 ca3_5 fa3_5
  obtain ⟨W, hX⟩ : ∃ u : World, u = (((w.alloc (.cells #[.int .i64 v, .slice P np cp, .int .i64 x1, .int .i64 x2, .int .i64 x3, .int .i64 x4] 87)).alloc (.cells #[.int .i64 0, .slice none 0 0, .int .i64 0, .int .i64 0, .int .i64 0, .int .i64 0] 87)).alloc (.cells #[.int .i64 v, .slice none 0 0, .int .i64 x1, .int .i64 x2, .int .i64 x3, .int .i64 x4] 87)) := ⟨_, rfl⟩
  have szX3 := hid (show W.heap.size = w.heap.size + 1 + 1 + 1 by rw [hX]; simp)
  rw [← hX] at b1
  rw [← hX] at b2
  rw [← hX] at b3
  rw [← hX] at kw
  rw [← hX]
  clear hX
  have sz5 := kw.size
  have F0 := GrowC.nil (sz := 4) (z := t0) (R := RwT) W (w.heap.size + 3) 120
  go_loopw [14] (fun i wr => ∃ (k : Nat) (vq : Value) (cs : List Value) (L U : Nat → Nat), i = .int .i64 k ∧ k ≤ np ∧ GrowC 4 t0 RwT wr (w.heap.size + 3) 120 vq cs L U (pl.take k) ∧ Bl wr (w.heap.size + 1) [.int .i64 0, .slice none 0 0, .int .i64 0, .int .i64 0, .int .i64 0, .int .i64 0] ∧ Bl wr (w.heap.size + 1 + 1) [.int .i64 v, vq, .int .i64 x1, .int .i64 x2, .int .i64 x3, .int .i64 x4] ∧ Keeps w wr) (fun i _ => np - (intOf i).toNat)
  case atStart => exact ⟨0, _, _, _, _, rfl, Nat.zero_le _, F0, b2, b3, kw⟩
  clear F0 b1 b2 b3 kw szX3
  case round =>
    obtain ⟨k, vq, cs, L, U, rfl, hk, hF, b2, b3, kw⟩ := hrel
    have lb3 := b3.lt
    by_cases hlt : k < np
    rotate_left
    · obtain rfl : k = np := by omega
      rw [List.take_of_length_le (by rw [HTL.out]; exact Nat.le_refl _)] at hF
      obtain ⟨A9, c9, e9, hM⟩ := hF.rowsM (by rw [HTL.out]; exact hn) (by omega)
      rw [HTL.out] at hM e9
      subst e9
      have HM0 := hid hM
      clear hM hF
      skip
      have ca6_0 : wr.cell? ⟨w.heap.size + 1, 0, none⟩ = some (.int .i64 0) := (b2.2 0 _ rfl).1
      have fa6_0 : wr.frozen? ⟨w.heap.size + 1, 0, none⟩ = false := (b2.2 0 _ rfl).2
      have ca6_1 : wr.cell? ⟨w.heap.size + 1, 1, none⟩ = some (.slice none 0 0) := (b2.2 1 _ rfl).1
      have fa6_1 : wr.frozen? ⟨w.heap.size + 1, 1, none⟩ = false := (b2.2 1 _ rfl).2
      have ca6_2 : wr.cell? ⟨w.heap.size + 1, 2, none⟩ = some (.int .i64 0) := (b2.2 2 _ rfl).1
      have fa6_2 : wr.frozen? ⟨w.heap.size + 1, 2, none⟩ = false := (b2.2 2 _ rfl).2
      have ca6_3 : wr.cell? ⟨w.heap.size + 1, 3, none⟩ = some (.int .i64 0) := (b2.2 3 _ rfl).1
      have fa6_3 : wr.frozen? ⟨w.heap.size + 1, 3, none⟩ = false := (b2.2 3 _ rfl).2
      have ca6_4 : wr.cell? ⟨w.heap.size + 1, 4, none⟩ = some (.int .i64 0) := (b2.2 4 _ rfl).1
      have fa6_4 : wr.frozen? ⟨w.heap.size + 1, 4, none⟩ = false := (b2.2 4 _ rfl).2
      have ca6_5 : wr.cell? ⟨w.heap.size + 1, 5, none⟩ = some (.int .i64 0) := (b2.2 5 _ rfl).1
      have fa6_5 : wr.frozen? ⟨w.heap.size + 1, 5, none⟩ = false := (b2.2 5 _ rfl).2
      have ca7_0 : wr.cell? ⟨w.heap.size + 1 + 1, 0, none⟩ = some (.int .i64 v) := (b3.2 0 _ rfl).1
      have fa7_0 : wr.frozen? ⟨w.heap.size + 1 + 1, 0, none⟩ = false := (b3.2 0 _ rfl).2
      have ca7_1 : wr.cell? ⟨w.heap.size + 1 + 1, 1, none⟩ = some (.slice A9 k c9) := (b3.2 1 _ rfl).1
      have fa7_1 : wr.frozen? ⟨w.heap.size + 1 + 1, 1, none⟩ = false := (b3.2 1 _ rfl).2
      have ca7_2 : wr.cell? ⟨w.heap.size + 1 + 1, 2, none⟩ = some (.int .i64 x1) := (b3.2 2 _ rfl).1
      have fa7_2 : wr.frozen? ⟨w.heap.size + 1 + 1, 2, none⟩ = false := (b3.2 2 _ rfl).2
      have ca7_3 : wr.cell? ⟨w.heap.size + 1 + 1, 3, none⟩ = some (.int .i64 x2) := (b3.2 3 _ rfl).1
      have fa7_3 : wr.frozen? ⟨w.heap.size + 1 + 1, 3, none⟩ = false := (b3.2 3 _ rfl).2
      have ca7_4 : wr.cell? ⟨w.heap.size + 1 + 1, 4, none⟩ = some (.int .i64 x3) := (b3.2 4 _ rfl).1
      have fa7_4 : wr.frozen? ⟨w.heap.size + 1 + 1, 4, none⟩ = false := (b3.2 4 _ rfl).2
      have ca7_5 : wr.cell? ⟨w.heap.size + 1 + 1, 5, none⟩ = some (.int .i64 x4) := (b3.2 5 _ rfl).1
      have fa7_5 : wr.frozen? ⟨w.heap.size + 1 + 1, 5, none⟩ = false := (b3.2 5 _ rfl).2
      have hM2 := HM0.out
      clear hM2
      have HM3 := hid (show RowsM 4 t0 RwT ((((((wr.setCell ⟨w.heap.size + 1, 0, none⟩ (.int .i64 v)).setCell ⟨w.heap.size + 1, 1, none⟩ (.slice A9 k c9)).setCell ⟨w.heap.size + 1, 2, none⟩ (.int .i64 x1)).setCell ⟨w.heap.size + 1, 3, none⟩ (.int .i64 x2)).setCell ⟨w.heap.size + 1, 4, none⟩ (.int .i64 x3)).setCell ⟨w.heap.size + 1, 5, none⟩ (.int .i64 x4)) (w.heap.size + 3) wr.heap.size A9 k pl from (RowsM.fr RwT.ok (RowsM.fr RwT.ok (RowsM.fr RwT.ok (RowsM.fr RwT.ok (RowsM.fr RwT.ok (RowsM.fr RwT.ok (HM0.out) (fr_one (p := (w.heap.size + 1)) (i := 0) (.int .i64 v)) (by omega)) (fr_one (p := (w.heap.size + 1)) (i := 1) (.slice A9 k c9)) (by omega)) (fr_one (p := (w.heap.size + 1)) (i := 2) (.int .i64 x1)) (by omega)) (fr_one (p := (w.heap.size + 1)) (i := 3) (.int .i64 x2)) (by omega)) (fr_one (p := (w.heap.size + 1)) (i := 4) (.int .i64 x3)) (by omega)) (fr_one (p := (w.heap.size + 1)) (i := 5) (.int .i64 x4)) (by omega)))
      have HM2 := hid (RowsM.widen (lo' := w.heap.size) (hi' := ((((((wr.setCell ⟨w.heap.size + 1, 0, none⟩ (.int .i64 v)).setCell ⟨w.heap.size + 1, 1, none⟩ (.slice A9 k c9)).setCell ⟨w.heap.size + 1, 2, none⟩ (.int .i64 x1)).setCell ⟨w.heap.size + 1, 3, none⟩ (.int .i64 x2)).setCell ⟨w.heap.size + 1, 4, none⟩ (.int .i64 x3)).setCell ⟨w.heap.size + 1, 5, none⟩ (.int .i64 x4)).heap.size) HM3.out (by omega) (by simp [World.setCell]) (Nat.le_refl _))
      clear HM3
      replace b3 := b3.far (p := ⟨w.heap.size + 1, 0, none⟩) (by show _ ≠ (w.heap.size + 1); omega) (.int .i64 v)
      replace kw := Below.setCell kw (p := ⟨w.heap.size + 1, 0, none⟩) (by show _ ≤ (w.heap.size + 1); omega) (.int .i64 v)
      replace b2 : Bl (wr.setCell ⟨w.heap.size + 1, 0, none⟩ (.int .i64 v)) (w.heap.size + 1) [.int .i64 v, .slice none 0 0, .int .i64 0, .int .i64 0, .int .i64 0, .int .i64 0] := b2.set 0 (.int .i64 v)
      replace b3 := b3.far (p := ⟨w.heap.size + 1, 1, none⟩) (by show _ ≠ (w.heap.size + 1); omega) (.slice A9 k c9)
      replace kw := Below.setCell kw (p := ⟨w.heap.size + 1, 1, none⟩) (by show _ ≤ (w.heap.size + 1); omega) (.slice A9 k c9)
      replace b2 : Bl ((wr.setCell ⟨w.heap.size + 1, 0, none⟩ (.int .i64 v)).setCell ⟨w.heap.size + 1, 1, none⟩ (.slice A9 k c9)) (w.heap.size + 1) [.int .i64 v, .slice A9 k c9, .int .i64 0, .int .i64 0, .int .i64 0, .int .i64 0] := b2.set 1 (.slice A9 k c9)
      replace b3 := b3.far (p := ⟨w.heap.size + 1, 2, none⟩) (by show _ ≠ (w.heap.size + 1); omega) (.int .i64 x1)
      replace kw := Below.setCell kw (p := ⟨w.heap.size + 1, 2, none⟩) (by show _ ≤ (w.heap.size + 1); omega) (.int .i64 x1)
      replace b2 : Bl (((wr.setCell ⟨w.heap.size + 1, 0, none⟩ (.int .i64 v)).setCell ⟨w.heap.size + 1, 1, none⟩ (.slice A9 k c9)).setCell ⟨w.heap.size + 1, 2, none⟩ (.int .i64 x1)) (w.heap.size + 1) [.int .i64 v, .slice A9 k c9, .int .i64 x1, .int .i64 0, .int .i64 0, .int .i64 0] := b2.set 2 (.int .i64 x1)
      replace b3 := b3.far (p := ⟨w.heap.size + 1, 3, none⟩) (by show _ ≠ (w.heap.size + 1); omega) (.int .i64 x2)
      replace kw := Below.setCell kw (p := ⟨w.heap.size + 1, 3, none⟩) (by show _ ≤ (w.heap.size + 1); omega) (.int .i64 x2)
      replace b2 : Bl ((((wr.setCell ⟨w.heap.size + 1, 0, none⟩ (.int .i64 v)).setCell ⟨w.heap.size + 1, 1, none⟩ (.slice A9 k c9)).setCell ⟨w.heap.size + 1, 2, none⟩ (.int .i64 x1)).setCell ⟨w.heap.size + 1, 3, none⟩ (.int .i64 x2)) (w.heap.size + 1) [.int .i64 v, .slice A9 k c9, .int .i64 x1, .int .i64 x2, .int .i64 0, .int .i64 0] := b2.set 3 (.int .i64 x2)
      replace b3 := b3.far (p := ⟨w.heap.size + 1, 4, none⟩) (by show _ ≠ (w.heap.size + 1); omega) (.int .i64 x3)
      replace kw := Below.setCell kw (p := ⟨w.heap.size + 1, 4, none⟩) (by show _ ≤ (w.heap.size + 1); omega) (.int .i64 x3)
      replace b2 : Bl (((((wr.setCell ⟨w.heap.size + 1, 0, none⟩ (.int .i64 v)).setCell ⟨w.heap.size + 1, 1, none⟩ (.slice A9 k c9)).setCell ⟨w.heap.size + 1, 2, none⟩ (.int .i64 x1)).setCell ⟨w.heap.size + 1, 3, none⟩ (.int .i64 x2)).setCell ⟨w.heap.size + 1, 4, none⟩ (.int .i64 x3)) (w.heap.size + 1) [.int .i64 v, .slice A9 k c9, .int .i64 x1, .int .i64 x2, .int .i64 x3, .int .i64 0] := b2.set 4 (.int .i64 x3)
      replace b3 := b3.far (p := ⟨w.heap.size + 1, 5, none⟩) (by show _ ≠ (w.heap.size + 1); omega) (.int .i64 x4)
      replace kw := Below.setCell kw (p := ⟨w.heap.size + 1, 5, none⟩) (by show _ ≤ (w.heap.size + 1); omega) (.int .i64 x4)
      replace b2 : Bl ((((((wr.setCell ⟨w.heap.size + 1, 0, none⟩ (.int .i64 v)).setCell ⟨w.heap.size + 1, 1, none⟩ (.slice A9 k c9)).setCell ⟨w.heap.size + 1, 2, none⟩ (.int .i64 x1)).setCell ⟨w.heap.size + 1, 3, none⟩ (.int .i64 x2)).setCell ⟨w.heap.size + 1, 4, none⟩ (.int .i64 x3)).setCell ⟨w.heap.size + 1, 5, none⟩ (.int .i64 x4)) (w.heap.size + 1) [.int .i64 v, .slice A9 k c9, .int .i64 x1, .int .i64 x2, .int .i64 x3, .int .i64 x4] := b2.set 5 (.int .i64 x4)
      have HK := hid kw
      clear kw
      go_wp2_with fail
      clear ca6_0 fa6_0 ca6_1 fa6_1 ca6_2 fa6_2 ca6_3 fa6_3 ca6_4 fa6_4 ca6_5 fa6_5 ca7_0 fa7_0 ca7_1 fa7_1 ca7_2 fa7_2 ca7_3 fa7_3 ca7_4 fa7_4 ca7_5 fa7_5
      have ca0_0 : ((((((wr.setCell ⟨w.heap.size + 1, 0, none⟩ (.int .i64 v)).setCell ⟨w.heap.size + 1, 1, none⟩ (.slice A9 k c9)).setCell ⟨w.heap.size + 1, 2, none⟩ (.int .i64 x1)).setCell ⟨w.heap.size + 1, 3, none⟩ (.int .i64 x2)).setCell ⟨w.heap.size + 1, 4, none⟩ (.int .i64 x3)).setCell ⟨w.heap.size + 1, 5, none⟩ (.int .i64 x4)).cell? ⟨w.heap.size + 1, 0, none⟩ = some (.int .i64 v) := (b2.2 0 _ rfl).1
      have ca0_1 : ((((((wr.setCell ⟨w.heap.size + 1, 0, none⟩ (.int .i64 v)).setCell ⟨w.heap.size + 1, 1, none⟩ (.slice A9 k c9)).setCell ⟨w.heap.size + 1, 2, none⟩ (.int .i64 x1)).setCell ⟨w.heap.size + 1, 3, none⟩ (.int .i64 x2)).setCell ⟨w.heap.size + 1, 4, none⟩ (.int .i64 x3)).setCell ⟨w.heap.size + 1, 5, none⟩ (.int .i64 x4)).cell? ⟨w.heap.size + 1, 1, none⟩ = some (.slice A9 k c9) := (b2.2 1 _ rfl).1
      have ca0_2 : ((((((wr.setCell ⟨w.heap.size + 1, 0, none⟩ (.int .i64 v)).setCell ⟨w.heap.size + 1, 1, none⟩ (.slice A9 k c9)).setCell ⟨w.heap.size + 1, 2, none⟩ (.int .i64 x1)).setCell ⟨w.heap.size + 1, 3, none⟩ (.int .i64 x2)).setCell ⟨w.heap.size + 1, 4, none⟩ (.int .i64 x3)).setCell ⟨w.heap.size + 1, 5, none⟩ (.int .i64 x4)).cell? ⟨w.heap.size + 1, 2, none⟩ = some (.int .i64 x1) := (b2.2 2 _ rfl).1
      have ca0_3 : ((((((wr.setCell ⟨w.heap.size + 1, 0, none⟩ (.int .i64 v)).setCell ⟨w.heap.size + 1, 1, none⟩ (.slice A9 k c9)).setCell ⟨w.heap.size + 1, 2, none⟩ (.int .i64 x1)).setCell ⟨w.heap.size + 1, 3, none⟩ (.int .i64 x2)).setCell ⟨w.heap.size + 1, 4, none⟩ (.int .i64 x3)).setCell ⟨w.heap.size + 1, 5, none⟩ (.int .i64 x4)).cell? ⟨w.heap.size + 1, 3, none⟩ = some (.int .i64 x2) := (b2.2 3 _ rfl).1
      have ca0_4 : ((((((wr.setCell ⟨w.heap.size + 1, 0, none⟩ (.int .i64 v)).setCell ⟨w.heap.size + 1, 1, none⟩ (.slice A9 k c9)).setCell ⟨w.heap.size + 1, 2, none⟩ (.int .i64 x1)).setCell ⟨w.heap.size + 1, 3, none⟩ (.int .i64 x2)).setCell ⟨w.heap.size + 1, 4, none⟩ (.int .i64 x3)).setCell ⟨w.heap.size + 1, 5, none⟩ (.int .i64 x4)).cell? ⟨w.heap.size + 1, 4, none⟩ = some (.int .i64 x3) := (b2.2 4 _ rfl).1
      have ca0_5 : ((((((wr.setCell ⟨w.heap.size + 1, 0, none⟩ (.int .i64 v)).setCell ⟨w.heap.size + 1, 1, none⟩ (.slice A9 k c9)).setCell ⟨w.heap.size + 1, 2, none⟩ (.int .i64 x1)).setCell ⟨w.heap.size + 1, 3, none⟩ (.int .i64 x2)).setCell ⟨w.heap.size + 1, 4, none⟩ (.int .i64 x3)).setCell ⟨w.heap.size + 1, 5, none⟩ (.int .i64 x4)).cell? ⟨w.heap.size + 1, 5, none⟩ = some (.int .i64 x4) := (b2.2 5 _ rfl).1
      try simp only [Exit.inBlock, Exit.then]
      exact bodyPost_ret (v := .agg #[.int .i64 v, .slice A9 k c9, .int .i64 x1, .int .i64 x2, .int .i64 x3, .int .i64 x4]) (by simp [results, Tryz.results51, go_sem, ca0_0, ca0_1, ca0_2, ca0_3, ca0_4, ca0_5]) rfl ⟨_, _, rfl, HM2.out, HK.out⟩
    obtain ⟨b, off, lv, V, nv, cv, H, nh, ch, sm, vs, ws, rfl, _, _, hc0, hc1, hc2, hc3, hvv, hhh, hx⟩ := (ht.keeps kw).at_ hlt
    have hi1 : (k : Int) < (np : Int) := by omega
    have HX := hid hx.out
    have hnv := hid hvv.1
    have hnh := hid hhh.1
    clear hx
    have kr := keeps_refl wr
    have lr := hid hF.has.lt
    replace b2 := b2.keeps (keeps_alloc wr (.cells #[.int .i64 lv, .slice V nv cv, .slice H nh ch, .int .i64 sm] 120))
    replace b3 := b3.keeps (keeps_alloc wr (.cells #[.int .i64 lv, .slice V nv cv, .slice H nh ch, .int .i64 sm] 120))
    replace kw := Keeps.trans kw (keeps_alloc wr (.cells #[.int .i64 lv, .slice V nv cv, .slice H nh ch, .int .i64 sm] 120))
    replace kr := Keeps.trans kr (keeps_alloc wr (.cells #[.int .i64 lv, .slice V nv cv, .slice H nh ch, .int .i64 sm] 120))
    have b5 : Bl (wr.alloc (.cells #[.int .i64 lv, .slice V nv cv, .slice H nh ch, .int .i64 sm] 120)) wr.heap.size [.int .i64 lv, .slice V nv cv, .slice H nh ch, .int .i64 sm] := Bl.new' (by simp) (by simp)
    have ca6_0 : (wr.alloc (.cells #[.int .i64 lv, .slice V nv cv, .slice H nh ch, .int .i64 sm] 120)).cell? ⟨w.heap.size + 1 + 1, 0, none⟩ = some (.int .i64 v) := (b3.2 0 _ rfl).1
    have fa6_0 : (wr.alloc (.cells #[.int .i64 lv, .slice V nv cv, .slice H nh ch, .int .i64 sm] 120)).frozen? ⟨w.heap.size + 1 + 1, 0, none⟩ = false := (b3.2 0 _ rfl).2
    have ca6_1 : (wr.alloc (.cells #[.int .i64 lv, .slice V nv cv, .slice H nh ch, .int .i64 sm] 120)).cell? ⟨w.heap.size + 1 + 1, 1, none⟩ = some (vq) := (b3.2 1 _ rfl).1
    have fa6_1 : (wr.alloc (.cells #[.int .i64 lv, .slice V nv cv, .slice H nh ch, .int .i64 sm] 120)).frozen? ⟨w.heap.size + 1 + 1, 1, none⟩ = false := (b3.2 1 _ rfl).2
    have ca6_2 : (wr.alloc (.cells #[.int .i64 lv, .slice V nv cv, .slice H nh ch, .int .i64 sm] 120)).cell? ⟨w.heap.size + 1 + 1, 2, none⟩ = some (.int .i64 x1) := (b3.2 2 _ rfl).1
    have fa6_2 : (wr.alloc (.cells #[.int .i64 lv, .slice V nv cv, .slice H nh ch, .int .i64 sm] 120)).frozen? ⟨w.heap.size + 1 + 1, 2, none⟩ = false := (b3.2 2 _ rfl).2
    have ca6_3 : (wr.alloc (.cells #[.int .i64 lv, .slice V nv cv, .slice H nh ch, .int .i64 sm] 120)).cell? ⟨w.heap.size + 1 + 1, 3, none⟩ = some (.int .i64 x2) := (b3.2 3 _ rfl).1
    have fa6_3 : (wr.alloc (.cells #[.int .i64 lv, .slice V nv cv, .slice H nh ch, .int .i64 sm] 120)).frozen? ⟨w.heap.size + 1 + 1, 3, none⟩ = false := (b3.2 3 _ rfl).2
    have ca6_4 : (wr.alloc (.cells #[.int .i64 lv, .slice V nv cv, .slice H nh ch, .int .i64 sm] 120)).cell? ⟨w.heap.size + 1 + 1, 4, none⟩ = some (.int .i64 x3) := (b3.2 4 _ rfl).1
    have fa6_4 : (wr.alloc (.cells #[.int .i64 lv, .slice V nv cv, .slice H nh ch, .int .i64 sm] 120)).frozen? ⟨w.heap.size + 1 + 1, 4, none⟩ = false := (b3.2 4 _ rfl).2
    have ca6_5 : (wr.alloc (.cells #[.int .i64 lv, .slice V nv cv, .slice H nh ch, .int .i64 sm] 120)).cell? ⟨w.heap.size + 1 + 1, 5, none⟩ = some (.int .i64 x4) := (b3.2 5 _ rfl).1
    have fa6_5 : (wr.alloc (.cells #[.int .i64 lv, .slice V nv cv, .slice H nh ch, .int .i64 sm] 120)).frozen? ⟨w.heap.size + 1 + 1, 5, none⟩ = false := (b3.2 5 _ rfl).2
    have ca7_0 : (wr.alloc (.cells #[.int .i64 lv, .slice V nv cv, .slice H nh ch, .int .i64 sm] 120)).cell? ⟨wr.heap.size, 0, none⟩ = some (.int .i64 lv) := (b5.2 0 _ rfl).1
    have fa7_0 : (wr.alloc (.cells #[.int .i64 lv, .slice V nv cv, .slice H nh ch, .int .i64 sm] 120)).frozen? ⟨wr.heap.size, 0, none⟩ = false := (b5.2 0 _ rfl).2
    have ca7_1 : (wr.alloc (.cells #[.int .i64 lv, .slice V nv cv, .slice H nh ch, .int .i64 sm] 120)).cell? ⟨wr.heap.size, 1, none⟩ = some (.slice V nv cv) := (b5.2 1 _ rfl).1
    have fa7_1 : (wr.alloc (.cells #[.int .i64 lv, .slice V nv cv, .slice H nh ch, .int .i64 sm] 120)).frozen? ⟨wr.heap.size, 1, none⟩ = false := (b5.2 1 _ rfl).2
    have ca7_2 : (wr.alloc (.cells #[.int .i64 lv, .slice V nv cv, .slice H nh ch, .int .i64 sm] 120)).cell? ⟨wr.heap.size, 2, none⟩ = some (.slice H nh ch) := (b5.2 2 _ rfl).1
    have fa7_2 : (wr.alloc (.cells #[.int .i64 lv, .slice V nv cv, .slice H nh ch, .int .i64 sm] 120)).frozen? ⟨wr.heap.size, 2, none⟩ = false := (b5.2 2 _ rfl).2
    have ca7_3 : (wr.alloc (.cells #[.int .i64 lv, .slice V nv cv, .slice H nh ch, .int .i64 sm] 120)).cell? ⟨wr.heap.size, 3, none⟩ = some (.int .i64 sm) := (b5.2 3 _ rfl).1
    have fa7_3 : (wr.alloc (.cells #[.int .i64 lv, .slice V nv cv, .slice H nh ch, .int .i64 sm] 120)).frozen? ⟨wr.heap.size, 3, none⟩ = false := (b5.2 3 _ rfl).2
    go_wp2_with fail
    clear ca6_0 fa6_0 ca6_1 fa6_1 ca6_2 fa6_2 ca6_3 fa6_3 ca6_4 fa6_4 ca6_5 fa6_5 ca7_0 fa7_0 ca7_1 fa7_1 ca7_2 fa7_2 ca7_3 fa7_3
    clear hc0 hc1 hc2 hc3
    have sW := kr.size
    have l5 := b5.lt
    obtain ⟨W1, hWW⟩ : ∃ x : World, x = (wr.alloc (.cells #[.int .i64 lv, .slice V nv cv, .slice H nh ch, .int .i64 sm] 120)) := ⟨_, rfl⟩
    rw [← hWW] at b2 b3 b5 kw kr sW l5
    rw [← hWW]
    clear hWW
    have kS := hid (show ∀ w', Keeps W1 w' → (w'.cell? ⟨wr.heap.size, 0, none⟩ = some (.int .i64 lv) ∧ w'.cell? ⟨wr.heap.size, 1, none⟩ = some (.slice V nv cv) ∧ w'.cell? ⟨wr.heap.size, 2, none⟩ = some (.slice H nh ch) ∧ w'.cell? ⟨wr.heap.size, 3, none⟩ = some (.int .i64 sm)) from fun w' k => ⟨cell_keeps (b5.2 0 _ rfl).1 k, cell_keeps (b5.2 1 _ rfl).1 k, cell_keeps (b5.2 2 _ rfl).1 k, cell_keeps (b5.2 3 _ rfl).1 k⟩)
    have HNE := hid (show ∀ g, g < w.heap.size + 3 ∨ wr.heap.size ≤ g → vq.ownBlock ≠ some g from fun g hg e => by have := lr.out g e; omega)
    have kG := hid (show ∀ wA wB : World, Keeps W1 wA → wA.grownBy wB vq.ownBlock → (wB.cell? ⟨wr.heap.size, 0, none⟩ = some (.int .i64 lv) ∧ wB.cell? ⟨wr.heap.size, 1, none⟩ = some (.slice V nv cv) ∧ wB.cell? ⟨wr.heap.size, 2, none⟩ = some (.slice H nh ch) ∧ wB.cell? ⟨wr.heap.size, 3, none⟩ = some (.int .i64 sm)) from fun wA wB k hg => ⟨cell_grown (cell_keeps (b5.2 0 _ rfl).1 k) hg (HNE.out _ (.inr (Nat.le_refl _))), cell_grown (cell_keeps (b5.2 1 _ rfl).1 k) hg (HNE.out _ (.inr (Nat.le_refl _))), cell_grown (cell_keeps (b5.2 2 _ rfl).1 k) hg (HNE.out _ (.inr (Nat.le_refl _))), cell_grown (cell_keeps (b5.2 3 _ rfl).1 k) hg (HNE.out _ (.inr (Nat.le_refl _)))⟩)
    have HLT := hid (show (pl.take k).length = k by rw [List.length_take, HTL.out]; omega)
    have HRW := hid (show ∀ (wC : World) (V1 H1 : Option Addr) (c1 c2 : Nat), TwM wC wr.heap.size wC.heap.size V1 nv vs H1 nh ws → RwT wC wr.heap.size wC.heap.size (fun i => [Value.int .i64 lv, .slice V1 nv c1, .slice H1 nh c2, .int .i64 sm].getD i undef) (pl.getD k t0) from fun wC V1 H1 c1 c2 th => by
      rw [← HX.out]
      have e1 := hnv.out
      have e2 := hnh.out
      subst e1 e2
      exact ⟨V1, c1, H1, c2, rfl, rfl, rfl, rfl, th⟩)
    have HTK := hid (take_snoc pl k t0 (by rw [HTL.out]; exact hlt))
    have hvD := hvv.keeps (Keeps.trans kr (keeps_d0 W1))
    have hhD := hhh.keeps (Keeps.trans kr (keeps_d0 W1))
    have ew_0 : W1.drew.cell? ⟨w.heap.size + 1 + 1, 1, none⟩ = some (vq) := (b3.2 1 _ rfl).1
    have ew_1 : W1.drew.cell? ⟨wr.heap.size, 0, none⟩ = some (.int .i64 lv) := (b5.2 0 _ rfl).1
    have ew_2 : W1.drew.cell? ⟨wr.heap.size, 1, none⟩ = some (.slice V nv cv) := (b5.2 1 _ rfl).1
    have ew_3 : W1.drew.cell? ⟨wr.heap.size, 2, none⟩ = some (.slice H nh ch) := (b5.2 2 _ rfl).1
    have ew_4 : W1.drew.cell? ⟨wr.heap.size, 3, none⟩ = some (.int .i64 sm) := (b5.2 3 _ rfl).1
    go_region_law ((first | (refine step_nOwn (lv := lv) (sm := sm) (c1 := cv) (c2 := ch) hvD hhD rfl (by kernel_rfl) ?_; intro A1 C1 A2 C2 wC tw kC; have kW : Keeps W1 wC := keeps_d kC; replace tw : TwM wC W1.heap.size wC.heap.size A1 nv vs A2 nh ws := tw; replace tw := tw.widen (lo' := wr.heap.size) sW (Nat.le_refl _) (Nat.le_refl _); have sC : W1.heap.size ≤ wC.heap.size := kW.size; have eR : (wC.alloc (.cells #[.int .i64 lv, .slice A1 nv C1, .slice A2 nh C2, .int .i64 sm] 120)).cell? ⟨w.heap.size + 1 + 1, 1, none⟩ = some vq := cell_keeps (b3.2 1 _ rfl).1 (keeps_al kW); have eC_0 : wC.cell? ⟨w.heap.size + 1 + 1, 1, none⟩ = some (vq) := cell_keeps (b3.2 1 _ rfl).1 kW; have eC_1 : wC.cell? ⟨wr.heap.size, 0, none⟩ = some (.int .i64 lv) := cell_keeps (b5.2 0 _ rfl).1 kW; have eC_2 : wC.cell? ⟨wr.heap.size, 1, none⟩ = some (.slice V nv cv) := cell_keeps (b5.2 1 _ rfl).1 kW; have eC_3 : wC.cell? ⟨wr.heap.size, 2, none⟩ = some (.slice H nh ch) := cell_keeps (b5.2 2 _ rfl).1 kW; have eC_4 : wC.cell? ⟨wr.heap.size, 3, none⟩ = some (.int .i64 sm) := cell_keeps (b5.2 3 _ rfl).1 kW; clear kC) | (refine step_row (a0 := pl.getD k t0) (x := wr.heap.size) (new := [.int .i64 lv, .slice A1 nv C1, .slice A2 nh C2, .int .i64 sm]) HIT.out rfl (by decide) (by decide) RwT.ok (hF.keeps RwT.ok (kr.trans kW)) (by rw [HLT.out]; omega) (by omega) rfl (fun y hy => by simp at hy; rcases hy with rfl | rfl | rfl | rfl <;> rfl) (by omega) (fun j hj => (hF.iv j hj).2.1) (fun g e => (lr.out g e).2) (HRW.out wC A1 A2 C1 C2 tw) _ _ rfl rfl Tryz.underlying33 rfl rfl ?_; intro v9 w9 cs9 L9 U9 hF9 hg9; obtain ⟨A9, c9, e9⟩ := hF9.has.form; rw [List.length_append, HLT.out, List.length_singleton] at e9; subst e9; have B3 := bl_grown (b3.keeps kW) hg9 (HNE.out _ (.inl (by omega))); have z1 := (B3.2 1 _ rfl).1; have z2 := (B3.2 1 _ rfl).2)))
    all_goals (
      have G3_ := hid (hF9.store RwT.ok (g := w.heap.size + 1 + 1) (i := 1) (.slice A9 (k + 1) c9) (by omega))
      have B3_ := hid (B3.set 1 (.slice A9 (k + 1) c9))
      have B2_ := hid ((bl_grown (b2.keeps kW) hg9 (HNE.out _ (.inl (by omega)))).far (p := ⟨w.heap.size + 1 + 1, 1, none⟩) (by show w.heap.size + 1 ≠ w.heap.size + 1 + 1; omega) (.slice A9 (k + 1) c9))
      have K_ := hid (Below.setCell (keeps_grown (kw.trans kW) hg9 (fun g e => by have := lr.out g e; omega)) (p := ⟨w.heap.size + 1 + 1, 1, none⟩) (by show w.heap.size ≤ w.heap.size + 1 + 1; omega) (.slice A9 (k + 1) c9))
      clear hF9 hg9 hF b2 b3 b5 tw hvD hhD ew_0 ew_1 ew_2 ew_3 ew_4 eC_0 eC_1 eC_2 eC_3 eC_4 eR kw kW kr B3 z1 z2
      go_wp2_with fail
      go_roundw
      case rel => exact ⟨k + 1, _, _, _, _, by go_num, hlt, (by rw [HTK.out]; exact G3_.out), B2_.out, B3_.out, K_.out⟩
      case measure => simp [intOf]; omega)
set_option maxRecDepth 100000 in
set_option maxHeartbeats 12800000 in
theorem implAddRelease_any {A A' R Q : Option Addr} {lo hi a c0 lo3 hi3 n q lo9 hi9 : Nat} {lo4 hi4 m : Nat} {un un' : Bool} {ts : List TT} {d1 d2 d3 d4 x1 x2 x3 x4 : Int} {ps : List Int} {l : List VV} {rs : List RL} {w : World} (h : Ints w lo hi A a ps) (hv : Vars w lo9 hi9 A' q l) (ok : NamesOk l) (hr : Rels true un w lo3 hi3 R n rs) (ht : Tabs true un' w lo4 hi4 Q m ts) :
    Calls Tryz.prog 8 #[.agg #[.slice A a c0], .slice A' q q, .slice R n n, .agg #[.int .i64 d1, .int .i64 d2, .int .i64 d3, .int .i64 d4], .slice Q m m, .agg #[.int .i64 x1, .int .i64 x2, .int .i64 x3, .int .i64 x4]] w (AdRes w (adQ ps l rs (d1, d2, d3, d4) ts (x1, x2, x3, x4))) := by
  have hq := hv.le
  have h' : Sch w A' q q l := ⟨⟨_, _, hv⟩, ok, Nat.le_refl _, by unfold maxLen; omega⟩
  have hn := hr.le
  have HRL := hid hr.len
  have HTL := hid ht.len
  obtain ⟨z, HZ⟩ : ∃ z, Hid (adQ ps l rs (d1, d2, d3, d4) ts (x1, x2, x3, x4) = z) := ⟨_, rfl⟩
  rw [HZ.out]
  have HNO := hid (fun (e : (caQ ps l rs (d1, d2, d3, d4) ts (x1, x2, x3, x4)).1 = false) => HZ.out.symm.trans (adQ_no e))
  have HYE := hid (fun (e : (caQ ps l rs (d1, d2, d3, d4) ts (x1, x2, x3, x4)).1 = true) => HZ.out.symm.trans (adQ_yes e))
  have HIR := hid info_rel
  go_enter Tryz.func8, Tryz.ntmps8
  have kw := keeps_refl w
  replace kw := Keeps.trans kw (keeps_alloc w (.cells #[.slice A a c0] 26))
  have b6 : B1 (w.alloc (.cells #[.slice A a c0] 26)) w.heap.size (.slice A a c0) := B1.new' (by simp)
  replace b6 := b6.keeps (keeps_alloc (w.alloc (.cells #[.slice A a c0] 26)) (.cells #[.int .i64 d1, .int .i64 d2, .int .i64 d3, .int .i64 d4] 32))
  replace kw := Keeps.trans kw (keeps_alloc (w.alloc (.cells #[.slice A a c0] 26)) (.cells #[.int .i64 d1, .int .i64 d2, .int .i64 d3, .int .i64 d4] 32))
  have b9 : Bl ((w.alloc (.cells #[.slice A a c0] 26)).alloc (.cells #[.int .i64 d1, .int .i64 d2, .int .i64 d3, .int .i64 d4] 32)) (w.heap.size + 1) [.int .i64 d1, .int .i64 d2, .int .i64 d3, .int .i64 d4] := Bl.new' (by simp) (by simp)
  replace b6 := b6.keeps (keeps_alloc ((w.alloc (.cells #[.slice A a c0] 26)).alloc (.cells #[.int .i64 d1, .int .i64 d2, .int .i64 d3, .int .i64 d4] 32)) (.cells #[.int .i64 x1, .int .i64 x2, .int .i64 x3, .int .i64 x4] 32))
  replace b9 := b9.keeps (keeps_alloc ((w.alloc (.cells #[.slice A a c0] 26)).alloc (.cells #[.int .i64 d1, .int .i64 d2, .int .i64 d3, .int .i64 d4] 32)) (.cells #[.int .i64 x1, .int .i64 x2, .int .i64 x3, .int .i64 x4] 32))
  replace kw := Keeps.trans kw (keeps_alloc ((w.alloc (.cells #[.slice A a c0] 26)).alloc (.cells #[.int .i64 d1, .int .i64 d2, .int .i64 d3, .int .i64 d4] 32)) (.cells #[.int .i64 x1, .int .i64 x2, .int .i64 x3, .int .i64 x4] 32))
  have b11 : Bl (((w.alloc (.cells #[.slice A a c0] 26)).alloc (.cells #[.int .i64 d1, .int .i64 d2, .int .i64 d3, .int .i64 d4] 32)).alloc (.cells #[.int .i64 x1, .int .i64 x2, .int .i64 x3, .int .i64 x4] 32)) (w.heap.size + 1 + 1) [.int .i64 x1, .int .i64 x2, .int .i64 x3, .int .i64 x4] := Bl.new' (by simp) (by simp)
  obtain ⟨ca1, fa1⟩ := id b6
  have ca2_0 : (((w.alloc (.cells #[.slice A a c0] 26)).alloc (.cells #[.int .i64 d1, .int .i64 d2, .int .i64 d3, .int .i64 d4] 32)).alloc (.cells #[.int .i64 x1, .int .i64 x2, .int .i64 x3, .int .i64 x4] 32)).cell? ⟨w.heap.size + 1, 0, none⟩ = some (.int .i64 d1) := (b9.2 0 _ rfl).1
  have fa2_0 : (((w.alloc (.cells #[.slice A a c0] 26)).alloc (.cells #[.int .i64 d1, .int .i64 d2, .int .i64 d3, .int .i64 d4] 32)).alloc (.cells #[.int .i64 x1, .int .i64 x2, .int .i64 x3, .int .i64 x4] 32)).frozen? ⟨w.heap.size + 1, 0, none⟩ = false := (b9.2 0 _ rfl).2
  have ca2_1 : (((w.alloc (.cells #[.slice A a c0] 26)).alloc (.cells #[.int .i64 d1, .int .i64 d2, .int .i64 d3, .int .i64 d4] 32)).alloc (.cells #[.int .i64 x1, .int .i64 x2, .int .i64 x3, .int .i64 x4] 32)).cell? ⟨w.heap.size + 1, 1, none⟩ = some (.int .i64 d2) := (b9.2 1 _ rfl).1
  have fa2_1 : (((w.alloc (.cells #[.slice A a c0] 26)).alloc (.cells #[.int .i64 d1, .int .i64 d2, .int .i64 d3, .int .i64 d4] 32)).alloc (.cells #[.int .i64 x1, .int .i64 x2, .int .i64 x3, .int .i64 x4] 32)).frozen? ⟨w.heap.size + 1, 1, none⟩ = false := (b9.2 1 _ rfl).2
  have ca2_2 : (((w.alloc (.cells #[.slice A a c0] 26)).alloc (.cells #[.int .i64 d1, .int .i64 d2, .int .i64 d3, .int .i64 d4] 32)).alloc (.cells #[.int .i64 x1, .int .i64 x2, .int .i64 x3, .int .i64 x4] 32)).cell? ⟨w.heap.size + 1, 2, none⟩ = some (.int .i64 d3) := (b9.2 2 _ rfl).1
  have fa2_2 : (((w.alloc (.cells #[.slice A a c0] 26)).alloc (.cells #[.int .i64 d1, .int .i64 d2, .int .i64 d3, .int .i64 d4] 32)).alloc (.cells #[.int .i64 x1, .int .i64 x2, .int .i64 x3, .int .i64 x4] 32)).frozen? ⟨w.heap.size + 1, 2, none⟩ = false := (b9.2 2 _ rfl).2
  have ca2_3 : (((w.alloc (.cells #[.slice A a c0] 26)).alloc (.cells #[.int .i64 d1, .int .i64 d2, .int .i64 d3, .int .i64 d4] 32)).alloc (.cells #[.int .i64 x1, .int .i64 x2, .int .i64 x3, .int .i64 x4] 32)).cell? ⟨w.heap.size + 1, 3, none⟩ = some (.int .i64 d4) := (b9.2 3 _ rfl).1
  have fa2_3 : (((w.alloc (.cells #[.slice A a c0] 26)).alloc (.cells #[.int .i64 d1, .int .i64 d2, .int .i64 d3, .int .i64 d4] 32)).alloc (.cells #[.int .i64 x1, .int .i64 x2, .int .i64 x3, .int .i64 x4] 32)).frozen? ⟨w.heap.size + 1, 3, none⟩ = false := (b9.2 3 _ rfl).2
  have ca3_0 : (((w.alloc (.cells #[.slice A a c0] 26)).alloc (.cells #[.int .i64 d1, .int .i64 d2, .int .i64 d3, .int .i64 d4] 32)).alloc (.cells #[.int .i64 x1, .int .i64 x2, .int .i64 x3, .int .i64 x4] 32)).cell? ⟨w.heap.size + 1 + 1, 0, none⟩ = some (.int .i64 x1) := (b11.2 0 _ rfl).1
  have fa3_0 : (((w.alloc (.cells #[.slice A a c0] 26)).alloc (.cells #[.int .i64 d1, .int .i64 d2, .int .i64 d3, .int .i64 d4] 32)).alloc (.cells #[.int .i64 x1, .int .i64 x2, .int .i64 x3, .int .i64 x4] 32)).frozen? ⟨w.heap.size + 1 + 1, 0, none⟩ = false := (b11.2 0 _ rfl).2
  have ca3_1 : (((w.alloc (.cells #[.slice A a c0] 26)).alloc (.cells #[.int .i64 d1, .int .i64 d2, .int .i64 d3, .int .i64 d4] 32)).alloc (.cells #[.int .i64 x1, .int .i64 x2, .int .i64 x3, .int .i64 x4] 32)).cell? ⟨w.heap.size + 1 + 1, 1, none⟩ = some (.int .i64 x2) := (b11.2 1 _ rfl).1
  have fa3_1 : (((w.alloc (.cells #[.slice A a c0] 26)).alloc (.cells #[.int .i64 d1, .int .i64 d2, .int .i64 d3, .int .i64 d4] 32)).alloc (.cells #[.int .i64 x1, .int .i64 x2, .int .i64 x3, .int .i64 x4] 32)).frozen? ⟨w.heap.size + 1 + 1, 1, none⟩ = false := (b11.2 1 _ rfl).2
  have ca3_2 : (((w.alloc (.cells #[.slice A a c0] 26)).alloc (.cells #[.int .i64 d1, .int .i64 d2, .int .i64 d3, .int .i64 d4] 32)).alloc (.cells #[.int .i64 x1, .int .i64 x2, .int .i64 x3, .int .i64 x4] 32)).cell? ⟨w.heap.size + 1 + 1, 2, none⟩ = some (.int .i64 x3) := (b11.2 2 _ rfl).1
  have fa3_2 : (((w.alloc (.cells #[.slice A a c0] 26)).alloc (.cells #[.int .i64 d1, .int .i64 d2, .int .i64 d3, .int .i64 d4] 32)).alloc (.cells #[.int .i64 x1, .int .i64 x2, .int .i64 x3, .int .i64 x4] 32)).frozen? ⟨w.heap.size + 1 + 1, 2, none⟩ = false := (b11.2 2 _ rfl).2
  have ca3_3 : (((w.alloc (.cells #[.slice A a c0] 26)).alloc (.cells #[.int .i64 d1, .int .i64 d2, .int .i64 d3, .int .i64 d4] 32)).alloc (.cells #[.int .i64 x1, .int .i64 x2, .int .i64 x3, .int .i64 x4] 32)).cell? ⟨w.heap.size + 1 + 1, 3, none⟩ = some (.int .i64 x4) := (b11.2 3 _ rfl).1
  have fa3_3 : (((w.alloc (.cells #[.slice A a c0] 26)).alloc (.cells #[.int .i64 d1, .int .i64 d2, .int .i64 d3, .int .i64 d4] 32)).alloc (.cells #[.int .i64 x1, .int .i64 x2, .int .i64 x3, .int .i64 x4] 32)).frozen? ⟨w.heap.size + 1 + 1, 3, none⟩ = false := (b11.2 3 _ rfl).2
  go_wp2_with fail
  clear ca1 fa1 ca2_0 fa2_0 ca2_1 fa2_1 ca2_2 fa2_2 ca2_3 fa2_3 ca3_0 fa3_0 ca3_1 fa3_1 ca3_2 fa3_2 ca3_3 fa3_3
  obtain ⟨q0, q1, HQ⟩ : ∃ q0 q1, Hid (caQ ps l rs (d1, d2, d3, d4) ts (x1, x2, x3, x4) = (q0, q1)) := ⟨_, _, rfl⟩
  refine (implCanAdd_any (h.keeps kw) (hv.keeps kw) ok (hr.keeps kw) (ht.keeps kw)).mono ?_
  rintro e w4 ⟨rfl, k4⟩
  rw [HQ.out]
  replace b6 := b6.keeps k4
  replace b9 := b9.keeps k4
  replace b11 := b11.keeps k4
  replace kw := Keeps.trans kw k4
  have lt5 := b11.lt
  have sz6 := kw.size
  clear k4
  cases q0
  · have HY := hid (HNO.out (by rw [HQ.out]))
    obtain ⟨ca7, fa7⟩ := id b6
    have ca8_0 : w4.cell? ⟨w.heap.size + 1, 0, none⟩ = some (.int .i64 d1) := (b9.2 0 _ rfl).1
    have fa8_0 : w4.frozen? ⟨w.heap.size + 1, 0, none⟩ = false := (b9.2 0 _ rfl).2
    have ca8_1 : w4.cell? ⟨w.heap.size + 1, 1, none⟩ = some (.int .i64 d2) := (b9.2 1 _ rfl).1
    have fa8_1 : w4.frozen? ⟨w.heap.size + 1, 1, none⟩ = false := (b9.2 1 _ rfl).2
    have ca8_2 : w4.cell? ⟨w.heap.size + 1, 2, none⟩ = some (.int .i64 d3) := (b9.2 2 _ rfl).1
    have fa8_2 : w4.frozen? ⟨w.heap.size + 1, 2, none⟩ = false := (b9.2 2 _ rfl).2
    have ca8_3 : w4.cell? ⟨w.heap.size + 1, 3, none⟩ = some (.int .i64 d4) := (b9.2 3 _ rfl).1
    have fa8_3 : w4.frozen? ⟨w.heap.size + 1, 3, none⟩ = false := (b9.2 3 _ rfl).2
    have ca9_0 : w4.cell? ⟨w.heap.size + 1 + 1, 0, none⟩ = some (.int .i64 x1) := (b11.2 0 _ rfl).1
    have fa9_0 : w4.frozen? ⟨w.heap.size + 1 + 1, 0, none⟩ = false := (b11.2 0 _ rfl).2
    have ca9_1 : w4.cell? ⟨w.heap.size + 1 + 1, 1, none⟩ = some (.int .i64 x2) := (b11.2 1 _ rfl).1
    have fa9_1 : w4.frozen? ⟨w.heap.size + 1 + 1, 1, none⟩ = false := (b11.2 1 _ rfl).2
    have ca9_2 : w4.cell? ⟨w.heap.size + 1 + 1, 2, none⟩ = some (.int .i64 x3) := (b11.2 2 _ rfl).1
    have fa9_2 : w4.frozen? ⟨w.heap.size + 1 + 1, 2, none⟩ = false := (b11.2 2 _ rfl).2
    have ca9_3 : w4.cell? ⟨w.heap.size + 1 + 1, 3, none⟩ = some (.int .i64 x4) := (b11.2 3 _ rfl).1
    have fa9_3 : w4.frozen? ⟨w.heap.size + 1 + 1, 3, none⟩ = false := (b11.2 3 _ rfl).2
    go_wp2_with fail
    clear ca7 fa7 ca8_0 fa8_0 ca8_1 fa8_1 ca8_2 fa8_2 ca8_3 fa8_3 ca9_0 fa9_0 ca9_1 fa9_1 ca9_2 fa9_2 ca9_3 fa9_3
    go_ret2
    exact AdRes.no HY.out kw
  have HP3 := hid (caQ_parts (show (caQ ps l rs (d1, d2, d3, d4) ts (x1, x2, x3, x4)).1 = true by rw [HQ.out]))
  obtain rfl : q1 = true := by have := HP3.out.1; rw [HQ.out] at this; exact this
  have HY := hid (HYE.out (by rw [HQ.out]))
  have h12 := (hisB_parts HP3.out.2.1).2.2.1
  rw [HRL.out] at h12
  clear HNO HYE HZ HQ HP3
  have hmk := make_relsI n (by omega)
  have lt11 := b11.lt
  have F0 := GrowC.made (sz := 6) (z := rl0) (R := RwR) w4 #[.int .i64 0, .slice none 0 0, .int .i64 0, .int .i64 0, .int .i64 0, .int .i64 0] (n + 1) (w.heap.size + 3) 87 (by omega) (by omega) rfl
  replace b6 := b6.keeps (keeps_alloc w4 (.cells (madeCells #[.int .i64 0, .slice none 0 0, .int .i64 0, .int .i64 0, .int .i64 0, .int .i64 0] ((n + 1) * 6)) 87))
  replace b9 := b9.keeps (keeps_alloc w4 (.cells (madeCells #[.int .i64 0, .slice none 0 0, .int .i64 0, .int .i64 0, .int .i64 0, .int .i64 0] ((n + 1) * 6)) 87))
  replace b11 := b11.keeps (keeps_alloc w4 (.cells (madeCells #[.int .i64 0, .slice none 0 0, .int .i64 0, .int .i64 0, .int .i64 0, .int .i64 0] ((n + 1) * 6)) 87))
  replace kw := Keeps.trans kw (keeps_alloc w4 (.cells (madeCells #[.int .i64 0, .slice none 0 0, .int .i64 0, .int .i64 0, .int .i64 0, .int .i64 0] ((n + 1) * 6)) 87))
  go_wp2_with fail
  clear hmk
  go_loopw [16, 41] (fun sv i wr => ∃ (k : Nat) (vq : Value) (cs : List Value) (L U : Nat → Nat), vq = sv ∧ i = .int .i64 k ∧ k ≤ n ∧ GrowC 6 rl0 RwR wr (w.heap.size + 3) 87 vq cs L U (rs.take k) ∧ Bl wr (w.heap.size + 1 + 1) [.int .i64 x1, .int .i64 x2, .int .i64 x3, .int .i64 x4] ∧ Keeps w wr) (fun _ i _ => n - (intOf i).toNat)
  case atStart => exact ⟨0, _, _, _, _, rfl, rfl, Nat.zero_le _, F0, b11, kw⟩
  clear F0 b6 b9 b11 kw lt11
  case round =>
    obtain ⟨k, vq, cs, L, U, rfl, rfl, hk, hF, b11, kw⟩ := hrel
    have lb := b11.lt
    have lr := hid hF.has.lt
    have HNE := hid (show ∀ g, g < w.heap.size + 3 ∨ wr.heap.size ≤ g → vq.ownBlock ≠ some g from fun g hg e => by have := lr.out g e; omega)
    have kr := keeps_refl wr
    by_cases hlt : k < n
    rotate_left
    · obtain rfl : k = n := by omega
      rw [List.take_of_length_le (by rw [HRL.out]; exact Nat.le_refl _)] at hF
      have HRW := hid (show ∀ (wC : World) (P2 : Option Addr) (c2 : Nat), RowsM 4 t0 RwT wC wr.heap.size wC.heap.size P2 m ts → RwR wC wr.heap.size wC.heap.size (fun i => [Value.int .i64 ((k : Int) + 1), .slice P2 m c2, .int .i64 x1, .int .i64 x2, .int .i64 x3, .int .i64 x4].getD i undef) (((rs.length : Int) + 1, ts, (x1, x2, x3, x4))) from fun wC P2 c2 hM => by
        have e1 := HTL.out
        have e2 := HRL.out
        subst e1
        rw [e2]
        exact ⟨P2, c2, rfl, rfl, rfl, rfl, rfl, rfl, hM⟩)
      have kS := hid (show ∀ w', Keeps wr w' → (w'.cell? ⟨w.heap.size + 1 + 1, 0, none⟩ = some (.int .i64 x1) ∧ w'.cell? ⟨w.heap.size + 1 + 1, 1, none⟩ = some (.int .i64 x2) ∧ w'.cell? ⟨w.heap.size + 1 + 1, 2, none⟩ = some (.int .i64 x3) ∧ w'.cell? ⟨w.heap.size + 1 + 1, 3, none⟩ = some (.int .i64 x4)) from fun w' k => ⟨cell_keeps (b11.2 0 _ rfl).1 k, cell_keeps (b11.2 1 _ rfl).1 k, cell_keeps (b11.2 2 _ rfl).1 k, cell_keeps (b11.2 3 _ rfl).1 k⟩)
      have kG := hid (show ∀ wA wB : World, Keeps wr wA → wA.grownBy wB vq.ownBlock → (wB.cell? ⟨w.heap.size + 1 + 1, 0, none⟩ = some (.int .i64 x1) ∧ wB.cell? ⟨w.heap.size + 1 + 1, 1, none⟩ = some (.int .i64 x2) ∧ wB.cell? ⟨w.heap.size + 1 + 1, 2, none⟩ = some (.int .i64 x3) ∧ wB.cell? ⟨w.heap.size + 1 + 1, 3, none⟩ = some (.int .i64 x4)) from fun wA wB k hg => ⟨cell_grown (cell_keeps (b11.2 0 _ rfl).1 k) hg (HNE.out _ (.inl (by omega))), cell_grown (cell_keeps (b11.2 1 _ rfl).1 k) hg (HNE.out _ (.inl (by omega))), cell_grown (cell_keeps (b11.2 2 _ rfl).1 k) hg (HNE.out _ (.inl (by omega))), cell_grown (cell_keeps (b11.2 3 _ rfl).1 k) hg (HNE.out _ (.inl (by omega)))⟩)
      go_wp2_with fail
      have hwr : IntKind.i64.wrap ((k : Int) + 1) = (k : Int) + 1 := IntWalk.i64_in _ (by omega)
      go_region_held3 (fun w' => w'.cell? ⟨w.heap.size + 1 + 1, 0, none⟩ = some (.int .i64 x1) ∧ w'.cell? ⟨w.heap.size + 1 + 1, 1, none⟩ = some (.int .i64 x2) ∧ w'.cell? ⟨w.heap.size + 1 + 1, 2, none⟩ = some (.int .i64 x3) ∧ w'.cell? ⟨w.heap.size + 1 + 1, 3, none⟩ = some (.int .i64 x4)) (first | with_reducible exact kS.out _ (keeps_d0 _) | with_reducible exact kS.out _ kW | with_reducible exact kS.out _ (keeps_al kW) | with_reducible exact kG.out _ _ kW hg9 | go_keep)
        ((first | (go_at_call 48; refine (copyTables_any (ht.keeps (Keeps.trans kw (keeps_d0 _)))).mono ?_; rintro e wC ⟨P2, rfl, hM, kC⟩; have kW : Keeps wr wC := keeps_d kC; have sC : wr.heap.size ≤ wC.heap.size := kW.size; replace hM : RowsM 4 t0 RwT wC wr.heap.size wC.heap.size P2 m ts := hM; clear kC) | ((try rw [hwr]); refine step_row (a0 := ((rs.length : Int) + 1, ts, (x1, x2, x3, x4))) (x := wr.heap.size) (new := [Value.int .i64 ((k : Int) + 1), .slice P2 m m, .int .i64 x1, .int .i64 x2, .int .i64 x3, .int .i64 x4]) HIR.out rfl (by decide) (by decide) RwR.ok (hF.keeps RwR.ok kW) (by rw [HRL.out]; omega) (by omega) rfl (fun y hy => by simp at hy; rcases hy with rfl | rfl | rfl | rfl | rfl | rfl <;> rfl) (by omega) (fun j hj => (hF.iv j hj).2.1) (fun g e => (lr.out g e).2) (HRW.out wC P2 m hM) _ _ rfl rfl Tryz.underlying28 rfl rfl ?_; intro v9 w9 cs9 L9 U9 hF9 hg9)))
      clear kS kG HRW hwr
      have HF := hid hF9
      have HG := hid hg9
      have KW := hid (keeps_grown (kw.trans kW) hg9 (fun g e => by have := lr.out g e; omega))
      have sz9 := hg9.size
      clear hF9 hg9 hF b11 kw kr
      go_wp2_with fail
      go_ret2
      exact AdRes.yes HY.out HF.out (by rw [List.length_append, List.length_singleton, HRL.out]; omega) (by omega) (by omega) KW.out
    obtain ⟨b, off, v, P, np, cp, y1, y2, y3, y4, pl, rfl, _, _, hc0, hc1, hc2, hc3, hc4, hc5, htp, hx⟩ := (hr.keeps kw).at_ hlt
    have hi1 : (k : Int) < (n : Int) := by omega
    have HX := hid hx.out
    have HPL := hid htp.len
    clear hx
    replace b11 := b11.keeps (keeps_alloc wr (.cells #[.int .i64 v, .slice P np cp, .int .i64 y1, .int .i64 y2, .int .i64 y3, .int .i64 y4] 87))
    replace kw := Keeps.trans kw (keeps_alloc wr (.cells #[.int .i64 v, .slice P np cp, .int .i64 y1, .int .i64 y2, .int .i64 y3, .int .i64 y4] 87))
    replace kr := Keeps.trans kr (keeps_alloc wr (.cells #[.int .i64 v, .slice P np cp, .int .i64 y1, .int .i64 y2, .int .i64 y3, .int .i64 y4] 87))
    have b18 : Bl (wr.alloc (.cells #[.int .i64 v, .slice P np cp, .int .i64 y1, .int .i64 y2, .int .i64 y3, .int .i64 y4] 87)) wr.heap.size [.int .i64 v, .slice P np cp, .int .i64 y1, .int .i64 y2, .int .i64 y3, .int .i64 y4] := Bl.new' (by simp) (by simp)
    have ca7_0 : (wr.alloc (.cells #[.int .i64 v, .slice P np cp, .int .i64 y1, .int .i64 y2, .int .i64 y3, .int .i64 y4] 87)).cell? ⟨wr.heap.size, 0, none⟩ = some (.int .i64 v) := (b18.2 0 _ rfl).1
    have fa7_0 : (wr.alloc (.cells #[.int .i64 v, .slice P np cp, .int .i64 y1, .int .i64 y2, .int .i64 y3, .int .i64 y4] 87)).frozen? ⟨wr.heap.size, 0, none⟩ = false := (b18.2 0 _ rfl).2
    have ca7_1 : (wr.alloc (.cells #[.int .i64 v, .slice P np cp, .int .i64 y1, .int .i64 y2, .int .i64 y3, .int .i64 y4] 87)).cell? ⟨wr.heap.size, 1, none⟩ = some (.slice P np cp) := (b18.2 1 _ rfl).1
    have fa7_1 : (wr.alloc (.cells #[.int .i64 v, .slice P np cp, .int .i64 y1, .int .i64 y2, .int .i64 y3, .int .i64 y4] 87)).frozen? ⟨wr.heap.size, 1, none⟩ = false := (b18.2 1 _ rfl).2
    have ca7_2 : (wr.alloc (.cells #[.int .i64 v, .slice P np cp, .int .i64 y1, .int .i64 y2, .int .i64 y3, .int .i64 y4] 87)).cell? ⟨wr.heap.size, 2, none⟩ = some (.int .i64 y1) := (b18.2 2 _ rfl).1
    have fa7_2 : (wr.alloc (.cells #[.int .i64 v, .slice P np cp, .int .i64 y1, .int .i64 y2, .int .i64 y3, .int .i64 y4] 87)).frozen? ⟨wr.heap.size, 2, none⟩ = false := (b18.2 2 _ rfl).2
    have ca7_3 : (wr.alloc (.cells #[.int .i64 v, .slice P np cp, .int .i64 y1, .int .i64 y2, .int .i64 y3, .int .i64 y4] 87)).cell? ⟨wr.heap.size, 3, none⟩ = some (.int .i64 y2) := (b18.2 3 _ rfl).1
    have fa7_3 : (wr.alloc (.cells #[.int .i64 v, .slice P np cp, .int .i64 y1, .int .i64 y2, .int .i64 y3, .int .i64 y4] 87)).frozen? ⟨wr.heap.size, 3, none⟩ = false := (b18.2 3 _ rfl).2
    have ca7_4 : (wr.alloc (.cells #[.int .i64 v, .slice P np cp, .int .i64 y1, .int .i64 y2, .int .i64 y3, .int .i64 y4] 87)).cell? ⟨wr.heap.size, 4, none⟩ = some (.int .i64 y3) := (b18.2 4 _ rfl).1
    have fa7_4 : (wr.alloc (.cells #[.int .i64 v, .slice P np cp, .int .i64 y1, .int .i64 y2, .int .i64 y3, .int .i64 y4] 87)).frozen? ⟨wr.heap.size, 4, none⟩ = false := (b18.2 4 _ rfl).2
    have ca7_5 : (wr.alloc (.cells #[.int .i64 v, .slice P np cp, .int .i64 y1, .int .i64 y2, .int .i64 y3, .int .i64 y4] 87)).cell? ⟨wr.heap.size, 5, none⟩ = some (.int .i64 y4) := (b18.2 5 _ rfl).1
    have fa7_5 : (wr.alloc (.cells #[.int .i64 v, .slice P np cp, .int .i64 y1, .int .i64 y2, .int .i64 y3, .int .i64 y4] 87)).frozen? ⟨wr.heap.size, 5, none⟩ = false := (b18.2 5 _ rfl).2
    go_wp2_with fail
    clear ca7_0 fa7_0 ca7_1 fa7_1 ca7_2 fa7_2 ca7_3 fa7_3 ca7_4 fa7_4 ca7_5 fa7_5
    clear hc0 hc1 hc2 hc3 hc4 hc5
    have HRW := hid (show ∀ (wC : World) (P2 : Option Addr) (c2 : Nat), RowsM 4 t0 RwT wC wr.heap.size wC.heap.size P2 np pl → RwR wC wr.heap.size wC.heap.size (fun i => [Value.int .i64 v, .slice P2 np c2, .int .i64 y1, .int .i64 y2, .int .i64 y3, .int .i64 y4].getD i undef) (rs.getD k rl0) from fun wC P2 c2 hM => by
      rw [← HX.out]
      have e1 := HPL.out
      subst e1
      exact ⟨P2, c2, rfl, rfl, rfl, rfl, rfl, rfl, hM⟩)
    have HLT := hid (show (rs.take k).length = k by rw [List.length_take, HRL.out]; omega)
    have HTK := hid (take_snoc rs k rl0 (by rw [HRL.out]; exact hlt))
    have sW := kr.size
    have l18 := b18.lt
    have e18 := hid (show (wr.alloc (.cells #[.int .i64 v, .slice P np cp, .int .i64 y1, .int .i64 y2, .int .i64 y3, .int .i64 y4] 87)).heap.size = wr.heap.size + 1 by simp)
    refine (copyTables_any (htp.keeps kr)).mono ?_
    rintro e wB ⟨P2, rfl, hM, kB⟩
    have sB := kB.size
    rw [e18.out] at hM sB
    replace b11 := b11.keeps kB
    replace b18 := b18.keeps kB
    replace kw := Keeps.trans kw kB
    replace kr := Keeps.trans kr kB
    have lt8 := b18.lt
    have sz9 := kw.size
    have sz10 := kr.size
    clear kB
    have ca11_0 : wB.cell? ⟨wr.heap.size, 0, none⟩ = some (.int .i64 v) := (b18.2 0 _ rfl).1
    have fa11_0 : wB.frozen? ⟨wr.heap.size, 0, none⟩ = false := (b18.2 0 _ rfl).2
    have ca11_1 : wB.cell? ⟨wr.heap.size, 1, none⟩ = some (.slice P np cp) := (b18.2 1 _ rfl).1
    have fa11_1 : wB.frozen? ⟨wr.heap.size, 1, none⟩ = false := (b18.2 1 _ rfl).2
    have ca11_2 : wB.cell? ⟨wr.heap.size, 2, none⟩ = some (.int .i64 y1) := (b18.2 2 _ rfl).1
    have fa11_2 : wB.frozen? ⟨wr.heap.size, 2, none⟩ = false := (b18.2 2 _ rfl).2
    have ca11_3 : wB.cell? ⟨wr.heap.size, 3, none⟩ = some (.int .i64 y2) := (b18.2 3 _ rfl).1
    have fa11_3 : wB.frozen? ⟨wr.heap.size, 3, none⟩ = false := (b18.2 3 _ rfl).2
    have ca11_4 : wB.cell? ⟨wr.heap.size, 4, none⟩ = some (.int .i64 y3) := (b18.2 4 _ rfl).1
    have fa11_4 : wB.frozen? ⟨wr.heap.size, 4, none⟩ = false := (b18.2 4 _ rfl).2
    have ca11_5 : wB.cell? ⟨wr.heap.size, 5, none⟩ = some (.int .i64 y4) := (b18.2 5 _ rfl).1
    have fa11_5 : wB.frozen? ⟨wr.heap.size, 5, none⟩ = false := (b18.2 5 _ rfl).2
    replace b11 := b11.far (p := ⟨wr.heap.size, 1, none⟩) (by show _ ≠ wr.heap.size; omega) (.slice P2 np np)
    replace kw := Below.setCell kw (p := ⟨wr.heap.size, 1, none⟩) (by show _ ≤ wr.heap.size; omega) (.slice P2 np np)
    replace kr := Below.setCell kr (p := ⟨wr.heap.size, 1, none⟩) (by show _ ≤ wr.heap.size; omega) (.slice P2 np np)
    replace b18 : Bl (wB.setCell ⟨wr.heap.size, 1, none⟩ (.slice P2 np np)) wr.heap.size [.int .i64 v, .slice P2 np np, .int .i64 y1, .int .i64 y2, .int .i64 y3, .int .i64 y4] := b18.set 1 (.slice P2 np np)
    have HM3 := hid (RowsM.widen (lo' := wr.heap.size) (hi' := (wB.setCell ⟨wr.heap.size, 1, none⟩ (.slice P2 np np)).heap.size) (hM.fr RwT.ok (fr_one (p := wr.heap.size) (i := 1) (.slice P2 np np)) (by omega)) (by omega) (by simp [World.setCell]) (Nat.le_refl _))
    have sZ : wr.heap.size + 1 ≤ (wB.setCell ⟨wr.heap.size, 1, none⟩ (.slice P2 np np)).heap.size := by simpa [World.setCell] using sB
    clear hM
    have HK := hid kr
    have HKW := hid kw
    have HB11 := hid b11
    have HB18 := hid b18
    clear kr kw b11
    have qa_0 : (wB.setCell ⟨wr.heap.size, 1, none⟩ (.slice P2 np np)).cell? ⟨wr.heap.size, 0, none⟩ = some (.int .i64 v) := (HB18.out.2 0 _ rfl).1
    have qa_1 : (wB.setCell ⟨wr.heap.size, 1, none⟩ (.slice P2 np np)).cell? ⟨wr.heap.size, 1, none⟩ = some (.slice P2 np np) := (HB18.out.2 1 _ rfl).1
    have qa_2 : (wB.setCell ⟨wr.heap.size, 1, none⟩ (.slice P2 np np)).cell? ⟨wr.heap.size, 2, none⟩ = some (.int .i64 y1) := (HB18.out.2 2 _ rfl).1
    have qa_3 : (wB.setCell ⟨wr.heap.size, 1, none⟩ (.slice P2 np np)).cell? ⟨wr.heap.size, 3, none⟩ = some (.int .i64 y2) := (HB18.out.2 3 _ rfl).1
    have qa_4 : (wB.setCell ⟨wr.heap.size, 1, none⟩ (.slice P2 np np)).cell? ⟨wr.heap.size, 4, none⟩ = some (.int .i64 y3) := (HB18.out.2 4 _ rfl).1
    have qa_5 : (wB.setCell ⟨wr.heap.size, 1, none⟩ (.slice P2 np np)).cell? ⟨wr.heap.size, 5, none⟩ = some (.int .i64 y4) := (HB18.out.2 5 _ rfl).1
    clear b18
    go_wp2_with (at_builtin; refine append_row (a0 := rs.getD k rl0) (x := wr.heap.size) (new := [Value.int .i64 v, .slice P2 np np, .int .i64 y1, .int .i64 y2, .int .i64 y3, .int .i64 y4]) HIR.out rfl (by decide) (by decide) RwR.ok (hF.keeps RwR.ok HK.out) (by rw [HLT.out]; omega) (by omega) rfl (fun y hy => by simp at hy; rcases hy with rfl | rfl | rfl | rfl | rfl | rfl <;> rfl) (by omega) (fun j hj => (hF.iv j hj).2.1) (fun g e => (lr.out g e).2) (HRW.out _ P2 np HM3.out) _ _ rfl rfl Tryz.underlying28 rfl (by first | rfl | (simp [World.setCell] <;> rfl)) ?_; intro v9 w9 cs9 L9 U9 hF9 hg9)
    have HG2 := hid hF9
    have KW := hid (keeps_grown HKW.out hg9 (fun g e => by have := lr.out g e; omega))
    have B4 := hid (bl_grown HB11.out hg9 (HNE.out _ (.inl (by omega))))
    clear hF9 hg9 hF HK HKW HB11 HM3 HB18 qa_0 qa_1 qa_2 qa_3 qa_4 qa_5
    go_wp2_with fail
    go_roundw
    case rel => exact ⟨k + 1, _, _, _, _, rfl, by go_num, hlt, (by rw [HTK.out]; exact HG2.out), B4.out, KW.out⟩
    case measure => simp [intOf]; omega
set_option maxRecDepth 100000 in
set_option maxHeartbeats 12800000 in
theorem specAddRelease_any {A A' R Q : Option Addr} {lo hi a c0 lo3 hi3 n q lo9 hi9 : Nat} {lo4 hi4 m : Nat} {un un' : Bool} {ts : List TT} {d1 d2 d3 d4 x1 x2 x3 x4 : Int} {ps : List Int} {l : List VV} {rs : List RL} {w : World} (h : Ints w lo hi A a ps) (hv : Vars w lo9 hi9 A' q l) (ok : NamesOk l) (hr : Rels true un w lo3 hi3 R n rs) (ht : Tabs true un' w lo4 hi4 Q m ts) :
    Calls Tryz.prog 9 #[.agg #[.slice A a c0], .slice A' q q, .slice R n n, .agg #[.int .i64 d1, .int .i64 d2, .int .i64 d3, .int .i64 d4], .slice Q m m, .agg #[.int .i64 x1, .int .i64 x2, .int .i64 x3, .int .i64 x4]] w (AdRes w (adQ ps l rs (d1, d2, d3, d4) ts (x1, x2, x3, x4))) := by
  have hq := hv.le
  have h' : Sch w A' q q l := ⟨⟨_, _, hv⟩, ok, Nat.le_refl _, by unfold maxLen; omega⟩
  have hn := hr.le
  have HRL := hid hr.len
  have HTL := hid ht.len
  obtain ⟨z, HZ⟩ : ∃ z, Hid (adQ ps l rs (d1, d2, d3, d4) ts (x1, x2, x3, x4) = z) := ⟨_, rfl⟩
  rw [HZ.out]
  have HNO := hid (fun (e : (caQ ps l rs (d1, d2, d3, d4) ts (x1, x2, x3, x4)).1 = false) => HZ.out.symm.trans (adQ_no e))
  have HYE := hid (fun (e : (caQ ps l rs (d1, d2, d3, d4) ts (x1, x2, x3, x4)).1 = true) => HZ.out.symm.trans (adQ_yes e))
  have HIR := hid info_rel
  go_enter Tryz.func9, Tryz.ntmps9
  have kw := keeps_refl w
  replace kw := Keeps.trans kw (keeps_alloc w (.cells #[.slice A a c0] 26))
  have b6 : B1 (w.alloc (.cells #[.slice A a c0] 26)) w.heap.size (.slice A a c0) := B1.new' (by simp)
  replace b6 := b6.keeps (keeps_alloc (w.alloc (.cells #[.slice A a c0] 26)) (.cells #[.int .i64 d1, .int .i64 d2, .int .i64 d3, .int .i64 d4] 32))
  replace kw := Keeps.trans kw (keeps_alloc (w.alloc (.cells #[.slice A a c0] 26)) (.cells #[.int .i64 d1, .int .i64 d2, .int .i64 d3, .int .i64 d4] 32))
  have b9 : Bl ((w.alloc (.cells #[.slice A a c0] 26)).alloc (.cells #[.int .i64 d1, .int .i64 d2, .int .i64 d3, .int .i64 d4] 32)) (w.heap.size + 1) [.int .i64 d1, .int .i64 d2, .int .i64 d3, .int .i64 d4] := Bl.new' (by simp) (by simp)
  replace b6 := b6.keeps (keeps_alloc ((w.alloc (.cells #[.slice A a c0] 26)).alloc (.cells #[.int .i64 d1, .int .i64 d2, .int .i64 d3, .int .i64 d4] 32)) (.cells #[.int .i64 x1, .int .i64 x2, .int .i64 x3, .int .i64 x4] 32))
  replace b9 := b9.keeps (keeps_alloc ((w.alloc (.cells #[.slice A a c0] 26)).alloc (.cells #[.int .i64 d1, .int .i64 d2, .int .i64 d3, .int .i64 d4] 32)) (.cells #[.int .i64 x1, .int .i64 x2, .int .i64 x3, .int .i64 x4] 32))
  replace kw := Keeps.trans kw (keeps_alloc ((w.alloc (.cells #[.slice A a c0] 26)).alloc (.cells #[.int .i64 d1, .int .i64 d2, .int .i64 d3, .int .i64 d4] 32)) (.cells #[.int .i64 x1, .int .i64 x2, .int .i64 x3, .int .i64 x4] 32))
  have b11 : Bl (((w.alloc (.cells #[.slice A a c0] 26)).alloc (.cells #[.int .i64 d1, .int .i64 d2, .int .i64 d3, .int .i64 d4] 32)).alloc (.cells #[.int .i64 x1, .int .i64 x2, .int .i64 x3, .int .i64 x4] 32)) (w.heap.size + 1 + 1) [.int .i64 x1, .int .i64 x2, .int .i64 x3, .int .i64 x4] := Bl.new' (by simp) (by simp)
  obtain ⟨ca1, fa1⟩ := id b6
  have ca2_0 : (((w.alloc (.cells #[.slice A a c0] 26)).alloc (.cells #[.int .i64 d1, .int .i64 d2, .int .i64 d3, .int .i64 d4] 32)).alloc (.cells #[.int .i64 x1, .int .i64 x2, .int .i64 x3, .int .i64 x4] 32)).cell? ⟨w.heap.size + 1, 0, none⟩ = some (.int .i64 d1) := (b9.2 0 _ rfl).1
  have fa2_0 : (((w.alloc (.cells #[.slice A a c0] 26)).alloc (.cells #[.int .i64 d1, .int .i64 d2, .int .i64 d3, .int .i64 d4] 32)).alloc (.cells #[.int .i64 x1, .int .i64 x2, .int .i64 x3, .int .i64 x4] 32)).frozen? ⟨w.heap.size + 1, 0, none⟩ = false := (b9.2 0 _ rfl).2
  have ca2_1 : (((w.alloc (.cells #[.slice A a c0] 26)).alloc (.cells #[.int .i64 d1, .int .i64 d2, .int .i64 d3, .int .i64 d4] 32)).alloc (.cells #[.int .i64 x1, .int .i64 x2, .int .i64 x3, .int .i64 x4] 32)).cell? ⟨w.heap.size + 1, 1, none⟩ = some (.int .i64 d2) := (b9.2 1 _ rfl).1
  have fa2_1 : (((w.alloc (.cells #[.slice A a c0] 26)).alloc (.cells #[.int .i64 d1, .int .i64 d2, .int .i64 d3, .int .i64 d4] 32)).alloc (.cells #[.int .i64 x1, .int .i64 x2, .int .i64 x3, .int .i64 x4] 32)).frozen? ⟨w.heap.size + 1, 1, none⟩ = false := (b9.2 1 _ rfl).2
  have ca2_2 : (((w.alloc (.cells #[.slice A a c0] 26)).alloc (.cells #[.int .i64 d1, .int .i64 d2, .int .i64 d3, .int .i64 d4] 32)).alloc (.cells #[.int .i64 x1, .int .i64 x2, .int .i64 x3, .int .i64 x4] 32)).cell? ⟨w.heap.size + 1, 2, none⟩ = some (.int .i64 d3) := (b9.2 2 _ rfl).1
  have fa2_2 : (((w.alloc (.cells #[.slice A a c0] 26)).alloc (.cells #[.int .i64 d1, .int .i64 d2, .int .i64 d3, .int .i64 d4] 32)).alloc (.cells #[.int .i64 x1, .int .i64 x2, .int .i64 x3, .int .i64 x4] 32)).frozen? ⟨w.heap.size + 1, 2, none⟩ = false := (b9.2 2 _ rfl).2
  have ca2_3 : (((w.alloc (.cells #[.slice A a c0] 26)).alloc (.cells #[.int .i64 d1, .int .i64 d2, .int .i64 d3, .int .i64 d4] 32)).alloc (.cells #[.int .i64 x1, .int .i64 x2, .int .i64 x3, .int .i64 x4] 32)).cell? ⟨w.heap.size + 1, 3, none⟩ = some (.int .i64 d4) := (b9.2 3 _ rfl).1
  have fa2_3 : (((w.alloc (.cells #[.slice A a c0] 26)).alloc (.cells #[.int .i64 d1, .int .i64 d2, .int .i64 d3, .int .i64 d4] 32)).alloc (.cells #[.int .i64 x1, .int .i64 x2, .int .i64 x3, .int .i64 x4] 32)).frozen? ⟨w.heap.size + 1, 3, none⟩ = false := (b9.2 3 _ rfl).2
  have ca3_0 : (((w.alloc (.cells #[.slice A a c0] 26)).alloc (.cells #[.int .i64 d1, .int .i64 d2, .int .i64 d3, .int .i64 d4] 32)).alloc (.cells #[.int .i64 x1, .int .i64 x2, .int .i64 x3, .int .i64 x4] 32)).cell? ⟨w.heap.size + 1 + 1, 0, none⟩ = some (.int .i64 x1) := (b11.2 0 _ rfl).1
  have fa3_0 : (((w.alloc (.cells #[.slice A a c0] 26)).alloc (.cells #[.int .i64 d1, .int .i64 d2, .int .i64 d3, .int .i64 d4] 32)).alloc (.cells #[.int .i64 x1, .int .i64 x2, .int .i64 x3, .int .i64 x4] 32)).frozen? ⟨w.heap.size + 1 + 1, 0, none⟩ = false := (b11.2 0 _ rfl).2
  have ca3_1 : (((w.alloc (.cells #[.slice A a c0] 26)).alloc (.cells #[.int .i64 d1, .int .i64 d2, .int .i64 d3, .int .i64 d4] 32)).alloc (.cells #[.int .i64 x1, .int .i64 x2, .int .i64 x3, .int .i64 x4] 32)).cell? ⟨w.heap.size + 1 + 1, 1, none⟩ = some (.int .i64 x2) := (b11.2 1 _ rfl).1
  have fa3_1 : (((w.alloc (.cells #[.slice A a c0] 26)).alloc (.cells #[.int .i64 d1, .int .i64 d2, .int .i64 d3, .int .i64 d4] 32)).alloc (.cells #[.int .i64 x1, .int .i64 x2, .int .i64 x3, .int .i64 x4] 32)).frozen? ⟨w.heap.size + 1 + 1, 1, none⟩ = false := (b11.2 1 _ rfl).2
  have ca3_2 : (((w.alloc (.cells #[.slice A a c0] 26)).alloc (.cells #[.int .i64 d1, .int .i64 d2, .int .i64 d3, .int .i64 d4] 32)).alloc (.cells #[.int .i64 x1, .int .i64 x2, .int .i64 x3, .int .i64 x4] 32)).cell? ⟨w.heap.size + 1 + 1, 2, none⟩ = some (.int .i64 x3) := (b11.2 2 _ rfl).1
  have fa3_2 : (((w.alloc (.cells #[.slice A a c0] 26)).alloc (.cells #[.int .i64 d1, .int .i64 d2, .int .i64 d3, .int .i64 d4] 32)).alloc (.cells #[.int .i64 x1, .int .i64 x2, .int .i64 x3, .int .i64 x4] 32)).frozen? ⟨w.heap.size + 1 + 1, 2, none⟩ = false := (b11.2 2 _ rfl).2
  have ca3_3 : (((w.alloc (.cells #[.slice A a c0] 26)).alloc (.cells #[.int .i64 d1, .int .i64 d2, .int .i64 d3, .int .i64 d4] 32)).alloc (.cells #[.int .i64 x1, .int .i64 x2, .int .i64 x3, .int .i64 x4] 32)).cell? ⟨w.heap.size + 1 + 1, 3, none⟩ = some (.int .i64 x4) := (b11.2 3 _ rfl).1
  have fa3_3 : (((w.alloc (.cells #[.slice A a c0] 26)).alloc (.cells #[.int .i64 d1, .int .i64 d2, .int .i64 d3, .int .i64 d4] 32)).alloc (.cells #[.int .i64 x1, .int .i64 x2, .int .i64 x3, .int .i64 x4] 32)).frozen? ⟨w.heap.size + 1 + 1, 3, none⟩ = false := (b11.2 3 _ rfl).2
  go_wp2_with fail
  clear ca1 fa1 ca2_0 fa2_0 ca2_1 fa2_1 ca2_2 fa2_2 ca2_3 fa2_3 ca3_0 fa3_0 ca3_1 fa3_1 ca3_2 fa3_2 ca3_3 fa3_3
  obtain ⟨pH1, H1⟩ : ∃ pB, Hid ((hisB ps l rs && lsB (d1, d2, d3, d4) && plB ps l ts && lsB (x1, x2, x3, x4)) = pB) := ⟨_, rfl⟩
  refine (rlAsked_any (h.keeps kw) (h'.keeps kw) (hr.keeps kw) (ht.keeps kw)).mono ?_
  rintro e w4 ⟨rfl, k4⟩
  rw [H1.out]
  replace b6 := b6.keeps k4
  replace b9 := b9.keeps k4
  replace b11 := b11.keeps k4
  replace kw := Keeps.trans kw k4
  have lt5 := b11.lt
  have sz6 := kw.size
  clear k4
  cases pH1
  · have HY := hid (HNO.out (by rw [caQ_no H1.out]))
    obtain ⟨ca7, fa7⟩ := id b6
    have ca8_0 : w4.cell? ⟨w.heap.size + 1, 0, none⟩ = some (.int .i64 d1) := (b9.2 0 _ rfl).1
    have fa8_0 : w4.frozen? ⟨w.heap.size + 1, 0, none⟩ = false := (b9.2 0 _ rfl).2
    have ca8_1 : w4.cell? ⟨w.heap.size + 1, 1, none⟩ = some (.int .i64 d2) := (b9.2 1 _ rfl).1
    have fa8_1 : w4.frozen? ⟨w.heap.size + 1, 1, none⟩ = false := (b9.2 1 _ rfl).2
    have ca8_2 : w4.cell? ⟨w.heap.size + 1, 2, none⟩ = some (.int .i64 d3) := (b9.2 2 _ rfl).1
    have fa8_2 : w4.frozen? ⟨w.heap.size + 1, 2, none⟩ = false := (b9.2 2 _ rfl).2
    have ca8_3 : w4.cell? ⟨w.heap.size + 1, 3, none⟩ = some (.int .i64 d4) := (b9.2 3 _ rfl).1
    have fa8_3 : w4.frozen? ⟨w.heap.size + 1, 3, none⟩ = false := (b9.2 3 _ rfl).2
    have ca9_0 : w4.cell? ⟨w.heap.size + 1 + 1, 0, none⟩ = some (.int .i64 x1) := (b11.2 0 _ rfl).1
    have fa9_0 : w4.frozen? ⟨w.heap.size + 1 + 1, 0, none⟩ = false := (b11.2 0 _ rfl).2
    have ca9_1 : w4.cell? ⟨w.heap.size + 1 + 1, 1, none⟩ = some (.int .i64 x2) := (b11.2 1 _ rfl).1
    have fa9_1 : w4.frozen? ⟨w.heap.size + 1 + 1, 1, none⟩ = false := (b11.2 1 _ rfl).2
    have ca9_2 : w4.cell? ⟨w.heap.size + 1 + 1, 2, none⟩ = some (.int .i64 x3) := (b11.2 2 _ rfl).1
    have fa9_2 : w4.frozen? ⟨w.heap.size + 1 + 1, 2, none⟩ = false := (b11.2 2 _ rfl).2
    have ca9_3 : w4.cell? ⟨w.heap.size + 1 + 1, 3, none⟩ = some (.int .i64 x4) := (b11.2 3 _ rfl).1
    have fa9_3 : w4.frozen? ⟨w.heap.size + 1 + 1, 3, none⟩ = false := (b11.2 3 _ rfl).2
    go_wp2_with fail
    clear ca7 fa7 ca8_0 fa8_0 ca8_1 fa8_1 ca8_2 fa8_2 ca8_3 fa8_3 ca9_0 fa9_0 ca9_1 fa9_1 ca9_2 fa9_2 ca9_3 fa9_3
    go_ret2
    exact AdRes.no HY.out kw
  · skip
    have H5 := H1.out
    simp only [Bool.and_eq_true] at H5
    have HH := hid H5.1.1.1
    have HB := hid H5.1.1.2
    have HX5 := hid H5.2
    clear H5
    obtain ⟨ca7, fa7⟩ := id b6
    have ca8_0 : w4.cell? ⟨w.heap.size + 1, 0, none⟩ = some (.int .i64 d1) := (b9.2 0 _ rfl).1
    have fa8_0 : w4.frozen? ⟨w.heap.size + 1, 0, none⟩ = false := (b9.2 0 _ rfl).2
    have ca8_1 : w4.cell? ⟨w.heap.size + 1, 1, none⟩ = some (.int .i64 d2) := (b9.2 1 _ rfl).1
    have fa8_1 : w4.frozen? ⟨w.heap.size + 1, 1, none⟩ = false := (b9.2 1 _ rfl).2
    have ca8_2 : w4.cell? ⟨w.heap.size + 1, 2, none⟩ = some (.int .i64 d3) := (b9.2 2 _ rfl).1
    have fa8_2 : w4.frozen? ⟨w.heap.size + 1, 2, none⟩ = false := (b9.2 2 _ rfl).2
    have ca8_3 : w4.cell? ⟨w.heap.size + 1, 3, none⟩ = some (.int .i64 d4) := (b9.2 3 _ rfl).1
    have fa8_3 : w4.frozen? ⟨w.heap.size + 1, 3, none⟩ = false := (b9.2 3 _ rfl).2
    have ca9_0 : w4.cell? ⟨w.heap.size + 1 + 1, 0, none⟩ = some (.int .i64 x1) := (b11.2 0 _ rfl).1
    have fa9_0 : w4.frozen? ⟨w.heap.size + 1 + 1, 0, none⟩ = false := (b11.2 0 _ rfl).2
    have ca9_1 : w4.cell? ⟨w.heap.size + 1 + 1, 1, none⟩ = some (.int .i64 x2) := (b11.2 1 _ rfl).1
    have fa9_1 : w4.frozen? ⟨w.heap.size + 1 + 1, 1, none⟩ = false := (b11.2 1 _ rfl).2
    have ca9_2 : w4.cell? ⟨w.heap.size + 1 + 1, 2, none⟩ = some (.int .i64 x3) := (b11.2 2 _ rfl).1
    have fa9_2 : w4.frozen? ⟨w.heap.size + 1 + 1, 2, none⟩ = false := (b11.2 2 _ rfl).2
    have ca9_3 : w4.cell? ⟨w.heap.size + 1 + 1, 3, none⟩ = some (.int .i64 x4) := (b11.2 3 _ rfl).1
    have fa9_3 : w4.frozen? ⟨w.heap.size + 1 + 1, 3, none⟩ = false := (b11.2 3 _ rfl).2
    go_wp2_with fail
    clear ca7 fa7 ca8_0 fa8_0 ca8_1 fa8_1 ca8_2 fa8_2 ca8_3 fa8_3 ca9_0 fa9_0 ca9_1 fa9_1 ca9_2 fa9_2 ca9_3 fa9_3
    obtain ⟨pH2, H2⟩ : ∃ pB, Hid (decide (0 < cn (d1, d2, d3, d4) (exq (rlLs rs) (x1, x2, x3, x4)) (12 - n)) = pB) := ⟨_, rfl⟩
    refine (rlCan_any (hr.keeps kw) HH.out HB.out HX5.out).mono ?_
    rintro e w10 ⟨rfl, k10⟩
    rw [H2.out]
    replace b6 := b6.keeps k10
    replace b9 := b9.keeps k10
    replace b11 := b11.keeps k10
    replace kw := Keeps.trans kw k10
    have lt11 := b11.lt
    have sz12 := kw.size
    clear k10
    cases pH2
    · have HY := hid (HNO.out (by rw [caQ_yes H1.out, HRL.out]; exact H2.out))
      obtain ⟨ca13, fa13⟩ := id b6
      have ca14_0 : w10.cell? ⟨w.heap.size + 1, 0, none⟩ = some (.int .i64 d1) := (b9.2 0 _ rfl).1
      have fa14_0 : w10.frozen? ⟨w.heap.size + 1, 0, none⟩ = false := (b9.2 0 _ rfl).2
      have ca14_1 : w10.cell? ⟨w.heap.size + 1, 1, none⟩ = some (.int .i64 d2) := (b9.2 1 _ rfl).1
      have fa14_1 : w10.frozen? ⟨w.heap.size + 1, 1, none⟩ = false := (b9.2 1 _ rfl).2
      have ca14_2 : w10.cell? ⟨w.heap.size + 1, 2, none⟩ = some (.int .i64 d3) := (b9.2 2 _ rfl).1
      have fa14_2 : w10.frozen? ⟨w.heap.size + 1, 2, none⟩ = false := (b9.2 2 _ rfl).2
      have ca14_3 : w10.cell? ⟨w.heap.size + 1, 3, none⟩ = some (.int .i64 d4) := (b9.2 3 _ rfl).1
      have fa14_3 : w10.frozen? ⟨w.heap.size + 1, 3, none⟩ = false := (b9.2 3 _ rfl).2
      have ca15_0 : w10.cell? ⟨w.heap.size + 1 + 1, 0, none⟩ = some (.int .i64 x1) := (b11.2 0 _ rfl).1
      have fa15_0 : w10.frozen? ⟨w.heap.size + 1 + 1, 0, none⟩ = false := (b11.2 0 _ rfl).2
      have ca15_1 : w10.cell? ⟨w.heap.size + 1 + 1, 1, none⟩ = some (.int .i64 x2) := (b11.2 1 _ rfl).1
      have fa15_1 : w10.frozen? ⟨w.heap.size + 1 + 1, 1, none⟩ = false := (b11.2 1 _ rfl).2
      have ca15_2 : w10.cell? ⟨w.heap.size + 1 + 1, 2, none⟩ = some (.int .i64 x3) := (b11.2 2 _ rfl).1
      have fa15_2 : w10.frozen? ⟨w.heap.size + 1 + 1, 2, none⟩ = false := (b11.2 2 _ rfl).2
      have ca15_3 : w10.cell? ⟨w.heap.size + 1 + 1, 3, none⟩ = some (.int .i64 x4) := (b11.2 3 _ rfl).1
      have fa15_3 : w10.frozen? ⟨w.heap.size + 1 + 1, 3, none⟩ = false := (b11.2 3 _ rfl).2
      go_wp2_with fail
      clear ca13 fa13 ca14_0 fa14_0 ca14_1 fa14_1 ca14_2 fa14_2 ca14_3 fa14_3 ca15_0 fa15_0 ca15_1 fa15_1 ca15_2 fa15_2 ca15_3 fa15_3
      go_ret2
      exact AdRes.no HY.out kw
    · skip
      have HY := hid (HYE.out (by rw [caQ_yes H1.out, HRL.out]; exact H2.out))
      have h12 := (hisB_parts HH.out).2.2.1
      rw [HRL.out] at h12
      clear HNO HYE HZ H1 H2 HB HX5 HH
      go_wp2_with fail
      have lt11 := b11.lt
      have F0 := GrowC.nil (sz := 6) (z := rl0) (R := RwR) w10 (w.heap.size + 3) 87
      go_loopw [14, 34] (fun sv i wr => ∃ (k : Nat) (vq : Value) (cs : List Value) (L U : Nat → Nat), vq = sv ∧ i = .int .i64 k ∧ k ≤ n ∧ GrowC 6 rl0 RwR wr (w.heap.size + 3) 87 vq cs L U (rs.take k) ∧ Bl wr (w.heap.size + 1 + 1) [.int .i64 x1, .int .i64 x2, .int .i64 x3, .int .i64 x4] ∧ Keeps w wr) (fun _ i _ => n - (intOf i).toNat)
      case atStart => exact ⟨0, _, _, _, _, rfl, rfl, Nat.zero_le _, F0, b11, kw⟩
      clear F0 b6 b9 b11 kw lt11
      case round =>
        obtain ⟨k, vq, cs, L, U, rfl, rfl, hk, hF, b11, kw⟩ := hrel
        have lb := b11.lt
        have lr := hid hF.has.lt
        have HNE := hid (show ∀ g, g < w.heap.size + 3 ∨ wr.heap.size ≤ g → vq.ownBlock ≠ some g from fun g hg e => by have := lr.out g e; omega)
        have kr := keeps_refl wr
        by_cases hlt : k < n
        rotate_left
        · obtain rfl : k = n := by omega
          rw [List.take_of_length_le (by rw [HRL.out]; exact Nat.le_refl _)] at hF
          have HRW := hid (show ∀ (wC : World) (P2 : Option Addr) (c2 : Nat), RowsM 4 t0 RwT wC wr.heap.size wC.heap.size P2 m ts → RwR wC wr.heap.size wC.heap.size (fun i => [Value.int .i64 ((k : Int) + 1), .slice P2 m c2, .int .i64 x1, .int .i64 x2, .int .i64 x3, .int .i64 x4].getD i undef) (((rs.length : Int) + 1, ts, (x1, x2, x3, x4))) from fun wC P2 c2 hM => by
            have e1 := HTL.out
            have e2 := HRL.out
            subst e1
            rw [e2]
            exact ⟨P2, c2, rfl, rfl, rfl, rfl, rfl, rfl, hM⟩)
          have ca13_0 : wr.cell? ⟨w.heap.size + 1 + 1, 0, none⟩ = some (.int .i64 x1) := (b11.2 0 _ rfl).1
          have fa13_0 : wr.frozen? ⟨w.heap.size + 1 + 1, 0, none⟩ = false := (b11.2 0 _ rfl).2
          have ca13_1 : wr.cell? ⟨w.heap.size + 1 + 1, 1, none⟩ = some (.int .i64 x2) := (b11.2 1 _ rfl).1
          have fa13_1 : wr.frozen? ⟨w.heap.size + 1 + 1, 1, none⟩ = false := (b11.2 1 _ rfl).2
          have ca13_2 : wr.cell? ⟨w.heap.size + 1 + 1, 2, none⟩ = some (.int .i64 x3) := (b11.2 2 _ rfl).1
          have fa13_2 : wr.frozen? ⟨w.heap.size + 1 + 1, 2, none⟩ = false := (b11.2 2 _ rfl).2
          have ca13_3 : wr.cell? ⟨w.heap.size + 1 + 1, 3, none⟩ = some (.int .i64 x4) := (b11.2 3 _ rfl).1
          have fa13_3 : wr.frozen? ⟨w.heap.size + 1 + 1, 3, none⟩ = false := (b11.2 3 _ rfl).2
          go_wp2_with fail
          clear ca13_0 fa13_0 ca13_1 fa13_1 ca13_2 fa13_2 ca13_3 fa13_3
          refine (rlOwn_any (ht.keeps kw)).mono ?_
          rintro e wC ⟨P2, c2, rfl, hM, kW⟩
          have sC := kW.size
          go_wp2_with (at_builtin; refine append_row (a0 := ((rs.length : Int) + 1, ts, (x1, x2, x3, x4))) (x := wr.heap.size) (new := [Value.int .i64 ((k : Int) + 1), .slice P2 m c2, .int .i64 x1, .int .i64 x2, .int .i64 x3, .int .i64 x4]) HIR.out rfl (by decide) (by decide) RwR.ok (hF.keeps RwR.ok kW) (by rw [HRL.out]; omega) (by omega) rfl (fun y hy => by simp at hy; rcases hy with rfl | rfl | rfl | rfl | rfl | rfl <;> rfl) (by omega) (fun j hj => (hF.iv j hj).2.1) (fun g e => (lr.out g e).2) (HRW.out wC P2 c2 hM) _ _ rfl rfl Tryz.underlying28 rfl rfl ?_; intro v9 w9 cs9 L9 U9 hF9 hg9)
          have HF := hid hF9
          have HG := hid hg9
          have KW := hid (keeps_grown (kw.trans kW) hg9 (fun g e => by have := lr.out g e; omega))
          have sz9 := hg9.size
          clear hF9 hg9 hF b11 kw kr
          go_wp2_with fail
          go_ret2
          exact AdRes.yes HY.out HF.out (by rw [List.length_append, List.length_singleton, HRL.out]; omega) (by omega) (by omega) KW.out
        obtain ⟨b, off, v, P, np, cp, y1, y2, y3, y4, pl, rfl, _, _, hc0, hc1, hc2, hc3, hc4, hc5, htp, hx⟩ := (hr.keeps kw).at_ hlt
        have hi1 : (k : Int) < (n : Int) := by omega
        have HX := hid hx.out
        have HPL := hid htp.len
        clear hx
        replace b11 := b11.keeps (keeps_alloc wr (.cells #[.int .i64 v, .slice P np cp, .int .i64 y1, .int .i64 y2, .int .i64 y3, .int .i64 y4] 87))
        replace kw := Keeps.trans kw (keeps_alloc wr (.cells #[.int .i64 v, .slice P np cp, .int .i64 y1, .int .i64 y2, .int .i64 y3, .int .i64 y4] 87))
        replace kr := Keeps.trans kr (keeps_alloc wr (.cells #[.int .i64 v, .slice P np cp, .int .i64 y1, .int .i64 y2, .int .i64 y3, .int .i64 y4] 87))
        have b18 : Bl (wr.alloc (.cells #[.int .i64 v, .slice P np cp, .int .i64 y1, .int .i64 y2, .int .i64 y3, .int .i64 y4] 87)) wr.heap.size [.int .i64 v, .slice P np cp, .int .i64 y1, .int .i64 y2, .int .i64 y3, .int .i64 y4] := Bl.new' (by simp) (by simp)
        have ca13_0 : (wr.alloc (.cells #[.int .i64 v, .slice P np cp, .int .i64 y1, .int .i64 y2, .int .i64 y3, .int .i64 y4] 87)).cell? ⟨wr.heap.size, 0, none⟩ = some (.int .i64 v) := (b18.2 0 _ rfl).1
        have fa13_0 : (wr.alloc (.cells #[.int .i64 v, .slice P np cp, .int .i64 y1, .int .i64 y2, .int .i64 y3, .int .i64 y4] 87)).frozen? ⟨wr.heap.size, 0, none⟩ = false := (b18.2 0 _ rfl).2
        have ca13_1 : (wr.alloc (.cells #[.int .i64 v, .slice P np cp, .int .i64 y1, .int .i64 y2, .int .i64 y3, .int .i64 y4] 87)).cell? ⟨wr.heap.size, 1, none⟩ = some (.slice P np cp) := (b18.2 1 _ rfl).1
        have fa13_1 : (wr.alloc (.cells #[.int .i64 v, .slice P np cp, .int .i64 y1, .int .i64 y2, .int .i64 y3, .int .i64 y4] 87)).frozen? ⟨wr.heap.size, 1, none⟩ = false := (b18.2 1 _ rfl).2
        have ca13_2 : (wr.alloc (.cells #[.int .i64 v, .slice P np cp, .int .i64 y1, .int .i64 y2, .int .i64 y3, .int .i64 y4] 87)).cell? ⟨wr.heap.size, 2, none⟩ = some (.int .i64 y1) := (b18.2 2 _ rfl).1
        have fa13_2 : (wr.alloc (.cells #[.int .i64 v, .slice P np cp, .int .i64 y1, .int .i64 y2, .int .i64 y3, .int .i64 y4] 87)).frozen? ⟨wr.heap.size, 2, none⟩ = false := (b18.2 2 _ rfl).2
        have ca13_3 : (wr.alloc (.cells #[.int .i64 v, .slice P np cp, .int .i64 y1, .int .i64 y2, .int .i64 y3, .int .i64 y4] 87)).cell? ⟨wr.heap.size, 3, none⟩ = some (.int .i64 y2) := (b18.2 3 _ rfl).1
        have fa13_3 : (wr.alloc (.cells #[.int .i64 v, .slice P np cp, .int .i64 y1, .int .i64 y2, .int .i64 y3, .int .i64 y4] 87)).frozen? ⟨wr.heap.size, 3, none⟩ = false := (b18.2 3 _ rfl).2
        have ca13_4 : (wr.alloc (.cells #[.int .i64 v, .slice P np cp, .int .i64 y1, .int .i64 y2, .int .i64 y3, .int .i64 y4] 87)).cell? ⟨wr.heap.size, 4, none⟩ = some (.int .i64 y3) := (b18.2 4 _ rfl).1
        have fa13_4 : (wr.alloc (.cells #[.int .i64 v, .slice P np cp, .int .i64 y1, .int .i64 y2, .int .i64 y3, .int .i64 y4] 87)).frozen? ⟨wr.heap.size, 4, none⟩ = false := (b18.2 4 _ rfl).2
        have ca13_5 : (wr.alloc (.cells #[.int .i64 v, .slice P np cp, .int .i64 y1, .int .i64 y2, .int .i64 y3, .int .i64 y4] 87)).cell? ⟨wr.heap.size, 5, none⟩ = some (.int .i64 y4) := (b18.2 5 _ rfl).1
        have fa13_5 : (wr.alloc (.cells #[.int .i64 v, .slice P np cp, .int .i64 y1, .int .i64 y2, .int .i64 y3, .int .i64 y4] 87)).frozen? ⟨wr.heap.size, 5, none⟩ = false := (b18.2 5 _ rfl).2
        go_wp2_with fail
        clear ca13_0 fa13_0 ca13_1 fa13_1 ca13_2 fa13_2 ca13_3 fa13_3 ca13_4 fa13_4 ca13_5 fa13_5
        clear hc0 hc1 hc2 hc3 hc4 hc5
        have HRW := hid (show ∀ (wC : World) (P2 : Option Addr) (c2 : Nat), RowsM 4 t0 RwT wC wr.heap.size wC.heap.size P2 np pl → RwR wC wr.heap.size wC.heap.size (fun i => [Value.int .i64 v, .slice P2 np c2, .int .i64 y1, .int .i64 y2, .int .i64 y3, .int .i64 y4].getD i undef) (rs.getD k rl0) from fun wC P2 c2 hM => by
          rw [← HX.out]
          have e1 := HPL.out
          subst e1
          exact ⟨P2, c2, rfl, rfl, rfl, rfl, rfl, rfl, hM⟩)
        have HLT := hid (show (rs.take k).length = k by rw [List.length_take, HRL.out]; omega)
        have HTK := hid (take_snoc rs k rl0 (by rw [HRL.out]; exact hlt))
        refine (rlOwn_any (htp.keeps kr)).mono ?_
        rintro e wB ⟨P2, c2, rfl, hM, kB⟩
        have sB := kB.size
        have sW := kr.size
        replace hM := hM.widen (lo' := wr.heap.size) sW (Nat.le_refl _) (Nat.le_refl _)
        replace b11 := b11.keeps kB
        replace b18 := b18.keeps kB
        replace kw := Keeps.trans kw kB
        replace kr := Keeps.trans kr kB
        have lt14 := b18.lt
        have sz15 := kw.size
        have sz16 := kr.size
        clear kB
        have HK := hid kr
        have HKW := hid kw
        have HB11 := hid b11
        have HM3 := hid hM
        clear kr kw b11 b18 hM
        go_wp2_with (at_builtin; refine append_row (a0 := rs.getD k rl0) (x := wr.heap.size) (new := [Value.int .i64 v, .slice P2 np c2, .int .i64 y1, .int .i64 y2, .int .i64 y3, .int .i64 y4]) HIR.out rfl (by decide) (by decide) RwR.ok (hF.keeps RwR.ok HK.out) (by rw [HLT.out]; omega) (by omega) rfl (fun y hy => by simp at hy; rcases hy with rfl | rfl | rfl | rfl | rfl | rfl <;> rfl) (by omega) (fun j hj => (hF.iv j hj).2.1) (fun g e => (lr.out g e).2) (HRW.out _ P2 c2 HM3.out) _ _ rfl rfl Tryz.underlying28 rfl rfl ?_; intro v9 w9 cs9 L9 U9 hF9 hg9)
        have HG2 := hid hF9
        have KW := hid (keeps_grown HKW.out hg9 (fun g e => by have := lr.out g e; omega))
        have B4 := hid (bl_grown HB11.out hg9 (HNE.out _ (.inl (by omega))))
        clear hF9 hg9 hF HK HKW HB11 HM3 
        go_wp2_with fail
        go_roundw
        case rel => exact ⟨k + 1, _, _, _, _, rfl, by go_num, hlt, (by rw [HTK.out]; exact HG2.out), B4.out, KW.out⟩
        case measure => simp [intOf]; omega
end Go.Proofs.YtohjkpopbmmliaaGreat
