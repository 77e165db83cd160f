/- TypeCounts: of the program and of the reference. -/
import Derived.Test.YtogdfgnolpfelaaTc
import Derived.Deep.RegionHeld3
import Derived.IntWalk
namespace Go.Proofs.Ytogdfgnolpfelaa
open Go.RowKit
set_option linter.unusedVariables false
set_option linter.unusedSimpArgs false

/-- Counts of one's own, and whether they are fine. -/
def TcRes (w : World) (R : List Int × Bool) (e : Ending) (w' : World) : Prop := ∃ A n c, e = .returned (.tuple #[.slice A n c, .bool R.2]) ∧ Mine w' w.heap.size w'.heap.size A n R.1 ∧ Keeps w w'
theorem TcRes.no {w w' : World} {R : List Int × Bool} (h : R = ([], false)) (k : Keeps w w') : TcRes w R (.returned (.tuple #[.slice none 0 0, .bool false])) w' := by
  subst h; exact ⟨_, _, _, rfl, Mine.nil_ _ _, k⟩
theorem TcRes.yes {w w' : World} {R : List Int × Bool} {xs : List Int} {A : Option Addr} {n c : Nat} (h : R = (xs, true)) (m : Mine w' w.heap.size w'.heap.size A n xs) (k : Keeps w w') : TcRes w R (.returned (.tuple #[.slice A n c, .bool true])) w' := by
  subst h; exact ⟨_, _, _, rfl, m, k⟩
/-- The int that a cell holds. -/
def rdI (w : World) (g i : Nat) : Int := match w.cell? ⟨g, i, none⟩ with
  | some (.int .i64 x) => x
  | _ => 0
theorem rdI_of {w : World} {g i : Nat} {x : Int} (h : w.cell? ⟨g, i, none⟩ = some (.int .i64 x)) : rdI w g i = x := by unfold rdI; rw [h]
theorem cell_rdI {w : World} {g i : Nat} {x : Int} (h : w.cell? ⟨g, i, none⟩ = some (.int .i64 x)) : w.cell? ⟨g, i, none⟩ = some (.int .i64 (rdI w g i)) := by rw [rdI_of h]; exact h
/-- The function that a call enters. -/
def calleeOf (o : Oper) : Option FuncId := match o.op with
  | .call ⟨.value (.func f), _, _⟩ => some f
  | _ => none
theorem step_anyF {W : World} {ops : Array Oper} {o : Oper} {a : Act} {K : Act → World → Prop} {Q : Exit → Act → World → Prop} {E : Prop} {f : FuncId} {args : Array Value} {R : Ending → World → Prop}
    (hc : Calls Try.prog f args W R) (hf : calleeOf o = some f) (hr : ∀ e w', R e w' → ∃ v, e = .returned v) (hgd : o.guard = none)
    (hrun : (execOp a.eval o).run Try.prog W = .ok (.enter f args) W)
    (h : ∀ v w', R (.returned v) w' → K (a.put o.dst v) w') :
    if Region.wanted o (yielded ops a.tmps) = true then Oper.wp Try.prog o a W K Q else E := step_any hc hr hgd hrun h
theorem tcTo_next {ps : List Int} {l : List VV} {rs : List RR} {k M : Nat} {r : RR} (hr : r = rs.getD k r0) (hM : tcP ps l r = (M : Int)) : (tcTo ps l rs k).set M ((tcTo ps l rs k).getD M 0 + 1) = tcTo ps l rs (k + 1) := by
  show _ = tcUp (tcTo ps l rs k) (tcP ps l (rs.getD k r0)).toNat
  rw [← hr, hM]; rfl

set_option maxRecDepth 100000 in
set_option maxHeartbeats 3200000 in
theorem implTypeCounts_any {A A' R : Option Addr} {lo hi lo' hi' n c m lo3 hi3 q : Nat} {ps : List Int} {l : List VV} {rs : List RR} {w : World} (h : Ints w lo hi A n ps) (hv : Vars w lo' hi' A' m l) (ok : NamesOk l) (hr : Recs w lo3 hi3 R q rs) :
    Calls Try.prog 32 #[.agg #[.slice A n c], .slice A' m m, .slice R q q] w (TcRes w (tcQ ps l rs)) := by
  have hm := hv.le
  have hq := hr.le
  have h' : Sch w A' m m l := ⟨⟨_, _, hv⟩, ok, Nat.le_refl _, by unfold maxLen; omega⟩
  have hl := Vars.len hv
  have HRL := hid hr.len
  go_enter Try.func32, Try.ntmps32
  have kw := keeps_refl w
  replace kw := Keeps.trans kw (keeps_alloc w (.cells #[.slice A n c] 56))
  have b3 : B1 (w.alloc (.cells #[.slice A n c] 56)) w.heap.size (.slice A n c) := B1.new' (by simp)
  obtain ⟨ca1, fa1⟩ := id b3
  go_wp2_with fail
  clear ca1 fa1
  obtain ⟨pH1, H1⟩ : ∃ pB, Hid (tyB ps l = pB) := ⟨_, rfl⟩
  refine (areTyped_any (h.keeps kw) (h'.keeps kw)).mono ?_
  rintro e w2 ⟨rfl, k2⟩
  rw [H1.out]
  replace b3 := b3.keeps k2
  replace kw := Keeps.trans kw k2
  have lt3 := b3.lt
  have sz4 := kw.size
  clear k2
  cases pH1
  · have HN := hid (tcQ_no (show (tyB ps l && survB ps l rs) = false by rw [H1.out]; rfl))
    obtain ⟨ca5, fa5⟩ := id b3
    go_wp2_with fail
    clear ca5 fa5
    go_ret2
    exact TcRes.no HN.out kw
  · skip
    have hp := tyB_parts H1.out
    have hb := tyN_bd hp.1 hp.2
    obtain ⟨hlv0, hm1, hm6⟩ := schB_lv hl hp.2
    have h12 : tyN ps l ≤ 12 := by have := H1.out; unfold tyB at this; simp only [Bool.and_eq_true, decide_eq_true_eq] at this; exact this.2
    have HG := hid hp.1
    have HS := hid hp.2
    have HLV := hid hlv0
    clear hp hlv0
    obtain ⟨ca5, fa5⟩ := id b3
    go_wp2_with fail
    clear ca5 fa5
    obtain ⟨pH2, H2⟩ : ∃ pB, Hid (survB ps l rs = pB) := ⟨_, rfl⟩
    refine (isSurvey_any (h.keeps kw) (h'.keeps kw) (hr.keeps kw) HG.out HS.out).mono ?_
    rintro e w6 ⟨rfl, k6⟩
    rw [H2.out]
    replace b3 := b3.keeps k6
    replace kw := Keeps.trans kw k6
    have lt7 := b3.lt
    have sz8 := kw.size
    clear k6
    cases pH2
    · have HN := hid (tcQ_no (show (tyB ps l && survB ps l rs) = false by rw [H1.out, H2.out]; rfl))
      obtain ⟨ca9, fa9⟩ := id b3
      go_wp2_with fail
      clear ca9 fa9
      go_ret2
      exact TcRes.no HN.out kw
    · skip
      have HY := hid (tcQ_yes (show (tyB ps l && survB ps l rs) = true by rw [H1.out, H2.out]; rfl))
      obtain ⟨N, hN⟩ : ∃ N : Nat, tyN ps l = (N : Int) := ⟨(tyN ps l).toNat, by omega⟩
      have HN := hid hN
      have hN12 : N ≤ 12 := by omega
      have HTL := hid (fun k => (show (tcTo ps l rs k).length = N by rw [tcTo_len, hN]; rfl))
      have HT0 := hid (show tcTo ps l rs 0 = List.replicate N 0 by unfold tcTo; rw [hN]; rfl)
      clear hb h12 hN
      have hmk := make_ints N (by omega)
      obtain ⟨ca9, fa9⟩ := id b3
      go_wp2_with fail
      clear ca9 fa9
      refine (typeCount_any (h.keeps kw) (h'.keeps kw) HG.out HS.out).mono ?_
      rintro e w10 ⟨rfl, k10⟩
      rw [HN.out]
      replace b3 := b3.keeps k10
      replace kw := Keeps.trans kw k10
      have lt11 := b3.lt
      have sz12 := kw.size
      clear k10
      go_wp2_with fail
      replace b3 := b3.keeps (keeps_alloc w10 (.cells (madeCells #[.int .i64 0] N) 3))
      replace kw := Keeps.trans kw (keeps_alloc w10 (.cells (madeCells #[.int .i64 0] N) 3))
      clear hmk
      have own : Own (w10.alloc (.cells (madeCells #[.int .i64 0] N) 3)) w10.heap.size (tcTo ps l rs 0) := by rw [HT0.out]; exact Own.new _ _
      refine (combinations_any (Sl.keeps hv kw) HLV.out hm6).mono ?_
      rintro e w13 ⟨rfl, k13⟩
      replace b3 := b3.keeps k13
      replace own := own.keeps k13
      replace kw := Keeps.trans kw k13
      have lt14 := b3.lt
      have sz15 := kw.size
      clear k13
      go_wp2_with fail
      obtain ⟨P, hP⟩ : ∃ P, prodTo l m = P := ⟨_, rfl⟩
      have HP := hid hP
      rw [hP]
      clear hP
      have lw := hid (show w.heap.size < w10.heap.size by omega)
      go_loopw [33] (fun i wr => ∃ k : Nat, k ≤ q ∧ i = .int .i64 k ∧ Own wr w10.heap.size (tcTo ps l rs k) ∧ B1 wr w.heap.size (.slice A n c) ∧ Keeps w wr) (fun i _ => q - (intOf i).toNat)
      case atStart => exact ⟨0, Nat.zero_le _, rfl, own, b3, kw⟩
      clear b3 kw own
      case round =>
        obtain ⟨k, hk, rfl, own, b3, kw⟩ := hrel
        by_cases hlt : k < q
        · obtain ⟨b, off, x, y, B, z, c', zs, rfl, _, _, hc, hd, hvv, hvi, hx⟩ := (hr.keeps kw).at_ hlt
          have hi1 : (k : Int) < (q : Int) := by omega
          have hrow := survB_row H2.out (k := k) (by rw [HRL.out]; exact hlt)
          rw [← hx.out] at hrow
          obtain ⟨h40, hxl, hfit⟩ := hrow
          rw [HRL.out] at h40
          have hll : l.length = m := hl
          have hlv2 : LvOk l l.length := by rw [hl]; exact HLV.out
          have htp := tcP_bd (r := (x, y, zs)) hxl hfit hlv2
          rw [HN.out] at htp
          obtain ⟨M, hM⟩ : ∃ M : Nat, tcP ps l (x, y, zs) = (M : Int) := ⟨(tcP ps l (x, y, zs)).toNat, by omega⟩
          rw [hM] at htp
          have hMN : M < N := by omega
          have HNX := hid (tcTo_next hx.out hM)
          have hix := ixTo_bd hfit hlv2 _ (Nat.le_refl _)
          have hpb := prodTo_bd hlv2 _ (Nat.le_refl _)
          rw [hl, HP.out] at hix hpb
          have HPN := hid (posN_lt hxl)
          have HMM : (posN (leaves ps) x : Int) * P + ixTo l zs m = (M : Int) := by rw [← hM]; unfold tcP; rw [hl, HP.out]
          have HXL := hid hxl
          have HFIT := hid hfit
          obtain ⟨I, hI⟩ : ∃ I, ixTo l zs m = I := ⟨_, rfl⟩
          have HI := hid hI
          rw [hI] at hix HMM
          obtain ⟨p, hp⟩ : ∃ p, posN (leaves ps) x = p := ⟨_, rfl⟩
          rw [hp] at HPN HMM
          have HPP := hid hp
          have hbd := tcTo_bd ps l rs k M
          obtain ⟨v, hv1⟩ : ∃ v, (tcTo ps l rs k).getD M 0 = v := ⟨_, rfl⟩
          rw [hv1] at hbd HNX
          have HV1 := hid hv1
          have hv2 : 0 ≤ v ∧ v ≤ 40 := by omega
          have hP1 := hpb.1
          have hpP : 0 ≤ (p : Int) * P := Int.mul_nonneg (by omega) (by omega)
          have hpP2 : (p : Int) * P ≤ 12 := by omega
          clear hx hll hlv2 hpb hI hp hbd hv1 hxl hfit hM
          have lt3 := b3.lt
          have ltG := own.lt
          have lww := lw.out
          replace b3 := b3.keeps (keeps_alloc wr (.cells #[.int .i64 x, .int .i64 y, .slice B z c'] 77))
          replace own := own.keeps (keeps_alloc wr (.cells #[.int .i64 x, .int .i64 y, .slice B z c'] 77))
          replace hvi := hvi.keeps (keeps_alloc wr (.cells #[.int .i64 x, .int .i64 y, .slice B z c'] 77))
          replace kw := Keeps.trans kw (keeps_alloc wr (.cells #[.int .i64 x, .int .i64 y, .slice B z c'] 77))
          have b11 : Bl (wr.alloc (.cells #[.int .i64 x, .int .i64 y, .slice B z c'] 77)) wr.heap.size [.int .i64 x, .int .i64 y, .slice B z c'] := Bl.new' (by simp) (by simp)
          obtain ⟨ca16, fa16⟩ := id b3
          have ca17_0 : (wr.alloc (.cells #[.int .i64 x, .int .i64 y, .slice B z c'] 77)).cell? ⟨wr.heap.size, 0, none⟩ = some (.int .i64 x) := (b11.2 0 _ rfl).1
          have fa17_0 : (wr.alloc (.cells #[.int .i64 x, .int .i64 y, .slice B z c'] 77)).frozen? ⟨wr.heap.size, 0, none⟩ = false := (b11.2 0 _ rfl).2
          have ca17_1 : (wr.alloc (.cells #[.int .i64 x, .int .i64 y, .slice B z c'] 77)).cell? ⟨wr.heap.size, 1, none⟩ = some (.int .i64 y) := (b11.2 1 _ rfl).1
          have fa17_1 : (wr.alloc (.cells #[.int .i64 x, .int .i64 y, .slice B z c'] 77)).frozen? ⟨wr.heap.size, 1, none⟩ = false := (b11.2 1 _ rfl).2
          have ca17_2 : (wr.alloc (.cells #[.int .i64 x, .int .i64 y, .slice B z c'] 77)).cell? ⟨wr.heap.size, 2, none⟩ = some (.slice B z c') := (b11.2 2 _ rfl).1
          have fa17_2 : (wr.alloc (.cells #[.int .i64 x, .int .i64 y, .slice B z c'] 77)).frozen? ⟨wr.heap.size, 2, none⟩ = false := (b11.2 2 _ rfl).2
          go_wp2_with fail
          clear ca16 fa16 ca17_0 fa17_0 ca17_1 fa17_1 ca17_2 fa17_2
          refine (leavesOf_any (h.keeps kw) HG.out).mono ?_
          rintro e w18 ⟨LA, LC, rfl, mL, k18⟩
          replace b3 := b3.keeps k18
          replace b11 := b11.keeps k18
          replace own := own.keeps k18
          replace hvi := hvi.keeps k18
          replace kw := Keeps.trans kw k18
          have lt19 := b11.lt
          have sz20 := kw.size
          clear k18
          obtain ⟨LN, hLN⟩ : ∃ a, (leaves ps).length = a := ⟨_, rfl⟩
          rw [hLN] at mL HPN
          rw [hLN]
          have HLN := hid hLN
          clear hLN
          have hpn := HPN.out
          have hln := mL.1.le
          have mL1 := mL.1
          clear mL
          go_wp2_with fail
          have ltR := b11.lt
          obtain ⟨RB, hRB⟩ : ∃ a, wr.heap.size = a := ⟨_, rfl⟩
          rw [hRB] at b11 ltR ⊢
          have HRB := hid hRB
          have hGR : w10.heap.size < RB := by omega
          clear hRB
          obtain ⟨wo, hwo⟩ : ∃ u : World, u = w18 := ⟨_, rfl⟩
          go_loopw [40] (fun i wv => ∃ j : Nat, j ≤ LN ∧ i = .int .i64 j ∧ Own wv w10.heap.size (if j ≤ p then tcTo ps l rs k else tcTo ps l rs (k + 1)) ∧ B1 wv w.heap.size (.slice A n c) ∧ Bl wv RB [.int .i64 x, .int .i64 y, .slice B z c'] ∧ (∃ lo9 hi9, w10.heap.size + 1 ≤ lo9 ∧ Ints wv lo9 hi9 LA LN (leaves ps)) ∧ (∃ lo9 hi9, hi9 ≤ w.heap.size ∧ Ints wv lo9 hi9 B z zs) ∧ Keeps w wv) (fun i _ => LN - (intOf i).toNat)
          case atStart => exact ⟨0, Nat.zero_le _, rfl, by rw [if_pos (Nat.zero_le _)]; exact own, b3, b11, ⟨_, _, by first | omega | (simp; omega), mL1⟩, ⟨_, _, hr.top, hvi⟩, kw⟩
          clear own b3 b11 mL1 hvi kw lt3 ltG hc hd hvv
          case round =>
            obtain ⟨j, hj, rfl, own, b3, b11, ⟨lo8, hi8, hL8, mL1⟩, ⟨lo9, hi9, hL9, hvi⟩, kw⟩ := hrel
            by_cases hjt : j < LN
            rotate_left
            · obtain rfl : j = LN := by omega
              rw [if_neg (by omega)] at own
              go_wp2_with fail
              go_roundw
              case rel => exact ⟨k + 1, by omega, by go_num, own, b3, kw⟩
              case measure => simp [intOf]; omega
            obtain ⟨bl, ol, u, rfl, _, _, hcu, hu⟩ := mL1.at_ hjt
            have hj1 : (j : Int) < (LN : Int) := by omega
            by_cases hux : u = x
            rotate_left
            · have hjp : j ≠ p := fun e => hux (by rw [hu.out, e, ← HPP.out]; exact posN_at HXL.out)
              have t1 : (u == x) = false := by rw [beq_eq_false_iff_ne]; exact hux
              rw [show (if j ≤ p then tcTo ps l rs k else tcTo ps l rs (k + 1)) = (if j + 1 ≤ p then tcTo ps l rs k else tcTo ps l rs (k + 1)) by by_cases h1 : j ≤ p; (rw [if_pos h1, if_pos (by omega)]); (rw [if_neg h1, if_neg (by omega)])] at own
              clear hux hu
              have ca21_0 : wr.cell? ⟨RB, 0, none⟩ = some (.int .i64 x) := (b11.2 0 _ rfl).1
              have fa21_0 : wr.frozen? ⟨RB, 0, none⟩ = false := (b11.2 0 _ rfl).2
              have ca21_1 : wr.cell? ⟨RB, 1, none⟩ = some (.int .i64 y) := (b11.2 1 _ rfl).1
              have fa21_1 : wr.frozen? ⟨RB, 1, none⟩ = false := (b11.2 1 _ rfl).2
              have ca21_2 : wr.cell? ⟨RB, 2, none⟩ = some (.slice B z c') := (b11.2 2 _ rfl).1
              have fa21_2 : wr.frozen? ⟨RB, 2, none⟩ = false := (b11.2 2 _ rfl).2
              go_wp2_with fail
              clear ca21_0 fa21_0 ca21_1 fa21_1 ca21_2 fa21_2
              go_roundw
              case rel => exact ⟨j + 1, by omega, by go_num, own, b3, b11, ⟨lo8, hi8, hL8, mL1⟩, ⟨lo9, hi9, hL9, hvi⟩, kw⟩
              case measure => simp [intOf]; omega
            obtain rfl : j = p := by rw [← HPP.out]; exact leaves_one HXL.out (by rw [HLN.out]; exact hjt) (by rw [← hu.out]; exact hux)
            have t1 : (u == x) = true := by simp [hux]
            rw [if_pos (Nat.le_refl _)] at own
            clear hux hu
            have ca21_0 : wr.cell? ⟨RB, 0, none⟩ = some (.int .i64 x) := (b11.2 0 _ rfl).1
            have fa21_0 : wr.frozen? ⟨RB, 0, none⟩ = false := (b11.2 0 _ rfl).2
            have ca21_1 : wr.cell? ⟨RB, 1, none⟩ = some (.int .i64 y) := (b11.2 1 _ rfl).1
            have fa21_1 : wr.frozen? ⟨RB, 1, none⟩ = false := (b11.2 1 _ rfl).2
            have ca21_2 : wr.cell? ⟨RB, 2, none⟩ = some (.slice B z c') := (b11.2 2 _ rfl).1
            have fa21_2 : wr.frozen? ⟨RB, 2, none⟩ = false := (b11.2 2 _ rfl).2
            go_wp2_with fail
            clear ca21_0 fa21_0 ca21_1 fa21_1 ca21_2 fa21_2
            refine (indexOfValues_any hvi (h'.keeps kw) HFIT.out HLV.out hm6).mono ?_
            rintro e w22 ⟨rfl, k22⟩
            rw [HI.out]
            replace b3 := b3.keeps k22
            replace b11 := b11.keeps k22
            replace own := own.keeps k22
            replace hvi := hvi.keeps k22
            replace mL1 := mL1.keeps k22
            replace kw := Keeps.trans kw k22
            have lt23 := b11.lt
            have sz24 := kw.size
            clear k22
            have lto := own.lt
            have hce := own.cell M (by rw [HTL.out]; exact hMN)
            rw [HV1.out] at hce
            have hfe := own.frozen M
            have O1 := hid (own.set_ M (v + 1))
            rw [HNX.out] at O1
            have hM0 : (M : Int) < (N : Int) := by omega
            skip
            clear own
            have ca25_0 : w22.cell? ⟨RB, 0, none⟩ = some (.int .i64 x) := (b11.2 0 _ rfl).1
            have fa25_0 : w22.frozen? ⟨RB, 0, none⟩ = false := (b11.2 0 _ rfl).2
            have ca25_1 : w22.cell? ⟨RB, 1, none⟩ = some (.int .i64 y) := (b11.2 1 _ rfl).1
            have fa25_1 : w22.frozen? ⟨RB, 1, none⟩ = false := (b11.2 1 _ rfl).2
            have ca25_2 : w22.cell? ⟨RB, 2, none⟩ = some (.slice B z c') := (b11.2 2 _ rfl).1
            have fa25_2 : w22.frozen? ⟨RB, 2, none⟩ = false := (b11.2 2 _ rfl).2
            have lww := lw.out
            go_wp2_with fail
            go_roundw
            case rel =>
              exact ⟨j + 1, by omega, by go_num, by rw [if_neg (by omega)]; exact O1.out, b3.far (p := ⟨w10.heap.size, M, none⟩) (by show w.heap.size ≠ w10.heap.size; omega) _, b11.far (p := ⟨w10.heap.size, M, none⟩) (by show RB ≠ w10.heap.size; omega) _, ⟨lo8, hi8, hL8, mL1.fr (fr_one (p := w10.heap.size) (i := M) (.int .i64 (v + 1))) (by omega)⟩, ⟨lo9, hi9, hL9, hvi.fr (fr_one (p := w10.heap.size) (i := M) (.int .i64 (v + 1))) (by omega)⟩, kw.setCell (p := ⟨w10.heap.size, M, none⟩) (by show w.heap.size ≤ w10.heap.size; omega) _⟩
            case measure => simp [intOf]; omega
        · obtain rfl : k = q := by omega
          have lt9 := own.lt
          have HE := hid HRL.out
          go_wp2
          go_ret2
          exact TcRes.yes (by rw [HY.out, HRL.out]) (own.mine (HTL.out k) (by omega) (Nat.le_of_lt lw.out) lt9 (Nat.le_refl _)) kw
set_option maxRecDepth 100000 in
set_option maxHeartbeats 3200000 in
theorem specTypeCounts_any {A A' R : Option Addr} {lo hi lo' hi' n c m lo3 hi3 q : Nat} {ps : List Int} {l : List VV} {rs : List RR} {w : World} (h : Ints w lo hi A n ps) (hv : Vars w lo' hi' A' m l) (ok : NamesOk l) (hr : Recs w lo3 hi3 R q rs) :
    Calls Try.prog 30 #[.agg #[.slice A n c], .slice A' m m, .slice R q q] w (TcRes w (tcQ ps l rs)) := by
  have hm := hv.le
  have hq := hr.le
  have h' : Sch w A' m m l := ⟨⟨_, _, hv⟩, ok, Nat.le_refl _, by unfold maxLen; omega⟩
  have hl := Vars.len hv
  have HRL := hid hr.len
  go_enter Try.func30, Try.ntmps30
  have kw := keeps_refl w
  replace kw := Keeps.trans kw (keeps_alloc w (.cells #[.slice A n c] 56))
  have b3 : B1 (w.alloc (.cells #[.slice A n c] 56)) w.heap.size (.slice A n c) := B1.new' (by simp)
  obtain ⟨ca1, fa1⟩ := id b3
  go_wp2_with fail
  clear ca1 fa1
  obtain ⟨pH1, H1⟩ : ∃ pB, Hid (tyB ps l = pB) := ⟨_, rfl⟩
  refine (aGood_any (h.keeps kw) (h'.keeps kw)).mono ?_
  rintro e w2 ⟨rfl, k2⟩
  rw [H1.out]
  replace b3 := b3.keeps k2
  replace kw := Keeps.trans kw k2
  have lt3 := b3.lt
  have sz4 := kw.size
  clear k2
  cases pH1
  · have HN := hid (tcQ_no (show (tyB ps l && survB ps l rs) = false by rw [H1.out]; rfl))
    obtain ⟨ca5, fa5⟩ := id b3
    go_wp2_with fail
    clear ca5 fa5
    go_ret2
    exact TcRes.no HN.out kw
  · skip
    have hp := tyB_parts H1.out
    have hb := tyN_bd hp.1 hp.2
    obtain ⟨hlv0, hm1, hm6⟩ := schB_lv hl hp.2
    have h12 : tyN ps l ≤ 12 := by have := H1.out; unfold tyB at this; simp only [Bool.and_eq_true, decide_eq_true_eq] at this; exact this.2
    have HG := hid hp.1
    have HS := hid hp.2
    have HLV := hid hlv0
    clear hp hlv0
    obtain ⟨ca5, fa5⟩ := id b3
    go_wp2_with fail
    clear ca5 fa5
    obtain ⟨pH2, H2⟩ : ∃ pB, Hid (survB ps l rs = pB) := ⟨_, rfl⟩
    refine (uSurvey_any (h.keeps kw) (h'.keeps kw) (hr.keeps kw) HG.out HS.out).mono ?_
    rintro e w6 ⟨rfl, k6⟩
    rw [H2.out]
    replace b3 := b3.keeps k6
    replace kw := Keeps.trans kw k6
    have lt7 := b3.lt
    have sz8 := kw.size
    clear k6
    cases pH2
    · have HN := hid (tcQ_no (show (tyB ps l && survB ps l rs) = false by rw [H1.out, H2.out]; rfl))
      obtain ⟨ca9, fa9⟩ := id b3
      go_wp2_with fail
      clear ca9 fa9
      go_ret2
      exact TcRes.no HN.out kw
    · skip
      have HY := hid (tcQ_yes (show (tyB ps l && survB ps l rs) = true by rw [H1.out, H2.out]; rfl))
      obtain ⟨N, hN⟩ : ∃ N : Nat, tyN ps l = (N : Int) := ⟨(tyN ps l).toNat, by omega⟩
      have HN := hid hN
      have hN12 : N ≤ 12 := by omega
      have HTL := hid (fun k => (show (tcTo ps l rs k).length = N by rw [tcTo_len, hN]; rfl))
      have HT0 := hid (show tcTo ps l rs 0 = List.replicate N 0 by unfold tcTo; rw [hN]; rfl)
      clear hb h12 hN
      have hmk := make_ints N (by omega)
      obtain ⟨ca9, fa9⟩ := id b3
      go_wp2_with fail
      clear ca9 fa9
      refine (aTypes_any (h.keeps kw) (h'.keeps kw) HG.out HS.out).mono ?_
      rintro e w10 ⟨rfl, k10⟩
      rw [HN.out]
      replace b3 := b3.keeps k10
      replace kw := Keeps.trans kw k10
      have lt11 := b3.lt
      have sz12 := kw.size
      clear k10
      go_wp2_with fail
      replace b3 := b3.keeps (keeps_alloc w10 (.cells (madeCells #[.int .i64 0] N) 3))
      replace kw := Keeps.trans kw (keeps_alloc w10 (.cells (madeCells #[.int .i64 0] N) 3))
      clear hmk
      have own : Own (w10.alloc (.cells (madeCells #[.int .i64 0] N) 3)) w10.heap.size (tcTo ps l rs 0) := by rw [HT0.out]; exact Own.new _ _
      obtain ⟨P, hP⟩ : ∃ P, prodTo l m = P := ⟨_, rfl⟩
      have HP := hid hP
      clear hP
      have lw := hid (show w.heap.size < w10.heap.size by omega)
      go_loopw [28] (fun i wr => ∃ k : Nat, k ≤ q ∧ i = .int .i64 k ∧ Own wr w10.heap.size (tcTo ps l rs k) ∧ B1 wr w.heap.size (.slice A n c) ∧ Keeps w wr) (fun i _ => q - (intOf i).toNat)
      case atStart => exact ⟨0, Nat.zero_le _, rfl, own, b3, kw⟩
      clear b3 kw own
      case round =>
        obtain ⟨k, hk, rfl, own, b3, kw⟩ := hrel
        by_cases hlt : k < q
        · obtain ⟨b, off, x, y, B, z, c', zs, rfl, _, _, hc, hd, hvv, hvi, hx⟩ := (hr.keeps kw).at_ hlt
          have hi1 : (k : Int) < (q : Int) := by omega
          have hrow := survB_row H2.out (k := k) (by rw [HRL.out]; exact hlt)
          rw [← hx.out] at hrow
          obtain ⟨h40, hxl, hfit⟩ := hrow
          rw [HRL.out] at h40
          have hll : l.length = m := hl
          have hlv2 : LvOk l l.length := by rw [hl]; exact HLV.out
          have htp := tcP_bd (r := (x, y, zs)) hxl hfit hlv2
          rw [HN.out] at htp
          obtain ⟨M, hM⟩ : ∃ M : Nat, tcP ps l (x, y, zs) = (M : Int) := ⟨(tcP ps l (x, y, zs)).toNat, by omega⟩
          rw [hM] at htp
          have hMN : M < N := by omega
          have HNX := hid (tcTo_next hx.out hM)
          have hix := ixTo_bd hfit hlv2 _ (Nat.le_refl _)
          have hpb := prodTo_bd hlv2 _ (Nat.le_refl _)
          rw [hl, HP.out] at hix hpb
          have HPN := hid (posN_lt hxl)
          have HMM : (posN (leaves ps) x : Int) * P + ixTo l zs m = (M : Int) := by rw [← hM]; unfold tcP; rw [hl, HP.out]
          have HXL := hid hxl
          have HFIT := hid hfit
          obtain ⟨I, hI⟩ : ∃ I, ixTo l zs m = I := ⟨_, rfl⟩
          have HI := hid hI
          rw [hI] at hix HMM
          obtain ⟨p, hp⟩ : ∃ p, posN (leaves ps) x = p := ⟨_, rfl⟩
          rw [hp] at HPN HMM
          have HPP := hid hp
          have hbd := tcTo_bd ps l rs k M
          obtain ⟨v, hv1⟩ : ∃ v, (tcTo ps l rs k).getD M 0 = v := ⟨_, rfl⟩
          rw [hv1] at hbd HNX
          have HV1 := hid hv1
          have hv2 : 0 ≤ v ∧ v ≤ 40 := by omega
          have hP1 := hpb.1
          have hpP : 0 ≤ (p : Int) * P := Int.mul_nonneg (by omega) (by omega)
          have hpP2 : (p : Int) * P ≤ 12 := by omega
          clear hx hll hlv2 hpb hI hp hbd hv1 hxl hfit hM
          have lt3 := b3.lt
          have ltG := own.lt
          have lww := lw.out
          have lto0 := own.lt
          replace b3 := b3.keeps (keeps_alloc wr (.cells #[.int .i64 x, .int .i64 y, .slice B z c'] 77))
          replace own := own.keeps (keeps_alloc wr (.cells #[.int .i64 x, .int .i64 y, .slice B z c'] 77))
          replace hvi := hvi.keeps (keeps_alloc wr (.cells #[.int .i64 x, .int .i64 y, .slice B z c'] 77))
          replace kw := Keeps.trans kw (keeps_alloc wr (.cells #[.int .i64 x, .int .i64 y, .slice B z c'] 77))
          have b10 : Bl (wr.alloc (.cells #[.int .i64 x, .int .i64 y, .slice B z c'] 77)) wr.heap.size [.int .i64 x, .int .i64 y, .slice B z c'] := Bl.new' (by simp) (by simp)
          obtain ⟨ca3, -⟩ := id b3
          have cb0 := (b10.2 0 _ rfl).1
          have cb1 := (b10.2 1 _ rfl).1
          have cb2 := (b10.2 2 _ rfl).1
          have cM := own.cell M (by rw [HTL.out]; exact hMN)
          rw [HV1.out] at cM
          have lto := own.lt
          have ltb := b10.lt
          have kS := hid (show ∀ w', Keeps (wr.alloc (.cells #[.int .i64 x, .int .i64 y, .slice B z c'] 77)) w' → (w'.cell? ⟨w.heap.size, 0, none⟩ = some (.slice A n c) ∧ w'.cell? ⟨wr.heap.size, 0, none⟩ = some (.int .i64 x) ∧ w'.cell? ⟨wr.heap.size, 1, none⟩ = some (.int .i64 y) ∧ w'.cell? ⟨wr.heap.size, 2, none⟩ = some (.slice B z c') ∧ w'.cell? ⟨w10.heap.size, M, none⟩ = some (.int .i64 (rdI w' w10.heap.size M))) from fun w' k => ⟨cell_keeps ca3 k, cell_keeps cb0 k, cell_keeps cb1 k, cell_keeps cb2 k, cell_rdI (cell_keeps cM k)⟩)
          have hGr : w10.heap.size < wr.heap.size := lto0
          have kS2 := hid (show ∀ w' (u : Int), Keeps (wr.alloc (.cells #[.int .i64 x, .int .i64 y, .slice B z c'] 77)) w' → ((w'.setCell ⟨w10.heap.size, M, none⟩ (.int .i64 u)).cell? ⟨w.heap.size, 0, none⟩ = some (.slice A n c) ∧ (w'.setCell ⟨w10.heap.size, M, none⟩ (.int .i64 u)).cell? ⟨wr.heap.size, 0, none⟩ = some (.int .i64 x) ∧ (w'.setCell ⟨w10.heap.size, M, none⟩ (.int .i64 u)).cell? ⟨wr.heap.size, 1, none⟩ = some (.int .i64 y) ∧ (w'.setCell ⟨w10.heap.size, M, none⟩ (.int .i64 u)).cell? ⟨wr.heap.size, 2, none⟩ = some (.slice B z c') ∧ (w'.setCell ⟨w10.heap.size, M, none⟩ (.int .i64 u)).cell? ⟨w10.heap.size, M, none⟩ = some (.int .i64 (rdI (w'.setCell ⟨w10.heap.size, M, none⟩ (.int .i64 u)) w10.heap.size M))) from fun w' u k => by
            obtain ⟨s1, s2, s3, s4, s5⟩ := kS.out w' k
            refine ⟨?_, ?_, ?_, ?_, cell_rdI (World.cell?_setCell_same _ _ _ (cell_keeps cM k))⟩
            · rw [World.cell?_setCell_other _ _ _ _ (by intro e; injection e with e _; omega)]; exact s1
            · rw [World.cell?_setCell_other _ _ _ _ (by intro e; injection e with e _; omega)]; exact s2
            · rw [World.cell?_setCell_other _ _ _ _ (by intro e; injection e with e _; omega)]; exact s3
            · rw [World.cell?_setCell_other _ _ _ _ (by intro e; injection e with e _; omega)]; exact s4)
          have wp1 : IntKind.i64.wrap ((p : Int) * P) = (p : Int) * P := IntWalk.i64_in _ (by omega)
          have wp2 : IntKind.i64.wrap ((p : Int) * P + I) = (M : Int) := by rw [HMM]; exact IntWalk.i64_in _ (by omega)
          have wv : IntKind.i64.wrap (v + 1) = v + 1 := IntWalk.i64_in _ (by omega)
          have hMz : (0 : Int) ≤ (M : Int) := by omega
          clear HMM
          have hM0 : (M : Int) < (N : Int) := by omega
          have OW := hid own
          have HVI := hid hvi
          have KW := hid kw
          have B3 := hid b3
          clear hvi own kw b10
          go_wp2_with fail
          clear hc hd hvv
          have kW := keeps_d0 (wr.alloc (.cells #[.int .i64 x, .int .i64 y, .slice B z c'] 77))
          have z3 := cell_keeps ca3 kW
          have z0 := cell_keeps cb0 kW
          have z1 := cell_keeps cb1 kW
          have z2 := cell_keeps cb2 kW
          have hce := cell_keeps cM kW
          have hfe := (OW.out.keeps kW).frozen M
          replace z3 : (wr.alloc (.cells #[.int .i64 x, .int .i64 y, .slice B z c'] 77)).drew.cell? ⟨w.heap.size, 0, none⟩ = some (.slice A n c) := z3
          go_region_law ((first | (refine step_anyF (gLeaves_any (c := c) (h.keeps (Keeps.trans KW.out kW)) HG.out) (by rfl) (fun e w' hh => by obtain ⟨_, _, h, _⟩ := hh; exact ⟨_, h⟩) rfl (by kernel_rfl) ?_; intro v9 wB hh; obtain ⟨LA, LC, eE, mL0, kB⟩ := hh; cases eE; have mL := mL0.1; clear mL0; replace kW : Keeps (wr.alloc (.cells #[.int .i64 x, .int .i64 y, .slice B z c'] 77)) wB := kW.trans kB; clear kB; have z3 := cell_keeps ca3 kW; have z0 := cell_keeps cb0 kW; have z1 := cell_keeps cb1 kW; have z2 := cell_keeps cb2 kW; have hce := cell_keeps cM kW; have hfe := (OW.out.keeps kW).frozen M) | (refine step_anyF (sCount_any (c := m) (Sl.keeps hv (Keeps.trans KW.out kW)) HLV.out hm6) (by rfl) (fun e w' hh => by obtain ⟨h, _⟩ := hh; exact ⟨_, h⟩) rfl (by kernel_rfl) ?_; intro v9 wB hh; obtain ⟨eE, kB⟩ := hh; cases eE; rw [HP.out]; (first | (have mL := mL.keeps kB) | skip); replace kW : Keeps (wr.alloc (.cells #[.int .i64 x, .int .i64 y, .slice B z c'] 77)) wB := kW.trans kB; clear kB; have z3 := cell_keeps ca3 kW; have z0 := cell_keeps cb0 kW; have z1 := cell_keeps cb1 kW; have z2 := cell_keeps cb2 kW; have hce := cell_keeps cM kW; have hfe := (OW.out.keeps kW).frozen M) | (refine step_anyF (sIndex_any (c := c') (d := m) (HVI.out.keeps kW) (h'.keeps (Keeps.trans KW.out kW)) HFIT.out HLV.out hm6) (by rfl) (fun e w' hh => by obtain ⟨h, _⟩ := hh; exact ⟨_, h⟩) rfl (by kernel_rfl) ?_; intro v9 wB hh; obtain ⟨eE, kB⟩ := hh; cases eE; rw [HI.out]; (first | (have mL := mL.keeps kB) | skip); replace kW : Keeps (wr.alloc (.cells #[.int .i64 x, .int .i64 y, .slice B z c'] 77)) wB := kW.trans kB; clear kB; have z3 := cell_keeps ca3 kW; have z0 := cell_keeps cb0 kW; have z1 := cell_keeps cb1 kW; have z2 := cell_keeps cb2 kW; have hce := cell_keeps cM kW; have hfe := (OW.out.keeps kW).frozen M) | (refine step_anyF (l1Find_any (c := LC) mL HXL.out) (by rfl) (fun e w' hh => by obtain ⟨h, _⟩ := hh; exact ⟨_, h⟩) rfl (by kernel_rfl) ?_; intro v9 wB hh; obtain ⟨eE, eW⟩ := hh; cases eE; subst eW; rw [HPP.out])))
          all_goals (
            have O1 := hid ((OW.out.keeps kW).set_ M (v + 1))
            rw [HNX.out] at O1
            have X3 := hid ((B3.out.keeps kW).far (p := ⟨w10.heap.size, M, none⟩) (by show w.heap.size ≠ w10.heap.size; omega) (.int .i64 (v + 1)))
            have K3 := hid ((KW.out.trans kW).setCell (p := ⟨w10.heap.size, M, none⟩) (by show w.heap.size ≤ w10.heap.size; omega) (.int .i64 (v + 1)))
            clear mL z3 z0 z1 z2 hce hfe
            go_wp2_with fail
            go_roundw
            case rel => exact ⟨k + 1, by omega, by go_num, O1.out, X3.out, K3.out⟩
            case measure => simp [intOf]; omega)
        · obtain rfl : k = q := by omega
          have lt9 := own.lt
          have HE := hid HRL.out
          go_wp2
          go_ret2
          exact TcRes.yes (by rw [HY.out, HRL.out]) (own.mine (HTL.out k) (by omega) (Nat.le_of_lt lw.out) lt9 (Nat.le_refl _)) kw
end Go.Proofs.Ytogdfgnolpfelaa
