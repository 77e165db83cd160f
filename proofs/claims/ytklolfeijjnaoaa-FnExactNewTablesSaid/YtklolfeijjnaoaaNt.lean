/- The tables that are new: of the program and of the reference. -/
import Derived.Test.YtklolfeijjnaoaaFv
namespace Go.Proofs.Ytklolfeijjnaoaa
open Go.RowKit Go.Sort
set_option linter.unusedVariables false
set_option linter.unusedSimpArgs false

theorem fr_belowN {B : Nat} {w w' : World} (k : Below B w w') : Fr B w.heap.size w w' := ⟨k.os, k.tape, k.output, k.size, fun i hi ho => k.block i (by omega)⟩
/-- The numbers below k where g fails. -/
def ntTo (g : Nat → Bool) : Nat → List Int
  | 0 => []
  | k + 1 => if g k then ntTo g k else ntTo g k ++ [(k : Int)]
theorem ntTo_len (g : Nat → Bool) : ∀ k, (ntTo g k).length ≤ k
  | 0 => Nat.le_refl _
  | k + 1 => by
    have := ntTo_len g k
    unfold ntTo; split
    · omega
    · rw [List.length_append]; simp; omega
theorem ntTo_yes {g : Nat → Bool} {k : Nat} (h : g k = true) : ntTo g (k + 1) = ntTo g k := by show (if g k then ntTo g k else ntTo g k ++ [(k : Int)]) = _; rw [h]; rfl
theorem ntTo_no {g : Nat → Bool} {k : Nat} (h : g k = false) : ntTo g (k + 1) = ntTo g k ++ [(k : Int)] := by show (if g k then ntTo g k else ntTo g k ++ [(k : Int)]) = _; rw [h]; rfl
def ntG (ps : List Int) (l : List VV) (rs : List RL) (ts : List TT) (n : Nat) (i : Nat) : Bool := exF (fvG ps l rs (ts.getD i t0)) n
def ntQ (ps : List Int) (l : List VV) (rs : List RL) (ts : List TT) : List Int × Bool :=
  if hisB ps l rs && plB ps l ts then (ntTo (ntG ps l rs ts rs.length) ts.length, true) else ([], false)
theorem ntQ_no {ps : List Int} {l : List VV} {rs : List RL} {ts : List TT} (h : (hisB ps l rs && plB ps l ts) = false) : ntQ ps l rs ts = ([], false) := by unfold ntQ; rw [h]; rfl
theorem ntQ_yes {ps : List Int} {l : List VV} {rs : List RL} {ts : List TT} {r n : Nat} (hr : rs.length = r) (hl : ts.length = n) (h : hisB ps l rs = true) (h1 : plB ps l ts = true) : ntQ ps l rs ts = (ntTo (ntG ps l rs ts r) n, true) := by unfold ntQ; rw [h, h1, hl, hr]; rfl
theorem ntQ_len (ps : List Int) (l : List VV) (rs : List RL) (ts : List TT) : (ntQ ps l rs ts).1.length ≤ ts.length := by
  unfold ntQ; split
  · exact ntTo_len _ _
  · simp

set_option maxRecDepth 100000 in
set_option maxHeartbeats 6400000 in
theorem implNewTables_any {A A' R Q : Option Addr} {lo hi a c0 lo3 hi3 lo4 hi4 k9 q r lo9 hi9 : Nat} {un un' : Bool} {ps : List Int} {l : List VV} {rs : List RL} {ts : List TT} {w : World} (h : Ints w lo hi A a ps) (hz : Vars w lo9 hi9 A' q l) (ok : NamesOk l) (hr : Rels true un w lo3 hi3 R r rs) (ht : Tabs true un' w lo4 hi4 Q k9 ts) :
    Calls Try.prog 62 #[.agg #[.slice A a c0], .slice A' q q, .slice R r r, .slice Q k9 k9] w fun e w' => ∃ A1 N1 C1, e = .returned (.tuple #[.slice A1 N1 C1, .bool (ntQ ps l rs ts).2]) ∧ Mine w' w.heap.size w'.heap.size A1 N1 (ntQ ps l rs ts).1 ∧ Keeps w w' := by
  have hq := hz.le
  have h' : Sch w A' q q l := ⟨⟨_, _, hz⟩, ok, Nat.le_refl _, by unfold maxLen; omega⟩
  have hn := hr.le
  have hk9 := ht.le
  have HRL := hid hr.len
  have HTL := hid ht.len
  obtain ⟨q0, q1, HQ⟩ : ∃ q0 q1, Hid (ntQ ps l rs ts = (q0, q1)) := ⟨_, _, rfl⟩
  rw [HQ.out]
  go_enter Try.func62, Try.ntmps62
  have kw := keeps_refl w
  replace kw := Keeps.trans kw (keeps_alloc w (.cells #[.slice A a c0] 38))
  have b4 : B1 (w.alloc (.cells #[.slice A a c0] 38)) w.heap.size (.slice A a c0) := B1.new' (by simp)
  obtain ⟨ca1, fa1⟩ := id b4
  go_wp2_with fail
  clear ca1 fa1
  obtain ⟨pHH, HH⟩ : ∃ pB, Hid (hisB ps l rs = pB) := ⟨_, rfl⟩
  refine (isHistory_any (h.keeps kw) (h'.keeps kw) (hr.keeps kw)).mono ?_
  rintro e w2 ⟨rfl, k2⟩
  rw [HH.out]
  replace b4 := b4.keeps k2
  replace kw := Keeps.trans kw k2
  have lt3 := b4.lt
  have sz4 := kw.size
  clear k2
  cases pHH
  · obtain ⟨e0, e1⟩ : q0 = [] ∧ q1 = false := by have := HQ.out.symm.trans (ntQ_no (by rw [HH.out]; rfl)); injection this with a b; exact ⟨a, b⟩
    subst e0 e1
    obtain ⟨ca5, fa5⟩ := id b4
    go_wp2_with fail
    clear ca5 fa5
    go_ret2
    exact ⟨none, 0, 0, rfl, Mine.nil_ _ _, kw⟩
  · skip
    obtain ⟨ca5, fa5⟩ := id b4
    go_wp2_with fail
    clear ca5 fa5
    have HGS := hid (hisB_parts HH.out)
    obtain ⟨pHB, HB⟩ : ∃ pB, Hid (plB ps l ts = pB) := ⟨_, rfl⟩
    refine (isPlan_any (h.keeps kw) (h'.keeps kw) (ht.keeps kw) HGS.out.1 HGS.out.2.1).mono ?_
    rintro e w6 ⟨rfl, k6⟩
    rw [HB.out]
    replace b4 := b4.keeps k6
    replace kw := Keeps.trans kw k6
    have lt7 := b4.lt
    have sz8 := kw.size
    clear k6
    cases pHB
    · obtain ⟨e0, e1⟩ : q0 = [] ∧ q1 = false := by have := HQ.out.symm.trans (ntQ_no (by rw [HH.out, HB.out]; rfl)); injection this with a b; exact ⟨a, b⟩
      subst e0 e1
      obtain ⟨ca9, fa9⟩ := id b4
      go_wp2_with fail
      clear ca9 fa9
      go_ret2
      exact ⟨none, 0, 0, rfl, Mine.nil_ _ _, kw⟩
    · skip
      obtain ⟨e0, e1⟩ : q0 = ntTo (ntG ps l rs ts r) k9 ∧ q1 = true := by have := HQ.out.symm.trans (ntQ_yes HRL.out HTL.out HH.out HB.out); injection this with a b; exact ⟨a, b⟩
      subst e0 e1
      have HPB := hid (plB_at HB.out).2
      obtain ⟨ca9, fa9⟩ := id b4
      go_wp2_with fail
      clear ca9 fa9
      have sz0 := b4.lt
      go_loopw [10, 27] (fun v i wr => ∃ k : Nat, k ≤ k9 ∧ i = .int .i64 k ∧ Has wr (w.heap.size + 1) 3 1 v (ntTo (ntG ps l rs ts r) k).length ((ntTo (ntG ps l rs ts r) k).map (Value.int .i64)) ∧ B1 wr w.heap.size (.slice A a c0) ∧ Keeps w wr) (fun _ i _ => k9 - (intOf i).toNat)
      case atStart => exact ⟨0, Nat.zero_le _, rfl, World.ownsRow_nil _ _ _ _, b4, kw⟩
      clear b4 kw
      case round =>
        obtain ⟨k, hk, rfl, hown, b4, kw⟩ := hrel
        have hkl := ntTo_len (ntG ps l rs ts r) k
        by_cases hlt : k < k9
        · obtain ⟨b', off', lu, V', n', c', H', m', d', su, us, xs, rfl, _, _, e0, e1, e2, e3, gv, gh, hx⟩ := ht.at_ hlt
          have HTB := hid (show tabB ps l (lu, us, xs, su) = true by have := HPB.out k (by rw [HTL.out]; exact hlt); rw [← hx.out] at this; exact this)
          have HGK := hid (show ntG ps l rs ts r k = exF (fvG ps l rs (lu, us, xs, su)) r by unfold ntG; rw [← hx.out])
          clear hx
          have hj1 : (k : Int) < (k9 : Int) := by omega
          have d0 := cell_keeps e0 kw
          have d1 := cell_keeps e1 kw
          have d2 := cell_keeps e2 kw
          have d3 := cell_keeps e3 kw
          have lt4 := b4.lt
          replace b4 := b4.keeps (keeps_alloc wr (.cells #[.int .i64 lu, .slice V' n' c', .slice H' m' d', .int .i64 su] 84))
          replace hown := hown.keeps (keeps_alloc wr (.cells #[.int .i64 lu, .slice V' n' c', .slice H' m' d', .int .i64 su] 84))
          replace kw := Keeps.trans kw (keeps_alloc wr (.cells #[.int .i64 lu, .slice V' n' c', .slice H' m' d', .int .i64 su] 84))
          have b12 : Bl (wr.alloc (.cells #[.int .i64 lu, .slice V' n' c', .slice H' m' d', .int .i64 su] 84)) wr.heap.size [.int .i64 lu, .slice V' n' c', .slice H' m' d', .int .i64 su] := Bl.new' (by simp) (by simp)
          obtain ⟨ca10, fa10⟩ := id b4
          have ca11_0 : (wr.alloc (.cells #[.int .i64 lu, .slice V' n' c', .slice H' m' d', .int .i64 su] 84)).cell? ⟨wr.heap.size, 0, none⟩ = some (.int .i64 lu) := (b12.2 0 _ rfl).1
          have fa11_0 : (wr.alloc (.cells #[.int .i64 lu, .slice V' n' c', .slice H' m' d', .int .i64 su] 84)).frozen? ⟨wr.heap.size, 0, none⟩ = false := (b12.2 0 _ rfl).2
          have ca11_1 : (wr.alloc (.cells #[.int .i64 lu, .slice V' n' c', .slice H' m' d', .int .i64 su] 84)).cell? ⟨wr.heap.size, 1, none⟩ = some (.slice V' n' c') := (b12.2 1 _ rfl).1
          have fa11_1 : (wr.alloc (.cells #[.int .i64 lu, .slice V' n' c', .slice H' m' d', .int .i64 su] 84)).frozen? ⟨wr.heap.size, 1, none⟩ = false := (b12.2 1 _ rfl).2
          have ca11_2 : (wr.alloc (.cells #[.int .i64 lu, .slice V' n' c', .slice H' m' d', .int .i64 su] 84)).cell? ⟨wr.heap.size, 2, none⟩ = some (.slice H' m' d') := (b12.2 2 _ rfl).1
          have fa11_2 : (wr.alloc (.cells #[.int .i64 lu, .slice V' n' c', .slice H' m' d', .int .i64 su] 84)).frozen? ⟨wr.heap.size, 2, none⟩ = false := (b12.2 2 _ rfl).2
          have ca11_3 : (wr.alloc (.cells #[.int .i64 lu, .slice V' n' c', .slice H' m' d', .int .i64 su] 84)).cell? ⟨wr.heap.size, 3, none⟩ = some (.int .i64 su) := (b12.2 3 _ rfl).1
          have fa11_3 : (wr.alloc (.cells #[.int .i64 lu, .slice V' n' c', .slice H' m' d', .int .i64 su] 84)).frozen? ⟨wr.heap.size, 3, none⟩ = false := (b12.2 3 _ rfl).2
          go_wp2_with fail
          clear ca10 fa10 ca11_0 fa11_0 ca11_1 fa11_1 ca11_2 fa11_2 ca11_3 fa11_3
          clear d0 d1 d2 d3 e0 e1 e2 e3
          refine (sourceVersion_any (h.keeps kw) (h'.keeps kw) (hr.keeps kw) (gv.keeps kw) (gh.keeps kw) HH.out HTB.out).mono ?_
          rintro e w12 ⟨rfl, k12⟩
          replace b4 := b4.keeps k12
          replace b12 := b12.keeps k12
          replace hown := hown.keeps k12
          replace kw := Keeps.trans kw k12
          have lt13 := b12.lt
          have sz14 := kw.size
          clear k12
          clear b12
          obtain ⟨N, HN⟩ : ∃ N, Hid (fst (fvG ps l rs (lu, us, xs, su)) r = N) := ⟨_, rfl⟩
          have hNr : N ≤ r := by rw [← HN.out]; exact fst_le _ _
          have lt5 := b4.lt
          obtain ⟨p, HPP⟩ : ∃ p, Hid (exF (fvG ps l rs (lu, us, xs, su)) r = p) := ⟨_, rfl⟩
          cases p
          · have HT := hid (ntTo_no (HGK.out.trans HPP.out))
            rw [svI_f HPP.out]
            go_wp2_with (at_builtin; refine append_int (xs := ntTo (ntG ps l rs ts r) k) hown (by omega) (by omega) _ _ rfl rfl rfl (by first | rfl | (simp <;> rfl)) ?_; intro v' w' hown' hb')
            have H1 := hid hown'
            rw [show (ntTo (ntG ps l rs ts r) k).length + 1 = (ntTo (ntG ps l rs ts r) k ++ [(k : Int)]).length by simp, ← HT.out] at H1
            have H2 := hid (Below.trans kw (hb'.mono (by omega)))
            have H3 := hid (b4.fr (fr_belowN hb') (by omega))
            clear hown' hb' kw hown b4
            go_wp2
            go_roundw
            case rel => exact ⟨k + 1, by omega, by go_num, H1.out, H3.out, H2.out⟩
            case measure => simp [intOf]; omega
          have HT := hid (ntTo_yes (HGK.out.trans HPP.out))
          have H1 := hid hown
          rw [← HT.out] at H1
          clear hown
          rw [svI_t HPP.out, HN.out]
          have ge : ((N : Int) + 1 == 0) = false := by rw [beq_eq_false_iff_ne]; omega
          go_wp2_with fail
          go_roundw
          case rel => exact ⟨k + 1, by omega, by go_num, H1.out, b4, kw⟩
          case measure => simp [intOf]; omega
        · obtain rfl : k9 = k := by omega
          obtain ⟨A1, C1, rfl⟩ := hown.form
          have sz9 := b4.lt
          have HM := hid ((Mine.of_own hown (by omega)).widen (lo' := w.heap.size) (by omega) (Nat.le_refl _) (Nat.le_refl _))
          clear hown
          go_wp2
          go_ret2
          exact ⟨A1, _, C1, rfl, HM.out, kw⟩
set_option maxRecDepth 100000 in
set_option maxHeartbeats 6400000 in
theorem specNewTables_any {A A' R Q : Option Addr} {lo hi a c0 lo3 hi3 lo4 hi4 k9 q r lo9 hi9 : Nat} {un un' : Bool} {ps : List Int} {l : List VV} {rs : List RL} {ts : List TT} {w : World} (h : Ints w lo hi A a ps) (hz : Vars w lo9 hi9 A' q l) (ok : NamesOk l) (hr : Rels true un w lo3 hi3 R r rs) (ht : Tabs true un' w lo4 hi4 Q k9 ts) :
    Calls Try.prog 61 #[.agg #[.slice A a c0], .slice A' q q, .slice R r r, .slice Q k9 k9] w fun e w' => ∃ A1 N1 C1, e = .returned (.tuple #[.slice A1 N1 C1, .bool (ntQ ps l rs ts).2]) ∧ Mine w' w.heap.size w'.heap.size A1 N1 (ntQ ps l rs ts).1 ∧ Keeps w w' := by
  have hq := hz.le
  have h' : Sch w A' q q l := ⟨⟨_, _, hz⟩, ok, Nat.le_refl _, by unfold maxLen; omega⟩
  have hn := hr.le
  have hk9 := ht.le
  have HRL := hid hr.len
  have HTL := hid ht.len
  obtain ⟨q0, q1, HQ⟩ : ∃ q0 q1, Hid (ntQ ps l rs ts = (q0, q1)) := ⟨_, _, rfl⟩
  rw [HQ.out]
  go_enter Try.func61, Try.ntmps61
  have kw := keeps_refl w
  replace kw := Keeps.trans kw (keeps_alloc w (.cells #[.slice A a c0] 38))
  have b4 : B1 (w.alloc (.cells #[.slice A a c0] 38)) w.heap.size (.slice A a c0) := B1.new' (by simp)
  obtain ⟨ca1, fa1⟩ := id b4
  go_wp2_with fail
  clear ca1 fa1
  obtain ⟨pHH, HH⟩ : ∃ pB, Hid (hisB ps l rs = pB) := ⟨_, rfl⟩
  refine (rlHistory_any (h.keeps kw) (h'.keeps kw) (hr.keeps kw)).mono ?_
  rintro e w2 ⟨rfl, k2⟩
  rw [HH.out]
  replace b4 := b4.keeps k2
  replace kw := Keeps.trans kw k2
  have lt3 := b4.lt
  have sz4 := kw.size
  clear k2
  cases pHH
  · obtain ⟨e0, e1⟩ : q0 = [] ∧ q1 = false := by have := HQ.out.symm.trans (ntQ_no (by rw [HH.out]; rfl)); injection this with a b; exact ⟨a, b⟩
    subst e0 e1
    obtain ⟨ca5, fa5⟩ := id b4
    go_wp2_with fail
    clear ca5 fa5
    go_ret2
    exact ⟨none, 0, 0, rfl, Mine.nil_ _ _, kw⟩
  · skip
    obtain ⟨ca5, fa5⟩ := id b4
    go_wp2_with fail
    clear ca5 fa5
    have HGS := hid (hisB_parts HH.out)
    obtain ⟨pHB, HB⟩ : ∃ pB, Hid (plB ps l ts = pB) := ⟨_, rfl⟩
    refine (nPlan_any (h.keeps kw) (h'.keeps kw) (ht.keeps kw) HGS.out.1 HGS.out.2.1).mono ?_
    rintro e w6 ⟨rfl, k6⟩
    rw [HB.out]
    replace b4 := b4.keeps k6
    replace kw := Keeps.trans kw k6
    have lt7 := b4.lt
    have sz8 := kw.size
    clear k6
    cases pHB
    · obtain ⟨e0, e1⟩ : q0 = [] ∧ q1 = false := by have := HQ.out.symm.trans (ntQ_no (by rw [HH.out, HB.out]; rfl)); injection this with a b; exact ⟨a, b⟩
      subst e0 e1
      obtain ⟨ca9, fa9⟩ := id b4
      go_wp2_with fail
      clear ca9 fa9
      go_ret2
      exact ⟨none, 0, 0, rfl, Mine.nil_ _ _, kw⟩
    · skip
      obtain ⟨e0, e1⟩ : q0 = ntTo (ntG ps l rs ts r) k9 ∧ q1 = true := by have := HQ.out.symm.trans (ntQ_yes HRL.out HTL.out HH.out HB.out); injection this with a b; exact ⟨a, b⟩
      subst e0 e1
      have HPB := hid (plB_at HB.out).2
      obtain ⟨ca9, fa9⟩ := id b4
      go_wp2_with fail
      clear ca9 fa9
      have sz0 := b4.lt
      go_loopw [10, 27] (fun v i wr => ∃ k : Nat, k ≤ k9 ∧ i = .int .i64 k ∧ Has wr (w.heap.size + 1) 3 1 v (ntTo (ntG ps l rs ts r) k).length ((ntTo (ntG ps l rs ts r) k).map (Value.int .i64)) ∧ B1 wr w.heap.size (.slice A a c0) ∧ Keeps w wr) (fun _ i _ => k9 - (intOf i).toNat)
      case atStart => exact ⟨0, Nat.zero_le _, rfl, World.ownsRow_nil _ _ _ _, b4, kw⟩
      clear b4 kw
      case round =>
        obtain ⟨k, hk, rfl, hown, b4, kw⟩ := hrel
        have hkl := ntTo_len (ntG ps l rs ts r) k
        by_cases hlt : k < k9
        · obtain ⟨b', off', lu, V', n', c', H', m', d', su, us, xs, rfl, _, _, e0, e1, e2, e3, gv, gh, hx⟩ := ht.at_ hlt
          have HTB := hid (show tabB ps l (lu, us, xs, su) = true by have := HPB.out k (by rw [HTL.out]; exact hlt); rw [← hx.out] at this; exact this)
          have HGK := hid (show ntG ps l rs ts r k = exF (fvG ps l rs (lu, us, xs, su)) r by unfold ntG; rw [← hx.out])
          clear hx
          have hj1 : (k : Int) < (k9 : Int) := by omega
          have d0 := cell_keeps e0 kw
          have d1 := cell_keeps e1 kw
          have d2 := cell_keeps e2 kw
          have d3 := cell_keeps e3 kw
          have lt4 := b4.lt
          replace b4 := b4.keeps (keeps_alloc wr (.cells #[.int .i64 lu, .slice V' n' c', .slice H' m' d', .int .i64 su] 84))
          replace hown := hown.keeps (keeps_alloc wr (.cells #[.int .i64 lu, .slice V' n' c', .slice H' m' d', .int .i64 su] 84))
          replace kw := Keeps.trans kw (keeps_alloc wr (.cells #[.int .i64 lu, .slice V' n' c', .slice H' m' d', .int .i64 su] 84))
          have b12 : Bl (wr.alloc (.cells #[.int .i64 lu, .slice V' n' c', .slice H' m' d', .int .i64 su] 84)) wr.heap.size [.int .i64 lu, .slice V' n' c', .slice H' m' d', .int .i64 su] := Bl.new' (by simp) (by simp)
          obtain ⟨ca10, fa10⟩ := id b4
          have ca11_0 : (wr.alloc (.cells #[.int .i64 lu, .slice V' n' c', .slice H' m' d', .int .i64 su] 84)).cell? ⟨wr.heap.size, 0, none⟩ = some (.int .i64 lu) := (b12.2 0 _ rfl).1
          have fa11_0 : (wr.alloc (.cells #[.int .i64 lu, .slice V' n' c', .slice H' m' d', .int .i64 su] 84)).frozen? ⟨wr.heap.size, 0, none⟩ = false := (b12.2 0 _ rfl).2
          have ca11_1 : (wr.alloc (.cells #[.int .i64 lu, .slice V' n' c', .slice H' m' d', .int .i64 su] 84)).cell? ⟨wr.heap.size, 1, none⟩ = some (.slice V' n' c') := (b12.2 1 _ rfl).1
          have fa11_1 : (wr.alloc (.cells #[.int .i64 lu, .slice V' n' c', .slice H' m' d', .int .i64 su] 84)).frozen? ⟨wr.heap.size, 1, none⟩ = false := (b12.2 1 _ rfl).2
          have ca11_2 : (wr.alloc (.cells #[.int .i64 lu, .slice V' n' c', .slice H' m' d', .int .i64 su] 84)).cell? ⟨wr.heap.size, 2, none⟩ = some (.slice H' m' d') := (b12.2 2 _ rfl).1
          have fa11_2 : (wr.alloc (.cells #[.int .i64 lu, .slice V' n' c', .slice H' m' d', .int .i64 su] 84)).frozen? ⟨wr.heap.size, 2, none⟩ = false := (b12.2 2 _ rfl).2
          have ca11_3 : (wr.alloc (.cells #[.int .i64 lu, .slice V' n' c', .slice H' m' d', .int .i64 su] 84)).cell? ⟨wr.heap.size, 3, none⟩ = some (.int .i64 su) := (b12.2 3 _ rfl).1
          have fa11_3 : (wr.alloc (.cells #[.int .i64 lu, .slice V' n' c', .slice H' m' d', .int .i64 su] 84)).frozen? ⟨wr.heap.size, 3, none⟩ = false := (b12.2 3 _ rfl).2
          go_wp2_with fail
          clear ca10 fa10 ca11_0 fa11_0 ca11_1 fa11_1 ca11_2 fa11_2 ca11_3 fa11_3
          clear d0 d1 d2 d3 e0 e1 e2 e3
          refine (rlFirst_any (h.keeps kw) (h'.keeps kw) (hr.keeps kw) (gv.keeps kw) (gh.keeps kw) HH.out HTB.out).mono ?_
          rintro e w12 ⟨rfl, k12⟩
          replace b4 := b4.keeps k12
          replace b12 := b12.keeps k12
          replace hown := hown.keeps k12
          replace kw := Keeps.trans kw k12
          have lt13 := b12.lt
          have sz14 := kw.size
          clear k12
          clear b12
          obtain ⟨N, HN⟩ : ∃ N, Hid (fst (fvG ps l rs (lu, us, xs, su)) r = N) := ⟨_, rfl⟩
          have hNr : N ≤ r := by rw [← HN.out]; exact fst_le _ _
          have lt5 := b4.lt
          obtain ⟨p, HPP⟩ : ∃ p, Hid (exF (fvG ps l rs (lu, us, xs, su)) r = p) := ⟨_, rfl⟩
          cases p
          · have HT := hid (ntTo_no (HGK.out.trans HPP.out))
            rw [ixF_f HPP.out]
            go_wp2_with (at_builtin; refine append_int (xs := ntTo (ntG ps l rs ts r) k) hown (by omega) (by omega) _ _ rfl rfl rfl (by first | rfl | (simp <;> rfl)) ?_; intro v' w' hown' hb')
            have H1 := hid hown'
            rw [show (ntTo (ntG ps l rs ts r) k).length + 1 = (ntTo (ntG ps l rs ts r) k ++ [(k : Int)]).length by simp, ← HT.out] at H1
            have H2 := hid (Below.trans kw (hb'.mono (by omega)))
            have H3 := hid (b4.fr (fr_belowN hb') (by omega))
            clear hown' hb' kw hown b4
            go_wp2
            go_roundw
            case rel => exact ⟨k + 1, by omega, by go_num, H1.out, H3.out, H2.out⟩
            case measure => simp [intOf]; omega
          have HT := hid (ntTo_yes (HGK.out.trans HPP.out))
          have H1 := hid hown
          rw [← HT.out] at H1
          clear hown
          rw [ixF_t HPP.out, HN.out]
          have ge : ¬ (N : Int) < 0 := by omega
          go_wp2_with fail
          go_roundw
          case rel => exact ⟨k + 1, by omega, by go_num, H1.out, b4, kw⟩
          case measure => simp [intOf]; omega
        · obtain rfl : k9 = k := by omega
          obtain ⟨A1, C1, rfl⟩ := hown.form
          have sz9 := b4.lt
          have HM := hid ((Mine.of_own hown (by omega)).widen (lo' := w.heap.size) (by omega) (Nat.le_refl _) (Nat.le_refl _))
          clear hown
          go_wp2
          go_ret2
          exact ⟨A1, _, C1, rfl, HM.out, kw⟩
end Go.Proofs.Ytklolfeijjnaoaa
