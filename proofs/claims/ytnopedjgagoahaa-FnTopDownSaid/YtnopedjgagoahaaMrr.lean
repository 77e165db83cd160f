/- RandomResponse: of the reference and of the program. -/
import Derived.Test.YtnopedjgagoahaaMbuild
import Derived.Test.YtnopedjgagoahaaMdel
namespace Go.Proofs.Ytnopedjgagoahaa
open Go.RowKit
set_option linter.unusedVariables false
set_option linter.unusedSimpArgs false

/-- What a function that makes a mechanism hands back: its rows in new memory, and a bool. -/
def MRes (w : World) (R : List (List QQ) × Bool) (e : Ending) (w' : World) : Prop :=
  ∃ A' N C, e = .returned (.tuple #[.agg #[.slice A' N C], .bool R.2]) ∧ RM w' w.heap.size w'.heap.size A' N R.1 ∧ Keeps w w'
def MResB (w : World) (R : List (List QQ) × Bool) (e : Ending) (w' : World) : Prop :=
  ∃ A' N C, e = .returned (.tuple #[.agg #[.slice A' N C], .bool R.2]) ∧ RM w' w.heap.size w'.heap.size A' N R.1 ∧ (R.2 = true → ∃ B top, w.heap.size ≤ B ∧ Built w' B (.slice A' N C) N R.1 top) ∧ Keeps w w'
theorem MResB.res {w w' : World} {R : List (List QQ) × Bool} {e : Ending} (h : MResB w R e w') : MRes w R e w' := by obtain ⟨A', N, C, h1, h2, _, h3⟩ := h; exact ⟨A', N, C, h1, h2, h3⟩
/-- A probability. -/
def chB (p q : Int) : Bool := fracB p q && decide (0 ≤ p) && decide (p ≤ q)
theorem chB_true {p q : Int} : chB p q = true ↔ fracB p q = true ∧ 0 ≤ p ∧ p ≤ q := by simp [chB, and_assoc]
theorem chB_no {p q : Int} (h : ¬ (fracB p q = true ∧ 0 ≤ p ∧ p ≤ q)) : chB p q = false := by rw [Bool.eq_false_iff]; intro h1; exact h (chB_true.1 h1)
theorem rest_frac {p q : Int} (h : chB p q = true) : fracB (q - p) q = true := by
  have h1 := chB_true.1 h
  have h2 := fracB_true.1 h1.1
  refine fracB_true.2 ⟨h2.1, by omega, ?_⟩
  have := h2.2.2
  rw [Int.gcd_comm] at this ⊢
  rwa [Int.gcd_self_sub_right]
/-- The row i of the randomised response. -/
def rrF (p q o1 o2 : Int) (i j : Nat) : Int × Int × Bool := if i = j then (p, q, true) else (o1, o2, true)
theorem rrF_ok (p q o1 o2 : Int) (n m : Nat) : okAll (rrF p q o1 o2) n m = true := by
  simp only [okAll, List.all_eq_true]
  intro i _ j _
  unfold rrF; split <;> rfl
def rrsQ (n p q : Int) : List (List QQ) × Bool :=
  if inB n 2 8 = true ∧ chB p q = true ∧ (mkF ((q - p) * 1) (q * (n - 1))).2.2 = true then nmQ (rrF p q (mkF ((q - p) * 1) (q * (n - 1))).1 (mkF ((q - p) * 1) (q * (n - 1))).2.1) n.toNat n.toNat else ([], false)
theorem rrsQ_no {n p q : Int} (h : ¬ (inB n 2 8 = true ∧ chB p q = true)) : rrsQ n p q = ([], false) := if_neg (fun k => h ⟨k.1, k.2.1⟩)
theorem rrsQ_no2 {n p q o1 o2 : Int} (h : mkF ((q - p) * 1) (q * (n - 1)) = (o1, o2, false)) : rrsQ n p q = ([], false) := if_neg (fun k => by have := k.2.2; rw [h] at this; cases this)
theorem rrsQ_yes {n : Nat} {p q o1 o2 : Int} (h1 : inB (n : Int) 2 8 = true) (h2 : chB p q = true) (h : mkF ((q - p) * 1) (q * ((n : Int) - 1)) = (o1, o2, true)) : rrsQ n p q = nmQ (rrF p q o1 o2) n n := by
  unfold rrsQ; rw [if_pos ⟨h1, h2, by rw [h]⟩, h]; simp
theorem rrsQ_len (n p q : Int) : (rrsQ n p q).1.length ≤ 64 ∧ rowSum (rrsQ n p q).1 (rrsQ n p q).1.length ≤ 67108864 := by
  unfold rrsQ
  split
  · exact nmQ_small _ _ _
  · simp [rowSum]

set_option maxRecDepth 100000 in
set_option maxHeartbeats 800000 in
theorem mIf_yes {A : Option Addr} {lo hi n c : Nat} {ll : List (List QQ)} {w : World} (h : FRows w lo hi A n ll) (hg : mechB ll = true) :
    Calls Try.prog 94 #[.slice A n c] w fun e w' => e = .returned (.tuple #[.agg #[.slice A n c], .bool true]) ∧ Keeps w w' := by
  have HG := hid hg
  clear hg
  go_enter Try.func94, Try.ntmps94
  have kw := keeps_refl w
  replace kw := Keeps.trans kw (keeps_alloc w (.cells #[.slice none 0 0] 25))
  have b2 : B1 (w.alloc (.cells #[.slice none 0 0] 25)) w.heap.size (.slice none 0 0) := B1.new' (by simp)
  replace b2 := b2.keeps (keeps_alloc (w.alloc (.cells #[.slice none 0 0] 25)) (.cells #[.slice A n c] 25))
  replace kw := Keeps.trans kw (keeps_alloc (w.alloc (.cells #[.slice none 0 0] 25)) (.cells #[.slice A n c] 25))
  have b4 : B1 ((w.alloc (.cells #[.slice none 0 0] 25)).alloc (.cells #[.slice A n c] 25)) (w.heap.size + 1) (.slice A n c) := B1.new' (by simp)
  obtain ⟨ca1, fa1⟩ := id b4
  go_wp2_with fail
  clear ca1 fa1
  refine (mGood_any (h.keeps kw)).mono ?_
  rintro e w2 ⟨rfl, k2⟩
  rw [HG.out]
  replace b2 := b2.keeps k2
  replace b4 := b4.keeps k2
  replace kw := Keeps.trans kw k2
  have lt3 := b4.lt
  have sz4 := kw.size
  clear k2
  obtain ⟨ca5, fa5⟩ := id b2
  obtain ⟨ca6, fa6⟩ := id b4
  go_wp2_with fail
  clear ca5 fa5 ca6 fa6
  obtain ⟨ca0, fa0⟩ := id b2
  exact bodyPost_ret (v := .tuple #[.agg #[.slice A n c], .bool true]) (by simp [results, Try.results94, go_sem, ca0]) rfl ⟨rfl, Below.setCell kw (p := ⟨w.heap.size, 0, none⟩) (by show _ ≤ w.heap.size; omega) _⟩
set_option maxRecDepth 100000 in
set_option maxHeartbeats 800000 in
theorem mIf_no {A : Option Addr} {lo hi n c : Nat} {ll : List (List QQ)} {w : World} (h : FRows w lo hi A n ll) (hg : mechB ll = false) :
    Calls Try.prog 94 #[.slice A n c] w fun e w' => e = .returned (.tuple #[.agg #[.slice none 0 0], .bool false]) ∧ Keeps w w' := by
  have HG := hid hg
  clear hg
  go_enter Try.func94, Try.ntmps94
  have kw := keeps_refl w
  replace kw := Keeps.trans kw (keeps_alloc w (.cells #[.slice none 0 0] 25))
  have b2 : B1 (w.alloc (.cells #[.slice none 0 0] 25)) w.heap.size (.slice none 0 0) := B1.new' (by simp)
  replace b2 := b2.keeps (keeps_alloc (w.alloc (.cells #[.slice none 0 0] 25)) (.cells #[.slice A n c] 25))
  replace kw := Keeps.trans kw (keeps_alloc (w.alloc (.cells #[.slice none 0 0] 25)) (.cells #[.slice A n c] 25))
  have b4 : B1 ((w.alloc (.cells #[.slice none 0 0] 25)).alloc (.cells #[.slice A n c] 25)) (w.heap.size + 1) (.slice A n c) := B1.new' (by simp)
  obtain ⟨ca1, fa1⟩ := id b4
  go_wp2_with fail
  clear ca1 fa1
  refine (mGood_any (h.keeps kw)).mono ?_
  rintro e w2 ⟨rfl, k2⟩
  rw [HG.out]
  replace b2 := b2.keeps k2
  replace b4 := b4.keeps k2
  replace kw := Keeps.trans kw k2
  have lt3 := b4.lt
  have sz4 := kw.size
  clear k2
  obtain ⟨ca5, fa5⟩ := id b2
  obtain ⟨ca6, fa6⟩ := id b4
  go_wp2_with fail
  clear ca5 fa5 ca6 fa6
  obtain ⟨ca0, fa0⟩ := id b2
  exact bodyPost_ret (v := .tuple #[.agg #[.slice none 0 0], .bool false]) (by simp [results, Try.results94, go_sem, ca0]) rfl ⟨rfl, Below.setCell kw (p := ⟨w.heap.size, 0, none⟩) (by show _ ≤ w.heap.size; omega) _⟩
set_option maxRecDepth 100000 in
set_option maxHeartbeats 6400000 in
theorem specRandomResponse_own {n p q : Int} {w : World} (wn : (Lit.int .i64 n).wf = true) (wp : I64 p ∧ I64 q) :
    Calls Try.prog 219 #[.int .i64 n, .agg #[.int .i64 p, .int .i64 q]] w (MResB w (rrsQ n p q)) := by
  go_enter Try.func219, Try.ntmps219
  have kw := keeps_refl w
  replace kw := Keeps.trans kw (keeps_alloc w (.cells #[.int .i64 p, .int .i64 q] 31))
  have b3 : Bx (w.alloc (.cells #[.int .i64 p, .int .i64 q] 31)) w.heap.size p q := Bx.new' (by simp)
  replace b3 := b3.keeps (keeps_alloc (w.alloc (.cells #[.int .i64 p, .int .i64 q] 31)) (.cells #[.slice none 0 0] 25))
  replace kw := Keeps.trans kw (keeps_alloc (w.alloc (.cells #[.int .i64 p, .int .i64 q] 31)) (.cells #[.slice none 0 0] 25))
  have b4 : B1 ((w.alloc (.cells #[.int .i64 p, .int .i64 q] 31)).alloc (.cells #[.slice none 0 0] 25)) (w.heap.size + 1) (.slice none 0 0) := B1.new' (by simp)
  go_wp2_with fail
  obtain ⟨pH0, H0⟩ : ∃ pB, Hid (inB n 2 8 = pB) := ⟨_, rfl⟩
  refine (l1In_any _ _ _ _).mono ?_
  rintro e w' ⟨rfl, rfl⟩
  rw [H0.out]
  cases pH0
  · have HF := hid (rrsQ_no (n := n) (p := p) (q := q) (by rw [H0.out]; simp))
    obtain ⟨ca1, cb1, fa1, fb1⟩ := id b3
    obtain ⟨ca2, fa2⟩ := id b4
    go_wp2_with fail
    clear ca1 cb1 fa1 fb1 ca2 fa2
    obtain ⟨ca0, fa0⟩ := id b4
    refine bodyPost_ret (v := .tuple #[.agg #[.slice none 0 0], .bool false]) (by simp [results, Try.results219, go_sem, ca0]) rfl ⟨none, 0, 0, by rw [HF.out], ?_, (by rw [HF.out]; intro h; cases h), ?_⟩
    · rw [HF.out]; exact RM.nil_ _ _
    · first | exact Below.setCell kw (p := ⟨w.heap.size + 1, 0, none⟩) (Nat.le_refl _) _ | exact kw | exact Below.setCell kw (p := ⟨w.heap.size + 1, 0, none⟩) (by show _ ≤ (w.heap.size + 1); omega) _
  · skip
    obtain ⟨ca1, cb1, fa1, fb1⟩ := id b3
    go_wp2_with fail
    clear ca1 cb1 fa1 fb1
    obtain ⟨pH2, H2⟩ : ∃ pB, Hid (fracB p q = pB) := ⟨_, rfl⟩
    refine (fGood_any).mono ?_
    rintro e w2 ⟨rfl, k2⟩
    rw [H2.out]
    replace b3 := b3.keeps k2
    replace b4 := b4.keeps k2
    replace kw := Keeps.trans kw k2
    have lt3 := b4.lt
    have sz4 := kw.size
    clear k2
    cases pH2
    · have HF := hid (rrsQ_no (n := n) (p := p) (q := q) (by intro hh; have := (chB_true.1 hh.2).1; rw [H2.out] at this; cases this))
      obtain ⟨ca5, cb5, fa5, fb5⟩ := id b3
      obtain ⟨ca6, fa6⟩ := id b4
      go_wp2_with fail
      clear ca5 cb5 fa5 fb5 ca6 fa6
      obtain ⟨ca0, fa0⟩ := id b4
      refine bodyPost_ret (v := .tuple #[.agg #[.slice none 0 0], .bool false]) (by simp [results, Try.results219, go_sem, ca0]) rfl ⟨none, 0, 0, by rw [HF.out], ?_, (by rw [HF.out]; intro h; cases h), ?_⟩
      · rw [HF.out]; exact RM.nil_ _ _
      · first | exact Below.setCell kw (p := ⟨w.heap.size + 1, 0, none⟩) (Nat.le_refl _) _ | exact kw | exact Below.setCell kw (p := ⟨w.heap.size + 1, 0, none⟩) (by show _ ≤ (w.heap.size + 1); omega) _
    · skip
      obtain ⟨ca5, cb5, fa5, fb5⟩ := id b3
      go_wp2_with fail
      clear ca5 cb5 fa5 fb5
      obtain ⟨pH3, H3⟩ : ∃ pB, Hid (inB p 0 q = pB) := ⟨_, rfl⟩
      refine (l1In_any _ _ _ _).mono ?_
      rintro e w' ⟨rfl, rfl⟩
      rw [H3.out]
      cases pH3
      · have HF := hid (rrsQ_no (n := n) (p := p) (q := q) (by intro hh; have h3 := inB_true.2 (chB_true.1 hh.2).2; rw [H3.out] at h3; cases h3))
        obtain ⟨ca6, cb6, fa6, fb6⟩ := id b3
        obtain ⟨ca7, fa7⟩ := id b4
        go_wp2_with fail
        clear ca6 cb6 fa6 fb6 ca7 fa7
        obtain ⟨ca0, fa0⟩ := id b4
        refine bodyPost_ret (v := .tuple #[.agg #[.slice none 0 0], .bool false]) (by simp [results, Try.results219, go_sem, ca0]) rfl ⟨none, 0, 0, by rw [HF.out], ?_, (by rw [HF.out]; intro h; cases h), ?_⟩
        · rw [HF.out]; exact RM.nil_ _ _
        · first | exact Below.setCell kw (p := ⟨w.heap.size + 1, 0, none⟩) (Nat.le_refl _) _ | exact kw | exact Below.setCell kw (p := ⟨w.heap.size + 1, 0, none⟩) (by show _ ≤ (w.heap.size + 1); omega) _
      · skip
        have H1 := hid (chB_true.2 ⟨H2.out, inB_true.1 H3.out⟩)
        have hqb := fracB_true.1 H2.out
        obtain ⟨o1, o2, o3, H5⟩ : ∃ o1 o2 o3, Hid (mkF ((q - p) * 1) (q * (n - 1)) = (o1, o2, o3)) := ⟨_, _, _, rfl⟩
        have hp := inB_true.1 H3.out
        have hn := inB_true.1 H0.out
        have q1 := hqb.1
        have q2 := hqb.2.1
        clear hqb
        have m1 := mul_bd (a := q) (b := n - 1) (by omega) (by omega)
        have H6 := hid (show mkF (q - p) (q * (n - 1)) = (o1, o2, o3) by rw [← H5.out, Int.mul_one])
        obtain ⟨ca6, cb6, fa6, fb6⟩ := id b3
        go_wp2_with fail
        clear ca6 cb6 fa6 fb6
        refine (fMake_any (by omega) (by omega)).mono ?_
        rintro e w7 ⟨rfl, k7⟩
        rw [H6.out]
        replace b3 := b3.keeps k7
        replace b4 := b4.keeps k7
        replace kw := Keeps.trans kw k7
        have lt8 := b4.lt
        have sz9 := kw.size
        clear k7
        cases o3
        · have HF := hid (rrsQ_no2 H5.out)
          obtain ⟨ca0, fa0⟩ := id b4
          have ltB := b4.lt
          have ca1 := cell_keeps ca0 (keeps_alloc w7 (.cells #[.int .i64 o1, .int .i64 o2] 31))
          go_wp2_with fail
          refine bodyPost_ret (v := .tuple #[.agg #[.slice none 0 0], .bool false]) (by simp [results, Try.results219, go_sem, ca0, ltB]) rfl ⟨none, 0, 0, by rw [HF.out], ?_, (by rw [HF.out]; intro h; cases h), ?_⟩
          · rw [HF.out]; exact RM.nil_ _ _
          · exact Keeps.trans (Below.setCell kw (p := ⟨w.heap.size + 1, 0, none⟩) (by show _ ≤ (w.heap.size + 1); omega) _) (keeps_alloc _ _)
        · skip
          obtain ⟨n, rfl⟩ : ∃ k : Nat, n = k := ⟨n.toNat, by omega⟩
          obtain ⟨ll, HL⟩ : ∃ ll, Hid (tab (rrF p q o1 o2) n n = ll) := ⟨_, rfl⟩
          replace b3 := b3.keeps (keeps_alloc w7 (.cells #[.int .i64 o1, .int .i64 o2] 31))
          replace b4 := b4.keeps (keeps_alloc w7 (.cells #[.int .i64 o1, .int .i64 o2] 31))
          replace kw := Keeps.trans kw (keeps_alloc w7 (.cells #[.int .i64 o1, .int .i64 o2] 31))
          have b6 : Bx (w7.alloc (.cells #[.int .i64 o1, .int .i64 o2] 31)) w7.heap.size o1 o2 := Bx.new' (by simp)
          go_wp2_with fail
          have hB : w7.heap.size + 1 ≤ (w7.alloc (.cells #[.int .i64 o1, .int .i64 o2] 31)).heap.size := by simp
          go_loopw [9, 8] (fun si v wr => ∃ k : Nat, k ≤ n ∧ si = .int .i64 k ∧ Built wr (w7.heap.size + 1) v k ll wr.heap.size ∧ Bx wr w.heap.size p q ∧ B1 wr (w.heap.size + 1) (.slice none 0 0) ∧ Bx wr w7.heap.size o1 o2 ∧ Keeps w wr) (fun si _ _ => n - (intOf si).toNat)
          case atStart => exact ⟨0, Nat.zero_le _, rfl, Built.nil_ _ _ _, b3, b4, b6, kw⟩
          clear kw b3 b4 b6 hB
          case round =>
            obtain ⟨k, hk, rfl, bu, b3, b4, b6, kw⟩ := hrel
            obtain ⟨wo, rfl⟩ : ∃ u : World, u = wr := ⟨_, rfl⟩
            have lt6 := b6.lt
            have sz := kw.size
            by_cases hlt : k < n
            · have hi1 : (k : Int) < (n : Int) := by omega
              obtain ⟨row, HR⟩ : ∃ row, Hid (ll.getD k [] = row) := ⟨_, rfl⟩
              have hrow : row = (List.range n).map fun j => ((rrF p q o1 o2 k j).1, (rrF p q o1 o2 k j).2.1) := by rw [← HR.out, ← HL.out]; exact tab_row _ hlt
              have HRL := hid (show row.length = n by rw [hrow]; simp)
              have HRA := hid (show ∀ j, j < n → row.getD j (0, 0) = ((rrF p q o1 o2 k j).1, (rrF p q o1 o2 k j).2.1) from fun j hj => by rw [hrow, getD_map_range, if_pos hj])
              clear hrow
              go_wp2_with fail
              go_loopw [11, 10] (fun si v wr => ∃ j : Nat, j ≤ n ∧ si = .int .i64 j ∧ Has wr wo.heap.size 31 2 v j (frs (row.take j)) ∧ Keeps wo wr) (fun si _ _ => n - (intOf si).toNat)
              case atStart => exact ⟨0, Nat.zero_le _, rfl, World.ownsRow_nil _ _ _ _, keeps_refl _⟩
              case round =>
                obtain ⟨j, hj, rfl, hown, ko⟩ := hrel
                have lo := ko.size
                by_cases hlj : j < n
                · have hj1 : (j : Int) < (n : Int) := by omega
                  have HT := hid (take_snoc row j (0, 0) (by have := HRL.out; omega))
                  rw [HRA.out j hlj] at HT
                  by_cases hkj : k = j
                  · rw [show rrF p q o1 o2 k j = (p, q, true) from if_pos hkj] at HT
                    have t1 : ((k : Int) == (j : Int)) = true := by rw [beq_iff_eq]; omega
                    clear hkj
                    obtain ⟨ca1, cb1, fa1, fb1⟩ := b3.keeps ko
                    go_wp2_with (at_builtin; refine append_frac (xs := row.take j) hown (by omega) lo _ _ rfl rfl rfl (by first | rfl | (simp <;> rfl)) ?_; intro v' w2 hown2 hb2)
                    rw [← HT.out] at hown2
                    have ko2 := Below.trans ko hb2
                    clear hown hb2 ko ca1 cb1 fa1 fb1
                    go_wp2
                    go_roundw
                    case rel => exact ⟨j + 1, by omega, by go_num, hown2, ko2⟩
                    case measure => simp [intOf]; omega
                  · rw [show rrF p q o1 o2 k j = (o1, o2, true) from if_neg hkj] at HT
                    have t1 : ((k : Int) == (j : Int)) = false := by rw [beq_eq_false_iff_ne]; omega
                    clear hkj
                    obtain ⟨ca1, cb1, fa1, fb1⟩ := b6.keeps ko
                    go_wp2_with (at_builtin; refine append_frac (xs := row.take j) hown (by omega) lo _ _ rfl rfl rfl (by first | rfl | (simp <;> rfl)) ?_; intro v' w2 hown2 hb2)
                    rw [← HT.out] at hown2
                    have ko2 := Below.trans ko hb2
                    clear hown hb2 ko ca1 cb1 fa1 fb1
                    go_wp2
                    go_roundw
                    case rel => exact ⟨j + 1, by omega, by go_num, hown2, ko2⟩
                    case measure => simp [intOf]; omega
                · obtain rfl : j = n := by omega
                  obtain ⟨AR, CR, rfl⟩ := hown.form
                  rw [List.take_of_length_le (by rw [HRL.out]; exact Nat.le_refl _)] at hown
                  have hsl := RowH.of_own hown (by omega) (by omega)
                  rw [← HR.out] at hsl
                  have bu1 := bu.keeps ko
                  replace b3 := b3.keeps ko
                  replace b4 := b4.keeps ko
                  replace b6 := b6.keeps ko
                  replace kw := Keeps.trans kw ko
                  have lt6' := b6.lt
                  clear bu hown
                  go_wp2_with (at_builtin; refine append_row (ll := ll) bu1 hsl (by omega) (by omega) _ _ rfl rfl rfl (by first | rfl | (simp <;> rfl)) ?_; intro v' w2 bu2 hb2)
                  have c3 := b3.below hb2 (by omega)
                  have c4 := b4.below hb2 (by omega)
                  have c6 := b6.below hb2 (by omega)
                  have kw2 := Below.trans kw (hb2.mono (by omega))
                  clear b3 b4 b6 kw bu1 hsl hb2 ko
                  go_wp2
                  go_roundw
                  case rel => exact ⟨k + 1, by omega, by go_num, bu2, c3, c4, c6, kw2⟩
                  case measure => simp [intOf]; omega
            · obtain rfl : k = n := by omega
              obtain ⟨AR, CR, rfl⟩ := bu.form
              have hll : ll.length = k := by rw [← HL.out]; exact tab_len _ _ _
              have rm := bu.rm hll (by omega)
              have HY := hid (rrsQ_yes H0.out H1.out H5.out)
              cases hg : mechB ll with
              | true =>
                have HG := hid hg
                clear hg
                have HF := hid (show rrsQ (k : Int) p q = (ll, true) by rw [HY.out, ← HL.out]; exact nmQ_yes (rrF_ok _ _ _ _ _ _) (by rw [HL.out]; exact HG.out))
                go_wp2_with fail
                refine (mIf_yes rm.rows HG.out).mono ?_
                rintro e w10 ⟨rfl, k10⟩
                replace b3 := b3.keeps k10
                replace b4 := b4.keeps k10
                replace b6 := b6.keeps k10
                replace rm := rm.keeps k10
                replace bu := bu.keeps k10
                replace kw := Keeps.trans kw k10
                have lt11 := b6.lt
                have sz12 := kw.size
                clear k10
                obtain ⟨ca13, fa13⟩ := id b4
                go_wp2_with fail
                clear ca13 fa13
                obtain ⟨ca0, fa0⟩ := id b4
                have frS : Fr (w.heap.size + 1) (w.heap.size + 1 + 1) w10 (w10.setCell ⟨w.heap.size + 1, 0, none⟩ (.slice AR k CR)) := (Fr.refl _ _ _).setCell (p := ⟨w.heap.size + 1, 0, none⟩) (Nat.le_refl _) (Nat.lt_succ_self _) _
                have hs := (rm).1.top
                refine bodyPost_ret (v := .tuple #[.agg #[.slice AR k CR], .bool true]) (by simp [results, Try.results219, go_sem, ca0]) rfl ⟨_, _, _, by rw [HF.out], ?_, fun _ => ⟨w7.heap.size + 1, _, by omega, by rw [HF.out]; exact bu.fr frS (by omega)⟩, Below.setCell kw (p := ⟨w.heap.size + 1, 0, none⟩) (by show _ ≤ (w.heap.size + 1); omega) _⟩
                rw [HF.out]
                exact (RM.fr rm frS (by omega)).widen (by first | omega | (simp; omega)) (by simp [World.setCell] <;> omega) (Nat.le_refl _)
              | false =>
                have HG := hid hg
                clear hg
                have HF := hid (show rrsQ (k : Int) p q = ([], false) by rw [HY.out]; exact nmQ_no2 (by rw [HL.out]; exact HG.out))
                go_wp2_with fail
                refine (mIf_no rm.rows HG.out).mono ?_
                rintro e w10 ⟨rfl, k10⟩
                replace b3 := b3.keeps k10
                replace b4 := b4.keeps k10
                replace b6 := b6.keeps k10
                replace rm := rm.keeps k10
                replace kw := Keeps.trans kw k10
                have lt11 := b6.lt
                have sz12 := kw.size
                clear k10
                obtain ⟨ca13, fa13⟩ := id b4
                go_wp2_with fail
                clear ca13 fa13
                obtain ⟨ca0, fa0⟩ := id b4
                refine bodyPost_ret (v := .tuple #[.agg #[.slice none 0 0], .bool false]) (by simp [results, Try.results219, go_sem, ca0]) rfl ⟨none, 0, 0, by rw [HF.out], ?_, (by rw [HF.out]; intro h; cases h), ?_⟩
                · rw [HF.out]; exact RM.nil_ _ _
                · first | exact Below.setCell kw (p := ⟨w.heap.size + 1, 0, none⟩) (Nat.le_refl _) _ | exact kw | exact Below.setCell kw (p := ⟨w.heap.size + 1, 0, none⟩) (by show _ ≤ (w.heap.size + 1); omega) _
theorem specRandomResponse_any {n p q : Int} {w : World} (wn : (Lit.int .i64 n).wf = true) (wp : I64 p ∧ I64 q) :
    Calls Try.prog 219 #[.int .i64 n, .agg #[.int .i64 p, .int .i64 q]] w (MRes w (rrsQ n p q)) := (specRandomResponse_own wn wp).mono fun e w' h => h.res
end Go.Proofs.Ytnopedjgagoahaa
