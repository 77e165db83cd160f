/- The largest remainders: of the program and of the reference. -/
import Derived.Test.YtikmgohjgdojdaaLrL
import Derived.Test.YtikmgohjgdojdaaSts
import Derived.Test.YtikmgohjgdojdaaBl
import Derived.Test.YtikmgohjgdojdaaKA
import Derived.Deep.DeepCutAuto
import Derived.Maps.AppendAt
namespace Go.Proofs.Ytikmgohjgdojdaa
open Go.RowKit
set_option linter.unusedVariables false
set_option linter.unusedSimpArgs false
theorem two_new (w : World) (n : Nat) :
    Own ((w.alloc (.cells (madeCells #[.int .i64 0] n) 3)).alloc (.cells (madeCells #[.int .i64 0] n) 3)) w.heap.size (List.replicate n 0) ∧
    Own ((w.alloc (.cells (madeCells #[.int .i64 0] n) 3)).alloc (.cells (madeCells #[.int .i64 0] n) 3)) (w.heap.size + 1) (List.replicate n 0) ∧
    Keeps w ((w.alloc (.cells (madeCells #[.int .i64 0] n) 3)).alloc (.cells (madeCells #[.int .i64 0] n) 3)) := by
  have e1 : (w.alloc (.cells (madeCells #[.int .i64 0] n) 3)).heap.size = w.heap.size + 1 := by simp
  have o1 := Own.new w n
  have o2 := Own.new (w.alloc (.cells (madeCells #[.int .i64 0] n) 3)) n
  have k1 := keeps_alloc w (.cells (madeCells #[.int .i64 0] n) 3)
  have k2 := keeps_alloc (w.alloc (.cells (madeCells #[.int .i64 0] n) 3)) (.cells (madeCells #[.int .i64 0] n) 3)
  rw [e1] at o2
  exact ⟨o1.keeps k2, o2, k1.trans k2⟩
theorem padTo_now {xs : List Int} {k : Nat} (h : k < xs.length) : (padTo xs k).length = xs.length := padTo_len _ _ (by omega)
def cmpI (x y : Int) : Int := if x < y then -1 else if y < x then 1 else 0
theorem cmpI_lt {x y : Int} : cmpI x y < 0 ↔ x < y := by unfold cmpI; split <;> (try split) <;> omega
set_option maxHeartbeats 800000 in
theorem isNaNI_any {x : Int} {w : World} : Calls Try.prog 115 #[.int .i64 x] w fun e w' => e = .returned (.bool false) ∧ w' = w := by
  have t1 : (x == x) = true := by simp
  have t2 : (x != x) = false := by rw [bne, t1]; rfl
  go_enter Try.func115, Try.ntmps115
  go_wp2
  go_ret
  exact ⟨ret_bool rfl, rfl⟩
set_option maxHeartbeats 1600000 in
theorem compareI_any {x y : Int} {w : World} : Calls Try.prog 79 #[.int .i64 x, .int .i64 y] w fun e w' => e = .returned (.int .i64 (cmpI x y)) ∧ w' = w := by
  have h : (x < y ∧ cmpI x y = -1) ∨ (¬ x < y ∧ y < x ∧ cmpI x y = 1) ∨ (¬ x < y ∧ ¬ y < x ∧ cmpI x y = 0) := by unfold cmpI; split <;> (try split) <;> omega
  obtain ⟨r, hr⟩ : ∃ r, cmpI x y = r := ⟨_, rfl⟩
  rw [hr] at h ⊢
  clear hr
  rcases h with ⟨h1, rfl⟩ | ⟨h1, h2, rfl⟩ | ⟨h1, h2, rfl⟩
  all_goals (
    go_enter Try.func79, Try.ntmps79
    go_wp2_with fail
    refine (isNaNI_any).mono ?_
    rintro e w' ⟨rfl, rfl⟩
    go_wp2_with fail
    refine (isNaNI_any).mono ?_
    rintro e w' ⟨rfl, rfl⟩
    go_wp2
    go_ret
    exact ⟨ret_int (by first | rfl | go_num), rfl⟩)
set_option maxRecDepth 100000 in
set_option maxHeartbeats 3200000 in
theorem lrClosure {A : Option Addr} {lo hi n c g2 g3 g6 : Nat} {ws : List Int} {t x y : Int} {w : World} (h : Ints w lo hi A n ws) (b2 : B1 w g2 (.slice A n c)) (b3 : B1 w g3 (.int .i64 t)) (b6 : B1 w g6 (.int .i64 ws.sum)) (hB : lrB ws t = true) (hx : 0 ≤ x ∧ x < n) (hy : 0 ≤ y ∧ y < n) :
    Calls Try.prog 78 (#[.int .i64 x, .int .i64 y] ++ #[.pointer (some ⟨g3, 0, none⟩), .pointer (some ⟨g2, 0, none⟩), .pointer (some ⟨g6, 0, none⟩)]) w fun e w' => e = .returned (.int .i64 (cmpI (lk ws t y) (lk ws t x))) ∧ ∃ m, w' = w.drewN m := by
  show Calls Try.prog 78 #[.int .i64 x, .int .i64 y, .pointer (some ⟨g3, 0, none⟩), .pointer (some ⟨g2, 0, none⟩), .pointer (some ⟨g6, 0, none⟩)] w _
  obtain ⟨i, rfl⟩ : ∃ i : Nat, x = i := ⟨x.toNat, by omega⟩
  obtain ⟨j, rfl⟩ : ∃ j : Nat, y = j := ⟨y.toNat, by omega⟩
  have hn := h.le
  have i1 : (i : Int) < (n : Int) := hx.2
  have j1 : (j : Int) < (n : Int) := hy.2
  obtain ⟨bb, off, u, rfl, _, _, hcu, hu⟩ := h.at_ (k := i) (by omega)
  obtain ⟨bb', off', v, e', _, _, hcv, hv⟩ := h.at_ (k := j) (by omega)
  obtain ⟨rfl, rfl⟩ : bb = bb' ∧ off = off' := by simpa using e'
  have hb1 := lq_bd hB (i := i) (by rw [h.1]; omega)
  have hb2 := lq_bd hB (i := j) (by rw [h.1]; omega)
  have hs := (lrB_parts hB).2.2.1
  rw [← hu.out] at hb1
  rw [← hv.out] at hb2
  have HP : lk ws t (i : Int) = t * u % ws.sum := by unfold lk lr; rw [Int.toNat_natCast, hu.out]
  have HQ : lk ws t (j : Int) = t * v % ws.sum := by unfold lk lr; rw [Int.toNat_natCast, hv.out]
  rw [HP, HQ]
  obtain ⟨P, hP⟩ : ∃ P, t * u = P := ⟨_, rfl⟩
  obtain ⟨Q, hQ⟩ : ∃ Q, t * v = Q := ⟨_, rfl⟩
  rw [hP] at hb1 ⊢
  rw [hQ] at hb2 ⊢
  clear HP HQ hu hv e' hB
  generalize ws.sum = S at *
  have m1 := Int.emod_nonneg P (show S ≠ 0 by omega)
  have m2 := Int.emod_lt_of_pos P hs.1
  have m3 := Int.emod_nonneg Q (show S ≠ 0 by omega)
  have m4 := Int.emod_lt_of_pos Q hs.1
  obtain ⟨p, hp⟩ : ∃ p, P % S = p := ⟨_, rfl⟩
  obtain ⟨q, hq⟩ : ∃ q, Q % S = q := ⟨_, rfl⟩
  have tp : P.tmod S = p := by rw [Int.tmod_eq_emod_of_nonneg hb1.2.2.1]; exact hp
  have tq : Q.tmod S = q := by rw [Int.tmod_eq_emod_of_nonneg hb2.2.2.1]; exact hq
  rw [hp] at m1 m2 ⊢
  rw [hq] at m3 m4 ⊢
  have w1 : IntKind.i64.wrap P = P := by rw [IntKind.wrap_i64]; omega
  have w2 : IntKind.i64.wrap Q = Q := by rw [IntKind.wrap_i64]; omega
  have w3 : IntKind.i64.wrap p = p := by rw [IntKind.wrap_i64]; omega
  have w4 : IntKind.i64.wrap q = q := by rw [IntKind.wrap_i64]; omega
  have s0 : ¬ S = 0 := by omega
  have s1 : (S == 0) = false := by rw [beq_eq_false_iff_ne]; exact s0
  obtain ⟨c2, f2⟩ := b2
  obtain ⟨c3, f3⟩ := b3
  obtain ⟨c6, f6⟩ := b6
  clear h hb1 hb2 m1 m2 m3 m4 hs hp hq f2 f3 f6
  go_enter Try.func78, Try.ntmps78
  go_wp2_with fail
  go_quiet (first | (go_at_call 79; refine Calls.quiet_of_same compareI_any))
  go_wp2_with fail
  go_ret
  exact ⟨ret_int rfl, nq, rfl⟩

theorem enterL_of {P : Program} {f : FuncId} {fn : Func} {c : Code} (hf : P.funcs[f]? = some fn) (hname : (fn.name == "runtime.NumGoroutine") = false) (hb : fn.body = some c) (args : Array Value) (w : World) :
    (callFunc f args).run P w = .ok (.enter f args) w := by
  have h1 : fn.name ≠ "runtime.NumGoroutine" := by simpa using hname
  simp [callFunc, hf, h1, hb]
theorem lrB_no1 {ws : List Int} {t : Int} (h : partsB ws = false) : lrB ws t = false := by unfold lrB; rw [h]; rfl
theorem lrB_no2 {ws : List Int} {t : Int} (h : within 0 100000 ws = false) : lrB ws t = false := by unfold lrB; rw [h]; simp
theorem lrB_no3 {ws : List Int} {t : Int} (h : ws.sum = 0) : lrB ws t = false := by unfold lrB; rw [h]; simp
theorem lrB_no4 {ws : List Int} {t : Int} (h : inB t 0 1000000 = false) : lrB ws t = false := by unfold lrB; rw [h]; simp
theorem lrB_yes {ws : List Int} {t : Int} (h1 : partsB ws = true) (h2 : within 0 100000 ws = true) (h3 : ws.sum ≠ 0) (h4 : inB t 0 1000000 = true) : lrB ws t = true := by unfold lrB; rw [h1, h2, h4, decide_eq_true h3]; rfl
theorem own_fr {w w' : World} {g lo hi : Nat} {xs : List Int} (h : Own w g xs) (f : Fr lo hi w w') (ho : g < lo ∨ hi ≤ g) : Own w' g xs := (f.block g h.lt ho).trans h
theorem sum_one {f : Nat → Int} : ∀ n, (∀ j, j < n → 0 ≤ f j) → ∀ i, i < n → f i ≤ (ri n f).sum
  | 0, _, i, h => absurd h (by omega)
  | n + 1, h, i, hi => by
    have h0 := sum_le (f := fun _ => 0) (g := f) n (fun j hj => h j (by omega))
    rw [sum_const] at h0
    have h1 := h n (by omega)
    rw [ri_succ]
    rcases Nat.lt_or_ge i n with q | q
    · have := sum_one n (fun j hj => h j (by omega)) i q; omega
    · obtain rfl : i = n := by omega
      omega
theorem lq_small {ws : List Int} {t : Int} (h : lrB ws t = true) {i : Nat} (hi : i < ws.length) : 0 ≤ lq ws t i ∧ lq ws t i ≤ 1000000 := by
  have h1 := sum_one (f := lq ws t) ws.length (fun j hj => (lq_bd h hj).1) i hi
  have h2 := (lLeft_bd h).1
  have h3 := (lrB_parts h).2.2.2.2
  unfold lLeft at h2
  exact ⟨(lq_bd h hi).1, by omega⟩
theorem loL_bd {ws : List Int} {t : Int} {Z : List Int} {n k i : Nat} (h : lrB ws t = true) (hl : ws.length = n) (hi : i < n) : 0 ≤ (loL ws t Z n k).getD i 0 ∧ (loL ws t Z n k).getD i 0 ≤ 1000001 := by
  have := lq_small h (i := i) (by omega)
  unfold loL; rw [ri_at hi]; unfold loF
  split <;> omega
/-- What a walk wants of a share. -/
theorem lq_walk {ws : List Int} {t : Int} {i : Nat} (h : lrB ws t = true) (hi : i < ws.length) :
    ∃ P q r, t * ws.getD i 0 = P ∧ lq ws t i = q ∧ lr ws t i = r ∧ P.tdiv ws.sum = q ∧ P.tmod ws.sum = r ∧ IntKind.i64.wrap P = P ∧ IntKind.i64.wrap q = q ∧ IntKind.i64.wrap r = r := by
  have hb := lq_bd h hi
  have hs := (lrB_parts h).2.2.1
  have hr := lr_bd (t := t) hs.1 i
  refine ⟨_, _, _, rfl, rfl, rfl, ?_, ?_, ?_, ?_, ?_⟩
  · rw [Int.tdiv_eq_ediv_of_nonneg hb.2.2.1]; rfl
  · rw [Int.tmod_eq_emod_of_nonneg hb.2.2.1]; rfl
  · rw [IntKind.wrap_i64]; omega
  · rw [IntKind.wrap_i64]; omega
  · rw [IntKind.wrap_i64]; omega
set_option maxRecDepth 100000 in
set_option maxHeartbeats 6400000 in
theorem implLargestRemainders_any {A : Option Addr} {lo hi n c : Nat} {ws : List Int} {t : Int} {w : World} (h : Ints w lo hi A n ws) :
    Calls Try.prog 31 #[.slice A n c, .int .i64 t] w fun e w' => ∃ A1 N1 C1, e = .returned (.tuple #[.slice A1 N1 C1, .bool (lrQ ws t).2]) ∧ Mine w' w.heap.size w'.heap.size A1 N1 (lrQ ws t).1 ∧ Keeps w w' := by
  have hn := h.le
  have htop := h.top
  have HL := hid h.1
  obtain ⟨q0, q1, HQ⟩ : ∃ q0 q1, Hid (lrQ ws t = (q0, q1)) := ⟨_, _, rfl⟩
  rw [HQ.out]
  go_enter Try.func31, Try.ntmps31
  have kw := keeps_refl w
  replace kw := Keeps.trans kw (keeps_alloc w (.cells #[.slice A n c] 22))
  have b2 : B1 (w.alloc (.cells #[.slice A n c] 22)) w.heap.size (.slice A n c) := B1.new' (by simp)
  replace b2 := b2.keeps (keeps_alloc (w.alloc (.cells #[.slice A n c] 22)) (.cells #[.int .i64 t] 3))
  replace kw := Keeps.trans kw (keeps_alloc (w.alloc (.cells #[.slice A n c] 22)) (.cells #[.int .i64 t] 3))
  have b3 : B1 ((w.alloc (.cells #[.slice A n c] 22)).alloc (.cells #[.int .i64 t] 3)) (w.heap.size + 1) (.int .i64 t) := B1.new' (by simp)
  obtain ⟨ca1, fa1⟩ := id b2
  obtain ⟨ca2, fa2⟩ := id b3
  go_wp2_with fail
  clear ca1 fa1 ca2 fa2
  obtain ⟨pHP, HP⟩ : ∃ pB, Hid (partsB ws = pB) := ⟨_, rfl⟩
  refine (areParts_any _ _ _ _ _ _ _ (h.keeps kw)).mono ?_
  rintro e w' ⟨rfl, rfl⟩
  rw [HP.out]
  cases pHP
  · obtain ⟨e0, e1⟩ : q0 = [] ∧ q1 = false := by have := HQ.out.symm.trans (lrQ_no (lrB_no1 HP.out)); injection this with a b; exact ⟨a, b⟩
    subst e0 e1
    obtain ⟨ca3, fa3⟩ := id b2
    obtain ⟨ca4, fa4⟩ := id b3
    go_wp2_with fail
    clear ca3 fa3 ca4 fa4
    go_ret2
    exact ⟨none, 0, 0, rfl, Mine.nil_ _ _, kw⟩
  · skip
    obtain ⟨ca3, fa3⟩ := id b2
    obtain ⟨ca4, fa4⟩ := id b3
    go_wp2_with fail
    clear ca3 fa3 ca4 fa4
    obtain ⟨pHW, HW⟩ : ∃ pB, Hid (within 0 100000 ws = pB) := ⟨_, rfl⟩
    refine (areWithin_any _ _ _ _ _ _ 0 100000 _ (h.keeps kw)).mono ?_
    rintro e w' ⟨rfl, rfl⟩
    rw [HW.out]
    cases pHW
    · obtain ⟨e0, e1⟩ : q0 = [] ∧ q1 = false := by have := HQ.out.symm.trans (lrQ_no (lrB_no2 HW.out)); injection this with a b; exact ⟨a, b⟩
      subst e0 e1
      obtain ⟨ca5, fa5⟩ := id b2
      obtain ⟨ca6, fa6⟩ := id b3
      go_wp2_with fail
      clear ca5 fa5 ca6 fa6
      go_ret2
      exact ⟨none, 0, 0, rfl, Mine.nil_ _ _, kw⟩
    · skip
      by_cases ht0 : 0 ≤ t
      rotate_left
      · have ht1 : t < 0 := by omega
        obtain ⟨e0, e1⟩ : q0 = [] ∧ q1 = false := by have := HQ.out.symm.trans (lrQ_no (lrB_no4 (inB_false.2 (.inl ht1)))); injection this with a b; exact ⟨a, b⟩
        subst e0 e1
        obtain ⟨ca5, fa5⟩ := id b2
        obtain ⟨ca6, fa6⟩ := id b3
        go_wp2_with fail
        clear ca5 fa5 ca6 fa6
        go_ret2
        exact ⟨none, 0, 0, rfl, Mine.nil_ _ _, kw⟩
      have ht1 : ¬ t < 0 := by omega
      by_cases ht2 : t ≤ 1000000
      rotate_left
      · have ht3 : 1000000 < t := by omega
        obtain ⟨e0, e1⟩ : q0 = [] ∧ q1 = false := by have := HQ.out.symm.trans (lrQ_no (lrB_no4 (inB_false.2 (.inr ht3)))); injection this with a b; exact ⟨a, b⟩
        subst e0 e1
        obtain ⟨ca5, fa5⟩ := id b2
        obtain ⟨ca6, fa6⟩ := id b3
        go_wp2_with fail
        clear ca5 fa5 ca6 fa6
        go_ret2
        exact ⟨none, 0, 0, rfl, Mine.nil_ _ _, kw⟩
      have ht3 : ¬ 1000000 < t := by omega
      have HBD := hid ((partsB_bd HP.out).mono (show (100000 : Int) ≤ 10000000000 by omega))
      obtain ⟨S, HS⟩ : ∃ S, Hid (ws.sum = S) := ⟨_, rfl⟩
      obtain ⟨ca5, fa5⟩ := id b2
      obtain ⟨ca6, fa6⟩ := id b3
      go_wp2_with fail
      clear ca5 fa5 ca6 fa6
      refine (total_any _ _ _ _ _ _ _ (h.keeps kw) HBD.out).mono ?_
      rintro e w' ⟨rfl, rfl⟩
      rw [HS.out]
      replace b2 := b2.keeps (keeps_alloc ((w.alloc (.cells #[.slice A n c] 22)).alloc (.cells #[.int .i64 t] 3)) (.cells #[.int .i64 S] 3))
      replace b3 := b3.keeps (keeps_alloc ((w.alloc (.cells #[.slice A n c] 22)).alloc (.cells #[.int .i64 t] 3)) (.cells #[.int .i64 S] 3))
      replace kw := Keeps.trans kw (keeps_alloc ((w.alloc (.cells #[.slice A n c] 22)).alloc (.cells #[.int .i64 t] 3)) (.cells #[.int .i64 S] 3))
      have b6 : B1 (((w.alloc (.cells #[.slice A n c] 22)).alloc (.cells #[.int .i64 t] 3)).alloc (.cells #[.int .i64 S] 3)) (w.heap.size + 1 + 1) (.int .i64 S) := B1.new' (by simp)
      by_cases hS : ¬ S = 0
      rotate_left
      · obtain rfl : S = 0 := by omega
        have t0 : ((0 : Int) == 0) = true := rfl
        obtain ⟨e0, e1⟩ : q0 = [] ∧ q1 = false := by have := HQ.out.symm.trans (lrQ_no (lrB_no3 HS.out)); injection this with a b; exact ⟨a, b⟩
        subst e0 e1
        obtain ⟨ca7, fa7⟩ := id b2
        obtain ⟨ca8, fa8⟩ := id b3
        obtain ⟨ca9, fa9⟩ := id b6
        go_wp2_with fail
        clear ca7 fa7 ca8 fa8 ca9 fa9
        go_ret2
        exact ⟨none, 0, 0, rfl, Mine.nil_ _ _, kw⟩
      have t0 : (S == 0) = false := by rw [beq_eq_false_iff_ne]; exact hS
      have HB := hid (lrB_yes HP.out HW.out (by rw [HS.out]; exact hS) (inB_true.2 ⟨ht0, ht2⟩))
      obtain ⟨L, hL⟩ : ∃ L : Nat, lLeft ws t = (L : Int) := ⟨(lLeft ws t).toNat, by have := (lLeft_bd HB.out).1; omega⟩
      have HLF := hid hL
      have hLn : L < n := by have := (lLeft_bd HB.out).2; rw [hL, HL.out] at this; omega
      clear hL
      have hn1 : 1 ≤ n := by omega
      have hn30 : n ≤ 30 := by have := (lrB_parts HB.out).1.2; rw [HL.out] at this; exact this
      have hmk := make_ints n hn
      obtain ⟨ca7, fa7⟩ := id b2
      obtain ⟨ca8, fa8⟩ := id b3
      obtain ⟨ca9, fa9⟩ := id b6
      go_wp2_with fail
      clear ca7 fa7 ca8 fa8 ca9 fa9
      obtain ⟨w3, hX⟩ : ∃ u : World, u = (((w.alloc (.cells #[.slice A n c] 22)).alloc (.cells #[.int .i64 t] 3)).alloc (.cells #[.int .i64 S] 3)) := ⟨_, rfl⟩
      have szX9 := hid (show w3.heap.size = w.heap.size + 1 + 1 + 1 by rw [hX]; simp)
      rw [← hX] at b2
      rw [← hX] at b3
      rw [← hX] at b6
      rw [← hX] at kw
      rw [← hX]
      clear hX
      have sz11 := kw.size
      obtain ⟨cz, fz⟩ := id b2
      have cz2 := cell_keeps cz (keeps_alloc w3 (.cells (madeCells #[.int .i64 0] n) 3))
      have szF := hid (show w3.heap.size = w.heap.size + 3 from szX9.out)
      go_cut [7, 8] (fun s7 s8 wq => ∃ (wy : World) (g7 g8 : Nat), wy = wq ∧ s7 = .slice (some ⟨g7, 0, none⟩) n n ∧ s8 = .slice (some ⟨g8, 0, none⟩) n n ∧ g7 ≠ g8 ∧ w3.heap.size ≤ g7 ∧ w3.heap.size ≤ g8 ∧ Own wy g7 (List.replicate n 0) ∧ Own wy g8 (List.replicate n 0) ∧ Keeps w3 wy)
      case first =>
        obtain ⟨o1, o2, o3⟩ := two_new w3 n
        go_region
        all_goals (go_wp2_with fail; go_meet; exact ⟨_, _, _, rfl, rfl, rfl, by omega, by omega, by omega, by first | exact o1 | exact o2, by first | exact o1 | exact o2, o3.trans (Keeps.drewN _ 1)⟩)
      case rest =>
        obtain ⟨w4, g7, g8, rfl, rfl, rfl, d78, l7, l8, o7, o8, k4⟩ := hcut
        clear hmk cz cz2 fz
        replace b2 := b2.keeps k4
        replace b3 := b3.keeps k4
        replace b6 := b6.keeps k4
        replace kw := Keeps.trans kw k4
        have lt12 := b6.lt
        have sz13 := kw.size
        have szG := szF.out
        clear k4
        obtain ⟨ca14, fa14⟩ := id b2
        go_wp2_with fail
        clear ca14 fa14
        go_loopw [41] (fun i wr => ∃ k : Nat, k ≤ n ∧ i = .int .i64 k ∧ Own wr g7 (padTo (ri n (lq ws t)) k) ∧ Own wr g8 (padTo (iot n) k) ∧ B1 wr w.heap.size (.slice A n c) ∧ B1 wr (w.heap.size + 1) (.int .i64 t) ∧ B1 wr (w.heap.size + 1 + 1) (.int .i64 S) ∧ Keeps w wr) (fun i _ => n - (intOf i).toNat)
        case atStart => exact ⟨0, Nat.zero_le _, rfl, by rw [padTo_zero, ri_len]; exact o7, by rw [padTo_zero]; unfold iot; rw [ri_len]; exact o8, b2, b3, b6, kw⟩
        clear b2 b3 b6 kw o7 o8
        case round =>
          obtain ⟨k, hk, rfl, o7, o8, b2, b3, b6, kw⟩ := hrel
          have sz9 := kw.size
          by_cases hlt : k < n
          · have hi1 : (k : Int) < (n : Int) := by omega
            obtain ⟨bb, off, u, rfl, _, _, hcu, hu⟩ := (h.keeps kw).at_ hlt
            obtain ⟨P, q, r, hP, hq, hr, e1, e2, e3, e4, e5⟩ := lq_walk (i := k) HB.out (by rw [HL.out]; exact hlt)
            rw [← hu.out] at hP
            rw [HS.out] at e1 e2
            have HQK := hid hq
            have HUU := hid hu.out
            clear hq hr e2 e5 hu r
            have hE7 := padTo_succ (ri n (lq ws t)) k (by rw [ri_len]; exact hlt)
            rw [ri_at hlt, HQK.out] at hE7
            have hE8 := padTo_succ (iot n) k (by unfold iot; rw [ri_len]; exact hlt)
            rw [show (iot n).getD k 0 = (k : Int) by unfold iot; rw [ri_at hlt]] at hE8
            obtain ⟨z7, hz7, -⟩ := o7.at_ k (by rw [padTo_len _ _ (by rw [ri_len]; omega), ri_len]; exact hlt)
            obtain ⟨z8, hz8, -⟩ := o8.at_ k (by rw [padTo_len _ _ (by unfold iot; rw [ri_len]; omega)]; unfold iot; rw [ri_len]; exact hlt)
            have hf7 := o7.frozen k
            have hf8 := o8.frozen k
            have H7 := hid ((o7.set_ k q).far (p := ⟨g8, k, none⟩) d78 (.int .i64 (k : Int)))
            have H8 := hid ((o8.far (p := ⟨g7, k, none⟩) d78.symm (.int .i64 q)).set_ k (k : Int))
            rw [hE7] at H7
            rw [hE8] at H8
            have B2 := hid ((b2.far (p := ⟨g7, k, none⟩) (by show _ ≠ g7; omega) (.int .i64 q)).far (p := ⟨g8, k, none⟩) (by show _ ≠ g8; omega) (.int .i64 (k : Int)))
            have B3 := hid ((b3.far (p := ⟨g7, k, none⟩) (by show _ ≠ g7; omega) (.int .i64 q)).far (p := ⟨g8, k, none⟩) (by show _ ≠ g8; omega) (.int .i64 (k : Int)))
            have B6 := hid ((b6.far (p := ⟨g7, k, none⟩) (by show _ ≠ g7; omega) (.int .i64 q)).far (p := ⟨g8, k, none⟩) (by show _ ≠ g8; omega) (.int .i64 (k : Int)))
            have KW := hid ((kw.setCell (p := ⟨g7, k, none⟩) (by show _ ≤ g7; omega) (.int .i64 q)).setCell (p := ⟨g8, k, none⟩) (by show _ ≤ g8; omega) (.int .i64 (k : Int)))
            obtain ⟨c3, f3⟩ := b3
            obtain ⟨c6, f6⟩ := b6
            obtain ⟨c2, f2⟩ := b2
            have n37 : w.heap.size + 1 ≠ g7 := by omega
            have n38 : w.heap.size + 1 ≠ g8 := by omega
            have n67 : w.heap.size + 1 + 1 ≠ g7 := by omega
            clear o7 o8 kw hE7 hE8 f3 f6 f2
            go_wp2
            go_roundw
            case rel => exact ⟨k + 1, by omega, by go_num, H7.out, H8.out, B2.out, B3.out, B6.out, KW.out⟩
            case measure => simp [intOf] <;> omega
          obtain rfl : n = k := by omega
          have hi1 : ¬ (n : Int) < (n : Int) := by omega
          rw [show padTo (ri n (lq ws t)) n = ri n (lq ws t) by have := padTo_all (ri n (lq ws t)); rwa [ri_len] at this] at o7
          rw [show padTo (iot n) n = iot n by have := padTo_all (iot n); unfold iot at *; rwa [ri_len] at this] at o8
          have m8 := o8.mine (n := n) (lo := g8) (hi := g8 + 1) (by unfold iot; exact ri_len _ _) hn (Nat.le_refl _) (Nat.lt_succ_self _) o8.lt
          rw [← loL_zero (Z := [])] at o7
          have HCMP := hid (show CmpAt 78 #[.pointer (some ⟨w.heap.size + 1, 0, none⟩), .pointer (some ⟨w.heap.size, 0, none⟩), .pointer (some ⟨w.heap.size + 1 + 1, 0, none⟩)] (lk ws t) (fun x y => cmpI (lk ws t y) (lk ws t x)) (fun x => 0 ≤ x ∧ x < n) g8 (g8 + 1) wr from
            ⟨fun x y _ _ => cmpI_lt, fun x y w' gx gy f => lrClosure ((h.keeps kw).fr f (by omega)) (b2.fr f (by omega)) (b3.fr f (by omega)) (by rw [HS.out]; exact b6.fr f (by omega)) HB.out gx gy⟩)
          clear o8
          obtain ⟨ca15, fa15⟩ := id b2
          obtain ⟨ca16, fa16⟩ := id b3
          go_wp2_with fail
          clear ca15 fa15 ca16 fa16
          refine (sortStable_any m8 hn1 hn30 (fun args w => enterL_of Try.func78 (by kernel_rfl) rfl args w) HCMP.out (fun x hx => mem_iot.1 hx)).mono ?_
          rintro e w5 ⟨rfl, Z, mZ, HZ, fZ⟩
          clear HCMP m8
          replace b3 := b3.fr fZ (by omega)
          replace o7 := own_fr o7 fZ (by omega)
          replace kw := below_fr kw kw.size (by omega) fZ
          clear b2 b6 fZ
          have s5 := kw.size
          have m7 := o7.mine (n := n) (lo := g7) (hi := g7 + 1) (ri_len _ _) hn (Nat.le_refl _) (Nat.lt_succ_self _) o7.lt
          have HSUM := hid (show t - (loL ws t [] n 0).sum = (L : Int) by rw [loL_zero]; have := HLF.out; unfold lLeft at this; rw [HL.out] at this; exact this)
          have HBD2 := hid (show Bd 10000000000 (loL ws t [] n 0) from fun j => by
            rcases Nat.lt_or_ge j n with e | e
            · rw [loL_zero, ri_at e]; have := lq_bd HB.out (i := j) (by rw [HL.out]; exact e); have := lq_small HB.out (i := j) (by rw [HL.out]; exact e); omega
            · rw [loL_zero, show (ri n (lq ws t)).getD j 0 = 0 by simp [List.getD, ri_len, Nat.not_lt.2 e]]; omega)
          obtain ⟨U, HU⟩ : ∃ U, Hid ((loL ws t [] n 0).sum = U) := ⟨_, rfl⟩
          rw [HU.out] at HSUM
          have e9 := HSUM.out
          obtain ⟨ca17, fa17⟩ := id b3
          go_wp2_with fail
          clear ca17 fa17
          have cT : ∀ m, Calls Try.prog 76 #[.slice (some ⟨g7, 0, none⟩) n n] (w5.drewN m) fun e w' => e = .returned (.int .i64 U) ∧ w' = w5.drewN m := fun m => (total_any _ _ _ n n _ (w5.drewN m) (show Ints (w5.drewN m) g7 (g7 + 1) (some ⟨g7, 0, none⟩) n (loL ws t [] n 0) from m7.1) HBD2.out).mono (fun e w' ⟨h1, h2⟩ => ⟨by rw [h1, HU.out], h2.symm⟩)
          have hLi : (L : Int) ≤ (n : Int) := by omega
          have hL0 : (0 : Int) ≤ (L : Int) := by omega
          have hU1 : U = t - (L : Int) := by omega
          subst hU1
          have e8 : t - (t - (L : Int)) = (L : Int) := by omega
          obtain ⟨ca18, fa18⟩ := id b3
          go_quiet (first | (go_at_call 76; refine Calls.quiet_of_same (cT _)))
          clear cT
          clear ca18 fa18
          have mZ6 := hid (show Mine (w5.drewN nq) g8 (g8 + 1) (some ⟨g8, 0, none⟩) n Z from mZ)
          have kw6 := below_drewN kw nq
          have m76 : Mine (w5.drewN nq) g7 (g7 + 1) (some ⟨g7, 0, none⟩) n (loL ws t Z n 0) := by have := m7; rw [loL_zero] at this ⊢; exact this
          obtain ⟨w6, hw6⟩ : ∃ u : World, u = w5.drewN nq := ⟨_, rfl⟩
          have s6 : w5.heap.size ≤ w6.heap.size := by rw [hw6]; exact Nat.le_refl _
          rw [← hw6] at mZ6 kw6 m76
          rw [← hw6]
          clear hw6 m7 mZ kw b3 e8 e9 HSUM
          have HQE := hid (HQ.out.symm.trans (lrQ_yes HB.out HL.out HZ.out HLF.out))
          go_wp2_with fail
          go_loopw [69] (fun i wr => ∃ k : Nat, k ≤ L ∧ i = .int .i64 k ∧ Mine wr g7 (g7 + 1) (some ⟨g7, 0, none⟩) n (loL ws t Z n k) ∧ Fr g7 (g7 + 1) w6 wr) (fun i _ => L - (intOf i).toNat)
          case atStart => exact ⟨0, Nat.zero_le _, rfl, m76, Fr.refl _ _ _⟩
          clear m76
          case round =>
            obtain ⟨k, hk, rfl, hm, hf⟩ := hrel
            by_cases hlt : k < L
            · have hi1 : (k : Int) < (L : Int) := by omega
              obtain ⟨b8, off8, x, e8, _, _, hcx, hx⟩ := (mZ6.out.1.fr hf (by omega)).at_ (k := k) (by omega)
              obtain ⟨rfl, rfl⟩ : g8 = b8 ∧ 0 = off8 := by simpa using e8
              have hxb := HZ.out.bd (HZ.out.at_mem (k := k) (by omega))
              rw [← hx.out] at hxb
              obtain ⟨z, rfl⟩ : ∃ z : Nat, x = (z : Int) := ⟨x.toNat, by omega⟩
              have hst := loL_step HZ.out (k := k) (by omega) hx.out.symm
              obtain ⟨b7, off7, y, e7, _, _, hcy, hy⟩ := hm.1.at_ (k := z) hst.1
              obtain ⟨rfl, rfl⟩ : g7 = b7 ∧ 0 = off7 := by simpa using e7
              have hyb := loL_bd (Z := Z) (k := k) HB.out HL.out hst.1
              rw [← hy.out] at hyb
              have hfz := hm.2 _ _ rfl z hst.1
              obtain ⟨m1, f1⟩ := hm.set_ (k := z) hst.1 (y + 1)
              rw [hy.out, hst.2, ← hy.out] at m1
              have M := hid m1
              have F := hid (hf.trans f1)
              have hz1 : (z : Int) < (n : Int) := by omega
              rw [Nat.zero_add] at hcx hcy hfz M F
              clear m1 f1 hm hf hx hst hxb e8 e7 hy
              go_wp2
              go_roundw
              case rel => exact ⟨k + 1, by omega, by go_num, M.out, F.out⟩
              case measure => simp [intOf] <;> omega
            · obtain rfl : L = k := by omega
              have hi1 : ¬ (L : Int) < (L : Int) := by omega
              obtain ⟨e0, e1⟩ : q0 = loL ws t Z n L ∧ q1 = true := by have := HQE.out; injection this with a b; exact ⟨a, b⟩
              subst e0 e1
              have sf := hf.size
              have KW := hid (below_fr kw6 kw6.size (by omega) hf)
              have MM := hid (hm.widen (lo' := w.heap.size) (hi' := wr.heap.size) (by omega) hm.1.top (Nat.le_refl _))
              clear hm hf kw6
              go_wp2
              go_ret2
              first
              | exact ⟨_, _, _, rfl, MM.out, KW.out⟩
              | exact ⟨_, _, ⟨_, rfl⟩, MM.out, KW.out⟩
              | exact ⟨_, _, MM.out, KW.out⟩
              | exact ⟨_, MM.out, KW.out⟩
end Go.Proofs.Ytikmgohjgdojdaa
