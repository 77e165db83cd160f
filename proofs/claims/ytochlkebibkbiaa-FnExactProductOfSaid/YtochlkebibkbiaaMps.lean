/- PostProcess of the reference, and the law. -/
import Derived.Test.YtochlkebibkbiaaMpp
namespace Go.Proofs.Ytochlkebibkbiaa
open Go.RowKit Go.Sort
set_option linter.unusedVariables false
set_option linter.unusedSimpArgs false

theorem B1.kZ1 {w w' : World} {g : Nat} {v : Value} {t : TypeId} (k : Keeps (w.alloc (.cells #[v] t)).drew w') (e : w.heap.size = g) : B1 w' g v := (B1.new' e).keeps (keeps_d k)
theorem B1.kZ2 {w w' : World} {g : Nat} {v : Value} {t : TypeId} (k : Keeps (w.alloc (.cells #[v] t)) w') (e : w.heap.size = g) : B1 w' g v := (B1.new' e).keeps k
theorem B1.put {w : World} {g : Nat} {v : Value} (h : B1 w g v) (u : Value) : B1 (w.setCell ⟨g, 0, none⟩ u) g u :=
  ⟨World.cell?_setCell_same _ _ _ h.1, by rw [World.frozen?_setCell]; exact h.2⟩
theorem below_set1 {W w : World} {g : Nat} (k : Keeps W w) (h : W.heap.size ≤ g) (u : Value) : Keeps W (w.setCell ⟨g, 0, none⟩ u) := Below.setCell k (p := ⟨g, 0, none⟩) h u
theorem RM.res_new {W w : World} {lo n : Nat} {A : Option Addr} {ll : List (List QQ)} {O : Obj} (h : RM w lo w.heap.size A n ll) (hl : W.heap.size ≤ lo) : RM (w.alloc O) W.heap.size (w.alloc O).heap.size A n ll :=
  (RM.keeps h (keeps_alloc _ _)).widen hl (by simp) (Nat.le_refl _)
theorem RM.res_set {W w : World} {lo n g : Nat} {A : Option Addr} {ll : List (List QQ)} {u : Value} (h : RM w lo w.heap.size A n ll) (hl : W.heap.size ≤ lo) (hg : g < lo) : RM (w.setCell ⟨g, 0, none⟩ u) W.heap.size (w.setCell ⟨g, 0, none⟩ u).heap.size A n ll :=
  (RM.fr h ((Fr.refl g (g + 1) w).setCell (p := ⟨g, 0, none⟩) (Nat.le_refl _) (Nat.lt_succ_self _) u) (by omega)).widen hl (by simp [World.setCell]) (Nat.le_refl _)

set_option maxRecDepth 100000 in
set_option maxHeartbeats 25600000 in
theorem specPostProcess_any {A A' : Option Addr} {lo hi lo' hi' n n' c c' : Nat} {mm tt : List (List QQ)} {w : World} (h : FRows w lo hi A n mm) (h' : FRows w lo' hi' A' n' tt) :
    Calls Try.prog 55 #[.agg #[.slice A n c], .agg #[.slice A' n' c']] w (MRes w (ppQ mm tt)) := by
  have hn := h.le
  have hn' := h'.le
  have hl := h.len
  have hl' := h'.len
  go_enter Try.func55, Try.ntmps55
  have kw := keeps_refl w
  replace kw := Keeps.trans kw (keeps_alloc w (.cells #[.slice A n c] 57))
  have b2 : B1 (w.alloc (.cells #[.slice A n c] 57)) w.heap.size (.slice A n c) := B1.new' (by simp)
  replace b2 := b2.keeps (keeps_alloc (w.alloc (.cells #[.slice A n c] 57)) (.cells #[.slice A' n' c'] 57))
  replace kw := Keeps.trans kw (keeps_alloc (w.alloc (.cells #[.slice A n c] 57)) (.cells #[.slice A' n' c'] 57))
  have b3 : B1 ((w.alloc (.cells #[.slice A n c] 57)).alloc (.cells #[.slice A' n' c'] 57)) (w.heap.size + 1) (.slice A' n' c') := B1.new' (by simp)
  replace b2 := b2.keeps (keeps_alloc ((w.alloc (.cells #[.slice A n c] 57)).alloc (.cells #[.slice A' n' c'] 57)) (.cells #[.slice none 0 0] 57))
  replace b3 := b3.keeps (keeps_alloc ((w.alloc (.cells #[.slice A n c] 57)).alloc (.cells #[.slice A' n' c'] 57)) (.cells #[.slice none 0 0] 57))
  replace kw := Keeps.trans kw (keeps_alloc ((w.alloc (.cells #[.slice A n c] 57)).alloc (.cells #[.slice A' n' c'] 57)) (.cells #[.slice none 0 0] 57))
  have b4 : B1 (((w.alloc (.cells #[.slice A n c] 57)).alloc (.cells #[.slice A' n' c'] 57)).alloc (.cells #[.slice none 0 0] 57)) (w.heap.size + 1 + 1) (.slice none 0 0) := B1.new' (by simp)
  obtain ⟨p1, H1⟩ : ∃ pB, Hid (mechB mm = pB) := ⟨_, rfl⟩
  obtain ⟨p2, H2⟩ : ∃ pB, Hid (mechB tt = pB) := ⟨_, rfl⟩
  cases p1
  · have HF := hid (ppQ_no (mm := mm) (tt := tt) (by rw [ppB, H1.out]; rfl))
    obtain ⟨ca2, -⟩ := id b2
    obtain ⟨ca3, -⟩ := id b3
    have r2 := fun d os => cell_regrown ca2 d os
    have r3 := fun d os => cell_regrown ca3 d os
    have cM := hid (fun (d : Nat) (os : Array Obj) => mGood_any (h.keeps (Keeps.trans kw (below_regrown (((w.alloc (.cells #[.slice A n c] 57)).alloc (.cells #[.slice A' n' c'] 57)).alloc (.cells #[.slice none 0 0] 57)) d os))) (c := c))
    have cT := hid (fun (d : Nat) (os : Array Obj) => mGood_any (h'.keeps (Keeps.trans kw (below_regrown (((w.alloc (.cells #[.slice A n c] 57)).alloc (.cells #[.slice A' n' c'] 57)).alloc (.cells #[.slice none 0 0] 57)) d os))) (c := c'))
    rw [H1.out] at cM
    rw [H2.out] at cT
    go_wp2_with fail
    refine wp_region_quiet_below (by kernel_rfl) (by kernel_rfl) ?_
    iterate 19 (go_big_quiet_step ((first | with_reducible exact Calls.regrown_of (cM.out _ _) | with_reducible exact Calls.regrown_of (cT.out _ _))))
    refine wpQuiet_nil ?_
    intro _ hw'
    obtain ⟨⟨dq, osq⟩, hw''⟩ := hw'
    subst hw''
    clear r2 r3 ca2 ca3 cM cT
    have kQ := below_regrown (((w.alloc (.cells #[.slice A n c] 57)).alloc (.cells #[.slice A' n' c'] 57)).alloc (.cells #[.slice none 0 0] 57)) dq osq
    obtain ⟨wQ1, hwQ⟩ : ∃ u, u = grow (redrawn (((w.alloc (.cells #[.slice A n c] 57)).alloc (.cells #[.slice A' n' c'] 57)).alloc (.cells #[.slice none 0 0] 57)) dq) osq := ⟨_, rfl⟩
    rw [← hwQ] at kQ
    rw [← hwQ]
    clear hwQ
    replace b2 := b2.keeps kQ
    replace b3 := b3.keeps kQ
    replace b4 := b4.keeps kQ
    replace kw := Keeps.trans kw kQ
    have lt2 := b4.lt
    have sz3 := kw.size
    clear kQ
    obtain ⟨ca4, fa4⟩ := id b4
    go_wp2_with fail
    clear ca4 fa4
    obtain ⟨ca0, fa0⟩ := id b4
    refine bodyPost_ret (v := .tuple #[.agg #[.slice none 0 0], .bool false]) (by simp [results, Try.results55, go_sem, ca0]) rfl ⟨none, 0, 0, by rw [HF.out], ?_, ?_⟩
    · rw [HF.out]; exact RM.nil_ _ _
    · first | exact Below.setCell kw (p := ⟨w.heap.size + 1 + 1, 0, none⟩) (Nat.le_refl _) _ | exact kw | exact Below.setCell kw (p := ⟨w.heap.size + 1 + 1, 0, none⟩) (by show _ ≤ (w.heap.size + 1 + 1); omega) _
  · skip
    cases p2
    · have HF := hid (ppQ_no (mm := mm) (tt := tt) (by rw [ppB, H1.out, H2.out]; rfl))
      obtain ⟨ca2, -⟩ := id b2
      obtain ⟨ca3, -⟩ := id b3
      have r2 := fun d os => cell_regrown ca2 d os
      have r3 := fun d os => cell_regrown ca3 d os
      have cM := hid (fun (d : Nat) (os : Array Obj) => mGood_any (h.keeps (Keeps.trans kw (below_regrown (((w.alloc (.cells #[.slice A n c] 57)).alloc (.cells #[.slice A' n' c'] 57)).alloc (.cells #[.slice none 0 0] 57)) d os))) (c := c))
      have cT := hid (fun (d : Nat) (os : Array Obj) => mGood_any (h'.keeps (Keeps.trans kw (below_regrown (((w.alloc (.cells #[.slice A n c] 57)).alloc (.cells #[.slice A' n' c'] 57)).alloc (.cells #[.slice none 0 0] 57)) d os))) (c := c'))
      rw [H1.out] at cM
      rw [H2.out] at cT
      go_wp2_with fail
      refine wp_region_quiet_below (by kernel_rfl) (by kernel_rfl) ?_
      iterate 19 (go_big_quiet_step ((first | with_reducible exact Calls.regrown_of (cM.out _ _) | with_reducible exact Calls.regrown_of (cT.out _ _))))
      refine wpQuiet_nil ?_
      intro _ hw'
      obtain ⟨⟨dq, osq⟩, hw''⟩ := hw'
      subst hw''
      clear r2 r3 ca2 ca3 cM cT
      have kQ := below_regrown (((w.alloc (.cells #[.slice A n c] 57)).alloc (.cells #[.slice A' n' c'] 57)).alloc (.cells #[.slice none 0 0] 57)) dq osq
      obtain ⟨wQ1, hwQ⟩ : ∃ u, u = grow (redrawn (((w.alloc (.cells #[.slice A n c] 57)).alloc (.cells #[.slice A' n' c'] 57)).alloc (.cells #[.slice none 0 0] 57)) dq) osq := ⟨_, rfl⟩
      rw [← hwQ] at kQ
      rw [← hwQ]
      clear hwQ
      replace b2 := b2.keeps kQ
      replace b3 := b3.keeps kQ
      replace b4 := b4.keeps kQ
      replace kw := Keeps.trans kw kQ
      have lt2 := b4.lt
      have sz3 := kw.size
      clear kQ
      obtain ⟨ca4, fa4⟩ := id b4
      go_wp2_with fail
      clear ca4 fa4
      obtain ⟨ca0, fa0⟩ := id b4
      refine bodyPost_ret (v := .tuple #[.agg #[.slice none 0 0], .bool false]) (by simp [results, Try.results55, go_sem, ca0]) rfl ⟨none, 0, 0, by rw [HF.out], ?_, ?_⟩
      · rw [HF.out]; exact RM.nil_ _ _
      · first | exact Below.setCell kw (p := ⟨w.heap.size + 1 + 1, 0, none⟩) (Nat.le_refl _) _ | exact kw | exact Below.setCell kw (p := ⟨w.heap.size + 1 + 1, 0, none⟩) (by show _ ≤ (w.heap.size + 1 + 1); omega) _
    · skip
      have hln := mechB_len H1.out
      have hln' := mechB_len H2.out
      obtain ⟨b, off, A1, m, c1, rfl, hlb, hub, hc0, hr0⟩ := h.head (by omega)
      have hm0 := Fracs.len hr0
      have hmle := hr0.le
      have i0 : (0 : Int) < (n : Int) := by omega
      by_cases hnm : n' = m
      rotate_left
      · have t1 : ((n' : Int) != (m : Int)) = true := by rw [bne_iff_ne]; omega
        have HF := hid (ppQ_no (mm := mm) (tt := tt) (by rw [ppB, decide_eq_false (show ¬ tt.length = (mm.getD 0 []).length by omega), Bool.and_false]))
        obtain ⟨ca2, -⟩ := id b2
        obtain ⟨ca3, -⟩ := id b3
        have r2 := fun d os => cell_regrown ca2 d os
        have r3 := fun d os => cell_regrown ca3 d os
        have r4 := fun d os => cell_regrown (cell_keeps hc0 kw) d os
        have cM := hid (fun (d : Nat) (os : Array Obj) => mGood_any (h.keeps (Keeps.trans kw (below_regrown (((w.alloc (.cells #[.slice (some ⟨b, off, none⟩) n c] 57)).alloc (.cells #[.slice A' n' c'] 57)).alloc (.cells #[.slice none 0 0] 57)) d os))) (c := c))
        have cT := hid (fun (d : Nat) (os : Array Obj) => mGood_any (h'.keeps (Keeps.trans kw (below_regrown (((w.alloc (.cells #[.slice (some ⟨b, off, none⟩) n c] 57)).alloc (.cells #[.slice A' n' c'] 57)).alloc (.cells #[.slice none 0 0] 57)) d os))) (c := c'))
        rw [H1.out] at cM
        rw [H2.out] at cT
        go_wp2_with fail
        refine wp_region_quiet_below (by kernel_rfl) (by kernel_rfl) ?_
        iterate 19 (go_big_quiet_step ((first | with_reducible exact Calls.regrown_of (cM.out _ _) | with_reducible exact Calls.regrown_of (cT.out _ _))))
        refine wpQuiet_nil ?_
        intro _ hw'
        obtain ⟨⟨dq, osq⟩, hw''⟩ := hw'
        subst hw''
        clear r2 r3 ca2 ca3 cM cT r4
        have kQ := below_regrown (((w.alloc (.cells #[.slice (some ⟨b, off, none⟩) n c] 57)).alloc (.cells #[.slice A' n' c'] 57)).alloc (.cells #[.slice none 0 0] 57)) dq osq
        obtain ⟨wQ1, hwQ⟩ : ∃ u, u = grow (redrawn (((w.alloc (.cells #[.slice (some ⟨b, off, none⟩) n c] 57)).alloc (.cells #[.slice A' n' c'] 57)).alloc (.cells #[.slice none 0 0] 57)) dq) osq := ⟨_, rfl⟩
        rw [← hwQ] at kQ
        rw [← hwQ]
        clear hwQ
        replace b2 := b2.keeps kQ
        replace b3 := b3.keeps kQ
        replace b4 := b4.keeps kQ
        replace kw := Keeps.trans kw kQ
        have lt2 := b4.lt
        have sz3 := kw.size
        clear kQ
        obtain ⟨ca4, fa4⟩ := id b4
        go_wp2_with fail
        clear ca4 fa4
        obtain ⟨ca0, fa0⟩ := id b4
        refine bodyPost_ret (v := .tuple #[.agg #[.slice none 0 0], .bool false]) (by simp [results, Try.results55, go_sem, ca0]) rfl ⟨none, 0, 0, by rw [HF.out], ?_, ?_⟩
        · rw [HF.out]; exact RM.nil_ _ _
        · first | exact Below.setCell kw (p := ⟨w.heap.size + 1 + 1, 0, none⟩) (Nat.le_refl _) _ | exact kw | exact Below.setCell kw (p := ⟨w.heap.size + 1 + 1, 0, none⟩) (by show _ ≤ (w.heap.size + 1 + 1); omega) _
      subst hnm
      have t1 : ((n' : Int) != (n' : Int)) = false := by simp
      have HB0 := hid (show ppB mm tt = true by rw [ppB, H1.out, H2.out, decide_eq_true (show tt.length = (mm.getD 0 []).length by omega)]; rfl)
      obtain ⟨ca2, -⟩ := id b2
      obtain ⟨ca3, -⟩ := id b3
      have r2 := fun d os => cell_regrown ca2 d os
      have r3 := fun d os => cell_regrown ca3 d os
      have r4 := fun d os => cell_regrown (cell_keeps hc0 kw) d os
      have cM := hid (fun (d : Nat) (os : Array Obj) => mGood_any (h.keeps (Keeps.trans kw (below_regrown (((w.alloc (.cells #[.slice (some ⟨b, off, none⟩) n c] 57)).alloc (.cells #[.slice A' n' c'] 57)).alloc (.cells #[.slice none 0 0] 57)) d os))) (c := c))
      have cT := hid (fun (d : Nat) (os : Array Obj) => mGood_any (h'.keeps (Keeps.trans kw (below_regrown (((w.alloc (.cells #[.slice (some ⟨b, off, none⟩) n c] 57)).alloc (.cells #[.slice A' n' c'] 57)).alloc (.cells #[.slice none 0 0] 57)) d os))) (c := c'))
      rw [H1.out] at cM
      rw [H2.out] at cT
      go_wp2_with fail
      refine wp_region_quiet_below (by kernel_rfl) (by kernel_rfl) ?_
      iterate 19 (go_big_quiet_step ((first | with_reducible exact Calls.regrown_of (cM.out _ _) | with_reducible exact Calls.regrown_of (cT.out _ _))))
      refine wpQuiet_nil ?_
      intro _ hw'
      obtain ⟨⟨dq, osq⟩, hw''⟩ := hw'
      subst hw''
      clear r2 r3 ca2 ca3 cM cT r4
      have kQ := below_regrown (((w.alloc (.cells #[.slice (some ⟨b, off, none⟩) n c] 57)).alloc (.cells #[.slice A' n' c'] 57)).alloc (.cells #[.slice none 0 0] 57)) dq osq
      obtain ⟨wQ1, hwQ⟩ : ∃ u, u = grow (redrawn (((w.alloc (.cells #[.slice (some ⟨b, off, none⟩) n c] 57)).alloc (.cells #[.slice A' n' c'] 57)).alloc (.cells #[.slice none 0 0] 57)) dq) osq := ⟨_, rfl⟩
      rw [← hwQ] at kQ
      rw [← hwQ]
      clear hwQ
      replace b2 := b2.keeps kQ
      replace b3 := b3.keeps kQ
      replace b4 := b4.keeps kQ
      replace kw := Keeps.trans kw kQ
      have lt2 := b4.lt
      have sz3 := kw.size
      clear kQ
      obtain ⟨b', off', A2, m2, c2, rfl, hlb', hub', hc0', hr0'⟩ := h'.head (by omega)
      have hm0' := Fracs.len hr0'
      have hmle' := hr0'.le
      have i0' : (0 : Int) < (n' : Int) := by omega
      have i0n : 0 < n' := by omega
      have HY := hid (ppQ_yes HB0.out)
      rw [hl, hm0'] at HY
      have HM0 := hid hm0
      have HM0' := hid hm0'
      clear hm0 hm0'
      have HG := hid H1.out
      have HG' := hid H2.out
      clear H1 H2
      obtain ⟨ll, HL⟩ : ∃ ll, Hid (tab (ppF mm tt) n m2 = ll) := ⟨_, rfl⟩
      obtain ⟨ca4, fa4⟩ := id b2
      go_wp2_with fail
      clear ca4 fa4
      go_loopw [41, 6] (fun si v wr => ∃ i : Nat, i ≤ n ∧ si = .int .i64 i ∧ Hid (OkTo (ppF mm tt) m2 i 0) ∧ Built wr (w.heap.size + 1 + 1 + 1) v i ll wr.heap.size ∧ B1 wr w.heap.size (.slice (some ⟨b, off, none⟩) n c) ∧ B1 wr (w.heap.size + 1) (.slice (some ⟨b', off', none⟩) n' c') ∧ B1 wr (w.heap.size + 1 + 1) (.slice none 0 0) ∧ Keeps w wr) (fun si _ _ => n - (intOf si).toNat)
      case atStart => exact ⟨0, Nat.zero_le _, rfl, hid (okTo_start _ _), Built.nil_ _ _ _, b2, b3, b4, kw⟩
      clear kw b2 b3 b4
      case round =>
        obtain ⟨i, hi, rfl, OK, bu, b2, b3, b4, kw⟩ := hrel
        obtain ⟨wo, rfl⟩ : ∃ u : World, u = wr := ⟨_, rfl⟩
        have lt4 := b4.lt
        have sz := kw.size
        by_cases hlt : i < n
        · have hi1 : (i : Int) < (n : Int) := by omega
          obtain ⟨row, HR⟩ : ∃ row, Hid (ll.getD i [] = row) := ⟨_, rfl⟩
          have hrow : row = (List.range m2).map fun j => ((ppF mm tt i j).1, (ppF mm tt i j).2.1) := by rw [← HR.out, ← HL.out]; exact tab_row _ hlt
          have HRL := hid (show row.length = m2 by rw [hrow]; simp)
          have HRA := hid (show ∀ j, j < m2 → row.getD j (0, 0) = ((ppF mm tt i j).1, (ppF mm tt i j).2.1) from fun j hj => by rw [hrow, getD_map_range, if_pos hj])
          clear hrow
          obtain ⟨b1_, off1, A1r, mr, c1r, e1, hlb1, hub1, hci, hri⟩ := (h.keeps kw).at_ hlt
          obtain ⟨rfl, rfl⟩ : b = b1_ ∧ off = off1 := by injection e1 with e1; injection e1 with e1 e2; exact ⟨e1, e2⟩
          clear e1
          have hml := Fracs.len hri
          have hmm := (mechB_row HG.out (i := i) (by omega)).1
          have hmle1 := hri.le
          obtain ⟨r, HRM⟩ : ∃ r, Hid (mm.getD i [] = r) := ⟨_, rfl⟩
          rw [HRM.out] at hri hml hmm
          have hmn : n' = mr := by have := HM0.out; omega
          subst hmn
          have HFR := hid (show ∀ z x y, z < n' → (x, y) = r.getD z (0, 0) → fracB x y = true from fun z x y hz hx => (mechB_at HG.out (i := i) (k := z) (by omega) (by rw [HRM.out]; omega) (by rw [HRM.out]; exact hx)).1)
          have HPF := hid (show ∀ j, ppF mm tt i j = accQ (ppSt r tt j) 0 1 n' from fun j => by unfold ppF; rw [HRM.out, hml])
          clear hmm
          have HML := hid hml
          clear hml
          have hc0w := cell_keeps hc0' kw
          obtain ⟨ca5, fa5⟩ := id b2
          obtain ⟨ca6, fa6⟩ := id b3
          go_wp2_with fail
          clear ca5 fa5 ca6 fa6
          clear hci
          go_loopw [50, 9] (fun si v wr => ∃ k : Nat, k ≤ m2 ∧ si = .int .i64 k ∧ Hid (OkTo (ppF mm tt) m2 i k) ∧ Has wr wo.heap.size 26 2 v k (frs (row.take k)) ∧ Keeps wo wr) (fun si _ _ => m2 - (intOf si).toNat)
          case atStart => exact ⟨0, Nat.zero_le _, rfl, OK, World.ownsRow_nil _ _ _ _, keeps_refl _⟩
          case round =>
            obtain ⟨k, hk, rfl, OKk, hown, ko⟩ := hrel
            obtain ⟨wk, rfl⟩ : ∃ u : World, u = wr := ⟨_, rfl⟩
            have lo := ko.size
            by_cases hlk : k < m2
            · have hk1 : (k : Int) < (m2 : Int) := by omega
              have HT := hid (take_snoc row k (0, 0) (by have := HRL.out; omega))
              rw [HRA.out k hlk] at HT
              have HF0 := hid (HPF.out k)
              have kwo := Keeps.trans kw ko
              have d2 := b2.keeps ko
              have d3 := b3.keeps ko
              have d4 := b4.keeps ko
              have hrk := Sl.keeps hri ko
              have lt4k := d4.lt
              go_wp2_with fail
              refine (fInt_any).mono ?_
              rintro e w7 ⟨rfl, k7⟩
              replace d2 := d2.keeps k7
              replace d3 := d3.keeps k7
              replace d4 := d4.keeps k7
              replace kwo := Keeps.trans kwo k7
              replace ko := Keeps.trans ko k7
              have lt8 := d4.lt
              have sz9 := kwo.size
              have sz10 := ko.size
              replace hown := Has.below hown k7
              replace hrk := Sl.keeps hrk k7
              clear k7
              have kf := keeps_refl w7
              have hownF := hown
              have hrF := hrk
              clear hown hrk
              replace d2 := d2.keeps (keeps_alloc w7 (.cells #[.int .i64 0, .int .i64 1] 26))
              replace d3 := d3.keeps (keeps_alloc w7 (.cells #[.int .i64 0, .int .i64 1] 26))
              replace d4 := d4.keeps (keeps_alloc w7 (.cells #[.int .i64 0, .int .i64 1] 26))
              replace kwo := Keeps.trans kwo (keeps_alloc w7 (.cells #[.int .i64 0, .int .i64 1] 26))
              replace ko := Keeps.trans ko (keeps_alloc w7 (.cells #[.int .i64 0, .int .i64 1] 26))
              replace kf := Keeps.trans kf (keeps_alloc w7 (.cells #[.int .i64 0, .int .i64 1] 26))
              have d11 : Bx (w7.alloc (.cells #[.int .i64 0, .int .i64 1] 26)) w7.heap.size 0 1 := Bx.new' (by simp)
              go_wp2_with fail
              go_loopw [56] (fun si wz => ∃ (z : Nat) (s1 : Int) (s2 : Int), z ≤ n' ∧ si = .int .i64 z ∧ Hid (accQ (ppSt r tt k) 0 1 z = (s1, s2, true)) ∧ Hid (fracB s1 s2 = true) ∧ B1 wz w.heap.size (.slice (some ⟨b, off, none⟩) n c) ∧ B1 wz (w.heap.size + 1) (.slice (some ⟨b', off', none⟩) n' c') ∧ B1 wz (w.heap.size + 1 + 1) (.slice none 0 0) ∧ Bx wz w7.heap.size s1 s2 ∧ Keeps w wz ∧ Keeps wo wz ∧ Keeps w7 wz) (fun si _ => n' - (intOf si).toNat)
              case atStart => exact ⟨0, 0, 1, Nat.zero_le _, rfl, rfl, fracB_01, d2, d3, d4, d11, kwo, ko, kf⟩
              clear kwo ko kf d2 d3 d4 d11 
              case round =>
                obtain ⟨z, s1, s2, hz, rfl, HA, HB, d2, d3, d4, d11, kwo, ko, kf⟩ := hrel
                have lt11 := d11.lt
                have sz12 := kwo.size
                have sz13 := ko.size
                have sz14 := kf.size
                by_cases hlz : z < n'
                · obtain ⟨ba, oa, x, y, rfl, _, hb, hc, hd, hx⟩ := Fracs.at_ (Sl.keeps hrF kf) hlz
                  have hz : (z : Int) < (n' : Int) := by omega
                  have fx := hid (HFR.out z x y hlz hx.out)
                  replace d2 := d2.keeps (keeps_alloc wr (.cells #[.int .i64 x, .int .i64 y] 26))
                  replace d3 := d3.keeps (keeps_alloc wr (.cells #[.int .i64 x, .int .i64 y] 26))
                  replace d4 := d4.keeps (keeps_alloc wr (.cells #[.int .i64 x, .int .i64 y] 26))
                  replace d11 := d11.keeps (keeps_alloc wr (.cells #[.int .i64 x, .int .i64 y] 26))
                  replace kwo := Keeps.trans kwo (keeps_alloc wr (.cells #[.int .i64 x, .int .i64 y] 26))
                  replace ko := Keeps.trans ko (keeps_alloc wr (.cells #[.int .i64 x, .int .i64 y] 26))
                  replace kf := Keeps.trans kf (keeps_alloc wr (.cells #[.int .i64 x, .int .i64 y] 26))
                  have d13 : Bx (wr.alloc (.cells #[.int .i64 x, .int .i64 y] 26)) wr.heap.size x y := Bx.new' (by simp)
                  go_wp2_with fail
                  clear hc hd
                  obtain ⟨bz, oz, A2z, mz_, cz, ez, _, _, hck, hrz⟩ := (h'.keeps kwo).at_ hlz
                  obtain ⟨rfl, rfl⟩ : b' = bz ∧ off' = oz := by injection ez with ez; injection ez with e1 e2; exact ⟨e1, e2⟩
                  clear ez
                  have hm2 := (Fracs.len hrz).symm.trans (mechB_row HG'.out (i := z) (by omega)).1
                  have hj0 : k < mz_ := by have := HM0'.out; omega
                  obtain ⟨bu_, ou, u, v, rfl, _, hbu, hcu, hdu, hu⟩ := Fracs.at_ hrz hj0
                  have fu := hid (mechB_at HG'.out (i := z) (k := k) (by omega) (by have := Fracs.len hrz; omega) hu.out).1
                  have hj1 : (k : Int) < (mz_ : Int) := by omega
                  have HD := hid (ppSt_at (a := s1) (b := s2) hx.out hu.out)
                  obtain ⟨q1, q2, q3, H5⟩ : ∃ q1 q2 q3, Hid (mkF (x * u) (y * v) = (q1, q2, q3)) := ⟨_, _, _, rfl⟩
                  clear hm2
                  obtain ⟨ca16, cb16, -, -⟩ := id d13
                  obtain ⟨ca17, -⟩ := id d3
                  have kS := hid (show ∀ w', Keeps (wr.alloc (.cells #[.int .i64 x, .int .i64 y] 26)) w' → (w'.cell? ⟨wr.heap.size, 0, none⟩ = some (.int .i64 x) ∧ w'.cell? ⟨wr.heap.size, 1, none⟩ = some (.int .i64 y) ∧ w'.cell? ⟨w.heap.size + 1, 0, none⟩ = some (.slice (some ⟨b', off', none⟩) n' c') ∧ w'.cell? ⟨b', off' + z, none⟩ = some (.slice (some ⟨bu_, ou, none⟩) mz_ cz) ∧ w'.cell? ⟨bu_, ou + k * 2, none⟩ = some (.int .i64 u) ∧ w'.cell? ⟨bu_, ou + k * 2 + 1, none⟩ = some (.int .i64 v)) from fun w' k => ⟨cell_keeps ca16 k, cell_keeps cb16 k, cell_keeps ca17 k, cell_keeps hck k, cell_keeps hcu k, cell_keeps hdu k⟩)
                  go_cut [14, 15] (fun sd so wq => ∃ wy g, wy = wq ∧ sd = .pointer (some ⟨g, 0, none⟩) ∧ so = .bool q3 ∧ Bx wy g q1 q2 ∧ (wr.alloc (.cells #[.int .i64 x, .int .i64 y] 26)).heap.size ≤ g ∧ Keeps (wr.alloc (.cells #[.int .i64 x, .int .i64 y] 26)) wy)
                  case first =>
                    have eA := hid (show (wr.alloc (.cells #[.int .i64 x, .int .i64 y] 26)).heap.size = wr.heap.size + 1 by simp)
                    go_region_held3 (fun w' => w'.cell? ⟨wr.heap.size, 0, none⟩ = some (.int .i64 x) ∧ w'.cell? ⟨wr.heap.size, 1, none⟩ = some (.int .i64 y) ∧ w'.cell? ⟨w.heap.size + 1, 0, none⟩ = some (.slice (some ⟨b', off', none⟩) n' c') ∧ w'.cell? ⟨b', off' + z, none⟩ = some (.slice (some ⟨bu_, ou, none⟩) mz_ cz) ∧ w'.cell? ⟨bu_, ou + k * 2, none⟩ = some (.int .i64 u) ∧ w'.cell? ⟨bu_, ou + k * 2 + 1, none⟩ = some (.int .i64 v)) (first | with_reducible exact kS.out _ (keeps_d0 (wr.alloc (.cells #[.int .i64 x, .int .i64 y] 26))) | with_reducible exact kS.out _ (keeps_ad0 (wr.alloc (.cells #[.int .i64 x, .int .i64 y] 26)) _) | with_reducible exact kS.out _ (kW) | with_reducible exact kS.out _ (kW.trans (keeps_alloc _ _)) | with_reducible exact kS.out _ (below_set2 kW lz _ _) | go_keep)
                      ((first | (go_at_call 98; refine (fMul_any (fracB_qb fx.out) (fracB_qb fu.out)).mono ?_; rintro e wB ⟨rfl, kB⟩; rw [H5.out]; (first | (have kZ : Bx wB (wr.heap.size + 1) 0 0 := Bx.kZ1 kB eA.out; have lz : (wr.alloc (.cells #[.int .i64 x, .int .i64 y] 26)).heap.size ≤ (wr.heap.size + 1) := (Nat.le_of_eq eA.out); obtain ⟨z1, z2, z3, z4⟩ := id kZ) | (have kZ : Bx wB (wr.heap.size + 1) 0 0 := Bx.kZ2 kB eA.out; have lz : (wr.alloc (.cells #[.int .i64 x, .int .i64 y] 26)).heap.size ≤ (wr.heap.size + 1) := (Nat.le_of_eq eA.out); obtain ⟨z1, z2, z3, z4⟩ := id kZ) | (have kZ := kZ.keeps kB; obtain ⟨z1, z2, z3, z4⟩ := id kZ) | (have kZ : Bx wB _ 0 0 := Bx.kZ2 kB rfl; have lz := kW.size; obtain ⟨z1, z2, z3, z4⟩ := id kZ) | skip); (first | (have kW : Keeps (wr.alloc (.cells #[.int .i64 x, .int .i64 y] 26)) wB := kW.trans kB) | (have kW : Keeps (wr.alloc (.cells #[.int .i64 x, .int .i64 y] 26)) wB := (kW.trans (keeps_alloc _ _)).trans kB) | (have kW : Keeps (wr.alloc (.cells #[.int .i64 x, .int .i64 y] 26)) wB := keeps_d kB) | (have kW : Keeps (wr.alloc (.cells #[.int .i64 x, .int .i64 y] 26)) wB := keeps_ad kB)); clear kB)))
                    all_goals (go_wp2_with fail; go_meet; first
                      | exact ⟨_, _, rfl, rfl, rfl, Bx.new _ _ _ _, kW.size, kW.trans (keeps_alloc _ _)⟩
                      | exact ⟨_, _, rfl, rfl, rfl, Bx.set (x := 0) (y := 0) kZ _ _, lz, below_set2 kW lz _ _⟩)
                  case rest =>
                    clear kS
                    clear ca16 cb16 ca17
                    obtain ⟨wx15, g15, rfl, rfl, rfl, d14, lg15, kx15⟩ := hcut
                    simp at lg15
                    replace d2 := d2.keeps kx15
                    replace d3 := d3.keeps kx15
                    replace d4 := d4.keeps kx15
                    replace d11 := d11.keeps kx15
                    replace d13 := d13.keeps kx15
                    replace kwo := Keeps.trans kwo kx15
                    replace ko := Keeps.trans ko kx15
                    replace kf := Keeps.trans kf kx15
                    clear kx15
                    have lt19 := d14.lt
                    have sz20 := kwo.size
                    have sz21 := ko.size
                    have sz22 := kf.size
                    clear hck hcu hdu hrz
                    cases q3
                    · have HE := hid (accQ_fail HA.out (show ppSt r tt k z s1 s2 = (0, 0, false) from HD.out.trans (ppV_no H5.out)) hlz)
                      have HE2 := hid (HF0.out.trans HE.out)
                      have HF := hid (show ppQ mm tt = ([], false) by rw [HY.out]; exact nmQ_no1 (okAll_no hlt hlk HE2.out))
                      replace kw := kwo
                      obtain ⟨ca23, fa23⟩ := id d4
                      go_wp2_with fail
                      clear ca23 fa23
                      obtain ⟨ca0, fa0⟩ := id d4
                      refine bodyPost_ret (v := .tuple #[.agg #[.slice none 0 0], .bool false]) (by simp [results, Try.results55, go_sem, ca0]) rfl ⟨none, 0, 0, by rw [HF.out], ?_, ?_⟩
                      · rw [HF.out]; exact RM.nil_ _ _
                      · first | exact Below.setCell kw (p := ⟨w.heap.size + 1 + 1, 0, none⟩) (Nat.le_refl _) _ | exact kw | exact Below.setCell kw (p := ⟨w.heap.size + 1 + 1, 0, none⟩) (by show _ ≤ (w.heap.size + 1 + 1); omega) _
                    · have fq := hid ((Fine.mk _ _).ok H5.out)
                      obtain ⟨r1, r2, r3, H6⟩ : ∃ r1 r2 r3, Hid (mkF (s1 * q2 + q1 * s2) (s2 * q2) = (r1, r2, r3)) := ⟨_, _, _, rfl⟩
                      have HS := hid ((HD.out.trans (ppV_yes H5.out)).trans H6.out)
                      obtain ⟨ca23, cb23, fa23, fb23⟩ := id d11
                      obtain ⟨ca24, cb24, fa24, fb24⟩ := id d14
                      go_wp2_with fail
                      clear ca23 cb23 fa23 fb23 ca24 cb24 fa24 fb24
                      refine (fAdd_any (fracB_qb HB.out) (fracB_qb fq.out)).mono ?_
                      rintro e w25 ⟨rfl, k25⟩
                      rw [H6.out]
                      replace d2 := d2.keeps k25
                      replace d3 := d3.keeps k25
                      replace d4 := d4.keeps k25
                      replace d11 := d11.keeps k25
                      replace d13 := d13.keeps k25
                      replace d14 := d14.keeps k25
                      replace kwo := Keeps.trans kwo k25
                      replace ko := Keeps.trans ko k25
                      replace kf := Keeps.trans kf k25
                      have lt26 := d14.lt
                      have sz27 := kwo.size
                      have sz28 := ko.size
                      have sz29 := kf.size
                      clear k25
                      cases r3
                      · have HE := hid (accQ_fail HA.out (show ppSt r tt k z s1 s2 = (0, 0, false) from (ppSt_fine _ _ _ _ _ _).bad HS.out) hlz)
                        have HE2 := hid (HF0.out.trans HE.out)
                        have HF := hid (show ppQ mm tt = ([], false) by rw [HY.out]; exact nmQ_no1 (okAll_no hlt hlk HE2.out))
                        replace kw := kwo
                        obtain ⟨ca0, fa0⟩ := id d4
                        have ltB := d4.lt
                        have ca1 := cell_keeps ca0 (keeps_alloc w25 (.cells #[.int .i64 r1, .int .i64 r2] 26))
                        go_wp2_with fail
                        refine bodyPost_ret (v := .tuple #[.agg #[.slice none 0 0], .bool false]) (by simp [results, Try.results55, go_sem, ca0, ltB]) rfl ⟨none, 0, 0, by rw [HF.out], ?_, ?_⟩
                        · rw [HF.out]; exact RM.nil_ _ _
                        · exact Keeps.trans (Below.setCell kw (p := ⟨w.heap.size + 1 + 1, 0, none⟩) (by show _ ≤ (w.heap.size + 1 + 1); omega) _) (keeps_alloc _ _)
                      · replace d2 := d2.keeps (keeps_alloc w25 (.cells #[.int .i64 r1, .int .i64 r2] 26))
                        replace d3 := d3.keeps (keeps_alloc w25 (.cells #[.int .i64 r1, .int .i64 r2] 26))
                        replace d4 := d4.keeps (keeps_alloc w25 (.cells #[.int .i64 r1, .int .i64 r2] 26))
                        replace d11 := d11.keeps (keeps_alloc w25 (.cells #[.int .i64 r1, .int .i64 r2] 26))
                        replace d13 := d13.keeps (keeps_alloc w25 (.cells #[.int .i64 r1, .int .i64 r2] 26))
                        replace d14 := d14.keeps (keeps_alloc w25 (.cells #[.int .i64 r1, .int .i64 r2] 26))
                        replace kwo := Keeps.trans kwo (keeps_alloc w25 (.cells #[.int .i64 r1, .int .i64 r2] 26))
                        replace ko := Keeps.trans ko (keeps_alloc w25 (.cells #[.int .i64 r1, .int .i64 r2] 26))
                        replace kf := Keeps.trans kf (keeps_alloc w25 (.cells #[.int .i64 r1, .int .i64 r2] 26))
                        have d16 : Bx (w25.alloc (.cells #[.int .i64 r1, .int .i64 r2] 26)) w25.heap.size r1 r2 := Bx.new' (by simp)
                        have fr := hid ((ppSt_fine _ _ _ _ _ _).ok HS.out)
                        obtain ⟨ca30, cb30, fa30, fb30⟩ := id d11
                        obtain ⟨ca31, cb31, fa31, fb31⟩ := id d16
                        replace d2 := d2.set2 (p := w7.heap.size) (by omega) (.int .i64 r1) (.int .i64 r2)
                        replace d3 := d3.set2 (p := w7.heap.size) (by omega) (.int .i64 r1) (.int .i64 r2)
                        replace d4 := d4.set2 (p := w7.heap.size) (by omega) (.int .i64 r1) (.int .i64 r2)
                        replace d13 := d13.set2 (p := w7.heap.size) (by omega) (.int .i64 r1) (.int .i64 r2)
                        replace d14 := d14.set2 (p := w7.heap.size) (by omega) (.int .i64 r1) (.int .i64 r2)
                        replace d16 := d16.set2 (p := w7.heap.size) (by omega) (.int .i64 r1) (.int .i64 r2)
                        replace d11 := d11.set r1 r2
                        replace kwo := below_set2 kwo (p := w7.heap.size) (by omega) (.int .i64 r1) (.int .i64 r2)
                        replace ko := below_set2 ko (p := w7.heap.size) (by omega) (.int .i64 r1) (.int .i64 r2)
                        replace kf := below_set2 kf (p := w7.heap.size) (by omega) (.int .i64 r1) (.int .i64 r2)
                        go_wp2_with fail
                        clear ca30 cb30 fa30 fb30 ca31 cb31 fa31 fb31
                        go_roundw
                        case rel => exact ⟨z + 1, r1, r2, (by omega), (by go_num), accQ_next HA.out HS.out, fr.out, d2, d3, d4, d11, kwo, ko, kf⟩
                        case measure => simp [intOf]; omega
                · obtain rfl : z = n' := by omega
                  replace HF0 := hid (HF0.out.trans HA.out)
                  rw [show ((ppF mm tt i k).1, (ppF mm tt i k).2.1) = (s1, s2) by rw [HF0.out]] at HT
                  have ownZ := Has.below hownF kf
                  have loz := ko.size
                  obtain ⟨ca15, cb15, fa15, fb15⟩ := id d11
                  go_wp2_with (at_builtin; refine append_frac (xs := row.take k) ownZ (by omega) loz _ _ rfl rfl rfl (by first | rfl | (simp <;> rfl)) ?_; intro v' w2 hown2 hb2)
                  rw [← HT.out] at hown2
                  have ko2 := Below.trans ko hb2
                  clear hownF ownZ hb2 kf hrF
                  clear ca15 cb15 fa15 fb15
                  go_wp2
                  go_roundw
                  case rel => exact ⟨k + 1, by omega, by go_num, hid (okTo_next OKk.out HF0.out), hown2, ko2⟩
                  case measure => simp [intOf]; omega
            · obtain rfl : k = m2 := by omega
              obtain ⟨AR, CR, rfl⟩ := hown.form
              rw [List.take_of_length_le (by rw [HRL.out]; exact Nat.le_refl _)] at hown
              have hsl := SlM.of_own hown (by omega) (by omega)
              rw [← HR.out] at hsl
              have bu1 := bu.keeps ko
              replace b2 := b2.keeps ko
              replace b3 := b3.keeps ko
              replace b4 := b4.keeps ko
              replace kw := Keeps.trans kw ko
              have lt6' := b4.lt
              have OK2 := hid (okTo_row OKk.out)
              clear bu hown hri
              go_wp2_with (at_builtin; refine append_row (ll := ll) bu1 hsl (by omega) (by omega) _ _ rfl rfl rfl (by first | rfl | (simp <;> rfl)) ?_; intro v' w2 bu2 hb2)
              have c2_ := b2.below hb2 (by omega)
              have c3 := b3.below hb2 (by omega)
              have c4 := b4.below hb2 (by omega)
              have kw2 := Below.trans kw (hb2.mono (by omega))
              clear b2 b3 b4 kw bu1 hsl hb2 ko
              go_wp2
              go_roundw
              case rel => exact ⟨i + 1, by omega, by go_num, OK2, bu2, c2_, c3, c4, kw2⟩
              case measure => simp [intOf]; omega
        · obtain rfl : i = n := by omega
          obtain ⟨AR, CR, rfl⟩ := bu.form
          have hll : ll.length = i := by rw [← HL.out]; exact tab_len _ _ _
          have rm := bu.rm hll (by omega)
          clear bu
          cases hg : mechB ll with
          | true =>
            have HGL := hid hg
            clear hg
            have HF := hid (show ppQ mm tt = (ll, true) by rw [HY.out, ← HL.out]; exact nmQ_yes (okAll_yes OK.out) (by rw [HL.out]; exact HGL.out))
            clear HY
            go_wp2_with fail
            refine (mIf_yes rm.rows HGL.out).mono ?_
            rintro e w5 ⟨rfl, k5⟩
            replace b4 := b4.keeps k5
            replace rm := rm.keeps k5
            replace kw := Keeps.trans kw k5
            have lt6 := b4.lt
            have sz7 := kw.size
            clear k5
            obtain ⟨ca8, fa8⟩ := id b4
            go_wp2_with fail
            clear ca8 fa8
            obtain ⟨ca0, fa0⟩ := id b4
            have frS : Fr (w.heap.size + 1 + 1) (w.heap.size + 1 + 1 + 1) w5 (w5.setCell ⟨w.heap.size + 1 + 1, 0, none⟩ (.slice AR i CR)) := (Fr.refl _ _ _).setCell (p := ⟨w.heap.size + 1 + 1, 0, none⟩) (Nat.le_refl _) (Nat.lt_succ_self _) _
            have hs := (rm).1.top
            refine bodyPost_ret (v := .tuple #[.agg #[.slice AR i CR], .bool true]) (by simp [results, Try.results55, go_sem, ca0]) rfl ⟨_, _, _, by rw [HF.out], ?_, Below.setCell kw (p := ⟨w.heap.size + 1 + 1, 0, none⟩) (by show _ ≤ (w.heap.size + 1 + 1); omega) _⟩
            rw [HF.out]
            exact (RM.fr rm frS (by omega)).widen (by first | omega | (simp; omega)) (by simp [World.setCell] <;> omega) (Nat.le_refl _)
          | false =>
            have HGL := hid hg
            clear hg
            have HF := hid (show ppQ mm tt = ([], false) by rw [HY.out]; exact nmQ_no2 (by rw [HL.out]; exact HGL.out))
            clear HY
            go_wp2_with fail
            refine (mIf_no rm.rows HGL.out).mono ?_
            rintro e w5 ⟨rfl, k5⟩
            replace b4 := b4.keeps k5
            replace rm := rm.keeps k5
            replace kw := Keeps.trans kw k5
            have lt6 := b4.lt
            have sz7 := kw.size
            clear k5
            obtain ⟨ca8, fa8⟩ := id b4
            go_wp2_with fail
            clear ca8 fa8
            obtain ⟨ca0, fa0⟩ := id b4
            refine bodyPost_ret (v := .tuple #[.agg #[.slice none 0 0], .bool false]) (by simp [results, Try.results55, go_sem, ca0]) rfl ⟨none, 0, 0, by rw [HF.out], ?_, ?_⟩
            · rw [HF.out]; exact RM.nil_ _ _
            · first | exact Below.setCell kw (p := ⟨w.heap.size + 1 + 1, 0, none⟩) (Nat.le_refl _) _ | exact kw | exact Below.setCell kw (p := ⟨w.heap.size + 1 + 1, 0, none⟩) (by show _ ≤ (w.heap.size + 1 + 1); omega) _
set_option maxRecDepth 100000 in
set_option maxHeartbeats 1600000 in
theorem FnExactPostProcess_law (A0 : Option Addr) (n0 c0 : Nat) (z0 : List (List (Int × Int))) (A1 : Option Addr) (n1 c1 : Nat) (z1 : List (List (Int × Int))) (w : World) (wa0 : RowsArg w A0 n0 z0) (wa1 : RowsArg w A1 n1 z1) :
    Calls Try.prog 14 #[.agg #[.slice A0 n0 c0], .agg #[.slice A1 n1 c1]] w fun e w' => e = .returned (.bool true) ∧ Below w.heap.size w w' := by
  go_enter Try.func14, Try.ntmps14
  have kw := keeps_refl w
  replace kw := Keeps.trans kw (keeps_alloc w (.cells #[.slice A0 n0 c0] 52))
  have p0 : B1 (w.alloc (.cells #[.slice A0 n0 c0] 52)) w.heap.size (.slice A0 n0 c0) := B1.new' (by simp)
  replace p0 := p0.keeps (keeps_alloc (w.alloc (.cells #[.slice A0 n0 c0] 52)) (.cells #[.slice A1 n1 c1] 52))
  replace kw := Keeps.trans kw (keeps_alloc (w.alloc (.cells #[.slice A0 n0 c0] 52)) (.cells #[.slice A1 n1 c1] 52))
  have p1 : B1 ((w.alloc (.cells #[.slice A0 n0 c0] 52)).alloc (.cells #[.slice A1 n1 c1] 52)) (w.heap.size + 1) (.slice A1 n1 c1) := B1.new' (by simp)
  obtain ⟨ca1, fa1⟩ := id p0
  obtain ⟨ca2, fa2⟩ := id p1
  go_wp2_with fail
  clear ca1 fa1 ca2 fa2
  by_cases hs0 : (mz z0 : Int) ≤ 1048576
  rotate_left
  · have hm0 := wa0.1
    refine (szMechanism_no (left := 1048576) (wa0.keeps kw) (by omega) (by omega) (by omega)).mono ?_
    rintro e w3 ⟨rfl, k3⟩
    have ss4 := k3.size
    simp at ss4
    replace p0 := p0.keeps k3
    replace p1 := p1.keeps k3
    replace kw := Keeps.trans kw k3
    have lt5 := p1.lt
    have sz6 := kw.size
    clear k3
    go_wp2_with fail
    go_ret
    exact ⟨rfl, kw⟩
  have h0 := wa0.rows (by omega)
  refine (szMechanism_ok (left := 1048576) (wa0.keeps kw) (by omega) (by omega)).mono ?_
  rintro e w3 ⟨rfl, k3⟩
  have ss4 := k3.size
  simp at ss4
  replace p0 := p0.keeps k3
  replace p1 := p1.keeps k3
  replace kw := Keeps.trans kw k3
  have lt5 := p1.lt
  have sz6 := kw.size
  clear k3
  have tz0 : ¬ (1048576 - (mz z0 : Int) < 0) := by omega
  obtain ⟨ca7, fa7⟩ := id p0
  obtain ⟨ca8, fa8⟩ := id p1
  go_wp2_with fail
  clear ca7 fa7 ca8 fa8
  by_cases hs1 : (mz z1 : Int) ≤ 1048576 - (mz z0 : Int)
  rotate_left
  · have hm1 := wa1.1
    refine (szMechanism_no (left := 1048576 - (mz z0 : Int)) (wa1.keeps kw) (by omega) (by omega) (by omega)).mono ?_
    rintro e w9 ⟨rfl, k9⟩
    have ss10 := k9.size
    replace p0 := p0.keeps k9
    replace p1 := p1.keeps k9
    replace kw := Keeps.trans kw k9
    have lt11 := p1.lt
    have sz12 := kw.size
    clear k9
    go_wp2_with fail
    go_ret
    exact ⟨rfl, kw⟩
  have h1 := wa1.rows (by omega)
  refine (szMechanism_ok (left := 1048576 - (mz z0 : Int)) (wa1.keeps kw) (by omega) (by omega)).mono ?_
  rintro e w9 ⟨rfl, k9⟩
  have ss10 := k9.size
  replace p0 := p0.keeps k9
  replace p1 := p1.keeps k9
  replace kw := Keeps.trans kw k9
  have lt11 := p1.lt
  have sz12 := kw.size
  clear k9
  have tz1 : ¬ (1048576 - (mz z0 : Int) - (mz z1 : Int) < 0) := by omega
  obtain ⟨ca13, fa13⟩ := id p0
  obtain ⟨ca14, fa14⟩ := id p1
  go_wp2_with fail
  clear ca13 fa13 ca14 fa14
  obtain ⟨r0, r1, HR⟩ : ∃ r0 r1, Hid (ppQ z0 z1 = (r0, r1)) := ⟨_, _, rfl⟩
  have hsm := ppQ_len z0 z1
  rw [HR.out] at hsm
  dsimp only at hsm
  have hW0 := (h0.keeps kw)
  have hW1 := (h1.keeps kw)
  obtain ⟨ca16, -⟩ := id p0
  obtain ⟨ca17, -⟩ := id p1
  have kS := hid (show ∀ w', Keeps w9 w' → (w'.cell? ⟨w.heap.size, 0, none⟩ = some (.slice A0 n0 c0) ∧ w'.cell? ⟨w.heap.size + 1, 0, none⟩ = some (.slice A1 n1 c1)) from fun w' k => ⟨cell_keeps ca16 k, cell_keeps ca17 k⟩)
  go_cut [6, 7] (fun sd so wq => ∃ wy g AN NN CN, wy = wq ∧ sd = .pointer (some ⟨g, 0, none⟩) ∧ B1 wy g (.slice AN NN CN) ∧ w9.heap.size ≤ g ∧ so = .bool r1 ∧ RM wy w9.heap.size wy.heap.size AN NN r0 ∧ Keeps w9 wy)
  case first =>
    go_region_held3 (fun w' => w'.cell? ⟨w.heap.size, 0, none⟩ = some (.slice A0 n0 c0) ∧ w'.cell? ⟨w.heap.size + 1, 0, none⟩ = some (.slice A1 n1 c1)) (first | with_reducible exact kS.out _ (keeps_d0 w9) | with_reducible exact kS.out _ (keeps_ad0 w9 _) | with_reducible exact kS.out _ (kW) | with_reducible exact kS.out _ (kW.trans (keeps_alloc _ _)) | with_reducible exact kS.out _ (kW.trans (keeps_d0 _)) | with_reducible exact kS.out _ (kW.trans (keeps_ad0 _ _)) | with_reducible exact kS.out _ (below_set1 kW lz _) | go_keep)
      ((first | (go_at_call 35; (first | with_reducible refine (toMechanism_any (hW0.keeps (keeps_d0 _))).mono ?_ | with_reducible refine (toMechanism_any (hW0.keeps (keeps_ad0 _ _))).mono ?_ | with_reducible refine (toMechanism_any (hW0.keeps (keeps_refl _))).mono ?_ | with_reducible refine (toMechanism_any (hW0.keeps (kW))).mono ?_ | with_reducible refine (toMechanism_any (hW0.keeps (kW.trans (keeps_alloc _ _)))).mono ?_ | with_reducible refine (toMechanism_any (hW0.keeps (kW.trans (keeps_d0 _)))).mono ?_ | with_reducible refine (toMechanism_any (hW0.keeps (kW.trans (keeps_ad0 _ _)))).mono ?_); rintro e wB ⟨By0, rfl, y0, kB⟩; (first | (have y1 := RM.keeps y1 (kB)) | (have y1 := RM.keeps y1 (keeps_d kB)) | (have y1 := RM.keeps y1 ((keeps_alloc _ _).trans kB)) | (have y1 := RM.keeps y1 (keeps_ad kB)) | skip); (first | (have kZ := kZ.keeps (kB)) | (have kZ := kZ.keeps (keeps_d kB)) | (have kZ : B1 wB w9.heap.size (.slice none 0 0) := B1.kZ1 kB rfl; have lz : w9.heap.size ≤ w9.heap.size := (Nat.le_refl _)) | (have kZ : B1 wB w9.heap.size (.slice none 0 0) := B1.kZ2 kB rfl; have lz : w9.heap.size ≤ w9.heap.size := (Nat.le_refl _)) | (have kZ : B1 wB _ (.slice none 0 0) := B1.kZ1 kB rfl; have lz := kW.size) | (have kZ : B1 wB _ (.slice none 0 0) := B1.kZ2 kB rfl; have lz := kW.size) | skip); (first | obtain ⟨z1, z2⟩ := id kZ | skip); (first | (have kW : Keeps w9 wB := kW.trans (kB)) | (have kW : Keeps w9 wB := kW.trans (keeps_d kB)) | (have kW : Keeps w9 wB := kW.trans ((keeps_alloc _ _).trans kB)) | (have kW : Keeps w9 wB := kW.trans (keeps_ad kB)) | (have kW : Keeps w9 wB := kB) | (have kW : Keeps w9 wB := keeps_d kB) | (have kW : Keeps w9 wB := (keeps_alloc _ _).trans kB) | (have kW : Keeps w9 wB := keeps_ad kB)); clear kB) | (go_at_call 35; (first | with_reducible refine (toMechanism_any (hW1.keeps (keeps_d0 _))).mono ?_ | with_reducible refine (toMechanism_any (hW1.keeps (keeps_ad0 _ _))).mono ?_ | with_reducible refine (toMechanism_any (hW1.keeps (keeps_refl _))).mono ?_ | with_reducible refine (toMechanism_any (hW1.keeps (kW))).mono ?_ | with_reducible refine (toMechanism_any (hW1.keeps (kW.trans (keeps_alloc _ _)))).mono ?_ | with_reducible refine (toMechanism_any (hW1.keeps (kW.trans (keeps_d0 _)))).mono ?_ | with_reducible refine (toMechanism_any (hW1.keeps (kW.trans (keeps_ad0 _ _)))).mono ?_); rintro e wB ⟨By1, rfl, y1, kB⟩; (first | (have y0 := RM.keeps y0 (kB)) | (have y0 := RM.keeps y0 (keeps_d kB)) | (have y0 := RM.keeps y0 ((keeps_alloc _ _).trans kB)) | (have y0 := RM.keeps y0 (keeps_ad kB)) | skip); (first | (have kZ := kZ.keeps (kB)) | (have kZ := kZ.keeps (keeps_d kB)) | (have kZ : B1 wB w9.heap.size (.slice none 0 0) := B1.kZ1 kB rfl; have lz : w9.heap.size ≤ w9.heap.size := (Nat.le_refl _)) | (have kZ : B1 wB w9.heap.size (.slice none 0 0) := B1.kZ2 kB rfl; have lz : w9.heap.size ≤ w9.heap.size := (Nat.le_refl _)) | (have kZ : B1 wB _ (.slice none 0 0) := B1.kZ1 kB rfl; have lz := kW.size) | (have kZ : B1 wB _ (.slice none 0 0) := B1.kZ2 kB rfl; have lz := kW.size) | skip); (first | obtain ⟨z1, z2⟩ := id kZ | skip); (first | (have kW : Keeps w9 wB := kW.trans (kB)) | (have kW : Keeps w9 wB := kW.trans (keeps_d kB)) | (have kW : Keeps w9 wB := kW.trans ((keeps_alloc _ _).trans kB)) | (have kW : Keeps w9 wB := kW.trans (keeps_ad kB)) | (have kW : Keeps w9 wB := kB) | (have kW : Keeps w9 wB := keeps_d kB) | (have kW : Keeps w9 wB := (keeps_alloc _ _).trans kB) | (have kW : Keeps w9 wB := keeps_ad kB)); clear kB) | (go_at_call 55; (first | (have lz2 := kZ.lt) | skip); have lx := kW.size; (first | with_reducible refine (specPostProcess_any (RM.rows y0) (RM.rows y1)).mono ?_ | with_reducible refine (specPostProcess_any ((RM.rows y0).keeps (keeps_alloc _ _)) ((RM.rows y1).keeps (keeps_alloc _ _))).mono ?_ | with_reducible refine (specPostProcess_any ((RM.rows y0).keeps (keeps_d0 _)) ((RM.rows y1).keeps (keeps_d0 _))).mono ?_ | with_reducible refine (specPostProcess_any ((RM.rows y0).keeps (keeps_ad0 _ _)) ((RM.rows y1).keeps (keeps_ad0 _ _))).mono ?_); rintro e wB ⟨AN, NN, CN, rfl, rm, kB⟩; rw [HR.out]; rw [HR.out] at rm; dsimp only at rm; dsimp only; (first | (have kZ := kZ.keeps (kB)) | (have kZ := kZ.keeps (keeps_d kB)) | (have kZ : B1 wB w9.heap.size (.slice none 0 0) := B1.kZ1 kB rfl; have lz : w9.heap.size ≤ w9.heap.size := (Nat.le_refl _)) | (have kZ : B1 wB w9.heap.size (.slice none 0 0) := B1.kZ2 kB rfl; have lz : w9.heap.size ≤ w9.heap.size := (Nat.le_refl _)) | (have kZ : B1 wB _ (.slice none 0 0) := B1.kZ1 kB rfl; have lz := kW.size) | (have kZ : B1 wB _ (.slice none 0 0) := B1.kZ2 kB rfl; have lz := kW.size) | skip); (first | obtain ⟨z1, z2⟩ := id kZ | skip); (first | (have kW : Keeps w9 wB := kW.trans (kB)) | (have kW : Keeps w9 wB := kW.trans (keeps_d kB)) | (have kW : Keeps w9 wB := kW.trans ((keeps_alloc _ _).trans kB)) | (have kW : Keeps w9 wB := kW.trans (keeps_ad kB)) | (have kW : Keeps w9 wB := kB) | (have kW : Keeps w9 wB := keeps_d kB) | (have kW : Keeps w9 wB := (keeps_alloc _ _).trans kB) | (have kW : Keeps w9 wB := keeps_ad kB)); clear kB)))
    all_goals (go_wp2_with fail; go_meet; first
      | exact ⟨_, _, AN, NN, CN, rfl, rfl, B1.new' rfl, kW.size, rfl, RM.res_new rm (by have := kW.size; first | omega | (simp; done) | (simp; omega)), kW.trans (keeps_alloc _ _)⟩
      | exact ⟨_, _, AN, NN, CN, rfl, rfl, B1.put kZ _, lz, rfl, RM.res_set rm (by have := kW.size; first | omega | (simp; done) | (simp; omega)) (by first | omega | (simp; done) | (simp; omega)), below_set1 kW lz _⟩)
  case rest =>
    clear kS hW0 hW1
    clear ca16 ca17
    obtain ⟨wx15, g15, p_A0, p_N0, p_C0, rfl, rfl, p_b0, lg15, rfl, p_0, kx15⟩ := hcut
    have ss18 := kx15.size
    replace p0 := p0.keeps kx15
    replace p1 := p1.keeps kx15
    replace kw := Keeps.trans kw kx15
    have lt19 := p1.lt
    have sz20 := kw.size
    clear kx15
    have lt21 := p_b0.lt
    obtain ⟨ca22, fa22⟩ := id p0
    obtain ⟨ca23, fa23⟩ := id p1
    obtain ⟨ca24, fa24⟩ := id p_b0
    go_wp2_with fail
    clear ca22 fa22 ca23 fa23 ca24 fa24
    refine (toMechanism_any (h0.keeps kw)).mono ?_
    rintro e w25 ⟨Bx0, rfl, x0, k25⟩
    have ss26 := k25.size
    replace p0 := p0.keeps k25
    replace p1 := p1.keeps k25
    replace p_b0 := p_b0.keeps k25
    replace p_0 := p_0.keeps k25
    replace kw := Keeps.trans kw k25
    have lt27 := p_b0.lt
    have sz28 := kw.size
    clear k25
    replace p0 := p0.keeps (keeps_alloc w25 (.cells #[.slice Bx0 n0 n0] 57))
    replace p1 := p1.keeps (keeps_alloc w25 (.cells #[.slice Bx0 n0 n0] 57))
    replace p_b0 := p_b0.keeps (keeps_alloc w25 (.cells #[.slice Bx0 n0 n0] 57))
    replace p_0 := p_0.keeps (keeps_alloc w25 (.cells #[.slice Bx0 n0 n0] 57))
    replace x0 := x0.keeps (keeps_alloc w25 (.cells #[.slice Bx0 n0 n0] 57))
    replace kw := Keeps.trans kw (keeps_alloc w25 (.cells #[.slice Bx0 n0 n0] 57))
    have bx0 : B1 (w25.alloc (.cells #[.slice Bx0 n0 n0] 57)) w25.heap.size (.slice Bx0 n0 n0) := B1.new' (by simp)
    obtain ⟨ca29, fa29⟩ := id p0
    obtain ⟨ca30, fa30⟩ := id p1
    obtain ⟨ca31, fa31⟩ := id p_b0
    obtain ⟨ca32, fa32⟩ := id bx0
    go_wp2_with fail
    clear ca29 fa29 ca30 fa30 ca31 fa31 ca32 fa32
    refine (toMechanism_any (h1.keeps kw)).mono ?_
    rintro e w33 ⟨Bx1, rfl, x1, k33⟩
    have ss34 := k33.size
    simp at ss34
    replace p0 := p0.keeps k33
    replace p1 := p1.keeps k33
    replace p_b0 := p_b0.keeps k33
    replace bx0 := bx0.keeps k33
    replace p_0 := p_0.keeps k33
    replace x0 := x0.keeps k33
    replace kw := Keeps.trans kw k33
    have lt35 := bx0.lt
    have sz36 := kw.size
    clear k33
    replace x1 := x1.widen (lo' := w25.heap.size + 1) (by simp) (Nat.le_refl _) (Nat.le_refl _)
    replace p0 := p0.keeps (keeps_alloc w33 (.cells #[.slice Bx1 n1 n1] 57))
    replace p1 := p1.keeps (keeps_alloc w33 (.cells #[.slice Bx1 n1 n1] 57))
    replace p_b0 := p_b0.keeps (keeps_alloc w33 (.cells #[.slice Bx1 n1 n1] 57))
    replace bx0 := bx0.keeps (keeps_alloc w33 (.cells #[.slice Bx1 n1 n1] 57))
    replace p_0 := p_0.keeps (keeps_alloc w33 (.cells #[.slice Bx1 n1 n1] 57))
    replace x0 := x0.keeps (keeps_alloc w33 (.cells #[.slice Bx1 n1 n1] 57))
    replace x1 := x1.keeps (keeps_alloc w33 (.cells #[.slice Bx1 n1 n1] 57))
    replace kw := Keeps.trans kw (keeps_alloc w33 (.cells #[.slice Bx1 n1 n1] 57))
    have bx1 : B1 (w33.alloc (.cells #[.slice Bx1 n1 n1] 57)) w33.heap.size (.slice Bx1 n1 n1) := B1.new' (by simp)
    obtain ⟨ca37, fa37⟩ := id p0
    obtain ⟨ca38, fa38⟩ := id p1
    obtain ⟨ca39, fa39⟩ := id p_b0
    obtain ⟨ca40, fa40⟩ := id bx0
    obtain ⟨ca41, fa41⟩ := id bx1
    go_wp2_with fail
    clear ca37 fa37 ca38 fa38 ca39 fa39 ca40 fa40 ca41 fa41
    refine (implPostProcess_any x0.1 x1.1).mono ?_
    rintro e w42 ⟨g_A0, g_N0, g_C0, rfl, g_0, k42⟩
    have ss43 := k42.size
    simp at ss43
    replace p0 := p0.keeps k42
    replace p1 := p1.keeps k42
    replace p_b0 := p_b0.keeps k42
    replace bx0 := bx0.keeps k42
    replace bx1 := bx1.keeps k42
    replace p_0 := p_0.keeps k42
    replace x0 := x0.keeps k42
    replace x1 := x1.keeps k42
    replace kw := Keeps.trans kw k42
    have lt44 := bx1.lt
    have sz45 := kw.size
    clear k42
    rw [HR.out]
    rw [HR.out] at g_0
    dsimp only at g_0
    dsimp only
    replace g_0 := g_0.widen (lo' := w33.heap.size + 1) (by simp) (Nat.le_refl _) (Nat.le_refl _)
    replace p0 := p0.keeps (keeps_alloc w42 (.cells #[.slice g_A0 g_N0 g_C0] 57))
    replace p1 := p1.keeps (keeps_alloc w42 (.cells #[.slice g_A0 g_N0 g_C0] 57))
    replace p_b0 := p_b0.keeps (keeps_alloc w42 (.cells #[.slice g_A0 g_N0 g_C0] 57))
    replace bx0 := bx0.keeps (keeps_alloc w42 (.cells #[.slice g_A0 g_N0 g_C0] 57))
    replace bx1 := bx1.keeps (keeps_alloc w42 (.cells #[.slice g_A0 g_N0 g_C0] 57))
    replace p_0 := p_0.keeps (keeps_alloc w42 (.cells #[.slice g_A0 g_N0 g_C0] 57))
    replace x0 := x0.keeps (keeps_alloc w42 (.cells #[.slice g_A0 g_N0 g_C0] 57))
    replace x1 := x1.keeps (keeps_alloc w42 (.cells #[.slice g_A0 g_N0 g_C0] 57))
    replace g_0 := g_0.keeps (keeps_alloc w42 (.cells #[.slice g_A0 g_N0 g_C0] 57))
    replace kw := Keeps.trans kw (keeps_alloc w42 (.cells #[.slice g_A0 g_N0 g_C0] 57))
    have g_b0 : B1 (w42.alloc (.cells #[.slice g_A0 g_N0 g_C0] 57)) w42.heap.size (.slice g_A0 g_N0 g_C0) := B1.new' (by simp)
    obtain ⟨ca46, fa46⟩ := id p0
    obtain ⟨ca47, fa47⟩ := id p1
    obtain ⟨ca48, fa48⟩ := id p_b0
    obtain ⟨ca49, fa49⟩ := id bx0
    obtain ⟨ca50, fa50⟩ := id bx1
    obtain ⟨ca51, fa51⟩ := id g_b0
    go_wp2_with fail
    clear ca46 fa46 ca47 fa47 ca48 fa48 ca49 fa49 ca50 fa50 ca51 fa51
    have e1 : (r1 != r1) = false := by simp
    refine (eqMechanism_true g_0.1 p_0.1).mono ?_
    rintro e w52 ⟨rfl, k52⟩
    have ss53 := k52.size
    simp at ss53
    replace p0 := p0.keeps k52
    replace p1 := p1.keeps k52
    replace p_b0 := p_b0.keeps k52
    replace bx0 := bx0.keeps k52
    replace bx1 := bx1.keeps k52
    replace g_b0 := g_b0.keeps k52
    replace p_0 := p_0.keeps k52
    replace x0 := x0.keeps k52
    replace x1 := x1.keeps k52
    replace g_0 := g_0.keeps k52
    replace kw := Keeps.trans kw k52
    have lt54 := g_b0.lt
    have sz55 := kw.size
    clear k52
    obtain ⟨ca56, fa56⟩ := id p0
    obtain ⟨ca57, fa57⟩ := id p1
    obtain ⟨ca58, fa58⟩ := id p_b0
    obtain ⟨ca59, fa59⟩ := id bx0
    obtain ⟨ca60, fa60⟩ := id bx1
    obtain ⟨ca61, fa61⟩ := id g_b0
    go_wp2_with fail
    clear ca56 fa56 ca57 fa57 ca58 fa58 ca59 fa59 ca60 fa60 ca61 fa61
    obtain ⟨ca62, -⟩ := id bx0
    obtain ⟨ca63, -⟩ := id p0
    have kS := hid (show ∀ w', Keeps w52 w' → (w'.cell? ⟨w25.heap.size, 0, none⟩ = some (.slice Bx0 n0 n0) ∧ w'.cell? ⟨w.heap.size, 0, none⟩ = some (.slice A0 n0 c0)) from fun w' k => ⟨cell_keeps ca62 k, cell_keeps ca63 k⟩)
    go_region_held3 (fun w' => w'.cell? ⟨w25.heap.size, 0, none⟩ = some (.slice Bx0 n0 n0) ∧ w'.cell? ⟨w.heap.size, 0, none⟩ = some (.slice A0 n0 c0)) (first | exact kS.out _ (keeps_d0 w52) | exact kS.out _ kW | go_keep)
      ((first | (go_at_call 35; refine (toMechanism_any (h0.keeps (Keeps.trans kw (keeps_d0 w52)))).mono ?_; rintro e wB64 ⟨Bt64, rfl, t0, kB⟩; have kW : Keeps w52 wB64 := keeps_d kB; clear kB) | (go_at_call 37; refine (eqMechanism_true (x0.1.keeps kW) t0.1).mono ?_; rintro e wC64 ⟨rfl, kC⟩; replace kW : Keeps w52 wC64 := kW.trans kC; clear kC)))
    clear kS t0
    clear ca62 ca63
    have ss65 := kW.size
    replace p0 := p0.keeps kW
    replace p1 := p1.keeps kW
    replace p_b0 := p_b0.keeps kW
    replace bx0 := bx0.keeps kW
    replace bx1 := bx1.keeps kW
    replace g_b0 := g_b0.keeps kW
    replace p_0 := p_0.keeps kW
    replace x0 := x0.keeps kW
    replace x1 := x1.keeps kW
    replace g_0 := g_0.keeps kW
    replace kw := Keeps.trans kw kW
    have lt66 := g_b0.lt
    have sz67 := kw.size
    clear kW
    obtain ⟨ca68, fa68⟩ := id p0
    obtain ⟨ca69, fa69⟩ := id p1
    obtain ⟨ca70, fa70⟩ := id p_b0
    obtain ⟨ca71, fa71⟩ := id bx0
    obtain ⟨ca72, fa72⟩ := id bx1
    obtain ⟨ca73, fa73⟩ := id g_b0
    go_wp2_with fail
    clear ca68 fa68 ca69 fa69 ca70 fa70 ca71 fa71 ca72 fa72 ca73 fa73
    obtain ⟨ca74, -⟩ := id bx1
    obtain ⟨ca75, -⟩ := id p1
    have kS := hid (show ∀ w', Keeps wC64 w' → (w'.cell? ⟨w33.heap.size, 0, none⟩ = some (.slice Bx1 n1 n1) ∧ w'.cell? ⟨w.heap.size + 1, 0, none⟩ = some (.slice A1 n1 c1)) from fun w' k => ⟨cell_keeps ca74 k, cell_keeps ca75 k⟩)
    go_region_held3 (fun w' => w'.cell? ⟨w33.heap.size, 0, none⟩ = some (.slice Bx1 n1 n1) ∧ w'.cell? ⟨w.heap.size + 1, 0, none⟩ = some (.slice A1 n1 c1)) (first | exact kS.out _ (keeps_d0 wC64) | exact kS.out _ kW | go_keep)
      ((first | (go_at_call 35; refine (toMechanism_any (h1.keeps (Keeps.trans kw (keeps_d0 wC64)))).mono ?_; rintro e wB76 ⟨Bt76, rfl, t1, kB⟩; have kW : Keeps wC64 wB76 := keeps_d kB; clear kB) | (go_at_call 37; refine (eqMechanism_true (x1.1.keeps kW) t1.1).mono ?_; rintro e wC76 ⟨rfl, kC⟩; replace kW : Keeps wC64 wC76 := kW.trans kC; clear kC)))
    clear kS t1
    clear ca74 ca75
    have ss77 := kW.size
    replace p0 := p0.keeps kW
    replace p1 := p1.keeps kW
    replace p_b0 := p_b0.keeps kW
    replace bx0 := bx0.keeps kW
    replace bx1 := bx1.keeps kW
    replace g_b0 := g_b0.keeps kW
    replace p_0 := p_0.keeps kW
    replace x0 := x0.keeps kW
    replace x1 := x1.keeps kW
    replace g_0 := g_0.keeps kW
    replace kw := Keeps.trans kw kW
    have lt78 := g_b0.lt
    have sz79 := kw.size
    clear kW
    obtain ⟨ca80, fa80⟩ := id p0
    obtain ⟨ca81, fa81⟩ := id p1
    obtain ⟨ca82, fa82⟩ := id p_b0
    obtain ⟨ca83, fa83⟩ := id bx0
    obtain ⟨ca84, fa84⟩ := id bx1
    obtain ⟨ca85, fa85⟩ := id g_b0
    go_wp2_with fail
    clear ca80 fa80 ca81 fa81 ca82 fa82 ca83 fa83 ca84 fa84 ca85 fa85
    have hb0 : rowSum z0 n0 ≤ 1048576 := by have e := (RM.rows x0).len; have e2 := hs0; unfold mz at e2; rw [e] at e2; omega
    have hb1 : rowSum z1 n1 ≤ 1048576 := by have e := (RM.rows x1).len; have e2 := hs1; unfold mz at e2; rw [e] at e2; omega
    refine (markMechanism_any x0 (by omega) (by omega) (by have e := (RM.rows x0).len; have e2 := hs0; unfold mz at e2; rw [e] at e2; omega)).mono ?_
    rintro e w86 ⟨rfl, mk86, f86⟩
    clear x0
    replace p0 := p0.fr f86 (by omega)
    replace p1 := p1.fr f86 (by omega)
    replace p_b0 := p_b0.fr f86 (by omega)
    replace bx0 := bx0.fr f86 (by omega)
    replace bx1 := bx1.fr f86 (by omega)
    replace g_b0 := g_b0.fr f86 (by omega)
    replace p_0 := p_0.fr f86 (by omega)
    replace x1 := x1.fr f86 (by omega)
    replace g_0 := g_0.fr f86 (by omega)
    have ssf86 := f86.size
    replace kw := below_fr kw kw.size (by omega) f86
    obtain ⟨ca87, fa87⟩ := id p0
    obtain ⟨ca88, fa88⟩ := id p1
    obtain ⟨ca89, fa89⟩ := id p_b0
    obtain ⟨ca90, fa90⟩ := id bx0
    obtain ⟨ca91, fa91⟩ := id bx1
    obtain ⟨ca92, fa92⟩ := id g_b0
    go_wp2_with fail
    clear ca87 fa87 ca88 fa88 ca89 fa89 ca90 fa90 ca91 fa91 ca92 fa92
    clear mk86
    refine (markMechanism_any x1 (by omega) (by omega) (by have e := (RM.rows x1).len; have e2 := hs1; unfold mz at e2; rw [e] at e2; omega)).mono ?_
    rintro e w93 ⟨rfl, mk93, f93⟩
    clear x1
    replace p0 := p0.fr f93 (by omega)
    replace p1 := p1.fr f93 (by omega)
    replace p_b0 := p_b0.fr f93 (by omega)
    replace bx0 := bx0.fr f93 (by omega)
    replace bx1 := bx1.fr f93 (by omega)
    replace g_b0 := g_b0.fr f93 (by omega)
    replace p_0 := p_0.fr f93 (by omega)
    replace g_0 := g_0.fr f93 (by omega)
    have ssf93 := f93.size
    replace kw := below_fr kw kw.size (by omega) f93
    obtain ⟨ca94, fa94⟩ := id p0
    obtain ⟨ca95, fa95⟩ := id p1
    obtain ⟨ca96, fa96⟩ := id p_b0
    obtain ⟨ca97, fa97⟩ := id bx0
    obtain ⟨ca98, fa98⟩ := id bx1
    obtain ⟨ca99, fa99⟩ := id g_b0
    go_wp2_with fail
    clear ca94 fa94 ca95 fa95 ca96 fa96 ca97 fa97 ca98 fa98 ca99 fa99
    clear mk93
    refine (eqMechanism_true g_0.1 p_0.1).mono ?_
    rintro e w100 ⟨rfl, k100⟩
    have ss101 := k100.size
    replace p0 := p0.keeps k100
    replace p1 := p1.keeps k100
    replace p_b0 := p_b0.keeps k100
    replace bx0 := bx0.keeps k100
    replace bx1 := bx1.keeps k100
    replace g_b0 := g_b0.keeps k100
    replace p_0 := p_0.keeps k100
    replace g_0 := g_0.keeps k100
    replace kw := Keeps.trans kw k100
    have lt102 := g_b0.lt
    have sz103 := kw.size
    clear k100
    obtain ⟨ca104, fa104⟩ := id p0
    obtain ⟨ca105, fa105⟩ := id p1
    obtain ⟨ca106, fa106⟩ := id p_b0
    obtain ⟨ca107, fa107⟩ := id bx0
    obtain ⟨ca108, fa108⟩ := id bx1
    obtain ⟨ca109, fa109⟩ := id g_b0
    go_wp2_with fail
    clear ca104 fa104 ca105 fa105 ca106 fa106 ca107 fa107 ca108 fa108 ca109 fa109
    have HLN := hid (RM.rows g_0).len
    refine (markMechanism_any g_0 (by omega) (by omega) (by rw [← (RM.rows g_0).len]; exact hsm.2)).mono ?_
    rintro e w110 ⟨rfl, mk110, f110⟩
    clear g_0
    replace p0 := p0.fr f110 (by omega)
    replace p1 := p1.fr f110 (by omega)
    replace p_b0 := p_b0.fr f110 (by omega)
    replace bx0 := bx0.fr f110 (by omega)
    replace bx1 := bx1.fr f110 (by omega)
    replace g_b0 := g_b0.fr f110 (by omega)
    replace p_0 := p_0.fr f110 (by omega)
    have ssf110 := f110.size
    replace kw := below_fr kw kw.size (by omega) f110
    obtain ⟨ca111, fa111⟩ := id p0
    obtain ⟨ca112, fa112⟩ := id p1
    obtain ⟨ca113, fa113⟩ := id p_b0
    obtain ⟨ca114, fa114⟩ := id bx0
    obtain ⟨ca115, fa115⟩ := id bx1
    obtain ⟨ca116, fa116⟩ := id g_b0
    go_wp2_with fail
    clear ca111 fa111 ca112 fa112 ca113 fa113 ca114 fa114 ca115 fa115 ca116 fa116
    have u1 : ((1 + 2 * (rowSum r0 g_N0 : Int)) != (1 + 2 * (rowSum r0 g_N0 : Int))) = false := by simp
    have u2 : ¬ (1 + 2 * (rowSum r0 g_N0 : Int) < 0) := by omega
    refine (heldMechanism_any mk110.1 (by omega) (by omega) (by rw [← HLN.out]; exact hsm.2)).mono ?_
    rintro e w117 ⟨rfl, k117⟩
    have ss118 := k117.size
    replace p0 := p0.keeps k117
    replace p1 := p1.keeps k117
    replace p_b0 := p_b0.keeps k117
    replace bx0 := bx0.keeps k117
    replace bx1 := bx1.keeps k117
    replace g_b0 := g_b0.keeps k117
    replace p_0 := p_0.keeps k117
    replace mk110 := mk110.keeps k117
    replace kw := Keeps.trans kw k117
    have lt119 := g_b0.lt
    have sz120 := kw.size
    clear k117
    obtain ⟨ca121, fa121⟩ := id p0
    obtain ⟨ca122, fa122⟩ := id p1
    obtain ⟨ca123, fa123⟩ := id p_b0
    obtain ⟨ca124, fa124⟩ := id bx0
    obtain ⟨ca125, fa125⟩ := id bx1
    obtain ⟨ca126, fa126⟩ := id g_b0
    go_wp2_with fail
    clear ca121 fa121 ca122 fa122 ca123 fa123 ca124 fa124 ca125 fa125 ca126 fa126
    have hW0 := (h0.keeps kw)
    have hW1 := (h1.keeps kw)
    obtain ⟨ca128, -⟩ := id p0
    obtain ⟨ca129, -⟩ := id p1
    have kS := hid (show ∀ w', Keeps w117 w' → (w'.cell? ⟨w.heap.size, 0, none⟩ = some (.slice A0 n0 c0) ∧ w'.cell? ⟨w.heap.size + 1, 0, none⟩ = some (.slice A1 n1 c1)) from fun w' k => ⟨cell_keeps ca128 k, cell_keeps ca129 k⟩)
    go_cut [15, 16] (fun sd so wq => ∃ wy g AN NN CN, wy = wq ∧ sd = .pointer (some ⟨g, 0, none⟩) ∧ B1 wy g (.slice AN NN CN) ∧ w117.heap.size ≤ g ∧ so = .bool r1 ∧ RM wy w117.heap.size wy.heap.size AN NN r0 ∧ Keeps w117 wy)
    case first =>
      go_region_held3 (fun w' => w'.cell? ⟨w.heap.size, 0, none⟩ = some (.slice A0 n0 c0) ∧ w'.cell? ⟨w.heap.size + 1, 0, none⟩ = some (.slice A1 n1 c1)) (first | with_reducible exact kS.out _ (keeps_d0 w117) | with_reducible exact kS.out _ (keeps_ad0 w117 _) | with_reducible exact kS.out _ (kW) | with_reducible exact kS.out _ (kW.trans (keeps_alloc _ _)) | with_reducible exact kS.out _ (kW.trans (keeps_d0 _)) | with_reducible exact kS.out _ (kW.trans (keeps_ad0 _ _)) | with_reducible exact kS.out _ (below_set1 kW lz _) | go_keep)
        ((first | (go_at_call 35; (first | with_reducible refine (toMechanism_any (hW0.keeps (keeps_d0 _))).mono ?_ | with_reducible refine (toMechanism_any (hW0.keeps (keeps_ad0 _ _))).mono ?_ | with_reducible refine (toMechanism_any (hW0.keeps (keeps_refl _))).mono ?_ | with_reducible refine (toMechanism_any (hW0.keeps (kW))).mono ?_ | with_reducible refine (toMechanism_any (hW0.keeps (kW.trans (keeps_alloc _ _)))).mono ?_ | with_reducible refine (toMechanism_any (hW0.keeps (kW.trans (keeps_d0 _)))).mono ?_ | with_reducible refine (toMechanism_any (hW0.keeps (kW.trans (keeps_ad0 _ _)))).mono ?_); rintro e wB ⟨By0, rfl, y0, kB⟩; (first | (have y1 := RM.keeps y1 (kB)) | (have y1 := RM.keeps y1 (keeps_d kB)) | (have y1 := RM.keeps y1 ((keeps_alloc _ _).trans kB)) | (have y1 := RM.keeps y1 (keeps_ad kB)) | skip); (first | (have kZ := kZ.keeps (kB)) | (have kZ := kZ.keeps (keeps_d kB)) | (have kZ : B1 wB w117.heap.size (.slice none 0 0) := B1.kZ1 kB rfl; have lz : w117.heap.size ≤ w117.heap.size := (Nat.le_refl _)) | (have kZ : B1 wB w117.heap.size (.slice none 0 0) := B1.kZ2 kB rfl; have lz : w117.heap.size ≤ w117.heap.size := (Nat.le_refl _)) | (have kZ : B1 wB _ (.slice none 0 0) := B1.kZ1 kB rfl; have lz := kW.size) | (have kZ : B1 wB _ (.slice none 0 0) := B1.kZ2 kB rfl; have lz := kW.size) | skip); (first | obtain ⟨z1, z2⟩ := id kZ | skip); (first | (have kW : Keeps w117 wB := kW.trans (kB)) | (have kW : Keeps w117 wB := kW.trans (keeps_d kB)) | (have kW : Keeps w117 wB := kW.trans ((keeps_alloc _ _).trans kB)) | (have kW : Keeps w117 wB := kW.trans (keeps_ad kB)) | (have kW : Keeps w117 wB := kB) | (have kW : Keeps w117 wB := keeps_d kB) | (have kW : Keeps w117 wB := (keeps_alloc _ _).trans kB) | (have kW : Keeps w117 wB := keeps_ad kB)); clear kB) | (go_at_call 35; (first | with_reducible refine (toMechanism_any (hW1.keeps (keeps_d0 _))).mono ?_ | with_reducible refine (toMechanism_any (hW1.keeps (keeps_ad0 _ _))).mono ?_ | with_reducible refine (toMechanism_any (hW1.keeps (keeps_refl _))).mono ?_ | with_reducible refine (toMechanism_any (hW1.keeps (kW))).mono ?_ | with_reducible refine (toMechanism_any (hW1.keeps (kW.trans (keeps_alloc _ _)))).mono ?_ | with_reducible refine (toMechanism_any (hW1.keeps (kW.trans (keeps_d0 _)))).mono ?_ | with_reducible refine (toMechanism_any (hW1.keeps (kW.trans (keeps_ad0 _ _)))).mono ?_); rintro e wB ⟨By1, rfl, y1, kB⟩; (first | (have y0 := RM.keeps y0 (kB)) | (have y0 := RM.keeps y0 (keeps_d kB)) | (have y0 := RM.keeps y0 ((keeps_alloc _ _).trans kB)) | (have y0 := RM.keeps y0 (keeps_ad kB)) | skip); (first | (have kZ := kZ.keeps (kB)) | (have kZ := kZ.keeps (keeps_d kB)) | (have kZ : B1 wB w117.heap.size (.slice none 0 0) := B1.kZ1 kB rfl; have lz : w117.heap.size ≤ w117.heap.size := (Nat.le_refl _)) | (have kZ : B1 wB w117.heap.size (.slice none 0 0) := B1.kZ2 kB rfl; have lz : w117.heap.size ≤ w117.heap.size := (Nat.le_refl _)) | (have kZ : B1 wB _ (.slice none 0 0) := B1.kZ1 kB rfl; have lz := kW.size) | (have kZ : B1 wB _ (.slice none 0 0) := B1.kZ2 kB rfl; have lz := kW.size) | skip); (first | obtain ⟨z1, z2⟩ := id kZ | skip); (first | (have kW : Keeps w117 wB := kW.trans (kB)) | (have kW : Keeps w117 wB := kW.trans (keeps_d kB)) | (have kW : Keeps w117 wB := kW.trans ((keeps_alloc _ _).trans kB)) | (have kW : Keeps w117 wB := kW.trans (keeps_ad kB)) | (have kW : Keeps w117 wB := kB) | (have kW : Keeps w117 wB := keeps_d kB) | (have kW : Keeps w117 wB := (keeps_alloc _ _).trans kB) | (have kW : Keeps w117 wB := keeps_ad kB)); clear kB) | (go_at_call 56; (first | (have lz2 := kZ.lt) | skip); have lx := kW.size; (first | with_reducible refine (implPostProcess_any (RM.rows y0) (RM.rows y1)).mono ?_ | with_reducible refine (implPostProcess_any ((RM.rows y0).keeps (keeps_alloc _ _)) ((RM.rows y1).keeps (keeps_alloc _ _))).mono ?_ | with_reducible refine (implPostProcess_any ((RM.rows y0).keeps (keeps_d0 _)) ((RM.rows y1).keeps (keeps_d0 _))).mono ?_ | with_reducible refine (implPostProcess_any ((RM.rows y0).keeps (keeps_ad0 _ _)) ((RM.rows y1).keeps (keeps_ad0 _ _))).mono ?_); rintro e wB ⟨AN, NN, CN, rfl, rm, kB⟩; rw [HR.out]; rw [HR.out] at rm; dsimp only at rm; dsimp only; (first | (have kZ := kZ.keeps (kB)) | (have kZ := kZ.keeps (keeps_d kB)) | (have kZ : B1 wB w117.heap.size (.slice none 0 0) := B1.kZ1 kB rfl; have lz : w117.heap.size ≤ w117.heap.size := (Nat.le_refl _)) | (have kZ : B1 wB w117.heap.size (.slice none 0 0) := B1.kZ2 kB rfl; have lz : w117.heap.size ≤ w117.heap.size := (Nat.le_refl _)) | (have kZ : B1 wB _ (.slice none 0 0) := B1.kZ1 kB rfl; have lz := kW.size) | (have kZ : B1 wB _ (.slice none 0 0) := B1.kZ2 kB rfl; have lz := kW.size) | skip); (first | obtain ⟨z1, z2⟩ := id kZ | skip); (first | (have kW : Keeps w117 wB := kW.trans (kB)) | (have kW : Keeps w117 wB := kW.trans (keeps_d kB)) | (have kW : Keeps w117 wB := kW.trans ((keeps_alloc _ _).trans kB)) | (have kW : Keeps w117 wB := kW.trans (keeps_ad kB)) | (have kW : Keeps w117 wB := kB) | (have kW : Keeps w117 wB := keeps_d kB) | (have kW : Keeps w117 wB := (keeps_alloc _ _).trans kB) | (have kW : Keeps w117 wB := keeps_ad kB)); clear kB)))
      all_goals (go_wp2_with fail; go_meet; first
        | exact ⟨_, _, AN, NN, CN, rfl, rfl, B1.new' rfl, kW.size, rfl, RM.res_new rm (by have := kW.size; first | omega | (simp; done) | (simp; omega)), kW.trans (keeps_alloc _ _)⟩
        | exact ⟨_, _, AN, NN, CN, rfl, rfl, B1.put kZ _, lz, rfl, RM.res_set rm (by have := kW.size; first | omega | (simp; done) | (simp; omega)) (by first | omega | (simp; done) | (simp; omega)), below_set1 kW lz _⟩)
    case rest =>
      clear kS hW0 hW1
      clear ca128 ca129
      obtain ⟨wx127, g127, h_A0, h_N0, h_C0, rfl, rfl, h_b0, lg127, rfl, h_0, kx127⟩ := hcut
      have ss130 := kx127.size
      replace p0 := p0.keeps kx127
      replace p1 := p1.keeps kx127
      replace p_b0 := p_b0.keeps kx127
      replace bx0 := bx0.keeps kx127
      replace bx1 := bx1.keeps kx127
      replace g_b0 := g_b0.keeps kx127
      replace p_0 := p_0.keeps kx127
      replace mk110 := mk110.keeps kx127
      replace kw := Keeps.trans kw kx127
      have lt131 := g_b0.lt
      have sz132 := kw.size
      clear kx127
      have lt133 := h_b0.lt
      obtain ⟨ca134, fa134⟩ := id p0
      obtain ⟨ca135, fa135⟩ := id p1
      obtain ⟨ca136, fa136⟩ := id p_b0
      obtain ⟨ca137, fa137⟩ := id bx0
      obtain ⟨ca138, fa138⟩ := id bx1
      obtain ⟨ca139, fa139⟩ := id g_b0
      obtain ⟨ca140, fa140⟩ := id h_b0
      go_wp2_with fail
      clear ca134 fa134 ca135 fa135 ca136 fa136 ca137 fa137 ca138 fa138 ca139 fa139 ca140 fa140
      refine (eqMechanism_true h_0.1 p_0.1).mono ?_
      rintro e w141 ⟨rfl, k141⟩
      have ss142 := k141.size
      replace p0 := p0.keeps k141
      replace p1 := p1.keeps k141
      replace p_b0 := p_b0.keeps k141
      replace bx0 := bx0.keeps k141
      replace bx1 := bx1.keeps k141
      replace g_b0 := g_b0.keeps k141
      replace h_b0 := h_b0.keeps k141
      replace p_0 := p_0.keeps k141
      replace mk110 := mk110.keeps k141
      replace h_0 := h_0.keeps k141
      replace kw := Keeps.trans kw k141
      have lt143 := h_b0.lt
      have sz144 := kw.size
      clear k141
      obtain ⟨ca145, fa145⟩ := id p0
      obtain ⟨ca146, fa146⟩ := id p1
      obtain ⟨ca147, fa147⟩ := id p_b0
      obtain ⟨ca148, fa148⟩ := id bx0
      obtain ⟨ca149, fa149⟩ := id bx1
      obtain ⟨ca150, fa150⟩ := id g_b0
      obtain ⟨ca151, fa151⟩ := id h_b0
      go_wp2_with fail
      clear ca145 fa145 ca146 fa146 ca147 fa147 ca148 fa148 ca149 fa149 ca150 fa150 ca151 fa151
      refine (heldMechanism_any mk110.1 (by omega) (by omega) (by rw [← HLN.out]; exact hsm.2)).mono ?_
      rintro e w152 ⟨rfl, k152⟩
      have ss153 := k152.size
      replace p0 := p0.keeps k152
      replace p1 := p1.keeps k152
      replace p_b0 := p_b0.keeps k152
      replace bx0 := bx0.keeps k152
      replace bx1 := bx1.keeps k152
      replace g_b0 := g_b0.keeps k152
      replace h_b0 := h_b0.keeps k152
      replace p_0 := p_0.keeps k152
      replace mk110 := mk110.keeps k152
      replace h_0 := h_0.keeps k152
      replace kw := Keeps.trans kw k152
      have lt154 := h_b0.lt
      have sz155 := kw.size
      clear k152
      obtain ⟨ca156, fa156⟩ := id p0
      obtain ⟨ca157, fa157⟩ := id p1
      obtain ⟨ca158, fa158⟩ := id p_b0
      obtain ⟨ca159, fa159⟩ := id bx0
      obtain ⟨ca160, fa160⟩ := id bx1
      obtain ⟨ca161, fa161⟩ := id g_b0
      obtain ⟨ca162, fa162⟩ := id h_b0
      go_wp2_with fail
      clear ca156 fa156 ca157 fa157 ca158 fa158 ca159 fa159 ca160 fa160 ca161 fa161 ca162 fa162
      go_ret
      exact ⟨rfl, kw⟩
end Go.Proofs.Ytochlkebibkbiaa
