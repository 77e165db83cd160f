/- PostProcess of the reference, and the law. -/
import Derived.Test.YtnopedjgagoahaaMpp
namespace Go.Proofs.Ytnopedjgagoahaa
open Go.RowKit Go.Sort
set_option linter.unusedVariables false
set_option linter.unusedSimpArgs false

theorem B1.kZ1 {w w' : World} {g : Nat} {v : Value} {t : TypeId} (k : Keeps (w.alloc (.cells #[v] t)).drew w') (e : w.heap.size = g) : B1 w' g v := (B1.new' e).keeps (keeps_d k)
theorem B1.kZ2 {w w' : World} {g : Nat} {v : Value} {t : TypeId} (k : Keeps (w.alloc (.cells #[v] t)) w') (e : w.heap.size = g) : B1 w' g v := (B1.new' e).keeps k
theorem B1.put {w : World} {g : Nat} {v : Value} (h : B1 w g v) (u : Value) : B1 (w.setCell ⟨g, 0, none⟩ u) g u :=
  ⟨World.cell?_setCell_same _ _ _ h.1, by rw [World.frozen?_setCell]; exact h.2⟩
theorem below_set1 {W w : World} {g : Nat} (k : Keeps W w) (h : W.heap.size ≤ g) (u : Value) : Keeps W (w.setCell ⟨g, 0, none⟩ u) := Below.setCell k (p := ⟨g, 0, none⟩) h u
theorem RM.res_new {W w : World} {lo n : Nat} {A : Option Addr} {ll : List (List QQ)} {O : Obj} (h : RM w lo w.heap.size A n ll) (hl : W.heap.size ≤ lo) : RM (w.alloc O) W.heap.size (w.alloc O).heap.size A n ll :=
  (RM.keeps h (keeps_alloc _ _)).widen hl (by simp) (Nat.le_refl _)
theorem RM.res_set {W w : World} {lo n g : Nat} {A : Option Addr} {ll : List (List QQ)} {u : Value} (h : RM w lo w.heap.size A n ll) (hl : W.heap.size ≤ lo) (hg : g < lo) : RM (w.setCell ⟨g, 0, none⟩ u) W.heap.size (w.setCell ⟨g, 0, none⟩ u).heap.size A n ll :=
  (RM.fr h ((Fr.refl g (g + 1) w).setCell (p := ⟨g, 0, none⟩) (Nat.le_refl _) (Nat.lt_succ_self _) u) (by omega)).widen hl (by simp [World.setCell]) (Nat.le_refl _)

set_option maxRecDepth 100000 in
set_option maxHeartbeats 25600000 in
theorem specPostProcess_any {A A' : Option Addr} {lo hi lo' hi' n n' c c' : Nat} {mm tt : List (List QQ)} {w : World} (h : FRows w lo hi A n mm) (h' : FRows w lo' hi' A' n' tt) :
    Calls Try.prog 14 #[.agg #[.slice A n c], .agg #[.slice A' n' c']] w (MRes w (ppQ mm tt)) := by
  have hn := h.le
  have hn' := h'.le
  have hl := h.len
  have hl' := h'.len
  go_enter Try.func14, Try.ntmps14
  have kw := keeps_refl w
  replace kw := Keeps.trans kw (keeps_alloc w (.cells #[.slice A n c] 25))
  have b2 : B1 (w.alloc (.cells #[.slice A n c] 25)) w.heap.size (.slice A n c) := B1.new' (by simp)
  replace b2 := b2.keeps (keeps_alloc (w.alloc (.cells #[.slice A n c] 25)) (.cells #[.slice A' n' c'] 25))
  replace kw := Keeps.trans kw (keeps_alloc (w.alloc (.cells #[.slice A n c] 25)) (.cells #[.slice A' n' c'] 25))
  have b3 : B1 ((w.alloc (.cells #[.slice A n c] 25)).alloc (.cells #[.slice A' n' c'] 25)) (w.heap.size + 1) (.slice A' n' c') := B1.new' (by simp)
  replace b2 := b2.keeps (keeps_alloc ((w.alloc (.cells #[.slice A n c] 25)).alloc (.cells #[.slice A' n' c'] 25)) (.cells #[.slice none 0 0] 25))
  replace b3 := b3.keeps (keeps_alloc ((w.alloc (.cells #[.slice A n c] 25)).alloc (.cells #[.slice A' n' c'] 25)) (.cells #[.slice none 0 0] 25))
  replace kw := Keeps.trans kw (keeps_alloc ((w.alloc (.cells #[.slice A n c] 25)).alloc (.cells #[.slice A' n' c'] 25)) (.cells #[.slice none 0 0] 25))
  have b4 : B1 (((w.alloc (.cells #[.slice A n c] 25)).alloc (.cells #[.slice A' n' c'] 25)).alloc (.cells #[.slice none 0 0] 25)) (w.heap.size + 1 + 1) (.slice none 0 0) := B1.new' (by simp)
  obtain ⟨p1, H1⟩ : ∃ pB, Hid (mechB mm = pB) := ⟨_, rfl⟩
  obtain ⟨p2, H2⟩ : ∃ pB, Hid (mechB tt = pB) := ⟨_, rfl⟩
  cases p1
  · have HF := hid (ppQ_no (mm := mm) (tt := tt) (by rw [ppB, H1.out]; rfl))
    obtain ⟨ca2, -⟩ := id b2
    obtain ⟨ca3, -⟩ := id b3
    have r2 := fun d os => cell_regrown ca2 d os
    have r3 := fun d os => cell_regrown ca3 d os
    have cM := hid (fun (d : Nat) (os : Array Obj) => mGood_any (h.keeps (Keeps.trans kw (below_regrown (((w.alloc (.cells #[.slice A n c] 25)).alloc (.cells #[.slice A' n' c'] 25)).alloc (.cells #[.slice none 0 0] 25)) d os))) (c := c))
    have cT := hid (fun (d : Nat) (os : Array Obj) => mGood_any (h'.keeps (Keeps.trans kw (below_regrown (((w.alloc (.cells #[.slice A n c] 25)).alloc (.cells #[.slice A' n' c'] 25)).alloc (.cells #[.slice none 0 0] 25)) d os))) (c := c'))
    rw [H1.out] at cM
    rw [H2.out] at cT
    go_wp2_with fail
    refine wp_region_quiet_below (by kernel_rfl) (by kernel_rfl) ?_
    iterate 19 (go_big_quiet_step ((first | with_reducible exact Calls.regrown_of (cM.out _ _) | with_reducible exact Calls.regrown_of (cT.out _ _))))
    refine wpQuiet_nil ?_
    intro _ hw'
    obtain ⟨⟨dq, osq⟩, hw''⟩ := hw'
    subst hw''
    clear r2 r3 ca2 ca3 cM cT
    have kQ := below_regrown (((w.alloc (.cells #[.slice A n c] 25)).alloc (.cells #[.slice A' n' c'] 25)).alloc (.cells #[.slice none 0 0] 25)) dq osq
    obtain ⟨wQ1, hwQ⟩ : ∃ u, u = grow (redrawn (((w.alloc (.cells #[.slice A n c] 25)).alloc (.cells #[.slice A' n' c'] 25)).alloc (.cells #[.slice none 0 0] 25)) dq) osq := ⟨_, rfl⟩
    rw [← hwQ] at kQ
    rw [← hwQ]
    clear hwQ
    replace b2 := b2.keeps kQ
    replace b3 := b3.keeps kQ
    replace b4 := b4.keeps kQ
    replace kw := Keeps.trans kw kQ
    have lt2 := b4.lt
    have sz3 := kw.size
    clear kQ
    obtain ⟨ca4, fa4⟩ := id b4
    go_wp2_with fail
    clear ca4 fa4
    obtain ⟨ca0, fa0⟩ := id b4
    refine bodyPost_ret (v := .tuple #[.agg #[.slice none 0 0], .bool false]) (by simp [results, Try.results14, go_sem, ca0]) rfl ⟨none, 0, 0, by rw [HF.out], ?_, ?_⟩
    · rw [HF.out]; exact RM.nil_ _ _
    · first | exact Below.setCell kw (p := ⟨w.heap.size + 1 + 1, 0, none⟩) (Nat.le_refl _) _ | exact kw | exact Below.setCell kw (p := ⟨w.heap.size + 1 + 1, 0, none⟩) (by show _ ≤ (w.heap.size + 1 + 1); omega) _
  · skip
    cases p2
    · have HF := hid (ppQ_no (mm := mm) (tt := tt) (by rw [ppB, H1.out, H2.out]; rfl))
      obtain ⟨ca2, -⟩ := id b2
      obtain ⟨ca3, -⟩ := id b3
      have r2 := fun d os => cell_regrown ca2 d os
      have r3 := fun d os => cell_regrown ca3 d os
      have cM := hid (fun (d : Nat) (os : Array Obj) => mGood_any (h.keeps (Keeps.trans kw (below_regrown (((w.alloc (.cells #[.slice A n c] 25)).alloc (.cells #[.slice A' n' c'] 25)).alloc (.cells #[.slice none 0 0] 25)) d os))) (c := c))
      have cT := hid (fun (d : Nat) (os : Array Obj) => mGood_any (h'.keeps (Keeps.trans kw (below_regrown (((w.alloc (.cells #[.slice A n c] 25)).alloc (.cells #[.slice A' n' c'] 25)).alloc (.cells #[.slice none 0 0] 25)) d os))) (c := c'))
      rw [H1.out] at cM
      rw [H2.out] at cT
      go_wp2_with fail
      refine wp_region_quiet_below (by kernel_rfl) (by kernel_rfl) ?_
      iterate 19 (go_big_quiet_step ((first | with_reducible exact Calls.regrown_of (cM.out _ _) | with_reducible exact Calls.regrown_of (cT.out _ _))))
      refine wpQuiet_nil ?_
      intro _ hw'
      obtain ⟨⟨dq, osq⟩, hw''⟩ := hw'
      subst hw''
      clear r2 r3 ca2 ca3 cM cT
      have kQ := below_regrown (((w.alloc (.cells #[.slice A n c] 25)).alloc (.cells #[.slice A' n' c'] 25)).alloc (.cells #[.slice none 0 0] 25)) dq osq
      obtain ⟨wQ1, hwQ⟩ : ∃ u, u = grow (redrawn (((w.alloc (.cells #[.slice A n c] 25)).alloc (.cells #[.slice A' n' c'] 25)).alloc (.cells #[.slice none 0 0] 25)) dq) osq := ⟨_, rfl⟩
      rw [← hwQ] at kQ
      rw [← hwQ]
      clear hwQ
      replace b2 := b2.keeps kQ
      replace b3 := b3.keeps kQ
      replace b4 := b4.keeps kQ
      replace kw := Keeps.trans kw kQ
      have lt2 := b4.lt
      have sz3 := kw.size
      clear kQ
      obtain ⟨ca4, fa4⟩ := id b4
      go_wp2_with fail
      clear ca4 fa4
      obtain ⟨ca0, fa0⟩ := id b4
      refine bodyPost_ret (v := .tuple #[.agg #[.slice none 0 0], .bool false]) (by simp [results, Try.results14, go_sem, ca0]) rfl ⟨none, 0, 0, by rw [HF.out], ?_, ?_⟩
      · rw [HF.out]; exact RM.nil_ _ _
      · first | exact Below.setCell kw (p := ⟨w.heap.size + 1 + 1, 0, none⟩) (Nat.le_refl _) _ | exact kw | exact Below.setCell kw (p := ⟨w.heap.size + 1 + 1, 0, none⟩) (by show _ ≤ (w.heap.size + 1 + 1); omega) _
    · skip
      have hln := mechB_len H1.out
      have hln' := mechB_len H2.out
      obtain ⟨b, off, A1, m, c1, rfl, hlb, hub, hc0, hr0⟩ := h.head (by omega)
      have hm0 := Fracs.len hr0
      have hmle := hr0.le
      have i0 : (0 : Int) < (n : Int) := by omega
      by_cases hnm : n' = m
      rotate_left
      · have t1 : ((n' : Int) != (m : Int)) = true := by rw [bne_iff_ne]; omega
        have HF := hid (ppQ_no (mm := mm) (tt := tt) (by rw [ppB, decide_eq_false (show ¬ tt.length = (mm.getD 0 []).length by omega), Bool.and_false]))
        obtain ⟨ca2, -⟩ := id b2
        obtain ⟨ca3, -⟩ := id b3
        have r2 := fun d os => cell_regrown ca2 d os
        have r3 := fun d os => cell_regrown ca3 d os
        have r4 := fun d os => cell_regrown (cell_keeps hc0 kw) d os
        have cM := hid (fun (d : Nat) (os : Array Obj) => mGood_any (h.keeps (Keeps.trans kw (below_regrown (((w.alloc (.cells #[.slice (some ⟨b, off, none⟩) n c] 25)).alloc (.cells #[.slice A' n' c'] 25)).alloc (.cells #[.slice none 0 0] 25)) d os))) (c := c))
        have cT := hid (fun (d : Nat) (os : Array Obj) => mGood_any (h'.keeps (Keeps.trans kw (below_regrown (((w.alloc (.cells #[.slice (some ⟨b, off, none⟩) n c] 25)).alloc (.cells #[.slice A' n' c'] 25)).alloc (.cells #[.slice none 0 0] 25)) d os))) (c := c'))
        rw [H1.out] at cM
        rw [H2.out] at cT
        go_wp2_with fail
        refine wp_region_quiet_below (by kernel_rfl) (by kernel_rfl) ?_
        iterate 19 (go_big_quiet_step ((first | with_reducible exact Calls.regrown_of (cM.out _ _) | with_reducible exact Calls.regrown_of (cT.out _ _))))
        refine wpQuiet_nil ?_
        intro _ hw'
        obtain ⟨⟨dq, osq⟩, hw''⟩ := hw'
        subst hw''
        clear r2 r3 ca2 ca3 cM cT r4
        have kQ := below_regrown (((w.alloc (.cells #[.slice (some ⟨b, off, none⟩) n c] 25)).alloc (.cells #[.slice A' n' c'] 25)).alloc (.cells #[.slice none 0 0] 25)) dq osq
        obtain ⟨wQ1, hwQ⟩ : ∃ u, u = grow (redrawn (((w.alloc (.cells #[.slice (some ⟨b, off, none⟩) n c] 25)).alloc (.cells #[.slice A' n' c'] 25)).alloc (.cells #[.slice none 0 0] 25)) dq) osq := ⟨_, rfl⟩
        rw [← hwQ] at kQ
        rw [← hwQ]
        clear hwQ
        replace b2 := b2.keeps kQ
        replace b3 := b3.keeps kQ
        replace b4 := b4.keeps kQ
        replace kw := Keeps.trans kw kQ
        have lt2 := b4.lt
        have sz3 := kw.size
        clear kQ
        obtain ⟨ca4, fa4⟩ := id b4
        go_wp2_with fail
        clear ca4 fa4
        obtain ⟨ca0, fa0⟩ := id b4
        refine bodyPost_ret (v := .tuple #[.agg #[.slice none 0 0], .bool false]) (by simp [results, Try.results14, go_sem, ca0]) rfl ⟨none, 0, 0, by rw [HF.out], ?_, ?_⟩
        · rw [HF.out]; exact RM.nil_ _ _
        · first | exact Below.setCell kw (p := ⟨w.heap.size + 1 + 1, 0, none⟩) (Nat.le_refl _) _ | exact kw | exact Below.setCell kw (p := ⟨w.heap.size + 1 + 1, 0, none⟩) (by show _ ≤ (w.heap.size + 1 + 1); omega) _
      subst hnm
      have t1 : ((n' : Int) != (n' : Int)) = false := by simp
      have HB0 := hid (show ppB mm tt = true by rw [ppB, H1.out, H2.out, decide_eq_true (show tt.length = (mm.getD 0 []).length by omega)]; rfl)
      obtain ⟨ca2, -⟩ := id b2
      obtain ⟨ca3, -⟩ := id b3
      have r2 := fun d os => cell_regrown ca2 d os
      have r3 := fun d os => cell_regrown ca3 d os
      have r4 := fun d os => cell_regrown (cell_keeps hc0 kw) d os
      have cM := hid (fun (d : Nat) (os : Array Obj) => mGood_any (h.keeps (Keeps.trans kw (below_regrown (((w.alloc (.cells #[.slice (some ⟨b, off, none⟩) n c] 25)).alloc (.cells #[.slice A' n' c'] 25)).alloc (.cells #[.slice none 0 0] 25)) d os))) (c := c))
      have cT := hid (fun (d : Nat) (os : Array Obj) => mGood_any (h'.keeps (Keeps.trans kw (below_regrown (((w.alloc (.cells #[.slice (some ⟨b, off, none⟩) n c] 25)).alloc (.cells #[.slice A' n' c'] 25)).alloc (.cells #[.slice none 0 0] 25)) d os))) (c := c'))
      rw [H1.out] at cM
      rw [H2.out] at cT
      go_wp2_with fail
      refine wp_region_quiet_below (by kernel_rfl) (by kernel_rfl) ?_
      iterate 19 (go_big_quiet_step ((first | with_reducible exact Calls.regrown_of (cM.out _ _) | with_reducible exact Calls.regrown_of (cT.out _ _))))
      refine wpQuiet_nil ?_
      intro _ hw'
      obtain ⟨⟨dq, osq⟩, hw''⟩ := hw'
      subst hw''
      clear r2 r3 ca2 ca3 cM cT r4
      have kQ := below_regrown (((w.alloc (.cells #[.slice (some ⟨b, off, none⟩) n c] 25)).alloc (.cells #[.slice A' n' c'] 25)).alloc (.cells #[.slice none 0 0] 25)) dq osq
      obtain ⟨wQ1, hwQ⟩ : ∃ u, u = grow (redrawn (((w.alloc (.cells #[.slice (some ⟨b, off, none⟩) n c] 25)).alloc (.cells #[.slice A' n' c'] 25)).alloc (.cells #[.slice none 0 0] 25)) dq) osq := ⟨_, rfl⟩
      rw [← hwQ] at kQ
      rw [← hwQ]
      clear hwQ
      replace b2 := b2.keeps kQ
      replace b3 := b3.keeps kQ
      replace b4 := b4.keeps kQ
      replace kw := Keeps.trans kw kQ
      have lt2 := b4.lt
      have sz3 := kw.size
      clear kQ
      obtain ⟨b', off', A2, m2, c2, rfl, hlb', hub', hc0', hr0'⟩ := h'.head (by omega)
      have hm0' := Fracs.len hr0'
      have hmle' := hr0'.le
      have i0' : (0 : Int) < (n' : Int) := by omega
      have i0n : 0 < n' := by omega
      have HY := hid (ppQ_yes HB0.out)
      rw [hl, hm0'] at HY
      have HM0 := hid hm0
      have HM0' := hid hm0'
      clear hm0 hm0'
      have HG := hid H1.out
      have HG' := hid H2.out
      clear H1 H2
      obtain ⟨ll, HL⟩ : ∃ ll, Hid (tab (ppF mm tt) n m2 = ll) := ⟨_, rfl⟩
      obtain ⟨ca4, fa4⟩ := id b2
      go_wp2_with fail
      clear ca4 fa4
      go_loopw [41, 6] (fun si v wr => ∃ i : Nat, i ≤ n ∧ si = .int .i64 i ∧ Hid (OkTo (ppF mm tt) m2 i 0) ∧ Built wr (w.heap.size + 1 + 1 + 1) v i ll wr.heap.size ∧ B1 wr w.heap.size (.slice (some ⟨b, off, none⟩) n c) ∧ B1 wr (w.heap.size + 1) (.slice (some ⟨b', off', none⟩) n' c') ∧ B1 wr (w.heap.size + 1 + 1) (.slice none 0 0) ∧ Keeps w wr) (fun si _ _ => n - (intOf si).toNat)
      case atStart => exact ⟨0, Nat.zero_le _, rfl, hid (okTo_start _ _), Built.nil_ _ _ _, b2, b3, b4, kw⟩
      clear kw b2 b3 b4
      case round =>
        obtain ⟨i, hi, rfl, OK, bu, b2, b3, b4, kw⟩ := hrel
        obtain ⟨wo, rfl⟩ : ∃ u : World, u = wr := ⟨_, rfl⟩
        have lt4 := b4.lt
        have sz := kw.size
        by_cases hlt : i < n
        · have hi1 : (i : Int) < (n : Int) := by omega
          obtain ⟨row, HR⟩ : ∃ row, Hid (ll.getD i [] = row) := ⟨_, rfl⟩
          have hrow : row = (List.range m2).map fun j => ((ppF mm tt i j).1, (ppF mm tt i j).2.1) := by rw [← HR.out, ← HL.out]; exact tab_row _ hlt
          have HRL := hid (show row.length = m2 by rw [hrow]; simp)
          have HRA := hid (show ∀ j, j < m2 → row.getD j (0, 0) = ((ppF mm tt i j).1, (ppF mm tt i j).2.1) from fun j hj => by rw [hrow, getD_map_range, if_pos hj])
          clear hrow
          obtain ⟨b1_, off1, A1r, mr, c1r, e1, hlb1, hub1, hci, hri⟩ := (h.keeps kw).at_ hlt
          obtain ⟨rfl, rfl⟩ : b = b1_ ∧ off = off1 := by injection e1 with e1; injection e1 with e1 e2; exact ⟨e1, e2⟩
          clear e1
          have hml := Fracs.len hri
          have hmm := (mechB_row HG.out (i := i) (by omega)).1
          have hmle1 := hri.le
          obtain ⟨r, HRM⟩ : ∃ r, Hid (mm.getD i [] = r) := ⟨_, rfl⟩
          rw [HRM.out] at hri hml hmm
          have hmn : n' = mr := by have := HM0.out; omega
          subst hmn
          have HFR := hid (show ∀ z x y, z < n' → (x, y) = r.getD z (0, 0) → fracB x y = true from fun z x y hz hx => (mechB_at HG.out (i := i) (k := z) (by omega) (by rw [HRM.out]; omega) (by rw [HRM.out]; exact hx)).1)
          have HPF := hid (show ∀ j, ppF mm tt i j = accQ (ppSt r tt j) 0 1 n' from fun j => by unfold ppF; rw [HRM.out, hml])
          clear hmm
          have HML := hid hml
          clear hml
          have hc0w := cell_keeps hc0' kw
          obtain ⟨ca5, fa5⟩ := id b2
          obtain ⟨ca6, fa6⟩ := id b3
          go_wp2_with fail
          clear ca5 fa5 ca6 fa6
          clear hci
          go_loopw [50, 9] (fun si v wr => ∃ k : Nat, k ≤ m2 ∧ si = .int .i64 k ∧ Hid (OkTo (ppF mm tt) m2 i k) ∧ Has wr wo.heap.size 31 2 v k (frs (row.take k)) ∧ Keeps wo wr) (fun si _ _ => m2 - (intOf si).toNat)
          case atStart => exact ⟨0, Nat.zero_le _, rfl, OK, World.ownsRow_nil _ _ _ _, keeps_refl _⟩
          case round =>
            obtain ⟨k, hk, rfl, OKk, hown, ko⟩ := hrel
            obtain ⟨wk, rfl⟩ : ∃ u : World, u = wr := ⟨_, rfl⟩
            have lo := ko.size
            by_cases hlk : k < m2
            · have hk1 : (k : Int) < (m2 : Int) := by omega
              have HT := hid (take_snoc row k (0, 0) (by have := HRL.out; omega))
              rw [HRA.out k hlk] at HT
              have HF0 := hid (HPF.out k)
              have kwo := Keeps.trans kw ko
              have d2 := b2.keeps ko
              have d3 := b3.keeps ko
              have d4 := b4.keeps ko
              have hrk := Sl.keeps hri ko
              have lt4k := d4.lt
              go_wp2_with fail
              refine (fInt_any).mono ?_
              rintro e w7 ⟨rfl, k7⟩
              replace d2 := d2.keeps k7
              replace d3 := d3.keeps k7
              replace d4 := d4.keeps k7
              replace kwo := Keeps.trans kwo k7
              replace ko := Keeps.trans ko k7
              have lt8 := d4.lt
              have sz9 := kwo.size
              have sz10 := ko.size
              replace hown := Has.below hown k7
              replace hrk := Sl.keeps hrk k7
              clear k7
              have kf := keeps_refl w7
              have hownF := hown
              have hrF := hrk
              clear hown hrk
              replace d2 := d2.keeps (keeps_alloc w7 (.cells #[.int .i64 0, .int .i64 1] 31))
              replace d3 := d3.keeps (keeps_alloc w7 (.cells #[.int .i64 0, .int .i64 1] 31))
              replace d4 := d4.keeps (keeps_alloc w7 (.cells #[.int .i64 0, .int .i64 1] 31))
              replace kwo := Keeps.trans kwo (keeps_alloc w7 (.cells #[.int .i64 0, .int .i64 1] 31))
              replace ko := Keeps.trans ko (keeps_alloc w7 (.cells #[.int .i64 0, .int .i64 1] 31))
              replace kf := Keeps.trans kf (keeps_alloc w7 (.cells #[.int .i64 0, .int .i64 1] 31))
              have d11 : Bx (w7.alloc (.cells #[.int .i64 0, .int .i64 1] 31)) w7.heap.size 0 1 := Bx.new' (by simp)
              go_wp2_with fail
              go_loopw [56] (fun si wz => ∃ (z : Nat) (s1 : Int) (s2 : Int), z ≤ n' ∧ si = .int .i64 z ∧ Hid (accQ (ppSt r tt k) 0 1 z = (s1, s2, true)) ∧ Hid (fracB s1 s2 = true) ∧ B1 wz w.heap.size (.slice (some ⟨b, off, none⟩) n c) ∧ B1 wz (w.heap.size + 1) (.slice (some ⟨b', off', none⟩) n' c') ∧ B1 wz (w.heap.size + 1 + 1) (.slice none 0 0) ∧ Bx wz w7.heap.size s1 s2 ∧ Keeps w wz ∧ Keeps wo wz ∧ Keeps w7 wz) (fun si _ => n' - (intOf si).toNat)
              case atStart => exact ⟨0, 0, 1, Nat.zero_le _, rfl, rfl, fracB_01, d2, d3, d4, d11, kwo, ko, kf⟩
              clear kwo ko kf d2 d3 d4 d11 
              case round =>
                obtain ⟨z, s1, s2, hz, rfl, HA, HB, d2, d3, d4, d11, kwo, ko, kf⟩ := hrel
                have lt11 := d11.lt
                have sz12 := kwo.size
                have sz13 := ko.size
                have sz14 := kf.size
                by_cases hlz : z < n'
                · obtain ⟨ba, oa, x, y, rfl, _, hb, hc, hd, hx⟩ := Fracs.at_ (Sl.keeps hrF kf) hlz
                  have hz : (z : Int) < (n' : Int) := by omega
                  have fx := hid (HFR.out z x y hlz hx.out)
                  replace d2 := d2.keeps (keeps_alloc wr (.cells #[.int .i64 x, .int .i64 y] 31))
                  replace d3 := d3.keeps (keeps_alloc wr (.cells #[.int .i64 x, .int .i64 y] 31))
                  replace d4 := d4.keeps (keeps_alloc wr (.cells #[.int .i64 x, .int .i64 y] 31))
                  replace d11 := d11.keeps (keeps_alloc wr (.cells #[.int .i64 x, .int .i64 y] 31))
                  replace kwo := Keeps.trans kwo (keeps_alloc wr (.cells #[.int .i64 x, .int .i64 y] 31))
                  replace ko := Keeps.trans ko (keeps_alloc wr (.cells #[.int .i64 x, .int .i64 y] 31))
                  replace kf := Keeps.trans kf (keeps_alloc wr (.cells #[.int .i64 x, .int .i64 y] 31))
                  have d13 : Bx (wr.alloc (.cells #[.int .i64 x, .int .i64 y] 31)) wr.heap.size x y := Bx.new' (by simp)
                  go_wp2_with fail
                  clear hc hd
                  obtain ⟨bz, oz, A2z, mz_, cz, ez, _, _, hck, hrz⟩ := (h'.keeps kwo).at_ hlz
                  obtain ⟨rfl, rfl⟩ : b' = bz ∧ off' = oz := by injection ez with ez; injection ez with e1 e2; exact ⟨e1, e2⟩
                  clear ez
                  have hm2 := (Fracs.len hrz).symm.trans (mechB_row HG'.out (i := z) (by omega)).1
                  have hj0 : k < mz_ := by have := HM0'.out; omega
                  obtain ⟨bu_, ou, u, v, rfl, _, hbu, hcu, hdu, hu⟩ := Fracs.at_ hrz hj0
                  have fu := hid (mechB_at HG'.out (i := z) (k := k) (by omega) (by have := Fracs.len hrz; omega) hu.out).1
                  have hj1 : (k : Int) < (mz_ : Int) := by omega
                  have HD := hid (ppSt_at (a := s1) (b := s2) hx.out hu.out)
                  obtain ⟨q1, q2, q3, H5⟩ : ∃ q1 q2 q3, Hid (mkF (x * u) (y * v) = (q1, q2, q3)) := ⟨_, _, _, rfl⟩
                  clear hm2
                  obtain ⟨ca16, cb16, -, -⟩ := id d13
                  obtain ⟨ca17, -⟩ := id d3
                  have kS := hid (show ∀ w', Keeps (wr.alloc (.cells #[.int .i64 x, .int .i64 y] 31)) w' → (w'.cell? ⟨wr.heap.size, 0, none⟩ = some (.int .i64 x) ∧ w'.cell? ⟨wr.heap.size, 1, none⟩ = some (.int .i64 y) ∧ w'.cell? ⟨w.heap.size + 1, 0, none⟩ = some (.slice (some ⟨b', off', none⟩) n' c') ∧ w'.cell? ⟨b', off' + z, none⟩ = some (.slice (some ⟨bu_, ou, none⟩) mz_ cz) ∧ w'.cell? ⟨bu_, ou + k * 2, none⟩ = some (.int .i64 u) ∧ w'.cell? ⟨bu_, ou + k * 2 + 1, none⟩ = some (.int .i64 v)) from fun w' k => ⟨cell_keeps ca16 k, cell_keeps cb16 k, cell_keeps ca17 k, cell_keeps hck k, cell_keeps hcu k, cell_keeps hdu k⟩)
                  go_cut [14, 15] (fun sd so wq => ∃ wy g, wy = wq ∧ sd = .pointer (some ⟨g, 0, none⟩) ∧ so = .bool q3 ∧ Bx wy g q1 q2 ∧ (wr.alloc (.cells #[.int .i64 x, .int .i64 y] 31)).heap.size ≤ g ∧ Keeps (wr.alloc (.cells #[.int .i64 x, .int .i64 y] 31)) wy)
                  case first =>
                    have eA := hid (show (wr.alloc (.cells #[.int .i64 x, .int .i64 y] 31)).heap.size = wr.heap.size + 1 by simp)
                    go_region_held3 (fun w' => w'.cell? ⟨wr.heap.size, 0, none⟩ = some (.int .i64 x) ∧ w'.cell? ⟨wr.heap.size, 1, none⟩ = some (.int .i64 y) ∧ w'.cell? ⟨w.heap.size + 1, 0, none⟩ = some (.slice (some ⟨b', off', none⟩) n' c') ∧ w'.cell? ⟨b', off' + z, none⟩ = some (.slice (some ⟨bu_, ou, none⟩) mz_ cz) ∧ w'.cell? ⟨bu_, ou + k * 2, none⟩ = some (.int .i64 u) ∧ w'.cell? ⟨bu_, ou + k * 2 + 1, none⟩ = some (.int .i64 v)) (first | with_reducible exact kS.out _ (keeps_d0 (wr.alloc (.cells #[.int .i64 x, .int .i64 y] 31))) | with_reducible exact kS.out _ (keeps_ad0 (wr.alloc (.cells #[.int .i64 x, .int .i64 y] 31)) _) | with_reducible exact kS.out _ (kW) | with_reducible exact kS.out _ (kW.trans (keeps_alloc _ _)) | with_reducible exact kS.out _ (below_set2 kW lz _ _) | go_keep)
                      ((first | (go_at_call 92; refine (fMul_any (fracB_qb fx.out) (fracB_qb fu.out)).mono ?_; rintro e wB ⟨rfl, kB⟩; rw [H5.out]; (first | (have kZ : Bx wB (wr.heap.size + 1) 0 0 := Bx.kZ1 kB eA.out; have lz : (wr.alloc (.cells #[.int .i64 x, .int .i64 y] 31)).heap.size ≤ (wr.heap.size + 1) := (Nat.le_of_eq eA.out); obtain ⟨z1, z2, z3, z4⟩ := id kZ) | (have kZ : Bx wB (wr.heap.size + 1) 0 0 := Bx.kZ2 kB eA.out; have lz : (wr.alloc (.cells #[.int .i64 x, .int .i64 y] 31)).heap.size ≤ (wr.heap.size + 1) := (Nat.le_of_eq eA.out); obtain ⟨z1, z2, z3, z4⟩ := id kZ) | (have kZ := kZ.keeps kB; obtain ⟨z1, z2, z3, z4⟩ := id kZ) | (have kZ : Bx wB _ 0 0 := Bx.kZ2 kB rfl; have lz := kW.size; obtain ⟨z1, z2, z3, z4⟩ := id kZ) | skip); (first | (have kW : Keeps (wr.alloc (.cells #[.int .i64 x, .int .i64 y] 31)) wB := kW.trans kB) | (have kW : Keeps (wr.alloc (.cells #[.int .i64 x, .int .i64 y] 31)) wB := (kW.trans (keeps_alloc _ _)).trans kB) | (have kW : Keeps (wr.alloc (.cells #[.int .i64 x, .int .i64 y] 31)) wB := keeps_d kB) | (have kW : Keeps (wr.alloc (.cells #[.int .i64 x, .int .i64 y] 31)) wB := keeps_ad kB)); clear kB)))
                    all_goals (go_wp2_with fail; go_meet; first
                      | exact ⟨_, _, rfl, rfl, rfl, Bx.new _ _ _ _, kW.size, kW.trans (keeps_alloc _ _)⟩
                      | exact ⟨_, _, rfl, rfl, rfl, Bx.set (x := 0) (y := 0) kZ _ _, lz, below_set2 kW lz _ _⟩)
                  case rest =>
                    clear kS
                    clear ca16 cb16 ca17
                    obtain ⟨wx15, g15, rfl, rfl, rfl, d14, lg15, kx15⟩ := hcut
                    simp at lg15
                    replace d2 := d2.keeps kx15
                    replace d3 := d3.keeps kx15
                    replace d4 := d4.keeps kx15
                    replace d11 := d11.keeps kx15
                    replace d13 := d13.keeps kx15
                    replace kwo := Keeps.trans kwo kx15
                    replace ko := Keeps.trans ko kx15
                    replace kf := Keeps.trans kf kx15
                    clear kx15
                    have lt19 := d14.lt
                    have sz20 := kwo.size
                    have sz21 := ko.size
                    have sz22 := kf.size
                    clear hck hcu hdu hrz
                    cases q3
                    · have HE := hid (accQ_fail HA.out (show ppSt r tt k z s1 s2 = (0, 0, false) from HD.out.trans (ppV_no H5.out)) hlz)
                      have HE2 := hid (HF0.out.trans HE.out)
                      have HF := hid (show ppQ mm tt = ([], false) by rw [HY.out]; exact nmQ_no1 (okAll_no hlt hlk HE2.out))
                      replace kw := kwo
                      obtain ⟨ca23, fa23⟩ := id d4
                      go_wp2_with fail
                      clear ca23 fa23
                      obtain ⟨ca0, fa0⟩ := id d4
                      refine bodyPost_ret (v := .tuple #[.agg #[.slice none 0 0], .bool false]) (by simp [results, Try.results14, go_sem, ca0]) rfl ⟨none, 0, 0, by rw [HF.out], ?_, ?_⟩
                      · rw [HF.out]; exact RM.nil_ _ _
                      · first | exact Below.setCell kw (p := ⟨w.heap.size + 1 + 1, 0, none⟩) (Nat.le_refl _) _ | exact kw | exact Below.setCell kw (p := ⟨w.heap.size + 1 + 1, 0, none⟩) (by show _ ≤ (w.heap.size + 1 + 1); omega) _
                    · have fq := hid ((Fine.mk _ _).ok H5.out)
                      obtain ⟨r1, r2, r3, H6⟩ : ∃ r1 r2 r3, Hid (mkF (s1 * q2 + q1 * s2) (s2 * q2) = (r1, r2, r3)) := ⟨_, _, _, rfl⟩
                      have HS := hid ((HD.out.trans (ppV_yes H5.out)).trans H6.out)
                      obtain ⟨ca23, cb23, fa23, fb23⟩ := id d11
                      obtain ⟨ca24, cb24, fa24, fb24⟩ := id d14
                      go_wp2_with fail
                      clear ca23 cb23 fa23 fb23 ca24 cb24 fa24 fb24
                      refine (fAdd_any (fracB_qb HB.out) (fracB_qb fq.out)).mono ?_
                      rintro e w25 ⟨rfl, k25⟩
                      rw [H6.out]
                      replace d2 := d2.keeps k25
                      replace d3 := d3.keeps k25
                      replace d4 := d4.keeps k25
                      replace d11 := d11.keeps k25
                      replace d13 := d13.keeps k25
                      replace d14 := d14.keeps k25
                      replace kwo := Keeps.trans kwo k25
                      replace ko := Keeps.trans ko k25
                      replace kf := Keeps.trans kf k25
                      have lt26 := d14.lt
                      have sz27 := kwo.size
                      have sz28 := ko.size
                      have sz29 := kf.size
                      clear k25
                      cases r3
                      · have HE := hid (accQ_fail HA.out (show ppSt r tt k z s1 s2 = (0, 0, false) from (ppSt_fine _ _ _ _ _ _).bad HS.out) hlz)
                        have HE2 := hid (HF0.out.trans HE.out)
                        have HF := hid (show ppQ mm tt = ([], false) by rw [HY.out]; exact nmQ_no1 (okAll_no hlt hlk HE2.out))
                        replace kw := kwo
                        obtain ⟨ca0, fa0⟩ := id d4
                        have ltB := d4.lt
                        have ca1 := cell_keeps ca0 (keeps_alloc w25 (.cells #[.int .i64 r1, .int .i64 r2] 31))
                        go_wp2_with fail
                        refine bodyPost_ret (v := .tuple #[.agg #[.slice none 0 0], .bool false]) (by simp [results, Try.results14, go_sem, ca0, ltB]) rfl ⟨none, 0, 0, by rw [HF.out], ?_, ?_⟩
                        · rw [HF.out]; exact RM.nil_ _ _
                        · exact Keeps.trans (Below.setCell kw (p := ⟨w.heap.size + 1 + 1, 0, none⟩) (by show _ ≤ (w.heap.size + 1 + 1); omega) _) (keeps_alloc _ _)
                      · replace d2 := d2.keeps (keeps_alloc w25 (.cells #[.int .i64 r1, .int .i64 r2] 31))
                        replace d3 := d3.keeps (keeps_alloc w25 (.cells #[.int .i64 r1, .int .i64 r2] 31))
                        replace d4 := d4.keeps (keeps_alloc w25 (.cells #[.int .i64 r1, .int .i64 r2] 31))
                        replace d11 := d11.keeps (keeps_alloc w25 (.cells #[.int .i64 r1, .int .i64 r2] 31))
                        replace d13 := d13.keeps (keeps_alloc w25 (.cells #[.int .i64 r1, .int .i64 r2] 31))
                        replace d14 := d14.keeps (keeps_alloc w25 (.cells #[.int .i64 r1, .int .i64 r2] 31))
                        replace kwo := Keeps.trans kwo (keeps_alloc w25 (.cells #[.int .i64 r1, .int .i64 r2] 31))
                        replace ko := Keeps.trans ko (keeps_alloc w25 (.cells #[.int .i64 r1, .int .i64 r2] 31))
                        replace kf := Keeps.trans kf (keeps_alloc w25 (.cells #[.int .i64 r1, .int .i64 r2] 31))
                        have d16 : Bx (w25.alloc (.cells #[.int .i64 r1, .int .i64 r2] 31)) w25.heap.size r1 r2 := Bx.new' (by simp)
                        have fr := hid ((ppSt_fine _ _ _ _ _ _).ok HS.out)
                        obtain ⟨ca30, cb30, fa30, fb30⟩ := id d11
                        obtain ⟨ca31, cb31, fa31, fb31⟩ := id d16
                        replace d2 := d2.set2 (p := w7.heap.size) (by omega) (.int .i64 r1) (.int .i64 r2)
                        replace d3 := d3.set2 (p := w7.heap.size) (by omega) (.int .i64 r1) (.int .i64 r2)
                        replace d4 := d4.set2 (p := w7.heap.size) (by omega) (.int .i64 r1) (.int .i64 r2)
                        replace d13 := d13.set2 (p := w7.heap.size) (by omega) (.int .i64 r1) (.int .i64 r2)
                        replace d14 := d14.set2 (p := w7.heap.size) (by omega) (.int .i64 r1) (.int .i64 r2)
                        replace d16 := d16.set2 (p := w7.heap.size) (by omega) (.int .i64 r1) (.int .i64 r2)
                        replace d11 := d11.set r1 r2
                        replace kwo := below_set2 kwo (p := w7.heap.size) (by omega) (.int .i64 r1) (.int .i64 r2)
                        replace ko := below_set2 ko (p := w7.heap.size) (by omega) (.int .i64 r1) (.int .i64 r2)
                        replace kf := below_set2 kf (p := w7.heap.size) (by omega) (.int .i64 r1) (.int .i64 r2)
                        go_wp2_with fail
                        clear ca30 cb30 fa30 fb30 ca31 cb31 fa31 fb31
                        go_roundw
                        case rel => exact ⟨z + 1, r1, r2, (by omega), (by go_num), accQ_next HA.out HS.out, fr.out, d2, d3, d4, d11, kwo, ko, kf⟩
                        case measure => simp [intOf]; omega
                · obtain rfl : z = n' := by omega
                  replace HF0 := hid (HF0.out.trans HA.out)
                  rw [show ((ppF mm tt i k).1, (ppF mm tt i k).2.1) = (s1, s2) by rw [HF0.out]] at HT
                  have ownZ := Has.below hownF kf
                  have loz := ko.size
                  obtain ⟨ca15, cb15, fa15, fb15⟩ := id d11
                  go_wp2_with (at_builtin; refine append_frac (xs := row.take k) ownZ (by omega) loz _ _ rfl rfl rfl (by first | rfl | (simp <;> rfl)) ?_; intro v' w2 hown2 hb2)
                  rw [← HT.out] at hown2
                  have ko2 := Below.trans ko hb2
                  clear hownF ownZ hb2 kf hrF
                  clear ca15 cb15 fa15 fb15
                  go_wp2
                  go_roundw
                  case rel => exact ⟨k + 1, by omega, by go_num, hid (okTo_next OKk.out HF0.out), hown2, ko2⟩
                  case measure => simp [intOf]; omega
            · obtain rfl : k = m2 := by omega
              obtain ⟨AR, CR, rfl⟩ := hown.form
              rw [List.take_of_length_le (by rw [HRL.out]; exact Nat.le_refl _)] at hown
              have hsl := RowH.of_own hown (by omega) (by omega)
              rw [← HR.out] at hsl
              have bu1 := bu.keeps ko
              replace b2 := b2.keeps ko
              replace b3 := b3.keeps ko
              replace b4 := b4.keeps ko
              replace kw := Keeps.trans kw ko
              have lt6' := b4.lt
              have OK2 := hid (okTo_row OKk.out)
              clear bu hown hri
              go_wp2_with (at_builtin; refine append_row (ll := ll) bu1 hsl (by omega) (by omega) _ _ rfl rfl rfl (by first | rfl | (simp <;> rfl)) ?_; intro v' w2 bu2 hb2)
              have c2_ := b2.below hb2 (by omega)
              have c3 := b3.below hb2 (by omega)
              have c4 := b4.below hb2 (by omega)
              have kw2 := Below.trans kw (hb2.mono (by omega))
              clear b2 b3 b4 kw bu1 hsl hb2 ko
              go_wp2
              go_roundw
              case rel => exact ⟨i + 1, by omega, by go_num, OK2, bu2, c2_, c3, c4, kw2⟩
              case measure => simp [intOf]; omega
        · obtain rfl : i = n := by omega
          obtain ⟨AR, CR, rfl⟩ := bu.form
          have hll : ll.length = i := by rw [← HL.out]; exact tab_len _ _ _
          have rm := bu.rm hll (by omega)
          clear bu
          cases hg : mechB ll with
          | true =>
            have HGL := hid hg
            clear hg
            have HF := hid (show ppQ mm tt = (ll, true) by rw [HY.out, ← HL.out]; exact nmQ_yes (okAll_yes OK.out) (by rw [HL.out]; exact HGL.out))
            clear HY
            go_wp2_with fail
            refine (mIf_yes rm.rows HGL.out).mono ?_
            rintro e w5 ⟨rfl, k5⟩
            replace b4 := b4.keeps k5
            replace rm := rm.keeps k5
            replace kw := Keeps.trans kw k5
            have lt6 := b4.lt
            have sz7 := kw.size
            clear k5
            obtain ⟨ca8, fa8⟩ := id b4
            go_wp2_with fail
            clear ca8 fa8
            obtain ⟨ca0, fa0⟩ := id b4
            have frS : Fr (w.heap.size + 1 + 1) (w.heap.size + 1 + 1 + 1) w5 (w5.setCell ⟨w.heap.size + 1 + 1, 0, none⟩ (.slice AR i CR)) := (Fr.refl _ _ _).setCell (p := ⟨w.heap.size + 1 + 1, 0, none⟩) (Nat.le_refl _) (Nat.lt_succ_self _) _
            have hs := (rm).1.top
            refine bodyPost_ret (v := .tuple #[.agg #[.slice AR i CR], .bool true]) (by simp [results, Try.results14, go_sem, ca0]) rfl ⟨_, _, _, by rw [HF.out], ?_, Below.setCell kw (p := ⟨w.heap.size + 1 + 1, 0, none⟩) (by show _ ≤ (w.heap.size + 1 + 1); omega) _⟩
            rw [HF.out]
            exact (RM.fr rm frS (by omega)).widen (by first | omega | (simp; omega)) (by simp [World.setCell] <;> omega) (Nat.le_refl _)
          | false =>
            have HGL := hid hg
            clear hg
            have HF := hid (show ppQ mm tt = ([], false) by rw [HY.out]; exact nmQ_no2 (by rw [HL.out]; exact HGL.out))
            clear HY
            go_wp2_with fail
            refine (mIf_no rm.rows HGL.out).mono ?_
            rintro e w5 ⟨rfl, k5⟩
            replace b4 := b4.keeps k5
            replace rm := rm.keeps k5
            replace kw := Keeps.trans kw k5
            have lt6 := b4.lt
            have sz7 := kw.size
            clear k5
            obtain ⟨ca8, fa8⟩ := id b4
            go_wp2_with fail
            clear ca8 fa8
            obtain ⟨ca0, fa0⟩ := id b4
            refine bodyPost_ret (v := .tuple #[.agg #[.slice none 0 0], .bool false]) (by simp [results, Try.results14, go_sem, ca0]) rfl ⟨none, 0, 0, by rw [HF.out], ?_, ?_⟩
            · rw [HF.out]; exact RM.nil_ _ _
            · first | exact Below.setCell kw (p := ⟨w.heap.size + 1 + 1, 0, none⟩) (Nat.le_refl _) _ | exact kw | exact Below.setCell kw (p := ⟨w.heap.size + 1 + 1, 0, none⟩) (by show _ ≤ (w.heap.size + 1 + 1); omega) _
end Go.Proofs.Ytnopedjgagoahaa
