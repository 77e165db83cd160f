/- What the cursor draws: rows of chances, mechanisms (bounds alone). -/
import Derived.Test.YtnopedjgagoahaaDrawI
import Derived.Test.YtnopedjgagoahaaKM
import Derived.Test.YtnopedjgagoahaaGmF
import Derived.Deep.RegionLaw
namespace Go.Proofs.Ytnopedjgagoahaa
open Go.RowKit
set_option linter.unusedVariables false
set_option linter.unusedSimpArgs false

/-- A row of fractions of one's own. -/
def DrawsR (w : World) (g : Nat) (T : Int) (n : Nat) (e : Ending) (w' : World) : Prop := ∃ A c l, e = .returned (.slice A n c) ∧ Has w' w.heap.size 31 2 (.slice A n c) n (frs l) ∧ l.length = n ∧ Cur w' g T ∧ Fr g (g + 1) w w'
theorem Has.low' {w : World} {B B' e size n : Nat} {v : Value} {cs : List Value} (h : Has w B e size v n cs) (hB : B' ≤ B) : Has w B' e size v n cs := by
  obtain ⟨h1, h2⟩ := h
  refine ⟨h1, ?_⟩
  rcases h2 with h2 | ⟨g, cap, cur, hv, hg, rest⟩
  · exact .inl h2
  · exact .inr ⟨g, cap, cur, hv, Nat.le_trans hB hg, rest⟩
set_option maxRecDepth 100000 in
set_option maxHeartbeats 3200000 in
theorem distribution_any {g n : Nat} {T : Int} {w : World} (h : Cur w g T) (hT : T ≤ 900000000000000) (hn : 1 ≤ n ∧ n ≤ 64) :
    Calls Try.prog 86 #[.pointer (some ⟨g, 0, none⟩), .int .i64 n] w (DrawsR w g (T + 2 * n) n) := by
  have lg := h.lt
  go_enter Try.func86, Try.ntmps86
  go_wp2_with fail
  go_loopw [5, 6, 7] (fun v s i wr => ∃ (k : Nat) (xs : List Int) (z : Int), k ≤ n ∧ i = .int .i64 k ∧ s = .int .i64 z ∧ (0 ≤ z ∧ z ≤ 4 * k) ∧ Has wr w.heap.size 3 1 v k (xs.map (Value.int .i64)) ∧ Near 4 xs ∧ Cur wr g (T + 2 * k) ∧ Fr g (g + 1) w wr) (fun _ _ i _ => n - (intOf i).toNat)
  case atStart => exact ⟨0, [], 0, Nat.zero_le _, rfl, rfl, by omega, World.ownsRow_nil _ _ _ _, near_nil _ (by omega), h.mono (by omega), Fr.refl _ _ _⟩
  clear h
  case round =>
    obtain ⟨k, xs, z, hk, rfl, rfl, hz, hown, hnr, hc, f⟩ := hrel
    have sz := f.size
    by_cases hlt : k < n
    · have hi1 : (k : Int) < (n : Int) := by omega
      go_wp2_with fail
      refine (pick_any hc (by omega) (by omega)).mono ?_
      rintro e w2 ⟨y, rfl, hy, hc2, f2⟩
      have hown2 := Has.fr hown f2 (by omega)
      have f3 := f.trans f2
      have sz2 := f3.size
      clear hown hc f f2
      go_wp2_with (at_builtin; refine append_int (xs := xs) (u := y) hown2 (by omega) (by omega) _ _ rfl rfl rfl (by first | rfl | (simp <;> rfl)) ?_; intro v' w4 hown4 hb4)
      have hc4 := hc2.below hb4 (by omega)
      have f4 := f3.below hb4 (Nat.le_refl _)
      have hn4 := near_snoc (x := y) hnr (by omega)
      clear hown2 hb4 hc2 f3
      go_wp2
      go_roundw
      case rel => exact ⟨k + 1, _, z + y, by omega, by go_num, by go_num, by omega, hown4, hn4, hc4.mono (by omega), f4⟩
      case measure => simp [intOf]; omega
    · obtain rfl : n = k := by omega
      obtain ⟨A1, C1, rfl⟩ := hown.form
      have hm := Mine.of_own hown (by omega)
      clear hown
      by_cases h0 : z = 0
      · subst h0
        obtain ⟨b', off', x, e', hlo, _, hcx, hxx⟩ := hm.1.at_ (k := 0) (by omega)
        subst e'
        have hfz := hm.2 b' off' rfl 0 (by omega)
        obtain ⟨m6, f6⟩ := hm.set_ (k := 0) (by omega) 1
        rw [Nat.add_zero] at hcx hfz m6 f6
        clear hxx
        have hn1 : (0 : Int) < (n : Int) := by omega
        have M6 := hid m6.1
        have C6 := hid (hc.fr f6 (by omega))
        have F6 := hid (f.setNew (p := ⟨b', off', none⟩) (by show w.heap.size ≤ b'; omega) (.int .i64 1))
        replace hnr := near_set (x := 1) 0 hnr (by omega)
        have s6 := f6.size
        clear m6 f6 hm hc f
        go_wp2_with fail
        have hI := M6.out
        have hC := C6.out
        have hF := F6.out
        clear M6 C6 F6
        obtain ⟨W1, hX⟩ : ∃ u : World, u = wr.setCell ⟨b', off', none⟩ (.int .i64 1) := ⟨_, rfl⟩
        rw [← hX] at hI hC hF s6 ⊢
        clear hX
        go_wp2_with fail
        go_loopw [9, 34] (fun v i wr => ∃ (k : Nat) (l : List QQ), k ≤ n ∧ i = .int .i64 k ∧ Has wr W1.heap.size 31 2 v k (frs l) ∧ l.length = k ∧ Keeps W1 wr) (fun _ i _ => n - (intOf i).toNat)
        case atStart => exact ⟨0, [], Nat.zero_le _, rfl, World.ownsRow_nil _ _ _ _, rfl, keeps_refl _⟩
        case round =>
          obtain ⟨k, l, hk, rfl, hown, hll, ko⟩ := hrel
          have sk := ko.size
          by_cases hlt : k < n
          · have hi1 : (k : Int) < (n : Int) := by omega
            obtain ⟨b, off, x, eA, _, _, hcx, hxx⟩ := (Ints.keeps hI ko).at_ (k := k) hlt
            cases eA
            have hxb := hnr k
            rw [← hxx.out] at hxb
            clear hxx
            go_wp2_with fail
            obtain ⟨r1, r2, r3, HS⟩ : ∃ r1 r2 r3, Hid (mkF x 1 = (r1, r2, r3)) := ⟨_, _, _, rfl⟩
            refine (fMake_any (n := x) (d := 1) (by omega) (by omega)).mono ?_
            rintro e w4 ⟨rfl, k4⟩
            rw [HS.out]
            have hown4 := Has.below (Has.below hown k4) (keeps_alloc w4 (.cells #[.int .i64 r1, .int .i64 r2] 31))
            have ko4 := (ko.trans k4).trans (keeps_alloc w4 (.cells #[.int .i64 r1, .int .i64 r2] 31))
            have s4 := ko4.size
            have bf : Bx (w4.alloc (.cells #[.int .i64 r1, .int .i64 r2] 31)) w4.heap.size r1 r2 := Bx.new' (by simp)
            clear hown ko k4
            obtain ⟨ca, cb, -, -⟩ := id bf
            go_wp2_with (at_builtin; refine append_frac (xs := l) hown4 (by omega) (by omega) _ _ rfl rfl rfl (by first | rfl | (simp <;> rfl)) ?_; intro v' w5 hown5 hb5)
            have ko5 := Below.trans ko4 (hb5.mono (by omega))
            clear hown4 hb5 ko4 ca cb bf
            go_wp2
            go_roundw
            case rel => exact ⟨k + 1, _, by omega, by go_num, hown5, by simp [hll], ko5⟩
            case measure => simp [intOf]; omega
          · obtain rfl : k = n := by omega
            obtain ⟨AR, CR, rfl⟩ := hown.form
            go_wp2
            go_ret
            exact ⟨_, _, _, rfl, Has.low' hown (by omega), hll, (Cur.keeps hC ko).mono (by omega), Fr.keeps hF ko⟩
      · have t0 : (z == 0) = false := by rw [beq_eq_false_iff_ne]; exact h0
        have hI := hm.1
        clear hm
        obtain ⟨wq, rfl⟩ : ∃ u : World, u = wr := ⟨_, rfl⟩
        go_wp2_with fail
        go_loopw [9, 34] (fun v i wr => ∃ (k : Nat) (l : List QQ), k ≤ n ∧ i = .int .i64 k ∧ Has wr wq.heap.size 31 2 v k (frs l) ∧ l.length = k ∧ Keeps wq wr) (fun _ i _ => n - (intOf i).toNat)
        case atStart => exact ⟨0, [], Nat.zero_le _, rfl, World.ownsRow_nil _ _ _ _, rfl, keeps_refl _⟩
        case round =>
          obtain ⟨k, l, hk, rfl, hown, hll, ko⟩ := hrel
          have sk := ko.size
          by_cases hlt : k < n
          · have hi1 : (k : Int) < (n : Int) := by omega
            obtain ⟨b, off, x, eA, _, _, hcx, hxx⟩ := (Ints.keeps hI ko).at_ (k := k) hlt
            cases eA
            have hxb := hnr k
            rw [← hxx.out] at hxb
            clear hxx
            go_wp2_with fail
            obtain ⟨r1, r2, r3, HS⟩ : ∃ r1 r2 r3, Hid (mkF x z = (r1, r2, r3)) := ⟨_, _, _, rfl⟩
            refine (fMake_any (n := x) (d := z) (by omega) (by omega)).mono ?_
            rintro e w4 ⟨rfl, k4⟩
            rw [HS.out]
            have hown4 := Has.below (Has.below hown k4) (keeps_alloc w4 (.cells #[.int .i64 r1, .int .i64 r2] 31))
            have ko4 := (ko.trans k4).trans (keeps_alloc w4 (.cells #[.int .i64 r1, .int .i64 r2] 31))
            have s4 := ko4.size
            have bf : Bx (w4.alloc (.cells #[.int .i64 r1, .int .i64 r2] 31)) w4.heap.size r1 r2 := Bx.new' (by simp)
            clear hown ko k4
            obtain ⟨ca, cb, -, -⟩ := id bf
            go_wp2_with (at_builtin; refine append_frac (xs := l) hown4 (by omega) (by omega) _ _ rfl rfl rfl (by first | rfl | (simp <;> rfl)) ?_; intro v' w5 hown5 hb5)
            have ko5 := Below.trans ko4 (hb5.mono (by omega))
            clear hown4 hb5 ko4 ca cb bf
            go_wp2
            go_roundw
            case rel => exact ⟨k + 1, _, by omega, by go_num, hown5, by simp [hll], ko5⟩
            case measure => simp [intOf]; omega
          · obtain rfl : k = n := by omega
            obtain ⟨AR, CR, rfl⟩ := hown.form
            go_wp2
            go_ret
            exact ⟨_, _, _, rfl, Has.low' hown (by omega), hll, (Cur.keeps hc ko).mono (by omega), Fr.keeps f ko⟩
theorem gm_mech {a p q : Int} {ll : List (List QQ)} (e : gmQ a p q = (ll, true)) : mechB ll = true := (gm_ratio e).1
/-- A mechanism of one's own, small. -/
def MF (w : World) (B : Nat) (A : Option Addr) (n c : Nat) (ll : List (List QQ)) : Prop :=
  (∃ top, Built w B (.slice A n c) n ll top) ∧ ll.length = n ∧ (1 ≤ n ∧ n ≤ 8) ∧ ∀ j, j < n → 1 ≤ (ll.getD j []).length ∧ (ll.getD j []).length ≤ 24
theorem MF.keeps {w w' : World} {B n c : Nat} {A : Option Addr} {ll : List (List QQ)} (h : MF w B A n c ll) (k : Keeps w w') : MF w' B A n c ll := by
  obtain ⟨⟨top, h1⟩, h2⟩ := h; exact ⟨⟨top, h1.keeps k⟩, h2⟩
theorem MF.fr {w w' : World} {B n c l u : Nat} {A : Option Addr} {ll : List (List QQ)} (h : MF w B A n c ll) (k : Fr l u w w') (ho : u ≤ B) : MF w' B A n c ll := by
  obtain ⟨⟨top, h1⟩, h2⟩ := h; exact ⟨⟨top, h1.fr k ho⟩, h2⟩
theorem MF.set {w : World} {B n c G : Nat} {A : Option Addr} {ll : List (List QQ)} (h : MF w B A n c ll) (hG : G < B) (v : Value) : MF (w.setCell ⟨G, 0, none⟩ v) B A n c ll :=
  h.fr ((Fr.refl G (G + 1) w).setCell (p := ⟨G, 0, none⟩) (Nat.le_refl _) (Nat.lt_succ_self _) v) hG
theorem MF.of_good {w : World} {B n c top : Nat} {A : Option Addr} {ll : List (List QQ)} (h : Built w B (.slice A n c) n ll top) (hl : ll.length = n) (hm : mechB ll = true) : MF w B A n c ll := by
  have h1 := mechB_true.1 hm
  have h2 := inB_true.1 h1.1
  have h3 := inB_true.1 h1.2.1
  refine ⟨⟨top, h⟩, hl, by omega, fun j hj => ?_⟩
  have := (mechB_row hm (i := j) (by omega)).1
  omega
theorem MF.of_res {W wC : World} {A : Option Addr} {N C : Nat} {ll : List (List QQ)} {ok : Bool} {G : Nat} (rM : RM wC W.heap.size wC.heap.size A N ll) (rB : ok = true → ∃ B top, W.heap.size ≤ B ∧ Built wC B (.slice A N C) N ll top)
    (hm : ok = true → mechB ll = true) (hG : G < W.heap.size) : ok = true → ∃ B, G < B ∧ W.heap.size ≤ B ∧ MF wC B A N C ll := fun h => by
  obtain ⟨B, top, h1, h2⟩ := rB h
  exact ⟨B, by omega, h1, MF.of_good h2 rM.rows.len (hm h)⟩
theorem Built.snoc {w : World} {B k top : Nat} {v : Value} {ll : List (List QQ)} (h : Built w B v k ll top) (hl : ll.length = k) (l : List QQ) : Built w B v k (ll ++ [l]) top :=
  h.ext fun j hj => by simp [List.getD, List.getElem?_append_left (show j < ll.length by omega)]
theorem RowH.last {w : World} {L U m c k : Nat} {A : Option Addr} {l : List QQ} {ll : List (List QQ)} (h : RowH w L U A m c l) (hl : ll.length = k) : RowH w L U A m c ((ll ++ [l]).getD k []) := by
  subst hl; simpa [List.getD] using h
theorem rows_snoc {ll : List (List QQ)} {l : List QQ} {k K : Nat} (hl : ll.length = k) (h : ∀ j, j < k → (ll.getD j []).length = K) (h1 : l.length = K) : ∀ j, j < k + 1 → ((ll ++ [l]).getD j []).length = K := fun j hj => by
  subst hl
  by_cases e : j = ll.length
  · subst e; simpa [List.getD] using h1
  · have := h j (by omega)
    rwa [show (ll ++ [l]).getD j [] = ll.getD j [] by simp [List.getD, List.getElem?_append_left (show j < ll.length by omega)]]
theorem B1.set {w : World} {g : Nat} {v : Value} (h : B1 w g v) (u : Value) : B1 (w.setCell ⟨g, 0, none⟩ u) g u := ⟨World.cell?_setCell_same _ _ _ h.1, by simpa using h.2⟩
/-- A mechanism of one's own. -/
def DrawsB (w : World) (g : Nat) (T : Int) (e : Ending) (w' : World) : Prop := ∃ A n c ll B, e = .returned (.agg #[.slice A n c]) ∧ MF w' B A n c ll ∧ w.heap.size ≤ B ∧ Cur w' g T ∧ Fr g (g + 1) w w'
theorem step_dist {W : World} {ops : Array Oper} {o : Oper} {a : Act} {K : Act → World → Prop} {Q : Exit → Act → World → Prop} {E : Prop} {g n : Nat} {T : Int}
    (hc : Cur W g T) (hT : T ≤ 900000000000000) (hn : 1 ≤ n ∧ n ≤ 64) (hgd : o.guard = none)
    (hrun : (execOp a.eval o).run Try.prog W = .ok (.enter 86 #[.pointer (some ⟨g, 0, none⟩), .int .i64 (n : Int)]) W)
    (h : ∀ A c l w', Has w' W.heap.size 31 2 (.slice A n c) n (frs l) → l.length = n → Cur w' g (T + 2 * n) → Fr g (g + 1) W w' → K (a.put o.dst (.slice A n c)) w') :
    if Region.wanted o (yielded ops a.tmps) = true then Oper.wp Try.prog o a W K Q else E := by
  have hw : Region.wanted o (yielded ops a.tmps) = true := by simp [Region.wanted, hgd]
  rw [if_pos hw]
  unfold Oper.wp
  rw [hrun, Oper.upon_enter]
  refine (distribution_any hc hT hn).mono fun e w' hh => ?_
  obtain ⟨A, c, l, rfl, h1, h2, h3, h4⟩ := hh
  exact h A c l w' h1 h2 h3 h4
theorem B1.frA {w w' : World} {g : Nat} {v : Value} {t : TypeId} (f : Fr g (g + 1) (w.alloc (.cells #[v] t)).drew w') (h : g + 1 ≤ w.heap.size) : B1 w' w.heap.size v := ((B1.new' (t := t) rfl).keeps (keeps_d0 _)).fr f (.inr h)
theorem B1.keepsA {w w' : World} {v : Value} {t : TypeId} (k : Keeps (w.alloc (.cells #[v] t)) w') : B1 w' w.heap.size v := (B1.new' (t := t) rfl).keeps k
set_option maxRecDepth 100000 in
set_option maxHeartbeats 6400000 in
theorem mechanism_any {g : Nat} {T : Int} {w : World} (h : Cur w g T) (hT : T ≤ 800000000000000) :
    Calls Try.prog 177 #[.pointer (some ⟨g, 0, none⟩)] w (DrawsB w g (T + 100)) := by
  have lg := h.lt
  have f0 : Fr g (g + 1) w (w.alloc (.cells #[.slice none 0 0] 25)) := (Fr.refl _ _ _).keeps (keeps_alloc w _)
  have hc0 := h.keeps (keeps_alloc w (.cells #[.slice none 0 0] 25))
  have b2 : B1 (w.alloc (.cells #[.slice none 0 0] 25)) w.heap.size (.slice none 0 0) := B1.new' rfl
  go_enter Try.func177, Try.ntmps177
  go_wp2_with fail
  refine (pick_any hc0 (by omega) (by omega)).mono ?_
  rintro e w1 ⟨x, rfl, hx, hc1, f1⟩
  have f2 := f0.trans f1
  replace b2 := b2.fr f1 (by omega)
  clear hc0 f0 f1
  go_wp2_with fail
  obtain ⟨r1, r2, r3, HS⟩ : ∃ r1 r2 r3, Hid (mkF (1 + x) 5 = (r1, r2, r3)) := ⟨_, _, _, rfl⟩
  have hsm := mkF_sm (1 + x) 5
  rw [HS.out] at hsm
  refine (fMake_any (n := 1 + x) (d := 5) (by omega) (by omega)).mono ?_
  rintro e w2 ⟨rfl, k2⟩
  rw [HS.out]
  have f3 := (f2.keeps k2).keeps (keeps_alloc w2 (.cells #[.int .i64 r1, .int .i64 r2] 31))
  have hc3 := (hc1.keeps k2).keeps (keeps_alloc w2 (.cells #[.int .i64 r1, .int .i64 r2] 31))
  replace b2 := (b2.keeps k2).keeps (keeps_alloc w2 (.cells #[.int .i64 r1, .int .i64 r2] 31))
  have b3 : Bx (w2.alloc (.cells #[.int .i64 r1, .int .i64 r2] 31)) w2.heap.size r1 r2 := Bx.new' (by simp)
  have s2 := (f2.keeps k2).size
  clear hc1 f2 k2
  go_wp2_with fail
  refine (pick_any hc3 (by omega) (by omega)).mono ?_
  rintro e w3 ⟨y, rfl, hy, hc4, f4⟩
  have fW := f3.trans f4
  replace b2 := b2.fr f4 (by omega)
  replace b3 := b3.fr f4 (by omega)
  have s3 := fW.size
  have l3 := b3.lt
  have l2 := b2.lt
  clear hc3 f3 f4 HS
  have i3 := hsm.i64
  have wf2 := hid (show ∀ z : Int, (0 ≤ z ∧ z < 10) → (Lit.int .i64 (2 + z)).wf = true from fun z hz => by simp [Lit.wf, IntKind.min, IntKind.max, IntKind.signed, IntKind.bits]; omega)
  have hg3 : g + 1 ≤ w3.heap.size := by omega
  have kS := hid (show ∀ w', Fr g (g + 1) w3 w' → (w'.cell? ⟨w2.heap.size, 0, none⟩ = some (.int .i64 r1) ∧ w'.cell? ⟨w2.heap.size, 1, none⟩ = some (.int .i64 r2)) from fun w' k => ⟨(b3.fr k (by omega)).1, (b3.fr k (by omega)).2.1⟩)
  by_cases h0 : y = 0
  · subst h0
    go_wp2_with fail
    go_cut [5, 6] (fun sd so wq => ∃ (wy : World) (G : Nat) (A : Option Addr) (N C : Nat) (ok : Bool) (ll : List (List QQ)), wy = wq ∧ sd = .pointer (some ⟨G, 0, none⟩) ∧ so = .bool ok ∧ B1 wy G (.slice A N C) ∧ (ok = true → ∃ B, w.heap.size + 1 ≤ B ∧ MF wy B A N C ll) ∧ Cur wy g (T + 6) ∧ Fr g (g + 1) w wy ∧ B1 wy w.heap.size (.slice none 0 0) ∧ w.heap.size < G)
    case first =>
      have hne3 : w2.heap.size ≠ w3.heap.size := by omega
      have kT := hid (show ∀ w' G v, Fr g (g + 1) w3 w' → w2.heap.size ≠ G → ((w'.setCell ⟨G, 0, none⟩ v).cell? ⟨w2.heap.size, 0, none⟩ = some (.int .i64 r1) ∧ (w'.setCell ⟨G, 0, none⟩ v).cell? ⟨w2.heap.size, 1, none⟩ = some (.int .i64 r2)) from fun w' G v k hG => ⟨((b3.fr k (by omega)).far (p := ⟨G, 0, none⟩) hG v).1, ((b3.fr k (by omega)).far (p := ⟨G, 0, none⟩) hG v).2.1⟩)
      have hT3 : T + 2 + 2 ≤ 999999999999999 := by omega
      have q3 : (3 : Int) ≤ 65536 := by omega
      have hzz : ∀ z : Int, (0 ≤ z ∧ (z < 3 ∨ (3 : Int) ≤ 1 ∧ z = 0)) → (0 ≤ z ∧ z < 10) := fun z hz => by omega
      have hw13 : w.heap.size < w3.heap.size := by omega
      have hgw : w.heap.size < g ∨ g + 1 ≤ w.heap.size := .inr (by omega)
      go_region_held3 (fun w' => w'.cell? ⟨w2.heap.size, 0, none⟩ = some (.int .i64 r1) ∧ w'.cell? ⟨w2.heap.size, 1, none⟩ = some (.int .i64 r2)) (first | with_reducible exact kS.out _ (Fr.of_keeps (keeps_d0 w3) _ _) | with_reducible exact kS.out _ (Fr.of_keeps (keeps_ad0 w3 _) _ _) | with_reducible exact kS.out _ kB | with_reducible exact kS.out _ (Fr.keeps kB (keeps_alloc _ _)) | with_reducible exact kS.out _ (Fr.keeps kB kV) | with_reducible exact kS.out _ (Fr.keeps (Fr.keeps kB kV) (keeps_alloc _ _)) | with_reducible exact kT.out _ _ _ (Fr.keeps kB kV) hne3 | with_reducible exact kT.out _ _ _ (Fr.keeps kB kV) hneB | go_keep)
        ((first | (go_at_call 85; (first | with_reducible refine (pick_any (hc4.keeps (keeps_d0 w3)) hT3 q3).mono ?_ | with_reducible refine (pick_any (hc4.keeps (keeps_ad0 w3 _)) hT3 q3).mono ?_); rintro e wB ⟨z, rfl, hz, hcB, fB⟩; (first | (have kB : Fr g (g + 1) w3 wB := (by with_reducible exact Fr.trans (Fr.of_keeps (keeps_d0 w3) _ _) fB)) | (have kB : Fr g (g + 1) w3 wB := (by with_reducible exact Fr.trans (Fr.of_keeps (keeps_ad0 w3 _) _ _) fB); have kZ : B1 wB w3.heap.size (.slice none 0 0) := (by with_reducible exact B1.frA fB hg3); obtain ⟨z1, z2⟩ := id kZ)); have hneB : w2.heap.size ≠ wB.heap.size := (by have := kB.size; omega); have hwf := wf2.out z (hzz z hz); have HE := hid (show IntKind.i64.wrap (2 + z) = 2 + z from IntWalk.i64_in _ (by have := hzz z hz; omega)); obtain ⟨rl, ro, HR⟩ : ∃ a b, Hid (rrsQ (2 + z) r1 r2 = (a, b)) := ⟨_, _, rfl⟩; clear fB) | (go_at_call 219; rw [HE.out]; refine (specRandomResponse_own hwf i3).mono ?_; rintro e wC ⟨rA, rN, rC, rfl, rM, rB, kC⟩; rw [HR.out] at rM rB; rw [HR.out]; dsimp only at rM rB; dsimp only; have HM := hid (fun h : ro = true => show mechB rl = true from rr_mech (a := 2 + z) (p := r1) (q := r2) (by rw [HR.out, h])); have sB := kB.size; (first | (have kV : Keeps wB wC := (by with_reducible exact Keeps.trans (keeps_alloc _ _) kC); have kZ2 : B1 wC wB.heap.size (.slice none 0 0) := (by with_reducible exact B1.keepsA kC); have mf := hid (MF.of_res (G := wB.heap.size) rM rB HM.out (by simp)); obtain ⟨z1, z2⟩ := id kZ2) | (have kV : Keeps wB wC := (by with_reducible exact kC); have kZ2 := B1.keeps kZ kC; have mf := hid (MF.of_res (G := w3.heap.size) rM rB HM.out (B1.lt kZ)); obtain ⟨z1, z2⟩ := id kZ2) | (have kV : Keeps wB wC := (by with_reducible exact kC); have mf := hid (MF.of_res (G := w.heap.size) rM rB HM.out (Nat.lt_of_lt_of_le hw13 sB)))))))
      all_goals (
        have f6 := hid (Fr.trans fW (Fr.keeps kB kV))
        have c6 := hid ((hcB.keeps kV).mono (T' := T + 6) (by omega))
        have b6 := hid ((b2.fr kB hgw).keeps kV)
        have sV := kV.size
        have lw := b6.out.lt
        have hgw3 : g < w3.heap.size := by omega
        go_wp2_with fail
        go_meet
        first
        | exact ⟨_, _, rA, rN, rC, ro, rl, rfl, rfl, rfl, B1.new' rfl, fun h => by obtain ⟨B, q1, q2, q3⟩ := mf.out h; exact ⟨B, by omega, q3.keeps (keeps_alloc _ _)⟩, c6.out.keeps (keeps_alloc _ _), Fr.keeps f6.out (keeps_alloc _ _), b6.out.keeps (keeps_alloc _ _), by omega⟩
        | exact ⟨_, w3.heap.size, rA, rN, rC, ro, rl, rfl, rfl, rfl, B1.set kZ2 _, fun h => by obtain ⟨B, q1, q2, q3⟩ := mf.out h; exact ⟨B, by omega, q3.set q1 _⟩, Cur.fr c6.out ((Fr.refl w3.heap.size (w3.heap.size + 1) wC).setCell (p := ⟨w3.heap.size, 0, none⟩) (Nat.le_refl _) (Nat.lt_succ_self _) _) (by omega), Fr.setNew f6.out (p := ⟨w3.heap.size, 0, none⟩) (by show _ ≤ w3.heap.size; omega) _, b6.out.far (p := ⟨w3.heap.size, 0, none⟩) (by show _ ≠ w3.heap.size; omega) _, by omega⟩
        | exact ⟨_, wB.heap.size, rA, rN, rC, ro, rl, rfl, rfl, rfl, B1.set kZ2 _, fun h => by obtain ⟨B, q1, q2, q3⟩ := mf.out h; exact ⟨B, by omega, q3.set q1 _⟩, Cur.fr c6.out ((Fr.refl wB.heap.size (wB.heap.size + 1) wC).setCell (p := ⟨wB.heap.size, 0, none⟩) (Nat.le_refl _) (Nat.lt_succ_self _) _) (by omega), Fr.setNew f6.out (p := ⟨wB.heap.size, 0, none⟩) (by show _ ≤ wB.heap.size; omega) _, b6.out.far (p := ⟨wB.heap.size, 0, none⟩) (by show _ ≠ wB.heap.size; omega) _, by omega⟩)
    case rest =>
      obtain ⟨wy, G, A, N, C, ok, ll, rfl, rfl, rfl, bG, mf, hc9, f9, b9, hG⟩ := hcut
      cases ok
      · go_wp2_with fail
        refine (pick_any hc9 (by omega) (by omega)).mono ?_
        rintro e wa ⟨a, rfl, ha, hca, fa⟩
        have f8 := (f9).trans fa
        have b28 := (b9).fr fa (by omega)
        clear hc9 f9 b9 fa
        go_wp2_with fail
        refine (pick_any hca (by omega) (by omega)).mono ?_
        rintro e wb ⟨d, rfl, hd, hcb, fb⟩
        have f9 := f8.trans fb
        have b29 := b28.fr fb (by omega)
        have s9 := f9.size
        have l9 := b29.lt
        clear hca fb f8 b28
        obtain ⟨N, hN⟩ : ∃ N : Nat, (1 : Int) + a = N := ⟨(1 + a).toNat, by omega⟩
        obtain ⟨K, hK⟩ : ∃ K : Nat, (1 : Int) + d = K := ⟨(1 + d).toNat, by omega⟩
        have hN4 : 1 ≤ N ∧ N ≤ 4 := by omega
        have hK4 : 1 ≤ K ∧ K ≤ 4 := by omega
        go_wp2_with fail
        clear hN hK ha hd
        go_loopw [12] (fun i wr => ∃ (k : Nat) (v : Value) (ll : List (List QQ)), k ≤ N ∧ i = .int .i64 k ∧ Built wr (wb.heap.size + 1) v k ll wr.heap.size ∧ ll.length = k ∧ (∀ j, j < k → (ll.getD j []).length = K) ∧ B1 wr wb.heap.size v ∧ B1 wr w.heap.size (.slice none 0 0) ∧ Cur wr g (T + 20 + 8 * k) ∧ Fr g (g + 1) w wr ∧ wb.heap.size + 1 ≤ wr.heap.size) (fun i _ => N - (intOf i).toNat)
        case atStart => exact ⟨0, _, [], Nat.zero_le _, rfl, Built.nil_ _ _ _, rfl, fun j hj => absurd hj (by omega), B1.new' rfl, b29.keeps (keeps_alloc _ _), (hcb.keeps (keeps_alloc _ _)).mono (by omega), f9.keeps (keeps_alloc _ _), by simp⟩
        clear hcb f9 b29
        case round =>
          obtain ⟨k, v, ll, hk, rfl, bu, hll, hrl, b11, b2, hc, f, sr⟩ := hrel
          obtain ⟨A1, C1, rfl⟩ := bu.form
          obtain ⟨z1, z2⟩ := id b11
          by_cases hlt : k < N
          · have hi1 : (k : Int) < (N : Int) := by omega
            have hcD := hc.keeps (keeps_d0 wr)
            have buD := bu.keeps (keeps_d0 wr)
            have b2D := b2.keeps (keeps_d0 wr)
            have b11D := b11.keeps (keeps_d0 wr)
            have fD := f.keeps (keeps_d0 wr)
            have sD : wr.drew.heap.size = wr.heap.size := rfl
            have hT3 : T + 20 + 8 * (k : Int) ≤ 900000000000000 := by omega
            have hK3 : 1 ≤ K ∧ K ≤ 64 := by omega
            have hgB : g + 1 ≤ wb.heap.size + 1 := by omega
            have hgw : g < wb.heap.size := by omega
            clear hc bu b2 b11 f
            go_wp2_with fail
            go_region_law ((first | (refine step_dist (n := K) hcD hT3 hK3 rfl (by kernel_rfl) ?_; intro A5 c5 l5 wB hro hl5 hcB fB; have buB := (buD.fr fB hgB).snoc hll l5; have b2B := b2D.fr fB (.inr (by omega)); have b11B := b11D.fr fB (.inr (by omega)); have fBB := fD.trans fB; have sB := fB.size; have roB := (RowH.of_own hro (by omega) (by omega)).last hll; obtain ⟨y1, y2⟩ := id b11B; have y3 := (b11B.keeps (keeps_alloc wB (.cells #[.slice A5 K c5] 43))).1; clear fB) | (have q1 : k ≤ 67108864 := (by omega); refine step_append_row (ll := ll ++ [l5]) buB roB q1 sr _ _ rfl rfl rfl rfl ?_; intro v' w' bu5 kb5; have b11C := b11B.below kb5 (Nat.lt_succ_self _); obtain ⟨u1, u2⟩ := id b11C; have fm := bu5.form; obtain ⟨A6, C6, e6⟩ := fm; subst e6)))
            all_goals (
              have HW := hid ((Fr.refl wb.heap.size (wb.heap.size + 1) w').setCell (p := ⟨wb.heap.size, 0, none⟩) (Nat.le_refl _) (Nat.lt_succ_self _) (.slice A6 (k + 1) C6))
              have es := hid (show (w'.setCell ⟨wb.heap.size, 0, none⟩ (.slice A6 (k + 1) C6)).heap.size = w'.heap.size by simp [World.setCell])
              have BU := hid (bu5.fr HW.out (Nat.le_refl _))
              have B11 := hid (b11C.set (.slice A6 (k + 1) C6))
              have B2 := hid ((b2B.below kb5 (by omega)).fr HW.out (by omega))
              have HC := hid ((hcB.below kb5 (by omega)).fr HW.out (by omega))
              have HF := hid ((fBB.below kb5 (by omega)).setNew (p := ⟨wb.heap.size, 0, none⟩) (by show w.heap.size ≤ wb.heap.size; omega) (.slice A6 (k + 1) C6))
              have ks := kb5.size
              clear z1 z2 y1 y2 y3 u1 u2 hcD buD b2D b11D fD buB b2B b11B fBB roB hro hcB bu5 kb5 b11C
              go_wp2_with fail
              go_roundw
              case rel => exact ⟨k + 1, _, ll ++ [l5], by omega, by go_num, by rw [es.out]; exact BU.out, by simp [hll], rows_snoc hll hrl hl5, B11.out, B2.out, HC.out.mono (by omega), HF.out, by rw [es.out]; omega⟩
              case measure => simp [intOf]; omega)
          · obtain rfl : k = N := by omega
            obtain ⟨z3, z4⟩ := id b2
            have HW := hid ((Fr.refl w.heap.size (w.heap.size + 1) wr).setCell (p := ⟨w.heap.size, 0, none⟩) (Nat.le_refl _) (Nat.lt_succ_self _) (.slice A1 k C1))
            have HM : MF wr (wb.heap.size + 1) A1 k C1 ll := ⟨⟨_, bu⟩, hll, by omega, fun j hj => by have := hrl j hj; omega⟩
            have HM2 := hid (HM.fr HW.out (by omega))
            have HC2 := hid ((hc.fr HW.out (by omega)).mono (T' := T + 100) (by omega))
            have HF2 := hid (f.setNew (p := ⟨w.heap.size, 0, none⟩) (Nat.le_refl _) (.slice A1 k C1))
            clear bu HM hc f
            go_wp2_with fail
            exact bodyPost_ret (v := .agg #[.slice A1 k C1]) (by simp [results, Try.results177, go_sem, z1, z2, z3, z4]) rfl ⟨_, _, _, _, _, rfl, HM2.out, by omega, HC2.out, HF2.out⟩
      · obtain ⟨B, hB, mf⟩ := mf rfl
        obtain ⟨z1, z2⟩ := id bG
        obtain ⟨z3, z4⟩ := id b9
        have HM2 := hid (mf.set (G := w.heap.size) (by omega) (.slice A N C))
        have HC2 := hid ((hc9.fr ((Fr.refl w.heap.size (w.heap.size + 1) wy).setCell (p := ⟨w.heap.size, 0, none⟩) (Nat.le_refl _) (Nat.lt_succ_self _) (.slice A N C)) (by omega)).mono (T' := T + 100) (by omega))
        have HF2 := hid (f9.setNew (p := ⟨w.heap.size, 0, none⟩) (Nat.le_refl _) (.slice A N C))
        clear mf hc9 f9
        go_wp2_with fail
        exact bodyPost_ret (v := .agg #[.slice A N C]) (by simp [results, Try.results177, go_sem, z1, z2, z3, z4]) rfl ⟨_, _, _, _, _, rfl, HM2.out, by omega, HC2.out, HF2.out⟩
  have t0 : (y == 0) = false := by rw [beq_eq_false_iff_ne]; exact h0
  by_cases h1 : y = 1
  · subst h1
    go_wp2_with fail
    go_cut [7, 8] (fun sd so wq => ∃ (wy : World) (G : Nat) (A : Option Addr) (N C : Nat) (ok : Bool) (ll : List (List QQ)), wy = wq ∧ sd = .pointer (some ⟨G, 0, none⟩) ∧ so = .bool ok ∧ B1 wy G (.slice A N C) ∧ (ok = true → ∃ B, w.heap.size + 1 ≤ B ∧ MF wy B A N C ll) ∧ Cur wy g (T + 6) ∧ Fr g (g + 1) w wy ∧ B1 wy w.heap.size (.slice none 0 0) ∧ w.heap.size < G)
    case first =>
      have hne3 : w2.heap.size ≠ w3.heap.size := by omega
      have kT := hid (show ∀ w' G v, Fr g (g + 1) w3 w' → w2.heap.size ≠ G → ((w'.setCell ⟨G, 0, none⟩ v).cell? ⟨w2.heap.size, 0, none⟩ = some (.int .i64 r1) ∧ (w'.setCell ⟨G, 0, none⟩ v).cell? ⟨w2.heap.size, 1, none⟩ = some (.int .i64 r2)) from fun w' G v k hG => ⟨((b3.fr k (by omega)).far (p := ⟨G, 0, none⟩) hG v).1, ((b3.fr k (by omega)).far (p := ⟨G, 0, none⟩) hG v).2.1⟩)
      have hT3 : T + 2 + 2 ≤ 999999999999999 := by omega
      have q3 : (4 : Int) ≤ 65536 := by omega
      have hzz : ∀ z : Int, (0 ≤ z ∧ (z < 4 ∨ (4 : Int) ≤ 1 ∧ z = 0)) → (0 ≤ z ∧ z < 10) := fun z hz => by omega
      have hw13 : w.heap.size < w3.heap.size := by omega
      have hgw : w.heap.size < g ∨ g + 1 ≤ w.heap.size := .inr (by omega)
      go_region_held3 (fun w' => w'.cell? ⟨w2.heap.size, 0, none⟩ = some (.int .i64 r1) ∧ w'.cell? ⟨w2.heap.size, 1, none⟩ = some (.int .i64 r2)) (first | with_reducible exact kS.out _ (Fr.of_keeps (keeps_d0 w3) _ _) | with_reducible exact kS.out _ (Fr.of_keeps (keeps_ad0 w3 _) _ _) | with_reducible exact kS.out _ kB | with_reducible exact kS.out _ (Fr.keeps kB (keeps_alloc _ _)) | with_reducible exact kS.out _ (Fr.keeps kB kV) | with_reducible exact kS.out _ (Fr.keeps (Fr.keeps kB kV) (keeps_alloc _ _)) | with_reducible exact kT.out _ _ _ (Fr.keeps kB kV) hne3 | with_reducible exact kT.out _ _ _ (Fr.keeps kB kV) hneB | go_keep)
        ((first | (go_at_call 85; (first | with_reducible refine (pick_any (hc4.keeps (keeps_d0 w3)) hT3 q3).mono ?_ | with_reducible refine (pick_any (hc4.keeps (keeps_ad0 w3 _)) hT3 q3).mono ?_); rintro e wB ⟨z, rfl, hz, hcB, fB⟩; (first | (have kB : Fr g (g + 1) w3 wB := (by with_reducible exact Fr.trans (Fr.of_keeps (keeps_d0 w3) _ _) fB)) | (have kB : Fr g (g + 1) w3 wB := (by with_reducible exact Fr.trans (Fr.of_keeps (keeps_ad0 w3 _) _ _) fB); have kZ : B1 wB w3.heap.size (.slice none 0 0) := (by with_reducible exact B1.frA fB hg3); obtain ⟨z1, z2⟩ := id kZ)); have hneB : w2.heap.size ≠ wB.heap.size := (by have := kB.size; omega); have hwf := wf2.out z (hzz z hz); have HE := hid (show IntKind.i64.wrap (2 + z) = 2 + z from IntWalk.i64_in _ (by have := hzz z hz; omega)); obtain ⟨rl, ro, HR⟩ : ∃ a b, Hid (gmQ (2 + z) r1 r2 = (a, b)) := ⟨_, _, rfl⟩; clear fB) | (go_at_call 220; rw [HE.out]; refine (specGeometricMechanism_own hwf i3).mono ?_; rintro e wC ⟨rA, rN, rC, rfl, rM, rB, kC⟩; rw [HR.out] at rM rB; rw [HR.out]; dsimp only at rM rB; dsimp only; have HM := hid (fun h : ro = true => show mechB rl = true from gm_mech (a := 2 + z) (p := r1) (q := r2) (by rw [HR.out, h])); have sB := kB.size; (first | (have kV : Keeps wB wC := (by with_reducible exact Keeps.trans (keeps_alloc _ _) kC); have kZ2 : B1 wC wB.heap.size (.slice none 0 0) := (by with_reducible exact B1.keepsA kC); have mf := hid (MF.of_res (G := wB.heap.size) rM rB HM.out (by simp)); obtain ⟨z1, z2⟩ := id kZ2) | (have kV : Keeps wB wC := (by with_reducible exact kC); have kZ2 := B1.keeps kZ kC; have mf := hid (MF.of_res (G := w3.heap.size) rM rB HM.out (B1.lt kZ)); obtain ⟨z1, z2⟩ := id kZ2) | (have kV : Keeps wB wC := (by with_reducible exact kC); have mf := hid (MF.of_res (G := w.heap.size) rM rB HM.out (Nat.lt_of_lt_of_le hw13 sB)))))))
      all_goals (
        have f6 := hid (Fr.trans fW (Fr.keeps kB kV))
        have c6 := hid ((hcB.keeps kV).mono (T' := T + 6) (by omega))
        have b6 := hid ((b2.fr kB hgw).keeps kV)
        have sV := kV.size
        have lw := b6.out.lt
        have hgw3 : g < w3.heap.size := by omega
        go_wp2_with fail
        go_meet
        first
        | exact ⟨_, _, rA, rN, rC, ro, rl, rfl, rfl, rfl, B1.new' rfl, fun h => by obtain ⟨B, q1, q2, q3⟩ := mf.out h; exact ⟨B, by omega, q3.keeps (keeps_alloc _ _)⟩, c6.out.keeps (keeps_alloc _ _), Fr.keeps f6.out (keeps_alloc _ _), b6.out.keeps (keeps_alloc _ _), by omega⟩
        | exact ⟨_, w3.heap.size, rA, rN, rC, ro, rl, rfl, rfl, rfl, B1.set kZ2 _, fun h => by obtain ⟨B, q1, q2, q3⟩ := mf.out h; exact ⟨B, by omega, q3.set q1 _⟩, Cur.fr c6.out ((Fr.refl w3.heap.size (w3.heap.size + 1) wC).setCell (p := ⟨w3.heap.size, 0, none⟩) (Nat.le_refl _) (Nat.lt_succ_self _) _) (by omega), Fr.setNew f6.out (p := ⟨w3.heap.size, 0, none⟩) (by show _ ≤ w3.heap.size; omega) _, b6.out.far (p := ⟨w3.heap.size, 0, none⟩) (by show _ ≠ w3.heap.size; omega) _, by omega⟩
        | exact ⟨_, wB.heap.size, rA, rN, rC, ro, rl, rfl, rfl, rfl, B1.set kZ2 _, fun h => by obtain ⟨B, q1, q2, q3⟩ := mf.out h; exact ⟨B, by omega, q3.set q1 _⟩, Cur.fr c6.out ((Fr.refl wB.heap.size (wB.heap.size + 1) wC).setCell (p := ⟨wB.heap.size, 0, none⟩) (Nat.le_refl _) (Nat.lt_succ_self _) _) (by omega), Fr.setNew f6.out (p := ⟨wB.heap.size, 0, none⟩) (by show _ ≤ wB.heap.size; omega) _, b6.out.far (p := ⟨wB.heap.size, 0, none⟩) (by show _ ≠ wB.heap.size; omega) _, by omega⟩)
    case rest =>
      obtain ⟨wy, G, A, N, C, ok, ll, rfl, rfl, rfl, bG, mf, hc9, f9, b9, hG⟩ := hcut
      cases ok
      · go_wp2_with fail
        refine (pick_any hc9 (by omega) (by omega)).mono ?_
        rintro e wa ⟨a, rfl, ha, hca, fa⟩
        have f8 := (f9).trans fa
        have b28 := (b9).fr fa (by omega)
        clear hc9 f9 b9 fa
        go_wp2_with fail
        refine (pick_any hca (by omega) (by omega)).mono ?_
        rintro e wb ⟨d, rfl, hd, hcb, fb⟩
        have f9 := f8.trans fb
        have b29 := b28.fr fb (by omega)
        have s9 := f9.size
        have l9 := b29.lt
        clear hca fb f8 b28
        obtain ⟨N, hN⟩ : ∃ N : Nat, (1 : Int) + a = N := ⟨(1 + a).toNat, by omega⟩
        obtain ⟨K, hK⟩ : ∃ K : Nat, (1 : Int) + d = K := ⟨(1 + d).toNat, by omega⟩
        have hN4 : 1 ≤ N ∧ N ≤ 4 := by omega
        have hK4 : 1 ≤ K ∧ K ≤ 4 := by omega
        go_wp2_with fail
        clear hN hK ha hd
        go_loopw [12] (fun i wr => ∃ (k : Nat) (v : Value) (ll : List (List QQ)), k ≤ N ∧ i = .int .i64 k ∧ Built wr (wb.heap.size + 1) v k ll wr.heap.size ∧ ll.length = k ∧ (∀ j, j < k → (ll.getD j []).length = K) ∧ B1 wr wb.heap.size v ∧ B1 wr w.heap.size (.slice none 0 0) ∧ Cur wr g (T + 20 + 8 * k) ∧ Fr g (g + 1) w wr ∧ wb.heap.size + 1 ≤ wr.heap.size) (fun i _ => N - (intOf i).toNat)
        case atStart => exact ⟨0, _, [], Nat.zero_le _, rfl, Built.nil_ _ _ _, rfl, fun j hj => absurd hj (by omega), B1.new' rfl, b29.keeps (keeps_alloc _ _), (hcb.keeps (keeps_alloc _ _)).mono (by omega), f9.keeps (keeps_alloc _ _), by simp⟩
        clear hcb f9 b29
        case round =>
          obtain ⟨k, v, ll, hk, rfl, bu, hll, hrl, b11, b2, hc, f, sr⟩ := hrel
          obtain ⟨A1, C1, rfl⟩ := bu.form
          obtain ⟨z1, z2⟩ := id b11
          by_cases hlt : k < N
          · have hi1 : (k : Int) < (N : Int) := by omega
            have hcD := hc.keeps (keeps_d0 wr)
            have buD := bu.keeps (keeps_d0 wr)
            have b2D := b2.keeps (keeps_d0 wr)
            have b11D := b11.keeps (keeps_d0 wr)
            have fD := f.keeps (keeps_d0 wr)
            have sD : wr.drew.heap.size = wr.heap.size := rfl
            have hT3 : T + 20 + 8 * (k : Int) ≤ 900000000000000 := by omega
            have hK3 : 1 ≤ K ∧ K ≤ 64 := by omega
            have hgB : g + 1 ≤ wb.heap.size + 1 := by omega
            have hgw : g < wb.heap.size := by omega
            clear hc bu b2 b11 f
            go_wp2_with fail
            go_region_law ((first | (refine step_dist (n := K) hcD hT3 hK3 rfl (by kernel_rfl) ?_; intro A5 c5 l5 wB hro hl5 hcB fB; have buB := (buD.fr fB hgB).snoc hll l5; have b2B := b2D.fr fB (.inr (by omega)); have b11B := b11D.fr fB (.inr (by omega)); have fBB := fD.trans fB; have sB := fB.size; have roB := (RowH.of_own hro (by omega) (by omega)).last hll; obtain ⟨y1, y2⟩ := id b11B; have y3 := (b11B.keeps (keeps_alloc wB (.cells #[.slice A5 K c5] 43))).1; clear fB) | (have q1 : k ≤ 67108864 := (by omega); refine step_append_row (ll := ll ++ [l5]) buB roB q1 sr _ _ rfl rfl rfl rfl ?_; intro v' w' bu5 kb5; have b11C := b11B.below kb5 (Nat.lt_succ_self _); obtain ⟨u1, u2⟩ := id b11C; have fm := bu5.form; obtain ⟨A6, C6, e6⟩ := fm; subst e6)))
            all_goals (
              have HW := hid ((Fr.refl wb.heap.size (wb.heap.size + 1) w').setCell (p := ⟨wb.heap.size, 0, none⟩) (Nat.le_refl _) (Nat.lt_succ_self _) (.slice A6 (k + 1) C6))
              have es := hid (show (w'.setCell ⟨wb.heap.size, 0, none⟩ (.slice A6 (k + 1) C6)).heap.size = w'.heap.size by simp [World.setCell])
              have BU := hid (bu5.fr HW.out (Nat.le_refl _))
              have B11 := hid (b11C.set (.slice A6 (k + 1) C6))
              have B2 := hid ((b2B.below kb5 (by omega)).fr HW.out (by omega))
              have HC := hid ((hcB.below kb5 (by omega)).fr HW.out (by omega))
              have HF := hid ((fBB.below kb5 (by omega)).setNew (p := ⟨wb.heap.size, 0, none⟩) (by show w.heap.size ≤ wb.heap.size; omega) (.slice A6 (k + 1) C6))
              have ks := kb5.size
              clear z1 z2 y1 y2 y3 u1 u2 hcD buD b2D b11D fD buB b2B b11B fBB roB hro hcB bu5 kb5 b11C
              go_wp2_with fail
              go_roundw
              case rel => exact ⟨k + 1, _, ll ++ [l5], by omega, by go_num, by rw [es.out]; exact BU.out, by simp [hll], rows_snoc hll hrl hl5, B11.out, B2.out, HC.out.mono (by omega), HF.out, by rw [es.out]; omega⟩
              case measure => simp [intOf]; omega)
          · obtain rfl : k = N := by omega
            obtain ⟨z3, z4⟩ := id b2
            have HW := hid ((Fr.refl w.heap.size (w.heap.size + 1) wr).setCell (p := ⟨w.heap.size, 0, none⟩) (Nat.le_refl _) (Nat.lt_succ_self _) (.slice A1 k C1))
            have HM : MF wr (wb.heap.size + 1) A1 k C1 ll := ⟨⟨_, bu⟩, hll, by omega, fun j hj => by have := hrl j hj; omega⟩
            have HM2 := hid (HM.fr HW.out (by omega))
            have HC2 := hid ((hc.fr HW.out (by omega)).mono (T' := T + 100) (by omega))
            have HF2 := hid (f.setNew (p := ⟨w.heap.size, 0, none⟩) (Nat.le_refl _) (.slice A1 k C1))
            clear bu HM hc f
            go_wp2_with fail
            exact bodyPost_ret (v := .agg #[.slice A1 k C1]) (by simp [results, Try.results177, go_sem, z1, z2, z3, z4]) rfl ⟨_, _, _, _, _, rfl, HM2.out, by omega, HC2.out, HF2.out⟩
      · obtain ⟨B, hB, mf⟩ := mf rfl
        obtain ⟨z1, z2⟩ := id bG
        obtain ⟨z3, z4⟩ := id b9
        have HM2 := hid (mf.set (G := w.heap.size) (by omega) (.slice A N C))
        have HC2 := hid ((hc9.fr ((Fr.refl w.heap.size (w.heap.size + 1) wy).setCell (p := ⟨w.heap.size, 0, none⟩) (Nat.le_refl _) (Nat.lt_succ_self _) (.slice A N C)) (by omega)).mono (T' := T + 100) (by omega))
        have HF2 := hid (f9.setNew (p := ⟨w.heap.size, 0, none⟩) (Nat.le_refl _) (.slice A N C))
        clear mf hc9 f9
        go_wp2_with fail
        exact bodyPost_ret (v := .agg #[.slice A N C]) (by simp [results, Try.results177, go_sem, z1, z2, z3, z4]) rfl ⟨_, _, _, _, _, rfl, HM2.out, by omega, HC2.out, HF2.out⟩
  have t1 : (y == 1) = false := by rw [beq_eq_false_iff_ne]; exact h1
  go_wp2_with fail
  refine (pick_any hc4 (by omega) (by omega)).mono ?_
  rintro e wa ⟨a, rfl, ha, hca, fa⟩
  have f8 := (fW).trans fa
  have b28 := (b2).fr fa (by omega)
  clear hc4 fW b2 fa
  go_wp2_with fail
  refine (pick_any hca (by omega) (by omega)).mono ?_
  rintro e wb ⟨d, rfl, hd, hcb, fb⟩
  have f9 := f8.trans fb
  have b29 := b28.fr fb (by omega)
  have s9 := f9.size
  have l9 := b29.lt
  clear hca fb f8 b28
  obtain ⟨N, hN⟩ : ∃ N : Nat, (1 : Int) + a = N := ⟨(1 + a).toNat, by omega⟩
  obtain ⟨K, hK⟩ : ∃ K : Nat, (1 : Int) + d = K := ⟨(1 + d).toNat, by omega⟩
  have hN4 : 1 ≤ N ∧ N ≤ 4 := by omega
  have hK4 : 1 ≤ K ∧ K ≤ 4 := by omega
  go_wp2_with fail
  clear hN hK ha hd
  go_loopw [12] (fun i wr => ∃ (k : Nat) (v : Value) (ll : List (List QQ)), k ≤ N ∧ i = .int .i64 k ∧ Built wr (wb.heap.size + 1) v k ll wr.heap.size ∧ ll.length = k ∧ (∀ j, j < k → (ll.getD j []).length = K) ∧ B1 wr wb.heap.size v ∧ B1 wr w.heap.size (.slice none 0 0) ∧ Cur wr g (T + 20 + 8 * k) ∧ Fr g (g + 1) w wr ∧ wb.heap.size + 1 ≤ wr.heap.size) (fun i _ => N - (intOf i).toNat)
  case atStart => exact ⟨0, _, [], Nat.zero_le _, rfl, Built.nil_ _ _ _, rfl, fun j hj => absurd hj (by omega), B1.new' rfl, b29.keeps (keeps_alloc _ _), (hcb.keeps (keeps_alloc _ _)).mono (by omega), f9.keeps (keeps_alloc _ _), by simp⟩
  clear hcb f9 b29
  case round =>
    obtain ⟨k, v, ll, hk, rfl, bu, hll, hrl, b11, b2, hc, f, sr⟩ := hrel
    obtain ⟨A1, C1, rfl⟩ := bu.form
    obtain ⟨z1, z2⟩ := id b11
    by_cases hlt : k < N
    · have hi1 : (k : Int) < (N : Int) := by omega
      have hcD := hc.keeps (keeps_d0 wr)
      have buD := bu.keeps (keeps_d0 wr)
      have b2D := b2.keeps (keeps_d0 wr)
      have b11D := b11.keeps (keeps_d0 wr)
      have fD := f.keeps (keeps_d0 wr)
      have sD : wr.drew.heap.size = wr.heap.size := rfl
      have hT3 : T + 20 + 8 * (k : Int) ≤ 900000000000000 := by omega
      have hK3 : 1 ≤ K ∧ K ≤ 64 := by omega
      have hgB : g + 1 ≤ wb.heap.size + 1 := by omega
      have hgw : g < wb.heap.size := by omega
      clear hc bu b2 b11 f
      go_wp2_with fail
      go_region_law ((first | (refine step_dist (n := K) hcD hT3 hK3 rfl (by kernel_rfl) ?_; intro A5 c5 l5 wB hro hl5 hcB fB; have buB := (buD.fr fB hgB).snoc hll l5; have b2B := b2D.fr fB (.inr (by omega)); have b11B := b11D.fr fB (.inr (by omega)); have fBB := fD.trans fB; have sB := fB.size; have roB := (RowH.of_own hro (by omega) (by omega)).last hll; obtain ⟨y1, y2⟩ := id b11B; have y3 := (b11B.keeps (keeps_alloc wB (.cells #[.slice A5 K c5] 43))).1; clear fB) | (have q1 : k ≤ 67108864 := (by omega); refine step_append_row (ll := ll ++ [l5]) buB roB q1 sr _ _ rfl rfl rfl rfl ?_; intro v' w' bu5 kb5; have b11C := b11B.below kb5 (Nat.lt_succ_self _); obtain ⟨u1, u2⟩ := id b11C; have fm := bu5.form; obtain ⟨A6, C6, e6⟩ := fm; subst e6)))
      all_goals (
        have HW := hid ((Fr.refl wb.heap.size (wb.heap.size + 1) w').setCell (p := ⟨wb.heap.size, 0, none⟩) (Nat.le_refl _) (Nat.lt_succ_self _) (.slice A6 (k + 1) C6))
        have es := hid (show (w'.setCell ⟨wb.heap.size, 0, none⟩ (.slice A6 (k + 1) C6)).heap.size = w'.heap.size by simp [World.setCell])
        have BU := hid (bu5.fr HW.out (Nat.le_refl _))
        have B11 := hid (b11C.set (.slice A6 (k + 1) C6))
        have B2 := hid ((b2B.below kb5 (by omega)).fr HW.out (by omega))
        have HC := hid ((hcB.below kb5 (by omega)).fr HW.out (by omega))
        have HF := hid ((fBB.below kb5 (by omega)).setNew (p := ⟨wb.heap.size, 0, none⟩) (by show w.heap.size ≤ wb.heap.size; omega) (.slice A6 (k + 1) C6))
        have ks := kb5.size
        clear z1 z2 y1 y2 y3 u1 u2 hcD buD b2D b11D fD buB b2B b11B fBB roB hro hcB bu5 kb5 b11C
        go_wp2_with fail
        go_roundw
        case rel => exact ⟨k + 1, _, ll ++ [l5], by omega, by go_num, by rw [es.out]; exact BU.out, by simp [hll], rows_snoc hll hrl hl5, B11.out, B2.out, HC.out.mono (by omega), HF.out, by rw [es.out]; omega⟩
        case measure => simp [intOf]; omega)
    · obtain rfl : k = N := by omega
      obtain ⟨z3, z4⟩ := id b2
      have HW := hid ((Fr.refl w.heap.size (w.heap.size + 1) wr).setCell (p := ⟨w.heap.size, 0, none⟩) (Nat.le_refl _) (Nat.lt_succ_self _) (.slice A1 k C1))
      have HM : MF wr (wb.heap.size + 1) A1 k C1 ll := ⟨⟨_, bu⟩, hll, by omega, fun j hj => by have := hrl j hj; omega⟩
      have HM2 := hid (HM.fr HW.out (by omega))
      have HC2 := hid ((hc.fr HW.out (by omega)).mono (T' := T + 100) (by omega))
      have HF2 := hid (f.setNew (p := ⟨w.heap.size, 0, none⟩) (Nat.le_refl _) (.slice A1 k C1))
      clear bu HM hc f
      go_wp2_with fail
      exact bodyPost_ret (v := .agg #[.slice A1 k C1]) (by simp [results, Try.results177, go_sem, z1, z2, z3, z4]) rfl ⟨_, _, _, _, _, rfl, HM2.out, by omega, HC2.out, HF2.out⟩
end Go.Proofs.Ytnopedjgagoahaa
