/- IsAdditiveTree: of the reference and of the program; sums over children. -/
import Derived.Test.YtochlkebibkbiaaWerr
namespace Go.Proofs.Ytochlkebibkbiaa
open Go.RowKit
set_option linter.unusedVariables false
set_option linter.unusedSimpArgs false

/-- The first answer of the first k questions. -/
def firstQ {β : Type} (st : Nat → Option β) : Nat → Option β
  | 0 => none
  | k + 1 => match firstQ st k with
    | some r => some r
    | none => st k
theorem firstQ_next {β : Type} {st : Nat → Option β} {k : Nat} (h : firstQ st k = none) (e : st k = none) : firstQ st (k + 1) = none := by simp only [firstQ]; rw [h]; exact e
theorem firstQ_stay {β : Type} {st : Nat → Option β} {k n : Nat} {r : β} (h : firstQ st k = some r) (hk : k ≤ n) : firstQ st n = some r := by
  induction n with
  | zero => obtain rfl : k = 0 := by omega
            exact h
  | succ n ih =>
    by_cases e : k = n + 1
    · subst e; exact h
    · simp only [firstQ]; rw [ih (by omega)]
theorem firstQ_stop {β : Type} {st : Nat → Option β} {k n : Nat} {r : β} (h : firstQ st k = none) (e : st k = some r) (hk : k < n) : firstQ st n = some r :=
  firstQ_stay (k := k + 1) (by simp only [firstQ]; rw [h]; exact e) (by omega)
/-- One summand of a sum over indices. -/
def suSt (l : List (Int × Int)) (ks : List Int) (k : Nat) (a b : Int) : Int × Int × Bool :=
  mkF (a * (l.getD (ks.getD k 0).toNat (0, 0)).2 + (l.getD (ks.getD k 0).toNat (0, 0)).1 * b) (b * (l.getD (ks.getD k 0).toNat (0, 0)).2)
theorem suSt_fine (l : List (Int × Int)) (ks : List Int) (k : Nat) (a b : Int) : Fine (suSt l ks k a b) := Fine.mk _ _
theorem suSt_at {l : List (Int × Int)} {ks : List Int} {k j : Nat} {a b x y : Int} (hj : (j : Int) = ks.getD k 0) (hx : (x, y) = l.getD j (0, 0)) : suSt l ks k a b = mkF (a * y + x * b) (b * y) := by
  unfold suSt; rw [← hj]; simp only [Int.toNat_natCast]; rw [← hx]
def sumQ (l : List (Int × Int)) (ks : List Int) : Int × Int × Bool := accQ (suSt l ks) 0 1 ks.length
/-- What an area says: nothing; or the answer. -/
def atSt (z : List Int) (l : List (Int × Int)) (k : Nat) : Option (Bool × Bool) :=
  if (kids z k).length = 0 then none else if (sumQ l (kids z k)).2.2 = false then some (false, false)
  else if ((sumQ l (kids z k)).1, (sumQ l (kids z k)).2.1) = l.getD k (0, 0) then none else some (false, true)
theorem atSt_none {z : List Int} {l : List (Int × Int)} {k : Nat} (h : (kids z k).length = 0) : atSt z l k = none := if_pos h
theorem atSt_bad {z : List Int} {l : List (Int × Int)} {k : Nat} {a b : Int} (h : ¬ (kids z k).length = 0) (e : sumQ l (kids z k) = (a, b, false)) : atSt z l k = some (false, false) := by unfold atSt; rw [if_neg h, e]; simp
theorem atSt_eq {z : List Int} {l : List (Int × Int)} {k : Nat} {a b : Int} (h : ¬ (kids z k).length = 0) (e : sumQ l (kids z k) = (a, b, true)) (hx : (a, b) = l.getD k (0, 0)) : atSt z l k = none := by unfold atSt; rw [if_neg h, e, ← hx]; simp
theorem atSt_ne {z : List Int} {l : List (Int × Int)} {k : Nat} {a b x y : Int} (h : ¬ (kids z k).length = 0) (e : sumQ l (kids z k) = (a, b, true)) (hx : (x, y) = l.getD k (0, 0)) (hn : ¬ (a = x ∧ b = y)) : atSt z l k = some (false, true) := by
  unfold atSt; rw [if_neg h, e, ← hx]; simp [hn]
def atQ (z : List Int) (l : List (Int × Int)) : Bool × Bool := if gfB z l = true then (firstQ (atSt z l) l.length).getD (true, true) else (false, false)
theorem atQ_no {z : List Int} {l : List (Int × Int)} (h : gfB z l = false) : atQ z l = (false, false) := if_neg (by rw [h]; simp)
theorem atQ_yes {z : List Int} {l : List (Int × Int)} (h : gfB z l = true) : atQ z l = (firstQ (atSt z l) l.length).getD (true, true) := if_pos h
/-- All indices point into the list. -/
def Into (ks : List Int) (n : Nat) : Prop := ∀ m, m < ks.length → ∃ j : Nat, (j : Int) = ks.getD m 0 ∧ j < n
theorem kids_into (ps : List Int) (i : Int) {n : Nat} (h : ps.length = n) : Into (kids ps i) n := by
  intro m hm
  obtain ⟨j, h1, _, h2, _⟩ := kids_getD hm
  exact ⟨j, h1.symm, by omega⟩
theorem kids_len (ps : List Int) (i : Int) : (kids ps i).length ≤ ps.length := kidsTo_len _ _ _
theorem geoB_head {ps : List Int} (h : geoB ps = true) : ps.getD 0 0 = -1 := (geoB_true.1 h).2.1
theorem ret_bb {a b c d : Bool} (h1 : a = c) (h2 : b = d) : Ending.returned (.tuple #[.bool a, .bool b]) = .returned (.tuple #[.bool c, .bool d]) := by rw [h1, h2]

set_option maxRecDepth 100000 in
set_option maxHeartbeats 800000 in
theorem sumOf_any {A A' : Option Addr} {lo hi lo' hi' n m c c' : Nat} {l : List (Int × Int)} {ks : List Int} {w : World} (h : Fracs w lo hi A n l) (h' : Ints w lo' hi' A' m ks) (hq : l.all fracQ = true) (hin : Into ks n) :
    Calls Try.prog 76 #[.slice A n c, .slice A' m c'] w fun e w' => e = .returned (.tuple #[.agg #[.int .i64 (sumQ l ks).1, .int .i64 (sumQ l ks).2.1], .bool (sumQ l ks).2.2]) ∧ Keeps w w' := by
  have hn := h.le
  have hm := h'.le
  have hl := Fracs.len h
  have hl' := h'.1
  have HQ := hid hq
  have HI := hid hin
  clear hq hin
  have HF := hid (show sumQ l ks = accQ (suSt l ks) 0 1 m by unfold sumQ; rw [hl'])
  go_enter Try.func76, Try.ntmps76
  have kw := keeps_refl w
  replace kw := Keeps.trans kw (keeps_alloc w (.cells #[.int .i64 0, .int .i64 0] 26))
  have b4 : Bx (w.alloc (.cells #[.int .i64 0, .int .i64 0] 26)) w.heap.size 0 0 := Bx.new' (by simp)
  replace b4 := b4.keeps (keeps_alloc (w.alloc (.cells #[.int .i64 0, .int .i64 0] 26)) (.cells #[.int .i64 0, .int .i64 1] 26))
  replace kw := Keeps.trans kw (keeps_alloc (w.alloc (.cells #[.int .i64 0, .int .i64 0] 26)) (.cells #[.int .i64 0, .int .i64 1] 26))
  have b6 : Bx ((w.alloc (.cells #[.int .i64 0, .int .i64 0] 26)).alloc (.cells #[.int .i64 0, .int .i64 1] 26)) (w.heap.size + 1) 0 1 := Bx.new' (by simp)
  go_wp2_with fail
  go_loopw [14] (fun si wr => ∃ (k : Nat) (s1 : Int) (s2 : Int), k ≤ m ∧ si = .int .i64 k ∧ Hid (accQ (suSt l ks) 0 1 k = (s1, s2, true)) ∧ Hid (fracB s1 s2 = true) ∧ Bx wr w.heap.size 0 0 ∧ Bx wr (w.heap.size + 1) s1 s2 ∧ Keeps w wr) (fun si _ => m - (intOf si).toNat)
  case atStart => exact ⟨0, 0, 1, Nat.zero_le _, rfl, rfl, fracB_01, b4, b6, kw⟩
  clear kw b4 b6 
  case round =>
    obtain ⟨k, s1, s2, hk, rfl, HA, HB, b4, b6, kw⟩ := hrel
    have lt1 := b6.lt
    have sz2 := kw.size
    by_cases hlt : k < m
    · obtain ⟨b', off', i, rfl, _, hb', hv, hxi⟩ := (h'.keeps kw).at_ hlt
      obtain ⟨j, hj, hjn⟩ := HI.out k (by omega)
      obtain rfl : i = j := hxi.out.trans hj.symm
      have hkj := hid hj
      clear hj hxi
      obtain ⟨b, off, x, y, rfl, _, hb, hc, hd, hx⟩ := Fracs.at_ (h.keeps kw) hjn
      have fx := hid (frac_at HQ.out (by omega) hx.out)
      have hi1 : (k : Int) < (m : Int) := by omega
      have hi2 : (j : Int) < (n : Int) := by omega
      go_wp2_with fail
      clear hv
      obtain ⟨r1, r2, r3, H5⟩ : ∃ r1 r2 r3, Hid (mkF (s1 * y + x * s2) (s2 * y) = (r1, r2, r3)) := ⟨_, _, _, rfl⟩
      have HS := hid ((suSt_at (a := s1) (b := s2) hkj.out hx.out).trans H5.out)
      obtain ⟨ca4, cb4, -, -⟩ := id b6
      have kS := hid (show ∀ w', Keeps wr w' → (w'.cell? ⟨w.heap.size + 1, 0, none⟩ = some (.int .i64 s1) ∧ w'.cell? ⟨w.heap.size + 1, 1, none⟩ = some (.int .i64 s2) ∧ w'.cell? ⟨b, off + j * 2, none⟩ = some (.int .i64 x) ∧ w'.cell? ⟨b, off + j * 2 + 1, none⟩ = some (.int .i64 y)) from fun w' k => ⟨cell_keeps ca4 k, cell_keeps cb4 k, cell_keeps hc k, cell_keeps hd k⟩)
      go_cut [9, 10] (fun sd so wq => ∃ wy g, wy = wq ∧ sd = .pointer (some ⟨g, 0, none⟩) ∧ so = .bool r3 ∧ Bx wy g r1 r2 ∧ wr.heap.size ≤ g ∧ Keeps wr wy)
      case first =>
        go_region_held3 (fun w' => w'.cell? ⟨w.heap.size + 1, 0, none⟩ = some (.int .i64 s1) ∧ w'.cell? ⟨w.heap.size + 1, 1, none⟩ = some (.int .i64 s2) ∧ w'.cell? ⟨b, off + j * 2, none⟩ = some (.int .i64 x) ∧ w'.cell? ⟨b, off + j * 2 + 1, none⟩ = some (.int .i64 y)) (first | with_reducible exact kS.out _ (keeps_d0 wr) | with_reducible exact kS.out _ (keeps_ad0 wr _) | with_reducible exact kS.out _ (kW) | with_reducible exact kS.out _ (kW.trans (keeps_alloc _ _)) | with_reducible exact kS.out _ (below_set2 kW (p := wr.heap.size) (Nat.le_refl _) _ _) | go_keep)
          ((first | (go_at_call 65; refine (AddFrac_any HB.out fx.out).mono ?_; rintro e wB ⟨rfl, kB⟩; rw [H5.out]; (first | (have kZ : Bx wB wr.heap.size 0 0 := Bx.kZ1 kB rfl; obtain ⟨z1, z2, z3, z4⟩ := id kZ) | (have kZ : Bx wB wr.heap.size 0 0 := Bx.kZ2 kB rfl; obtain ⟨z1, z2, z3, z4⟩ := id kZ) | (have kZ := kZ.keeps kB; obtain ⟨z1, z2, z3, z4⟩ := id kZ) | skip); (first | (have kW : Keeps wr wB := kW.trans kB) | (have kW : Keeps wr wB := (kW.trans (keeps_alloc _ _)).trans kB) | (have kW : Keeps wr wB := keeps_d kB) | (have kW : Keeps wr wB := keeps_ad kB)); clear kB)))
        all_goals (go_wp2_with fail; go_meet; first
          | exact ⟨_, _, rfl, rfl, rfl, Bx.new _ _ _ _, kW.size, kW.trans (keeps_alloc _ _)⟩
          | exact ⟨_, _, rfl, rfl, rfl, Bx.set (x := 0) (y := 0) kZ _ _, (Nat.le_refl _), below_set2 kW (p := wr.heap.size) (Nat.le_refl _) _ _⟩)
      case rest =>
        clear kS
        clear ca4 cb4
        obtain ⟨wx3, g3, rfl, rfl, rfl, b9, lg3, kx3⟩ := hcut
        replace b4 := b4.keeps kx3
        replace b6 := b6.keeps kx3
        replace kw := Keeps.trans kw kx3
        clear kx3
        have lt6 := b9.lt
        have sz7 := kw.size
        cases r3
        · have HE := hid (accQ_fail HA.out (show suSt l ks k s1 s2 = (0, 0, false) from (suSt_fine _ _ _ _ _).bad HS.out) hlt)
          replace HF := hid (HF.out.trans HE.out)
          obtain ⟨ca8, cb8, fa8, fb8⟩ := id b4
          go_wp2_with fail
          clear ca8 cb8 fa8 fb8
          obtain ⟨ca0, cb0, fa0, fb0⟩ := id b4
          refine bodyPost_ret (v := .tuple #[.agg #[.int .i64 0, .int .i64 0], .bool false]) (by simp [results, Try.results76, go_sem, ca0, cb0]) rfl ⟨ret_fb (by rw [HF.out]) (by rw [HF.out]) (by rw [HF.out]), ?_⟩
          exact below_set2 kw (p := w.heap.size) (by omega) _ _
        · have fr := hid ((suSt_fine _ _ _ _ _).ok HS.out)
          obtain ⟨ca8, cb8, fa8, fb8⟩ := id b9
          obtain ⟨ca9, cb9, fa9, fb9⟩ := id b6
          replace b4 := b4.set2 (p := (w.heap.size + 1)) (by omega) (.int .i64 r1) (.int .i64 r2)
          replace b9 := b9.set2 (p := (w.heap.size + 1)) (by omega) (.int .i64 r1) (.int .i64 r2)
          replace b6 := b6.set r1 r2
          replace kw := below_set2 kw (p := (w.heap.size + 1)) (by omega) (.int .i64 r1) (.int .i64 r2)
          go_wp2_with fail
          clear ca8 cb8 fa8 fb8 ca9 cb9 fa9 fb9
          go_roundw
          case rel => exact ⟨k + 1, r1, r2, (by omega), (by go_num), accQ_next HA.out HS.out, fr.out, b4, b6, kw⟩
          case measure => simp [intOf]; omega
    · obtain rfl : k = m := by omega
      replace HF := hid (HF.out.trans HA.out)
      obtain ⟨ca3, cb3, fa3, fb3⟩ := id b4
      obtain ⟨ca4, cb4, fa4, fb4⟩ := id b6
      go_wp2_with fail
      clear ca3 cb3 fa3 fb3 ca4 cb4 fa4 fb4
      obtain ⟨ca0, cb0, fa0, fb0⟩ := id b4
      refine bodyPost_ret (v := .tuple #[.agg #[.int .i64 s1, .int .i64 s2], .bool true]) (by simp [results, Try.results76, go_sem, ca0, cb0]) rfl ⟨ret_fb (by rw [HF.out]) (by rw [HF.out]) (by rw [HF.out]), ?_⟩
      exact below_set2 kw (p := w.heap.size) (by omega) _ _
set_option maxRecDepth 100000 in
set_option maxHeartbeats 1600000 in
theorem implIsAdditiveTree_any {A A' : Option Addr} {lo hi lo' hi' n m c c' : Nat} {l : List (Int × Int)} {z : List Int} {w : World} (h' : Ints w lo' hi' A' m z) (h : Fracs w lo hi A n l) :
    Calls Try.prog 31 #[.agg #[.slice A' m c'], .slice A n c] w fun e w' => e = .returned (.tuple #[.bool (atQ z l).1, .bool (atQ z l).2]) ∧ Keeps w w' := by
  have hn := h.le
  have hm := h'.le
  have hl := Fracs.len h
  have hl' := h'.1
  go_enter Try.func31, Try.ntmps31
  have kw := keeps_refl w
  replace kw := Keeps.trans kw (keeps_alloc w (.cells #[.slice A' m c'] 46))
  have b2 : B1 (w.alloc (.cells #[.slice A' m c'] 46)) w.heap.size (.slice A' m c') := B1.new' (by simp)
  obtain ⟨ca1, fa1⟩ := id b2
  go_wp2_with fail
  clear ca1 fa1
  obtain ⟨pH1, H1⟩ : ∃ p, Hid (geoB z = p) := ⟨_, rfl⟩
  refine (IsGeo_any (h'.keeps kw)).mono ?_
  rintro e w2 ⟨rfl, k2⟩
  rw [H1.out]
  replace b2 := b2.keeps k2
  replace kw := Keeps.trans kw k2
  have lt3 := b2.lt
  have sz4 := kw.size
  clear k2
  cases pH1
  · have HF := hid (atQ_no (z := z) (l := l) (gfB_no (by rw [H1.out]; simp)))
    obtain ⟨ca5, fa5⟩ := id b2
    go_wp2_with fail
    clear ca5 fa5
    go_ret2
    exact ⟨ret_bb (by rw [HF.out]) (by rw [HF.out]), kw⟩
  · skip
    by_cases hmn : n = m
    rotate_left
    · have t1 : ((n : Int) != (m : Int)) = true := by rw [bne_iff_ne]; omega
      have HF := hid (atQ_no (z := z) (l := l) (gfB_no (by rw [hl, hl']; simp [hmn])))
      obtain ⟨ca5, fa5⟩ := id b2
      go_wp2_with fail
      clear ca5 fa5
      go_ret2
      exact ⟨ret_bb (by rw [HF.out]) (by rw [HF.out]), kw⟩
    obtain rfl : n = m := hmn
    have t1 : ((n : Int) != (n : Int)) = false := by simp
    obtain ⟨ca5, fa5⟩ := id b2
    go_wp2_with fail
    clear ca5 fa5
    obtain ⟨pH2, H2⟩ : ∃ p, Hid (l.all fracQ = p) := ⟨_, rfl⟩
    refine (areFracs_any (h.keeps kw)).mono ?_
    rintro e w6 ⟨rfl, k6⟩
    rw [H2.out]
    replace b2 := b2.keeps k6
    replace kw := Keeps.trans kw k6
    have lt7 := b2.lt
    have sz8 := kw.size
    clear k6
    cases pH2
    · have HF := hid (atQ_no (z := z) (l := l) (gfB_no (by rw [H2.out]; simp)))
      obtain ⟨ca9, fa9⟩ := id b2
      go_wp2_with fail
      clear ca9 fa9
      go_ret2
      exact ⟨ret_bb (by rw [HF.out]) (by rw [HF.out]), kw⟩
    · skip
      have HF := hid (atQ_yes (z := z) (l := l) (gfB_true.2 ⟨H1.out, by rw [hl, hl'], H2.out⟩))
      rw [hl] at HF
      go_wp2_with fail
      go_loopw [29] (fun si wr => ∃ (k : Nat), k ≤ n ∧ si = .int .i64 k ∧ Hid (firstQ (atSt z l) k = none) ∧ B1 wr w.heap.size (.slice A' n c') ∧ Keeps w wr) (fun si _ => n - (intOf si).toNat)
      case atStart => exact ⟨0, Nat.zero_le _, rfl, rfl, b2, kw⟩
      clear kw b2 
      case round =>
        obtain ⟨k, hk, rfl, HA, b2, kw⟩ := hrel
        have lt9 := b2.lt
        have sz10 := kw.size
        by_cases hlt : k < n
        · obtain ⟨b, off, x, y, rfl, _, hb, hc, hd, hx⟩ := Fracs.at_ (h.keeps kw) hlt
          have hi1 : (k : Int) < (n : Int) := by omega
          obtain ⟨ca11, fa11⟩ := id b2
          replace b2 := b2.keeps (keeps_alloc wr (.cells #[.int .i64 x, .int .i64 y] 26))
          replace kw := Keeps.trans kw (keeps_alloc wr (.cells #[.int .i64 x, .int .i64 y] 26))
          have b7 : Bx (wr.alloc (.cells #[.int .i64 x, .int .i64 y] 26)) wr.heap.size x y := Bx.new' (by simp)
          obtain ⟨ca12, fa12⟩ := id b2
          go_wp2_with fail
          clear ca11 fa11 ca12 fa12
          obtain ⟨ks, HK⟩ : ∃ ks, Hid (kids z k = ks) := ⟨_, rfl⟩
          have HI := hid (kids_into z k (n := n) (by omega))
          have hkl := kids_len z k
          rw [HK.out] at HI hkl
          refine (childrenOf_any (h'.keeps kw) (geoB_head H1.out) (by omega)).mono ?_
          rintro e w13 ⟨A9, c9, rfl, m9, k13⟩
          replace b2 := b2.keeps k13
          replace b7 := b7.keeps k13
          replace kw := Keeps.trans kw k13
          have lt14 := b7.lt
          have sz15 := kw.size
          clear k13
          rw [HK.out]
          rw [HK.out] at m9
          by_cases hz : ks.length = 0
          · have HN := hid (firstQ_next HA.out (atSt_none (l := l) (by rw [HK.out]; exact hz)))
            rw [hz]
            have t2 : (((0 : Nat) : Int) == 0) = true := by decide
            clear hz
            go_wp2_with fail
            go_roundw
            case rel => exact ⟨k + 1, (by omega), (by go_num), HN.out, b2, kw⟩
            case measure => simp [intOf]; omega
          · have t2 : ((ks.length : Int) == 0) = false := by rw [beq_eq_false_iff_ne]; omega
            have HZ := hid (show ¬ (kids z k).length = 0 by rw [HK.out]; exact hz)
            go_wp2_with fail
            obtain ⟨r1, r2, r3, HS⟩ : ∃ r1 r2 r3, Hid (sumQ l ks = (r1, r2, r3)) := ⟨_, _, _, rfl⟩
            refine (sumOf_any (h.keeps kw) m9.1 H2.out HI.out).mono ?_
            rintro e w16 ⟨rfl, k16⟩
            rw [HS.out]
            replace b2 := b2.keeps k16
            replace b7 := b7.keeps k16
            replace m9 := m9.keeps k16
            replace kw := Keeps.trans kw k16
            have lt17 := b7.lt
            have sz18 := kw.size
            clear k16
            rw [← HK.out] at HS
            cases r3
            · have HE := hid (firstQ_stop HA.out (atSt_bad HZ.out HS.out) hlt)
              rw [HE.out] at HF
              replace b2 := b2.keeps (keeps_alloc w16 (.cells #[.int .i64 r1, .int .i64 r2] 26))
              replace b7 := b7.keeps (keeps_alloc w16 (.cells #[.int .i64 r1, .int .i64 r2] 26))
              replace m9 := m9.keeps (keeps_alloc w16 (.cells #[.int .i64 r1, .int .i64 r2] 26))
              replace kw := Keeps.trans kw (keeps_alloc w16 (.cells #[.int .i64 r1, .int .i64 r2] 26))
              have b9 : Bx (w16.alloc (.cells #[.int .i64 r1, .int .i64 r2] 26)) w16.heap.size r1 r2 := Bx.new' (by simp)
              go_wp2_with fail
              go_ret2
              exact ⟨ret_bb (by rw [HF.out]; rfl) (by rw [HF.out]; rfl), kw⟩
            · by_cases hx1 : r1 = x
              rotate_left
              · have HE := hid (firstQ_stop HA.out (atSt_ne HZ.out HS.out hx.out (by omega)) hlt)
                rw [HE.out] at HF
                have t3 : (r1 == x) = false := by rw [beq_eq_false_iff_ne]; assumption
                obtain ⟨ca19, cb19, fa19, fb19⟩ := id b7
                replace b2 := b2.keeps (keeps_alloc w16 (.cells #[.int .i64 r1, .int .i64 r2] 26))
                replace b7 := b7.keeps (keeps_alloc w16 (.cells #[.int .i64 r1, .int .i64 r2] 26))
                replace m9 := m9.keeps (keeps_alloc w16 (.cells #[.int .i64 r1, .int .i64 r2] 26))
                replace kw := Keeps.trans kw (keeps_alloc w16 (.cells #[.int .i64 r1, .int .i64 r2] 26))
                have b9 : Bx (w16.alloc (.cells #[.int .i64 r1, .int .i64 r2] 26)) w16.heap.size r1 r2 := Bx.new' (by simp)
                obtain ⟨ca20, cb20, fa20, fb20⟩ := id b7
                obtain ⟨ca21, cb21, fa21, fb21⟩ := id b9
                go_wp2_with fail
                clear ca19 cb19 fa19 fb19 ca20 cb20 fa20 fb20 ca21 cb21 fa21 fb21
                go_ret2
                exact ⟨ret_bb (by rw [HF.out]; rfl) (by rw [HF.out]; rfl), kw⟩
              subst hx1
              by_cases hx2 : r2 = y
              rotate_left
              · have HE := hid (firstQ_stop HA.out (atSt_ne HZ.out HS.out hx.out (by omega)) hlt)
                rw [HE.out] at HF
                have t3 : (r2 == y) = false := by rw [beq_eq_false_iff_ne]; assumption
                obtain ⟨ca19, cb19, fa19, fb19⟩ := id b7
                replace b2 := b2.keeps (keeps_alloc w16 (.cells #[.int .i64 r1, .int .i64 r2] 26))
                replace b7 := b7.keeps (keeps_alloc w16 (.cells #[.int .i64 r1, .int .i64 r2] 26))
                replace m9 := m9.keeps (keeps_alloc w16 (.cells #[.int .i64 r1, .int .i64 r2] 26))
                replace kw := Keeps.trans kw (keeps_alloc w16 (.cells #[.int .i64 r1, .int .i64 r2] 26))
                have b9 : Bx (w16.alloc (.cells #[.int .i64 r1, .int .i64 r2] 26)) w16.heap.size r1 r2 := Bx.new' (by simp)
                obtain ⟨ca20, cb20, fa20, fb20⟩ := id b7
                obtain ⟨ca21, cb21, fa21, fb21⟩ := id b9
                go_wp2_with fail
                clear ca19 cb19 fa19 fb19 ca20 cb20 fa20 fb20 ca21 cb21 fa21 fb21
                go_ret2
                exact ⟨ret_bb (by rw [HF.out]; rfl) (by rw [HF.out]; rfl), kw⟩
              subst hx2
              have HN := hid (firstQ_next HA.out (atSt_eq HZ.out HS.out hx.out))
              obtain ⟨ca19, cb19, fa19, fb19⟩ := id b7
              replace b2 := b2.keeps (keeps_alloc w16 (.cells #[.int .i64 r1, .int .i64 r2] 26))
              replace b7 := b7.keeps (keeps_alloc w16 (.cells #[.int .i64 r1, .int .i64 r2] 26))
              replace m9 := m9.keeps (keeps_alloc w16 (.cells #[.int .i64 r1, .int .i64 r2] 26))
              replace kw := Keeps.trans kw (keeps_alloc w16 (.cells #[.int .i64 r1, .int .i64 r2] 26))
              have b9 : Bx (w16.alloc (.cells #[.int .i64 r1, .int .i64 r2] 26)) w16.heap.size r1 r2 := Bx.new' (by simp)
              obtain ⟨ca20, cb20, fa20, fb20⟩ := id b7
              obtain ⟨ca21, cb21, fa21, fb21⟩ := id b9
              go_wp2_with fail
              clear ca19 cb19 fa19 fb19 ca20 cb20 fa20 fb20 ca21 cb21 fa21 fb21
              go_roundw
              case rel => exact ⟨k + 1, (by omega), (by go_num), HN.out, b2, kw⟩
              case measure => simp [intOf]; omega
        · obtain rfl : k = n := by omega
          rw [HA.out] at HF
          go_wp2_with fail
          go_ret2
          exact ⟨ret_bb (by rw [HF.out]; rfl) (by rw [HF.out]; rfl), kw⟩
set_option maxRecDepth 100000 in
set_option maxHeartbeats 1600000 in
theorem specIsAdditiveTree_any {A A' : Option Addr} {lo hi lo' hi' n m c c' : Nat} {l : List (Int × Int)} {z : List Int} {w : World} (h' : Ints w lo' hi' A' m z) (h : Fracs w lo hi A n l) :
    Calls Try.prog 29 #[.agg #[.slice A' m c'], .slice A n c] w fun e w' => e = .returned (.tuple #[.bool (atQ z l).1, .bool (atQ z l).2]) ∧ Keeps w w' := by
  have hn := h.le
  have hm := h'.le
  have hl := Fracs.len h
  have hl' := h'.1
  go_enter Try.func29, Try.ntmps29
  have kw := keeps_refl w
  replace kw := Keeps.trans kw (keeps_alloc w (.cells #[.slice A' m c'] 46))
  have b2 : B1 (w.alloc (.cells #[.slice A' m c'] 46)) w.heap.size (.slice A' m c') := B1.new' (by simp)
  obtain ⟨ca1, fa1⟩ := id b2
  go_wp2_with fail
  clear ca1 fa1
  obtain ⟨pH2, H2⟩ : ∃ p, Hid (gfB z l = p) := ⟨_, rfl⟩
  refine (wFracs_any (h.keeps kw) (h'.keeps kw)).mono ?_
  rintro e w2 ⟨rfl, k2⟩
  rw [H2.out]
  replace b2 := b2.keeps k2
  replace kw := Keeps.trans kw k2
  have lt3 := b2.lt
  have sz4 := kw.size
  clear k2
  cases pH2
  · have HF := hid (atQ_no (z := z) (l := l) (H2.out))
    obtain ⟨ca5, fa5⟩ := id b2
    go_wp2_with fail
    clear ca5 fa5
    go_ret2
    exact ⟨ret_bb (by rw [HF.out]) (by rw [HF.out]), kw⟩
  · skip
    have H2' := hid (gfB_true.1 H2.out)
    have hnm : n = m := by have := H2'.out.2.1; omega
    obtain rfl : n = m := hnm
    have HF := hid (atQ_yes (z := z) (l := l) H2.out)
    rw [hl] at HF
    go_wp2_with fail
    go_loopw [19] (fun si wr => ∃ (k : Nat), k ≤ n ∧ si = .int .i64 k ∧ Hid (firstQ (atSt z l) k = none) ∧ B1 wr w.heap.size (.slice A' n c') ∧ Keeps w wr) (fun si _ => n - (intOf si).toNat)
    case atStart => exact ⟨0, Nat.zero_le _, rfl, rfl, b2, kw⟩
    clear kw b2 
    case round =>
      obtain ⟨k, hk, rfl, HA, b2, kw⟩ := hrel
      have lt5 := b2.lt
      have sz6 := kw.size
      by_cases hlt : k < n
      · have hi1 : (k : Int) < (n : Int) := by omega
        obtain ⟨ca7, fa7⟩ := id b2
        go_wp2_with fail
        clear ca7 fa7
        obtain ⟨ks, HK⟩ : ∃ ks, Hid (kids z k = ks) := ⟨_, rfl⟩
        have HI := hid (kids_into z k (n := n) (by omega))
        have hkl := kids_len z k
        rw [HK.out] at HI hkl
        refine (gChildren_any (h'.keeps kw) (geoB_head H2'.out.1) (by omega)).mono ?_
        rintro e w8 ⟨A9, c9, rfl, m9, k8⟩
        replace b2 := b2.keeps k8
        replace kw := Keeps.trans kw k8
        have lt9 := b2.lt
        have sz10 := kw.size
        clear k8
        rw [HK.out]
        rw [HK.out] at m9
        have ka := keeps_refl w8
        by_cases hz : ks.length = 0
        · have HN := hid (firstQ_next HA.out (atSt_none (l := l) (by rw [HK.out]; exact hz)))
          rw [hz]
          have t2 : (((0 : Nat) : Int) == 0) = true := by decide
          clear hz
          go_wp2_with fail
          go_roundw
          case rel => exact ⟨k + 1, (by omega), (by go_num), HN.out, b2, kw⟩
          case measure => simp [intOf]; omega
        · have t2 : ((ks.length : Int) == 0) = false := by rw [beq_eq_false_iff_ne]; omega
          have HZ := hid (show ¬ (kids z k).length = 0 by rw [HK.out]; exact hz)
          go_wp2_with fail
          refine (fInt_any).mono ?_
          rintro e w11 ⟨rfl, k11⟩
          replace b2 := b2.keeps k11
          replace kw := Keeps.trans kw k11
          replace ka := Keeps.trans ka k11
          have lt12 := b2.lt
          have sz13 := kw.size
          have sz14 := ka.size
          clear k11
          obtain ⟨m', hm'⟩ : ∃ m', m' = ks.length := ⟨_, rfl⟩
          rw [← hm'] at m9 t2 hz
          rw [← hm']
          have HM := hid hm'
          clear hm'
          have hmle := m9.1.le
          replace b2 := b2.keeps (keeps_alloc w11 (.cells #[.int .i64 0, .int .i64 1] 26))
          replace kw := Keeps.trans kw (keeps_alloc w11 (.cells #[.int .i64 0, .int .i64 1] 26))
          replace ka := Keeps.trans ka (keeps_alloc w11 (.cells #[.int .i64 0, .int .i64 1] 26))
          have b8 : Bx (w11.alloc (.cells #[.int .i64 0, .int .i64 1] 26)) w11.heap.size 0 1 := Bx.new' (by simp)
          go_wp2_with fail
          go_loopw [31] (fun si wv => ∃ (q : Nat) (s1 : Int) (s2 : Int), q ≤ m' ∧ si = .int .i64 q ∧ Hid (accQ (suSt l ks) 0 1 q = (s1, s2, true)) ∧ Hid (fracB s1 s2 = true) ∧ B1 wv w.heap.size (.slice A' n c') ∧ Bx wv w11.heap.size s1 s2 ∧ Keeps w wv ∧ Keeps w8 wv) (fun si _ => m' - (intOf si).toNat)
          case atStart => exact ⟨0, 0, 1, Nat.zero_le _, rfl, rfl, fracB_01, b2, b8, kw, ka⟩
          clear kw ka b2 b8 
          case round =>
            obtain ⟨q, s1, s2, hq, rfl, HA2, HB, b2, b8, kw, ka⟩ := hrel
            have lt15 := b8.lt
            have sz16 := kw.size
            have sz17 := ka.size
            by_cases hlq : q < m'
            · obtain ⟨b', off', i, rfl, _, hb', hv, hxi⟩ := (m9.1.keeps ka).at_ hlq
              obtain ⟨j, hj, hjn⟩ := HI.out q (by have := HM.out; omega)
              obtain rfl : i = j := hxi.out.trans hj.symm
              have hkj := hid hj
              clear hj hxi
              obtain ⟨b, off, x, y, rfl, _, hb, hc, hd, hx⟩ := Fracs.at_ (h.keeps kw) hjn
              have fx := hid (frac_at H2'.out.2.2 (by omega) hx.out)
              have hi2 : (q : Int) < (m' : Int) := by omega
              have hi3 : (j : Int) < (n : Int) := by omega
              go_wp2_with fail
              clear hv
              obtain ⟨r1, r2, r3, H5⟩ : ∃ r1 r2 r3, Hid (mkF (s1 * y + x * s2) (s2 * y) = (r1, r2, r3)) := ⟨_, _, _, rfl⟩
              have HS := hid ((suSt_at (a := s1) (b := s2) hkj.out hx.out).trans H5.out)
              obtain ⟨ca19, cb19, -, -⟩ := id b8
              have kS := hid (show ∀ w', Keeps wr w' → (w'.cell? ⟨w11.heap.size, 0, none⟩ = some (.int .i64 s1) ∧ w'.cell? ⟨w11.heap.size, 1, none⟩ = some (.int .i64 s2) ∧ w'.cell? ⟨b, off + j * 2, none⟩ = some (.int .i64 x) ∧ w'.cell? ⟨b, off + j * 2 + 1, none⟩ = some (.int .i64 y)) from fun w' k => ⟨cell_keeps ca19 k, cell_keeps cb19 k, cell_keeps hc k, cell_keeps hd k⟩)
              go_cut [11, 12] (fun sd so wq => ∃ wy g, wy = wq ∧ sd = .pointer (some ⟨g, 0, none⟩) ∧ so = .bool r3 ∧ Bx wy g r1 r2 ∧ wr.heap.size ≤ g ∧ Keeps wr wy)
              case first =>
                go_region_held3 (fun w' => w'.cell? ⟨w11.heap.size, 0, none⟩ = some (.int .i64 s1) ∧ w'.cell? ⟨w11.heap.size, 1, none⟩ = some (.int .i64 s2) ∧ w'.cell? ⟨b, off + j * 2, none⟩ = some (.int .i64 x) ∧ w'.cell? ⟨b, off + j * 2 + 1, none⟩ = some (.int .i64 y)) (first | with_reducible exact kS.out _ (keeps_d0 wr) | with_reducible exact kS.out _ (keeps_ad0 wr _) | with_reducible exact kS.out _ (kW) | with_reducible exact kS.out _ (kW.trans (keeps_alloc _ _)) | with_reducible exact kS.out _ (below_set2 kW (p := wr.heap.size) (Nat.le_refl _) _ _) | go_keep)
                  ((first | (go_at_call 72; refine (fAdd_any (fracB_qb HB.out) (fracB_qb fx.out)).mono ?_; rintro e wB ⟨rfl, kB⟩; rw [H5.out]; (first | (have kZ : Bx wB wr.heap.size 0 0 := Bx.kZ1 kB rfl; obtain ⟨z1, z2, z3, z4⟩ := id kZ) | (have kZ : Bx wB wr.heap.size 0 0 := Bx.kZ2 kB rfl; obtain ⟨z1, z2, z3, z4⟩ := id kZ) | (have kZ := kZ.keeps kB; obtain ⟨z1, z2, z3, z4⟩ := id kZ) | skip); (first | (have kW : Keeps wr wB := kW.trans kB) | (have kW : Keeps wr wB := (kW.trans (keeps_alloc _ _)).trans kB) | (have kW : Keeps wr wB := keeps_d kB) | (have kW : Keeps wr wB := keeps_ad kB)); clear kB)))
                all_goals (go_wp2_with fail; go_meet; first
                  | exact ⟨_, _, rfl, rfl, rfl, Bx.new _ _ _ _, kW.size, kW.trans (keeps_alloc _ _)⟩
                  | exact ⟨_, _, rfl, rfl, rfl, Bx.set (x := 0) (y := 0) kZ _ _, (Nat.le_refl _), below_set2 kW (p := wr.heap.size) (Nat.le_refl _) _ _⟩)
              case rest =>
                clear kS
                clear ca19 cb19
                obtain ⟨wx18, g18, rfl, rfl, rfl, b11, lg18, kx18⟩ := hcut
                replace b2 := b2.keeps kx18
                replace b8 := b8.keeps kx18
                replace kw := Keeps.trans kw kx18
                replace ka := Keeps.trans ka kx18
                clear kx18
                have lt21 := b11.lt
                have sz22 := kw.size
                have sz23 := ka.size
                cases r3
                · have HS2 := hid (show sumQ l (kids z k) = (0, 0, false) by rw [HK.out]; unfold sumQ; rw [← HM.out]; exact accQ_fail HA2.out (show suSt l ks q s1 s2 = (0, 0, false) from (suSt_fine _ _ _ _ _).bad HS.out) hlq)
                  have HE := hid (firstQ_stop HA.out (atSt_bad HZ.out HS2.out) hlt)
                  rw [HE.out] at HF
                  go_wp2_with fail
                  go_ret2
                  exact ⟨ret_bb (by rw [HF.out]; rfl) (by rw [HF.out]; rfl), kw⟩
                · have fr := hid ((suSt_fine _ _ _ _ _).ok HS.out)
                  obtain ⟨ca24, cb24, fa24, fb24⟩ := id b11
                  obtain ⟨ca25, cb25, fa25, fb25⟩ := id b8
                  replace b2 := b2.set2 (p := w11.heap.size) (by omega) (.int .i64 r1) (.int .i64 r2)
                  replace b11 := b11.set2 (p := w11.heap.size) (by omega) (.int .i64 r1) (.int .i64 r2)
                  replace b8 := b8.set r1 r2
                  replace kw := below_set2 kw (p := w11.heap.size) (by omega) (.int .i64 r1) (.int .i64 r2)
                  replace ka := below_set2 ka (p := w11.heap.size) (by omega) (.int .i64 r1) (.int .i64 r2)
                  go_wp2_with fail
                  clear ca24 cb24 fa24 fb24 ca25 cb25 fa25 fb25
                  go_roundw
                  case rel => exact ⟨q + 1, r1, r2, (by omega), (by go_num), accQ_next HA2.out HS.out, fr.out, b2, b8, kw, ka⟩
                  case measure => simp [intOf]; omega
            · obtain rfl : q = m' := by omega
              have HS := hid (show sumQ l (kids z k) = (s1, s2, true) by rw [HK.out]; unfold sumQ; rw [← HM.out]; exact HA2.out)
              obtain ⟨b, off, x, y, rfl, _, hb, hc, hd, hx⟩ := Fracs.at_ (h.keeps kw) hlt
              by_cases hx1 : s1 = x
              rotate_left
              · have HE := hid (firstQ_stop HA.out (atSt_ne HZ.out HS.out hx.out (by omega)) hlt)
                rw [HE.out] at HF
                have t3 : (s1 == x) = false := by rw [beq_eq_false_iff_ne]; assumption
                obtain ⟨ca18, cb18, fa18, fb18⟩ := id b8
                go_wp2_with fail
                go_quiet (fail)
                go_wp2_with fail
                clear ca18 cb18 fa18 fb18
                replace kw := Keeps.trans kw (Keeps.drewN wr nq)
                go_ret2
                exact ⟨ret_bb (by rw [HF.out]; rfl) (by rw [HF.out]; rfl), kw⟩
              subst hx1
              by_cases hx2 : s2 = y
              rotate_left
              · have HE := hid (firstQ_stop HA.out (atSt_ne HZ.out HS.out hx.out (by omega)) hlt)
                rw [HE.out] at HF
                have t3 : (s2 == y) = false := by rw [beq_eq_false_iff_ne]; assumption
                obtain ⟨ca18, cb18, fa18, fb18⟩ := id b8
                go_wp2_with fail
                go_quiet (fail)
                go_wp2_with fail
                clear ca18 cb18 fa18 fb18
                replace kw := Keeps.trans kw (Keeps.drewN wr nq)
                go_ret2
                exact ⟨ret_bb (by rw [HF.out]; rfl) (by rw [HF.out]; rfl), kw⟩
              subst hx2
              have HN := hid (firstQ_next HA.out (atSt_eq HZ.out HS.out hx.out))
              obtain ⟨ca18, cb18, fa18, fb18⟩ := id b8
              go_wp2_with fail
              go_quiet (fail)
              go_wp2_with fail
              clear ca18 cb18 fa18 fb18
              replace kw := Keeps.trans kw (Keeps.drewN wr nq)
              replace b2 := b2.keeps (Keeps.drewN wr nq)
              go_roundw
              case rel => exact ⟨k + 1, (by omega), (by go_num), HN.out, b2, kw⟩
              case measure => simp [intOf]; omega
      · obtain rfl : k = n := by omega
        rw [HA.out] at HF
        go_wp2_with fail
        go_ret2
        exact ⟨ret_bb (by rw [HF.out]; rfl) (by rw [HF.out]; rfl), kw⟩
set_option maxRecDepth 100000 in
set_option maxHeartbeats 1600000 in
theorem FnExactIsAdditiveTree_law (A0 : Option Addr) (n0 c0 : Nat) (z0 : List Int) (A1 : Option Addr) (n1 c1 : Nat) (z1 : List (Int × Int)) (w : World) (wa0 : IntsArg w A0 n0 z0) (wa1 : FracsArg w A1 n1 z1) :
    Calls Try.prog 5 #[.agg #[.slice A0 n0 c0], .slice A1 n1 c1] w fun e w' => e = .returned (.bool true) ∧ Below w.heap.size w w' := by
  go_enter Try.func5, Try.ntmps5
  have kw := keeps_refl w
  replace kw := Keeps.trans kw (keeps_alloc w (.cells #[.slice A0 n0 c0] 42))
  have p0 : B1 (w.alloc (.cells #[.slice A0 n0 c0] 42)) w.heap.size (.slice A0 n0 c0) := B1.new' (by simp)
  obtain ⟨ca1, fa1⟩ := id p0
  go_wp2_with fail
  clear ca1 fa1
  by_cases hs0 : (n0 : Int) ≤ 1048576
  rotate_left
  · have hm0 := wa0.1
    refine (szGeo_no _ _ _ (1048576) _ hm0 (by omega) (by omega) (by omega)).mono ?_
    rintro e w2 ⟨rfl, k2⟩
    have ss3 := k2.size
    simp at ss3
    replace p0 := p0.keeps k2
    replace kw := Keeps.trans kw k2
    have lt4 := p0.lt
    have sz5 := kw.size
    clear k2
    go_wp2_with fail
    go_ret
    exact ⟨rfl, kw⟩
  have h0 := wa0.ints (by omega)
  refine (szGeo_ok _ _ _ (1048576) _ (by omega) (by omega)).mono ?_
  rintro e w2 ⟨rfl, k2⟩
  have ss3 := k2.size
  simp at ss3
  replace p0 := p0.keeps k2
  replace kw := Keeps.trans kw k2
  have lt4 := p0.lt
  have sz5 := kw.size
  clear k2
  have tz0 : ¬ (1048576 - (n0 : Int) < 0) := by omega
  obtain ⟨ca6, fa6⟩ := id p0
  go_wp2_with fail
  clear ca6 fa6
  by_cases hs1 : (n1 : Int) ≤ 1048576 - (n0 : Int)
  rotate_left
  · have hm1 := wa1.1
    refine (szFracS_any (left := 1048576 - (n0 : Int)) wa1.1 (by omega) (by omega)).mono ?_
    rintro e w' ⟨rfl, rfl⟩
    rw [szI_no (left := 1048576 - (n0 : Int)) (n := n1) (by omega)]
    go_wp2_with fail
    go_ret
    exact ⟨rfl, kw⟩
  have h1 := wa1.fracs (by omega)
  refine (szFracS_any (left := 1048576 - (n0 : Int)) wa1.1 (by omega) (by omega)).mono ?_
  rintro e w' ⟨rfl, rfl⟩
  rw [szI_ok (left := 1048576 - (n0 : Int)) (n := n1) (by omega)]
  have tz1 : ¬ (1048576 - (n0 : Int) - (n1 : Int) < 0) := by omega
  obtain ⟨ca7, fa7⟩ := id p0
  go_wp2_with fail
  clear ca7 fa7
  obtain ⟨r0, r1, HR⟩ : ∃ r0 r1, Hid (atQ z0 z1 = (r0, r1)) := ⟨_, _, rfl⟩
  refine (toGeo_any (h0.keeps kw)).mono ?_
  rintro e w8 ⟨By0, rfl, y0, k8⟩
  have ss9 := k8.size
  replace p0 := p0.keeps k8
  replace kw := Keeps.trans kw k8
  have lt10 := p0.lt
  have sz11 := kw.size
  clear k8
  obtain ⟨ca12, fa12⟩ := id p0
  go_wp2_with fail
  clear ca12 fa12
  refine (toFracS_any (h1.keeps kw)).mono ?_
  rintro e w13 ⟨By1, rfl, y1, k13⟩
  have ss14 := k13.size
  replace p0 := p0.keeps k13
  replace y0 := y0.keeps k13
  replace kw := Keeps.trans kw k13
  have lt15 := p0.lt
  have sz16 := kw.size
  clear k13
  obtain ⟨ca17, fa17⟩ := id p0
  go_wp2_with fail
  clear ca17 fa17
  refine (specIsAdditiveTree_any y0.1 y1.1).mono ?_
  rintro e w18 ⟨rfl, k18⟩
  rw [HR.out]
  have ss19 := k18.size
  replace p0 := p0.keeps k18
  replace y0 := y0.keeps k18
  replace y1 := y1.keeps k18
  replace kw := Keeps.trans kw k18
  have lt20 := p0.lt
  have sz21 := kw.size
  clear k18
  clear y0
  clear y1
  obtain ⟨ca22, fa22⟩ := id p0
  go_wp2_with fail
  clear ca22 fa22
  refine (toGeo_any (h0.keeps kw)).mono ?_
  rintro e w23 ⟨Bx0, rfl, x0, k23⟩
  have ss24 := k23.size
  replace p0 := p0.keeps k23
  replace kw := Keeps.trans kw k23
  have lt25 := p0.lt
  have sz26 := kw.size
  clear k23
  replace p0 := p0.keeps (keeps_alloc w23 (.cells #[.slice Bx0 n0 n0] 46))
  replace x0 := x0.keeps (keeps_alloc w23 (.cells #[.slice Bx0 n0 n0] 46))
  replace kw := Keeps.trans kw (keeps_alloc w23 (.cells #[.slice Bx0 n0 n0] 46))
  have bx0 : B1 (w23.alloc (.cells #[.slice Bx0 n0 n0] 46)) w23.heap.size (.slice Bx0 n0 n0) := B1.new' (by simp)
  obtain ⟨ca27, fa27⟩ := id p0
  obtain ⟨ca28, fa28⟩ := id bx0
  go_wp2_with fail
  clear ca27 fa27 ca28 fa28
  refine (toFracS_any (h1.keeps kw)).mono ?_
  rintro e w29 ⟨Bx1, rfl, x1, k29⟩
  have ss30 := k29.size
  simp at ss30
  replace p0 := p0.keeps k29
  replace bx0 := bx0.keeps k29
  replace x0 := x0.keeps k29
  replace kw := Keeps.trans kw k29
  have lt31 := bx0.lt
  have sz32 := kw.size
  clear k29
  replace x1 := x1.widen (lo' := w23.heap.size + 1) (by simp) (Nat.le_refl _) (Nat.le_refl _)
  obtain ⟨ca33, fa33⟩ := id p0
  obtain ⟨ca34, fa34⟩ := id bx0
  go_wp2_with fail
  clear ca33 fa33 ca34 fa34
  refine (implIsAdditiveTree_any x0.1 x1.1).mono ?_
  rintro e w35 ⟨rfl, k35⟩
  rw [HR.out]
  have ss36 := k35.size
  replace p0 := p0.keeps k35
  replace bx0 := bx0.keeps k35
  replace x0 := x0.keeps k35
  replace x1 := x1.keeps k35
  replace kw := Keeps.trans kw k35
  have lt37 := bx0.lt
  have sz38 := kw.size
  clear k35
  obtain ⟨ca39, fa39⟩ := id p0
  obtain ⟨ca40, fa40⟩ := id bx0
  go_wp2_with fail
  clear ca39 fa39 ca40 fa40
  have e0 : (r0 != r0) = false := by simp
  have e1 : (r1 != r1) = false := by simp
  obtain ⟨ca41, -⟩ := id bx0
  obtain ⟨ca42, -⟩ := id p0
  have kS := hid (show ∀ w', Keeps w35 w' → (w'.cell? ⟨w23.heap.size, 0, none⟩ = some (.slice Bx0 n0 n0) ∧ w'.cell? ⟨w.heap.size, 0, none⟩ = some (.slice A0 n0 c0)) from fun w' k => ⟨cell_keeps ca41 k, cell_keeps ca42 k⟩)
  go_region_held3 (fun w' => w'.cell? ⟨w23.heap.size, 0, none⟩ = some (.slice Bx0 n0 n0) ∧ w'.cell? ⟨w.heap.size, 0, none⟩ = some (.slice A0 n0 c0)) (first | exact kS.out _ (keeps_d0 w35) | exact kS.out _ kW | go_keep)
    ((first | (go_at_call 30; refine (toGeo_any (h0.keeps (Keeps.trans kw (keeps_d0 w35)))).mono ?_; rintro e wB43 ⟨Bt43, rfl, t0, kB⟩; have kW : Keeps w35 wB43 := keeps_d kB; clear kB) | (go_at_call 32; refine (eqGeo_true (x0.1.keeps kW) t0.1).mono ?_; rintro e wC43 ⟨rfl, kC⟩; replace kW : Keeps w35 wC43 := kW.trans kC; clear kC)))
  clear kS t0
  clear ca41 ca42
  have ss44 := kW.size
  replace p0 := p0.keeps kW
  replace bx0 := bx0.keeps kW
  replace x0 := x0.keeps kW
  replace x1 := x1.keeps kW
  replace kw := Keeps.trans kw kW
  have lt45 := bx0.lt
  have sz46 := kw.size
  clear kW
  obtain ⟨ca47, fa47⟩ := id p0
  obtain ⟨ca48, fa48⟩ := id bx0
  go_wp2_with fail
  clear ca47 fa47 ca48 fa48
  refine (toFracS_any (h1.keeps kw)).mono ?_
  rintro e w49 ⟨Bt1, rfl, t1, k49⟩
  have ss50 := k49.size
  replace p0 := p0.keeps k49
  replace bx0 := bx0.keeps k49
  replace x0 := x0.keeps k49
  replace x1 := x1.keeps k49
  replace kw := Keeps.trans kw k49
  have lt51 := bx0.lt
  have sz52 := kw.size
  clear k49
  obtain ⟨ca53, fa53⟩ := id p0
  obtain ⟨ca54, fa54⟩ := id bx0
  go_wp2_with fail
  clear ca53 fa53 ca54 fa54
  refine (eqFracS_true x1.1 t1.1).mono ?_
  rintro e w55 ⟨rfl, k55⟩
  have ss56 := k55.size
  replace p0 := p0.keeps k55
  replace bx0 := bx0.keeps k55
  replace x0 := x0.keeps k55
  replace x1 := x1.keeps k55
  replace t1 := t1.keeps k55
  replace kw := Keeps.trans kw k55
  have lt57 := bx0.lt
  have sz58 := kw.size
  clear k55
  clear t1
  obtain ⟨ca59, fa59⟩ := id p0
  obtain ⟨ca60, fa60⟩ := id bx0
  go_wp2_with fail
  clear ca59 fa59 ca60 fa60
  go_ret
  exact ⟨rfl, kw⟩
end Go.Proofs.Ytochlkebibkbiaa
