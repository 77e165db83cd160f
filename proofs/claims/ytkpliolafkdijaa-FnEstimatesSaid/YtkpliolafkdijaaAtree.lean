/- IsAdditiveTree: of the reference and of the program; sums over children. -/
import Derived.Test.YtkpliolafkdijaaWerr
namespace Go.Proofs.Ytkpliolafkdijaa
open Go.RowKit
set_option linter.unusedVariables false
set_option linter.unusedSimpArgs false

/-- The first answer of the first k questions. -/
def firstQ {β : Type} (st : Nat → Option β) : Nat → Option β
  | 0 => none
  | k + 1 => match firstQ st k with
    | some r => some r
    | none => st k
theorem firstQ_next {β : Type} {st : Nat → Option β} {k : Nat} (h : firstQ st k = none) (e : st k = none) : firstQ st (k + 1) = none := by simp only [firstQ]; rw [h]; exact e
theorem firstQ_stay {β : Type} {st : Nat → Option β} {k n : Nat} {r : β} (h : firstQ st k = some r) (hk : k ≤ n) : firstQ st n = some r := by
  induction n with
  | zero => obtain rfl : k = 0 := by omega
            exact h
  | succ n ih =>
    by_cases e : k = n + 1
    · subst e; exact h
    · simp only [firstQ]; rw [ih (by omega)]
theorem firstQ_stop {β : Type} {st : Nat → Option β} {k n : Nat} {r : β} (h : firstQ st k = none) (e : st k = some r) (hk : k < n) : firstQ st n = some r :=
  firstQ_stay (k := k + 1) (by simp only [firstQ]; rw [h]; exact e) (by omega)
/-- One summand of a sum over indices. -/
def suSt (l : List (Int × Int)) (ks : List Int) (k : Nat) (a b : Int) : Int × Int × Bool :=
  mkF (a * (l.getD (ks.getD k 0).toNat (0, 0)).2 + (l.getD (ks.getD k 0).toNat (0, 0)).1 * b) (b * (l.getD (ks.getD k 0).toNat (0, 0)).2)
theorem suSt_fine (l : List (Int × Int)) (ks : List Int) (k : Nat) (a b : Int) : Fine (suSt l ks k a b) := Fine.mk _ _
theorem suSt_at {l : List (Int × Int)} {ks : List Int} {k j : Nat} {a b x y : Int} (hj : (j : Int) = ks.getD k 0) (hx : (x, y) = l.getD j (0, 0)) : suSt l ks k a b = mkF (a * y + x * b) (b * y) := by
  unfold suSt; rw [← hj]; simp only [Int.toNat_natCast]; rw [← hx]
def sumQ (l : List (Int × Int)) (ks : List Int) : Int × Int × Bool := accQ (suSt l ks) 0 1 ks.length
/-- What an area says: nothing; or the answer. -/
def atSt (z : List Int) (l : List (Int × Int)) (k : Nat) : Option (Bool × Bool) :=
  if (kids z k).length = 0 then none else if (sumQ l (kids z k)).2.2 = false then some (false, false)
  else if ((sumQ l (kids z k)).1, (sumQ l (kids z k)).2.1) = l.getD k (0, 0) then none else some (false, true)
theorem atSt_none {z : List Int} {l : List (Int × Int)} {k : Nat} (h : (kids z k).length = 0) : atSt z l k = none := if_pos h
theorem atSt_bad {z : List Int} {l : List (Int × Int)} {k : Nat} {a b : Int} (h : ¬ (kids z k).length = 0) (e : sumQ l (kids z k) = (a, b, false)) : atSt z l k = some (false, false) := by unfold atSt; rw [if_neg h, e]; simp
theorem atSt_eq {z : List Int} {l : List (Int × Int)} {k : Nat} {a b : Int} (h : ¬ (kids z k).length = 0) (e : sumQ l (kids z k) = (a, b, true)) (hx : (a, b) = l.getD k (0, 0)) : atSt z l k = none := by unfold atSt; rw [if_neg h, e, ← hx]; simp
theorem atSt_ne {z : List Int} {l : List (Int × Int)} {k : Nat} {a b x y : Int} (h : ¬ (kids z k).length = 0) (e : sumQ l (kids z k) = (a, b, true)) (hx : (x, y) = l.getD k (0, 0)) (hn : ¬ (a = x ∧ b = y)) : atSt z l k = some (false, true) := by
  unfold atSt; rw [if_neg h, e, ← hx]; simp [hn]
def atQ (z : List Int) (l : List (Int × Int)) : Bool × Bool := if gfB z l = true then (firstQ (atSt z l) l.length).getD (true, true) else (false, false)
theorem atQ_no {z : List Int} {l : List (Int × Int)} (h : gfB z l = false) : atQ z l = (false, false) := if_neg (by rw [h]; simp)
theorem atQ_yes {z : List Int} {l : List (Int × Int)} (h : gfB z l = true) : atQ z l = (firstQ (atSt z l) l.length).getD (true, true) := if_pos h
/-- All indices point into the list. -/
def Into (ks : List Int) (n : Nat) : Prop := ∀ m, m < ks.length → ∃ j : Nat, (j : Int) = ks.getD m 0 ∧ j < n
theorem kids_into (ps : List Int) (i : Int) {n : Nat} (h : ps.length = n) : Into (kids ps i) n := by
  intro m hm
  obtain ⟨j, h1, _, h2, _⟩ := kids_getD hm
  exact ⟨j, h1.symm, by omega⟩
/-- All that the indices name are fractions. -/
def GoodAt (l : List (Int × Int)) (ks : List Int) : Prop := ∀ m j x y, m < ks.length → ((j : Nat) : Int) = ks.getD m 0 → (x, y) = l.getD j (0, 0) → fracB x y = true
theorem goodAt_all {l : List (Int × Int)} {ks : List Int} (h : l.all fracQ = true) (hin : Into ks l.length) : GoodAt l ks := by
  intro m j x y hm hj hx
  obtain ⟨j', h1, h2⟩ := hin m hm
  have e : j = j' := by omega
  subst e
  exact frac_at h h2 hx
theorem kids_len (ps : List Int) (i : Int) : (kids ps i).length ≤ ps.length := kidsTo_len _ _ _
theorem geoB_head {ps : List Int} (h : geoB ps = true) : ps.getD 0 0 = -1 := (geoB_true.1 h).2.1
theorem ret_bb {a b c d : Bool} (h1 : a = c) (h2 : b = d) : Ending.returned (.tuple #[.bool a, .bool b]) = .returned (.tuple #[.bool c, .bool d]) := by rw [h1, h2]

set_option maxRecDepth 100000 in
set_option maxHeartbeats 800000 in
theorem sumOf_at {A A' : Option Addr} {lo hi lo' hi' n m c c' : Nat} {l : List (Int × Int)} {ks : List Int} {w : World} (h : Fracs w lo hi A n l) (h' : Ints w lo' hi' A' m ks) (hq : GoodAt l ks) (hin : Into ks n) :
    Calls Try.prog 163 #[.slice A n c, .slice A' m c'] w fun e w' => e = .returned (.tuple #[.agg #[.int .i64 (sumQ l ks).1, .int .i64 (sumQ l ks).2.1], .bool (sumQ l ks).2.2]) ∧ Keeps w w' := by
  have hn := h.le
  have hm := h'.le
  have hl := Fracs.len h
  have hl' := h'.1
  have HQ := hid hq
  have HI := hid hin
  clear hq hin
  have HF := hid (show sumQ l ks = accQ (suSt l ks) 0 1 m by unfold sumQ; rw [hl'])
  go_enter Try.func163, Try.ntmps163
  have kw := keeps_refl w
  replace kw := Keeps.trans kw (keeps_alloc w (.cells #[.int .i64 0, .int .i64 0] 41))
  have b4 : Bx (w.alloc (.cells #[.int .i64 0, .int .i64 0] 41)) w.heap.size 0 0 := Bx.new' (by simp)
  replace b4 := b4.keeps (keeps_alloc (w.alloc (.cells #[.int .i64 0, .int .i64 0] 41)) (.cells #[.int .i64 0, .int .i64 1] 41))
  replace kw := Keeps.trans kw (keeps_alloc (w.alloc (.cells #[.int .i64 0, .int .i64 0] 41)) (.cells #[.int .i64 0, .int .i64 1] 41))
  have b6 : Bx ((w.alloc (.cells #[.int .i64 0, .int .i64 0] 41)).alloc (.cells #[.int .i64 0, .int .i64 1] 41)) (w.heap.size + 1) 0 1 := Bx.new' (by simp)
  go_wp2_with fail
  go_loopw [14] (fun si wr => ∃ (k : Nat) (s1 : Int) (s2 : Int), k ≤ m ∧ si = .int .i64 k ∧ Hid (accQ (suSt l ks) 0 1 k = (s1, s2, true)) ∧ Hid (fracB s1 s2 = true) ∧ Bx wr w.heap.size 0 0 ∧ Bx wr (w.heap.size + 1) s1 s2 ∧ Keeps w wr) (fun si _ => m - (intOf si).toNat)
  case atStart => exact ⟨0, 0, 1, Nat.zero_le _, rfl, rfl, fracB_01, b4, b6, kw⟩
  clear kw b4 b6 
  case round =>
    obtain ⟨k, s1, s2, hk, rfl, HA, HB, b4, b6, kw⟩ := hrel
    have lt1 := b6.lt
    have sz2 := kw.size
    by_cases hlt : k < m
    · obtain ⟨b', off', i, rfl, _, hb', hv, hxi⟩ := (h'.keeps kw).at_ hlt
      obtain ⟨j, hj, hjn⟩ := HI.out k (by omega)
      obtain rfl : i = j := hxi.out.trans hj.symm
      have hkj := hid hj
      clear hj hxi
      obtain ⟨b, off, x, y, rfl, _, hb, hc, hd, hx⟩ := Fracs.at_ (h.keeps kw) hjn
      have fx := hid (HQ.out k j x y (by omega) hkj.out hx.out)
      have hi1 : (k : Int) < (m : Int) := by omega
      have hi2 : (j : Int) < (n : Int) := by omega
      go_wp2_with fail
      clear hv
      obtain ⟨r1, r2, r3, H5⟩ : ∃ r1 r2 r3, Hid (mkF (s1 * y + x * s2) (s2 * y) = (r1, r2, r3)) := ⟨_, _, _, rfl⟩
      have HS := hid ((suSt_at (a := s1) (b := s2) hkj.out hx.out).trans H5.out)
      obtain ⟨ca4, cb4, -, -⟩ := id b6
      have kS := hid (show ∀ w', Keeps wr w' → (w'.cell? ⟨w.heap.size + 1, 0, none⟩ = some (.int .i64 s1) ∧ w'.cell? ⟨w.heap.size + 1, 1, none⟩ = some (.int .i64 s2) ∧ w'.cell? ⟨b, off + j * 2, none⟩ = some (.int .i64 x) ∧ w'.cell? ⟨b, off + j * 2 + 1, none⟩ = some (.int .i64 y)) from fun w' k => ⟨cell_keeps ca4 k, cell_keeps cb4 k, cell_keeps hc k, cell_keeps hd k⟩)
      go_cut [9, 10] (fun sd so wq => ∃ wy g, wy = wq ∧ sd = .pointer (some ⟨g, 0, none⟩) ∧ so = .bool r3 ∧ Bx wy g r1 r2 ∧ wr.heap.size ≤ g ∧ Keeps wr wy)
      case first =>
        go_region_held3 (fun w' => w'.cell? ⟨w.heap.size + 1, 0, none⟩ = some (.int .i64 s1) ∧ w'.cell? ⟨w.heap.size + 1, 1, none⟩ = some (.int .i64 s2) ∧ w'.cell? ⟨b, off + j * 2, none⟩ = some (.int .i64 x) ∧ w'.cell? ⟨b, off + j * 2 + 1, none⟩ = some (.int .i64 y)) (first | with_reducible exact kS.out _ (keeps_d0 wr) | with_reducible exact kS.out _ (keeps_ad0 wr _) | with_reducible exact kS.out _ (kW) | with_reducible exact kS.out _ (kW.trans (keeps_alloc _ _)) | with_reducible exact kS.out _ (below_set2 kW lz _ _) | go_keep)
          ((first | (go_at_call 77; refine (AddFrac_any HB.out fx.out).mono ?_; rintro e wB ⟨rfl, kB⟩; rw [H5.out]; (first | (have kZ : Bx wB wr.heap.size 0 0 := Bx.kZ1 kB rfl; have lz : wr.heap.size ≤ wr.heap.size := (Nat.le_refl _); obtain ⟨z1, z2, z3, z4⟩ := id kZ) | (have kZ : Bx wB wr.heap.size 0 0 := Bx.kZ2 kB rfl; have lz : wr.heap.size ≤ wr.heap.size := (Nat.le_refl _); obtain ⟨z1, z2, z3, z4⟩ := id kZ) | (have kZ := kZ.keeps kB; obtain ⟨z1, z2, z3, z4⟩ := id kZ) | (have kZ : Bx wB _ 0 0 := Bx.kZ2 kB rfl; have lz := kW.size; obtain ⟨z1, z2, z3, z4⟩ := id kZ) | skip); (first | (have kW : Keeps wr wB := kW.trans kB) | (have kW : Keeps wr wB := (kW.trans (keeps_alloc _ _)).trans kB) | (have kW : Keeps wr wB := keeps_d kB) | (have kW : Keeps wr wB := keeps_ad kB)); clear kB)))
        all_goals (go_wp2_with fail; go_meet; first
          | exact ⟨_, _, rfl, rfl, rfl, Bx.new _ _ _ _, kW.size, kW.trans (keeps_alloc _ _)⟩
          | exact ⟨_, _, rfl, rfl, rfl, Bx.set (x := 0) (y := 0) kZ _ _, lz, below_set2 kW lz _ _⟩)
      case rest =>
        clear kS
        clear ca4 cb4
        obtain ⟨wx3, g3, rfl, rfl, rfl, b9, lg3, kx3⟩ := hcut
        replace b4 := b4.keeps kx3
        replace b6 := b6.keeps kx3
        replace kw := Keeps.trans kw kx3
        clear kx3
        have lt6 := b9.lt
        have sz7 := kw.size
        cases r3
        · have HE := hid (accQ_fail HA.out (show suSt l ks k s1 s2 = (0, 0, false) from (suSt_fine _ _ _ _ _).bad HS.out) hlt)
          replace HF := hid (HF.out.trans HE.out)
          obtain ⟨ca8, cb8, fa8, fb8⟩ := id b4
          go_wp2_with fail
          clear ca8 cb8 fa8 fb8
          obtain ⟨ca0, cb0, fa0, fb0⟩ := id b4
          refine bodyPost_ret (v := .tuple #[.agg #[.int .i64 0, .int .i64 0], .bool false]) (by simp [results, Try.results163, go_sem, ca0, cb0]) rfl ⟨ret_fb (by rw [HF.out]) (by rw [HF.out]) (by rw [HF.out]), ?_⟩
          exact below_set2 kw (p := w.heap.size) (by omega) _ _
        · have fr := hid ((suSt_fine _ _ _ _ _).ok HS.out)
          obtain ⟨ca8, cb8, fa8, fb8⟩ := id b9
          obtain ⟨ca9, cb9, fa9, fb9⟩ := id b6
          replace b4 := b4.set2 (p := (w.heap.size + 1)) (by omega) (.int .i64 r1) (.int .i64 r2)
          replace b9 := b9.set2 (p := (w.heap.size + 1)) (by omega) (.int .i64 r1) (.int .i64 r2)
          replace b6 := b6.set r1 r2
          replace kw := below_set2 kw (p := (w.heap.size + 1)) (by omega) (.int .i64 r1) (.int .i64 r2)
          go_wp2_with fail
          clear ca8 cb8 fa8 fb8 ca9 cb9 fa9 fb9
          go_roundw
          case rel => exact ⟨k + 1, r1, r2, (by omega), (by go_num), accQ_next HA.out HS.out, fr.out, b4, b6, kw⟩
          case measure => simp [intOf]; omega
    · obtain rfl : k = m := by omega
      replace HF := hid (HF.out.trans HA.out)
      obtain ⟨ca3, cb3, fa3, fb3⟩ := id b4
      obtain ⟨ca4, cb4, fa4, fb4⟩ := id b6
      go_wp2_with fail
      clear ca3 cb3 fa3 fb3 ca4 cb4 fa4 fb4
      obtain ⟨ca0, cb0, fa0, fb0⟩ := id b4
      refine bodyPost_ret (v := .tuple #[.agg #[.int .i64 s1, .int .i64 s2], .bool true]) (by simp [results, Try.results163, go_sem, ca0, cb0]) rfl ⟨ret_fb (by rw [HF.out]) (by rw [HF.out]) (by rw [HF.out]), ?_⟩
      exact below_set2 kw (p := w.heap.size) (by omega) _ _
theorem sumOf_any {A A' : Option Addr} {lo hi lo' hi' n m c c' : Nat} {l : List (Int × Int)} {ks : List Int} {w : World} (h : Fracs w lo hi A n l) (h' : Ints w lo' hi' A' m ks) (hq : l.all fracQ = true) (hin : Into ks n) :
    Calls Try.prog 163 #[.slice A n c, .slice A' m c'] w fun e w' => e = .returned (.tuple #[.agg #[.int .i64 (sumQ l ks).1, .int .i64 (sumQ l ks).2.1], .bool (sumQ l ks).2.2]) ∧ Keeps w w' :=
  sumOf_at h h' (goodAt_all hq (by rw [Fracs.len h]; exact hin)) hin
set_option maxRecDepth 100000 in
set_option maxHeartbeats 1600000 in
theorem implIsAdditiveTree_any {A A' : Option Addr} {lo hi lo' hi' n m c c' : Nat} {l : List (Int × Int)} {z : List Int} {w : World} (h' : Ints w lo' hi' A' m z) (h : Fracs w lo hi A n l) :
    Calls Try.prog 74 #[.agg #[.slice A' m c'], .slice A n c] w fun e w' => e = .returned (.tuple #[.bool (atQ z l).1, .bool (atQ z l).2]) ∧ Keeps w w' := by
  have hn := h.le
  have hm := h'.le
  have hl := Fracs.len h
  have hl' := h'.1
  go_enter Try.func74, Try.ntmps74
  have kw := keeps_refl w
  replace kw := Keeps.trans kw (keeps_alloc w (.cells #[.slice A' m c'] 51))
  have b2 : B1 (w.alloc (.cells #[.slice A' m c'] 51)) w.heap.size (.slice A' m c') := B1.new' (by simp)
  obtain ⟨ca1, fa1⟩ := id b2
  go_wp2_with fail
  clear ca1 fa1
  obtain ⟨pH1, H1⟩ : ∃ pB, Hid (geoB z = pB) := ⟨_, rfl⟩
  refine (IsGeo_any (h'.keeps kw)).mono ?_
  rintro e w2 ⟨rfl, k2⟩
  rw [H1.out]
  replace b2 := b2.keeps k2
  replace kw := Keeps.trans kw k2
  have lt3 := b2.lt
  have sz4 := kw.size
  clear k2
  cases pH1
  · have HF := hid (atQ_no (z := z) (l := l) (gfB_no (by rw [H1.out]; simp)))
    obtain ⟨ca5, fa5⟩ := id b2
    go_wp2_with fail
    clear ca5 fa5
    go_ret2
    exact ⟨ret_bb (by rw [HF.out]) (by rw [HF.out]), kw⟩
  · skip
    by_cases hmn : n = m
    rotate_left
    · have t1 : ((n : Int) != (m : Int)) = true := by rw [bne_iff_ne]; omega
      have HF := hid (atQ_no (z := z) (l := l) (gfB_no (by rw [hl, hl']; simp [hmn])))
      obtain ⟨ca5, fa5⟩ := id b2
      go_wp2_with fail
      clear ca5 fa5
      go_ret2
      exact ⟨ret_bb (by rw [HF.out]) (by rw [HF.out]), kw⟩
    obtain rfl : n = m := hmn
    have t1 : ((n : Int) != (n : Int)) = false := by simp
    obtain ⟨ca5, fa5⟩ := id b2
    go_wp2_with fail
    clear ca5 fa5
    obtain ⟨pH2, H2⟩ : ∃ pB, Hid (l.all fracQ = pB) := ⟨_, rfl⟩
    refine (areFracs_any (h.keeps kw)).mono ?_
    rintro e w6 ⟨rfl, k6⟩
    rw [H2.out]
    replace b2 := b2.keeps k6
    replace kw := Keeps.trans kw k6
    have lt7 := b2.lt
    have sz8 := kw.size
    clear k6
    cases pH2
    · have HF := hid (atQ_no (z := z) (l := l) (gfB_no (by rw [H2.out]; simp)))
      obtain ⟨ca9, fa9⟩ := id b2
      go_wp2_with fail
      clear ca9 fa9
      go_ret2
      exact ⟨ret_bb (by rw [HF.out]) (by rw [HF.out]), kw⟩
    · skip
      have HF := hid (atQ_yes (z := z) (l := l) (gfB_true.2 ⟨H1.out, by rw [hl, hl'], H2.out⟩))
      rw [hl] at HF
      go_wp2_with fail
      go_loopw [29] (fun si wr => ∃ (k : Nat), k ≤ n ∧ si = .int .i64 k ∧ Hid (firstQ (atSt z l) k = none) ∧ B1 wr w.heap.size (.slice A' n c') ∧ Keeps w wr) (fun si _ => n - (intOf si).toNat)
      case atStart => exact ⟨0, Nat.zero_le _, rfl, rfl, b2, kw⟩
      clear kw b2 
      case round =>
        obtain ⟨k, hk, rfl, HA, b2, kw⟩ := hrel
        have lt9 := b2.lt
        have sz10 := kw.size
        by_cases hlt : k < n
        · obtain ⟨b, off, x, y, rfl, _, hb, hc, hd, hx⟩ := Fracs.at_ (h.keeps kw) hlt
          have hi1 : (k : Int) < (n : Int) := by omega
          obtain ⟨ca11, fa11⟩ := id b2
          replace b2 := b2.keeps (keeps_alloc wr (.cells #[.int .i64 x, .int .i64 y] 41))
          replace kw := Keeps.trans kw (keeps_alloc wr (.cells #[.int .i64 x, .int .i64 y] 41))
          have b7 : Bx (wr.alloc (.cells #[.int .i64 x, .int .i64 y] 41)) wr.heap.size x y := Bx.new' (by simp)
          obtain ⟨ca12, fa12⟩ := id b2
          go_wp2_with fail
          clear ca11 fa11 ca12 fa12
          obtain ⟨ks, HK⟩ : ∃ ks, Hid (kids z k = ks) := ⟨_, rfl⟩
          have HI := hid (kids_into z k (n := n) (by omega))
          have hkl := kids_len z k
          rw [HK.out] at HI hkl
          refine (childrenOf_any (h'.keeps kw) (geoB_head H1.out) (by omega)).mono ?_
          rintro e w13 ⟨A9, c9, rfl, m9, k13⟩
          replace b2 := b2.keeps k13
          replace b7 := b7.keeps k13
          replace kw := Keeps.trans kw k13
          have lt14 := b7.lt
          have sz15 := kw.size
          clear k13
          rw [HK.out]
          rw [HK.out] at m9
          by_cases hz : ks.length = 0
          · have HN := hid (firstQ_next HA.out (atSt_none (l := l) (by rw [HK.out]; exact hz)))
            rw [hz]
            have t2 : (((0 : Nat) : Int) == 0) = true := by decide
            clear hz
            go_wp2_with fail
            go_roundw
            case rel => exact ⟨k + 1, (by omega), (by go_num), HN.out, b2, kw⟩
            case measure => simp [intOf]; omega
          · have t2 : ((ks.length : Int) == 0) = false := by rw [beq_eq_false_iff_ne]; omega
            have HZ := hid (show ¬ (kids z k).length = 0 by rw [HK.out]; exact hz)
            go_wp2_with fail
            obtain ⟨r1, r2, r3, HS⟩ : ∃ r1 r2 r3, Hid (sumQ l ks = (r1, r2, r3)) := ⟨_, _, _, rfl⟩
            refine (sumOf_any (h.keeps kw) m9.1 H2.out HI.out).mono ?_
            rintro e w16 ⟨rfl, k16⟩
            rw [HS.out]
            replace b2 := b2.keeps k16
            replace b7 := b7.keeps k16
            replace m9 := m9.keeps k16
            replace kw := Keeps.trans kw k16
            have lt17 := b7.lt
            have sz18 := kw.size
            clear k16
            rw [← HK.out] at HS
            cases r3
            · have HE := hid (firstQ_stop HA.out (atSt_bad HZ.out HS.out) hlt)
              rw [HE.out] at HF
              replace b2 := b2.keeps (keeps_alloc w16 (.cells #[.int .i64 r1, .int .i64 r2] 41))
              replace b7 := b7.keeps (keeps_alloc w16 (.cells #[.int .i64 r1, .int .i64 r2] 41))
              replace m9 := m9.keeps (keeps_alloc w16 (.cells #[.int .i64 r1, .int .i64 r2] 41))
              replace kw := Keeps.trans kw (keeps_alloc w16 (.cells #[.int .i64 r1, .int .i64 r2] 41))
              have b9 : Bx (w16.alloc (.cells #[.int .i64 r1, .int .i64 r2] 41)) w16.heap.size r1 r2 := Bx.new' (by simp)
              go_wp2_with fail
              go_ret2
              exact ⟨ret_bb (by rw [HF.out]; rfl) (by rw [HF.out]; rfl), kw⟩
            · by_cases hx1 : r1 = x
              rotate_left
              · have HE := hid (firstQ_stop HA.out (atSt_ne HZ.out HS.out hx.out (by omega)) hlt)
                rw [HE.out] at HF
                have t3 : (r1 == x) = false := by rw [beq_eq_false_iff_ne]; assumption
                obtain ⟨ca19, cb19, fa19, fb19⟩ := id b7
                replace b2 := b2.keeps (keeps_alloc w16 (.cells #[.int .i64 r1, .int .i64 r2] 41))
                replace b7 := b7.keeps (keeps_alloc w16 (.cells #[.int .i64 r1, .int .i64 r2] 41))
                replace m9 := m9.keeps (keeps_alloc w16 (.cells #[.int .i64 r1, .int .i64 r2] 41))
                replace kw := Keeps.trans kw (keeps_alloc w16 (.cells #[.int .i64 r1, .int .i64 r2] 41))
                have b9 : Bx (w16.alloc (.cells #[.int .i64 r1, .int .i64 r2] 41)) w16.heap.size r1 r2 := Bx.new' (by simp)
                obtain ⟨ca20, cb20, fa20, fb20⟩ := id b7
                obtain ⟨ca21, cb21, fa21, fb21⟩ := id b9
                go_wp2_with fail
                clear ca19 cb19 fa19 fb19 ca20 cb20 fa20 fb20 ca21 cb21 fa21 fb21
                go_ret2
                exact ⟨ret_bb (by rw [HF.out]; rfl) (by rw [HF.out]; rfl), kw⟩
              subst hx1
              by_cases hx2 : r2 = y
              rotate_left
              · have HE := hid (firstQ_stop HA.out (atSt_ne HZ.out HS.out hx.out (by omega)) hlt)
                rw [HE.out] at HF
                have t3 : (r2 == y) = false := by rw [beq_eq_false_iff_ne]; assumption
                obtain ⟨ca19, cb19, fa19, fb19⟩ := id b7
                replace b2 := b2.keeps (keeps_alloc w16 (.cells #[.int .i64 r1, .int .i64 r2] 41))
                replace b7 := b7.keeps (keeps_alloc w16 (.cells #[.int .i64 r1, .int .i64 r2] 41))
                replace m9 := m9.keeps (keeps_alloc w16 (.cells #[.int .i64 r1, .int .i64 r2] 41))
                replace kw := Keeps.trans kw (keeps_alloc w16 (.cells #[.int .i64 r1, .int .i64 r2] 41))
                have b9 : Bx (w16.alloc (.cells #[.int .i64 r1, .int .i64 r2] 41)) w16.heap.size r1 r2 := Bx.new' (by simp)
                obtain ⟨ca20, cb20, fa20, fb20⟩ := id b7
                obtain ⟨ca21, cb21, fa21, fb21⟩ := id b9
                go_wp2_with fail
                clear ca19 cb19 fa19 fb19 ca20 cb20 fa20 fb20 ca21 cb21 fa21 fb21
                go_ret2
                exact ⟨ret_bb (by rw [HF.out]; rfl) (by rw [HF.out]; rfl), kw⟩
              subst hx2
              have HN := hid (firstQ_next HA.out (atSt_eq HZ.out HS.out hx.out))
              obtain ⟨ca19, cb19, fa19, fb19⟩ := id b7
              replace b2 := b2.keeps (keeps_alloc w16 (.cells #[.int .i64 r1, .int .i64 r2] 41))
              replace b7 := b7.keeps (keeps_alloc w16 (.cells #[.int .i64 r1, .int .i64 r2] 41))
              replace m9 := m9.keeps (keeps_alloc w16 (.cells #[.int .i64 r1, .int .i64 r2] 41))
              replace kw := Keeps.trans kw (keeps_alloc w16 (.cells #[.int .i64 r1, .int .i64 r2] 41))
              have b9 : Bx (w16.alloc (.cells #[.int .i64 r1, .int .i64 r2] 41)) w16.heap.size r1 r2 := Bx.new' (by simp)
              obtain ⟨ca20, cb20, fa20, fb20⟩ := id b7
              obtain ⟨ca21, cb21, fa21, fb21⟩ := id b9
              go_wp2_with fail
              clear ca19 cb19 fa19 fb19 ca20 cb20 fa20 fb20 ca21 cb21 fa21 fb21
              go_roundw
              case rel => exact ⟨k + 1, (by omega), (by go_num), HN.out, b2, kw⟩
              case measure => simp [intOf]; omega
        · obtain rfl : k = n := by omega
          rw [HA.out] at HF
          go_wp2_with fail
          go_ret2
          exact ⟨ret_bb (by rw [HF.out]; rfl) (by rw [HF.out]; rfl), kw⟩
end Go.Proofs.Ytkpliolafkdijaa
