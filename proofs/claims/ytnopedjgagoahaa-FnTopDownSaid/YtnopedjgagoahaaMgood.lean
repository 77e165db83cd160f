/- Which mechanisms are valid: isDistribution, IsMechanism, isInput; mRow, mGood, mInput. -/
import Derived.Test.YtnopedjgagoahaaKH
namespace Go.Proofs.Ytnopedjgagoahaa
open Go.RowKit
set_option linter.unusedVariables false
set_option linter.unusedSimpArgs false

/-- A valid fraction that is not negative. -/
def posQ (f : QQ) : Bool := fracB f.1 f.2 && decide (0 ≤ f.1)
theorem posQ_true {x y : Int} : posQ (x, y) = true ↔ fracB x y = true ∧ 0 ≤ x := by simp [posQ]
theorem posQ_no1 {x y : Int} (h : fracB x y = false) : posQ (x, y) = false := by simp [posQ, h]
theorem posQ_no2 {x y : Int} (h : x < 0) : posQ (x, y) = false := by simp [posQ]; intro _; omega
/-- One more summand. -/
def saSt (l : List QQ) (k : Nat) (a b : Int) : Int × Int × Bool := mkF (a * (l.getD k (0, 0)).2 + (l.getD k (0, 0)).1 * b) (b * (l.getD k (0, 0)).2)
theorem saSt_fine (l : List QQ) (k : Nat) (a b : Int) : Fine (saSt l k a b) := Fine.mk _ _
theorem saSt_at {l : List QQ} {k : Nat} {a b x y : Int} (hx : (x, y) = l.getD k (0, 0)) : saSt l k a b = mkF (a * y + x * b) (b * y) := by unfold saSt; rw [← hx]
def sumAll (l : List QQ) : Int × Int × Bool := accQ (saSt l) 0 1 l.length
def distB (l : List QQ) : Bool := l.all posQ && (sumAll l == (1, 1, true))
theorem distB_yes {l : List QQ} (h : l.all posQ = true) (k : sumAll l = (1, 1, true)) : distB l = true := by simp [distB, h, k]
theorem distB_no1 {l : List QQ} (h : l.all posQ = false) : distB l = false := by simp [distB, h]
theorem distB_no2 {l : List QQ} (h : sumAll l ≠ (1, 1, true)) : distB l = false := by simp [distB, h]
theorem distB_pos {l : List QQ} (h : distB l = true) : l.all posQ = true := by unfold distB at h; simp only [Bool.and_eq_true] at h; exact h.1
theorem pos_at {l : List QQ} {k : Nat} {x y : Int} (h : l.all posQ = true) (hk : k < l.length) (hx : (x, y) = l.getD k (0, 0)) : fracB x y = true ∧ 0 ≤ x := by
  have := all_true.1 h k hk; rw [← hx] at this; exact posQ_true.1 this
def AllR (p : List QQ → Bool) (ll : List (List QQ)) (k : Nat) : Prop := ∀ j, j < k → p (ll.getD j []) = true
theorem allR_succ {p : List QQ → Bool} {ll : List (List QQ)} {k : Nat} (h : AllR p ll k) (h1 : p (ll.getD k []) = true) : AllR p ll (k + 1) := by
  intro j hj
  by_cases hjk : j = k
  · subst hjk; exact h1
  · exact h j (by omega)
theorem allR_all {p : List QQ → Bool} {ll : List (List QQ)} : ll.all p = true ↔ AllR p ll ll.length := by
  simp only [List.all_eq_true, AllR]
  constructor
  · intro h j hj
    have := h ll[j] (List.getElem_mem hj)
    simpa [List.getD, hj] using this
  · intro h x hx
    obtain ⟨j, hj, rfl⟩ := List.getElem_of_mem hx
    simpa [List.getD, hj] using h j hj
theorem allR_no {p : List QQ → Bool} {ll : List (List QQ)} {k : Nat} (hk : k < ll.length) (h : p (ll.getD k []) = false) : ll.all p = false := by
  rw [Bool.eq_false_iff]; intro h1; have := allR_all.1 h1 k hk; rw [h] at this; cases this
def rowB (ll : List (List QQ)) (r : List QQ) : Bool := decide (r.length = (ll.getD 0 []).length) && distB r
def mechB (ll : List (List QQ)) : Bool := inB ll.length 1 8 && inB (ll.getD 0 []).length 1 24 && ll.all (rowB ll)
theorem mechB_true {ll : List (List QQ)} : mechB ll = true ↔ inB ll.length 1 8 = true ∧ inB (ll.getD 0 []).length 1 24 = true ∧ ll.all (rowB ll) = true := by simp [mechB, and_assoc]
theorem mechB_no {ll : List (List QQ)} (h : ¬ (inB ll.length 1 8 = true ∧ inB (ll.getD 0 []).length 1 24 = true ∧ ll.all (rowB ll) = true)) : mechB ll = false := by
  rw [Bool.eq_false_iff]; intro h1; exact h (mechB_true.1 h1)
/-- What a valid mechanism's rows are like. -/
theorem mechB_row {ll : List (List QQ)} (h : mechB ll = true) {i : Nat} (hi : i < ll.length) : (ll.getD i []).length = (ll.getD 0 []).length ∧ distB (ll.getD i []) = true := by
  have := allR_all.1 (mechB_true.1 h).2.2 i hi
  simpa [rowB] using this
theorem rowB_len {ll : List (List QQ)} {r : List QQ} (h : rowB ll r = true) : r.length = (ll.getD 0 []).length := by
  simp only [rowB, Bool.and_eq_true] at h; exact of_decide_eq_true h.1
theorem mechB_len {ll : List (List QQ)} (h : mechB ll = true) : (1 ≤ ll.length ∧ ll.length ≤ 8) ∧ 1 ≤ (ll.getD 0 []).length ∧ (ll.getD 0 []).length ≤ 24 := by
  have h1 := inB_true.1 (mechB_true.1 h).1
  have h2 := inB_true.1 (mechB_true.1 h).2.1
  omega
theorem mechB_at {ll : List (List QQ)} (h : mechB ll = true) {i k : Nat} {x y : Int} (hi : i < ll.length) (hk : k < (ll.getD i []).length) (hx : (x, y) = (ll.getD i []).getD k (0, 0)) : fracB x y = true ∧ 0 ≤ x :=
  pos_at (distB_pos (mechB_row h hi).2) hk hx
/-- The first row's header, read at index 0. -/
theorem FRows.head {w : World} {lo hi n : Nat} {A : Option Addr} {ll : List (List QQ)} (h : FRows w lo hi A n ll) (h0 : 0 < n) :
    ∃ b off A' m c, A = some ⟨b, off, none⟩ ∧ lo ≤ b ∧ b < hi ∧ w.cell? ⟨b, off, none⟩ = some (.slice A' m c) ∧ Fracs w lo hi A' m (ll.getD 0 []) := by
  obtain ⟨b, off, A', m, c, e, h1, h2, h3, h4⟩ := h.at_ h0
  exact ⟨b, off, A', m, c, e, h1, h2, h3, h4⟩

set_option maxRecDepth 100000 in
set_option maxHeartbeats 1600000 in
theorem isDistribution_any {A : Option Addr} {lo hi n c : Nat} {l : List QQ} {w : World} (h : Fracs w lo hi A n l) :
    Calls Try.prog 108 #[.slice A n c] w fun e w' => e = .returned (.bool (distB l)) ∧ Keeps w w' := by
  have hn := h.le
  have hl := Fracs.len h
  go_enter Try.func108, Try.ntmps108
  have kw := keeps_refl w
  replace kw := Keeps.trans kw (keeps_alloc w (.cells #[.int .i64 0, .int .i64 1] 31))
  have b3 : Bx (w.alloc (.cells #[.int .i64 0, .int .i64 1] 31)) w.heap.size 0 1 := Bx.new' (by simp)
  go_wp2_with fail
  go_loopw [11] (fun si wr => ∃ (k : Nat) (s1 : Int) (s2 : Int), k ≤ n ∧ si = .int .i64 k ∧ Hid (accQ (saSt l) 0 1 k = (s1, s2, true)) ∧ Hid (fracB s1 s2 = true) ∧ Hid (AllTo posQ l k) ∧ Bx wr w.heap.size s1 s2 ∧ Keeps w wr) (fun si _ => n - (intOf si).toNat)
  case atStart => exact ⟨0, 0, 1, Nat.zero_le _, rfl, rfl, fracB_01, (fun j hj => absurd hj (by omega)), b3, kw⟩
  clear kw b3 
  case round =>
    obtain ⟨k, s1, s2, hk, rfl, HA, HB, HP, b3, kw⟩ := hrel
    have lt1 := b3.lt
    have sz2 := kw.size
    by_cases hlt : k < n
    · obtain ⟨b, off, x, y, rfl, _, hb, hc, hd, hx⟩ := Fracs.at_ (h.keeps kw) hlt
      have hi1 : (k : Int) < (n : Int) := by omega
      replace b3 := b3.keeps (keeps_alloc wr (.cells #[.int .i64 x, .int .i64 y] 31))
      replace kw := Keeps.trans kw (keeps_alloc wr (.cells #[.int .i64 x, .int .i64 y] 31))
      have b5 : Bx (wr.alloc (.cells #[.int .i64 x, .int .i64 y] 31)) wr.heap.size x y := Bx.new' (by simp)
      go_wp2_with fail
      obtain ⟨pH1, H1⟩ : ∃ p, Hid (fracB x y = p) := ⟨_, rfl⟩
      refine (IsFrac_any).mono ?_
      rintro e w3 ⟨rfl, k3⟩
      rw [H1.out]
      replace b3 := b3.keeps k3
      replace b5 := b5.keeps k3
      replace kw := Keeps.trans kw k3
      have lt4 := b5.lt
      have sz5 := kw.size
      clear k3
      cases pH1
      · have HF := hid (distB_no1 (all_no (p := posQ) (by omega) hx.out (posQ_no1 H1.out)))
        obtain ⟨ca6, cb6, fa6, fb6⟩ := id b5
        go_wp2_with fail
        clear ca6 cb6 fa6 fb6
        go_ret
        exact ⟨ret_bool (HF.out.symm), kw⟩
      · skip
        by_cases h0 : 0 ≤ x
        rotate_left
        · have hx0 : x < 0 := by omega
          have HF := hid (distB_no1 (all_no (p := posQ) (by omega) hx.out (posQ_no2 (by omega))))
          obtain ⟨ca6, cb6, fa6, fb6⟩ := id b5
          go_wp2_with fail
          clear ca6 cb6 fa6 fb6
          go_ret
          exact ⟨ret_bool (HF.out.symm), kw⟩
        have HP2 := hid (allTo_succ HP.out hx.out (posQ_true.2 ⟨H1.out, h0⟩))
        have hx0 : ¬ x < 0 := by omega
        obtain ⟨r1, r2, r3, H5⟩ : ∃ r1 r2 r3, Hid (mkF (s1 * y + x * s2) (s2 * y) = (r1, r2, r3)) := ⟨_, _, _, rfl⟩
        have HS := hid ((saSt_at (a := s1) (b := s2) hx.out).trans H5.out)
        obtain ⟨ca6, cb6, fa6, fb6⟩ := id b3
        obtain ⟨ca7, cb7, fa7, fb7⟩ := id b5
        go_wp2_with fail
        clear ca6 cb6 fa6 fb6 ca7 cb7 fa7 fb7
        refine (AddFrac_any HB.out H1.out).mono ?_
        rintro e w8 ⟨rfl, k8⟩
        rw [H5.out]
        replace b3 := b3.keeps k8
        replace b5 := b5.keeps k8
        replace kw := Keeps.trans kw k8
        have lt9 := b5.lt
        have sz10 := kw.size
        clear k8
        cases r3
        · have HE := hid (accQ_fail HA.out (show saSt l k s1 s2 = (0, 0, false) from (saSt_fine _ _ _ _).bad HS.out) hlt)
          have HF := hid (distB_no2 (l := l) (by unfold sumAll; rw [hl, HE.out]; simp))
          replace b3 := b3.keeps (keeps_alloc w8 (.cells #[.int .i64 r1, .int .i64 r2] 31))
          replace b5 := b5.keeps (keeps_alloc w8 (.cells #[.int .i64 r1, .int .i64 r2] 31))
          replace kw := Keeps.trans kw (keeps_alloc w8 (.cells #[.int .i64 r1, .int .i64 r2] 31))
          have b6 : Bx (w8.alloc (.cells #[.int .i64 r1, .int .i64 r2] 31)) w8.heap.size r1 r2 := Bx.new' (by simp)
          go_wp2_with fail
          go_ret
          exact ⟨ret_bool (HF.out.symm), kw⟩
        · have fr := hid ((saSt_fine _ _ _ _).ok HS.out)
          obtain ⟨ca11, cb11, fa11, fb11⟩ := id b3
          replace b3 := b3.keeps (keeps_alloc w8 (.cells #[.int .i64 r1, .int .i64 r2] 31))
          replace b5 := b5.keeps (keeps_alloc w8 (.cells #[.int .i64 r1, .int .i64 r2] 31))
          replace kw := Keeps.trans kw (keeps_alloc w8 (.cells #[.int .i64 r1, .int .i64 r2] 31))
          have b6 : Bx (w8.alloc (.cells #[.int .i64 r1, .int .i64 r2] 31)) w8.heap.size r1 r2 := Bx.new' (by simp)
          obtain ⟨ca12, cb12, fa12, fb12⟩ := id b3
          obtain ⟨ca13, cb13, fa13, fb13⟩ := id b6
          replace b5 := b5.set2 (p := w.heap.size) (by omega) (.int .i64 r1) (.int .i64 r2)
          replace b6 := b6.set2 (p := w.heap.size) (by omega) (.int .i64 r1) (.int .i64 r2)
          replace b3 := b3.set r1 r2
          replace kw := below_set2 kw (p := w.heap.size) (by omega) (.int .i64 r1) (.int .i64 r2)
          go_wp2_with fail
          clear ca11 cb11 fa11 fb11 ca12 cb12 fa12 fb12 ca13 cb13 fa13 fb13
          go_roundw
          case rel => exact ⟨k + 1, r1, r2, (by omega), (by go_num), accQ_next HA.out HS.out, fr.out, HP2.out, b3, kw⟩
          case measure => simp [intOf]; omega
    · obtain rfl : k = n := by omega
      have HE := hid (show sumAll l = (s1, s2, true) by unfold sumAll; rw [hl]; exact HA.out)
      by_cases hx1 : s1 = 1
      rotate_left
      · have t3 : (s1 == 1) = false := by rw [beq_eq_false_iff_ne]; assumption
        have HF := hid (distB_no2 (l := l) (by rw [HE.out]; simp; omega))
        obtain ⟨ca3, cb3, fa3, fb3⟩ := id b3
        go_wp2_with fail
        clear ca3 cb3 fa3 fb3
        go_ret
        exact ⟨ret_bool (HF.out.symm), kw⟩
      subst hx1
      by_cases hx2 : s2 = 1
      rotate_left
      · have t3 : (s2 == 1) = false := by rw [beq_eq_false_iff_ne]; assumption
        have HF := hid (distB_no2 (l := l) (by rw [HE.out]; simp; omega))
        obtain ⟨ca3, cb3, fa3, fb3⟩ := id b3
        go_wp2_with fail
        clear ca3 cb3 fa3 fb3
        go_ret
        exact ⟨ret_bool (HF.out.symm), kw⟩
      subst hx2
      have HF := hid (distB_yes (all_true.2 (by rw [hl]; exact HP.out)) HE.out)
      obtain ⟨ca3, cb3, fa3, fb3⟩ := id b3
      go_wp2_with fail
      clear ca3 cb3 fa3 fb3
      go_ret
      exact ⟨ret_bool (HF.out.symm), kw⟩
set_option maxRecDepth 100000 in
set_option maxHeartbeats 800000 in
theorem fSum_any {A : Option Addr} {lo hi n c : Nat} {l : List QQ} {w : World} (h : Fracs w lo hi A n l) (hp : l.all posQ = true) :
    Calls Try.prog 221 #[.slice A n c] w fun e w' => e = .returned (.tuple #[.agg #[.int .i64 (sumAll l).1, .int .i64 (sumAll l).2.1], .bool (sumAll l).2.2]) ∧ Keeps w w' := by
  have hn := h.le
  have hl := Fracs.len h
  have HP := hid hp
  clear hp
  have HF := hid (show sumAll l = accQ (saSt l) 0 1 n by unfold sumAll; rw [hl])
  go_enter Try.func221, Try.ntmps221
  have kw := keeps_refl w
  replace kw := Keeps.trans kw (keeps_alloc w (.cells #[.int .i64 0, .int .i64 0] 31))
  have b2 : Bx (w.alloc (.cells #[.int .i64 0, .int .i64 0] 31)) w.heap.size 0 0 := Bx.new' (by simp)
  go_wp2_with fail
  refine (fInt_any).mono ?_
  rintro e w1 ⟨rfl, k1⟩
  replace b2 := b2.keeps k1
  replace kw := Keeps.trans kw k1
  have lt2 := b2.lt
  have sz3 := kw.size
  clear k1
  replace b2 := b2.keeps (keeps_alloc w1 (.cells #[.int .i64 0, .int .i64 1] 31))
  replace kw := Keeps.trans kw (keeps_alloc w1 (.cells #[.int .i64 0, .int .i64 1] 31))
  have b4 : Bx (w1.alloc (.cells #[.int .i64 0, .int .i64 1] 31)) w1.heap.size 0 1 := Bx.new' (by simp)
  go_wp2_with fail
  go_loopw [12] (fun si wr => ∃ (k : Nat) (s1 : Int) (s2 : Int), k ≤ n ∧ si = .int .i64 k ∧ Hid (accQ (saSt l) 0 1 k = (s1, s2, true)) ∧ Hid (fracB s1 s2 = true) ∧ Bx wr w.heap.size 0 0 ∧ Bx wr w1.heap.size s1 s2 ∧ Keeps w wr) (fun si _ => n - (intOf si).toNat)
  case atStart => exact ⟨0, 0, 1, Nat.zero_le _, rfl, rfl, fracB_01, b2, b4, kw⟩
  clear kw b2 b4 
  case round =>
    obtain ⟨k, s1, s2, hk, rfl, HA, HB, b2, b4, kw⟩ := hrel
    have lt4 := b4.lt
    have sz5 := kw.size
    by_cases hlt : k < n
    · obtain ⟨b, off, x, y, rfl, _, hb, hc, hd, hx⟩ := Fracs.at_ (h.keeps kw) hlt
      have hi1 : (k : Int) < (n : Int) := by omega
      have fx := hid (pos_at HP.out (by omega) hx.out).1
      obtain ⟨r1, r2, r3, H5⟩ : ∃ r1 r2 r3, Hid (mkF (s1 * y + x * s2) (s2 * y) = (r1, r2, r3)) := ⟨_, _, _, rfl⟩
      have HS := hid ((saSt_at (a := s1) (b := s2) hx.out).trans H5.out)
      obtain ⟨ca6, cb6, fa6, fb6⟩ := id b4
      replace b2 := b2.keeps (keeps_alloc wr (.cells #[.int .i64 x, .int .i64 y] 31))
      replace b4 := b4.keeps (keeps_alloc wr (.cells #[.int .i64 x, .int .i64 y] 31))
      replace kw := Keeps.trans kw (keeps_alloc wr (.cells #[.int .i64 x, .int .i64 y] 31))
      have b6 : Bx (wr.alloc (.cells #[.int .i64 x, .int .i64 y] 31)) wr.heap.size x y := Bx.new' (by simp)
      obtain ⟨ca7, cb7, fa7, fb7⟩ := id b4
      obtain ⟨ca8, cb8, fa8, fb8⟩ := id b6
      go_wp2_with fail
      clear ca6 cb6 fa6 fb6 ca7 cb7 fa7 fb7 ca8 cb8 fa8 fb8
      refine (fAdd_any (fracB_qb HB.out) (fracB_qb fx.out)).mono ?_
      rintro e w9 ⟨rfl, k9⟩
      rw [H5.out]
      replace b2 := b2.keeps k9
      replace b4 := b4.keeps k9
      replace b6 := b6.keeps k9
      replace kw := Keeps.trans kw k9
      have lt10 := b6.lt
      have sz11 := kw.size
      clear k9
      cases r3
      · have HE := hid (accQ_fail HA.out (show saSt l k s1 s2 = (0, 0, false) from (saSt_fine _ _ _ _).bad HS.out) hlt)
        replace HF := hid (HF.out.trans HE.out)
        obtain ⟨ca12, cb12, fa12, fb12⟩ := id b2
        replace b2 := b2.keeps (keeps_alloc w9 (.cells #[.int .i64 r1, .int .i64 r2] 31))
        replace b4 := b4.keeps (keeps_alloc w9 (.cells #[.int .i64 r1, .int .i64 r2] 31))
        replace b6 := b6.keeps (keeps_alloc w9 (.cells #[.int .i64 r1, .int .i64 r2] 31))
        replace kw := Keeps.trans kw (keeps_alloc w9 (.cells #[.int .i64 r1, .int .i64 r2] 31))
        have b7 : Bx (w9.alloc (.cells #[.int .i64 r1, .int .i64 r2] 31)) w9.heap.size r1 r2 := Bx.new' (by simp)
        obtain ⟨ca13, cb13, fa13, fb13⟩ := id b2
        go_wp2_with fail
        clear ca12 cb12 fa12 fb12 ca13 cb13 fa13 fb13
        obtain ⟨ca0, cb0, fa0, fb0⟩ := id b2
        refine bodyPost_ret (v := .tuple #[.agg #[.int .i64 0, .int .i64 0], .bool false]) (by simp [results, Try.results221, go_sem, ca0, cb0]) rfl ⟨ret_fb (by rw [HF.out]) (by rw [HF.out]) (by rw [HF.out]), ?_⟩
        exact below_set2 kw (p := w.heap.size) (by omega) _ _
      · have fr := hid ((saSt_fine _ _ _ _).ok HS.out)
        obtain ⟨ca12, cb12, fa12, fb12⟩ := id b4
        replace b2 := b2.keeps (keeps_alloc w9 (.cells #[.int .i64 r1, .int .i64 r2] 31))
        replace b4 := b4.keeps (keeps_alloc w9 (.cells #[.int .i64 r1, .int .i64 r2] 31))
        replace b6 := b6.keeps (keeps_alloc w9 (.cells #[.int .i64 r1, .int .i64 r2] 31))
        replace kw := Keeps.trans kw (keeps_alloc w9 (.cells #[.int .i64 r1, .int .i64 r2] 31))
        have b7 : Bx (w9.alloc (.cells #[.int .i64 r1, .int .i64 r2] 31)) w9.heap.size r1 r2 := Bx.new' (by simp)
        obtain ⟨ca13, cb13, fa13, fb13⟩ := id b4
        obtain ⟨ca14, cb14, fa14, fb14⟩ := id b7
        replace b2 := b2.set2 (p := w1.heap.size) (by omega) (.int .i64 r1) (.int .i64 r2)
        replace b6 := b6.set2 (p := w1.heap.size) (by omega) (.int .i64 r1) (.int .i64 r2)
        replace b7 := b7.set2 (p := w1.heap.size) (by omega) (.int .i64 r1) (.int .i64 r2)
        replace b4 := b4.set r1 r2
        replace kw := below_set2 kw (p := w1.heap.size) (by omega) (.int .i64 r1) (.int .i64 r2)
        go_wp2_with fail
        clear ca12 cb12 fa12 fb12 ca13 cb13 fa13 fb13 ca14 cb14 fa14 fb14
        go_roundw
        case rel => exact ⟨k + 1, r1, r2, (by omega), (by go_num), accQ_next HA.out HS.out, fr.out, b2, b4, kw⟩
        case measure => simp [intOf]; omega
    · obtain rfl : k = n := by omega
      replace HF := hid (HF.out.trans HA.out)
      obtain ⟨ca6, cb6, fa6, fb6⟩ := id b2
      obtain ⟨ca7, cb7, fa7, fb7⟩ := id b4
      go_wp2_with fail
      clear ca6 cb6 fa6 fb6 ca7 cb7 fa7 fb7
      obtain ⟨ca0, cb0, fa0, fb0⟩ := id b2
      refine bodyPost_ret (v := .tuple #[.agg #[.int .i64 s1, .int .i64 s2], .bool true]) (by simp [results, Try.results221, go_sem, ca0, cb0]) rfl ⟨ret_fb (by rw [HF.out]) (by rw [HF.out]) (by rw [HF.out]), ?_⟩
      exact below_set2 kw (p := w.heap.size) (by omega) _ _
set_option maxHeartbeats 800000 in
theorem mSum_any {A : Option Addr} {lo hi n c : Nat} {l : List QQ} {w : World} (h : Fracs w lo hi A n l) (hp : l.all posQ = true) :
    Calls Try.prog 185 #[.slice A n c] w fun e w' => e = .returned (.tuple #[.agg #[.int .i64 (sumAll l).1, .int .i64 (sumAll l).2.1], .bool (sumAll l).2.2]) ∧ Keeps w w' := by
  have HP := hid hp
  clear hp
  obtain ⟨r1, r2, r3, HF⟩ : ∃ r1 r2 r3, Hid (sumAll l = (r1, r2, r3)) := ⟨_, _, _, rfl⟩
  go_enter Try.func185, Try.ntmps185
  have kw := keeps_refl w
  replace kw := Keeps.trans kw (keeps_alloc w (.cells #[.int .i64 0, .int .i64 0] 31))
  have b1 : Bx (w.alloc (.cells #[.int .i64 0, .int .i64 0] 31)) w.heap.size 0 0 := Bx.new' (by simp)
  go_wp2_with fail
  refine (fSum_any (h.keeps kw) HP.out).mono ?_
  rintro e w1 ⟨rfl, k1⟩
  rw [HF.out]
  replace b1 := b1.keeps k1
  replace kw := Keeps.trans kw k1
  have lt2 := b1.lt
  have sz3 := kw.size
  clear k1
  obtain ⟨ca4, cb4, fa4, fb4⟩ := id b1
  go_wp2_with fail
  clear ca4 cb4 fa4 fb4
  obtain ⟨ca0, cb0, fa0, fb0⟩ := id b1
  refine bodyPost_ret (v := .tuple #[.agg #[.int .i64 r1, .int .i64 r2], .bool r3]) (by simp [results, Try.results185, go_sem, ca0, cb0]) rfl ⟨ret_fb (by rw [HF.out]) (by rw [HF.out]) (by rw [HF.out]), ?_⟩
  exact below_set2 kw (p := w.heap.size) (by omega) _ _
set_option maxRecDepth 100000 in
set_option maxHeartbeats 1600000 in
theorem mRow_any {A : Option Addr} {lo hi n c : Nat} {l : List QQ} {w : World} (h : Fracs w lo hi A n l) :
    Calls Try.prog 109 #[.slice A n c] w fun e w' => e = .returned (.bool (distB l)) ∧ Keeps w w' := by
  have hn := h.le
  have hl := Fracs.len h
  go_enter Try.func109, Try.ntmps109
  have kw := keeps_refl w
  go_wp2_with fail
  go_loopw [9] (fun si wr => ∃ (k : Nat), k ≤ n ∧ si = .int .i64 k ∧ Hid (AllTo posQ l k) ∧ Keeps w wr) (fun si _ => n - (intOf si).toNat)
  case atStart => exact ⟨0, Nat.zero_le _, rfl, (fun j hj => absurd hj (by omega)), kw⟩
  clear kw  
  case round =>
    obtain ⟨k, hk, rfl, HP, kw⟩ := hrel
    have sz1 := kw.size
    by_cases hlt : k < n
    · obtain ⟨b, off, x, y, rfl, _, hb, hc, hd, hx⟩ := Fracs.at_ (h.keeps kw) hlt
      have hi1 : (k : Int) < (n : Int) := by omega
      replace kw := Keeps.trans kw (keeps_alloc wr (.cells #[.int .i64 x, .int .i64 y] 31))
      have b5 : Bx (wr.alloc (.cells #[.int .i64 x, .int .i64 y] 31)) wr.heap.size x y := Bx.new' (by simp)
      go_wp2_with fail
      obtain ⟨pH1, H1⟩ : ∃ p, Hid (fracB x y = p) := ⟨_, rfl⟩
      refine (fGood_any).mono ?_
      rintro e w2 ⟨rfl, k2⟩
      rw [H1.out]
      replace b5 := b5.keeps k2
      replace kw := Keeps.trans kw k2
      have lt3 := b5.lt
      have sz4 := kw.size
      clear k2
      cases pH1
      · have HF := hid (distB_no1 (all_no (p := posQ) (by omega) hx.out (posQ_no1 H1.out)))
        obtain ⟨ca5, cb5, fa5, fb5⟩ := id b5
        go_wp2_with fail
        clear ca5 cb5 fa5 fb5
        go_ret
        exact ⟨ret_bool (HF.out.symm), kw⟩
      · skip
        by_cases h0 : 0 ≤ x
        rotate_left
        · have hx0 : x < 0 := by omega
          have HF := hid (distB_no1 (all_no (p := posQ) (by omega) hx.out (posQ_no2 (by omega))))
          obtain ⟨ca5, cb5, fa5, fb5⟩ := id b5
          go_wp2_with fail
          clear ca5 cb5 fa5 fb5
          go_ret
          exact ⟨ret_bool (HF.out.symm), kw⟩
        have HP2 := hid (allTo_succ HP.out hx.out (posQ_true.2 ⟨H1.out, h0⟩))
        have hx0 : ¬ x < 0 := by omega
        obtain ⟨ca5, cb5, fa5, fb5⟩ := id b5
        go_wp2_with fail
        clear ca5 cb5 fa5 fb5
        go_roundw
        case rel => exact ⟨k + 1, (by omega), (by go_num), HP2.out, kw⟩
        case measure => simp [intOf]; omega
    · obtain rfl : k = n := by omega
      have HA := hid (show l.all posQ = true from all_true.2 (by rw [hl]; exact HP.out))
      obtain ⟨r1, r2, r3, HE⟩ : ∃ r1 r2 r3, Hid (sumAll l = (r1, r2, r3)) := ⟨_, _, _, rfl⟩
      go_wp2_with fail
      refine (mSum_any (h.keeps kw) HA.out).mono ?_
      rintro e w2 ⟨rfl, k2⟩
      rw [HE.out]
      replace kw := Keeps.trans kw k2
      have sz3 := kw.size
      clear k2
      cases r3
      · have HF := hid (distB_no2 (l := l) (by rw [HE.out]; simp))
        replace kw := Keeps.trans kw (keeps_alloc w2 (.cells #[.int .i64 r1, .int .i64 r2] 31))
        have b5 : Bx (w2.alloc (.cells #[.int .i64 r1, .int .i64 r2] 31)) w2.heap.size r1 r2 := Bx.new' (by simp)
        go_wp2_with fail
        go_quiet (fail)
        go_wp2_with fail
        go_ret
        exact ⟨ret_bool (HF.out.symm), Keeps.trans kw (Keeps.drewN _ _)⟩
      · replace kw := Keeps.trans kw (keeps_alloc w2 (.cells #[.int .i64 r1, .int .i64 r2] 31))
        have b5 : Bx (w2.alloc (.cells #[.int .i64 r1, .int .i64 r2] 31)) w2.heap.size r1 r2 := Bx.new' (by simp)
        go_wp2_with fail
        obtain ⟨ca1, cb1, -, -⟩ := id b5
        have kS := hid (show ∀ w', Keeps (w2.alloc (.cells #[.int .i64 r1, .int .i64 r2] 31)) w' → (w'.cell? ⟨w2.heap.size, 0, none⟩ = some (.int .i64 r1) ∧ w'.cell? ⟨w2.heap.size, 1, none⟩ = some (.int .i64 r2)) from fun w' k => ⟨cell_keeps ca1 k, cell_keeps cb1 k⟩)
        by_cases hx1 : r1 = 1
        rotate_left
        · have t3 : (r1 == 1) = false := by rw [beq_eq_false_iff_ne]; assumption
          have HF := hid (distB_no2 (l := l) (by rw [HE.out]; simp; omega))
          go_region_held3 (fun w' => w'.cell? ⟨w2.heap.size, 0, none⟩ = some (.int .i64 r1) ∧ w'.cell? ⟨w2.heap.size, 1, none⟩ = some (.int .i64 r2)) (first | with_reducible exact kS.out _ (keeps_d0 _) | with_reducible exact kS.out _ kW | go_keep)
            ((first | (go_at_call 91; refine (fInt_any).mono ?_; rintro e wB ⟨rfl, kB⟩; have kW : Keeps (w2.alloc (.cells #[.int .i64 r1, .int .i64 r2] 31)) wB := keeps_d kB; clear kB)))
          clear kS
          go_wp2_with fail
          go_ret
          exact ⟨ret_bool (HF.out.symm), Keeps.trans kw kW⟩
        subst hx1
        by_cases hx2 : r2 = 1
        rotate_left
        · have t3 : (r2 == 1) = false := by rw [beq_eq_false_iff_ne]; assumption
          have HF := hid (distB_no2 (l := l) (by rw [HE.out]; simp; omega))
          go_region_held3 (fun w' => w'.cell? ⟨w2.heap.size, 0, none⟩ = some (.int .i64 1) ∧ w'.cell? ⟨w2.heap.size, 1, none⟩ = some (.int .i64 r2)) (first | with_reducible exact kS.out _ (keeps_d0 _) | with_reducible exact kS.out _ kW | go_keep)
            ((first | (go_at_call 91; refine (fInt_any).mono ?_; rintro e wB ⟨rfl, kB⟩; have kW : Keeps (w2.alloc (.cells #[.int .i64 1, .int .i64 r2] 31)) wB := keeps_d kB; clear kB)))
          clear kS
          go_wp2_with fail
          go_ret
          exact ⟨ret_bool (HF.out.symm), Keeps.trans kw kW⟩
        subst hx2
        have HF := hid (distB_yes HA.out HE.out)
        go_region_held3 (fun w' => w'.cell? ⟨w2.heap.size, 0, none⟩ = some (.int .i64 1) ∧ w'.cell? ⟨w2.heap.size, 1, none⟩ = some (.int .i64 1)) (first | with_reducible exact kS.out _ (keeps_d0 _) | with_reducible exact kS.out _ kW | go_keep)
          ((first | (go_at_call 91; refine (fInt_any).mono ?_; rintro e wB ⟨rfl, kB⟩; have kW : Keeps (w2.alloc (.cells #[.int .i64 1, .int .i64 1] 31)) wB := keeps_d kB; clear kB)))
        clear kS
        go_wp2_with fail
        go_ret
        exact ⟨ret_bool (HF.out.symm), Keeps.trans kw kW⟩
set_option maxRecDepth 100000 in
set_option maxHeartbeats 1600000 in
theorem IsMechanism_any {A : Option Addr} {lo hi n c : Nat} {ll : List (List QQ)} {w : World} (h : FRows w lo hi A n ll) :
    Calls Try.prog 22 #[.agg #[.slice A n c]] w fun e w' => e = .returned (.bool (mechB ll)) ∧ Keeps w w' := by
  have hn := h.le
  have hl := h.len
  go_enter Try.func22, Try.ntmps22
  have kw := keeps_refl w
  replace kw := Keeps.trans kw (keeps_alloc w (.cells #[.slice A n c] 25))
  have b1 : B1 (w.alloc (.cells #[.slice A n c] 25)) w.heap.size (.slice A n c) := B1.new' (by simp)
  by_cases hn1 : 1 ≤ n
  rotate_left
  · have i1 : (n : Int) < 1 := by omega
    have H1 := hid (show inB (n : Int) 1 8 = false from inB_false.2 (by omega))
    have HF := hid (mechB_no (ll := ll) (by rw [hl, H1.out]; simp))
    obtain ⟨ca1, fa1⟩ := id b1
    go_wp2_with fail
    clear ca1 fa1
    go_ret
    exact ⟨ret_bool (HF.out.symm), kw⟩
  by_cases hn8 : n ≤ 8
  rotate_left
  · have i1 : ¬ (n : Int) < 1 := by omega
    have i2 : (8 : Int) < (n : Int) := by omega
    have H1 := hid (show inB (n : Int) 1 8 = false from inB_false.2 (by omega))
    have HF := hid (mechB_no (ll := ll) (by rw [hl, H1.out]; simp))
    obtain ⟨ca1, fa1⟩ := id b1
    go_wp2_with fail
    clear ca1 fa1
    go_ret
    exact ⟨ret_bool (HF.out.symm), kw⟩
  have H1 := hid (show inB (n : Int) 1 8 = true from inB_true.2 (by omega))
  have h18 := inB_true.1 H1.out
  have i1 : ¬ (n : Int) < 1 := by omega
  have i2 : ¬ (8 : Int) < (n : Int) := by omega
  have i0 : (0 : Int) < (n : Int) := by omega
  obtain ⟨b, off, A1, m, c1, rfl, hlb, hub, hc0, hr0⟩ := (h.keeps kw).head (by omega)
  have hm := hr0.le
  have hml := Fracs.len hr0
  by_cases hm1 : 1 ≤ m
  rotate_left
  · have j1 : (m : Int) < 1 := by omega
    have H2 := hid (show inB (m : Int) 1 24 = false from inB_false.2 (by omega))
    have HF := hid (mechB_no (ll := ll) (by rw [hml, H2.out]; simp))
    obtain ⟨ca1, fa1⟩ := id b1
    go_wp2_with fail
    clear ca1 fa1
    go_ret
    exact ⟨ret_bool (HF.out.symm), kw⟩
  by_cases hm24 : m ≤ 24
  rotate_left
  · have j1 : ¬ (m : Int) < 1 := by omega
    have j2 : (24 : Int) < (m : Int) := by omega
    have H2 := hid (show inB (m : Int) 1 24 = false from inB_false.2 (by omega))
    have HF := hid (mechB_no (ll := ll) (by rw [hml, H2.out]; simp))
    obtain ⟨ca1, fa1⟩ := id b1
    go_wp2_with fail
    clear ca1 fa1
    go_ret
    exact ⟨ret_bool (HF.out.symm), kw⟩
  have H2 := hid (show inB (m : Int) 1 24 = true from inB_true.2 (by omega))
  have h124 := inB_true.1 H2.out
  have j1 : ¬ (m : Int) < 1 := by omega
  have j2 : ¬ (24 : Int) < (m : Int) := by omega
  obtain ⟨ca1, fa1⟩ := id b1
  go_wp2_with fail
  clear ca1 fa1
  have HML := hid hml
  clear hml hc0 hr0
  go_loopw [34] (fun si wr => ∃ (k : Nat), k ≤ n ∧ si = .int .i64 k ∧ Hid (AllR (rowB ll) ll k) ∧ B1 wr w.heap.size (.slice (some ⟨b, off, none⟩) n c) ∧ Keeps w wr) (fun si _ => n - (intOf si).toNat)
  case atStart => exact ⟨0, Nat.zero_le _, rfl, (fun j hj => absurd hj (by omega)), b1, kw⟩
  clear kw b1 
  case round =>
    obtain ⟨k, hk, rfl, HP, b1, kw⟩ := hrel
    have lt2 := b1.lt
    have sz3 := kw.size
    by_cases hlt : k < n
    · obtain ⟨b', off', A2, m2, c2, e2, _, _, hck, hrk⟩ := (h.keeps kw).at_ hlt
      obtain ⟨rfl, rfl⟩ : b = b' ∧ off = off' := by simpa using e2
      clear e2
      obtain ⟨b', off', A3, m3, c3, e2, _, _, hc0, hr0⟩ := (h.keeps kw).head (by omega)
      obtain ⟨rfl, rfl⟩ : b = b' ∧ off = off' := by simpa using e2
      clear e2
      have hm2 := Fracs.len hrk
      obtain rfl : m3 = m := (Fracs.len hr0).symm.trans HML.out
      have hm2l := hrk.le
      have hi1 : (k : Int) < (n : Int) := by omega
      have HM2 := hid hm2
      clear hm2
      by_cases hmm : m2 = m3
      rotate_left
      · have HN := hid (mechB_no (ll := ll) (fun hh => by have := allR_all.1 hh.2.2 k (by omega); have q := rowB_len this; have e := HM2.out; have e1 := HML.out; omega))
        have t1 : ((m2 : Int) != (m3 : Int)) = true := by rw [bne_iff_ne]; omega
        obtain ⟨ca4, fa4⟩ := id b1
        go_wp2_with fail
        clear ca4 fa4
        go_ret
        exact ⟨ret_bool (HN.out.symm), kw⟩
      obtain rfl : m3 = m2 := hmm.symm
      have t1 : ((m3 : Int) != (m3 : Int)) = false := by simp
      obtain ⟨ca4, fa4⟩ := id b1
      go_wp2_with fail
      clear ca4 fa4
      obtain ⟨pH3, H3⟩ : ∃ p, Hid (distB (ll.getD k []) = p) := ⟨_, rfl⟩
      refine (isDistribution_any hrk).mono ?_
      rintro e w5 ⟨rfl, k5⟩
      rw [H3.out]
      replace b1 := b1.keeps k5
      replace kw := Keeps.trans kw k5
      have lt6 := b1.lt
      have sz7 := kw.size
      clear k5
      cases pH3
      · have HN := hid (mechB_no (ll := ll) (fun hh => by have := allR_all.1 hh.2.2 k (by omega); simp only [rowB, H3.out, Bool.and_false] at this; cases this))
        obtain ⟨ca8, fa8⟩ := id b1
        go_wp2_with fail
        clear ca8 fa8
        go_ret
        exact ⟨ret_bool (HN.out.symm), kw⟩
      · skip
        have HP2 := hid (allR_succ HP.out (show rowB ll (ll.getD k []) = true by unfold rowB; rw [H3.out, HM2.out, HML.out]; simp))
        go_wp2_with fail
        go_roundw
        case rel => exact ⟨k + 1, (by omega), (by go_num), HP2.out, b1, kw⟩
        case measure => simp [intOf]; omega
    · obtain rfl : k = n := by omega
      have HF := hid (mechB_true.2 ⟨by rw [hl]; exact H1.out, by rw [HML.out]; exact H2.out, allR_all.2 (by rw [hl]; exact HP.out)⟩)
      go_wp2_with fail
      go_ret
      exact ⟨ret_bool (HF.out.symm), kw⟩
set_option maxRecDepth 100000 in
set_option maxHeartbeats 1600000 in
theorem mGood_any {A : Option Addr} {lo hi n c : Nat} {ll : List (List QQ)} {w : World} (h : FRows w lo hi A n ll) :
    Calls Try.prog 90 #[.agg #[.slice A n c]] w fun e w' => e = .returned (.bool (mechB ll)) ∧ Keeps w w' := by
  have hn := h.le
  have hl := h.len
  go_enter Try.func90, Try.ntmps90
  have kw := keeps_refl w
  replace kw := Keeps.trans kw (keeps_alloc w (.cells #[.slice A n c] 25))
  have b1 : B1 (w.alloc (.cells #[.slice A n c] 25)) w.heap.size (.slice A n c) := B1.new' (by simp)
  obtain ⟨ca1, fa1⟩ := id b1
  go_wp2_with fail
  clear ca1 fa1
  obtain ⟨pH1, H1⟩ : ∃ p, Hid (inB (n : Int) 1 8 = p) := ⟨_, rfl⟩
  refine (l1In_any _ _ _ _).mono ?_
  rintro e w' ⟨rfl, rfl⟩
  rw [H1.out]
  cases pH1
  · have HF := hid (mechB_no (ll := ll) (by rw [hl, H1.out]; simp))
    obtain ⟨ca2, fa2⟩ := id b1
    go_wp2_with fail
    clear ca2 fa2
    go_ret
    exact ⟨ret_bool (HF.out.symm), kw⟩
  · skip
    have h18 := inB_true.1 H1.out
    have i0 : (0 : Int) < (n : Int) := by omega
    obtain ⟨b, off, A1, m, c1, rfl, hlb, hub, hc0, hr0⟩ := (h.keeps kw).head (by omega)
    have hm := hr0.le
    have hml := Fracs.len hr0
    obtain ⟨ca2, fa2⟩ := id b1
    go_wp2_with fail
    clear ca2 fa2
    obtain ⟨pH2, H2⟩ : ∃ p, Hid (inB (m : Int) 1 24 = p) := ⟨_, rfl⟩
    refine (l1In_any _ _ _ _).mono ?_
    rintro e w' ⟨rfl, rfl⟩
    rw [H2.out]
    cases pH2
    · have HF := hid (mechB_no (ll := ll) (by rw [hml, H2.out]; simp))
      obtain ⟨ca3, fa3⟩ := id b1
      go_wp2_with fail
      clear ca3 fa3
      go_ret
      exact ⟨ret_bool (HF.out.symm), kw⟩
    · skip
      have h124 := inB_true.1 H2.out
      obtain ⟨ca3, fa3⟩ := id b1
      go_wp2_with fail
      clear ca3 fa3
      have HML := hid hml
      clear hml hc0 hr0
      go_loopw [22] (fun si wr => ∃ (k : Nat), k ≤ n ∧ si = .int .i64 k ∧ Hid (AllR (rowB ll) ll k) ∧ B1 wr w.heap.size (.slice (some ⟨b, off, none⟩) n c) ∧ Keeps w wr) (fun si _ => n - (intOf si).toNat)
      case atStart => exact ⟨0, Nat.zero_le _, rfl, (fun j hj => absurd hj (by omega)), b1, kw⟩
      clear kw b1 
      case round =>
        obtain ⟨k, hk, rfl, HP, b1, kw⟩ := hrel
        have lt4 := b1.lt
        have sz5 := kw.size
        by_cases hlt : k < n
        · obtain ⟨b', off', A2, m2, c2, e2, _, _, hck, hrk⟩ := (h.keeps kw).at_ hlt
          obtain ⟨rfl, rfl⟩ : b = b' ∧ off = off' := by simpa using e2
          clear e2
          obtain ⟨b', off', A3, m3, c3, e2, _, _, hc0, hr0⟩ := (h.keeps kw).head (by omega)
          obtain ⟨rfl, rfl⟩ : b = b' ∧ off = off' := by simpa using e2
          clear e2
          have hm2 := Fracs.len hrk
          obtain rfl : m3 = m := (Fracs.len hr0).symm.trans HML.out
          have hm2l := hrk.le
          have hi1 : (k : Int) < (n : Int) := by omega
          have HM2 := hid hm2
          clear hm2
          by_cases hmm : m2 = m3
          rotate_left
          · have HN := hid (mechB_no (ll := ll) (fun hh => by have := allR_all.1 hh.2.2 k (by omega); have q := rowB_len this; have e := HM2.out; have e1 := HML.out; omega))
            have t1 : ((m2 : Int) != (m3 : Int)) = true := by rw [bne_iff_ne]; omega
            obtain ⟨ca6, fa6⟩ := id b1
            go_wp2_with fail
            clear ca6 fa6
            go_ret
            exact ⟨ret_bool (HN.out.symm), kw⟩
          obtain rfl : m3 = m2 := hmm.symm
          have t1 : ((m3 : Int) != (m3 : Int)) = false := by simp
          obtain ⟨ca6, fa6⟩ := id b1
          go_wp2_with fail
          clear ca6 fa6
          obtain ⟨pH3, H3⟩ : ∃ p, Hid (distB (ll.getD k []) = p) := ⟨_, rfl⟩
          refine (mRow_any hrk).mono ?_
          rintro e w7 ⟨rfl, k7⟩
          rw [H3.out]
          replace b1 := b1.keeps k7
          replace kw := Keeps.trans kw k7
          have lt8 := b1.lt
          have sz9 := kw.size
          clear k7
          cases pH3
          · have HN := hid (mechB_no (ll := ll) (fun hh => by have := allR_all.1 hh.2.2 k (by omega); simp only [rowB, H3.out, Bool.and_false] at this; cases this))
            obtain ⟨ca10, fa10⟩ := id b1
            go_wp2_with fail
            clear ca10 fa10
            go_ret
            exact ⟨ret_bool (HN.out.symm), kw⟩
          · skip
            have HP2 := hid (allR_succ HP.out (show rowB ll (ll.getD k []) = true by unfold rowB; rw [H3.out, HM2.out, HML.out]; simp))
            go_wp2_with fail
            go_roundw
            case rel => exact ⟨k + 1, (by omega), (by go_num), HP2.out, b1, kw⟩
            case measure => simp [intOf]; omega
        · obtain rfl : k = n := by omega
          have HF := hid (mechB_true.2 ⟨by rw [hl]; exact H1.out, by rw [HML.out]; exact H2.out, allR_all.2 (by rw [hl]; exact HP.out)⟩)
          go_wp2_with fail
          go_ret
          exact ⟨ret_bool (HF.out.symm), kw⟩
set_option maxHeartbeats 800000 in
theorem isInput_any {A : Option Addr} {n c : Nat} {i : Int} {w : World} (hn : n ≤ 67108864) :
    Calls Try.prog 98 #[.agg #[.slice A n c], .int .i64 i] w fun e w' => e = .returned (.bool (inB i 0 ((n : Int) - 1))) ∧ Keeps w w' := by
  by_cases h1 : 0 ≤ i
  · by_cases h2 : i < (n : Int)
    · have HF := hid (show inB i 0 ((n : Int) - 1) = true from inB_true.2 (by omega))
      go_enter Try.func98, Try.ntmps98
      go_wp2
      go_ret
      exact ⟨ret_bool HF.out.symm, keeps_alloc _ _⟩
    · have HF := hid (show inB i 0 ((n : Int) - 1) = false from inB_false.2 (by omega))
      go_enter Try.func98, Try.ntmps98
      go_wp2
      go_ret
      exact ⟨ret_bool HF.out.symm, keeps_alloc _ _⟩
  · have HF := hid (show inB i 0 ((n : Int) - 1) = false from inB_false.2 (by omega))
    go_enter Try.func98, Try.ntmps98
    go_wp2
    go_ret
    exact ⟨ret_bool HF.out.symm, keeps_alloc _ _⟩
set_option maxRecDepth 100000 in
set_option maxHeartbeats 1600000 in
theorem mInput_any {A : Option Addr} {lo hi n c : Nat} {ll : List (List QQ)} {w : World} (h : FRows w lo hi A n ll) {i k : Int} :
    Calls Try.prog 102 #[.agg #[.slice A n c], .int .i64 i, .int .i64 k] w fun e w' => e = .returned (.bool (mechB ll && inB i 0 ((n : Int) - 1) && inB k 0 ((n : Int) - 1))) ∧ Keeps w w' := by
  have hn := h.le
  have hl := h.len
  go_enter Try.func102, Try.ntmps102
  have kw := keeps_refl w
  replace kw := Keeps.trans kw (keeps_alloc w (.cells #[.slice A n c] 25))
  have b3 : B1 (w.alloc (.cells #[.slice A n c] 25)) w.heap.size (.slice A n c) := B1.new' (by simp)
  obtain ⟨ca1, fa1⟩ := id b3
  go_wp2_with fail
  clear ca1 fa1
  obtain ⟨pH1, H1⟩ : ∃ p, Hid (mechB ll = p) := ⟨_, rfl⟩
  refine (mGood_any (h.keeps kw)).mono ?_
  rintro e w2 ⟨rfl, k2⟩
  rw [H1.out]
  replace b3 := b3.keeps k2
  replace kw := Keeps.trans kw k2
  have lt3 := b3.lt
  have sz4 := kw.size
  clear k2
  cases pH1
  · have HF := hid (show (mechB ll && inB i 0 ((n : Int) - 1) && inB k 0 ((n : Int) - 1)) = false by rw [H1.out]; rfl)
    obtain ⟨ca5, fa5⟩ := id b3
    go_wp2_with fail
    clear ca5 fa5
    go_ret
    exact ⟨ret_bool (HF.out.symm), kw⟩
  · skip
    obtain ⟨ca5, fa5⟩ := id b3
    go_wp2_with fail
    clear ca5 fa5
    obtain ⟨pH2, H2⟩ : ∃ p, Hid (inB i 0 ((n : Int) - 1) = p) := ⟨_, rfl⟩
    refine (l1In_any _ _ _ _).mono ?_
    rintro e w' ⟨rfl, rfl⟩
    rw [H2.out]
    cases pH2
    · have HF := hid (show (mechB ll && inB i 0 ((n : Int) - 1) && inB k 0 ((n : Int) - 1)) = false by rw [H1.out, H2.out]; rfl)
      obtain ⟨ca6, fa6⟩ := id b3
      go_wp2_with fail
      clear ca6 fa6
      go_ret
      exact ⟨ret_bool (HF.out.symm), kw⟩
    · skip
      obtain ⟨ca6, fa6⟩ := id b3
      go_wp2_with fail
      clear ca6 fa6
      obtain ⟨pH3, H3⟩ : ∃ p, Hid (inB k 0 ((n : Int) - 1) = p) := ⟨_, rfl⟩
      refine (l1In_any _ _ _ _).mono ?_
      rintro e w' ⟨rfl, rfl⟩
      rw [H3.out]
      cases pH3
      · have HF := hid (show (mechB ll && inB i 0 ((n : Int) - 1) && inB k 0 ((n : Int) - 1)) = false by rw [H1.out, H2.out, H3.out]; rfl)
        obtain ⟨ca7, fa7⟩ := id b3
        go_wp2_with fail
        clear ca7 fa7
        go_ret
        exact ⟨ret_bool (HF.out.symm), kw⟩
      · skip
        have HF := hid (show (mechB ll && inB i 0 ((n : Int) - 1) && inB k 0 ((n : Int) - 1)) = true by rw [H1.out, H2.out, H3.out]; rfl)
        go_wp2_with fail
        go_ret
        exact ⟨ret_bool (HF.out.symm), kw⟩
end Go.Proofs.Ytnopedjgagoahaa
