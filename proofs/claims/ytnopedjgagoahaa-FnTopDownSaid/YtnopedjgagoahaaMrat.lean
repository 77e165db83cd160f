/- RowRatio, NeighbourRatio: of the reference and of the program. -/
import Derived.Test.YtnopedjgagoahaaMgood
namespace Go.Proofs.Ytnopedjgagoahaa
open Go.RowKit
set_option linter.unusedVariables false
set_option linter.unusedSimpArgs false

/-- The greatest quotient so far and the next one. -/
def rrSt (r s : List QQ) (k : Nat) (a b : Int) : Int × Int × Bool :=
  if (s.getD k (0, 0)).1 = 0 then (if 0 < (r.getD k (0, 0)).1 then (0, 0, false) else (a, b, true))
  else if (mkF ((r.getD k (0, 0)).1 * (s.getD k (0, 0)).2) ((r.getD k (0, 0)).2 * (s.getD k (0, 0)).1)).2.2 = true then
    ((maxQ (a, b) ((mkF ((r.getD k (0, 0)).1 * (s.getD k (0, 0)).2) ((r.getD k (0, 0)).2 * (s.getD k (0, 0)).1)).1, (mkF ((r.getD k (0, 0)).1 * (s.getD k (0, 0)).2) ((r.getD k (0, 0)).2 * (s.getD k (0, 0)).1)).2.1)).1,
     (maxQ (a, b) ((mkF ((r.getD k (0, 0)).1 * (s.getD k (0, 0)).2) ((r.getD k (0, 0)).2 * (s.getD k (0, 0)).1)).1, (mkF ((r.getD k (0, 0)).1 * (s.getD k (0, 0)).2) ((r.getD k (0, 0)).2 * (s.getD k (0, 0)).1)).2.1)).2, true)
  else (0, 0, false)
section
variable {r s : List QQ} {k : Nat} {a b x y u v q1 q2 : Int}
theorem rrSt_skip (hx : (x, y) = r.getD k (0, 0)) (hu : (u, v) = s.getD k (0, 0)) (h : u = 0) (h1 : ¬ 0 < x) : rrSt r s k a b = (a, b, true) := by
  unfold rrSt; rw [← hx, ← hu]; simp [h]; omega
theorem rrSt_bad (hx : (x, y) = r.getD k (0, 0)) (hu : (u, v) = s.getD k (0, 0)) (h : u = 0) (h1 : 0 < x) : rrSt r s k a b = (0, 0, false) := by
  unfold rrSt; rw [← hx, ← hu]; simp [h, h1]
theorem rrSt_no (hx : (x, y) = r.getD k (0, 0)) (hu : (u, v) = s.getD k (0, 0)) (h : ¬ u = 0) (e : mkF (x * v) (y * u) = (q1, q2, false)) : rrSt r s k a b = (0, 0, false) := by
  unfold rrSt; rw [← hx, ← hu]; simp [h, e]
theorem rrSt_yes (hx : (x, y) = r.getD k (0, 0)) (hu : (u, v) = s.getD k (0, 0)) (h : ¬ u = 0) (e : mkF (x * v) (y * u) = (q1, q2, true)) : rrSt r s k a b = ((maxQ (a, b) (q1, q2)).1, (maxQ (a, b) (q1, q2)).2, true) := by
  unfold rrSt; rw [← hx, ← hu]; simp [h, e]
end
theorem maxQ_new {a b c d : Int} (h : cmpQ c d a b > 0) : maxQ (a, b) (c, d) = (c, d) := by
  unfold maxQ; rw [if_pos]
  show cmpQ a b c d < 0
  unfold cmpQ at *; split at h
  · omega
  · split at h
    · rename_i h1; rw [if_pos h1]; omega
    · omega
theorem maxQ_old {a b c d : Int} (h : ¬ cmpQ c d a b > 0) : maxQ (a, b) (c, d) = (a, b) := by
  unfold maxQ; rw [if_neg]
  show ¬ cmpQ a b c d < 0
  intro h1
  apply h
  unfold cmpQ at *; split at h1
  · rename_i h2; rw [if_neg (by omega), if_pos h2]; omega
  · split at h1 <;> omega
theorem maxQ_frac {a b c d : Int} (h : fracB a b = true) (k : fracB c d = true) : fracB (maxQ (a, b) (c, d)).1 (maxQ (a, b) (c, d)).2 = true := by
  unfold maxQ; split
  · exact k
  · exact h
def rrQ (r s : List QQ) : Int × Int × Bool := accQ (rrSt r s) 0 1 r.length
theorem rrSt_fine {r s : List QQ} {k : Nat} {a b : Int} (h : fracB a b = true) : Fine (rrSt r s k a b) := by
  unfold rrSt
  refine Fine.ite (Fine.ite Fine.no (Fine.yes h)) ?_
  split
  · rename_i h1; exact Fine.yes (maxQ_frac h (mkF_ok h1))
  · exact Fine.no
theorem accQ_fine {st : Nat → Int → Int → Int × Int × Bool} {a b : Int} (h0 : fracB a b = true) (h : ∀ k x y, fracB x y = true → Fine (st k x y)) (n : Nat) : Fine (accQ st a b n) := by
  induction n with
  | zero => exact Fine.yes h0
  | succ n ih =>
    simp only [accQ]
    split
    · rename_i h1; exact h _ _ _ (ih.1 h1)
    · exact Fine.no
theorem rrQ_fine (r s : List QQ) : Fine (rrQ r s) := accQ_fine fracB_01 (fun _ _ _ h => rrSt_fine h) _

set_option maxRecDepth 100000 in
set_option maxHeartbeats 3200000 in
theorem rowRatio_any {A : Option Addr} {lo hi n c : Nat} {ll : List (List QQ)} {w : World} (h : FRows w lo hi A n ll) (hg : mechB ll = true) {i k : Nat} (hi : i < n) (hk : k < n) :
    Calls Try.prog 107 #[.agg #[.slice A n c], .int .i64 (i : Int), .int .i64 (k : Int)] w fun e w' => e = .returned (.tuple #[.agg #[.int .i64 (rrQ (ll.getD i []) (ll.getD k [])).1, .int .i64 (rrQ (ll.getD i []) (ll.getD k [])).2.1], .bool (rrQ (ll.getD i []) (ll.getD k [])).2.2]) ∧ Keeps w w' := by
  have hn := h.le
  have hl := h.len
  obtain ⟨b, off, A1, m, c1, rfl, _, _, hci, hri⟩ := h.at_ hi
  obtain ⟨b', off', A2, m2, c2, e2, _, _, hck, hrk⟩ := h.at_ hk
  obtain ⟨rfl, rfl⟩ : b = b' ∧ off = off' := by simpa using e2
  clear e2
  have hml := Fracs.len hri
  have hml2 := Fracs.len hrk
  have hmm := (mechB_row hg (i := i) (by omega)).1
  have hmm2 := (mechB_row hg (i := k) (by omega)).1
  obtain rfl : m = m2 := by omega
  obtain ⟨r, HR⟩ : ∃ r, Hid (ll.getD i [] = r) := ⟨_, rfl⟩
  obtain ⟨s, HS⟩ : ∃ s, Hid (ll.getD k [] = s) := ⟨_, rfl⟩
  have HG := hid hg
  rw [HR.out] at hri hml
  rw [HS.out] at hrk hml2
  rw [HR.out, HS.out]
  have hmle := hri.le
  have HF := hid (show rrQ r s = accQ (rrSt r s) 0 1 m by unfold rrQ; rw [hml])
  have hfr : ∀ j x y, j < m → (x, y) = r.getD j (0, 0) → fracB x y = true := fun j x y hj hx => (mechB_at hg (i := i) (k := j) (by omega) (by rw [HR.out]; omega) (by rw [HR.out]; exact hx)).1
  have HFR := hid hfr
  clear hfr
  have hfs : ∀ j x y, j < m → (x, y) = s.getD j (0, 0) → fracB x y = true := fun j x y hj hx => (mechB_at hg (i := k) (k := j) (by omega) (by rw [HS.out]; omega) (by rw [HS.out]; exact hx)).1
  have HFS := hid hfs
  clear hfs hg hmm hmm2
  have hi1 : (i : Int) < (n : Int) := by omega
  have hi2 : (k : Int) < (n : Int) := by omega
  go_enter Try.func107, Try.ntmps107
  have kw := keeps_refl w
  replace kw := Keeps.trans kw (keeps_alloc w (.cells #[.slice (some ⟨b, off, none⟩) n c] 25))
  have b3 : B1 (w.alloc (.cells #[.slice (some ⟨b, off, none⟩) n c] 25)) w.heap.size (.slice (some ⟨b, off, none⟩) n c) := B1.new' (by simp)
  replace b3 := b3.keeps (keeps_alloc (w.alloc (.cells #[.slice (some ⟨b, off, none⟩) n c] 25)) (.cells #[.int .i64 0, .int .i64 0] 31))
  replace kw := Keeps.trans kw (keeps_alloc (w.alloc (.cells #[.slice (some ⟨b, off, none⟩) n c] 25)) (.cells #[.int .i64 0, .int .i64 0] 31))
  have b6 : Bx ((w.alloc (.cells #[.slice (some ⟨b, off, none⟩) n c] 25)).alloc (.cells #[.int .i64 0, .int .i64 0] 31)) (w.heap.size + 1) 0 0 := Bx.new' (by simp)
  replace b3 := b3.keeps (keeps_alloc ((w.alloc (.cells #[.slice (some ⟨b, off, none⟩) n c] 25)).alloc (.cells #[.int .i64 0, .int .i64 0] 31)) (.cells #[.int .i64 0, .int .i64 1] 31))
  replace b6 := b6.keeps (keeps_alloc ((w.alloc (.cells #[.slice (some ⟨b, off, none⟩) n c] 25)).alloc (.cells #[.int .i64 0, .int .i64 0] 31)) (.cells #[.int .i64 0, .int .i64 1] 31))
  replace kw := Keeps.trans kw (keeps_alloc ((w.alloc (.cells #[.slice (some ⟨b, off, none⟩) n c] 25)).alloc (.cells #[.int .i64 0, .int .i64 0] 31)) (.cells #[.int .i64 0, .int .i64 1] 31))
  have b8 : Bx (((w.alloc (.cells #[.slice (some ⟨b, off, none⟩) n c] 25)).alloc (.cells #[.int .i64 0, .int .i64 0] 31)).alloc (.cells #[.int .i64 0, .int .i64 1] 31)) (w.heap.size + 1 + 1) 0 1 := Bx.new' (by simp)
  obtain ⟨ca1, fa1⟩ := id b3
  have ci := cell_keeps hci kw
  go_wp2_with fail
  clear ca1 fa1
  clear ci
  go_loopw [21] (fun si wr => ∃ (q : Nat) (s1 : Int) (s2 : Int), q ≤ m ∧ si = .int .i64 q ∧ Hid (accQ (rrSt r s) 0 1 q = (s1, s2, true)) ∧ Hid (fracB s1 s2 = true) ∧ B1 wr w.heap.size (.slice (some ⟨b, off, none⟩) n c) ∧ Bx wr (w.heap.size + 1) 0 0 ∧ Bx wr (w.heap.size + 1 + 1) s1 s2 ∧ Keeps w wr) (fun si _ => m - (intOf si).toNat)
  case atStart => exact ⟨0, 0, 1, Nat.zero_le _, rfl, rfl, fracB_01, b3, b6, b8, kw⟩
  clear kw b3 b6 b8 
  case round =>
    obtain ⟨q, s1, s2, hq, rfl, HA, HB, b3, b6, b8, kw⟩ := hrel
    have lt2 := b8.lt
    have sz3 := kw.size
    by_cases hlt : q < m
    · obtain ⟨ba, oa, x, y, rfl, _, hb, hc, hd, hx⟩ := Fracs.at_ (Sl.keeps hri kw) hlt
      have hq : (q : Int) < (m : Int) := by omega
      replace b3 := b3.keeps (keeps_alloc wr (.cells #[.int .i64 x, .int .i64 y] 31))
      replace b6 := b6.keeps (keeps_alloc wr (.cells #[.int .i64 x, .int .i64 y] 31))
      replace b8 := b8.keeps (keeps_alloc wr (.cells #[.int .i64 x, .int .i64 y] 31))
      replace kw := Keeps.trans kw (keeps_alloc wr (.cells #[.int .i64 x, .int .i64 y] 31))
      have b10 : Bx (wr.alloc (.cells #[.int .i64 x, .int .i64 y] 31)) wr.heap.size x y := Bx.new' (by simp)
      obtain ⟨bu, ou, u, v, rfl, _, hbu, hcu, hdu, hu⟩ := Fracs.at_ (Sl.keeps hrk kw) hlt
      have ck := cell_keeps hck kw
      obtain ⟨ca4, fa4⟩ := id b3
      replace b3 := b3.keeps (keeps_alloc (wr.alloc (.cells #[.int .i64 x, .int .i64 y] 31)) (.cells #[.int .i64 u, .int .i64 v] 31))
      replace b6 := b6.keeps (keeps_alloc (wr.alloc (.cells #[.int .i64 x, .int .i64 y] 31)) (.cells #[.int .i64 u, .int .i64 v] 31))
      replace b8 := b8.keeps (keeps_alloc (wr.alloc (.cells #[.int .i64 x, .int .i64 y] 31)) (.cells #[.int .i64 u, .int .i64 v] 31))
      replace b10 := b10.keeps (keeps_alloc (wr.alloc (.cells #[.int .i64 x, .int .i64 y] 31)) (.cells #[.int .i64 u, .int .i64 v] 31))
      replace kw := Keeps.trans kw (keeps_alloc (wr.alloc (.cells #[.int .i64 x, .int .i64 y] 31)) (.cells #[.int .i64 u, .int .i64 v] 31))
      have b11 : Bx ((wr.alloc (.cells #[.int .i64 x, .int .i64 y] 31)).alloc (.cells #[.int .i64 u, .int .i64 v] 31)) (wr.heap.size + 1) u v := Bx.new' (by simp)
      obtain ⟨ca5, cb5, fa5, fb5⟩ := id b10
      obtain ⟨ca6, cb6, fa6, fb6⟩ := id b11
      have fx := hid (HFR.out q x y hlt hx.out)
      have fu := hid (HFS.out q u v hlt hu.out)
      by_cases hz : u = 0
      · have t1 : (u == 0) = true := by rw [beq_iff_eq]; exact hz
        have HZ := hid hz
        clear hz
        by_cases hx0 : 0 < x
        · have HE := hid (accQ_fail HA.out (show rrSt r s q s1 s2 = (0, 0, false) from rrSt_bad hx.out hu.out HZ.out hx0) hlt)
          replace HF := hid (HF.out.trans HE.out)
          obtain ⟨ca7, cb7, fa7, fb7⟩ := id b6
          go_wp2_with fail
          clear ca4 fa4 ca5 cb5 fa5 fb5 ca6 cb6 fa6 fb6 ca7 cb7 fa7 fb7
          obtain ⟨ca0, cb0, fa0, fb0⟩ := id b6
          refine bodyPost_ret (v := .tuple #[.agg #[.int .i64 0, .int .i64 0], .bool false]) (by simp [results, Try.results107, go_sem, ca0, cb0]) rfl ⟨ret_fb (by rw [HF.out]) (by rw [HF.out]) (by rw [HF.out]), ?_⟩
          exact below_set2 kw (p := (w.heap.size + 1)) (by omega) _ _
        · have HN := hid (accQ_next HA.out (rrSt_skip (a := s1) (b := s2) hx.out hu.out HZ.out hx0))
          go_wp2_with fail
          clear ca4 fa4 ca5 cb5 fa5 fb5 ca6 cb6 fa6 fb6
          go_roundw
          case rel => exact ⟨q + 1, s1, s2, (by omega), (by go_num), HN.out, HB.out, b3, b6, b8, kw⟩
          case measure => simp [intOf]; omega
      · have t1 : (u == 0) = false := by rw [beq_eq_false_iff_ne]; exact hz
        have HZ := hid hz
        clear hz
        obtain ⟨q1, q2, q3, H5⟩ : ∃ q1 q2 q3, Hid (mkF (x * v) (y * u) = (q1, q2, q3)) := ⟨_, _, _, rfl⟩
        go_wp2_with fail
        clear ca4 fa4 ca5 cb5 fa5 fb5 ca6 cb6 fa6 fb6
        clear hc hd hcu hdu ck
        refine (DivFrac_any fx.out fu.out).mono ?_
        rintro e w7 ⟨rfl, k7⟩
        rw [H5.out]
        replace b3 := b3.keeps k7
        replace b6 := b6.keeps k7
        replace b8 := b8.keeps k7
        replace b10 := b10.keeps k7
        replace b11 := b11.keeps k7
        replace kw := Keeps.trans kw k7
        have lt8 := b11.lt
        have sz9 := kw.size
        clear k7
        cases q3
        · replace b3 := b3.keeps (keeps_alloc w7 (.cells #[.int .i64 q1, .int .i64 q2] 31))
          replace b6 := b6.keeps (keeps_alloc w7 (.cells #[.int .i64 q1, .int .i64 q2] 31))
          replace b8 := b8.keeps (keeps_alloc w7 (.cells #[.int .i64 q1, .int .i64 q2] 31))
          replace b10 := b10.keeps (keeps_alloc w7 (.cells #[.int .i64 q1, .int .i64 q2] 31))
          replace b11 := b11.keeps (keeps_alloc w7 (.cells #[.int .i64 q1, .int .i64 q2] 31))
          replace kw := Keeps.trans kw (keeps_alloc w7 (.cells #[.int .i64 q1, .int .i64 q2] 31))
          have b12 : Bx (w7.alloc (.cells #[.int .i64 q1, .int .i64 q2] 31)) w7.heap.size q1 q2 := Bx.new' (by simp)
          have HE := hid (accQ_fail HA.out (show rrSt r s q s1 s2 = (0, 0, false) from rrSt_no hx.out hu.out HZ.out H5.out) hlt)
          replace HF := hid (HF.out.trans HE.out)
          obtain ⟨ca10, cb10, fa10, fb10⟩ := id b6
          go_wp2_with fail
          clear ca10 cb10 fa10 fb10
          obtain ⟨ca0, cb0, fa0, fb0⟩ := id b6
          refine bodyPost_ret (v := .tuple #[.agg #[.int .i64 0, .int .i64 0], .bool false]) (by simp [results, Try.results107, go_sem, ca0, cb0]) rfl ⟨ret_fb (by rw [HF.out]) (by rw [HF.out]) (by rw [HF.out]), ?_⟩
          exact below_set2 kw (p := (w.heap.size + 1)) (by omega) _ _
        · have fq := hid ((Fine.mk _ _).ok H5.out)
          have HN := hid (accQ_next HA.out (rrSt_yes (a := s1) (b := s2) hx.out hu.out HZ.out H5.out))
          have HM := hid (maxQ_frac HB.out fq.out)
          obtain ⟨ca10, cb10, fa10, fb10⟩ := id b8
          replace b3 := b3.keeps (keeps_alloc w7 (.cells #[.int .i64 q1, .int .i64 q2] 31))
          replace b6 := b6.keeps (keeps_alloc w7 (.cells #[.int .i64 q1, .int .i64 q2] 31))
          replace b8 := b8.keeps (keeps_alloc w7 (.cells #[.int .i64 q1, .int .i64 q2] 31))
          replace b10 := b10.keeps (keeps_alloc w7 (.cells #[.int .i64 q1, .int .i64 q2] 31))
          replace b11 := b11.keeps (keeps_alloc w7 (.cells #[.int .i64 q1, .int .i64 q2] 31))
          replace kw := Keeps.trans kw (keeps_alloc w7 (.cells #[.int .i64 q1, .int .i64 q2] 31))
          have b12 : Bx (w7.alloc (.cells #[.int .i64 q1, .int .i64 q2] 31)) w7.heap.size q1 q2 := Bx.new' (by simp)
          obtain ⟨ca11, cb11, fa11, fb11⟩ := id b12
          obtain ⟨ca12, cb12, fa12, fb12⟩ := id b8
          go_wp2_with fail
          clear ca10 cb10 fa10 fb10 ca11 cb11 fa11 fb11 ca12 cb12 fa12 fb12
          obtain ⟨cq, HC⟩ : ∃ cq, Hid (cmpQ q1 q2 s1 s2 = cq) := ⟨_, rfl⟩
          refine (cmpFrac_any (fracB_qb fq.out) (fracB_qb HB.out)).mono ?_
          rintro e w13 ⟨rfl, k13⟩
          rw [HC.out]
          replace b3 := b3.keeps k13
          replace b6 := b6.keeps k13
          replace b8 := b8.keeps k13
          replace b10 := b10.keeps k13
          replace b11 := b11.keeps k13
          replace b12 := b12.keeps k13
          replace kw := Keeps.trans kw k13
          have lt14 := b12.lt
          have sz15 := kw.size
          clear k13
          by_cases hcq : 0 < cq
          · have HY := hid (maxQ_new (a := s1) (b := s2) (c := q1) (d := q2) (by rw [HC.out]; exact hcq))
            rw [HY.out] at HN HM
            obtain ⟨ca16, cb16, fa16, fb16⟩ := id b8
            obtain ⟨ca17, cb17, fa17, fb17⟩ := id b12
            replace b3 := b3.set2 (p := (w.heap.size + 1 + 1)) (by omega) (.int .i64 q1) (.int .i64 q2)
            replace b6 := b6.set2 (p := (w.heap.size + 1 + 1)) (by omega) (.int .i64 q1) (.int .i64 q2)
            replace b10 := b10.set2 (p := (w.heap.size + 1 + 1)) (by omega) (.int .i64 q1) (.int .i64 q2)
            replace b11 := b11.set2 (p := (w.heap.size + 1 + 1)) (by omega) (.int .i64 q1) (.int .i64 q2)
            replace b12 := b12.set2 (p := (w.heap.size + 1 + 1)) (by omega) (.int .i64 q1) (.int .i64 q2)
            replace b8 := b8.set q1 q2
            replace kw := below_set2 kw (p := (w.heap.size + 1 + 1)) (by omega) (.int .i64 q1) (.int .i64 q2)
            go_wp2_with fail
            clear ca16 cb16 fa16 fb16 ca17 cb17 fa17 fb17
            go_roundw
            case rel => exact ⟨q + 1, q1, q2, (by omega), (by go_num), HN.out, HM.out, b3, b6, b8, kw⟩
            case measure => simp [intOf]; omega
          · have HY := hid (maxQ_old (a := s1) (b := s2) (c := q1) (d := q2) (by rw [HC.out]; omega))
            rw [HY.out] at HN HM
            go_wp2_with fail
            go_roundw
            case rel => exact ⟨q + 1, s1, s2, (by omega), (by go_num), HN.out, HM.out, b3, b6, b8, kw⟩
            case measure => simp [intOf]; omega
    · obtain rfl : q = m := by omega
      replace HF := hid (HF.out.trans HA.out)
      obtain ⟨ca4, cb4, fa4, fb4⟩ := id b6
      obtain ⟨ca5, cb5, fa5, fb5⟩ := id b8
      go_wp2_with fail
      clear ca4 cb4 fa4 fb4 ca5 cb5 fa5 fb5
      obtain ⟨ca0, cb0, fa0, fb0⟩ := id b6
      refine bodyPost_ret (v := .tuple #[.agg #[.int .i64 s1, .int .i64 s2], .bool true]) (by simp [results, Try.results107, go_sem, ca0, cb0]) rfl ⟨ret_fb (by rw [HF.out]) (by rw [HF.out]) (by rw [HF.out]), ?_⟩
      exact below_set2 kw (p := (w.heap.size + 1)) (by omega) _ _
/-- A valid mechanism and two of its inputs. -/
def inp (ll : List (List QQ)) (i k : Int) : Bool := mechB ll && inB i 0 ((ll.length : Int) - 1) && inB k 0 ((ll.length : Int) - 1)
theorem inp_true {ll : List (List QQ)} {i k : Int} (h : inp ll i k = true) : mechB ll = true ∧ (0 ≤ i ∧ i ≤ (ll.length : Int) - 1) ∧ (0 ≤ k ∧ k ≤ (ll.length : Int) - 1) := by
  unfold inp at h; simp only [Bool.and_eq_true] at h; exact ⟨h.1.1, inB_true.1 h.1.2, inB_true.1 h.2⟩
def rowRatioQ (ll : List (List QQ)) (i k : Int) : Int × Int × Bool := if inp ll i k = true then rrQ (ll.getD i.toNat []) (ll.getD k.toNat []) else (0, 0, false)
theorem rowRatioQ_no {ll : List (List QQ)} {i k : Int} (h : inp ll i k = false) : rowRatioQ ll i k = (0, 0, false) := if_neg (by rw [h]; simp)
theorem rowRatioQ_yes {ll : List (List QQ)} {i k : Nat} (h : inp ll i k = true) : rowRatioQ ll i k = rrQ (ll.getD i []) (ll.getD k []) := by unfold rowRatioQ; rw [if_pos h]; simp

set_option maxRecDepth 100000 in
set_option maxHeartbeats 1600000 in
theorem implRowRatio_any {A : Option Addr} {lo hi n c : Nat} {ll : List (List QQ)} {w : World} (h : FRows w lo hi A n ll) {i k : Int} (wi : (Lit.int .i64 i).wf = true) (wk : (Lit.int .i64 k).wf = true) :
    Calls Try.prog 19 #[.agg #[.slice A n c], .int .i64 i, .int .i64 k] w fun e w' => e = .returned (.tuple #[.agg #[.int .i64 (rowRatioQ ll i k).1, .int .i64 (rowRatioQ ll i k).2.1], .bool (rowRatioQ ll i k).2.2]) ∧ Keeps w w' := by
  have hn := h.le
  have hl := h.len
  go_enter Try.func19, Try.ntmps19
  have kw := keeps_refl w
  replace kw := Keeps.trans kw (keeps_alloc w (.cells #[.slice A n c] 25))
  have b3 : B1 (w.alloc (.cells #[.slice A n c] 25)) w.heap.size (.slice A n c) := B1.new' (by simp)
  replace b3 := b3.keeps (keeps_alloc (w.alloc (.cells #[.slice A n c] 25)) (.cells #[.int .i64 0, .int .i64 0] 31))
  replace kw := Keeps.trans kw (keeps_alloc (w.alloc (.cells #[.slice A n c] 25)) (.cells #[.int .i64 0, .int .i64 0] 31))
  have b6 : Bx ((w.alloc (.cells #[.slice A n c] 25)).alloc (.cells #[.int .i64 0, .int .i64 0] 31)) (w.heap.size + 1) 0 0 := Bx.new' (by simp)
  obtain ⟨ca1, fa1⟩ := id b3
  go_wp2_with fail
  clear ca1 fa1
  obtain ⟨pH1, H1⟩ : ∃ p, Hid (mechB ll = p) := ⟨_, rfl⟩
  refine (IsMechanism_any (h.keeps kw)).mono ?_
  rintro e w2 ⟨rfl, k2⟩
  rw [H1.out]
  replace b3 := b3.keeps k2
  replace b6 := b6.keeps k2
  replace kw := Keeps.trans kw k2
  have lt3 := b6.lt
  have sz4 := kw.size
  clear k2
  cases pH1
  · have HF := hid (rowRatioQ_no (ll := ll) (i := i) (k := k) (by unfold inp; rw [H1.out]; rfl))
    obtain ⟨ca5, fa5⟩ := id b3
    obtain ⟨ca6, cb6, fa6, fb6⟩ := id b6
    go_wp2_with fail
    clear ca5 fa5 ca6 cb6 fa6 fb6
    obtain ⟨ca0, cb0, fa0, fb0⟩ := id b6
    refine bodyPost_ret (v := .tuple #[.agg #[.int .i64 0, .int .i64 0], .bool false]) (by simp [results, Try.results19, go_sem, ca0, cb0]) rfl ⟨ret_fb (by rw [HF.out]) (by rw [HF.out]) (by rw [HF.out]), ?_⟩
    exact below_set2 kw (p := (w.heap.size + 1)) (by omega) _ _
  · skip
    obtain ⟨ca5, fa5⟩ := id b3
    go_wp2_with fail
    clear ca5 fa5
    obtain ⟨pH2, H2⟩ : ∃ p, Hid (inB i 0 ((n : Int) - 1) = p) := ⟨_, rfl⟩
    refine (isInput_any hn).mono ?_
    rintro e w6 ⟨rfl, k6⟩
    rw [H2.out]
    replace b3 := b3.keeps k6
    replace b6 := b6.keeps k6
    replace kw := Keeps.trans kw k6
    have lt7 := b6.lt
    have sz8 := kw.size
    clear k6
    cases pH2
    · have HF := hid (rowRatioQ_no (ll := ll) (i := i) (k := k) (by unfold inp; rw [hl, H1.out, H2.out]; rfl))
      obtain ⟨ca9, fa9⟩ := id b3
      obtain ⟨ca10, cb10, fa10, fb10⟩ := id b6
      go_wp2_with fail
      clear ca9 fa9 ca10 cb10 fa10 fb10
      obtain ⟨ca0, cb0, fa0, fb0⟩ := id b6
      refine bodyPost_ret (v := .tuple #[.agg #[.int .i64 0, .int .i64 0], .bool false]) (by simp [results, Try.results19, go_sem, ca0, cb0]) rfl ⟨ret_fb (by rw [HF.out]) (by rw [HF.out]) (by rw [HF.out]), ?_⟩
      exact below_set2 kw (p := (w.heap.size + 1)) (by omega) _ _
    · skip
      obtain ⟨ca9, fa9⟩ := id b3
      go_wp2_with fail
      clear ca9 fa9
      obtain ⟨pH3, H3⟩ : ∃ p, Hid (inB k 0 ((n : Int) - 1) = p) := ⟨_, rfl⟩
      refine (isInput_any hn).mono ?_
      rintro e w10 ⟨rfl, k10⟩
      rw [H3.out]
      replace b3 := b3.keeps k10
      replace b6 := b6.keeps k10
      replace kw := Keeps.trans kw k10
      have lt11 := b6.lt
      have sz12 := kw.size
      clear k10
      cases pH3
      · have HF := hid (rowRatioQ_no (ll := ll) (i := i) (k := k) (by unfold inp; rw [hl, H1.out, H2.out, H3.out]; rfl))
        obtain ⟨ca13, fa13⟩ := id b3
        obtain ⟨ca14, cb14, fa14, fb14⟩ := id b6
        go_wp2_with fail
        clear ca13 fa13 ca14 cb14 fa14 fb14
        obtain ⟨ca0, cb0, fa0, fb0⟩ := id b6
        refine bodyPost_ret (v := .tuple #[.agg #[.int .i64 0, .int .i64 0], .bool false]) (by simp [results, Try.results19, go_sem, ca0, cb0]) rfl ⟨ret_fb (by rw [HF.out]) (by rw [HF.out]) (by rw [HF.out]), ?_⟩
        exact below_set2 kw (p := (w.heap.size + 1)) (by omega) _ _
      · skip
        have HI := hid (show inp ll i k = true by unfold inp; rw [hl, H1.out, H2.out, H3.out]; rfl)
        have hin := inp_true HI.out
        rw [hl] at hin
        obtain ⟨i, rfl⟩ : ∃ j : Nat, i = j := ⟨i.toNat, by omega⟩
        obtain ⟨k, rfl⟩ : ∃ j : Nat, k = j := ⟨k.toNat, by omega⟩
        have hiN : i < n := by omega
        have hkN : k < n := by omega
        have HF := hid (rowRatioQ_yes HI.out)
        obtain ⟨r1, r2, r3, H5⟩ : ∃ r1 r2 r3, Hid (rrQ (ll.getD i []) (ll.getD k []) = (r1, r2, r3)) := ⟨_, _, _, rfl⟩
        replace HF := hid (HF.out.trans H5.out)
        obtain ⟨ca13, fa13⟩ := id b3
        go_wp2_with fail
        clear ca13 fa13
        refine (rowRatio_any (h.keeps kw) hin.1 hiN hkN).mono ?_
        rintro e w14 ⟨rfl, k14⟩
        rw [H5.out]
        replace b3 := b3.keeps k14
        replace b6 := b6.keeps k14
        replace kw := Keeps.trans kw k14
        have lt15 := b6.lt
        have sz16 := kw.size
        clear k14
        obtain ⟨ca17, cb17, fa17, fb17⟩ := id b6
        go_wp2_with fail
        clear ca17 cb17 fa17 fb17
        obtain ⟨ca0, cb0, fa0, fb0⟩ := id b6
        refine bodyPost_ret (v := .tuple #[.agg #[.int .i64 r1, .int .i64 r2], .bool r3]) (by simp [results, Try.results19, go_sem, ca0, cb0]) rfl ⟨ret_fb (by rw [HF.out]) (by rw [HF.out]) (by rw [HF.out]), ?_⟩
        exact below_set2 kw (p := (w.heap.size + 1)) (by omega) _ _
end Go.Proofs.Ytnopedjgagoahaa
