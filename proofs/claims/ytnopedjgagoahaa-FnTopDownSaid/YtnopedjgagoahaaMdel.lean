/- DeltaOf: of the reference and of the program. -/
import Derived.Test.YtnopedjgagoahaaMvar
namespace Go.Proofs.Ytnopedjgagoahaa
open Go.RowKit
set_option linter.unusedVariables false
set_option linter.unusedSimpArgs false

/-- x - (p/q)u, added where it is positive. -/
def deV (p q a b x y u v : Int) : Int × Int × Bool :=
  if (mkF (p * u) (q * v)).2.2 = true then
    (if cmpQ x y (mkF (p * u) (q * v)).1 (mkF (p * u) (q * v)).2.1 ≤ 0 then (a, b, true)
     else if (mkF (x * (mkF (p * u) (q * v)).2.1 - (mkF (p * u) (q * v)).1 * y) (y * (mkF (p * u) (q * v)).2.1)).2.2 = true then
       mkF (a * (mkF (x * (mkF (p * u) (q * v)).2.1 - (mkF (p * u) (q * v)).1 * y) (y * (mkF (p * u) (q * v)).2.1)).2.1 + (mkF (x * (mkF (p * u) (q * v)).2.1 - (mkF (p * u) (q * v)).1 * y) (y * (mkF (p * u) (q * v)).2.1)).1 * b) (b * (mkF (x * (mkF (p * u) (q * v)).2.1 - (mkF (p * u) (q * v)).1 * y) (y * (mkF (p * u) (q * v)).2.1)).2.1)
     else (0, 0, false))
  else (0, 0, false)
section
variable {p q a b x y u v g1 g2 d1 d2 : Int}
theorem deV_no1 (e : mkF (p * u) (q * v) = (g1, g2, false)) : deV p q a b x y u v = (0, 0, false) := by unfold deV; rw [e]; simp
theorem deV_skip (e : mkF (p * u) (q * v) = (g1, g2, true)) (h : cmpQ x y g1 g2 ≤ 0) : deV p q a b x y u v = (a, b, true) := by unfold deV; rw [e]; simp [h]
theorem deV_no2 (e : mkF (p * u) (q * v) = (g1, g2, true)) (h : ¬ cmpQ x y g1 g2 ≤ 0) (f : mkF (x * g2 - g1 * y) (y * g2) = (d1, d2, false)) : deV p q a b x y u v = (0, 0, false) := by unfold deV; rw [e]; simp [h, f]
theorem deV_yes (e : mkF (p * u) (q * v) = (g1, g2, true)) (h : ¬ cmpQ x y g1 g2 ≤ 0) (f : mkF (x * g2 - g1 * y) (y * g2) = (d1, d2, true)) : deV p q a b x y u v = mkF (a * d2 + d1 * b) (b * d2) := by unfold deV; rw [e]; simp [h, f]
end
theorem deV_fine {p q a b x y u v : Int} (h : fracB a b = true) : Fine (deV p q a b x y u v) := by
  unfold deV; exact Fine.ite (Fine.ite (Fine.yes h) (Fine.ite (Fine.mk _ _) Fine.no)) Fine.no
def deSt (r s : List QQ) (p q : Int) (k : Nat) (a b : Int) : Int × Int × Bool := deV p q a b (r.getD k (0, 0)).1 (r.getD k (0, 0)).2 (s.getD k (0, 0)).1 (s.getD k (0, 0)).2
theorem deSt_at {r s : List QQ} {p q : Int} {k : Nat} {a b x y u v : Int} (hx : (x, y) = r.getD k (0, 0)) (hu : (u, v) = s.getD k (0, 0)) : deSt r s p q k a b = deV p q a b x y u v := by unfold deSt; rw [← hx, ← hu]
theorem deSt_fine {r s : List QQ} {p q : Int} {k : Nat} {a b : Int} (h : fracB a b = true) : Fine (deSt r s p q k a b) := deV_fine h
/-- A valid mechanism, two of its inputs and a ratio of at least 1. -/
def deB (ll : List (List QQ)) (i k p q : Int) : Bool := inp ll i k && fracB p q && decide (q ≤ p)
def deltaQ (ll : List (List QQ)) (i k p q : Int) : Int × Int × Bool := if deB ll i k p q = true then accQ (deSt (ll.getD i.toNat []) (ll.getD k.toNat []) p q) 0 1 (ll.getD i.toNat []).length else (0, 0, false)
theorem deltaQ_no {ll : List (List QQ)} {i k p q : Int} (h : deB ll i k p q = false) : deltaQ ll i k p q = (0, 0, false) := if_neg (by rw [h]; simp)
theorem deltaQ_yes {ll : List (List QQ)} {i k : Nat} {p q : Int} (h : deB ll i k p q = true) : deltaQ ll i k p q = accQ (deSt (ll.getD i []) (ll.getD k []) p q) 0 1 (ll.getD i []).length := by unfold deltaQ; rw [if_pos h]; simp

set_option maxRecDepth 100000 in
set_option maxHeartbeats 3200000 in
theorem specDeltaOf_any {A : Option Addr} {lo hi n c : Nat} {ll : List (List QQ)} {w : World} (h : FRows w lo hi A n ll) {i k : Int} (wi : (Lit.int .i64 i).wf = true) (wk : (Lit.int .i64 k).wf = true) {p q : Int} (wp : I64 p ∧ I64 q) :
    Calls Try.prog 17 #[.agg #[.slice A n c], .int .i64 i, .int .i64 k, .agg #[.int .i64 p, .int .i64 q]] w fun e w' => e = .returned (.tuple #[.agg #[.int .i64 (deltaQ ll i k p q).1, .int .i64 (deltaQ ll i k p q).2.1], .bool (deltaQ ll i k p q).2.2]) ∧ Keeps w w' := by
  have hn := h.le
  have hl := h.len
  go_enter Try.func17, Try.ntmps17
  have kw := keeps_refl w
  replace kw := Keeps.trans kw (keeps_alloc w (.cells #[.slice A n c] 25))
  have b4 : B1 (w.alloc (.cells #[.slice A n c] 25)) w.heap.size (.slice A n c) := B1.new' (by simp)
  replace b4 := b4.keeps (keeps_alloc (w.alloc (.cells #[.slice A n c] 25)) (.cells #[.int .i64 p, .int .i64 q] 31))
  replace kw := Keeps.trans kw (keeps_alloc (w.alloc (.cells #[.slice A n c] 25)) (.cells #[.int .i64 p, .int .i64 q] 31))
  have b7 : Bx ((w.alloc (.cells #[.slice A n c] 25)).alloc (.cells #[.int .i64 p, .int .i64 q] 31)) (w.heap.size + 1) p q := Bx.new' (by simp)
  replace b4 := b4.keeps (keeps_alloc ((w.alloc (.cells #[.slice A n c] 25)).alloc (.cells #[.int .i64 p, .int .i64 q] 31)) (.cells #[.int .i64 0, .int .i64 0] 31))
  replace b7 := b7.keeps (keeps_alloc ((w.alloc (.cells #[.slice A n c] 25)).alloc (.cells #[.int .i64 p, .int .i64 q] 31)) (.cells #[.int .i64 0, .int .i64 0] 31))
  replace kw := Keeps.trans kw (keeps_alloc ((w.alloc (.cells #[.slice A n c] 25)).alloc (.cells #[.int .i64 p, .int .i64 q] 31)) (.cells #[.int .i64 0, .int .i64 0] 31))
  have b8 : Bx (((w.alloc (.cells #[.slice A n c] 25)).alloc (.cells #[.int .i64 p, .int .i64 q] 31)).alloc (.cells #[.int .i64 0, .int .i64 0] 31)) (w.heap.size + 1 + 1) 0 0 := Bx.new' (by simp)
  obtain ⟨ca1, fa1⟩ := id b4
  go_wp2_with fail
  clear ca1 fa1
  obtain ⟨pHI0, HI0⟩ : ∃ pB, Hid ((mechB ll && inB i 0 ((n : Int) - 1) && inB k 0 ((n : Int) - 1)) = pB) := ⟨_, rfl⟩
  refine (mInput_any (h.keeps kw)).mono ?_
  rintro e w2 ⟨rfl, k2⟩
  rw [HI0.out]
  replace b4 := b4.keeps k2
  replace b7 := b7.keeps k2
  replace b8 := b8.keeps k2
  replace kw := Keeps.trans kw k2
  have lt3 := b8.lt
  have sz4 := kw.size
  clear k2
  cases pHI0
  · have HF := hid (deltaQ_no (ll := ll) (i := i) (k := k) (p := p) (q := q) (by rw [deB, show inp ll i k = false by unfold inp; rw [hl]; exact HI0.out]; rfl))
    obtain ⟨ca5, fa5⟩ := id b4
    obtain ⟨ca6, cb6, fa6, fb6⟩ := id b7
    obtain ⟨ca7, cb7, fa7, fb7⟩ := id b8
    go_wp2_with fail
    clear ca5 fa5 ca6 cb6 fa6 fb6 ca7 cb7 fa7 fb7
    obtain ⟨ca0, cb0, fa0, fb0⟩ := id b8
    refine bodyPost_ret (v := .tuple #[.agg #[.int .i64 0, .int .i64 0], .bool false]) (by simp [results, Try.results17, go_sem, ca0, cb0]) rfl ⟨ret_fb (by rw [HF.out]) (by rw [HF.out]) (by rw [HF.out]), ?_⟩
    exact below_set2 kw (p := (w.heap.size + 1 + 1)) (by omega) _ _
  · skip
    have HI := hid (show inp ll i k = true by unfold inp; rw [hl]; exact HI0.out)
    obtain ⟨ca5, cb5, fa5, fb5⟩ := id b7
    go_wp2_with fail
    clear ca5 cb5 fa5 fb5
    obtain ⟨pH6, H6⟩ : ∃ pB, Hid (fracB p q = pB) := ⟨_, rfl⟩
    refine (fGood_any).mono ?_
    rintro e w6 ⟨rfl, k6⟩
    rw [H6.out]
    replace b4 := b4.keeps k6
    replace b7 := b7.keeps k6
    replace b8 := b8.keeps k6
    replace kw := Keeps.trans kw k6
    have lt7 := b8.lt
    have sz8 := kw.size
    clear k6
    cases pH6
    · have HF := hid (deltaQ_no (ll := ll) (i := i) (k := k) (p := p) (q := q) (by rw [deB, HI.out, H6.out]; rfl))
      obtain ⟨ca9, fa9⟩ := id b4
      obtain ⟨ca10, cb10, fa10, fb10⟩ := id b7
      obtain ⟨ca11, cb11, fa11, fb11⟩ := id b8
      go_wp2_with fail
      clear ca9 fa9 ca10 cb10 fa10 fb10 ca11 cb11 fa11 fb11
      obtain ⟨ca0, cb0, fa0, fb0⟩ := id b8
      refine bodyPost_ret (v := .tuple #[.agg #[.int .i64 0, .int .i64 0], .bool false]) (by simp [results, Try.results17, go_sem, ca0, cb0]) rfl ⟨ret_fb (by rw [HF.out]) (by rw [HF.out]) (by rw [HF.out]), ?_⟩
      exact below_set2 kw (p := (w.heap.size + 1 + 1)) (by omega) _ _
    · skip
      by_cases hqp : q ≤ p
      rotate_left
      · have hlt : p < q := by omega
        have HF := hid (deltaQ_no (ll := ll) (i := i) (k := k) (p := p) (q := q) (by rw [deB, decide_eq_false hqp, Bool.and_false]))
        obtain ⟨ca9, fa9⟩ := id b4
        obtain ⟨ca10, cb10, fa10, fb10⟩ := id b7
        obtain ⟨ca11, cb11, fa11, fb11⟩ := id b8
        go_wp2_with fail
        clear ca9 fa9 ca10 cb10 fa10 fb10 ca11 cb11 fa11 fb11
        obtain ⟨ca0, cb0, fa0, fb0⟩ := id b8
        refine bodyPost_ret (v := .tuple #[.agg #[.int .i64 0, .int .i64 0], .bool false]) (by simp [results, Try.results17, go_sem, ca0, cb0]) rfl ⟨ret_fb (by rw [HF.out]) (by rw [HF.out]) (by rw [HF.out]), ?_⟩
        exact below_set2 kw (p := (w.heap.size + 1 + 1)) (by omega) _ _
      have hqp2 : ¬ p < q := by omega
      have HDE := hid (show deB ll i k p q = true by rw [deB, HI.out, H6.out, decide_eq_true hqp]; rfl)
      have hin := inp_true HI.out
      rw [hl] at hin
      obtain ⟨i, rfl⟩ : ∃ j : Nat, i = j := ⟨i.toNat, by omega⟩
      obtain ⟨k, rfl⟩ : ∃ j : Nat, k = j := ⟨k.toNat, by omega⟩
      have hiN : i < n := by omega
      have hkN : k < n := by omega
      have htop := h.top
      obtain ⟨b, off, A1, m, c1, rfl, hlb, hub, hci, hri⟩ := h.at_ hiN
      obtain ⟨b', off', A2, m2, c2, e2, _, _, hck, hrk⟩ := h.at_ hkN
      obtain ⟨rfl, rfl⟩ : b = b' ∧ off = off' := by simpa using e2
      clear e2
      have hml := Fracs.len hri
      have hml2 := Fracs.len hrk
      have hmm := (mechB_row hin.1 (i := i) (by omega)).1
      have hmm2 := (mechB_row hin.1 (i := k) (by omega)).1
      obtain rfl : m = m2 := by omega
      obtain ⟨r, HR⟩ : ∃ r, Hid (ll.getD i [] = r) := ⟨_, rfl⟩
      obtain ⟨s, HS0⟩ : ∃ s, Hid (ll.getD k [] = s) := ⟨_, rfl⟩
      rw [HR.out] at hri hml hmm
      rw [HS0.out] at hrk hml2 hmm2
      have hmle := hri.le
      have HFR := hid (show ∀ j x y, j < m → (x, y) = r.getD j (0, 0) → fracB x y = true from fun j x y hj hx => (mechB_at hin.1 (i := i) (k := j) (by omega) (by rw [HR.out]; omega) (by rw [HR.out]; exact hx)).1)
      have HFS := hid (show ∀ j x y, j < m → (x, y) = s.getD j (0, 0) → fracB x y = true from fun j x y hj hx => (mechB_at hin.1 (i := k) (k := j) (by omega) (by rw [HS0.out]; omega) (by rw [HS0.out]; exact hx)).1)
      have hi1 : (i : Int) < (n : Int) := by omega
      have hi2 : (k : Int) < (n : Int) := by omega
      have HL := hid hml
      clear hml hml2 hmm hmm2 hin
      have HV := hid (deltaQ_yes HDE.out)
      rw [HR.out, HS0.out, HL.out] at HV
      obtain ⟨ca9, cb9, fa9, fb9⟩ := id b7
      go_wp2_with fail
      clear ca9 cb9 fa9 fb9
      refine (fInt_any).mono ?_
      rintro e w10 ⟨rfl, k10⟩
      replace b4 := b4.keeps k10
      replace b7 := b7.keeps k10
      replace b8 := b8.keeps k10
      replace kw := Keeps.trans kw k10
      have lt11 := b8.lt
      have sz12 := kw.size
      clear k10
      obtain ⟨ca13, fa13⟩ := id b4
      replace b4 := b4.keeps (keeps_alloc w10 (.cells #[.int .i64 0, .int .i64 1] 31))
      replace b7 := b7.keeps (keeps_alloc w10 (.cells #[.int .i64 0, .int .i64 1] 31))
      replace b8 := b8.keeps (keeps_alloc w10 (.cells #[.int .i64 0, .int .i64 1] 31))
      replace kw := Keeps.trans kw (keeps_alloc w10 (.cells #[.int .i64 0, .int .i64 1] 31))
      have b10 : Bx (w10.alloc (.cells #[.int .i64 0, .int .i64 1] 31)) w10.heap.size 0 1 := Bx.new' (by simp)
      obtain ⟨ca14, fa14⟩ := id b4
      have ci := cell_keeps hci kw
      go_wp2_with fail
      clear ca13 fa13 ca14 fa14
      clear ci
      go_loopw [44] (fun si wr => ∃ (z : Nat) (s1 : Int) (s2 : Int), z ≤ m ∧ si = .int .i64 z ∧ Hid (accQ (deSt r s p q) 0 1 z = (s1, s2, true)) ∧ Hid (fracB s1 s2 = true) ∧ B1 wr w.heap.size (.slice (some ⟨b, off, none⟩) n c) ∧ Bx wr (w.heap.size + 1) p q ∧ Bx wr (w.heap.size + 1 + 1) 0 0 ∧ Bx wr w10.heap.size s1 s2 ∧ Keeps w wr) (fun si _ => m - (intOf si).toNat)
      case atStart => exact ⟨0, 0, 1, Nat.zero_le _, rfl, rfl, fracB_01, b4, b7, b8, b10, kw⟩
      clear kw b4 b7 b8 b10 
      case round =>
        obtain ⟨z, s1, s2, hz, rfl, HA, HB, b4, b7, b8, b10, kw⟩ := hrel
        have lt15 := b10.lt
        have sz16 := kw.size
        by_cases hlt : z < m
        · obtain ⟨ba, oa, x, y, rfl, _, hb, hc, hd, hx⟩ := Fracs.at_ (Sl.keeps hri kw) hlt
          have hq : (z : Int) < (m : Int) := by omega
          have fx := hid (HFR.out z x y hlt hx.out)
          replace b4 := b4.keeps (keeps_alloc wr (.cells #[.int .i64 x, .int .i64 y] 31))
          replace b7 := b7.keeps (keeps_alloc wr (.cells #[.int .i64 x, .int .i64 y] 31))
          replace b8 := b8.keeps (keeps_alloc wr (.cells #[.int .i64 x, .int .i64 y] 31))
          replace b10 := b10.keeps (keeps_alloc wr (.cells #[.int .i64 x, .int .i64 y] 31))
          replace kw := Keeps.trans kw (keeps_alloc wr (.cells #[.int .i64 x, .int .i64 y] 31))
          have b12 : Bx (wr.alloc (.cells #[.int .i64 x, .int .i64 y] 31)) wr.heap.size x y := Bx.new' (by simp)
          go_wp2_with fail
          clear hc hd
          obtain ⟨bu, ou, u, v, rfl, _, hbu, hcu, hdu, hu⟩ := Fracs.at_ (Sl.keeps hrk kw) hlt
          have fu := hid (HFS.out z u v hlt hu.out)
          have ck := cell_keeps hck kw
          have HD := hid (deSt_at (p := p) (q := q) (a := s1) (b := s2) hx.out hu.out)
          obtain ⟨g1, g2, g3, H5⟩ : ∃ g1 g2 g3, Hid (mkF (p * u) (q * v) = (g1, g2, g3)) := ⟨_, _, _, rfl⟩
          obtain ⟨ca18, cb18, -, -⟩ := id b7
          obtain ⟨ca19, -⟩ := id b4
          have kS := hid (show ∀ w', Keeps (wr.alloc (.cells #[.int .i64 x, .int .i64 y] 31)) w' → (w'.cell? ⟨w.heap.size + 1, 0, none⟩ = some (.int .i64 p) ∧ w'.cell? ⟨w.heap.size + 1, 1, none⟩ = some (.int .i64 q) ∧ w'.cell? ⟨w.heap.size, 0, none⟩ = some (.slice (some ⟨b, off, none⟩) n c) ∧ w'.cell? ⟨b, off + k, none⟩ = some (.slice (some ⟨bu, ou, none⟩) m c2) ∧ w'.cell? ⟨bu, ou + z * 2, none⟩ = some (.int .i64 u) ∧ w'.cell? ⟨bu, ou + z * 2 + 1, none⟩ = some (.int .i64 v)) from fun w' k => ⟨cell_keeps ca18 k, cell_keeps cb18 k, cell_keeps ca19 k, cell_keeps ck k, cell_keeps hcu k, cell_keeps hdu k⟩)
          go_cut [13, 14] (fun sd so wq => ∃ wy g, wy = wq ∧ sd = .pointer (some ⟨g, 0, none⟩) ∧ so = .bool g3 ∧ Bx wy g g1 g2 ∧ (wr.alloc (.cells #[.int .i64 x, .int .i64 y] 31)).heap.size ≤ g ∧ Keeps (wr.alloc (.cells #[.int .i64 x, .int .i64 y] 31)) wy)
          case first =>
            have eA := hid (show (wr.alloc (.cells #[.int .i64 x, .int .i64 y] 31)).heap.size = wr.heap.size + 1 by simp)
            go_region_held3 (fun w' => w'.cell? ⟨w.heap.size + 1, 0, none⟩ = some (.int .i64 p) ∧ w'.cell? ⟨w.heap.size + 1, 1, none⟩ = some (.int .i64 q) ∧ w'.cell? ⟨w.heap.size, 0, none⟩ = some (.slice (some ⟨b, off, none⟩) n c) ∧ w'.cell? ⟨b, off + k, none⟩ = some (.slice (some ⟨bu, ou, none⟩) m c2) ∧ w'.cell? ⟨bu, ou + z * 2, none⟩ = some (.int .i64 u) ∧ w'.cell? ⟨bu, ou + z * 2 + 1, none⟩ = some (.int .i64 v)) (first | with_reducible exact kS.out _ (keeps_d0 (wr.alloc (.cells #[.int .i64 x, .int .i64 y] 31))) | with_reducible exact kS.out _ (keeps_ad0 (wr.alloc (.cells #[.int .i64 x, .int .i64 y] 31)) _) | with_reducible exact kS.out _ (kW) | with_reducible exact kS.out _ (kW.trans (keeps_alloc _ _)) | with_reducible exact kS.out _ (below_set2 kW lz _ _) | go_keep)
              ((first | (go_at_call 92; refine (fMul_any (fracB_qb H6.out) (fracB_qb fu.out)).mono ?_; rintro e wB ⟨rfl, kB⟩; rw [H5.out]; (first | (have kZ : Bx wB (wr.heap.size + 1) 0 0 := Bx.kZ1 kB eA.out; have lz : (wr.alloc (.cells #[.int .i64 x, .int .i64 y] 31)).heap.size ≤ (wr.heap.size + 1) := (Nat.le_of_eq eA.out); obtain ⟨z1, z2, z3, z4⟩ := id kZ) | (have kZ : Bx wB (wr.heap.size + 1) 0 0 := Bx.kZ2 kB eA.out; have lz : (wr.alloc (.cells #[.int .i64 x, .int .i64 y] 31)).heap.size ≤ (wr.heap.size + 1) := (Nat.le_of_eq eA.out); obtain ⟨z1, z2, z3, z4⟩ := id kZ) | (have kZ := kZ.keeps kB; obtain ⟨z1, z2, z3, z4⟩ := id kZ) | (have kZ : Bx wB _ 0 0 := Bx.kZ2 kB rfl; have lz := kW.size; obtain ⟨z1, z2, z3, z4⟩ := id kZ) | skip); (first | (have kW : Keeps (wr.alloc (.cells #[.int .i64 x, .int .i64 y] 31)) wB := kW.trans kB) | (have kW : Keeps (wr.alloc (.cells #[.int .i64 x, .int .i64 y] 31)) wB := (kW.trans (keeps_alloc _ _)).trans kB) | (have kW : Keeps (wr.alloc (.cells #[.int .i64 x, .int .i64 y] 31)) wB := keeps_d kB) | (have kW : Keeps (wr.alloc (.cells #[.int .i64 x, .int .i64 y] 31)) wB := keeps_ad kB)); clear kB)))
            all_goals (go_wp2_with fail; go_meet; first
              | exact ⟨_, _, rfl, rfl, rfl, Bx.new _ _ _ _, kW.size, kW.trans (keeps_alloc _ _)⟩
              | exact ⟨_, _, rfl, rfl, rfl, Bx.set (x := 0) (y := 0) kZ _ _, lz, below_set2 kW lz _ _⟩)
          case rest =>
            clear kS
            clear ca18 cb18 ca19
            obtain ⟨wx17, g17, rfl, rfl, rfl, b13, lg17, kx17⟩ := hcut
            simp at lg17
            replace b4 := b4.keeps kx17
            replace b7 := b7.keeps kx17
            replace b8 := b8.keeps kx17
            replace b10 := b10.keeps kx17
            replace b12 := b12.keeps kx17
            replace kw := Keeps.trans kw kx17
            clear kx17
            have lt21 := b13.lt
            have sz22 := kw.size
            clear hcu hdu ck
            cases g3
            · have HE := hid (accQ_fail HA.out (show deSt r s p q z s1 s2 = (0, 0, false) from HD.out.trans (deV_no1 H5.out)) hlt)
              have HF := hid (HV.out.trans HE.out)
              obtain ⟨ca23, cb23, fa23, fb23⟩ := id b8
              go_wp2_with fail
              clear ca23 cb23 fa23 fb23
              obtain ⟨ca0, cb0, fa0, fb0⟩ := id b8
              refine bodyPost_ret (v := .tuple #[.agg #[.int .i64 0, .int .i64 0], .bool false]) (by simp [results, Try.results17, go_sem, ca0, cb0]) rfl ⟨ret_fb (by rw [HF.out]) (by rw [HF.out]) (by rw [HF.out]), ?_⟩
              exact below_set2 kw (p := (w.heap.size + 1 + 1)) (by omega) _ _
            · have fg := hid ((Fine.mk _ _).ok H5.out)
              obtain ⟨cq, HC⟩ : ∃ cq, Hid (cmpQ x y g1 g2 = cq) := ⟨_, rfl⟩
              obtain ⟨ca23, cb23, fa23, fb23⟩ := id b12
              obtain ⟨ca24, cb24, fa24, fb24⟩ := id b13
              go_wp2_with fail
              clear ca23 cb23 fa23 fb23 ca24 cb24 fa24 fb24
              refine (fCmp_any (fracB_qb fx.out) (fracB_qb fg.out)).mono ?_
              rintro e w25 ⟨rfl, k25⟩
              rw [HC.out]
              replace b4 := b4.keeps k25
              replace b7 := b7.keeps k25
              replace b8 := b8.keeps k25
              replace b10 := b10.keeps k25
              replace b12 := b12.keeps k25
              replace b13 := b13.keeps k25
              replace kw := Keeps.trans kw k25
              have lt26 := b13.lt
              have sz27 := kw.size
              clear k25
              by_cases hcq : cq ≤ 0
              · have HN := hid (accQ_next HA.out (HD.out.trans (deV_skip H5.out (by rw [HC.out]; exact hcq))))
                go_wp2_with fail
                go_roundw
                case rel => exact ⟨z + 1, s1, s2, (by omega), (by go_num), HN.out, HB.out, b4, b7, b8, b10, kw⟩
                case measure => simp [intOf]; omega
              · have HCN := hid (show 0 < cmpQ x y g1 g2 by rw [HC.out]; omega)
                obtain ⟨d1, d2, d3, H7⟩ : ∃ d1 d2 d3, Hid (mkF (x * g2 - g1 * y) (y * g2) = (d1, d2, d3)) := ⟨_, _, _, rfl⟩
                obtain ⟨ca28, cb28, fa28, fb28⟩ := id b12
                obtain ⟨ca29, cb29, fa29, fb29⟩ := id b13
                go_wp2_with fail
                clear ca28 cb28 fa28 fb28 ca29 cb29 fa29 fb29
                refine (fSub_any (fracB_qb fx.out) (fracB_qb fg.out)).mono ?_
                rintro e w30 ⟨rfl, k30⟩
                rw [H7.out]
                replace b4 := b4.keeps k30
                replace b7 := b7.keeps k30
                replace b8 := b8.keeps k30
                replace b10 := b10.keeps k30
                replace b12 := b12.keeps k30
                replace b13 := b13.keeps k30
                replace kw := Keeps.trans kw k30
                have lt31 := b13.lt
                have sz32 := kw.size
                clear k30
                cases d3
                · replace b4 := b4.keeps (keeps_alloc w30 (.cells #[.int .i64 d1, .int .i64 d2] 31))
                  replace b7 := b7.keeps (keeps_alloc w30 (.cells #[.int .i64 d1, .int .i64 d2] 31))
                  replace b8 := b8.keeps (keeps_alloc w30 (.cells #[.int .i64 d1, .int .i64 d2] 31))
                  replace b10 := b10.keeps (keeps_alloc w30 (.cells #[.int .i64 d1, .int .i64 d2] 31))
                  replace b12 := b12.keeps (keeps_alloc w30 (.cells #[.int .i64 d1, .int .i64 d2] 31))
                  replace b13 := b13.keeps (keeps_alloc w30 (.cells #[.int .i64 d1, .int .i64 d2] 31))
                  replace kw := Keeps.trans kw (keeps_alloc w30 (.cells #[.int .i64 d1, .int .i64 d2] 31))
                  have b15 : Bx (w30.alloc (.cells #[.int .i64 d1, .int .i64 d2] 31)) w30.heap.size d1 d2 := Bx.new' (by simp)
                  have HE := hid (accQ_fail HA.out (show deSt r s p q z s1 s2 = (0, 0, false) from HD.out.trans (deV_no2 H5.out (Int.not_le.2 HCN.out) H7.out)) hlt)
                  have HF := hid (HV.out.trans HE.out)
                  obtain ⟨ca33, cb33, fa33, fb33⟩ := id b8
                  go_wp2_with fail
                  clear ca33 cb33 fa33 fb33
                  obtain ⟨ca0, cb0, fa0, fb0⟩ := id b8
                  refine bodyPost_ret (v := .tuple #[.agg #[.int .i64 0, .int .i64 0], .bool false]) (by simp [results, Try.results17, go_sem, ca0, cb0]) rfl ⟨ret_fb (by rw [HF.out]) (by rw [HF.out]) (by rw [HF.out]), ?_⟩
                  exact below_set2 kw (p := (w.heap.size + 1 + 1)) (by omega) _ _
                · have fd := hid ((Fine.mk _ _).ok H7.out)
                  obtain ⟨r1, r2, r3, H8⟩ : ∃ r1 r2 r3, Hid (mkF (s1 * d2 + d1 * s2) (s2 * d2) = (r1, r2, r3)) := ⟨_, _, _, rfl⟩
                  have HS := hid ((HD.out.trans (deV_yes H5.out (Int.not_le.2 HCN.out) H7.out)).trans H8.out)
                  obtain ⟨ca33, cb33, fa33, fb33⟩ := id b10
                  replace b4 := b4.keeps (keeps_alloc w30 (.cells #[.int .i64 d1, .int .i64 d2] 31))
                  replace b7 := b7.keeps (keeps_alloc w30 (.cells #[.int .i64 d1, .int .i64 d2] 31))
                  replace b8 := b8.keeps (keeps_alloc w30 (.cells #[.int .i64 d1, .int .i64 d2] 31))
                  replace b10 := b10.keeps (keeps_alloc w30 (.cells #[.int .i64 d1, .int .i64 d2] 31))
                  replace b12 := b12.keeps (keeps_alloc w30 (.cells #[.int .i64 d1, .int .i64 d2] 31))
                  replace b13 := b13.keeps (keeps_alloc w30 (.cells #[.int .i64 d1, .int .i64 d2] 31))
                  replace kw := Keeps.trans kw (keeps_alloc w30 (.cells #[.int .i64 d1, .int .i64 d2] 31))
                  have b15 : Bx (w30.alloc (.cells #[.int .i64 d1, .int .i64 d2] 31)) w30.heap.size d1 d2 := Bx.new' (by simp)
                  obtain ⟨ca34, cb34, fa34, fb34⟩ := id b10
                  obtain ⟨ca35, cb35, fa35, fb35⟩ := id b15
                  go_wp2_with fail
                  clear ca33 cb33 fa33 fb33 ca34 cb34 fa34 fb34 ca35 cb35 fa35 fb35
                  refine (fAdd_any (fracB_qb HB.out) (fracB_qb fd.out)).mono ?_
                  rintro e w36 ⟨rfl, k36⟩
                  rw [H8.out]
                  replace b4 := b4.keeps k36
                  replace b7 := b7.keeps k36
                  replace b8 := b8.keeps k36
                  replace b10 := b10.keeps k36
                  replace b12 := b12.keeps k36
                  replace b13 := b13.keeps k36
                  replace b15 := b15.keeps k36
                  replace kw := Keeps.trans kw k36
                  have lt37 := b15.lt
                  have sz38 := kw.size
                  clear k36
                  cases r3
                  · replace b4 := b4.keeps (keeps_alloc w36 (.cells #[.int .i64 r1, .int .i64 r2] 31))
                    replace b7 := b7.keeps (keeps_alloc w36 (.cells #[.int .i64 r1, .int .i64 r2] 31))
                    replace b8 := b8.keeps (keeps_alloc w36 (.cells #[.int .i64 r1, .int .i64 r2] 31))
                    replace b10 := b10.keeps (keeps_alloc w36 (.cells #[.int .i64 r1, .int .i64 r2] 31))
                    replace b12 := b12.keeps (keeps_alloc w36 (.cells #[.int .i64 r1, .int .i64 r2] 31))
                    replace b13 := b13.keeps (keeps_alloc w36 (.cells #[.int .i64 r1, .int .i64 r2] 31))
                    replace b15 := b15.keeps (keeps_alloc w36 (.cells #[.int .i64 r1, .int .i64 r2] 31))
                    replace kw := Keeps.trans kw (keeps_alloc w36 (.cells #[.int .i64 r1, .int .i64 r2] 31))
                    have b17 : Bx (w36.alloc (.cells #[.int .i64 r1, .int .i64 r2] 31)) w36.heap.size r1 r2 := Bx.new' (by simp)
                    have HE := hid (accQ_fail HA.out (show deSt r s p q z s1 s2 = (0, 0, false) from (deSt_fine HB.out).bad HS.out) hlt)
                    have HF := hid (HV.out.trans HE.out)
                    obtain ⟨ca39, cb39, fa39, fb39⟩ := id b8
                    go_wp2_with fail
                    clear ca39 cb39 fa39 fb39
                    obtain ⟨ca0, cb0, fa0, fb0⟩ := id b8
                    refine bodyPost_ret (v := .tuple #[.agg #[.int .i64 0, .int .i64 0], .bool false]) (by simp [results, Try.results17, go_sem, ca0, cb0]) rfl ⟨ret_fb (by rw [HF.out]) (by rw [HF.out]) (by rw [HF.out]), ?_⟩
                    exact below_set2 kw (p := (w.heap.size + 1 + 1)) (by omega) _ _
                  · have fr := hid ((deSt_fine HB.out).ok HS.out)
                    obtain ⟨ca39, cb39, fa39, fb39⟩ := id b10
                    replace b4 := b4.keeps (keeps_alloc w36 (.cells #[.int .i64 r1, .int .i64 r2] 31))
                    replace b7 := b7.keeps (keeps_alloc w36 (.cells #[.int .i64 r1, .int .i64 r2] 31))
                    replace b8 := b8.keeps (keeps_alloc w36 (.cells #[.int .i64 r1, .int .i64 r2] 31))
                    replace b10 := b10.keeps (keeps_alloc w36 (.cells #[.int .i64 r1, .int .i64 r2] 31))
                    replace b12 := b12.keeps (keeps_alloc w36 (.cells #[.int .i64 r1, .int .i64 r2] 31))
                    replace b13 := b13.keeps (keeps_alloc w36 (.cells #[.int .i64 r1, .int .i64 r2] 31))
                    replace b15 := b15.keeps (keeps_alloc w36 (.cells #[.int .i64 r1, .int .i64 r2] 31))
                    replace kw := Keeps.trans kw (keeps_alloc w36 (.cells #[.int .i64 r1, .int .i64 r2] 31))
                    have b17 : Bx (w36.alloc (.cells #[.int .i64 r1, .int .i64 r2] 31)) w36.heap.size r1 r2 := Bx.new' (by simp)
                    obtain ⟨ca40, cb40, fa40, fb40⟩ := id b10
                    obtain ⟨ca41, cb41, fa41, fb41⟩ := id b17
                    replace b4 := b4.set2 (p := w10.heap.size) (by omega) (.int .i64 r1) (.int .i64 r2)
                    replace b7 := b7.set2 (p := w10.heap.size) (by omega) (.int .i64 r1) (.int .i64 r2)
                    replace b8 := b8.set2 (p := w10.heap.size) (by omega) (.int .i64 r1) (.int .i64 r2)
                    replace b12 := b12.set2 (p := w10.heap.size) (by omega) (.int .i64 r1) (.int .i64 r2)
                    replace b13 := b13.set2 (p := w10.heap.size) (by omega) (.int .i64 r1) (.int .i64 r2)
                    replace b15 := b15.set2 (p := w10.heap.size) (by omega) (.int .i64 r1) (.int .i64 r2)
                    replace b17 := b17.set2 (p := w10.heap.size) (by omega) (.int .i64 r1) (.int .i64 r2)
                    replace b10 := b10.set r1 r2
                    replace kw := below_set2 kw (p := w10.heap.size) (by omega) (.int .i64 r1) (.int .i64 r2)
                    go_wp2_with fail
                    clear ca39 cb39 fa39 fb39 ca40 cb40 fa40 fb40 ca41 cb41 fa41 fb41
                    go_roundw
                    case rel => exact ⟨z + 1, r1, r2, (by omega), (by go_num), accQ_next HA.out HS.out, fr.out, b4, b7, b8, b10, kw⟩
                    case measure => simp [intOf]; omega
        · obtain rfl : z = m := by omega
          have HF := hid (HV.out.trans HA.out)
          obtain ⟨ca17, cb17, fa17, fb17⟩ := id b8
          obtain ⟨ca18, cb18, fa18, fb18⟩ := id b10
          go_wp2_with fail
          clear ca17 cb17 fa17 fb17 ca18 cb18 fa18 fb18
          obtain ⟨ca0, cb0, fa0, fb0⟩ := id b8
          refine bodyPost_ret (v := .tuple #[.agg #[.int .i64 s1, .int .i64 s2], .bool true]) (by simp [results, Try.results17, go_sem, ca0, cb0]) rfl ⟨ret_fb (by rw [HF.out]) (by rw [HF.out]) (by rw [HF.out]), ?_⟩
          exact below_set2 kw (p := (w.heap.size + 1 + 1)) (by omega) _ _
set_option maxRecDepth 100000 in
set_option maxHeartbeats 3200000 in
theorem implDeltaOf_any {A : Option Addr} {lo hi n c : Nat} {ll : List (List QQ)} {w : World} (h : FRows w lo hi A n ll) {i k : Int} (wi : (Lit.int .i64 i).wf = true) (wk : (Lit.int .i64 k).wf = true) {p q : Int} (wp : I64 p ∧ I64 q) :
    Calls Try.prog 16 #[.agg #[.slice A n c], .int .i64 i, .int .i64 k, .agg #[.int .i64 p, .int .i64 q]] w fun e w' => e = .returned (.tuple #[.agg #[.int .i64 (deltaQ ll i k p q).1, .int .i64 (deltaQ ll i k p q).2.1], .bool (deltaQ ll i k p q).2.2]) ∧ Keeps w w' := by
  have hn := h.le
  have hl := h.len
  go_enter Try.func16, Try.ntmps16
  have kw := keeps_refl w
  replace kw := Keeps.trans kw (keeps_alloc w (.cells #[.slice A n c] 25))
  have b4 : B1 (w.alloc (.cells #[.slice A n c] 25)) w.heap.size (.slice A n c) := B1.new' (by simp)
  replace b4 := b4.keeps (keeps_alloc (w.alloc (.cells #[.slice A n c] 25)) (.cells #[.int .i64 p, .int .i64 q] 31))
  replace kw := Keeps.trans kw (keeps_alloc (w.alloc (.cells #[.slice A n c] 25)) (.cells #[.int .i64 p, .int .i64 q] 31))
  have b7 : Bx ((w.alloc (.cells #[.slice A n c] 25)).alloc (.cells #[.int .i64 p, .int .i64 q] 31)) (w.heap.size + 1) p q := Bx.new' (by simp)
  replace b4 := b4.keeps (keeps_alloc ((w.alloc (.cells #[.slice A n c] 25)).alloc (.cells #[.int .i64 p, .int .i64 q] 31)) (.cells #[.int .i64 0, .int .i64 0] 31))
  replace b7 := b7.keeps (keeps_alloc ((w.alloc (.cells #[.slice A n c] 25)).alloc (.cells #[.int .i64 p, .int .i64 q] 31)) (.cells #[.int .i64 0, .int .i64 0] 31))
  replace kw := Keeps.trans kw (keeps_alloc ((w.alloc (.cells #[.slice A n c] 25)).alloc (.cells #[.int .i64 p, .int .i64 q] 31)) (.cells #[.int .i64 0, .int .i64 0] 31))
  have b8 : Bx (((w.alloc (.cells #[.slice A n c] 25)).alloc (.cells #[.int .i64 p, .int .i64 q] 31)).alloc (.cells #[.int .i64 0, .int .i64 0] 31)) (w.heap.size + 1 + 1) 0 0 := Bx.new' (by simp)
  obtain ⟨ca1, fa1⟩ := id b4
  go_wp2_with fail
  clear ca1 fa1
  obtain ⟨pH1, H1⟩ : ∃ pB, Hid (mechB ll = pB) := ⟨_, rfl⟩
  refine (IsMechanism_any (h.keeps kw)).mono ?_
  rintro e w2 ⟨rfl, k2⟩
  rw [H1.out]
  replace b4 := b4.keeps k2
  replace b7 := b7.keeps k2
  replace b8 := b8.keeps k2
  replace kw := Keeps.trans kw k2
  have lt3 := b8.lt
  have sz4 := kw.size
  clear k2
  cases pH1
  · have HF := hid (deltaQ_no (ll := ll) (i := i) (k := k) (p := p) (q := q) (by rw [deB, show inp ll i k = false by unfold inp; rw [H1.out]; rfl]; rfl))
    obtain ⟨ca5, fa5⟩ := id b4
    obtain ⟨ca6, cb6, fa6, fb6⟩ := id b7
    obtain ⟨ca7, cb7, fa7, fb7⟩ := id b8
    go_wp2_with fail
    clear ca5 fa5 ca6 cb6 fa6 fb6 ca7 cb7 fa7 fb7
    obtain ⟨ca0, cb0, fa0, fb0⟩ := id b8
    refine bodyPost_ret (v := .tuple #[.agg #[.int .i64 0, .int .i64 0], .bool false]) (by simp [results, Try.results16, go_sem, ca0, cb0]) rfl ⟨ret_fb (by rw [HF.out]) (by rw [HF.out]) (by rw [HF.out]), ?_⟩
    exact below_set2 kw (p := (w.heap.size + 1 + 1)) (by omega) _ _
  · skip
    obtain ⟨ca5, fa5⟩ := id b4
    go_wp2_with fail
    clear ca5 fa5
    obtain ⟨pH2, H2⟩ : ∃ pB, Hid (inB i 0 ((n : Int) - 1) = pB) := ⟨_, rfl⟩
    refine (isInput_any hn).mono ?_
    rintro e w6 ⟨rfl, k6⟩
    rw [H2.out]
    replace b4 := b4.keeps k6
    replace b7 := b7.keeps k6
    replace b8 := b8.keeps k6
    replace kw := Keeps.trans kw k6
    have lt7 := b8.lt
    have sz8 := kw.size
    clear k6
    cases pH2
    · have HF := hid (deltaQ_no (ll := ll) (i := i) (k := k) (p := p) (q := q) (by rw [deB, show inp ll i k = false by unfold inp; rw [hl, H1.out, H2.out]; rfl]; rfl))
      obtain ⟨ca9, fa9⟩ := id b4
      obtain ⟨ca10, cb10, fa10, fb10⟩ := id b7
      obtain ⟨ca11, cb11, fa11, fb11⟩ := id b8
      go_wp2_with fail
      clear ca9 fa9 ca10 cb10 fa10 fb10 ca11 cb11 fa11 fb11
      obtain ⟨ca0, cb0, fa0, fb0⟩ := id b8
      refine bodyPost_ret (v := .tuple #[.agg #[.int .i64 0, .int .i64 0], .bool false]) (by simp [results, Try.results16, go_sem, ca0, cb0]) rfl ⟨ret_fb (by rw [HF.out]) (by rw [HF.out]) (by rw [HF.out]), ?_⟩
      exact below_set2 kw (p := (w.heap.size + 1 + 1)) (by omega) _ _
    · skip
      obtain ⟨ca9, fa9⟩ := id b4
      go_wp2_with fail
      clear ca9 fa9
      obtain ⟨pH3, H3⟩ : ∃ pB, Hid (inB k 0 ((n : Int) - 1) = pB) := ⟨_, rfl⟩
      refine (isInput_any hn).mono ?_
      rintro e w10 ⟨rfl, k10⟩
      rw [H3.out]
      replace b4 := b4.keeps k10
      replace b7 := b7.keeps k10
      replace b8 := b8.keeps k10
      replace kw := Keeps.trans kw k10
      have lt11 := b8.lt
      have sz12 := kw.size
      clear k10
      cases pH3
      · have HF := hid (deltaQ_no (ll := ll) (i := i) (k := k) (p := p) (q := q) (by rw [deB, show inp ll i k = false by unfold inp; rw [hl, H1.out, H2.out, H3.out]; rfl]; rfl))
        obtain ⟨ca13, fa13⟩ := id b4
        obtain ⟨ca14, cb14, fa14, fb14⟩ := id b7
        obtain ⟨ca15, cb15, fa15, fb15⟩ := id b8
        go_wp2_with fail
        clear ca13 fa13 ca14 cb14 fa14 fb14 ca15 cb15 fa15 fb15
        obtain ⟨ca0, cb0, fa0, fb0⟩ := id b8
        refine bodyPost_ret (v := .tuple #[.agg #[.int .i64 0, .int .i64 0], .bool false]) (by simp [results, Try.results16, go_sem, ca0, cb0]) rfl ⟨ret_fb (by rw [HF.out]) (by rw [HF.out]) (by rw [HF.out]), ?_⟩
        exact below_set2 kw (p := (w.heap.size + 1 + 1)) (by omega) _ _
      · skip
        have HI := hid (show inp ll i k = true by unfold inp; rw [hl, H1.out, H2.out, H3.out]; rfl)
        obtain ⟨ca13, cb13, fa13, fb13⟩ := id b7
        go_wp2_with fail
        clear ca13 cb13 fa13 fb13
        obtain ⟨pH6, H6⟩ : ∃ pB, Hid (fracB p q = pB) := ⟨_, rfl⟩
        refine (IsFrac_any).mono ?_
        rintro e w14 ⟨rfl, k14⟩
        rw [H6.out]
        replace b4 := b4.keeps k14
        replace b7 := b7.keeps k14
        replace b8 := b8.keeps k14
        replace kw := Keeps.trans kw k14
        have lt15 := b8.lt
        have sz16 := kw.size
        clear k14
        cases pH6
        · have HF := hid (deltaQ_no (ll := ll) (i := i) (k := k) (p := p) (q := q) (by rw [deB, HI.out, H6.out]; rfl))
          obtain ⟨ca17, fa17⟩ := id b4
          obtain ⟨ca18, cb18, fa18, fb18⟩ := id b7
          obtain ⟨ca19, cb19, fa19, fb19⟩ := id b8
          go_wp2_with fail
          clear ca17 fa17 ca18 cb18 fa18 fb18 ca19 cb19 fa19 fb19
          obtain ⟨ca0, cb0, fa0, fb0⟩ := id b8
          refine bodyPost_ret (v := .tuple #[.agg #[.int .i64 0, .int .i64 0], .bool false]) (by simp [results, Try.results16, go_sem, ca0, cb0]) rfl ⟨ret_fb (by rw [HF.out]) (by rw [HF.out]) (by rw [HF.out]), ?_⟩
          exact below_set2 kw (p := (w.heap.size + 1 + 1)) (by omega) _ _
        · skip
          by_cases hqp : q ≤ p
          rotate_left
          · have hlt : p < q := by omega
            have HF := hid (deltaQ_no (ll := ll) (i := i) (k := k) (p := p) (q := q) (by rw [deB, decide_eq_false hqp, Bool.and_false]))
            obtain ⟨ca17, fa17⟩ := id b4
            obtain ⟨ca18, cb18, fa18, fb18⟩ := id b7
            obtain ⟨ca19, cb19, fa19, fb19⟩ := id b8
            go_wp2_with fail
            clear ca17 fa17 ca18 cb18 fa18 fb18 ca19 cb19 fa19 fb19
            obtain ⟨ca0, cb0, fa0, fb0⟩ := id b8
            refine bodyPost_ret (v := .tuple #[.agg #[.int .i64 0, .int .i64 0], .bool false]) (by simp [results, Try.results16, go_sem, ca0, cb0]) rfl ⟨ret_fb (by rw [HF.out]) (by rw [HF.out]) (by rw [HF.out]), ?_⟩
            exact below_set2 kw (p := (w.heap.size + 1 + 1)) (by omega) _ _
          have hqp2 : ¬ p < q := by omega
          have HDE := hid (show deB ll i k p q = true by rw [deB, HI.out, H6.out, decide_eq_true hqp]; rfl)
          have hin := inp_true HI.out
          rw [hl] at hin
          obtain ⟨i, rfl⟩ : ∃ j : Nat, i = j := ⟨i.toNat, by omega⟩
          obtain ⟨k, rfl⟩ : ∃ j : Nat, k = j := ⟨k.toNat, by omega⟩
          have hiN : i < n := by omega
          have hkN : k < n := by omega
          have htop := h.top
          obtain ⟨b, off, A1, m, c1, rfl, hlb, hub, hci, hri⟩ := h.at_ hiN
          obtain ⟨b', off', A2, m2, c2, e2, _, _, hck, hrk⟩ := h.at_ hkN
          obtain ⟨rfl, rfl⟩ : b = b' ∧ off = off' := by simpa using e2
          clear e2
          have hml := Fracs.len hri
          have hml2 := Fracs.len hrk
          have hmm := (mechB_row hin.1 (i := i) (by omega)).1
          have hmm2 := (mechB_row hin.1 (i := k) (by omega)).1
          obtain rfl : m = m2 := by omega
          obtain ⟨r, HR⟩ : ∃ r, Hid (ll.getD i [] = r) := ⟨_, rfl⟩
          obtain ⟨s, HS0⟩ : ∃ s, Hid (ll.getD k [] = s) := ⟨_, rfl⟩
          rw [HR.out] at hri hml hmm
          rw [HS0.out] at hrk hml2 hmm2
          have hmle := hri.le
          have HFR := hid (show ∀ j x y, j < m → (x, y) = r.getD j (0, 0) → fracB x y = true from fun j x y hj hx => (mechB_at hin.1 (i := i) (k := j) (by omega) (by rw [HR.out]; omega) (by rw [HR.out]; exact hx)).1)
          have HFS := hid (show ∀ j x y, j < m → (x, y) = s.getD j (0, 0) → fracB x y = true from fun j x y hj hx => (mechB_at hin.1 (i := k) (k := j) (by omega) (by rw [HS0.out]; omega) (by rw [HS0.out]; exact hx)).1)
          have hi1 : (i : Int) < (n : Int) := by omega
          have hi2 : (k : Int) < (n : Int) := by omega
          have HL := hid hml
          clear hml hml2 hmm hmm2 hin
          have HV := hid (deltaQ_yes HDE.out)
          rw [HR.out, HS0.out, HL.out] at HV
          obtain ⟨ca17, cb17, fa17, fb17⟩ := id b7
          obtain ⟨ca18, fa18⟩ := id b4
          replace b4 := b4.keeps (keeps_alloc w14 (.cells #[.int .i64 0, .int .i64 1] 31))
          replace b7 := b7.keeps (keeps_alloc w14 (.cells #[.int .i64 0, .int .i64 1] 31))
          replace b8 := b8.keeps (keeps_alloc w14 (.cells #[.int .i64 0, .int .i64 1] 31))
          replace kw := Keeps.trans kw (keeps_alloc w14 (.cells #[.int .i64 0, .int .i64 1] 31))
          have b10 : Bx (w14.alloc (.cells #[.int .i64 0, .int .i64 1] 31)) w14.heap.size 0 1 := Bx.new' (by simp)
          obtain ⟨ca19, fa19⟩ := id b4
          have ci := cell_keeps hci kw
          go_wp2_with fail
          clear ca17 cb17 fa17 fb17 ca18 fa18 ca19 fa19
          clear ci
          go_loopw [51] (fun si wr => ∃ (z : Nat) (s1 : Int) (s2 : Int), z ≤ m ∧ si = .int .i64 z ∧ Hid (accQ (deSt r s p q) 0 1 z = (s1, s2, true)) ∧ Hid (fracB s1 s2 = true) ∧ B1 wr w.heap.size (.slice (some ⟨b, off, none⟩) n c) ∧ Bx wr (w.heap.size + 1) p q ∧ Bx wr (w.heap.size + 1 + 1) 0 0 ∧ Bx wr w14.heap.size s1 s2 ∧ Keeps w wr) (fun si _ => m - (intOf si).toNat)
          case atStart => exact ⟨0, 0, 1, Nat.zero_le _, rfl, rfl, fracB_01, b4, b7, b8, b10, kw⟩
          clear kw b4 b7 b8 b10 
          case round =>
            obtain ⟨z, s1, s2, hz, rfl, HA, HB, b4, b7, b8, b10, kw⟩ := hrel
            have lt20 := b10.lt
            have sz21 := kw.size
            by_cases hlt : z < m
            · obtain ⟨ba, oa, x, y, rfl, _, hb, hc, hd, hx⟩ := Fracs.at_ (Sl.keeps hri kw) hlt
              have hq : (z : Int) < (m : Int) := by omega
              have fx := hid (HFR.out z x y hlt hx.out)
              replace b4 := b4.keeps (keeps_alloc wr (.cells #[.int .i64 x, .int .i64 y] 31))
              replace b7 := b7.keeps (keeps_alloc wr (.cells #[.int .i64 x, .int .i64 y] 31))
              replace b8 := b8.keeps (keeps_alloc wr (.cells #[.int .i64 x, .int .i64 y] 31))
              replace b10 := b10.keeps (keeps_alloc wr (.cells #[.int .i64 x, .int .i64 y] 31))
              replace kw := Keeps.trans kw (keeps_alloc wr (.cells #[.int .i64 x, .int .i64 y] 31))
              have b12 : Bx (wr.alloc (.cells #[.int .i64 x, .int .i64 y] 31)) wr.heap.size x y := Bx.new' (by simp)
              go_wp2_with fail
              clear hc hd
              obtain ⟨bu, ou, u, v, rfl, _, hbu, hcu, hdu, hu⟩ := Fracs.at_ (Sl.keeps hrk kw) hlt
              have fu := hid (HFS.out z u v hlt hu.out)
              have ck := cell_keeps hck kw
              have HD := hid (deSt_at (p := p) (q := q) (a := s1) (b := s2) hx.out hu.out)
              obtain ⟨g1, g2, g3, H5⟩ : ∃ g1 g2 g3, Hid (mkF (p * u) (q * v) = (g1, g2, g3)) := ⟨_, _, _, rfl⟩
              obtain ⟨ca23, cb23, -, -⟩ := id b7
              obtain ⟨ca24, -⟩ := id b4
              have kS := hid (show ∀ w', Keeps (wr.alloc (.cells #[.int .i64 x, .int .i64 y] 31)) w' → (w'.cell? ⟨w.heap.size + 1, 0, none⟩ = some (.int .i64 p) ∧ w'.cell? ⟨w.heap.size + 1, 1, none⟩ = some (.int .i64 q) ∧ w'.cell? ⟨w.heap.size, 0, none⟩ = some (.slice (some ⟨b, off, none⟩) n c) ∧ w'.cell? ⟨b, off + k, none⟩ = some (.slice (some ⟨bu, ou, none⟩) m c2) ∧ w'.cell? ⟨bu, ou + z * 2, none⟩ = some (.int .i64 u) ∧ w'.cell? ⟨bu, ou + z * 2 + 1, none⟩ = some (.int .i64 v)) from fun w' k => ⟨cell_keeps ca23 k, cell_keeps cb23 k, cell_keeps ca24 k, cell_keeps ck k, cell_keeps hcu k, cell_keeps hdu k⟩)
              go_cut [13, 14] (fun sd so wq => ∃ wy g, wy = wq ∧ sd = .pointer (some ⟨g, 0, none⟩) ∧ so = .bool g3 ∧ Bx wy g g1 g2 ∧ (wr.alloc (.cells #[.int .i64 x, .int .i64 y] 31)).heap.size ≤ g ∧ Keeps (wr.alloc (.cells #[.int .i64 x, .int .i64 y] 31)) wy)
              case first =>
                have eA := hid (show (wr.alloc (.cells #[.int .i64 x, .int .i64 y] 31)).heap.size = wr.heap.size + 1 by simp)
                go_region_held3 (fun w' => w'.cell? ⟨w.heap.size + 1, 0, none⟩ = some (.int .i64 p) ∧ w'.cell? ⟨w.heap.size + 1, 1, none⟩ = some (.int .i64 q) ∧ w'.cell? ⟨w.heap.size, 0, none⟩ = some (.slice (some ⟨b, off, none⟩) n c) ∧ w'.cell? ⟨b, off + k, none⟩ = some (.slice (some ⟨bu, ou, none⟩) m c2) ∧ w'.cell? ⟨bu, ou + z * 2, none⟩ = some (.int .i64 u) ∧ w'.cell? ⟨bu, ou + z * 2 + 1, none⟩ = some (.int .i64 v)) (first | with_reducible exact kS.out _ (keeps_d0 (wr.alloc (.cells #[.int .i64 x, .int .i64 y] 31))) | with_reducible exact kS.out _ (keeps_ad0 (wr.alloc (.cells #[.int .i64 x, .int .i64 y] 31)) _) | with_reducible exact kS.out _ (kW) | with_reducible exact kS.out _ (kW.trans (keeps_alloc _ _)) | with_reducible exact kS.out _ (below_set2 kW lz _ _) | go_keep)
                  ((first | (go_at_call 32; refine (MulFrac_any H6.out fu.out).mono ?_; rintro e wB ⟨rfl, kB⟩; rw [H5.out]; (first | (have kZ : Bx wB (wr.heap.size + 1) 0 0 := Bx.kZ1 kB eA.out; have lz : (wr.alloc (.cells #[.int .i64 x, .int .i64 y] 31)).heap.size ≤ (wr.heap.size + 1) := (Nat.le_of_eq eA.out); obtain ⟨z1, z2, z3, z4⟩ := id kZ) | (have kZ : Bx wB (wr.heap.size + 1) 0 0 := Bx.kZ2 kB eA.out; have lz : (wr.alloc (.cells #[.int .i64 x, .int .i64 y] 31)).heap.size ≤ (wr.heap.size + 1) := (Nat.le_of_eq eA.out); obtain ⟨z1, z2, z3, z4⟩ := id kZ) | (have kZ := kZ.keeps kB; obtain ⟨z1, z2, z3, z4⟩ := id kZ) | (have kZ : Bx wB _ 0 0 := Bx.kZ2 kB rfl; have lz := kW.size; obtain ⟨z1, z2, z3, z4⟩ := id kZ) | skip); (first | (have kW : Keeps (wr.alloc (.cells #[.int .i64 x, .int .i64 y] 31)) wB := kW.trans kB) | (have kW : Keeps (wr.alloc (.cells #[.int .i64 x, .int .i64 y] 31)) wB := (kW.trans (keeps_alloc _ _)).trans kB) | (have kW : Keeps (wr.alloc (.cells #[.int .i64 x, .int .i64 y] 31)) wB := keeps_d kB) | (have kW : Keeps (wr.alloc (.cells #[.int .i64 x, .int .i64 y] 31)) wB := keeps_ad kB)); clear kB)))
                all_goals (go_wp2_with fail; go_meet; first
                  | exact ⟨_, _, rfl, rfl, rfl, Bx.new _ _ _ _, kW.size, kW.trans (keeps_alloc _ _)⟩
                  | exact ⟨_, _, rfl, rfl, rfl, Bx.set (x := 0) (y := 0) kZ _ _, lz, below_set2 kW lz _ _⟩)
              case rest =>
                clear kS
                clear ca23 cb23 ca24
                obtain ⟨wx22, g22, rfl, rfl, rfl, b13, lg22, kx22⟩ := hcut
                simp at lg22
                replace b4 := b4.keeps kx22
                replace b7 := b7.keeps kx22
                replace b8 := b8.keeps kx22
                replace b10 := b10.keeps kx22
                replace b12 := b12.keeps kx22
                replace kw := Keeps.trans kw kx22
                clear kx22
                have lt26 := b13.lt
                have sz27 := kw.size
                clear hcu hdu ck
                cases g3
                · have HE := hid (accQ_fail HA.out (show deSt r s p q z s1 s2 = (0, 0, false) from HD.out.trans (deV_no1 H5.out)) hlt)
                  have HF := hid (HV.out.trans HE.out)
                  obtain ⟨ca28, cb28, fa28, fb28⟩ := id b8
                  go_wp2_with fail
                  clear ca28 cb28 fa28 fb28
                  obtain ⟨ca0, cb0, fa0, fb0⟩ := id b8
                  refine bodyPost_ret (v := .tuple #[.agg #[.int .i64 0, .int .i64 0], .bool false]) (by simp [results, Try.results16, go_sem, ca0, cb0]) rfl ⟨ret_fb (by rw [HF.out]) (by rw [HF.out]) (by rw [HF.out]), ?_⟩
                  exact below_set2 kw (p := (w.heap.size + 1 + 1)) (by omega) _ _
                · have fg := hid ((Fine.mk _ _).ok H5.out)
                  obtain ⟨cq, HC⟩ : ∃ cq, Hid (cmpQ x y g1 g2 = cq) := ⟨_, rfl⟩
                  obtain ⟨ca28, cb28, fa28, fb28⟩ := id b12
                  obtain ⟨ca29, cb29, fa29, fb29⟩ := id b13
                  go_wp2_with fail
                  clear ca28 cb28 fa28 fb28 ca29 cb29 fa29 fb29
                  refine (cmpFrac_any (fracB_qb fx.out) (fracB_qb fg.out)).mono ?_
                  rintro e w30 ⟨rfl, k30⟩
                  rw [HC.out]
                  replace b4 := b4.keeps k30
                  replace b7 := b7.keeps k30
                  replace b8 := b8.keeps k30
                  replace b10 := b10.keeps k30
                  replace b12 := b12.keeps k30
                  replace b13 := b13.keeps k30
                  replace kw := Keeps.trans kw k30
                  have lt31 := b13.lt
                  have sz32 := kw.size
                  clear k30
                  by_cases hcq : cq ≤ 0
                  · have HN := hid (accQ_next HA.out (HD.out.trans (deV_skip H5.out (by rw [HC.out]; exact hcq))))
                    go_wp2_with fail
                    go_roundw
                    case rel => exact ⟨z + 1, s1, s2, (by omega), (by go_num), HN.out, HB.out, b4, b7, b8, b10, kw⟩
                    case measure => simp [intOf]; omega
                  · have HCN := hid (show 0 < cmpQ x y g1 g2 by rw [HC.out]; omega)
                    obtain ⟨d1, d2, d3, H7⟩ : ∃ d1 d2 d3, Hid (mkF (x * g2 - g1 * y) (y * g2) = (d1, d2, d3)) := ⟨_, _, _, rfl⟩
                    obtain ⟨ca33, cb33, fa33, fb33⟩ := id b12
                    obtain ⟨ca34, cb34, fa34, fb34⟩ := id b13
                    go_wp2_with fail
                    clear ca33 cb33 fa33 fb33 ca34 cb34 fa34 fb34
                    refine (SubFrac_any fx.out fg.out).mono ?_
                    rintro e w35 ⟨rfl, k35⟩
                    rw [H7.out]
                    replace b4 := b4.keeps k35
                    replace b7 := b7.keeps k35
                    replace b8 := b8.keeps k35
                    replace b10 := b10.keeps k35
                    replace b12 := b12.keeps k35
                    replace b13 := b13.keeps k35
                    replace kw := Keeps.trans kw k35
                    have lt36 := b13.lt
                    have sz37 := kw.size
                    clear k35
                    cases d3
                    · replace b4 := b4.keeps (keeps_alloc w35 (.cells #[.int .i64 d1, .int .i64 d2] 31))
                      replace b7 := b7.keeps (keeps_alloc w35 (.cells #[.int .i64 d1, .int .i64 d2] 31))
                      replace b8 := b8.keeps (keeps_alloc w35 (.cells #[.int .i64 d1, .int .i64 d2] 31))
                      replace b10 := b10.keeps (keeps_alloc w35 (.cells #[.int .i64 d1, .int .i64 d2] 31))
                      replace b12 := b12.keeps (keeps_alloc w35 (.cells #[.int .i64 d1, .int .i64 d2] 31))
                      replace b13 := b13.keeps (keeps_alloc w35 (.cells #[.int .i64 d1, .int .i64 d2] 31))
                      replace kw := Keeps.trans kw (keeps_alloc w35 (.cells #[.int .i64 d1, .int .i64 d2] 31))
                      have b15 : Bx (w35.alloc (.cells #[.int .i64 d1, .int .i64 d2] 31)) w35.heap.size d1 d2 := Bx.new' (by simp)
                      have HE := hid (accQ_fail HA.out (show deSt r s p q z s1 s2 = (0, 0, false) from HD.out.trans (deV_no2 H5.out (Int.not_le.2 HCN.out) H7.out)) hlt)
                      have HF := hid (HV.out.trans HE.out)
                      obtain ⟨ca38, cb38, fa38, fb38⟩ := id b8
                      go_wp2_with fail
                      clear ca38 cb38 fa38 fb38
                      obtain ⟨ca0, cb0, fa0, fb0⟩ := id b8
                      refine bodyPost_ret (v := .tuple #[.agg #[.int .i64 0, .int .i64 0], .bool false]) (by simp [results, Try.results16, go_sem, ca0, cb0]) rfl ⟨ret_fb (by rw [HF.out]) (by rw [HF.out]) (by rw [HF.out]), ?_⟩
                      exact below_set2 kw (p := (w.heap.size + 1 + 1)) (by omega) _ _
                    · have fd := hid ((Fine.mk _ _).ok H7.out)
                      obtain ⟨r1, r2, r3, H8⟩ : ∃ r1 r2 r3, Hid (mkF (s1 * d2 + d1 * s2) (s2 * d2) = (r1, r2, r3)) := ⟨_, _, _, rfl⟩
                      have HS := hid ((HD.out.trans (deV_yes H5.out (Int.not_le.2 HCN.out) H7.out)).trans H8.out)
                      obtain ⟨ca38, cb38, fa38, fb38⟩ := id b10
                      replace b4 := b4.keeps (keeps_alloc w35 (.cells #[.int .i64 d1, .int .i64 d2] 31))
                      replace b7 := b7.keeps (keeps_alloc w35 (.cells #[.int .i64 d1, .int .i64 d2] 31))
                      replace b8 := b8.keeps (keeps_alloc w35 (.cells #[.int .i64 d1, .int .i64 d2] 31))
                      replace b10 := b10.keeps (keeps_alloc w35 (.cells #[.int .i64 d1, .int .i64 d2] 31))
                      replace b12 := b12.keeps (keeps_alloc w35 (.cells #[.int .i64 d1, .int .i64 d2] 31))
                      replace b13 := b13.keeps (keeps_alloc w35 (.cells #[.int .i64 d1, .int .i64 d2] 31))
                      replace kw := Keeps.trans kw (keeps_alloc w35 (.cells #[.int .i64 d1, .int .i64 d2] 31))
                      have b15 : Bx (w35.alloc (.cells #[.int .i64 d1, .int .i64 d2] 31)) w35.heap.size d1 d2 := Bx.new' (by simp)
                      obtain ⟨ca39, cb39, fa39, fb39⟩ := id b10
                      obtain ⟨ca40, cb40, fa40, fb40⟩ := id b15
                      go_wp2_with fail
                      clear ca38 cb38 fa38 fb38 ca39 cb39 fa39 fb39 ca40 cb40 fa40 fb40
                      refine (AddFrac_any HB.out fd.out).mono ?_
                      rintro e w41 ⟨rfl, k41⟩
                      rw [H8.out]
                      replace b4 := b4.keeps k41
                      replace b7 := b7.keeps k41
                      replace b8 := b8.keeps k41
                      replace b10 := b10.keeps k41
                      replace b12 := b12.keeps k41
                      replace b13 := b13.keeps k41
                      replace b15 := b15.keeps k41
                      replace kw := Keeps.trans kw k41
                      have lt42 := b15.lt
                      have sz43 := kw.size
                      clear k41
                      cases r3
                      · obtain ⟨ca44, cb44, fa44, fb44⟩ := id b10
                        replace b4 := b4.set2 (p := w14.heap.size) (by omega) (.int .i64 r1) (.int .i64 r2)
                        replace b7 := b7.set2 (p := w14.heap.size) (by omega) (.int .i64 r1) (.int .i64 r2)
                        replace b8 := b8.set2 (p := w14.heap.size) (by omega) (.int .i64 r1) (.int .i64 r2)
                        replace b12 := b12.set2 (p := w14.heap.size) (by omega) (.int .i64 r1) (.int .i64 r2)
                        replace b13 := b13.set2 (p := w14.heap.size) (by omega) (.int .i64 r1) (.int .i64 r2)
                        replace b15 := b15.set2 (p := w14.heap.size) (by omega) (.int .i64 r1) (.int .i64 r2)
                        replace b10 := b10.set r1 r2
                        replace kw := below_set2 kw (p := w14.heap.size) (by omega) (.int .i64 r1) (.int .i64 r2)
                        obtain ⟨ca45, cb45, fa45, fb45⟩ := id b8
                        have HE := hid (accQ_fail HA.out (show deSt r s p q z s1 s2 = (0, 0, false) from (deSt_fine HB.out).bad HS.out) hlt)
                        have HF := hid (HV.out.trans HE.out)
                        obtain ⟨ca46, cb46, fa46, fb46⟩ := id b8
                        go_wp2_with fail
                        clear ca44 cb44 fa44 fb44 ca45 cb45 fa45 fb45 ca46 cb46 fa46 fb46
                        obtain ⟨ca0, cb0, fa0, fb0⟩ := id b8
                        refine bodyPost_ret (v := .tuple #[.agg #[.int .i64 0, .int .i64 0], .bool false]) (by simp [results, Try.results16, go_sem, ca0, cb0]) rfl ⟨ret_fb (by rw [HF.out]) (by rw [HF.out]) (by rw [HF.out]), ?_⟩
                        exact below_set2 kw (p := (w.heap.size + 1 + 1)) (by omega) _ _
                      · have fr := hid ((deSt_fine HB.out).ok HS.out)
                        obtain ⟨ca44, cb44, fa44, fb44⟩ := id b10
                        replace b4 := b4.set2 (p := w14.heap.size) (by omega) (.int .i64 r1) (.int .i64 r2)
                        replace b7 := b7.set2 (p := w14.heap.size) (by omega) (.int .i64 r1) (.int .i64 r2)
                        replace b8 := b8.set2 (p := w14.heap.size) (by omega) (.int .i64 r1) (.int .i64 r2)
                        replace b12 := b12.set2 (p := w14.heap.size) (by omega) (.int .i64 r1) (.int .i64 r2)
                        replace b13 := b13.set2 (p := w14.heap.size) (by omega) (.int .i64 r1) (.int .i64 r2)
                        replace b15 := b15.set2 (p := w14.heap.size) (by omega) (.int .i64 r1) (.int .i64 r2)
                        replace b10 := b10.set r1 r2
                        replace kw := below_set2 kw (p := w14.heap.size) (by omega) (.int .i64 r1) (.int .i64 r2)
                        go_wp2_with fail
                        clear ca44 cb44 fa44 fb44
                        go_roundw
                        case rel => exact ⟨z + 1, r1, r2, (by omega), (by go_num), accQ_next HA.out HS.out, fr.out, b4, b7, b8, b10, kw⟩
                        case measure => simp [intOf]; omega
            · obtain rfl : z = m := by omega
              have HF := hid (HV.out.trans HA.out)
              obtain ⟨ca22, cb22, fa22, fb22⟩ := id b8
              obtain ⟨ca23, cb23, fa23, fb23⟩ := id b10
              go_wp2_with fail
              clear ca22 cb22 fa22 fb22 ca23 cb23 fa23 fb23
              obtain ⟨ca0, cb0, fa0, fb0⟩ := id b8
              refine bodyPost_ret (v := .tuple #[.agg #[.int .i64 s1, .int .i64 s2], .bool true]) (by simp [results, Try.results16, go_sem, ca0, cb0]) rfl ⟨ret_fb (by rw [HF.out]) (by rw [HF.out]) (by rw [HF.out]), ?_⟩
              exact below_set2 kw (p := (w.heap.size + 1 + 1)) (by omega) _ _
end Go.Proofs.Ytnopedjgagoahaa
