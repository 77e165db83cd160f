/- Estimates of trees: sums over children, weighted means, subtree estimates as lists; their contracts. -/
import Derived.Test.YtnopedjgagoahaaKI
namespace Go.Proofs.Ytnopedjgagoahaa
open Go.RowKit
set_option linter.unusedVariables false
set_option linter.unusedSimpArgs false

/-- One fraction after another; nothing from the first that fails on. -/
def bindQ {β : Type} (r : Int × Int × Bool) (f : Int → Int → Option β) : Option β := if r.2.2 = true then f r.1 r.2.1 else none
theorem bindQ_no {β : Type} {r : Int × Int × Bool} {f : Int → Int → Option β} {a b : Int} (h : r = (a, b, false)) : bindQ r f = none := by rw [h]; rfl
theorem bindQ_yes {β : Type} {r : Int × Int × Bool} {f : Int → Int → Option β} {a b : Int} (h : r = (a, b, true)) : bindQ r f = f a b := by rw [h]; rfl
theorem bindQ_swap {β : Type} (r s : Int × Int × Bool) (g : Int → Int → Int → Int → Option β) : bindQ r (fun a b => bindQ s (g a b)) = bindQ s (fun c d => bindQ r (fun a b => g a b c d)) := by
  unfold bindQ; split <;> split <;> rfl
def meanU (p1 p2 d1 d2 z1 z2 : Int) : Option ((Int × Int) × (Int × Int)) := bindQ (mkF (p1 * d2) (p2 * d1)) fun u1 u2 => some ((z1, z2), (u1, u2))
def meanZ (t1 t2 d1 d2 p1 p2 : Int) : Option ((Int × Int) × (Int × Int)) := bindQ (mkF (t1 * d2) (t2 * d1)) (meanU p1 p2 d1 d2)
def meanP (w v1 v2 t1 t2 d1 d2 : Int) : Option ((Int × Int) × (Int × Int)) := bindQ (mkF (v1 * w) (v2 * 1)) (meanZ t1 t2 d1 d2)
def meanD (w v1 v2 t1 t2 : Int) : Option ((Int × Int) × (Int × Int)) := bindQ (mkF (v1 * 1 + w * v2) (v2 * 1)) (meanP w v1 v2 t1 t2)
def meanT (w v1 v2 a1 a2 b1 b2 : Int) : Option ((Int × Int) × (Int × Int)) := bindQ (mkF (a1 * b2 + b1 * a2) (a2 * b2)) (meanD w v1 v2)
def meanB (w s1 s2 v1 v2 a1 a2 : Int) : Option ((Int × Int) × (Int × Int)) := bindQ (mkF (s1 * w) (s2 * 1)) (meanT w v1 v2 a1 a2)
/-- (U y + w S)/(U + w) and U w/(U + w). -/
def meanQ (y w s1 s2 v1 v2 : Int) : Option ((Int × Int) × (Int × Int)) := bindQ (mkF (v1 * y) (v2 * 1)) (meanB w s1 s2 v1 v2)
theorem meanP_swap (w v1 v2 t1 t2 d1 d2 : Int) : meanP w v1 v2 t1 t2 d1 d2 = bindQ (mkF (t1 * d2) (t2 * d1)) fun z1 z2 => bindQ (mkF (v1 * w) (v2 * 1)) fun p1 p2 => meanU p1 p2 d1 d2 z1 z2 := by
  unfold meanP meanZ; exact bindQ_swap _ _ _
theorem mkF_fine {n d a b : Int} (h : mkF n d = (a, b, true)) : fracB a b = true := (Fine.mk n d).ok h
theorem meanQ_fine {y w s1 s2 v1 v2 : Int} {m : (Int × Int) × (Int × Int)} (h : meanQ y w s1 s2 v1 v2 = some m) : fracB m.1.1 m.1.2 = true ∧ fracB m.2.1 m.2.2 = true := by
  have step : ∀ {r : Int × Int × Bool} {f : Int → Int → Option ((Int × Int) × (Int × Int))}, bindQ r f = some m → f r.1 r.2.1 = some m ∧ r.2.2 = true := by
    intro r f h; unfold bindQ at h; split at h
    · exact ⟨h, by assumption⟩
    · cases h
  obtain ⟨h1, _⟩ := step h
  obtain ⟨h2, _⟩ := step h1
  obtain ⟨h3, _⟩ := step h2
  obtain ⟨h4, _⟩ := step h3
  obtain ⟨h5, _⟩ := step h4
  obtain ⟨h6, f1⟩ := step h5
  obtain ⟨h7, f2⟩ := step h6
  injection h7 with h7
  subst h7
  exact ⟨mkF_ok f1, mkF_ok f2⟩
/-- What a weighted mean hands back: two fractions that matter only where it is fine. -/
def TwoQ (w : World) (R : Option ((Int × Int) × (Int × Int))) (e : Ending) (w' : World) : Prop :=
  ∃ x1 x2 y1 y2, e = .returned (.tuple #[.agg #[.int .i64 x1, .int .i64 x2], .agg #[.int .i64 y1, .int .i64 y2], .bool R.isSome]) ∧ (∀ m, R = some m → m = ((x1, x2), (y1, y2))) ∧ Keeps w w'
theorem TwoQ.no {w w' : World} {e : Ending} {x1 x2 y1 y2 : Int} {R : Option ((Int × Int) × (Int × Int))} (h : R = none) (he : e = .returned (.tuple #[.agg #[.int .i64 x1, .int .i64 x2], .agg #[.int .i64 y1, .int .i64 y2], .bool false])) (k : Keeps w w') : TwoQ w R e w' := by
  subst h; exact ⟨x1, x2, y1, y2, he, fun m hm => by (cases hm), k⟩
theorem TwoQ.yes {w w' : World} {e : Ending} {x1 x2 y1 y2 : Int} {R : Option ((Int × Int) × (Int × Int))} (h : R = some ((x1, x2), (y1, y2))) (he : e = .returned (.tuple #[.agg #[.int .i64 x1, .int .i64 x2], .agg #[.int .i64 y1, .int .i64 y2], .bool true])) (k : Keeps w w') : TwoQ w R e w' := by
  subst h; exact ⟨x1, x2, y1, y2, he, fun m hm => by (injection hm with hm; exact hm.symm), k⟩
/-- The sums of two lists over the same indices. -/
def sums2 (z u : List (Int × Int)) (ks : List Int) : Option ((Int × Int) × (Int × Int)) := bindQ (sumQ z ks) fun s1 s2 => bindQ (sumQ u ks) fun v1 v2 => some ((s1, s2), (v1, v2))
theorem sums2_yes {z u : List (Int × Int)} {ks : List Int} {a b c d : Int} (h1 : sumQ z ks = (a, b, true)) (h2 : sumQ u ks = (c, d, true)) : sums2 z u ks = some ((a, b), (c, d)) := by unfold sums2; rw [bindQ_yes h1, bindQ_yes h2]
theorem sums2_no1 {z u : List (Int × Int)} {ks : List Int} {a b : Int} (h1 : sumQ z ks = (a, b, false)) : sums2 z u ks = none := by unfold sums2; rw [bindQ_no h1]
theorem sums2_no2 {z u : List (Int × Int)} {ks : List Int} {c d : Int} (h2 : sumQ u ks = (c, d, false)) : sums2 z u ks = none := by
  unfold sums2 bindQ; rw [h2]; simp
theorem below_set4 {B p q : Nat} {a w : World} (h : Below B a w) (hp : B ≤ p) (hq : B ≤ q) (x y u v : Value) : Below B a ((((w.setCell ⟨p, 0, none⟩ x).setCell ⟨p, 1, none⟩ y).setCell ⟨q, 0, none⟩ u).setCell ⟨q, 1, none⟩ v) := below_set2 (below_set2 h hp x y) hq u v
theorem sumQ_fine (l : List (Int × Int)) (ks : List Int) : Fine (sumQ l ks) := by
  have : ∀ n, Fine (accQ (suSt l ks) 0 1 n) := by
    intro n
    induction n with
    | zero => exact Fine.yes fracB_01
    | succ n ih => simp only [accQ]; exact Fine.ite (suSt_fine _ _ _ _ _) Fine.no
  exact this _

set_option maxRecDepth 100000 in
set_option maxHeartbeats 1600000 in
theorem wSums_any {A0 A1 A2 : Option Addr} {l0 l1 l2 u0 u1 u2 n0 n c0 c1 c2 : Nat} {ps : List Int} {i : Int} {z u : List (Int × Int)} {w : World} (h0 : Ints w l0 u0 A0 n0 ps) (h1 : Fracs w l1 u1 A1 n z) (h2 : Fracs w l2 u2 A2 n u) (hg : ps.getD 0 0 = -1) (hi : 0 ≤ i) (g1 : GoodAt z (kids ps i)) (g2 : GoodAt u (kids ps i)) (hin : Into (kids ps i) n) :
    Calls Try.prog 193 #[.agg #[.slice A0 n0 c0], .int .i64 i, .slice A1 n c1, .slice A2 n c2] w (TwoQ w (sums2 z u (kids ps i))) := by
  have hn1 := h1.le
  have hn0 := h0.le
  have hl1 := Fracs.len h1
  have hl2 := Fracs.len h2
  have hl0 := h0.1
  obtain ⟨ks, HK⟩ : ∃ ks, Hid (kids ps i = ks) := ⟨_, rfl⟩
  have hkl := kids_len ps i
  rw [HK.out] at g1 g2 hin hkl
  rw [HK.out]
  have HG1 := hid g1
  have HG2 := hid g2
  have HI := hid hin
  clear g1 g2 hin
  go_enter Try.func193, Try.ntmps193
  have kw := keeps_refl w
  replace kw := Keeps.trans kw (keeps_alloc w (.cells #[.slice A0 n0 c0] 53))
  have b4 : B1 (w.alloc (.cells #[.slice A0 n0 c0] 53)) w.heap.size (.slice A0 n0 c0) := B1.new' (by simp)
  replace b4 := b4.keeps (keeps_alloc (w.alloc (.cells #[.slice A0 n0 c0] 53)) (.cells #[.int .i64 0, .int .i64 0] 31))
  replace kw := Keeps.trans kw (keeps_alloc (w.alloc (.cells #[.slice A0 n0 c0] 53)) (.cells #[.int .i64 0, .int .i64 0] 31))
  have b8 : Bx ((w.alloc (.cells #[.slice A0 n0 c0] 53)).alloc (.cells #[.int .i64 0, .int .i64 0] 31)) (w.heap.size + 1) 0 0 := Bx.new' (by simp)
  replace b4 := b4.keeps (keeps_alloc ((w.alloc (.cells #[.slice A0 n0 c0] 53)).alloc (.cells #[.int .i64 0, .int .i64 0] 31)) (.cells #[.int .i64 0, .int .i64 0] 31))
  replace b8 := b8.keeps (keeps_alloc ((w.alloc (.cells #[.slice A0 n0 c0] 53)).alloc (.cells #[.int .i64 0, .int .i64 0] 31)) (.cells #[.int .i64 0, .int .i64 0] 31))
  replace kw := Keeps.trans kw (keeps_alloc ((w.alloc (.cells #[.slice A0 n0 c0] 53)).alloc (.cells #[.int .i64 0, .int .i64 0] 31)) (.cells #[.int .i64 0, .int .i64 0] 31))
  have b9 : Bx (((w.alloc (.cells #[.slice A0 n0 c0] 53)).alloc (.cells #[.int .i64 0, .int .i64 0] 31)).alloc (.cells #[.int .i64 0, .int .i64 0] 31)) (w.heap.size + 1 + 1) 0 0 := Bx.new' (by simp)
  go_wp2_with fail
  refine (fInt_any).mono ?_
  rintro e w1 ⟨rfl, k1⟩
  replace b4 := b4.keeps k1
  replace b8 := b8.keeps k1
  replace b9 := b9.keeps k1
  replace kw := Keeps.trans kw k1
  have lt2 := b9.lt
  have sz3 := kw.size
  clear k1
  go_wp2_with fail
  refine (fInt_any).mono ?_
  rintro e w4 ⟨rfl, k4⟩
  replace b4 := b4.keeps k4
  replace b8 := b8.keeps k4
  replace b9 := b9.keeps k4
  replace kw := Keeps.trans kw k4
  have lt5 := b9.lt
  have sz6 := kw.size
  clear k4
  obtain ⟨ca7, fa7⟩ := id b4
  replace b4 := b4.keeps (keeps_alloc w4 (.cells #[.int .i64 0, .int .i64 1] 31))
  replace b8 := b8.keeps (keeps_alloc w4 (.cells #[.int .i64 0, .int .i64 1] 31))
  replace b9 := b9.keeps (keeps_alloc w4 (.cells #[.int .i64 0, .int .i64 1] 31))
  replace kw := Keeps.trans kw (keeps_alloc w4 (.cells #[.int .i64 0, .int .i64 1] 31))
  have b11 : Bx (w4.alloc (.cells #[.int .i64 0, .int .i64 1] 31)) w4.heap.size 0 1 := Bx.new' (by simp)
  replace b4 := b4.keeps (keeps_alloc (w4.alloc (.cells #[.int .i64 0, .int .i64 1] 31)) (.cells #[.int .i64 0, .int .i64 1] 31))
  replace b8 := b8.keeps (keeps_alloc (w4.alloc (.cells #[.int .i64 0, .int .i64 1] 31)) (.cells #[.int .i64 0, .int .i64 1] 31))
  replace b9 := b9.keeps (keeps_alloc (w4.alloc (.cells #[.int .i64 0, .int .i64 1] 31)) (.cells #[.int .i64 0, .int .i64 1] 31))
  replace b11 := b11.keeps (keeps_alloc (w4.alloc (.cells #[.int .i64 0, .int .i64 1] 31)) (.cells #[.int .i64 0, .int .i64 1] 31))
  replace kw := Keeps.trans kw (keeps_alloc (w4.alloc (.cells #[.int .i64 0, .int .i64 1] 31)) (.cells #[.int .i64 0, .int .i64 1] 31))
  have b12 : Bx ((w4.alloc (.cells #[.int .i64 0, .int .i64 1] 31)).alloc (.cells #[.int .i64 0, .int .i64 1] 31)) (w4.heap.size + 1) 0 1 := Bx.new' (by simp)
  obtain ⟨ca8, fa8⟩ := id b4
  go_wp2_with fail
  clear ca7 fa7 ca8 fa8
  refine (gChildren_any (h0.keeps kw) hg hi).mono ?_
  rintro e w9 ⟨A9, c9, rfl, m9, k9⟩
  replace b4 := b4.keeps k9
  replace b8 := b8.keeps k9
  replace b9 := b9.keeps k9
  replace b11 := b11.keeps k9
  replace b12 := b12.keeps k9
  replace kw := Keeps.trans kw k9
  have lt10 := b12.lt
  have sz11 := kw.size
  clear k9
  rw [HK.out]
  rw [HK.out] at m9
  replace m9 := m9.widen (lo' := w4.heap.size + 1 + 1) (by simp) (Nat.le_refl _) (Nat.le_refl _)
  obtain ⟨m', hm'⟩ : ∃ m', m' = ks.length := ⟨_, rfl⟩
  rw [← hm'] at m9
  rw [← hm']
  have HM := hid hm'
  clear hm'
  have hmle := m9.1.le
  go_wp2_with fail
  go_loopw [25] (fun si wv => ∃ (q : Nat) (s1 : Int) (s2 : Int) (v1 : Int) (v2 : Int), q ≤ m' ∧ si = .int .i64 q ∧ Hid (accQ (suSt z ks) 0 1 q = (s1, s2, true)) ∧ Hid (fracB s1 s2 = true) ∧ Hid (accQ (suSt u ks) 0 1 q = (v1, v2, true)) ∧ Hid (fracB v1 v2 = true) ∧ Mine wv (w4.heap.size + 1 + 1) w9.heap.size A9 m' ks ∧ Bx wv (w.heap.size + 1) 0 0 ∧ Bx wv (w.heap.size + 1 + 1) 0 0 ∧ Bx wv w4.heap.size s1 s2 ∧ Bx wv (w4.heap.size + 1) v1 v2 ∧ Keeps w wv) (fun si _ => m' - (intOf si).toNat)
  case atStart => exact ⟨0, 0, 1, 0, 1, Nat.zero_le _, rfl, rfl, fracB_01, rfl, fracB_01, m9, b8, b9, b11, b12, kw⟩
  clear kw b4 b8 b9 b11 b12 m9
  case round =>
    obtain ⟨q, s1, s2, v1, v2, hq, rfl, HA, HB, HC, HD, m9, b8, b9, b11, b12, kw⟩ := hrel
    have lt12 := b12.lt
    have sz13 := kw.size
    by_cases hlq : q < m'
    · obtain ⟨b', off', i', rfl, _, hb', hv, hxi⟩ := m9.1.at_ hlq
      obtain ⟨j, hj, hjn⟩ := HI.out q (by have := HM.out; omega)
      obtain rfl : i' = j := hxi.out.trans hj.symm
      have hkj := hid hj
      clear hj hxi
      obtain ⟨b, off, x, y, rfl, _, hb, hc, hd, hx⟩ := Fracs.at_ (h1.keeps kw) hjn
      obtain ⟨bu, offu, xu, yu, rfl, _, hbu, hcu, hdu, hxu⟩ := Fracs.at_ (h2.keeps kw) hjn
      have fx := hid (HG1.out q j x y (by have := HM.out; omega) hkj.out hx.out)
      have fu := hid (HG2.out q j xu yu (by have := HM.out; omega) hkj.out hxu.out)
      have hi2 : (q : Int) < (m' : Int) := by omega
      have hi3 : (j : Int) < (n : Int) := by omega
      go_wp2_with fail
      clear hv
      obtain ⟨r1, r2, r3, H5⟩ : ∃ r1 r2 r3, Hid (mkF (s1 * y + x * s2) (s2 * y) = (r1, r2, r3)) := ⟨_, _, _, rfl⟩
      have HS := hid ((suSt_at (a := s1) (b := s2) hkj.out hx.out).trans H5.out)
      obtain ⟨q1, q2, q3, H6⟩ : ∃ q1 q2 q3, Hid (mkF (v1 * yu + xu * v2) (v2 * yu) = (q1, q2, q3)) := ⟨_, _, _, rfl⟩
      have HT := hid ((suSt_at (a := v1) (b := v2) hkj.out hxu.out).trans H6.out)
      obtain ⟨ca15, cb15, -, -⟩ := id b11
      have kS := hid (show ∀ w', Keeps wr w' → (w'.cell? ⟨w4.heap.size, 0, none⟩ = some (.int .i64 s1) ∧ w'.cell? ⟨w4.heap.size, 1, none⟩ = some (.int .i64 s2) ∧ w'.cell? ⟨b, off + j * 2, none⟩ = some (.int .i64 x) ∧ w'.cell? ⟨b, off + j * 2 + 1, none⟩ = some (.int .i64 y)) from fun w' k => ⟨cell_keeps ca15 k, cell_keeps cb15 k, cell_keeps hc k, cell_keeps hd k⟩)
      go_cut [15, 16] (fun sd so wq => ∃ wy g, wy = wq ∧ sd = .pointer (some ⟨g, 0, none⟩) ∧ so = .bool r3 ∧ Bx wy g r1 r2 ∧ wr.heap.size ≤ g ∧ Keeps wr wy)
      case first =>
        go_region_held3 (fun w' => w'.cell? ⟨w4.heap.size, 0, none⟩ = some (.int .i64 s1) ∧ w'.cell? ⟨w4.heap.size, 1, none⟩ = some (.int .i64 s2) ∧ w'.cell? ⟨b, off + j * 2, none⟩ = some (.int .i64 x) ∧ w'.cell? ⟨b, off + j * 2 + 1, none⟩ = some (.int .i64 y)) (first | with_reducible exact kS.out _ (keeps_d0 wr) | with_reducible exact kS.out _ (keeps_ad0 wr _) | with_reducible exact kS.out _ (kW) | with_reducible exact kS.out _ (kW.trans (keeps_alloc _ _)) | with_reducible exact kS.out _ (below_set2 kW lz _ _) | go_keep)
          ((first | (go_at_call 93; refine (fAdd_any (fracB_qb HB.out) (fracB_qb fx.out)).mono ?_; rintro e wB ⟨rfl, kB⟩; rw [H5.out]; (first | (have kZ : Bx wB wr.heap.size 0 0 := Bx.kZ1 kB rfl; have lz : wr.heap.size ≤ wr.heap.size := (Nat.le_refl _); obtain ⟨z1, z2, z3, z4⟩ := id kZ) | (have kZ : Bx wB wr.heap.size 0 0 := Bx.kZ2 kB rfl; have lz : wr.heap.size ≤ wr.heap.size := (Nat.le_refl _); obtain ⟨z1, z2, z3, z4⟩ := id kZ) | (have kZ := kZ.keeps kB; obtain ⟨z1, z2, z3, z4⟩ := id kZ) | (have kZ : Bx wB _ 0 0 := Bx.kZ2 kB rfl; have lz := kW.size; obtain ⟨z1, z2, z3, z4⟩ := id kZ) | skip); (first | (have kW : Keeps wr wB := kW.trans kB) | (have kW : Keeps wr wB := (kW.trans (keeps_alloc _ _)).trans kB) | (have kW : Keeps wr wB := keeps_d kB) | (have kW : Keeps wr wB := keeps_ad kB)); clear kB)))
        all_goals (go_wp2_with fail; go_meet; first
          | exact ⟨_, _, rfl, rfl, rfl, Bx.new _ _ _ _, kW.size, kW.trans (keeps_alloc _ _)⟩
          | exact ⟨_, _, rfl, rfl, rfl, Bx.set (x := 0) (y := 0) kZ _ _, lz, below_set2 kW lz _ _⟩)
      case rest =>
        clear kS
        clear ca15 cb15
        obtain ⟨wx14, g14, rfl, rfl, rfl, b15, lg14, kx14⟩ := hcut
        replace b8 := b8.keeps kx14
        replace b9 := b9.keeps kx14
        replace b11 := b11.keeps kx14
        replace b12 := b12.keeps kx14
        replace m9 := m9.keeps kx14
        replace kw := Keeps.trans kw kx14
        clear kx14
        have lt17 := b15.lt
        have sz18 := kw.size
        go_wp2_with fail
        clear hcu hdu
        obtain ⟨bu', offu', xu', yu', hA2, _, hbu2, hcu, hdu, hxu2⟩ := Fracs.at_ (h2.keeps kw) hjn
        obtain ⟨rfl, rfl⟩ : bu = bu' ∧ offu = offu' := by injection hA2 with e; injection e with e1 e2; exact ⟨e1, e2⟩
        obtain ⟨rfl, rfl⟩ : xu = xu' ∧ yu = yu' := by have e := hxu.out.trans hxu2.out.symm; injection e with e1 e2; exact ⟨e1, e2⟩
        clear hA2 hxu2
        obtain ⟨ca20, cb20, -, -⟩ := id b12
        have kS := hid (show ∀ w', Keeps wx14 w' → (w'.cell? ⟨w4.heap.size + 1, 0, none⟩ = some (.int .i64 v1) ∧ w'.cell? ⟨w4.heap.size + 1, 1, none⟩ = some (.int .i64 v2) ∧ w'.cell? ⟨bu, offu + j * 2, none⟩ = some (.int .i64 xu) ∧ w'.cell? ⟨bu, offu + j * 2 + 1, none⟩ = some (.int .i64 yu)) from fun w' k => ⟨cell_keeps ca20 k, cell_keeps cb20 k, cell_keeps hcu k, cell_keeps hdu k⟩)
        go_cut [17, 18] (fun sd so wq => ∃ wy g, wy = wq ∧ sd = .pointer (some ⟨g, 0, none⟩) ∧ so = .bool q3 ∧ Bx wy g q1 q2 ∧ wx14.heap.size ≤ g ∧ Keeps wx14 wy)
        case first =>
          go_region_held3 (fun w' => w'.cell? ⟨w4.heap.size + 1, 0, none⟩ = some (.int .i64 v1) ∧ w'.cell? ⟨w4.heap.size + 1, 1, none⟩ = some (.int .i64 v2) ∧ w'.cell? ⟨bu, offu + j * 2, none⟩ = some (.int .i64 xu) ∧ w'.cell? ⟨bu, offu + j * 2 + 1, none⟩ = some (.int .i64 yu)) (first | with_reducible exact kS.out _ (keeps_d0 wx14) | with_reducible exact kS.out _ (keeps_ad0 wx14 _) | with_reducible exact kS.out _ (kW) | with_reducible exact kS.out _ (kW.trans (keeps_alloc _ _)) | with_reducible exact kS.out _ (below_set2 kW lz _ _) | go_keep)
            ((first | (go_at_call 93; refine (fAdd_any (fracB_qb HD.out) (fracB_qb fu.out)).mono ?_; rintro e wB ⟨rfl, kB⟩; rw [H6.out]; (first | (have kZ : Bx wB wx14.heap.size 0 0 := Bx.kZ1 kB rfl; have lz : wx14.heap.size ≤ wx14.heap.size := (Nat.le_refl _); obtain ⟨z1, z2, z3, z4⟩ := id kZ) | (have kZ : Bx wB wx14.heap.size 0 0 := Bx.kZ2 kB rfl; have lz : wx14.heap.size ≤ wx14.heap.size := (Nat.le_refl _); obtain ⟨z1, z2, z3, z4⟩ := id kZ) | (have kZ := kZ.keeps kB; obtain ⟨z1, z2, z3, z4⟩ := id kZ) | (have kZ : Bx wB _ 0 0 := Bx.kZ2 kB rfl; have lz := kW.size; obtain ⟨z1, z2, z3, z4⟩ := id kZ) | skip); (first | (have kW : Keeps wx14 wB := kW.trans kB) | (have kW : Keeps wx14 wB := (kW.trans (keeps_alloc _ _)).trans kB) | (have kW : Keeps wx14 wB := keeps_d kB) | (have kW : Keeps wx14 wB := keeps_ad kB)); clear kB)))
          all_goals (go_wp2_with fail; go_meet; first
            | exact ⟨_, _, rfl, rfl, rfl, Bx.new _ _ _ _, kW.size, kW.trans (keeps_alloc _ _)⟩
            | exact ⟨_, _, rfl, rfl, rfl, Bx.set (x := 0) (y := 0) kZ _ _, lz, below_set2 kW lz _ _⟩)
        case rest =>
          clear kS
          clear ca20 cb20
          obtain ⟨wx19, g19, rfl, rfl, rfl, b17, lg19, kx19⟩ := hcut
          replace b8 := b8.keeps kx19
          replace b9 := b9.keeps kx19
          replace b11 := b11.keeps kx19
          replace b12 := b12.keeps kx19
          replace b15 := b15.keeps kx19
          replace m9 := m9.keeps kx19
          replace kw := Keeps.trans kw kx19
          clear kx19
          have lt22 := b17.lt
          have sz23 := kw.size
          cases r3
          · have HE := hid (sums2_no1 (z := z) (u := u) (show sumQ z ks = (0, 0, false) by unfold sumQ; rw [← HM.out]; exact accQ_fail HA.out (show suSt z ks q s1 s2 = (0, 0, false) from (suSt_fine _ _ _ _ _).bad HS.out) hlq))
            obtain ⟨ca24, cb24, fa24, fb24⟩ := id b11
            obtain ⟨ca25, cb25, fa25, fb25⟩ := id b12
            obtain ⟨ca26, cb26, fa26, fb26⟩ := id b8
            obtain ⟨ca27, cb27, fa27, fb27⟩ := id b9
            go_wp2_with fail
            go_region
            all_goals (
              go_wp2
              refine bodyPost_ret (v := .tuple #[.agg #[.int .i64 s1, .int .i64 s2], .agg #[.int .i64 v1, .int .i64 v2], .bool false]) (by simp [results, Try.results193, go_sem, ca24, cb24, fa24, fb24, ca25, cb25, fa25, fb25, ca26, cb26, fa26, fb26, ca27, cb27, fa27, fb27]) rfl (TwoQ.no HE.out rfl ?_)
              first | exact below_set4 kw (by omega) (by omega) _ _ _ _ | exact below_drewN (below_set4 kw (by omega) (by omega) _ _ _ _) 1 | exact below_set4 (below_drewN kw 1) (by omega) (by omega) _ _ _ _)
          cases q3
          · have HE := hid (sums2_no2 (z := z) (u := u) (show sumQ u ks = (0, 0, false) by unfold sumQ; rw [← HM.out]; exact accQ_fail HC.out (show suSt u ks q v1 v2 = (0, 0, false) from (suSt_fine _ _ _ _ _).bad HT.out) hlq))
            obtain ⟨ca24, cb24, fa24, fb24⟩ := id b11
            obtain ⟨ca25, cb25, fa25, fb25⟩ := id b12
            obtain ⟨ca26, cb26, fa26, fb26⟩ := id b8
            obtain ⟨ca27, cb27, fa27, fb27⟩ := id b9
            go_wp2_with fail
            go_region
            all_goals (
              go_wp2
              refine bodyPost_ret (v := .tuple #[.agg #[.int .i64 s1, .int .i64 s2], .agg #[.int .i64 v1, .int .i64 v2], .bool false]) (by simp [results, Try.results193, go_sem, ca24, cb24, fa24, fb24, ca25, cb25, fa25, fb25, ca26, cb26, fa26, fb26, ca27, cb27, fa27, fb27]) rfl (TwoQ.no HE.out rfl ?_)
              first | exact below_set4 kw (by omega) (by omega) _ _ _ _ | exact below_drewN (below_set4 kw (by omega) (by omega) _ _ _ _) 1 | exact below_set4 (below_drewN kw 1) (by omega) (by omega) _ _ _ _)
          have fr := hid ((suSt_fine _ _ _ _ _).ok HS.out)
          have fq := hid ((suSt_fine _ _ _ _ _).ok HT.out)
          obtain ⟨ca24, cb24, fa24, fb24⟩ := id b11
          obtain ⟨ca25, cb25, fa25, fb25⟩ := id b12
          obtain ⟨ca26, cb26, fa26, fb26⟩ := id b15
          obtain ⟨ca27, cb27, fa27, fb27⟩ := id b17
          replace b8 := b8.set2 (p := w4.heap.size) (by omega) (.int .i64 r1) (.int .i64 r2)
          replace b9 := b9.set2 (p := w4.heap.size) (by omega) (.int .i64 r1) (.int .i64 r2)
          replace b12 := b12.set2 (p := w4.heap.size) (by omega) (.int .i64 r1) (.int .i64 r2)
          replace b15 := b15.set2 (p := w4.heap.size) (by omega) (.int .i64 r1) (.int .i64 r2)
          replace b17 := b17.set2 (p := w4.heap.size) (by omega) (.int .i64 r1) (.int .i64 r2)
          replace m9 := m9.fr (fr_set2 (p := w4.heap.size) (.int .i64 r1) (.int .i64 r2)) (by omega)
          replace b11 := b11.set r1 r2
          replace kw := below_set2 kw (p := w4.heap.size) (by omega) (.int .i64 r1) (.int .i64 r2)
          obtain ⟨ca28, cb28, fa28, fb28⟩ := id b12
          obtain ⟨ca29, cb29, fa29, fb29⟩ := id b17
          replace b8 := b8.set2 (p := (w4.heap.size + 1)) (by omega) (.int .i64 q1) (.int .i64 q2)
          replace b9 := b9.set2 (p := (w4.heap.size + 1)) (by omega) (.int .i64 q1) (.int .i64 q2)
          replace b11 := b11.set2 (p := (w4.heap.size + 1)) (by omega) (.int .i64 q1) (.int .i64 q2)
          replace b15 := b15.set2 (p := (w4.heap.size + 1)) (by omega) (.int .i64 q1) (.int .i64 q2)
          replace b17 := b17.set2 (p := (w4.heap.size + 1)) (by omega) (.int .i64 q1) (.int .i64 q2)
          replace m9 := m9.fr (fr_set2 (p := (w4.heap.size + 1)) (.int .i64 q1) (.int .i64 q2)) (by omega)
          replace b12 := b12.set q1 q2
          replace kw := below_set2 kw (p := (w4.heap.size + 1)) (by omega) (.int .i64 q1) (.int .i64 q2)
          go_wp2_with fail
          clear ca24 cb24 fa24 fb24 ca25 cb25 fa25 fb25 ca26 cb26 fa26 fb26 ca27 cb27 fa27 fb27 ca28 cb28 fa28 fb28 ca29 cb29 fa29 fb29
          go_roundw
          case rel => exact ⟨q + 1, r1, r2, q1, q2, (by omega), (by go_num), accQ_next HA.out HS.out, fr.out, accQ_next HC.out HT.out, fq.out, m9, b8, b9, b11, b12, kw⟩
          case measure => simp [intOf]; omega
    · obtain rfl : q = m' := by omega
      have HE := hid (sums2_yes (z := z) (u := u) (ks := ks) (show sumQ z ks = (s1, s2, true) by unfold sumQ; rw [← HM.out]; exact HA.out) (show sumQ u ks = (v1, v2, true) by unfold sumQ; rw [← HM.out]; exact HC.out))
      obtain ⟨ca14, cb14, fa14, fb14⟩ := id b11
      obtain ⟨ca15, cb15, fa15, fb15⟩ := id b12
      obtain ⟨ca16, cb16, fa16, fb16⟩ := id b8
      obtain ⟨ca17, cb17, fa17, fb17⟩ := id b9
      go_wp2_with fail
      go_region
      all_goals (
        go_wp2
        refine bodyPost_ret (v := .tuple #[.agg #[.int .i64 s1, .int .i64 s2], .agg #[.int .i64 v1, .int .i64 v2], .bool true]) (by simp [results, Try.results193, go_sem, ca14, cb14, fa14, fb14, ca15, cb15, fa15, fb15, ca16, cb16, fa16, fb16, ca17, cb17, fa17, fb17]) rfl (TwoQ.yes HE.out rfl ?_)
        first | exact below_set4 kw (by omega) (by omega) _ _ _ _ | exact below_drewN (below_set4 kw (by omega) (by omega) _ _ _ _) 1 | exact below_set4 (below_drewN kw 1) (by omega) (by omega) _ _ _ _)
set_option maxRecDepth 100000 in
set_option maxHeartbeats 1600000 in
theorem wMean_any {y w s1 s2 v1 v2 : Int} {w0 : World} (hy : -1000000000 ≤ y ∧ y ≤ 1000000000) (hw : -1000000000 ≤ w ∧ w ≤ 1000000000) (fs : fracB s1 s2 = true) (fv : fracB v1 v2 = true) :
    Calls Try.prog 229 #[.int .i64 y, .int .i64 w, .agg #[.int .i64 s1, .int .i64 s2], .agg #[.int .i64 v1, .int .i64 v2]] w0 (TwoQ w0 (meanQ y w s1 s2 v1 v2)) := by
  have hqy : QB y 1 := ⟨hy, by omega, by omega⟩
  have hqw : QB w 1 := ⟨hw, by omega, by omega⟩
  have FS := hid (fracB_qb fs)
  have FV := hid (fracB_qb fv)
  clear fs fv
  obtain ⟨a1, a2, a3, HA⟩ : ∃ r1 r2 r3, Hid (mkF (v1 * y) (v2 * 1) = (r1, r2, r3)) := ⟨_, _, _, rfl⟩
  obtain ⟨b1, b2, b3, HB⟩ : ∃ r1 r2 r3, Hid (mkF (s1 * w) (s2 * 1) = (r1, r2, r3)) := ⟨_, _, _, rfl⟩
  go_enter Try.func229, Try.ntmps229
  have kw := keeps_refl w0
  replace kw := Keeps.trans kw (keeps_alloc w0 (.cells #[.int .i64 s1, .int .i64 s2] 31))
  have b6 : Bx (w0.alloc (.cells #[.int .i64 s1, .int .i64 s2] 31)) w0.heap.size s1 s2 := Bx.new' (by simp)
  replace b6 := b6.keeps (keeps_alloc (w0.alloc (.cells #[.int .i64 s1, .int .i64 s2] 31)) (.cells #[.int .i64 v1, .int .i64 v2] 31))
  replace kw := Keeps.trans kw (keeps_alloc (w0.alloc (.cells #[.int .i64 s1, .int .i64 s2] 31)) (.cells #[.int .i64 v1, .int .i64 v2] 31))
  have b7 : Bx ((w0.alloc (.cells #[.int .i64 s1, .int .i64 s2] 31)).alloc (.cells #[.int .i64 v1, .int .i64 v2] 31)) (w0.heap.size + 1) v1 v2 := Bx.new' (by simp)
  replace b6 := b6.keeps (keeps_alloc ((w0.alloc (.cells #[.int .i64 s1, .int .i64 s2] 31)).alloc (.cells #[.int .i64 v1, .int .i64 v2] 31)) (.cells #[.int .i64 0, .int .i64 0] 31))
  replace b7 := b7.keeps (keeps_alloc ((w0.alloc (.cells #[.int .i64 s1, .int .i64 s2] 31)).alloc (.cells #[.int .i64 v1, .int .i64 v2] 31)) (.cells #[.int .i64 0, .int .i64 0] 31))
  replace kw := Keeps.trans kw (keeps_alloc ((w0.alloc (.cells #[.int .i64 s1, .int .i64 s2] 31)).alloc (.cells #[.int .i64 v1, .int .i64 v2] 31)) (.cells #[.int .i64 0, .int .i64 0] 31))
  have b8 : Bx (((w0.alloc (.cells #[.int .i64 s1, .int .i64 s2] 31)).alloc (.cells #[.int .i64 v1, .int .i64 v2] 31)).alloc (.cells #[.int .i64 0, .int .i64 0] 31)) (w0.heap.size + 1 + 1) 0 0 := Bx.new' (by simp)
  replace b6 := b6.keeps (keeps_alloc (((w0.alloc (.cells #[.int .i64 s1, .int .i64 s2] 31)).alloc (.cells #[.int .i64 v1, .int .i64 v2] 31)).alloc (.cells #[.int .i64 0, .int .i64 0] 31)) (.cells #[.int .i64 0, .int .i64 0] 31))
  replace b7 := b7.keeps (keeps_alloc (((w0.alloc (.cells #[.int .i64 s1, .int .i64 s2] 31)).alloc (.cells #[.int .i64 v1, .int .i64 v2] 31)).alloc (.cells #[.int .i64 0, .int .i64 0] 31)) (.cells #[.int .i64 0, .int .i64 0] 31))
  replace b8 := b8.keeps (keeps_alloc (((w0.alloc (.cells #[.int .i64 s1, .int .i64 s2] 31)).alloc (.cells #[.int .i64 v1, .int .i64 v2] 31)).alloc (.cells #[.int .i64 0, .int .i64 0] 31)) (.cells #[.int .i64 0, .int .i64 0] 31))
  replace kw := Keeps.trans kw (keeps_alloc (((w0.alloc (.cells #[.int .i64 s1, .int .i64 s2] 31)).alloc (.cells #[.int .i64 v1, .int .i64 v2] 31)).alloc (.cells #[.int .i64 0, .int .i64 0] 31)) (.cells #[.int .i64 0, .int .i64 0] 31))
  have b9 : Bx ((((w0.alloc (.cells #[.int .i64 s1, .int .i64 s2] 31)).alloc (.cells #[.int .i64 v1, .int .i64 v2] 31)).alloc (.cells #[.int .i64 0, .int .i64 0] 31)).alloc (.cells #[.int .i64 0, .int .i64 0] 31)) (w0.heap.size + 1 + 1 + 1) 0 0 := Bx.new' (by simp)
  go_wp2_with fail
  obtain ⟨ca2, cb2, -, -⟩ := id b7
  have kS := hid (show ∀ w', Keeps ((((w0.alloc (.cells #[.int .i64 s1, .int .i64 s2] 31)).alloc (.cells #[.int .i64 v1, .int .i64 v2] 31)).alloc (.cells #[.int .i64 0, .int .i64 0] 31)).alloc (.cells #[.int .i64 0, .int .i64 0] 31)) w' → (w'.cell? ⟨w0.heap.size + 1, 0, none⟩ = some (.int .i64 v1) ∧ w'.cell? ⟨w0.heap.size + 1, 1, none⟩ = some (.int .i64 v2)) from fun w' k => ⟨cell_keeps ca2 k, cell_keeps cb2 k⟩)
  go_cut [11, 12] (fun sd so wq => ∃ wy g, wy = wq ∧ sd = .pointer (some ⟨g, 0, none⟩) ∧ so = .bool a3 ∧ Bx wy g a1 a2 ∧ ((((w0.alloc (.cells #[.int .i64 s1, .int .i64 s2] 31)).alloc (.cells #[.int .i64 v1, .int .i64 v2] 31)).alloc (.cells #[.int .i64 0, .int .i64 0] 31)).alloc (.cells #[.int .i64 0, .int .i64 0] 31)).heap.size ≤ g ∧ Keeps ((((w0.alloc (.cells #[.int .i64 s1, .int .i64 s2] 31)).alloc (.cells #[.int .i64 v1, .int .i64 v2] 31)).alloc (.cells #[.int .i64 0, .int .i64 0] 31)).alloc (.cells #[.int .i64 0, .int .i64 0] 31)) wy)
  case first =>
    have eA := hid (show ((((w0.alloc (.cells #[.int .i64 s1, .int .i64 s2] 31)).alloc (.cells #[.int .i64 v1, .int .i64 v2] 31)).alloc (.cells #[.int .i64 0, .int .i64 0] 31)).alloc (.cells #[.int .i64 0, .int .i64 0] 31)).heap.size = w0.heap.size + 1 + 1 + 1 + 1 by simp)
    go_region_held3 (fun w' => w'.cell? ⟨w0.heap.size + 1, 0, none⟩ = some (.int .i64 v1) ∧ w'.cell? ⟨w0.heap.size + 1, 1, none⟩ = some (.int .i64 v2)) (first | with_reducible exact kS.out _ (keeps_d0 ((((w0.alloc (.cells #[.int .i64 s1, .int .i64 s2] 31)).alloc (.cells #[.int .i64 v1, .int .i64 v2] 31)).alloc (.cells #[.int .i64 0, .int .i64 0] 31)).alloc (.cells #[.int .i64 0, .int .i64 0] 31))) | with_reducible exact kS.out _ (keeps_ad0 ((((w0.alloc (.cells #[.int .i64 s1, .int .i64 s2] 31)).alloc (.cells #[.int .i64 v1, .int .i64 v2] 31)).alloc (.cells #[.int .i64 0, .int .i64 0] 31)).alloc (.cells #[.int .i64 0, .int .i64 0] 31)) _) | with_reducible exact kS.out _ (kW) | with_reducible exact kS.out _ (kW.trans (keeps_alloc _ _)) | with_reducible exact kS.out _ (below_set2 kW lz _ _) | go_keep)
      ((first | (go_at_call 91; refine (fInt_any).mono ?_; rintro e wB ⟨rfl, kB⟩; (first | (have kZ : Bx wB (w0.heap.size + 1 + 1 + 1 + 1) 0 0 := Bx.kZ1 kB eA.out; have lz : ((((w0.alloc (.cells #[.int .i64 s1, .int .i64 s2] 31)).alloc (.cells #[.int .i64 v1, .int .i64 v2] 31)).alloc (.cells #[.int .i64 0, .int .i64 0] 31)).alloc (.cells #[.int .i64 0, .int .i64 0] 31)).heap.size ≤ (w0.heap.size + 1 + 1 + 1 + 1) := (Nat.le_of_eq eA.out); obtain ⟨z1, z2, z3, z4⟩ := id kZ) | (have kZ : Bx wB (w0.heap.size + 1 + 1 + 1 + 1) 0 0 := Bx.kZ2 kB eA.out; have lz : ((((w0.alloc (.cells #[.int .i64 s1, .int .i64 s2] 31)).alloc (.cells #[.int .i64 v1, .int .i64 v2] 31)).alloc (.cells #[.int .i64 0, .int .i64 0] 31)).alloc (.cells #[.int .i64 0, .int .i64 0] 31)).heap.size ≤ (w0.heap.size + 1 + 1 + 1 + 1) := (Nat.le_of_eq eA.out); obtain ⟨z1, z2, z3, z4⟩ := id kZ) | (have kZ := kZ.keeps kB; obtain ⟨z1, z2, z3, z4⟩ := id kZ) | (have kZ : Bx wB _ 0 0 := Bx.kZ2 kB rfl; have lz := kW.size; obtain ⟨z1, z2, z3, z4⟩ := id kZ) | skip); (first | (have kW : Keeps ((((w0.alloc (.cells #[.int .i64 s1, .int .i64 s2] 31)).alloc (.cells #[.int .i64 v1, .int .i64 v2] 31)).alloc (.cells #[.int .i64 0, .int .i64 0] 31)).alloc (.cells #[.int .i64 0, .int .i64 0] 31)) wB := kW.trans kB) | (have kW : Keeps ((((w0.alloc (.cells #[.int .i64 s1, .int .i64 s2] 31)).alloc (.cells #[.int .i64 v1, .int .i64 v2] 31)).alloc (.cells #[.int .i64 0, .int .i64 0] 31)).alloc (.cells #[.int .i64 0, .int .i64 0] 31)) wB := (kW.trans (keeps_alloc _ _)).trans kB) | (have kW : Keeps ((((w0.alloc (.cells #[.int .i64 s1, .int .i64 s2] 31)).alloc (.cells #[.int .i64 v1, .int .i64 v2] 31)).alloc (.cells #[.int .i64 0, .int .i64 0] 31)).alloc (.cells #[.int .i64 0, .int .i64 0] 31)) wB := keeps_d kB) | (have kW : Keeps ((((w0.alloc (.cells #[.int .i64 s1, .int .i64 s2] 31)).alloc (.cells #[.int .i64 v1, .int .i64 v2] 31)).alloc (.cells #[.int .i64 0, .int .i64 0] 31)).alloc (.cells #[.int .i64 0, .int .i64 0] 31)) wB := keeps_ad kB)); clear kB) | (go_at_call 92; refine (fMul_any FV.out hqy).mono ?_; rintro e wB ⟨rfl, kB⟩; rw [HA.out]; (first | (have kZ : Bx wB (w0.heap.size + 1 + 1 + 1 + 1) 0 0 := Bx.kZ1 kB eA.out; have lz : ((((w0.alloc (.cells #[.int .i64 s1, .int .i64 s2] 31)).alloc (.cells #[.int .i64 v1, .int .i64 v2] 31)).alloc (.cells #[.int .i64 0, .int .i64 0] 31)).alloc (.cells #[.int .i64 0, .int .i64 0] 31)).heap.size ≤ (w0.heap.size + 1 + 1 + 1 + 1) := (Nat.le_of_eq eA.out); obtain ⟨z1, z2, z3, z4⟩ := id kZ) | (have kZ : Bx wB (w0.heap.size + 1 + 1 + 1 + 1) 0 0 := Bx.kZ2 kB eA.out; have lz : ((((w0.alloc (.cells #[.int .i64 s1, .int .i64 s2] 31)).alloc (.cells #[.int .i64 v1, .int .i64 v2] 31)).alloc (.cells #[.int .i64 0, .int .i64 0] 31)).alloc (.cells #[.int .i64 0, .int .i64 0] 31)).heap.size ≤ (w0.heap.size + 1 + 1 + 1 + 1) := (Nat.le_of_eq eA.out); obtain ⟨z1, z2, z3, z4⟩ := id kZ) | (have kZ := kZ.keeps kB; obtain ⟨z1, z2, z3, z4⟩ := id kZ) | (have kZ : Bx wB _ 0 0 := Bx.kZ2 kB rfl; have lz := kW.size; obtain ⟨z1, z2, z3, z4⟩ := id kZ) | skip); (first | (have kW : Keeps ((((w0.alloc (.cells #[.int .i64 s1, .int .i64 s2] 31)).alloc (.cells #[.int .i64 v1, .int .i64 v2] 31)).alloc (.cells #[.int .i64 0, .int .i64 0] 31)).alloc (.cells #[.int .i64 0, .int .i64 0] 31)) wB := kW.trans kB) | (have kW : Keeps ((((w0.alloc (.cells #[.int .i64 s1, .int .i64 s2] 31)).alloc (.cells #[.int .i64 v1, .int .i64 v2] 31)).alloc (.cells #[.int .i64 0, .int .i64 0] 31)).alloc (.cells #[.int .i64 0, .int .i64 0] 31)) wB := (kW.trans (keeps_alloc _ _)).trans kB) | (have kW : Keeps ((((w0.alloc (.cells #[.int .i64 s1, .int .i64 s2] 31)).alloc (.cells #[.int .i64 v1, .int .i64 v2] 31)).alloc (.cells #[.int .i64 0, .int .i64 0] 31)).alloc (.cells #[.int .i64 0, .int .i64 0] 31)) wB := keeps_d kB) | (have kW : Keeps ((((w0.alloc (.cells #[.int .i64 s1, .int .i64 s2] 31)).alloc (.cells #[.int .i64 v1, .int .i64 v2] 31)).alloc (.cells #[.int .i64 0, .int .i64 0] 31)).alloc (.cells #[.int .i64 0, .int .i64 0] 31)) wB := keeps_ad kB)); clear kB)))
    all_goals (go_wp2_with fail; go_meet; first
      | exact ⟨_, _, rfl, rfl, rfl, Bx.new _ _ _ _, kW.size, kW.trans (keeps_alloc _ _)⟩
      | exact ⟨_, _, rfl, rfl, rfl, Bx.set (x := 0) (y := 0) kZ _ _, lz, below_set2 kW lz _ _⟩)
  case rest =>
    clear kS
    clear ca2 cb2
    obtain ⟨wx1, g1, rfl, rfl, rfl, b11, lg1, kx1⟩ := hcut
    simp at lg1
    replace b6 := b6.keeps kx1
    replace b7 := b7.keeps kx1
    replace b8 := b8.keeps kx1
    replace b9 := b9.keeps kx1
    replace kw := Keeps.trans kw kx1
    clear kx1
    have lt4 := b11.lt
    have sz5 := kw.size
    go_wp2_with fail
    obtain ⟨ca7, cb7, -, -⟩ := id b6
    have kS := hid (show ∀ w', Keeps wx1 w' → (w'.cell? ⟨w0.heap.size, 0, none⟩ = some (.int .i64 s1) ∧ w'.cell? ⟨w0.heap.size, 1, none⟩ = some (.int .i64 s2)) from fun w' k => ⟨cell_keeps ca7 k, cell_keeps cb7 k⟩)
    go_cut [13, 14] (fun sd so wq => ∃ wy g, wy = wq ∧ sd = .pointer (some ⟨g, 0, none⟩) ∧ so = .bool b3 ∧ Bx wy g b1 b2 ∧ wx1.heap.size ≤ g ∧ Keeps wx1 wy)
    case first =>
      go_region_held3 (fun w' => w'.cell? ⟨w0.heap.size, 0, none⟩ = some (.int .i64 s1) ∧ w'.cell? ⟨w0.heap.size, 1, none⟩ = some (.int .i64 s2)) (first | with_reducible exact kS.out _ (keeps_d0 wx1) | with_reducible exact kS.out _ (keeps_ad0 wx1 _) | with_reducible exact kS.out _ (kW) | with_reducible exact kS.out _ (kW.trans (keeps_alloc _ _)) | with_reducible exact kS.out _ (below_set2 kW lz _ _) | go_keep)
        ((first | (go_at_call 91; refine (fInt_any).mono ?_; rintro e wB ⟨rfl, kB⟩; (first | (have kZ : Bx wB wx1.heap.size 0 0 := Bx.kZ1 kB rfl; have lz : wx1.heap.size ≤ wx1.heap.size := (Nat.le_refl _); obtain ⟨z1, z2, z3, z4⟩ := id kZ) | (have kZ : Bx wB wx1.heap.size 0 0 := Bx.kZ2 kB rfl; have lz : wx1.heap.size ≤ wx1.heap.size := (Nat.le_refl _); obtain ⟨z1, z2, z3, z4⟩ := id kZ) | (have kZ := kZ.keeps kB; obtain ⟨z1, z2, z3, z4⟩ := id kZ) | (have kZ : Bx wB _ 0 0 := Bx.kZ2 kB rfl; have lz := kW.size; obtain ⟨z1, z2, z3, z4⟩ := id kZ) | skip); (first | (have kW : Keeps wx1 wB := kW.trans kB) | (have kW : Keeps wx1 wB := (kW.trans (keeps_alloc _ _)).trans kB) | (have kW : Keeps wx1 wB := keeps_d kB) | (have kW : Keeps wx1 wB := keeps_ad kB)); clear kB) | (go_at_call 92; refine (fMul_any FS.out hqw).mono ?_; rintro e wB ⟨rfl, kB⟩; rw [HB.out]; (first | (have kZ : Bx wB wx1.heap.size 0 0 := Bx.kZ1 kB rfl; have lz : wx1.heap.size ≤ wx1.heap.size := (Nat.le_refl _); obtain ⟨z1, z2, z3, z4⟩ := id kZ) | (have kZ : Bx wB wx1.heap.size 0 0 := Bx.kZ2 kB rfl; have lz : wx1.heap.size ≤ wx1.heap.size := (Nat.le_refl _); obtain ⟨z1, z2, z3, z4⟩ := id kZ) | (have kZ := kZ.keeps kB; obtain ⟨z1, z2, z3, z4⟩ := id kZ) | (have kZ : Bx wB _ 0 0 := Bx.kZ2 kB rfl; have lz := kW.size; obtain ⟨z1, z2, z3, z4⟩ := id kZ) | skip); (first | (have kW : Keeps wx1 wB := kW.trans kB) | (have kW : Keeps wx1 wB := (kW.trans (keeps_alloc _ _)).trans kB) | (have kW : Keeps wx1 wB := keeps_d kB) | (have kW : Keeps wx1 wB := keeps_ad kB)); clear kB)))
      all_goals (go_wp2_with fail; go_meet; first
        | exact ⟨_, _, rfl, rfl, rfl, Bx.new _ _ _ _, kW.size, kW.trans (keeps_alloc _ _)⟩
        | exact ⟨_, _, rfl, rfl, rfl, Bx.set (x := 0) (y := 0) kZ _ _, lz, below_set2 kW lz _ _⟩)
    case rest =>
      clear kS
      clear ca7 cb7
      obtain ⟨wx6, g6, rfl, rfl, rfl, b13, lg6, kx6⟩ := hcut
      replace b6 := b6.keeps kx6
      replace b7 := b7.keeps kx6
      replace b8 := b8.keeps kx6
      replace b9 := b9.keeps kx6
      replace b11 := b11.keeps kx6
      replace kw := Keeps.trans kw kx6
      clear kx6
      have lt9 := b13.lt
      have sz10 := kw.size
      cases a3
      · have HE := hid (show meanQ y w s1 s2 v1 v2 = none from bindQ_no HA.out)
        obtain ⟨ca11, cb11, fa11, fb11⟩ := id b11
        obtain ⟨ca12, cb12, fa12, fb12⟩ := id b13
        obtain ⟨ca13, cb13, fa13, fb13⟩ := id b8
        obtain ⟨ca14, cb14, fa14, fb14⟩ := id b9
        go_wp2_with fail
        go_region
        all_goals (
          go_wp2
          refine bodyPost_ret (v := .tuple #[.agg #[.int .i64 a1, .int .i64 a2], .agg #[.int .i64 b1, .int .i64 b2], .bool false]) (by simp [results, Try.results229, go_sem, ca11, cb11, fa11, fb11, ca12, cb12, fa12, fb12, ca13, cb13, fa13, fb13, ca14, cb14, fa14, fb14]) rfl (TwoQ.no HE.out rfl ?_)
          first | exact below_set4 kw (by omega) (by omega) _ _ _ _ | exact below_drewN (below_set4 kw (by omega) (by omega) _ _ _ _) 1 | exact below_set4 (below_drewN kw 1) (by omega) (by omega) _ _ _ _)
      cases b3
      · have HE := hid (show meanQ y w s1 s2 v1 v2 = none from (bindQ_yes HA.out).trans (bindQ_no HB.out))
        obtain ⟨ca11, cb11, fa11, fb11⟩ := id b11
        obtain ⟨ca12, cb12, fa12, fb12⟩ := id b13
        obtain ⟨ca13, cb13, fa13, fb13⟩ := id b8
        obtain ⟨ca14, cb14, fa14, fb14⟩ := id b9
        go_wp2_with fail
        go_region
        all_goals (
          go_wp2
          refine bodyPost_ret (v := .tuple #[.agg #[.int .i64 a1, .int .i64 a2], .agg #[.int .i64 b1, .int .i64 b2], .bool false]) (by simp [results, Try.results229, go_sem, ca11, cb11, fa11, fb11, ca12, cb12, fa12, fb12, ca13, cb13, fa13, fb13, ca14, cb14, fa14, fb14]) rfl (TwoQ.no HE.out rfl ?_)
          first | exact below_set4 kw (by omega) (by omega) _ _ _ _ | exact below_drewN (below_set4 kw (by omega) (by omega) _ _ _ _) 1 | exact below_set4 (below_drewN kw 1) (by omega) (by omega) _ _ _ _)
      have HF := hid (show meanQ y w s1 s2 v1 v2 = meanT w v1 v2 a1 a2 b1 b2 from (bindQ_yes HA.out).trans (bindQ_yes HB.out))
      have FA := hid (fracB_qb (mkF_fine HA.out))
      have FB := hid (fracB_qb (mkF_fine HB.out))
      clear HA HB
      obtain ⟨t1, t2, t3, HT⟩ : ∃ r1 r2 r3, Hid (mkF (a1 * b2 + b1 * a2) (a2 * b2) = (r1, r2, r3)) := ⟨_, _, _, rfl⟩
      obtain ⟨d1, d2, d3, HD⟩ : ∃ r1 r2 r3, Hid (mkF (v1 * 1 + w * v2) (v2 * 1) = (r1, r2, r3)) := ⟨_, _, _, rfl⟩
      obtain ⟨p1, p2, p3, HP⟩ : ∃ r1 r2 r3, Hid (mkF (v1 * w) (v2 * 1) = (r1, r2, r3)) := ⟨_, _, _, rfl⟩
      obtain ⟨ca11, cb11, fa11, fb11⟩ := id b11
      obtain ⟨ca12, cb12, fa12, fb12⟩ := id b13
      go_wp2_with fail
      clear ca11 cb11 fa11 fb11 ca12 cb12 fa12 fb12
      refine (fAdd_any FA.out FB.out).mono ?_
      rintro e w13 ⟨rfl, k13⟩
      rw [HT.out]
      replace b6 := b6.keeps k13
      replace b7 := b7.keeps k13
      replace b8 := b8.keeps k13
      replace b9 := b9.keeps k13
      replace b11 := b11.keeps k13
      replace b13 := b13.keeps k13
      replace kw := Keeps.trans kw k13
      have lt14 := b13.lt
      have sz15 := kw.size
      clear k13
      replace b6 := b6.keeps (keeps_alloc w13 (.cells #[.int .i64 t1, .int .i64 t2] 31))
      replace b7 := b7.keeps (keeps_alloc w13 (.cells #[.int .i64 t1, .int .i64 t2] 31))
      replace b8 := b8.keeps (keeps_alloc w13 (.cells #[.int .i64 t1, .int .i64 t2] 31))
      replace b9 := b9.keeps (keeps_alloc w13 (.cells #[.int .i64 t1, .int .i64 t2] 31))
      replace b11 := b11.keeps (keeps_alloc w13 (.cells #[.int .i64 t1, .int .i64 t2] 31))
      replace b13 := b13.keeps (keeps_alloc w13 (.cells #[.int .i64 t1, .int .i64 t2] 31))
      replace kw := Keeps.trans kw (keeps_alloc w13 (.cells #[.int .i64 t1, .int .i64 t2] 31))
      have b15 : Bx (w13.alloc (.cells #[.int .i64 t1, .int .i64 t2] 31)) w13.heap.size t1 t2 := Bx.new' (by simp)
      go_wp2_with fail
      obtain ⟨ca17, cb17, -, -⟩ := id b7
      have kS := hid (show ∀ w', Keeps (w13.alloc (.cells #[.int .i64 t1, .int .i64 t2] 31)) w' → (w'.cell? ⟨w0.heap.size + 1, 0, none⟩ = some (.int .i64 v1) ∧ w'.cell? ⟨w0.heap.size + 1, 1, none⟩ = some (.int .i64 v2)) from fun w' k => ⟨cell_keeps ca17 k, cell_keeps cb17 k⟩)
      go_cut [17, 18] (fun sd so wq => ∃ wy g, wy = wq ∧ sd = .pointer (some ⟨g, 0, none⟩) ∧ so = .bool d3 ∧ Bx wy g d1 d2 ∧ (w13.alloc (.cells #[.int .i64 t1, .int .i64 t2] 31)).heap.size ≤ g ∧ Keeps (w13.alloc (.cells #[.int .i64 t1, .int .i64 t2] 31)) wy)
      case first =>
        have eA := hid (show (w13.alloc (.cells #[.int .i64 t1, .int .i64 t2] 31)).heap.size = w13.heap.size + 1 by simp)
        go_region_held3 (fun w' => w'.cell? ⟨w0.heap.size + 1, 0, none⟩ = some (.int .i64 v1) ∧ w'.cell? ⟨w0.heap.size + 1, 1, none⟩ = some (.int .i64 v2)) (first | with_reducible exact kS.out _ (keeps_d0 (w13.alloc (.cells #[.int .i64 t1, .int .i64 t2] 31))) | with_reducible exact kS.out _ (keeps_ad0 (w13.alloc (.cells #[.int .i64 t1, .int .i64 t2] 31)) _) | with_reducible exact kS.out _ (kW) | with_reducible exact kS.out _ (kW.trans (keeps_alloc _ _)) | with_reducible exact kS.out _ (below_set2 kW lz _ _) | go_keep)
          ((first | (go_at_call 91; refine (fInt_any).mono ?_; rintro e wB ⟨rfl, kB⟩; (first | (have kZ : Bx wB (w13.heap.size + 1) 0 0 := Bx.kZ1 kB eA.out; have lz : (w13.alloc (.cells #[.int .i64 t1, .int .i64 t2] 31)).heap.size ≤ (w13.heap.size + 1) := (Nat.le_of_eq eA.out); obtain ⟨z1, z2, z3, z4⟩ := id kZ) | (have kZ : Bx wB (w13.heap.size + 1) 0 0 := Bx.kZ2 kB eA.out; have lz : (w13.alloc (.cells #[.int .i64 t1, .int .i64 t2] 31)).heap.size ≤ (w13.heap.size + 1) := (Nat.le_of_eq eA.out); obtain ⟨z1, z2, z3, z4⟩ := id kZ) | (have kZ := kZ.keeps kB; obtain ⟨z1, z2, z3, z4⟩ := id kZ) | (have kZ : Bx wB _ 0 0 := Bx.kZ2 kB rfl; have lz := kW.size; obtain ⟨z1, z2, z3, z4⟩ := id kZ) | skip); (first | (have kW : Keeps (w13.alloc (.cells #[.int .i64 t1, .int .i64 t2] 31)) wB := kW.trans kB) | (have kW : Keeps (w13.alloc (.cells #[.int .i64 t1, .int .i64 t2] 31)) wB := (kW.trans (keeps_alloc _ _)).trans kB) | (have kW : Keeps (w13.alloc (.cells #[.int .i64 t1, .int .i64 t2] 31)) wB := keeps_d kB) | (have kW : Keeps (w13.alloc (.cells #[.int .i64 t1, .int .i64 t2] 31)) wB := keeps_ad kB)); clear kB) | (go_at_call 93; refine (fAdd_any FV.out hqw).mono ?_; rintro e wB ⟨rfl, kB⟩; rw [HD.out]; (first | (have kZ : Bx wB (w13.heap.size + 1) 0 0 := Bx.kZ1 kB eA.out; have lz : (w13.alloc (.cells #[.int .i64 t1, .int .i64 t2] 31)).heap.size ≤ (w13.heap.size + 1) := (Nat.le_of_eq eA.out); obtain ⟨z1, z2, z3, z4⟩ := id kZ) | (have kZ : Bx wB (w13.heap.size + 1) 0 0 := Bx.kZ2 kB eA.out; have lz : (w13.alloc (.cells #[.int .i64 t1, .int .i64 t2] 31)).heap.size ≤ (w13.heap.size + 1) := (Nat.le_of_eq eA.out); obtain ⟨z1, z2, z3, z4⟩ := id kZ) | (have kZ := kZ.keeps kB; obtain ⟨z1, z2, z3, z4⟩ := id kZ) | (have kZ : Bx wB _ 0 0 := Bx.kZ2 kB rfl; have lz := kW.size; obtain ⟨z1, z2, z3, z4⟩ := id kZ) | skip); (first | (have kW : Keeps (w13.alloc (.cells #[.int .i64 t1, .int .i64 t2] 31)) wB := kW.trans kB) | (have kW : Keeps (w13.alloc (.cells #[.int .i64 t1, .int .i64 t2] 31)) wB := (kW.trans (keeps_alloc _ _)).trans kB) | (have kW : Keeps (w13.alloc (.cells #[.int .i64 t1, .int .i64 t2] 31)) wB := keeps_d kB) | (have kW : Keeps (w13.alloc (.cells #[.int .i64 t1, .int .i64 t2] 31)) wB := keeps_ad kB)); clear kB)))
        all_goals (go_wp2_with fail; go_meet; first
          | exact ⟨_, _, rfl, rfl, rfl, Bx.new _ _ _ _, kW.size, kW.trans (keeps_alloc _ _)⟩
          | exact ⟨_, _, rfl, rfl, rfl, Bx.set (x := 0) (y := 0) kZ _ _, lz, below_set2 kW lz _ _⟩)
      case rest =>
        clear kS
        clear ca17 cb17
        obtain ⟨wx16, g16, rfl, rfl, rfl, b17, lg16, kx16⟩ := hcut
        simp at lg16
        replace b6 := b6.keeps kx16
        replace b7 := b7.keeps kx16
        replace b8 := b8.keeps kx16
        replace b9 := b9.keeps kx16
        replace b11 := b11.keeps kx16
        replace b13 := b13.keeps kx16
        replace b15 := b15.keeps kx16
        replace kw := Keeps.trans kw kx16
        clear kx16
        have lt19 := b17.lt
        have sz20 := kw.size
        go_wp2_with fail
        obtain ⟨ca22, cb22, -, -⟩ := id b7
        have kS := hid (show ∀ w', Keeps wx16 w' → (w'.cell? ⟨w0.heap.size + 1, 0, none⟩ = some (.int .i64 v1) ∧ w'.cell? ⟨w0.heap.size + 1, 1, none⟩ = some (.int .i64 v2)) from fun w' k => ⟨cell_keeps ca22 k, cell_keeps cb22 k⟩)
        go_cut [19, 20] (fun sd so wq => ∃ wy g, wy = wq ∧ sd = .pointer (some ⟨g, 0, none⟩) ∧ so = .bool p3 ∧ Bx wy g p1 p2 ∧ wx16.heap.size ≤ g ∧ Keeps wx16 wy)
        case first =>
          go_region_held3 (fun w' => w'.cell? ⟨w0.heap.size + 1, 0, none⟩ = some (.int .i64 v1) ∧ w'.cell? ⟨w0.heap.size + 1, 1, none⟩ = some (.int .i64 v2)) (first | with_reducible exact kS.out _ (keeps_d0 wx16) | with_reducible exact kS.out _ (keeps_ad0 wx16 _) | with_reducible exact kS.out _ (kW) | with_reducible exact kS.out _ (kW.trans (keeps_alloc _ _)) | with_reducible exact kS.out _ (below_set2 kW lz _ _) | go_keep)
            ((first | (go_at_call 91; refine (fInt_any).mono ?_; rintro e wB ⟨rfl, kB⟩; (first | (have kZ : Bx wB wx16.heap.size 0 0 := Bx.kZ1 kB rfl; have lz : wx16.heap.size ≤ wx16.heap.size := (Nat.le_refl _); obtain ⟨z1, z2, z3, z4⟩ := id kZ) | (have kZ : Bx wB wx16.heap.size 0 0 := Bx.kZ2 kB rfl; have lz : wx16.heap.size ≤ wx16.heap.size := (Nat.le_refl _); obtain ⟨z1, z2, z3, z4⟩ := id kZ) | (have kZ := kZ.keeps kB; obtain ⟨z1, z2, z3, z4⟩ := id kZ) | (have kZ : Bx wB _ 0 0 := Bx.kZ2 kB rfl; have lz := kW.size; obtain ⟨z1, z2, z3, z4⟩ := id kZ) | skip); (first | (have kW : Keeps wx16 wB := kW.trans kB) | (have kW : Keeps wx16 wB := (kW.trans (keeps_alloc _ _)).trans kB) | (have kW : Keeps wx16 wB := keeps_d kB) | (have kW : Keeps wx16 wB := keeps_ad kB)); clear kB) | (go_at_call 92; refine (fMul_any FV.out hqw).mono ?_; rintro e wB ⟨rfl, kB⟩; rw [HP.out]; (first | (have kZ : Bx wB wx16.heap.size 0 0 := Bx.kZ1 kB rfl; have lz : wx16.heap.size ≤ wx16.heap.size := (Nat.le_refl _); obtain ⟨z1, z2, z3, z4⟩ := id kZ) | (have kZ : Bx wB wx16.heap.size 0 0 := Bx.kZ2 kB rfl; have lz : wx16.heap.size ≤ wx16.heap.size := (Nat.le_refl _); obtain ⟨z1, z2, z3, z4⟩ := id kZ) | (have kZ := kZ.keeps kB; obtain ⟨z1, z2, z3, z4⟩ := id kZ) | (have kZ : Bx wB _ 0 0 := Bx.kZ2 kB rfl; have lz := kW.size; obtain ⟨z1, z2, z3, z4⟩ := id kZ) | skip); (first | (have kW : Keeps wx16 wB := kW.trans kB) | (have kW : Keeps wx16 wB := (kW.trans (keeps_alloc _ _)).trans kB) | (have kW : Keeps wx16 wB := keeps_d kB) | (have kW : Keeps wx16 wB := keeps_ad kB)); clear kB)))
          all_goals (go_wp2_with fail; go_meet; first
            | exact ⟨_, _, rfl, rfl, rfl, Bx.new _ _ _ _, kW.size, kW.trans (keeps_alloc _ _)⟩
            | exact ⟨_, _, rfl, rfl, rfl, Bx.set (x := 0) (y := 0) kZ _ _, lz, below_set2 kW lz _ _⟩)
        case rest =>
          clear kS
          clear ca22 cb22
          obtain ⟨wx21, g21, rfl, rfl, rfl, b19, lg21, kx21⟩ := hcut
          replace b6 := b6.keeps kx21
          replace b7 := b7.keeps kx21
          replace b8 := b8.keeps kx21
          replace b9 := b9.keeps kx21
          replace b11 := b11.keeps kx21
          replace b13 := b13.keeps kx21
          replace b15 := b15.keeps kx21
          replace b17 := b17.keeps kx21
          replace kw := Keeps.trans kw kx21
          clear kx21
          have lt24 := b19.lt
          have sz25 := kw.size
          cases t3
          · have HE := hid (show meanQ y w s1 s2 v1 v2 = none from HF.out.trans (bindQ_no HT.out))
            obtain ⟨ca26, cb26, fa26, fb26⟩ := id b11
            obtain ⟨ca27, cb27, fa27, fb27⟩ := id b13
            obtain ⟨ca28, cb28, fa28, fb28⟩ := id b8
            obtain ⟨ca29, cb29, fa29, fb29⟩ := id b9
            go_wp2_with fail
            go_region
            all_goals (
              go_wp2
              refine bodyPost_ret (v := .tuple #[.agg #[.int .i64 a1, .int .i64 a2], .agg #[.int .i64 b1, .int .i64 b2], .bool false]) (by simp [results, Try.results229, go_sem, ca26, cb26, fa26, fb26, ca27, cb27, fa27, fb27, ca28, cb28, fa28, fb28, ca29, cb29, fa29, fb29]) rfl (TwoQ.no HE.out rfl ?_)
              first | exact below_set4 kw (by omega) (by omega) _ _ _ _ | exact below_drewN (below_set4 kw (by omega) (by omega) _ _ _ _) 1 | exact below_set4 (below_drewN kw 1) (by omega) (by omega) _ _ _ _)
          replace HF := hid (HF.out.trans (show meanT w v1 v2 a1 a2 b1 b2 = meanD w v1 v2 t1 t2 from bindQ_yes HT.out))
          cases d3
          · have HE := hid (show meanQ y w s1 s2 v1 v2 = none from HF.out.trans (bindQ_no HD.out))
            obtain ⟨ca26, cb26, fa26, fb26⟩ := id b11
            obtain ⟨ca27, cb27, fa27, fb27⟩ := id b13
            obtain ⟨ca28, cb28, fa28, fb28⟩ := id b8
            obtain ⟨ca29, cb29, fa29, fb29⟩ := id b9
            go_wp2_with fail
            go_region
            all_goals (
              go_wp2
              refine bodyPost_ret (v := .tuple #[.agg #[.int .i64 a1, .int .i64 a2], .agg #[.int .i64 b1, .int .i64 b2], .bool false]) (by simp [results, Try.results229, go_sem, ca26, cb26, fa26, fb26, ca27, cb27, fa27, fb27, ca28, cb28, fa28, fb28, ca29, cb29, fa29, fb29]) rfl (TwoQ.no HE.out rfl ?_)
              first | exact below_set4 kw (by omega) (by omega) _ _ _ _ | exact below_drewN (below_set4 kw (by omega) (by omega) _ _ _ _) 1 | exact below_set4 (below_drewN kw 1) (by omega) (by omega) _ _ _ _)
          replace HF := hid (HF.out.trans (show meanD w v1 v2 t1 t2 = meanP w v1 v2 t1 t2 d1 d2 from bindQ_yes HD.out))
          cases p3
          · have HE := hid (show meanQ y w s1 s2 v1 v2 = none from HF.out.trans (bindQ_no HP.out))
            obtain ⟨ca26, cb26, fa26, fb26⟩ := id b11
            obtain ⟨ca27, cb27, fa27, fb27⟩ := id b13
            obtain ⟨ca28, cb28, fa28, fb28⟩ := id b8
            obtain ⟨ca29, cb29, fa29, fb29⟩ := id b9
            go_wp2_with fail
            go_region
            all_goals (
              go_wp2
              refine bodyPost_ret (v := .tuple #[.agg #[.int .i64 a1, .int .i64 a2], .agg #[.int .i64 b1, .int .i64 b2], .bool false]) (by simp [results, Try.results229, go_sem, ca26, cb26, fa26, fb26, ca27, cb27, fa27, fb27, ca28, cb28, fa28, fb28, ca29, cb29, fa29, fb29]) rfl (TwoQ.no HE.out rfl ?_)
              first | exact below_set4 kw (by omega) (by omega) _ _ _ _ | exact below_drewN (below_set4 kw (by omega) (by omega) _ _ _ _) 1 | exact below_set4 (below_drewN kw 1) (by omega) (by omega) _ _ _ _)
          replace HF := hid (HF.out.trans (show meanP w v1 v2 t1 t2 d1 d2 = meanZ t1 t2 d1 d2 p1 p2 from bindQ_yes HP.out))
          have FT := hid (fracB_qb (mkF_fine HT.out))
          have FD := hid (fracB_qb (mkF_fine HD.out))
          have FP := hid (fracB_qb (mkF_fine HP.out))
          clear HT HD HP
          obtain ⟨z1, z2, z3, HZ⟩ : ∃ r1 r2 r3, Hid (mkF (t1 * d2) (t2 * d1) = (r1, r2, r3)) := ⟨_, _, _, rfl⟩
          obtain ⟨u1, u2, u3, HU⟩ : ∃ r1 r2 r3, Hid (mkF (p1 * d2) (p2 * d1) = (r1, r2, r3)) := ⟨_, _, _, rfl⟩
          obtain ⟨ca26, cb26, fa26, fb26⟩ := id b15
          obtain ⟨ca27, cb27, fa27, fb27⟩ := id b17
          go_wp2_with fail
          clear ca26 cb26 fa26 fb26 ca27 cb27 fa27 fb27
          refine (fDiv_any FT.out FD.out).mono ?_
          rintro e w28 ⟨rfl, k28⟩
          rw [HZ.out]
          replace b6 := b6.keeps k28
          replace b7 := b7.keeps k28
          replace b8 := b8.keeps k28
          replace b9 := b9.keeps k28
          replace b11 := b11.keeps k28
          replace b13 := b13.keeps k28
          replace b15 := b15.keeps k28
          replace b17 := b17.keeps k28
          replace b19 := b19.keeps k28
          replace kw := Keeps.trans kw k28
          have lt29 := b19.lt
          have sz30 := kw.size
          clear k28
          obtain ⟨ca31, cb31, fa31, fb31⟩ := id b17
          obtain ⟨ca32, cb32, fa32, fb32⟩ := id b19
          replace b6 := b6.keeps (keeps_alloc w28 (.cells #[.int .i64 z1, .int .i64 z2] 31))
          replace b7 := b7.keeps (keeps_alloc w28 (.cells #[.int .i64 z1, .int .i64 z2] 31))
          replace b8 := b8.keeps (keeps_alloc w28 (.cells #[.int .i64 z1, .int .i64 z2] 31))
          replace b9 := b9.keeps (keeps_alloc w28 (.cells #[.int .i64 z1, .int .i64 z2] 31))
          replace b11 := b11.keeps (keeps_alloc w28 (.cells #[.int .i64 z1, .int .i64 z2] 31))
          replace b13 := b13.keeps (keeps_alloc w28 (.cells #[.int .i64 z1, .int .i64 z2] 31))
          replace b15 := b15.keeps (keeps_alloc w28 (.cells #[.int .i64 z1, .int .i64 z2] 31))
          replace b17 := b17.keeps (keeps_alloc w28 (.cells #[.int .i64 z1, .int .i64 z2] 31))
          replace b19 := b19.keeps (keeps_alloc w28 (.cells #[.int .i64 z1, .int .i64 z2] 31))
          replace kw := Keeps.trans kw (keeps_alloc w28 (.cells #[.int .i64 z1, .int .i64 z2] 31))
          have b21 : Bx (w28.alloc (.cells #[.int .i64 z1, .int .i64 z2] 31)) w28.heap.size z1 z2 := Bx.new' (by simp)
          obtain ⟨ca33, cb33, fa33, fb33⟩ := id b17
          obtain ⟨ca34, cb34, fa34, fb34⟩ := id b19
          go_wp2_with fail
          clear ca31 cb31 fa31 fb31 ca32 cb32 fa32 fb32 ca33 cb33 fa33 fb33 ca34 cb34 fa34 fb34
          refine (fDiv_any FP.out FD.out).mono ?_
          rintro e w35 ⟨rfl, k35⟩
          rw [HU.out]
          replace b6 := b6.keeps k35
          replace b7 := b7.keeps k35
          replace b8 := b8.keeps k35
          replace b9 := b9.keeps k35
          replace b11 := b11.keeps k35
          replace b13 := b13.keeps k35
          replace b15 := b15.keeps k35
          replace b17 := b17.keeps k35
          replace b19 := b19.keeps k35
          replace b21 := b21.keeps k35
          replace kw := Keeps.trans kw k35
          have lt36 := b21.lt
          have sz37 := kw.size
          clear k35
          replace b6 := b6.keeps (keeps_alloc w35 (.cells #[.int .i64 u1, .int .i64 u2] 31))
          replace b7 := b7.keeps (keeps_alloc w35 (.cells #[.int .i64 u1, .int .i64 u2] 31))
          replace b8 := b8.keeps (keeps_alloc w35 (.cells #[.int .i64 u1, .int .i64 u2] 31))
          replace b9 := b9.keeps (keeps_alloc w35 (.cells #[.int .i64 u1, .int .i64 u2] 31))
          replace b11 := b11.keeps (keeps_alloc w35 (.cells #[.int .i64 u1, .int .i64 u2] 31))
          replace b13 := b13.keeps (keeps_alloc w35 (.cells #[.int .i64 u1, .int .i64 u2] 31))
          replace b15 := b15.keeps (keeps_alloc w35 (.cells #[.int .i64 u1, .int .i64 u2] 31))
          replace b17 := b17.keeps (keeps_alloc w35 (.cells #[.int .i64 u1, .int .i64 u2] 31))
          replace b19 := b19.keeps (keeps_alloc w35 (.cells #[.int .i64 u1, .int .i64 u2] 31))
          replace b21 := b21.keeps (keeps_alloc w35 (.cells #[.int .i64 u1, .int .i64 u2] 31))
          replace kw := Keeps.trans kw (keeps_alloc w35 (.cells #[.int .i64 u1, .int .i64 u2] 31))
          have b23 : Bx (w35.alloc (.cells #[.int .i64 u1, .int .i64 u2] 31)) w35.heap.size u1 u2 := Bx.new' (by simp)
          cases z3
          · have HE := hid (show meanQ y w s1 s2 v1 v2 = none from HF.out.trans (bindQ_no HZ.out))
            obtain ⟨ca38, cb38, fa38, fb38⟩ := id b21
            obtain ⟨ca39, cb39, fa39, fb39⟩ := id b23
            obtain ⟨ca40, cb40, fa40, fb40⟩ := id b8
            obtain ⟨ca41, cb41, fa41, fb41⟩ := id b9
            go_wp2_with fail
            go_region
            all_goals (
              go_wp2
              refine bodyPost_ret (v := .tuple #[.agg #[.int .i64 z1, .int .i64 z2], .agg #[.int .i64 u1, .int .i64 u2], .bool false]) (by simp [results, Try.results229, go_sem, ca38, cb38, fa38, fb38, ca39, cb39, fa39, fb39, ca40, cb40, fa40, fb40, ca41, cb41, fa41, fb41]) rfl (TwoQ.no HE.out rfl ?_)
              first | exact below_set4 kw (by omega) (by omega) _ _ _ _ | exact below_drewN (below_set4 kw (by omega) (by omega) _ _ _ _) 1 | exact below_set4 (below_drewN kw 1) (by omega) (by omega) _ _ _ _)
          replace HF := hid (HF.out.trans (show meanZ t1 t2 d1 d2 p1 p2 = meanU p1 p2 d1 d2 z1 z2 from bindQ_yes HZ.out))
          cases u3
          · have HE := hid (show meanQ y w s1 s2 v1 v2 = none from HF.out.trans (bindQ_no HU.out))
            obtain ⟨ca38, cb38, fa38, fb38⟩ := id b21
            obtain ⟨ca39, cb39, fa39, fb39⟩ := id b23
            obtain ⟨ca40, cb40, fa40, fb40⟩ := id b8
            obtain ⟨ca41, cb41, fa41, fb41⟩ := id b9
            go_wp2_with fail
            go_region
            all_goals (
              go_wp2
              refine bodyPost_ret (v := .tuple #[.agg #[.int .i64 z1, .int .i64 z2], .agg #[.int .i64 u1, .int .i64 u2], .bool false]) (by simp [results, Try.results229, go_sem, ca38, cb38, fa38, fb38, ca39, cb39, fa39, fb39, ca40, cb40, fa40, fb40, ca41, cb41, fa41, fb41]) rfl (TwoQ.no HE.out rfl ?_)
              first | exact below_set4 kw (by omega) (by omega) _ _ _ _ | exact below_drewN (below_set4 kw (by omega) (by omega) _ _ _ _) 1 | exact below_set4 (below_drewN kw 1) (by omega) (by omega) _ _ _ _)
          have HE := hid (show meanQ y w s1 s2 v1 v2 = some ((z1, z2), (u1, u2)) from HF.out.trans (bindQ_yes HU.out))
          obtain ⟨ca38, cb38, fa38, fb38⟩ := id b21
          obtain ⟨ca39, cb39, fa39, fb39⟩ := id b23
          obtain ⟨ca40, cb40, fa40, fb40⟩ := id b8
          obtain ⟨ca41, cb41, fa41, fb41⟩ := id b9
          go_wp2_with fail
          go_region
          all_goals (
            go_wp2
            refine bodyPost_ret (v := .tuple #[.agg #[.int .i64 z1, .int .i64 z2], .agg #[.int .i64 u1, .int .i64 u2], .bool true]) (by simp [results, Try.results229, go_sem, ca38, cb38, fa38, fb38, ca39, cb39, fa39, fb39, ca40, cb40, fa40, fb40, ca41, cb41, fa41, fb41]) rfl (TwoQ.yes HE.out rfl ?_)
            first | exact below_set4 kw (by omega) (by omega) _ _ _ _ | exact below_drewN (below_set4 kw (by omega) (by omega) _ _ _ _) 1 | exact below_set4 (below_drewN kw 1) (by omega) (by omega) _ _ _ _)
set_option maxRecDepth 100000 in
set_option maxHeartbeats 1600000 in
theorem weighted_any {y w s1 s2 v1 v2 : Int} {w0 : World} (hy : -1000000000 ≤ y ∧ y ≤ 1000000000) (hw : -1000000000 ≤ w ∧ w ≤ 1000000000) (fs : fracB s1 s2 = true) (fv : fracB v1 v2 = true) :
    Calls Try.prog 250 #[.agg #[.int .i64 y, .int .i64 1], .agg #[.int .i64 w, .int .i64 1], .agg #[.int .i64 s1, .int .i64 s2], .agg #[.int .i64 v1, .int .i64 v2]] w0 (TwoQ w0 (meanQ y w s1 s2 v1 v2)) := by
  have hqy := hid (fracB_int hy)
  have hqw := hid (fracB_int hw)
  have FS := hid fs
  have FV := hid fv
  clear fs fv
  obtain ⟨a1, a2, a3, HA⟩ : ∃ r1 r2 r3, Hid (mkF (v1 * y) (v2 * 1) = (r1, r2, r3)) := ⟨_, _, _, rfl⟩
  obtain ⟨b1, b2, b3, HB⟩ : ∃ r1 r2 r3, Hid (mkF (s1 * w) (s2 * 1) = (r1, r2, r3)) := ⟨_, _, _, rfl⟩
  have HB' := hid (show mkF (w * s1) (1 * s2) = (b1, b2, b3) by rw [Int.mul_comm w, Int.mul_comm 1]; exact HB.out)
  go_enter Try.func250, Try.ntmps250
  have kw := keeps_refl w0
  replace kw := Keeps.trans kw (keeps_alloc w0 (.cells #[.int .i64 y, .int .i64 1] 31))
  have b4 : Bx (w0.alloc (.cells #[.int .i64 y, .int .i64 1] 31)) w0.heap.size y 1 := Bx.new' (by simp)
  replace b4 := b4.keeps (keeps_alloc (w0.alloc (.cells #[.int .i64 y, .int .i64 1] 31)) (.cells #[.int .i64 w, .int .i64 1] 31))
  replace kw := Keeps.trans kw (keeps_alloc (w0.alloc (.cells #[.int .i64 y, .int .i64 1] 31)) (.cells #[.int .i64 w, .int .i64 1] 31))
  have b5 : Bx ((w0.alloc (.cells #[.int .i64 y, .int .i64 1] 31)).alloc (.cells #[.int .i64 w, .int .i64 1] 31)) (w0.heap.size + 1) w 1 := Bx.new' (by simp)
  replace b4 := b4.keeps (keeps_alloc ((w0.alloc (.cells #[.int .i64 y, .int .i64 1] 31)).alloc (.cells #[.int .i64 w, .int .i64 1] 31)) (.cells #[.int .i64 s1, .int .i64 s2] 31))
  replace b5 := b5.keeps (keeps_alloc ((w0.alloc (.cells #[.int .i64 y, .int .i64 1] 31)).alloc (.cells #[.int .i64 w, .int .i64 1] 31)) (.cells #[.int .i64 s1, .int .i64 s2] 31))
  replace kw := Keeps.trans kw (keeps_alloc ((w0.alloc (.cells #[.int .i64 y, .int .i64 1] 31)).alloc (.cells #[.int .i64 w, .int .i64 1] 31)) (.cells #[.int .i64 s1, .int .i64 s2] 31))
  have b6 : Bx (((w0.alloc (.cells #[.int .i64 y, .int .i64 1] 31)).alloc (.cells #[.int .i64 w, .int .i64 1] 31)).alloc (.cells #[.int .i64 s1, .int .i64 s2] 31)) (w0.heap.size + 1 + 1) s1 s2 := Bx.new' (by simp)
  replace b4 := b4.keeps (keeps_alloc (((w0.alloc (.cells #[.int .i64 y, .int .i64 1] 31)).alloc (.cells #[.int .i64 w, .int .i64 1] 31)).alloc (.cells #[.int .i64 s1, .int .i64 s2] 31)) (.cells #[.int .i64 v1, .int .i64 v2] 31))
  replace b5 := b5.keeps (keeps_alloc (((w0.alloc (.cells #[.int .i64 y, .int .i64 1] 31)).alloc (.cells #[.int .i64 w, .int .i64 1] 31)).alloc (.cells #[.int .i64 s1, .int .i64 s2] 31)) (.cells #[.int .i64 v1, .int .i64 v2] 31))
  replace b6 := b6.keeps (keeps_alloc (((w0.alloc (.cells #[.int .i64 y, .int .i64 1] 31)).alloc (.cells #[.int .i64 w, .int .i64 1] 31)).alloc (.cells #[.int .i64 s1, .int .i64 s2] 31)) (.cells #[.int .i64 v1, .int .i64 v2] 31))
  replace kw := Keeps.trans kw (keeps_alloc (((w0.alloc (.cells #[.int .i64 y, .int .i64 1] 31)).alloc (.cells #[.int .i64 w, .int .i64 1] 31)).alloc (.cells #[.int .i64 s1, .int .i64 s2] 31)) (.cells #[.int .i64 v1, .int .i64 v2] 31))
  have b7 : Bx ((((w0.alloc (.cells #[.int .i64 y, .int .i64 1] 31)).alloc (.cells #[.int .i64 w, .int .i64 1] 31)).alloc (.cells #[.int .i64 s1, .int .i64 s2] 31)).alloc (.cells #[.int .i64 v1, .int .i64 v2] 31)) (w0.heap.size + 1 + 1 + 1) v1 v2 := Bx.new' (by simp)
  replace b4 := b4.keeps (keeps_alloc ((((w0.alloc (.cells #[.int .i64 y, .int .i64 1] 31)).alloc (.cells #[.int .i64 w, .int .i64 1] 31)).alloc (.cells #[.int .i64 s1, .int .i64 s2] 31)).alloc (.cells #[.int .i64 v1, .int .i64 v2] 31)) (.cells #[.int .i64 0, .int .i64 0] 31))
  replace b5 := b5.keeps (keeps_alloc ((((w0.alloc (.cells #[.int .i64 y, .int .i64 1] 31)).alloc (.cells #[.int .i64 w, .int .i64 1] 31)).alloc (.cells #[.int .i64 s1, .int .i64 s2] 31)).alloc (.cells #[.int .i64 v1, .int .i64 v2] 31)) (.cells #[.int .i64 0, .int .i64 0] 31))
  replace b6 := b6.keeps (keeps_alloc ((((w0.alloc (.cells #[.int .i64 y, .int .i64 1] 31)).alloc (.cells #[.int .i64 w, .int .i64 1] 31)).alloc (.cells #[.int .i64 s1, .int .i64 s2] 31)).alloc (.cells #[.int .i64 v1, .int .i64 v2] 31)) (.cells #[.int .i64 0, .int .i64 0] 31))
  replace b7 := b7.keeps (keeps_alloc ((((w0.alloc (.cells #[.int .i64 y, .int .i64 1] 31)).alloc (.cells #[.int .i64 w, .int .i64 1] 31)).alloc (.cells #[.int .i64 s1, .int .i64 s2] 31)).alloc (.cells #[.int .i64 v1, .int .i64 v2] 31)) (.cells #[.int .i64 0, .int .i64 0] 31))
  replace kw := Keeps.trans kw (keeps_alloc ((((w0.alloc (.cells #[.int .i64 y, .int .i64 1] 31)).alloc (.cells #[.int .i64 w, .int .i64 1] 31)).alloc (.cells #[.int .i64 s1, .int .i64 s2] 31)).alloc (.cells #[.int .i64 v1, .int .i64 v2] 31)) (.cells #[.int .i64 0, .int .i64 0] 31))
  have b8 : Bx (((((w0.alloc (.cells #[.int .i64 y, .int .i64 1] 31)).alloc (.cells #[.int .i64 w, .int .i64 1] 31)).alloc (.cells #[.int .i64 s1, .int .i64 s2] 31)).alloc (.cells #[.int .i64 v1, .int .i64 v2] 31)).alloc (.cells #[.int .i64 0, .int .i64 0] 31)) (w0.heap.size + 1 + 1 + 1 + 1) 0 0 := Bx.new' (by simp)
  replace b4 := b4.keeps (keeps_alloc (((((w0.alloc (.cells #[.int .i64 y, .int .i64 1] 31)).alloc (.cells #[.int .i64 w, .int .i64 1] 31)).alloc (.cells #[.int .i64 s1, .int .i64 s2] 31)).alloc (.cells #[.int .i64 v1, .int .i64 v2] 31)).alloc (.cells #[.int .i64 0, .int .i64 0] 31)) (.cells #[.int .i64 0, .int .i64 0] 31))
  replace b5 := b5.keeps (keeps_alloc (((((w0.alloc (.cells #[.int .i64 y, .int .i64 1] 31)).alloc (.cells #[.int .i64 w, .int .i64 1] 31)).alloc (.cells #[.int .i64 s1, .int .i64 s2] 31)).alloc (.cells #[.int .i64 v1, .int .i64 v2] 31)).alloc (.cells #[.int .i64 0, .int .i64 0] 31)) (.cells #[.int .i64 0, .int .i64 0] 31))
  replace b6 := b6.keeps (keeps_alloc (((((w0.alloc (.cells #[.int .i64 y, .int .i64 1] 31)).alloc (.cells #[.int .i64 w, .int .i64 1] 31)).alloc (.cells #[.int .i64 s1, .int .i64 s2] 31)).alloc (.cells #[.int .i64 v1, .int .i64 v2] 31)).alloc (.cells #[.int .i64 0, .int .i64 0] 31)) (.cells #[.int .i64 0, .int .i64 0] 31))
  replace b7 := b7.keeps (keeps_alloc (((((w0.alloc (.cells #[.int .i64 y, .int .i64 1] 31)).alloc (.cells #[.int .i64 w, .int .i64 1] 31)).alloc (.cells #[.int .i64 s1, .int .i64 s2] 31)).alloc (.cells #[.int .i64 v1, .int .i64 v2] 31)).alloc (.cells #[.int .i64 0, .int .i64 0] 31)) (.cells #[.int .i64 0, .int .i64 0] 31))
  replace b8 := b8.keeps (keeps_alloc (((((w0.alloc (.cells #[.int .i64 y, .int .i64 1] 31)).alloc (.cells #[.int .i64 w, .int .i64 1] 31)).alloc (.cells #[.int .i64 s1, .int .i64 s2] 31)).alloc (.cells #[.int .i64 v1, .int .i64 v2] 31)).alloc (.cells #[.int .i64 0, .int .i64 0] 31)) (.cells #[.int .i64 0, .int .i64 0] 31))
  replace kw := Keeps.trans kw (keeps_alloc (((((w0.alloc (.cells #[.int .i64 y, .int .i64 1] 31)).alloc (.cells #[.int .i64 w, .int .i64 1] 31)).alloc (.cells #[.int .i64 s1, .int .i64 s2] 31)).alloc (.cells #[.int .i64 v1, .int .i64 v2] 31)).alloc (.cells #[.int .i64 0, .int .i64 0] 31)) (.cells #[.int .i64 0, .int .i64 0] 31))
  have b9 : Bx ((((((w0.alloc (.cells #[.int .i64 y, .int .i64 1] 31)).alloc (.cells #[.int .i64 w, .int .i64 1] 31)).alloc (.cells #[.int .i64 s1, .int .i64 s2] 31)).alloc (.cells #[.int .i64 v1, .int .i64 v2] 31)).alloc (.cells #[.int .i64 0, .int .i64 0] 31)).alloc (.cells #[.int .i64 0, .int .i64 0] 31)) (w0.heap.size + 1 + 1 + 1 + 1 + 1) 0 0 := Bx.new' (by simp)
  obtain ⟨ca1, cb1, fa1, fb1⟩ := id b4
  obtain ⟨ca2, cb2, fa2, fb2⟩ := id b7
  go_wp2_with fail
  clear ca1 cb1 fa1 fb1 ca2 cb2 fa2 fb2
  refine (MulFrac_any FV.out hqy.out).mono ?_
  rintro e w3 ⟨rfl, k3⟩
  rw [HA.out]
  replace b4 := b4.keeps k3
  replace b5 := b5.keeps k3
  replace b6 := b6.keeps k3
  replace b7 := b7.keeps k3
  replace b8 := b8.keeps k3
  replace b9 := b9.keeps k3
  replace kw := Keeps.trans kw k3
  have lt4 := b9.lt
  have sz5 := kw.size
  clear k3
  replace b4 := b4.keeps (keeps_alloc w3 (.cells #[.int .i64 a1, .int .i64 a2] 31))
  replace b5 := b5.keeps (keeps_alloc w3 (.cells #[.int .i64 a1, .int .i64 a2] 31))
  replace b6 := b6.keeps (keeps_alloc w3 (.cells #[.int .i64 a1, .int .i64 a2] 31))
  replace b7 := b7.keeps (keeps_alloc w3 (.cells #[.int .i64 a1, .int .i64 a2] 31))
  replace b8 := b8.keeps (keeps_alloc w3 (.cells #[.int .i64 a1, .int .i64 a2] 31))
  replace b9 := b9.keeps (keeps_alloc w3 (.cells #[.int .i64 a1, .int .i64 a2] 31))
  replace kw := Keeps.trans kw (keeps_alloc w3 (.cells #[.int .i64 a1, .int .i64 a2] 31))
  have b11 : Bx (w3.alloc (.cells #[.int .i64 a1, .int .i64 a2] 31)) w3.heap.size a1 a2 := Bx.new' (by simp)
  cases a3
  · have HE := hid (show meanQ y w s1 s2 v1 v2 = none from bindQ_no HA.out)
    obtain ⟨ca6, cb6, fa6, fb6⟩ := id b8
    obtain ⟨ca7, cb7, fa7, fb7⟩ := id b9
    replace b4 := b4.set2 (p := (w0.heap.size + 1 + 1 + 1 + 1)) (by omega) (.int .i64 0) (.int .i64 0)
    replace b5 := b5.set2 (p := (w0.heap.size + 1 + 1 + 1 + 1)) (by omega) (.int .i64 0) (.int .i64 0)
    replace b6 := b6.set2 (p := (w0.heap.size + 1 + 1 + 1 + 1)) (by omega) (.int .i64 0) (.int .i64 0)
    replace b7 := b7.set2 (p := (w0.heap.size + 1 + 1 + 1 + 1)) (by omega) (.int .i64 0) (.int .i64 0)
    replace b9 := b9.set2 (p := (w0.heap.size + 1 + 1 + 1 + 1)) (by omega) (.int .i64 0) (.int .i64 0)
    replace b11 := b11.set2 (p := (w0.heap.size + 1 + 1 + 1 + 1)) (by omega) (.int .i64 0) (.int .i64 0)
    replace b8 := b8.set 0 0
    replace kw := below_set2 kw (p := (w0.heap.size + 1 + 1 + 1 + 1)) (by omega) (.int .i64 0) (.int .i64 0)
    obtain ⟨ca8, cb8, fa8, fb8⟩ := id b9
    replace b4 := b4.set2 (p := (w0.heap.size + 1 + 1 + 1 + 1 + 1)) (by omega) (.int .i64 0) (.int .i64 0)
    replace b5 := b5.set2 (p := (w0.heap.size + 1 + 1 + 1 + 1 + 1)) (by omega) (.int .i64 0) (.int .i64 0)
    replace b6 := b6.set2 (p := (w0.heap.size + 1 + 1 + 1 + 1 + 1)) (by omega) (.int .i64 0) (.int .i64 0)
    replace b7 := b7.set2 (p := (w0.heap.size + 1 + 1 + 1 + 1 + 1)) (by omega) (.int .i64 0) (.int .i64 0)
    replace b8 := b8.set2 (p := (w0.heap.size + 1 + 1 + 1 + 1 + 1)) (by omega) (.int .i64 0) (.int .i64 0)
    replace b11 := b11.set2 (p := (w0.heap.size + 1 + 1 + 1 + 1 + 1)) (by omega) (.int .i64 0) (.int .i64 0)
    replace b9 := b9.set 0 0
    replace kw := below_set2 kw (p := (w0.heap.size + 1 + 1 + 1 + 1 + 1)) (by omega) (.int .i64 0) (.int .i64 0)
    go_wp2_with fail
    clear ca6 cb6 fa6 fb6 ca7 cb7 fa7 fb7 ca8 cb8 fa8 fb8
    obtain ⟨ca0, cb0, -, -⟩ := id b8
    obtain ⟨cc0, cd0, -, -⟩ := id b9
    refine bodyPost_ret (v := .tuple #[.agg #[.int .i64 0, .int .i64 0], .agg #[.int .i64 0, .int .i64 0], .bool false]) (by simp [results, Try.results250, go_sem, ca0, cb0, cc0, cd0]) rfl (TwoQ.no HE.out rfl kw)
  obtain ⟨ca6, cb6, fa6, fb6⟩ := id b5
  obtain ⟨ca7, cb7, fa7, fb7⟩ := id b6
  go_wp2_with fail
  clear ca6 cb6 fa6 fb6 ca7 cb7 fa7 fb7
  refine (MulFrac_any hqw.out FS.out).mono ?_
  rintro e w8 ⟨rfl, k8⟩
  rw [HB'.out]
  replace b4 := b4.keeps k8
  replace b5 := b5.keeps k8
  replace b6 := b6.keeps k8
  replace b7 := b7.keeps k8
  replace b8 := b8.keeps k8
  replace b9 := b9.keeps k8
  replace b11 := b11.keeps k8
  replace kw := Keeps.trans kw k8
  have lt9 := b11.lt
  have sz10 := kw.size
  clear k8
  replace b4 := b4.keeps (keeps_alloc w8 (.cells #[.int .i64 b1, .int .i64 b2] 31))
  replace b5 := b5.keeps (keeps_alloc w8 (.cells #[.int .i64 b1, .int .i64 b2] 31))
  replace b6 := b6.keeps (keeps_alloc w8 (.cells #[.int .i64 b1, .int .i64 b2] 31))
  replace b7 := b7.keeps (keeps_alloc w8 (.cells #[.int .i64 b1, .int .i64 b2] 31))
  replace b8 := b8.keeps (keeps_alloc w8 (.cells #[.int .i64 b1, .int .i64 b2] 31))
  replace b9 := b9.keeps (keeps_alloc w8 (.cells #[.int .i64 b1, .int .i64 b2] 31))
  replace b11 := b11.keeps (keeps_alloc w8 (.cells #[.int .i64 b1, .int .i64 b2] 31))
  replace kw := Keeps.trans kw (keeps_alloc w8 (.cells #[.int .i64 b1, .int .i64 b2] 31))
  have b13 : Bx (w8.alloc (.cells #[.int .i64 b1, .int .i64 b2] 31)) w8.heap.size b1 b2 := Bx.new' (by simp)
  cases b3
  · have HE := hid (show meanQ y w s1 s2 v1 v2 = none from (bindQ_yes HA.out).trans (bindQ_no HB.out))
    obtain ⟨ca11, cb11, fa11, fb11⟩ := id b8
    obtain ⟨ca12, cb12, fa12, fb12⟩ := id b9
    replace b4 := b4.set2 (p := (w0.heap.size + 1 + 1 + 1 + 1)) (by omega) (.int .i64 0) (.int .i64 0)
    replace b5 := b5.set2 (p := (w0.heap.size + 1 + 1 + 1 + 1)) (by omega) (.int .i64 0) (.int .i64 0)
    replace b6 := b6.set2 (p := (w0.heap.size + 1 + 1 + 1 + 1)) (by omega) (.int .i64 0) (.int .i64 0)
    replace b7 := b7.set2 (p := (w0.heap.size + 1 + 1 + 1 + 1)) (by omega) (.int .i64 0) (.int .i64 0)
    replace b9 := b9.set2 (p := (w0.heap.size + 1 + 1 + 1 + 1)) (by omega) (.int .i64 0) (.int .i64 0)
    replace b11 := b11.set2 (p := (w0.heap.size + 1 + 1 + 1 + 1)) (by omega) (.int .i64 0) (.int .i64 0)
    replace b13 := b13.set2 (p := (w0.heap.size + 1 + 1 + 1 + 1)) (by omega) (.int .i64 0) (.int .i64 0)
    replace b8 := b8.set 0 0
    replace kw := below_set2 kw (p := (w0.heap.size + 1 + 1 + 1 + 1)) (by omega) (.int .i64 0) (.int .i64 0)
    obtain ⟨ca13, cb13, fa13, fb13⟩ := id b9
    replace b4 := b4.set2 (p := (w0.heap.size + 1 + 1 + 1 + 1 + 1)) (by omega) (.int .i64 0) (.int .i64 0)
    replace b5 := b5.set2 (p := (w0.heap.size + 1 + 1 + 1 + 1 + 1)) (by omega) (.int .i64 0) (.int .i64 0)
    replace b6 := b6.set2 (p := (w0.heap.size + 1 + 1 + 1 + 1 + 1)) (by omega) (.int .i64 0) (.int .i64 0)
    replace b7 := b7.set2 (p := (w0.heap.size + 1 + 1 + 1 + 1 + 1)) (by omega) (.int .i64 0) (.int .i64 0)
    replace b8 := b8.set2 (p := (w0.heap.size + 1 + 1 + 1 + 1 + 1)) (by omega) (.int .i64 0) (.int .i64 0)
    replace b11 := b11.set2 (p := (w0.heap.size + 1 + 1 + 1 + 1 + 1)) (by omega) (.int .i64 0) (.int .i64 0)
    replace b13 := b13.set2 (p := (w0.heap.size + 1 + 1 + 1 + 1 + 1)) (by omega) (.int .i64 0) (.int .i64 0)
    replace b9 := b9.set 0 0
    replace kw := below_set2 kw (p := (w0.heap.size + 1 + 1 + 1 + 1 + 1)) (by omega) (.int .i64 0) (.int .i64 0)
    go_wp2_with fail
    clear ca11 cb11 fa11 fb11 ca12 cb12 fa12 fb12 ca13 cb13 fa13 fb13
    obtain ⟨ca0, cb0, -, -⟩ := id b8
    obtain ⟨cc0, cd0, -, -⟩ := id b9
    refine bodyPost_ret (v := .tuple #[.agg #[.int .i64 0, .int .i64 0], .agg #[.int .i64 0, .int .i64 0], .bool false]) (by simp [results, Try.results250, go_sem, ca0, cb0, cc0, cd0]) rfl (TwoQ.no HE.out rfl kw)
  obtain ⟨ca11, cb11, fa11, fb11⟩ := id b11
  obtain ⟨ca12, cb12, fa12, fb12⟩ := id b13
  go_wp2_with fail
  clear ca11 cb11 fa11 fb11 ca12 cb12 fa12 fb12
  have HF := hid (show meanQ y w s1 s2 v1 v2 = meanT w v1 v2 a1 a2 b1 b2 from (bindQ_yes HA.out).trans (bindQ_yes HB.out))
  have FA := hid (mkF_fine HA.out)
  have FB := hid (mkF_fine HB.out)
  clear HA HB HB'
  obtain ⟨t1, t2, t3, HT⟩ : ∃ r1 r2 r3, Hid (mkF (a1 * b2 + b1 * a2) (a2 * b2) = (r1, r2, r3)) := ⟨_, _, _, rfl⟩
  obtain ⟨d1, d2, d3, HD⟩ : ∃ r1 r2 r3, Hid (mkF (v1 * 1 + w * v2) (v2 * 1) = (r1, r2, r3)) := ⟨_, _, _, rfl⟩
  obtain ⟨p1, p2, p3, HP⟩ : ∃ r1 r2 r3, Hid (mkF (v1 * w) (v2 * 1) = (r1, r2, r3)) := ⟨_, _, _, rfl⟩
  refine (AddFrac_any FA.out FB.out).mono ?_
  rintro e w13 ⟨rfl, k13⟩
  rw [HT.out]
  replace b4 := b4.keeps k13
  replace b5 := b5.keeps k13
  replace b6 := b6.keeps k13
  replace b7 := b7.keeps k13
  replace b8 := b8.keeps k13
  replace b9 := b9.keeps k13
  replace b11 := b11.keeps k13
  replace b13 := b13.keeps k13
  replace kw := Keeps.trans kw k13
  have lt14 := b13.lt
  have sz15 := kw.size
  clear k13
  obtain ⟨ca16, cb16, fa16, fb16⟩ := id b11
  replace b4 := b4.set2 (p := w3.heap.size) (by omega) (.int .i64 t1) (.int .i64 t2)
  replace b5 := b5.set2 (p := w3.heap.size) (by omega) (.int .i64 t1) (.int .i64 t2)
  replace b6 := b6.set2 (p := w3.heap.size) (by omega) (.int .i64 t1) (.int .i64 t2)
  replace b7 := b7.set2 (p := w3.heap.size) (by omega) (.int .i64 t1) (.int .i64 t2)
  replace b8 := b8.set2 (p := w3.heap.size) (by omega) (.int .i64 t1) (.int .i64 t2)
  replace b9 := b9.set2 (p := w3.heap.size) (by omega) (.int .i64 t1) (.int .i64 t2)
  replace b13 := b13.set2 (p := w3.heap.size) (by omega) (.int .i64 t1) (.int .i64 t2)
  replace b11 := b11.set t1 t2
  replace kw := below_set2 kw (p := w3.heap.size) (by omega) (.int .i64 t1) (.int .i64 t2)
  cases t3
  · have HE := hid (show meanQ y w s1 s2 v1 v2 = none from HF.out.trans (bindQ_no HT.out))
    obtain ⟨ca17, cb17, fa17, fb17⟩ := id b8
    obtain ⟨ca18, cb18, fa18, fb18⟩ := id b9
    replace b4 := b4.set2 (p := (w0.heap.size + 1 + 1 + 1 + 1)) (by omega) (.int .i64 0) (.int .i64 0)
    replace b5 := b5.set2 (p := (w0.heap.size + 1 + 1 + 1 + 1)) (by omega) (.int .i64 0) (.int .i64 0)
    replace b6 := b6.set2 (p := (w0.heap.size + 1 + 1 + 1 + 1)) (by omega) (.int .i64 0) (.int .i64 0)
    replace b7 := b7.set2 (p := (w0.heap.size + 1 + 1 + 1 + 1)) (by omega) (.int .i64 0) (.int .i64 0)
    replace b9 := b9.set2 (p := (w0.heap.size + 1 + 1 + 1 + 1)) (by omega) (.int .i64 0) (.int .i64 0)
    replace b11 := b11.set2 (p := (w0.heap.size + 1 + 1 + 1 + 1)) (by omega) (.int .i64 0) (.int .i64 0)
    replace b13 := b13.set2 (p := (w0.heap.size + 1 + 1 + 1 + 1)) (by omega) (.int .i64 0) (.int .i64 0)
    replace b8 := b8.set 0 0
    replace kw := below_set2 kw (p := (w0.heap.size + 1 + 1 + 1 + 1)) (by omega) (.int .i64 0) (.int .i64 0)
    obtain ⟨ca19, cb19, fa19, fb19⟩ := id b9
    replace b4 := b4.set2 (p := (w0.heap.size + 1 + 1 + 1 + 1 + 1)) (by omega) (.int .i64 0) (.int .i64 0)
    replace b5 := b5.set2 (p := (w0.heap.size + 1 + 1 + 1 + 1 + 1)) (by omega) (.int .i64 0) (.int .i64 0)
    replace b6 := b6.set2 (p := (w0.heap.size + 1 + 1 + 1 + 1 + 1)) (by omega) (.int .i64 0) (.int .i64 0)
    replace b7 := b7.set2 (p := (w0.heap.size + 1 + 1 + 1 + 1 + 1)) (by omega) (.int .i64 0) (.int .i64 0)
    replace b8 := b8.set2 (p := (w0.heap.size + 1 + 1 + 1 + 1 + 1)) (by omega) (.int .i64 0) (.int .i64 0)
    replace b11 := b11.set2 (p := (w0.heap.size + 1 + 1 + 1 + 1 + 1)) (by omega) (.int .i64 0) (.int .i64 0)
    replace b13 := b13.set2 (p := (w0.heap.size + 1 + 1 + 1 + 1 + 1)) (by omega) (.int .i64 0) (.int .i64 0)
    replace b9 := b9.set 0 0
    replace kw := below_set2 kw (p := (w0.heap.size + 1 + 1 + 1 + 1 + 1)) (by omega) (.int .i64 0) (.int .i64 0)
    go_wp2_with fail
    clear ca16 cb16 fa16 fb16 ca17 cb17 fa17 fb17 ca18 cb18 fa18 fb18 ca19 cb19 fa19 fb19
    obtain ⟨ca0, cb0, -, -⟩ := id b8
    obtain ⟨cc0, cd0, -, -⟩ := id b9
    refine bodyPost_ret (v := .tuple #[.agg #[.int .i64 0, .int .i64 0], .agg #[.int .i64 0, .int .i64 0], .bool false]) (by simp [results, Try.results250, go_sem, ca0, cb0, cc0, cd0]) rfl (TwoQ.no HE.out rfl kw)
  obtain ⟨ca17, cb17, fa17, fb17⟩ := id b7
  obtain ⟨ca18, cb18, fa18, fb18⟩ := id b5
  go_wp2_with fail
  clear ca16 cb16 fa16 fb16 ca17 cb17 fa17 fb17 ca18 cb18 fa18 fb18
  replace HF := hid (HF.out.trans (show meanT w v1 v2 a1 a2 b1 b2 = meanD w v1 v2 t1 t2 from bindQ_yes HT.out))
  have FT := hid (mkF_fine HT.out)
  clear HT
  refine (AddFrac_any FV.out hqw.out).mono ?_
  rintro e w19 ⟨rfl, k19⟩
  rw [HD.out]
  replace b4 := b4.keeps k19
  replace b5 := b5.keeps k19
  replace b6 := b6.keeps k19
  replace b7 := b7.keeps k19
  replace b8 := b8.keeps k19
  replace b9 := b9.keeps k19
  replace b11 := b11.keeps k19
  replace b13 := b13.keeps k19
  replace kw := Keeps.trans kw k19
  have lt20 := b13.lt
  have sz21 := kw.size
  clear k19
  replace b4 := b4.keeps (keeps_alloc w19 (.cells #[.int .i64 d1, .int .i64 d2] 31))
  replace b5 := b5.keeps (keeps_alloc w19 (.cells #[.int .i64 d1, .int .i64 d2] 31))
  replace b6 := b6.keeps (keeps_alloc w19 (.cells #[.int .i64 d1, .int .i64 d2] 31))
  replace b7 := b7.keeps (keeps_alloc w19 (.cells #[.int .i64 d1, .int .i64 d2] 31))
  replace b8 := b8.keeps (keeps_alloc w19 (.cells #[.int .i64 d1, .int .i64 d2] 31))
  replace b9 := b9.keeps (keeps_alloc w19 (.cells #[.int .i64 d1, .int .i64 d2] 31))
  replace b11 := b11.keeps (keeps_alloc w19 (.cells #[.int .i64 d1, .int .i64 d2] 31))
  replace b13 := b13.keeps (keeps_alloc w19 (.cells #[.int .i64 d1, .int .i64 d2] 31))
  replace kw := Keeps.trans kw (keeps_alloc w19 (.cells #[.int .i64 d1, .int .i64 d2] 31))
  have b14 : Bx (w19.alloc (.cells #[.int .i64 d1, .int .i64 d2] 31)) w19.heap.size d1 d2 := Bx.new' (by simp)
  cases d3
  · have HE := hid (show meanQ y w s1 s2 v1 v2 = none from HF.out.trans (bindQ_no HD.out))
    obtain ⟨ca22, cb22, fa22, fb22⟩ := id b8
    obtain ⟨ca23, cb23, fa23, fb23⟩ := id b9
    replace b4 := b4.set2 (p := (w0.heap.size + 1 + 1 + 1 + 1)) (by omega) (.int .i64 0) (.int .i64 0)
    replace b5 := b5.set2 (p := (w0.heap.size + 1 + 1 + 1 + 1)) (by omega) (.int .i64 0) (.int .i64 0)
    replace b6 := b6.set2 (p := (w0.heap.size + 1 + 1 + 1 + 1)) (by omega) (.int .i64 0) (.int .i64 0)
    replace b7 := b7.set2 (p := (w0.heap.size + 1 + 1 + 1 + 1)) (by omega) (.int .i64 0) (.int .i64 0)
    replace b9 := b9.set2 (p := (w0.heap.size + 1 + 1 + 1 + 1)) (by omega) (.int .i64 0) (.int .i64 0)
    replace b11 := b11.set2 (p := (w0.heap.size + 1 + 1 + 1 + 1)) (by omega) (.int .i64 0) (.int .i64 0)
    replace b13 := b13.set2 (p := (w0.heap.size + 1 + 1 + 1 + 1)) (by omega) (.int .i64 0) (.int .i64 0)
    replace b14 := b14.set2 (p := (w0.heap.size + 1 + 1 + 1 + 1)) (by omega) (.int .i64 0) (.int .i64 0)
    replace b8 := b8.set 0 0
    replace kw := below_set2 kw (p := (w0.heap.size + 1 + 1 + 1 + 1)) (by omega) (.int .i64 0) (.int .i64 0)
    obtain ⟨ca24, cb24, fa24, fb24⟩ := id b9
    replace b4 := b4.set2 (p := (w0.heap.size + 1 + 1 + 1 + 1 + 1)) (by omega) (.int .i64 0) (.int .i64 0)
    replace b5 := b5.set2 (p := (w0.heap.size + 1 + 1 + 1 + 1 + 1)) (by omega) (.int .i64 0) (.int .i64 0)
    replace b6 := b6.set2 (p := (w0.heap.size + 1 + 1 + 1 + 1 + 1)) (by omega) (.int .i64 0) (.int .i64 0)
    replace b7 := b7.set2 (p := (w0.heap.size + 1 + 1 + 1 + 1 + 1)) (by omega) (.int .i64 0) (.int .i64 0)
    replace b8 := b8.set2 (p := (w0.heap.size + 1 + 1 + 1 + 1 + 1)) (by omega) (.int .i64 0) (.int .i64 0)
    replace b11 := b11.set2 (p := (w0.heap.size + 1 + 1 + 1 + 1 + 1)) (by omega) (.int .i64 0) (.int .i64 0)
    replace b13 := b13.set2 (p := (w0.heap.size + 1 + 1 + 1 + 1 + 1)) (by omega) (.int .i64 0) (.int .i64 0)
    replace b14 := b14.set2 (p := (w0.heap.size + 1 + 1 + 1 + 1 + 1)) (by omega) (.int .i64 0) (.int .i64 0)
    replace b9 := b9.set 0 0
    replace kw := below_set2 kw (p := (w0.heap.size + 1 + 1 + 1 + 1 + 1)) (by omega) (.int .i64 0) (.int .i64 0)
    go_wp2_with fail
    clear ca22 cb22 fa22 fb22 ca23 cb23 fa23 fb23 ca24 cb24 fa24 fb24
    obtain ⟨ca0, cb0, -, -⟩ := id b8
    obtain ⟨cc0, cd0, -, -⟩ := id b9
    refine bodyPost_ret (v := .tuple #[.agg #[.int .i64 0, .int .i64 0], .agg #[.int .i64 0, .int .i64 0], .bool false]) (by simp [results, Try.results250, go_sem, ca0, cb0, cc0, cd0]) rfl (TwoQ.no HE.out rfl kw)
  obtain ⟨ca22, cb22, fa22, fb22⟩ := id b11
  obtain ⟨ca23, cb23, fa23, fb23⟩ := id b14
  go_wp2_with fail
  clear ca22 cb22 fa22 fb22 ca23 cb23 fa23 fb23
  replace HF := hid (HF.out.trans ((show meanD w v1 v2 t1 t2 = meanP w v1 v2 t1 t2 d1 d2 from bindQ_yes HD.out).trans (meanP_swap _ _ _ _ _ _ _)))
  have FD := hid (mkF_fine HD.out)
  clear HD
  obtain ⟨z1, z2, z3, HZ⟩ : ∃ r1 r2 r3, Hid (mkF (t1 * d2) (t2 * d1) = (r1, r2, r3)) := ⟨_, _, _, rfl⟩
  refine (DivFrac_any FT.out FD.out).mono ?_
  rintro e w24 ⟨rfl, k24⟩
  rw [HZ.out]
  replace b4 := b4.keeps k24
  replace b5 := b5.keeps k24
  replace b6 := b6.keeps k24
  replace b7 := b7.keeps k24
  replace b8 := b8.keeps k24
  replace b9 := b9.keeps k24
  replace b11 := b11.keeps k24
  replace b13 := b13.keeps k24
  replace b14 := b14.keeps k24
  replace kw := Keeps.trans kw k24
  have lt25 := b14.lt
  have sz26 := kw.size
  clear k24
  replace b4 := b4.keeps (keeps_alloc w24 (.cells #[.int .i64 z1, .int .i64 z2] 31))
  replace b5 := b5.keeps (keeps_alloc w24 (.cells #[.int .i64 z1, .int .i64 z2] 31))
  replace b6 := b6.keeps (keeps_alloc w24 (.cells #[.int .i64 z1, .int .i64 z2] 31))
  replace b7 := b7.keeps (keeps_alloc w24 (.cells #[.int .i64 z1, .int .i64 z2] 31))
  replace b8 := b8.keeps (keeps_alloc w24 (.cells #[.int .i64 z1, .int .i64 z2] 31))
  replace b9 := b9.keeps (keeps_alloc w24 (.cells #[.int .i64 z1, .int .i64 z2] 31))
  replace b11 := b11.keeps (keeps_alloc w24 (.cells #[.int .i64 z1, .int .i64 z2] 31))
  replace b13 := b13.keeps (keeps_alloc w24 (.cells #[.int .i64 z1, .int .i64 z2] 31))
  replace b14 := b14.keeps (keeps_alloc w24 (.cells #[.int .i64 z1, .int .i64 z2] 31))
  replace kw := Keeps.trans kw (keeps_alloc w24 (.cells #[.int .i64 z1, .int .i64 z2] 31))
  have b15 : Bx (w24.alloc (.cells #[.int .i64 z1, .int .i64 z2] 31)) w24.heap.size z1 z2 := Bx.new' (by simp)
  cases z3
  · have HE := hid (show meanQ y w s1 s2 v1 v2 = none from HF.out.trans (bindQ_no HZ.out))
    obtain ⟨ca27, cb27, fa27, fb27⟩ := id b8
    obtain ⟨ca28, cb28, fa28, fb28⟩ := id b9
    replace b4 := b4.set2 (p := (w0.heap.size + 1 + 1 + 1 + 1)) (by omega) (.int .i64 0) (.int .i64 0)
    replace b5 := b5.set2 (p := (w0.heap.size + 1 + 1 + 1 + 1)) (by omega) (.int .i64 0) (.int .i64 0)
    replace b6 := b6.set2 (p := (w0.heap.size + 1 + 1 + 1 + 1)) (by omega) (.int .i64 0) (.int .i64 0)
    replace b7 := b7.set2 (p := (w0.heap.size + 1 + 1 + 1 + 1)) (by omega) (.int .i64 0) (.int .i64 0)
    replace b9 := b9.set2 (p := (w0.heap.size + 1 + 1 + 1 + 1)) (by omega) (.int .i64 0) (.int .i64 0)
    replace b11 := b11.set2 (p := (w0.heap.size + 1 + 1 + 1 + 1)) (by omega) (.int .i64 0) (.int .i64 0)
    replace b13 := b13.set2 (p := (w0.heap.size + 1 + 1 + 1 + 1)) (by omega) (.int .i64 0) (.int .i64 0)
    replace b14 := b14.set2 (p := (w0.heap.size + 1 + 1 + 1 + 1)) (by omega) (.int .i64 0) (.int .i64 0)
    replace b15 := b15.set2 (p := (w0.heap.size + 1 + 1 + 1 + 1)) (by omega) (.int .i64 0) (.int .i64 0)
    replace b8 := b8.set 0 0
    replace kw := below_set2 kw (p := (w0.heap.size + 1 + 1 + 1 + 1)) (by omega) (.int .i64 0) (.int .i64 0)
    obtain ⟨ca29, cb29, fa29, fb29⟩ := id b9
    replace b4 := b4.set2 (p := (w0.heap.size + 1 + 1 + 1 + 1 + 1)) (by omega) (.int .i64 0) (.int .i64 0)
    replace b5 := b5.set2 (p := (w0.heap.size + 1 + 1 + 1 + 1 + 1)) (by omega) (.int .i64 0) (.int .i64 0)
    replace b6 := b6.set2 (p := (w0.heap.size + 1 + 1 + 1 + 1 + 1)) (by omega) (.int .i64 0) (.int .i64 0)
    replace b7 := b7.set2 (p := (w0.heap.size + 1 + 1 + 1 + 1 + 1)) (by omega) (.int .i64 0) (.int .i64 0)
    replace b8 := b8.set2 (p := (w0.heap.size + 1 + 1 + 1 + 1 + 1)) (by omega) (.int .i64 0) (.int .i64 0)
    replace b11 := b11.set2 (p := (w0.heap.size + 1 + 1 + 1 + 1 + 1)) (by omega) (.int .i64 0) (.int .i64 0)
    replace b13 := b13.set2 (p := (w0.heap.size + 1 + 1 + 1 + 1 + 1)) (by omega) (.int .i64 0) (.int .i64 0)
    replace b14 := b14.set2 (p := (w0.heap.size + 1 + 1 + 1 + 1 + 1)) (by omega) (.int .i64 0) (.int .i64 0)
    replace b15 := b15.set2 (p := (w0.heap.size + 1 + 1 + 1 + 1 + 1)) (by omega) (.int .i64 0) (.int .i64 0)
    replace b9 := b9.set 0 0
    replace kw := below_set2 kw (p := (w0.heap.size + 1 + 1 + 1 + 1 + 1)) (by omega) (.int .i64 0) (.int .i64 0)
    go_wp2_with fail
    clear ca27 cb27 fa27 fb27 ca28 cb28 fa28 fb28 ca29 cb29 fa29 fb29
    obtain ⟨ca0, cb0, -, -⟩ := id b8
    obtain ⟨cc0, cd0, -, -⟩ := id b9
    refine bodyPost_ret (v := .tuple #[.agg #[.int .i64 0, .int .i64 0], .agg #[.int .i64 0, .int .i64 0], .bool false]) (by simp [results, Try.results250, go_sem, ca0, cb0, cc0, cd0]) rfl (TwoQ.no HE.out rfl kw)
  obtain ⟨ca27, cb27, fa27, fb27⟩ := id b7
  obtain ⟨ca28, cb28, fa28, fb28⟩ := id b5
  go_wp2_with fail
  clear ca27 cb27 fa27 fb27 ca28 cb28 fa28 fb28
  replace HF := hid (HF.out.trans (bindQ_yes HZ.out))
  clear HZ
  refine (MulFrac_any FV.out hqw.out).mono ?_
  rintro e w29 ⟨rfl, k29⟩
  rw [HP.out]
  replace b4 := b4.keeps k29
  replace b5 := b5.keeps k29
  replace b6 := b6.keeps k29
  replace b7 := b7.keeps k29
  replace b8 := b8.keeps k29
  replace b9 := b9.keeps k29
  replace b11 := b11.keeps k29
  replace b13 := b13.keeps k29
  replace b14 := b14.keeps k29
  replace b15 := b15.keeps k29
  replace kw := Keeps.trans kw k29
  have lt30 := b15.lt
  have sz31 := kw.size
  clear k29
  obtain ⟨ca32, cb32, fa32, fb32⟩ := id b13
  replace b4 := b4.set2 (p := w8.heap.size) (by omega) (.int .i64 p1) (.int .i64 p2)
  replace b5 := b5.set2 (p := w8.heap.size) (by omega) (.int .i64 p1) (.int .i64 p2)
  replace b6 := b6.set2 (p := w8.heap.size) (by omega) (.int .i64 p1) (.int .i64 p2)
  replace b7 := b7.set2 (p := w8.heap.size) (by omega) (.int .i64 p1) (.int .i64 p2)
  replace b8 := b8.set2 (p := w8.heap.size) (by omega) (.int .i64 p1) (.int .i64 p2)
  replace b9 := b9.set2 (p := w8.heap.size) (by omega) (.int .i64 p1) (.int .i64 p2)
  replace b11 := b11.set2 (p := w8.heap.size) (by omega) (.int .i64 p1) (.int .i64 p2)
  replace b14 := b14.set2 (p := w8.heap.size) (by omega) (.int .i64 p1) (.int .i64 p2)
  replace b15 := b15.set2 (p := w8.heap.size) (by omega) (.int .i64 p1) (.int .i64 p2)
  replace b13 := b13.set p1 p2
  replace kw := below_set2 kw (p := w8.heap.size) (by omega) (.int .i64 p1) (.int .i64 p2)
  cases p3
  · have HE := hid (show meanQ y w s1 s2 v1 v2 = none from HF.out.trans (bindQ_no HP.out))
    obtain ⟨ca33, cb33, fa33, fb33⟩ := id b8
    obtain ⟨ca34, cb34, fa34, fb34⟩ := id b9
    replace b4 := b4.set2 (p := (w0.heap.size + 1 + 1 + 1 + 1)) (by omega) (.int .i64 0) (.int .i64 0)
    replace b5 := b5.set2 (p := (w0.heap.size + 1 + 1 + 1 + 1)) (by omega) (.int .i64 0) (.int .i64 0)
    replace b6 := b6.set2 (p := (w0.heap.size + 1 + 1 + 1 + 1)) (by omega) (.int .i64 0) (.int .i64 0)
    replace b7 := b7.set2 (p := (w0.heap.size + 1 + 1 + 1 + 1)) (by omega) (.int .i64 0) (.int .i64 0)
    replace b9 := b9.set2 (p := (w0.heap.size + 1 + 1 + 1 + 1)) (by omega) (.int .i64 0) (.int .i64 0)
    replace b11 := b11.set2 (p := (w0.heap.size + 1 + 1 + 1 + 1)) (by omega) (.int .i64 0) (.int .i64 0)
    replace b13 := b13.set2 (p := (w0.heap.size + 1 + 1 + 1 + 1)) (by omega) (.int .i64 0) (.int .i64 0)
    replace b14 := b14.set2 (p := (w0.heap.size + 1 + 1 + 1 + 1)) (by omega) (.int .i64 0) (.int .i64 0)
    replace b15 := b15.set2 (p := (w0.heap.size + 1 + 1 + 1 + 1)) (by omega) (.int .i64 0) (.int .i64 0)
    replace b8 := b8.set 0 0
    replace kw := below_set2 kw (p := (w0.heap.size + 1 + 1 + 1 + 1)) (by omega) (.int .i64 0) (.int .i64 0)
    obtain ⟨ca35, cb35, fa35, fb35⟩ := id b9
    replace b4 := b4.set2 (p := (w0.heap.size + 1 + 1 + 1 + 1 + 1)) (by omega) (.int .i64 0) (.int .i64 0)
    replace b5 := b5.set2 (p := (w0.heap.size + 1 + 1 + 1 + 1 + 1)) (by omega) (.int .i64 0) (.int .i64 0)
    replace b6 := b6.set2 (p := (w0.heap.size + 1 + 1 + 1 + 1 + 1)) (by omega) (.int .i64 0) (.int .i64 0)
    replace b7 := b7.set2 (p := (w0.heap.size + 1 + 1 + 1 + 1 + 1)) (by omega) (.int .i64 0) (.int .i64 0)
    replace b8 := b8.set2 (p := (w0.heap.size + 1 + 1 + 1 + 1 + 1)) (by omega) (.int .i64 0) (.int .i64 0)
    replace b11 := b11.set2 (p := (w0.heap.size + 1 + 1 + 1 + 1 + 1)) (by omega) (.int .i64 0) (.int .i64 0)
    replace b13 := b13.set2 (p := (w0.heap.size + 1 + 1 + 1 + 1 + 1)) (by omega) (.int .i64 0) (.int .i64 0)
    replace b14 := b14.set2 (p := (w0.heap.size + 1 + 1 + 1 + 1 + 1)) (by omega) (.int .i64 0) (.int .i64 0)
    replace b15 := b15.set2 (p := (w0.heap.size + 1 + 1 + 1 + 1 + 1)) (by omega) (.int .i64 0) (.int .i64 0)
    replace b9 := b9.set 0 0
    replace kw := below_set2 kw (p := (w0.heap.size + 1 + 1 + 1 + 1 + 1)) (by omega) (.int .i64 0) (.int .i64 0)
    go_wp2_with fail
    clear ca32 cb32 fa32 fb32 ca33 cb33 fa33 fb33 ca34 cb34 fa34 fb34 ca35 cb35 fa35 fb35
    obtain ⟨ca0, cb0, -, -⟩ := id b8
    obtain ⟨cc0, cd0, -, -⟩ := id b9
    refine bodyPost_ret (v := .tuple #[.agg #[.int .i64 0, .int .i64 0], .agg #[.int .i64 0, .int .i64 0], .bool false]) (by simp [results, Try.results250, go_sem, ca0, cb0, cc0, cd0]) rfl (TwoQ.no HE.out rfl kw)
  obtain ⟨ca33, cb33, fa33, fb33⟩ := id b13
  obtain ⟨ca34, cb34, fa34, fb34⟩ := id b14
  go_wp2_with fail
  clear ca32 cb32 fa32 fb32 ca33 cb33 fa33 fb33 ca34 cb34 fa34 fb34
  replace HF := hid (HF.out.trans (bindQ_yes HP.out))
  have FP := hid (mkF_fine HP.out)
  clear HP
  obtain ⟨u1, u2, u3, HU⟩ : ∃ r1 r2 r3, Hid (mkF (p1 * d2) (p2 * d1) = (r1, r2, r3)) := ⟨_, _, _, rfl⟩
  refine (DivFrac_any FP.out FD.out).mono ?_
  rintro e w35 ⟨rfl, k35⟩
  rw [HU.out]
  replace b4 := b4.keeps k35
  replace b5 := b5.keeps k35
  replace b6 := b6.keeps k35
  replace b7 := b7.keeps k35
  replace b8 := b8.keeps k35
  replace b9 := b9.keeps k35
  replace b11 := b11.keeps k35
  replace b13 := b13.keeps k35
  replace b14 := b14.keeps k35
  replace b15 := b15.keeps k35
  replace kw := Keeps.trans kw k35
  have lt36 := b15.lt
  have sz37 := kw.size
  clear k35
  replace b4 := b4.keeps (keeps_alloc w35 (.cells #[.int .i64 u1, .int .i64 u2] 31))
  replace b5 := b5.keeps (keeps_alloc w35 (.cells #[.int .i64 u1, .int .i64 u2] 31))
  replace b6 := b6.keeps (keeps_alloc w35 (.cells #[.int .i64 u1, .int .i64 u2] 31))
  replace b7 := b7.keeps (keeps_alloc w35 (.cells #[.int .i64 u1, .int .i64 u2] 31))
  replace b8 := b8.keeps (keeps_alloc w35 (.cells #[.int .i64 u1, .int .i64 u2] 31))
  replace b9 := b9.keeps (keeps_alloc w35 (.cells #[.int .i64 u1, .int .i64 u2] 31))
  replace b11 := b11.keeps (keeps_alloc w35 (.cells #[.int .i64 u1, .int .i64 u2] 31))
  replace b13 := b13.keeps (keeps_alloc w35 (.cells #[.int .i64 u1, .int .i64 u2] 31))
  replace b14 := b14.keeps (keeps_alloc w35 (.cells #[.int .i64 u1, .int .i64 u2] 31))
  replace b15 := b15.keeps (keeps_alloc w35 (.cells #[.int .i64 u1, .int .i64 u2] 31))
  replace kw := Keeps.trans kw (keeps_alloc w35 (.cells #[.int .i64 u1, .int .i64 u2] 31))
  have b16 : Bx (w35.alloc (.cells #[.int .i64 u1, .int .i64 u2] 31)) w35.heap.size u1 u2 := Bx.new' (by simp)
  cases u3
  · have HE := hid (show meanQ y w s1 s2 v1 v2 = none from HF.out.trans (bindQ_no HU.out))
    obtain ⟨ca38, cb38, fa38, fb38⟩ := id b15
    obtain ⟨ca39, cb39, fa39, fb39⟩ := id b16
    obtain ⟨ca40, cb40, fa40, fb40⟩ := id b8
    obtain ⟨ca41, cb41, fa41, fb41⟩ := id b9
    go_wp2_with fail
    go_region
    all_goals (
      go_wp2
      refine bodyPost_ret (v := .tuple #[.agg #[.int .i64 z1, .int .i64 z2], .agg #[.int .i64 u1, .int .i64 u2], .bool false]) (by simp [results, Try.results250, go_sem, ca38, cb38, fa38, fb38, ca39, cb39, fa39, fb39, ca40, cb40, fa40, fb40, ca41, cb41, fa41, fb41]) rfl (TwoQ.no HE.out rfl ?_)
      first | exact below_set4 kw (by omega) (by omega) _ _ _ _ | exact below_drewN (below_set4 kw (by omega) (by omega) _ _ _ _) 1 | exact below_set4 (below_drewN kw 1) (by omega) (by omega) _ _ _ _)
  have HE := hid (show meanQ y w s1 s2 v1 v2 = some ((z1, z2), (u1, u2)) from HF.out.trans (bindQ_yes HU.out))
  obtain ⟨ca38, cb38, fa38, fb38⟩ := id b15
  obtain ⟨ca39, cb39, fa39, fb39⟩ := id b16
  obtain ⟨ca40, cb40, fa40, fb40⟩ := id b8
  obtain ⟨ca41, cb41, fa41, fb41⟩ := id b9
  go_wp2_with fail
  go_region
  all_goals (
    go_wp2
    refine bodyPost_ret (v := .tuple #[.agg #[.int .i64 z1, .int .i64 z2], .agg #[.int .i64 u1, .int .i64 u2], .bool true]) (by simp [results, Try.results250, go_sem, ca38, cb38, fa38, fb38, ca39, cb39, fa39, fb39, ca40, cb40, fa40, fb40, ca41, cb41, fa41, fb41]) rfl (TwoQ.yes HE.out rfl ?_)
    first | exact below_set4 kw (by omega) (by omega) _ _ _ _ | exact below_drewN (below_set4 kw (by omega) (by omega) _ _ _ _) 1 | exact below_set4 (below_drewN kw 1) (by omega) (by omega) _ _ _ _)
end Go.Proofs.Ytnopedjgagoahaa
