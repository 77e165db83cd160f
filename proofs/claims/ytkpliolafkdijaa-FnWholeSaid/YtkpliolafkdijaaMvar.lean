/- VariationOf: of the reference and of the program. -/
import Derived.Test.YtkpliolafkdijaaMrat
namespace Go.Proofs.Ytkpliolafkdijaa
open Go.RowKit
set_option linter.unusedVariables false
set_option linter.unusedSimpArgs false

def absI (x : Int) : Int := max x (-x)
theorem absI_neg {x : Int} (h : x < -x) : absI x = -x := by unfold absI; omega
theorem absI_pos {x : Int} (h : ¬ x < -x) : absI x = x := by unfold absI; omega
theorem fracB_abs {x y : Int} (h : fracB x y = true) : fracB (absI x) y = true := by
  have := fracB_true.1 h
  refine fracB_true.2 ⟨this.1, by unfold absI; omega, ?_⟩
  by_cases hx : x < -x
  · rw [absI_neg hx, Int.neg_gcd]; exact this.2.2
  · rw [absI_pos hx]; exact this.2.2
/-- One more difference. -/
def haSt (r s : List QQ) (k : Nat) (a b : Int) : Int × Int × Bool :=
  if (mkF ((r.getD k (0, 0)).1 * (s.getD k (0, 0)).2 - (s.getD k (0, 0)).1 * (r.getD k (0, 0)).2) ((r.getD k (0, 0)).2 * (s.getD k (0, 0)).2)).2.2 = true then
    mkF (a * (mkF ((r.getD k (0, 0)).1 * (s.getD k (0, 0)).2 - (s.getD k (0, 0)).1 * (r.getD k (0, 0)).2) ((r.getD k (0, 0)).2 * (s.getD k (0, 0)).2)).2.1 + absI (mkF ((r.getD k (0, 0)).1 * (s.getD k (0, 0)).2 - (s.getD k (0, 0)).1 * (r.getD k (0, 0)).2) ((r.getD k (0, 0)).2 * (s.getD k (0, 0)).2)).1 * b)
      (b * (mkF ((r.getD k (0, 0)).1 * (s.getD k (0, 0)).2 - (s.getD k (0, 0)).1 * (r.getD k (0, 0)).2) ((r.getD k (0, 0)).2 * (s.getD k (0, 0)).2)).2.1) else (0, 0, false)
section
variable {r s : List QQ} {k : Nat} {a b x y u v q1 q2 : Int}
theorem haSt_no (hx : (x, y) = r.getD k (0, 0)) (hu : (u, v) = s.getD k (0, 0)) (e : mkF (x * v - u * y) (y * v) = (q1, q2, false)) : haSt r s k a b = (0, 0, false) := by
  unfold haSt; rw [← hx, ← hu]; simp [e]
theorem haSt_yes (hx : (x, y) = r.getD k (0, 0)) (hu : (u, v) = s.getD k (0, 0)) (e : mkF (x * v - u * y) (y * v) = (q1, q2, true)) : haSt r s k a b = mkF (a * q2 + absI q1 * b) (b * q2) := by
  unfold haSt; rw [← hx, ← hu]; simp [e]
end
theorem haSt_fine (r s : List QQ) (k : Nat) (a b : Int) : Fine (haSt r s k a b) := by unfold haSt; exact Fine.ite (Fine.mk _ _) Fine.no
def haQ (r s : List QQ) : Int × Int × Bool := if (accQ (haSt r s) 0 1 r.length).2.2 = true then mkF ((accQ (haSt r s) 0 1 r.length).1 * 1) ((accQ (haSt r s) 0 1 r.length).2.1 * 2) else (0, 0, false)
theorem haQ_no {r s : List QQ} {n : Nat} (hn : r.length = n) (h : accQ (haSt r s) 0 1 n = (0, 0, false)) : haQ r s = (0, 0, false) := by unfold haQ; rw [hn, h]; simp
theorem haQ_yes {r s : List QQ} {n : Nat} {a b : Int} (hn : r.length = n) (h : accQ (haSt r s) 0 1 n = (a, b, true)) : haQ r s = mkF (a * 1) (b * 2) := by unfold haQ; rw [hn, h]; simp
def varQ (ll : List (List QQ)) (i k : Int) : Int × Int × Bool := if inp ll i k = true then haQ (ll.getD i.toNat []) (ll.getD k.toNat []) else (0, 0, false)
theorem varQ_no {ll : List (List QQ)} {i k : Int} (h : inp ll i k = false) : varQ ll i k = (0, 0, false) := if_neg (by rw [h]; simp)
theorem varQ_yes {ll : List (List QQ)} {i k : Nat} (h : inp ll i k = true) : varQ ll i k = haQ (ll.getD i []) (ll.getD k []) := by unfold varQ; rw [if_pos h]; simp
theorem two_bd : -1000000000 ≤ (2 : Int) ∧ (2 : Int) ≤ 1000000000 := by omega

set_option maxRecDepth 100000 in
set_option maxHeartbeats 3200000 in
theorem halfDistance_any {A A' : Option Addr} {lo hi lo' hi' n c c' : Nat} {r s : List QQ} {w : World} (h : Fracs w lo hi A n r) (h' : Fracs w lo' hi' A' n s) (hfr : ∀ j x y, j < n → (x, y) = r.getD j (0, 0) → fracB x y = true) (hfs : ∀ j x y, j < n → (x, y) = s.getD j (0, 0) → fracB x y = true) :
    Calls Try.prog 186 #[.slice A n c, .slice A' n c'] w fun e w' => e = .returned (.tuple #[.agg #[.int .i64 (haQ r s).1, .int .i64 (haQ r s).2.1], .bool (haQ r s).2.2]) ∧ Keeps w w' := by
  have hn := h.le
  have hl := Fracs.len h
  have HFR := hid hfr
  have HFS := hid hfs
  clear hfr hfs
  have HL := hid hl
  go_enter Try.func186, Try.ntmps186
  have kw := keeps_refl w
  replace kw := Keeps.trans kw (keeps_alloc w (.cells #[.int .i64 0, .int .i64 0] 41))
  have b4 : Bx (w.alloc (.cells #[.int .i64 0, .int .i64 0] 41)) w.heap.size 0 0 := Bx.new' (by simp)
  replace b4 := b4.keeps (keeps_alloc (w.alloc (.cells #[.int .i64 0, .int .i64 0] 41)) (.cells #[.int .i64 0, .int .i64 1] 41))
  replace kw := Keeps.trans kw (keeps_alloc (w.alloc (.cells #[.int .i64 0, .int .i64 0] 41)) (.cells #[.int .i64 0, .int .i64 1] 41))
  have b6 : Bx ((w.alloc (.cells #[.int .i64 0, .int .i64 0] 41)).alloc (.cells #[.int .i64 0, .int .i64 1] 41)) (w.heap.size + 1) 0 1 := Bx.new' (by simp)
  go_wp2_with fail
  go_loopw [14] (fun si wr => ∃ (q : Nat) (s1 : Int) (s2 : Int), q ≤ n ∧ si = .int .i64 q ∧ Hid (accQ (haSt r s) 0 1 q = (s1, s2, true)) ∧ Hid (fracB s1 s2 = true) ∧ Bx wr w.heap.size 0 0 ∧ Bx wr (w.heap.size + 1) s1 s2 ∧ Keeps w wr) (fun si _ => n - (intOf si).toNat)
  case atStart => exact ⟨0, 0, 1, Nat.zero_le _, rfl, rfl, fracB_01, b4, b6, kw⟩
  clear kw b4 b6 
  case round =>
    obtain ⟨q, s1, s2, hq, rfl, HA, HB, b4, b6, kw⟩ := hrel
    have lt1 := b6.lt
    have sz2 := kw.size
    by_cases hlt : q < n
    · obtain ⟨ba, oa, x, y, rfl, _, hb, hc, hd, hx⟩ := Fracs.at_ (h.keeps kw) hlt
      have hq : (q : Int) < (n : Int) := by omega
      have fx := hid (HFR.out q x y hlt hx.out)
      replace b4 := b4.keeps (keeps_alloc wr (.cells #[.int .i64 x, .int .i64 y] 41))
      replace b6 := b6.keeps (keeps_alloc wr (.cells #[.int .i64 x, .int .i64 y] 41))
      replace kw := Keeps.trans kw (keeps_alloc wr (.cells #[.int .i64 x, .int .i64 y] 41))
      have b8 : Bx (wr.alloc (.cells #[.int .i64 x, .int .i64 y] 41)) wr.heap.size x y := Bx.new' (by simp)
      go_wp2_with fail
      clear hc hd
      obtain ⟨bu, ou, u, v, rfl, _, hbu, hcu, hdu, hu⟩ := Fracs.at_ (h'.keeps kw) hlt
      have fu := hid (HFS.out q u v hlt hu.out)
      obtain ⟨q1, q2, q3, H5⟩ : ∃ q1 q2 q3, Hid (mkF (x * v - u * y) (y * v) = (q1, q2, q3)) := ⟨_, _, _, rfl⟩
      obtain ⟨ca4, cb4, -, -⟩ := id b8
      have kS := hid (show ∀ w', Keeps (wr.alloc (.cells #[.int .i64 x, .int .i64 y] 41)) w' → (w'.cell? ⟨wr.heap.size, 0, none⟩ = some (.int .i64 x) ∧ w'.cell? ⟨wr.heap.size, 1, none⟩ = some (.int .i64 y) ∧ w'.cell? ⟨bu, ou + q * 2, none⟩ = some (.int .i64 u) ∧ w'.cell? ⟨bu, ou + q * 2 + 1, none⟩ = some (.int .i64 v)) from fun w' k => ⟨cell_keeps ca4 k, cell_keeps cb4 k, cell_keeps hcu k, cell_keeps hdu k⟩)
      go_cut [9, 10] (fun sd so wq => ∃ wy g, wy = wq ∧ sd = .pointer (some ⟨g, 0, none⟩) ∧ so = .bool q3 ∧ Bx wy g q1 q2 ∧ (wr.alloc (.cells #[.int .i64 x, .int .i64 y] 41)).heap.size ≤ g ∧ Keeps (wr.alloc (.cells #[.int .i64 x, .int .i64 y] 41)) wy)
      case first =>
        have eA := hid (show (wr.alloc (.cells #[.int .i64 x, .int .i64 y] 41)).heap.size = wr.heap.size + 1 by simp)
        go_region_held3 (fun w' => w'.cell? ⟨wr.heap.size, 0, none⟩ = some (.int .i64 x) ∧ w'.cell? ⟨wr.heap.size, 1, none⟩ = some (.int .i64 y) ∧ w'.cell? ⟨bu, ou + q * 2, none⟩ = some (.int .i64 u) ∧ w'.cell? ⟨bu, ou + q * 2 + 1, none⟩ = some (.int .i64 v)) (first | with_reducible exact kS.out _ (keeps_d0 (wr.alloc (.cells #[.int .i64 x, .int .i64 y] 41))) | with_reducible exact kS.out _ (keeps_ad0 (wr.alloc (.cells #[.int .i64 x, .int .i64 y] 41)) _) | with_reducible exact kS.out _ (kW) | with_reducible exact kS.out _ (kW.trans (keeps_alloc _ _)) | with_reducible exact kS.out _ (below_set2 kW (p := (wr.heap.size + 1)) (Nat.le_of_eq eA.out) _ _) | go_keep)
          ((first | (go_at_call 178; refine (SubFrac_any fx.out fu.out).mono ?_; rintro e wB ⟨rfl, kB⟩; rw [H5.out]; (first | (have kZ : Bx wB (wr.heap.size + 1) 0 0 := Bx.kZ1 kB eA.out; obtain ⟨z1, z2, z3, z4⟩ := id kZ) | (have kZ : Bx wB (wr.heap.size + 1) 0 0 := Bx.kZ2 kB eA.out; obtain ⟨z1, z2, z3, z4⟩ := id kZ) | (have kZ := kZ.keeps kB; obtain ⟨z1, z2, z3, z4⟩ := id kZ) | skip); (first | (have kW : Keeps (wr.alloc (.cells #[.int .i64 x, .int .i64 y] 41)) wB := kW.trans kB) | (have kW : Keeps (wr.alloc (.cells #[.int .i64 x, .int .i64 y] 41)) wB := (kW.trans (keeps_alloc _ _)).trans kB) | (have kW : Keeps (wr.alloc (.cells #[.int .i64 x, .int .i64 y] 41)) wB := keeps_d kB) | (have kW : Keeps (wr.alloc (.cells #[.int .i64 x, .int .i64 y] 41)) wB := keeps_ad kB)); clear kB)))
        all_goals (go_wp2_with fail; go_meet; first
          | exact ⟨_, _, rfl, rfl, rfl, Bx.new _ _ _ _, kW.size, kW.trans (keeps_alloc _ _)⟩
          | exact ⟨_, _, rfl, rfl, rfl, Bx.set (x := 0) (y := 0) kZ _ _, (Nat.le_of_eq eA.out), below_set2 kW (p := (wr.heap.size + 1)) (Nat.le_of_eq eA.out) _ _⟩)
      case rest =>
        clear kS
        clear ca4 cb4
        obtain ⟨wx3, g3, rfl, rfl, rfl, b9, lg3, kx3⟩ := hcut
        simp at lg3
        replace b4 := b4.keeps kx3
        replace b6 := b6.keeps kx3
        replace b8 := b8.keeps kx3
        replace kw := Keeps.trans kw kx3
        clear kx3
        have lt6 := b9.lt
        have sz7 := kw.size
        clear hcu hdu
        cases q3
        · have HE := hid (accQ_fail HA.out (show haSt r s q s1 s2 = (0, 0, false) from haSt_no hx.out hu.out H5.out) hlt)
          have HF := hid (haQ_no HL.out HE.out)
          obtain ⟨ca8, cb8, fa8, fb8⟩ := id b4
          go_wp2_with fail
          clear ca8 cb8 fa8 fb8
          obtain ⟨ca0, cb0, fa0, fb0⟩ := id b4
          refine bodyPost_ret (v := .tuple #[.agg #[.int .i64 0, .int .i64 0], .bool false]) (by simp [results, Try.results186, go_sem, ca0, cb0]) rfl ⟨ret_fb (by rw [HF.out]) (by rw [HF.out]) (by rw [HF.out]), ?_⟩
          exact below_set2 kw (p := w.heap.size) (by omega) _ _
        · have fq := hid (fracB_abs ((Fine.mk _ _).ok H5.out))
          have fq0 := fracB_qb ((Fine.mk _ _).ok H5.out)
          have fq1 := fq0.1
          clear fq0
          obtain ⟨r1, r2, r3, H6⟩ : ∃ r1 r2 r3, Hid (mkF (s1 * q2 + absI q1 * s2) (s2 * q2) = (r1, r2, r3)) := ⟨_, _, _, rfl⟩
          have HS := hid ((haSt_yes (a := s1) (b := s2) hx.out hu.out H5.out).trans H6.out)
          by_cases hneg : q1 < -q1
          · rw [absI_neg hneg] at fq H6
            obtain ⟨ca8, cb8, fa8, fb8⟩ := id b9
            replace b4 := b4.far (p := ⟨g3, 0, none⟩) (by show _ ≠ g3; omega) (.int .i64 (-q1))
            replace b6 := b6.far (p := ⟨g3, 0, none⟩) (by show _ ≠ g3; omega) (.int .i64 (-q1))
            replace b8 := b8.far (p := ⟨g3, 0, none⟩) (by show _ ≠ g3; omega) (.int .i64 (-q1))
            replace b9 := b9.set0 (-q1)
            replace kw := Below.setCell kw (p := ⟨g3, 0, none⟩) (by show _ ≤ g3; omega) (.int .i64 (-q1))
            obtain ⟨ca9, cb9, fa9, fb9⟩ := id b6
            obtain ⟨ca10, cb10, fa10, fb10⟩ := id b9
            go_wp2_with fail
            clear ca8 cb8 fa8 fb8 ca9 cb9 fa9 fb9 ca10 cb10 fa10 fb10
            refine (AddFrac_any HB.out fq.out).mono ?_
            rintro e w11 ⟨rfl, k11⟩
            rw [H6.out]
            replace b4 := b4.keeps k11
            replace b6 := b6.keeps k11
            replace b8 := b8.keeps k11
            replace b9 := b9.keeps k11
            replace kw := Keeps.trans kw k11
            have lt12 := b9.lt
            have sz13 := kw.size
            clear k11
            cases r3
            · obtain ⟨ca14, cb14, fa14, fb14⟩ := id b6
              replace b4 := b4.set2 (p := (w.heap.size + 1)) (by omega) (.int .i64 r1) (.int .i64 r2)
              replace b8 := b8.set2 (p := (w.heap.size + 1)) (by omega) (.int .i64 r1) (.int .i64 r2)
              replace b9 := b9.set2 (p := (w.heap.size + 1)) (by omega) (.int .i64 r1) (.int .i64 r2)
              replace b6 := b6.set r1 r2
              replace kw := below_set2 kw (p := (w.heap.size + 1)) (by omega) (.int .i64 r1) (.int .i64 r2)
              obtain ⟨ca15, cb15, fa15, fb15⟩ := id b4
              have HE := hid (accQ_fail HA.out (show haSt r s q s1 s2 = (0, 0, false) from (haSt_fine _ _ _ _ _).bad HS.out) hlt)
              have HF := hid (haQ_no HL.out HE.out)
              obtain ⟨ca16, cb16, fa16, fb16⟩ := id b4
              go_wp2_with fail
              clear ca14 cb14 fa14 fb14 ca15 cb15 fa15 fb15 ca16 cb16 fa16 fb16
              obtain ⟨ca0, cb0, fa0, fb0⟩ := id b4
              refine bodyPost_ret (v := .tuple #[.agg #[.int .i64 0, .int .i64 0], .bool false]) (by simp [results, Try.results186, go_sem, ca0, cb0]) rfl ⟨ret_fb (by rw [HF.out]) (by rw [HF.out]) (by rw [HF.out]), ?_⟩
              exact below_set2 kw (p := w.heap.size) (by omega) _ _
            · have fr := hid ((haSt_fine _ _ _ _ _).ok HS.out)
              obtain ⟨ca14, cb14, fa14, fb14⟩ := id b6
              replace b4 := b4.set2 (p := (w.heap.size + 1)) (by omega) (.int .i64 r1) (.int .i64 r2)
              replace b8 := b8.set2 (p := (w.heap.size + 1)) (by omega) (.int .i64 r1) (.int .i64 r2)
              replace b9 := b9.set2 (p := (w.heap.size + 1)) (by omega) (.int .i64 r1) (.int .i64 r2)
              replace b6 := b6.set r1 r2
              replace kw := below_set2 kw (p := (w.heap.size + 1)) (by omega) (.int .i64 r1) (.int .i64 r2)
              go_wp2_with fail
              clear ca14 cb14 fa14 fb14
              go_roundw
              case rel => exact ⟨q + 1, r1, r2, (by omega), (by go_num), accQ_next HA.out HS.out, fr.out, b4, b6, kw⟩
              case measure => simp [intOf]; omega
          · rw [absI_pos hneg] at fq H6
            obtain ⟨ca8, cb8, fa8, fb8⟩ := id b9
            replace b4 := b4.far (p := ⟨g3, 0, none⟩) (by show _ ≠ g3; omega) (.int .i64 q1)
            replace b6 := b6.far (p := ⟨g3, 0, none⟩) (by show _ ≠ g3; omega) (.int .i64 q1)
            replace b8 := b8.far (p := ⟨g3, 0, none⟩) (by show _ ≠ g3; omega) (.int .i64 q1)
            replace b9 := b9.set0 q1
            replace kw := Below.setCell kw (p := ⟨g3, 0, none⟩) (by show _ ≤ g3; omega) (.int .i64 q1)
            obtain ⟨ca9, cb9, fa9, fb9⟩ := id b6
            obtain ⟨ca10, cb10, fa10, fb10⟩ := id b9
            go_wp2_with fail
            clear ca8 cb8 fa8 fb8 ca9 cb9 fa9 fb9 ca10 cb10 fa10 fb10
            refine (AddFrac_any HB.out fq.out).mono ?_
            rintro e w11 ⟨rfl, k11⟩
            rw [H6.out]
            replace b4 := b4.keeps k11
            replace b6 := b6.keeps k11
            replace b8 := b8.keeps k11
            replace b9 := b9.keeps k11
            replace kw := Keeps.trans kw k11
            have lt12 := b9.lt
            have sz13 := kw.size
            clear k11
            cases r3
            · obtain ⟨ca14, cb14, fa14, fb14⟩ := id b6
              replace b4 := b4.set2 (p := (w.heap.size + 1)) (by omega) (.int .i64 r1) (.int .i64 r2)
              replace b8 := b8.set2 (p := (w.heap.size + 1)) (by omega) (.int .i64 r1) (.int .i64 r2)
              replace b9 := b9.set2 (p := (w.heap.size + 1)) (by omega) (.int .i64 r1) (.int .i64 r2)
              replace b6 := b6.set r1 r2
              replace kw := below_set2 kw (p := (w.heap.size + 1)) (by omega) (.int .i64 r1) (.int .i64 r2)
              obtain ⟨ca15, cb15, fa15, fb15⟩ := id b4
              have HE := hid (accQ_fail HA.out (show haSt r s q s1 s2 = (0, 0, false) from (haSt_fine _ _ _ _ _).bad HS.out) hlt)
              have HF := hid (haQ_no HL.out HE.out)
              obtain ⟨ca16, cb16, fa16, fb16⟩ := id b4
              go_wp2_with fail
              clear ca14 cb14 fa14 fb14 ca15 cb15 fa15 fb15 ca16 cb16 fa16 fb16
              obtain ⟨ca0, cb0, fa0, fb0⟩ := id b4
              refine bodyPost_ret (v := .tuple #[.agg #[.int .i64 0, .int .i64 0], .bool false]) (by simp [results, Try.results186, go_sem, ca0, cb0]) rfl ⟨ret_fb (by rw [HF.out]) (by rw [HF.out]) (by rw [HF.out]), ?_⟩
              exact below_set2 kw (p := w.heap.size) (by omega) _ _
            · have fr := hid ((haSt_fine _ _ _ _ _).ok HS.out)
              obtain ⟨ca14, cb14, fa14, fb14⟩ := id b6
              replace b4 := b4.set2 (p := (w.heap.size + 1)) (by omega) (.int .i64 r1) (.int .i64 r2)
              replace b8 := b8.set2 (p := (w.heap.size + 1)) (by omega) (.int .i64 r1) (.int .i64 r2)
              replace b9 := b9.set2 (p := (w.heap.size + 1)) (by omega) (.int .i64 r1) (.int .i64 r2)
              replace b6 := b6.set r1 r2
              replace kw := below_set2 kw (p := (w.heap.size + 1)) (by omega) (.int .i64 r1) (.int .i64 r2)
              go_wp2_with fail
              clear ca14 cb14 fa14 fb14
              go_roundw
              case rel => exact ⟨q + 1, r1, r2, (by omega), (by go_num), accQ_next HA.out HS.out, fr.out, b4, b6, kw⟩
              case measure => simp [intOf]; omega
    · obtain rfl : q = n := by omega
      obtain ⟨r1, r2, r3, H6⟩ : ∃ r1 r2 r3, Hid (mkF (s1 * 1) (s2 * 2) = (r1, r2, r3)) := ⟨_, _, _, rfl⟩
      have HF := hid ((haQ_yes HL.out HA.out).trans H6.out)
      obtain ⟨ca3, cb3, fa3, fb3⟩ := id b6
      go_wp2_with fail
      clear ca3 cb3 fa3 fb3
      refine (DivFrac_any HB.out (fracB_int two_bd)).mono ?_
      rintro e w4 ⟨rfl, k4⟩
      rw [H6.out]
      replace b4 := b4.keeps k4
      replace b6 := b6.keeps k4
      replace kw := Keeps.trans kw k4
      have lt5 := b6.lt
      have sz6 := kw.size
      clear k4
      obtain ⟨ca7, cb7, fa7, fb7⟩ := id b4
      go_wp2_with fail
      clear ca7 cb7 fa7 fb7
      obtain ⟨ca0, cb0, fa0, fb0⟩ := id b4
      refine bodyPost_ret (v := .tuple #[.agg #[.int .i64 r1, .int .i64 r2], .bool r3]) (by simp [results, Try.results186, go_sem, ca0, cb0]) rfl ⟨ret_fb (by rw [HF.out]) (by rw [HF.out]) (by rw [HF.out]), ?_⟩
      exact below_set2 kw (p := w.heap.size) (by omega) _ _
set_option maxRecDepth 100000 in
set_option maxHeartbeats 3200000 in
theorem implVariationOf_any {A : Option Addr} {lo hi n c : Nat} {ll : List (List QQ)} {w : World} (h : FRows w lo hi A n ll) {i k : Int} (wi : (Lit.int .i64 i).wf = true) (wk : (Lit.int .i64 k).wf = true) :
    Calls Try.prog 92 #[.agg #[.slice A n c], .int .i64 i, .int .i64 k] w fun e w' => e = .returned (.tuple #[.agg #[.int .i64 (varQ ll i k).1, .int .i64 (varQ ll i k).2.1], .bool (varQ ll i k).2.2]) ∧ Keeps w w' := by
  have hn := h.le
  have hl := h.len
  go_enter Try.func92, Try.ntmps92
  have kw := keeps_refl w
  replace kw := Keeps.trans kw (keeps_alloc w (.cells #[.slice A n c] 38))
  have b3 : B1 (w.alloc (.cells #[.slice A n c] 38)) w.heap.size (.slice A n c) := B1.new' (by simp)
  replace b3 := b3.keeps (keeps_alloc (w.alloc (.cells #[.slice A n c] 38)) (.cells #[.int .i64 0, .int .i64 0] 41))
  replace kw := Keeps.trans kw (keeps_alloc (w.alloc (.cells #[.slice A n c] 38)) (.cells #[.int .i64 0, .int .i64 0] 41))
  have b6 : Bx ((w.alloc (.cells #[.slice A n c] 38)).alloc (.cells #[.int .i64 0, .int .i64 0] 41)) (w.heap.size + 1) 0 0 := Bx.new' (by simp)
  obtain ⟨ca1, fa1⟩ := id b3
  go_wp2_with fail
  clear ca1 fa1
  obtain ⟨pH1, H1⟩ : ∃ p, Hid (mechB ll = p) := ⟨_, rfl⟩
  refine (IsMechanism_any (h.keeps kw)).mono ?_
  rintro e w2 ⟨rfl, k2⟩
  rw [H1.out]
  replace b3 := b3.keeps k2
  replace b6 := b6.keeps k2
  replace kw := Keeps.trans kw k2
  have lt3 := b6.lt
  have sz4 := kw.size
  clear k2
  cases pH1
  · have HF := hid (varQ_no (ll := ll) (i := i) (k := k) (by unfold inp; rw [H1.out]; rfl))
    obtain ⟨ca5, fa5⟩ := id b3
    obtain ⟨ca6, cb6, fa6, fb6⟩ := id b6
    go_wp2_with fail
    clear ca5 fa5 ca6 cb6 fa6 fb6
    obtain ⟨ca0, cb0, fa0, fb0⟩ := id b6
    refine bodyPost_ret (v := .tuple #[.agg #[.int .i64 0, .int .i64 0], .bool false]) (by simp [results, Try.results92, go_sem, ca0, cb0]) rfl ⟨ret_fb (by rw [HF.out]) (by rw [HF.out]) (by rw [HF.out]), ?_⟩
    exact below_set2 kw (p := (w.heap.size + 1)) (by omega) _ _
  · skip
    obtain ⟨ca5, fa5⟩ := id b3
    go_wp2_with fail
    clear ca5 fa5
    obtain ⟨pH2, H2⟩ : ∃ p, Hid (inB i 0 ((n : Int) - 1) = p) := ⟨_, rfl⟩
    refine (isInput_any hn).mono ?_
    rintro e w6 ⟨rfl, k6⟩
    rw [H2.out]
    replace b3 := b3.keeps k6
    replace b6 := b6.keeps k6
    replace kw := Keeps.trans kw k6
    have lt7 := b6.lt
    have sz8 := kw.size
    clear k6
    cases pH2
    · have HF := hid (varQ_no (ll := ll) (i := i) (k := k) (by unfold inp; rw [hl, H1.out, H2.out]; rfl))
      obtain ⟨ca9, fa9⟩ := id b3
      obtain ⟨ca10, cb10, fa10, fb10⟩ := id b6
      go_wp2_with fail
      clear ca9 fa9 ca10 cb10 fa10 fb10
      obtain ⟨ca0, cb0, fa0, fb0⟩ := id b6
      refine bodyPost_ret (v := .tuple #[.agg #[.int .i64 0, .int .i64 0], .bool false]) (by simp [results, Try.results92, go_sem, ca0, cb0]) rfl ⟨ret_fb (by rw [HF.out]) (by rw [HF.out]) (by rw [HF.out]), ?_⟩
      exact below_set2 kw (p := (w.heap.size + 1)) (by omega) _ _
    · skip
      obtain ⟨ca9, fa9⟩ := id b3
      go_wp2_with fail
      clear ca9 fa9
      obtain ⟨pH3, H3⟩ : ∃ p, Hid (inB k 0 ((n : Int) - 1) = p) := ⟨_, rfl⟩
      refine (isInput_any hn).mono ?_
      rintro e w10 ⟨rfl, k10⟩
      rw [H3.out]
      replace b3 := b3.keeps k10
      replace b6 := b6.keeps k10
      replace kw := Keeps.trans kw k10
      have lt11 := b6.lt
      have sz12 := kw.size
      clear k10
      cases pH3
      · have HF := hid (varQ_no (ll := ll) (i := i) (k := k) (by unfold inp; rw [hl, H1.out, H2.out, H3.out]; rfl))
        obtain ⟨ca13, fa13⟩ := id b3
        obtain ⟨ca14, cb14, fa14, fb14⟩ := id b6
        go_wp2_with fail
        clear ca13 fa13 ca14 cb14 fa14 fb14
        obtain ⟨ca0, cb0, fa0, fb0⟩ := id b6
        refine bodyPost_ret (v := .tuple #[.agg #[.int .i64 0, .int .i64 0], .bool false]) (by simp [results, Try.results92, go_sem, ca0, cb0]) rfl ⟨ret_fb (by rw [HF.out]) (by rw [HF.out]) (by rw [HF.out]), ?_⟩
        exact below_set2 kw (p := (w.heap.size + 1)) (by omega) _ _
      · skip
        have HI := hid (show inp ll i k = true by unfold inp; rw [hl, H1.out, H2.out, H3.out]; rfl)
        have hin := inp_true HI.out
        rw [hl] at hin
        obtain ⟨i, rfl⟩ : ∃ j : Nat, i = j := ⟨i.toNat, by omega⟩
        obtain ⟨k, rfl⟩ : ∃ j : Nat, k = j := ⟨k.toNat, by omega⟩
        have hiN : i < n := by omega
        have hkN : k < n := by omega
        have htop := h.top
        obtain ⟨b, off, A1, m, c1, rfl, hlb, hub, hci, hri⟩ := h.at_ hiN
        obtain ⟨b', off', A2, m2, c2, e2, _, _, hck, hrk⟩ := h.at_ hkN
        obtain ⟨rfl, rfl⟩ : b = b' ∧ off = off' := by simpa using e2
        clear e2
        have hml := Fracs.len hri
        have hml2 := Fracs.len hrk
        have hmm := (mechB_row hin.1 (i := i) (by omega)).1
        have hmm2 := (mechB_row hin.1 (i := k) (by omega)).1
        obtain rfl : m = m2 := by omega
        obtain ⟨r, HR⟩ : ∃ r, Hid (ll.getD i [] = r) := ⟨_, rfl⟩
        obtain ⟨s, HS0⟩ : ∃ s, Hid (ll.getD k [] = s) := ⟨_, rfl⟩
        rw [HR.out] at hri hml hmm
        rw [HS0.out] at hrk hml2 hmm2
        have hmle := hri.le
        have HFR := hid (show ∀ j x y, j < m → (x, y) = r.getD j (0, 0) → fracB x y = true from fun j x y hj hx => (mechB_at hin.1 (i := i) (k := j) (by omega) (by rw [HR.out]; omega) (by rw [HR.out]; exact hx)).1)
        have HFS := hid (show ∀ j x y, j < m → (x, y) = s.getD j (0, 0) → fracB x y = true from fun j x y hj hx => (mechB_at hin.1 (i := k) (k := j) (by omega) (by rw [HS0.out]; omega) (by rw [HS0.out]; exact hx)).1)
        have hi1 : (i : Int) < (n : Int) := by omega
        have hi2 : (k : Int) < (n : Int) := by omega
        have HL := hid hml
        clear hml hml2 hmm hmm2 hin
        have HF := hid (varQ_yes HI.out)
        rw [HR.out, HS0.out] at HF
        obtain ⟨r1, r2, r3, H5⟩ : ∃ r1 r2 r3, Hid (haQ r s = (r1, r2, r3)) := ⟨_, _, _, rfl⟩
        replace HF := hid (HF.out.trans H5.out)
        go_wp2_with fail
        have ci := cell_keeps hci kw
        have ck := cell_keeps hck kw
        obtain ⟨ca13, -⟩ := id b3
        obtain ⟨ca14, cb14, fa14, fb14⟩ := id b6
        have kS := hid (show ∀ w', Keeps w10 w' → (w'.cell? ⟨w.heap.size, 0, none⟩ = some (.slice (some ⟨b, off, none⟩) n c) ∧ w'.cell? ⟨b, off + i, none⟩ = some (.slice A1 m c1) ∧ w'.cell? ⟨b, off + k, none⟩ = some (.slice A2 m c2)) from fun w' k => ⟨cell_keeps ca13 k, cell_keeps ci k, cell_keeps ck k⟩)
        have nT16 : w.heap.size ≠ (w.heap.size + 1) := by omega
        have nT17 : b ≠ (w.heap.size + 1) := by omega
        have nT18 : b ≠ (w.heap.size + 1) := by omega
        have kT := hid (show ∀ w', Keeps w10 w' → ∀ u v, let w'' := (w'.setCell ⟨w.heap.size + 1, 0, none⟩ u).setCell ⟨w.heap.size + 1, 1, none⟩ v; (w''.cell? ⟨w.heap.size, 0, none⟩ = some (.slice (some ⟨b, off, none⟩) n c) ∧ w''.cell? ⟨b, off + i, none⟩ = some (.slice A1 m c1) ∧ w''.cell? ⟨b, off + k, none⟩ = some (.slice A2 m c2)) from fun w' k u v => ⟨set2_far (cell_keeps ca13 k) nT16, set2_far (cell_keeps ci k) nT17, set2_far (cell_keeps ck k) nT18⟩)
        go_region_held3 (fun w' => w'.cell? ⟨w.heap.size, 0, none⟩ = some (.slice (some ⟨b, off, none⟩) n c) ∧ w'.cell? ⟨b, off + i, none⟩ = some (.slice A1 m c1) ∧ w'.cell? ⟨b, off + k, none⟩ = some (.slice A2 m c2)) (first | with_reducible exact kS.out _ (keeps_d0 w10) | with_reducible exact kS.out _ kW | with_reducible exact kT.out _ kW _ _ | go_keep)
          ((first | (go_at_call 186; refine (halfDistance_any (Sl.keeps hri (Keeps.trans kw (keeps_d0 _))) (Sl.keeps hrk (Keeps.trans kw (keeps_d0 _))) HFR.out HFS.out).mono ?_; rintro e wB ⟨rfl, kB⟩; rw [H5.out]; (first | (replace kW : Keeps w10 wB := kW.trans kB) | (have kW : Keeps w10 wB := keeps_d kB)); clear kB; (first | clear z1 z2 z3 z4 | skip); obtain ⟨z1, z2, z3, z4⟩ := b6.keeps kW)))
        clear kS kT z1 z2 z3 z4
        clear ca13 ca14 cb14 fa14 fb14 nT16 nT17 nT18
        replace b3 := b3.keeps kW
        replace b6 := b6.keeps kW
        replace kw := Keeps.trans kw kW
        have lt19 := b6.lt
        have sz20 := kw.size
        clear kW
        replace b3 := b3.set2 (p := (w.heap.size + 1)) (by omega) (.int .i64 r1) (.int .i64 r2)
        replace b6 := b6.set r1 r2
        replace kw := below_set2 kw (p := (w.heap.size + 1)) (by omega) (.int .i64 r1) (.int .i64 r2)
        obtain ⟨ca21, cb21, fa21, fb21⟩ := id b6
        go_wp2_with fail
        clear ca21 cb21 fa21 fb21
        obtain ⟨ca0, cb0, fa0, fb0⟩ := id b6
        refine bodyPost_ret (v := .tuple #[.agg #[.int .i64 r1, .int .i64 r2], .bool r3]) (by simp [results, Try.results92, go_sem, ca0, cb0]) rfl ⟨ret_fb (by rw [HF.out]) (by rw [HF.out]) (by rw [HF.out]), ?_⟩
        exact kw
set_option maxRecDepth 100000 in
set_option maxHeartbeats 3200000 in
theorem specVariationOf_any {A : Option Addr} {lo hi n c : Nat} {ll : List (List QQ)} {w : World} (h : FRows w lo hi A n ll) {i k : Int} (wi : (Lit.int .i64 i).wf = true) (wk : (Lit.int .i64 k).wf = true) :
    Calls Try.prog 93 #[.agg #[.slice A n c], .int .i64 i, .int .i64 k] w fun e w' => e = .returned (.tuple #[.agg #[.int .i64 (varQ ll i k).1, .int .i64 (varQ ll i k).2.1], .bool (varQ ll i k).2.2]) ∧ Keeps w w' := by
  have hn := h.le
  have hl := h.len
  go_enter Try.func93, Try.ntmps93
  have kw := keeps_refl w
  replace kw := Keeps.trans kw (keeps_alloc w (.cells #[.slice A n c] 38))
  have b3 : B1 (w.alloc (.cells #[.slice A n c] 38)) w.heap.size (.slice A n c) := B1.new' (by simp)
  replace b3 := b3.keeps (keeps_alloc (w.alloc (.cells #[.slice A n c] 38)) (.cells #[.int .i64 0, .int .i64 0] 41))
  replace kw := Keeps.trans kw (keeps_alloc (w.alloc (.cells #[.slice A n c] 38)) (.cells #[.int .i64 0, .int .i64 0] 41))
  have b6 : Bx ((w.alloc (.cells #[.slice A n c] 38)).alloc (.cells #[.int .i64 0, .int .i64 0] 41)) (w.heap.size + 1) 0 0 := Bx.new' (by simp)
  obtain ⟨ca1, fa1⟩ := id b3
  go_wp2_with fail
  clear ca1 fa1
  obtain ⟨pHI0, HI0⟩ : ∃ p, Hid ((mechB ll && inB i 0 ((n : Int) - 1) && inB k 0 ((n : Int) - 1)) = p) := ⟨_, rfl⟩
  refine (mInput_any (h.keeps kw)).mono ?_
  rintro e w2 ⟨rfl, k2⟩
  rw [HI0.out]
  replace b3 := b3.keeps k2
  replace b6 := b6.keeps k2
  replace kw := Keeps.trans kw k2
  have lt3 := b6.lt
  have sz4 := kw.size
  clear k2
  cases pHI0
  · have HF := hid (varQ_no (ll := ll) (i := i) (k := k) (by unfold inp; rw [hl]; exact HI0.out))
    obtain ⟨ca5, fa5⟩ := id b3
    obtain ⟨ca6, cb6, fa6, fb6⟩ := id b6
    go_wp2_with fail
    clear ca5 fa5 ca6 cb6 fa6 fb6
    obtain ⟨ca0, cb0, fa0, fb0⟩ := id b6
    refine bodyPost_ret (v := .tuple #[.agg #[.int .i64 0, .int .i64 0], .bool false]) (by simp [results, Try.results93, go_sem, ca0, cb0]) rfl ⟨ret_fb (by rw [HF.out]) (by rw [HF.out]) (by rw [HF.out]), ?_⟩
    exact below_set2 kw (p := (w.heap.size + 1)) (by omega) _ _
  · skip
    have HI := hid (show inp ll i k = true by unfold inp; rw [hl]; exact HI0.out)
    have hin := inp_true HI.out
    rw [hl] at hin
    obtain ⟨i, rfl⟩ : ∃ j : Nat, i = j := ⟨i.toNat, by omega⟩
    obtain ⟨k, rfl⟩ : ∃ j : Nat, k = j := ⟨k.toNat, by omega⟩
    have hiN : i < n := by omega
    have hkN : k < n := by omega
    have htop := h.top
    obtain ⟨b, off, A1, m, c1, rfl, hlb, hub, hci, hri⟩ := h.at_ hiN
    obtain ⟨b', off', A2, m2, c2, e2, _, _, hck, hrk⟩ := h.at_ hkN
    obtain ⟨rfl, rfl⟩ : b = b' ∧ off = off' := by simpa using e2
    clear e2
    have hml := Fracs.len hri
    have hml2 := Fracs.len hrk
    have hmm := (mechB_row hin.1 (i := i) (by omega)).1
    have hmm2 := (mechB_row hin.1 (i := k) (by omega)).1
    obtain rfl : m = m2 := by omega
    obtain ⟨r, HR⟩ : ∃ r, Hid (ll.getD i [] = r) := ⟨_, rfl⟩
    obtain ⟨s, HS0⟩ : ∃ s, Hid (ll.getD k [] = s) := ⟨_, rfl⟩
    rw [HR.out] at hri hml hmm
    rw [HS0.out] at hrk hml2 hmm2
    have hmle := hri.le
    have HFR := hid (show ∀ j x y, j < m → (x, y) = r.getD j (0, 0) → fracB x y = true from fun j x y hj hx => (mechB_at hin.1 (i := i) (k := j) (by omega) (by rw [HR.out]; omega) (by rw [HR.out]; exact hx)).1)
    have HFS := hid (show ∀ j x y, j < m → (x, y) = s.getD j (0, 0) → fracB x y = true from fun j x y hj hx => (mechB_at hin.1 (i := k) (k := j) (by omega) (by rw [HS0.out]; omega) (by rw [HS0.out]; exact hx)).1)
    have hi1 : (i : Int) < (n : Int) := by omega
    have hi2 : (k : Int) < (n : Int) := by omega
    have HL := hid hml
    clear hml hml2 hmm hmm2 hin
    have HV := hid (varQ_yes HI.out)
    rw [HR.out, HS0.out] at HV
    go_wp2_with fail
    refine (fInt_any).mono ?_
    rintro e w5 ⟨rfl, k5⟩
    replace b3 := b3.keeps k5
    replace b6 := b6.keeps k5
    replace kw := Keeps.trans kw k5
    have lt6 := b6.lt
    have sz7 := kw.size
    clear k5
    obtain ⟨ca8, fa8⟩ := id b3
    replace b3 := b3.keeps (keeps_alloc w5 (.cells #[.int .i64 0, .int .i64 1] 41))
    replace b6 := b6.keeps (keeps_alloc w5 (.cells #[.int .i64 0, .int .i64 1] 41))
    replace kw := Keeps.trans kw (keeps_alloc w5 (.cells #[.int .i64 0, .int .i64 1] 41))
    have b8 : Bx (w5.alloc (.cells #[.int .i64 0, .int .i64 1] 41)) w5.heap.size 0 1 := Bx.new' (by simp)
    obtain ⟨ca9, fa9⟩ := id b3
    have ci := cell_keeps hci kw
    go_wp2_with fail
    clear ca8 fa8 ca9 fa9
    clear ci
    go_loopw [28] (fun si wr => ∃ (q : Nat) (s1 : Int) (s2 : Int), q ≤ m ∧ si = .int .i64 q ∧ Hid (accQ (haSt r s) 0 1 q = (s1, s2, true)) ∧ Hid (fracB s1 s2 = true) ∧ B1 wr w.heap.size (.slice (some ⟨b, off, none⟩) n c) ∧ Bx wr (w.heap.size + 1) 0 0 ∧ Bx wr w5.heap.size s1 s2 ∧ Keeps w wr) (fun si _ => m - (intOf si).toNat)
    case atStart => exact ⟨0, 0, 1, Nat.zero_le _, rfl, rfl, fracB_01, b3, b6, b8, kw⟩
    clear kw b3 b6 b8 
    case round =>
      obtain ⟨q, s1, s2, hq, rfl, HA, HB, b3, b6, b8, kw⟩ := hrel
      have lt10 := b8.lt
      have sz11 := kw.size
      by_cases hlt : q < m
      · obtain ⟨ba, oa, x, y, rfl, _, hb, hc, hd, hx⟩ := Fracs.at_ (Sl.keeps hri kw) hlt
        have hq : (q : Int) < (m : Int) := by omega
        have fx := hid (HFR.out q x y hlt hx.out)
        replace b3 := b3.keeps (keeps_alloc wr (.cells #[.int .i64 x, .int .i64 y] 41))
        replace b6 := b6.keeps (keeps_alloc wr (.cells #[.int .i64 x, .int .i64 y] 41))
        replace b8 := b8.keeps (keeps_alloc wr (.cells #[.int .i64 x, .int .i64 y] 41))
        replace kw := Keeps.trans kw (keeps_alloc wr (.cells #[.int .i64 x, .int .i64 y] 41))
        have b10 : Bx (wr.alloc (.cells #[.int .i64 x, .int .i64 y] 41)) wr.heap.size x y := Bx.new' (by simp)
        go_wp2_with fail
        clear hc hd
        obtain ⟨bu, ou, u, v, rfl, _, hbu, hcu, hdu, hu⟩ := Fracs.at_ (Sl.keeps hrk kw) hlt
        have fu := hid (HFS.out q u v hlt hu.out)
        have ck := cell_keeps hck kw
        obtain ⟨q1, q2, q3, H5⟩ : ∃ q1 q2 q3, Hid (mkF (x * v - u * y) (y * v) = (q1, q2, q3)) := ⟨_, _, _, rfl⟩
        obtain ⟨ca13, cb13, -, -⟩ := id b10
        obtain ⟨ca14, -⟩ := id b3
        have kS := hid (show ∀ w', Keeps (wr.alloc (.cells #[.int .i64 x, .int .i64 y] 41)) w' → (w'.cell? ⟨wr.heap.size, 0, none⟩ = some (.int .i64 x) ∧ w'.cell? ⟨wr.heap.size, 1, none⟩ = some (.int .i64 y) ∧ w'.cell? ⟨w.heap.size, 0, none⟩ = some (.slice (some ⟨b, off, none⟩) n c) ∧ w'.cell? ⟨b, off + k, none⟩ = some (.slice (some ⟨bu, ou, none⟩) m c2) ∧ w'.cell? ⟨bu, ou + q * 2, none⟩ = some (.int .i64 u) ∧ w'.cell? ⟨bu, ou + q * 2 + 1, none⟩ = some (.int .i64 v)) from fun w' k => ⟨cell_keeps ca13 k, cell_keeps cb13 k, cell_keeps ca14 k, cell_keeps ck k, cell_keeps hcu k, cell_keeps hdu k⟩)
        go_cut [11, 12] (fun sd so wq => ∃ wy g, wy = wq ∧ sd = .pointer (some ⟨g, 0, none⟩) ∧ so = .bool q3 ∧ Bx wy g q1 q2 ∧ (wr.alloc (.cells #[.int .i64 x, .int .i64 y] 41)).heap.size ≤ g ∧ Keeps (wr.alloc (.cells #[.int .i64 x, .int .i64 y] 41)) wy)
        case first =>
          have eA := hid (show (wr.alloc (.cells #[.int .i64 x, .int .i64 y] 41)).heap.size = wr.heap.size + 1 by simp)
          go_region_held3 (fun w' => w'.cell? ⟨wr.heap.size, 0, none⟩ = some (.int .i64 x) ∧ w'.cell? ⟨wr.heap.size, 1, none⟩ = some (.int .i64 y) ∧ w'.cell? ⟨w.heap.size, 0, none⟩ = some (.slice (some ⟨b, off, none⟩) n c) ∧ w'.cell? ⟨b, off + k, none⟩ = some (.slice (some ⟨bu, ou, none⟩) m c2) ∧ w'.cell? ⟨bu, ou + q * 2, none⟩ = some (.int .i64 u) ∧ w'.cell? ⟨bu, ou + q * 2 + 1, none⟩ = some (.int .i64 v)) (first | with_reducible exact kS.out _ (keeps_d0 (wr.alloc (.cells #[.int .i64 x, .int .i64 y] 41))) | with_reducible exact kS.out _ (keeps_ad0 (wr.alloc (.cells #[.int .i64 x, .int .i64 y] 41)) _) | with_reducible exact kS.out _ (kW) | with_reducible exact kS.out _ (kW.trans (keeps_alloc _ _)) | with_reducible exact kS.out _ (below_set2 kW (p := (wr.heap.size + 1)) (Nat.le_of_eq eA.out) _ _) | go_keep)
            ((first | (go_at_call 181; refine (fSub_any (fracB_qb fx.out) (fracB_qb fu.out)).mono ?_; rintro e wB ⟨rfl, kB⟩; rw [H5.out]; (first | (have kZ : Bx wB (wr.heap.size + 1) 0 0 := Bx.kZ1 kB eA.out; obtain ⟨z1, z2, z3, z4⟩ := id kZ) | (have kZ : Bx wB (wr.heap.size + 1) 0 0 := Bx.kZ2 kB eA.out; obtain ⟨z1, z2, z3, z4⟩ := id kZ) | (have kZ := kZ.keeps kB; obtain ⟨z1, z2, z3, z4⟩ := id kZ) | skip); (first | (have kW : Keeps (wr.alloc (.cells #[.int .i64 x, .int .i64 y] 41)) wB := kW.trans kB) | (have kW : Keeps (wr.alloc (.cells #[.int .i64 x, .int .i64 y] 41)) wB := (kW.trans (keeps_alloc _ _)).trans kB) | (have kW : Keeps (wr.alloc (.cells #[.int .i64 x, .int .i64 y] 41)) wB := keeps_d kB) | (have kW : Keeps (wr.alloc (.cells #[.int .i64 x, .int .i64 y] 41)) wB := keeps_ad kB)); clear kB)))
          all_goals (go_wp2_with fail; go_meet; first
            | exact ⟨_, _, rfl, rfl, rfl, Bx.new _ _ _ _, kW.size, kW.trans (keeps_alloc _ _)⟩
            | exact ⟨_, _, rfl, rfl, rfl, Bx.set (x := 0) (y := 0) kZ _ _, (Nat.le_of_eq eA.out), below_set2 kW (p := (wr.heap.size + 1)) (Nat.le_of_eq eA.out) _ _⟩)
        case rest =>
          clear kS
          clear ca13 cb13 ca14
          obtain ⟨wx12, g12, rfl, rfl, rfl, b11, lg12, kx12⟩ := hcut
          simp at lg12
          replace b3 := b3.keeps kx12
          replace b6 := b6.keeps kx12
          replace b8 := b8.keeps kx12
          replace b10 := b10.keeps kx12
          replace kw := Keeps.trans kw kx12
          clear kx12
          have lt16 := b11.lt
          have sz17 := kw.size
          clear hcu hdu ck
          cases q3
          · have HE := hid (accQ_fail HA.out (show haSt r s q s1 s2 = (0, 0, false) from haSt_no hx.out hu.out H5.out) hlt)
            have HF := hid (HV.out.trans (haQ_no HL.out HE.out))
            obtain ⟨ca18, cb18, fa18, fb18⟩ := id b6
            go_wp2_with fail
            clear ca18 cb18 fa18 fb18
            obtain ⟨ca0, cb0, fa0, fb0⟩ := id b6
            refine bodyPost_ret (v := .tuple #[.agg #[.int .i64 0, .int .i64 0], .bool false]) (by simp [results, Try.results93, go_sem, ca0, cb0]) rfl ⟨ret_fb (by rw [HF.out]) (by rw [HF.out]) (by rw [HF.out]), ?_⟩
            exact below_set2 kw (p := (w.heap.size + 1)) (by omega) _ _
          · have fq := hid (fracB_abs ((Fine.mk _ _).ok H5.out))
            have fq0 := fracB_qb ((Fine.mk _ _).ok H5.out)
            have fq1 := fq0.1
            clear fq0
            obtain ⟨r1, r2, r3, H6⟩ : ∃ r1 r2 r3, Hid (mkF (s1 * q2 + absI q1 * s2) (s2 * q2) = (r1, r2, r3)) := ⟨_, _, _, rfl⟩
            have HS := hid ((haSt_yes (a := s1) (b := s2) hx.out hu.out H5.out).trans H6.out)
            obtain ⟨z, HZ⟩ : ∃ z, Hid (absI q1 = z) := ⟨_, rfl⟩
            rw [HZ.out] at fq H6
            obtain ⟨ca18, cb18, fa18, fb18⟩ := id b11
            go_wp2_with fail
            clear ca18 cb18 fa18 fb18
            refine (l1Abs_any (by omega) (by omega)).mono ?_
            rintro e w' ⟨rfl, rfl⟩
            rw [show max q1 (-q1) = z from HZ.out]
            obtain ⟨ca19, cb19, fa19, fb19⟩ := id b11
            replace b3 := b3.far (p := ⟨g12, 0, none⟩) (by show _ ≠ g12; omega) (.int .i64 z)
            replace b6 := b6.far (p := ⟨g12, 0, none⟩) (by show _ ≠ g12; omega) (.int .i64 z)
            replace b8 := b8.far (p := ⟨g12, 0, none⟩) (by show _ ≠ g12; omega) (.int .i64 z)
            replace b10 := b10.far (p := ⟨g12, 0, none⟩) (by show _ ≠ g12; omega) (.int .i64 z)
            replace b11 := b11.set0 z
            replace kw := Below.setCell kw (p := ⟨g12, 0, none⟩) (by show _ ≤ g12; omega) (.int .i64 z)
            obtain ⟨ca20, cb20, fa20, fb20⟩ := id b8
            obtain ⟨ca21, cb21, fa21, fb21⟩ := id b11
            go_wp2_with fail
            clear ca19 cb19 fa19 fb19 ca20 cb20 fa20 fb20 ca21 cb21 fa21 fb21
            refine (fAdd_any (fracB_qb HB.out) (fracB_qb fq.out)).mono ?_
            rintro e w22 ⟨rfl, k22⟩
            rw [H6.out]
            replace b3 := b3.keeps k22
            replace b6 := b6.keeps k22
            replace b8 := b8.keeps k22
            replace b10 := b10.keeps k22
            replace b11 := b11.keeps k22
            replace kw := Keeps.trans kw k22
            have lt23 := b11.lt
            have sz24 := kw.size
            clear k22
            cases r3
            · replace b3 := b3.keeps (keeps_alloc w22 (.cells #[.int .i64 r1, .int .i64 r2] 41))
              replace b6 := b6.keeps (keeps_alloc w22 (.cells #[.int .i64 r1, .int .i64 r2] 41))
              replace b8 := b8.keeps (keeps_alloc w22 (.cells #[.int .i64 r1, .int .i64 r2] 41))
              replace b10 := b10.keeps (keeps_alloc w22 (.cells #[.int .i64 r1, .int .i64 r2] 41))
              replace b11 := b11.keeps (keeps_alloc w22 (.cells #[.int .i64 r1, .int .i64 r2] 41))
              replace kw := Keeps.trans kw (keeps_alloc w22 (.cells #[.int .i64 r1, .int .i64 r2] 41))
              have b13 : Bx (w22.alloc (.cells #[.int .i64 r1, .int .i64 r2] 41)) w22.heap.size r1 r2 := Bx.new' (by simp)
              have HE := hid (accQ_fail HA.out (show haSt r s q s1 s2 = (0, 0, false) from (haSt_fine _ _ _ _ _).bad HS.out) hlt)
              have HF := hid (HV.out.trans (haQ_no HL.out HE.out))
              obtain ⟨ca25, cb25, fa25, fb25⟩ := id b6
              go_wp2_with fail
              clear ca25 cb25 fa25 fb25
              obtain ⟨ca0, cb0, fa0, fb0⟩ := id b6
              refine bodyPost_ret (v := .tuple #[.agg #[.int .i64 0, .int .i64 0], .bool false]) (by simp [results, Try.results93, go_sem, ca0, cb0]) rfl ⟨ret_fb (by rw [HF.out]) (by rw [HF.out]) (by rw [HF.out]), ?_⟩
              exact below_set2 kw (p := (w.heap.size + 1)) (by omega) _ _
            · have fr := hid ((haSt_fine _ _ _ _ _).ok HS.out)
              obtain ⟨ca25, cb25, fa25, fb25⟩ := id b8
              replace b3 := b3.keeps (keeps_alloc w22 (.cells #[.int .i64 r1, .int .i64 r2] 41))
              replace b6 := b6.keeps (keeps_alloc w22 (.cells #[.int .i64 r1, .int .i64 r2] 41))
              replace b8 := b8.keeps (keeps_alloc w22 (.cells #[.int .i64 r1, .int .i64 r2] 41))
              replace b10 := b10.keeps (keeps_alloc w22 (.cells #[.int .i64 r1, .int .i64 r2] 41))
              replace b11 := b11.keeps (keeps_alloc w22 (.cells #[.int .i64 r1, .int .i64 r2] 41))
              replace kw := Keeps.trans kw (keeps_alloc w22 (.cells #[.int .i64 r1, .int .i64 r2] 41))
              have b13 : Bx (w22.alloc (.cells #[.int .i64 r1, .int .i64 r2] 41)) w22.heap.size r1 r2 := Bx.new' (by simp)
              obtain ⟨ca26, cb26, fa26, fb26⟩ := id b8
              obtain ⟨ca27, cb27, fa27, fb27⟩ := id b13
              replace b3 := b3.set2 (p := w5.heap.size) (by omega) (.int .i64 r1) (.int .i64 r2)
              replace b6 := b6.set2 (p := w5.heap.size) (by omega) (.int .i64 r1) (.int .i64 r2)
              replace b10 := b10.set2 (p := w5.heap.size) (by omega) (.int .i64 r1) (.int .i64 r2)
              replace b11 := b11.set2 (p := w5.heap.size) (by omega) (.int .i64 r1) (.int .i64 r2)
              replace b13 := b13.set2 (p := w5.heap.size) (by omega) (.int .i64 r1) (.int .i64 r2)
              replace b8 := b8.set r1 r2
              replace kw := below_set2 kw (p := w5.heap.size) (by omega) (.int .i64 r1) (.int .i64 r2)
              go_wp2_with fail
              clear ca25 cb25 fa25 fb25 ca26 cb26 fa26 fb26 ca27 cb27 fa27 fb27
              go_roundw
              case rel => exact ⟨q + 1, r1, r2, (by omega), (by go_num), accQ_next HA.out HS.out, fr.out, b3, b6, b8, kw⟩
              case measure => simp [intOf]; omega
      · obtain rfl : q = m := by omega
        obtain ⟨r1, r2, r3, H6⟩ : ∃ r1 r2 r3, Hid (mkF (s1 * 1) (s2 * 2) = (r1, r2, r3)) := ⟨_, _, _, rfl⟩
        have HF := hid ((HV.out.trans (haQ_yes HL.out HA.out)).trans H6.out)
        have q21 := hid (show QB 2 1 from ⟨two_bd, one_bd⟩)
        go_wp2_with fail
        obtain ⟨ca12, cb12, -, -⟩ := id b8
        obtain ⟨ca13, cb13, fa13, fb13⟩ := id b6
        have kS := hid (show ∀ w', Keeps wr w' → (w'.cell? ⟨w5.heap.size, 0, none⟩ = some (.int .i64 s1) ∧ w'.cell? ⟨w5.heap.size, 1, none⟩ = some (.int .i64 s2)) from fun w' k => ⟨cell_keeps ca12 k, cell_keeps cb12 k⟩)
        have nT15 : w5.heap.size ≠ (w.heap.size + 1) := by omega
        have nT16 : w5.heap.size ≠ (w.heap.size + 1) := by omega
        have kT := hid (show ∀ w', Keeps wr w' → ∀ u v, let w'' := (w'.setCell ⟨w.heap.size + 1, 0, none⟩ u).setCell ⟨w.heap.size + 1, 1, none⟩ v; (w''.cell? ⟨w5.heap.size, 0, none⟩ = some (.int .i64 s1) ∧ w''.cell? ⟨w5.heap.size, 1, none⟩ = some (.int .i64 s2)) from fun w' k u v => ⟨set2_far (cell_keeps ca12 k) nT15, set2_far (cell_keeps cb12 k) nT16⟩)
        go_region_held3 (fun w' => w'.cell? ⟨w5.heap.size, 0, none⟩ = some (.int .i64 s1) ∧ w'.cell? ⟨w5.heap.size, 1, none⟩ = some (.int .i64 s2)) (first | with_reducible exact kS.out _ (keeps_d0 wr) | with_reducible exact kS.out _ kW | with_reducible exact kT.out _ kW _ _ | go_keep)
          ((first | (go_at_call 142; refine (fInt_any).mono ?_; rintro e wB ⟨rfl, kB⟩; (first | (replace kW : Keeps wr wB := kW.trans kB) | (have kW : Keeps wr wB := keeps_d kB)); clear kB; (first | clear z1 z2 z3 z4 | skip); obtain ⟨z1, z2, z3, z4⟩ := b6.keeps kW) | (go_at_call 188; refine (fDiv_any (fracB_qb HB.out) q21.out).mono ?_; rintro e wB ⟨rfl, kB⟩; rw [H6.out]; (first | (replace kW : Keeps wr wB := kW.trans kB) | (have kW : Keeps wr wB := keeps_d kB)); clear kB; (first | clear z1 z2 z3 z4 | skip); obtain ⟨z1, z2, z3, z4⟩ := b6.keeps kW)))
        clear kS kT z1 z2 z3 z4
        clear ca12 cb12 ca13 cb13 fa13 fb13 nT15 nT16
        replace b3 := b3.keeps kW
        replace b6 := b6.keeps kW
        replace b8 := b8.keeps kW
        replace kw := Keeps.trans kw kW
        have lt17 := b8.lt
        have sz18 := kw.size
        clear kW
        replace b3 := b3.set2 (p := (w.heap.size + 1)) (by omega) (.int .i64 r1) (.int .i64 r2)
        replace b8 := b8.set2 (p := (w.heap.size + 1)) (by omega) (.int .i64 r1) (.int .i64 r2)
        replace b6 := b6.set r1 r2
        replace kw := below_set2 kw (p := (w.heap.size + 1)) (by omega) (.int .i64 r1) (.int .i64 r2)
        obtain ⟨ca19, cb19, fa19, fb19⟩ := id b6
        go_wp2_with fail
        clear ca19 cb19 fa19 fb19
        obtain ⟨ca0, cb0, fa0, fb0⟩ := id b6
        refine bodyPost_ret (v := .tuple #[.agg #[.int .i64 r1, .int .i64 r2], .bool r3]) (by simp [results, Try.results93, go_sem, ca0, cb0]) rfl ⟨ret_fb (by rw [HF.out]) (by rw [HF.out]) (by rw [HF.out]), ?_⟩
        exact kw
end Go.Proofs.Ytkpliolafkdijaa
