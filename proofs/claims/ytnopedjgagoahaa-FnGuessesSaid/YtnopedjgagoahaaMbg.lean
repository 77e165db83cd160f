/- BestGuess: of the reference and of the program. -/
import Derived.Test.YtnopedjgagoahaaMdel
namespace Go.Proofs.Ytnopedjgagoahaa
open Go.RowKit
set_option linter.unusedVariables false
set_option linter.unusedSimpArgs false

/-- The greatest product so far and the next one. -/
def bgIn (ll : List (List QQ)) (pr : List QQ) (j : Nat) (i : Nat) (a b : Int) : Int × Int × Bool :=
  if (mkF ((pr.getD i (0, 0)).1 * ((ll.getD i []).getD j (0, 0)).1) ((pr.getD i (0, 0)).2 * ((ll.getD i []).getD j (0, 0)).2)).2.2 = true then
    ((maxQ (a, b) ((mkF ((pr.getD i (0, 0)).1 * ((ll.getD i []).getD j (0, 0)).1) ((pr.getD i (0, 0)).2 * ((ll.getD i []).getD j (0, 0)).2)).1, (mkF ((pr.getD i (0, 0)).1 * ((ll.getD i []).getD j (0, 0)).1) ((pr.getD i (0, 0)).2 * ((ll.getD i []).getD j (0, 0)).2)).2.1)).1,
     (maxQ (a, b) ((mkF ((pr.getD i (0, 0)).1 * ((ll.getD i []).getD j (0, 0)).1) ((pr.getD i (0, 0)).2 * ((ll.getD i []).getD j (0, 0)).2)).1, (mkF ((pr.getD i (0, 0)).1 * ((ll.getD i []).getD j (0, 0)).1) ((pr.getD i (0, 0)).2 * ((ll.getD i []).getD j (0, 0)).2)).2.1)).2, true) else (0, 0, false)
section
variable {ll : List (List QQ)} {pr : List QQ} {j i : Nat} {a b x y u v q1 q2 : Int}
theorem bgIn_no (hx : (x, y) = pr.getD i (0, 0)) (hu : (u, v) = (ll.getD i []).getD j (0, 0)) (e : mkF (x * u) (y * v) = (q1, q2, false)) : bgIn ll pr j i a b = (0, 0, false) := by unfold bgIn; rw [← hx, ← hu]; simp [e]
theorem bgIn_yes (hx : (x, y) = pr.getD i (0, 0)) (hu : (u, v) = (ll.getD i []).getD j (0, 0)) (e : mkF (x * u) (y * v) = (q1, q2, true)) : bgIn ll pr j i a b = ((maxQ (a, b) (q1, q2)).1, (maxQ (a, b) (q1, q2)).2, true) := by unfold bgIn; rw [← hx, ← hu]; simp [e]
end
theorem bgIn_fine {ll : List (List QQ)} {pr : List QQ} {j i : Nat} {a b : Int} (h : fracB a b = true) : Fine (bgIn ll pr j i a b) := by
  unfold bgIn; split
  · rename_i h1; exact Fine.yes (maxQ_frac h (mkF_ok h1))
  · exact Fine.no
def bgMax (ll : List (List QQ)) (pr : List QQ) (n j : Nat) : Int × Int × Bool := accQ (bgIn ll pr j) 0 1 n
theorem bgMax_fine (ll : List (List QQ)) (pr : List QQ) (n j : Nat) : Fine (bgMax ll pr n j) := accQ_fine fracB_01 (fun _ _ _ h => bgIn_fine h) _
/-- The greatest product of output j, added. -/
def bgOut (ll : List (List QQ)) (pr : List QQ) (n : Nat) (j : Nat) (a b : Int) : Int × Int × Bool :=
  if (bgMax ll pr n j).2.2 = true then mkF (a * (bgMax ll pr n j).2.1 + (bgMax ll pr n j).1 * b) (b * (bgMax ll pr n j).2.1) else (0, 0, false)
theorem bgOut_no {ll : List (List QQ)} {pr : List QQ} {n j : Nat} {a b : Int} (h : bgMax ll pr n j = (0, 0, false)) : bgOut ll pr n j a b = (0, 0, false) := by unfold bgOut; rw [h]; simp
theorem bgOut_yes {ll : List (List QQ)} {pr : List QQ} {n j : Nat} {a b x y : Int} (h : bgMax ll pr n j = (x, y, true)) : bgOut ll pr n j a b = mkF (a * y + x * b) (b * y) := by unfold bgOut; rw [h]; simp
theorem bgOut_fine (ll : List (List QQ)) (pr : List QQ) (n j : Nat) (a b : Int) : Fine (bgOut ll pr n j a b) := by unfold bgOut; exact Fine.ite (Fine.mk _ _) Fine.no
def bgB (ll : List (List QQ)) (pr : List QQ) : Bool := mechB ll && decide (pr.length = ll.length) && distB pr
def bgQ (ll : List (List QQ)) (pr : List QQ) : Int × Int × Bool := if bgB ll pr = true then accQ (bgOut ll pr ll.length) 0 1 (ll.getD 0 []).length else (0, 0, false)
theorem bgQ_no {ll : List (List QQ)} {pr : List QQ} (h : bgB ll pr = false) : bgQ ll pr = (0, 0, false) := if_neg (by rw [h]; simp)
theorem bgQ_yes {ll : List (List QQ)} {pr : List QQ} (h : bgB ll pr = true) : bgQ ll pr = accQ (bgOut ll pr ll.length) 0 1 (ll.getD 0 []).length := if_pos h

set_option maxRecDepth 100000 in
set_option maxHeartbeats 6400000 in
theorem specBestGuess_any {A : Option Addr} {lo hi n c : Nat} {ll : List (List QQ)} {w : World} (h : FRows w lo hi A n ll) {A' : Option Addr} {lo' hi' n' c' : Nat} {pr : List QQ} (h' : Fracs w lo' hi' A' n' pr) :
    Calls Try.prog 25 #[.agg #[.slice A n c], .slice A' n' c'] w fun e w' => e = .returned (.tuple #[.agg #[.int .i64 (bgQ ll pr).1, .int .i64 (bgQ ll pr).2.1], .bool (bgQ ll pr).2.2]) ∧ Keeps w w' := by
  have hn := h.le
  have hl := h.len
  have hn' := h'.le
  have hl' := Fracs.len h'
  go_enter Try.func25, Try.ntmps25
  have kw := keeps_refl w
  replace kw := Keeps.trans kw (keeps_alloc w (.cells #[.slice A n c] 25))
  have b2 : B1 (w.alloc (.cells #[.slice A n c] 25)) w.heap.size (.slice A n c) := B1.new' (by simp)
  replace b2 := b2.keeps (keeps_alloc (w.alloc (.cells #[.slice A n c] 25)) (.cells #[.int .i64 0, .int .i64 0] 31))
  replace kw := Keeps.trans kw (keeps_alloc (w.alloc (.cells #[.slice A n c] 25)) (.cells #[.int .i64 0, .int .i64 0] 31))
  have b4 : Bx ((w.alloc (.cells #[.slice A n c] 25)).alloc (.cells #[.int .i64 0, .int .i64 0] 31)) (w.heap.size + 1) 0 0 := Bx.new' (by simp)
  obtain ⟨ca1, fa1⟩ := id b2
  go_wp2_with fail
  clear ca1 fa1
  obtain ⟨pH1, H1⟩ : ∃ pB, Hid (mechB ll = pB) := ⟨_, rfl⟩
  refine (mGood_any (h.keeps kw)).mono ?_
  rintro e w2 ⟨rfl, k2⟩
  rw [H1.out]
  replace b2 := b2.keeps k2
  replace b4 := b4.keeps k2
  replace kw := Keeps.trans kw k2
  have lt3 := b4.lt
  have sz4 := kw.size
  clear k2
  cases pH1
  · have HF := hid (bgQ_no (ll := ll) (pr := pr) (by rw [bgB, H1.out]; rfl))
    obtain ⟨ca5, fa5⟩ := id b2
    obtain ⟨ca6, cb6, fa6, fb6⟩ := id b4
    go_wp2_with fail
    clear ca5 fa5 ca6 cb6 fa6 fb6
    obtain ⟨ca0, cb0, fa0, fb0⟩ := id b4
    refine bodyPost_ret (v := .tuple #[.agg #[.int .i64 0, .int .i64 0], .bool false]) (by simp [results, Try.results25, go_sem, ca0, cb0]) rfl ⟨ret_fb (by rw [HF.out]) (by rw [HF.out]) (by rw [HF.out]), ?_⟩
    exact below_set2 kw (p := (w.heap.size + 1)) (by omega) _ _
  · skip
    by_cases hnn : n' = n
    rotate_left
    · have t1 : ((n' : Int) != (n : Int)) = true := by rw [bne_iff_ne]; omega
      have HF := hid (bgQ_no (ll := ll) (pr := pr) (by rw [bgB, decide_eq_false (show ¬ pr.length = ll.length by omega), Bool.and_false]; rfl))
      obtain ⟨ca5, fa5⟩ := id b2
      obtain ⟨ca6, cb6, fa6, fb6⟩ := id b4
      go_wp2_with fail
      clear ca5 fa5 ca6 cb6 fa6 fb6
      obtain ⟨ca0, cb0, fa0, fb0⟩ := id b4
      refine bodyPost_ret (v := .tuple #[.agg #[.int .i64 0, .int .i64 0], .bool false]) (by simp [results, Try.results25, go_sem, ca0, cb0]) rfl ⟨ret_fb (by rw [HF.out]) (by rw [HF.out]) (by rw [HF.out]), ?_⟩
      exact below_set2 kw (p := (w.heap.size + 1)) (by omega) _ _
    obtain rfl : n' = n := hnn
    have t1 : ((n' : Int) != (n' : Int)) = false := by simp
    obtain ⟨ca5, fa5⟩ := id b2
    go_wp2_with fail
    clear ca5 fa5
    obtain ⟨pH3, H3⟩ : ∃ pB, Hid (distB pr = pB) := ⟨_, rfl⟩
    refine (mRow_any (h'.keeps kw)).mono ?_
    rintro e w6 ⟨rfl, k6⟩
    rw [H3.out]
    replace b2 := b2.keeps k6
    replace b4 := b4.keeps k6
    replace kw := Keeps.trans kw k6
    have lt7 := b4.lt
    have sz8 := kw.size
    clear k6
    cases pH3
    · have HF := hid (bgQ_no (ll := ll) (pr := pr) (by rw [bgB, H3.out, Bool.and_false]))
      obtain ⟨ca9, fa9⟩ := id b2
      obtain ⟨ca10, cb10, fa10, fb10⟩ := id b4
      go_wp2_with fail
      clear ca9 fa9 ca10 cb10 fa10 fb10
      obtain ⟨ca0, cb0, fa0, fb0⟩ := id b4
      refine bodyPost_ret (v := .tuple #[.agg #[.int .i64 0, .int .i64 0], .bool false]) (by simp [results, Try.results25, go_sem, ca0, cb0]) rfl ⟨ret_fb (by rw [HF.out]) (by rw [HF.out]) (by rw [HF.out]), ?_⟩
      exact below_set2 kw (p := (w.heap.size + 1)) (by omega) _ _
    · skip
      have HB0 := hid (show bgB ll pr = true by rw [bgB, H1.out, H3.out, decide_eq_true (show pr.length = ll.length by omega)]; rfl)
      have hln := mechB_len H1.out
      obtain ⟨b, off, A1, m, c1, rfl, hlb, hub, hc0, hr0⟩ := h.head (by omega)
      have hm0 := Fracs.len hr0
      have hmle := hr0.le
      have i0 : (0 : Int) < (n' : Int) := by omega
      have HV := hid (bgQ_yes HB0.out)
      rw [hl, hm0] at HV
      go_wp2_with fail
      refine (fInt_any).mono ?_
      rintro e w9 ⟨rfl, k9⟩
      replace b2 := b2.keeps k9
      replace b4 := b4.keeps k9
      replace kw := Keeps.trans kw k9
      have lt10 := b4.lt
      have sz11 := kw.size
      clear k9
      obtain ⟨ca12, fa12⟩ := id b2
      replace b2 := b2.keeps (keeps_alloc w9 (.cells #[.int .i64 0, .int .i64 1] 31))
      replace b4 := b4.keeps (keeps_alloc w9 (.cells #[.int .i64 0, .int .i64 1] 31))
      replace kw := Keeps.trans kw (keeps_alloc w9 (.cells #[.int .i64 0, .int .i64 1] 31))
      have b6 : Bx (w9.alloc (.cells #[.int .i64 0, .int .i64 1] 31)) w9.heap.size 0 1 := Bx.new' (by simp)
      obtain ⟨ca13, fa13⟩ := id b2
      have ci := cell_keeps hc0 kw
      go_wp2_with fail
      clear ca12 fa12 ca13 fa13
      clear ci
      have HM := hid hm0
      clear hm0
      go_loopw [38] (fun si wr => ∃ (j : Nat) (s1 : Int) (s2 : Int), j ≤ m ∧ si = .int .i64 j ∧ Hid (accQ (bgOut ll pr n') 0 1 j = (s1, s2, true)) ∧ Hid (fracB s1 s2 = true) ∧ B1 wr w.heap.size (.slice (some ⟨b, off, none⟩) n' c) ∧ Bx wr (w.heap.size + 1) 0 0 ∧ Bx wr w9.heap.size s1 s2 ∧ Keeps w wr) (fun si _ => m - (intOf si).toNat)
      case atStart => exact ⟨0, 0, 1, Nat.zero_le _, rfl, rfl, fracB_01, b2, b4, b6, kw⟩
      clear kw b2 b4 b6 
      case round =>
        obtain ⟨j, s1, s2, hj, rfl, HA, HB, b2, b4, b6, kw⟩ := hrel
        obtain ⟨wo, rfl⟩ : ∃ u : World, u = wr := ⟨_, rfl⟩
        have lt14 := b6.lt
        have sz15 := kw.size
        by_cases hlt : j < m
        · have hj1 : (j : Int) < (m : Int) := by omega
          go_wp2_with fail
          refine (fInt_any).mono ?_
          rintro e w16 ⟨rfl, k16⟩
          replace b2 := b2.keeps k16
          replace b4 := b4.keeps k16
          replace b6 := b6.keeps k16
          replace kw := Keeps.trans kw k16
          have lt17 := b6.lt
          have sz18 := kw.size
          clear k16
          replace b2 := b2.keeps (keeps_alloc w16 (.cells #[.int .i64 0, .int .i64 1] 31))
          replace b4 := b4.keeps (keeps_alloc w16 (.cells #[.int .i64 0, .int .i64 1] 31))
          replace b6 := b6.keeps (keeps_alloc w16 (.cells #[.int .i64 0, .int .i64 1] 31))
          replace kw := Keeps.trans kw (keeps_alloc w16 (.cells #[.int .i64 0, .int .i64 1] 31))
          have b8 : Bx (w16.alloc (.cells #[.int .i64 0, .int .i64 1] 31)) w16.heap.size 0 1 := Bx.new' (by simp)
          go_wp2_with fail
          go_loopw [44] (fun si wv => ∃ (i : Nat) (t1' : Int) (t2' : Int), i ≤ n' ∧ si = .int .i64 i ∧ Hid (accQ (bgIn ll pr j) 0 1 i = (t1', t2', true)) ∧ Hid (fracB t1' t2' = true) ∧ B1 wv w.heap.size (.slice (some ⟨b, off, none⟩) n' c) ∧ Bx wv (w.heap.size + 1) 0 0 ∧ Bx wv w9.heap.size s1 s2 ∧ Bx wv w16.heap.size t1' t2' ∧ Keeps w wv) (fun si _ => n' - (intOf si).toNat)
          case atStart => exact ⟨0, 0, 1, Nat.zero_le _, rfl, rfl, fracB_01, b2, b4, b6, b8, kw⟩
          clear kw b2 b4 b6 b8 
          case round =>
            obtain ⟨i, t1', t2', hi, rfl, HA2, HB2, b2, b4, b6, b8, kw⟩ := hrel
            have lt19 := b8.lt
            have sz20 := kw.size
            by_cases hlq : i < n'
            · have hi1 : (i : Int) < (n' : Int) := by omega
              obtain ⟨b', off', A2, m2, c2, e2, _, _, hck, hrk⟩ := (h.keeps kw).at_ hlq
              obtain ⟨rfl, rfl⟩ : b = b' ∧ off = off' := by simpa using e2
              clear e2
              have hm2 := (Fracs.len hrk).symm.trans ((mechB_row H1.out (i := i) (by omega)).1.trans HM.out)
              obtain rfl : m = m2 := hm2.symm
              obtain ⟨bp, op, x, y, rfl, _, hbp, hcx, hdx, hx⟩ := Fracs.at_ (h'.keeps kw) hlq
              have fx := hid (pos_at (distB_pos H3.out) (by omega) hx.out).1
              replace b2 := b2.keeps (keeps_alloc wr (.cells #[.int .i64 x, .int .i64 y] 31))
              replace b4 := b4.keeps (keeps_alloc wr (.cells #[.int .i64 x, .int .i64 y] 31))
              replace b6 := b6.keeps (keeps_alloc wr (.cells #[.int .i64 x, .int .i64 y] 31))
              replace b8 := b8.keeps (keeps_alloc wr (.cells #[.int .i64 x, .int .i64 y] 31))
              replace kw := Keeps.trans kw (keeps_alloc wr (.cells #[.int .i64 x, .int .i64 y] 31))
              have b10 : Bx (wr.alloc (.cells #[.int .i64 x, .int .i64 y] 31)) wr.heap.size x y := Bx.new' (by simp)
              go_wp2_with fail
              clear hcx hdx
              replace hck := cell_keeps hck (keeps_alloc wr (.cells #[.int .i64 x, .int .i64 y] 31))
              replace hrk := Sl.keeps hrk (keeps_alloc wr (.cells #[.int .i64 x, .int .i64 y] 31))
              obtain ⟨bu, ou, u, v, rfl, _, hbu, hcu, hdu, hu⟩ := Fracs.at_ hrk hlt
              have fu := hid (mechB_at H1.out (i := i) (k := j) (by omega) (by have := Fracs.len hrk; omega) hu.out).1
              obtain ⟨q1, q2, q3, H5⟩ : ∃ q1 q2 q3, Hid (mkF (x * u) (y * v) = (q1, q2, q3)) := ⟨_, _, _, rfl⟩
              obtain ⟨ca22, cb22, -, -⟩ := id b10
              obtain ⟨ca23, -⟩ := id b2
              have kS := hid (show ∀ w', Keeps (wr.alloc (.cells #[.int .i64 x, .int .i64 y] 31)) w' → (w'.cell? ⟨wr.heap.size, 0, none⟩ = some (.int .i64 x) ∧ w'.cell? ⟨wr.heap.size, 1, none⟩ = some (.int .i64 y) ∧ w'.cell? ⟨w.heap.size, 0, none⟩ = some (.slice (some ⟨b, off, none⟩) n' c) ∧ w'.cell? ⟨b, off + i, none⟩ = some (.slice (some ⟨bu, ou, none⟩) m c2) ∧ w'.cell? ⟨bu, ou + j * 2, none⟩ = some (.int .i64 u) ∧ w'.cell? ⟨bu, ou + j * 2 + 1, none⟩ = some (.int .i64 v)) from fun w' k => ⟨cell_keeps ca22 k, cell_keeps cb22 k, cell_keeps ca23 k, cell_keeps hck k, cell_keeps hcu k, cell_keeps hdu k⟩)
              go_cut [11, 12] (fun sd so wq => ∃ wy g, wy = wq ∧ sd = .pointer (some ⟨g, 0, none⟩) ∧ so = .bool q3 ∧ Bx wy g q1 q2 ∧ (wr.alloc (.cells #[.int .i64 x, .int .i64 y] 31)).heap.size ≤ g ∧ Keeps (wr.alloc (.cells #[.int .i64 x, .int .i64 y] 31)) wy)
              case first =>
                have eA := hid (show (wr.alloc (.cells #[.int .i64 x, .int .i64 y] 31)).heap.size = wr.heap.size + 1 by simp)
                go_region_held3 (fun w' => w'.cell? ⟨wr.heap.size, 0, none⟩ = some (.int .i64 x) ∧ w'.cell? ⟨wr.heap.size, 1, none⟩ = some (.int .i64 y) ∧ w'.cell? ⟨w.heap.size, 0, none⟩ = some (.slice (some ⟨b, off, none⟩) n' c) ∧ w'.cell? ⟨b, off + i, none⟩ = some (.slice (some ⟨bu, ou, none⟩) m c2) ∧ w'.cell? ⟨bu, ou + j * 2, none⟩ = some (.int .i64 u) ∧ w'.cell? ⟨bu, ou + j * 2 + 1, none⟩ = some (.int .i64 v)) (first | with_reducible exact kS.out _ (keeps_d0 (wr.alloc (.cells #[.int .i64 x, .int .i64 y] 31))) | with_reducible exact kS.out _ (keeps_ad0 (wr.alloc (.cells #[.int .i64 x, .int .i64 y] 31)) _) | with_reducible exact kS.out _ (kW) | with_reducible exact kS.out _ (kW.trans (keeps_alloc _ _)) | with_reducible exact kS.out _ (below_set2 kW lz _ _) | go_keep)
                  ((first | (go_at_call 92; refine (fMul_any (fracB_qb fx.out) (fracB_qb fu.out)).mono ?_; rintro e wB ⟨rfl, kB⟩; rw [H5.out]; (first | (have kZ : Bx wB (wr.heap.size + 1) 0 0 := Bx.kZ1 kB eA.out; have lz : (wr.alloc (.cells #[.int .i64 x, .int .i64 y] 31)).heap.size ≤ (wr.heap.size + 1) := (Nat.le_of_eq eA.out); obtain ⟨z1, z2, z3, z4⟩ := id kZ) | (have kZ : Bx wB (wr.heap.size + 1) 0 0 := Bx.kZ2 kB eA.out; have lz : (wr.alloc (.cells #[.int .i64 x, .int .i64 y] 31)).heap.size ≤ (wr.heap.size + 1) := (Nat.le_of_eq eA.out); obtain ⟨z1, z2, z3, z4⟩ := id kZ) | (have kZ := kZ.keeps kB; obtain ⟨z1, z2, z3, z4⟩ := id kZ) | (have kZ : Bx wB _ 0 0 := Bx.kZ2 kB rfl; have lz := kW.size; obtain ⟨z1, z2, z3, z4⟩ := id kZ) | skip); (first | (have kW : Keeps (wr.alloc (.cells #[.int .i64 x, .int .i64 y] 31)) wB := kW.trans kB) | (have kW : Keeps (wr.alloc (.cells #[.int .i64 x, .int .i64 y] 31)) wB := (kW.trans (keeps_alloc _ _)).trans kB) | (have kW : Keeps (wr.alloc (.cells #[.int .i64 x, .int .i64 y] 31)) wB := keeps_d kB) | (have kW : Keeps (wr.alloc (.cells #[.int .i64 x, .int .i64 y] 31)) wB := keeps_ad kB)); clear kB)))
                all_goals (go_wp2_with fail; go_meet; first
                  | exact ⟨_, _, rfl, rfl, rfl, Bx.new _ _ _ _, kW.size, kW.trans (keeps_alloc _ _)⟩
                  | exact ⟨_, _, rfl, rfl, rfl, Bx.set (x := 0) (y := 0) kZ _ _, lz, below_set2 kW lz _ _⟩)
              case rest =>
                clear kS
                clear ca22 cb22 ca23
                obtain ⟨wx21, g21, rfl, rfl, rfl, b11, lg21, kx21⟩ := hcut
                simp at lg21
                replace b2 := b2.keeps kx21
                replace b4 := b4.keeps kx21
                replace b6 := b6.keeps kx21
                replace b8 := b8.keeps kx21
                replace b10 := b10.keeps kx21
                replace kw := Keeps.trans kw kx21
                clear kx21
                have lt25 := b11.lt
                have sz26 := kw.size
                clear hcu hdu hck
                cases q3
                · have HE := hid (accQ_fail HA.out (show bgOut ll pr n' j s1 s2 = (0, 0, false) from bgOut_no (accQ_fail HA2.out (bgIn_no hx.out hu.out H5.out) hlq)) hlt)
                  have HF := hid (HV.out.trans HE.out)
                  obtain ⟨ca27, cb27, fa27, fb27⟩ := id b4
                  go_wp2_with fail
                  clear ca27 cb27 fa27 fb27
                  obtain ⟨ca0, cb0, fa0, fb0⟩ := id b4
                  refine bodyPost_ret (v := .tuple #[.agg #[.int .i64 0, .int .i64 0], .bool false]) (by simp [results, Try.results25, go_sem, ca0, cb0]) rfl ⟨ret_fb (by rw [HF.out]) (by rw [HF.out]) (by rw [HF.out]), ?_⟩
                  exact below_set2 kw (p := (w.heap.size + 1)) (by omega) _ _
                · have fq := hid ((Fine.mk _ _).ok H5.out)
                  have HN := hid (accQ_next HA2.out (bgIn_yes (a := t1') (b := t2') hx.out hu.out H5.out))
                  have HMx := hid (maxQ_frac HB2.out fq.out)
                  obtain ⟨ca27, cb27, fa27, fb27⟩ := id b8
                  obtain ⟨ca28, cb28, fa28, fb28⟩ := id b11
                  go_wp2_with fail
                  clear ca27 cb27 fa27 fb27 ca28 cb28 fa28 fb28
                  obtain ⟨y1, y2, HY⟩ : ∃ y1 y2, Hid (maxQ (t1', t2') (q1, q2) = (y1, y2)) := ⟨_, _, rfl⟩
                  rw [HY.out] at HN HMx
                  refine (fGreater_any (fracB_qb HB2.out) (fracB_qb fq.out)).mono ?_
                  rintro e w29 ⟨rfl, k29⟩
                  rw [HY.out]
                  replace b2 := b2.keeps k29
                  replace b4 := b4.keeps k29
                  replace b6 := b6.keeps k29
                  replace b8 := b8.keeps k29
                  replace b10 := b10.keeps k29
                  replace b11 := b11.keeps k29
                  replace kw := Keeps.trans kw k29
                  have lt30 := b11.lt
                  have sz31 := kw.size
                  clear k29
                  obtain ⟨ca32, cb32, fa32, fb32⟩ := id b8
                  replace b2 := b2.set2 (p := w16.heap.size) (by omega) (.int .i64 y1) (.int .i64 y2)
                  replace b4 := b4.set2 (p := w16.heap.size) (by omega) (.int .i64 y1) (.int .i64 y2)
                  replace b6 := b6.set2 (p := w16.heap.size) (by omega) (.int .i64 y1) (.int .i64 y2)
                  replace b10 := b10.set2 (p := w16.heap.size) (by omega) (.int .i64 y1) (.int .i64 y2)
                  replace b11 := b11.set2 (p := w16.heap.size) (by omega) (.int .i64 y1) (.int .i64 y2)
                  replace b8 := b8.set y1 y2
                  replace kw := below_set2 kw (p := w16.heap.size) (by omega) (.int .i64 y1) (.int .i64 y2)
                  go_wp2_with fail
                  clear ca32 cb32 fa32 fb32
                  go_roundw
                  case rel => exact ⟨i + 1, y1, y2, (by omega), (by go_num), HN.out, HMx.out, b2, b4, b6, b8, kw⟩
                  case measure => simp [intOf]; omega
            · obtain rfl : i = n' := by omega
              have HX := hid (show bgMax ll pr i j = (t1', t2', true) from HA2.out)
              obtain ⟨r1, r2, r3, H6⟩ : ∃ r1 r2 r3, Hid (mkF (s1 * t2' + t1' * s2) (s2 * t2') = (r1, r2, r3)) := ⟨_, _, _, rfl⟩
              have HS := hid ((bgOut_yes (a := s1) (b := s2) HX.out).trans H6.out)
              obtain ⟨ca21, cb21, fa21, fb21⟩ := id b6
              obtain ⟨ca22, cb22, fa22, fb22⟩ := id b8
              go_wp2_with fail
              clear ca21 cb21 fa21 fb21 ca22 cb22 fa22 fb22
              refine (fAdd_any (fracB_qb HB.out) (fracB_qb HB2.out)).mono ?_
              rintro e w23 ⟨rfl, k23⟩
              rw [H6.out]
              replace b2 := b2.keeps k23
              replace b4 := b4.keeps k23
              replace b6 := b6.keeps k23
              replace b8 := b8.keeps k23
              replace kw := Keeps.trans kw k23
              have lt24 := b8.lt
              have sz25 := kw.size
              clear k23
              cases r3
              · have HE := hid (accQ_fail HA.out (show bgOut ll pr i j s1 s2 = (0, 0, false) from (bgOut_fine _ _ _ _ _ _).bad HS.out) hlt)
                have HF := hid (HV.out.trans HE.out)
                replace b2 := b2.keeps (keeps_alloc w23 (.cells #[.int .i64 r1, .int .i64 r2] 31))
                replace b4 := b4.keeps (keeps_alloc w23 (.cells #[.int .i64 r1, .int .i64 r2] 31))
                replace b6 := b6.keeps (keeps_alloc w23 (.cells #[.int .i64 r1, .int .i64 r2] 31))
                replace b8 := b8.keeps (keeps_alloc w23 (.cells #[.int .i64 r1, .int .i64 r2] 31))
                replace kw := Keeps.trans kw (keeps_alloc w23 (.cells #[.int .i64 r1, .int .i64 r2] 31))
                have b13 : Bx (w23.alloc (.cells #[.int .i64 r1, .int .i64 r2] 31)) w23.heap.size r1 r2 := Bx.new' (by simp)
                obtain ⟨ca26, cb26, fa26, fb26⟩ := id b4
                go_wp2_with fail
                clear ca26 cb26 fa26 fb26
                obtain ⟨ca0, cb0, fa0, fb0⟩ := id b4
                refine bodyPost_ret (v := .tuple #[.agg #[.int .i64 0, .int .i64 0], .bool false]) (by simp [results, Try.results25, go_sem, ca0, cb0]) rfl ⟨ret_fb (by rw [HF.out]) (by rw [HF.out]) (by rw [HF.out]), ?_⟩
                exact below_set2 kw (p := (w.heap.size + 1)) (by omega) _ _
              · have fr := hid ((bgOut_fine _ _ _ _ _ _).ok HS.out)
                obtain ⟨ca26, cb26, fa26, fb26⟩ := id b6
                replace b2 := b2.keeps (keeps_alloc w23 (.cells #[.int .i64 r1, .int .i64 r2] 31))
                replace b4 := b4.keeps (keeps_alloc w23 (.cells #[.int .i64 r1, .int .i64 r2] 31))
                replace b6 := b6.keeps (keeps_alloc w23 (.cells #[.int .i64 r1, .int .i64 r2] 31))
                replace b8 := b8.keeps (keeps_alloc w23 (.cells #[.int .i64 r1, .int .i64 r2] 31))
                replace kw := Keeps.trans kw (keeps_alloc w23 (.cells #[.int .i64 r1, .int .i64 r2] 31))
                have b13 : Bx (w23.alloc (.cells #[.int .i64 r1, .int .i64 r2] 31)) w23.heap.size r1 r2 := Bx.new' (by simp)
                obtain ⟨ca27, cb27, fa27, fb27⟩ := id b6
                obtain ⟨ca28, cb28, fa28, fb28⟩ := id b13
                replace b2 := b2.set2 (p := w9.heap.size) (by omega) (.int .i64 r1) (.int .i64 r2)
                replace b4 := b4.set2 (p := w9.heap.size) (by omega) (.int .i64 r1) (.int .i64 r2)
                replace b8 := b8.set2 (p := w9.heap.size) (by omega) (.int .i64 r1) (.int .i64 r2)
                replace b13 := b13.set2 (p := w9.heap.size) (by omega) (.int .i64 r1) (.int .i64 r2)
                replace b6 := b6.set r1 r2
                replace kw := below_set2 kw (p := w9.heap.size) (by omega) (.int .i64 r1) (.int .i64 r2)
                go_wp2_with fail
                clear ca26 cb26 fa26 fb26 ca27 cb27 fa27 fb27 ca28 cb28 fa28 fb28
                go_roundw
                case rel => exact ⟨j + 1, r1, r2, (by omega), (by go_num), accQ_next HA.out HS.out, fr.out, b2, b4, b6, kw⟩
                case measure => simp [intOf]; omega
        · obtain rfl : j = m := by omega
          have HF := hid (HV.out.trans HA.out)
          obtain ⟨ca16, cb16, fa16, fb16⟩ := id b4
          obtain ⟨ca17, cb17, fa17, fb17⟩ := id b6
          go_wp2_with fail
          clear ca16 cb16 fa16 fb16 ca17 cb17 fa17 fb17
          obtain ⟨ca0, cb0, fa0, fb0⟩ := id b4
          refine bodyPost_ret (v := .tuple #[.agg #[.int .i64 s1, .int .i64 s2], .bool true]) (by simp [results, Try.results25, go_sem, ca0, cb0]) rfl ⟨ret_fb (by rw [HF.out]) (by rw [HF.out]) (by rw [HF.out]), ?_⟩
          exact below_set2 kw (p := (w.heap.size + 1)) (by omega) _ _
set_option maxRecDepth 100000 in
set_option maxHeartbeats 6400000 in
theorem implBestGuess_any {A : Option Addr} {lo hi n c : Nat} {ll : List (List QQ)} {w : World} (h : FRows w lo hi A n ll) {A' : Option Addr} {lo' hi' n' c' : Nat} {pr : List QQ} (h' : Fracs w lo' hi' A' n' pr) :
    Calls Try.prog 24 #[.agg #[.slice A n c], .slice A' n' c'] w fun e w' => e = .returned (.tuple #[.agg #[.int .i64 (bgQ ll pr).1, .int .i64 (bgQ ll pr).2.1], .bool (bgQ ll pr).2.2]) ∧ Keeps w w' := by
  have hn := h.le
  have hl := h.len
  have hn' := h'.le
  have hl' := Fracs.len h'
  go_enter Try.func24, Try.ntmps24
  have kw := keeps_refl w
  replace kw := Keeps.trans kw (keeps_alloc w (.cells #[.slice A n c] 25))
  have b2 : B1 (w.alloc (.cells #[.slice A n c] 25)) w.heap.size (.slice A n c) := B1.new' (by simp)
  replace b2 := b2.keeps (keeps_alloc (w.alloc (.cells #[.slice A n c] 25)) (.cells #[.int .i64 0, .int .i64 0] 31))
  replace kw := Keeps.trans kw (keeps_alloc (w.alloc (.cells #[.slice A n c] 25)) (.cells #[.int .i64 0, .int .i64 0] 31))
  have b4 : Bx ((w.alloc (.cells #[.slice A n c] 25)).alloc (.cells #[.int .i64 0, .int .i64 0] 31)) (w.heap.size + 1) 0 0 := Bx.new' (by simp)
  obtain ⟨ca1, fa1⟩ := id b2
  go_wp2_with fail
  clear ca1 fa1
  obtain ⟨pH1, H1⟩ : ∃ pB, Hid (mechB ll = pB) := ⟨_, rfl⟩
  refine (IsMechanism_any (h.keeps kw)).mono ?_
  rintro e w2 ⟨rfl, k2⟩
  rw [H1.out]
  replace b2 := b2.keeps k2
  replace b4 := b4.keeps k2
  replace kw := Keeps.trans kw k2
  have lt3 := b4.lt
  have sz4 := kw.size
  clear k2
  cases pH1
  · have HF := hid (bgQ_no (ll := ll) (pr := pr) (by rw [bgB, H1.out]; rfl))
    obtain ⟨ca5, fa5⟩ := id b2
    obtain ⟨ca6, cb6, fa6, fb6⟩ := id b4
    go_wp2_with fail
    clear ca5 fa5 ca6 cb6 fa6 fb6
    obtain ⟨ca0, cb0, fa0, fb0⟩ := id b4
    refine bodyPost_ret (v := .tuple #[.agg #[.int .i64 0, .int .i64 0], .bool false]) (by simp [results, Try.results24, go_sem, ca0, cb0]) rfl ⟨ret_fb (by rw [HF.out]) (by rw [HF.out]) (by rw [HF.out]), ?_⟩
    exact below_set2 kw (p := (w.heap.size + 1)) (by omega) _ _
  · skip
    by_cases hnn : n' = n
    rotate_left
    · have t1 : ((n' : Int) != (n : Int)) = true := by rw [bne_iff_ne]; omega
      have HF := hid (bgQ_no (ll := ll) (pr := pr) (by rw [bgB, decide_eq_false (show ¬ pr.length = ll.length by omega), Bool.and_false]; rfl))
      obtain ⟨ca5, fa5⟩ := id b2
      obtain ⟨ca6, cb6, fa6, fb6⟩ := id b4
      go_wp2_with fail
      clear ca5 fa5 ca6 cb6 fa6 fb6
      obtain ⟨ca0, cb0, fa0, fb0⟩ := id b4
      refine bodyPost_ret (v := .tuple #[.agg #[.int .i64 0, .int .i64 0], .bool false]) (by simp [results, Try.results24, go_sem, ca0, cb0]) rfl ⟨ret_fb (by rw [HF.out]) (by rw [HF.out]) (by rw [HF.out]), ?_⟩
      exact below_set2 kw (p := (w.heap.size + 1)) (by omega) _ _
    obtain rfl : n' = n := hnn
    have t1 : ((n' : Int) != (n' : Int)) = false := by simp
    obtain ⟨ca5, fa5⟩ := id b2
    go_wp2_with fail
    clear ca5 fa5
    obtain ⟨pH3, H3⟩ : ∃ pB, Hid (distB pr = pB) := ⟨_, rfl⟩
    refine (isDistribution_any (h'.keeps kw)).mono ?_
    rintro e w6 ⟨rfl, k6⟩
    rw [H3.out]
    replace b2 := b2.keeps k6
    replace b4 := b4.keeps k6
    replace kw := Keeps.trans kw k6
    have lt7 := b4.lt
    have sz8 := kw.size
    clear k6
    cases pH3
    · have HF := hid (bgQ_no (ll := ll) (pr := pr) (by rw [bgB, H3.out, Bool.and_false]))
      obtain ⟨ca9, fa9⟩ := id b2
      obtain ⟨ca10, cb10, fa10, fb10⟩ := id b4
      go_wp2_with fail
      clear ca9 fa9 ca10 cb10 fa10 fb10
      obtain ⟨ca0, cb0, fa0, fb0⟩ := id b4
      refine bodyPost_ret (v := .tuple #[.agg #[.int .i64 0, .int .i64 0], .bool false]) (by simp [results, Try.results24, go_sem, ca0, cb0]) rfl ⟨ret_fb (by rw [HF.out]) (by rw [HF.out]) (by rw [HF.out]), ?_⟩
      exact below_set2 kw (p := (w.heap.size + 1)) (by omega) _ _
    · skip
      have HB0 := hid (show bgB ll pr = true by rw [bgB, H1.out, H3.out, decide_eq_true (show pr.length = ll.length by omega)]; rfl)
      have hln := mechB_len H1.out
      obtain ⟨b, off, A1, m, c1, rfl, hlb, hub, hc0, hr0⟩ := h.head (by omega)
      have hm0 := Fracs.len hr0
      have hmle := hr0.le
      have i0 : (0 : Int) < (n' : Int) := by omega
      have HV := hid (bgQ_yes HB0.out)
      rw [hl, hm0] at HV
      obtain ⟨ca9, fa9⟩ := id b2
      replace b2 := b2.keeps (keeps_alloc w6 (.cells #[.int .i64 0, .int .i64 1] 31))
      replace b4 := b4.keeps (keeps_alloc w6 (.cells #[.int .i64 0, .int .i64 1] 31))
      replace kw := Keeps.trans kw (keeps_alloc w6 (.cells #[.int .i64 0, .int .i64 1] 31))
      have b6 : Bx (w6.alloc (.cells #[.int .i64 0, .int .i64 1] 31)) w6.heap.size 0 1 := Bx.new' (by simp)
      obtain ⟨ca10, fa10⟩ := id b2
      have ci := cell_keeps hc0 kw
      go_wp2_with fail
      clear ca9 fa9 ca10 fa10
      clear ci
      have HM := hid hm0
      clear hm0
      go_loopw [38] (fun si wr => ∃ (j : Nat) (s1 : Int) (s2 : Int), j ≤ m ∧ si = .int .i64 j ∧ Hid (accQ (bgOut ll pr n') 0 1 j = (s1, s2, true)) ∧ Hid (fracB s1 s2 = true) ∧ B1 wr w.heap.size (.slice (some ⟨b, off, none⟩) n' c) ∧ Bx wr (w.heap.size + 1) 0 0 ∧ Bx wr w6.heap.size s1 s2 ∧ Keeps w wr) (fun si _ => m - (intOf si).toNat)
      case atStart => exact ⟨0, 0, 1, Nat.zero_le _, rfl, rfl, fracB_01, b2, b4, b6, kw⟩
      clear kw b2 b4 b6 
      case round =>
        obtain ⟨j, s1, s2, hj, rfl, HA, HB, b2, b4, b6, kw⟩ := hrel
        obtain ⟨wo, rfl⟩ : ∃ u : World, u = wr := ⟨_, rfl⟩
        have lt11 := b6.lt
        have sz12 := kw.size
        by_cases hlt : j < m
        · have hj1 : (j : Int) < (m : Int) := by omega
          obtain ⟨ca13, fa13⟩ := id b2
          replace b2 := b2.keeps (keeps_alloc wo (.cells #[.int .i64 0, .int .i64 1] 31))
          replace b4 := b4.keeps (keeps_alloc wo (.cells #[.int .i64 0, .int .i64 1] 31))
          replace b6 := b6.keeps (keeps_alloc wo (.cells #[.int .i64 0, .int .i64 1] 31))
          replace kw := Keeps.trans kw (keeps_alloc wo (.cells #[.int .i64 0, .int .i64 1] 31))
          have b8 : Bx (wo.alloc (.cells #[.int .i64 0, .int .i64 1] 31)) wo.heap.size 0 1 := Bx.new' (by simp)
          obtain ⟨ca14, fa14⟩ := id b2
          go_wp2_with fail
          clear ca13 fa13 ca14 fa14
          go_loopw [45] (fun si wv => ∃ (i : Nat) (t1' : Int) (t2' : Int), i ≤ n' ∧ si = .int .i64 i ∧ Hid (accQ (bgIn ll pr j) 0 1 i = (t1', t2', true)) ∧ Hid (fracB t1' t2' = true) ∧ B1 wv w.heap.size (.slice (some ⟨b, off, none⟩) n' c) ∧ Bx wv (w.heap.size + 1) 0 0 ∧ Bx wv w6.heap.size s1 s2 ∧ Bx wv wo.heap.size t1' t2' ∧ Keeps w wv) (fun si _ => n' - (intOf si).toNat)
          case atStart => exact ⟨0, 0, 1, Nat.zero_le _, rfl, rfl, fracB_01, b2, b4, b6, b8, kw⟩
          clear kw b2 b4 b6 b8 
          case round =>
            obtain ⟨i, t1', t2', hi, rfl, HA2, HB2, b2, b4, b6, b8, kw⟩ := hrel
            have lt15 := b8.lt
            have sz16 := kw.size
            by_cases hlq : i < n'
            · have hi1 : (i : Int) < (n' : Int) := by omega
              obtain ⟨b', off', A2, m2, c2, e2, _, _, hck, hrk⟩ := (h.keeps kw).at_ hlq
              obtain ⟨rfl, rfl⟩ : b = b' ∧ off = off' := by simpa using e2
              clear e2
              have hm2 := (Fracs.len hrk).symm.trans ((mechB_row H1.out (i := i) (by omega)).1.trans HM.out)
              obtain rfl : m = m2 := hm2.symm
              obtain ⟨ca17, fa17⟩ := id b2
              go_wp2_with fail
              clear ca17 fa17
              obtain ⟨bp, op, x, y, rfl, _, hbp, hcx, hdx, hx⟩ := Fracs.at_ (h'.keeps kw) hlq
              have fx := hid (pos_at (distB_pos H3.out) (by omega) hx.out).1
              obtain ⟨bu, ou, u, v, rfl, _, hbu, hcu, hdu, hu⟩ := Fracs.at_ hrk hlt
              have fu := hid (mechB_at H1.out (i := i) (k := j) (by omega) (by have := Fracs.len hrk; omega) hu.out).1
              obtain ⟨q1, q2, q3, H5⟩ : ∃ q1 q2 q3, Hid (mkF (x * u) (y * v) = (q1, q2, q3)) := ⟨_, _, _, rfl⟩
              have kS := hid (show ∀ w', Keeps wr w' → (w'.cell? ⟨bp, op + i * 2, none⟩ = some (.int .i64 x) ∧ w'.cell? ⟨bp, op + i * 2 + 1, none⟩ = some (.int .i64 y) ∧ w'.cell? ⟨bu, ou + j * 2, none⟩ = some (.int .i64 u) ∧ w'.cell? ⟨bu, ou + j * 2 + 1, none⟩ = some (.int .i64 v)) from fun w' k => ⟨cell_keeps hcx k, cell_keeps hdx k, cell_keeps hcu k, cell_keeps hdu k⟩)
              go_cut [11, 12] (fun sd so wq => ∃ wy g, wy = wq ∧ sd = .pointer (some ⟨g, 0, none⟩) ∧ so = .bool q3 ∧ Bx wy g q1 q2 ∧ wr.heap.size ≤ g ∧ Keeps wr wy)
              case first =>
                go_region_held3 (fun w' => w'.cell? ⟨bp, op + i * 2, none⟩ = some (.int .i64 x) ∧ w'.cell? ⟨bp, op + i * 2 + 1, none⟩ = some (.int .i64 y) ∧ w'.cell? ⟨bu, ou + j * 2, none⟩ = some (.int .i64 u) ∧ w'.cell? ⟨bu, ou + j * 2 + 1, none⟩ = some (.int .i64 v)) (first | with_reducible exact kS.out _ (keeps_d0 wr) | with_reducible exact kS.out _ (keeps_ad0 wr _) | with_reducible exact kS.out _ (kW) | with_reducible exact kS.out _ (kW.trans (keeps_alloc _ _)) | with_reducible exact kS.out _ (below_set2 kW lz _ _) | go_keep)
                  ((first | (go_at_call 32; refine (MulFrac_any fx.out fu.out).mono ?_; rintro e wB ⟨rfl, kB⟩; rw [H5.out]; (first | (have kZ : Bx wB wr.heap.size 0 0 := Bx.kZ1 kB rfl; have lz : wr.heap.size ≤ wr.heap.size := (Nat.le_refl _); obtain ⟨z1, z2, z3, z4⟩ := id kZ) | (have kZ : Bx wB wr.heap.size 0 0 := Bx.kZ2 kB rfl; have lz : wr.heap.size ≤ wr.heap.size := (Nat.le_refl _); obtain ⟨z1, z2, z3, z4⟩ := id kZ) | (have kZ := kZ.keeps kB; obtain ⟨z1, z2, z3, z4⟩ := id kZ) | (have kZ : Bx wB _ 0 0 := Bx.kZ2 kB rfl; have lz := kW.size; obtain ⟨z1, z2, z3, z4⟩ := id kZ) | skip); (first | (have kW : Keeps wr wB := kW.trans kB) | (have kW : Keeps wr wB := (kW.trans (keeps_alloc _ _)).trans kB) | (have kW : Keeps wr wB := keeps_d kB) | (have kW : Keeps wr wB := keeps_ad kB)); clear kB)))
                all_goals (go_wp2_with fail; go_meet; first
                  | exact ⟨_, _, rfl, rfl, rfl, Bx.new _ _ _ _, kW.size, kW.trans (keeps_alloc _ _)⟩
                  | exact ⟨_, _, rfl, rfl, rfl, Bx.set (x := 0) (y := 0) kZ _ _, lz, below_set2 kW lz _ _⟩)
              case rest =>
                clear kS
                obtain ⟨wx18, g18, rfl, rfl, rfl, b11, lg18, kx18⟩ := hcut
                replace b2 := b2.keeps kx18
                replace b4 := b4.keeps kx18
                replace b6 := b6.keeps kx18
                replace b8 := b8.keeps kx18
                replace kw := Keeps.trans kw kx18
                clear kx18
                have lt20 := b11.lt
                have sz21 := kw.size
                clear hcu hdu hcx hdx hck
                cases q3
                · have HE := hid (accQ_fail HA.out (show bgOut ll pr n' j s1 s2 = (0, 0, false) from bgOut_no (accQ_fail HA2.out (bgIn_no hx.out hu.out H5.out) hlq)) hlt)
                  have HF := hid (HV.out.trans HE.out)
                  obtain ⟨ca22, cb22, fa22, fb22⟩ := id b4
                  go_wp2_with fail
                  clear ca22 cb22 fa22 fb22
                  obtain ⟨ca0, cb0, fa0, fb0⟩ := id b4
                  refine bodyPost_ret (v := .tuple #[.agg #[.int .i64 0, .int .i64 0], .bool false]) (by simp [results, Try.results24, go_sem, ca0, cb0]) rfl ⟨ret_fb (by rw [HF.out]) (by rw [HF.out]) (by rw [HF.out]), ?_⟩
                  exact below_set2 kw (p := (w.heap.size + 1)) (by omega) _ _
                · have fq := hid ((Fine.mk _ _).ok H5.out)
                  have HN := hid (accQ_next HA2.out (bgIn_yes (a := t1') (b := t2') hx.out hu.out H5.out))
                  have HMx := hid (maxQ_frac HB2.out fq.out)
                  obtain ⟨ca22, cb22, fa22, fb22⟩ := id b8
                  obtain ⟨ca23, cb23, fa23, fb23⟩ := id b11
                  go_wp2_with fail
                  clear ca22 cb22 fa22 fb22 ca23 cb23 fa23 fb23
                  obtain ⟨cq, HC⟩ : ∃ cq, Hid (cmpQ q1 q2 t1' t2' = cq) := ⟨_, rfl⟩
                  refine (cmpFrac_any (fracB_qb fq.out) (fracB_qb HB2.out)).mono ?_
                  rintro e w24 ⟨rfl, k24⟩
                  rw [HC.out]
                  replace b2 := b2.keeps k24
                  replace b4 := b4.keeps k24
                  replace b6 := b6.keeps k24
                  replace b8 := b8.keeps k24
                  replace b11 := b11.keeps k24
                  replace kw := Keeps.trans kw k24
                  have lt25 := b11.lt
                  have sz26 := kw.size
                  clear k24
                  by_cases hcq : 0 < cq
                  · have HY := hid (maxQ_new (a := t1') (b := t2') (c := q1) (d := q2) (by rw [HC.out]; exact hcq))
                    rw [HY.out] at HN HMx
                    obtain ⟨ca27, cb27, fa27, fb27⟩ := id b8
                    obtain ⟨ca28, cb28, fa28, fb28⟩ := id b11
                    replace b2 := b2.set2 (p := wo.heap.size) (by omega) (.int .i64 q1) (.int .i64 q2)
                    replace b4 := b4.set2 (p := wo.heap.size) (by omega) (.int .i64 q1) (.int .i64 q2)
                    replace b6 := b6.set2 (p := wo.heap.size) (by omega) (.int .i64 q1) (.int .i64 q2)
                    replace b11 := b11.set2 (p := wo.heap.size) (by omega) (.int .i64 q1) (.int .i64 q2)
                    replace b8 := b8.set q1 q2
                    replace kw := below_set2 kw (p := wo.heap.size) (by omega) (.int .i64 q1) (.int .i64 q2)
                    go_wp2_with fail
                    clear ca27 cb27 fa27 fb27 ca28 cb28 fa28 fb28
                    go_roundw
                    case rel => exact ⟨i + 1, q1, q2, (by omega), (by go_num), HN.out, HMx.out, b2, b4, b6, b8, kw⟩
                    case measure => simp [intOf]; omega
                  · have HY := hid (maxQ_old (a := t1') (b := t2') (c := q1) (d := q2) (by rw [HC.out]; omega))
                    rw [HY.out] at HN HMx
                    go_wp2_with fail
                    go_roundw
                    case rel => exact ⟨i + 1, t1', t2', (by omega), (by go_num), HN.out, HMx.out, b2, b4, b6, b8, kw⟩
                    case measure => simp [intOf]; omega
            · obtain rfl : i = n' := by omega
              have HX := hid (show bgMax ll pr i j = (t1', t2', true) from HA2.out)
              obtain ⟨r1, r2, r3, H6⟩ : ∃ r1 r2 r3, Hid (mkF (s1 * t2' + t1' * s2) (s2 * t2') = (r1, r2, r3)) := ⟨_, _, _, rfl⟩
              have HS := hid ((bgOut_yes (a := s1) (b := s2) HX.out).trans H6.out)
              obtain ⟨ca17, cb17, fa17, fb17⟩ := id b6
              obtain ⟨ca18, cb18, fa18, fb18⟩ := id b8
              go_wp2_with fail
              clear ca17 cb17 fa17 fb17 ca18 cb18 fa18 fb18
              refine (AddFrac_any HB.out HB2.out).mono ?_
              rintro e w19 ⟨rfl, k19⟩
              rw [H6.out]
              replace b2 := b2.keeps k19
              replace b4 := b4.keeps k19
              replace b6 := b6.keeps k19
              replace b8 := b8.keeps k19
              replace kw := Keeps.trans kw k19
              have lt20 := b8.lt
              have sz21 := kw.size
              clear k19
              cases r3
              · have HE := hid (accQ_fail HA.out (show bgOut ll pr i j s1 s2 = (0, 0, false) from (bgOut_fine _ _ _ _ _ _).bad HS.out) hlt)
                have HF := hid (HV.out.trans HE.out)
                replace b2 := b2.keeps (keeps_alloc w19 (.cells #[.int .i64 r1, .int .i64 r2] 31))
                replace b4 := b4.keeps (keeps_alloc w19 (.cells #[.int .i64 r1, .int .i64 r2] 31))
                replace b6 := b6.keeps (keeps_alloc w19 (.cells #[.int .i64 r1, .int .i64 r2] 31))
                replace b8 := b8.keeps (keeps_alloc w19 (.cells #[.int .i64 r1, .int .i64 r2] 31))
                replace kw := Keeps.trans kw (keeps_alloc w19 (.cells #[.int .i64 r1, .int .i64 r2] 31))
                have b13 : Bx (w19.alloc (.cells #[.int .i64 r1, .int .i64 r2] 31)) w19.heap.size r1 r2 := Bx.new' (by simp)
                obtain ⟨ca22, cb22, fa22, fb22⟩ := id b4
                go_wp2_with fail
                clear ca22 cb22 fa22 fb22
                obtain ⟨ca0, cb0, fa0, fb0⟩ := id b4
                refine bodyPost_ret (v := .tuple #[.agg #[.int .i64 0, .int .i64 0], .bool false]) (by simp [results, Try.results24, go_sem, ca0, cb0]) rfl ⟨ret_fb (by rw [HF.out]) (by rw [HF.out]) (by rw [HF.out]), ?_⟩
                exact below_set2 kw (p := (w.heap.size + 1)) (by omega) _ _
              · have fr := hid ((bgOut_fine _ _ _ _ _ _).ok HS.out)
                obtain ⟨ca22, cb22, fa22, fb22⟩ := id b6
                replace b2 := b2.keeps (keeps_alloc w19 (.cells #[.int .i64 r1, .int .i64 r2] 31))
                replace b4 := b4.keeps (keeps_alloc w19 (.cells #[.int .i64 r1, .int .i64 r2] 31))
                replace b6 := b6.keeps (keeps_alloc w19 (.cells #[.int .i64 r1, .int .i64 r2] 31))
                replace b8 := b8.keeps (keeps_alloc w19 (.cells #[.int .i64 r1, .int .i64 r2] 31))
                replace kw := Keeps.trans kw (keeps_alloc w19 (.cells #[.int .i64 r1, .int .i64 r2] 31))
                have b13 : Bx (w19.alloc (.cells #[.int .i64 r1, .int .i64 r2] 31)) w19.heap.size r1 r2 := Bx.new' (by simp)
                obtain ⟨ca23, cb23, fa23, fb23⟩ := id b6
                obtain ⟨ca24, cb24, fa24, fb24⟩ := id b13
                replace b2 := b2.set2 (p := w6.heap.size) (by omega) (.int .i64 r1) (.int .i64 r2)
                replace b4 := b4.set2 (p := w6.heap.size) (by omega) (.int .i64 r1) (.int .i64 r2)
                replace b8 := b8.set2 (p := w6.heap.size) (by omega) (.int .i64 r1) (.int .i64 r2)
                replace b13 := b13.set2 (p := w6.heap.size) (by omega) (.int .i64 r1) (.int .i64 r2)
                replace b6 := b6.set r1 r2
                replace kw := below_set2 kw (p := w6.heap.size) (by omega) (.int .i64 r1) (.int .i64 r2)
                go_wp2_with fail
                clear ca22 cb22 fa22 fb22 ca23 cb23 fa23 fb23 ca24 cb24 fa24 fb24
                go_roundw
                case rel => exact ⟨j + 1, r1, r2, (by omega), (by go_num), accQ_next HA.out HS.out, fr.out, b2, b4, b6, kw⟩
                case measure => simp [intOf]; omega
        · obtain rfl : j = m := by omega
          have HF := hid (HV.out.trans HA.out)
          obtain ⟨ca13, cb13, fa13, fb13⟩ := id b4
          obtain ⟨ca14, cb14, fa14, fb14⟩ := id b6
          go_wp2_with fail
          clear ca13 cb13 fa13 fb13 ca14 cb14 fa14 fb14
          obtain ⟨ca0, cb0, fa0, fb0⟩ := id b4
          refine bodyPost_ret (v := .tuple #[.agg #[.int .i64 s1, .int .i64 s2], .bool true]) (by simp [results, Try.results24, go_sem, ca0, cb0]) rfl ⟨ret_fb (by rw [HF.out]) (by rw [HF.out]) (by rw [HF.out]), ?_⟩
          exact below_set2 kw (p := (w.heap.size + 1)) (by omega) _ _
end Go.Proofs.Ytnopedjgagoahaa
