/- DistanceWhole: of the reference and of the program. -/
import Derived.Test.YtkpliolafkdijaaWsq
import Derived.Test.YtkpliolafkdijaaAcc
import Derived.Test.YtkpliolafkdijaaFopen
namespace Go.Proofs.Ytkpliolafkdijaa
open Go.RowKit
set_option linter.unusedVariables false
set_option linter.unusedSimpArgs false

theorem wsqQ_fine (a b x y n d : Int) : Fine (wsqQ a b x y n d) := by unfold wsqQ; exact Fine.ite (Fine.ite (Fine.ite (Fine.mk _ _) Fine.no) Fine.no) Fine.no
/-- One summand: the square of a difference. -/
def dwSt (l : List (Int × Int)) (xs : List Int) (k : Nat) (a b : Int) : Int × Int × Bool := wsqQ a b (l.getD k (0, 0)).1 (l.getD k (0, 0)).2 (xs.getD k 0) 1
theorem dwSt_fine (l : List (Int × Int)) (xs : List Int) (k : Nat) (a b : Int) : Fine (dwSt l xs k a b) := wsqQ_fine _ _ _ _ _ _
theorem dwSt_at {l : List (Int × Int)} {xs : List Int} {k : Nat} {a b x y v : Int} (hx : (x, y) = l.getD k (0, 0)) (hv : v = xs.getD k 0) : dwSt l xs k a b = wsqQ a b x y v 1 := by unfold dwSt; rw [← hx, ← hv]
def dwQ (l : List (Int × Int)) (xs : List Int) : Int × Int × Bool := if roundB l = true ∧ xs.length = l.length ∧ within 0 5000 xs = true then accQ (dwSt l xs) 0 1 l.length else (0, 0, false)
theorem dwQ_no {l : List (Int × Int)} {xs : List Int} (h : ¬ (roundB l = true ∧ xs.length = l.length ∧ within 0 5000 xs = true)) : dwQ l xs = (0, 0, false) := if_neg h
theorem dwQ_yes {l : List (Int × Int)} {xs : List Int} (h : roundB l = true ∧ xs.length = l.length ∧ within 0 5000 xs = true) : dwQ l xs = accQ (dwSt l xs) 0 1 l.length := if_pos h
theorem roundB_at {l : List (Int × Int)} {k : Nat} {x y : Int} (h : roundB l = true) (hk : k < l.length) (hx : (x, y) = l.getD k (0, 0)) : fracB x y = true := by
  unfold roundB at h
  simp only [Bool.and_eq_true] at h
  have := all_true.1 h.2 k hk
  rw [← hx] at this
  simp only [rdQ, shortQ, Bool.and_eq_true] at this
  exact this.1.1
theorem sqrQ_nf {x y v s1 s2 : Int} {b : Bool} (h : sqrQ x y v = (s1, s2, b)) : (mkF (x * 1 - v * y) (y * 1)).2.2 = true ∨ (s1, s2, b) = (0, 0, false) := by
  cases e : (mkF (x * 1 - v * y) (y * 1)).2.2 with
  | true => exact Or.inl rfl
  | false => right; rw [← h]; unfold sqrQ; rw [if_neg (by rw [e]; simp)]
theorem wsqQ_sqr {a b x y v s1 s2 : Int} (h : sqrQ x y v = (s1, s2, true)) : wsqQ a b x y v 1 = mkF (a * s2 + s1 * b) (b * s2) := by
  have hf := (sqrQ_fine x y v).ok h
  have e1 := mkF_self (n := s1) (d := s2) hf
  unfold wsqQ
  rcases sqrQ_nf h with h1 | h1
  · rw [if_pos h1, h]
    simp only [if_true, Int.mul_one]
    rw [e1]; simp
  · cases h1
theorem wsqQ_bad {a b x y v d s1 s2 : Int} (h : sqrQ x y v = (s1, s2, false)) : wsqQ a b x y v d = (0, 0, false) := by
  unfold wsqQ
  rw [h]; simp

set_option maxRecDepth 100000 in
set_option maxHeartbeats 1600000 in
theorem specDistanceWhole_any {A A' : Option Addr} {lo hi lo' hi' n m c c' : Nat} {l : List (Int × Int)} {xs : List Int} {w : World} (h : Fracs w lo hi A n l) (h' : Ints w lo' hi' A' m xs) :
    Calls Try.prog 58 #[.slice A n c, .slice A' m c'] w fun e w' => e = .returned (.tuple #[.agg #[.int .i64 (dwQ l xs).1, .int .i64 (dwQ l xs).2.1], .bool (dwQ l xs).2.2]) ∧ Keeps w w' := by
  have hn := h.le
  have hm := h'.le
  have hl := Fracs.len h
  have hl' := h'.1
  go_enter Try.func58, Try.ntmps58
  have kw := keeps_refl w
  replace kw := kw.trans (keeps_alloc w (.cells #[.int .i64 0, .int .i64 0] 41))
  have b4 : Bx (w.alloc (.cells #[.int .i64 0, .int .i64 0] 41)) w.heap.size 0 0 := Bx.new' (by simp)
  go_wp2_with fail
  obtain ⟨pH1, H1⟩ : ∃ p, Hid ((l.all shortQ && inB n 1 30) = p) := ⟨_, rfl⟩
  refine (wShort_any (h.keeps kw)).mono ?_
  rintro e w1 ⟨rfl, k1⟩
  rw [H1.out]
  replace b4 := b4.keeps k1
  replace kw := kw.trans k1
  have lt2 := b4.lt
  have sz3 := kw.size
  clear k1
  cases pH1
  · have HF := hid (dwQ_no (l := l) (xs := xs) (by rw [roundB_split, hl, H1.out]; simp))
    obtain ⟨ca4, cb4, fa4, fb4⟩ := id b4
    go_wp2_with fail
    clear ca4 cb4 fa4 fb4
    obtain ⟨ca0, cb0, fa0, fb0⟩ := id b4
    refine bodyPost_ret (v := .tuple #[.agg #[.int .i64 0, .int .i64 0], .bool false]) (by simp [results, Try.results58, go_sem, ca0, cb0]) rfl ⟨ret_fb (by rw [HF.out]) (by rw [HF.out]) (by rw [HF.out]), ?_⟩
    exact below_set2 kw (p := w.heap.size) (by omega) _ _
  · skip
    go_wp2_with fail
    obtain ⟨pH2, H2⟩ : ∃ p, Hid (l.all fewQ = p) := ⟨_, rfl⟩
    refine (wFew_any (h.keeps kw)).mono ?_
    rintro e w4 ⟨rfl, k4⟩
    rw [H2.out]
    replace b4 := b4.keeps k4
    replace kw := kw.trans k4
    have lt5 := b4.lt
    have sz6 := kw.size
    clear k4
    cases pH2
    · have HF := hid (dwQ_no (l := l) (xs := xs) (by rw [roundB_split, H2.out]; simp))
      obtain ⟨ca7, cb7, fa7, fb7⟩ := id b4
      go_wp2_with fail
      clear ca7 cb7 fa7 fb7
      obtain ⟨ca0, cb0, fa0, fb0⟩ := id b4
      refine bodyPost_ret (v := .tuple #[.agg #[.int .i64 0, .int .i64 0], .bool false]) (by simp [results, Try.results58, go_sem, ca0, cb0]) rfl ⟨ret_fb (by rw [HF.out]) (by rw [HF.out]) (by rw [HF.out]), ?_⟩
      exact below_set2 kw (p := w.heap.size) (by omega) _ _
    · skip
      have HR := hid (show roundB l = true by rw [roundB_split, hl, H1.out, H2.out]; rfl)
      by_cases hmn : m = n
      rotate_left
      · have t1 : ((m : Int) != (n : Int)) = true := by rw [bne_iff_ne]; omega
        have HF := hid (dwQ_no (l := l) (xs := xs) (by rw [hl, hl']; simp [hmn]))
        obtain ⟨ca7, cb7, fa7, fb7⟩ := id b4
        go_wp2_with fail
        clear ca7 cb7 fa7 fb7
        obtain ⟨ca0, cb0, fa0, fb0⟩ := id b4
        refine bodyPost_ret (v := .tuple #[.agg #[.int .i64 0, .int .i64 0], .bool false]) (by simp [results, Try.results58, go_sem, ca0, cb0]) rfl ⟨ret_fb (by rw [HF.out]) (by rw [HF.out]) (by rw [HF.out]), ?_⟩
        exact below_set2 kw (p := w.heap.size) (by omega) _ _
      obtain rfl : n = m := hmn.symm
      have t1 : ((n : Int) != (n : Int)) = false := by simp
      go_wp2_with fail
      obtain ⟨pH4, H4⟩ : ∃ p, Hid (within 0 5000 xs = p) := ⟨_, rfl⟩
      refine (l1All_any _ _ _ _ _ _ _ _ _ (h'.keeps kw)).mono ?_
      rintro e w' ⟨rfl, rfl⟩
      rw [H4.out]
      cases pH4
      · have HF := hid (dwQ_no (l := l) (xs := xs) (by rw [H4.out]; simp))
        obtain ⟨ca7, cb7, fa7, fb7⟩ := id b4
        go_wp2_with fail
        clear ca7 cb7 fa7 fb7
        obtain ⟨ca0, cb0, fa0, fb0⟩ := id b4
        refine bodyPost_ret (v := .tuple #[.agg #[.int .i64 0, .int .i64 0], .bool false]) (by simp [results, Try.results58, go_sem, ca0, cb0]) rfl ⟨ret_fb (by rw [HF.out]) (by rw [HF.out]) (by rw [HF.out]), ?_⟩
        exact below_set2 kw (p := w.heap.size) (by omega) _ _
      · skip
        have HF := hid (dwQ_yes (l := l) (xs := xs) ⟨HR.out, by rw [hl, hl'], H4.out⟩)
        rw [hl] at HF
        go_wp2_with fail
        refine (fInt_any).mono ?_
        rintro e w7 ⟨rfl, k7⟩
        replace b4 := b4.keeps k7
        replace kw := kw.trans k7
        have lt8 := b4.lt
        have sz9 := kw.size
        clear k7
        replace b4 := b4.keeps (keeps_alloc w7 (.cells #[.int .i64 0, .int .i64 1] 41))
        replace kw := kw.trans (keeps_alloc w7 (.cells #[.int .i64 0, .int .i64 1] 41))
        have b6 : Bx (w7.alloc (.cells #[.int .i64 0, .int .i64 1] 41)) w7.heap.size 0 1 := Bx.new' (by simp)
        go_wp2_with fail
        go_loopw [35] (fun si wr => ∃ (k : Nat) (s1 : Int) (s2 : Int), k ≤ n ∧ si = .int .i64 k ∧ Hid (accQ (dwSt l xs) 0 1 k = (s1, s2, true)) ∧ Hid (fracB s1 s2 = true) ∧ Bx wr w.heap.size 0 0 ∧ Bx wr w7.heap.size s1 s2 ∧ Keeps w wr) (fun si _ => n - (intOf si).toNat)
        case atStart => exact ⟨0, 0, 1, Nat.zero_le _, rfl, rfl, fracB_01, b4, b6, kw⟩
        clear kw b4 b6 
        case round =>
          obtain ⟨k, s1, s2, hk, rfl, HA, HB, b4, b6, kw⟩ := hrel
          have lt10 := b6.lt
          have sz11 := kw.size
          by_cases hlt : k < n
          · obtain ⟨b, off, x, y, rfl, _, hb, hc, hd, hx⟩ := Fracs.at_ (h.keeps kw) hlt
            obtain ⟨b', off', v, rfl, _, hb', hv, hxv⟩ := (h'.keeps kw).at_ hlt
            have fx := hid (roundB_at HR.out (by omega) hx.out)
            have bv := within_true.1 H4.out k (by omega)
            rw [← hxv.out] at bv
            have bw : -1000000000 ≤ v ∧ v ≤ 1000000000 := by omega
            obtain ⟨r1, r2, r3, H5⟩ : ∃ r1 r2 r3, Hid (wsqQ s1 s2 x y v 1 = (r1, r2, r3)) := ⟨_, _, _, rfl⟩
            have HS := hid ((dwSt_at (a := s1) (b := s2) hx.out hxv.out).trans H5.out)
            have hv2 := cell_keeps hv (keeps_alloc wr (.cells #[.int .i64 x, .int .i64 y] 41))
            have hi1 : (k : Int) < (n : Int) := by omega
            replace b4 := b4.keeps (keeps_alloc wr (.cells #[.int .i64 x, .int .i64 y] 41))
            replace b6 := b6.keeps (keeps_alloc wr (.cells #[.int .i64 x, .int .i64 y] 41))
            replace kw := kw.trans (keeps_alloc wr (.cells #[.int .i64 x, .int .i64 y] 41))
            have b8 : Bx (wr.alloc (.cells #[.int .i64 x, .int .i64 y] 41)) wr.heap.size x y := Bx.new' (by simp)
            go_wp2_with fail
            obtain ⟨ca13, cb13, -, -⟩ := id b6
            obtain ⟨ca14, cb14, -, -⟩ := id b8
            have kS := hid (show ∀ w', Keeps (wr.alloc (.cells #[.int .i64 x, .int .i64 y] 41)) w' → (w'.cell? ⟨w7.heap.size, 0, none⟩ = some (.int .i64 s1) ∧ w'.cell? ⟨w7.heap.size, 1, none⟩ = some (.int .i64 s2) ∧ w'.cell? ⟨wr.heap.size, 0, none⟩ = some (.int .i64 x) ∧ w'.cell? ⟨wr.heap.size, 1, none⟩ = some (.int .i64 y) ∧ w'.cell? ⟨b', off' + k, none⟩ = some (.int .i64 v)) from fun w' k => ⟨cell_keeps ca13 k, cell_keeps cb13 k, cell_keeps ca14 k, cell_keeps cb14 k, cell_keeps hv2 k⟩)
            go_cut [9, 10] (fun sd so wx => ∃ g, sd = .pointer (some ⟨g, 0, none⟩) ∧ so = .bool r3 ∧ Bx wx g r1 r2 ∧ (wr.alloc (.cells #[.int .i64 x, .int .i64 y] 41)).heap.size ≤ g ∧ Keeps (wr.alloc (.cells #[.int .i64 x, .int .i64 y] 41)) wx)
            case first =>
              have eA := hid (show (wr.alloc (.cells #[.int .i64 x, .int .i64 y] 41)).heap.size = wr.heap.size + 1 by simp)
              go_region_held3 (fun w' => w'.cell? ⟨w7.heap.size, 0, none⟩ = some (.int .i64 s1) ∧ w'.cell? ⟨w7.heap.size, 1, none⟩ = some (.int .i64 s2) ∧ w'.cell? ⟨wr.heap.size, 0, none⟩ = some (.int .i64 x) ∧ w'.cell? ⟨wr.heap.size, 1, none⟩ = some (.int .i64 y) ∧ w'.cell? ⟨b', off' + k, none⟩ = some (.int .i64 v)) (first | exact kS.out _ (keeps_d0 (wr.alloc (.cells #[.int .i64 x, .int .i64 y] 41))) | exact kS.out _ (keeps_ad0 (wr.alloc (.cells #[.int .i64 x, .int .i64 y] 41)) _) | exact kS.out _ (kW) | exact kS.out _ (kW.trans (keeps_alloc _ _)) | exact kS.out _ (below_set2 kW (p := (wr.heap.size + 1)) (Nat.le_of_eq eA.out) _ _) | go_keep)
                ((first | (go_at_call 147; refine (wSquare_any (fracB_qb HB.out) (fracB_qb fx.out) bw one_bd).mono ?_; rintro e wB ⟨rfl, kB⟩; rw [H5.out]; (first | (have kZ : Bx wB (wr.heap.size + 1) 0 0 := Bx.kZ1 kB eA.out; obtain ⟨z1, z2, z3, z4⟩ := id kZ) | (have kZ : Bx wB (wr.heap.size + 1) 0 0 := Bx.kZ2 kB eA.out; obtain ⟨z1, z2, z3, z4⟩ := id kZ) | (have kZ := kZ.keeps kB; obtain ⟨z1, z2, z3, z4⟩ := id kZ) | skip); (first | (have kW : Keeps (wr.alloc (.cells #[.int .i64 x, .int .i64 y] 41)) wB := kW.trans kB) | (have kW : Keeps (wr.alloc (.cells #[.int .i64 x, .int .i64 y] 41)) wB := (kW.trans (keeps_alloc _ _)).trans kB) | (have kW : Keeps (wr.alloc (.cells #[.int .i64 x, .int .i64 y] 41)) wB := keeps_d kB) | (have kW : Keeps (wr.alloc (.cells #[.int .i64 x, .int .i64 y] 41)) wB := keeps_ad kB)); clear kB)))
              all_goals (go_wp2_with fail; go_meet; first
                | exact ⟨_, rfl, rfl, Bx.new _ _ _ _, kW.size, kW.trans (keeps_alloc _ _)⟩
                | exact ⟨_, rfl, rfl, Bx.set (x := 0) (y := 0) kZ _ _, Nat.le_of_eq eA.out, below_set2 kW (p := (wr.heap.size + 1)) (Nat.le_of_eq eA.out) _ _⟩)
            case rest =>
              clear kS
              clear ca13 cb13 ca14 cb14
              obtain ⟨g12, rfl, rfl, b9, lg12, kx12⟩ := hcut
              simp at lg12
              replace b4 := b4.keeps kx12
              replace b6 := b6.keeps kx12
              replace b8 := b8.keeps kx12
              replace kw := kw.trans kx12
              clear kx12
              have lt16 := b9.lt
              have sz17 := kw.size
              clear hv hv2 hc hd
              cases r3
              · have HE := hid (accQ_fail HA.out (show dwSt l xs k s1 s2 = (0, 0, false) from (dwSt_fine _ _ _ _ _).bad HS.out) hlt)
                replace HF := hid (HF.out.trans HE.out)
                obtain ⟨ca18, cb18, fa18, fb18⟩ := id b4
                go_wp2_with fail
                clear ca18 cb18 fa18 fb18
                obtain ⟨ca0, cb0, fa0, fb0⟩ := id b4
                refine bodyPost_ret (v := .tuple #[.agg #[.int .i64 0, .int .i64 0], .bool false]) (by simp [results, Try.results58, go_sem, ca0, cb0]) rfl ⟨ret_fb (by rw [HF.out]) (by rw [HF.out]) (by rw [HF.out]), ?_⟩
                exact below_set2 kw (p := w.heap.size) (by omega) _ _
              · have fr := hid ((dwSt_fine _ _ _ _ _).ok HS.out)
                obtain ⟨ca18, cb18, fa18, fb18⟩ := id b9
                obtain ⟨ca19, cb19, fa19, fb19⟩ := id b6
                replace b4 := b4.set2 (p := w7.heap.size) (by omega) (.int .i64 r1) (.int .i64 r2)
                replace b8 := b8.set2 (p := w7.heap.size) (by omega) (.int .i64 r1) (.int .i64 r2)
                replace b9 := b9.set2 (p := w7.heap.size) (by omega) (.int .i64 r1) (.int .i64 r2)
                replace b6 := b6.set r1 r2
                replace kw := below_set2 kw (p := w7.heap.size) (by omega) (.int .i64 r1) (.int .i64 r2)
                go_wp2_with fail
                clear ca18 cb18 fa18 fb18 ca19 cb19 fa19 fb19
                go_roundw
                case rel => exact ⟨k + 1, r1, r2, (by omega), (by go_num), accQ_next HA.out HS.out, fr.out, b4, b6, kw⟩
                case measure => simp [intOf]; omega
          · obtain rfl : k = n := by omega
            replace HF := hid (HF.out.trans HA.out)
            obtain ⟨ca12, cb12, fa12, fb12⟩ := id b4
            obtain ⟨ca13, cb13, fa13, fb13⟩ := id b6
            go_wp2_with fail
            clear ca12 cb12 fa12 fb12 ca13 cb13 fa13 fb13
            obtain ⟨ca0, cb0, fa0, fb0⟩ := id b4
            refine bodyPost_ret (v := .tuple #[.agg #[.int .i64 s1, .int .i64 s2], .bool true]) (by simp [results, Try.results58, go_sem, ca0, cb0]) rfl ⟨ret_fb (by rw [HF.out]) (by rw [HF.out]) (by rw [HF.out]), ?_⟩
            exact below_set2 kw (p := w.heap.size) (by omega) _ _
set_option maxRecDepth 100000 in
set_option maxHeartbeats 1600000 in
theorem implDistanceWhole_any {A A' : Option Addr} {lo hi lo' hi' n m c c' : Nat} {l : List (Int × Int)} {xs : List Int} {w : World} (h : Fracs w lo hi A n l) (h' : Ints w lo' hi' A' m xs) :
    Calls Try.prog 57 #[.slice A n c, .slice A' m c'] w fun e w' => e = .returned (.tuple #[.agg #[.int .i64 (dwQ l xs).1, .int .i64 (dwQ l xs).2.1], .bool (dwQ l xs).2.2]) ∧ Keeps w w' := by
  have hn := h.le
  have hm := h'.le
  have hl := Fracs.len h
  have hl' := h'.1
  go_enter Try.func57, Try.ntmps57
  have kw := keeps_refl w
  replace kw := kw.trans (keeps_alloc w (.cells #[.int .i64 0, .int .i64 0] 41))
  have b4 : Bx (w.alloc (.cells #[.int .i64 0, .int .i64 0] 41)) w.heap.size 0 0 := Bx.new' (by simp)
  go_wp2_with fail
  obtain ⟨pHR, HR⟩ : ∃ p, Hid (roundB l = p) := ⟨_, rfl⟩
  refine (areRoundable_any (h.keeps kw)).mono ?_
  rintro e w1 ⟨rfl, k1⟩
  rw [HR.out]
  replace b4 := b4.keeps k1
  replace kw := kw.trans k1
  have lt2 := b4.lt
  have sz3 := kw.size
  clear k1
  cases pHR
  · have HF := hid (dwQ_no (l := l) (xs := xs) (by rw [HR.out]; simp))
    obtain ⟨ca4, cb4, fa4, fb4⟩ := id b4
    go_wp2_with fail
    clear ca4 cb4 fa4 fb4
    obtain ⟨ca0, cb0, fa0, fb0⟩ := id b4
    refine bodyPost_ret (v := .tuple #[.agg #[.int .i64 0, .int .i64 0], .bool false]) (by simp [results, Try.results57, go_sem, ca0, cb0]) rfl ⟨ret_fb (by rw [HF.out]) (by rw [HF.out]) (by rw [HF.out]), ?_⟩
    exact below_set2 kw (p := w.heap.size) (by omega) _ _
  · skip
    by_cases hmn : m = n
    rotate_left
    · have t1 : ((m : Int) != (n : Int)) = true := by rw [bne_iff_ne]; omega
      have HF := hid (dwQ_no (l := l) (xs := xs) (by rw [hl, hl']; simp [hmn]))
      obtain ⟨ca4, cb4, fa4, fb4⟩ := id b4
      go_wp2_with fail
      clear ca4 cb4 fa4 fb4
      obtain ⟨ca0, cb0, fa0, fb0⟩ := id b4
      refine bodyPost_ret (v := .tuple #[.agg #[.int .i64 0, .int .i64 0], .bool false]) (by simp [results, Try.results57, go_sem, ca0, cb0]) rfl ⟨ret_fb (by rw [HF.out]) (by rw [HF.out]) (by rw [HF.out]), ?_⟩
      exact below_set2 kw (p := w.heap.size) (by omega) _ _
    obtain rfl : n = m := hmn.symm
    have t1 : ((n : Int) != (n : Int)) = false := by simp
    go_wp2_with fail
    obtain ⟨pH4, H4⟩ : ∃ p, Hid (within 0 5000 xs = p) := ⟨_, rfl⟩
    refine (areWithin_any _ _ _ _ _ _ _ _ _ (h'.keeps kw)).mono ?_
    rintro e w' ⟨rfl, rfl⟩
    rw [H4.out]
    cases pH4
    · have HF := hid (dwQ_no (l := l) (xs := xs) (by rw [H4.out]; simp))
      obtain ⟨ca4, cb4, fa4, fb4⟩ := id b4
      go_wp2_with fail
      clear ca4 cb4 fa4 fb4
      obtain ⟨ca0, cb0, fa0, fb0⟩ := id b4
      refine bodyPost_ret (v := .tuple #[.agg #[.int .i64 0, .int .i64 0], .bool false]) (by simp [results, Try.results57, go_sem, ca0, cb0]) rfl ⟨ret_fb (by rw [HF.out]) (by rw [HF.out]) (by rw [HF.out]), ?_⟩
      exact below_set2 kw (p := w.heap.size) (by omega) _ _
    · skip
      have HF := hid (dwQ_yes (l := l) (xs := xs) ⟨HR.out, by rw [hl, hl'], H4.out⟩)
      rw [hl] at HF
      replace b4 := b4.keeps (keeps_alloc w1 (.cells #[.int .i64 0, .int .i64 1] 41))
      replace kw := kw.trans (keeps_alloc w1 (.cells #[.int .i64 0, .int .i64 1] 41))
      have b6 : Bx (w1.alloc (.cells #[.int .i64 0, .int .i64 1] 41)) w1.heap.size 0 1 := Bx.new' (by simp)
      go_wp2_with fail
      go_loopw [30] (fun si wr => ∃ (k : Nat) (s1 : Int) (s2 : Int), k ≤ n ∧ si = .int .i64 k ∧ Hid (accQ (dwSt l xs) 0 1 k = (s1, s2, true)) ∧ Hid (fracB s1 s2 = true) ∧ Bx wr w.heap.size 0 0 ∧ Bx wr w1.heap.size s1 s2 ∧ Keeps w wr) (fun si _ => n - (intOf si).toNat)
      case atStart => exact ⟨0, 0, 1, Nat.zero_le _, rfl, rfl, fracB_01, b4, b6, kw⟩
      clear kw b4 b6 
      case round =>
        obtain ⟨k, s1, s2, hk, rfl, HA, HB, b4, b6, kw⟩ := hrel
        have lt4 := b6.lt
        have sz5 := kw.size
        by_cases hlt : k < n
        · obtain ⟨b, off, x, y, rfl, _, hb, hc, hd, hx⟩ := Fracs.at_ (h.keeps kw) hlt
          obtain ⟨b', off', v, rfl, _, hb', hv, hxv⟩ := (h'.keeps kw).at_ hlt
          have fx := hid (roundB_at HR.out (by omega) hx.out)
          have bv := within_true.1 H4.out k (by omega)
          rw [← hxv.out] at bv
          have bw : -1000000000 ≤ v ∧ v ≤ 1000000000 := by omega
          obtain ⟨q1, q2, q3, H5⟩ : ∃ q1 q2 q3, Hid (sqrQ x y v = (q1, q2, q3)) := ⟨_, _, _, rfl⟩
          have HD := hid (dwSt_at (a := s1) (b := s2) hx.out hxv.out)
          have hv2 := cell_keeps hv (keeps_alloc wr (.cells #[.int .i64 x, .int .i64 y] 41))
          have hi1 : (k : Int) < (n : Int) := by omega
          replace b4 := b4.keeps (keeps_alloc wr (.cells #[.int .i64 x, .int .i64 y] 41))
          replace b6 := b6.keeps (keeps_alloc wr (.cells #[.int .i64 x, .int .i64 y] 41))
          replace kw := kw.trans (keeps_alloc wr (.cells #[.int .i64 x, .int .i64 y] 41))
          have b8 : Bx (wr.alloc (.cells #[.int .i64 x, .int .i64 y] 41)) wr.heap.size x y := Bx.new' (by simp)
          go_wp2_with fail
          obtain ⟨ca7, cb7, -, -⟩ := id b8
          have kS := hid (show ∀ w', Keeps (wr.alloc (.cells #[.int .i64 x, .int .i64 y] 41)) w' → (w'.cell? ⟨wr.heap.size, 0, none⟩ = some (.int .i64 x) ∧ w'.cell? ⟨wr.heap.size, 1, none⟩ = some (.int .i64 y) ∧ w'.cell? ⟨b', off' + k, none⟩ = some (.int .i64 v)) from fun w' k => ⟨cell_keeps ca7 k, cell_keeps cb7 k, cell_keeps hv2 k⟩)
          go_cut [9, 10] (fun sd so wx => ∃ g, sd = .pointer (some ⟨g, 0, none⟩) ∧ so = .bool q3 ∧ Bx wx g q1 q2 ∧ (wr.alloc (.cells #[.int .i64 x, .int .i64 y] 41)).heap.size ≤ g ∧ Keeps (wr.alloc (.cells #[.int .i64 x, .int .i64 y] 41)) wx)
          case first =>
            have eA := hid (show (wr.alloc (.cells #[.int .i64 x, .int .i64 y] 41)).heap.size = wr.heap.size + 1 by simp)
            go_region_held3 (fun w' => w'.cell? ⟨wr.heap.size, 0, none⟩ = some (.int .i64 x) ∧ w'.cell? ⟨wr.heap.size, 1, none⟩ = some (.int .i64 y) ∧ w'.cell? ⟨b', off' + k, none⟩ = some (.int .i64 v)) (first | exact kS.out _ (keeps_d0 (wr.alloc (.cells #[.int .i64 x, .int .i64 y] 41))) | exact kS.out _ (keeps_ad0 (wr.alloc (.cells #[.int .i64 x, .int .i64 y] 41)) _) | exact kS.out _ (kW) | exact kS.out _ (kW.trans (keeps_alloc _ _)) | exact kS.out _ (below_set2 kW (p := (wr.heap.size + 1)) (Nat.le_of_eq eA.out) _ _) | go_keep)
              ((first | (go_at_call 145; refine (squareOf_any fx.out bw).mono ?_; rintro e wB ⟨rfl, kB⟩; rw [H5.out]; (first | (have kZ : Bx wB (wr.heap.size + 1) 0 0 := Bx.kZ1 kB eA.out; obtain ⟨z1, z2, z3, z4⟩ := id kZ) | (have kZ : Bx wB (wr.heap.size + 1) 0 0 := Bx.kZ2 kB eA.out; obtain ⟨z1, z2, z3, z4⟩ := id kZ) | (have kZ := kZ.keeps kB; obtain ⟨z1, z2, z3, z4⟩ := id kZ) | skip); (first | (have kW : Keeps (wr.alloc (.cells #[.int .i64 x, .int .i64 y] 41)) wB := kW.trans kB) | (have kW : Keeps (wr.alloc (.cells #[.int .i64 x, .int .i64 y] 41)) wB := (kW.trans (keeps_alloc _ _)).trans kB) | (have kW : Keeps (wr.alloc (.cells #[.int .i64 x, .int .i64 y] 41)) wB := keeps_d kB) | (have kW : Keeps (wr.alloc (.cells #[.int .i64 x, .int .i64 y] 41)) wB := keeps_ad kB)); clear kB)))
            all_goals (go_wp2_with fail; go_meet; first
              | exact ⟨_, rfl, rfl, Bx.new _ _ _ _, kW.size, kW.trans (keeps_alloc _ _)⟩
              | exact ⟨_, rfl, rfl, Bx.set (x := 0) (y := 0) kZ _ _, Nat.le_of_eq eA.out, below_set2 kW (p := (wr.heap.size + 1)) (Nat.le_of_eq eA.out) _ _⟩)
          case rest =>
            clear kS
            clear ca7 cb7
            obtain ⟨g6, rfl, rfl, b9, lg6, kx6⟩ := hcut
            simp at lg6
            replace b4 := b4.keeps kx6
            replace b6 := b6.keeps kx6
            replace b8 := b8.keeps kx6
            replace kw := kw.trans kx6
            clear kx6
            have lt9 := b9.lt
            have sz10 := kw.size
            clear hv hv2 hc hd
            cases q3
            · have HE := hid (accQ_fail HA.out (show dwSt l xs k s1 s2 = (0, 0, false) from HD.out.trans (wsqQ_bad H5.out)) hlt)
              replace HF := hid (HF.out.trans HE.out)
              obtain ⟨ca11, cb11, fa11, fb11⟩ := id b4
              go_wp2_with fail
              clear ca11 cb11 fa11 fb11
              obtain ⟨ca0, cb0, fa0, fb0⟩ := id b4
              refine bodyPost_ret (v := .tuple #[.agg #[.int .i64 0, .int .i64 0], .bool false]) (by simp [results, Try.results57, go_sem, ca0, cb0]) rfl ⟨ret_fb (by rw [HF.out]) (by rw [HF.out]) (by rw [HF.out]), ?_⟩
              exact below_set2 kw (p := w.heap.size) (by omega) _ _
            · have fq := hid ((sqrQ_fine _ _ _).ok H5.out)
              obtain ⟨r1, r2, r3, H6⟩ : ∃ r1 r2 r3, Hid (mkF (s1 * q2 + q1 * s2) (s2 * q2) = (r1, r2, r3)) := ⟨_, _, _, rfl⟩
              have HS := hid ((HD.out.trans (wsqQ_sqr H5.out)).trans H6.out)
              obtain ⟨ca11, cb11, fa11, fb11⟩ := id b6
              obtain ⟨ca12, cb12, fa12, fb12⟩ := id b9
              go_wp2_with fail
              clear ca11 cb11 fa11 fb11 ca12 cb12 fa12 fb12
              refine (AddFrac_any HB.out fq.out).mono ?_
              rintro e w13 ⟨rfl, k13⟩
              rw [H6.out]
              replace b4 := b4.keeps k13
              replace b6 := b6.keeps k13
              replace b8 := b8.keeps k13
              replace b9 := b9.keeps k13
              replace kw := kw.trans k13
              have lt14 := b9.lt
              have sz15 := kw.size
              clear k13
              cases r3
              · obtain ⟨ca16, cb16, fa16, fb16⟩ := id b6
                obtain ⟨ca17, cb17, fa17, fb17⟩ := id b4
                replace b4 := b4.set2 (p := w1.heap.size) (by omega) (.int .i64 r1) (.int .i64 r2)
                replace b8 := b8.set2 (p := w1.heap.size) (by omega) (.int .i64 r1) (.int .i64 r2)
                replace b9 := b9.set2 (p := w1.heap.size) (by omega) (.int .i64 r1) (.int .i64 r2)
                replace b6 := b6.set r1 r2
                replace kw := below_set2 kw (p := w1.heap.size) (by omega) (.int .i64 r1) (.int .i64 r2)
                obtain ⟨ca18, cb18, fa18, fb18⟩ := id b4
                have HE := hid (accQ_fail HA.out (show dwSt l xs k s1 s2 = (0, 0, false) from (dwSt_fine _ _ _ _ _).bad HS.out) hlt)
                replace HF := hid (HF.out.trans HE.out)
                obtain ⟨ca19, cb19, fa19, fb19⟩ := id b4
                go_wp2_with fail
                clear ca16 cb16 fa16 fb16 ca17 cb17 fa17 fb17 ca18 cb18 fa18 fb18 ca19 cb19 fa19 fb19
                obtain ⟨ca0, cb0, fa0, fb0⟩ := id b4
                refine bodyPost_ret (v := .tuple #[.agg #[.int .i64 0, .int .i64 0], .bool false]) (by simp [results, Try.results57, go_sem, ca0, cb0]) rfl ⟨ret_fb (by rw [HF.out]) (by rw [HF.out]) (by rw [HF.out]), ?_⟩
                exact below_set2 kw (p := w.heap.size) (by omega) _ _
              · have fr := hid ((dwSt_fine _ _ _ _ _).ok HS.out)
                obtain ⟨ca16, cb16, fa16, fb16⟩ := id b6
                replace b4 := b4.set2 (p := w1.heap.size) (by omega) (.int .i64 r1) (.int .i64 r2)
                replace b8 := b8.set2 (p := w1.heap.size) (by omega) (.int .i64 r1) (.int .i64 r2)
                replace b9 := b9.set2 (p := w1.heap.size) (by omega) (.int .i64 r1) (.int .i64 r2)
                replace b6 := b6.set r1 r2
                replace kw := below_set2 kw (p := w1.heap.size) (by omega) (.int .i64 r1) (.int .i64 r2)
                go_wp2_with fail
                clear ca16 cb16 fa16 fb16
                go_roundw
                case rel => exact ⟨k + 1, r1, r2, (by omega), (by go_num), accQ_next HA.out HS.out, fr.out, b4, b6, kw⟩
                case measure => simp [intOf]; omega
        · obtain rfl : k = n := by omega
          replace HF := hid (HF.out.trans HA.out)
          obtain ⟨ca6, cb6, fa6, fb6⟩ := id b4
          obtain ⟨ca7, cb7, fa7, fb7⟩ := id b6
          go_wp2_with fail
          clear ca6 cb6 fa6 fb6 ca7 cb7 fa7 fb7
          obtain ⟨ca0, cb0, fa0, fb0⟩ := id b4
          refine bodyPost_ret (v := .tuple #[.agg #[.int .i64 s1, .int .i64 s2], .bool true]) (by simp [results, Try.results57, go_sem, ca0, cb0]) rfl ⟨ret_fb (by rw [HF.out]) (by rw [HF.out]) (by rw [HF.out]), ?_⟩
          exact below_set2 kw (p := w.heap.size) (by omega) _ _
end Go.Proofs.Ytkpliolafkdijaa
