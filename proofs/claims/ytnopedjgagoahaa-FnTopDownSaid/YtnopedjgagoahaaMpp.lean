/- PostProcess: of the reference and of the program. -/
import Derived.Test.YtnopedjgagoahaaMrr
import Derived.Lib.QuietBelow
namespace Go.Proofs.Ytnopedjgagoahaa
open Go.RowKit Go.Sort
set_option linter.unusedVariables false
set_option linter.unusedSimpArgs false

/-- One more product x u, added to a. -/
def ppV (a b x y u v : Int) : Int × Int × Bool :=
  if (mkF (x * u) (y * v)).2.2 = true then mkF (a * (mkF (x * u) (y * v)).2.1 + (mkF (x * u) (y * v)).1 * b) (b * (mkF (x * u) (y * v)).2.1) else (0, 0, false)
theorem ppV_no {a b x y u v g1 g2 : Int} (e : mkF (x * u) (y * v) = (g1, g2, false)) : ppV a b x y u v = (0, 0, false) := by unfold ppV; rw [e]; simp
theorem ppV_yes {a b x y u v g1 g2 : Int} (e : mkF (x * u) (y * v) = (g1, g2, true)) : ppV a b x y u v = mkF (a * g2 + g1 * b) (b * g2) := by unfold ppV; rw [e]; simp
theorem ppV_fine (a b x y u v : Int) : Fine (ppV a b x y u v) := by unfold ppV; exact Fine.ite (Fine.mk _ _) Fine.no
def ppSt (r : List QQ) (tt : List (List QQ)) (j : Nat) (k : Nat) (a b : Int) : Int × Int × Bool := ppV a b (r.getD k (0, 0)).1 (r.getD k (0, 0)).2 ((tt.getD k []).getD j (0, 0)).1 ((tt.getD k []).getD j (0, 0)).2
theorem ppSt_at {r : List QQ} {tt : List (List QQ)} {j k : Nat} {a b x y u v : Int} (hx : (x, y) = r.getD k (0, 0)) (hu : (u, v) = (tt.getD k []).getD j (0, 0)) : ppSt r tt j k a b = ppV a b x y u v := by unfold ppSt; rw [← hx, ← hu]
theorem ppSt_fine (r : List QQ) (tt : List (List QQ)) (j k : Nat) (a b : Int) : Fine (ppSt r tt j k a b) := ppV_fine _ _ _ _ _ _
def ppF (mm tt : List (List QQ)) (i j : Nat) : Int × Int × Bool := accQ (ppSt (mm.getD i []) tt j) 0 1 (mm.getD i []).length
theorem ppF_fine (mm tt : List (List QQ)) (i j : Nat) : Fine (ppF mm tt i j) := accQ_fine fracB_01 (fun _ _ _ _ => ppSt_fine _ _ _ _ _ _) _
def ppB (mm tt : List (List QQ)) : Bool := mechB mm && mechB tt && decide (tt.length = (mm.getD 0 []).length)
def ppQ (mm tt : List (List QQ)) : List (List QQ) × Bool := if ppB mm tt = true then nmQ (ppF mm tt) mm.length (tt.getD 0 []).length else ([], false)
theorem ppQ_no {mm tt : List (List QQ)} (h : ppB mm tt = false) : ppQ mm tt = ([], false) := if_neg (by rw [h]; simp)
theorem ppQ_yes {mm tt : List (List QQ)} (h : ppB mm tt = true) : ppQ mm tt = nmQ (ppF mm tt) mm.length (tt.getD 0 []).length := if_pos h
theorem ppQ_len (mm tt : List (List QQ)) : (ppQ mm tt).1.length ≤ 64 ∧ rowSum (ppQ mm tt).1 (ppQ mm tt).1.length ≤ 67108864 := by
  unfold ppQ; split
  · exact nmQ_small _ _ _
  · simp [rowSum]

set_option maxRecDepth 100000 in
set_option maxHeartbeats 3200000 in
theorem ppClosure {A A' : Option Addr} {lo hi lo' hi' n n' c c' g1 g2 i j : Nat} {mm tt : List (List QQ)} {w : World} (h : FRows w lo hi A n mm) (h' : FRows w lo' hi' A' n' tt) (b2 : B1 w g1 (.slice A n c)) (b3 : B1 w g2 (.slice A' n' c')) (hg : mechB mm = true) (hg' : mechB tt = true)
    (hnt : n' = (mm.getD 0 []).length) (hi0 : i < n) (hj0 : j < (tt.getD 0 []).length) :
    Calls Try.prog 88 (#[.int .i64 (i : Int), .int .i64 (j : Int)] ++ #[.pointer (some ⟨g1, 0, none⟩), .pointer (some ⟨g2, 0, none⟩)]) w fun e w' => e = .returned (.tuple #[.agg #[.int .i64 (ppF mm tt i j).1, .int .i64 (ppF mm tt i j).2.1], .bool (ppF mm tt i j).2.2]) ∧ Keeps w w' := by
  show Calls Try.prog 88 #[.int .i64 (i : Int), .int .i64 (j : Int), .pointer (some ⟨g1, 0, none⟩), .pointer (some ⟨g2, 0, none⟩)] w _
  have hn := h.le
  have hn' := h'.le
  have hl := h.len
  have hl' := h'.len
  have lb2 := b2.lt
  have lb3 := b3.lt
  obtain ⟨b, off, A1, m, c1, rfl, hlb, hub, hci, hri⟩ := h.at_ hi0
  have hml := Fracs.len hri
  have hmm := (mechB_row hg (i := i) (by omega)).1
  have hmle := hri.le
  obtain ⟨r, HR⟩ : ∃ r, Hid (mm.getD i [] = r) := ⟨_, rfl⟩
  rw [HR.out] at hri hml hmm
  have hmn : m = n' := by omega
  subst hmn
  have HFR := hid (show ∀ z x y, z < m → (x, y) = r.getD z (0, 0) → fracB x y = true from fun z x y hz hx => (mechB_at hg (i := i) (k := z) (by omega) (by rw [HR.out]; omega) (by rw [HR.out]; exact hx)).1)
  have HF := hid (show ppF mm tt i j = accQ (ppSt r tt j) 0 1 m by unfold ppF; rw [HR.out, hml])
  have HG' := hid hg'
  clear hg hg' hmm hnt
  have hi1 : (i : Int) < (n : Int) := by omega
  have HML := hid hml
  clear hml
  go_enter Try.func88, Try.ntmps88
  have kw := keeps_refl w
  replace b2 := b2.keeps (keeps_alloc w (.cells #[.int .i64 0, .int .i64 0] 31))
  replace b3 := b3.keeps (keeps_alloc w (.cells #[.int .i64 0, .int .i64 0] 31))
  replace kw := Keeps.trans kw (keeps_alloc w (.cells #[.int .i64 0, .int .i64 0] 31))
  have b6 : Bx (w.alloc (.cells #[.int .i64 0, .int .i64 0] 31)) w.heap.size 0 0 := Bx.new' (by simp)
  obtain ⟨ca1, fa1⟩ := id b2
  replace b2 := b2.keeps (keeps_alloc (w.alloc (.cells #[.int .i64 0, .int .i64 0] 31)) (.cells #[.int .i64 0, .int .i64 1] 31))
  replace b3 := b3.keeps (keeps_alloc (w.alloc (.cells #[.int .i64 0, .int .i64 0] 31)) (.cells #[.int .i64 0, .int .i64 1] 31))
  replace b6 := b6.keeps (keeps_alloc (w.alloc (.cells #[.int .i64 0, .int .i64 0] 31)) (.cells #[.int .i64 0, .int .i64 1] 31))
  replace kw := Keeps.trans kw (keeps_alloc (w.alloc (.cells #[.int .i64 0, .int .i64 0] 31)) (.cells #[.int .i64 0, .int .i64 1] 31))
  have b8 : Bx ((w.alloc (.cells #[.int .i64 0, .int .i64 0] 31)).alloc (.cells #[.int .i64 0, .int .i64 1] 31)) (w.heap.size + 1) 0 1 := Bx.new' (by simp)
  obtain ⟨ca2, fa2⟩ := id b2
  have ci := cell_keeps hci kw
  go_wp2_with fail
  clear ca1 fa1 ca2 fa2
  clear ci
  go_loopw [20] (fun si wr => ∃ (z : Nat) (s1 : Int) (s2 : Int), z ≤ m ∧ si = .int .i64 z ∧ Hid (accQ (ppSt r tt j) 0 1 z = (s1, s2, true)) ∧ Hid (fracB s1 s2 = true) ∧ B1 wr g1 (.slice (some ⟨b, off, none⟩) n c) ∧ B1 wr g2 (.slice A' m c') ∧ Bx wr w.heap.size 0 0 ∧ Bx wr (w.heap.size + 1) s1 s2 ∧ Keeps w wr) (fun si _ => m - (intOf si).toNat)
  case atStart => exact ⟨0, 0, 1, Nat.zero_le _, rfl, rfl, fracB_01, b2, b3, b6, b8, kw⟩
  clear kw b2 b3 b6 b8 
  case round =>
    obtain ⟨z, s1, s2, hz, rfl, HA, HB, b2, b3, b6, b8, kw⟩ := hrel
    have lt3 := b8.lt
    have sz4 := kw.size
    by_cases hlt : z < m
    · obtain ⟨ba, oa, x, y, rfl, _, hb, hc, hd, hx⟩ := Fracs.at_ (Sl.keeps hri kw) hlt
      have hz : (z : Int) < (m : Int) := by omega
      have fx := hid (HFR.out z x y hlt hx.out)
      replace b2 := b2.keeps (keeps_alloc wr (.cells #[.int .i64 x, .int .i64 y] 31))
      replace b3 := b3.keeps (keeps_alloc wr (.cells #[.int .i64 x, .int .i64 y] 31))
      replace b6 := b6.keeps (keeps_alloc wr (.cells #[.int .i64 x, .int .i64 y] 31))
      replace b8 := b8.keeps (keeps_alloc wr (.cells #[.int .i64 x, .int .i64 y] 31))
      replace kw := Keeps.trans kw (keeps_alloc wr (.cells #[.int .i64 x, .int .i64 y] 31))
      have b10 : Bx (wr.alloc (.cells #[.int .i64 x, .int .i64 y] 31)) wr.heap.size x y := Bx.new' (by simp)
      go_wp2_with fail
      clear hc hd
      obtain ⟨b', off', A2, m2, c2, rfl, _, _, hck, hrk⟩ := (h'.keeps kw).at_ hlt
      have hm2 := (Fracs.len hrk).symm.trans (mechB_row HG'.out (i := z) (by omega)).1
      obtain ⟨bu, ou, u, v, rfl, _, hbu, hcu, hdu, hu⟩ := Fracs.at_ hrk (k := j) (by omega)
      have fu := hid (mechB_at HG'.out (i := z) (k := j) (by omega) (by have := Fracs.len hrk; omega) hu.out).1
      have hj1 : (j : Int) < (m2 : Int) := by omega
      have HD := hid (ppSt_at (a := s1) (b := s2) hx.out hu.out)
      obtain ⟨q1, q2, q3, H5⟩ : ∃ q1 q2 q3, Hid (mkF (x * u) (y * v) = (q1, q2, q3)) := ⟨_, _, _, rfl⟩
      clear hm2
      obtain ⟨ca6, cb6, -, -⟩ := id b10
      obtain ⟨ca7, -⟩ := id b3
      have kS := hid (show ∀ w', Keeps (wr.alloc (.cells #[.int .i64 x, .int .i64 y] 31)) w' → (w'.cell? ⟨wr.heap.size, 0, none⟩ = some (.int .i64 x) ∧ w'.cell? ⟨wr.heap.size, 1, none⟩ = some (.int .i64 y) ∧ w'.cell? ⟨g2, 0, none⟩ = some (.slice (some ⟨b', off', none⟩) m c') ∧ w'.cell? ⟨b', off' + z, none⟩ = some (.slice (some ⟨bu, ou, none⟩) m2 c2) ∧ w'.cell? ⟨bu, ou + j * 2, none⟩ = some (.int .i64 u) ∧ w'.cell? ⟨bu, ou + j * 2 + 1, none⟩ = some (.int .i64 v)) from fun w' k => ⟨cell_keeps ca6 k, cell_keeps cb6 k, cell_keeps ca7 k, cell_keeps hck k, cell_keeps hcu k, cell_keeps hdu k⟩)
      go_cut [11, 12] (fun sd so wq => ∃ wy g, wy = wq ∧ sd = .pointer (some ⟨g, 0, none⟩) ∧ so = .bool q3 ∧ Bx wy g q1 q2 ∧ (wr.alloc (.cells #[.int .i64 x, .int .i64 y] 31)).heap.size ≤ g ∧ Keeps (wr.alloc (.cells #[.int .i64 x, .int .i64 y] 31)) wy)
      case first =>
        have eA := hid (show (wr.alloc (.cells #[.int .i64 x, .int .i64 y] 31)).heap.size = wr.heap.size + 1 by simp)
        go_region_held3 (fun w' => w'.cell? ⟨wr.heap.size, 0, none⟩ = some (.int .i64 x) ∧ w'.cell? ⟨wr.heap.size, 1, none⟩ = some (.int .i64 y) ∧ w'.cell? ⟨g2, 0, none⟩ = some (.slice (some ⟨b', off', none⟩) m c') ∧ w'.cell? ⟨b', off' + z, none⟩ = some (.slice (some ⟨bu, ou, none⟩) m2 c2) ∧ w'.cell? ⟨bu, ou + j * 2, none⟩ = some (.int .i64 u) ∧ w'.cell? ⟨bu, ou + j * 2 + 1, none⟩ = some (.int .i64 v)) (first | with_reducible exact kS.out _ (keeps_d0 (wr.alloc (.cells #[.int .i64 x, .int .i64 y] 31))) | with_reducible exact kS.out _ (keeps_ad0 (wr.alloc (.cells #[.int .i64 x, .int .i64 y] 31)) _) | with_reducible exact kS.out _ (kW) | with_reducible exact kS.out _ (kW.trans (keeps_alloc _ _)) | with_reducible exact kS.out _ (below_set2 kW lz _ _) | go_keep)
          ((first | (go_at_call 32; refine (MulFrac_any fx.out fu.out).mono ?_; rintro e wB ⟨rfl, kB⟩; rw [H5.out]; (first | (have kZ : Bx wB (wr.heap.size + 1) 0 0 := Bx.kZ1 kB eA.out; have lz : (wr.alloc (.cells #[.int .i64 x, .int .i64 y] 31)).heap.size ≤ (wr.heap.size + 1) := (Nat.le_of_eq eA.out); obtain ⟨z1, z2, z3, z4⟩ := id kZ) | (have kZ : Bx wB (wr.heap.size + 1) 0 0 := Bx.kZ2 kB eA.out; have lz : (wr.alloc (.cells #[.int .i64 x, .int .i64 y] 31)).heap.size ≤ (wr.heap.size + 1) := (Nat.le_of_eq eA.out); obtain ⟨z1, z2, z3, z4⟩ := id kZ) | (have kZ := kZ.keeps kB; obtain ⟨z1, z2, z3, z4⟩ := id kZ) | (have kZ : Bx wB _ 0 0 := Bx.kZ2 kB rfl; have lz := kW.size; obtain ⟨z1, z2, z3, z4⟩ := id kZ) | skip); (first | (have kW : Keeps (wr.alloc (.cells #[.int .i64 x, .int .i64 y] 31)) wB := kW.trans kB) | (have kW : Keeps (wr.alloc (.cells #[.int .i64 x, .int .i64 y] 31)) wB := (kW.trans (keeps_alloc _ _)).trans kB) | (have kW : Keeps (wr.alloc (.cells #[.int .i64 x, .int .i64 y] 31)) wB := keeps_d kB) | (have kW : Keeps (wr.alloc (.cells #[.int .i64 x, .int .i64 y] 31)) wB := keeps_ad kB)); clear kB)))
        all_goals (go_wp2_with fail; go_meet; first
          | exact ⟨_, _, rfl, rfl, rfl, Bx.new _ _ _ _, kW.size, kW.trans (keeps_alloc _ _)⟩
          | exact ⟨_, _, rfl, rfl, rfl, Bx.set (x := 0) (y := 0) kZ _ _, lz, below_set2 kW lz _ _⟩)
      case rest =>
        clear kS
        clear ca6 cb6 ca7
        obtain ⟨wx5, g5, rfl, rfl, rfl, b11, lg5, kx5⟩ := hcut
        simp at lg5
        replace b2 := b2.keeps kx5
        replace b3 := b3.keeps kx5
        replace b6 := b6.keeps kx5
        replace b8 := b8.keeps kx5
        replace b10 := b10.keeps kx5
        replace kw := Keeps.trans kw kx5
        clear kx5
        have lt9 := b11.lt
        have sz10 := kw.size
        clear hck hcu hdu hrk
        cases q3
        · have HE := hid (accQ_fail HA.out (show ppSt r tt j z s1 s2 = (0, 0, false) from HD.out.trans (ppV_no H5.out)) hlt)
          replace HF := hid (HF.out.trans HE.out)
          obtain ⟨ca11, cb11, fa11, fb11⟩ := id b6
          go_wp2_with fail
          clear ca11 cb11 fa11 fb11
          obtain ⟨ca0, cb0, fa0, fb0⟩ := id b6
          refine bodyPost_ret (v := .tuple #[.agg #[.int .i64 0, .int .i64 0], .bool false]) (by simp [results, Try.results88, go_sem, ca0, cb0]) rfl ⟨ret_fb (by rw [HF.out]) (by rw [HF.out]) (by rw [HF.out]), ?_⟩
          exact below_set2 kw (p := w.heap.size) (by omega) _ _
        · have fq := hid ((Fine.mk _ _).ok H5.out)
          obtain ⟨r1, r2, r3, H6⟩ : ∃ r1 r2 r3, Hid (mkF (s1 * q2 + q1 * s2) (s2 * q2) = (r1, r2, r3)) := ⟨_, _, _, rfl⟩
          have HS := hid ((HD.out.trans (ppV_yes H5.out)).trans H6.out)
          obtain ⟨ca11, cb11, fa11, fb11⟩ := id b8
          obtain ⟨ca12, cb12, fa12, fb12⟩ := id b11
          go_wp2_with fail
          clear ca11 cb11 fa11 fb11 ca12 cb12 fa12 fb12
          refine (AddFrac_any HB.out fq.out).mono ?_
          rintro e w13 ⟨rfl, k13⟩
          rw [H6.out]
          replace b2 := b2.keeps k13
          replace b3 := b3.keeps k13
          replace b6 := b6.keeps k13
          replace b8 := b8.keeps k13
          replace b10 := b10.keeps k13
          replace b11 := b11.keeps k13
          replace kw := Keeps.trans kw k13
          have lt14 := b11.lt
          have sz15 := kw.size
          clear k13
          cases r3
          · obtain ⟨ca16, cb16, fa16, fb16⟩ := id b8
            replace b2 := b2.set2 (p := (w.heap.size + 1)) (by omega) (.int .i64 r1) (.int .i64 r2)
            replace b3 := b3.set2 (p := (w.heap.size + 1)) (by omega) (.int .i64 r1) (.int .i64 r2)
            replace b6 := b6.set2 (p := (w.heap.size + 1)) (by omega) (.int .i64 r1) (.int .i64 r2)
            replace b10 := b10.set2 (p := (w.heap.size + 1)) (by omega) (.int .i64 r1) (.int .i64 r2)
            replace b11 := b11.set2 (p := (w.heap.size + 1)) (by omega) (.int .i64 r1) (.int .i64 r2)
            replace b8 := b8.set r1 r2
            replace kw := below_set2 kw (p := (w.heap.size + 1)) (by omega) (.int .i64 r1) (.int .i64 r2)
            obtain ⟨ca17, cb17, fa17, fb17⟩ := id b6
            have HE := hid (accQ_fail HA.out (show ppSt r tt j z s1 s2 = (0, 0, false) from (ppSt_fine _ _ _ _ _ _).bad HS.out) hlt)
            replace HF := hid (HF.out.trans HE.out)
            obtain ⟨ca18, cb18, fa18, fb18⟩ := id b6
            go_wp2_with fail
            clear ca16 cb16 fa16 fb16 ca17 cb17 fa17 fb17 ca18 cb18 fa18 fb18
            obtain ⟨ca0, cb0, fa0, fb0⟩ := id b6
            refine bodyPost_ret (v := .tuple #[.agg #[.int .i64 0, .int .i64 0], .bool false]) (by simp [results, Try.results88, go_sem, ca0, cb0]) rfl ⟨ret_fb (by rw [HF.out]) (by rw [HF.out]) (by rw [HF.out]), ?_⟩
            exact below_set2 kw (p := w.heap.size) (by omega) _ _
          · have fr := hid ((ppSt_fine _ _ _ _ _ _).ok HS.out)
            obtain ⟨ca16, cb16, fa16, fb16⟩ := id b8
            replace b2 := b2.set2 (p := (w.heap.size + 1)) (by omega) (.int .i64 r1) (.int .i64 r2)
            replace b3 := b3.set2 (p := (w.heap.size + 1)) (by omega) (.int .i64 r1) (.int .i64 r2)
            replace b6 := b6.set2 (p := (w.heap.size + 1)) (by omega) (.int .i64 r1) (.int .i64 r2)
            replace b10 := b10.set2 (p := (w.heap.size + 1)) (by omega) (.int .i64 r1) (.int .i64 r2)
            replace b11 := b11.set2 (p := (w.heap.size + 1)) (by omega) (.int .i64 r1) (.int .i64 r2)
            replace b8 := b8.set r1 r2
            replace kw := below_set2 kw (p := (w.heap.size + 1)) (by omega) (.int .i64 r1) (.int .i64 r2)
            go_wp2_with fail
            clear ca16 cb16 fa16 fb16
            go_roundw
            case rel => exact ⟨z + 1, r1, r2, (by omega), (by go_num), accQ_next HA.out HS.out, fr.out, b2, b3, b6, b8, kw⟩
            case measure => simp [intOf]; omega
    · obtain rfl : z = m := by omega
      replace HF := hid (HF.out.trans HA.out)
      obtain ⟨ca5, cb5, fa5, fb5⟩ := id b6
      obtain ⟨ca6, cb6, fa6, fb6⟩ := id b8
      go_wp2_with fail
      clear ca5 cb5 fa5 fb5 ca6 cb6 fa6 fb6
      obtain ⟨ca0, cb0, fa0, fb0⟩ := id b6
      refine bodyPost_ret (v := .tuple #[.agg #[.int .i64 s1, .int .i64 s2], .bool true]) (by simp [results, Try.results88, go_sem, ca0, cb0]) rfl ⟨ret_fb (by rw [HF.out]) (by rw [HF.out]) (by rw [HF.out]), ?_⟩
      exact below_set2 kw (p := w.heap.size) (by omega) _ _
set_option maxRecDepth 100000 in
set_option maxHeartbeats 12800000 in
theorem implPostProcess_any {A A' : Option Addr} {lo hi lo' hi' n n' c c' : Nat} {mm tt : List (List QQ)} {w : World} (h : FRows w lo hi A n mm) (h' : FRows w lo' hi' A' n' tt) :
    Calls Try.prog 13 #[.agg #[.slice A n c], .agg #[.slice A' n' c']] w (MRes w (ppQ mm tt)) := by
  have hn := h.le
  have hn' := h'.le
  have hl := h.len
  have hl' := h'.len
  go_enter Try.func13, Try.ntmps13
  have kw := keeps_refl w
  replace kw := Keeps.trans kw (keeps_alloc w (.cells #[.slice A n c] 25))
  have b2 : B1 (w.alloc (.cells #[.slice A n c] 25)) w.heap.size (.slice A n c) := B1.new' (by simp)
  replace b2 := b2.keeps (keeps_alloc (w.alloc (.cells #[.slice A n c] 25)) (.cells #[.slice A' n' c'] 25))
  replace kw := Keeps.trans kw (keeps_alloc (w.alloc (.cells #[.slice A n c] 25)) (.cells #[.slice A' n' c'] 25))
  have b3 : B1 ((w.alloc (.cells #[.slice A n c] 25)).alloc (.cells #[.slice A' n' c'] 25)) (w.heap.size + 1) (.slice A' n' c') := B1.new' (by simp)
  replace b2 := b2.keeps (keeps_alloc ((w.alloc (.cells #[.slice A n c] 25)).alloc (.cells #[.slice A' n' c'] 25)) (.cells #[.slice none 0 0] 25))
  replace b3 := b3.keeps (keeps_alloc ((w.alloc (.cells #[.slice A n c] 25)).alloc (.cells #[.slice A' n' c'] 25)) (.cells #[.slice none 0 0] 25))
  replace kw := Keeps.trans kw (keeps_alloc ((w.alloc (.cells #[.slice A n c] 25)).alloc (.cells #[.slice A' n' c'] 25)) (.cells #[.slice none 0 0] 25))
  have b4 : B1 (((w.alloc (.cells #[.slice A n c] 25)).alloc (.cells #[.slice A' n' c'] 25)).alloc (.cells #[.slice none 0 0] 25)) (w.heap.size + 1 + 1) (.slice none 0 0) := B1.new' (by simp)
  obtain ⟨p1, H1⟩ : ∃ pB, Hid (mechB mm = pB) := ⟨_, rfl⟩
  obtain ⟨p2, H2⟩ : ∃ pB, Hid (mechB tt = pB) := ⟨_, rfl⟩
  cases p1
  · have HF := hid (ppQ_no (mm := mm) (tt := tt) (by rw [ppB, H1.out]; rfl))
    obtain ⟨ca2, -⟩ := id b2
    obtain ⟨ca3, -⟩ := id b3
    have r2 := fun d os => cell_regrown ca2 d os
    have r3 := fun d os => cell_regrown ca3 d os
    have cM := hid (fun (d : Nat) (os : Array Obj) => IsMechanism_any (h.keeps (Keeps.trans kw (below_regrown (((w.alloc (.cells #[.slice A n c] 25)).alloc (.cells #[.slice A' n' c'] 25)).alloc (.cells #[.slice none 0 0] 25)) d os))) (c := c))
    have cT := hid (fun (d : Nat) (os : Array Obj) => IsMechanism_any (h'.keeps (Keeps.trans kw (below_regrown (((w.alloc (.cells #[.slice A n c] 25)).alloc (.cells #[.slice A' n' c'] 25)).alloc (.cells #[.slice none 0 0] 25)) d os))) (c := c'))
    rw [H1.out] at cM
    rw [H2.out] at cT
    go_wp2_with fail
    refine wp_region_quiet_below (by kernel_rfl) (by kernel_rfl) ?_
    iterate 19 (go_big_quiet_step ((first | with_reducible exact Calls.regrown_of (cM.out _ _) | with_reducible exact Calls.regrown_of (cT.out _ _))))
    refine wpQuiet_nil ?_
    intro _ hw'
    obtain ⟨⟨dq, osq⟩, hw''⟩ := hw'
    subst hw''
    clear r2 r3 ca2 ca3 cM cT
    have kQ := below_regrown (((w.alloc (.cells #[.slice A n c] 25)).alloc (.cells #[.slice A' n' c'] 25)).alloc (.cells #[.slice none 0 0] 25)) dq osq
    obtain ⟨wQ1, hwQ⟩ : ∃ u, u = grow (redrawn (((w.alloc (.cells #[.slice A n c] 25)).alloc (.cells #[.slice A' n' c'] 25)).alloc (.cells #[.slice none 0 0] 25)) dq) osq := ⟨_, rfl⟩
    rw [← hwQ] at kQ
    rw [← hwQ]
    clear hwQ
    replace b2 := b2.keeps kQ
    replace b3 := b3.keeps kQ
    replace b4 := b4.keeps kQ
    replace kw := Keeps.trans kw kQ
    have lt2 := b4.lt
    have sz3 := kw.size
    clear kQ
    obtain ⟨ca4, fa4⟩ := id b4
    go_wp2_with fail
    clear ca4 fa4
    obtain ⟨ca0, fa0⟩ := id b4
    refine bodyPost_ret (v := .tuple #[.agg #[.slice none 0 0], .bool false]) (by simp [results, Try.results13, go_sem, ca0]) rfl ⟨none, 0, 0, by rw [HF.out], ?_, ?_⟩
    · rw [HF.out]; exact RM.nil_ _ _
    · first | exact Below.setCell kw (p := ⟨w.heap.size + 1 + 1, 0, none⟩) (Nat.le_refl _) _ | exact kw | exact Below.setCell kw (p := ⟨w.heap.size + 1 + 1, 0, none⟩) (by show _ ≤ (w.heap.size + 1 + 1); omega) _
  · skip
    cases p2
    · have HF := hid (ppQ_no (mm := mm) (tt := tt) (by rw [ppB, H1.out, H2.out]; rfl))
      obtain ⟨ca2, -⟩ := id b2
      obtain ⟨ca3, -⟩ := id b3
      have r2 := fun d os => cell_regrown ca2 d os
      have r3 := fun d os => cell_regrown ca3 d os
      have cM := hid (fun (d : Nat) (os : Array Obj) => IsMechanism_any (h.keeps (Keeps.trans kw (below_regrown (((w.alloc (.cells #[.slice A n c] 25)).alloc (.cells #[.slice A' n' c'] 25)).alloc (.cells #[.slice none 0 0] 25)) d os))) (c := c))
      have cT := hid (fun (d : Nat) (os : Array Obj) => IsMechanism_any (h'.keeps (Keeps.trans kw (below_regrown (((w.alloc (.cells #[.slice A n c] 25)).alloc (.cells #[.slice A' n' c'] 25)).alloc (.cells #[.slice none 0 0] 25)) d os))) (c := c'))
      rw [H1.out] at cM
      rw [H2.out] at cT
      go_wp2_with fail
      refine wp_region_quiet_below (by kernel_rfl) (by kernel_rfl) ?_
      iterate 19 (go_big_quiet_step ((first | with_reducible exact Calls.regrown_of (cM.out _ _) | with_reducible exact Calls.regrown_of (cT.out _ _))))
      refine wpQuiet_nil ?_
      intro _ hw'
      obtain ⟨⟨dq, osq⟩, hw''⟩ := hw'
      subst hw''
      clear r2 r3 ca2 ca3 cM cT
      have kQ := below_regrown (((w.alloc (.cells #[.slice A n c] 25)).alloc (.cells #[.slice A' n' c'] 25)).alloc (.cells #[.slice none 0 0] 25)) dq osq
      obtain ⟨wQ1, hwQ⟩ : ∃ u, u = grow (redrawn (((w.alloc (.cells #[.slice A n c] 25)).alloc (.cells #[.slice A' n' c'] 25)).alloc (.cells #[.slice none 0 0] 25)) dq) osq := ⟨_, rfl⟩
      rw [← hwQ] at kQ
      rw [← hwQ]
      clear hwQ
      replace b2 := b2.keeps kQ
      replace b3 := b3.keeps kQ
      replace b4 := b4.keeps kQ
      replace kw := Keeps.trans kw kQ
      have lt2 := b4.lt
      have sz3 := kw.size
      clear kQ
      obtain ⟨ca4, fa4⟩ := id b4
      go_wp2_with fail
      clear ca4 fa4
      obtain ⟨ca0, fa0⟩ := id b4
      refine bodyPost_ret (v := .tuple #[.agg #[.slice none 0 0], .bool false]) (by simp [results, Try.results13, go_sem, ca0]) rfl ⟨none, 0, 0, by rw [HF.out], ?_, ?_⟩
      · rw [HF.out]; exact RM.nil_ _ _
      · first | exact Below.setCell kw (p := ⟨w.heap.size + 1 + 1, 0, none⟩) (Nat.le_refl _) _ | exact kw | exact Below.setCell kw (p := ⟨w.heap.size + 1 + 1, 0, none⟩) (by show _ ≤ (w.heap.size + 1 + 1); omega) _
    · skip
      have hln := mechB_len H1.out
      have hln' := mechB_len H2.out
      obtain ⟨b, off, A1, m, c1, rfl, hlb, hub, hc0, hr0⟩ := h.head (by omega)
      have hm0 := Fracs.len hr0
      have hmle := hr0.le
      have i0 : (0 : Int) < (n : Int) := by omega
      by_cases hnm : n' = m
      rotate_left
      · have t1 : ((n' : Int) != (m : Int)) = true := by rw [bne_iff_ne]; omega
        have HF := hid (ppQ_no (mm := mm) (tt := tt) (by rw [ppB, decide_eq_false (show ¬ tt.length = (mm.getD 0 []).length by omega), Bool.and_false]))
        obtain ⟨ca2, -⟩ := id b2
        obtain ⟨ca3, -⟩ := id b3
        have r2 := fun d os => cell_regrown ca2 d os
        have r3 := fun d os => cell_regrown ca3 d os
        have r4 := fun d os => cell_regrown (cell_keeps hc0 kw) d os
        have cM := hid (fun (d : Nat) (os : Array Obj) => IsMechanism_any (h.keeps (Keeps.trans kw (below_regrown (((w.alloc (.cells #[.slice (some ⟨b, off, none⟩) n c] 25)).alloc (.cells #[.slice A' n' c'] 25)).alloc (.cells #[.slice none 0 0] 25)) d os))) (c := c))
        have cT := hid (fun (d : Nat) (os : Array Obj) => IsMechanism_any (h'.keeps (Keeps.trans kw (below_regrown (((w.alloc (.cells #[.slice (some ⟨b, off, none⟩) n c] 25)).alloc (.cells #[.slice A' n' c'] 25)).alloc (.cells #[.slice none 0 0] 25)) d os))) (c := c'))
        rw [H1.out] at cM
        rw [H2.out] at cT
        go_wp2_with fail
        refine wp_region_quiet_below (by kernel_rfl) (by kernel_rfl) ?_
        iterate 19 (go_big_quiet_step ((first | with_reducible exact Calls.regrown_of (cM.out _ _) | with_reducible exact Calls.regrown_of (cT.out _ _))))
        refine wpQuiet_nil ?_
        intro _ hw'
        obtain ⟨⟨dq, osq⟩, hw''⟩ := hw'
        subst hw''
        clear r2 r3 ca2 ca3 cM cT r4
        have kQ := below_regrown (((w.alloc (.cells #[.slice (some ⟨b, off, none⟩) n c] 25)).alloc (.cells #[.slice A' n' c'] 25)).alloc (.cells #[.slice none 0 0] 25)) dq osq
        obtain ⟨wQ1, hwQ⟩ : ∃ u, u = grow (redrawn (((w.alloc (.cells #[.slice (some ⟨b, off, none⟩) n c] 25)).alloc (.cells #[.slice A' n' c'] 25)).alloc (.cells #[.slice none 0 0] 25)) dq) osq := ⟨_, rfl⟩
        rw [← hwQ] at kQ
        rw [← hwQ]
        clear hwQ
        replace b2 := b2.keeps kQ
        replace b3 := b3.keeps kQ
        replace b4 := b4.keeps kQ
        replace kw := Keeps.trans kw kQ
        have lt2 := b4.lt
        have sz3 := kw.size
        clear kQ
        obtain ⟨ca4, fa4⟩ := id b4
        go_wp2_with fail
        clear ca4 fa4
        obtain ⟨ca0, fa0⟩ := id b4
        refine bodyPost_ret (v := .tuple #[.agg #[.slice none 0 0], .bool false]) (by simp [results, Try.results13, go_sem, ca0]) rfl ⟨none, 0, 0, by rw [HF.out], ?_, ?_⟩
        · rw [HF.out]; exact RM.nil_ _ _
        · first | exact Below.setCell kw (p := ⟨w.heap.size + 1 + 1, 0, none⟩) (Nat.le_refl _) _ | exact kw | exact Below.setCell kw (p := ⟨w.heap.size + 1 + 1, 0, none⟩) (by show _ ≤ (w.heap.size + 1 + 1); omega) _
      subst hnm
      have t1 : ((n' : Int) != (n' : Int)) = false := by simp
      have HB0 := hid (show ppB mm tt = true by rw [ppB, H1.out, H2.out, decide_eq_true (show tt.length = (mm.getD 0 []).length by omega)]; rfl)
      obtain ⟨ca2, -⟩ := id b2
      obtain ⟨ca3, -⟩ := id b3
      have r2 := fun d os => cell_regrown ca2 d os
      have r3 := fun d os => cell_regrown ca3 d os
      have r4 := fun d os => cell_regrown (cell_keeps hc0 kw) d os
      have cM := hid (fun (d : Nat) (os : Array Obj) => IsMechanism_any (h.keeps (Keeps.trans kw (below_regrown (((w.alloc (.cells #[.slice (some ⟨b, off, none⟩) n c] 25)).alloc (.cells #[.slice A' n' c'] 25)).alloc (.cells #[.slice none 0 0] 25)) d os))) (c := c))
      have cT := hid (fun (d : Nat) (os : Array Obj) => IsMechanism_any (h'.keeps (Keeps.trans kw (below_regrown (((w.alloc (.cells #[.slice (some ⟨b, off, none⟩) n c] 25)).alloc (.cells #[.slice A' n' c'] 25)).alloc (.cells #[.slice none 0 0] 25)) d os))) (c := c'))
      rw [H1.out] at cM
      rw [H2.out] at cT
      go_wp2_with fail
      refine wp_region_quiet_below (by kernel_rfl) (by kernel_rfl) ?_
      iterate 19 (go_big_quiet_step ((first | with_reducible exact Calls.regrown_of (cM.out _ _) | with_reducible exact Calls.regrown_of (cT.out _ _))))
      refine wpQuiet_nil ?_
      intro _ hw'
      obtain ⟨⟨dq, osq⟩, hw''⟩ := hw'
      subst hw''
      clear r2 r3 ca2 ca3 cM cT r4
      have kQ := below_regrown (((w.alloc (.cells #[.slice (some ⟨b, off, none⟩) n c] 25)).alloc (.cells #[.slice A' n' c'] 25)).alloc (.cells #[.slice none 0 0] 25)) dq osq
      obtain ⟨wQ1, hwQ⟩ : ∃ u, u = grow (redrawn (((w.alloc (.cells #[.slice (some ⟨b, off, none⟩) n c] 25)).alloc (.cells #[.slice A' n' c'] 25)).alloc (.cells #[.slice none 0 0] 25)) dq) osq := ⟨_, rfl⟩
      rw [← hwQ] at kQ
      rw [← hwQ]
      clear hwQ
      replace b2 := b2.keeps kQ
      replace b3 := b3.keeps kQ
      replace b4 := b4.keeps kQ
      replace kw := Keeps.trans kw kQ
      have lt2 := b4.lt
      have sz3 := kw.size
      clear kQ
      obtain ⟨b', off', A2, m2, c2, rfl, hlb', hub', hc0', hr0'⟩ := h'.head (by omega)
      have hm0' := Fracs.len hr0'
      have hmle' := hr0'.le
      have i0' : (0 : Int) < (n' : Int) := by omega
      have i0n : 0 < n' := by omega
      have i0m : (n' : Int) ≠ 0 := by omega
      have HY := hid (ppQ_yes HB0.out)
      rw [hl, hm0'] at HY
      have HM0 := hid hm0
      have HM0' := hid hm0'
      clear hm0 hm0'
      go_wp2_with fail
      have ck := cell_keeps hc0' kw
      obtain ⟨ca2, -⟩ := id b2
      obtain ⟨ca3, -⟩ := id b3
      have hb' : b' < w.heap.size := by have := h'.top; omega
      have hnb : b' ≠ w.heap.size + 1 + 1 := by omega
      have kS := hid (show ∀ w', Keeps wQ1 w' → (w'.cell? ⟨w.heap.size, 0, none⟩ = some (.slice (some ⟨b, off, none⟩) n c) ∧ w'.cell? ⟨w.heap.size + 1, 0, none⟩ = some (.slice (some ⟨b', off', none⟩) n' c') ∧ w'.cell? ⟨b', off', none⟩ = some (.slice A2 m2 c2)) from fun w' k => ⟨cell_keeps ca2 k, cell_keeps ca3 k, cell_keeps ck k⟩)
      have kT := hid (show ∀ w', Keeps wQ1 w' → ∀ u, let w'' := w'.setCell ⟨w.heap.size + 1 + 1, 0, none⟩ u; (w''.cell? ⟨w.heap.size, 0, none⟩ = some (.slice (some ⟨b, off, none⟩) n c) ∧ w''.cell? ⟨w.heap.size + 1, 0, none⟩ = some (.slice (some ⟨b', off', none⟩) n' c') ∧ w''.cell? ⟨b', off', none⟩ = some (.slice A2 m2 c2)) from fun w' k u => ⟨(World.cell?_setCell_far w' ⟨w.heap.size + 1 + 1, 0, none⟩ ⟨w.heap.size, 0, none⟩ u (by show w.heap.size + 1 + 1 ≠ _; simp only []; omega)).trans (cell_keeps ca2 k), (World.cell?_setCell_far w' ⟨w.heap.size + 1 + 1, 0, none⟩ ⟨w.heap.size + 1, 0, none⟩ u (by show w.heap.size + 1 + 1 ≠ _; simp only []; omega)).trans (cell_keeps ca3 k), (World.cell?_setCell_far w' ⟨w.heap.size + 1 + 1, 0, none⟩ ⟨b', off', none⟩ u (by show w.heap.size + 1 + 1 ≠ _; simp only []; omega)).trans (cell_keeps ck k)⟩)
      go_region_held3 (fun w' => w'.cell? ⟨w.heap.size, 0, none⟩ = some (.slice (some ⟨b, off, none⟩) n c) ∧ w'.cell? ⟨w.heap.size + 1, 0, none⟩ = some (.slice (some ⟨b', off', none⟩) n' c') ∧ w'.cell? ⟨b', off', none⟩ = some (.slice A2 m2 c2)) (first | with_reducible exact kS.out _ (keeps_d0 _) | with_reducible exact kS.out _ kW | with_reducible exact kT.out _ kW _ | go_keep)
        ((first | (go_at_call 87; refine (newMechanism_any (n := n) (m := m2) (K := 88) (caps := #[.pointer (some ⟨w.heap.size, 0, none⟩), .pointer (some ⟨w.heap.size + 1, 0, none⟩)]) (f := ppF mm tt) (by omega) (by have := HM0'.out; omega) (fun args w => enter_of Try.func88 (by kernel_rfl) rfl args w) (fun i j w' hi hj k => ppClosure (h.keeps (Keeps.trans (Keeps.trans kw (keeps_d0 _)) k)) (h'.keeps (Keeps.trans (Keeps.trans kw (keeps_d0 _)) k)) (b2.keeps (Keeps.trans (keeps_d0 _) k)) (b3.keeps (Keeps.trans (keeps_d0 _) k)) H1.out H2.out HM0.out.symm hi (by rw [HM0'.out]; exact hj))).mono ?_; rintro e wB ⟨AN, NN, CN, rfl, rm, kB⟩; have kW : Keeps wQ1 wB := keeps_d kB; clear kB; obtain ⟨z1, z2⟩ := b4.keeps kW)))
      clear kS kT z1 z2 ca2 ca3 ck
      replace b2 := b2.keeps kW
      replace b3 := b3.keeps kW
      replace b4 := b4.keeps kW
      replace kw := Keeps.trans kw kW
      have lt4 := b4.lt
      have sz5 := kw.size
      clear kW
      rw [← HY.out] at rm
      obtain ⟨R, hR⟩ : ∃ R, ppQ mm tt = R := ⟨_, rfl⟩
      rw [hR] at rm HY
      rw [← HY.out]
      rw [hR]
      clear HY
      have HF := hid hR
      clear hR
      replace rm : RM wB wQ1.heap.size wB.heap.size AN NN R.1 := rm
      obtain ⟨ca6, fa6⟩ := id b4
      go_wp2_with fail
      clear ca6 fa6
      obtain ⟨ca0, fa0⟩ := id b4
      have frS : Fr (w.heap.size + 1 + 1) (w.heap.size + 1 + 1 + 1) wB (wB.setCell ⟨w.heap.size + 1 + 1, 0, none⟩ (.slice AN NN CN)) := (Fr.refl _ _ _).setCell (p := ⟨w.heap.size + 1 + 1, 0, none⟩) (Nat.le_refl _) (Nat.lt_succ_self _) _
      have hs := (rm).1.top
      refine bodyPost_ret (v := .tuple #[.agg #[.slice AN NN CN], .bool R.2]) (by simp [results, Try.results13, go_sem, ca0]) rfl ⟨_, _, _, by rw [HF.out], ?_, Below.setCell kw (p := ⟨w.heap.size + 1 + 1, 0, none⟩) (by show _ ≤ (w.heap.size + 1 + 1); omega) _⟩
      rw [HF.out]
      exact (RM.fr rm frS (by omega)).widen (by first | omega | (simp; omega)) (by simp [World.setCell] <;> omega) (Nat.le_refl _)
end Go.Proofs.Ytnopedjgagoahaa
