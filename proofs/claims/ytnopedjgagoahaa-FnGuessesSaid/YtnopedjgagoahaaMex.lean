/- ExpectedOutput: of the reference and of the program. -/
import Derived.Test.YtnopedjgagoahaaMvar
namespace Go.Proofs.Ytnopedjgagoahaa
open Go.RowKit
set_option linter.unusedVariables false
set_option linter.unusedSimpArgs false

/-- One more output with its chance. -/
def exSt (r : List QQ) (k : Nat) (a b : Int) : Int × Int × Bool :=
  if (mkF ((r.getD k (0, 0)).1 * (k : Int)) ((r.getD k (0, 0)).2 * 1)).2.2 = true then
    mkF (a * (mkF ((r.getD k (0, 0)).1 * (k : Int)) ((r.getD k (0, 0)).2 * 1)).2.1 + (mkF ((r.getD k (0, 0)).1 * (k : Int)) ((r.getD k (0, 0)).2 * 1)).1 * b) (b * (mkF ((r.getD k (0, 0)).1 * (k : Int)) ((r.getD k (0, 0)).2 * 1)).2.1) else (0, 0, false)
section
variable {r : List QQ} {k : Nat} {a b x y q1 q2 : Int}
theorem exSt_no (hx : (x, y) = r.getD k (0, 0)) (e : mkF (x * (k : Int)) (y * 1) = (q1, q2, false)) : exSt r k a b = (0, 0, false) := by
  unfold exSt; rw [← hx]; simp [e, -Int.mul_one]
theorem exSt_yes (hx : (x, y) = r.getD k (0, 0)) (e : mkF (x * (k : Int)) (y * 1) = (q1, q2, true)) : exSt r k a b = mkF (a * q2 + q1 * b) (b * q2) := by
  unfold exSt; rw [← hx]; simp [e, -Int.mul_one]
end
theorem exSt_fine (r : List QQ) (k : Nat) (a b : Int) : Fine (exSt r k a b) := by unfold exSt; exact Fine.ite (Fine.mk _ _) Fine.no
def exQ (ll : List (List QQ)) (i : Int) : Int × Int × Bool := if inp ll i i = true then accQ (exSt (ll.getD i.toNat [])) 0 1 (ll.getD i.toNat []).length else (0, 0, false)
theorem exQ_no {ll : List (List QQ)} {i : Int} (h : inp ll i i = false) : exQ ll i = (0, 0, false) := if_neg (by rw [h]; simp)
theorem exQ_yes {ll : List (List QQ)} {i : Nat} (h : inp ll i i = true) : exQ ll i = accQ (exSt (ll.getD i [])) 0 1 (ll.getD i []).length := by unfold exQ; rw [if_pos h]; simp

set_option maxRecDepth 100000 in
set_option maxHeartbeats 3200000 in
theorem specExpectedOutput_any {A : Option Addr} {lo hi n c : Nat} {ll : List (List QQ)} {w : World} (h : FRows w lo hi A n ll) {i : Int} (wi : (Lit.int .i64 i).wf = true) :
    Calls Try.prog 31 #[.agg #[.slice A n c], .int .i64 i] w fun e w' => e = .returned (.tuple #[.agg #[.int .i64 (exQ ll i).1, .int .i64 (exQ ll i).2.1], .bool (exQ ll i).2.2]) ∧ Keeps w w' := by
  have hn := h.le
  have hl := h.len
  go_enter Try.func31, Try.ntmps31
  have kw := keeps_refl w
  replace kw := Keeps.trans kw (keeps_alloc w (.cells #[.slice A n c] 25))
  have b2 : B1 (w.alloc (.cells #[.slice A n c] 25)) w.heap.size (.slice A n c) := B1.new' (by simp)
  replace b2 := b2.keeps (keeps_alloc (w.alloc (.cells #[.slice A n c] 25)) (.cells #[.int .i64 0, .int .i64 0] 31))
  replace kw := Keeps.trans kw (keeps_alloc (w.alloc (.cells #[.slice A n c] 25)) (.cells #[.int .i64 0, .int .i64 0] 31))
  have b4 : Bx ((w.alloc (.cells #[.slice A n c] 25)).alloc (.cells #[.int .i64 0, .int .i64 0] 31)) (w.heap.size + 1) 0 0 := Bx.new' (by simp)
  obtain ⟨ca1, fa1⟩ := id b2
  go_wp2_with fail
  clear ca1 fa1
  obtain ⟨pHI0, HI0⟩ : ∃ pB, Hid ((mechB ll && inB i 0 ((n : Int) - 1) && inB i 0 ((n : Int) - 1)) = pB) := ⟨_, rfl⟩
  refine (mInput_any (h.keeps kw)).mono ?_
  rintro e w2 ⟨rfl, k2⟩
  rw [HI0.out]
  replace b2 := b2.keeps k2
  replace b4 := b4.keeps k2
  replace kw := Keeps.trans kw k2
  have lt3 := b4.lt
  have sz4 := kw.size
  clear k2
  cases pHI0
  · have HF := hid (exQ_no (ll := ll) (i := i) (by unfold inp; rw [hl]; exact HI0.out))
    obtain ⟨ca5, fa5⟩ := id b2
    obtain ⟨ca6, cb6, fa6, fb6⟩ := id b4
    go_wp2_with fail
    clear ca5 fa5 ca6 cb6 fa6 fb6
    obtain ⟨ca0, cb0, fa0, fb0⟩ := id b4
    try simp only [Exit.inBlock, Exit.then]
    refine bodyPost_ret (v := .tuple #[.agg #[.int .i64 0, .int .i64 0], .bool false]) (by simp [results, Try.results31, go_sem, ca0, cb0]) rfl ⟨ret_fb (by rw [HF.out]) (by rw [HF.out]) (by rw [HF.out]), ?_⟩
    exact below_set2 kw (p := (w.heap.size + 1)) (by omega) _ _
  · skip
    have HI := hid (show inp ll i i = true by unfold inp; rw [hl]; exact HI0.out)
    have hin := inp_true HI.out
    rw [hl] at hin
    obtain ⟨i, rfl⟩ : ∃ j : Nat, i = j := ⟨i.toNat, by omega⟩
    have hiN : i < n := by omega
    have htop := h.top
    obtain ⟨b, off, A1, m, c1, rfl, hlb, hub, hci, hri⟩ := h.at_ hiN
    have hml := Fracs.len hri
    obtain ⟨r, HR⟩ : ∃ r, Hid (ll.getD i [] = r) := ⟨_, rfl⟩
    rw [HR.out] at hri hml
    have hmle := hri.le
    have HFR := hid (show ∀ j x y, j < m → (x, y) = r.getD j (0, 0) → fracB x y = true from fun j x y hj hx => (mechB_at hin.1 (i := i) (k := j) (by omega) (by rw [HR.out]; omega) (by rw [HR.out]; exact hx)).1)
    have hi1 : (i : Int) < (n : Int) := by omega
    have HL := hid hml
    clear hml hin
    have HV := hid (exQ_yes HI.out)
    rw [HR.out, HL.out] at HV
    go_wp2_with fail
    refine (fInt_any).mono ?_
    rintro e w5 ⟨rfl, k5⟩
    replace b2 := b2.keeps k5
    replace b4 := b4.keeps k5
    replace kw := Keeps.trans kw k5
    have lt6 := b4.lt
    have sz7 := kw.size
    clear k5
    obtain ⟨ca8, fa8⟩ := id b2
    replace b2 := b2.keeps (keeps_alloc w5 (.cells #[.int .i64 0, .int .i64 1] 31))
    replace b4 := b4.keeps (keeps_alloc w5 (.cells #[.int .i64 0, .int .i64 1] 31))
    replace kw := Keeps.trans kw (keeps_alloc w5 (.cells #[.int .i64 0, .int .i64 1] 31))
    have b6 : Bx (w5.alloc (.cells #[.int .i64 0, .int .i64 1] 31)) w5.heap.size 0 1 := Bx.new' (by simp)
    obtain ⟨ca9, fa9⟩ := id b2
    have ci := cell_keeps hci kw
    go_wp2_with fail
    clear ca8 fa8 ca9 fa9
    clear ci
    go_loopw [26] (fun si wr => ∃ (q : Nat) (s1 : Int) (s2 : Int), q ≤ m ∧ si = .int .i64 q ∧ Hid (accQ (exSt r) 0 1 q = (s1, s2, true)) ∧ Hid (fracB s1 s2 = true) ∧ B1 wr w.heap.size (.slice (some ⟨b, off, none⟩) n c) ∧ Bx wr (w.heap.size + 1) 0 0 ∧ Bx wr w5.heap.size s1 s2 ∧ Keeps w wr) (fun si _ => m - (intOf si).toNat)
    case atStart => exact ⟨0, 0, 1, Nat.zero_le _, rfl, rfl, fracB_01, b2, b4, b6, kw⟩
    clear kw b2 b4 b6 
    case round =>
      obtain ⟨q, s1, s2, hq, rfl, HA, HB, b2, b4, b6, kw⟩ := hrel
      have lt10 := b6.lt
      have sz11 := kw.size
      by_cases hlt : q < m
      · obtain ⟨ba, oa, x, y, rfl, _, hb, hc, hd, hx⟩ := Fracs.at_ (Sl.keeps hri kw) hlt
        have hq : (q : Int) < (m : Int) := by omega
        have fx := hid (HFR.out q x y hlt hx.out)
        have fq0 := hid (fracB_int (n := (q : Int)) (by omega))
        obtain ⟨q1, q2, q3, H5⟩ : ∃ q1 q2 q3, Hid (mkF (x * (q : Int)) (y * 1) = (q1, q2, q3)) := ⟨_, _, _, rfl⟩
        replace b2 := b2.keeps (keeps_alloc wr (.cells #[.int .i64 x, .int .i64 y] 31))
        replace b4 := b4.keeps (keeps_alloc wr (.cells #[.int .i64 x, .int .i64 y] 31))
        replace b6 := b6.keeps (keeps_alloc wr (.cells #[.int .i64 x, .int .i64 y] 31))
        replace kw := Keeps.trans kw (keeps_alloc wr (.cells #[.int .i64 x, .int .i64 y] 31))
        have b8 : Bx (wr.alloc (.cells #[.int .i64 x, .int .i64 y] 31)) wr.heap.size x y := Bx.new' (by simp)
        go_wp2_with fail
        clear hc hd
        obtain ⟨ca13, cb13, -, -⟩ := id b8
        have kS := hid (show ∀ w', Keeps (wr.alloc (.cells #[.int .i64 x, .int .i64 y] 31)) w' → (w'.cell? ⟨wr.heap.size, 0, none⟩ = some (.int .i64 x) ∧ w'.cell? ⟨wr.heap.size, 1, none⟩ = some (.int .i64 y)) from fun w' k => ⟨cell_keeps ca13 k, cell_keeps cb13 k⟩)
        go_cut [9, 10] (fun sd so wq => ∃ wy g, wy = wq ∧ sd = .pointer (some ⟨g, 0, none⟩) ∧ so = .bool q3 ∧ Bx wy g q1 q2 ∧ (wr.alloc (.cells #[.int .i64 x, .int .i64 y] 31)).heap.size ≤ g ∧ Keeps (wr.alloc (.cells #[.int .i64 x, .int .i64 y] 31)) wy)
        case first =>
          have eA := hid (show (wr.alloc (.cells #[.int .i64 x, .int .i64 y] 31)).heap.size = wr.heap.size + 1 by simp)
          go_region_held3 (fun w' => w'.cell? ⟨wr.heap.size, 0, none⟩ = some (.int .i64 x) ∧ w'.cell? ⟨wr.heap.size, 1, none⟩ = some (.int .i64 y)) (first | with_reducible exact kS.out _ (keeps_d0 (wr.alloc (.cells #[.int .i64 x, .int .i64 y] 31))) | with_reducible exact kS.out _ (keeps_ad0 (wr.alloc (.cells #[.int .i64 x, .int .i64 y] 31)) _) | with_reducible exact kS.out _ (kW) | with_reducible exact kS.out _ (kW.trans (keeps_alloc _ _)) | with_reducible exact kS.out _ (below_set2 kW lz _ _) | go_keep)
            ((first | (go_at_call 91; refine (fInt_any).mono ?_; rintro e wB ⟨rfl, kB⟩; (first | (have kZ : Bx wB (wr.heap.size + 1) 0 0 := Bx.kZ1 kB eA.out; have lz : (wr.alloc (.cells #[.int .i64 x, .int .i64 y] 31)).heap.size ≤ (wr.heap.size + 1) := (Nat.le_of_eq eA.out); obtain ⟨z1, z2, z3, z4⟩ := id kZ) | (have kZ : Bx wB (wr.heap.size + 1) 0 0 := Bx.kZ2 kB eA.out; have lz : (wr.alloc (.cells #[.int .i64 x, .int .i64 y] 31)).heap.size ≤ (wr.heap.size + 1) := (Nat.le_of_eq eA.out); obtain ⟨z1, z2, z3, z4⟩ := id kZ) | (have kZ := kZ.keeps kB; obtain ⟨z1, z2, z3, z4⟩ := id kZ) | (have kZ : Bx wB _ 0 0 := Bx.kZ2 kB rfl; have lz := kW.size; obtain ⟨z1, z2, z3, z4⟩ := id kZ) | skip); (first | (have kW : Keeps (wr.alloc (.cells #[.int .i64 x, .int .i64 y] 31)) wB := kW.trans kB) | (have kW : Keeps (wr.alloc (.cells #[.int .i64 x, .int .i64 y] 31)) wB := (kW.trans (keeps_alloc _ _)).trans kB) | (have kW : Keeps (wr.alloc (.cells #[.int .i64 x, .int .i64 y] 31)) wB := keeps_d kB) | (have kW : Keeps (wr.alloc (.cells #[.int .i64 x, .int .i64 y] 31)) wB := keeps_ad kB)); clear kB) | (go_at_call 92; refine (fMul_any (fracB_qb fx.out) (fracB_qb fq0.out)).mono ?_; rintro e wB ⟨rfl, kB⟩; rw [H5.out]; (first | (have kZ : Bx wB (wr.heap.size + 1) 0 0 := Bx.kZ1 kB eA.out; have lz : (wr.alloc (.cells #[.int .i64 x, .int .i64 y] 31)).heap.size ≤ (wr.heap.size + 1) := (Nat.le_of_eq eA.out); obtain ⟨z1, z2, z3, z4⟩ := id kZ) | (have kZ : Bx wB (wr.heap.size + 1) 0 0 := Bx.kZ2 kB eA.out; have lz : (wr.alloc (.cells #[.int .i64 x, .int .i64 y] 31)).heap.size ≤ (wr.heap.size + 1) := (Nat.le_of_eq eA.out); obtain ⟨z1, z2, z3, z4⟩ := id kZ) | (have kZ := kZ.keeps kB; obtain ⟨z1, z2, z3, z4⟩ := id kZ) | (have kZ : Bx wB _ 0 0 := Bx.kZ2 kB rfl; have lz := kW.size; obtain ⟨z1, z2, z3, z4⟩ := id kZ) | skip); (first | (have kW : Keeps (wr.alloc (.cells #[.int .i64 x, .int .i64 y] 31)) wB := kW.trans kB) | (have kW : Keeps (wr.alloc (.cells #[.int .i64 x, .int .i64 y] 31)) wB := (kW.trans (keeps_alloc _ _)).trans kB) | (have kW : Keeps (wr.alloc (.cells #[.int .i64 x, .int .i64 y] 31)) wB := keeps_d kB) | (have kW : Keeps (wr.alloc (.cells #[.int .i64 x, .int .i64 y] 31)) wB := keeps_ad kB)); clear kB)))
          all_goals (go_wp2_with fail; go_meet; first
            | exact ⟨_, _, rfl, rfl, rfl, Bx.new _ _ _ _, kW.size, kW.trans (keeps_alloc _ _)⟩
            | exact ⟨_, _, rfl, rfl, rfl, Bx.set (x := 0) (y := 0) kZ _ _, lz, below_set2 kW lz _ _⟩)
        case rest =>
          clear kS
          clear ca13 cb13
          obtain ⟨wx12, g12, rfl, rfl, rfl, b9, lg12, kx12⟩ := hcut
          simp at lg12
          replace b2 := b2.keeps kx12
          replace b4 := b4.keeps kx12
          replace b6 := b6.keeps kx12
          replace b8 := b8.keeps kx12
          replace kw := Keeps.trans kw kx12
          clear kx12
          have lt15 := b9.lt
          have sz16 := kw.size
          cases q3
          · have HE := hid (accQ_fail HA.out (show exSt r q s1 s2 = (0, 0, false) from exSt_no hx.out H5.out) hlt)
            have HF := hid (HV.out.trans HE.out)
            obtain ⟨ca17, cb17, fa17, fb17⟩ := id b4
            go_wp2_with fail
            clear ca17 cb17 fa17 fb17
            obtain ⟨ca0, cb0, fa0, fb0⟩ := id b4
            try simp only [Exit.inBlock, Exit.then]
            refine bodyPost_ret (v := .tuple #[.agg #[.int .i64 0, .int .i64 0], .bool false]) (by simp [results, Try.results31, go_sem, ca0, cb0]) rfl ⟨ret_fb (by rw [HF.out]) (by rw [HF.out]) (by rw [HF.out]), ?_⟩
            exact below_set2 kw (p := (w.heap.size + 1)) (by omega) _ _
          · have fq := hid ((Fine.mk _ _).ok H5.out)
            obtain ⟨r1, r2, r3, H6⟩ : ∃ r1 r2 r3, Hid (mkF (s1 * q2 + q1 * s2) (s2 * q2) = (r1, r2, r3)) := ⟨_, _, _, rfl⟩
            have HS := hid ((exSt_yes (a := s1) (b := s2) hx.out H5.out).trans H6.out)
            obtain ⟨ca17, cb17, fa17, fb17⟩ := id b6
            obtain ⟨ca18, cb18, fa18, fb18⟩ := id b9
            go_wp2_with fail
            clear ca17 cb17 fa17 fb17 ca18 cb18 fa18 fb18
            refine (fAdd_any (fracB_qb HB.out) (fracB_qb fq.out)).mono ?_
            rintro e w19 ⟨rfl, k19⟩
            rw [H6.out]
            replace b2 := b2.keeps k19
            replace b4 := b4.keeps k19
            replace b6 := b6.keeps k19
            replace b8 := b8.keeps k19
            replace b9 := b9.keeps k19
            replace kw := Keeps.trans kw k19
            have lt20 := b9.lt
            have sz21 := kw.size
            clear k19
            cases r3
            · replace b2 := b2.keeps (keeps_alloc w19 (.cells #[.int .i64 r1, .int .i64 r2] 31))
              replace b4 := b4.keeps (keeps_alloc w19 (.cells #[.int .i64 r1, .int .i64 r2] 31))
              replace b6 := b6.keeps (keeps_alloc w19 (.cells #[.int .i64 r1, .int .i64 r2] 31))
              replace b8 := b8.keeps (keeps_alloc w19 (.cells #[.int .i64 r1, .int .i64 r2] 31))
              replace b9 := b9.keeps (keeps_alloc w19 (.cells #[.int .i64 r1, .int .i64 r2] 31))
              replace kw := Keeps.trans kw (keeps_alloc w19 (.cells #[.int .i64 r1, .int .i64 r2] 31))
              have b11 : Bx (w19.alloc (.cells #[.int .i64 r1, .int .i64 r2] 31)) w19.heap.size r1 r2 := Bx.new' (by simp)
              have HE := hid (accQ_fail HA.out (show exSt r q s1 s2 = (0, 0, false) from (exSt_fine _ _ _ _).bad HS.out) hlt)
              have HF := hid (HV.out.trans HE.out)
              obtain ⟨ca22, cb22, fa22, fb22⟩ := id b4
              go_wp2_with fail
              clear ca22 cb22 fa22 fb22
              obtain ⟨ca0, cb0, fa0, fb0⟩ := id b4
              try simp only [Exit.inBlock, Exit.then]
              refine bodyPost_ret (v := .tuple #[.agg #[.int .i64 0, .int .i64 0], .bool false]) (by simp [results, Try.results31, go_sem, ca0, cb0]) rfl ⟨ret_fb (by rw [HF.out]) (by rw [HF.out]) (by rw [HF.out]), ?_⟩
              exact below_set2 kw (p := (w.heap.size + 1)) (by omega) _ _
            · have fr := hid ((exSt_fine _ _ _ _).ok HS.out)
              obtain ⟨ca22, cb22, fa22, fb22⟩ := id b6
              replace b2 := b2.keeps (keeps_alloc w19 (.cells #[.int .i64 r1, .int .i64 r2] 31))
              replace b4 := b4.keeps (keeps_alloc w19 (.cells #[.int .i64 r1, .int .i64 r2] 31))
              replace b6 := b6.keeps (keeps_alloc w19 (.cells #[.int .i64 r1, .int .i64 r2] 31))
              replace b8 := b8.keeps (keeps_alloc w19 (.cells #[.int .i64 r1, .int .i64 r2] 31))
              replace b9 := b9.keeps (keeps_alloc w19 (.cells #[.int .i64 r1, .int .i64 r2] 31))
              replace kw := Keeps.trans kw (keeps_alloc w19 (.cells #[.int .i64 r1, .int .i64 r2] 31))
              have b11 : Bx (w19.alloc (.cells #[.int .i64 r1, .int .i64 r2] 31)) w19.heap.size r1 r2 := Bx.new' (by simp)
              obtain ⟨ca23, cb23, fa23, fb23⟩ := id b6
              obtain ⟨ca24, cb24, fa24, fb24⟩ := id b11
              replace b2 := b2.set2 (p := w5.heap.size) (by omega) (.int .i64 r1) (.int .i64 r2)
              replace b4 := b4.set2 (p := w5.heap.size) (by omega) (.int .i64 r1) (.int .i64 r2)
              replace b8 := b8.set2 (p := w5.heap.size) (by omega) (.int .i64 r1) (.int .i64 r2)
              replace b9 := b9.set2 (p := w5.heap.size) (by omega) (.int .i64 r1) (.int .i64 r2)
              replace b11 := b11.set2 (p := w5.heap.size) (by omega) (.int .i64 r1) (.int .i64 r2)
              replace b6 := b6.set r1 r2
              replace kw := below_set2 kw (p := w5.heap.size) (by omega) (.int .i64 r1) (.int .i64 r2)
              go_wp2_with fail
              clear ca22 cb22 fa22 fb22 ca23 cb23 fa23 fb23 ca24 cb24 fa24 fb24
              go_roundw
              case rel => exact ⟨q + 1, r1, r2, (by omega), (by go_num), accQ_next HA.out HS.out, fr.out, b2, b4, b6, kw⟩
              case measure => simp [intOf]; omega
      · obtain rfl : q = m := by omega
        have HF := hid (HV.out.trans HA.out)
        obtain ⟨ca12, cb12, fa12, fb12⟩ := id b4
        obtain ⟨ca13, cb13, fa13, fb13⟩ := id b6
        go_wp2_with fail
        clear ca12 cb12 fa12 fb12 ca13 cb13 fa13 fb13
        obtain ⟨ca0, cb0, fa0, fb0⟩ := id b4
        try simp only [Exit.inBlock, Exit.then]
        refine bodyPost_ret (v := .tuple #[.agg #[.int .i64 s1, .int .i64 s2], .bool true]) (by simp [results, Try.results31, go_sem, ca0, cb0]) rfl ⟨ret_fb (by rw [HF.out]) (by rw [HF.out]) (by rw [HF.out]), ?_⟩
        exact below_set2 kw (p := (w.heap.size + 1)) (by omega) _ _
set_option maxRecDepth 100000 in
set_option maxHeartbeats 3200000 in
theorem implExpectedOutput_any {A : Option Addr} {lo hi n c : Nat} {ll : List (List QQ)} {w : World} (h : FRows w lo hi A n ll) {i : Int} (wi : (Lit.int .i64 i).wf = true) :
    Calls Try.prog 30 #[.agg #[.slice A n c], .int .i64 i] w fun e w' => e = .returned (.tuple #[.agg #[.int .i64 (exQ ll i).1, .int .i64 (exQ ll i).2.1], .bool (exQ ll i).2.2]) ∧ Keeps w w' := by
  have hn := h.le
  have hl := h.len
  go_enter Try.func30, Try.ntmps30
  have kw := keeps_refl w
  replace kw := Keeps.trans kw (keeps_alloc w (.cells #[.slice A n c] 25))
  have b2 : B1 (w.alloc (.cells #[.slice A n c] 25)) w.heap.size (.slice A n c) := B1.new' (by simp)
  replace b2 := b2.keeps (keeps_alloc (w.alloc (.cells #[.slice A n c] 25)) (.cells #[.int .i64 0, .int .i64 0] 31))
  replace kw := Keeps.trans kw (keeps_alloc (w.alloc (.cells #[.slice A n c] 25)) (.cells #[.int .i64 0, .int .i64 0] 31))
  have b4 : Bx ((w.alloc (.cells #[.slice A n c] 25)).alloc (.cells #[.int .i64 0, .int .i64 0] 31)) (w.heap.size + 1) 0 0 := Bx.new' (by simp)
  obtain ⟨ca1, fa1⟩ := id b2
  go_wp2_with fail
  clear ca1 fa1
  obtain ⟨pH1, H1⟩ : ∃ pB, Hid (mechB ll = pB) := ⟨_, rfl⟩
  refine (IsMechanism_any (h.keeps kw)).mono ?_
  rintro e w2 ⟨rfl, k2⟩
  rw [H1.out]
  replace b2 := b2.keeps k2
  replace b4 := b4.keeps k2
  replace kw := Keeps.trans kw k2
  have lt3 := b4.lt
  have sz4 := kw.size
  clear k2
  cases pH1
  · have HF := hid (exQ_no (ll := ll) (i := i) (by unfold inp; rw [H1.out]; rfl))
    obtain ⟨ca5, fa5⟩ := id b2
    obtain ⟨ca6, cb6, fa6, fb6⟩ := id b4
    go_wp2_with fail
    clear ca5 fa5 ca6 cb6 fa6 fb6
    obtain ⟨ca0, cb0, fa0, fb0⟩ := id b4
    try simp only [Exit.inBlock, Exit.then]
    refine bodyPost_ret (v := .tuple #[.agg #[.int .i64 0, .int .i64 0], .bool false]) (by simp [results, Try.results30, go_sem, ca0, cb0]) rfl ⟨ret_fb (by rw [HF.out]) (by rw [HF.out]) (by rw [HF.out]), ?_⟩
    exact below_set2 kw (p := (w.heap.size + 1)) (by omega) _ _
  · skip
    obtain ⟨ca5, fa5⟩ := id b2
    go_wp2_with fail
    clear ca5 fa5
    obtain ⟨pH2, H2⟩ : ∃ pB, Hid (inB i 0 ((n : Int) - 1) = pB) := ⟨_, rfl⟩
    refine (isInput_any hn).mono ?_
    rintro e w6 ⟨rfl, k6⟩
    rw [H2.out]
    replace b2 := b2.keeps k6
    replace b4 := b4.keeps k6
    replace kw := Keeps.trans kw k6
    have lt7 := b4.lt
    have sz8 := kw.size
    clear k6
    cases pH2
    · have HF := hid (exQ_no (ll := ll) (i := i) (by unfold inp; rw [hl, H1.out, H2.out]; rfl))
      obtain ⟨ca9, fa9⟩ := id b2
      obtain ⟨ca10, cb10, fa10, fb10⟩ := id b4
      go_wp2_with fail
      clear ca9 fa9 ca10 cb10 fa10 fb10
      obtain ⟨ca0, cb0, fa0, fb0⟩ := id b4
      try simp only [Exit.inBlock, Exit.then]
      refine bodyPost_ret (v := .tuple #[.agg #[.int .i64 0, .int .i64 0], .bool false]) (by simp [results, Try.results30, go_sem, ca0, cb0]) rfl ⟨ret_fb (by rw [HF.out]) (by rw [HF.out]) (by rw [HF.out]), ?_⟩
      exact below_set2 kw (p := (w.heap.size + 1)) (by omega) _ _
    · skip
      have HI := hid (show inp ll i i = true by unfold inp; rw [hl, H1.out, H2.out]; rfl)
      have hin := inp_true HI.out
      rw [hl] at hin
      obtain ⟨i, rfl⟩ : ∃ j : Nat, i = j := ⟨i.toNat, by omega⟩
      have hiN : i < n := by omega
      have htop := h.top
      obtain ⟨b, off, A1, m, c1, rfl, hlb, hub, hci, hri⟩ := h.at_ hiN
      have hml := Fracs.len hri
      obtain ⟨r, HR⟩ : ∃ r, Hid (ll.getD i [] = r) := ⟨_, rfl⟩
      rw [HR.out] at hri hml
      have hmle := hri.le
      have HFR := hid (show ∀ j x y, j < m → (x, y) = r.getD j (0, 0) → fracB x y = true from fun j x y hj hx => (mechB_at hin.1 (i := i) (k := j) (by omega) (by rw [HR.out]; omega) (by rw [HR.out]; exact hx)).1)
      have hi1 : (i : Int) < (n : Int) := by omega
      have HL := hid hml
      clear hml hin
      have HV := hid (exQ_yes HI.out)
      rw [HR.out, HL.out] at HV
      obtain ⟨ca9, fa9⟩ := id b2
      replace b2 := b2.keeps (keeps_alloc w6 (.cells #[.int .i64 0, .int .i64 1] 31))
      replace b4 := b4.keeps (keeps_alloc w6 (.cells #[.int .i64 0, .int .i64 1] 31))
      replace kw := Keeps.trans kw (keeps_alloc w6 (.cells #[.int .i64 0, .int .i64 1] 31))
      have b6 : Bx (w6.alloc (.cells #[.int .i64 0, .int .i64 1] 31)) w6.heap.size 0 1 := Bx.new' (by simp)
      obtain ⟨ca10, fa10⟩ := id b2
      have ci := cell_keeps hci kw
      go_wp2_with fail
      clear ca9 fa9 ca10 fa10
      clear ci
      go_loopw [28] (fun si wr => ∃ (q : Nat) (s1 : Int) (s2 : Int), q ≤ m ∧ si = .int .i64 q ∧ Hid (accQ (exSt r) 0 1 q = (s1, s2, true)) ∧ Hid (fracB s1 s2 = true) ∧ B1 wr w.heap.size (.slice (some ⟨b, off, none⟩) n c) ∧ Bx wr (w.heap.size + 1) 0 0 ∧ Bx wr w6.heap.size s1 s2 ∧ Keeps w wr) (fun si _ => m - (intOf si).toNat)
      case atStart => exact ⟨0, 0, 1, Nat.zero_le _, rfl, rfl, fracB_01, b2, b4, b6, kw⟩
      clear kw b2 b4 b6 
      case round =>
        obtain ⟨q, s1, s2, hq, rfl, HA, HB, b2, b4, b6, kw⟩ := hrel
        have lt11 := b6.lt
        have sz12 := kw.size
        by_cases hlt : q < m
        · obtain ⟨ba, oa, x, y, rfl, _, hb, hc, hd, hx⟩ := Fracs.at_ (Sl.keeps hri kw) hlt
          have hq : (q : Int) < (m : Int) := by omega
          have fx := hid (HFR.out q x y hlt hx.out)
          have fq0 := hid (fracB_int (n := (q : Int)) (by omega))
          obtain ⟨q1, q2, q3, H5⟩ : ∃ q1 q2 q3, Hid (mkF (x * (q : Int)) (y * 1) = (q1, q2, q3)) := ⟨_, _, _, rfl⟩
          have H5' := hid (show mkF ((q : Int) * x) (1 * y) = (q1, q2, q3) by rw [Int.mul_comm (q : Int) x, Int.mul_comm 1 y]; exact H5.out)
          replace b2 := b2.keeps (keeps_alloc wr (.cells #[.int .i64 x, .int .i64 y] 31))
          replace b4 := b4.keeps (keeps_alloc wr (.cells #[.int .i64 x, .int .i64 y] 31))
          replace b6 := b6.keeps (keeps_alloc wr (.cells #[.int .i64 x, .int .i64 y] 31))
          replace kw := Keeps.trans kw (keeps_alloc wr (.cells #[.int .i64 x, .int .i64 y] 31))
          have b8 : Bx (wr.alloc (.cells #[.int .i64 x, .int .i64 y] 31)) wr.heap.size x y := Bx.new' (by simp)
          obtain ⟨ca13, cb13, fa13, fb13⟩ := id b8
          go_wp2_with fail
          clear ca13 cb13 fa13 fb13
          clear hc hd
          refine (MulFrac_any fq0.out fx.out).mono ?_
          rintro e w14 ⟨rfl, k14⟩
          rw [H5'.out]
          replace b2 := b2.keeps k14
          replace b4 := b4.keeps k14
          replace b6 := b6.keeps k14
          replace b8 := b8.keeps k14
          replace kw := Keeps.trans kw k14
          have lt15 := b8.lt
          have sz16 := kw.size
          clear k14
          replace b2 := b2.keeps (keeps_alloc w14 (.cells #[.int .i64 q1, .int .i64 q2] 31))
          replace b4 := b4.keeps (keeps_alloc w14 (.cells #[.int .i64 q1, .int .i64 q2] 31))
          replace b6 := b6.keeps (keeps_alloc w14 (.cells #[.int .i64 q1, .int .i64 q2] 31))
          replace b8 := b8.keeps (keeps_alloc w14 (.cells #[.int .i64 q1, .int .i64 q2] 31))
          replace kw := Keeps.trans kw (keeps_alloc w14 (.cells #[.int .i64 q1, .int .i64 q2] 31))
          have b9 : Bx (w14.alloc (.cells #[.int .i64 q1, .int .i64 q2] 31)) w14.heap.size q1 q2 := Bx.new' (by simp)
          cases q3
          · have HE := hid (accQ_fail HA.out (show exSt r q s1 s2 = (0, 0, false) from exSt_no hx.out H5.out) hlt)
            have HF := hid (HV.out.trans HE.out)
            obtain ⟨ca17, cb17, fa17, fb17⟩ := id b4
            go_wp2_with fail
            clear ca17 cb17 fa17 fb17
            obtain ⟨ca0, cb0, fa0, fb0⟩ := id b4
            try simp only [Exit.inBlock, Exit.then]
            refine bodyPost_ret (v := .tuple #[.agg #[.int .i64 0, .int .i64 0], .bool false]) (by simp [results, Try.results30, go_sem, ca0, cb0]) rfl ⟨ret_fb (by rw [HF.out]) (by rw [HF.out]) (by rw [HF.out]), ?_⟩
            exact below_set2 kw (p := (w.heap.size + 1)) (by omega) _ _
          · have fq := hid ((Fine.mk _ _).ok H5.out)
            obtain ⟨r1, r2, r3, H6⟩ : ∃ r1 r2 r3, Hid (mkF (s1 * q2 + q1 * s2) (s2 * q2) = (r1, r2, r3)) := ⟨_, _, _, rfl⟩
            have HS := hid ((exSt_yes (a := s1) (b := s2) hx.out H5.out).trans H6.out)
            obtain ⟨ca17, cb17, fa17, fb17⟩ := id b6
            obtain ⟨ca18, cb18, fa18, fb18⟩ := id b9
            go_wp2_with fail
            clear ca17 cb17 fa17 fb17 ca18 cb18 fa18 fb18
            refine (AddFrac_any HB.out fq.out).mono ?_
            rintro e w19 ⟨rfl, k19⟩
            rw [H6.out]
            replace b2 := b2.keeps k19
            replace b4 := b4.keeps k19
            replace b6 := b6.keeps k19
            replace b8 := b8.keeps k19
            replace b9 := b9.keeps k19
            replace kw := Keeps.trans kw k19
            have lt20 := b9.lt
            have sz21 := kw.size
            clear k19
            cases r3
            · obtain ⟨ca22, cb22, fa22, fb22⟩ := id b6
              replace b2 := b2.set2 (p := w6.heap.size) (by omega) (.int .i64 r1) (.int .i64 r2)
              replace b4 := b4.set2 (p := w6.heap.size) (by omega) (.int .i64 r1) (.int .i64 r2)
              replace b8 := b8.set2 (p := w6.heap.size) (by omega) (.int .i64 r1) (.int .i64 r2)
              replace b9 := b9.set2 (p := w6.heap.size) (by omega) (.int .i64 r1) (.int .i64 r2)
              replace b6 := b6.set r1 r2
              replace kw := below_set2 kw (p := w6.heap.size) (by omega) (.int .i64 r1) (.int .i64 r2)
              obtain ⟨ca23, cb23, fa23, fb23⟩ := id b4
              have HE := hid (accQ_fail HA.out (show exSt r q s1 s2 = (0, 0, false) from (exSt_fine _ _ _ _).bad HS.out) hlt)
              have HF := hid (HV.out.trans HE.out)
              obtain ⟨ca24, cb24, fa24, fb24⟩ := id b4
              go_wp2_with fail
              clear ca22 cb22 fa22 fb22 ca23 cb23 fa23 fb23 ca24 cb24 fa24 fb24
              obtain ⟨ca0, cb0, fa0, fb0⟩ := id b4
              try simp only [Exit.inBlock, Exit.then]
              refine bodyPost_ret (v := .tuple #[.agg #[.int .i64 0, .int .i64 0], .bool false]) (by simp [results, Try.results30, go_sem, ca0, cb0]) rfl ⟨ret_fb (by rw [HF.out]) (by rw [HF.out]) (by rw [HF.out]), ?_⟩
              exact below_set2 kw (p := (w.heap.size + 1)) (by omega) _ _
            · have fr := hid ((exSt_fine _ _ _ _).ok HS.out)
              obtain ⟨ca22, cb22, fa22, fb22⟩ := id b6
              replace b2 := b2.set2 (p := w6.heap.size) (by omega) (.int .i64 r1) (.int .i64 r2)
              replace b4 := b4.set2 (p := w6.heap.size) (by omega) (.int .i64 r1) (.int .i64 r2)
              replace b8 := b8.set2 (p := w6.heap.size) (by omega) (.int .i64 r1) (.int .i64 r2)
              replace b9 := b9.set2 (p := w6.heap.size) (by omega) (.int .i64 r1) (.int .i64 r2)
              replace b6 := b6.set r1 r2
              replace kw := below_set2 kw (p := w6.heap.size) (by omega) (.int .i64 r1) (.int .i64 r2)
              go_wp2_with fail
              clear ca22 cb22 fa22 fb22
              go_roundw
              case rel => exact ⟨q + 1, r1, r2, (by omega), (by go_num), accQ_next HA.out HS.out, fr.out, b2, b4, b6, kw⟩
              case measure => simp [intOf]; omega
        · obtain rfl : q = m := by omega
          have HF := hid (HV.out.trans HA.out)
          obtain ⟨ca13, cb13, fa13, fb13⟩ := id b4
          obtain ⟨ca14, cb14, fa14, fb14⟩ := id b6
          go_wp2_with fail
          clear ca13 cb13 fa13 fb13 ca14 cb14 fa14 fb14
          obtain ⟨ca0, cb0, fa0, fb0⟩ := id b4
          try simp only [Exit.inBlock, Exit.then]
          refine bodyPost_ret (v := .tuple #[.agg #[.int .i64 s1, .int .i64 s2], .bool true]) (by simp [results, Try.results30, go_sem, ca0, cb0]) rfl ⟨ret_fb (by rw [HF.out]) (by rw [HF.out]) (by rw [HF.out]), ?_⟩
          exact below_set2 kw (p := (w.heap.size + 1)) (by omega) _ _
end Go.Proofs.Ytnopedjgagoahaa
