/- Fractions that can be rounded: areRoundable, wShort, wFew; squares of differences: squareOf, wSquare. -/
import Derived.Test.YtkpliolafkdijaaFops
namespace Go.Proofs.Ytkpliolafkdijaa
open Go.RowKit
set_option linter.unusedVariables false
set_option linter.unusedSimpArgs false

theorem box2 {w w' : World} {x y : Value} {t : TypeId} (k : Keeps (w.alloc (.cells #[x, y] t)) w') :
    w'.cell? ⟨w.heap.size, 0, none⟩ = some x ∧ w'.cell? ⟨w.heap.size, 1, none⟩ = some y ∧ w'.frozen? ⟨w.heap.size, 0, none⟩ = false ∧ w'.frozen? ⟨w.heap.size, 1, none⟩ = false := by
  have c1 := k.cell (p := ⟨w.heap.size, 0, none⟩) (by simp)
  have c2 := k.cell (p := ⟨w.heap.size, 1, none⟩) (by simp)
  have f1 := k.frozen (p := ⟨w.heap.size, 0, none⟩) (by simp)
  have f2 := k.frozen (p := ⟨w.heap.size, 1, none⟩) (by simp)
  simp [go_sem] at c1 c2 f1 f2
  exact ⟨c1, c2, f1, f2⟩
/-- Block g holds a fraction that may be written. -/
def Bx (w : World) (g : Nat) (x y : Int) : Prop :=
  w.cell? ⟨g, 0, none⟩ = some (.int .i64 x) ∧ w.cell? ⟨g, 1, none⟩ = some (.int .i64 y) ∧ w.frozen? ⟨g, 0, none⟩ = false ∧ w.frozen? ⟨g, 1, none⟩ = false
theorem Bx.lt {w : World} {g : Nat} {x y : Int} (h : Bx w g x y) : g < w.heap.size := World.block_lt_of_cell? w _ h.1
theorem Bx.below {w w' : World} {g B : Nat} {x y : Int} (h : Bx w g x y) (k : Below B w w') (hg : g < B) : Bx w' g x y := by
  have e := k.block g hg
  exact ⟨(World.cell?_of_block (w := w) e).trans h.1, (World.cell?_of_block (w := w) e).trans h.2.1, (World.frozen?_of_block (w := w) e).trans h.2.2.1, (World.frozen?_of_block (w := w) e).trans h.2.2.2⟩
theorem Bx.keeps {w w' : World} {g : Nat} {x y : Int} (h : Bx w g x y) (k : Keeps w w') : Bx w' g x y := h.below k h.lt
theorem Bx.new (w : World) (x y : Int) (t : TypeId) : Bx (w.alloc (.cells #[.int .i64 x, .int .i64 y] t)) w.heap.size x y := box2 (keeps_refl _)

theorem all_true {p : Int × Int → Bool} {l : List (Int × Int)} : l.all p = true ↔ ∀ j, j < l.length → p (l.getD j (0, 0)) = true := by
  simp only [List.all_eq_true]
  constructor
  · intro h j hj
    have := h l[j] (List.getElem_mem hj)
    simpa [List.getD, hj] using this
  · intro h x hx
    obtain ⟨j, hj, rfl⟩ := List.getElem_of_mem hx
    simpa [List.getD, hj] using h j hj
theorem all_no {p : Int × Int → Bool} {l : List (Int × Int)} {k : Nat} {f : Int × Int} (hk : k < l.length) (hf : f = l.getD k (0, 0)) (h : p f = false) : l.all p = false := by
  rw [Bool.eq_false_iff]; intro h1; have := all_true.1 h1 k hk; rw [← hf, h] at this; cases this
def AllTo (p : Int × Int → Bool) (l : List (Int × Int)) (k : Nat) : Prop := ∀ j, j < k → p (l.getD j (0, 0)) = true
theorem allTo_succ {p : Int × Int → Bool} {l : List (Int × Int)} {k : Nat} {f : Int × Int} (h : AllTo p l k) (hf : f = l.getD k (0, 0)) (h1 : p f = true) : AllTo p l (k + 1) := by
  intro j hj
  by_cases hjk : j = k
  · subst hjk; rw [← hf]; exact h1
  · exact h j (by omega)
def shortQ (f : Int × Int) : Bool := fracB f.1 f.2 && inB f.1 (-5000 * f.2) (5000 * f.2)
def fewQ (f : Int × Int) : Bool := decide (f.2 ≤ 1000000)
def rdQ (f : Int × Int) : Bool := shortQ f && fewQ f
/-- 1 to 30 fractions that can be rounded. -/
def roundB (l : List (Int × Int)) : Bool := inB l.length 1 30 && l.all rdQ
theorem roundB_split (l : List (Int × Int)) : roundB l = ((l.all shortQ && inB l.length 1 30) && l.all fewQ) := by
  have : l.all rdQ = (l.all shortQ && l.all fewQ) := by
    unfold rdQ
    induction l with
    | nil => rfl
    | cons a t ih => simp only [List.all_cons, ih]; cases shortQ a <;> cases fewQ a <;> simp
  rw [roundB, this]
  cases inB l.length 1 30 <;> simp

set_option maxHeartbeats 800000 in
theorem wFew_any {A : Option Addr} {lo hi n c : Nat} {l : List (Int × Int)} {w : World} (h : Fracs w lo hi A n l) :
    Calls Try.prog 95 #[.slice A n c] w fun e w' => e = .returned (.bool (l.all fewQ)) ∧ Keeps w w' := by
  have hn := h.le
  have hl := Fracs.len h
  go_enter Try.func95, Try.ntmps95
  go_wp2_with fail
  go_loopw [7] (fun i wr => ∃ k : Nat, k ≤ n ∧ i = .int .i64 k ∧ Hid (AllTo fewQ l k) ∧ Keeps w wr) (fun i _ => n - (intOf i).toNat)
  case atStart => exact ⟨0, Nat.zero_le _, rfl, fun j hj => absurd hj (by omega), keeps_refl _⟩
  case round =>
    obtain ⟨k, hk, rfl, HA, hkeep⟩ := hrel
    by_cases hlt : k < n
    · obtain ⟨b, off, x, y, rfl, _, _, hc, hd, hx⟩ := Fracs.at_ (h.keeps hkeep) hlt
      have hi1 : (k : Int) < (n : Int) := by omega
      have k0 := hid (hkeep.trans (keeps_alloc wr (.cells #[.int .i64 x, .int .i64 y] 41)))
      clear hkeep
      by_cases h1 : y ≤ 1000000
      · have HP := hid (show fewQ (x, y) = true from decide_eq_true h1)
        go_wp2_with fail
        go_roundw
        case rel => exact ⟨k + 1, by omega, by go_num, allTo_succ HA.out hx.out HP.out, k0.out⟩
        case measure => simp [intOf]; omega
      · have HP := hid (show fewQ (x, y) = false from decide_eq_false h1)
        have HF := hid (all_no (by omega) hx.out HP.out)
        go_wp2_with fail
        go_ret
        exact ⟨ret_bool HF.out.symm, k0.out⟩
    · obtain rfl : k = n := by omega
      have HE := hid (show l.all fewQ = true from all_true.2 (by rw [hl]; exact HA.out))
      go_wp2; go_ret; exact ⟨ret_bool HE.out.symm, hkeep⟩
set_option maxHeartbeats 1600000 in
theorem wShort_any {A : Option Addr} {lo hi n c : Nat} {l : List (Int × Int)} {w : World} (h : Fracs w lo hi A n l) :
    Calls Try.prog 94 #[.slice A n c] w fun e w' => e = .returned (.bool (l.all shortQ && inB n 1 30)) ∧ Keeps w w' := by
  have hn := h.le
  have hl := Fracs.len h
  go_enter Try.func94, Try.ntmps94
  go_wp2_with fail
  go_loopw [7] (fun i wr => ∃ k : Nat, k ≤ n ∧ i = .int .i64 k ∧ Hid (AllTo shortQ l k) ∧ Keeps w wr) (fun i _ => n - (intOf i).toNat)
  case atStart => exact ⟨0, Nat.zero_le _, rfl, fun j hj => absurd hj (by omega), keeps_refl _⟩
  case round =>
    obtain ⟨k, hk, rfl, HA, hkeep⟩ := hrel
    by_cases hlt : k < n
    · obtain ⟨b, off, x, y, rfl, _, _, hc, hd, hx⟩ := Fracs.at_ (h.keeps hkeep) hlt
      have hi1 : (k : Int) < (n : Int) := by omega
      have k0 := hid (hkeep.trans (keeps_alloc wr (.cells #[.int .i64 x, .int .i64 y] 41)))
      clear hkeep
      cases h1 : fracB x y with
      | false =>
        have HP := hid (show shortQ (x, y) = false by simp [shortQ, h1])
        have HF := hid (all_no (by omega) hx.out HP.out)
        have H1 := hid h1
        clear h1
        go_wp2_with fail
        refine (fGood_any).mono ?_
        rintro e w1 ⟨rfl, k1⟩
        rw [H1.out]
        obtain ⟨b1, b2, _, _⟩ := box2 k1
        replace k0 := hid (k0.out.trans k1)
        clear k1
        go_wp2_with fail
        go_ret
        exact ⟨ret_bool (by rw [HF.out]; rfl), k0.out⟩
      | true =>
        have hq := fracB_qb h1
        have hq2 := hq.2
        have H1 := hid h1
        clear h1
        cases h2 : inB x (-5000 * y) (5000 * y) with
        | false =>
          have HP := hid (show shortQ (x, y) = false by simp [shortQ, h2])
          have HF := hid (all_no (by omega) hx.out HP.out)
          have H2 := hid h2
          clear h2
          go_wp2_with fail
          refine (fGood_any).mono ?_
          rintro e w1 ⟨rfl, k1⟩
          rw [H1.out]
          obtain ⟨b1, b2, _, _⟩ := box2 k1
          replace k0 := hid (k0.out.trans k1)
          clear k1
          go_wp2_with fail
          refine (l1In_any _ _ _ _).mono ?_
          rintro e w2 ⟨rfl, rfl⟩
          rw [H2.out]
          go_wp2_with fail
          go_ret
          exact ⟨ret_bool (by rw [HF.out]; rfl), k0.out⟩
        | true =>
          have HP := hid (show shortQ (x, y) = true by simp [shortQ, h2, H1.out])
          have H2 := hid h2
          clear h2
          go_wp2_with fail
          refine (fGood_any).mono ?_
          rintro e w1 ⟨rfl, k1⟩
          rw [H1.out]
          obtain ⟨b1, b2, _, _⟩ := box2 k1
          replace k0 := hid (k0.out.trans k1)
          clear k1
          go_wp2_with fail
          refine (l1In_any _ _ _ _).mono ?_
          rintro e w2 ⟨rfl, rfl⟩
          rw [H2.out]
          go_wp2_with fail
          go_roundw
          case rel => exact ⟨k + 1, by omega, by go_num, allTo_succ HA.out hx.out HP.out, k0.out⟩
          case measure => simp [intOf]; omega
    · obtain rfl : k = n := by omega
      have HE := hid (show l.all shortQ = true from all_true.2 (by rw [hl]; exact HA.out))
      go_wp2_with fail; refine (l1In_any _ _ _ _).mono ?_; rintro e w2 ⟨rfl, rfl⟩; go_wp2_with fail; go_ret; exact ⟨ret_bool (by rw [HE.out]; rfl), hkeep⟩
set_option maxHeartbeats 1600000 in
theorem areRoundable_any {A : Option Addr} {lo hi n c : Nat} {l : List (Int × Int)} {w : World} (h : Fracs w lo hi A n l) :
    Calls Try.prog 98 #[.slice A n c] w fun e w' => e = .returned (.bool (roundB l)) ∧ Keeps w w' := by
  have hn := h.le
  have hl := Fracs.len h
  by_cases g1 : 1 ≤ n
  rotate_left
  · have HF := hid (show roundB l = false by rw [roundB, inB_false.2 (by omega)]; rfl)
    have hi1 : (n : Int) < 1 := by omega
    go_enter Try.func98, Try.ntmps98
    go_wp2
    go_ret
    exact ⟨ret_bool HF.out.symm, keeps_refl _⟩
  by_cases g2 : n ≤ 30
  rotate_left
  · have HF := hid (show roundB l = false by rw [roundB, inB_false.2 (by omega)]; rfl)
    have hi1 : ¬ (n : Int) < 1 := by omega
    have hi2 : (30 : Int) < (n : Int) := by omega
    go_enter Try.func98, Try.ntmps98
    go_wp2
    go_ret
    exact ⟨ret_bool HF.out.symm, keeps_refl _⟩
  have hi1 : ¬ (n : Int) < 1 := by omega
  have hi2 : ¬ (30 : Int) < (n : Int) := by omega
  go_enter Try.func98, Try.ntmps98
  go_wp2_with fail
  go_loopw [15] (fun i wr => ∃ k : Nat, k ≤ n ∧ i = .int .i64 k ∧ Hid (AllTo rdQ l k) ∧ Keeps w wr) (fun i _ => n - (intOf i).toNat)
  case atStart => exact ⟨0, Nat.zero_le _, rfl, fun j hj => absurd hj (by omega), keeps_refl _⟩
  case round =>
    obtain ⟨k, hk, rfl, HA, hkeep⟩ := hrel
    by_cases hlt : k < n
    · obtain ⟨b, off, x, y, rfl, _, _, hc, hd, hx⟩ := Fracs.at_ (h.keeps hkeep) hlt
      have hi1 : (k : Int) < (n : Int) := by omega
      have k0 := hid (hkeep.trans (keeps_alloc wr (.cells #[.int .i64 x, .int .i64 y] 41)))
      clear hkeep
      cases h1 : fracB x y with
      | false =>
        have HP := hid (show rdQ (x, y) = false by simp [rdQ, shortQ, h1])
        have H1 := hid h1
        clear h1
        have HF := hid (all_no (by omega) hx.out HP.out)
        go_wp2_with fail
        refine (IsFrac_any).mono ?_
        rintro e w1 ⟨rfl, k1⟩
        rw [H1.out]
        obtain ⟨b1, b2, _, _⟩ := box2 k1
        replace k0 := hid (k0.out.trans k1)
        clear k1
        go_wp2_with fail
        go_ret
        exact ⟨ret_bool (by rw [roundB, HF.out, Bool.and_false]), k0.out⟩
      | true =>
        have hq := fracB_qb h1
        have hq1 := hq.1
        have hq2 := hq.2
        have H1 := hid h1
        clear h1
        by_cases h2 : y ≤ 1000000
        rotate_left
        · have HP := hid (show rdQ (x, y) = false by simp [rdQ, fewQ, h2])
          have HF := hid (all_no (by omega) hx.out HP.out)
          go_wp2_with fail
          refine (IsFrac_any).mono ?_
          rintro e w1 ⟨rfl, k1⟩
          rw [H1.out]
          obtain ⟨b1, b2, _, _⟩ := box2 k1
          replace k0 := hid (k0.out.trans k1)
          clear k1
          go_wp2_with fail
          go_ret
          exact ⟨ret_bool (by rw [roundB, HF.out, Bool.and_false]), k0.out⟩
        by_cases h3 : inB x (-5000 * y) (5000 * y) = true
        rotate_left
        · have h4 := inB_false.1 (by simpa using h3)
          have HP := hid (show rdQ (x, y) = false by simp [rdQ, shortQ, h3])
          clear h3
          by_cases s : x < -x
          · have h5 : 5000 * y < -x := by omega
            have HF := hid (all_no (by omega) hx.out HP.out)
            go_wp2_with fail
            refine (IsFrac_any).mono ?_
            rintro e w1 ⟨rfl, k1⟩
            rw [H1.out]
            obtain ⟨b1, b2, _, _⟩ := box2 k1
            replace k0 := hid (k0.out.trans k1)
            clear k1
            go_wp2_with fail
            go_ret
            exact ⟨ret_bool (by rw [roundB, HF.out, Bool.and_false]), k0.out⟩
          · have h5 : 5000 * y < x := by omega
            have HF := hid (all_no (by omega) hx.out HP.out)
            go_wp2_with fail
            refine (IsFrac_any).mono ?_
            rintro e w1 ⟨rfl, k1⟩
            rw [H1.out]
            obtain ⟨b1, b2, _, _⟩ := box2 k1
            replace k0 := hid (k0.out.trans k1)
            clear k1
            go_wp2_with fail
            go_ret
            exact ⟨ret_bool (by rw [roundB, HF.out, Bool.and_false]), k0.out⟩
        have h4 := inB_true.1 h3
        have HP := hid (show rdQ (x, y) = true by simp [rdQ, shortQ, fewQ, h3, h2, H1.out])
        clear h3
        by_cases s : x < -x
        · have h5 : ¬ 5000 * y < -x := by omega
          go_wp2_with fail
          refine (IsFrac_any).mono ?_
          rintro e w1 ⟨rfl, k1⟩
          rw [H1.out]
          obtain ⟨b1, b2, _, _⟩ := box2 k1
          replace k0 := hid (k0.out.trans k1)
          clear k1
          go_wp2_with fail
          go_roundw
          case rel => exact ⟨k + 1, by omega, by go_num, allTo_succ HA.out hx.out HP.out, k0.out⟩
          case measure => simp [intOf]; omega
        · have h5 : ¬ 5000 * y < x := by omega
          go_wp2_with fail
          refine (IsFrac_any).mono ?_
          rintro e w1 ⟨rfl, k1⟩
          rw [H1.out]
          obtain ⟨b1, b2, _, _⟩ := box2 k1
          replace k0 := hid (k0.out.trans k1)
          clear k1
          go_wp2_with fail
          go_roundw
          case rel => exact ⟨k + 1, by omega, by go_num, allTo_succ HA.out hx.out HP.out, k0.out⟩
          case measure => simp [intOf]; omega
    · obtain rfl : k = n := by omega
      have HE := hid (show l.all rdQ = true from all_true.2 (by rw [hl]; exact HA.out))
      go_wp2; go_ret; exact ⟨ret_bool (by rw [roundB, HE.out, inB_true.2 (by omega)]; rfl), hkeep⟩
end Go.Proofs.Ytkpliolafkdijaa
