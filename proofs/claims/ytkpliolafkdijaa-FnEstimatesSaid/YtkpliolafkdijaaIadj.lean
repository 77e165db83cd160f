/- iAdjust, of the reference: the nearest integers within bounds that have a sum. -/
import Derived.Test.YtkpliolafkdijaaAdj
namespace Go.Proofs.Ytkpliolafkdijaa
open Go.RowKit
set_option linter.unusedVariables false
set_option linter.unusedSimpArgs false

def boolOf : Value → Nat | .bool true => 1 | _ => 0
def stepV (d s : Int) : Int := (d + s) * (d + s) - d * d
theorem stepV_up (d : Int) : stepV d 1 = 2 * d + 1 := by unfold stepV; rw [Int.add_mul, Int.mul_add]; omega
theorem stepV_dn (d : Int) : stepV d (-1) = -2 * d + 1 := by unfold stepV; rw [Int.add_mul, Int.mul_add]; omega
def dif (xs vs : List Int) (j : Nat) : Int := xs.getD j 0 - vs.getD j 0
theorem dif_fn (xs vs : List Int) (j : Nat) : dif xs vs j = fn xs j - fn vs j := rfl

set_option maxHeartbeats 800000 in
theorem iStep_any {A A1 : Option Addr} {l h l1 h1 n c c1 j : Nat} {vs xs : List Int} {s : Int} {w : World} (ha : Ints w l h A n vs) (hb : Ints w l1 h1 A1 n xs) (hj : j < n)
    (bv : Bd 1000000 vs) (bx : Bd 1000000 xs) (hs : -1 ≤ s ∧ s ≤ 1) :
    Calls Try.prog 213 #[.slice A n c, .slice A1 n c1, .int .i64 (j : Int), .int .i64 s] w fun e w' => e = .returned (.int .i64 (stepV (dif xs vs j) s)) ∧ Quiet w w' := by
  have hn := ha.le
  obtain ⟨b, off, v, rfl, _, _, hv0, hv⟩ := ha.at_ hj
  obtain ⟨b1, off1, x, rfl, _, _, hx0, hx⟩ := hb.at_ hj
  have hj1 : (j : Int) < (n : Int) := by omega
  have bv1 := bv j
  have bx1 := bx j
  rw [← hv.out] at bv1
  rw [← hx.out] at bx1
  have q1 := sq_bd (x := x - v + s) (B := 2000001) (by omega)
  have q2 := sq_bd (x := x - v) (B := 2000000) (by omega)
  have E := hid (show stepV (dif xs vs j) s = (x - v + s) * (x - v + s) - (x - v) * (x - v) by unfold dif stepV; rw [← hx.out, ← hv.out])
  clear bv bx hx hv
  go_enter Try.func213, Try.ntmps213
  go_wp2_with fail
  go_quiet (fail)
  go_wp2
  go_ret
  exact ⟨ret_int E.out.symm, Quiet.drewN _ _⟩
/-- The index of the best of the first k for a step up. -/
def BestUp (v hi x : Nat → Int) (k : Nat) (bst : Int) : Prop :=
  (bst = -1 ∧ ∀ i, i < k → hi i ≤ x i) ∨
  ∃ m : Nat, bst = m ∧ m < k ∧ x m < hi m ∧ (∀ i, i < k → x i < hi i → x m - v m ≤ x i - v i) ∧ (∀ i, i < m → x i < hi i → x m - v m < x i - v i)
def BestDn (v lo x : Nat → Int) (k : Nat) (bst : Int) : Prop :=
  (bst = -1 ∧ ∀ i, i < k → x i ≤ lo i) ∨
  ∃ m : Nat, bst = m ∧ m < k ∧ lo m < x m ∧ (∀ i, i < k → lo i < x i → x i - v i ≤ x m - v m) ∧ (∀ i, m < i → i < k → lo i < x i → x i - v i < x m - v m)
section
variable {v lo hi x : Nat → Int} {k m : Nat} {bst : Int}
theorem below_k {P : Nat → Prop} {k : Nat} (hk : P k) (h : ∀ i, i < k → P i) : ∀ i, i < k + 1 → P i := by
  intro i hi
  by_cases e : i = k
  · subst e; exact hk
  · exact h i (by omega)
theorem bestUp_skip (h : BestUp v hi x k bst) (hk : hi k ≤ x k) : BestUp v hi x (k + 1) bst := by
  rcases h with ⟨h1, h2⟩ | ⟨m, h1, h2, h3, h4, h5⟩
  · exact .inl ⟨h1, below_k (P := fun i => hi i ≤ x i) hk h2⟩
  · exact .inr ⟨m, h1, by omega, h3, below_k (P := fun i => x i < hi i → x m - v m ≤ x i - v i) (fun _ => by omega) h4, h5⟩
theorem bestUp_first (h : BestUp v hi x k (-1)) (hk : x k < hi k) : BestUp v hi x (k + 1) (k : Int) := by
  rcases h with ⟨h1, h2⟩ | ⟨m, h1, _⟩
  · exact .inr ⟨k, rfl, by omega, hk, below_k (P := fun i => x i < hi i → x k - v k ≤ x i - v i) (fun _ => Int.le_refl _) (fun i hi' hx => by have := h2 i hi'; omega), fun i hi' hx => by have := h2 i hi'; omega⟩
  · omega
theorem bestUp_keep (h : BestUp v hi x k (m : Int)) (hk : x m - v m ≤ x k - v k) : BestUp v hi x (k + 1) (m : Int) := by
  rcases h with ⟨h1, h2⟩ | ⟨m', h1, h2, h3, h4, h5⟩
  · omega
  · obtain rfl : m = m' := by omega
    exact .inr ⟨m, rfl, by omega, h3, below_k (P := fun i => x i < hi i → x m - v m ≤ x i - v i) (fun _ => hk) h4, h5⟩
theorem bestUp_take (h : BestUp v hi x k (m : Int)) (hx : x k < hi k) (hk : x k - v k < x m - v m) : BestUp v hi x (k + 1) (k : Int) := by
  rcases h with ⟨h1, h2⟩ | ⟨m', h1, h2, h3, h4, h5⟩
  · omega
  · obtain rfl : m = m' := by omega
    exact .inr ⟨k, rfl, by omega, hx, below_k (P := fun i => x i < hi i → x k - v k ≤ x i - v i) (fun _ => Int.le_refl _) (fun i hi' hxi => by have := h4 i hi' hxi; omega), fun i hi' hxi => by have := h4 i hi' hxi; omega⟩
theorem bestDn_skip (h : BestDn v lo x k bst) (hk : x k ≤ lo k) : BestDn v lo x (k + 1) bst := by
  rcases h with ⟨h1, h2⟩ | ⟨m, h1, h2, h3, h4, h5⟩
  · exact .inl ⟨h1, below_k (P := fun i => x i ≤ lo i) hk h2⟩
  · refine .inr ⟨m, h1, by omega, h3, below_k (P := fun i => lo i < x i → x i - v i ≤ x m - v m) (fun _ => by omega) h4, fun i hmi => ?_⟩
    exact below_k (P := fun i => m < i → lo i < x i → x i - v i < x m - v m) (fun _ _ => by omega) (fun i hi' hmi => h5 i hmi hi') i |> fun f hi' => f hi' hmi
theorem bestDn_first (h : BestDn v lo x k (-1)) (hk : lo k < x k) : BestDn v lo x (k + 1) (k : Int) := by
  rcases h with ⟨h1, h2⟩ | ⟨m, h1, _⟩
  · exact .inr ⟨k, rfl, by omega, hk, below_k (P := fun i => lo i < x i → x i - v i ≤ x k - v k) (fun _ => Int.le_refl _) (fun i hi' hx => by have := h2 i hi'; omega), fun i hmi hi' hx => by omega⟩
  · omega
theorem bestDn_keep (h : BestDn v lo x k (m : Int)) (hk : x k - v k < x m - v m) : BestDn v lo x (k + 1) (m : Int) := by
  rcases h with ⟨h1, h2⟩ | ⟨m', h1, h2, h3, h4, h5⟩
  · omega
  · obtain rfl : m = m' := by omega
    refine .inr ⟨m, rfl, by omega, h3, below_k (P := fun i => lo i < x i → x i - v i ≤ x m - v m) (fun _ => by omega) h4, fun i hmi => ?_⟩
    exact below_k (P := fun i => m < i → lo i < x i → x i - v i < x m - v m) (fun _ _ => hk) (fun i hi' hmi => h5 i hmi hi') i |> fun f hi' => f hi' hmi
theorem bestDn_take (h : BestDn v lo x k (m : Int)) (hx : lo k < x k) (hk : x m - v m ≤ x k - v k) : BestDn v lo x (k + 1) (k : Int) := by
  rcases h with ⟨h1, h2⟩ | ⟨m', h1, h2, h3, h4, h5⟩
  · omega
  · obtain rfl : m = m' := by omega
    exact .inr ⟨k, rfl, by omega, hx, below_k (P := fun i => lo i < x i → x i - v i ≤ x k - v k) (fun _ => Int.le_refl _) (fun i hi' hxi => by have := h4 i hi' hxi; omega), fun i hmi hi' hxi => by omega⟩
end
theorem at_bd {vs lo hi xs : List Int} {b : Int} {n : Nat} (hn : vs.length = n) (hx : xs.length = n) (bl : Bd 1000000 lo) (bh : Bd 1000000 hi) (ho : Ordered lo hi) (h : At n (fn vs) (fn lo) (fn hi) b (fn xs)) : Bd 1000000 xs := by
  intro i
  by_cases hi' : i < n
  · have h1 := at_bounds (fun i _ => ho i) h i hi'
    have := bl i
    have := bh i
    unfold fn at h1; omega
  · simp [List.getD, List.getElem?_eq_none (show xs.length ≤ i by omega)]
theorem fn_set_same {xs : List Int} {k n : Nat} (hx : xs.length = n) (hk : k < n) (u : Int) : fn (xs.set k u) k = u := by simp [fn, List.getD, show k < xs.length by omega]
theorem fn_set_other {xs : List Int} {k : Nat} (u : Int) : ∀ i, i ≠ k → fn (xs.set k u) i = fn xs i := fun i hi => by simp [fn, List.getD, List.getElem?_set_ne (Ne.symm hi)]
theorem sum_set {xs : List Int} {k : Nat} (hk : k < xs.length) (s : Int) : (xs.set k (fn xs k + s)).sum = xs.sum + s := by
  have key : ∀ (l : List Int) (k : Nat), k < l.length → (l.set k (fn l k + s)).sum = l.sum + s := by
    intro l
    induction l with
    | nil => intro k hk; simp at hk
    | cons a r ih =>
      intro k hk
      cases k with
      | zero => simp [fn]; omega
      | succ k =>
        have := ih k (by simpa using hk)
        simp only [fn, List.set_cons_succ, List.sum_cons, List.getD_cons_succ] at *
        omega
  exact key xs k hk
theorem up_exists {vs lo hi xs : List Int} {b t : Int} {n : Nat} (hh : hi.length = n) (hx : xs.length = n) (ho : Ordered lo hi) (h : At n (fn vs) (fn lo) (fn hi) b (fn xs)) (hs : xs.sum < t) (ht : t ≤ hi.sum) : ¬ ∀ i, i < n → fn hi i ≤ fn xs i := by
  intro hall
  have := sumTo_le hall
  have e1 := sumTo_list hi
  have e2 := sumTo_list xs
  rw [hh] at e1
  rw [hx] at e2
  omega
theorem dn_exists {vs lo hi xs : List Int} {b t : Int} {n : Nat} (hl : lo.length = n) (hx : xs.length = n) (ho : Ordered lo hi) (h : At n (fn vs) (fn lo) (fn hi) b (fn xs)) (hs : t < xs.sum) (ht : lo.sum ≤ t) : ¬ ∀ i, i < n → fn xs i ≤ fn lo i := by
  intro hall
  have := sumTo_le hall
  have e1 := sumTo_list lo
  have e2 := sumTo_list xs
  rw [hl] at e1
  rw [hx] at e2
  omega
/-- The inner loop's range over the bests: -1 or an index. -/
theorem bestUp_cases {v hi x : Nat → Int} {k : Nat} {bst : Int} (h : BestUp v hi x k bst) : bst = -1 ∨ ∃ m : Nat, bst = m ∧ m < k := by
  rcases h with ⟨h1, _⟩ | ⟨m, h1, h2, _⟩
  · exact .inl h1
  · exact .inr ⟨m, h1, h2⟩
theorem bestDn_cases {v lo x : Nat → Int} {k : Nat} {bst : Int} (h : BestDn v lo x k bst) : bst = -1 ∨ ∃ m : Nat, bst = m ∧ m < k := by
  rcases h with ⟨h1, _⟩ | ⟨m, h1, h2, _⟩
  · exact .inl h1
  · exact .inr ⟨m, h1, h2⟩

set_option maxRecDepth 100000 in
theorem iAdjust_none {A A1 A2 : Option Addr} {l h l1 h1 l2 h2 n c c1 c2 : Nat} {vs lo hi : List Int} {t : Int} {w : World} (hb : Ints w l1 h1 A1 n lo) (hc : Ints w l2 h2 A2 n hi)
    (bl : Bd 1000000 lo) (bh : Bd 1000000 hi) (ht : t < lo.sum ∨ hi.sum < t) :
    Calls Try.prog 134 #[.slice A n c, .slice A1 n c1, .slice A2 n c2, .int .i64 t] w fun e w' => e = .returned (.tuple #[.slice none 0 0, .bool false]) ∧ w = w' := by
  have BL := hid (bl.mono (B' := 10000000000) (by omega))
  have BH := hid (bh.mono (B' := 10000000000) (by omega))
  have HI := hid (inB_false.2 ht)
  clear bl bh ht
  go_enter Try.func134, Try.ntmps134
  go_wp2_with fail
  refine (tSum_any _ _ _ _ _ _ _ hb BL.out).mono ?_
  rintro e w' ⟨rfl, rfl⟩
  go_wp2_with fail
  refine (tSum_any _ _ _ _ _ _ _ hc BH.out).mono ?_
  rintro e w' ⟨rfl, rfl⟩
  go_wp2_with fail
  refine (l1In_any _ _ _ _).mono ?_
  rintro e w' ⟨rfl, rfl⟩
  rw [HI.out]
  go_wp2_with fail
  go_ret2
  exact ⟨rfl, rfl⟩

set_option maxRecDepth 100000 in
set_option maxHeartbeats 4000000 in
theorem iAdjust_any {A A1 A2 : Option Addr} {l h l1 h1 l2 h2 n c c1 c2 : Nat} {vs lo hi : List Int} {t : Int} {w : World} (ha : Ints w l h A n vs) (hlo : Ints w l1 h1 A1 n lo) (hhi : Ints w l2 h2 A2 n hi)
    (bv : Bd 1000000 vs) (bl : Bd 1000000 lo) (bh : Bd 1000000 hi) (ho : Ordered lo hi) (ht : lo.sum ≤ t) (ht2 : t ≤ hi.sum) :
    Calls Try.prog 134 #[.slice A n c, .slice A1 n c1, .slice A2 n c2, .int .i64 t] w fun e w' => ∃ A' c' xs, e = .returned (.tuple #[.slice A' n c', .bool true]) ∧ Mine w' w.heap.size w'.heap.size A' n xs ∧ IsAdj vs lo hi t xs ∧ Keeps w w' := by
  have hn := ha.le
  have hl := ha.1
  have hl1 := hlo.1
  have hl2 := hhi.1
  have hsl := sum_num lo _ bl (by omega) lo.length 67108864 (Nat.le_refl _) (by omega)
  have hsh := sum_num hi _ bh (by omega) hi.length 67108864 (Nat.le_refl _) (by omega)
  rw [List.take_length] at hsl hsh
  have BV := hid bv
  have BL := hid bl
  have BH := hid bh
  have HO := hid ho
  have HI := hid (inB_true.2 ⟨ht, ht2⟩)
  have HTL := hid ht
  have HTH := hid ht2
  have tb1 : -67108864000000 ≤ t := by omega
  have tb2 : t ≤ 67108864000000 := by omega
  clear bv bl bh ho ht ht2 hsl hsh
  go_enter Try.func134, Try.ntmps134
  go_wp2_with fail
  refine (tSum_any _ _ _ _ _ _ _ hlo (BL.out.mono (by omega))).mono ?_
  rintro e w' ⟨rfl, rfl⟩
  go_wp2_with fail
  refine (tSum_any _ _ _ _ _ _ _ hhi (BH.out.mono (by omega))).mono ?_
  rintro e w' ⟨rfl, rfl⟩
  go_wp2_with fail
  refine (l1In_any _ _ _ _).mono ?_
  rintro e w' ⟨rfl, rfl⟩
  rw [HI.out]
  go_wp2_with fail
  refine (iClamp_any _ _ _ _ _ _ _ _ _ _ _ _ _ _ _ _ _ ha hlo hhi HO.out).mono ?_
  rintro e w1 ⟨A3, c3, rfl, m3, k3⟩
  have s3 := k3.size
  have hbel : Below w.heap.size w w1 := k3
  have tp1 := ha.top
  have tp2 := hlo.top
  have tp3 := hhi.top
  replace ha := ha.keeps k3
  replace hlo := hlo.keeps k3
  replace hhi := hhi.keeps k3
  have hsb := sum_num (clampL vs lo hi 0) _ (clampL_bd BL.out BH.out HO.out) (by omega) n 67108864 (by rw [clampL_len]; omega) (by omega)
  rw [List.take_of_length_le (by rw [clampL_len]; omega)] at hsb
  go_wp2_with fail
  refine (tSum_any _ _ _ _ _ _ _ m3.1 ((clampL_bd BL.out BH.out HO.out).mono (by omega))).mono ?_
  rintro e w2 ⟨rfl, rfl⟩
  have HAT := hid (clampL_at vs lo hi 0)
  rw [hl] at HAT
  obtain ⟨S0, HS0⟩ : ∃ S, Hid ((clampL vs lo hi 0).sum = S) := ⟨_, rfl⟩
  rw [HS0.out] at hsb
  rw [HS0.out]
  clear k3
  go_wp2_with fail
  go_loopw [11] (fun s wr => ∃ (S : Int) (xs : List Int) (b : Int), s = .int .i64 S ∧ -67108864000000 ≤ S ∧ S ≤ 67108864000000 ∧ Hid (xs.sum = S) ∧ Mine wr w.heap.size w1.heap.size A3 n xs ∧ Hid (At n (fn vs) (fn lo) (fn hi) b (fn xs)) ∧ Fr w.heap.size w1.heap.size w1 wr) (fun s _ => (t - intOf s).natAbs)
  case atStart => exact ⟨S0, _, 0, rfl, by omega, by omega, HS0, m3, HAT, Fr.refl _ _ _⟩
  case round =>
    obtain ⟨S, xs, b, rfl, hSl, hSh, hS, hx, hat, hfr⟩ := hrel
    obtain ⟨wo, rfl⟩ : ∃ wo : World, wo = wr := ⟨_, rfl⟩
    have hxl := hx.1.1
    have BX := hid (at_bd hl hxl BL.out BH.out HO.out hat.out)
    have tpw := hx.1.top
    replace ha := ha.fr hfr (by omega)
    replace hlo := hlo.fr hfr (by omega)
    replace hhi := hhi.fr hfr (by omega)
    by_cases hst : S = t
    · have HA := hid (show IsAdj vs lo hi t xs from ⟨by omega, by rw [hS.out, hst], b, by rw [hl]; exact hat.out⟩)
      have t0 : (S != t) = false := by simp [hst]
      have HB := hid (below_fr hbel s3 (by omega) hfr)
      have s4 := hfr.size
      clear hst hfr hS
      go_wp2_with fail
      go_loopw [15] (fun m wr => ∃ bm : Bool, m = .bool bm ∧ Quiet wo wr) (fun m _ => boolOf m)
      case atStart => exact ⟨true, rfl, Quiet.refl _⟩
      case round =>
        obtain ⟨bm, rfl, hq3⟩ := hrel
        cases bm
        · have HM := hid ((hx.quiet hq3).widen (lo' := w.heap.size) (hi' := wr.heap.size) (by omega) (by have := hq3.keeps.size; omega) (Nat.le_refl _))
          have HK := hid (below_keeps HB.out (by omega) hq3.keeps)
          clear hx
          go_wp2_with fail
          go_ret2
          exact ⟨A3, c3, xs, rfl, HM.out, HA.out, HK.out⟩
        · obtain ⟨wp, rfl⟩ : ∃ wp : World, wp = wr := ⟨_, rfl⟩
          go_wp2_with fail
          go_loopw [15, 16] (fun m i wr => ∃ k : Nat, k ≤ n ∧ m = .bool false ∧ i = .int .i64 k ∧ Quiet wo wr) (fun _ i _ => n - (intOf i).toNat)
          case atStart => exact ⟨0, Nat.zero_le _, rfl, rfl, hq3⟩
          case round =>
            obtain ⟨i, hin0, rfl, rfl, hq4⟩ := hrel
            by_cases hin : i < n
            · obtain ⟨wr4, rfl⟩ : ∃ wr4 : World, wr4 = wr := ⟨_, rfl⟩
              have hi1 : (i : Int) < (n : Int) := by omega
              go_wp2_with fail
              go_loopw [15, 17] (fun m k wr => ∃ kk : Nat, i ≤ kk ∧ kk < n ∧ m = .bool false ∧ k = .int .i64 kk ∧ Quiet wo wr) (fun _ k _ => (intOf k).toNat)
              case atStart => exact ⟨n - 1, by omega, by omega, rfl, by go_num, hq4⟩
              case round =>
                obtain ⟨j, hij, hjn, rfl, rfl, hq5⟩ := hrel
                by_cases hlt : i < j
                · obtain ⟨b1, off1, xi, rfl, _, _, hxi0, hxi⟩ := (hx.1.quiet hq5).at_ hin
                  obtain ⟨b2, off2, xj, hA2, _, _, hxj0, hxj⟩ := (hx.1.quiet hq5).at_ hjn
                  obtain ⟨rfl, rfl⟩ : b1 = b2 ∧ off1 = off2 := by simpa using hA2
                  clear hA2
                  obtain ⟨b3, off3, hii, rfl, _, _, hhi0, hhi'⟩ := (hhi.quiet hq5).at_ hin
                  obtain ⟨b4, off4, loj, rfl, _, _, hlo0, hlo'⟩ := (hlo.quiet hq5).at_ hjn
                  have hj1 : (j : Int) < (n : Int) := by omega
                  have hj2 : (i : Int) < (j : Int) := by omega
                  by_cases g1 : xi < hii
                  · by_cases g2 : loj < xj
                    · have hst := at_still (fun i _ => HO.out i) hat.out hlt hjn (by unfold fn; have := hxi.out; have := hhi'.out; omega) (by unfold fn; have := hxj.out; have := hlo'.out; omega)
                      have u1 := BX.out i
                      have u2 := BX.out j
                      have u3 := BV.out i
                      have u4 := BV.out j
                      have hb1 : -5000000 ≤ stepV (dif xs vs i) 1 ∧ stepV (dif xs vs i) 1 ≤ 5000000 := by rw [stepV_up]; unfold dif; omega
                      have hb2 : -5000000 ≤ stepV (dif xs vs j) (-1) ∧ stepV (dif xs vs j) (-1) ≤ 5000000 := by rw [stepV_dn]; unfold dif; omega
                      have t3 : (stepV (dif xs vs i) 1 + stepV (dif xs vs j) (-1) == 0) = false := by rw [beq_eq_false_iff_ne, stepV_up, stepV_dn, dif_fn, dif_fn]; omega
                      clear hst u1 u2 u3 u4
                      go_wp2_with fail
                      go_quiet ((go_at_call 213; exact quietC (iStep_any ((ha.quiet hq5).keeps (Keeps.drewN _ _)) ((hx.1.quiet hq5).keeps (Keeps.drewN _ _)) (by omega) BV.out BX.out (by omega))))
                      go_wp2
                      go_roundw
                      case rel => exact ⟨j - 1, by omega, by omega, rfl, by go_num, hq5.step _⟩
                      case measure => simp [intOf]; omega
                    · have d1 : decide (loj < xj) = false := by simp; omega
                      go_wp2_with fail
                      go_quiet (fail)
                      go_wp2
                      go_roundw
                      case rel => exact ⟨j - 1, by omega, by omega, rfl, by go_num, hq5.step _⟩
                      case measure => simp [intOf]; omega
                  · have d1 : decide (xi < hii) = false := by simp; omega
                    go_wp2_with fail
                    go_quiet (fail)
                    go_wp2
                    go_roundw
                    case rel => exact ⟨j - 1, by omega, by omega, rfl, by go_num, hq5.step _⟩
                    case measure => simp [intOf]; omega
                · obtain rfl : j = i := by omega
                  have hj2 : ¬ (j : Int) < (j : Int) := by omega
                  go_wp2_with fail
                  go_roundw
                  case rel => exact ⟨j + 1, by omega, rfl, by go_num, hq5⟩
                  case measure => simp [intOf]; omega
            · obtain rfl : i = n := by omega
              have hi1 : ¬ (i : Int) < (i : Int) := by omega
              go_wp2_with fail
              go_roundw
              case rel => exact ⟨false, rfl, hq4⟩
              case measure => simp [boolOf]
    · have t0 : (S != t) = true := by rw [bne_iff_ne]; exact hst
      by_cases hlt0 : S < t
      · have HG := hid (show sgn (t - S) = 1 by unfold sgn; rw [if_neg (by omega), if_pos (by omega)])
        go_wp2_with fail
        refine (l1Sign_any).mono ?_
        rintro e w3 ⟨rfl, rfl⟩
        rw [HG.out]
        go_wp2_with fail
        go_loopw [13, 40] (fun p i wr => ∃ (k : Nat) (bst : Int), p = .int .i64 bst ∧ i = .int .i64 k ∧ k ≤ n ∧ Hid (BestUp (fn vs) (fn hi) (fn xs) k bst) ∧ Quiet wo wr) (fun _ i _ => n - (intOf i).toNat)
        case atStart => exact ⟨0, -1, rfl, rfl, Nat.zero_le _, .inl ⟨rfl, fun i hi => absurd hi (by omega)⟩, Quiet.refl _⟩
        case round =>
          obtain ⟨k, bst, rfl, rfl, hk, hbst, hq⟩ := hrel
          by_cases hlt : k < n
          · obtain ⟨b1, off1, xk, rfl, _, _, hx0, hxk⟩ := (hx.1.quiet hq).at_ hlt
            obtain ⟨b2, off2, yk, rfl, _, _, hy0, hyk⟩ := (hhi.quiet hq).at_ hlt
            have hk1 : (k : Int) < (n : Int) := by omega
            have hbnd := at_bounds (fun i _ => HO.out i) hat.out k hlt
            unfold fn at hbnd
            rw [← hxk.out, ← hyk.out] at hbnd
            by_cases heq : xk = yk
            · have t1 : (xk == yk) = true := by rw [beq_iff_eq]; exact heq
              have HB := hid (bestUp_skip hbst.out (by unfold fn; have := hxk.out; have := hyk.out; omega))
              clear heq
              go_wp2_with fail
              go_quiet (fail)
              go_wp2
              go_roundw
              case rel => exact ⟨k + 1, bst, rfl, by go_num, by omega, HB, hq.step _⟩
              case measure => simp [intOf]; omega
            · have t1 : (xk == yk) = false := by rw [beq_eq_false_iff_ne]; exact heq
              have hgt : fn xs k < fn hi k := by have := hxk.out; have := hyk.out; unfold fn; omega
              clear heq
              rcases bestUp_cases hbst.out with hbb | ⟨m, hbb, hmk⟩
              · subst hbb
                have HB := hid (bestUp_first hbst.out hgt)
                clear hgt
                go_wp2_with fail
                go_quiet (fail)
                go_wp2_with fail
                go_roundw
                case rel => exact ⟨k + 1, k, rfl, by go_num, by omega, HB, hq.step _⟩
                case measure => simp [intOf]; omega
              · subst hbb
                have hm0 : ¬ (m : Int) < 0 := by omega
                obtain ⟨dk, HDK⟩ : ∃ d, Hid (stepV (dif xs vs k) (1) = d) := ⟨_, rfl⟩
                obtain ⟨dm, HDM⟩ : ∃ d, Hid (stepV (dif xs vs m) (1) = d) := ⟨_, rfl⟩
                have e1 := HDK.out
                have e2 := HDM.out
                rw [stepV_up, dif_fn] at e1 e2
                go_wp2_with fail
                go_quiet (fail)
                have hq2 := hid (hq.step nq)
                go_wp2_with fail
                refine (iStep_any (ha.quiet hq2.out) (hx.1.quiet hq2.out) (j := k) (by omega) BV.out BX.out (by omega)).mono ?_
                rintro e w3 ⟨rfl, q3⟩
                rw [HDK.out]
                replace hq2 := hid (hq2.out.trans q3)
                clear q3
                go_wp2_with fail
                refine (iStep_any (ha.quiet hq2.out) (hx.1.quiet hq2.out) (j := m) (by omega) BV.out BX.out (by omega)).mono ?_
                rintro e w3 ⟨rfl, q3⟩
                rw [HDM.out]
                replace hq2 := hid (hq2.out.trans q3)
                clear q3
                by_cases hlt2 : dk < dm
                · have HB := hid (bestUp_take hbst.out hgt (by omega))
                  clear hgt e1 e2
                  go_wp2_with fail
                  go_roundw
                  case rel => exact ⟨k + 1, k, rfl, by go_num, by omega, HB, hq2.out⟩
                  case measure => simp [intOf]; omega
                · have HB := hid (bestUp_keep (m := m) hbst.out (by omega))
                  clear hgt e1 e2
                  go_wp2_with fail
                  refine (iStep_any (ha.quiet hq2.out) (hx.1.quiet hq2.out) (j := k) (by omega) BV.out BX.out (by omega)).mono ?_
                  rintro e w3 ⟨rfl, q3⟩
                  rw [HDK.out]
                  replace hq2 := hid (hq2.out.trans q3)
                  clear q3
                  go_wp2_with fail
                  refine (iStep_any (ha.quiet hq2.out) (hx.1.quiet hq2.out) (j := m) (by omega) BV.out BX.out (by omega)).mono ?_
                  rintro e w3 ⟨rfl, q3⟩
                  rw [HDM.out]
                  replace hq2 := hid (hq2.out.trans q3)
                  clear q3
                  by_cases heq2 : dk = dm
                  · have t3 : (dk == dm) = true := by rw [beq_iff_eq]; exact heq2
                    clear heq2
                    go_wp2_with fail
                    go_roundw
                    case rel => exact ⟨k + 1, m, rfl, by go_num, by omega, HB, hq2.out⟩
                    case measure => simp [intOf]; omega
                  · have t3 : (dk == dm) = false := by rw [beq_eq_false_iff_ne]; exact heq2
                    clear heq2
                    go_wp2_with fail
                    go_roundw
                    case rel => exact ⟨k + 1, m, rfl, by go_num, by omega, HB, hq2.out⟩
                    case measure => simp [intOf]; omega
          · obtain rfl : k = n := by omega
            rcases hbst.out with ⟨_, hall⟩ | ⟨m, hbb, hmk, hm1, hm2, hm3⟩
            · exact absurd hall (up_exists hl2 hxl HO.out hat.out (by have := hS.out; omega) HTH.out)
            subst hbb
            have HN := hid (at_up (x' := fn (xs.set m (fn xs m + 1))) (fun i _ => HO.out i) hat.out hmk hm1 hm2 hm3 (fn_set_same hxl hmk _) (fn_set_other _))
            have HS2 := hid (show (xs.set m (fn xs m + 1)).sum = S + 1 by rw [sum_set (by omega), hS.out])
            have hxq := hx.quiet hq
            obtain ⟨b1, off1, xm, hA3, _, _, hx0, hxm⟩ := hxq.1.at_ hmk
            have hfz := hxq.2 b1 off1 hA3 m hmk
            have hm5 : (m : Int) < (k : Int) := by omega
            have hxmb := BX.out m
            rw [← hxm.out] at hxmb
            subst hA3
            have hset := hxq.set_ hmk (xm + 1)
            rw [show xm + 1 = fn xs m + 1 by unfold fn; rw [hxm.out]] at hset
            rw [show fn xs m + 1 = xm + 1 by unfold fn; rw [hxm.out]] at HN HS2
            have hset2 := hset.1
            have hset3 := hset.2
            rw [show fn xs m + 1 = xm + 1 by unfold fn; rw [hxm.out]] at hset2 hset3
            have H1 := hid hset2
            have H2 := hid (hfr.trans ((Fr.of_keeps hq.keeps _ _).trans hset3))
            clear hset hset2 hset3 hxq hx hfr hm1 hm2 hm3 hbst
            go_wp2_with fail
            go_roundw
            case rel => exact ⟨S + 1, xs.set m (xm + 1), _, by go_num, by omega, by omega, HS2, H1.out, HN, H2.out⟩
            case measure => simp [intOf]; omega
      · have HG := hid (show sgn (t - S) = -1 by unfold sgn; rw [if_pos (by omega)])
        go_wp2_with fail
        refine (l1Sign_any).mono ?_
        rintro e w3 ⟨rfl, rfl⟩
        rw [HG.out]
        go_wp2_with fail
        go_loopw [13, 40] (fun p i wr => ∃ (k : Nat) (bst : Int), p = .int .i64 bst ∧ i = .int .i64 k ∧ k ≤ n ∧ Hid (BestDn (fn vs) (fn lo) (fn xs) k bst) ∧ Quiet wo wr) (fun _ i _ => n - (intOf i).toNat)
        case atStart => exact ⟨0, -1, rfl, rfl, Nat.zero_le _, .inl ⟨rfl, fun i hi => absurd hi (by omega)⟩, Quiet.refl _⟩
        case round =>
          obtain ⟨k, bst, rfl, rfl, hk, hbst, hq⟩ := hrel
          by_cases hlt : k < n
          · obtain ⟨b1, off1, xk, rfl, _, _, hx0, hxk⟩ := (hx.1.quiet hq).at_ hlt
            obtain ⟨b2, off2, yk, rfl, _, _, hy0, hyk⟩ := (hlo.quiet hq).at_ hlt
            have hk1 : (k : Int) < (n : Int) := by omega
            have hbnd := at_bounds (fun i _ => HO.out i) hat.out k hlt
            unfold fn at hbnd
            rw [← hxk.out, ← hyk.out] at hbnd
            by_cases heq : xk = yk
            · have t1 : (xk == yk) = true := by rw [beq_iff_eq]; exact heq
              have HB := hid (bestDn_skip hbst.out (by unfold fn; have := hxk.out; have := hyk.out; omega))
              clear heq
              go_wp2_with fail
              go_quiet (fail)
              go_wp2
              go_roundw
              case rel => exact ⟨k + 1, bst, rfl, by go_num, by omega, HB, hq.step _⟩
              case measure => simp [intOf]; omega
            · have t1 : (xk == yk) = false := by rw [beq_eq_false_iff_ne]; exact heq
              have hgt : fn lo k < fn xs k := by have := hxk.out; have := hyk.out; unfold fn; omega
              clear heq
              rcases bestDn_cases hbst.out with hbb | ⟨m, hbb, hmk⟩
              · subst hbb
                have HB := hid (bestDn_first hbst.out hgt)
                clear hgt
                go_wp2_with fail
                go_quiet (fail)
                go_wp2_with fail
                go_roundw
                case rel => exact ⟨k + 1, k, rfl, by go_num, by omega, HB, hq.step _⟩
                case measure => simp [intOf]; omega
              · subst hbb
                have hm0 : ¬ (m : Int) < 0 := by omega
                obtain ⟨dk, HDK⟩ : ∃ d, Hid (stepV (dif xs vs k) (-1) = d) := ⟨_, rfl⟩
                obtain ⟨dm, HDM⟩ : ∃ d, Hid (stepV (dif xs vs m) (-1) = d) := ⟨_, rfl⟩
                have e1 := HDK.out
                have e2 := HDM.out
                rw [stepV_dn, dif_fn] at e1 e2
                go_wp2_with fail
                go_quiet (fail)
                have hq2 := hid (hq.step nq)
                go_wp2_with fail
                refine (iStep_any (ha.quiet hq2.out) (hx.1.quiet hq2.out) (j := k) (by omega) BV.out BX.out (by omega)).mono ?_
                rintro e w3 ⟨rfl, q3⟩
                rw [HDK.out]
                replace hq2 := hid (hq2.out.trans q3)
                clear q3
                go_wp2_with fail
                refine (iStep_any (ha.quiet hq2.out) (hx.1.quiet hq2.out) (j := m) (by omega) BV.out BX.out (by omega)).mono ?_
                rintro e w3 ⟨rfl, q3⟩
                rw [HDM.out]
                replace hq2 := hid (hq2.out.trans q3)
                clear q3
                by_cases hlt2 : dk < dm
                · have HB := hid (bestDn_take hbst.out hgt (by omega))
                  clear hgt e1 e2
                  go_wp2_with fail
                  go_roundw
                  case rel => exact ⟨k + 1, k, rfl, by go_num, by omega, HB, hq2.out⟩
                  case measure => simp [intOf]; omega
                · go_wp2_with fail
                  refine (iStep_any (ha.quiet hq2.out) (hx.1.quiet hq2.out) (j := k) (by omega) BV.out BX.out (by omega)).mono ?_
                  rintro e w3 ⟨rfl, q3⟩
                  rw [HDK.out]
                  replace hq2 := hid (hq2.out.trans q3)
                  clear q3
                  go_wp2_with fail
                  refine (iStep_any (ha.quiet hq2.out) (hx.1.quiet hq2.out) (j := m) (by omega) BV.out BX.out (by omega)).mono ?_
                  rintro e w3 ⟨rfl, q3⟩
                  rw [HDM.out]
                  replace hq2 := hid (hq2.out.trans q3)
                  clear q3
                  by_cases heq2 : dk = dm
                  · have t3 : (dk == dm) = true := by rw [beq_iff_eq]; exact heq2
                    have HB := hid (bestDn_take hbst.out hgt (by omega))
                    clear heq2 hgt e1 e2
                    go_wp2_with fail
                    go_roundw
                    case rel => exact ⟨k + 1, k, rfl, by go_num, by omega, HB, hq2.out⟩
                    case measure => simp [intOf]; omega
                  · have t3 : (dk == dm) = false := by rw [beq_eq_false_iff_ne]; exact heq2
                    have HB := hid (bestDn_keep (m := m) hbst.out (by omega))
                    clear heq2 hgt e1 e2
                    go_wp2_with fail
                    go_roundw
                    case rel => exact ⟨k + 1, m, rfl, by go_num, by omega, HB, hq2.out⟩
                    case measure => simp [intOf]; omega
          · obtain rfl : k = n := by omega
            rcases hbst.out with ⟨_, hall⟩ | ⟨m, hbb, hmk, hm1, hm2, hm3⟩
            · exact absurd hall (dn_exists hl1 hxl HO.out hat.out (by have := hS.out; omega) HTL.out)
            subst hbb
            have HN := hid (at_down (x' := fn (xs.set m (fn xs m + (-1)))) (fun i _ => HO.out i) hat.out hmk hm1 hm2 (fun i hi hm hx => hm3 i hm hi hx) (by rw [fn_set_same hxl hmk]; omega) (fn_set_other _))
            have HS2 := hid (show (xs.set m (fn xs m + (-1))).sum = S + (-1) by rw [sum_set (by omega), hS.out])
            have hxq := hx.quiet hq
            obtain ⟨b1, off1, xm, hA3, _, _, hx0, hxm⟩ := hxq.1.at_ hmk
            have hfz := hxq.2 b1 off1 hA3 m hmk
            have hm5 : (m : Int) < (k : Int) := by omega
            have hxmb := BX.out m
            rw [← hxm.out] at hxmb
            subst hA3
            have hset := hxq.set_ hmk (xm + (-1))
            rw [show xm + (-1) = fn xs m + (-1) by unfold fn; rw [hxm.out]] at hset
            rw [show fn xs m + (-1) = xm + (-1) by unfold fn; rw [hxm.out]] at HN HS2
            have hset2 := hset.1
            have hset3 := hset.2
            rw [show fn xs m + (-1) = xm + (-1) by unfold fn; rw [hxm.out]] at hset2 hset3
            have H1 := hid hset2
            have H2 := hid (hfr.trans ((Fr.of_keeps hq.keeps _ _).trans hset3))
            clear hset hset2 hset3 hxq hx hfr hm1 hm2 hm3 hbst
            go_wp2_with fail
            go_roundw
            case rel => exact ⟨S + (-1), xs.set m (xm + (-1)), _, by go_num, by omega, by omega, HS2, H1.out, HN, H2.out⟩
            case measure => simp [intOf]; omega
end Go.Proofs.Ytkpliolafkdijaa
