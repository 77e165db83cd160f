/- The neighbour ratio of the geometric mechanism. No walk. -/
import Derived.Test.YtnopedjgagoahaaGmL
import Derived.Test.YtnopedjgagoahaaMnb
namespace Go.Proofs.Ytnopedjgagoahaa
open Go.RowKit
set_option linter.unusedVariables false
set_option linter.unusedSimpArgs false

theorem mkF_cross {n d n' d' : Int} (hd : 0 < d) (hd' : 0 < d') (h : n * d' = n' * d) : mkF n d = mkF n' d' := by
  rw [← mkF_scale (n := n) hd hd', ← mkF_scale (n := n') hd' hd, h, Int.mul_comm d d']
/-- A reduced fraction is what it was made of. -/
theorem mkF_val {n d a b : Int} (hd : 0 < d) (h : mkF n d = (a, b, true)) : a * d = n * b := by
  rw [mkF_red (by omega)] at h
  unfold red at h
  split at h
  · injection h with h1 h2
    injection h2 with h2 _
    have hg := gcd_pos (n := n) (d := d) (by omega)
    obtain ⟨u, hu⟩ := Int.gcd_dvd_left n d
    obtain ⟨v, hv⟩ := Int.gcd_dvd_right n d
    generalize hgg : (Int.gcd n d : Int) = g at *
    have e1 : a = u := by
      rw [← h1]; unfold redN; rw [if_neg (by omega), hgg]; exact Int.ediv_eq_of_eq_mul_right (by omega) hu
    have e2 : b = v := by
      rw [← h2]; unfold redD; rw [if_neg (by omega), hgg]; exact Int.ediv_eq_of_eq_mul_right (by omega) hv
    subst e1; subst e2
    rw [hv, hu, ← Int.mul_assoc, Int.mul_comm a g]
  · cases h
theorem mkF_pos {n d a b : Int} (hn : 0 < n) (hd : 0 < d) (h : mkF n d = (a, b, true)) : 0 < a ∧ 0 < b := by
  have e := mkF_val hd h
  have hb := (fracB_true.1 (mkF_fine h)).1.1
  refine ⟨?_, by omega⟩
  have h1 : 0 < a * d := by rw [e]; exact Int.mul_pos hn (by omega)
  rcases Int.lt_or_le 0 a with h2 | h2
  · exact h2
  · have := Int.mul_nonpos_of_nonpos_of_nonneg h2 (show 0 ≤ d by omega); omega
/-- The number that stands for the column: a tail or a mass. -/
def colN (p q : Int) (n j : Nat) : Int := if 0 < j ∧ j + 1 < n then q - p else q
theorem colN_pos {p q : Int} (h : ratB p q = true) (n j : Nat) : 0 < colN p q n j := by
  have := (ratB_true.1 h).2; unfold colN; split <;> omega
/-- An entry's value: p^k c / (q^k (q + p)). -/
theorem gI_val {p q : Int} (h : ratB p q = true) {n i j : Nat} {x y : Int} (e : gI p q n i j = (x, y, true)) :
    mkF (p ^ dst i j * colN p q n j) (q ^ dst i j * (q + p)) = (x, y, true) := by
  obtain ⟨hf, h1, h2⟩ := ratB_true.1 h
  have hk1 := pow_pos' h1 (dst i j)
  have hk2 := pow_pos' (show 1 ≤ q by omega) (dst i j)
  have hW := powQ_eq h (dst i j)
  have hD := onePlus_eq h
  unfold gI at e
  unfold colN
  generalize dst i j = k at *
  split at e
  · rename_i hc
    rw [if_pos hc]
    unfold geoMassI at e
    by_cases hb : q + p ≤ 1000000000
    · rw [if_pos hb] at hD
      rw [bindT_yes hD] at e
      obtain ⟨c1, c2, c3, hC⟩ : ∃ c1 c2 c3, mkF ((q - p) * q) (q * (q + p)) = (c1, c2, c3) := ⟨_, _, _, rfl⟩
      cases c3 with
      | false => rw [bindT_no hC] at e; cases e
      | true =>
        rw [bindT_yes hC] at e
        by_cases hq : q ^ k ≤ 1000000000
        · rw [if_pos hq] at hW
          rw [bindT_yes hW] at e
          have hv := mkF_val (Int.mul_pos (by omega) (by omega)) hC
          have hp := mkF_pos (Int.mul_pos (by omega) (by omega)) (Int.mul_pos (by omega) (by omega)) hC
          rw [← e]
          have hv2 : c1 * (q + p) = (q - p) * c2 := by
            have : (c1 * (q + p)) * q = ((q - p) * c2) * q := by
              rw [Int.mul_assoc, Int.mul_comm (q + p) q, hv, Int.mul_assoc, Int.mul_comm q c2, ← Int.mul_assoc]
            exact Int.eq_of_mul_eq_mul_right (by omega) this
          refine mkF_cross (Int.mul_pos (by omega) (by omega)) (Int.mul_pos (by omega) (by omega)) ?_
          calc p ^ k * (q - p) * (c2 * q ^ k) = p ^ k * q ^ k * ((q - p) * c2) := by ac_rfl
            _ = p ^ k * q ^ k * (c1 * (q + p)) := by rw [hv2]
            _ = c1 * p ^ k * (q ^ k * (q + p)) := by ac_rfl
        · rw [if_neg hq] at hW; rw [bindT_no hW] at e; cases e
    · rw [if_neg hb] at hD; rw [bindT_no hD] at e; cases e
  · rename_i hc
    rw [if_neg hc]
    unfold geoTailQ at e
    by_cases hq : q ^ k ≤ 1000000000
    · rw [if_pos hq] at hW
      rw [bindT_yes hW] at e
      by_cases hb : q + p ≤ 1000000000
      · rw [if_pos hb] at hD; rw [bindT_yes hD] at e; exact e
      · rw [if_neg hb] at hD; rw [bindT_no hD] at e; cases e
    · rw [if_neg hq] at hW; rw [bindT_no hW] at e; cases e
/-- Two entries of a column, one step apart. -/
theorem gI_quo {p q : Int} (h : ratB p q = true) {n i i' j : Nat} {x y r s : Int} (e : gI p q n i j = (x, y, true)) (e' : gI p q n i' j = (r, s, true)) (hd : dst i' j = dst i j + 1) :
    (0 < x ∧ 0 < y) ∧ (0 < r ∧ 0 < s) ∧ mkF (x * s) (y * r) = (q, p, true) ∧ mkF (r * y) (s * x) = (p, q, true) := by
  obtain ⟨hf, h1, h2⟩ := ratB_true.1 h
  have h3 := fracB_true.1 hf
  have hv := gI_val h e
  have hv' := gI_val h e'
  rw [hd] at hv'
  have hc := colN_pos h n j
  have hk1 := pow_pos' h1 (dst i j)
  have hk2 := pow_pos' (show 1 ≤ q by omega) (dst i j)
  have hk3 := pow_pos' h1 (dst i j + 1)
  have hk4 := pow_pos' (show 1 ≤ q by omega) (dst i j + 1)
  have s1 : p ^ (dst i j + 1) = p ^ dst i j * p := Int.pow_succ _ _
  have s2 : q ^ (dst i j + 1) = q ^ dst i j * q := Int.pow_succ _ _
  have p1 := mkF_pos (Int.mul_pos (by omega) hc) (Int.mul_pos (by omega) (by omega)) hv
  have p2 := mkF_pos (Int.mul_pos (by omega) hc) (Int.mul_pos (by omega) (by omega)) hv'
  have v1 := mkF_val (Int.mul_pos (by omega) (by omega)) hv
  have v2 := mkF_val (Int.mul_pos (by omega) (by omega)) hv'
  rw [s1, s2] at v2
  generalize p ^ dst i j = P at *
  generalize q ^ dst i j = Q at *
  generalize colN p q n j = C at *
  refine ⟨p1, p2, ?_, ?_⟩
  all_goals
    have hB : 0 < P * C * (Q * (q + p)) := Int.mul_pos (Int.mul_pos (by omega) hc) (Int.mul_pos (by omega) (by omega))
    have key : x * s * p = q * (y * r) := by
      have e1 : (x * s * p) * (P * C * (Q * (q + p))) = (q * (y * r)) * (P * C * (Q * (q + p))) := by
        calc (x * s * p) * (P * C * (Q * (q + p))) = (x * (Q * (q + p))) * (P * p * C * s) := by ac_rfl
          _ = (P * C * y) * (r * (Q * q * (q + p))) := by rw [v1, ← v2]
          _ = (q * (y * r)) * (P * C * (Q * (q + p))) := by ac_rfl
      exact Int.eq_of_mul_eq_mul_right (by omega) e1
  · rw [mkF_cross (n' := q) (d' := p) (Int.mul_pos p1.2 p2.1) (by omega) key]
    exact mkF_one (by rw [Int.gcd_comm]; exact h3.2.2) (by omega) (by omega) (by omega)
  · rw [mkF_cross (n' := p) (d' := q) (Int.mul_pos p2.2 p1.1) (by omega) (by rw [Int.mul_comm s x, Int.mul_comm r y, Int.mul_comm _ q, ← key]; ac_rfl)]
    exact mkF_one h3.2.2 (by omega) (by omega) (by omega)
end Go.Proofs.Ytnopedjgagoahaa

/- The neighbour ratio of the geometric mechanism is 1/alpha. No walk. -/
namespace Go.Proofs.Ytnopedjgagoahaa
open Go.RowKit
set_option linter.unusedVariables false
set_option linter.unusedSimpArgs false

section
variable {p q : Int}
theorem mx_self (f : Int × Int) : maxQ f f = f := by unfold maxQ; split <;> rfl
theorem mx_up {f g : Int × Int} (h : f.1 * g.2 < g.1 * f.2) : maxQ f g = g := by unfold maxQ; rw [cmpQ_lt h]; rfl
theorem mx_dn {f g : Int × Int} (h : g.1 * f.2 < f.1 * g.2) : maxQ f g = f := by unfold maxQ; rw [cmpQ_gt h]; rfl
theorem sq_lt (h1 : 1 ≤ p) (h2 : p < q) : p * p < q * q := Int.mul_lt_mul h2 (by omega) (by omega) (by omega)
/-- The greatest of quotients that are q/p or p/q. -/
theorem acc_max (h1 : 1 ≤ p) (h2 : p < q) {st : Nat → Int → Int → Int × Int × Bool} {n : Nat} {F : Nat → Int × Int} (hF : ∀ k, k < n → F k = (q, p) ∨ F k = (p, q))
    (h : ∀ k, k < n → ∀ a b, st k a b = ((maxQ (a, b) (F k)).1, (maxQ (a, b) (F k)).2, true)) :
    ∀ m, m ≤ n → ∃ f : Int × Int, accQ st 0 1 m = (f.1, f.2, true) ∧ (f = (0, 1) ∨ f = (p, q) ∨ f = (q, p)) ∧ ((∃ k, k < m ∧ F k = (q, p)) → f = (q, p)) := by
  have hs := sq_lt h1 h2
  intro m
  induction m with
  | zero => intro _; exact ⟨(0, 1), rfl, .inl rfl, fun ⟨k, hk, _⟩ => absurd hk (by omega)⟩
  | succ m ih =>
    intro hm
    obtain ⟨f, e, hf, hq⟩ := ih (by omega)
    have e1 := accQ_next e (h m (by omega) f.1 f.2)
    have hfe : ((f.1, f.2) : Int × Int) = f := rfl
    rw [hfe] at e1
    refine ⟨maxQ f (F m), e1, ?_, ?_⟩
    · rcases hF m (by omega) with hm' | hm' <;> rw [hm'] <;> rcases hf with rfl | rfl | rfl
      · rw [mx_up (by show (0 : Int) * p < q * 1; omega)]; simp
      · rw [mx_up (by show p * p < q * q; exact hs)]; simp
      · rw [mx_self]; simp
      · rw [mx_up (by show (0 : Int) * q < p * 1; omega)]; simp
      · rw [mx_self]; simp
      · rw [mx_dn (by show p * p < q * q; exact hs)]; simp
    · rintro ⟨k, hk, hFk⟩
      rcases hF m (by omega) with hm' | hm'
      · rw [hm']
        rcases hf with rfl | rfl | rfl
        · exact mx_up (by show (0 : Int) * p < q * 1; omega)
        · exact mx_up (by show p * p < q * q; exact hs)
        · exact mx_self _
      · have hkm : k < m := by
          rcases Nat.lt_or_ge k m with h3 | h3
          · exact h3
          · obtain rfl : k = m := by omega
            rw [hFk] at hm'
            injection hm' with h4 _
            omega
        rw [hq ⟨k, hkm, hFk⟩, hm']
        exact mx_dn (by show p * p < q * q; exact hs)
theorem rrSt_val {r s : List QQ} {k : Nat} {a b x y u v : Int} {f : Int × Int} (hr : (x, y) = r.getD k (0, 0)) (hs : (u, v) = s.getD k (0, 0)) (hu : 0 < u) (e : mkF (x * v) (y * u) = (f.1, f.2, true)) :
    rrSt r s k a b = ((maxQ (a, b) f).1, (maxQ (a, b) f).2, true) := by
  unfold rrSt
  rw [← hr, ← hs]
  simp only
  rw [if_neg (by omega), e]
  simp
variable {n : Nat}
/-- All numbers are made. -/
theorem okAll_at {f : Nat → Nat → Int × Int × Bool} {n m i j : Nat} (h : okAll f n m = true) (hi : i < n) (hj : j < m) : f i j = ((f i j).1, (f i j).2.1, true) := by
  simp only [okAll, List.all_eq_true, List.mem_range] at h
  have := h i hi j hj
  exact Prod.ext rfl (Prod.ext rfl this)
theorem rr_val (h : ratB p q = true) (hok : okAll (gI p q n) n n = true) {a b : Nat} (ha : a < n) (hb : b < n) (hadj : ∀ j, j < n → dst b j = dst a j + 1 ∨ dst a j = dst b j + 1) (hex : ∃ j, j < n ∧ dst b j = dst a j + 1) :
    rrQ ((tab (gI p q n) n n).getD a []) ((tab (gI p q n) n n).getD b []) = (q, p, true) := by
  obtain ⟨hf, h1, h2⟩ := ratB_true.1 h
  have hst : ∀ j, j < n → ∀ x y, rrSt ((tab (gI p q n) n n).getD a []) ((tab (gI p q n) n n).getD b []) j x y = ((maxQ (x, y) (if dst b j = dst a j + 1 then (q, p) else (p, q))).1, (maxQ (x, y) (if dst b j = dst a j + 1 then (q, p) else (p, q))).2, true) := by
    intro j hj x y
    have ea := okAll_at hok ha hj
    have eb := okAll_at hok hb hj
    have ta := tab_at (gI p q n) ha hj ea
    have tb := tab_at (gI p q n) hb hj eb
    by_cases hc : dst b j = dst a j + 1
    · rw [if_pos hc]
      obtain ⟨p1, p2, m1, m2⟩ := gI_quo h ea eb hc
      exact rrSt_val ta tb p2.1 m1
    · rw [if_neg hc]
      have hc2 : dst a j = dst b j + 1 := by rcases hadj j hj with h3 | h3; exact absurd h3 hc; exact h3
      obtain ⟨p1, p2, m1, m2⟩ := gI_quo h eb ea hc2
      exact rrSt_val ta tb p1.1 m2
  obtain ⟨f, e, _, hq⟩ := acc_max (F := fun j => if dst b j = dst a j + 1 then (q, p) else (p, q)) h1 h2 (fun k hk => by by_cases hc : dst b k = dst a k + 1 <;> simp [hc]) hst n (Nat.le_refl _)
  obtain ⟨j, hj, hc⟩ := hex
  have := hq ⟨j, hj, by simp [hc]⟩
  subst this
  unfold rrQ
  rw [tab_rowlen _ ha]
  exact e
/-- The greatest ratio between neighbours. -/
theorem nb_val (h : ratB p q = true) (hn : 2 ≤ n) (hok : okAll (gI p q n) n n = true) (hm : mechB (tab (gI p q n) n n) = true) : nbQ (tab (gI p q n) n n) = (q, p, true) := by
  obtain ⟨hf, h1, h2⟩ := ratB_true.1 h
  have h3 := fracB_true.1 hf
  have hfq : fracB q p = true := fracB_true.2 ⟨by omega, by omega, by rw [Int.gcd_comm]; exact h3.2.2⟩
  rw [nbQ_yes hm, tab_len]
  have key : ∀ m, m ≤ n → accQ (nbSt (tab (gI p q n) n n)) 1 1 m = if m ≤ 1 then (1, 1, true) else (q, p, true) := by
    intro m
    induction m with
    | zero => intro _; rfl
    | succ m ih =>
      intro hm'
      have e := ih (by omega)
      by_cases h0 : m = 0
      · subst h0
        rw [if_pos (by omega)] at e
        rw [if_pos (by omega)]
        exact accQ_next e (by unfold nbSt; rw [if_pos rfl])
      · rw [if_neg (by omega)]
        have e1 := rr_val h hok (a := m) (b := m - 1) (by omega) (by omega) (fun j hj => by unfold dst; omega) ⟨m, by omega, by unfold dst; omega⟩
        have e2 := rr_val h hok (a := m - 1) (b := m) (by omega) (by omega) (fun j hj => by unfold dst; omega) ⟨0, by omega, by unfold dst; omega⟩
        by_cases h4 : m ≤ 1
        · rw [if_pos h4] at e
          rw [accQ_next e (nbSt_yes (by omega) fracB_11 e1 e2), mx_self, mx_up (f := (1, 1)) (g := (q, p)) (by show (1 : Int) * p < q * 1; omega)]
        · rw [if_neg h4] at e
          rw [accQ_next e (nbSt_yes (by omega) hfq e1 e2), mx_self, mx_self]
  rw [key n (Nat.le_refl _), if_neg (by omega)]
/-- What the law asks of a geometric mechanism. -/
theorem gm_ratio {a : Int} {ll : List (List QQ)} (e : gmQ a p q = (ll, true)) : mechB ll = true ∧ nbQ ll = (q, p, true) := by
  unfold gmQ at e
  split at e
  · rename_i hc
    have hb := inB_true.1 hc.1
    unfold nmQ at e
    split at e
    · rename_i hk
      injection e with e _
      subst e
      exact ⟨hk.2, nb_val hc.2 (by omega) hk.1 hk.2⟩
    · cases e
  · cases e
end
/-- A randomised response is a mechanism. -/
theorem rr_mech {a p q : Int} {ll : List (List QQ)} (e : rrsQ a p q = (ll, true)) : mechB ll = true := by
  unfold rrsQ at e
  split at e
  · unfold nmQ at e
    split at e
    · rename_i hk
      injection e with e _
      subst e
      exact hk.2
    · cases e
  · cases e
end Go.Proofs.Ytnopedjgagoahaa

