/- The neighbour ratio of the geometric mechanism is 1/alpha. No walk. -/
import Derived.Test.YtkpliolafkdijaaNmL
namespace Go.Proofs.Ytkpliolafkdijaa
open Go.RowKit
set_option linter.unusedVariables false
set_option linter.unusedSimpArgs false

section
variable {p q : Int}
theorem mx_self (f : Int × Int) : maxQ f f = f := by unfold maxQ; split <;> rfl
theorem mx_up {f g : Int × Int} (h : f.1 * g.2 < g.1 * f.2) : maxQ f g = g := by unfold maxQ; rw [cmpQ_lt h]; rfl
theorem mx_dn {f g : Int × Int} (h : g.1 * f.2 < f.1 * g.2) : maxQ f g = f := by unfold maxQ; rw [cmpQ_gt h]; rfl
theorem sq_lt (h1 : 1 ≤ p) (h2 : p < q) : p * p < q * q := Int.mul_lt_mul h2 (by omega) (by omega) (by omega)
/-- The greatest of quotients that are q/p or p/q. -/
theorem acc_max (h1 : 1 ≤ p) (h2 : p < q) {st : Nat → Int → Int → Int × Int × Bool} {n : Nat} {F : Nat → Int × Int} (hF : ∀ k, k < n → F k = (q, p) ∨ F k = (p, q))
    (h : ∀ k, k < n → ∀ a b, st k a b = ((maxQ (a, b) (F k)).1, (maxQ (a, b) (F k)).2, true)) :
    ∀ m, m ≤ n → ∃ f : Int × Int, accQ st 0 1 m = (f.1, f.2, true) ∧ (f = (0, 1) ∨ f = (p, q) ∨ f = (q, p)) ∧ ((∃ k, k < m ∧ F k = (q, p)) → f = (q, p)) := by
  have hs := sq_lt h1 h2
  intro m
  induction m with
  | zero => intro _; exact ⟨(0, 1), rfl, .inl rfl, fun ⟨k, hk, _⟩ => absurd hk (by omega)⟩
  | succ m ih =>
    intro hm
    obtain ⟨f, e, hf, hq⟩ := ih (by omega)
    have e1 := accQ_next e (h m (by omega) f.1 f.2)
    have hfe : ((f.1, f.2) : Int × Int) = f := rfl
    rw [hfe] at e1
    refine ⟨maxQ f (F m), e1, ?_, ?_⟩
    · rcases hF m (by omega) with hm' | hm' <;> rw [hm'] <;> rcases hf with rfl | rfl | rfl
      · rw [mx_up (by show (0 : Int) * p < q * 1; omega)]; simp
      · rw [mx_up (by show p * p < q * q; exact hs)]; simp
      · rw [mx_self]; simp
      · rw [mx_up (by show (0 : Int) * q < p * 1; omega)]; simp
      · rw [mx_self]; simp
      · rw [mx_dn (by show p * p < q * q; exact hs)]; simp
    · rintro ⟨k, hk, hFk⟩
      rcases hF m (by omega) with hm' | hm'
      · rw [hm']
        rcases hf with rfl | rfl | rfl
        · exact mx_up (by show (0 : Int) * p < q * 1; omega)
        · exact mx_up (by show p * p < q * q; exact hs)
        · exact mx_self _
      · have hkm : k < m := by
          rcases Nat.lt_or_ge k m with h3 | h3
          · exact h3
          · obtain rfl : k = m := by omega
            rw [hFk] at hm'
            injection hm' with h4 _
            omega
        rw [hq ⟨k, hkm, hFk⟩, hm']
        exact mx_dn (by show p * p < q * q; exact hs)
theorem rrSt_val {r s : List QQ} {k : Nat} {a b x y u v : Int} {f : Int × Int} (hr : (x, y) = r.getD k (0, 0)) (hs : (u, v) = s.getD k (0, 0)) (hu : 0 < u) (e : mkF (x * v) (y * u) = (f.1, f.2, true)) :
    rrSt r s k a b = ((maxQ (a, b) f).1, (maxQ (a, b) f).2, true) := by
  unfold rrSt
  rw [← hr, ← hs]
  simp only
  rw [if_neg (by omega), e]
  simp
variable {n : Nat}
/-- All numbers are made. -/
theorem okAll_at {f : Nat → Nat → Int × Int × Bool} {n m i j : Nat} (h : okAll f n m = true) (hi : i < n) (hj : j < m) : f i j = ((f i j).1, (f i j).2.1, true) := by
  simp only [okAll, List.all_eq_true, List.mem_range] at h
  have := h i hi j hj
  exact Prod.ext rfl (Prod.ext rfl this)
theorem rr_val (h : ratB p q = true) (hok : okAll (gI p q n) n n = true) {a b : Nat} (ha : a < n) (hb : b < n) (hadj : ∀ j, j < n → dst b j = dst a j + 1 ∨ dst a j = dst b j + 1) (hex : ∃ j, j < n ∧ dst b j = dst a j + 1) :
    rrQ ((tab (gI p q n) n n).getD a []) ((tab (gI p q n) n n).getD b []) = (q, p, true) := by
  obtain ⟨hf, h1, h2⟩ := ratB_true.1 h
  have hst : ∀ j, j < n → ∀ x y, rrSt ((tab (gI p q n) n n).getD a []) ((tab (gI p q n) n n).getD b []) j x y = ((maxQ (x, y) (if dst b j = dst a j + 1 then (q, p) else (p, q))).1, (maxQ (x, y) (if dst b j = dst a j + 1 then (q, p) else (p, q))).2, true) := by
    intro j hj x y
    have ea := okAll_at hok ha hj
    have eb := okAll_at hok hb hj
    have ta := tab_at (gI p q n) ha hj ea
    have tb := tab_at (gI p q n) hb hj eb
    by_cases hc : dst b j = dst a j + 1
    · rw [if_pos hc]
      obtain ⟨p1, p2, m1, m2⟩ := gI_quo h ea eb hc
      exact rrSt_val ta tb p2.1 m1
    · rw [if_neg hc]
      have hc2 : dst a j = dst b j + 1 := by rcases hadj j hj with h3 | h3; exact absurd h3 hc; exact h3
      obtain ⟨p1, p2, m1, m2⟩ := gI_quo h eb ea hc2
      exact rrSt_val ta tb p1.1 m2
  obtain ⟨f, e, _, hq⟩ := acc_max (F := fun j => if dst b j = dst a j + 1 then (q, p) else (p, q)) h1 h2 (fun k hk => by by_cases hc : dst b k = dst a k + 1 <;> simp [hc]) hst n (Nat.le_refl _)
  obtain ⟨j, hj, hc⟩ := hex
  have := hq ⟨j, hj, by simp [hc]⟩
  subst this
  unfold rrQ
  rw [tab_rowlen _ ha]
  exact e
/-- The greatest ratio between neighbours. -/
theorem nb_val (h : ratB p q = true) (hn : 2 ≤ n) (hok : okAll (gI p q n) n n = true) (hm : mechB (tab (gI p q n) n n) = true) : nbQ (tab (gI p q n) n n) = (q, p, true) := by
  obtain ⟨hf, h1, h2⟩ := ratB_true.1 h
  have h3 := fracB_true.1 hf
  have hfq : fracB q p = true := fracB_true.2 ⟨by omega, by omega, by rw [Int.gcd_comm]; exact h3.2.2⟩
  rw [nbQ_yes hm, tab_len]
  have key : ∀ m, m ≤ n → accQ (nbSt (tab (gI p q n) n n)) 1 1 m = if m ≤ 1 then (1, 1, true) else (q, p, true) := by
    intro m
    induction m with
    | zero => intro _; rfl
    | succ m ih =>
      intro hm'
      have e := ih (by omega)
      by_cases h0 : m = 0
      · subst h0
        rw [if_pos (by omega)] at e
        rw [if_pos (by omega)]
        exact accQ_next e (by unfold nbSt; rw [if_pos rfl])
      · rw [if_neg (by omega)]
        have e1 := rr_val h hok (a := m) (b := m - 1) (by omega) (by omega) (fun j hj => by unfold dst; omega) ⟨m, by omega, by unfold dst; omega⟩
        have e2 := rr_val h hok (a := m - 1) (b := m) (by omega) (by omega) (fun j hj => by unfold dst; omega) ⟨0, by omega, by unfold dst; omega⟩
        by_cases h4 : m ≤ 1
        · rw [if_pos h4] at e
          rw [accQ_next e (nbSt_yes (by omega) fracB_11 e1 e2), mx_self, mx_up (f := (1, 1)) (g := (q, p)) (by show (1 : Int) * p < q * 1; omega)]
        · rw [if_neg h4] at e
          rw [accQ_next e (nbSt_yes (by omega) hfq e1 e2), mx_self, mx_self]
  rw [key n (Nat.le_refl _), if_neg (by omega)]
/-- What the law asks of a geometric mechanism. -/
theorem gm_ratio {a : Int} {ll : List (List QQ)} (e : gmQ a p q = (ll, true)) : mechB ll = true ∧ nbQ ll = (q, p, true) := by
  unfold gmQ at e
  split at e
  · rename_i hc
    have hb := inB_true.1 hc.1
    unfold nmQ at e
    split at e
    · rename_i hk
      injection e with e _
      subst e
      exact ⟨hk.2, nb_val hc.2 (by omega) hk.1 hk.2⟩
    · cases e
  · cases e
end
/-- A randomised response is a mechanism. -/
theorem rr_mech {a p q : Int} {ll : List (List QQ)} (e : rrsQ a p q = (ll, true)) : mechB ll = true := by
  unfold rrsQ at e
  split at e
  · unfold nmQ at e
    split at e
    · rename_i hk
      injection e with e _
      subst e
      exact hk.2
    · cases e
  · cases e
end Go.Proofs.Ytkpliolafkdijaa
