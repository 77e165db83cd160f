/- Ratios of neighbouring rows: processing does not raise them, products multiply them at most; no ratio is left above the greatest one; guesses. Plain lemmas, no walk. -/
import Derived.Test.YtnopedjgagoahaaKL
import Derived.Test.YtnopedjgagoahaaMpr
import Derived.Test.YtnopedjgagoahaaMdel
import Derived.Test.YtnopedjgagoahaaMbg
import Derived.Test.YtnopedjgagoahaaMnb
namespace Go.Proofs.Ytnopedjgagoahaa
open Go.RowKit
set_option linter.unusedVariables false
set_option linter.unusedSimpArgs false
theorem maxQ_qv {a b c d : Int} (hb : 1 ≤ b) (hd : 1 ≤ d) :
    1 ≤ (maxQ (a, b) (c, d)).2 ∧ qv a b ≤ qv (maxQ (a, b) (c, d)).1 (maxQ (a, b) (c, d)).2 ∧ qv c d ≤ qv (maxQ (a, b) (c, d)).1 (maxQ (a, b) (c, d)).2 ∧ ∀ p : Rat, qv a b ≤ p → qv c d ≤ p → qv (maxQ (a, b) (c, d)).1 (maxQ (a, b) (c, d)).2 ≤ p := by
  obtain ⟨h1, h2, h3⟩ := maxQ_spec (a, b) (c, d)
  rcases h1 with h1 | h1
  · rw [h1] at h3 ⊢
    exact ⟨hb, Rat.le_refl, (qv_le (by omega) (by omega)).2 h3, fun p hp _ => hp⟩
  · rw [h1] at h2 ⊢
    exact ⟨hd, (qv_le (by omega) (by omega)).2 h2, Rat.le_refl, fun p _ hp => hp⟩
theorem rrQ_spec {r s : List QQ} {n : Nat} {a b : Int} (hr : PosR r n) (hs : PosR s n) (e : rrQ r s = (a, b, true)) :
    1 ≤ b ∧ 0 ≤ qv a b ∧ (∀ k, k < n → rv r k ≤ qv a b * rv s k) ∧ ∀ p : Rat, 0 ≤ p → (∀ k, k < n → rv r k ≤ p * rv s k) → qv a b ≤ p := by
  unfold rrQ at e
  rw [hr.1] at e
  refine accQ_inv (P := fun k a b => 1 ≤ b ∧ 0 ≤ qv a b ∧ (∀ j, j < k → rv r j ≤ qv a b * rv s j) ∧ ∀ p : Rat, 0 ≤ p → (∀ k, k < n → rv r k ≤ p * rv s k) → qv a b ≤ p) n a b (fun k p q r1 s1 hk hP h => ?_) ?_ e
  · obtain ⟨h1, h2, h3, h4⟩ := hP
    obtain ⟨y1, x0⟩ := hr.2 k hk
    obtain ⟨v1, u0⟩ := hs.2 k hk
    have hsn := hs.nn hk
    obtain ⟨x, y, hx⟩ : ∃ x y, (x, y) = r.getD k (0, 0) := ⟨_, _, rfl⟩
    obtain ⟨u, v, hu⟩ : ∃ u v, (u, v) = s.getD k (0, 0) := ⟨_, _, rfl⟩
    have hrv : rv r k = qv x y := by unfold rv; rw [← hx]
    have hsv : rv s k = qv u v := by unfold rv; rw [← hu]
    rw [← hx] at y1 x0
    rw [← hu] at v1 u0
    simp only at y1 x0 v1 u0
    by_cases hu0 : u = 0
    · by_cases hx0 : 0 < x
      · rw [rrSt_bad hx hu hu0 hx0] at h; cases h
      · rw [rrSt_skip hx hu hu0 hx0] at h
        simp only [Prod.mk.injEq] at h
        obtain ⟨rfl, rfl, _⟩ := h
        refine ⟨h1, h2, fun j hj => ?_, h4⟩
        by_cases hjk : j = k
        · subst hjk
          have z1 : rv r j = 0 := by rw [hrv, show x = 0 by omega]; unfold qv; grind
          have z2 : rv s j = 0 := by rw [hsv, hu0]; unfold qv; grind
          rw [z1, z2]; grind
        · exact h3 j (by omega)
    · obtain ⟨q1, q2, o, hq⟩ : ∃ q1 q2 o, mkF (x * v) (y * u) = (q1, q2, o) := ⟨_, _, _, rfl⟩
      cases o with
      | false => rw [rrSt_no hx hu hu0 hq] at h; cases h
      | true =>
        rw [rrSt_yes hx hu hu0 hq] at h
        simp only [Prod.mk.injEq] at h
        obtain ⟨rfl, rfl, _⟩ := h
        have hd := mkF_div (a := x) (b := y) (x := u) (y := v) y1 v1 hu0 hq
        have hm := maxQ_qv (a := p) (b := q) (c := q1) (d := q2) h1 hd.2
        have hup : 0 < qv u v := by
          rw [show (0 : Rat) = qv 0 1 by rw [qv_one]; rfl, qv_lt (by omega) (by omega)]; omega
        have hval : qv x y = qv q1 q2 * qv u v := by rw [hd.1]; grind
        refine ⟨hm.1, by have := hm.2.1; grind, fun j hj => ?_, fun p' hp' hall => hm.2.2.2 p' (h4 p' hp' hall) ?_⟩
        · by_cases hjk : j = k
          · subst hjk
            rw [hrv, hsv, hval]
            exact mul_le_r hm.2.2.1 (Rat.le_of_lt hup)
          · exact le_scale (h3 j (by omega)) hm.2.1 (hs.nn (by omega))
        · have := hall k hk
          rw [hrv, hsv, hval] at this
          rcases Rat.le_total (a := qv q1 q2) (b := p') with h5 | h5
          · exact h5
          · have h6 : p' * qv u v ≤ qv q1 q2 * qv u v := mul_le_r h5 (Rat.le_of_lt hup)
            have h7 : qv q1 q2 * qv u v = p' * qv u v := Rat.le_antisymm this h6
            have h8 : qv q1 q2 = p' := by grind
            rw [h8]; exact Rat.le_refl
  · refine ⟨by omega, by rw [qv_one]; exact Rat.le_refl, fun j hj => absurd hj (by omega), fun p hp _ => by rw [qv_one]; exact hp⟩
theorem sumAll_qv {l : List QQ} {n : Nat} {a b : Int} (h : PosR l n) (e : sumAll l = (a, b, true)) : qv a b = qsum (rv l) n := by
  unfold sumAll at e
  rw [h.1] at e
  have := accQ_qv (t := rv l) n a b (fun k p q r s hk hq e => mkF_add hq (h.2 k hk).1 e) (by omega) e
  rw [this.1, qv_one]; grind
theorem distB_row {l : List QQ} (h : distB l = true) : PosR l l.length ∧ qsum (rv l) l.length = 1 := by
  simp only [distB, Bool.and_eq_true, beq_iff_eq, List.all_eq_true] at h
  have hp : PosR l l.length := ⟨rfl, fun k hk => by
    have hm : l.getD k (0, 0) ∈ l := by simp only [List.getD, List.getElem?_eq_getElem hk, Option.getD_some]; exact List.getElem_mem hk
    have := posQ_true.1 (h.1 _ hm)
    exact ⟨(fracB_true.1 this.1).1.1, this.2⟩⟩
  refine ⟨hp, ?_⟩
  rw [← sumAll_qv hp h.2, qv_one]; rfl
theorem mech_pos {ll : List (List QQ)} (h : mechB ll = true) {i : Nat} (hi : i < ll.length) : PosR (ll.getD i []) (ll.getD 0 []).length ∧ qsum (rv (ll.getD i [])) (ll.getD 0 []).length = 1 := by
  have h2 := (mechB_true.1 h).2.2
  simp only [List.all_eq_true] at h2
  have hm : ll.getD i [] ∈ ll := by simp only [List.getD, List.getElem?_eq_getElem hi, Option.getD_some]; exact List.getElem_mem hi
  have h3 := h2 _ hm
  simp only [rowB, Bool.and_eq_true, decide_eq_true_eq] at h3
  have := distB_row h3.2
  rw [h3.1] at this
  exact this
/-- Neighbouring rows differ by the ratio p at most. -/
def Adjr (ll : List (List QQ)) (p : Rat) (n : Nat) : Prop :=
  ∀ i, 1 ≤ i → i < n → ∀ k, k < (ll.getD 0 []).length → rv (ll.getD (i - 1) []) k ≤ p * rv (ll.getD i []) k ∧ rv (ll.getD i []) k ≤ p * rv (ll.getD (i - 1) []) k
theorem nbSt_spec {ll : List (List QQ)} {i : Nat} {p q a b : Int} (h : mechB ll = true) (hi : i < ll.length) (h1 : 1 ≤ i) (hq : 1 ≤ q) (hp : 1 ≤ qv p q) (e : nbSt ll i p q = (a, b, true)) :
    1 ≤ b ∧ qv p q ≤ qv a b ∧ (∀ k, k < (ll.getD 0 []).length → rv (ll.getD (i - 1) []) k ≤ qv a b * rv (ll.getD i []) k ∧ rv (ll.getD i []) k ≤ qv a b * rv (ll.getD (i - 1) []) k) ∧
      ∀ c : Rat, qv p q ≤ c → (∀ k, k < (ll.getD 0 []).length → rv (ll.getD (i - 1) []) k ≤ c * rv (ll.getD i []) k ∧ rv (ll.getD i []) k ≤ c * rv (ll.getD (i - 1) []) k) → qv a b ≤ c := by
  rw [nbSt_in h1] at e
  have pi := (mech_pos h hi).1
  have pj := (mech_pos h (i := i - 1) (by omega)).1
  have key := accQ_inv (P := fun k a b => 1 ≤ b ∧ qv p q ≤ qv a b ∧ (0 < k → ∀ j, j < (ll.getD 0 []).length → rv (ll.getD (i - 1) []) j ≤ qv a b * rv (ll.getD i []) j) ∧ (1 < k → ∀ j, j < (ll.getD 0 []).length → rv (ll.getD i []) j ≤ qv a b * rv (ll.getD (i - 1) []) j) ∧
      ∀ c : Rat, qv p q ≤ c → (∀ k, k < (ll.getD 0 []).length → rv (ll.getD (i - 1) []) k ≤ c * rv (ll.getD i []) k ∧ rv (ll.getD i []) k ≤ c * rv (ll.getD (i - 1) []) k) → qv a b ≤ c) 2 a b (fun k r s r1 s1 hk hP hh => ?_) ⟨hq, Rat.le_refl, fun h => absurd h (by omega), fun h => absurd h (by omega), fun c hc _ => hc⟩ e
  · exact ⟨key.1, key.2.1, fun k hk => ⟨key.2.2.1 (by omega) k hk, key.2.2.2.1 (by omega) k hk⟩, key.2.2.2.2⟩
  · obtain ⟨g1, g2, g3, g4, g5⟩ := hP
    obtain ⟨x, y, o, en⟩ : ∃ x y o, nbR ll i k = (x, y, o) := ⟨_, _, _, rfl⟩
    cases o with
    | false => rw [nbIn_no en] at hh; cases hh
    | true =>
      rw [nbIn_yes en] at hh
      simp only [Prod.mk.injEq] at hh
      obtain ⟨rfl, rfl, _⟩ := hh
      have hy : 1 ≤ y := (fracB_true.1 ((nbR_fine ll i k).ok en)).1.1
      have hm := maxQ_qv (a := r) (b := s) (c := x) (d := y) g1 hy
      unfold nbR at en
      rcases (show k = 0 ∨ k = 1 by omega) with rfl | rfl
      · rw [if_pos rfl] at en
        have hr := rrQ_spec pj pi en
        refine ⟨hm.1, Rat.le_trans g2 hm.2.1, fun _ j hj => le_scale (hr.2.2.1 j hj) hm.2.2.1 (pi.nn hj), fun h => absurd h (by omega), fun c hc hall => hm.2.2.2 c (g5 c hc hall) (hr.2.2.2 c ?_ fun k hk => (hall k hk).1)⟩
        grind
      · rw [if_neg (by omega)] at en
        have hr := rrQ_spec pi pj en
        refine ⟨hm.1, Rat.le_trans g2 hm.2.1, fun _ j hj => le_scale (g3 (by omega) j hj) hm.2.1 (pi.nn hj), fun _ j hj => le_scale (hr.2.2.1 j hj) hm.2.2.1 (pj.nn hj), fun c hc hall => hm.2.2.2 c (g5 c hc hall) (hr.2.2.2 c ?_ fun k hk => (hall k hk).2)⟩
        grind
theorem nbQ_spec {ll : List (List QQ)} {a b : Int} (e : nbQ ll = (a, b, true)) : mechB ll = true ∧ 1 ≤ b ∧ 1 ≤ qv a b ∧ Adjr ll (qv a b) ll.length ∧ ∀ c : Rat, 1 ≤ c → Adjr ll c ll.length → qv a b ≤ c := by
  by_cases h : mechB ll = true
  · rw [nbQ_yes h] at e
    refine ⟨h, accQ_inv (P := fun i a b => 1 ≤ b ∧ 1 ≤ qv a b ∧ Adjr ll (qv a b) i ∧ ∀ c : Rat, 1 ≤ c → Adjr ll c ll.length → qv a b ≤ c) ll.length a b (fun i p q r s hi hP hh => ?_) ?_ e⟩
    · obtain ⟨g1, g2, g3, g4⟩ := hP
      by_cases h0 : i = 0
      · subst h0
        unfold nbSt at hh
        simp only [if_true, Prod.mk.injEq] at hh
        obtain ⟨rfl, rfl, _⟩ := hh
        exact ⟨g1, g2, fun j h1 h2 => absurd h1 (by omega), g4⟩
      · have hs := nbSt_spec h hi (by omega) g1 g2 hh
        refine ⟨hs.1, Rat.le_trans g2 hs.2.1, fun j h1 h2 k hk => ?_, fun c hc hall => hs.2.2.2 c (g4 c hc hall) (hall i (by omega) hi)⟩
        by_cases hj : j = i
        · subst hj; exact hs.2.2.1 k hk
        · have := g3 j h1 (by omega) k hk
          exact ⟨le_scale this.1 hs.2.1 ((mech_pos h (i := j) (by omega)).1.nn hk), le_scale this.2 hs.2.1 ((mech_pos h (i := j - 1) (by omega)).1.nn hk)⟩
    · exact ⟨by omega, by rw [qv_one]; exact Rat.le_refl, fun j h1 h2 => absurd h2 (by omega), fun c hc _ => by rw [qv_one]; exact hc⟩
  · rw [nbQ_no (by simpa using h)] at e; cases e

theorem ppV_qv {a b x y u v r s : Int} (hb : 1 ≤ b) (hy : 1 ≤ y) (hv : 1 ≤ v) (h : ppV a b x y u v = (r, s, true)) : qv r s = qv a b + qv x y * qv u v ∧ 1 ≤ s := by
  obtain ⟨g1, g2, o, e⟩ : ∃ g1 g2 o, mkF (x * u) (y * v) = (g1, g2, o) := ⟨_, _, _, rfl⟩
  cases o with
  | false => rw [ppV_no e] at h; cases h
  | true =>
    rw [ppV_yes e] at h
    have h1 := mkF_mul hy hv e
    have h2 := mkF_add hb h1.2 h
    exact ⟨by rw [h2.1, h1.1], h2.2⟩
theorem ppF_qv {mm tt : List (List QQ)} {i j : Nat} {a b : Int} (hm : mechB mm = true) (ht : mechB tt = true) (hl : tt.length = (mm.getD 0 []).length) (hi : i < mm.length) (hj : j < (tt.getD 0 []).length) (e : ppF mm tt i j = (a, b, true)) :
    qv a b = qsum (fun k => rv (mm.getD i []) k * rv (tt.getD k []) j) (mm.getD 0 []).length := by
  have pm := (mech_pos hm hi).1
  unfold ppF at e
  rw [pm.1] at e
  have := accQ_qv (t := fun k => rv (mm.getD i []) k * rv (tt.getD k []) j) (mm.getD 0 []).length a b (fun k p q r s hk hq e => ppV_qv hq (pm.2 k hk).1 ((mech_pos ht (i := k) (by omega)).1.2 j hj).1 e) (by omega) e
  rw [this.1, qv_one]; grind
/-- What a table made by newMechanism holds. -/
theorem nmQ_spec {f : Nat → Nat → Int × Int × Bool} {n m : Nat} {xx : List (List QQ)} (e : nmQ f n m = (xx, true)) : mechB xx = true ∧ xx.length = n ∧ (∀ i, i < n → (xx.getD i []).length = m) ∧ ∀ i j, i < n → j < m → ∃ a b, f i j = (a, b, true) ∧ rv (xx.getD i []) j = qv a b := by
  by_cases h : okAll f n m = true ∧ mechB (tab f n m) = true
  · rw [nmQ_yes h.1 h.2] at e
    injection e with e _
    subst e
    refine ⟨h.2, tab_len f n m, fun i hi => tab_rowlen f hi, fun i j hi hj => ?_⟩
    have h1 := h.1
    simp only [okAll, List.all_eq_true, List.mem_range] at h1
    obtain ⟨a, b, o, e⟩ : ∃ a b o, f i j = (a, b, o) := ⟨_, _, _, rfl⟩
    have h2 := h1 i hi j hj
    rw [e] at h2
    simp only at h2
    subst h2
    refine ⟨a, b, e, ?_⟩
    unfold rv
    rw [← tab_at f hi hj e]
  · unfold nmQ at e; rw [if_neg h] at e; cases e
theorem pp_ratio {mm tt xx : List (List QQ)} {a b c d : Int} (e : ppQ mm tt = (xx, true)) (e1 : nbQ mm = (a, b, true)) (e2 : nbQ xx = (c, d, true)) : cmpQ c d a b ≤ 0 := by
  by_cases h : ppB mm tt = true
  · rw [ppQ_yes h] at e
    obtain ⟨n1, n2, n3, n4⟩ := nmQ_spec e
    simp only [ppB, Bool.and_eq_true, decide_eq_true_eq] at h
    obtain ⟨⟨hm, ht⟩, hl⟩ := h
    obtain ⟨_, hb, ha1, hadj, _⟩ := nbQ_spec e1
    obtain ⟨_, hd, _, _, hleast⟩ := nbQ_spec e2
    refine cmpQ_le hd hb (hleast _ ha1 fun i h1 hi k hk => ?_)
    rw [n2] at hi
    rw [n3 0 (by omega)] at hk
    obtain ⟨x, y, f1, v1⟩ := n4 i k hi hk
    obtain ⟨x', y', f2, v2⟩ := n4 (i - 1) k (by omega) hk
    rw [v1, v2, ppF_qv hm ht hl hi hk f1, ppF_qv hm ht hl (by omega) hk f2, ← qsum_mul, ← qsum_mul]
    constructor
    · refine qsum_le fun j hj => ?_
      have := mul_le_r (hadj i h1 hi j hj).1 ((mech_pos ht (i := j) (by omega)).1.nn hk)
      grind
    · refine qsum_le fun j hj => ?_
      have := mul_le_r (hadj i h1 hi j hj).2 ((mech_pos ht (i := j) (by omega)).1.nn hk)
      grind
  · rw [ppQ_no (by simpa using h)] at e; cases e
theorem pp_mech {mm tt xx : List (List QQ)} (e : ppQ mm tt = (xx, true)) : mechB xx = true := by
  by_cases h : ppB mm tt = true
  · rw [ppQ_yes h] at e; exact (nmQ_spec e).1
  · rw [ppQ_no (by simpa using h)] at e; cases e
theorem delta_zero {ll : List (List QQ)} {i k p q d1 d2 r1 r2 : Int} (e : deltaQ ll i k p q = (d1, d2, true)) (er : rowRatioQ ll i k = (r1, r2, true)) (hc : 0 ≤ cmpQ p q r1 r2) : d1 = 0 := by
  by_cases h : deB ll i k p q = true
  · have h' := h
    simp only [deB, Bool.and_eq_true, decide_eq_true_eq] at h'
    have hin := inp_true h'.1.1
    have hq := (fracB_true.1 h'.1.2).1.1
    unfold deltaQ at e
    rw [if_pos h] at e
    unfold rowRatioQ at er
    rw [if_pos h'.1.1] at er
    have pi := (mech_pos hin.1 (i := i.toNat) (by omega)).1
    have pk := (mech_pos hin.1 (i := k.toNat) (by omega)).1
    have hr := rrQ_spec pi pk er
    have hle : qv r1 r2 ≤ qv p q := by
      rw [qv_le (by omega) (by omega)]
      unfold cmpQ at hc
      split at hc
      · omega
      · omega
    rw [pi.1] at e
    refine (accQ_inv (P := fun _ a b => a = 0 ∧ b = 1) _ d1 d2 (fun j a b r s hj hP hh => ?_) ⟨rfl, rfl⟩ e).1
    obtain ⟨rfl, rfl⟩ := hP
    obtain ⟨x, y, hx⟩ : ∃ x y, (x, y) = (ll.getD i.toNat []).getD j (0, 0) := ⟨_, _, rfl⟩
    obtain ⟨u, v, hu⟩ : ∃ u v, (u, v) = (ll.getD k.toNat []).getD j (0, 0) := ⟨_, _, rfl⟩
    have y1 := (pi.2 j hj).1
    have v1 := (pk.2 j hj).1
    have hb := hr.2.2.1 j hj
    have hnn := pk.nn hj
    unfold rv at hb hnn
    rw [← hx] at y1 hb
    rw [← hu] at v1 hb hnn
    rw [deSt_at hx hu] at hh
    obtain ⟨g1, g2, o, eg⟩ : ∃ g1 g2 o, mkF (p * u) (q * v) = (g1, g2, o) := ⟨_, _, _, rfl⟩
    cases o with
    | false => rw [deV_no1 eg] at hh; cases hh
    | true =>
      have hg := mkF_mul hq v1 eg
      have hcm : cmpQ x y g1 g2 ≤ 0 := cmpQ_le y1 hg.2 (by rw [hg.1]; exact le_scale hb hle hnn)
      rw [deV_skip eg hcm] at hh
      injection hh with h1 h2
      injection h2 with h2 _
      exact ⟨h1.symm, h2.symm⟩
  · rw [deltaQ_no (by simpa using h)] at e; cases e
theorem bgMax_up {ll : List (List QQ)} {pr : List QQ} {n m j : Nat} {a b : Int} (hp : PosR pr n) (hl : ∀ i, i < n → PosR (ll.getD i []) m) (hj : j < m) (e : bgMax ll pr n j = (a, b, true)) : 1 ≤ b ∧ ∀ i, i < n → rv pr i * rv (ll.getD i []) j ≤ qv a b := by
  unfold bgMax at e
  refine accQ_inv (P := fun k a b => 1 ≤ b ∧ ∀ i, i < k → rv pr i * rv (ll.getD i []) j ≤ qv a b) n a b (fun k p q r s hk hP hh => ?_) ⟨by omega, fun i hi => absurd hi (by omega)⟩ e
  unfold bgIn at hh
  obtain ⟨x, y, o, ex⟩ : ∃ x y o, mkF ((pr.getD k (0, 0)).1 * ((ll.getD k []).getD j (0, 0)).1) ((pr.getD k (0, 0)).2 * ((ll.getD k []).getD j (0, 0)).2) = (x, y, o) := ⟨_, _, _, rfl⟩
  rw [ex] at hh
  cases o with
  | false => simp at hh
  | true =>
    simp only [if_true, Prod.mk.injEq] at hh
    obtain ⟨rfl, rfl, _⟩ := hh
    have h1 := mkF_mul (hp.2 k hk).1 ((hl k hk).2 j hj).1 ex
    have hm := maxQ_qv (a := p) (b := q) (c := x) (d := y) hP.1 h1.2
    refine ⟨hm.1, fun i hi => ?_⟩
    by_cases hik : i = k
    · subst hik
      have := hm.2.2.1
      rw [h1.1] at this
      exact this
    · exact Rat.le_trans (hP.2 i (by omega)) hm.2.1
theorem bgOut_up {ll : List (List QQ)} {pr : List QQ} {n m i : Nat} {a b : Int} (hp : PosR pr n) (hl : ∀ i, i < n → PosR (ll.getD i []) m) (hi : i < n) (e : accQ (bgOut ll pr n) 0 1 m = (a, b, true)) : 1 ≤ b ∧ qsum (fun j => rv pr i * rv (ll.getD i []) j) m ≤ qv a b := by
  refine accQ_inv (P := fun k a b => 1 ≤ b ∧ qsum (fun j => rv pr i * rv (ll.getD i []) j) k ≤ qv a b) m a b (fun k p q r s hk hP hh => ?_) ⟨by omega, by simp only [qsum]; rw [qv_one]; exact Rat.le_refl⟩ e
  obtain ⟨x, y, o, ex⟩ : ∃ x y o, bgMax ll pr n k = (x, y, o) := ⟨_, _, _, rfl⟩
  cases o with
  | false => rw [bgOut_no ((bgMax_fine ll pr n k).bad ex |> fun h => by rw [ex] at h; rw [ex, h])] at hh; cases hh
  | true =>
    rw [bgOut_yes ex] at hh
    have hm := bgMax_up hp hl hk ex
    have h1 := mkF_add hP.1 hm.1 hh
    refine ⟨h1.2, ?_⟩
    rw [h1.1]
    simp only [qsum]
    have := hm.2 i hi
    have := hP.2
    grind
theorem guess_up {ll : List (List QQ)} {pr : List QQ} {a b : Int} {i : Nat} {x y : Int} (e : bgQ ll pr = (a, b, true)) (hi : i < pr.length) (hx : (x, y) = pr.getD i (0, 0)) : fracB x y = true ∧ cmpQ x y a b ≤ 0 := by
  by_cases h : bgB ll pr = true
  · rw [bgQ_yes h] at e
    simp only [bgB, Bool.and_eq_true, decide_eq_true_eq] at h
    obtain ⟨⟨hm, hl⟩, hd⟩ := h
    have pp := (distB_row hd).1
    rw [hl] at pp hi
    have hb := bgOut_up pp (fun i hi => (mech_pos hm hi).1) hi e
    have hs := (mech_pos hm hi).2
    have hq : fracB x y = true := by
      simp only [distB, Bool.and_eq_true, List.all_eq_true] at hd
      have hmem : pr.getD i (0, 0) ∈ pr := by simp only [List.getD, List.getElem?_eq_getElem (show i < pr.length by omega), Option.getD_some]; exact List.getElem_mem _
      have := hd.1 _ hmem
      rw [← hx] at this
      exact (posQ_true.1 this).1
    refine ⟨hq, cmpQ_le (fracB_true.1 hq).1.1 hb.1 ?_⟩
    rw [qsum_mul, hs] at hb
    have h2 := hb.2
    unfold rv at h2
    rw [← hx] at h2
    grind
  · rw [bgQ_no (by simpa using h)] at e; cases e
theorem pr_ratio {aa bb xx : List (List QQ)} {r1 r2 s1 s2 t1 t2 u1 u2 : Int} (e : prQ aa bb = (xx, true)) (e1 : nbQ aa = (r1, r2, true)) (e2 : nbQ bb = (s1, s2, true)) (e3 : nbQ xx = (t1, t2, true)) (e4 : mkF (r1 * s1) (r2 * s2) = (u1, u2, true)) : cmpQ t1 t2 u1 u2 ≤ 0 := by
  by_cases h : prB aa bb = true
  · rw [prQ_yes h] at e
    obtain ⟨n1, n2, n3, n4⟩ := nmQ_spec e
    simp only [prB, Bool.and_eq_true, decide_eq_true_eq] at h
    obtain ⟨⟨ha, hb⟩, hl⟩ := h
    obtain ⟨_, q1, ra, adja, _⟩ := nbQ_spec e1
    obtain ⟨_, q2, rb, adjb, _⟩ := nbQ_spec e2
    obtain ⟨_, q3, _, _, hleast⟩ := nbQ_spec e3
    have hu := mkF_mul q1 q2 e4
    refine cmpQ_le q3 hu.2 ?_
    rw [hu.1]
    have key : ∀ {x x' y y' p p' : Rat}, x ≤ p * x' → y ≤ p' * y' → 0 ≤ y → 0 ≤ p → 0 ≤ x' → x * y ≤ p * p' * (x' * y') := by
      intro x x' y y' p p' h1 h2 h3 h5 h6
      have g1 : x * y ≤ p * x' * y := mul_le_r h1 h3
      have g2 : p * x' * y ≤ p * x' * (p' * y') := mul_le_l h2 (Rat.mul_nonneg h5 h6)
      have g3 : p * x' * (p' * y') = p * p' * (x' * y') := by grind
      rw [← g3]
      exact Rat.le_trans g1 g2
    refine hleast _ ?_ fun i h1 hi k hk => ?_
    · have := mul_le_l rb (show 0 ≤ qv r1 r2 by grind)
      grind
    · rw [n2] at hi
      rw [n3 0 (by omega)] at hk
      obtain ⟨m, hm⟩ : ∃ m, m = (bb.getD 0 []).length := ⟨_, rfl⟩
      rw [← hm] at hk n4
      have hm0 : 0 < m := by
        rcases Nat.eq_zero_or_pos m with h0 | h0
        · subst h0; simp at hk
        · exact h0
      have hz : k / m < (aa.getD 0 []).length := Nat.div_lt_of_lt_mul (by rw [Nat.mul_comm]; exact hk)
      have hq : k % m < (bb.getD 0 []).length := by rw [← hm]; exact Nat.mod_lt _ hm0
      have val : ∀ i, i < aa.length → rv (xx.getD i []) k = rv (aa.getD i []) (k / m) * rv (bb.getD i []) (k % m) := fun i hi => by
        obtain ⟨x, y, f1, v1⟩ := n4 i k hi hk
        rw [v1]
        unfold prF at f1
        exact (mkF_mul ((mech_pos ha hi).1.2 _ hz).1 ((mech_pos hb (i := i) (by omega)).1.2 _ hq).1 f1).1
      rw [val i hi, val (i - 1) (by omega)]
      have A := adja i h1 hi _ hz
      have B := adjb i h1 (by omega) _ hq
      have a1 := (mech_pos ha hi).1.nn hz
      have a2 := (mech_pos ha (i := i - 1) (by omega)).1.nn hz
      have b1 := (mech_pos hb (i := i) (by omega)).1.nn hq
      have b2 := (mech_pos hb (i := i - 1) (by omega)).1.nn hq
      have ra0 : 0 ≤ qv r1 r2 := by grind
      exact ⟨key A.1 B.1 b2 ra0 a1, key A.2 B.2 b1 ra0 a2⟩
  · rw [prQ_no (by simpa using h)] at e; cases e
end Go.Proofs.Ytnopedjgagoahaa
