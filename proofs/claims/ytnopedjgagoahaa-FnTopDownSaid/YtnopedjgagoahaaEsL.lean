/- Consistent estimates: they are additive, and no leaf's path is better moved by one. Plain lemmas, no walk. -/
import Derived.Test.YtnopedjgagoahaaKL
import Derived.Test.YtnopedjgagoahaaConL
import Derived.Test.YtnopedjgagoahaaKI
import Derived.Test.YtnopedjgagoahaaKG
namespace Go.Proofs.Ytnopedjgagoahaa
open Go.RowKit
set_option linter.unusedVariables false
set_option linter.unusedSimpArgs false

def kidSum (F : Nat → Rat) (ps : List Int) (i : Nat) : Rat := qsum (fun m => F (kid ps i m)) (kids ps i).length
theorem kidSum_congr {F G : Nat → Rat} {ps : List Int} {i : Nat} (hg : geoB ps = true) (h : ∀ j, i < j → j < ps.length → F j = G j) : kidSum F ps i = kidSum G ps i :=
  qsum_congr fun m hm => h _ (kid_lt hg hm).1 (kid_lt hg hm).2.1
/-- All denominators from i on are positive. -/
def DenF (l : List QQ) (i n : Nat) : Prop := ∀ j, i ≤ j → j < n → 1 ≤ (l.getD j (0, 0)).2
theorem sumQ_qv {ps : List Int} {l : List QQ} {i : Nat} {a b : Int} (hg : geoB ps = true) (hd : DenF l (i + 1) ps.length) (e : sumQ l (kids ps i) = (a, b, true)) : qv a b = kidSum (rv l) ps i ∧ 1 ≤ b := by
  unfold sumQ at e
  have := accQ_qv (t := fun m => rv l (kid ps i m)) (kids ps i).length a b (fun k p q r s hk hq ee => ?_) (by omega) e
  · refine ⟨?_, this.2⟩
    rw [this.1, qv_one]
    unfold kidSum
    grind
  · have hk' := kid_lt hg hk
    unfold suSt at ee
    exact mkF_add hq (hd _ (by omega) hk'.2.1) ee
theorem bindQ_out {β : Type} {r : Int × Int × Bool} {f : Int → Int → Option β} {m : β} (h : bindQ r f = some m) : ∃ a b, r = (a, b, true) ∧ f a b = some m := by
  obtain ⟨a, b, o⟩ := r
  cases o with
  | false => rw [bindQ_no rfl] at h; cases h
  | true => rw [bindQ_yes rfl] at h; exact ⟨a, b, rfl, h⟩
theorem sums2_qv {ps : List Int} {z u : List QQ} {i : Nat} {m : (Int × Int) × (Int × Int)} (hg : geoB ps = true) (hz : DenF z (i + 1) ps.length) (hu : DenF u (i + 1) ps.length) (e : sums2 z u (kids ps i) = some m) :
    qv m.1.1 m.1.2 = kidSum (rv z) ps i ∧ 1 ≤ m.1.2 ∧ qv m.2.1 m.2.2 = kidSum (rv u) ps i ∧ 1 ≤ m.2.2 := by
  unfold sums2 at e
  obtain ⟨a, b, e1, e⟩ := bindQ_out e
  obtain ⟨c, d, e2, e⟩ := bindQ_out e
  injection e with e
  subst e
  have h1 := sumQ_qv hg hz e1
  have h2 := sumQ_qv hg hu e2
  exact ⟨h1.1, h1.2, h2.1, h2.2⟩
theorem qv_num0 {a b : Int} (hb : 1 ≤ b) (h : 0 < qv a b) : a ≠ 0 := by
  intro h0
  subst h0
  have : qv 0 b = 0 := by unfold qv; grind
  rw [this] at h
  exact absurd h (by grind)
theorem meanQ_qv {y w s1 s2 v1 v2 : Int} {m : (Int × Int) × (Int × Int)} (hw : 1 ≤ w) (hs : 1 ≤ s2) (hv : 1 ≤ v2) (hV : 0 < qv v1 v2) (e : meanQ y w s1 s2 v1 v2 = some m) :
    qv m.1.1 m.1.2 = (qv v1 v2 * y + w * qv s1 s2) / (qv v1 v2 + w) ∧ 1 ≤ m.1.2 ∧ qv m.2.1 m.2.2 = qv v1 v2 * w / (qv v1 v2 + w) ∧ 1 ≤ m.2.2 ∧ 0 < qv m.2.1 m.2.2 := by
  have hw' := rat_pos (show 0 < w by omega)
  unfold meanQ at e
  obtain ⟨a1, a2, e1, e⟩ := bindQ_out e
  unfold meanB at e
  obtain ⟨b1, b2, e2, e⟩ := bindQ_out e
  unfold meanT at e
  obtain ⟨t1, t2, e3, e⟩ := bindQ_out e
  unfold meanD at e
  obtain ⟨d1, d2, e4, e⟩ := bindQ_out e
  unfold meanP at e
  obtain ⟨p1, p2, e5, e⟩ := bindQ_out e
  unfold meanZ at e
  obtain ⟨z1, z2, e6, e⟩ := bindQ_out e
  unfold meanU at e
  obtain ⟨u1, u2, e7, e⟩ := bindQ_out e
  injection e with e
  subst e
  have g1 := mkF_mul (x := y) (y := 1) hv (by omega) e1
  have g2 := mkF_mul (x := w) (y := 1) hs (by omega) e2
  have g3 := mkF_add g1.2 g2.2 e3
  have g4 := mkF_add (a := v1) (b := v2) (x := w) (y := 1) hv (by omega) e4
  have g5 := mkF_mul (x := w) (y := 1) hv (by omega) e5
  rw [qv_one] at g1 g2 g4 g5
  have hD : 0 < qv d1 d2 := by rw [g4.1]; grind
  have d0 := qv_num0 g4.2 hD
  have g6 := mkF_div g3.2 g4.2 d0 e6
  have g7 := mkF_div g5.2 g4.2 d0 e7
  have hne : qv v1 v2 + w ≠ 0 := by grind
  refine ⟨?_, g6.2, ?_, g7.2, ?_⟩
  · rw [g6.1, g3.1, g1.1, g2.1, g4.1]; grind
  · rw [g7.1, g5.1, g4.1]
  · show 0 < qv u1 u2
    rw [g7.1, g5.1, g4.1, Rat.div_def]
    refine rat_mul_pos (rat_mul_pos hV hw') ?_
    rw [Rat.inv_pos]
    grind
/-- What an area's own estimate and variance are. -/
def Node (ps y v : List Int) (z u : List QQ) (i : Nat) : Prop :=
  (1 ≤ (z.getD i (0, 0)).2 ∧ 1 ≤ (u.getD i (0, 0)).2 ∧ 0 < rv u i) ∧
  ((kids ps i).length = 0 → rv z i = (y.getD i 0 : Int) ∧ rv u i = (v.getD i 0 : Int)) ∧
  (¬ (kids ps i).length = 0 → 0 < kidSum (rv u) ps i ∧ rv z i = (kidSum (rv u) ps i * (y.getD i 0 : Int) + (v.getD i 0 : Int) * kidSum (rv z) ps i) / (kidSum (rv u) ps i + (v.getD i 0 : Int)) ∧ rv u i = kidSum (rv u) ps i * (v.getD i 0 : Int) / (kidSum (rv u) ps i + (v.getD i 0 : Int)))
theorem rv_set {l : List QQ} {i : Nat} {f : QQ} {j : Nat} (hi : i < l.length) : rv (l.set i f) j = if j = i then qv f.1 f.2 else rv l j := by
  unfold rv
  rw [getD_setL]
  by_cases h : j = i
  · subst h; rw [if_pos ⟨rfl, hi⟩, if_pos rfl]
  · rw [if_neg (by omega), if_neg h]
theorem Node.set {ps y v : List Int} {z u : List QQ} {i j : Nat} {f g : QQ} (hg : geoB ps = true) (h : Node ps y v z u j) (hz : i < z.length) (hu : i < u.length) (hij : i < j) : Node ps y v (z.set i f) (u.set i g) j := by
  obtain ⟨⟨h1, h2, h3⟩, h4, h5⟩ := h
  have ez : ∀ k, i < k → rv (z.set i f) k = rv z k := fun k hk => by rw [rv_set hz, if_neg (by omega)]
  have eu : ∀ k, i < k → rv (u.set i g) k = rv u k := fun k hk => by rw [rv_set hu, if_neg (by omega)]
  have sz : kidSum (rv (z.set i f)) ps j = kidSum (rv z) ps j := kidSum_congr hg fun k hk _ => ez k (by omega)
  have su : kidSum (rv (u.set i g)) ps j = kidSum (rv u) ps j := kidSum_congr hg fun k hk _ => eu k (by omega)
  refine ⟨⟨by rw [getD_setL, if_neg (by omega)]; exact h1, by rw [getD_setL, if_neg (by omega)]; exact h2, by rw [eu j hij]; exact h3⟩, fun h => ?_, fun h => ?_⟩
  · rw [ez j hij, eu j hij]; exact h4 h
  · rw [ez j hij, eu j hij, sz, su]; exact h5 h
theorem qsum_pos {t : Nat → Rat} {n : Nat} (h : ∀ j, j < n → 0 < t j) (hn : 0 < n) : 0 < qsum t n := by
  cases n with
  | zero => omega
  | succ n =>
    have := qsum_nonneg (t := t) (n := n) (fun j hj => Rat.le_of_lt (h j (by omega)))
    have := h n (by omega)
    simp only [qsum]
    grind
theorem subSt_node {ps y v : List Int} {i : Nat} {s r : TS} (hB : treeB ps y v = true) (hi : i < ps.length) (l1 : s.1.length = ps.length) (l2 : s.2.length = ps.length) (hn : ∀ j, i < j → j < ps.length → Node ps y v s.1 s.2 j) (e : subSt ps y v i s = some r) :
    r.1.length = ps.length ∧ r.2.length = ps.length ∧ ∀ j, i ≤ j → j < ps.length → Node ps y v r.1 r.2 j := by
  obtain ⟨hg, hy, hv, wy, wv⟩ := treeB_true.1 hB
  have hv1 : 1 ≤ v.getD i 0 := (within_true.1 wv i (by omega)).1
  have hv' := rat_pos (show 0 < v.getD i 0 by omega)
  have rest : ∀ {f g : QQ}, Node ps y v (s.1.set i f) (s.2.set i g) i → (s.1.set i f).length = ps.length ∧ (s.2.set i g).length = ps.length ∧ ∀ j, i ≤ j → j < ps.length → Node ps y v (s.1.set i f) (s.2.set i g) j := by
    intro f g h
    refine ⟨by simpa using l1, by simpa using l2, fun j hj hjn => ?_⟩
    by_cases hji : j = i
    · subst hji; exact h
    · exact (hn j (by omega) hjn).set hg (by omega) (by omega) (by omega)
  by_cases hk : (kids ps i).length = 0
  · rw [subSt_leaf hk rfl rfl] at e
    injection e with e
    subst e
    refine rest ⟨⟨by rw [getD_setL, if_pos ⟨rfl, by omega⟩]; exact Int.le_refl _, by rw [getD_setL, if_pos ⟨rfl, by omega⟩]; exact Int.le_refl _, ?_⟩, fun _ => ⟨?_, ?_⟩, fun h => absurd hk h⟩
    · rw [rv_set (by omega), if_pos rfl, qv_one]; exact hv'
    · rw [rv_set (by omega), if_pos rfl, qv_one]
    · rw [rv_set (by omega), if_pos rfl, qv_one]
  · cases e2 : sums2 s.1 s.2 (kids ps i) with
    | none => rw [subSt_no1 hk e2] at e; cases e
    | some m =>
      have hs := sums2_qv hg (fun j hj hjn => (hn j (by omega) hjn).1.1) (fun j hj hjn => (hn j (by omega) hjn).1.2.1) e2
      obtain ⟨⟨s1, s2⟩, ⟨v1, v2⟩⟩ := m
      simp only at hs
      cases e3 : meanQ (y.getD i 0) (v.getD i 0) s1 s2 v1 v2 with
      | none => rw [subSt_no2 hk rfl rfl e2 e3] at e; cases e
      | some q =>
        rw [subSt_yes hk rfl rfl e2 e3] at e
        injection e with e
        subst e
        have hV : 0 < kidSum (rv s.2) ps i := qsum_pos (fun m hm => (hn _ (kid_lt hg hm).1 (kid_lt hg hm).2.1).1.2.2) (by omega)
        have hm := meanQ_qv hv1 hs.2.1 hs.2.2.2 (by rw [hs.2.2.1]; exact hV) e3
        rw [hs.1, hs.2.2.1] at hm
        have sz : kidSum (rv (s.1.set i q.1)) ps i = kidSum (rv s.1) ps i := kidSum_congr hg fun k hk _ => by rw [rv_set (by omega), if_neg (by omega)]
        have su : kidSum (rv (s.2.set i q.2)) ps i = kidSum (rv s.2) ps i := kidSum_congr hg fun k hk _ => by rw [rv_set (by omega), if_neg (by omega)]
        refine rest ⟨⟨by rw [getD_setL, if_pos ⟨rfl, by omega⟩]; exact hm.2.1, by rw [getD_setL, if_pos ⟨rfl, by omega⟩]; exact hm.2.2.2.1, ?_⟩, fun h => absurd h hk, fun _ => ?_⟩
        · rw [rv_set (by omega), if_pos rfl]; exact hm.2.2.2.2
        · rw [sz, su, rv_set (by omega), if_pos rfl, rv_set (by omega), if_pos rfl]
          exact ⟨hV, hm.1, hm.2.2.1⟩
theorem subT_node {ps y v : List Int} (hB : treeB ps y v = true) : ∀ k, k ≤ ps.length → ∀ s, subT ps y v ps.length k = some s → s.1.length = ps.length ∧ s.2.length = ps.length ∧ ∀ j, ps.length - k ≤ j → j < ps.length → Node ps y v s.1 s.2 j
  | 0, _, s, e => by
    simp only [subT] at e
    injection e with e
    subst e
    exact ⟨by simp, by simp, fun j h1 h2 => by omega⟩
  | k + 1, hk, s, e => by
    simp only [subT] at e
    cases e1 : subT ps y v ps.length k with
    | none => rw [e1] at e; cases e
    | some t =>
      rw [e1] at e
      simp only [Option.bind_some] at e
      obtain ⟨h1, h2, h3⟩ := subT_node hB k (by omega) t e1
      obtain ⟨g1, g2, g3⟩ := subSt_node hB (show ps.length - 1 - k < ps.length by omega) h1 h2 (fun j hj hjn => h3 j (by omega) hjn) e
      exact ⟨g1, g2, fun j hj hjn => g3 j (by omega) hjn⟩
/-- The shares of the children. -/
theorem shareQ_qv {z1 z2 u1 u2 v1 v2 d1 d2 a b : Int} (hz : 1 ≤ z2) (hu : 1 ≤ u2) (hv : 1 ≤ v2) (hd : 1 ≤ d2) (hV : 0 < qv v1 v2) (e : shareQ z1 z2 u1 u2 v1 v2 d1 d2 = (a, b, true)) : qv a b = qv z1 z2 + qv u1 u2 / qv v1 v2 * qv d1 d2 ∧ 1 ≤ b := by
  have out : ∀ {r : Int × Int × Bool} {f : Int → Int → Int × Int × Bool}, bindT r f = (a, b, true) → ∃ x y, r = (x, y, true) ∧ f x y = (a, b, true) := by
    intro r f h
    obtain ⟨x, y, o⟩ := r
    cases o with
    | false => rw [bindT_no rfl] at h; cases h
    | true => rw [bindT_yes rfl] at h; exact ⟨x, y, rfl, h⟩
  unfold shareQ at e
  obtain ⟨p1, p2, e1, e⟩ := out e
  unfold shareP at e
  obtain ⟨x1, x2, e2, e⟩ := out e
  unfold shareX at e
  have g1 := mkF_div hu hv (qv_num0 hv hV) e1
  have g2 := mkF_mul g1.2 hd e2
  have g3 := mkF_add hz g2.2 e
  exact ⟨by rw [g3.1, g2.1, g1.1], g3.2⟩
theorem shIn_qv {ps : List Int} {z u out : List QQ} {i : Nat} {v1 v2 d1 d2 : Int} (hg : geoB ps = true) (hl : out.length = ps.length) (hz : DenF z 0 ps.length) (hu : DenF u 0 ps.length) (hv : 1 ≤ v2) (hd : 1 ≤ d2) (hV : 0 < qv v1 v2) : ∀ m, m ≤ (kids ps i).length → ∀ o, shIn z u v1 v2 d1 d2 (kids ps i) out m = some o →
    o.length = ps.length ∧ (∀ j, (∀ q, q < m → kid ps i q ≠ j) → o.getD j (0, 0) = out.getD j (0, 0)) ∧ ∀ q, q < m → 1 ≤ (o.getD (kid ps i q) (0, 0)).2 ∧ rv o (kid ps i q) = rv z (kid ps i q) + rv u (kid ps i q) / qv v1 v2 * qv d1 d2
  | 0, _, o, e => by
    simp only [shIn] at e
    injection e with e
    subst e
    exact ⟨hl, fun j _ => rfl, fun q hq => absurd hq (by omega)⟩
  | m + 1, hm, o, e => by
    simp only [shIn] at e
    cases e1 : shIn z u v1 v2 d1 d2 (kids ps i) out m with
    | none => rw [e1] at e; cases e
    | some t =>
      rw [e1] at e
      simp only [Option.bind_some] at e
      obtain ⟨a, b, e2, e⟩ := bindQ_out e
      injection e with e
      subst e
      obtain ⟨h1, h2, h3⟩ := shIn_qv hg hl hz hu hv hd hV m (by omega) t e1
      have hk := kid_lt hg (show m < (kids ps i).length by omega)
      have hq := shareQ_qv (hz _ (Nat.zero_le _) hk.2.1) (hu _ (Nat.zero_le _) hk.2.1) hv hd hV e2
      refine ⟨by simpa using h1, fun j hj => ?_, fun q hq' => ?_⟩
      · rw [getD_setL, if_neg (fun h => hj m (by omega) h.1)]
        exact h2 j fun q hq => hj q (by omega)
      · show 1 ≤ ((t.set (kid ps i m) (a, b)).getD (kid ps i q) (0, 0)).2 ∧ rv (t.set (kid ps i m) (a, b)) (kid ps i q) = _
        rw [rv_set (by omega), getD_setL]
        by_cases hqm : kid ps i q = kid ps i m
        · rw [if_pos ⟨hqm.symm, by omega⟩, if_pos hqm, hqm]
          exact ⟨hq.2, hq.1⟩
        · have : q < m := by
            rcases Nat.lt_or_ge q m with h | h
            · exact h
            · obtain rfl : q = m := by omega
              exact absurd rfl hqm
          rw [if_neg (fun h => hqm h.1.symm), if_neg hqm]
          exact h3 q this
/-- The estimates of a whole tree. -/
def Sol (ps : List Int) (Z U O : Nat → Rat) (k : Nat) : Prop := ∀ i, i < k → ∀ m, m < (kids ps i).length → O (kid ps i m) = Z (kid ps i m) + U (kid ps i m) / kidSum U ps i * (O i - kidSum Z ps i)
theorem conT_sol {ps y v : List Int} {z u : List QQ} (hg : geoB ps = true) (lz : z.length = ps.length) (hn : ∀ j, j < ps.length → Node ps y v z u j) : ∀ k, k ≤ ps.length → ∀ o, conT ps z u k = some o →
    o.length = ps.length ∧ DenF o 0 ps.length ∧ (∀ j, (j = 0 ∨ (k : Int) ≤ ps.getD j 0) → o.getD j (0, 0) = z.getD j (0, 0)) ∧ Sol ps (rv z) (rv u) (rv o) k
  | 0, _, o, e => by
    simp only [conT] at e
    injection e with e
    subst e
    exact ⟨lz, fun j _ hj => (hn j hj).1.1, fun j _ => rfl, fun i hi => absurd hi (by omega)⟩
  | k + 1, hk, o, e => by
    simp only [conT] at e
    cases e1 : conT ps z u k with
    | none => rw [e1] at e; cases e
    | some t =>
      rw [e1] at e
      simp only [Option.bind_some] at e
      obtain ⟨h1, h2, h3, h4⟩ := conT_sol hg lz hn k (by omega) t e1
      by_cases hkk : (kids ps k).length = 0
      · rw [conSt_leaf hkk] at e
        injection e with e
        subst e
        refine ⟨h1, h2, fun j hj => h3 j (by omega), fun i hi m hm => ?_⟩
        by_cases hik : i = k
        · subst hik; omega
        · exact h4 i (by omega) m hm
      · cases e2 : sums2 z u (kids ps k) with
        | none => rw [conSt_no1 hkk e2] at e; cases e
        | some m =>
          have hs := sums2_qv hg (fun j _ hj => (hn j hj).1.1) (fun j _ hj => (hn j hj).1.2.1) e2
          obtain ⟨⟨s1, s2⟩, ⟨v1, v2⟩⟩ := m
          simp only at hs
          obtain ⟨d1, d2, od, e3⟩ : ∃ d1 d2 od, mkF ((t.getD k (0, 0)).1 * s2 - s1 * (t.getD k (0, 0)).2) ((t.getD k (0, 0)).2 * s2) = (d1, d2, od) := ⟨_, _, _, rfl⟩
          cases od with
          | false => rw [conSt_no2 hkk e2 rfl e3] at e; cases e
          | true =>
            rw [conSt_yes hkk e2 rfl e3] at e
            have hd := mkF_sub (h2 k (Nat.zero_le _) (by omega)) hs.2.1 e3
            have hV : 0 < qv v1 v2 := by rw [hs.2.2.1]; exact ((hn k (by omega)).2.2 hkk).1
            obtain ⟨g1, g2, g3⟩ := shIn_qv (i := k) hg h1 (fun j _ hj => (hn j hj).1.1) (fun j _ hj => (hn j hj).1.2.1) hs.2.2.2 hd.2 hV _ (Nat.le_refl _) o e
            -- an area whose parent is not k stays
            have stay : ∀ j, ps.getD j 0 ≠ k → o.getD j (0, 0) = t.getD j (0, 0) := fun j hj => g2 j fun q hq hh => hj (by rw [← hh]; exact (kid_lt hg hq).2.2)
            have hroot := geoB_head hg
            have par : ∀ i, 0 < i → i < ps.length → 0 ≤ ps.getD i 0 ∧ ps.getD i 0 < i := fun i h0 hi => (geoB_true.1 hg).2.2 i hi h0
            have k0 : ps.getD k 0 ≠ k := by
              rcases Nat.eq_zero_or_pos k with h | h
              · subst h; rw [hroot]; decide
              · have := par k h (by omega); omega
            refine ⟨g1, fun j _ hj => ?_, fun j hj => ?_, fun i hi m hm => ?_⟩
            · by_cases hp : ps.getD j 0 = k
              · rcases Nat.eq_zero_or_pos j with h | h
                · subst h; rw [hroot] at hp; omega
                · obtain ⟨q, hq, rfl⟩ := kids_has h hj hp
                  exact (g3 q hq).1
              · rw [stay j hp]; exact h2 j (Nat.zero_le _) hj
            · have hp : ps.getD j 0 ≠ k := by
                rcases hj with rfl | hj
                · rw [hroot]; omega
                · omega
              rw [stay j hp]
              exact h3 j (by omega)
            · by_cases hik : i = k
              · subst hik
                have := (g3 m hm).2
                rw [this, hs.2.2.1, hd.1, hs.1]
                have : rv o i = rv t i := by unfold rv; rw [stay i k0]
                rw [this]; rfl
              · have hkd := kid_lt hg hm
                have e5 : rv o (kid ps i m) = rv t (kid ps i m) := by unfold rv; rw [stay _ (by rw [hkd.2.2]; omega)]
                have e6 : rv o i = rv t i := by
                  unfold rv
                  rw [stay i ?_]
                  rcases Nat.eq_zero_or_pos i with h | h
                  · subst h; rw [hroot]; omega
                  · have := par i h (by omega); omega
                rw [e5, e6]
                exact h4 i (by omega) m hm
theorem con_add {Z U O : Nat → Rat} {ps : List Int} {i k : Nat} (h : Sol ps Z U O k) (hi : i < k) (hV : 0 < kidSum U ps i) : kidSum O ps i = O i := by
  have e : kidSum O ps i = qsum (fun m => Z (kid ps i m) + (O i - kidSum Z ps i) / kidSum U ps i * U (kid ps i m)) (kids ps i).length := by
    refine qsum_congr fun m hm => ?_
    rw [h i hi m hm]
    grind
  rw [e, qsum_add, qsum_mul]
  show kidSum Z ps i + (O i - kidSum Z ps i) / kidSum U ps i * kidSum U ps i = O i
  grind
/-- The numbers on the way up from an area. -/
def upS (f : Nat → Rat) (ps : List Int) : Nat → Int → Rat
  | 0, _ => 0
  | k + 1, i => if i < 0 then 0 else f i.toNat + upS f ps k (ps.getD i.toNat 0)
theorem up_zero {ps y v : List Int} {z u : List QQ} {O : Nat → Rat} (hg : geoB ps = true) (hv : ∀ j, j < ps.length → 1 ≤ v.getD j 0) (hn : ∀ j, j < ps.length → Node ps y v z u j) (hs : Sol ps (rv z) (rv u) O ps.length) (h0 : O 0 = rv z 0) :
    ∀ (k j : Nat), 0 < j → j < ps.length → ps.getD j 0 < (k : Int) → upS (fun i => (O i - (y.getD i 0 : Int)) / (v.getD i 0 : Int)) ps k (ps.getD j 0) = -((O j - rv z j) / rv u j)
  | 0, j, hj0, hj, hk => by have := (geoB_true.1 hg).2.2 j hj hj0; omega
  | k + 1, j, hj0, hj, hk => by
    have hp := (geoB_true.1 hg).2.2 j hj hj0
    obtain ⟨i, hi⟩ : ∃ i : Nat, ps.getD j 0 = i := ⟨(ps.getD j 0).toNat, by omega⟩
    rw [hi] at hp hk ⊢
    simp only [upS]
    rw [if_neg (by omega), Int.toNat_natCast]
    have hin : i < ps.length := by omega
    obtain ⟨m, hm, rfl⟩ := kids_has hj0 hj hi
    obtain ⟨⟨_, _, hU⟩, _, hI⟩ := hn i hin
    obtain ⟨hV, hZ, hUi⟩ := hI (by omega)
    have hO := hs i hin m hm
    have hUj := (hn (kid ps i m) hj).1.2.2
    have hv' := rat_pos (show 0 < v.getD i 0 by have := hv i hin; omega)
    have hup : upS (fun i => (O i - (y.getD i 0 : Int)) / (v.getD i 0 : Int)) ps k (ps.getD i 0) = -((O i - rv z i) / rv u i) := by
      rcases Nat.eq_zero_or_pos i with h | h
      · subst h
        rw [geoB_head hg, h0]
        have : upS (fun i => (O i - (y.getD i 0 : Int)) / (v.getD i 0 : Int)) ps k (-1) = 0 := by
          cases k with
          | zero => rfl
          | succ k => simp only [upS]; rw [if_pos (by omega)]
        rw [this]; grind
      · have := (geoB_true.1 hg).2.2 i hin h
        exact up_zero hg hv hn hs h0 k i h hin (by omega)
    rw [hup, hO, hZ, hUi]
    generalize kidSum (rv u) ps i = V at *
    generalize kidSum (rv z) ps i = S at *
    generalize ((v.getD i 0 : Int) : Rat) = w at *
    generalize ((y.getD i 0 : Int) : Rat) = a at *
    generalize rv u (kid ps i m) = c at *
    have n1 : V ≠ 0 := by grind
    have n2 : w ≠ 0 := by grind
    have n3 : V + w ≠ 0 := by grind
    have n4 : c ≠ 0 := by grind
    grind
theorem leaf_zero {ps y v : List Int} {z u : List QQ} {O : Nat → Rat} {j k : Nat} (hg : geoB ps = true) (hv : ∀ j, j < ps.length → 1 ≤ v.getD j 0) (hn : ∀ j, j < ps.length → Node ps y v z u j) (hs : Sol ps (rv z) (rv u) O ps.length) (h0 : O 0 = rv z 0) (hj : j < ps.length) (hl : (kids ps j).length = 0) (hk : j < k) :
    upS (fun i => (O i - (y.getD i 0 : Int)) / (v.getD i 0 : Int)) ps k j = 0 := by
  obtain ⟨k, rfl⟩ : ∃ q, k = q + 1 := ⟨k - 1, by omega⟩
  simp only [upS]
  rw [if_neg (by omega), Int.toNat_natCast]
  obtain ⟨_, hL, _⟩ := hn j hj
  obtain ⟨hz, hu⟩ := hL hl
  rcases Nat.eq_zero_or_pos j with h | h
  · subst h
    rw [geoB_head hg, h0, hz]
    have : upS (fun i => (O i - (y.getD i 0 : Int)) / (v.getD i 0 : Int)) ps k (-1) = 0 := by
      cases k with
      | zero => rfl
      | succ k => simp only [upS]; rw [if_pos (by omega)]
    rw [this]; grind
  · have := (geoB_true.1 hg).2.2 j hj h
    rw [up_zero hg hv hn hs h0 k j h hj (by omega), hz, hu]
    grind
/-- The areas on the way up. -/
def chain (ps : List Int) : Nat → Int → List Int
  | 0, _ => []
  | k + 1, i => if i < 0 then [] else i :: chain ps k (ps.getD i.toNat 0)
theorem chain_mem {ps : List Int} (hg : geoB ps = true) : ∀ k i, i < (ps.length : Int) → ∀ c, c ∈ chain ps k i → 0 ≤ c ∧ c ≤ i
  | 0, i, _, c, h => by simp [chain] at h
  | k + 1, i, hi, c, h => by
    simp only [chain] at h
    split at h
    · cases h
    · rcases List.mem_cons.1 h with rfl | h
      · omega
      · have hp : ps.getD i.toNat 0 < i := by
          rcases Int.lt_or_le 0 i with h0 | h0
          · have := (geoB_true.1 hg).2.2 i.toNat (by omega) (by omega); omega
          · obtain rfl : i = 0 := by omega
            rw [show (0 : Int).toNat = 0 from rfl, geoB_head hg]; omega
        have := chain_mem hg k _ (by omega) c h
        omega
/-- Summed over all areas: those of the chain alone. -/
theorem chain_sum {ps : List Int} (hg : geoB ps = true) (f : Nat → Rat) : ∀ k (i : Int), i < (ps.length : Int) → qsum (fun j => if (j : Int) ∈ chain ps k i then f j else 0) ps.length = upS f ps k i
  | 0, i, _ => by
    simp only [chain, upS, List.not_mem_nil, if_false]
    have := qsum_mul 0 (fun _ => 0) ps.length
    rw [show (fun _ : Nat => (0 : Rat)) = (fun j => 0 * (fun _ => 0) j) by funext j; grind, this]; grind
  | k + 1, i, hi => by
    simp only [upS]
    by_cases h : i < 0
    · have e0 : chain ps (k + 1) i = [] := if_pos h
      rw [if_pos h]
      simp only [e0, List.not_mem_nil, if_false]
      have := qsum_mul 0 (fun _ => 0) ps.length
      rw [show (fun _ : Nat => (0 : Rat)) = (fun j => 0 * (fun _ => 0) j) by funext j; grind, this]; grind
    · have e0 : chain ps (k + 1) i = i :: chain ps k (ps.getD i.toNat 0) := if_neg h
      rw [if_neg h]
      simp only [e0]
      have hp : ps.getD i.toNat 0 < i := by
        rcases Int.lt_or_le 0 i with h0 | h0
        · have := (geoB_true.1 hg).2.2 i.toNat (by omega) (by omega); omega
        · obtain rfl : i = 0 := by omega
          rw [show (0 : Int).toNat = 0 from rfl, geoB_head hg]; omega
      have ih := chain_sum hg f k (ps.getD i.toNat 0) (by omega)
      have hno : i ∉ chain ps k (ps.getD i.toNat 0) := fun hm => by have := chain_mem hg k _ (by omega) i hm; omega
      have h1 := qsum_one (t := fun j => if (j : Int) ∈ chain ps k (ps.getD i.toNat 0) then f j else 0) (t' := fun j => if (j : Int) ∈ i :: chain ps k (ps.getD i.toNat 0) then f j else 0) (i := i.toNat) (fun j hj => by
        have : (j : Int) ≠ i := by omega
        simp only [List.mem_cons, this, false_or]) ps.length (by omega)
      rw [h1, ih]
      have e : ((i.toNat : Nat) : Int) = i := by omega
      simp only [e, List.mem_cons, true_or, if_true, if_neg hno]
      grind
theorem weSt_qv {l : List QQ} {y v : List Int} {k : Nat} {p q r s : Int} (hd : 1 ≤ (l.getD k (0, 0)).2) (hv : 1 ≤ v.getD k 0) (hq : 1 ≤ q) (e : weSt l y v k p q = (r, s, true)) : qv r s = qv p q + (rv l k - (y.getD k 0 : Int)) * (rv l k - (y.getD k 0 : Int)) / (v.getD k 0 : Int) ∧ 1 ≤ s := by
  unfold weSt at e
  obtain ⟨a, b, o, e1⟩ : ∃ a b o, sqrQ (l.getD k (0, 0)).1 (l.getD k (0, 0)).2 (y.getD k 0) = (a, b, o) := ⟨_, _, _, rfl⟩
  cases o with
  | false => rw [wsqQ_bad e1] at e; cases e
  | true =>
    obtain ⟨c, d, o2, e2⟩ : ∃ c d o, mkF (a * 1) (b * v.getD k 0) = (c, d, o) := ⟨_, _, _, rfl⟩
    cases o2 with
    | false => rw [wsqQ_no e1 e2] at e; cases e
    | true =>
      rw [wsqQ_yes e1 e2] at e
      have h1 := sqrQ_qv hd e1
      have h2 := mkF_div (a := a) (b := b) (x := v.getD k 0) (y := 1) h1.2 (by omega) (by omega) e2
      have h3 := mkF_add hq h2.2 e
      refine ⟨?_, h3.2⟩
      rw [h3.1, h2.1, h1.1, qv_one]; rfl
theorem weQ_qv {ps y v : List Int} {l : List QQ} {a b : Int} (e : weQ ps y v l = (a, b, true)) : qv a b = qsum (fun k => (rv l k - (y.getD k 0 : Int)) * (rv l k - (y.getD k 0 : Int)) / (v.getD k 0 : Int)) ps.length ∧ 1 ≤ b := by
  by_cases h : treeB ps y v = true ∧ gfB ps l = true
  · rw [weQ_yes h] at e
    obtain ⟨hg, hy, hv, _, wv⟩ := treeB_true.1 h.1
    obtain ⟨_, hl, hall⟩ := gfB_true.1 h.2
    have := accQ_qv l.length a b (fun k p q r s hk hq ee => weSt_qv (l := l) (y := y) (v := v) (fracB_true.1 (frac_at hall hk rfl)).1.1 (within_true.1 wv k (by omega)).1 hq ee) (by omega) e
    refine ⟨?_, this.2⟩
    rw [this.1, qv_one, hl]; grind
  · rw [weQ_no h] at e; cases e
theorem con_parts {ps y v : List Int} {l : List QQ} (e : conQ ps y v = (l, true)) : treeB ps y v = true ∧ ∃ z u, (∀ j, j < ps.length → Node ps y v z u j) ∧ l.length = ps.length ∧ DenF l 0 ps.length ∧ Sol ps (rv z) (rv u) (rv l) ps.length ∧ rv l 0 = rv z 0 := by
  by_cases hB : treeB ps y v = true
  · rw [conQ_yes hB rfl] at e
    cases e1 : subT ps y v ps.length ps.length with
    | none => rw [conO_none e1] at e; simp at e
    | some s =>
      rw [conO_some e1] at e
      cases e2 : conT ps s.1 s.2 ps.length with
      | none => rw [e2] at e; simp at e
      | some o =>
        rw [e2] at e
        simp only [lO, Prod.mk.injEq] at e
        obtain ⟨rfl, _⟩ := e
        obtain ⟨h1, h2, h3⟩ := subT_node hB ps.length (Nat.le_refl _) s e1
        have hg := (treeB_true.1 hB).1
        obtain ⟨g1, g2, g3, g4⟩ := conT_sol hg h1 (fun j hj => h3 j (by omega) hj) ps.length (Nat.le_refl _) o e2
        refine ⟨hB, s.1, s.2, fun j hj => h3 j (by omega) hj, g1, g2, g4, ?_⟩
        unfold rv; rw [g3 0 (.inl rfl)]
  · rw [conQ_no (by simpa using hB)] at e; cases e
/-- Consistent estimates are additive. -/
theorem con_additive {ps y v : List Int} {l : List QQ} (e : conQ ps y v = (l, true)) : atQ ps l ≠ (false, true) := by
  obtain ⟨hB, z, u, hn, hl, hd, hs, h0⟩ := con_parts e
  have hg := (treeB_true.1 hB).1
  intro h
  by_cases hf : gfB ps l = true
  · rw [atQ_yes hf] at h
    have hall := (gfB_true.1 hf).2.2
    have key : ∀ k, k ≤ l.length → firstQ (atSt ps l) k ≠ some (false, true) := by
      intro k
      induction k with
      | zero => intro _ hh; simp [firstQ] at hh
      | succ k ih =>
        intro hk hh
        simp only [firstQ] at hh
        split at hh
        · rename_i r hr
          injection hh with hh
          subst hh
          exact ih (by omega) hr
        · by_cases hkk : (kids ps k).length = 0
          · rw [atSt_none hkk] at hh; cases hh
          · obtain ⟨a, b, o, es⟩ : ∃ a b o, sumQ l (kids ps k) = (a, b, o) := ⟨_, _, _, rfl⟩
            cases o with
            | false => rw [atSt_bad hkk es] at hh; simp at hh
            | true =>
              have hq := sumQ_qv hg (fun j _ hj => hd j (Nat.zero_le _) hj) es
              have hsum := con_add hs (i := k) (by omega) ((hn k (by omega)).2.2 hkk).1
              rw [hsum] at hq
              obtain ⟨x, y', hx⟩ : ∃ x y, (x, y) = l.getD k (0, 0) := ⟨_, _, rfl⟩
              have hxf : fracB x y' = true := frac_at hall (by omega) hx
              have haf : fracB a b = true := by
                unfold sumQ at es
                exact (accQ_fineR fracB_01 (fun _ _ _ _ => suSt_fine _ _ _ _ _) _).ok es
              have hv : rv l k = qv x y' := by unfold rv; rw [← hx]
              rw [hv] at hq
              have h1 := (qv_le (by omega) (by have := (fracB_true.1 hxf).1.1; omega)).1 (show qv a b ≤ qv x y' by rw [hq.1]; exact Rat.le_refl)
              have h2 := (qv_le (by have := (fracB_true.1 hxf).1.1; omega) (by omega)).1 (show qv x y' ≤ qv a b by rw [hq.1]; exact Rat.le_refl)
              have heq := leQ_antisymmR (f := (a, b)) (g := (x, y')) haf hxf h1 h2
              obtain ⟨rfl, rfl⟩ : a = x ∧ b = y' := by injection heq with e1 e2; exact ⟨e1, e2⟩
              rw [atSt_eq hkk es hx] at hh
              cases hh
    cases e3 : firstQ (atSt ps l) l.length with
    | none => rw [e3] at h; simp at h
    | some r =>
      rw [e3] at h
      simp only [Option.getD_some] at h
      subst h
      exact key _ (Nat.le_refl _) e3
  · rw [atQ_no (by simpa using hf)] at h; cases h
theorem div_sq (a c w : Rat) (hw : 0 < w) : (a + 1 - c) * (a + 1 - c) / w = (a - c) * (a - c) / w + (2 * ((a - c) / w) + 1 / w) := by
  have : w ≠ 0 := by grind
  grind
/-- Moving a leaf and the areas above it by one does not lower the error. -/
theorem con_best {ps y v : List Int} {l l' : List QQ} {i : Nat} {a b c d : Int} (e : conQ ps y v = (l, true)) (hi : i < ps.length) (hk : (kids ps i).length = 0) (hl' : ∀ j, j < ps.length → rv l' j = if (j : Int) ∈ chain ps ps.length i then rv l j + 1 else rv l j)
    (e1 : weQ ps y v l = (a, b, true)) (e2 : weQ ps y v l' = (c, d, true)) : cmpQ a b c d ≤ 0 := by
  obtain ⟨hB, z, u, hn, hl, hd, hs, h0⟩ := con_parts e
  obtain ⟨hg, hy, hv, _, wv⟩ := treeB_true.1 hB
  have hv1 : ∀ j, j < ps.length → 1 ≤ v.getD j 0 := fun j hj => (within_true.1 wv j (by omega)).1
  have q1 := weQ_qv e1
  have q2 := weQ_qv e2
  refine cmpQ_le q1.2 q2.2 ?_
  rw [q1.1, q2.1]
  have hz := leaf_zero hg hv1 hn hs h0 hi hk (k := ps.length) hi
  have h1 := chain_sum hg (fun i => (rv l i - (y.getD i 0 : Int)) / (v.getD i 0 : Int)) ps.length i (by omega)
  rw [hz] at h1
  have h2 : qsum (fun k => (rv l' k - (y.getD k 0 : Int)) * (rv l' k - (y.getD k 0 : Int)) / (v.getD k 0 : Int)) ps.length =
      qsum (fun k => ((rv l k - (y.getD k 0 : Int)) * (rv l k - (y.getD k 0 : Int)) / (v.getD k 0 : Int) + 2 * (if (k : Int) ∈ chain ps ps.length i then (rv l k - (y.getD k 0 : Int)) / (v.getD k 0 : Int) else 0)) + (if (k : Int) ∈ chain ps ps.length i then (1 : Rat) / ((v.getD k 0 : Int) : Rat) else 0)) ps.length := by
    refine qsum_congr fun k hk => ?_
    rw [hl' k hk]
    have hw := rat_pos (show 0 < v.getD k 0 by have := hv1 k hk; omega)
    split
    · rw [div_sq _ _ _ hw]; grind
    · grind
  rw [h2, qsum_add, qsum_add, qsum_mul, h1]
  have h3 : 0 ≤ qsum (fun k => if (k : Int) ∈ chain ps ps.length i then (1 : Rat) / ((v.getD k 0 : Int) : Rat) else 0) ps.length := by
    refine qsum_nonneg fun k hk => ?_
    have hw := rat_pos (show 0 < v.getD k 0 by have := hv1 k hk; omega)
    split
    · rw [Rat.div_def]
      exact Rat.mul_nonneg (by decide) (Rat.le_of_lt (Rat.inv_pos.2 hw))
    · exact Rat.le_refl
  grind
end Go.Proofs.Ytnopedjgagoahaa
