/- Key variables: valid or not; the part of a schema, the part of values, the key of a record; of the program and of the reference. -/
import Derived.Test.YtlkjhkkfdmjfcaaGreatDoorIdx
namespace Go.Proofs.YtlkjhkkfdmjfcaaGreatDoor
open Go.RowKit
set_option linter.unusedVariables false
set_option linter.unusedSimpArgs false

def vsRow (n : Nat) (vs : List Int) (k : Nat) : Bool := inB (vs.getD k 0) 0 ((n : Int) - 1) && (decide (k = 0) || decide (vs.getD (k - 1) 0 < vs.getD k 0))
def vsTo (n : Nat) (vs : List Int) : Nat → Bool
  | 0 => true
  | k + 1 => vsTo n vs k && vsRow n vs k
/-- Variables of a schema of n, increasing. -/
def vsB (n : Nat) (vs : List Int) : Bool := vsTo n vs vs.length
theorem vsTo_bad {n : Nat} {vs : List Int} {k m : Nat} (h : vsTo n vs k = false) (hn : k ≤ m) : vsTo n vs m = false := by
  induction m with
  | zero => obtain rfl : k = 0 := by omega
            exact h
  | succ m ih =>
    rcases Nat.lt_or_ge m k with h1 | h1
    · obtain rfl : k = m + 1 := by omega
      exact h
    · unfold vsTo; rw [ih h1]; rfl
theorem vsTo_row {n : Nat} {vs : List Int} : ∀ m k, vsTo n vs m = true → k < m → vsRow n vs k = true
  | 0, k, _, hk => absurd hk (by omega)
  | m + 1, k, h, hk => by
    unfold vsTo at h
    simp only [Bool.and_eq_true] at h
    rcases Nat.lt_or_ge k m with h1 | h1
    · exact vsTo_row m k h.1 h1
    · obtain rfl : k = m := by omega
      exact h.2
theorem vsB_no {n m : Nat} {vs : List Int} {k : Nat} (hl : vs.length = m) (hk : k < m) (h : vsRow n vs k = false) : vsB n vs = false := by
  unfold vsB; rw [hl, vsTo_bad (k := k + 1) (by unfold vsTo; rw [h, Bool.and_false]) hk]
theorem vsRow_bd {n : Nat} {vs : List Int} {k : Nat} (h : vsRow n vs k = true) : 0 ≤ vs.getD k 0 ∧ vs.getD k 0 < (n : Int) ∧ (k = 0 ∨ vs.getD (k - 1) 0 < vs.getD k 0) := by
  unfold vsRow at h
  simp only [Bool.and_eq_true, Bool.or_eq_true, decide_eq_true_eq] at h
  have := inB_true.1 h.1
  omega
theorem vsTo_ge {n : Nat} {vs : List Int} : ∀ m, vsTo n vs m = true → ∀ k, k < m → (k : Int) ≤ vs.getD k 0
  | m, h, 0, hk => (vsRow_bd (vsTo_row m 0 h hk)).1
  | m, h, k + 1, hk => by
    have h1 := vsTo_ge m h k (by omega)
    have h2 := (vsRow_bd (vsTo_row m (k + 1) h hk)).2.2
    rw [Nat.add_sub_cancel] at h2
    omega
theorem vsB_at {n : Nat} {vs : List Int} {k : Nat} (h : vsB n vs = true) (hk : k < vs.length) : 0 ≤ vs.getD k 0 ∧ vs.getD k 0 < (n : Int) := by
  have := vsRow_bd (vsTo_row _ k h hk); omega
theorem vsB_len {n : Nat} {vs : List Int} (h : vsB n vs = true) : vs.length ≤ n := by
  rcases Nat.eq_zero_or_pos vs.length with e | e
  · omega
  · have h1 := vsTo_ge _ h (vs.length - 1) (by omega)
    have h2 := (vsB_at h (k := vs.length - 1) (by omega)).2
    omega
def partL (l : List VV) (vs : List Int) : List VV := vs.map fun v => l.getD v.toNat v0
def pickL (zs vs : List Int) : List Int := vs.map fun v => zs.getD v.toNat 0
theorem partL_len (l : List VV) (vs : List Int) : (partL l vs).length = vs.length := by simp [partL]
theorem pickL_len (zs vs : List Int) : (pickL zs vs).length = vs.length := by simp [pickL]
theorem partL_at (l : List VV) (vs : List Int) {k : Nat} (h : k < vs.length) : (partL l vs).getD k v0 = l.getD (vs.getD k 0).toNat v0 := by simp [partL, List.getD, h]
theorem pickL_at (zs vs : List Int) {k : Nat} (h : k < vs.length) : (pickL zs vs).getD k 0 = zs.getD (vs.getD k 0).toNat 0 := by simp [pickL, List.getD, h]
theorem partL_names {l : List VV} {vs : List Int} (h : NamesOk l) : NamesOk (partL l vs) := fun j => by
  rcases Nat.lt_or_ge j vs.length with h1 | h1
  · rw [partL_at l vs h1]; exact h _
  · have : (partL l vs).getD j v0 = v0 := by simp [partL, List.getD, Nat.not_lt.2 h1]
    rw [this]; exact Nat.zero_le _
theorem partL_lv {l : List VV} {n : Nat} {vs : List Int} (hv : LvOk l n) (h : vsB n vs = true) : LvOk (partL l vs) vs.length := fun j hj => by
  rw [partL_at l vs hj]
  have := vsB_at h hj
  exact hv _ (by omega)
theorem partL_fit {l : List VV} {zs vs : List Int} (hf : fitB l zs = true) (h : vsB l.length vs = true) : fitB (partL l vs) (pickL zs vs) = true := by
  have hv := fun k => vsB_at (k := k) h
  refine fitB_yes (partL_len l vs) (pickL_len zs vs) ?_
  have : ∀ k, k ≤ vs.length → fitTo (partL l vs) (pickL zs vs) k = true := fun k => by
    induction k with
    | zero => intro _; rfl
    | succ k ih =>
      intro hk
      unfold fitTo
      rw [ih (by omega), Bool.true_and]
      unfold fitRow
      rw [partL_at l vs (by omega), pickL_at zs vs (by omega)]
      have h1 := hv k (by omega)
      have h2 := (fitB_row hf (k := (vs.getD k 0).toNat) (by omega)).2
      exact inB_true.2 h2
  exact this _ (Nat.le_refl _)
def kyTo (l : List VV) (zs vs : List Int) : Nat → Int
  | 0 => 0
  | k + 1 => kyTo l zs vs k * (l.getD (vs.getD k 0).toNat v0).2 + zs.getD (vs.getD k 0).toNat 0
def ky (l : List VV) (zs vs : List Int) : Int := kyTo l zs vs vs.length
theorem ix_part (l : List VV) (zs vs : List Int) : ∀ k, k ≤ vs.length → ixTo (partL l vs) (pickL zs vs) k = kyTo l zs vs k
  | 0, _ => rfl
  | k + 1, hk => by
    show ixTo (partL l vs) (pickL zs vs) k * ((partL l vs).getD k v0).2 + (pickL zs vs).getD k 0 = _
    rw [ix_part l zs vs k (by omega), partL_at l vs (by omega), pickL_at zs vs (by omega)]; rfl
theorem kyTo_bd {l : List VV} {zs vs : List Int} (hf : fitB l zs = true) (hv : LvOk l l.length) (h6 : l.length ≤ 6) (h : vsB l.length vs = true) {k : Nat} (hk : k ≤ vs.length) : 0 ≤ kyTo l zs vs k ∧ kyTo l zs vs k ≤ 262143 := by
  have h1 := ixTo_bd (partL_fit hf h) (by rw [partL_len]; exact partL_lv hv h) k (by rw [partL_len]; exact hk)
  have h2 := prodTo_bd (partL_lv hv h) k hk
  have h3 := vsB_len h
  have h4 := pow8 (k := k) (by omega)
  rw [ix_part l zs vs k hk] at h1
  omega

theorem vs_bad1 {m k : Nat} {vs : List Int} {x z : Int} (hz : z = if k = 0 then -1 else vs.getD (k - 1) 0) (hx : x = vs.getD k 0) (h : x ≤ z) : vsRow m vs k = false := by
  rw [Bool.eq_false_iff]; intro e
  have h1 := vsRow_bd e
  rw [← hx] at h1
  by_cases h0 : k = 0
  · rw [if_pos h0] at hz; omega
  · rw [if_neg h0] at hz; omega
theorem vs_bad2 {m k : Nat} {vs : List Int} {x : Int} (hx : x = vs.getD k 0) (h : (m : Int) ≤ x) : vsRow m vs k = false := by
  rw [Bool.eq_false_iff]; intro e
  have h1 := vsRow_bd e
  omega
theorem vs_good {m k : Nat} {vs : List Int} {x z : Int} (hT : vsTo m vs k = true) (hz : z = if k = 0 then -1 else vs.getD (k - 1) 0) (hx : x = vs.getD k 0) (h1 : ¬ x ≤ z) (h2 : ¬ (m : Int) ≤ x) : vsTo m vs (k + 1) = true := by
  unfold vsTo vsRow
  rw [hT, ← hx, Bool.true_and, Bool.and_eq_true, Bool.or_eq_true, decide_eq_true_eq, decide_eq_true_eq]
  by_cases h0 : k = 0
  · rw [if_pos h0] at hz; exact ⟨inB_true.2 (by omega), .inl h0⟩
  · rw [if_neg h0] at hz
    have h3 := vsRow_bd (vsTo_row k (k - 1) hT (by omega))
    exact ⟨inB_true.2 (by omega), .inr (by omega)⟩
theorem vs_next {m k : Nat} {vs : List Int} {x : Int} (hT : vsTo m vs k = true) (hx : x = vs.getD k 0) (h1 : inB x 0 ((m : Int) - 1) = true) (h2 : k = 0 ∨ vs.getD (k - 1) 0 < x) : vsTo m vs (k + 1) = true := by
  unfold vsTo vsRow
  rw [hT, ← hx, h1]
  rw [Bool.true_and, Bool.true_and, Bool.or_eq_true, decide_eq_true_eq, decide_eq_true_eq]
  exact h2
theorem vs_bad3 {m k : Nat} {vs : List Int} {x : Int} (hx : x = vs.getD k 0) (h1 : inB x 0 ((m : Int) - 1) = false) : vsRow m vs k = false := by
  unfold vsRow; rw [← hx, h1]; rfl
theorem vs_bad4 {m k : Nat} {vs : List Int} {x y : Int} (hx : x = vs.getD (k + 1) 0) (hy : y = vs.getD k 0) (h : x ≤ y) : vsRow m vs (k + 1) = false := by
  rw [Bool.eq_false_iff]; intro e
  have h1 := vsRow_bd e
  rw [Nat.add_sub_cancel] at h1
  omega

set_option maxRecDepth 100000 in
set_option maxHeartbeats 1600000 in
theorem areVars_any {A A' : Option Addr} {lo hi n c m d : Nat} {vs : List Int} {w : World} (h : Ints w lo hi A n vs) (hm : m ≤ 67108864) :
    Calls Tryz.prog 95 #[.slice A' m d, .slice A n c] w fun e w' => e = .returned (.bool (vsB m vs)) ∧ w = w' := by
  have hn := h.le
  have HL := hid h.1
  go_enter Tryz.func95, Tryz.ntmps95
  go_wp2_with fail
  go_loop [5, 10] (fun last i => ∃ (k : Nat) (z : Int), k ≤ n ∧ i = .int .i64 k ∧ last = .int .i64 z ∧ Hid (z = if k = 0 then -1 else vs.getD (k - 1) 0) ∧ Hid (vsTo m vs k = true)) (fun _ i => n - (intOf i).toNat)
  case atStart => exact ⟨0, -1, Nat.zero_le _, rfl, rfl, hid rfl, hid rfl⟩
  case round =>
    obtain ⟨k, z, hk, rfl, rfl, HZ, HT⟩ := hrel
    by_cases hlt : k < n
    · obtain ⟨b, off, x, rfl, _, _, hc, hx⟩ := h.at_ hlt
      have hi1 : (k : Int) < (n : Int) := by omega
      by_cases h1 : x ≤ z
      · have HX := hid (vsB_no HL.out hlt (vs_bad1 (m := m) HZ.out hx.out h1))
        clear hx
        go_wp2
        go_ret
        exact ⟨ret_bool HX.out.symm, rfl⟩
      by_cases h2 : (m : Int) ≤ x
      · have HX := hid (vsB_no HL.out hlt (vs_bad2 (m := m) hx.out h2))
        clear hx
        go_wp2
        go_ret
        exact ⟨ret_bool HX.out.symm, rfl⟩
      have HN := hid (vs_good HT.out HZ.out hx.out h1 h2)
      go_wp2
      go_round
      case rel => exact ⟨k + 1, x, by omega, by go_num, rfl, hid (by rw [if_neg (by omega), Nat.add_sub_cancel]; exact hx.out), HN⟩
      case measure => simp [intOf]; omega
    · obtain rfl : k = n := by omega
      have HX := hid (show vsB m vs = true by unfold vsB; rw [HL.out]; exact HT.out)
      go_wp2
      go_ret
      exact ⟨ret_bool HX.out.symm, rfl⟩
set_option maxRecDepth 100000 in
set_option maxHeartbeats 1600000 in
theorem l1Rising_any {A : Option Addr} {lo hi n c m : Nat} {vs : List Int} {w : World} (h : Ints w lo hi A n vs) (hm : m ≤ 67108864) :
    Calls Tryz.prog 133 #[.slice A n c, .int .i64 0, .int .i64 ((m : Int) - 1)] w fun e w' => e = .returned (.bool (vsB m vs)) ∧ w = w' := by
  have hn := h.le
  have HL := hid h.1
  go_enter Tryz.func133, Tryz.ntmps133
  go_wp2_with fail
  go_loop [11] (fun i => ∃ k : Nat, k ≤ n ∧ i = .int .i64 k ∧ Hid (vsTo m vs k = true)) (fun i => n - (intOf i).toNat)
  case atStart => exact ⟨0, Nat.zero_le _, rfl, hid rfl⟩
  case round =>
    obtain ⟨k, hk, rfl, HT⟩ := hrel
    by_cases hlt : k < n
    · obtain ⟨b, off, x, rfl, _, _, hc, hx⟩ := h.at_ hlt
      have hi1 : (k : Int) < (n : Int) := by omega
      obtain ⟨p, HP⟩ : ∃ p, Hid (inB x 0 ((m : Int) - 1) = p) := ⟨_, rfl⟩
      go_wp2_with fail
      refine (l1In_any _ _ _ _).mono ?_
      rintro e w' ⟨rfl, rfl⟩
      rw [HP.out]
      cases p
      · have HX := hid (vsB_no HL.out hlt (vs_bad3 (m := m) hx.out HP.out))
        go_wp2
        go_ret
        exact ⟨ret_bool HX.out.symm, rfl⟩
      cases k with
      | zero =>
        have HN := hid (vs_next HT.out hx.out HP.out (.inl rfl))
        go_wp2
        go_round
        case rel => exact ⟨1, by omega, by go_num, HN⟩
        case measure => simp [intOf]; omega
      | succ j =>
        obtain ⟨b', off', y, eA, _, _, hcy, hy⟩ := h.at_ (k := j) (by omega)
        injection eA with eA
        injection eA with e1 e2
        subst e1 e2
        have hj1 : (j : Int) < (n : Int) := by omega
        by_cases hxy : x ≤ y
        · have HX := hid (vsB_no HL.out hlt (vs_bad4 (m := m) hx.out hy.out hxy))
          clear hx hy
          go_wp2
          go_ret
          exact ⟨ret_bool HX.out.symm, rfl⟩
        · have HN := hid (vs_next HT.out hx.out HP.out (.inr (by rw [Nat.add_sub_cancel, ← hy.out]; omega)))
          clear hx hy
          go_wp2
          go_round
          case rel => exact ⟨j + 1 + 1, by omega, by go_num, HN⟩
          case measure => simp [intOf]; omega
    · obtain rfl : k = n := by omega
      have HX := hid (show vsB m vs = true by unfold vsB; rw [HL.out]; exact HT.out)
      go_wp2
      go_ret
      exact ⟨ret_bool HX.out.symm, rfl⟩
/-- Data with key variables. -/
def kdB (l : List VV) (rs : List RR) (vs : List Int) : Bool := schB l && datB l rs && vsB l.length vs
theorem kdB_or (l : List VV) (rs : List RR) (vs : List Int) : kdB l rs vs = (schB l && (vsB l.length vs && datB l rs)) := by
  unfold kdB; rw [Bool.and_assoc, Bool.and_comm (datB l rs)]
/-- What append has made may serve as a schema. -/
theorem Has.cap_ {w : World} {B e size n c : Nat} {A : Option Addr} {cs : List Value} (h : Has w B e size (.slice A n c) n cs) : n ≤ c ∧ c ≤ maxLen := by
  rcases h.2 with ⟨e1, rfl⟩ | ⟨g, cap, cur, e1, _, _, h1, h2, _⟩
  · injection e1 with _ _ e3; subst e3; exact ⟨Nat.le_refl _, Nat.zero_le _⟩
  · injection e1 with _ _ e3; subst e3; exact ⟨h1, h2⟩
theorem vrs_append (xs ys : List VV) : vrs (xs ++ ys) = vrs xs ++ vrs ys := by simp [vrs]
/-- append of a variable. -/
theorem append_var {w0 : World} {ops : Array Oper} {rest : List Oper} {o : Oper} {a : Act} {Q : Exit → Act → World → Prop} {B : Nat} {v : Value} {n : Nat} {xs : List VV} {x : ByteArray} {y : Int}
    (hown : Has w0 B 82 2 v n (vrs xs)) (hn : n ≤ 67108864) (hB : B ≤ w0.heap.size)
    (s u : Operand) (hgd : o.guard = none)
    (ho : o.op = .call { callee := .builtin .append, args := #[s, u], argTypes := #[34, 34] })
    (hs : a.eval s = v) (hx : a.eval u = .slice (some ⟨w0.heap.size, 0, none⟩) 1 1)
    (h : ∀ v' w', Has w' B 82 2 v' (n + 1) (vrs (xs ++ [(x, y)])) → Below B w0 w' → wpList Tryz.prog ops Q rest (a.put o.dst v') w') : wpList Tryz.prog ops Q (o :: rest) a (w0.alloc (.cells #[.string x, .int .i64 y] 82)) :=
  append_one (cs := [.string x, .int .i64 y]) hown rfl info_var rfl (by omega) s u 34 hgd ho Tryz.underlying34 hs hx (fun y hy => by simp at hy; rcases hy with rfl | rfl <;> rfl) hn (by omega) hB
    (fun v' w' h2 h3 => h v' w' (by rw [vrs_append]; simpa [vrs, vr2] using h2) h3)
/-- A schema of one's own. -/
def PartRes (w : World) (l : List VV) (n : Nat) (e : Ending) (w' : World) : Prop := ∃ A C, e = .returned (.slice A n C) ∧ VarsM w' w.heap.size w'.heap.size A n l ∧ n ≤ C ∧ C ≤ maxLen ∧ Keeps w w'

set_option maxRecDepth 100000 in
set_option maxHeartbeats 1600000 in
theorem sPart_any {A A' : Option Addr} {lo hi n c m d : Nat} {vs : List Int} {l : List VV} {w : World} (h : Ints w lo hi A n vs) (h' : Sch w A' m d l) (hvs : vsB m vs = true) :
    Calls Tryz.prog 162 #[.slice A' m d, .slice A n c] w (PartRes w (partL l vs) n) := by
  obtain ⟨lo', hi', hv⟩ := h'.v
  have hn := h.le
  have HL := hid h.1
  have HV := hid (fun (k : Nat) (hk : k < n) => vsB_at hvs (k := k) (by rw [h.1]; exact hk))
  clear hvs
  go_enter Tryz.func162, Tryz.ntmps162
  go_wp2_with fail
  go_loopw [5, 10] (fun v i wr => ∃ k : Nat, k ≤ n ∧ i = .int .i64 k ∧ Has wr w.heap.size 82 2 v k (vrs ((partL l vs).take k)) ∧ Keeps w wr) (fun _ i _ => n - (intOf i).toNat)
  case atStart => exact ⟨0, Nat.zero_le _, rfl, World.ownsRow_nil _ _ _ _, keeps_refl _⟩
  case round =>
    obtain ⟨k, hk, rfl, hown, kw⟩ := hrel
    by_cases hlt : k < n
    · obtain ⟨b, off, z, rfl, _, _, hc, hz⟩ := (h.keeps kw).at_ hlt
      have hi1 : (k : Int) < (n : Int) := by omega
      have hz2 := HV.out k hlt
      rw [← hz.out] at hz2
      obtain ⟨j, rfl⟩ : ∃ j : Nat, z = (j : Int) := ⟨z.toNat, by omega⟩
      have hjm : j < m := by omega
      have hj1 : (j : Int) < (m : Int) := by omega
      obtain ⟨b', off', x, y, rfl, _, _, hcx, hcy, hx⟩ := Vars.at_ (Sl.keeps hv kw) hjm
      have HT := hid (show (partL l vs).take (k + 1) = (partL l vs).take k ++ [(x, y)] by
        rw [take_snoc (partL l vs) k v0 (by rw [partL_len, HL.out]; exact hlt), partL_at l vs (by rw [HL.out]; exact hlt), ← hz.out, hx.out]; rfl)
      have hsz := kw.size
      clear hz hx hz2
      go_wp2_with (at_builtin; refine append_var (xs := (partL l vs).take k) hown (by omega) (by omega) _ _ rfl rfl rfl (by first | rfl | (simp <;> rfl)) ?_; intro v' w' hown' hb')
      rw [← HT.out] at hown'
      have H1 := hid hown'
      have H2 := hid (Below.trans kw hb')
      clear hown' hb' kw hown hc hcx hcy
      go_wp2
      go_roundw
      case rel => exact ⟨k + 1, by omega, by go_num, H1.out, H2.out⟩
      case measure => simp [intOf]; omega
    · obtain rfl : k = n := by omega
      rw [List.take_of_length_le (by rw [partL_len, HL.out]; exact Nat.le_refl _)] at hown
      obtain ⟨A1, C1, rfl⟩ := hown.form
      have HC := hid hown.cap_
      have HM := hid (SlM.of_own hown hn (by omega))
      clear hown
      go_wp2
      go_ret
      exact ⟨A1, C1, rfl, HM.out, HC.out.1, HC.out.2, kw⟩
end Go.Proofs.YtlkjhkkfdmjfcaaGreatDoor
