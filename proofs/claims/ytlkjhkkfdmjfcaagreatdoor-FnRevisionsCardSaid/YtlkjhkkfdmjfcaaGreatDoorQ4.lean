/- What the proof of the statement leans on, part 5: walks of functions and plain lemmas, with no condition. -/
import Derived.Lib.QuietBelow
import Derived.Test.YtlkjhkkfdmjfcaaGreatDoorQ2
namespace Go.Proofs.YtlkjhkkfdmjfcaaGreatDoor
open Go.RowKit Go.Sort
set_option linter.unusedVariables false
set_option linter.unusedSimpArgs false
/-- A condition, 0 read as all levels. -/
def cnI (l : List VV) (ws : List Int) (k : Nat) : Int := if ws.getD k 0 = 0 then full (l.getD k v0).2 else ws.getD k 0
theorem cn_bd {l : List VV} {ws : List Int} {k n : Nat} (hl : l.length = n) (hv : LvOk l n) (hw : whB l ws = true) (hk : k < n) : 0 ≤ cnI l ws k ∧ cnI l ws k ≤ 255 := by
  have h1 := (whB_at hw (k := k) (by omega)).2
  have h2 := full_bd (hv k hk)
  unfold cnI; split <;> omega
def bAnd (a b : Int) : Int := IntKind.i64.wrap ((BitVec.ofInt 64 a &&& BitVec.ofInt 64 b).toNat : Int)
def bNot (a b : Int) : Int := IntKind.i64.wrap ((BitVec.ofInt 64 a &&& ~~~BitVec.ofInt 64 b).toNat : Int)
theorem bv_and_not {w : Nat} (a b : BitVec w) : a &&& ~~~b = 0#w ↔ a &&& b = a := by
  constructor
  · intro h
    apply BitVec.eq_of_getLsbD_eq
    intro i hi
    have := congrArg (fun x => x.getLsbD i) h
    simp [hi] at this ⊢
    exact this
  · intro h
    apply BitVec.eq_of_getLsbD_eq
    intro i hi
    have := congrArg (fun x => x.getLsbD i) h
    simp [hi] at this ⊢
    exact this
theorem small_nat {a : Int} (h : 0 ≤ a ∧ a ≤ 255) : (BitVec.ofInt 64 a).toNat = a.toNat := by
  rw [BitVec.toNat_ofInt]
  omega
theorem bv_small {a : Int} (x : BitVec 64) (h : 0 ≤ a ∧ a ≤ 255) : (BitVec.ofInt 64 a &&& x).toNat ≤ 255 := by
  have h1 := small_nat h
  rw [BitVec.toNat_and]
  have := Nat.and_le_left (n := (BitVec.ofInt 64 a).toNat) (m := x.toNat)
  omega
theorem bits_eq {a b : Int} (ha : 0 ≤ a ∧ a ≤ 255) : bNot a b = 0 ↔ bAnd a b = a := by
  have h1 := bv_small (~~~BitVec.ofInt 64 b) ha
  have h2 := bv_small (BitVec.ofInt 64 b) ha
  have h3 := small_nat ha
  unfold bNot bAnd
  rw [IntWalk.i64_in _ (by omega), IntWalk.i64_in _ (by omega)]
  have h4 := bv_and_not (BitVec.ofInt 64 a) (BitVec.ofInt 64 b)
  constructor
  · intro h
    have : BitVec.ofInt 64 a &&& ~~~BitVec.ofInt 64 b = 0#64 := BitVec.eq_of_toNat_eq (by simpa using h)
    rw [h4.1 this, h3]; omega
  · intro h
    have e : BitVec.ofInt 64 a &&& BitVec.ofInt 64 b = BitVec.ofInt 64 a := BitVec.eq_of_toNat_eq (by omega)
    rw [h4.2 e]; simp
/-- The ancestor k levels up. -/
def upK (ps : List Int) (i : Nat) : Nat → Nat
  | 0 => i
  | k + 1 => (ps.getD (upK ps i k) 0).toNat
theorem upK_dep {ps : List Int} (ht : Tree ps) {i : Nat} (hi : i < ps.length) : ∀ k, k ≤ dep ps i → upK ps i k < ps.length ∧ dep ps (upK ps i k) = dep ps i - k
  | 0, _ => ⟨hi, rfl⟩
  | k + 1, hk => by
    have ih := upK_dep ht hi k (by omega)
    have h0 : 0 < upK ps i k := by
      rcases Nat.eq_zero_or_pos (upK ps i k) with e | e
      · rw [e, dep_zero] at ih; omega
      · exact e
    have hp := ht.2 (upK ps i k) ih.1 h0
    have hu := dep_up ht h0 ih.1 (j := (ps.getD (upK ps i k) 0).toNat) (by omega)
    show (ps.getD (upK ps i k) 0).toNat < ps.length ∧ dep ps (ps.getD (upK ps i k) 0).toNat = _
    omega
/-- The ancestor at a level, or -1. -/
def gupI (ps : List Int) (i : Nat) (lv : Int) : Int := if lv < 0 then -1 else if (dep ps i : Int) < lv then -1 else (upK ps i (dep ps i - lv.toNat) : Int)
theorem gup_neg {ps : List Int} {i : Nat} {lv : Int} (h : lv < 0) : gupI ps i lv = -1 := if_pos h
theorem gup_deep {ps : List Int} {i : Nat} {lv : Int} (h : ¬ lv < 0) (h1 : (dep ps i : Int) < lv) : gupI ps i lv = -1 := by unfold gupI; rw [if_neg h, if_pos h1]
theorem gup_at {ps : List Int} {i : Nat} {lv : Int} (h : ¬ lv < 0) (h1 : ¬ (dep ps i : Int) < lv) : gupI ps i lv = (upK ps i (dep ps i - lv.toNat) : Int) := by unfold gupI; rw [if_neg h, if_neg h1]
theorem gup_ge {ps : List Int} {i : Nat} {lv : Int} (h : 0 ≤ lv) : (0 ≤ gupI ps i lv) ↔ lv ≤ (dep ps i : Int) := by
  by_cases h1 : (dep ps i : Int) < lv
  · rw [gup_deep (by omega) h1]; omega
  · rw [gup_at (by omega) h1]; omega
theorem lev_mem {ps : List Int} {lv x : Int} (h : x ∈ lev ps lv) : ∃ j : Nat, x = j ∧ j < ps.length ∧ (dep ps j : Int) = lv := by
  unfold lev levTo at h
  obtain ⟨j, hj, rfl⟩ := List.mem_map.1 h
  rw [List.mem_filter, List.mem_range] at hj
  refine ⟨j, rfl, hj.1, ?_⟩
  have := hj.2
  unfold isAt at this
  simpa using this
theorem tab_lv {ps : List Int} {l : List VV} {t : TT} (h : tabB ps l t = true) : 0 ≤ t.1 := by
  have h1 := (tabB_parts h).2.2.2.1
  have h2 : (lev ps t.1) ≠ [] := fun e => by rw [tabN_zero (by rw [e]; rfl)] at h1; omega
  obtain ⟨x, hx⟩ := List.exists_mem_of_ne_nil _ h2
  obtain ⟨j, _, _, e⟩ := lev_mem hx
  omega
def lfAt (ps : List Int) (k : Nat) : Nat := ((leaves ps).getD k 0).toNat
def lvTo (ps : List Int) (a b : Int) : Nat → Bool
  | 0 => true
  | k + 1 => lvTo ps a b k && !(decide (a ≤ (dep ps (lfAt ps k) : Int)) && decide ((dep ps (lfAt ps k) : Int) < b))
def lvlB (ps : List Int) (a b : Int) : Bool := decide (a = b) || (decide (a < b) && lvTo ps a b (leaves ps).length)
theorem lvTo_bad {ps : List Int} {a b : Int} {k n : Nat} (h : lvTo ps a b k = false) (hn : k ≤ n) : lvTo ps a b n = false := by
  induction n with
  | zero => obtain rfl : k = 0 := by omega
            exact h
  | succ n ih =>
    rcases Nat.lt_or_ge n k with h1 | h1
    · obtain rfl : k = n + 1 := by omega
      exact h
    · unfold lvTo; rw [ih h1]; rfl
theorem lvlB_self (ps : List Int) (a : Int) : lvlB ps a a = true := by unfold lvlB; rw [decide_eq_true rfl]; rfl
theorem lvlB_gt {ps : List Int} {a b : Int} (h : b < a) : lvlB ps a b = false := by unfold lvlB; rw [decide_eq_false (show ¬ a = b by omega), decide_eq_false (show ¬ a < b by omega)]; rfl
theorem lvlB_yes {ps : List Int} {a b : Int} {n : Nat} (hl : (leaves ps).length = n) (h : a < b) (h1 : lvTo ps a b n = true) : lvlB ps a b = true := by unfold lvlB; rw [hl, h1, decide_eq_true h]; simp
theorem lvlB_no {ps : List Int} {a b : Int} {k n : Nat} (hl : (leaves ps).length = n) (hk : k < n) (h : a ≠ b) (h1 : a ≤ (dep ps (lfAt ps k) : Int)) (h2 : (dep ps (lfAt ps k) : Int) < b) : lvlB ps a b = false := by
  unfold lvlB
  rw [hl, lvTo_bad (k := k + 1) (by unfold lvTo; rw [decide_eq_true h1, decide_eq_true h2]; simp) hk, decide_eq_false h]; simp
theorem lvTo_next {ps : List Int} {a b : Int} {k : Nat} (h : lvTo ps a b k = true) (h1 : ¬ (a ≤ (dep ps (lfAt ps k) : Int) ∧ (dep ps (lfAt ps k) : Int) < b)) : lvTo ps a b (k + 1) = true := by
  unfold lvTo; rw [h]
  by_cases h2 : a ≤ (dep ps (lfAt ps k) : Int)
  · rw [decide_eq_true h2, decide_eq_false (show ¬ (dep ps (lfAt ps k) : Int) < b by omega)]; rfl
  · rw [decide_eq_false h2]; rfl
theorem leaf_area {ps : List Int} {k : Nat} (h : k < (leaves ps).length) : (leaves ps).getD k 0 = (lfAt ps k : Int) ∧ lfAt ps k < ps.length := by
  have hm : (leaves ps).getD k 0 ∈ leaves ps := mem_of_at (n := (leaves ps).length) rfl h rfl
  have := (mem_leaves.1 hm).1
  unfold lfAt; omega
def vaTo (vs us : List Int) : Nat → Bool
  | 0 => true
  | k + 1 => vaTo vs us k && decide (vs.getD k 0 ∈ us)
theorem vaTo_bad {vs us : List Int} {k n : Nat} (h : vaTo vs us k = false) (hn : k ≤ n) : vaTo vs us n = false := by
  induction n with
  | zero => obtain rfl : k = 0 := by omega
            exact h
  | succ n ih =>
    rcases Nat.lt_or_ge n k with h1 | h1
    · obtain rfl : k = n + 1 := by omega
      exact h
    · unfold vaTo; rw [ih h1]; rfl
def coR (l : List VV) (ws us ws' : List Int) (k : Nat) : Bool := if ((k : Nat) : Int) ∈ us then decide (bAnd (cnI l ws k) (cnI l ws' k) = cnI l ws k) else decide (cnI l ws k = cnI l ws' k)
def coTo (l : List VV) (ws us ws' : List Int) : Nat → Bool
  | 0 => true
  | k + 1 => coTo l ws us ws' k && coR l ws us ws' k
theorem coTo_bad {l : List VV} {ws us ws' : List Int} {k n : Nat} (h : coTo l ws us ws' k = false) (hn : k ≤ n) : coTo l ws us ws' n = false := by
  induction n with
  | zero => obtain rfl : k = 0 := by omega
            exact h
  | succ n ih =>
    rcases Nat.lt_or_ge n k with h1 | h1
    · obtain rfl : k = n + 1 := by omega
      exact h
    · unfold coTo; rw [ih h1]; rfl
def smE (s s' : Int) (us : List Int) : Bool := decide (s = s') || (decide (s' = -1) && decide (s ∈ us))
/-- t follows from u. -/
def flB (ps : List Int) (l : List VV) (t u : TT) : Bool := lvlB ps t.1 u.1 && smE t.2.2.2 u.2.2.2 u.2.1 && vaTo t.2.1 u.2.1 t.2.1.length && coTo l t.2.2.1 u.2.1 u.2.2.1 l.length
theorem flB_lv {ps : List Int} {l : List VV} {t u : TT} (h : lvlB ps t.1 u.1 = false) : flB ps l t u = false := by unfold flB; rw [h]; rfl
theorem flB_sm {ps : List Int} {l : List VV} {t u : TT} (h : smE t.2.2.2 u.2.2.2 u.2.1 = false) : flB ps l t u = false := by unfold flB; rw [h]; simp
theorem flB_va {ps : List Int} {l : List VV} {t u : TT} {n k : Nat} (hl : t.2.1.length = n) (hk : k < n) (h : t.2.1.getD k 0 ∉ u.2.1) : flB ps l t u = false := by
  unfold flB; rw [hl, vaTo_bad (k := k + 1) (by unfold vaTo; rw [decide_eq_false h, Bool.and_false]) hk]; simp
theorem flB_co {ps : List Int} {l : List VV} {t u : TT} {n k : Nat} (hl : l.length = n) (hk : k < n) (h : coR l t.2.2.1 u.2.1 u.2.2.1 k = false) : flB ps l t u = false := by
  unfold flB; rw [hl, coTo_bad (k := k + 1) (by unfold coTo; rw [h, Bool.and_false]) hk]; simp
theorem flB_yes {ps : List Int} {l : List VV} {t u : TT} {n q : Nat} (hl : t.2.1.length = n) (hq : l.length = q) (h1 : lvlB ps t.1 u.1 = true) (h2 : vaTo t.2.1 u.2.1 n = true) (h3 : coTo l t.2.2.1 u.2.1 u.2.2.1 q = true) : flB ps l t u = smE t.2.2.2 u.2.2.2 u.2.1 := by
  unfold flB; rw [hl, hq, h1, h2, h3]; simp
theorem coR_in {l : List VV} {ws us ws' : List Int} {k : Nat} {a b : Int} (h : ((k : Nat) : Int) ∈ us) (ha : cnI l ws k = a) (hb : cnI l ws' k = b) : coR l ws us ws' k = decide (bAnd a b = a) := by unfold coR; rw [if_pos h, ha, hb]
theorem coR_out {l : List VV} {ws us ws' : List Int} {k : Nat} {a b : Int} (h : ((k : Nat) : Int) ∉ us) (ha : cnI l ws k = a) (hb : cnI l ws' k = b) : coR l ws us ws' k = decide (a = b) := by unfold coR; rw [if_neg h, ha, hb]
theorem bAnd_self {a : Int} (h : 0 ≤ a ∧ a ≤ 255) : bAnd a a = a := by
  have h2 := bv_small (BitVec.ofInt 64 a) h
  have h3 := small_nat h
  unfold bAnd
  rw [BitVec.and_self] at h2 ⊢
  rw [IntWalk.i64_in _ (by omega), h3]; omega
set_option maxRecDepth 100000 in
set_option maxHeartbeats 3200000 in
theorem conditionOf_any {A' V H : Option Addr} {lo hi n c m d q e k : Nat} {ws : List Int} {l : List VV} {lv sm : Int} {w : World} (h : Ints w lo hi H m ws) (h' : Sch w A' q e l) (hlv : LvOk l q) (hw : whB l ws = true) (hk : k < q) :
    Calls Tryz.prog 132 #[.slice A' q e, .agg #[.int .i64 lv, .slice V n c, .slice H m d, .int .i64 sm], .int .i64 (k : Int)] w fun e w' => e = .returned (.int .i64 (cnI l ws k)) ∧ Keeps w w' := by
  obtain ⟨lo9, hi9, hv⟩ := h'.v
  have hl := Vars.len hv
  have hq := hv.le
  obtain rfl : m = q := by have h1 := h.1; have h2 := (whB_at hw (k := k) (by omega)).1; omega
  obtain ⟨b, off, u, rfl, hb1, hb2, hc, hu⟩ := h.at_ hk
  obtain ⟨b', off', x, y, rfl, _, _, hcx, hcy, hx⟩ := Vars.at_ hv hk
  have hi1 : (k : Int) < (m : Int) := by omega
  have HY := hid (show (l.getD k v0).2 = y from (congrArg Prod.snd hx.out).symm)
  have hy := hlv k hk
  rw [HY.out] at hy
  have HYB := hid hy
  have HE := hid (show cnI l ws k = if u = 0 then full y else u by unfold cnI; rw [HY.out, ← hu.out])
  have HVV := hid hlv
  clear hx hu hlv hw hy
  go_enter Tryz.func132, Tryz.ntmps132
  have kw := keeps_refl w
  replace kw := Keeps.trans kw (keeps_alloc w (.cells #[.int .i64 lv, .slice V n c, .slice (some ⟨b, off, none⟩) m d, .int .i64 sm] 61))
  have b4 : Bl (w.alloc (.cells #[.int .i64 lv, .slice V n c, .slice (some ⟨b, off, none⟩) m d, .int .i64 sm] 61)) w.heap.size [.int .i64 lv, .slice V n c, .slice (some ⟨b, off, none⟩) m d, .int .i64 sm] := Bl.new' (by simp) (by simp)
  have ca1_0 := (b4.2 0 _ rfl).1
  have ca1_1 := (b4.2 1 _ rfl).1
  have ca1_2 := (b4.2 2 _ rfl).1
  have ca1_3 := (b4.2 3 _ rfl).1
  have ck := cell_keeps hc kw
  have cx := cell_keeps hcx kw
  have cy := cell_keeps hcy kw
  by_cases hu0 : u = 0
  · subst hu0
    have HE2 := hid (HE.out.trans (if_pos rfl))
    clear HE
    have t1 : ((0 : Int) == 0) = true := rfl
    go_wp2_with fail
    clear ca1_0 ca1_1 ca1_2 ca1_3
    refine (fullSet_any HYB.out).mono ?_
    rintro e w2 ⟨rfl, k2⟩
    replace b4 := b4.keeps k2
    replace kw := Keeps.trans kw k2
    have lt3 := b4.lt
    have sz4 := kw.size
    clear k2
    obtain ⟨F, hF⟩ : ∃ F, full y = F := ⟨_, rfl⟩
    rw [hF] at HE2
    rw [hF]
    clear hF ck cx cy
    go_wp2_with fail
    go_ret
    exact ⟨ret_int HE2.out.symm, kw⟩
  have HE2 := hid (HE.out.trans (if_neg hu0))
  have t1 : (u == 0) = false := by rw [beq_eq_false_iff_ne]; exact hu0
  clear hu0 HE
  go_wp2_with fail
  clear ca1_0 ca1_1 ca1_2 ca1_3
  go_ret
  exact ⟨ret_int HE2.out.symm, kw⟩
set_option maxRecDepth 100000 in
set_option maxHeartbeats 3200000 in
theorem lSet_any {A' V H : Option Addr} {lo hi n c m d q e k : Nat} {ws : List Int} {l : List VV} {lv sm : Int} {w : World} (h : Ints w lo hi H m ws) (h' : Sch w A' q e l) (hlv : LvOk l q) (hw : whB l ws = true) (hk : k < q) :
    Calls Tryz.prog 138 #[.slice A' q e, .agg #[.int .i64 lv, .slice V n c, .slice H m d, .int .i64 sm], .int .i64 (k : Int)] w fun e w' => e = .returned (.int .i64 (cnI l ws k)) ∧ Keeps w w' := by
  obtain ⟨lo9, hi9, hv⟩ := h'.v
  have hl := Vars.len hv
  have hq := hv.le
  obtain rfl : m = q := by have h1 := h.1; have h2 := (whB_at hw (k := k) (by omega)).1; omega
  obtain ⟨b, off, u, rfl, hb1, hb2, hc, hu⟩ := h.at_ hk
  obtain ⟨b', off', x, y, rfl, _, _, hcx, hcy, hx⟩ := Vars.at_ hv hk
  have hi1 : (k : Int) < (m : Int) := by omega
  have HY := hid (show (l.getD k v0).2 = y from (congrArg Prod.snd hx.out).symm)
  have hy := hlv k hk
  rw [HY.out] at hy
  have HYB := hid hy
  have HE := hid (show cnI l ws k = if u = 0 then full y else u by unfold cnI; rw [HY.out, ← hu.out])
  have HVV := hid hlv
  clear hx hu hlv hw hy
  go_enter Tryz.func138, Tryz.ntmps138
  have kw := keeps_refl w
  replace kw := Keeps.trans kw (keeps_alloc w (.cells #[.int .i64 lv, .slice V n c, .slice (some ⟨b, off, none⟩) m d, .int .i64 sm] 61))
  have b4 : Bl (w.alloc (.cells #[.int .i64 lv, .slice V n c, .slice (some ⟨b, off, none⟩) m d, .int .i64 sm] 61)) w.heap.size [.int .i64 lv, .slice V n c, .slice (some ⟨b, off, none⟩) m d, .int .i64 sm] := Bl.new' (by simp) (by simp)
  have ca1_0 := (b4.2 0 _ rfl).1
  have ca1_1 := (b4.2 1 _ rfl).1
  have ca1_2 := (b4.2 2 _ rfl).1
  have ca1_3 := (b4.2 3 _ rfl).1
  have ck := cell_keeps hc kw
  have cx := cell_keeps hcx kw
  have cy := cell_keeps hcy kw
  by_cases hu0 : u = 0
  · subst hu0
    have HE2 := hid (HE.out.trans (if_pos rfl))
    clear HE
    have t1 : ((0 : Int) == 0) = true := rfl
    go_wp2_with fail
    clear ca1_0 ca1_1 ca1_2 ca1_3
    refine (eFull_any (k := k) (Sl.keeps hv kw) hk (HVV.out k hk)).mono ?_
    rintro e w' ⟨rfl, rfl⟩
    rw [HY.out]
    obtain ⟨F, hF⟩ : ∃ F, full y = F := ⟨_, rfl⟩
    rw [hF] at HE2
    rw [hF]
    clear hF ck cx cy
    go_wp2_with fail
    go_ret
    exact ⟨ret_int HE2.out.symm, kw⟩
  have HE2 := hid (HE.out.trans (if_neg hu0))
  have t1 : (u == 0) = false := by rw [beq_eq_false_iff_ne]; exact hu0
  clear hu0 HE
  go_wp2_with fail
  clear ca1_0 ca1_1 ca1_2 ca1_3
  go_ret
  exact ⟨ret_int HE2.out.symm, kw⟩
set_option maxRecDepth 100000 in
set_option maxHeartbeats 3200000 in
theorem gUp_any {A : Option Addr} {lo hi n c i : Nat} {ps : List Int} {lv : Int} {w : World} (h : Ints w lo hi A n ps) (ht : Tree ps) (hin : i < n) :
    Calls Tryz.prog 163 #[.agg #[.slice A n c], .int .i64 (i : Int), .int .i64 lv] w fun e w' => e = .returned (.int .i64 (gupI ps i lv)) ∧ Keeps w w' := by
  have hn := h.le
  have hl := h.1
  have HT := hid ht
  have HU := hid (fun k => upK_dep ht (i := i) (by omega) k)
  have hdl := dep_le ht i (by omega)
  clear ht
  go_enter Tryz.func163, Tryz.ntmps163
  have kw := keeps_refl w
  replace kw := Keeps.trans kw (keeps_alloc w (.cells #[.slice A n c] 32))
  have b3 : B1 (w.alloc (.cells #[.slice A n c] 32)) w.heap.size (.slice A n c) := B1.new' (by simp)
  obtain ⟨ca1, fa1⟩ := id b3
  go_wp2_with fail
  clear ca1 fa1
  refine (gDepth_any (h.keeps kw) HT.out hin).mono ?_
  rintro e w2 ⟨rfl, k2⟩
  replace b3 := b3.keeps k2
  replace kw := Keeps.trans kw k2
  have lt3 := b3.lt
  have sz4 := kw.size
  clear k2
  by_cases h0 : lv < 0
  · have HX := hid (gup_neg (ps := ps) (i := i) h0)
    go_wp2_with fail
    go_ret
    exact ⟨ret_int HX.out.symm, kw⟩
  obtain ⟨L, rfl⟩ : ∃ L : Nat, lv = (L : Int) := ⟨lv.toNat, by omega⟩
  obtain ⟨D, hD⟩ : ∃ D, dep ps i = D := ⟨_, rfl⟩
  rw [hD] at hdl HU
  rw [hD]
  have HD := hid hD
  clear hD h0
  go_wp2_with fail
  go_loopw [1, 7] (fun a b wr => ∃ j : Nat, j ≤ D - L ∧ j ≤ D ∧ a = .int .i64 (upK ps i j : Nat) ∧ b = .int .i64 ((D - j : Nat) : Int) ∧ B1 wr w.heap.size (.slice A n c) ∧ Keeps w wr) (fun _ b _ => (intOf b).toNat)
  case atStart => exact ⟨0, Nat.zero_le _, Nat.zero_le _, rfl, rfl, b3, kw⟩
  clear b3 kw
  case round =>
    obtain ⟨j, hj, hjD, rfl, rfl, b3, kw⟩ := hrel
    have hu := HU.out j hjD
    obtain ⟨K, hK⟩ : ∃ K, upK ps i j = K := ⟨_, rfl⟩
    rw [hK] at hu
    rw [hK]
    have HK := hid hK
    clear hK
    by_cases hlt : L < D - j
    · obtain ⟨b, off, x, rfl, _, _, hx0, hx⟩ := (h.keeps kw).at_ (k := K) (by omega)
      have hK0 : 0 < K := by
        rcases Nat.eq_zero_or_pos K with e | e
        · rw [e, dep_zero] at hu; omega
        · exact e
      have hp := HT.out.2 K (by omega) hK0
      rw [← hx.out] at hp
      obtain ⟨m, rfl⟩ : ∃ m : Nat, x = (m : Int) := ⟨x.toNat, by omega⟩
      have HN := hid (show upK ps i (j + 1) = m by show (ps.getD (upK ps i j) 0).toNat = m; rw [HK.out, ← hx.out]; rfl)
      have hj1 : (K : Int) < (n : Int) := by omega
      have hj2 : (L : Int) < ((D - j : Nat) : Int) := by omega
      obtain ⟨E, hE⟩ : ∃ E, D - j = E := ⟨_, rfl⟩
      have HEE := hid hE
      rw [hE] at hj2 hlt ⊢
      have hE9 : E ≤ 67108864 := by omega
      have hE1 : 1 ≤ E := by omega
      clear hE hx hp hu
      obtain ⟨ca3, fa3⟩ := id b3
      go_wp2_with fail
      clear ca3 fa3
      go_roundw
      case rel => exact ⟨j + 1, by have := HEE.out; omega, by have := HEE.out; omega, by rw [HN.out], by congr 1; have := HEE.out; omega, b3, kw⟩
      case measure => simp [intOf]; omega
    · have hj2 : ¬ (L : Int) < ((D - j : Nat) : Int) := by omega
      obtain ⟨E, hE⟩ : ∃ E, D - j = E := ⟨_, rfl⟩
      have HEE := hid hE
      rw [hE] at hj2 ⊢
      have hE9 : E ≤ 67108864 := by omega
      clear hE
      by_cases hd : D < L
      · have hd1 : (E : Int) < (L : Int) := by have := HEE.out; omega
        have HX := hid (gup_deep (ps := ps) (i := i) (lv := (L : Int)) (by omega) (by have := HD.out; omega))
        go_wp2
        go_ret
        exact ⟨ret_int HX.out.symm, kw⟩
      · have hd1 : ¬ (E : Int) < (L : Int) := by have := HEE.out; omega
        have HX := hid (gup_at (ps := ps) (i := i) (lv := (L : Int)) (by omega) (by have := HD.out; omega))
        have HX2 := hid (show gupI ps i (L : Int) = (K : Int) by rw [HX.out, HD.out, Int.toNat_natCast, show D - L = j by omega, HK.out])
        go_wp2
        go_ret
        exact ⟨ret_int HX2.out.symm, kw⟩
set_option maxRecDepth 100000 in
set_option maxHeartbeats 6400000 in
theorem lLevels_any {A V H V' H' : Option Addr} {lo hi a c0 n c m d n' c' m' d' : Nat} {ps : List Int} {lv sm lu su : Int} {w : World} (h : Ints w lo hi A a ps) (hg : geoB ps = true) (h0 : 0 ≤ lv) (h1 : 0 ≤ lu) :
    Calls Tryz.prog 136 #[.agg #[.slice A a c0], .agg #[.int .i64 lv, .slice V n c, .slice H m d, .int .i64 sm], .agg #[.int .i64 lu, .slice V' n' c', .slice H' m' d', .int .i64 su]] w fun e w' => e = .returned (.bool (lvlB ps lv lu)) ∧ Keeps w w' := by
  have ha := h.le
  have HG := hid hg
  have HT := hid (tree_of hg)
  have HPL := hid h.1
  clear hg
  go_enter Tryz.func136, Tryz.ntmps136
  have kw := keeps_refl w
  replace kw := Keeps.trans kw (keeps_alloc w (.cells #[.slice A a c0] 32))
  have b3 : B1 (w.alloc (.cells #[.slice A a c0] 32)) w.heap.size (.slice A a c0) := B1.new' (by simp)
  replace b3 := b3.keeps (keeps_alloc (w.alloc (.cells #[.slice A a c0] 32)) (.cells #[.int .i64 lv, .slice V n c, .slice H m d, .int .i64 sm] 61))
  replace kw := Keeps.trans kw (keeps_alloc (w.alloc (.cells #[.slice A a c0] 32)) (.cells #[.int .i64 lv, .slice V n c, .slice H m d, .int .i64 sm] 61))
  have b4 : Bl ((w.alloc (.cells #[.slice A a c0] 32)).alloc (.cells #[.int .i64 lv, .slice V n c, .slice H m d, .int .i64 sm] 61)) (w.heap.size + 1) [.int .i64 lv, .slice V n c, .slice H m d, .int .i64 sm] := Bl.new' (by simp) (by simp)
  replace b3 := b3.keeps (keeps_alloc ((w.alloc (.cells #[.slice A a c0] 32)).alloc (.cells #[.int .i64 lv, .slice V n c, .slice H m d, .int .i64 sm] 61)) (.cells #[.int .i64 lu, .slice V' n' c', .slice H' m' d', .int .i64 su] 61))
  replace b4 := b4.keeps (keeps_alloc ((w.alloc (.cells #[.slice A a c0] 32)).alloc (.cells #[.int .i64 lv, .slice V n c, .slice H m d, .int .i64 sm] 61)) (.cells #[.int .i64 lu, .slice V' n' c', .slice H' m' d', .int .i64 su] 61))
  replace kw := Keeps.trans kw (keeps_alloc ((w.alloc (.cells #[.slice A a c0] 32)).alloc (.cells #[.int .i64 lv, .slice V n c, .slice H m d, .int .i64 sm] 61)) (.cells #[.int .i64 lu, .slice V' n' c', .slice H' m' d', .int .i64 su] 61))
  have b5 : Bl (((w.alloc (.cells #[.slice A a c0] 32)).alloc (.cells #[.int .i64 lv, .slice V n c, .slice H m d, .int .i64 sm] 61)).alloc (.cells #[.int .i64 lu, .slice V' n' c', .slice H' m' d', .int .i64 su] 61)) (w.heap.size + 1 + 1) [.int .i64 lu, .slice V' n' c', .slice H' m' d', .int .i64 su] := Bl.new' (by simp) (by simp)
  obtain ⟨ca1, fa1⟩ := id b3
  have ca2_0 := (b4.2 0 _ rfl).1
  have ca2_1 := (b4.2 1 _ rfl).1
  have ca2_2 := (b4.2 2 _ rfl).1
  have ca2_3 := (b4.2 3 _ rfl).1
  have ca3_0 := (b5.2 0 _ rfl).1
  have ca3_1 := (b5.2 1 _ rfl).1
  have ca3_2 := (b5.2 2 _ rfl).1
  have ca3_3 := (b5.2 3 _ rfl).1
  by_cases hle : lu ≤ lv
  · by_cases he : lv = lu
    · have HX := hid (show lvlB ps lv lu = true by rw [he]; exact lvlB_self _ _)
      have t1 : (lv == lu) = true := by rw [beq_iff_eq]; exact he
      clear he
      go_wp2_with fail
      clear ca1 fa1 ca2_0 ca2_1 ca2_2 ca2_3 ca3_0 ca3_1 ca3_2 ca3_3
      go_ret
      exact ⟨ret_bool HX.out.symm, kw⟩
    have HX := hid (lvlB_gt (ps := ps) (show lu < lv by omega))
    have t1 : (lv == lu) = false := by rw [beq_eq_false_iff_ne]; exact he
    clear he
    go_wp2_with fail
    clear ca1 fa1 ca2_0 ca2_1 ca2_2 ca2_3 ca3_0 ca3_1 ca3_2 ca3_3
    go_ret
    exact ⟨ret_bool HX.out.symm, kw⟩
  go_wp2_with fail
  clear ca1 fa1 ca2_0 ca2_1 ca2_2 ca2_3 ca3_0 ca3_1 ca3_2 ca3_3
  refine (gLeaves_any (h.keeps kw) HG.out).mono ?_
  rintro e w4 ⟨LA, LC, rfl, mL, k4⟩
  replace b3 := b3.keeps k4
  replace b4 := b4.keeps k4
  replace b5 := b5.keeps k4
  replace kw := Keeps.trans kw k4
  have lt5 := b5.lt
  have sz6 := kw.size
  clear k4
  obtain ⟨LN, hLN⟩ : ∃ x, (leaves ps).length = x := ⟨_, rfl⟩
  rw [hLN] at mL
  rw [hLN]
  have HLN := hid hLN
  clear hLN
  have mLi := mL.1
  have hLN9 := mLi.le
  clear mL
  obtain ⟨ca7, fa7⟩ := id b3
  have ca8_0 := (b4.2 0 _ rfl).1
  have ca8_1 := (b4.2 1 _ rfl).1
  have ca8_2 := (b4.2 2 _ rfl).1
  have ca8_3 := (b4.2 3 _ rfl).1
  have ca9_0 := (b5.2 0 _ rfl).1
  have ca9_1 := (b5.2 1 _ rfl).1
  have ca9_2 := (b5.2 2 _ rfl).1
  have ca9_3 := (b5.2 3 _ rfl).1
  go_wp2_with fail
  clear ca7 fa7 ca8_0 ca8_1 ca8_2 ca8_3 ca9_0 ca9_1 ca9_2 ca9_3
  go_loopw [22] (fun i wr => ∃ k : Nat, k ≤ LN ∧ i = .int .i64 k ∧ Hid (lvTo ps lv lu k = true) ∧ B1 wr w.heap.size (.slice A a c0) ∧ Bl wr (w.heap.size + 1) [.int .i64 lv, .slice V n c, .slice H m d, .int .i64 sm] ∧ Bl wr (w.heap.size + 1 + 1) [.int .i64 lu, .slice V' n' c', .slice H' m' d', .int .i64 su] ∧ Keeps w4 wr ∧ Keeps w wr) (fun i _ => LN - (intOf i).toNat)
  case atStart => exact ⟨0, Nat.zero_le _, rfl, hid rfl, b3, b4, b5, keeps_refl _, kw⟩
  clear b3 b4 b5 kw
  case round =>
    obtain ⟨k, hk, rfl, HK, b3, b4, b5, kv, kw⟩ := hrel
    by_cases hlt : k < LN
    · obtain ⟨bl, ol, x, rfl, _, _, hcx, hx⟩ := (mLi.keeps kv).at_ hlt
      have hla := leaf_area (ps := ps) (k := k) (by rw [HLN.out]; exact hlt)
      rw [← hx.out, HPL.out] at hla
      obtain ⟨rfl, hla2⟩ := hla
      obtain ⟨X, hX⟩ : ∃ X, lfAt ps k = X := ⟨_, rfl⟩
      rw [hX] at hcx hla2
      have HX9 := hid hX
      clear hX hx
      have hi1 : (k : Int) < (LN : Int) := by omega
      have HA := hid (gup_ge (ps := ps) (i := X) h0)
      have HB := hid (gup_ge (ps := ps) (i := X) h1)
      obtain ⟨ga, hga⟩ : ∃ z, gupI ps X lv = z := ⟨_, rfl⟩
      obtain ⟨gb, hgb⟩ : ∃ z, gupI ps X lu = z := ⟨_, rfl⟩
      rw [hga] at HA
      rw [hgb] at HB
      have HGA := hid hga
      have HGB := hid hgb
      clear hga hgb
      obtain ⟨ca10, fa10⟩ := id b3
      have ca11_0 := (b4.2 0 _ rfl).1
      have ca11_1 := (b4.2 1 _ rfl).1
      have ca11_2 := (b4.2 2 _ rfl).1
      have ca11_3 := (b4.2 3 _ rfl).1
      have ca12_0 := (b5.2 0 _ rfl).1
      have ca12_1 := (b5.2 1 _ rfl).1
      have ca12_2 := (b5.2 2 _ rfl).1
      have ca12_3 := (b5.2 3 _ rfl).1
      go_wp2_with fail
      clear ca10 fa10 ca11_0 ca11_1 ca11_2 ca11_3 ca12_0 ca12_1 ca12_2 ca12_3
      refine (gUp_any (h.keeps kw) HT.out hla2).mono ?_
      rintro e w13 ⟨rfl, k13⟩
      rw [HGA.out]
      replace b3 := b3.keeps k13
      replace b4 := b4.keeps k13
      replace b5 := b5.keeps k13
      replace kw := Keeps.trans kw k13
      replace kv := Keeps.trans kv k13
      have lt14 := b5.lt
      have sz15 := kw.size
      have sz16 := kv.size
      clear k13
      by_cases q1 : 0 ≤ ga
      rotate_left
      · have HN := hid (lvTo_next HK.out (by rw [HX9.out]; have := HA.out; omega))
        obtain ⟨ca17, fa17⟩ := id b3
        have ca18_0 := (b4.2 0 _ rfl).1
        have ca18_1 := (b4.2 1 _ rfl).1
        have ca18_2 := (b4.2 2 _ rfl).1
        have ca18_3 := (b4.2 3 _ rfl).1
        have ca19_0 := (b5.2 0 _ rfl).1
        have ca19_1 := (b5.2 1 _ rfl).1
        have ca19_2 := (b5.2 2 _ rfl).1
        have ca19_3 := (b5.2 3 _ rfl).1
        go_wp2_with fail
        clear ca17 fa17 ca18_0 ca18_1 ca18_2 ca18_3 ca19_0 ca19_1 ca19_2 ca19_3
        go_roundw
        case rel => exact ⟨k + 1, by omega, by go_num, HN, b3, b4, b5, kv, kw⟩
        case measure => simp [intOf]; omega
      obtain ⟨ca17, fa17⟩ := id b3
      have ca18_0 := (b4.2 0 _ rfl).1
      have ca18_1 := (b4.2 1 _ rfl).1
      have ca18_2 := (b4.2 2 _ rfl).1
      have ca18_3 := (b4.2 3 _ rfl).1
      have ca19_0 := (b5.2 0 _ rfl).1
      have ca19_1 := (b5.2 1 _ rfl).1
      have ca19_2 := (b5.2 2 _ rfl).1
      have ca19_3 := (b5.2 3 _ rfl).1
      go_wp2_with fail
      clear ca17 fa17 ca18_0 ca18_1 ca18_2 ca18_3 ca19_0 ca19_1 ca19_2 ca19_3
      refine (gUp_any (h.keeps kw) HT.out hla2).mono ?_
      rintro e w20 ⟨rfl, k20⟩
      rw [HGB.out]
      replace b3 := b3.keeps k20
      replace b4 := b4.keeps k20
      replace b5 := b5.keeps k20
      replace kw := Keeps.trans kw k20
      replace kv := Keeps.trans kv k20
      have lt21 := b5.lt
      have sz22 := kw.size
      have sz23 := kv.size
      clear k20
      by_cases q2 : gb < 0
      · have HF := hid (lvlB_no (ps := ps) (a := lv) (b := lu) HLN.out hlt (by omega) (by rw [HX9.out]; exact HA.out.1 q1) (by rw [HX9.out]; have := HB.out; omega))
        obtain ⟨ca24, fa24⟩ := id b3
        have ca25_0 := (b4.2 0 _ rfl).1
        have ca25_1 := (b4.2 1 _ rfl).1
        have ca25_2 := (b4.2 2 _ rfl).1
        have ca25_3 := (b4.2 3 _ rfl).1
        have ca26_0 := (b5.2 0 _ rfl).1
        have ca26_1 := (b5.2 1 _ rfl).1
        have ca26_2 := (b5.2 2 _ rfl).1
        have ca26_3 := (b5.2 3 _ rfl).1
        go_wp2_with fail
        clear ca24 fa24 ca25_0 ca25_1 ca25_2 ca25_3 ca26_0 ca26_1 ca26_2 ca26_3
        go_ret
        exact ⟨ret_bool HF.out.symm, kw⟩
      have HN := hid (lvTo_next HK.out (by rw [HX9.out]; have := HB.out; omega))
      obtain ⟨ca24, fa24⟩ := id b3
      have ca25_0 := (b4.2 0 _ rfl).1
      have ca25_1 := (b4.2 1 _ rfl).1
      have ca25_2 := (b4.2 2 _ rfl).1
      have ca25_3 := (b4.2 3 _ rfl).1
      have ca26_0 := (b5.2 0 _ rfl).1
      have ca26_1 := (b5.2 1 _ rfl).1
      have ca26_2 := (b5.2 2 _ rfl).1
      have ca26_3 := (b5.2 3 _ rfl).1
      go_wp2_with fail
      clear ca24 fa24 ca25_0 ca25_1 ca25_2 ca25_3 ca26_0 ca26_1 ca26_2 ca26_3
      go_roundw
      case rel => exact ⟨k + 1, by omega, by go_num, HN, b3, b4, b5, kv, kw⟩
      case measure => simp [intOf]; omega
    · obtain rfl : k = LN := by omega
      have HX := hid (lvlB_yes (ps := ps) HLN.out (show lv < lu by omega) HK.out)
      go_wp2
      go_ret
      exact ⟨ret_bool HX.out.symm, kw⟩
end Go.Proofs.YtlkjhkkfdmjfcaaGreatDoor
