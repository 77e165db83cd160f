/- Depths and levels; KeptTotals and LevelError, of the reference and of the program; and the laws. -/
import Derived.Test.YtlkjhkkfdmjfcaaGreatDoorKG
import Derived.BigRegion
import Derived.Test.YtlkjhkkfdmjfcaaGreatDoorKB
namespace Go.Proofs.YtlkjhkkfdmjfcaaGreatDoor
open Go.RowKit
set_option linter.unusedVariables false
set_option linter.unusedSimpArgs false

/-- The root has no parent, each other area an earlier one. -/
def Tree (ps : List Int) : Prop := ps.getD 0 0 = -1 ∧ ParTo ps ps.length
theorem tree_of {ps : List Int} (h : geoB ps = true) : Tree ps := (geoB_true.1 h).2
def depF (ps : List Int) : Nat → Nat → Nat
  | 0, _ => 0
  | f + 1, i => if i = 0 then 0 else depF ps f (ps.getD i 0).toNat + 1
def dep (ps : List Int) (i : Nat) : Nat := depF ps i i
theorem depF_stable {ps : List Int} (ht : Tree ps) (f : Nat) : ∀ i, i ≤ f → i < ps.length → depF ps f i = dep ps i := by
  induction f with
  | zero => intro i h _; obtain rfl : i = 0 := by omega
            rfl
  | succ f ih =>
    intro i h hl
    by_cases h0 : i = 0
    · subst h0; simp [depF, dep]
    · have hp := ht.2 i hl (by omega)
      obtain ⟨j, rfl⟩ : ∃ j, i = j + 1 := ⟨i - 1, by omega⟩
      simp only [depF, dep, if_neg h0]
      have a := ih (ps.getD (j + 1) 0).toNat (by omega) (by omega)
      rw [a]
      have b : depF ps j (ps.getD (j + 1) 0).toNat = dep ps (ps.getD (j + 1) 0).toNat := by
        by_cases hj : j = f
        · subst hj; exact a
        · -- the same by a smaller fuel
          have : ∀ g, (ps.getD (j + 1) 0).toNat ≤ g → g ≤ f → depF ps g (ps.getD (j + 1) 0).toNat = dep ps (ps.getD (j + 1) 0).toNat := by
            intro g hg hgf
            clear a
            have key : ∀ (m g i : Nat), i ≤ m → i ≤ g → i < ps.length → depF ps g i = dep ps i := by
              intro m
              induction m with
              | zero => intro g i hi _ _; obtain rfl : i = 0 := by omega
                        cases g <;> simp [depF, dep]
              | succ m im =>
                intro g i hi hig hil
                by_cases hi0 : i = 0
                · subst hi0; cases g <;> simp [depF, dep]
                · have hpi := ht.2 i hil (by omega)
                  obtain ⟨g', rfl⟩ : ∃ g', g = g' + 1 := ⟨g - 1, by omega⟩
                  obtain ⟨i', rfl⟩ : ∃ i', i = i' + 1 := ⟨i - 1, by omega⟩
                  simp only [depF, dep, if_neg hi0]
                  rw [im g' _ (by omega) (by omega) (by omega), im i' _ (by omega) (by omega) (by omega)]
            exact key _ g _ (Nat.le_refl _) hg (by omega)
          exact this j (by omega) (by omega)
      rw [b]
theorem dep_zero (ps : List Int) : dep ps 0 = 0 := rfl
theorem dep_up {ps : List Int} (ht : Tree ps) {i : Nat} (h0 : 0 < i) (hl : i < ps.length) {j : Nat} (hj : ps.getD i 0 = (j : Int)) : dep ps i = dep ps j + 1 := by
  have hp := ht.2 i hl h0
  obtain ⟨i', rfl⟩ : ∃ i', i = i' + 1 := ⟨i - 1, by omega⟩
  have : depF ps (i' + 1) (i' + 1) = depF ps i' j + 1 := by
    simp only [depF]
    rw [if_neg (by omega), hj]; simp
  unfold dep at *
  rw [this, depF_stable ht i' j (by omega) (by omega)]
  rfl
theorem dep_le {ps : List Int} (ht : Tree ps) (i : Nat) : i < ps.length → dep ps i ≤ i := by
  induction i using Nat.strongRecOn with
  | ind i ih =>
    intro hl
    by_cases h0 : i = 0
    · subst h0; simp [dep, depF]
    · have hp := ht.2 i hl (by omega)
      obtain ⟨j, hj⟩ : ∃ j : Nat, ps.getD i 0 = (j : Int) := ⟨(ps.getD i 0).toNat, by omega⟩
      rw [dep_up ht (by omega) hl hj]
      have := ih j (by omega) (by omega)
      omega

set_option maxHeartbeats 800000 in
theorem depthOf_any {A : Option Addr} {lo hi n c i : Nat} {ps : List Int} {w : World} (h : Ints w lo hi A n ps) (ht : Tree ps) (hin : i < n) :
    Calls Tryz.prog 130 #[.agg #[.slice A n c], .int .i64 (i : Int)] w fun e w' => e = .returned (.int .i64 (dep ps i)) ∧ Keeps w w' := by
  have hn := h.le
  have hl := h.1
  have HT := hid ht
  clear ht
  have k0 := keeps_alloc w (.cells #[.slice A n c] 32)
  have h0 := h.keeps k0
  have hd := dep_le HT.out i (by omega)
  go_enter Tryz.func130, Tryz.ntmps130
  go_wp2_with fail
  go_loop [1, 5] (fun a b => ∃ j d : Nat, j < n ∧ a = .int .i64 j ∧ b = .int .i64 d ∧ Hid (d + dep ps j = dep ps i)) (fun a _ => (intOf a).toNat)
  case atStart => exact ⟨i, 0, hin, rfl, rfl, Nat.zero_add _⟩
  case round =>
    obtain ⟨j, d, hjn, rfl, rfl, hd2⟩ := hrel
    have hdd : d ≤ dep ps i := by have := hd2.out; omega
    by_cases hj0 : 0 < j
    · obtain ⟨b, off, x, rfl, _, _, hx0, hx⟩ := h0.at_ hjn
      have hp := HT.out.2 j (by omega) hj0
      rw [← hx.out] at hp
      obtain ⟨m, rfl⟩ : ∃ m : Nat, x = (m : Int) := ⟨x.toNat, by omega⟩
      have HU := hid (dep_up HT.out hj0 (by omega) hx.out.symm)
      have hj1 : (j : Int) < (n : Int) := by omega
      have hj2 : (0 : Int) < (j : Int) := by omega
      go_wp2
      go_round
      case rel => exact ⟨m, d + 1, by omega, rfl, by go_num, by have := HU.out; have := hd2.out; unfold Hid; omega⟩
      case measure => simp [intOf]; omega
    · obtain rfl : j = 0 := by omega
      have hj2 : ¬ (0 : Int) < ((0 : Nat) : Int) := by omega
      go_wp2
      go_ret
      exact ⟨ret_int (by have := hd2.out; rw [dep_zero] at this; omega), k0⟩
set_option maxHeartbeats 800000 in
theorem gDepth_any {A : Option Addr} {lo hi n c i : Nat} {ps : List Int} {w : World} (h : Ints w lo hi A n ps) (ht : Tree ps) (hin : i < n) :
    Calls Tryz.prog 155 #[.agg #[.slice A n c], .int .i64 (i : Int)] w fun e w' => e = .returned (.int .i64 (dep ps i)) ∧ Keeps w w' := by
  have hn := h.le
  have hl := h.1
  have HT := hid ht
  clear ht
  have k0 := keeps_alloc w (.cells #[.slice A n c] 32)
  have h0 := h.keeps k0
  have hd := dep_le HT.out i (by omega)
  go_enter Tryz.func155, Tryz.ntmps155
  go_wp2_with fail
  go_loop [1, 5] (fun a b => ∃ j d : Nat, j < n ∧ a = .int .i64 j ∧ b = .int .i64 d ∧ Hid (d + dep ps j = dep ps i)) (fun a _ => (intOf a).toNat)
  case atStart => exact ⟨i, 0, hin, rfl, rfl, Nat.zero_add _⟩
  case round =>
    obtain ⟨j, d, hjn, rfl, rfl, hd2⟩ := hrel
    have hdd : d ≤ dep ps i := by have := hd2.out; omega
    have hj1 : (j : Int) < (n : Int) := by omega
    by_cases hj0 : 0 < j
    · obtain ⟨b, off, x, rfl, _, _, hx0, hx⟩ := h0.at_ hjn
      have hp := HT.out.2 j (by omega) hj0
      rw [← hx.out] at hp
      obtain ⟨m, rfl⟩ : ∃ m : Nat, x = (m : Int) := ⟨x.toNat, by omega⟩
      have HU := hid (dep_up HT.out hj0 (by omega) hx.out.symm)
      have hj2 : (0 : Int) ≤ (m : Int) := by omega
      go_wp2
      go_round
      case rel => exact ⟨m, d + 1, by omega, rfl, by go_num, by have := HU.out; have := hd2.out; unfold Hid; omega⟩
      case measure => simp [intOf]; omega
    · obtain rfl : j = 0 := by omega
      obtain ⟨b, off, x, rfl, _, _, hx0, hx⟩ := h0.at_ hjn
      obtain rfl : x = -1 := hx.out.trans HT.out.1
      rw [Nat.add_zero] at hx0
      have hj2 : ¬ (0 : Int) ≤ (-1 : Int) := by omega
      go_wp2
      go_ret
      exact ⟨ret_int (by have := hd2.out; rw [dep_zero] at this; omega), k0⟩

def isAt (ps : List Int) (lv : Int) (j : Nat) : Bool := (dep ps j : Int) == lv
def levTo (ps : List Int) (lv : Int) (k : Nat) : List Int := ((List.range k).filter (isAt ps lv)).map fun (j : Nat) => (j : Int)
def lev (ps : List Int) (lv : Int) : List Int := levTo ps lv ps.length
theorem levTo_yes {ps : List Int} {lv : Int} {k : Nat} (h : (dep ps k : Int) = lv) : levTo ps lv (k + 1) = levTo ps lv k ++ [(k : Int)] := by
  unfold levTo
  rw [List.range_succ, List.filter_append, List.map_append]
  have e : isAt ps lv k = true := by unfold isAt; simpa using h
  rw [List.filter_cons_of_pos e]; simp
theorem levTo_no {ps : List Int} {lv : Int} {k : Nat} (h : (dep ps k : Int) ≠ lv) : levTo ps lv (k + 1) = levTo ps lv k := by
  unfold levTo
  rw [List.range_succ, List.filter_append, List.map_append]
  have e : ¬ isAt ps lv k = true := by unfold isAt; simpa using h
  rw [List.filter_cons_of_neg e]; simp
theorem levTo_len (ps : List Int) (lv : Int) (k : Nat) : (levTo ps lv k).length ≤ k := by
  unfold levTo
  rw [List.length_map]
  exact Nat.le_trans (List.length_filter_le _ _) (by simp)
theorem lev_getD {ps : List Int} {lv : Int} {m : Nat} (h : m < (lev ps lv).length) : ∃ j : Nat, (lev ps lv).getD m 0 = j ∧ j < ps.length := by
  have hm : (lev ps lv)[m] ∈ levTo ps lv ps.length := List.getElem_mem h
  obtain ⟨j, hj, e⟩ := List.mem_map.1 hm
  simp at hj
  exact ⟨j, by simp only [List.getD, List.getElem?_eq_getElem h, Option.getD_some]; exact e.symm, hj.1⟩

set_option maxHeartbeats 1600000 in
theorem areasAt_any {A : Option Addr} {lo hi n c : Nat} {ps : List Int} {lv : Int} {w : World} (h : Ints w lo hi A n ps) (ht : Tree ps) :
    Calls Tryz.prog 140 #[.agg #[.slice A n c], .int .i64 lv] w fun e w' => ∃ A' c', e = .returned (.slice A' (lev ps lv).length c') ∧ Mine w' w.heap.size w'.heap.size A' (lev ps lv).length (lev ps lv) ∧ Keeps w w' := by
  have hn := h.le
  have hl := h.1
  have HT := hid ht
  clear ht
  have k0 := keeps_alloc w (.cells #[.slice A n c] 32)
  have bx0 := hid (cell_new w (.slice A n c) 32)
  go_enter Tryz.func140, Tryz.ntmps140
  go_wp2_with fail
  have bx0 := bx0.out
  go_loopw [5, 10] (fun v t wr => ∃ k : Nat, k ≤ n ∧ t = .int .i64 k ∧ Has wr (w.heap.size + 1) 3 1 v (levTo ps lv k).length ((levTo ps lv k).map (Value.int .i64)) ∧ Keeps (w.alloc (.cells #[.slice A n c] 32)) wr) (fun _ t _ => n - (intOf t).toNat)
  case atStart => exact ⟨0, Nat.zero_le _, rfl, World.ownsRow_nil _ _ _ _, keeps_refl _⟩
  case round =>
    obtain ⟨k, hk, rfl, hown, hkeep⟩ := hrel
    have hkl := levTo_len ps lv k
    by_cases hlt : k < n
    · have bx := cell_keeps bx0 hkeep
      have hs := hkeep.size
      simp at hs
      go_wp2_with fail
      refine (depthOf_any ((h.keeps k0).keeps hkeep) HT.out hlt).mono ?_
      rintro e w1 ⟨rfl, hk1⟩
      have hs1 := hk1.size
      have hown := hown.below hk1
      have hkeep := hkeep.trans hk1
      by_cases hxi : (dep ps k : Int) = lv
      · have t1 : ((dep ps k : Int) == lv) = true := by rw [beq_iff_eq]; exact hxi
        have HK := hid (levTo_yes hxi)
        clear hxi
        go_wp2_with (at_builtin; refine append_int (xs := levTo ps lv k) hown (by omega) (by omega) _ _ rfl rfl rfl rfl ?_; intro v' w' hown' hb')
        have H1 := hid hown'
        rw [show (levTo ps lv k).length + 1 = (levTo ps lv k ++ [(k : Int)]).length by simp, ← HK.out] at H1
        have H2 := hid (Below.trans hkeep (hb'.mono (by simp)))
        clear hown' hb' hkeep hown
        go_wp2
        go_roundw
        case rel => exact ⟨k + 1, by omega, by go_num, H1.out, H2.out⟩
        case measure => simp [intOf]; omega
      · have t1 : ((dep ps k : Int) == lv) = false := by rw [beq_eq_false_iff_ne]; exact hxi
        have HK := hid (levTo_no hxi)
        have H1 := hid hown
        rw [← HK.out] at H1
        clear hxi hown
        go_wp2
        go_roundw
        case rel => exact ⟨k + 1, by omega, by go_num, H1.out, hkeep⟩
        case measure => simp [intOf]; omega
    · obtain rfl : k = n := by omega
      rw [← hl] at hown hkl
      obtain ⟨A', c', rfl⟩ := hown.form
      have HM := hid ((Mine.of_own hown (by omega)).widen (lo' := w.heap.size) (by omega) (Nat.le_refl _) (Nat.le_refl _))
      clear hown
      go_wp2
      go_ret
      exact ⟨A', c', rfl, HM.out, k0.trans hkeep⟩
set_option maxHeartbeats 1600000 in
theorem gLevel_any {A : Option Addr} {lo hi n c : Nat} {ps : List Int} {lv : Int} {w : World} (h : Ints w lo hi A n ps) (ht : Tree ps) :
    Calls Tryz.prog 118 #[.agg #[.slice A n c], .int .i64 lv] w fun e w' => ∃ A' c', e = .returned (.slice A' (lev ps lv).length c') ∧ Mine w' w.heap.size w'.heap.size A' (lev ps lv).length (lev ps lv) ∧ Keeps w w' := by
  have hn := h.le
  have hl := h.1
  have HT := hid ht
  clear ht
  have k0 := keeps_alloc w (.cells #[.slice A n c] 32)
  have bx0 := hid (cell_new w (.slice A n c) 32)
  go_enter Tryz.func118, Tryz.ntmps118
  go_wp2_with fail
  have bx0 := bx0.out
  go_loopw [5, 10] (fun v t wr => ∃ k : Nat, k ≤ n ∧ t = .int .i64 k ∧ Has wr (w.heap.size + 1) 3 1 v (levTo ps lv k).length ((levTo ps lv k).map (Value.int .i64)) ∧ Keeps (w.alloc (.cells #[.slice A n c] 32)) wr) (fun _ t _ => n - (intOf t).toNat)
  case atStart => exact ⟨0, Nat.zero_le _, rfl, World.ownsRow_nil _ _ _ _, keeps_refl _⟩
  case round =>
    obtain ⟨k, hk, rfl, hown, hkeep⟩ := hrel
    have hkl := levTo_len ps lv k
    by_cases hlt : k < n
    · have bx := cell_keeps bx0 hkeep
      have hs := hkeep.size
      simp at hs
      go_wp2_with fail
      refine (gDepth_any ((h.keeps k0).keeps hkeep) HT.out hlt).mono ?_
      rintro e w1 ⟨rfl, hk1⟩
      have hs1 := hk1.size
      have hown := hown.below hk1
      have hkeep := hkeep.trans hk1
      by_cases hxi : (dep ps k : Int) = lv
      · have t1 : ((dep ps k : Int) == lv) = true := by rw [beq_iff_eq]; exact hxi
        have HK := hid (levTo_yes hxi)
        clear hxi
        go_wp2_with (at_builtin; refine append_int (xs := levTo ps lv k) hown (by omega) (by omega) _ _ rfl rfl rfl rfl ?_; intro v' w' hown' hb')
        have H1 := hid hown'
        rw [show (levTo ps lv k).length + 1 = (levTo ps lv k ++ [(k : Int)]).length by simp, ← HK.out] at H1
        have H2 := hid (Below.trans hkeep (hb'.mono (by simp)))
        clear hown' hb' hkeep hown
        go_wp2
        go_roundw
        case rel => exact ⟨k + 1, by omega, by go_num, H1.out, H2.out⟩
        case measure => simp [intOf]; omega
      · have t1 : ((dep ps k : Int) == lv) = false := by rw [beq_eq_false_iff_ne]; exact hxi
        have HK := hid (levTo_no hxi)
        have H1 := hid hown
        rw [← HK.out] at H1
        clear hxi hown
        go_wp2
        go_roundw
        case rel => exact ⟨k + 1, by omega, by go_num, H1.out, hkeep⟩
        case measure => simp [intOf]; omega
    · obtain rfl : k = n := by omega
      rw [← hl] at hown hkl
      obtain ⟨A', c', rfl⟩ := hown.form
      have HM := hid ((Mine.of_own hown (by omega)).widen (lo' := w.heap.size) (by omega) (Nat.le_refl _) (Nat.le_refl _))
      clear hown
      go_wp2
      go_ret
      exact ⟨A', c', rfl, HM.out, k0.trans hkeep⟩
end Go.Proofs.YtlkjhkkfdmjfcaaGreatDoor

/- KeptTotals and LevelError, of the reference and of the program; and the laws. -/
namespace Go.Proofs.YtlkjhkkfdmjfcaaGreatDoor
open Go.RowKit
set_option linter.unusedVariables false
set_option linter.unusedSimpArgs false

def valB (B : Int) (ps vs : List Int) : Bool := geoB ps && (decide (vs.length = ps.length) && within (-B) B vs)
theorem valB_geo {B : Int} {ps vs : List Int} (h : geoB ps = false) : valB B ps vs = false := by simp [valB, h]
theorem valB_len {B : Int} {ps vs : List Int} (h : vs.length ≠ ps.length) : valB B ps vs = false := by simp [valB, h]
theorem valB_in {B : Int} {ps vs : List Int} (h : within (-B) B vs = false) : valB B ps vs = false := by simp [valB, h]
theorem valB_true {B : Int} {ps vs : List Int} : valB B ps vs = true ↔ geoB ps = true ∧ vs.length = ps.length ∧ within (-B) B vs = true := by simp [valB]
theorem smallB_valB {ps vs : List Int} (h : geoB ps = true) : smallB vs ps.length = valB 1000000 ps vs := by simp [valB, smallB, h]

def SameTo (u v : List Int) (k : Nat) : Prop := ∀ m, m < k → u.getD m 0 = v.getD m 0
theorem sameTo_succ {u v : List Int} {k : Nat} (h : SameTo u v k) (h1 : u.getD k 0 = v.getD k 0) : SameTo u v (k + 1) := by
  intro m hm
  by_cases hk : m = k
  · subst hk; exact h1
  · exact h m (by omega)
theorem same_all {u v : List Int} (hl : u.length = v.length) (h : SameTo u v u.length) : (u == v) = true := by
  rw [beq_iff_eq]
  apply List.ext_getElem hl
  intro i h1 h2
  have := h i h1
  simpa [List.getD, h1, h2] using this
theorem same_no {u v : List Int} {k : Nat} (h : u.getD k 0 ≠ v.getD k 0) : (u == v) = false := by
  rw [beq_eq_false_iff_ne]; intro e; exact h (by rw [e])

def ktF (ps a b : List Int) (lv : Int) : Bool × Bool :=
  if valB 100000 ps a && valB 100000 ps b && decide ((lev ps lv).length ≠ 0) then (vsAt a (lev ps lv) == vsAt b (lev ps lv), true) else (false, false)
theorem ktF_a {ps a b : List Int} {lv : Int} (h : valB 100000 ps a = false) : ktF ps a b lv = (false, false) := by simp [ktF, h]
theorem ktF_b {ps a b : List Int} {lv : Int} (h : valB 100000 ps b = false) : ktF ps a b lv = (false, false) := by simp [ktF, h]
theorem ktF_0 {ps a b : List Int} {lv : Int} (h : (lev ps lv).length = 0) : ktF ps a b lv = (false, false) := by
  have : decide ((lev ps lv).length ≠ 0) = false := by simp [h]
  rw [ktF, this, Bool.and_false]; rfl
theorem ktF_y {ps a b : List Int} {lv : Int} (h1 : valB 100000 ps a = true) (h2 : valB 100000 ps b = true) (h : (lev ps lv).length ≠ 0) : ktF ps a b lv = (vsAt a (lev ps lv) == vsAt b (lev ps lv), true) := by
  have : decide ((lev ps lv).length ≠ 0) = true := by simpa using h
  rw [ktF, this, h1, h2]; rfl


end Go.Proofs.YtlkjhkkfdmjfcaaGreatDoor

/- LevelError, of the reference and of the program; and the law. -/
namespace Go.Proofs.YtlkjhkkfdmjfcaaGreatDoor
open Go.RowKit
set_option linter.unusedVariables false
set_option linter.unusedSimpArgs false

/-- The sum of the absolute differences, of the first k. -/
def ads (u v : List Int) : Nat → Int
  | 0 => 0
  | k + 1 => ads u v k + max (u.getD k 0 - v.getD k 0) (v.getD k 0 - u.getD k 0)
theorem ads_succ (u v : List Int) (k : Nat) : ads u v (k + 1) = ads u v k + max (u.getD k 0 - v.getD k 0) (v.getD k 0 - u.getD k 0) := rfl
theorem ads_bd {u v : List Int} (hu : Bd 1000000 u) (hv : Bd 1000000 v) (k : Nat) : 0 ≤ ads u v k ∧ ads u v k ≤ 2000000 * k := by
  induction k with
  | zero => simp [ads]
  | succ k ih =>
    have := hu k
    have := hv k
    simp only [ads]
    omega
def leF (ps a b : List Int) (lv : Int) : Int × Bool :=
  if valB 1000000 ps a && valB 1000000 ps b && decide ((lev ps lv).length ≠ 0) then (ads (vsAt a (lev ps lv)) (vsAt b (lev ps lv)) (lev ps lv).length, true) else (0, false)
theorem leF_a {ps a b : List Int} {lv : Int} (h : valB 1000000 ps a = false) : leF ps a b lv = (0, false) := by simp [leF, h]
theorem leF_b {ps a b : List Int} {lv : Int} (h : valB 1000000 ps b = false) : leF ps a b lv = (0, false) := by simp [leF, h]
theorem leF_0 {ps a b : List Int} {lv : Int} (h : (lev ps lv).length = 0) : leF ps a b lv = (0, false) := by
  have : decide ((lev ps lv).length ≠ 0) = false := by simp [h]
  rw [leF, this, Bool.and_false]; rfl
theorem leF_y {ps a b : List Int} {lv : Int} (h1 : valB 1000000 ps a = true) (h2 : valB 1000000 ps b = true) (h : (lev ps lv).length ≠ 0) :
    leF ps a b lv = (ads (vsAt a (lev ps lv)) (vsAt b (lev ps lv)) (lev ps lv).length, true) := by
  have : decide ((lev ps lv).length ≠ 0) = true := by simpa using h
  rw [leF, this, h1, h2]; rfl


end Go.Proofs.YtlkjhkkfdmjfcaaGreatDoor

