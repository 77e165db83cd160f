/- Stable sorting of up to 30 numbers by a comparison: the walk. -/
import Derived.Test.YtikmgohjgdojdaaStw
namespace Go.Proofs.Ytikmgohjgdojdaa
open Go.RowKit
set_option linter.unusedVariables false
set_option linter.unusedSimpArgs false
/-- The state of a binary search. -/
structure Srch (w wr : World) (lo hi : Nat) (A : Option Addr) (n : Nat) (xs : List Int) (L R : Nat → Prop) (lo0 hi0 : Nat) (vi vj : Value) : Prop where
  ex : ∃ i j : Nat, lo0 ≤ i ∧ i ≤ j ∧ j ≤ hi0 ∧ vi = .int .i64 (i : Int) ∧ vj = .int .i64 (j : Int) ∧ Hid (L i) ∧ Hid (R j) ∧ Mine wr lo hi A n xs ∧ Fr lo hi w wr
theorem srch_mk {w wr : World} {lo hi : Nat} {A : Option Addr} {n : Nat} {xs : List Int} {L R : Nat → Prop} {lo0 hi0 : Nat} {vi vj : Value} (i j : Nat) (h1 : lo0 ≤ i) (h2 : i ≤ j) (h3 : j ≤ hi0) (e1 : vi = .int .i64 (i : Int)) (e2 : vj = .int .i64 (j : Int)) (hL : Hid (L i)) (hR : Hid (R j)) (hm : Mine wr lo hi A n xs) (hf : Fr lo hi w wr) : Srch w wr lo hi A n xs L R lo0 hi0 vi vj :=
  ⟨⟨i, j, h1, h2, h3, e1, e2, hL, hR, hm, hf⟩⟩
def PLu (key : Int → Int) (xs : List Int) (a i : Nat) : Prop := i = a + 1 ∨ key (xs.getD a 0) < key (xs.getD (i - 1) 0)
def PRu (key : Int → Int) (xs : List Int) (a b j : Nat) : Prop := j = b ∨ ¬ key (xs.getD a 0) < key (xs.getD j 0)
def PLd (key : Int → Int) (xs : List Int) (a m i : Nat) : Prop := i = a ∨ ¬ key (xs.getD (i - 1) 0) < key (xs.getD m 0)
def PRd (key : Int → Int) (xs : List Int) (m j : Nat) : Prop := j = m ∨ key (xs.getD j 0) < key (xs.getD m 0)
def PLg (key : Int → Int) (xs : List Int) (s0 q s : Nat) : Prop := s = s0 ∨ ¬ key (xs.getD (s - 1) 0) < key (xs.getD (q - 1 - (s - 1)) 0)
def PRg (key : Int → Int) (xs : List Int) (r0 q r : Nat) : Prop := r = r0 ∨ key (xs.getD r 0) < key (xs.getD (q - 1 - r) 0)
def KLt (a b : Int) : Prop := a < b
def KGe (a b : Int) : Prop := ¬ a < b
theorem mem_rot {xs : List Int} {a m b : Nat} {x : Int} (h1 : a ≤ m) (h2 : m ≤ b) (h : x ∈ rot xs a m b) : x ∈ xs := by
  unfold rot at h
  have sm : ∀ {i j : Nat}, x ∈ seg xs i j → x ∈ xs := fun q => by obtain ⟨t, t1, t2, t3, rfl⟩ := mem_seg q; exact getD_in t3
  rcases List.mem_append.1 h with q | q
  · exact List.mem_of_mem_take q
  · rcases List.mem_append.1 q with q | q
    · exact sm q
    · rcases List.mem_append.1 q with q | q
      · exact sm q
      · exact List.mem_of_mem_drop q
theorem Merged.all {key : Int → Int} {xs ys : List Int} {a b : Nat} {G : Int → Prop} (h : Merged key xs ys a b) (hG : ∀ x ∈ xs, G x) : ∀ x ∈ ys, G x := fun x hx => by
  obtain ⟨t, ht, rfl⟩ := List.mem_iff_getElem.1 hx
  have := hG _ (h.mem ht)
  rwa [show ys.getD t 0 = ys[t] by simp [List.getD, ht]] at this
set_option maxRecDepth 100000 in
set_option maxHeartbeats 12800000 in
theorem symMerge_up {A : Option Addr} {lo hi n c a m b : Nat} {xs : List Int} {K : FuncId} {caps : Array Value} {key : Int → Int} {cv : Int → Int → Int} {G : Int → Prop} {w : World} (h : Mine w lo hi A n xs) (hl : Ready key xs a m b) (he : m = a + 1) (hbn : b ≤ n) (hK : ∀ (args : Array Value) (w : World), (callFunc K args).run Try.prog w = .ok (.enter K args) w) (hc : CmpAt K caps key cv G lo hi w) (hG : ∀ x ∈ xs, G x) :
    Calls Try.prog 148 #[.slice A n c, .int .i64 (a : Int), .int .i64 (m : Int), .int .i64 (b : Int), .func (.func K) #[] caps] w fun e w' => e = .returned (.tuple #[]) ∧ ∃ ys, Mine w' lo hi A n ys ∧ Hid (Merged key xs ys a b) ∧ Fr lo hi w w' := by
  have hn := h.1.le
  have HL := hid h.1.1
  have HC := hid hc
  have HG := hid hG
  have HK := hid hK
  have hm1 := hl.mb
  have HR := hid hl
  clear hc hG hK hl
  subst he
  have t1 : (((a : Int) + 1 - (a : Int)) == 1) = true := by rw [beq_iff_eq]; omega
  go_enter Try.func148, Try.ntmps148
  go_wp2_with fail
  go_loopw [10, 11] (fun vi vj wr => Srch w wr lo hi A n xs (PLu key xs a) (PRu key xs a b) (a + 1) b vi vj) (fun vi vj _ => (intOf vj).toNat - (intOf vi).toNat)
  case atStart => exact srch_mk (a + 1) b (Nat.le_refl _) (by omega) (Nat.le_refl _) (by go_num) rfl (hid (show PLu key xs a _ from .inl rfl)) (hid (show PRu key xs a b _ from .inl rfl)) h (Fr.refl _ _ _)
  case round =>
    obtain ⟨⟨i, j, i1, i2, i3, rfl, rfl, HI, HJ, hm, hf⟩⟩ := hrel
    by_cases hlt : i < j
    · have q1 : (i : Int) < (j : Int) := by omega
      obtain ⟨z, hz⟩ : ∃ z : Nat, ((i : Int) + (j : Int)) / 2 = (z : Int) := ⟨(i + j) / 2, by omega⟩
      have z1 : i ≤ z := by omega
      have z2 : z < j := by omega
      have z3 : (z : Int) < (n : Int) := by omega
      have z4 : (a : Int) < (n : Int) := by omega
      obtain ⟨bb, off, x, rfl, hlo, hhi, hcx, hx⟩ := hm.1.at_ (k := z) (by omega)
      obtain ⟨bb', off', y, e', _, _, hcy, hy⟩ := hm.1.at_ (k := a) (by omega)
      obtain ⟨rfl, rfl⟩ : bb = bb' ∧ off = off' := by simpa using e'
      have gx : G x := by rw [hx.out]; exact HG.out _ (getD_in (by rw [HL.out]; omega))
      have gy : G y := by rw [hy.out]; exact HG.out _ (getD_in (by rw [HL.out]; omega))
      have hcc := fun m => HC.out.go x y (wr.drewN m) gx gy (hf.drewN m)
      have hkk := HC.out.lt x y gx gy
      have hK := HK.out
      obtain ⟨r, hr⟩ : ∃ r, cv x y = r := ⟨_, rfl⟩
      rw [hr] at hkk
      simp only [hr] at hcc
      clear hr gx gy
      have HKK := hid (show (r < 0 → KLt (key y) (key x)) ∧ (¬ r < 0 → KGe (key y) (key x)) from ⟨hkk.1, fun q e => q (hkk.2 e)⟩)
      have HX := hid hx.out
      have HY := hid hy.out
      have HM := hid hm
      have HF := hid hf
      clear hkk hx hy e' hm hf
      go_wp2_with fail
      go_quiet (first | (go_at_fn K; refine Calls.quiet_of (hcc _)))
      clear hcc
      have M : Mine (wr.drewN nq) lo hi (some ⟨bb, off, none⟩) n xs := HM.out
      have F := HF.out.drewN nq
      by_cases hlv : r < 0
      · have HN := hid (show PLu key xs a (z + 1) from (.inr (by rw [Nat.add_sub_cancel, ← HX.out, ← HY.out]; exact HKK.out.1 (by omega))))
        go_wp2_with fail
        refine ⟨?_, ?measure⟩
        (repeat apply Exists.intro)
        first
        | exact srch_mk (z + 1) j (by omega) (by omega) i3 (by go_num) rfl HN HJ M F
        | exact ⟨srch_mk (z + 1) j (by omega) (by omega) i3 (by go_num) rfl HN HJ M F, rfl⟩
        case measure => simp [intOf] <;> omega
      · have HN := hid (show PRu key xs a b z from (.inr (by rw [← HX.out, ← HY.out]; exact HKK.out.2 (by omega))))
        go_wp2_with fail
        refine ⟨?_, ?measure⟩
        (repeat apply Exists.intro)
        first
        | exact srch_mk i z i1 z1 (by omega) rfl rfl HI HN M F
        | exact ⟨srch_mk i z i1 z1 (by omega) rfl rfl HI HN M F, rfl⟩
        case measure => simp [intOf] <;> omega
    obtain rfl : i = j := by omega
    have q1 : ¬ (i : Int) < (i : Int) := by omega
    obtain ⟨i0, hi0⟩ : ∃ i0 : Nat, (i : Int) - 1 = (i0 : Int) := ⟨i - 1, by omega⟩
    have HE := hid (show Merged key xs (upL xs n a i0) a b by have := merged_up HR.out HL.out i1 i3 HI.out HJ.out; rwa [show i - 1 = i0 by omega] at this)
    clear HI HJ
    go_wp2_with fail
    go_loopw [13] (fun vk wr => ∃ k : Nat, a ≤ k ∧ k ≤ i0 ∧ vk = .int .i64 (k : Int) ∧ Mine wr lo hi A n (upL xs n a k) ∧ Fr lo hi w wr) (fun vk _ => i0 - (intOf vk).toNat)
    case atStart => exact ⟨a, Nat.le_refl _, by omega, rfl, by rw [up_zero HL.out]; exact hm, hf⟩
    clear hm hf
    case round =>
      obtain ⟨k, k1, k2, rfl, hm, hf⟩ := hrel
      by_cases hlt : k < i0
      · have t2 : (k : Int) < (i0 : Int) := by omega
        have t3 : (k : Int) < (n : Int) := by omega
        have t4 : (k : Int) + 1 < (n : Int) := by omega
        have t5 : (0 : Int) ≤ (k : Int) + 1 := by omega
        have t6 : ((k : Int) + 1).toNat = k + 1 := by omega
        obtain ⟨bb, off, x, rfl, hlo, hhi, hcx, hx⟩ := hm.1.at_ (k := k) (by omega)
        obtain ⟨bb', off', y, e', _, _, hcy, hy⟩ := hm.1.at_ (k := k + 1) (by omega)
        obtain ⟨rfl, rfl⟩ : bb = bb' ∧ off = off' := by simpa using e'
        have hnow := up_now (xs := xs) (n := n) (a := a) (k := k) k1 (by omega)
        have hx' : x = xs.getD a 0 := by rw [hx.out, hnow.1]
        have hy' : y = xs.getD (k + 1) 0 := by rw [hy.out, hnow.2]
        have fx := hm.2 bb off rfl k (by omega)
        have fy := hm.2 bb off rfl (k + 1) (by omega)
        obtain ⟨m1, f1⟩ := hm.set_ (k := k) (by omega) y
        obtain ⟨m2, f2⟩ := m1.set_ (k := k + 1) (by omega) x
        rw [hx', hy', up_step k1 (by omega), ← hx', ← hy'] at m2
        have M := hid m2
        have F := hid ((hf.trans f1).trans f2)
        clear m1 m2 f1 f2 hx hy hx' hy' hm hf e' hnow
        go_wp2_with fail
        go_region
        all_goals
          go_wp2_with fail
          go_roundw
          case rel => exact ⟨k + 1, by omega, by omega, by go_num, M.out.drew, fr_drew1 F.out⟩
          case measure => simp [intOf] <;> omega
      · obtain rfl : k = i0 := by omega
        go_wp2_with fail
        first
        | exact bodyPost_end (v := .tuple #[]) (by simp [results, Try.results148, go_sem]) rfl ⟨rfl, _, hm, HE, hf⟩
        | exact bodyPost_ret (v := .tuple #[]) (by simp [results, Try.results148, go_sem]) rfl ⟨rfl, _, hm, HE, hf⟩

end Go.Proofs.Ytikmgohjgdojdaa
