/- Stable sorting of numbers by a comparison: the walks of the library's helpers. -/
import Derived.Test.YtikmgohjgdojdaaStL
import Derived.Test.YtikmgohjgdojdaaKA
import Derived.Deep.RegionLaw
import Derived.Shelf.Abstract
namespace Go.Proofs.Ytikmgohjgdojdaa
open Go.RowKit
set_option linter.unusedVariables false
set_option linter.unusedSimpArgs false
/-- What a comparison answers: below 0 just where the second key is the smaller one. -/
structure CmpAt (K : FuncId) (caps : Array Value) (key : Int → Int) (cv : Int → Int → Int) (G : Int → Prop) (lo hi : Nat) (w : World) : Prop where
  lt : ∀ x y, G x → G y → (cv x y < 0 ↔ key y < key x)
  go : ∀ (x y : Int) (w' : World), G x → G y → Fr lo hi w w' → Calls Try.prog K (#[.int .i64 x, .int .i64 y] ++ caps) w' fun e w'' => e = .returned (.int .i64 (cv x y)) ∧ ∃ m, w'' = w'.drewN m
theorem CmpAt.fr {K : FuncId} {caps : Array Value} {key : Int → Int} {cv : Int → Int → Int} {G : Int → Prop} {lo hi : Nat} {w w' : World} (h : CmpAt K caps key cv G lo hi w) (f : Fr lo hi w w') : CmpAt K caps key cv G lo hi w' :=
  ⟨h.lt, fun x y w2 h1 h2 f2 => h.go x y w2 h1 h2 (f.trans f2)⟩
theorem getD_in {xs : List Int} {t : Nat} (h : t < xs.length) : xs.getD t 0 ∈ xs := by
  have e : xs.getD t 0 = xs[t] := by simp [List.getD, h]
  rw [e]; exact List.getElem_mem h
theorem Merged.mem {key : Int → Int} {xs ys : List Int} {a b t : Nat} (h : Merged key xs ys a b) (ht : t < ys.length) : ys.getD t 0 ∈ xs := by
  obtain ⟨Z, rfl, hp, _⟩ := h
  rcases List.mem_append.1 (getD_in ht) with q | q
  · exact List.mem_of_mem_take q
  · rcases List.mem_append.1 q with q | q
    · obtain ⟨u, u1, u2, u3, e⟩ := mem_seg (hp.mem_iff.1 q)
      rw [e]; exact getD_in u3
    · exact List.mem_of_mem_drop q
theorem fr_drew1 {lo hi : Nat} {a w : World} (h : Fr lo hi a w) : Fr lo hi a w.drew := ⟨h.os, h.tape, h.output, h.size, h.block⟩
set_option maxRecDepth 100000 in
set_option maxHeartbeats 3200000 in
theorem swapRange_any {A : Option Addr} {lo hi n c a b m : Nat} {xs : List Int} {K : FuncId} {caps : Array Value} {w : World} (h : Mine w lo hi A n xs) (h1 : a + m ≤ b) (h2 : b + m ≤ n) :
    Calls Try.prog 170 #[.slice A n c, .int .i64 (a : Int), .int .i64 (b : Int), .int .i64 (m : Int), .func (.func K) #[] caps] w fun e w' => e = .returned (.tuple #[]) ∧ Mine w' lo hi A n (swp xs n a b m) ∧ Fr lo hi w w' := by
  have hn := h.1.le
  have HL := hid h.1.1
  have H0 := hid (swp_zero (a := a) (b := b) h.1.1)
  go_enter Try.func170, Try.ntmps170
  go_wp2_with fail
  go_loopw [10] (fun i wr => ∃ k : Nat, k ≤ m ∧ i = .int .i64 k ∧ Mine wr lo hi A n (swp xs n a b k) ∧ Fr lo hi w wr) (fun i _ => m - (intOf i).toNat)
  case atStart => exact ⟨0, Nat.zero_le _, rfl, by rw [H0.out]; exact h, Fr.refl _ _ _⟩
  case round =>
    obtain ⟨k, hk, rfl, hm, hf⟩ := hrel
    by_cases hlt : k < m
    · have hi1 : (k : Int) < (m : Int) := by omega
      obtain ⟨bb, off, x, rfl, hlo, hhi, hcx, hx⟩ := hm.1.at_ (k := a + k) (by omega)
      obtain ⟨bb', off', y, e', _, _, hcy, hy⟩ := hm.1.at_ (k := b + k) (by omega)
      obtain ⟨rfl, rfl⟩ : bb = bb' ∧ off = off' := by simpa using e'
      have fx := hm.2 bb off rfl (a + k) (by omega)
      have fy := hm.2 bb off rfl (b + k) (by omega)
      have hnow := swp_now (xs := xs) (n := n) (a := a) (b := b) (k := k) (by omega) (by omega)
      have hx' : x = xs.getD (a + k) 0 := by rw [hx.out, hnow.1]
      have hy' : y = xs.getD (b + k) 0 := by rw [hy.out, hnow.2]
      obtain ⟨m1, f1⟩ := hm.set_ (k := a + k) (by omega) y
      obtain ⟨m2, f2⟩ := m1.set_ (k := b + k) (by omega) x
      rw [hx', hy', swp_step (by omega) (by omega), ← hx', ← hy'] at m2
      have M := hid m2
      have F := hid ((hf.trans f1).trans f2)
      clear m1 m2 f1 f2 hx hy hx' hy' hm hf e' hnow
      obtain ⟨s, hs⟩ : ∃ s : Nat, s = a + k := ⟨_, rfl⟩
      obtain ⟨u, hu⟩ : ∃ u : Nat, u = b + k := ⟨_, rfl⟩
      rw [← hs, ← hu] at M F
      rw [← hs] at hcx fx
      rw [← hu] at hcy fy
      have ea : (a : Int) + (k : Int) = (s : Int) := by omega
      have eb : (b : Int) + (k : Int) = (u : Int) := by omega
      have ls : (s : Int) < (n : Int) := by omega
      have lu : (u : Int) < (n : Int) := by omega
      have HS := hid hs
      have HU := hid hu
      have hsn : s ≤ 67108864 := by omega
      have hun : u ≤ 67108864 := by omega
      clear hs hu
      go_wp2_with fail
      go_region
      all_goals
        go_wp2_with fail
        go_roundw
        case rel => exact ⟨k + 1, by omega, by go_num, M.out.drew, fr_drew1 F.out⟩
        case measure => simp [intOf] <;> omega
    · obtain rfl : k = m := by omega
      go_wp2_with fail
      exact bodyPost_end (v := .tuple #[]) (by simp [results, Try.results170, go_sem]) rfl ⟨rfl, hm, hf⟩
set_option maxRecDepth 100000 in
set_option maxHeartbeats 3200000 in
theorem rotate_any {A : Option Addr} {lo hi n c a m b : Nat} {xs : List Int} {K : FuncId} {caps : Array Value} {w : World} (h : Mine w lo hi A n xs) (h1 : a < m) (h2 : m < b) (h3 : b ≤ n) :
    Calls Try.prog 164 #[.slice A n c, .int .i64 (a : Int), .int .i64 (m : Int), .int .i64 (b : Int), .func (.func K) #[] caps] w fun e w' => e = .returned (.tuple #[]) ∧ Mine w' lo hi A n (rot xs a m b) ∧ Fr lo hi w w' := by
  have hn := h.1.le
  have HL := hid h.1.1
  have H0 := hid (rot_start (xs := xs) (a := a) (m := m) (b := b) (by omega) (by omega) (by rw [h.1.1]; exact h3))
  obtain ⟨goal, hG⟩ : ∃ goal, rot xs a m b = goal := ⟨_, rfl⟩
  rw [hG]
  rw [hG] at H0
  clear hG
  obtain ⟨i0, hi0⟩ : ∃ i0 : Nat, (m : Int) - (a : Int) = (i0 : Int) := ⟨m - a, by omega⟩
  obtain ⟨j0, hj0⟩ : ∃ j0 : Nat, (b : Int) - (m : Int) = (j0 : Int) := ⟨b - m, by omega⟩
  have H1 := hid (show RotSt goal xs m i0 j0 by have := H0.out; rwa [show m - a = i0 by omega, show b - m = j0 by omega] at this)
  have p1 : 0 < i0 := by omega
  have p2 : 0 < j0 := by omega
  have p3 : i0 + j0 ≤ n := by omega
  clear H0
  go_enter Try.func164, Try.ntmps164
  go_wp2_with fail
  go_loopw [10, 11] (fun vi vj wr => ∃ (i j : Nat) (ys : List Int), 0 < i ∧ 0 < j ∧ i + j ≤ n ∧ vi = .int .i64 i ∧ vj = .int .i64 j ∧ Hid (RotSt goal ys m i j) ∧ Mine wr lo hi A n ys ∧ Fr lo hi w wr) (fun vi vj _ => (intOf vi).toNat + (intOf vj).toNat)
  case atStart => exact ⟨i0, j0, xs, p1, p2, p3, rfl, rfl, H1, h, Fr.refl _ _ _⟩
  case round =>
    obtain ⟨i, j, ys, q1, q2, q3, rfl, rfl, HR, hm, hf⟩ := hrel
    have HLy := hid hm.1.1
    have hlen := HR.out.len
    rw [HLy.out] at hlen
    obtain ⟨l1, l2⟩ := hlen
    obtain ⟨mi, hmi⟩ : ∃ mi : Nat, (m : Int) - (i : Int) = (mi : Int) := ⟨m - i, by omega⟩
    rcases Nat.lt_trichotomy j i with hlt | rfl | hlt
    · have t1 : ((i : Int) == (j : Int)) = false := by rw [beq_eq_false_iff_ne]; omega
      have t2 : ((i : Int) != (j : Int)) = true := by rw [bne, t1]; rfl
      have t3 : (j : Int) < (i : Int) := by omega
      obtain ⟨ij, hij⟩ : ∃ ij : Nat, (i : Int) - (j : Int) = (ij : Int) := ⟨i - j, by omega⟩
      have HN := hid (rot_more HR.out HLy.out hlt)
      rw [show m - i = mi by omega, show i - j = ij by omega] at HN
      go_wp2_with fail
      refine (swapRange_any (a := mi) (b := m) (m := j) hm (by omega) (by omega)).mono ?_
      rintro e w1 ⟨rfl, m1, f1⟩
      clear hm
      go_wp2_with fail
      go_roundw
      case rel => exact ⟨ij, j, _, by omega, by omega, by omega, rfl, rfl, HN, m1, hf.trans f1⟩
      case measure => simp [intOf] <;> omega
    · have t1 : ((j : Int) == (j : Int)) = true := by simp
      have t2 : ((j : Int) != (j : Int)) = false := by rw [bne, t1]; rfl
      have HN := hid (rot_last HR.out HLy.out)
      rw [show m - j = mi by omega] at HN
      go_wp2_with fail
      refine (swapRange_any (a := mi) (b := m) (m := j) hm (by omega) (by omega)).mono ?_
      rintro e w1 ⟨rfl, m1, f1⟩
      clear hm
      rw [HN.out] at m1
      have F9 := hid (hf.trans f1)
      clear hf f1
      go_wp2_with fail
      exact bodyPost_end (v := .tuple #[]) (by simp [results, Try.results164, go_sem]) rfl ⟨rfl, m1, F9.out⟩
    · have t1 : ((i : Int) == (j : Int)) = false := by rw [beq_eq_false_iff_ne]; omega
      have t2 : ((i : Int) != (j : Int)) = true := by rw [bne, t1]; rfl
      have t3 : ¬ (j : Int) < (i : Int) := by omega
      obtain ⟨ji, hji⟩ : ∃ ji : Nat, (j : Int) - (i : Int) = (ji : Int) := ⟨j - i, by omega⟩
      obtain ⟨mj, hmj⟩ : ∃ mj : Nat, (m : Int) + (j : Int) = (mj : Int) := ⟨m + j, by omega⟩
      obtain ⟨mji, hmji⟩ : ∃ mji : Nat, (mj : Int) - (i : Int) = (mji : Int) := ⟨m + j - i, by omega⟩
      have HN := hid (rot_less HR.out HLy.out hlt)
      rw [show m - i = mi by omega, show j - i = ji by omega, show m + j - i = mji by omega] at HN
      go_wp2_with fail
      refine (swapRange_any (a := mi) (b := mji) (m := i) hm (by omega) (by omega)).mono ?_
      rintro e w1 ⟨rfl, m1, f1⟩
      clear hm
      go_wp2_with fail
      go_roundw
      case rel => exact ⟨i, ji, _, by omega, by omega, by omega, rfl, rfl, HN, m1, hf.trans f1⟩
      case measure => simp [intOf] <;> omega
set_option maxRecDepth 100000 in
set_option maxHeartbeats 6400000 in
theorem insertion_any {A : Option Addr} {lo hi n c a b : Nat} {xs : List Int} {K : FuncId} {caps : Array Value} {key : Int → Int} {cv : Int → Int → Int} {G : Int → Prop} {w : World} (h : Mine w lo hi A n xs) (hab : a ≤ b) (hbn : b ≤ n)
    (hK : ∀ (args : Array Value) (w : World), (callFunc K args).run Try.prog w = .ok (.enter K args) w) (hc : CmpAt K caps key cv G lo hi w) (hG : ∀ x ∈ xs, G x) (hinc : ∀ s t, a ≤ s → s < t → t < b → xs.getD s 0 < xs.getD t 0) :
    Calls Try.prog 147 #[.slice A n c, .int .i64 (a : Int), .int .i64 (b : Int), .func (.func K) #[] caps] w fun e w' => e = .returned (.tuple #[]) ∧ ∃ ys, Mine w' lo hi A n ys ∧ Hid (Merged key xs ys a b) ∧ Fr lo hi w w' := by
  have hn := h.1.le
  have HL := hid h.1.1
  have HC := hid hc
  have HG := hid hG
  have HI := hid hinc
  have HK := hid hK
  clear hc hG hinc hK
  go_enter Try.func147, Try.ntmps147
  go_wp2_with fail
  go_loopw [8] (fun vi wr => ∃ (i : Nat) (ys : List Int), a + 1 ≤ i ∧ (i ≤ b ∨ i = a + 1) ∧ vi = .int .i64 (i : Int) ∧ Hid (i ≤ b → Merged key xs ys a i) ∧ Hid (b ≤ a → ys = xs) ∧ Mine wr lo hi A n ys ∧ Fr lo hi w wr) (fun vi _ => b + 1 - (intOf vi).toNat)
  case atStart => exact ⟨a + 1, xs, by omega, by omega, by go_num, hid (fun q => merged_first (by rw [HL.out]; omega)), hid (fun _ => rfl), h, Fr.refl _ _ _⟩
  case round =>
    obtain ⟨i, ys, q1, q2, rfl, HM, HE, hm, hf⟩ := hrel
    by_cases hlt : i < b
    rotate_left
    · have t1 : ¬ (i : Int) < (b : Int) := by omega
      have HF := hid (show Merged key xs ys a b by
        rcases Nat.lt_or_ge a b with q | q
        · have : i = b := by omega
          subst this; exact HM.out (by omega)
        · obtain rfl : a = b := by omega
          rw [HE.out (by omega)]; exact merged_none)
      go_wp2_with fail
      exact bodyPost_end (v := .tuple #[]) (by simp [results, Try.results147, go_sem]) rfl ⟨rfl, ys, hm, HF, hf⟩
    have t1 : (i : Int) < (b : Int) := by omega
    have HM2 := hid (HM.out (by omega))
    have HLy := hid hm.1.1
    clear HM HE
    go_wp2_with fail
    go_loopw [9] (fun vj wr => ∃ j : Nat, a ≤ j ∧ j ≤ i ∧ vj = .int .i64 (j : Int) ∧ Hid (∀ t, j ≤ t → t < i → key (ys.getD t 0) < key (ys.getD i 0)) ∧ Mine wr lo hi A n (dnL ys n i j) ∧ Fr lo hi w wr) (fun vj _ => (intOf vj).toNat)
    case atStart => exact ⟨i, by omega, Nat.le_refl _, rfl, hid (fun t h1 h2 => absurd h1 (by omega)), by rw [dn_zero HLy.out]; exact hm, hf⟩
    clear hm hf
    case round =>
      obtain ⟨j, j1, j2, rfl, HJ, hm, hf⟩ := hrel
      by_cases hja : a < j
      rotate_left
      · obtain rfl : a = j := by omega
        have t2 : ¬ (a : Int) < (a : Int) := by omega
        have HN := hid (merged_in HM2.out HLy.out HL.out (Nat.le_refl _) j2 (by omega) (fun t u1 u2 => HI.out t i u1 u2 (by omega)) HJ.out (.inl rfl))
        go_wp2_with fail
        go_region
        all_goals
        go_wp2_with fail
        go_roundw
        case rel => exact ⟨i + 1, _, by omega, by omega, by go_num, hid (fun _ => HN.out), hid (fun q => absurd q (by omega)), hm.drew, fr_drew1 hf⟩
        case measure => simp [intOf] <;> omega
      obtain ⟨k, rfl⟩ : ∃ k, j = k + 1 := ⟨j - 1, by omega⟩
      have t2 : (a : Int) < (k : Int) + 1 := by omega
      have t3 : (k : Int) < (n : Int) := by omega
      have t4 : (k : Int) + 1 < (n : Int) := by omega
      have t5 : (0 : Int) ≤ (k : Int) + 1 := by omega
      have t6 : ((k : Int) + 1).toNat = k + 1 := by omega
      have t7 : IntKind.i64.wrap (k : Int) = (k : Int) := by rw [IntKind.wrap_i64]; omega
      obtain ⟨bb, off, x, rfl, hlo, hhi, hcx, hx⟩ := hm.1.at_ (k := k + 1) (by omega)
      obtain ⟨bb', off', y, e', _, _, hcy, hy⟩ := hm.1.at_ (k := k) (by omega)
      obtain ⟨rfl, rfl⟩ : bb = bb' ∧ off = off' := by simpa using e'
      have hnow := dn_now (xs := ys) (n := n) (m := i) (k := k) (by omega) (by omega)
      have hx' : x = ys.getD i 0 := by rw [hx.out, hnow.1]
      have hy' : y = ys.getD k 0 := by rw [hy.out, hnow.2]
      have gx : G x := by rw [hx']; exact HG.out _ (HM2.out.mem (by rw [HLy.out]; omega))
      have gy : G y := by rw [hy']; exact HG.out _ (HM2.out.mem (by rw [HLy.out]; omega))
      have hcc := fun m => HC.out.go x y (wr.drewN m) gx gy (hf.drewN m)
      have hkk := HC.out.lt x y gx gy
      have hK := HK.out
      obtain ⟨r, hr⟩ : ∃ r, cv x y = r := ⟨_, rfl⟩
      rw [hr] at hkk
      simp only [hr] at hcc
      clear hr gx gy
      have HKK := hid hkk
      have HX := hid hx'
      have HY := hid hy'
      have HM3 := hid hm
      have HF3 := hid hf
      have fx := hm.2 bb off rfl (k + 1) (by omega)
      have fy := hm.2 bb off rfl k (by omega)
      clear hkk hx' hy' hx hy hnow e' hm hf
      by_cases hlv : r < 0
      · go_wp2_with fail
        go_quiet (first | (go_at_fn K; refine Calls.quiet_of (hcc _)))
        go_wp2_with fail
        clear hcc
        have hm4 := HM3.out
        obtain ⟨m1, f1⟩ := (show Mine (wr.drewN nq) lo hi (some ⟨bb, off, none⟩) n (dnL ys n i (k + 1)) from hm4).set_ (k := k + 1) (by omega) y
        obtain ⟨m2, f2⟩ := m1.set_ (k := k) (by omega) x
        rw [HX.out, HY.out, dn_step (by omega) (by omega), ← HX.out, ← HY.out] at m2
        have M := hid m2
        have F := hid (((HF3.out.drewN nq).trans f1).trans f2)
        have cx2 : (wr.drewN nq).cell? ⟨bb, off + (k + 1), none⟩ = some (.int .i64 x) := hcx
        have cy2 : (wr.drewN nq).cell? ⟨bb, off + k, none⟩ = some (.int .i64 y) := hcy
        have fx2 : (wr.drewN nq).frozen? ⟨bb, off + (k + 1), none⟩ = false := fx
        have fy2 : (wr.drewN nq).frozen? ⟨bb, off + k, none⟩ = false := fy
        have HJ2 := hid (show ∀ t, k ≤ t → t < i → key (ys.getD t 0) < key (ys.getD i 0) from fun t u1 u2 => by
          rcases Nat.lt_or_ge k t with u | u
          · exact HJ.out t u u2
          · obtain rfl : t = k := by omega
            rw [← HX.out, ← HY.out]; exact HKK.out.1 hlv)
        clear m1 m2 f1 f2 hm4 hcx hcy fx fy HM3 HF3 HJ HKK
        generalize wr.drewN nq = wq at cx2 cy2 fx2 fy2 M F ⊢
        go_region
        all_goals
          go_wp2_with fail
          go_roundw
          case rel => exact ⟨k, by omega, by omega, by go_num, HJ2, M.out.drew, fr_drew1 F.out⟩
          case measure => simp [intOf] <;> omega
      · have HN := hid (merged_in HM2.out HLy.out HL.out (by omega) j2 (by omega) (fun t u1 u2 => HI.out t i u1 u2 (by omega)) HJ.out (.inr (by rw [Nat.add_sub_cancel, ← HX.out, ← HY.out]; exact fun e => hlv (HKK.out.2 e))))
        go_wp2_with fail
        go_quiet (first | (go_at_fn K; refine Calls.quiet_of (hcc _)))
        go_wp2_with fail
        clear hcc
        have M : Mine (wr.drewN nq) lo hi (some ⟨bb, off, none⟩) n (dnL ys n i (k + 1)) := HM3.out
        have F := HF3.out.drewN nq
        go_roundw
        case rel => exact ⟨i + 1, _, by omega, by omega, by go_num, hid (fun _ => HN.out), hid (fun q => absurd q (by omega)), M, F⟩
        case measure => simp [intOf] <;> omega
end Go.Proofs.Ytikmgohjgdojdaa
