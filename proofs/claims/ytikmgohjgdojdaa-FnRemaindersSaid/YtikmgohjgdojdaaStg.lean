/- Merging: with the smaller merges at hand. -/
import Derived.Test.YtikmgohjgdojdaaStm
namespace Go.Proofs.Ytikmgohjgdojdaa
open Go.RowKit
set_option linter.unusedVariables false
set_option linter.unusedSimpArgs false
set_option maxRecDepth 100000 in
set_option maxHeartbeats 25600000 in
theorem symMerge_go {A : Option Addr} {lo hi n c a m b : Nat} {xs : List Int} {K : FuncId} {caps : Array Value} {key : Int → Int} {cv : Int → Int → Int} {G : Int → Prop} {w : World} (h : Mine w lo hi A n xs) (hl : Ready key xs a m b) (hne : m ≠ a + 1) (hnb : b ≠ m + 1) (hbn : b ≤ n) (hK : ∀ (args : Array Value) (w : World), (callFunc K args).run Try.prog w = .ok (.enter K args) w) (hc : CmpAt K caps key cv G lo hi w) (hG : ∀ x ∈ xs, G x)
    (ih : ∀ (a' m' b' : Nat) (ys : List Int) (w' : World), b' - a' < b - a → Mine w' lo hi A n ys → Ready key ys a' m' b' → b' ≤ n → CmpAt K caps key cv G lo hi w' → (∀ x ∈ ys, G x) → Calls Try.prog 148 #[.slice A n c, .int .i64 (a' : Int), .int .i64 (m' : Int), .int .i64 (b' : Int), .func (.func K) #[] caps] w' fun e w'' => e = .returned (.tuple #[]) ∧ ∃ zs, Mine w'' lo hi A n zs ∧ Hid (Merged key ys zs a' b') ∧ Fr lo hi w' w'') :
    Calls Try.prog 148 #[.slice A n c, .int .i64 (a : Int), .int .i64 (m : Int), .int .i64 (b : Int), .func (.func K) #[] caps] w fun e w' => e = .returned (.tuple #[]) ∧ ∃ ys, Mine w' lo hi A n ys ∧ Hid (Merged key xs ys a b) ∧ Fr lo hi w w' := by
  have hn := h.1.le
  have HL := hid h.1.1
  have HC := hid hc
  have HG := hid hG
  have HK := hid hK
  have IH := hid ih
  have hm1 := hl.am
  have hm2 := hl.mb
  have HR := hid hl
  clear hc hG hK hl ih
  have t0 : ((m : Int) - (a : Int) == 1) = false := by rw [beq_eq_false_iff_ne]; omega
  have t1 : ((b : Int) - (m : Int) == 1) = false := by rw [beq_eq_false_iff_ne]; omega
  obtain ⟨mid, hmid⟩ : ∃ mid : Nat, ((a : Int) + (b : Int)) / 2 = (mid : Int) := ⟨(a + b) / 2, by omega⟩
  have HMID := hid (show mid = (a + b) / 2 by omega)
  have mid1 : a < mid := by omega
  have mid2 : mid < b := by omega
  obtain ⟨nn, hnn⟩ : ∃ nn : Nat, (mid : Int) + (m : Int) = (nn : Int) := ⟨mid + m, by omega⟩
  obtain ⟨pp, hpp⟩ : ∃ pp : Nat, (nn : Int) - 1 = (pp : Int) := ⟨nn - 1, by omega⟩
  obtain ⟨s0, hs0⟩ : ∃ s0, s0 = if mid < m then mid + m - b else a := ⟨_, rfl⟩
  obtain ⟨r0, hr0⟩ : ∃ r0, r0 = if mid < m then mid else m := ⟨_, rfl⟩
  have HS0 := hid hs0
  have HR0 := hid hr0
  have s1 : s0 ≤ r0 := by split at hs0 <;> split at hr0 <;> omega
  have s2 : r0 ≤ m := by split at hr0 <;> omega
  have s3 : r0 ≤ mid := by split at hr0 <;> omega
  have s4 : a ≤ s0 := by split at hs0 <;> omega
  have s5 : mid + m ≤ s0 + b := by split at hs0 <;> omega
  have HA := hid (show (mid < m → (nn : Int) - (b : Int) = (s0 : Int) ∧ r0 = mid) ∧ (¬ mid < m → s0 = a ∧ r0 = m) by
    constructor
    · intro q; rw [if_pos q] at hs0 hr0; omega
    · intro q; rw [if_neg q] at hs0 hr0; omega)
  clear hs0 hr0
  by_cases hcase : mid < m
  · skip
    obtain ⟨c1, c0⟩ := HA.out.1 hcase
    have c2 : (mid : Int) < (m : Int) := by omega
    clear HA
    replace c0 := c0.symm
    subst c0
    go_enter Try.func148, Try.ntmps148
    go_wp2_with fail
    go_loopw [20, 21] (fun vi vj wr => Srch w wr lo hi A n xs (PLg key xs s0 (mid + m)) (PRg key xs mid (mid + m)) s0 mid vi vj) (fun vi vj _ => (intOf vj).toNat - (intOf vi).toNat)
    case atStart => exact srch_mk s0 mid (Nat.le_refl _) (by omega) (Nat.le_refl _) rfl rfl (hid (show PLg key xs s0 (mid + m) _ from .inl rfl)) (hid (show PRg key xs mid (mid + m) _ from .inl rfl)) h (Fr.refl _ _ _)
    case round =>
      obtain ⟨⟨i, j, i1, i2, i3, rfl, rfl, HI, HJ, hm, hf⟩⟩ := hrel
      by_cases hlt : i < j
      · have q1 : (i : Int) < (j : Int) := by omega
        obtain ⟨z, hz⟩ : ∃ z : Nat, ((i : Int) + (j : Int)) / 2 = (z : Int) := ⟨(i + j) / 2, by omega⟩
        have z1 : i ≤ z := by omega
        have z2 : z < j := by omega
        have z3 : (z : Int) < (n : Int) := by omega
        obtain ⟨u, hu⟩ : ∃ u : Nat, (pp : Int) - (z : Int) = (u : Int) := ⟨pp - z, by omega⟩
        have HU := hid (show u = mid + m - 1 - z by omega)
        have z4 : (u : Int) < (n : Int) := by omega
        obtain ⟨bb, off, x, rfl, hlo, hhi, hcx, hx⟩ := hm.1.at_ (k := u) (by omega)
        obtain ⟨bb', off', y, e', _, _, hcy, hy⟩ := hm.1.at_ (k := z) (by omega)
        obtain ⟨rfl, rfl⟩ : bb = bb' ∧ off = off' := by simpa using e'
        have gx : G x := by rw [hx.out]; exact HG.out _ (getD_in (by rw [HL.out]; omega))
        have gy : G y := by rw [hy.out]; exact HG.out _ (getD_in (by rw [HL.out]; omega))
        have hcc := fun m => HC.out.go x y (wr.drewN m) gx gy (hf.drewN m)
        have hkk := HC.out.lt x y gx gy
        have hK := HK.out
        obtain ⟨r, hr⟩ : ∃ r, cv x y = r := ⟨_, rfl⟩
        rw [hr] at hkk
        simp only [hr] at hcc
        clear hr gx gy
        have HKK := hid (show (r < 0 → KLt (key y) (key x)) ∧ (¬ r < 0 → KGe (key y) (key x)) from ⟨hkk.1, fun q e => q (hkk.2 e)⟩)
        have HX := hid hx.out
        have HY := hid hy.out
        have HM := hid hm
        have HF := hid hf
        clear hkk hx hy e' hm hf
        go_wp2_with fail
        go_quiet (first | (go_at_fn K; refine Calls.quiet_of (hcc _)))
        clear hcc
        have M : Mine (wr.drewN nq) lo hi (some ⟨bb, off, none⟩) n xs := HM.out
        have F := HF.out.drewN nq
        by_cases hlv : r < 0
        · have hkl := hid (HKK.out.1 (by omega))
          have hlv2 : ¬ 0 ≤ r := by omega
          have hlv3 : decide (r < 0) = true := decide_eq_true hlv
          have hlv4 : (!decide (r < 0)) = false := by rw [hlv3]; rfl
          rw [HX.out, HY.out] at hkl
          rw [HU.out] at hkl
          have HN := hid (show PRg key xs mid (mid + m) z from (.inr hkl.out))
          go_wp2_with fail
          all_goals first | (exfalso; omega) | (exfalso; exact Bool.noConfusion (hlv4.symm.trans (by assumption : (!decide (r < 0)) = true))) | skip
          refine ⟨?_, ?measure⟩
          (repeat apply Exists.intro)
          first
          | exact srch_mk i z i1 z1 (by omega) rfl rfl HI HN M F
          | exact ⟨srch_mk i z i1 z1 (by omega) rfl rfl HI HN M F, rfl⟩
          case measure => simp [intOf] <;> omega
        · have hkl := hid (HKK.out.2 (by omega))
          have hlv2 : 0 ≤ r := by omega
          have hlv3 : decide (r < 0) = false := decide_eq_false hlv
          have hlv4 : (!decide (r < 0)) = true := by rw [hlv3]; rfl
          rw [HX.out, HY.out] at hkl
          rw [HU.out] at hkl
          have HN := hid (show PLg key xs s0 (mid + m) (z + 1) from (.inr hkl.out))
          go_wp2_with fail
          all_goals first | (exfalso; omega) | (exfalso; exact Bool.noConfusion (hlv4.symm.trans (by assumption : (!decide (r < 0)) = false))) | skip
          refine ⟨?_, ?measure⟩
          (repeat apply Exists.intro)
          first
          | exact srch_mk (z + 1) j (by omega) (by omega) i3 (by go_num) rfl HN HJ M F
          | exact ⟨srch_mk (z + 1) j (by omega) (by omega) i3 (by go_num) rfl HN HJ M F, rfl⟩
          case measure => simp [intOf] <;> omega
      obtain rfl : i = j := by omega
      have q1 : ¬ (i : Int) < (i : Int) := by omega
      obtain ⟨hq, hcut⟩ := cut_of HR.out HMID.out HS0.out HR0.out i1 i3 HI.out HJ.out
      obtain ⟨e, he⟩ : ∃ e : Nat, (nn : Int) - (i : Int) = (e : Int) := ⟨nn - i, by omega⟩
      rw [show mid + m - i = e by omega] at hq hcut
      obtain ⟨v1, v2, v3, v4⟩ := hq
      have w1 := hcut.h2
      have w2 := hcut.h3
      have CU := hid hcut
      clear hcut HI HJ
      by_cases k11 : i < m
      rotate_left
      · have k1n1 : ¬ (i : Int) < (m : Int) := by omega
        have HT := hid (rot_triv (xs := xs) (s := i) (m := m) (e := e) (by omega) (by omega) (by omega))
        rw [← HT.out] at hm
        have HG1 := hid (show ∀ x ∈ rot xs i m e, G x by rw [HT.out]; exact HG.out)
        clear HT
        by_cases k21 : a < i
        rotate_left
        · have k2n1 : ¬ (a : Int) < (i : Int) := by omega
          have HM2 := hid (CU.out.left0 (by omega))
          have HG2 := HG1
          by_cases k31 : mid < e
          rotate_left
          · have k3n1 : ¬ (mid : Int) < (e : Int) := by omega
            have HF := hid (CU.out.done HM2.out (CU.out.right0 HM2.out (by omega)))
            go_wp2_with fail
            first
            | exact bodyPost_end (v := .tuple #[]) (by simp [results, Try.results148, go_sem]) rfl ⟨rfl, _, hm, HF, hf⟩
            | exact bodyPost_ret (v := .tuple #[]) (by simp [results, Try.results148, go_sem]) rfl ⟨rfl, _, hm, HF, hf⟩
          have k3p1 : (mid : Int) < (e : Int) := by omega
          by_cases k32 : e < b
          rotate_left
          · have k3n2 : ¬ (e : Int) < (b : Int) := by omega
            have HF := hid (CU.out.done HM2.out (CU.out.right0 HM2.out (by omega)))
            go_wp2_with fail
            first
            | exact bodyPost_end (v := .tuple #[]) (by simp [results, Try.results148, go_sem]) rfl ⟨rfl, _, hm, HF, hf⟩
            | exact bodyPost_ret (v := .tuple #[]) (by simp [results, Try.results148, go_sem]) rfl ⟨rfl, _, hm, HF, hf⟩
          have k3p2 : (e : Int) < (b : Int) := by omega
          go_wp2_with fail
          refine (IH.out mid e b _ _ (by omega) hm (CU.out.right HM2.out ⟨by omega, by omega⟩) hbn (HC.out.fr hf) HG2.out).mono ?_
          rintro _ w9 ⟨rfl, us, m9, HM9, f9⟩
          have HF := hid (CU.out.done HM2.out HM9.out)
          have F9 := hid (hf.trans f9)
          clear hm hf f9
          go_wp2_with fail
          first
          | exact bodyPost_end (v := .tuple #[]) (by simp [results, Try.results148, go_sem]) rfl ⟨rfl, _, m9, HF, F9.out⟩
          | exact bodyPost_ret (v := .tuple #[]) (by simp [results, Try.results148, go_sem]) rfl ⟨rfl, _, m9, HF, F9.out⟩
        have k2p1 : (a : Int) < (i : Int) := by omega
        by_cases k22 : i < mid
        rotate_left
        · have k2n2 : ¬ (i : Int) < (mid : Int) := by omega
          have HM2 := hid (CU.out.left0 (by omega))
          have HG2 := HG1
          by_cases k31 : mid < e
          rotate_left
          · have k3n1 : ¬ (mid : Int) < (e : Int) := by omega
            have HF := hid (CU.out.done HM2.out (CU.out.right0 HM2.out (by omega)))
            go_wp2_with fail
            first
            | exact bodyPost_end (v := .tuple #[]) (by simp [results, Try.results148, go_sem]) rfl ⟨rfl, _, hm, HF, hf⟩
            | exact bodyPost_ret (v := .tuple #[]) (by simp [results, Try.results148, go_sem]) rfl ⟨rfl, _, hm, HF, hf⟩
          have k3p1 : (mid : Int) < (e : Int) := by omega
          by_cases k32 : e < b
          rotate_left
          · have k3n2 : ¬ (e : Int) < (b : Int) := by omega
            have HF := hid (CU.out.done HM2.out (CU.out.right0 HM2.out (by omega)))
            go_wp2_with fail
            first
            | exact bodyPost_end (v := .tuple #[]) (by simp [results, Try.results148, go_sem]) rfl ⟨rfl, _, hm, HF, hf⟩
            | exact bodyPost_ret (v := .tuple #[]) (by simp [results, Try.results148, go_sem]) rfl ⟨rfl, _, hm, HF, hf⟩
          have k3p2 : (e : Int) < (b : Int) := by omega
          go_wp2_with fail
          refine (IH.out mid e b _ _ (by omega) hm (CU.out.right HM2.out ⟨by omega, by omega⟩) hbn (HC.out.fr hf) HG2.out).mono ?_
          rintro _ w9 ⟨rfl, us, m9, HM9, f9⟩
          have HF := hid (CU.out.done HM2.out HM9.out)
          have F9 := hid (hf.trans f9)
          clear hm hf f9
          go_wp2_with fail
          first
          | exact bodyPost_end (v := .tuple #[]) (by simp [results, Try.results148, go_sem]) rfl ⟨rfl, _, m9, HF, F9.out⟩
          | exact bodyPost_ret (v := .tuple #[]) (by simp [results, Try.results148, go_sem]) rfl ⟨rfl, _, m9, HF, F9.out⟩
        have k2p2 : (i : Int) < (mid : Int) := by omega
        go_wp2_with fail
        refine (IH.out a i mid _ _ (by omega) hm (CU.out.left ⟨by omega, by omega⟩) (by omega) (HC.out.fr hf) HG1.out).mono ?_
        rintro _ w8 ⟨rfl, ys, m8, HM2, f8⟩
        have HG2 := hid (HM2.out.all HG1.out)
        replace hf := hf.trans f8
        clear hm f8
        have hm := m8
        clear m8
        by_cases k31 : mid < e
        rotate_left
        · have k3n1 : ¬ (mid : Int) < (e : Int) := by omega
          have HF := hid (CU.out.done HM2.out (CU.out.right0 HM2.out (by omega)))
          go_wp2_with fail
          first
          | exact bodyPost_end (v := .tuple #[]) (by simp [results, Try.results148, go_sem]) rfl ⟨rfl, _, hm, HF, hf⟩
          | exact bodyPost_ret (v := .tuple #[]) (by simp [results, Try.results148, go_sem]) rfl ⟨rfl, _, hm, HF, hf⟩
        have k3p1 : (mid : Int) < (e : Int) := by omega
        by_cases k32 : e < b
        rotate_left
        · have k3n2 : ¬ (e : Int) < (b : Int) := by omega
          have HF := hid (CU.out.done HM2.out (CU.out.right0 HM2.out (by omega)))
          go_wp2_with fail
          first
          | exact bodyPost_end (v := .tuple #[]) (by simp [results, Try.results148, go_sem]) rfl ⟨rfl, _, hm, HF, hf⟩
          | exact bodyPost_ret (v := .tuple #[]) (by simp [results, Try.results148, go_sem]) rfl ⟨rfl, _, hm, HF, hf⟩
        have k3p2 : (e : Int) < (b : Int) := by omega
        go_wp2_with fail
        refine (IH.out mid e b _ _ (by omega) hm (CU.out.right HM2.out ⟨by omega, by omega⟩) hbn (HC.out.fr hf) HG2.out).mono ?_
        rintro _ w9 ⟨rfl, us, m9, HM9, f9⟩
        have HF := hid (CU.out.done HM2.out HM9.out)
        have F9 := hid (hf.trans f9)
        clear hm hf f9
        go_wp2_with fail
        first
        | exact bodyPost_end (v := .tuple #[]) (by simp [results, Try.results148, go_sem]) rfl ⟨rfl, _, m9, HF, F9.out⟩
        | exact bodyPost_ret (v := .tuple #[]) (by simp [results, Try.results148, go_sem]) rfl ⟨rfl, _, m9, HF, F9.out⟩
      have k1p1 : (i : Int) < (m : Int) := by omega
      by_cases k12 : m < e
      rotate_left
      · have k1n2 : ¬ (m : Int) < (e : Int) := by omega
        have HT := hid (rot_triv (xs := xs) (s := i) (m := m) (e := e) (by omega) (by omega) (by omega))
        rw [← HT.out] at hm
        have HG1 := hid (show ∀ x ∈ rot xs i m e, G x by rw [HT.out]; exact HG.out)
        clear HT
        by_cases k21 : a < i
        rotate_left
        · have k2n1 : ¬ (a : Int) < (i : Int) := by omega
          have HM2 := hid (CU.out.left0 (by omega))
          have HG2 := HG1
          by_cases k31 : mid < e
          rotate_left
          · have k3n1 : ¬ (mid : Int) < (e : Int) := by omega
            have HF := hid (CU.out.done HM2.out (CU.out.right0 HM2.out (by omega)))
            go_wp2_with fail
            first
            | exact bodyPost_end (v := .tuple #[]) (by simp [results, Try.results148, go_sem]) rfl ⟨rfl, _, hm, HF, hf⟩
            | exact bodyPost_ret (v := .tuple #[]) (by simp [results, Try.results148, go_sem]) rfl ⟨rfl, _, hm, HF, hf⟩
          have k3p1 : (mid : Int) < (e : Int) := by omega
          by_cases k32 : e < b
          rotate_left
          · have k3n2 : ¬ (e : Int) < (b : Int) := by omega
            have HF := hid (CU.out.done HM2.out (CU.out.right0 HM2.out (by omega)))
            go_wp2_with fail
            first
            | exact bodyPost_end (v := .tuple #[]) (by simp [results, Try.results148, go_sem]) rfl ⟨rfl, _, hm, HF, hf⟩
            | exact bodyPost_ret (v := .tuple #[]) (by simp [results, Try.results148, go_sem]) rfl ⟨rfl, _, hm, HF, hf⟩
          have k3p2 : (e : Int) < (b : Int) := by omega
          go_wp2_with fail
          refine (IH.out mid e b _ _ (by omega) hm (CU.out.right HM2.out ⟨by omega, by omega⟩) hbn (HC.out.fr hf) HG2.out).mono ?_
          rintro _ w9 ⟨rfl, us, m9, HM9, f9⟩
          have HF := hid (CU.out.done HM2.out HM9.out)
          have F9 := hid (hf.trans f9)
          clear hm hf f9
          go_wp2_with fail
          first
          | exact bodyPost_end (v := .tuple #[]) (by simp [results, Try.results148, go_sem]) rfl ⟨rfl, _, m9, HF, F9.out⟩
          | exact bodyPost_ret (v := .tuple #[]) (by simp [results, Try.results148, go_sem]) rfl ⟨rfl, _, m9, HF, F9.out⟩
        have k2p1 : (a : Int) < (i : Int) := by omega
        by_cases k22 : i < mid
        rotate_left
        · have k2n2 : ¬ (i : Int) < (mid : Int) := by omega
          have HM2 := hid (CU.out.left0 (by omega))
          have HG2 := HG1
          by_cases k31 : mid < e
          rotate_left
          · have k3n1 : ¬ (mid : Int) < (e : Int) := by omega
            have HF := hid (CU.out.done HM2.out (CU.out.right0 HM2.out (by omega)))
            go_wp2_with fail
            first
            | exact bodyPost_end (v := .tuple #[]) (by simp [results, Try.results148, go_sem]) rfl ⟨rfl, _, hm, HF, hf⟩
            | exact bodyPost_ret (v := .tuple #[]) (by simp [results, Try.results148, go_sem]) rfl ⟨rfl, _, hm, HF, hf⟩
          have k3p1 : (mid : Int) < (e : Int) := by omega
          by_cases k32 : e < b
          rotate_left
          · have k3n2 : ¬ (e : Int) < (b : Int) := by omega
            have HF := hid (CU.out.done HM2.out (CU.out.right0 HM2.out (by omega)))
            go_wp2_with fail
            first
            | exact bodyPost_end (v := .tuple #[]) (by simp [results, Try.results148, go_sem]) rfl ⟨rfl, _, hm, HF, hf⟩
            | exact bodyPost_ret (v := .tuple #[]) (by simp [results, Try.results148, go_sem]) rfl ⟨rfl, _, hm, HF, hf⟩
          have k3p2 : (e : Int) < (b : Int) := by omega
          go_wp2_with fail
          refine (IH.out mid e b _ _ (by omega) hm (CU.out.right HM2.out ⟨by omega, by omega⟩) hbn (HC.out.fr hf) HG2.out).mono ?_
          rintro _ w9 ⟨rfl, us, m9, HM9, f9⟩
          have HF := hid (CU.out.done HM2.out HM9.out)
          have F9 := hid (hf.trans f9)
          clear hm hf f9
          go_wp2_with fail
          first
          | exact bodyPost_end (v := .tuple #[]) (by simp [results, Try.results148, go_sem]) rfl ⟨rfl, _, m9, HF, F9.out⟩
          | exact bodyPost_ret (v := .tuple #[]) (by simp [results, Try.results148, go_sem]) rfl ⟨rfl, _, m9, HF, F9.out⟩
        have k2p2 : (i : Int) < (mid : Int) := by omega
        go_wp2_with fail
        refine (IH.out a i mid _ _ (by omega) hm (CU.out.left ⟨by omega, by omega⟩) (by omega) (HC.out.fr hf) HG1.out).mono ?_
        rintro _ w8 ⟨rfl, ys, m8, HM2, f8⟩
        have HG2 := hid (HM2.out.all HG1.out)
        replace hf := hf.trans f8
        clear hm f8
        have hm := m8
        clear m8
        by_cases k31 : mid < e
        rotate_left
        · have k3n1 : ¬ (mid : Int) < (e : Int) := by omega
          have HF := hid (CU.out.done HM2.out (CU.out.right0 HM2.out (by omega)))
          go_wp2_with fail
          first
          | exact bodyPost_end (v := .tuple #[]) (by simp [results, Try.results148, go_sem]) rfl ⟨rfl, _, hm, HF, hf⟩
          | exact bodyPost_ret (v := .tuple #[]) (by simp [results, Try.results148, go_sem]) rfl ⟨rfl, _, hm, HF, hf⟩
        have k3p1 : (mid : Int) < (e : Int) := by omega
        by_cases k32 : e < b
        rotate_left
        · have k3n2 : ¬ (e : Int) < (b : Int) := by omega
          have HF := hid (CU.out.done HM2.out (CU.out.right0 HM2.out (by omega)))
          go_wp2_with fail
          first
          | exact bodyPost_end (v := .tuple #[]) (by simp [results, Try.results148, go_sem]) rfl ⟨rfl, _, hm, HF, hf⟩
          | exact bodyPost_ret (v := .tuple #[]) (by simp [results, Try.results148, go_sem]) rfl ⟨rfl, _, hm, HF, hf⟩
        have k3p2 : (e : Int) < (b : Int) := by omega
        go_wp2_with fail
        refine (IH.out mid e b _ _ (by omega) hm (CU.out.right HM2.out ⟨by omega, by omega⟩) hbn (HC.out.fr hf) HG2.out).mono ?_
        rintro _ w9 ⟨rfl, us, m9, HM9, f9⟩
        have HF := hid (CU.out.done HM2.out HM9.out)
        have F9 := hid (hf.trans f9)
        clear hm hf f9
        go_wp2_with fail
        first
        | exact bodyPost_end (v := .tuple #[]) (by simp [results, Try.results148, go_sem]) rfl ⟨rfl, _, m9, HF, F9.out⟩
        | exact bodyPost_ret (v := .tuple #[]) (by simp [results, Try.results148, go_sem]) rfl ⟨rfl, _, m9, HF, F9.out⟩
      have k1p2 : (m : Int) < (e : Int) := by omega
      go_wp2_with fail
      refine (rotate_any (a := i) (m := m) (b := e) hm (by omega) (by omega) (by omega)).mono ?_
      rintro _ w7 ⟨rfl, m7, f7⟩
      have HG1 := hid (show ∀ x ∈ rot xs i m e, G x from fun x hx => HG.out x (mem_rot (by omega) (by omega) hx))
      replace hf := hf.trans f7
      clear hm f7
      have hm := m7
      clear m7
      by_cases k21 : a < i
      rotate_left
      · have k2n1 : ¬ (a : Int) < (i : Int) := by omega
        have HM2 := hid (CU.out.left0 (by omega))
        have HG2 := HG1
        by_cases k31 : mid < e
        rotate_left
        · have k3n1 : ¬ (mid : Int) < (e : Int) := by omega
          have HF := hid (CU.out.done HM2.out (CU.out.right0 HM2.out (by omega)))
          go_wp2_with fail
          first
          | exact bodyPost_end (v := .tuple #[]) (by simp [results, Try.results148, go_sem]) rfl ⟨rfl, _, hm, HF, hf⟩
          | exact bodyPost_ret (v := .tuple #[]) (by simp [results, Try.results148, go_sem]) rfl ⟨rfl, _, hm, HF, hf⟩
        have k3p1 : (mid : Int) < (e : Int) := by omega
        by_cases k32 : e < b
        rotate_left
        · have k3n2 : ¬ (e : Int) < (b : Int) := by omega
          have HF := hid (CU.out.done HM2.out (CU.out.right0 HM2.out (by omega)))
          go_wp2_with fail
          first
          | exact bodyPost_end (v := .tuple #[]) (by simp [results, Try.results148, go_sem]) rfl ⟨rfl, _, hm, HF, hf⟩
          | exact bodyPost_ret (v := .tuple #[]) (by simp [results, Try.results148, go_sem]) rfl ⟨rfl, _, hm, HF, hf⟩
        have k3p2 : (e : Int) < (b : Int) := by omega
        go_wp2_with fail
        refine (IH.out mid e b _ _ (by omega) hm (CU.out.right HM2.out ⟨by omega, by omega⟩) hbn (HC.out.fr hf) HG2.out).mono ?_
        rintro _ w9 ⟨rfl, us, m9, HM9, f9⟩
        have HF := hid (CU.out.done HM2.out HM9.out)
        have F9 := hid (hf.trans f9)
        clear hm hf f9
        go_wp2_with fail
        first
        | exact bodyPost_end (v := .tuple #[]) (by simp [results, Try.results148, go_sem]) rfl ⟨rfl, _, m9, HF, F9.out⟩
        | exact bodyPost_ret (v := .tuple #[]) (by simp [results, Try.results148, go_sem]) rfl ⟨rfl, _, m9, HF, F9.out⟩
      have k2p1 : (a : Int) < (i : Int) := by omega
      by_cases k22 : i < mid
      rotate_left
      · have k2n2 : ¬ (i : Int) < (mid : Int) := by omega
        have HM2 := hid (CU.out.left0 (by omega))
        have HG2 := HG1
        by_cases k31 : mid < e
        rotate_left
        · have k3n1 : ¬ (mid : Int) < (e : Int) := by omega
          have HF := hid (CU.out.done HM2.out (CU.out.right0 HM2.out (by omega)))
          go_wp2_with fail
          first
          | exact bodyPost_end (v := .tuple #[]) (by simp [results, Try.results148, go_sem]) rfl ⟨rfl, _, hm, HF, hf⟩
          | exact bodyPost_ret (v := .tuple #[]) (by simp [results, Try.results148, go_sem]) rfl ⟨rfl, _, hm, HF, hf⟩
        have k3p1 : (mid : Int) < (e : Int) := by omega
        by_cases k32 : e < b
        rotate_left
        · have k3n2 : ¬ (e : Int) < (b : Int) := by omega
          have HF := hid (CU.out.done HM2.out (CU.out.right0 HM2.out (by omega)))
          go_wp2_with fail
          first
          | exact bodyPost_end (v := .tuple #[]) (by simp [results, Try.results148, go_sem]) rfl ⟨rfl, _, hm, HF, hf⟩
          | exact bodyPost_ret (v := .tuple #[]) (by simp [results, Try.results148, go_sem]) rfl ⟨rfl, _, hm, HF, hf⟩
        have k3p2 : (e : Int) < (b : Int) := by omega
        go_wp2_with fail
        refine (IH.out mid e b _ _ (by omega) hm (CU.out.right HM2.out ⟨by omega, by omega⟩) hbn (HC.out.fr hf) HG2.out).mono ?_
        rintro _ w9 ⟨rfl, us, m9, HM9, f9⟩
        have HF := hid (CU.out.done HM2.out HM9.out)
        have F9 := hid (hf.trans f9)
        clear hm hf f9
        go_wp2_with fail
        first
        | exact bodyPost_end (v := .tuple #[]) (by simp [results, Try.results148, go_sem]) rfl ⟨rfl, _, m9, HF, F9.out⟩
        | exact bodyPost_ret (v := .tuple #[]) (by simp [results, Try.results148, go_sem]) rfl ⟨rfl, _, m9, HF, F9.out⟩
      have k2p2 : (i : Int) < (mid : Int) := by omega
      go_wp2_with fail
      refine (IH.out a i mid _ _ (by omega) hm (CU.out.left ⟨by omega, by omega⟩) (by omega) (HC.out.fr hf) HG1.out).mono ?_
      rintro _ w8 ⟨rfl, ys, m8, HM2, f8⟩
      have HG2 := hid (HM2.out.all HG1.out)
      replace hf := hf.trans f8
      clear hm f8
      have hm := m8
      clear m8
      by_cases k31 : mid < e
      rotate_left
      · have k3n1 : ¬ (mid : Int) < (e : Int) := by omega
        have HF := hid (CU.out.done HM2.out (CU.out.right0 HM2.out (by omega)))
        go_wp2_with fail
        first
        | exact bodyPost_end (v := .tuple #[]) (by simp [results, Try.results148, go_sem]) rfl ⟨rfl, _, hm, HF, hf⟩
        | exact bodyPost_ret (v := .tuple #[]) (by simp [results, Try.results148, go_sem]) rfl ⟨rfl, _, hm, HF, hf⟩
      have k3p1 : (mid : Int) < (e : Int) := by omega
      by_cases k32 : e < b
      rotate_left
      · have k3n2 : ¬ (e : Int) < (b : Int) := by omega
        have HF := hid (CU.out.done HM2.out (CU.out.right0 HM2.out (by omega)))
        go_wp2_with fail
        first
        | exact bodyPost_end (v := .tuple #[]) (by simp [results, Try.results148, go_sem]) rfl ⟨rfl, _, hm, HF, hf⟩
        | exact bodyPost_ret (v := .tuple #[]) (by simp [results, Try.results148, go_sem]) rfl ⟨rfl, _, hm, HF, hf⟩
      have k3p2 : (e : Int) < (b : Int) := by omega
      go_wp2_with fail
      refine (IH.out mid e b _ _ (by omega) hm (CU.out.right HM2.out ⟨by omega, by omega⟩) hbn (HC.out.fr hf) HG2.out).mono ?_
      rintro _ w9 ⟨rfl, us, m9, HM9, f9⟩
      have HF := hid (CU.out.done HM2.out HM9.out)
      have F9 := hid (hf.trans f9)
      clear hm hf f9
      go_wp2_with fail
      first
      | exact bodyPost_end (v := .tuple #[]) (by simp [results, Try.results148, go_sem]) rfl ⟨rfl, _, m9, HF, F9.out⟩
      | exact bodyPost_ret (v := .tuple #[]) (by simp [results, Try.results148, go_sem]) rfl ⟨rfl, _, m9, HF, F9.out⟩
  · skip
    obtain ⟨c1, c0⟩ := HA.out.2 hcase
    have c2 : ¬ (mid : Int) < (m : Int) := by omega
    clear HA
    replace c0 := c0.symm
    replace c1 := c1.symm
    subst c0 c1
    go_enter Try.func148, Try.ntmps148
    go_wp2_with fail
    go_loopw [20, 21] (fun vi vj wr => Srch w wr lo hi A n xs (PLg key xs a (mid + m)) (PRg key xs m (mid + m)) a m vi vj) (fun vi vj _ => (intOf vj).toNat - (intOf vi).toNat)
    case atStart => exact srch_mk a m (Nat.le_refl _) (by omega) (Nat.le_refl _) rfl rfl (hid (show PLg key xs a (mid + m) _ from .inl rfl)) (hid (show PRg key xs m (mid + m) _ from .inl rfl)) h (Fr.refl _ _ _)
    case round =>
      obtain ⟨⟨i, j, i1, i2, i3, rfl, rfl, HI, HJ, hm, hf⟩⟩ := hrel
      by_cases hlt : i < j
      · have q1 : (i : Int) < (j : Int) := by omega
        obtain ⟨z, hz⟩ : ∃ z : Nat, ((i : Int) + (j : Int)) / 2 = (z : Int) := ⟨(i + j) / 2, by omega⟩
        have z1 : i ≤ z := by omega
        have z2 : z < j := by omega
        have z3 : (z : Int) < (n : Int) := by omega
        obtain ⟨u, hu⟩ : ∃ u : Nat, (pp : Int) - (z : Int) = (u : Int) := ⟨pp - z, by omega⟩
        have HU := hid (show u = mid + m - 1 - z by omega)
        have z4 : (u : Int) < (n : Int) := by omega
        obtain ⟨bb, off, x, rfl, hlo, hhi, hcx, hx⟩ := hm.1.at_ (k := u) (by omega)
        obtain ⟨bb', off', y, e', _, _, hcy, hy⟩ := hm.1.at_ (k := z) (by omega)
        obtain ⟨rfl, rfl⟩ : bb = bb' ∧ off = off' := by simpa using e'
        have gx : G x := by rw [hx.out]; exact HG.out _ (getD_in (by rw [HL.out]; omega))
        have gy : G y := by rw [hy.out]; exact HG.out _ (getD_in (by rw [HL.out]; omega))
        have hcc := fun m => HC.out.go x y (wr.drewN m) gx gy (hf.drewN m)
        have hkk := HC.out.lt x y gx gy
        have hK := HK.out
        obtain ⟨r, hr⟩ : ∃ r, cv x y = r := ⟨_, rfl⟩
        rw [hr] at hkk
        simp only [hr] at hcc
        clear hr gx gy
        have HKK := hid (show (r < 0 → KLt (key y) (key x)) ∧ (¬ r < 0 → KGe (key y) (key x)) from ⟨hkk.1, fun q e => q (hkk.2 e)⟩)
        have HX := hid hx.out
        have HY := hid hy.out
        have HM := hid hm
        have HF := hid hf
        clear hkk hx hy e' hm hf
        go_wp2_with fail
        go_quiet (first | (go_at_fn K; refine Calls.quiet_of (hcc _)))
        clear hcc
        have M : Mine (wr.drewN nq) lo hi (some ⟨bb, off, none⟩) n xs := HM.out
        have F := HF.out.drewN nq
        by_cases hlv : r < 0
        · have hkl := hid (HKK.out.1 (by omega))
          have hlv2 : ¬ 0 ≤ r := by omega
          have hlv3 : decide (r < 0) = true := decide_eq_true hlv
          have hlv4 : (!decide (r < 0)) = false := by rw [hlv3]; rfl
          rw [HX.out, HY.out] at hkl
          rw [HU.out] at hkl
          have HN := hid (show PRg key xs m (mid + m) z from (.inr hkl.out))
          go_wp2_with fail
          all_goals first | (exfalso; omega) | (exfalso; exact Bool.noConfusion (hlv4.symm.trans (by assumption : (!decide (r < 0)) = true))) | skip
          refine ⟨?_, ?measure⟩
          (repeat apply Exists.intro)
          first
          | exact srch_mk i z i1 z1 (by omega) rfl rfl HI HN M F
          | exact ⟨srch_mk i z i1 z1 (by omega) rfl rfl HI HN M F, rfl⟩
          case measure => simp [intOf] <;> omega
        · have hkl := hid (HKK.out.2 (by omega))
          have hlv2 : 0 ≤ r := by omega
          have hlv3 : decide (r < 0) = false := decide_eq_false hlv
          have hlv4 : (!decide (r < 0)) = true := by rw [hlv3]; rfl
          rw [HX.out, HY.out] at hkl
          rw [HU.out] at hkl
          have HN := hid (show PLg key xs a (mid + m) (z + 1) from (.inr hkl.out))
          go_wp2_with fail
          all_goals first | (exfalso; omega) | (exfalso; exact Bool.noConfusion (hlv4.symm.trans (by assumption : (!decide (r < 0)) = false))) | skip
          refine ⟨?_, ?measure⟩
          (repeat apply Exists.intro)
          first
          | exact srch_mk (z + 1) j (by omega) (by omega) i3 (by go_num) rfl HN HJ M F
          | exact ⟨srch_mk (z + 1) j (by omega) (by omega) i3 (by go_num) rfl HN HJ M F, rfl⟩
          case measure => simp [intOf] <;> omega
      obtain rfl : i = j := by omega
      have q1 : ¬ (i : Int) < (i : Int) := by omega
      obtain ⟨hq, hcut⟩ := cut_of HR.out HMID.out HS0.out HR0.out i1 i3 HI.out HJ.out
      obtain ⟨e, he⟩ : ∃ e : Nat, (nn : Int) - (i : Int) = (e : Int) := ⟨nn - i, by omega⟩
      rw [show mid + m - i = e by omega] at hq hcut
      obtain ⟨v1, v2, v3, v4⟩ := hq
      have w1 := hcut.h2
      have w2 := hcut.h3
      have CU := hid hcut
      clear hcut HI HJ
      by_cases k11 : i < m
      rotate_left
      · have k1n1 : ¬ (i : Int) < (m : Int) := by omega
        have HT := hid (rot_triv (xs := xs) (s := i) (m := m) (e := e) (by omega) (by omega) (by omega))
        rw [← HT.out] at hm
        have HG1 := hid (show ∀ x ∈ rot xs i m e, G x by rw [HT.out]; exact HG.out)
        clear HT
        by_cases k21 : a < i
        rotate_left
        · have k2n1 : ¬ (a : Int) < (i : Int) := by omega
          have HM2 := hid (CU.out.left0 (by omega))
          have HG2 := HG1
          by_cases k31 : mid < e
          rotate_left
          · have k3n1 : ¬ (mid : Int) < (e : Int) := by omega
            have HF := hid (CU.out.done HM2.out (CU.out.right0 HM2.out (by omega)))
            go_wp2_with fail
            first
            | exact bodyPost_end (v := .tuple #[]) (by simp [results, Try.results148, go_sem]) rfl ⟨rfl, _, hm, HF, hf⟩
            | exact bodyPost_ret (v := .tuple #[]) (by simp [results, Try.results148, go_sem]) rfl ⟨rfl, _, hm, HF, hf⟩
          have k3p1 : (mid : Int) < (e : Int) := by omega
          by_cases k32 : e < b
          rotate_left
          · have k3n2 : ¬ (e : Int) < (b : Int) := by omega
            have HF := hid (CU.out.done HM2.out (CU.out.right0 HM2.out (by omega)))
            go_wp2_with fail
            first
            | exact bodyPost_end (v := .tuple #[]) (by simp [results, Try.results148, go_sem]) rfl ⟨rfl, _, hm, HF, hf⟩
            | exact bodyPost_ret (v := .tuple #[]) (by simp [results, Try.results148, go_sem]) rfl ⟨rfl, _, hm, HF, hf⟩
          have k3p2 : (e : Int) < (b : Int) := by omega
          go_wp2_with fail
          refine (IH.out mid e b _ _ (by omega) hm (CU.out.right HM2.out ⟨by omega, by omega⟩) hbn (HC.out.fr hf) HG2.out).mono ?_
          rintro _ w9 ⟨rfl, us, m9, HM9, f9⟩
          have HF := hid (CU.out.done HM2.out HM9.out)
          have F9 := hid (hf.trans f9)
          clear hm hf f9
          go_wp2_with fail
          first
          | exact bodyPost_end (v := .tuple #[]) (by simp [results, Try.results148, go_sem]) rfl ⟨rfl, _, m9, HF, F9.out⟩
          | exact bodyPost_ret (v := .tuple #[]) (by simp [results, Try.results148, go_sem]) rfl ⟨rfl, _, m9, HF, F9.out⟩
        have k2p1 : (a : Int) < (i : Int) := by omega
        by_cases k22 : i < mid
        rotate_left
        · have k2n2 : ¬ (i : Int) < (mid : Int) := by omega
          have HM2 := hid (CU.out.left0 (by omega))
          have HG2 := HG1
          by_cases k31 : mid < e
          rotate_left
          · have k3n1 : ¬ (mid : Int) < (e : Int) := by omega
            have HF := hid (CU.out.done HM2.out (CU.out.right0 HM2.out (by omega)))
            go_wp2_with fail
            first
            | exact bodyPost_end (v := .tuple #[]) (by simp [results, Try.results148, go_sem]) rfl ⟨rfl, _, hm, HF, hf⟩
            | exact bodyPost_ret (v := .tuple #[]) (by simp [results, Try.results148, go_sem]) rfl ⟨rfl, _, hm, HF, hf⟩
          have k3p1 : (mid : Int) < (e : Int) := by omega
          by_cases k32 : e < b
          rotate_left
          · have k3n2 : ¬ (e : Int) < (b : Int) := by omega
            have HF := hid (CU.out.done HM2.out (CU.out.right0 HM2.out (by omega)))
            go_wp2_with fail
            first
            | exact bodyPost_end (v := .tuple #[]) (by simp [results, Try.results148, go_sem]) rfl ⟨rfl, _, hm, HF, hf⟩
            | exact bodyPost_ret (v := .tuple #[]) (by simp [results, Try.results148, go_sem]) rfl ⟨rfl, _, hm, HF, hf⟩
          have k3p2 : (e : Int) < (b : Int) := by omega
          go_wp2_with fail
          refine (IH.out mid e b _ _ (by omega) hm (CU.out.right HM2.out ⟨by omega, by omega⟩) hbn (HC.out.fr hf) HG2.out).mono ?_
          rintro _ w9 ⟨rfl, us, m9, HM9, f9⟩
          have HF := hid (CU.out.done HM2.out HM9.out)
          have F9 := hid (hf.trans f9)
          clear hm hf f9
          go_wp2_with fail
          first
          | exact bodyPost_end (v := .tuple #[]) (by simp [results, Try.results148, go_sem]) rfl ⟨rfl, _, m9, HF, F9.out⟩
          | exact bodyPost_ret (v := .tuple #[]) (by simp [results, Try.results148, go_sem]) rfl ⟨rfl, _, m9, HF, F9.out⟩
        have k2p2 : (i : Int) < (mid : Int) := by omega
        go_wp2_with fail
        refine (IH.out a i mid _ _ (by omega) hm (CU.out.left ⟨by omega, by omega⟩) (by omega) (HC.out.fr hf) HG1.out).mono ?_
        rintro _ w8 ⟨rfl, ys, m8, HM2, f8⟩
        have HG2 := hid (HM2.out.all HG1.out)
        replace hf := hf.trans f8
        clear hm f8
        have hm := m8
        clear m8
        by_cases k31 : mid < e
        rotate_left
        · have k3n1 : ¬ (mid : Int) < (e : Int) := by omega
          have HF := hid (CU.out.done HM2.out (CU.out.right0 HM2.out (by omega)))
          go_wp2_with fail
          first
          | exact bodyPost_end (v := .tuple #[]) (by simp [results, Try.results148, go_sem]) rfl ⟨rfl, _, hm, HF, hf⟩
          | exact bodyPost_ret (v := .tuple #[]) (by simp [results, Try.results148, go_sem]) rfl ⟨rfl, _, hm, HF, hf⟩
        have k3p1 : (mid : Int) < (e : Int) := by omega
        by_cases k32 : e < b
        rotate_left
        · have k3n2 : ¬ (e : Int) < (b : Int) := by omega
          have HF := hid (CU.out.done HM2.out (CU.out.right0 HM2.out (by omega)))
          go_wp2_with fail
          first
          | exact bodyPost_end (v := .tuple #[]) (by simp [results, Try.results148, go_sem]) rfl ⟨rfl, _, hm, HF, hf⟩
          | exact bodyPost_ret (v := .tuple #[]) (by simp [results, Try.results148, go_sem]) rfl ⟨rfl, _, hm, HF, hf⟩
        have k3p2 : (e : Int) < (b : Int) := by omega
        go_wp2_with fail
        refine (IH.out mid e b _ _ (by omega) hm (CU.out.right HM2.out ⟨by omega, by omega⟩) hbn (HC.out.fr hf) HG2.out).mono ?_
        rintro _ w9 ⟨rfl, us, m9, HM9, f9⟩
        have HF := hid (CU.out.done HM2.out HM9.out)
        have F9 := hid (hf.trans f9)
        clear hm hf f9
        go_wp2_with fail
        first
        | exact bodyPost_end (v := .tuple #[]) (by simp [results, Try.results148, go_sem]) rfl ⟨rfl, _, m9, HF, F9.out⟩
        | exact bodyPost_ret (v := .tuple #[]) (by simp [results, Try.results148, go_sem]) rfl ⟨rfl, _, m9, HF, F9.out⟩
      have k1p1 : (i : Int) < (m : Int) := by omega
      by_cases k12 : m < e
      rotate_left
      · have k1n2 : ¬ (m : Int) < (e : Int) := by omega
        have HT := hid (rot_triv (xs := xs) (s := i) (m := m) (e := e) (by omega) (by omega) (by omega))
        rw [← HT.out] at hm
        have HG1 := hid (show ∀ x ∈ rot xs i m e, G x by rw [HT.out]; exact HG.out)
        clear HT
        by_cases k21 : a < i
        rotate_left
        · have k2n1 : ¬ (a : Int) < (i : Int) := by omega
          have HM2 := hid (CU.out.left0 (by omega))
          have HG2 := HG1
          by_cases k31 : mid < e
          rotate_left
          · have k3n1 : ¬ (mid : Int) < (e : Int) := by omega
            have HF := hid (CU.out.done HM2.out (CU.out.right0 HM2.out (by omega)))
            go_wp2_with fail
            first
            | exact bodyPost_end (v := .tuple #[]) (by simp [results, Try.results148, go_sem]) rfl ⟨rfl, _, hm, HF, hf⟩
            | exact bodyPost_ret (v := .tuple #[]) (by simp [results, Try.results148, go_sem]) rfl ⟨rfl, _, hm, HF, hf⟩
          have k3p1 : (mid : Int) < (e : Int) := by omega
          by_cases k32 : e < b
          rotate_left
          · have k3n2 : ¬ (e : Int) < (b : Int) := by omega
            have HF := hid (CU.out.done HM2.out (CU.out.right0 HM2.out (by omega)))
            go_wp2_with fail
            first
            | exact bodyPost_end (v := .tuple #[]) (by simp [results, Try.results148, go_sem]) rfl ⟨rfl, _, hm, HF, hf⟩
            | exact bodyPost_ret (v := .tuple #[]) (by simp [results, Try.results148, go_sem]) rfl ⟨rfl, _, hm, HF, hf⟩
          have k3p2 : (e : Int) < (b : Int) := by omega
          go_wp2_with fail
          refine (IH.out mid e b _ _ (by omega) hm (CU.out.right HM2.out ⟨by omega, by omega⟩) hbn (HC.out.fr hf) HG2.out).mono ?_
          rintro _ w9 ⟨rfl, us, m9, HM9, f9⟩
          have HF := hid (CU.out.done HM2.out HM9.out)
          have F9 := hid (hf.trans f9)
          clear hm hf f9
          go_wp2_with fail
          first
          | exact bodyPost_end (v := .tuple #[]) (by simp [results, Try.results148, go_sem]) rfl ⟨rfl, _, m9, HF, F9.out⟩
          | exact bodyPost_ret (v := .tuple #[]) (by simp [results, Try.results148, go_sem]) rfl ⟨rfl, _, m9, HF, F9.out⟩
        have k2p1 : (a : Int) < (i : Int) := by omega
        by_cases k22 : i < mid
        rotate_left
        · have k2n2 : ¬ (i : Int) < (mid : Int) := by omega
          have HM2 := hid (CU.out.left0 (by omega))
          have HG2 := HG1
          by_cases k31 : mid < e
          rotate_left
          · have k3n1 : ¬ (mid : Int) < (e : Int) := by omega
            have HF := hid (CU.out.done HM2.out (CU.out.right0 HM2.out (by omega)))
            go_wp2_with fail
            first
            | exact bodyPost_end (v := .tuple #[]) (by simp [results, Try.results148, go_sem]) rfl ⟨rfl, _, hm, HF, hf⟩
            | exact bodyPost_ret (v := .tuple #[]) (by simp [results, Try.results148, go_sem]) rfl ⟨rfl, _, hm, HF, hf⟩
          have k3p1 : (mid : Int) < (e : Int) := by omega
          by_cases k32 : e < b
          rotate_left
          · have k3n2 : ¬ (e : Int) < (b : Int) := by omega
            have HF := hid (CU.out.done HM2.out (CU.out.right0 HM2.out (by omega)))
            go_wp2_with fail
            first
            | exact bodyPost_end (v := .tuple #[]) (by simp [results, Try.results148, go_sem]) rfl ⟨rfl, _, hm, HF, hf⟩
            | exact bodyPost_ret (v := .tuple #[]) (by simp [results, Try.results148, go_sem]) rfl ⟨rfl, _, hm, HF, hf⟩
          have k3p2 : (e : Int) < (b : Int) := by omega
          go_wp2_with fail
          refine (IH.out mid e b _ _ (by omega) hm (CU.out.right HM2.out ⟨by omega, by omega⟩) hbn (HC.out.fr hf) HG2.out).mono ?_
          rintro _ w9 ⟨rfl, us, m9, HM9, f9⟩
          have HF := hid (CU.out.done HM2.out HM9.out)
          have F9 := hid (hf.trans f9)
          clear hm hf f9
          go_wp2_with fail
          first
          | exact bodyPost_end (v := .tuple #[]) (by simp [results, Try.results148, go_sem]) rfl ⟨rfl, _, m9, HF, F9.out⟩
          | exact bodyPost_ret (v := .tuple #[]) (by simp [results, Try.results148, go_sem]) rfl ⟨rfl, _, m9, HF, F9.out⟩
        have k2p2 : (i : Int) < (mid : Int) := by omega
        go_wp2_with fail
        refine (IH.out a i mid _ _ (by omega) hm (CU.out.left ⟨by omega, by omega⟩) (by omega) (HC.out.fr hf) HG1.out).mono ?_
        rintro _ w8 ⟨rfl, ys, m8, HM2, f8⟩
        have HG2 := hid (HM2.out.all HG1.out)
        replace hf := hf.trans f8
        clear hm f8
        have hm := m8
        clear m8
        by_cases k31 : mid < e
        rotate_left
        · have k3n1 : ¬ (mid : Int) < (e : Int) := by omega
          have HF := hid (CU.out.done HM2.out (CU.out.right0 HM2.out (by omega)))
          go_wp2_with fail
          first
          | exact bodyPost_end (v := .tuple #[]) (by simp [results, Try.results148, go_sem]) rfl ⟨rfl, _, hm, HF, hf⟩
          | exact bodyPost_ret (v := .tuple #[]) (by simp [results, Try.results148, go_sem]) rfl ⟨rfl, _, hm, HF, hf⟩
        have k3p1 : (mid : Int) < (e : Int) := by omega
        by_cases k32 : e < b
        rotate_left
        · have k3n2 : ¬ (e : Int) < (b : Int) := by omega
          have HF := hid (CU.out.done HM2.out (CU.out.right0 HM2.out (by omega)))
          go_wp2_with fail
          first
          | exact bodyPost_end (v := .tuple #[]) (by simp [results, Try.results148, go_sem]) rfl ⟨rfl, _, hm, HF, hf⟩
          | exact bodyPost_ret (v := .tuple #[]) (by simp [results, Try.results148, go_sem]) rfl ⟨rfl, _, hm, HF, hf⟩
        have k3p2 : (e : Int) < (b : Int) := by omega
        go_wp2_with fail
        refine (IH.out mid e b _ _ (by omega) hm (CU.out.right HM2.out ⟨by omega, by omega⟩) hbn (HC.out.fr hf) HG2.out).mono ?_
        rintro _ w9 ⟨rfl, us, m9, HM9, f9⟩
        have HF := hid (CU.out.done HM2.out HM9.out)
        have F9 := hid (hf.trans f9)
        clear hm hf f9
        go_wp2_with fail
        first
        | exact bodyPost_end (v := .tuple #[]) (by simp [results, Try.results148, go_sem]) rfl ⟨rfl, _, m9, HF, F9.out⟩
        | exact bodyPost_ret (v := .tuple #[]) (by simp [results, Try.results148, go_sem]) rfl ⟨rfl, _, m9, HF, F9.out⟩
      have k1p2 : (m : Int) < (e : Int) := by omega
      go_wp2_with fail
      refine (rotate_any (a := i) (m := m) (b := e) hm (by omega) (by omega) (by omega)).mono ?_
      rintro _ w7 ⟨rfl, m7, f7⟩
      have HG1 := hid (show ∀ x ∈ rot xs i m e, G x from fun x hx => HG.out x (mem_rot (by omega) (by omega) hx))
      replace hf := hf.trans f7
      clear hm f7
      have hm := m7
      clear m7
      by_cases k21 : a < i
      rotate_left
      · have k2n1 : ¬ (a : Int) < (i : Int) := by omega
        have HM2 := hid (CU.out.left0 (by omega))
        have HG2 := HG1
        by_cases k31 : mid < e
        rotate_left
        · have k3n1 : ¬ (mid : Int) < (e : Int) := by omega
          have HF := hid (CU.out.done HM2.out (CU.out.right0 HM2.out (by omega)))
          go_wp2_with fail
          first
          | exact bodyPost_end (v := .tuple #[]) (by simp [results, Try.results148, go_sem]) rfl ⟨rfl, _, hm, HF, hf⟩
          | exact bodyPost_ret (v := .tuple #[]) (by simp [results, Try.results148, go_sem]) rfl ⟨rfl, _, hm, HF, hf⟩
        have k3p1 : (mid : Int) < (e : Int) := by omega
        by_cases k32 : e < b
        rotate_left
        · have k3n2 : ¬ (e : Int) < (b : Int) := by omega
          have HF := hid (CU.out.done HM2.out (CU.out.right0 HM2.out (by omega)))
          go_wp2_with fail
          first
          | exact bodyPost_end (v := .tuple #[]) (by simp [results, Try.results148, go_sem]) rfl ⟨rfl, _, hm, HF, hf⟩
          | exact bodyPost_ret (v := .tuple #[]) (by simp [results, Try.results148, go_sem]) rfl ⟨rfl, _, hm, HF, hf⟩
        have k3p2 : (e : Int) < (b : Int) := by omega
        go_wp2_with fail
        refine (IH.out mid e b _ _ (by omega) hm (CU.out.right HM2.out ⟨by omega, by omega⟩) hbn (HC.out.fr hf) HG2.out).mono ?_
        rintro _ w9 ⟨rfl, us, m9, HM9, f9⟩
        have HF := hid (CU.out.done HM2.out HM9.out)
        have F9 := hid (hf.trans f9)
        clear hm hf f9
        go_wp2_with fail
        first
        | exact bodyPost_end (v := .tuple #[]) (by simp [results, Try.results148, go_sem]) rfl ⟨rfl, _, m9, HF, F9.out⟩
        | exact bodyPost_ret (v := .tuple #[]) (by simp [results, Try.results148, go_sem]) rfl ⟨rfl, _, m9, HF, F9.out⟩
      have k2p1 : (a : Int) < (i : Int) := by omega
      by_cases k22 : i < mid
      rotate_left
      · have k2n2 : ¬ (i : Int) < (mid : Int) := by omega
        have HM2 := hid (CU.out.left0 (by omega))
        have HG2 := HG1
        by_cases k31 : mid < e
        rotate_left
        · have k3n1 : ¬ (mid : Int) < (e : Int) := by omega
          have HF := hid (CU.out.done HM2.out (CU.out.right0 HM2.out (by omega)))
          go_wp2_with fail
          first
          | exact bodyPost_end (v := .tuple #[]) (by simp [results, Try.results148, go_sem]) rfl ⟨rfl, _, hm, HF, hf⟩
          | exact bodyPost_ret (v := .tuple #[]) (by simp [results, Try.results148, go_sem]) rfl ⟨rfl, _, hm, HF, hf⟩
        have k3p1 : (mid : Int) < (e : Int) := by omega
        by_cases k32 : e < b
        rotate_left
        · have k3n2 : ¬ (e : Int) < (b : Int) := by omega
          have HF := hid (CU.out.done HM2.out (CU.out.right0 HM2.out (by omega)))
          go_wp2_with fail
          first
          | exact bodyPost_end (v := .tuple #[]) (by simp [results, Try.results148, go_sem]) rfl ⟨rfl, _, hm, HF, hf⟩
          | exact bodyPost_ret (v := .tuple #[]) (by simp [results, Try.results148, go_sem]) rfl ⟨rfl, _, hm, HF, hf⟩
        have k3p2 : (e : Int) < (b : Int) := by omega
        go_wp2_with fail
        refine (IH.out mid e b _ _ (by omega) hm (CU.out.right HM2.out ⟨by omega, by omega⟩) hbn (HC.out.fr hf) HG2.out).mono ?_
        rintro _ w9 ⟨rfl, us, m9, HM9, f9⟩
        have HF := hid (CU.out.done HM2.out HM9.out)
        have F9 := hid (hf.trans f9)
        clear hm hf f9
        go_wp2_with fail
        first
        | exact bodyPost_end (v := .tuple #[]) (by simp [results, Try.results148, go_sem]) rfl ⟨rfl, _, m9, HF, F9.out⟩
        | exact bodyPost_ret (v := .tuple #[]) (by simp [results, Try.results148, go_sem]) rfl ⟨rfl, _, m9, HF, F9.out⟩
      have k2p2 : (i : Int) < (mid : Int) := by omega
      go_wp2_with fail
      refine (IH.out a i mid _ _ (by omega) hm (CU.out.left ⟨by omega, by omega⟩) (by omega) (HC.out.fr hf) HG1.out).mono ?_
      rintro _ w8 ⟨rfl, ys, m8, HM2, f8⟩
      have HG2 := hid (HM2.out.all HG1.out)
      replace hf := hf.trans f8
      clear hm f8
      have hm := m8
      clear m8
      by_cases k31 : mid < e
      rotate_left
      · have k3n1 : ¬ (mid : Int) < (e : Int) := by omega
        have HF := hid (CU.out.done HM2.out (CU.out.right0 HM2.out (by omega)))
        go_wp2_with fail
        first
        | exact bodyPost_end (v := .tuple #[]) (by simp [results, Try.results148, go_sem]) rfl ⟨rfl, _, hm, HF, hf⟩
        | exact bodyPost_ret (v := .tuple #[]) (by simp [results, Try.results148, go_sem]) rfl ⟨rfl, _, hm, HF, hf⟩
      have k3p1 : (mid : Int) < (e : Int) := by omega
      by_cases k32 : e < b
      rotate_left
      · have k3n2 : ¬ (e : Int) < (b : Int) := by omega
        have HF := hid (CU.out.done HM2.out (CU.out.right0 HM2.out (by omega)))
        go_wp2_with fail
        first
        | exact bodyPost_end (v := .tuple #[]) (by simp [results, Try.results148, go_sem]) rfl ⟨rfl, _, hm, HF, hf⟩
        | exact bodyPost_ret (v := .tuple #[]) (by simp [results, Try.results148, go_sem]) rfl ⟨rfl, _, hm, HF, hf⟩
      have k3p2 : (e : Int) < (b : Int) := by omega
      go_wp2_with fail
      refine (IH.out mid e b _ _ (by omega) hm (CU.out.right HM2.out ⟨by omega, by omega⟩) hbn (HC.out.fr hf) HG2.out).mono ?_
      rintro _ w9 ⟨rfl, us, m9, HM9, f9⟩
      have HF := hid (CU.out.done HM2.out HM9.out)
      have F9 := hid (hf.trans f9)
      clear hm hf f9
      go_wp2_with fail
      first
      | exact bodyPost_end (v := .tuple #[]) (by simp [results, Try.results148, go_sem]) rfl ⟨rfl, _, m9, HF, F9.out⟩
      | exact bodyPost_ret (v := .tuple #[]) (by simp [results, Try.results148, go_sem]) rfl ⟨rfl, _, m9, HF, F9.out⟩
end Go.Proofs.Ytikmgohjgdojdaa
