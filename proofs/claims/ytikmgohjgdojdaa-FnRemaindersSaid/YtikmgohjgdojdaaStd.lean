/- Merging: one element behind. -/
import Derived.Test.YtikmgohjgdojdaaStm
namespace Go.Proofs.Ytikmgohjgdojdaa
open Go.RowKit
set_option linter.unusedVariables false
set_option linter.unusedSimpArgs false
set_option maxRecDepth 100000 in
set_option maxHeartbeats 12800000 in
theorem symMerge_dn {A : Option Addr} {lo hi n c a m b : Nat} {xs : List Int} {K : FuncId} {caps : Array Value} {key : Int → Int} {cv : Int → Int → Int} {G : Int → Prop} {w : World} (h : Mine w lo hi A n xs) (hl : Ready key xs a m b) (hne : m ≠ a + 1) (he : b = m + 1) (hbn : b ≤ n) (hK : ∀ (args : Array Value) (w : World), (callFunc K args).run Try.prog w = .ok (.enter K args) w) (hc : CmpAt K caps key cv G lo hi w) (hG : ∀ x ∈ xs, G x) :
    Calls Try.prog 148 #[.slice A n c, .int .i64 (a : Int), .int .i64 (m : Int), .int .i64 (b : Int), .func (.func K) #[] caps] w fun e w' => e = .returned (.tuple #[]) ∧ ∃ ys, Mine w' lo hi A n ys ∧ Hid (Merged key xs ys a b) ∧ Fr lo hi w w' := by
  have hn := h.1.le
  have HL := hid h.1.1
  have HC := hid hc
  have HG := hid hG
  have HK := hid hK
  have hm1 := hl.am
  have HR := hid hl
  clear hc hG hK hl
  subst he
  have t0 : ((m : Int) - (a : Int) == 1) = false := by rw [beq_eq_false_iff_ne]; omega
  have t1 : (((m : Int) + 1 - (m : Int)) == 1) = true := by rw [beq_iff_eq]; omega
  go_enter Try.func148, Try.ntmps148
  go_wp2_with fail
  go_loopw [14, 15] (fun vi vj wr => Srch w wr lo hi A n xs (PLd key xs a m) (PRd key xs m) a m vi vj) (fun vi vj _ => (intOf vj).toNat - (intOf vi).toNat)
  case atStart => exact srch_mk a m (Nat.le_refl _) (by omega) (Nat.le_refl _) rfl rfl (hid (show PLd key xs a m _ from .inl rfl)) (hid (show PRd key xs m _ from .inl rfl)) h (Fr.refl _ _ _)
  case round =>
    obtain ⟨⟨i, j, i1, i2, i3, rfl, rfl, HI, HJ, hm, hf⟩⟩ := hrel
    by_cases hlt : i < j
    · have q1 : (i : Int) < (j : Int) := by omega
      obtain ⟨z, hz⟩ : ∃ z : Nat, ((i : Int) + (j : Int)) / 2 = (z : Int) := ⟨(i + j) / 2, by omega⟩
      have z1 : i ≤ z := by omega
      have z2 : z < j := by omega
      have z3 : (z : Int) < (n : Int) := by omega
      have z4 : (m : Int) < (n : Int) := by omega
      obtain ⟨bb, off, x, rfl, hlo, hhi, hcx, hx⟩ := hm.1.at_ (k := m) (by omega)
      obtain ⟨bb', off', y, e', _, _, hcy, hy⟩ := hm.1.at_ (k := z) (by omega)
      obtain ⟨rfl, rfl⟩ : bb = bb' ∧ off = off' := by simpa using e'
      have gx : G x := by rw [hx.out]; exact HG.out _ (getD_in (by rw [HL.out]; omega))
      have gy : G y := by rw [hy.out]; exact HG.out _ (getD_in (by rw [HL.out]; omega))
      have hcc := fun m => HC.out.go x y (wr.drewN m) gx gy (hf.drewN m)
      have hkk := HC.out.lt x y gx gy
      have hK := HK.out
      obtain ⟨r, hr⟩ : ∃ r, cv x y = r := ⟨_, rfl⟩
      rw [hr] at hkk
      simp only [hr] at hcc
      clear hr gx gy
      have HKK := hid (show (r < 0 → KLt (key y) (key x)) ∧ (¬ r < 0 → KGe (key y) (key x)) from ⟨hkk.1, fun q e => q (hkk.2 e)⟩)
      have HX := hid hx.out
      have HY := hid hy.out
      have HM := hid hm
      have HF := hid hf
      clear hkk hx hy e' hm hf
      go_wp2_with fail
      go_quiet (first | (go_at_fn K; refine Calls.quiet_of (hcc _)))
      clear hcc
      have M : Mine (wr.drewN nq) lo hi (some ⟨bb, off, none⟩) n xs := HM.out
      have F := HF.out.drewN nq
      by_cases hlv : r < 0
      · have hkl := hid (HKK.out.1 (by omega))
        have hlv2 : ¬ 0 ≤ r := by omega
        have hlv3 : decide (r < 0) = true := decide_eq_true hlv
        have hlv4 : (!decide (r < 0)) = false := by rw [hlv3]; rfl
        rw [HX.out, HY.out] at hkl
        have HN := hid (show PRd key xs m z from (.inr hkl.out))
        go_wp2_with fail
        all_goals first | (exfalso; omega) | (exfalso; exact Bool.noConfusion (hlv4.symm.trans (by assumption : (!decide (r < 0)) = true))) | skip
        refine ⟨?_, ?measure⟩
        (repeat apply Exists.intro)
        first
        | exact srch_mk i z i1 z1 (by omega) rfl rfl HI HN M F
        | exact ⟨srch_mk i z i1 z1 (by omega) rfl rfl HI HN M F, rfl⟩
        case measure => simp [intOf] <;> omega
      · have hkl := hid (HKK.out.2 (by omega))
        have hlv2 : 0 ≤ r := by omega
        have hlv3 : decide (r < 0) = false := decide_eq_false hlv
        have hlv4 : (!decide (r < 0)) = true := by rw [hlv3]; rfl
        rw [HX.out, HY.out] at hkl
        have HN := hid (show PLd key xs a m (z + 1) from (.inr hkl.out))
        go_wp2_with fail
        all_goals first | (exfalso; omega) | (exfalso; exact Bool.noConfusion (hlv4.symm.trans (by assumption : (!decide (r < 0)) = false))) | skip
        refine ⟨?_, ?measure⟩
        (repeat apply Exists.intro)
        first
        | exact srch_mk (z + 1) j (by omega) (by omega) i3 (by go_num) rfl HN HJ M F
        | exact ⟨srch_mk (z + 1) j (by omega) (by omega) i3 (by go_num) rfl HN HJ M F, rfl⟩
        case measure => simp [intOf] <;> omega
    obtain rfl : i = j := by omega
    have q1 : ¬ (i : Int) < (i : Int) := by omega
    have HE := hid (merged_dn HR.out HL.out i1 i3 HI.out HJ.out)
    clear HI HJ
    go_wp2_with fail
    go_loopw [17] (fun vk wr => ∃ k : Nat, i ≤ k ∧ k ≤ m ∧ vk = .int .i64 (k : Int) ∧ Mine wr lo hi A n (dnL xs n m k) ∧ Fr lo hi w wr) (fun vk _ => (intOf vk).toNat)
    case atStart => exact ⟨m, by omega, Nat.le_refl _, rfl, by rw [dn_zero HL.out]; exact hm, hf⟩
    clear hm hf
    case round =>
      obtain ⟨j, k1, k2, rfl, hm, hf⟩ := hrel
      by_cases hlt : i < j
      · obtain ⟨k, rfl⟩ : ∃ k, j = k + 1 := ⟨j - 1, by omega⟩
        have t2 : (i : Int) < (k : Int) + 1 := by omega
        have t3 : (k : Int) < (n : Int) := by omega
        have t4 : (k : Int) + 1 < (n : Int) := by omega
        have t5 : (0 : Int) ≤ (k : Int) + 1 := by omega
        have t6 : ((k : Int) + 1).toNat = k + 1 := by omega
        have t7 : IntKind.i64.wrap (k : Int) = (k : Int) := by rw [IntKind.wrap_i64]; omega
        obtain ⟨bb, off, x, rfl, hlo, hhi, hcx, hx⟩ := hm.1.at_ (k := k + 1) (by omega)
        obtain ⟨bb', off', y, e', _, _, hcy, hy⟩ := hm.1.at_ (k := k) (by omega)
        obtain ⟨rfl, rfl⟩ : bb = bb' ∧ off = off' := by simpa using e'
        have hnow := dn_now (xs := xs) (n := n) (m := m) (k := k) (by omega) (by omega)
        have hx' : x = xs.getD m 0 := by rw [hx.out, hnow.1]
        have hy' : y = xs.getD k 0 := by rw [hy.out, hnow.2]
        have fx := hm.2 bb off rfl (k + 1) (by omega)
        have fy := hm.2 bb off rfl k (by omega)
        obtain ⟨m1, f1⟩ := hm.set_ (k := k + 1) (by omega) y
        obtain ⟨m2, f2⟩ := m1.set_ (k := k) (by omega) x
        rw [hx', hy', dn_step (by omega) (by omega), ← hx', ← hy'] at m2
        have M := hid m2
        have F := hid ((hf.trans f1).trans f2)
        clear m1 m2 f1 f2 hx hy hx' hy' hm hf e' hnow
        go_wp2_with fail
        go_region
        all_goals
          go_wp2_with fail
          go_roundw
          case rel => exact ⟨k, by omega, by omega, by go_num, M.out.drew, fr_drew1 F.out⟩
          case measure => simp [intOf] <;> omega
      · obtain rfl : i = j := by omega
        have t2 : ¬ (i : Int) < (i : Int) := by omega
        go_wp2_with fail
        first
        | exact bodyPost_end (v := .tuple #[]) (by simp [results, Try.results148, go_sem]) rfl ⟨rfl, _, hm, HE, hf⟩
        | exact bodyPost_ret (v := .tuple #[]) (by simp [results, Try.results148, go_sem]) rfl ⟨rfl, _, hm, HE, hf⟩
end Go.Proofs.Ytikmgohjgdojdaa
