/- Marks on releases of one's own, and what they hold afterwards: walks. -/
import Derived.Test.YtohjkpopbmmliaaGreatSepH
namespace Go.Proofs.YtohjkpopbmmliaaGreat
open Go.RowKit Go.Sort Go.Deep
set_option linter.unusedVariables false
set_option linter.unusedSimpArgs false
theorem rmk_succ (l : List RL) (j : Nat) : rmk l (j + 1) = rmk l j + (5 + 2 * (l.getD j rl0).2.1.length + tsz (l.getD j rl0).2.1 (l.getD j rl0).2.1.length) := rfl

set_option maxRecDepth 100000 in
set_option maxHeartbeats 12800000 in
theorem markReleaseS_sep {A : Option Addr} {lo hi n c : Nat} {l : List RL} {k0 : Int} {w : World} (h : RelsO w lo hi A n l) (h0 : 0 ≤ k0) (h1 : k0 ≤ 50000000) (hn : n + rlsz l n ≤ 1048576) :
    Calls Tryz.prog 45 #[.slice A n c, .int .i64 k0] w fun e w' => e = .returned (.int .i64 (k0 + (rmk l n : Nat))) ∧ RelsO w' lo hi A n (mkRs k0 l n) ∧ Fr lo hi w w' := by
  replace h := h.rows
  have hl := h.len
  have HS := hid (rmk_succ l)
  have HM := hid (fun k (hk : k ≤ n) => (show rmk l k ≤ 10000000 from by have h1 := rmk_le l k (by omega); have h2 := rlsz_mono (l := l) (i := k) (j := n) hk (by omega); omega))
  have HR := hid (fun k (hk : k < n) => (show (l.getD k rl0).2.1.length + tsz (l.getD k rl0).2.1 (l.getD k rl0).2.1.length ≤ 1048576 from by have h1 := rlsz_at hl k; unfold szRl at h1; omega))
  have HLN := hid hl
  clear hl
  go_enter Tryz.func45, Tryz.ntmps45
  go_wp2_with fail
  go_loopw [1, 5] (fun q i wr => ∃ (k : Nat) (z : Int), k ≤ n ∧ i = .int .i64 k ∧ q = .int .i64 z ∧ Hid (z = k0 + (rmk l k : Nat)) ∧ (0 ≤ z ∧ z ≤ 90000000) ∧ RelsO wr lo hi A n (mkRs k0 l k) ∧ Fr lo hi w wr) (fun _ i _ => n - (intOf i).toNat)
  case atStart => exact ⟨0, k0, Nat.zero_le _, rfl, rfl, hid (by simp [rmk]), by omega, h, Fr.refl _ _ _⟩
  case round =>
    obtain ⟨k, z, hk, rfl, rfl, HE, hz, hM, hf⟩ := hrel
    by_cases hlt : k < n
    · obtain ⟨b, off, L, U, rfl, hC⟩ := hM.rows.ex (by omega)
      obtain ⟨u, hu, hr⟩ := hC.row k hlt
      rw [mkRs_at _ _ (by rw [HLN.out]; exact hlt), if_neg (Nat.lt_irrefl _)] at hr
      have hsu := HS.out k
      have hbd := HM.out (k + 1) hlt
      have hbr := HR.out k hlt
      obtain ⟨r, hrr⟩ : ∃ r, l.getD k rl0 = r := ⟨_, rfl⟩
      rw [hrr] at hr hsu hbr
      have HP := hid hrr
      obtain ⟨P, cp, e0, e1, e2, e3, e4, e5, m⟩ := hr
      obtain ⟨v, hv⟩ : ∃ x, r.1 = x := ⟨_, rfl⟩
      obtain ⟨np, hnp⟩ : ∃ x, r.2.1.length = x := ⟨_, rfl⟩
      obtain ⟨x1, hx1⟩ : ∃ x, r.2.2.1 = x := ⟨_, rfl⟩
      obtain ⟨x2, hx2⟩ : ∃ x, r.2.2.2.1 = x := ⟨_, rfl⟩
      obtain ⟨x3, hx3⟩ : ∃ x, r.2.2.2.2.1 = x := ⟨_, rfl⟩
      obtain ⟨x4, hx4⟩ : ∃ x, r.2.2.2.2.2 = x := ⟨_, rfl⟩
      obtain ⟨ts, hts⟩ : ∃ x, tsz r.2.1 np = x := ⟨_, rfl⟩
      rw [hnp] at e1 m hsu hbr
      rw [hts] at hsu hbr
      rw [hv] at e0
      rw [hx1] at e2
      rw [hx2] at e3
      rw [hx3] at e4
      rw [hx4] at e5
      have HNP := hid hnp
      have HTS := hid hts
      have hiv := hC.iv k hlt
      have hbl := hC.bl
      have htp := hC.top
      have hi1 : (k : Int) < (n : Int) := by omega
      have HSU := hid hsu
      have hr4 := Nat.mul_le_mul_right 6 (show k + 1 ≤ n from hlt)
      rw [Nat.succ_mul] at hr4
      have c0 : wr.cell? ⟨b, off + k * 6, none⟩ = some (.int .i64 v) := by have := hu 0 (by omega); rw [e0] at this; exact this
      have c1 : wr.cell? ⟨b, off + k * 6 + 1, none⟩ = some (.slice P np cp) := by have := hu 1 (by omega); rw [e1] at this; exact this
      have c2 : wr.cell? ⟨b, off + k * 6 + 2, none⟩ = some (.int .i64 x1) := by have := hu 2 (by omega); rw [e2] at this; exact this
      have c3 : wr.cell? ⟨b, off + k * 6 + 3, none⟩ = some (.int .i64 x2) := by have := hu 3 (by omega); rw [e3] at this; exact this
      have c4 : wr.cell? ⟨b, off + k * 6 + 4, none⟩ = some (.int .i64 x3) := by have := hu 4 (by omega); rw [e4] at this; exact this
      have c5 : wr.cell? ⟨b, off + k * 6 + 5, none⟩ = some (.int .i64 x4) := by have := hu 5 (by omega); rw [e5] at this; exact this
      have z0 : wr.frozen? ⟨b, off + k * 6, none⟩ = false := hC.fz (k * 6) (by omega)
      have z2 : wr.frozen? ⟨b, off + k * 6 + 2, none⟩ = false := hC.fz (k * 6 + 2) (by omega)
      have z3 : wr.frozen? ⟨b, off + k * 6 + 3, none⟩ = false := hC.fz (k * 6 + 3) (by omega)
      have z4 : wr.frozen? ⟨b, off + k * 6 + 4, none⟩ = false := hC.fz (k * 6 + 4) (by omega)
      have z5 : wr.frozen? ⟨b, off + k * 6 + 5, none⟩ = false := hC.fz (k * 6 + 5) (by omega)
      have X1 := (Ch.refl wr b (off + k * 6) (off + k * 6 + 6) (L k) (U k)).set (i := off + k * 6) (by omega) (by omega) (.int .i64 z)
      have hbw : b < wr.heap.size := by omega
      have hbW : b < (wr.setCell ⟨b, off + k * 6, none⟩ (.int .i64 z)).heap.size := by simpa [World.setCell] using hbw
      have a0 := World.cell?_setCell_same _ _ (.int .i64 z) c0
      have a1 := (World.cell?_setCell_other wr ⟨b, off + k * 6, none⟩ ⟨b, off + k * 6 + 1, none⟩ (.int .i64 z) (by intro e; injection e with _ e; omega)).trans c1
      have a2 := (World.cell?_setCell_other wr ⟨b, off + k * 6, none⟩ ⟨b, off + k * 6 + 2, none⟩ (.int .i64 z) (by intro e; injection e with _ e; omega)).trans c2
      have a3 := (World.cell?_setCell_other wr ⟨b, off + k * 6, none⟩ ⟨b, off + k * 6 + 3, none⟩ (.int .i64 z) (by intro e; injection e with _ e; omega)).trans c3
      have a4 := (World.cell?_setCell_other wr ⟨b, off + k * 6, none⟩ ⟨b, off + k * 6 + 4, none⟩ (.int .i64 z) (by intro e; injection e with _ e; omega)).trans c4
      have a5 := (World.cell?_setCell_other wr ⟨b, off + k * 6, none⟩ ⟨b, off + k * 6 + 5, none⟩ (.int .i64 z) (by intro e; injection e with _ e; omega)).trans c5
      have Y2 := hid (show (wr.setCell ⟨b, off + k * 6, none⟩ (.int .i64 z)).frozen? ⟨b, off + k * 6 + 2, none⟩ = false by rw [World.frozen?_setCell]; exact z2)
      have Y3 := hid (show (wr.setCell ⟨b, off + k * 6, none⟩ (.int .i64 z)).frozen? ⟨b, off + k * 6 + 3, none⟩ = false by rw [World.frozen?_setCell]; exact z3)
      have Y4 := hid (show (wr.setCell ⟨b, off + k * 6, none⟩ (.int .i64 z)).frozen? ⟨b, off + k * 6 + 4, none⟩ = false by rw [World.frozen?_setCell]; exact z4)
      have Y5 := hid (show (wr.setCell ⟨b, off + k * 6, none⟩ (.int .i64 z)).frozen? ⟨b, off + k * 6 + 5, none⟩ = false by rw [World.frozen?_setCell]; exact z5)
      have m1 := m.fr RwT.ok (fr_one (p := b) (i := off + k * 6) (.int .i64 z)) (by omega)
      have HC := hid hC
      have A0 := hid a0
      have A2 := hid a2
      have A3 := hid a3
      have A4 := hid a4
      have A5 := hid a5
      have X1H := hid X1
      have HF := hid hf
      clear hC hM hu hr4 hbd hsu c1 c2 c3 c4 c5 z2 z3 z4 z5 m X1 a0 a2 a3 a4 a5 hf e0 e1 e2 e3 e4 e5 hv hx1 hx2 hx3 hx4
      go_wp2_with fail
      refine (markTableS_sep m1 (by omega) (by omega) (by rw [HTS.out]; exact hbr)).mono ?_
      rintro e w1 ⟨rfl, m2, f1⟩
      rw [HTS.out]
      have g0 := (f1.cell (p := ⟨b, off + k * 6, none⟩) hbW (by show b < _ ∨ _ ≤ b; omega)).trans A0.out
      have g1 := (f1.cell (p := ⟨b, off + k * 6 + 1, none⟩) hbW (by show b < _ ∨ _ ≤ b; omega)).trans a1
      have g2 := (f1.cell (p := ⟨b, off + k * 6 + 2, none⟩) hbW (by show b < _ ∨ _ ≤ b; omega)).trans A2.out
      have g3 := (f1.cell (p := ⟨b, off + k * 6 + 3, none⟩) hbW (by show b < _ ∨ _ ≤ b; omega)).trans A3.out
      have g4 := (f1.cell (p := ⟨b, off + k * 6 + 4, none⟩) hbW (by show b < _ ∨ _ ≤ b; omega)).trans A4.out
      have g5 := (f1.cell (p := ⟨b, off + k * 6 + 5, none⟩) hbW (by show b < _ ∨ _ ≤ b; omega)).trans A5.out
      have y2 := (f1.frozen (p := ⟨b, off + k * 6 + 2, none⟩) hbW (by show b < _ ∨ _ ≤ b; omega)).trans Y2.out
      have y3 := (f1.frozen (p := ⟨b, off + k * 6 + 3, none⟩) hbW (by show b < _ ∨ _ ≤ b; omega)).trans Y3.out
      have y4 := (f1.frozen (p := ⟨b, off + k * 6 + 4, none⟩) hbW (by show b < _ ∨ _ ≤ b; omega)).trans Y4.out
      have y5 := (f1.frozen (p := ⟨b, off + k * 6 + 5, none⟩) hbW (by show b < _ ∨ _ ≤ b; omega)).trans Y5.out
      have X2 := X1H.out.fr f1 (Nat.le_refl _) (Nat.le_refl _) hiv.2.2 hbw
      have hb1 := Nat.lt_of_lt_of_le hbW f1.size
      obtain ⟨z', hz'⟩ : ∃ z', z + 1 + (2 * (np : Int) + (ts : Int)) = z' := ⟨_, rfl⟩
      have hz9 : 0 ≤ z' ∧ z' ≤ 300000000 := by omega
      rw [hz']
      have HZ' := hid hz'
      clear hz' m1 f1 a1 c0 z0 hbW X1H A0 A2 A3 A4 A5 Y2 Y3 Y4 Y5
      have X3 := X2.set (i := off + k * 6 + 2) (by omega) (by omega) (.int .i64 (z'))
      have X4 := X3.set (i := off + k * 6 + 3) (by omega) (by omega) (.int .i64 (z' + 1))
      have X5 := X4.set (i := off + k * 6 + 4) (by omega) (by omega) (.int .i64 (z' + 1 + 1))
      have X6 := X5.set (i := off + k * 6 + 5) (by omega) (by omega) (.int .i64 (z' + 1 + 1 + 1))
      have p0_0 := (World.cell?_setCell_other w1 ⟨b, off + k * 6 + 2, none⟩ ⟨b, off + k * 6, none⟩ (.int .i64 (z')) (by intro e; injection e with _ e; omega)).trans g0
      have p0_1 := (World.cell?_setCell_other w1 ⟨b, off + k * 6 + 2, none⟩ ⟨b, off + k * 6 + 1, none⟩ (.int .i64 (z')) (by intro e; injection e with _ e; omega)).trans g1
      have p0_2 := World.cell?_setCell_same _ _ (.int .i64 (z')) g2
      have p0_3 := (World.cell?_setCell_other w1 ⟨b, off + k * 6 + 2, none⟩ ⟨b, off + k * 6 + 3, none⟩ (.int .i64 (z')) (by intro e; injection e with _ e; omega)).trans g3
      have p0_4 := (World.cell?_setCell_other w1 ⟨b, off + k * 6 + 2, none⟩ ⟨b, off + k * 6 + 4, none⟩ (.int .i64 (z')) (by intro e; injection e with _ e; omega)).trans g4
      have p0_5 := (World.cell?_setCell_other w1 ⟨b, off + k * 6 + 2, none⟩ ⟨b, off + k * 6 + 5, none⟩ (.int .i64 (z')) (by intro e; injection e with _ e; omega)).trans g5
      have q0_3 : (w1.setCell ⟨b, off + k * 6 + 2, none⟩ (.int .i64 (z'))).frozen? ⟨b, off + k * 6 + 3, none⟩ = false := by rw [World.frozen?_setCell]; exact y3
      have q0_4 : (w1.setCell ⟨b, off + k * 6 + 2, none⟩ (.int .i64 (z'))).frozen? ⟨b, off + k * 6 + 4, none⟩ = false := by rw [World.frozen?_setCell]; exact y4
      have q0_5 : (w1.setCell ⟨b, off + k * 6 + 2, none⟩ (.int .i64 (z'))).frozen? ⟨b, off + k * 6 + 5, none⟩ = false := by rw [World.frozen?_setCell]; exact y5
      have p1_0 := (World.cell?_setCell_other (w1.setCell ⟨b, off + k * 6 + 2, none⟩ (.int .i64 (z'))) ⟨b, off + k * 6 + 3, none⟩ ⟨b, off + k * 6, none⟩ (.int .i64 (z' + 1)) (by intro e; injection e with _ e; omega)).trans p0_0
      have p1_1 := (World.cell?_setCell_other (w1.setCell ⟨b, off + k * 6 + 2, none⟩ (.int .i64 (z'))) ⟨b, off + k * 6 + 3, none⟩ ⟨b, off + k * 6 + 1, none⟩ (.int .i64 (z' + 1)) (by intro e; injection e with _ e; omega)).trans p0_1
      have p1_2 := (World.cell?_setCell_other (w1.setCell ⟨b, off + k * 6 + 2, none⟩ (.int .i64 (z'))) ⟨b, off + k * 6 + 3, none⟩ ⟨b, off + k * 6 + 2, none⟩ (.int .i64 (z' + 1)) (by intro e; injection e with _ e; omega)).trans p0_2
      have p1_3 := World.cell?_setCell_same _ _ (.int .i64 (z' + 1)) p0_3
      have p1_4 := (World.cell?_setCell_other (w1.setCell ⟨b, off + k * 6 + 2, none⟩ (.int .i64 (z'))) ⟨b, off + k * 6 + 3, none⟩ ⟨b, off + k * 6 + 4, none⟩ (.int .i64 (z' + 1)) (by intro e; injection e with _ e; omega)).trans p0_4
      have p1_5 := (World.cell?_setCell_other (w1.setCell ⟨b, off + k * 6 + 2, none⟩ (.int .i64 (z'))) ⟨b, off + k * 6 + 3, none⟩ ⟨b, off + k * 6 + 5, none⟩ (.int .i64 (z' + 1)) (by intro e; injection e with _ e; omega)).trans p0_5
      have q1_4 : ((w1.setCell ⟨b, off + k * 6 + 2, none⟩ (.int .i64 (z'))).setCell ⟨b, off + k * 6 + 3, none⟩ (.int .i64 (z' + 1))).frozen? ⟨b, off + k * 6 + 4, none⟩ = false := by rw [World.frozen?_setCell]; exact q0_4
      have q1_5 : ((w1.setCell ⟨b, off + k * 6 + 2, none⟩ (.int .i64 (z'))).setCell ⟨b, off + k * 6 + 3, none⟩ (.int .i64 (z' + 1))).frozen? ⟨b, off + k * 6 + 5, none⟩ = false := by rw [World.frozen?_setCell]; exact q0_5
      have p2_0 := (World.cell?_setCell_other ((w1.setCell ⟨b, off + k * 6 + 2, none⟩ (.int .i64 (z'))).setCell ⟨b, off + k * 6 + 3, none⟩ (.int .i64 (z' + 1))) ⟨b, off + k * 6 + 4, none⟩ ⟨b, off + k * 6, none⟩ (.int .i64 (z' + 1 + 1)) (by intro e; injection e with _ e; omega)).trans p1_0
      have p2_1 := (World.cell?_setCell_other ((w1.setCell ⟨b, off + k * 6 + 2, none⟩ (.int .i64 (z'))).setCell ⟨b, off + k * 6 + 3, none⟩ (.int .i64 (z' + 1))) ⟨b, off + k * 6 + 4, none⟩ ⟨b, off + k * 6 + 1, none⟩ (.int .i64 (z' + 1 + 1)) (by intro e; injection e with _ e; omega)).trans p1_1
      have p2_2 := (World.cell?_setCell_other ((w1.setCell ⟨b, off + k * 6 + 2, none⟩ (.int .i64 (z'))).setCell ⟨b, off + k * 6 + 3, none⟩ (.int .i64 (z' + 1))) ⟨b, off + k * 6 + 4, none⟩ ⟨b, off + k * 6 + 2, none⟩ (.int .i64 (z' + 1 + 1)) (by intro e; injection e with _ e; omega)).trans p1_2
      have p2_3 := (World.cell?_setCell_other ((w1.setCell ⟨b, off + k * 6 + 2, none⟩ (.int .i64 (z'))).setCell ⟨b, off + k * 6 + 3, none⟩ (.int .i64 (z' + 1))) ⟨b, off + k * 6 + 4, none⟩ ⟨b, off + k * 6 + 3, none⟩ (.int .i64 (z' + 1 + 1)) (by intro e; injection e with _ e; omega)).trans p1_3
      have p2_4 := World.cell?_setCell_same _ _ (.int .i64 (z' + 1 + 1)) p1_4
      have p2_5 := (World.cell?_setCell_other ((w1.setCell ⟨b, off + k * 6 + 2, none⟩ (.int .i64 (z'))).setCell ⟨b, off + k * 6 + 3, none⟩ (.int .i64 (z' + 1))) ⟨b, off + k * 6 + 4, none⟩ ⟨b, off + k * 6 + 5, none⟩ (.int .i64 (z' + 1 + 1)) (by intro e; injection e with _ e; omega)).trans p1_5
      have q2_5 : (((w1.setCell ⟨b, off + k * 6 + 2, none⟩ (.int .i64 (z'))).setCell ⟨b, off + k * 6 + 3, none⟩ (.int .i64 (z' + 1))).setCell ⟨b, off + k * 6 + 4, none⟩ (.int .i64 (z' + 1 + 1))).frozen? ⟨b, off + k * 6 + 5, none⟩ = false := by rw [World.frozen?_setCell]; exact q1_5
      have p3_0 := (World.cell?_setCell_other (((w1.setCell ⟨b, off + k * 6 + 2, none⟩ (.int .i64 (z'))).setCell ⟨b, off + k * 6 + 3, none⟩ (.int .i64 (z' + 1))).setCell ⟨b, off + k * 6 + 4, none⟩ (.int .i64 (z' + 1 + 1))) ⟨b, off + k * 6 + 5, none⟩ ⟨b, off + k * 6, none⟩ (.int .i64 (z' + 1 + 1 + 1)) (by intro e; injection e with _ e; omega)).trans p2_0
      have p3_1 := (World.cell?_setCell_other (((w1.setCell ⟨b, off + k * 6 + 2, none⟩ (.int .i64 (z'))).setCell ⟨b, off + k * 6 + 3, none⟩ (.int .i64 (z' + 1))).setCell ⟨b, off + k * 6 + 4, none⟩ (.int .i64 (z' + 1 + 1))) ⟨b, off + k * 6 + 5, none⟩ ⟨b, off + k * 6 + 1, none⟩ (.int .i64 (z' + 1 + 1 + 1)) (by intro e; injection e with _ e; omega)).trans p2_1
      have p3_2 := (World.cell?_setCell_other (((w1.setCell ⟨b, off + k * 6 + 2, none⟩ (.int .i64 (z'))).setCell ⟨b, off + k * 6 + 3, none⟩ (.int .i64 (z' + 1))).setCell ⟨b, off + k * 6 + 4, none⟩ (.int .i64 (z' + 1 + 1))) ⟨b, off + k * 6 + 5, none⟩ ⟨b, off + k * 6 + 2, none⟩ (.int .i64 (z' + 1 + 1 + 1)) (by intro e; injection e with _ e; omega)).trans p2_2
      have p3_3 := (World.cell?_setCell_other (((w1.setCell ⟨b, off + k * 6 + 2, none⟩ (.int .i64 (z'))).setCell ⟨b, off + k * 6 + 3, none⟩ (.int .i64 (z' + 1))).setCell ⟨b, off + k * 6 + 4, none⟩ (.int .i64 (z' + 1 + 1))) ⟨b, off + k * 6 + 5, none⟩ ⟨b, off + k * 6 + 3, none⟩ (.int .i64 (z' + 1 + 1 + 1)) (by intro e; injection e with _ e; omega)).trans p2_3
      have p3_4 := (World.cell?_setCell_other (((w1.setCell ⟨b, off + k * 6 + 2, none⟩ (.int .i64 (z'))).setCell ⟨b, off + k * 6 + 3, none⟩ (.int .i64 (z' + 1))).setCell ⟨b, off + k * 6 + 4, none⟩ (.int .i64 (z' + 1 + 1))) ⟨b, off + k * 6 + 5, none⟩ ⟨b, off + k * 6 + 4, none⟩ (.int .i64 (z' + 1 + 1 + 1)) (by intro e; injection e with _ e; omega)).trans p2_4
      have p3_5 := World.cell?_setCell_same _ _ (.int .i64 (z' + 1 + 1 + 1)) p2_5
      have m6 := ((((m2.fr RwT.ok (fr_one (p := b) (i := off + k * 6 + 2) (.int .i64 (z'))) (by omega)).fr RwT.ok (fr_one (p := b) (i := off + k * 6 + 3) (.int .i64 (z' + 1))) (by omega)).fr RwT.ok (fr_one (p := b) (i := off + k * 6 + 4) (.int .i64 (z' + 1 + 1))) (by omega)).fr RwT.ok (fr_one (p := b) (i := off + k * 6 + 5) (.int .i64 (z' + 1 + 1 + 1))) (by omega))
      have PUT := HC.out.put RwR.ok hlt (a' := mkR z r) (u' := Go.Proofs.YtohjkpopbmmliaaGreat.u6 (.int .i64 z) (.slice P np cp) (.int .i64 z') (.int .i64 (z' + 1)) (.int .i64 (z' + 1 + 1)) (.int .i64 (z' + 1 + 1 + 1))) X6
        (fun i hi => match i, hi with
          | 0, _ => p3_0
          | 1, _ => p3_1
          | 2, _ => p3_2
          | 3, _ => p3_3
          | 4, _ => p3_4
          | 5, _ => p3_5)
        (RwR.mk_ HNP.out (by have := HZ'.out; rw [HTS.out]; omega) rfl rfl rfl rfl rfl rfl m6)
      have NM := hid (show RelsO ((((w1.setCell ⟨b, off + k * 6 + 2, none⟩ (.int .i64 (z'))).setCell ⟨b, off + k * 6 + 3, none⟩ (.int .i64 (z' + 1))).setCell ⟨b, off + k * 6 + 4, none⟩ (.int .i64 (z' + 1 + 1))).setCell ⟨b, off + k * 6 + 5, none⟩ (.int .i64 (z' + 1 + 1 + 1))) lo hi (some ⟨b, off, none⟩) n (mkRs k0 l (k + 1)) by
        unfold mkRs; rw [← HE.out, HP.out]; exact PUT.1.rowsM)
      have NF := hid (HF.out.trans PUT.2)
      have HN := hid (show z' + 1 + 1 + 1 + 1 = k0 + ((rmk l (k + 1) : Nat) : Int) by have := HE.out; have := HZ'.out; have := HSU.out; omega)
      have HB := hid (show 0 ≤ z' + 1 + 1 + 1 + 1 ∧ z' + 1 + 1 + 1 + 1 ≤ 90000000 by have := HN.out; have := HM.out (k + 1) hlt; omega)
      clear PUT X2 X3 X4 X5 X6 m2 m6 HC hbr
      clear g0 g1 g3 g4 g5 p0_0 p0_1 p0_2 p0_4 p0_5 p1_0 p1_1 p1_2 p1_3 p1_5 p2_0 p2_1 p2_2 p2_3 p2_4 p3_0 p3_1 p3_2 p3_3 p3_4 p3_5
      go_wp2_with fail
      go_roundw
      case rel => exact ⟨k + 1, _, by omega, by go_num, rfl, HN, HB.out, NM.out, NF.out⟩
      case measure => simp [intOf]; omega
    · obtain rfl : k = n := by omega
      go_wp2
      go_ret
      exact ⟨ret_int HE.out, hM, hf⟩
set_option maxRecDepth 100000 in
set_option maxHeartbeats 6400000 in
theorem heldReleaseS_any {A : Option Addr} {lo hi n c : Nat} {un : Bool} {l : List RL} {k0 : Int} {w : World} (h : Rels true un w lo hi A n (mkRs k0 l n)) (h0 : 0 ≤ k0) (h1 : k0 ≤ 50000000) (hn : n + rlsz l n ≤ 1048576) :
    Calls Tryz.prog 46 #[.slice A n c, .int .i64 k0] w fun e w' => e = .returned (.int .i64 (k0 + (rmk l n : Nat))) ∧ w = w' := by
  have hl : l.length = n := by have := h.len; rwa [mkRs_len] at this
  have HS := hid (rmk_succ l)
  have HM := hid (fun k (hk : k ≤ n) => (show rmk l k ≤ 10000000 from by have h1 := rmk_le l k (by omega); have h2 := rlsz_mono (l := l) (i := k) (j := n) hk (by omega); omega))
  have HR := hid (fun k (hk : k < n) => (show (l.getD k rl0).2.1.length + tsz (l.getD k rl0).2.1 (l.getD k rl0).2.1.length ≤ 1048576 from by have h1 := rlsz_at hl k; unfold szRl at h1; omega))
  have HLN := hid hl
  clear hl
  go_enter Tryz.func46, Tryz.ntmps46
  go_wp2_with fail
  go_loopw [1, 5] (fun q i wr => ∃ (k : Nat) (z : Int), k ≤ n ∧ i = .int .i64 k ∧ q = .int .i64 z ∧ Hid (z = k0 + (rmk l k : Nat)) ∧ (0 ≤ z ∧ z ≤ 90000000) ∧ wr = w) (fun _ i _ => n - (intOf i).toNat)
  case atStart => exact ⟨0, k0, Nat.zero_le _, rfl, rfl, hid (by simp [rmk]), by omega, rfl⟩
  case round =>
    obtain ⟨k, z, hk, rfl, rfl, HE, hz, rfl⟩ := hrel
    by_cases hlt : k < n
    · obtain ⟨b, off, v, P, np, cp, x1, x2, x3, x4, pl, rfl, _, _, hc0, hc1, hc2, hc3, hc4, hc5, ht, hx⟩ := h.at_ hlt
      have hx9 := hx.out
      rw [mkRs_at _ _ (by rw [HLN.out]; exact hlt), if_pos hlt, ← HE.out] at hx9
      have hbr := HR.out k hlt
      have hsu := HS.out k
      have hbd := HM.out (k + 1) hlt
      obtain ⟨r, hrr⟩ : ∃ r, l.getD k rl0 = r := ⟨_, rfl⟩
      rw [hrr] at hbr hsu hx9
      unfold mkR at hx9
      injection hx9 with y0 hx9
      injection hx9 with y1 hx9
      injection hx9 with y2 hx9
      injection hx9 with y3 hx9
      injection hx9 with y4 y5
      have hnp := ht.len
      have e1 := congrArg List.length y1
      rw [hnp, mkTs_len] at e1
      rw [← e1] at y1 y2 y3 y4 y5 hsu hbr
      subst y0 y1
      obtain ⟨ts, hts⟩ : ∃ x, tsz r.2.1 np = x := ⟨_, rfl⟩
      rw [hts] at hsu hbr y2 y3 y4 y5
      have HTS := hid hts
      clear hts
      have hi1 : (k : Int) < (n : Int) := by omega
      have HNS := hid (show v + 1 + (2 * (np : Int) + ts) + 1 + 1 + 1 + 1 = k0 + ((rmk l (k + 1) : Nat) : Int) by have := HE.out; omega)
      obtain ⟨z', hz'⟩ : ∃ z', v + 1 + (2 * (np : Int) + ts) = z' := ⟨_, rfl⟩
      rw [hz'] at HNS y2 y3 y4 y5
      have hz9 : 0 ≤ z' ∧ z' ≤ 300000000 := by omega
      have HB := hid (show 0 ≤ z' + 1 + 1 + 1 + 1 ∧ z' + 1 + 1 + 1 + 1 ≤ 90000000 by have := HNS.out; omega)
      have t1 : (v != v) = false := by simp
      have t2 : ¬ (z' < 0) := by omega
      have t3 : (x1 != z') = false := by rw [y2]; simp
      have t4 : (x2 != z' + 1) = false := by rw [y3]; simp
      have t5 : (x3 != z' + 1 + 1) = false := by rw [bne_eq_false_iff_eq]; omega
      have t6 : (x4 != z' + 1 + 1 + 1) = false := by rw [bne_eq_false_iff_eq]; omega
      have HZ' := hid hz'
      have HT := hid ht
      have HBR := hid hbr
      clear hz' ht hx hsu hbd y2 y3 y4 y5 hnp hbr e1
      go_wp2_with fail
      refine (heldTableS_any HT.out (by omega) (by omega) (by rw [HTS.out]; exact HBR.out)).mono ?_
      rintro e w1 ⟨rfl, rfl⟩
      rw [HTS.out, HZ'.out]
      go_wp2_with fail
      go_roundw
      case rel => exact ⟨k + 1, _, by omega, by go_num, rfl, HNS, HB.out, by trivial⟩
      case measure => simp [intOf]; omega
    · obtain rfl : k = n := by omega
      go_wp2
      go_ret
      exact ⟨ret_int HE.out, rfl⟩
end Go.Proofs.YtohjkpopbmmliaaGreat
