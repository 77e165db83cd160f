/- Marks on slices of structs of one's own, and what they hold afterwards: walks. -/
import Derived.Test.YtohjkpopbmmliaaGreatSep
namespace Go.Proofs.YtohjkpopbmmliaaGreat
open Go.RowKit Go.Sort Go.Deep
set_option linter.unusedVariables false
set_option linter.unusedSimpArgs false

theorem RwT.mk_ {w : World} {lo hi nv nh cv ch : Nat} {V H : Option Addr} {k s : Int} {t : TT} {u : Nat → Value} (hv : t.2.1.length = nv) (hh : t.2.2.1.length = nh) (hs : s = k + 1 + nv + nh)
    (h0 : u 0 = .int .i64 k) (h1 : u 1 = .slice V nv cv) (h2 : u 2 = .slice H nh ch) (h3 : u 3 = .int .i64 s) (m : TwM w lo hi V nv (iota (k + 1) nv) H nh (iota (k + 1 + nv) nh)) : RwT w lo hi u (mkT k t) := by
  subst hv hh hs
  refine ⟨V, cv, H, ch, h0, ?_, ?_, h3, ?_⟩
  · rw [h1]; simp [mkT, iota_len]
  · rw [h2]; simp [mkT, iota_len]
  · simpa [mkT, iota_len] using m
theorem RwP.mk_ {w : World} {lo hi nv nh nk cv ch ck : Nat} {V H K : Option Addr} {k s : Int} {p : PP} {u : Nat → Value} (hv : p.1.2.1.length = nv) (hh : p.1.2.2.1.length = nh) (hk : p.2.length = nk) (hs : s = k + 1 + nv + nh)
    (h0 : u 0 = .int .i64 k) (h1 : u 1 = .slice V nv cv) (h2 : u 2 = .slice H nh ch) (h3 : u 3 = .int .i64 s) (h4 : u 4 = .slice K nk ck) (m : ThM w lo hi V nv (iota (k + 1) nv) H nh (iota (k + 1 + nv) nh) K nk (iota (s + 1) nk)) : RwP w lo hi u (mkP k p) := by
  subst hv hh hk hs
  refine ⟨V, cv, H, ch, K, ck, h0, ?_, ?_, h3, ?_, ?_⟩
  · rw [h1]; simp [mkP, mkT, iota_len]
  · rw [h2]; simp [mkP, mkT, iota_len]
  · rw [h4]; simp [mkP, iota_len]
  · simp only [mkP, mkT, iota_len]
    rwa [show k + 2 + (p.1.2.1.length : Int) + p.1.2.2.1.length = k + 1 + p.1.2.1.length + p.1.2.2.1.length + 1 by omega]
theorem RwR.mk_ {w : World} {lo hi np cp : Nat} {P : Option Addr} {k q : Int} {r : RL} {u : Nat → Value} (hp : r.2.1.length = np) (hq : q = k + 1 + (2 * np + tsz r.2.1 np))
    (h0 : u 0 = .int .i64 k) (h1 : u 1 = .slice P np cp) (h2 : u 2 = .int .i64 q) (h3 : u 3 = .int .i64 (q + 1)) (h4 : u 4 = .int .i64 (q + 1 + 1)) (h5 : u 5 = .int .i64 (q + 1 + 1 + 1)) (m : RowsM 4 t0 RwT w lo hi P np (mkTs (k + 1) r.2.1 np)) : RwR w lo hi u (mkR k r) := by
  subst hp hq
  refine ⟨P, cp, h0, ?_, h2, h3, ?_, ?_, ?_⟩
  · rw [h1]; simp [mkR, mkTs_len]
  · rw [h4]; simp only [mkR]; congr 1; omega
  · rw [h5]; simp only [mkR]; congr 1; omega
  · simpa [mkR, mkTs_len] using m
def u4 (a b c d : Value) : Nat → Value
  | 0 => a
  | 1 => b
  | 2 => c
  | _ => d
def u5 (a b c d e : Value) : Nat → Value
  | 0 => a
  | 1 => b
  | 2 => c
  | 3 => d
  | _ => e
def u6 (a b c d e f : Value) : Nat → Value
  | 0 => a
  | 1 => b
  | 2 => c
  | 3 => d
  | 4 => e
  | _ => f

set_option maxRecDepth 100000 in
set_option maxHeartbeats 6400000 in
theorem markTableS_sep {A : Option Addr} {lo hi n c : Nat} {l : List TT} {k0 : Int} {w : World} (h : RowsM 4 t0 RwT w lo hi A n l) (h0 : 0 ≤ k0) (h1 : k0 ≤ 100000000) (hn : n + tsz l n ≤ 1048576) :
    Calls Tryz.prog 38 #[.slice A n c, .int .i64 k0] w fun e w' => e = .returned (.int .i64 (k0 + (2 * n + tsz l n))) ∧ RowsM 4 t0 RwT w' lo hi A n (mkTs k0 l n) ∧ Fr lo hi w w' := by
  have hl := h.len
  have HS := hid (fun k (hk : k < n) => tsz_succ (l := l) (k := k) (by omega))
  have HM := hid (fun k (hk : k ≤ n) => tsz_mono (l := l) (i := k) (j := n) hk (by omega))
  have HZ := hid (tsz_zero l)
  have HLN := hid hl
  clear hl
  go_enter Tryz.func38, Tryz.ntmps38
  go_wp2_with fail
  go_loopw [1, 5] (fun q i wr => ∃ (k : Nat) (z : Int), k ≤ n ∧ i = .int .i64 k ∧ q = .int .i64 z ∧ Hid (z = k0 + (2 * k + tsz l k)) ∧ (0 ≤ z ∧ z ≤ 200000000) ∧ RowsM 4 t0 RwT wr lo hi A n (mkTs k0 l k) ∧ Fr lo hi w wr) (fun _ i _ => n - (intOf i).toNat)
  case atStart => exact ⟨0, k0, Nat.zero_le _, rfl, rfl, hid (by rw [HZ.out]; simp), by omega, h, Fr.refl _ _ _⟩
  case round =>
    obtain ⟨k, z, hk, rfl, rfl, HE, hz, hM, hf⟩ := hrel
    by_cases hlt : k < n
    · obtain ⟨b, off, L, U, rfl, hC⟩ := hM.ex (by omega)
      obtain ⟨u, hu, hr⟩ := hC.row k hlt
      rw [mkTs_at _ _ (by rw [HLN.out]; exact hlt), if_neg (Nat.lt_irrefl _)] at hr
      have hsu := HS.out k hlt
      unfold szT at hsu
      obtain ⟨t, ht⟩ : ∃ t, l.getD k t0 = t := ⟨_, rfl⟩
      rw [ht] at hr hsu
      have HT := hid ht
      obtain ⟨V, cv, H, ch, e0, e1, e2, e3, m⟩ := hr
      obtain ⟨nv, hnv⟩ : ∃ x, t.2.1.length = x := ⟨_, rfl⟩
      obtain ⟨nh, hnh⟩ : ∃ x, t.2.2.1.length = x := ⟨_, rfl⟩
      rw [hnv] at e1 m hsu
      rw [hnh] at e2 m hsu
      obtain ⟨_, l1, h1_, l2, h2_, q1, q2, q3, q4, d1, mv, mh⟩ := m
      have hiv := hC.iv k hlt
      have hbl := hC.bl
      have htp := hC.top
      have hi1 : (k : Int) < (n : Int) := by omega
      have hbd := HM.out (k + 1) hlt
      have HSU := hid hsu
      have hnv9 : nv + nh ≤ 1048576 := by omega
      have hr4 := Nat.mul_le_mul_right 4 (show k + 1 ≤ n from hlt)
      rw [Nat.succ_mul] at hr4
      have c0 : wr.cell? ⟨b, off + k * 4, none⟩ = some (.int .i64 t.1) := by have := hu 0 (by omega); rwa [e0] at this
      have c1 : wr.cell? ⟨b, off + k * 4 + 1, none⟩ = some (.slice V nv cv) := by have := hu 1 (by omega); rw [e1] at this; exact this
      have c2 : wr.cell? ⟨b, off + k * 4 + 2, none⟩ = some (.slice H nh ch) := by have := hu 2 (by omega); rw [e2] at this; exact this
      have c3 : wr.cell? ⟨b, off + k * 4 + 3, none⟩ = some (.int .i64 t.2.2.2) := by have := hu 3 (by omega); rw [e3] at this; exact this
      have z0 : wr.frozen? ⟨b, off + k * 4, none⟩ = false := hC.fz (k * 4) (by omega)
      have z3 : wr.frozen? ⟨b, off + k * 4 + 3, none⟩ = false := hC.fz (k * 4 + 3) (by omega)
      have X1 := (Ch.refl wr b (off + k * 4) (off + k * 4 + 4) (L k) (U k)).set (i := off + k * 4) (by omega) (by omega) (.int .i64 z)
      have hbw : b < wr.heap.size := by omega
      have hbW : b < (wr.setCell ⟨b, off + k * 4, none⟩ (.int .i64 z)).heap.size := by simpa [World.setCell] using hbw
      have a0 := World.cell?_setCell_same _ _ (.int .i64 z) c0
      have a1 := (World.cell?_setCell_other wr ⟨b, off + k * 4, none⟩ ⟨b, off + k * 4 + 1, none⟩ (.int .i64 z) (by intro e; injection e with _ e; omega)).trans c1
      have a2 := (World.cell?_setCell_other wr ⟨b, off + k * 4, none⟩ ⟨b, off + k * 4 + 2, none⟩ (.int .i64 z) (by intro e; injection e with _ e; omega)).trans c2
      have a3 := (World.cell?_setCell_other wr ⟨b, off + k * 4, none⟩ ⟨b, off + k * 4 + 3, none⟩ (.int .i64 z) (by intro e; injection e with _ e; omega)).trans c3
      have y3 : (wr.setCell ⟨b, off + k * 4, none⟩ (.int .i64 z)).frozen? ⟨b, off + k * 4 + 3, none⟩ = false := by rw [World.frozen?_setCell]; exact z3
      have mv1 := mv.fr (fr_one (p := b) (i := off + k * 4) (.int .i64 z)) (by omega)
      have mh1 := mh.fr (fr_one (p := b) (i := off + k * 4) (.int .i64 z)) (by omega)
      have HC := hid hC
      have A0 := hid a0
      have A2 := hid a2
      have A3 := hid a3
      have Y3 := hid y3
      have X1H := hid X1
      have HF := hid hf
      clear hC hM hu hr4 hbd hsu c1 c2 c3 z3 mv mh X1 a0 a2 a3 y3 hf hnv9 e0 e1 e2 e3
      go_wp2_with fail
      refine (markIntS_any mv1 (by omega) (by omega)).mono ?_
      rintro e w1 ⟨rfl, mv2, f1⟩
      have g0 := (f1.cell (p := ⟨b, off + k * 4, none⟩) hbW (by show b < _ ∨ _ ≤ b; omega)).trans A0.out
      have g1 := (f1.cell (p := ⟨b, off + k * 4 + 1, none⟩) hbW (by show b < _ ∨ _ ≤ b; omega)).trans a1
      have g2 := (f1.cell (p := ⟨b, off + k * 4 + 2, none⟩) hbW (by show b < _ ∨ _ ≤ b; omega)).trans A2.out
      have g3 := (f1.cell (p := ⟨b, off + k * 4 + 3, none⟩) hbW (by show b < _ ∨ _ ≤ b; omega)).trans A3.out
      have y3 := (f1.frozen (p := ⟨b, off + k * 4 + 3, none⟩) hbW (by show b < _ ∨ _ ≤ b; omega)).trans Y3.out
      have mh2 := mh1.fr f1 (by omega)
      have X2 := hid (X1H.out.fr f1 q1 q2 hiv.2.2 hbw)
      have hb1 := Nat.lt_of_lt_of_le hbW f1.size
      have HSU2 := HSU.out
      have hbd := HM.out (k + 1) hlt
      have hnv9 : nv + nh ≤ 1048576 := by omega
      obtain ⟨z', hz'⟩ : ∃ z', z + 1 + (nv : Int) = z' := ⟨_, rfl⟩
      rw [hz']
      have hz9 : 0 ≤ z' ∧ z' ≤ 300000000 := by omega
      have HZ' := hid hz'
      have MV2 := hid mv2
      have G0 := hid g0
      have G1 := hid g1
      have G3 := hid g3
      have Y4 := hid y3
      clear hz' mv1 mh1 f1 a1 c0 z0 hbW X1H HSU2 hbd mv2 g0 g1 g3 y3
      go_wp2_with fail
      refine (markIntS_any mh2 (by omega) (by omega)).mono ?_
      rintro e w2 ⟨rfl, mh3, f2⟩
      have k0_ := (f2.cell (p := ⟨b, off + k * 4, none⟩) hb1 (by show b < _ ∨ _ ≤ b; omega)).trans G0.out
      have k1_ := (f2.cell (p := ⟨b, off + k * 4 + 1, none⟩) hb1 (by show b < _ ∨ _ ≤ b; omega)).trans G1.out
      have k2_ := (f2.cell (p := ⟨b, off + k * 4 + 2, none⟩) hb1 (by show b < _ ∨ _ ≤ b; omega)).trans g2
      have k3_ := (f2.cell (p := ⟨b, off + k * 4 + 3, none⟩) hb1 (by show b < _ ∨ _ ≤ b; omega)).trans G3.out
      have y5 := (f2.frozen (p := ⟨b, off + k * 4 + 3, none⟩) hb1 (by show b < _ ∨ _ ≤ b; omega)).trans Y4.out
      have mv3 := MV2.out.fr f2 (by omega)
      have X3 := X2.out.fr f2 q3 q4 hiv.2.2 hbw
      obtain ⟨z2, hz2⟩ : ∃ z2, z' + (nh : Int) = z2 := ⟨_, rfl⟩
      rw [hz2]
      have hz8 : 0 ≤ z2 ∧ z2 ≤ 400000000 := by omega
      have X4 := X3.set (i := off + k * 4 + 3) (by omega) (by omega) (.int .i64 z2)
      have mv4 := mv3.fr (fr_one (p := b) (i := off + k * 4 + 3) (.int .i64 z2)) (by omega)
      have mh4 := mh3.fr (fr_one (p := b) (i := off + k * 4 + 3) (.int .i64 z2)) (by omega)
      have PUT := HC.out.put RwT.ok hlt (a' := mkT z t) (u' := u4 (.int .i64 z) (.slice V nv cv) (.slice H nh ch) (.int .i64 z2)) X4
        (fun i hi => match i, hi with
          | 0, _ => (World.cell?_setCell_other w2 ⟨b, off + k * 4 + 3, none⟩ ⟨b, off + k * 4, none⟩ (.int .i64 z2) (by intro e; injection e with _ e; omega)).trans k0_
          | 1, _ => (World.cell?_setCell_other w2 ⟨b, off + k * 4 + 3, none⟩ ⟨b, off + k * 4 + 1, none⟩ (.int .i64 z2) (by intro e; injection e with _ e; omega)).trans k1_
          | 2, _ => (World.cell?_setCell_other w2 ⟨b, off + k * 4 + 3, none⟩ ⟨b, off + k * 4 + 2, none⟩ (.int .i64 z2) (by intro e; injection e with _ e; omega)).trans k2_
          | 3, _ => World.cell?_setCell_same _ _ _ k3_)
        (RwT.mk_ hnv hnh (by have := HZ'.out; omega) rfl rfl rfl rfl ⟨by have := X4.size; omega, l1, h1_, l2, h2_, q1, q2, q3, q4, d1, mv4, by rw [HZ'.out]; exact mh4⟩)
      have NM := hid (show RowsM 4 t0 RwT (w2.setCell ⟨b, off + k * 4 + 3, none⟩ (.int .i64 z2)) lo hi (some ⟨b, off, none⟩) n (mkTs k0 l (k + 1)) by
        unfold mkTs; rw [← HE.out, HT.out]; exact PUT.1.rowsM)
      have NF := hid (HF.out.trans PUT.2)
      have HN := hid (show z2 + 1 = k0 + (2 * ((k + 1 : Nat) : Int) + tsz l (k + 1)) by have := HE.out; have := HZ'.out; have := HSU.out; omega)
      have HB := hid (show 0 ≤ z2 + 1 ∧ z2 + 1 ≤ 200000000 by have := HN.out; have := HM.out (k + 1) hlt; omega)
      clear PUT X4 X3 mv3 mv4 mh2 mh3 mh4 f2 k0_ k1_ k2_ g2 hz2 hb1 X2 HC MV2
      go_wp2_with fail
      go_roundw
      case rel => exact ⟨k + 1, z2 + 1, by omega, by go_num, rfl, HN, HB.out, NM.out, NF.out⟩
      case measure => simp [intOf]; omega
    · obtain rfl : k = n := by omega
      go_wp2
      go_ret
      exact ⟨ret_int HE.out, hM, hf⟩
set_option maxRecDepth 100000 in
set_option maxHeartbeats 3200000 in
theorem heldTableS_any {A : Option Addr} {lo hi n c : Nat} {un : Bool} {l : List TT} {k0 : Int} {w : World} (h : Tabs true un w lo hi A n (mkTs k0 l n)) (h0 : 0 ≤ k0) (h1 : k0 ≤ 100000000) (hn : n + tsz l n ≤ 1048576) :
    Calls Tryz.prog 93 #[.slice A n c, .int .i64 k0] w fun e w' => e = .returned (.int .i64 (k0 + (2 * n + tsz l n))) ∧ w = w' := by
  have hl : l.length = n := by have := h.len; rwa [mkTs_len] at this
  have HS := hid (fun k (hk : k < n) => tsz_succ (l := l) (k := k) (by omega))
  have HM := hid (fun k (hk : k ≤ n) => tsz_mono (l := l) (i := k) (j := n) hk (by omega))
  have HZ := hid (tsz_zero l)
  have HLN := hid hl
  clear hl
  go_enter Tryz.func93, Tryz.ntmps93
  go_wp2_with fail
  go_loopw [1, 5] (fun q i wr => ∃ (k : Nat) (z : Int), k ≤ n ∧ i = .int .i64 k ∧ q = .int .i64 z ∧ Hid (z = k0 + (2 * k + tsz l k)) ∧ (0 ≤ z ∧ z ≤ 200000000) ∧ wr = w) (fun _ i _ => n - (intOf i).toNat)
  case atStart => exact ⟨0, k0, Nat.zero_le _, rfl, rfl, hid (by rw [HZ.out]; simp), by omega, rfl⟩
  case round =>
    obtain ⟨k, z, hk, rfl, rfl, HE, hz, rfl⟩ := hrel
    by_cases hlt : k < n
    · obtain ⟨b, off, lv, V, nv, cv, H, nh, ch, sm, vs, ws, rfl, _, _, hc0, hc1, hc2, hc3, hv, hh, hx⟩ := h.at_ hlt
      have hx2 := hx.out
      rw [mkTs_at _ _ (by rw [HLN.out]; exact hlt), if_pos hlt, ← HE.out] at hx2
      unfold mkT at hx2
      injection hx2 with x1 x2
      injection x2 with x2 x3
      injection x3 with x3 x4
      have hnv := hv.1
      have hnh := hh.1
      have e2 := congrArg List.length x2
      have e3 := congrArg List.length x3
      rw [hnv, iota_len] at e2
      rw [hnh, iota_len] at e3
      rw [← e2] at x2 x3 x4
      rw [← e3] at x3 x4
      subst x1 x2 x3
      have hi1 : (k : Int) < (n : Int) := by omega
      have hsu := HS.out k hlt
      unfold szT at hsu
      rw [← e2, ← e3] at hsu
      have hbd := HM.out (k + 1) hlt
      have hnv9 : nv + nh ≤ 1048576 := by omega
      have t1 : (lv != lv) = false := by simp
      have HN := hid (show lv + 1 + (nv : Int) + nh + 1 = k0 + (2 * ((k + 1 : Nat) : Int) + tsz l (k + 1)) by have := HE.out; omega)
      have HB := hid (show 0 ≤ lv + 1 + (nv : Int) + nh + 1 ∧ lv + 1 + (nv : Int) + nh + 1 ≤ 200000000 by have := HN.out; omega)
      have t2 : ¬ (lv + 1 + (nv : Int) < 0) := by omega
      have t3 : ¬ (lv + 1 + (nv : Int) + (nh : Int) < 0) := by omega
      have t4 : (sm != lv + 1 + (nv : Int) + (nh : Int)) = false := by rw [x4]; simp
      have HHV := hid hv
      have HHH := hid hh
      clear hsu hbd hx hnv hnh e2 e3 x4 hv hh
      go_wp2_with fail
      refine (heldIntS_any HHV.out (by omega) (by omega)).mono ?_
      rintro e w1 ⟨rfl, rfl⟩
      obtain ⟨z', hz'⟩ : ∃ z', lv + 1 + (nv : Int) = z' := ⟨_, rfl⟩
      rw [hz'] at t2 t3 t4 HN HB HHH
      rw [hz']
      have hz9 : 0 ≤ z' ∧ z' ≤ 300000000 := by omega
      clear hz'
      go_wp2_with fail
      refine (heldIntS_any HHH.out (by omega) (by omega)).mono ?_
      rintro e w2 ⟨rfl, rfl⟩
      obtain ⟨z2, hz2⟩ : ∃ z2, z' + (nh : Int) = z2 := ⟨_, rfl⟩
      rw [hz2] at t3 t4 HN HB
      rw [hz2]
      have hz8 : 0 ≤ z2 ∧ z2 ≤ 400000000 := by omega
      clear hz2
      go_wp2_with fail
      go_roundw
      case rel => exact ⟨k + 1, z2 + 1, by omega, by go_num, rfl, HN, HB.out, by trivial⟩
      case measure => simp [intOf]; omega
    · obtain rfl : k = n := by omega
      go_wp2
      go_ret
      exact ⟨ret_int HE.out, rfl⟩
set_option maxRecDepth 100000 in
set_option maxHeartbeats 12800000 in
theorem markPublishedS_sep {A : Option Addr} {lo hi n c : Nat} {l : List PP} {k0 : Int} {w : World} (h : PubsO w lo hi A n l) (h0 : 0 ≤ k0) (h1 : k0 ≤ 100000000) (hn : n + psz l n ≤ 1048576) :
    Calls Tryz.prog 39 #[.slice A n c, .int .i64 k0] w fun e w' => e = .returned (.int .i64 (k0 + (2 * n + psz l n))) ∧ PubsO w' lo hi A n (mkPs k0 l n) ∧ Fr lo hi w w' := by
  replace h := h.rows
  have hl := h.len
  have HS := hid (fun k (hk : k < n) => psz_succ (l := l) (k := k) (by omega))
  have HM := hid (fun k (hk : k ≤ n) => psz_mono (l := l) (i := k) (j := n) hk (by omega))
  have HZ := hid (psz_zero l)
  have HLN := hid hl
  clear hl
  go_enter Tryz.func39, Tryz.ntmps39
  go_wp2_with fail
  go_loopw [1, 5] (fun q i wr => ∃ (k : Nat) (z : Int), k ≤ n ∧ i = .int .i64 k ∧ q = .int .i64 z ∧ Hid (z = k0 + (2 * k + psz l k)) ∧ (0 ≤ z ∧ z ≤ 200000000) ∧ PubsO wr lo hi A n (mkPs k0 l k) ∧ Fr lo hi w wr) (fun _ i _ => n - (intOf i).toNat)
  case atStart => exact ⟨0, k0, Nat.zero_le _, rfl, rfl, hid (by rw [HZ.out]; simp), by omega, h, Fr.refl _ _ _⟩
  case round =>
    obtain ⟨k, z, hk, rfl, rfl, HE, hz, hM, hf⟩ := hrel
    by_cases hlt : k < n
    · obtain ⟨b, off, L, U, rfl, hC⟩ := hM.rows.ex (by omega)
      obtain ⟨u, hu, hr⟩ := hC.row k hlt
      rw [mkPs_at _ _ (by rw [HLN.out]; exact hlt), if_neg (Nat.lt_irrefl _)] at hr
      have hsu := HS.out k hlt
      unfold szPP at hsu
      obtain ⟨p, hp⟩ : ∃ p, l.getD k p0 = p := ⟨_, rfl⟩
      rw [hp] at hr hsu
      have HP := hid hp
      obtain ⟨V, cv, H, ch, K, ck, e0, e1, e2, e3, e4, m⟩ := hr
      obtain ⟨nv, hnv⟩ : ∃ x, p.1.2.1.length = x := ⟨_, rfl⟩
      obtain ⟨nh, hnh⟩ : ∃ x, p.1.2.2.1.length = x := ⟨_, rfl⟩
      obtain ⟨nk, hnk⟩ : ∃ x, p.2.length = x := ⟨_, rfl⟩
      rw [hnv] at e1 m hsu
      rw [hnh] at e2 m hsu
      rw [hnk] at e4 m hsu
      obtain ⟨_, l1, h1_, l2, h2_, l3, h3_, ⟨q1, q2, q3, q4, q5, q6⟩, d1, d2, d3, mv, mh, mk⟩ := m
      have hiv := hC.iv k hlt
      have hbl := hC.bl
      have htp := hC.top
      have hi1 : (k : Int) < (n : Int) := by omega
      have hbd := HM.out (k + 1) hlt
      have HSU := hid hsu
      have hnv9 : nv + nh + nk ≤ 1048576 := by omega
      have hr4 := Nat.mul_le_mul_right 5 (show k + 1 ≤ n from hlt)
      rw [Nat.succ_mul] at hr4
      have c0 : wr.cell? ⟨b, off + k * 5, none⟩ = some (.int .i64 p.1.1) := by have := hu 0 (by omega); rw [e0] at this; exact this
      have c1 : wr.cell? ⟨b, off + k * 5 + 1, none⟩ = some (.slice V nv cv) := by have := hu 1 (by omega); rw [e1] at this; exact this
      have c2 : wr.cell? ⟨b, off + k * 5 + 2, none⟩ = some (.slice H nh ch) := by have := hu 2 (by omega); rw [e2] at this; exact this
      have c3 : wr.cell? ⟨b, off + k * 5 + 3, none⟩ = some (.int .i64 p.1.2.2.2) := by have := hu 3 (by omega); rw [e3] at this; exact this
      have c4 : wr.cell? ⟨b, off + k * 5 + 4, none⟩ = some (.slice K nk ck) := by have := hu 4 (by omega); rw [e4] at this; exact this
      have z0 : wr.frozen? ⟨b, off + k * 5, none⟩ = false := hC.fz (k * 5) (by omega)
      have z3 : wr.frozen? ⟨b, off + k * 5 + 3, none⟩ = false := hC.fz (k * 5 + 3) (by omega)
      have X1 := (Ch.refl wr b (off + k * 5) (off + k * 5 + 5) (L k) (U k)).set (i := off + k * 5) (by omega) (by omega) (.int .i64 z)
      have hbw : b < wr.heap.size := by omega
      have hbW : b < (wr.setCell ⟨b, off + k * 5, none⟩ (.int .i64 z)).heap.size := by simpa [World.setCell] using hbw
      have a0 := World.cell?_setCell_same _ _ (.int .i64 z) c0
      have a1 := (World.cell?_setCell_other wr ⟨b, off + k * 5, none⟩ ⟨b, off + k * 5 + 1, none⟩ (.int .i64 z) (by intro e; injection e with _ e; omega)).trans c1
      have a2 := (World.cell?_setCell_other wr ⟨b, off + k * 5, none⟩ ⟨b, off + k * 5 + 2, none⟩ (.int .i64 z) (by intro e; injection e with _ e; omega)).trans c2
      have a3 := (World.cell?_setCell_other wr ⟨b, off + k * 5, none⟩ ⟨b, off + k * 5 + 3, none⟩ (.int .i64 z) (by intro e; injection e with _ e; omega)).trans c3
      have a4 := (World.cell?_setCell_other wr ⟨b, off + k * 5, none⟩ ⟨b, off + k * 5 + 4, none⟩ (.int .i64 z) (by intro e; injection e with _ e; omega)).trans c4
      have y3 : (wr.setCell ⟨b, off + k * 5, none⟩ (.int .i64 z)).frozen? ⟨b, off + k * 5 + 3, none⟩ = false := by rw [World.frozen?_setCell]; exact z3
      have mv1 := mv.fr (fr_one (p := b) (i := off + k * 5) (.int .i64 z)) (by omega)
      have MH1 := hid (mh.fr (fr_one (p := b) (i := off + k * 5) (.int .i64 z)) (by omega))
      have MK1 := hid (mk.fr (fr_one (p := b) (i := off + k * 5) (.int .i64 z)) (by omega))
      have HC := hid hC
      have A0 := hid a0
      have A2 := hid a2
      have A3 := hid a3
      have A4 := hid a4
      have Y3 := hid y3
      have X1H := hid X1
      have HF := hid hf
      clear hC hM hu hr4 hbd hsu c1 c2 c3 c4 z3 mv mh mk X1 a0 a2 a3 a4 y3 hf hnv9 e0 e1 e2 e3 e4
      go_wp2_with fail
      refine (markIntS_any mv1 (by omega) (by omega)).mono ?_
      rintro e w1 ⟨rfl, mv2, f1⟩
      have G0 := hid ((f1.cell (p := ⟨b, off + k * 5, none⟩) hbW (by show b < _ ∨ _ ≤ b; omega)).trans A0.out)
      have G1 := hid ((f1.cell (p := ⟨b, off + k * 5 + 1, none⟩) hbW (by show b < _ ∨ _ ≤ b; omega)).trans a1)
      have G3 := hid ((f1.cell (p := ⟨b, off + k * 5 + 3, none⟩) hbW (by show b < _ ∨ _ ≤ b; omega)).trans A3.out)
      have G4 := hid ((f1.cell (p := ⟨b, off + k * 5 + 4, none⟩) hbW (by show b < _ ∨ _ ≤ b; omega)).trans A4.out)
      have g2 := (f1.cell (p := ⟨b, off + k * 5 + 2, none⟩) hbW (by show b < _ ∨ _ ≤ b; omega)).trans A2.out
      have Y4 := hid ((f1.frozen (p := ⟨b, off + k * 5 + 3, none⟩) hbW (by show b < _ ∨ _ ≤ b; omega)).trans Y3.out)
      have mh2 := MH1.out.fr f1 (by omega)
      have MK2 := hid (MK1.out.fr f1 (by omega))
      have X2 := hid (X1H.out.fr f1 q1 q2 hiv.2.2 hbw)
      have hb1 := Nat.lt_of_lt_of_le hbW f1.size
      have HSU2 := HSU.out
      have hbd := HM.out (k + 1) hlt
      have hnv9 : nv + nh + nk ≤ 1048576 := by omega
      obtain ⟨z', hz'⟩ : ∃ z', z + 1 + (nv : Int) = z' := ⟨_, rfl⟩
      rw [hz']
      have hz9 : 0 ≤ z' ∧ z' ≤ 300000000 := by omega
      have HZ' := hid hz'
      have MV2 := hid mv2
      clear hz' mv1 f1 a1 c0 z0 hbW X1H HSU2 hbd mv2 MH1 MK1
      go_wp2_with fail
      refine (markIntS_any mh2 (by omega) (by omega)).mono ?_
      rintro e w2 ⟨rfl, mh3, f2⟩
      have P0_ := hid ((f2.cell (p := ⟨b, off + k * 5, none⟩) hb1 (by show b < _ ∨ _ ≤ b; omega)).trans G0.out)
      have P1_ := hid ((f2.cell (p := ⟨b, off + k * 5 + 1, none⟩) hb1 (by show b < _ ∨ _ ≤ b; omega)).trans G1.out)
      have P2_ := hid ((f2.cell (p := ⟨b, off + k * 5 + 2, none⟩) hb1 (by show b < _ ∨ _ ≤ b; omega)).trans g2)
      have k3_ := (f2.cell (p := ⟨b, off + k * 5 + 3, none⟩) hb1 (by show b < _ ∨ _ ≤ b; omega)).trans G3.out
      have P4_ := hid ((f2.cell (p := ⟨b, off + k * 5 + 4, none⟩) hb1 (by show b < _ ∨ _ ≤ b; omega)).trans G4.out)
      have y5 := (f2.frozen (p := ⟨b, off + k * 5 + 3, none⟩) hb1 (by show b < _ ∨ _ ≤ b; omega)).trans Y4.out
      have mv3 := MV2.out.fr f2 (by omega)
      have mk3 := MK2.out.fr f2 (by omega)
      have X3 := X2.out.fr f2 q3 q4 hiv.2.2 hbw
      have hb2 := Nat.lt_of_lt_of_le hb1 f2.size
      obtain ⟨z2, hz2⟩ : ∃ z2, z' + (nh : Int) = z2 := ⟨_, rfl⟩
      rw [hz2]
      have hz8 : 0 ≤ z2 ∧ z2 ≤ 400000000 := by omega
      have HZ2 := hid hz2
      have X4 := hid (X3.set (i := off + k * 5 + 3) (by omega) (by omega) (.int .i64 z2))
      have MV4 := hid (mv3.fr (fr_one (p := b) (i := off + k * 5 + 3) (.int .i64 z2)) (by omega))
      have MH4 := hid (mh3.fr (fr_one (p := b) (i := off + k * 5 + 3) (.int .i64 z2)) (by omega))
      have mk4 := mk3.fr (fr_one (p := b) (i := off + k * 5 + 3) (.int .i64 z2)) (by omega)
      have hbX : b < (w2.setCell ⟨b, off + k * 5 + 3, none⟩ (.int .i64 z2)).heap.size := by simpa [World.setCell] using hb2
      have R0_ := hid ((World.cell?_setCell_other w2 ⟨b, off + k * 5 + 3, none⟩ ⟨b, off + k * 5, none⟩ (.int .i64 z2) (by intro e; injection e with _ e; omega)).trans P0_.out)
      have R1_ := hid ((World.cell?_setCell_other w2 ⟨b, off + k * 5 + 3, none⟩ ⟨b, off + k * 5 + 1, none⟩ (.int .i64 z2) (by intro e; injection e with _ e; omega)).trans P1_.out)
      have R2_ := hid ((World.cell?_setCell_other w2 ⟨b, off + k * 5 + 3, none⟩ ⟨b, off + k * 5 + 2, none⟩ (.int .i64 z2) (by intro e; injection e with _ e; omega)).trans P2_.out)
      have r4_ := (World.cell?_setCell_other w2 ⟨b, off + k * 5 + 3, none⟩ ⟨b, off + k * 5 + 4, none⟩ (.int .i64 z2) (by intro e; injection e with _ e; omega)).trans P4_.out
      have R3_ := hid (World.cell?_setCell_same _ _ (.int .i64 z2) k3_)
      clear mv3 mh2 mh3 mk3 f2 g2 hz2 hb1 X2 X3 MV2 P0_ P1_ P2_ P4_ G0 G1 G3 G4
      go_wp2_with fail
      refine (markIntS_any mk4 (by omega) (by omega)).mono ?_
      rintro e w3 ⟨rfl, mk5, f3⟩
      obtain ⟨z3, hz3⟩ : ∃ z3, z2 + 1 + (nk : Int) = z3 := ⟨_, rfl⟩
      rw [hz3]
      have hz7 : 0 ≤ z3 ∧ z3 ≤ 500000000 := by omega
      have X5 := X4.out.fr f3 q5 q6 hiv.2.2 hbw
      have s0 := (f3.cell (p := ⟨b, off + k * 5, none⟩) hbX (by show b < _ ∨ _ ≤ b; omega)).trans R0_.out
      have s1 := (f3.cell (p := ⟨b, off + k * 5 + 1, none⟩) hbX (by show b < _ ∨ _ ≤ b; omega)).trans R1_.out
      have s2 := (f3.cell (p := ⟨b, off + k * 5 + 2, none⟩) hbX (by show b < _ ∨ _ ≤ b; omega)).trans R2_.out
      have s3 := (f3.cell (p := ⟨b, off + k * 5 + 3, none⟩) hbX (by show b < _ ∨ _ ≤ b; omega)).trans R3_.out
      have s4 := (f3.cell (p := ⟨b, off + k * 5 + 4, none⟩) hbX (by show b < _ ∨ _ ≤ b; omega)).trans r4_
      have PUT := HC.out.put RwP.ok hlt (a' := mkP z p) (u' := u5 (.int .i64 z) (.slice V nv cv) (.slice H nh ch) (.int .i64 z2) (.slice K nk ck)) X5
        (fun i hi => match i, hi with
          | 0, _ => s0
          | 1, _ => s1
          | 2, _ => s2
          | 3, _ => s3
          | 4, _ => s4)
        (RwP.mk_ hnv hnh hnk (by have := HZ'.out; have := HZ2.out; omega) rfl rfl rfl rfl rfl ⟨by have := X5.size; omega, l1, h1_, l2, h2_, l3, h3_, ⟨q1, q2, q3, q4, q5, q6⟩, d1, d2, d3, MV4.out.fr f3 (by omega), by rw [HZ'.out]; exact MH4.out.fr f3 (by omega), mk5⟩)
      have NM := hid (show PubsO w3 lo hi (some ⟨b, off, none⟩) n (mkPs k0 l (k + 1)) by
        unfold mkPs; rw [← HE.out, HP.out]; exact PUT.1.rowsM)
      have NF := hid (HF.out.trans PUT.2)
      have HN := hid (show z3 = k0 + (2 * ((k + 1 : Nat) : Int) + psz l (k + 1)) by have := HE.out; have := HZ'.out; have := HZ2.out; have := HSU.out; omega)
      have HB := hid (show 0 ≤ z3 ∧ z3 ≤ 200000000 by have := HN.out; have := HM.out (k + 1) hlt; omega)
      clear PUT X5 mk4 mk5 f3 s0 s1 s2 s3 s4 r4_ hz3 hbX hb2 HC X4 MV4 MH4 R0_ R1_ R2_ R3_ k3_ y5
      go_wp2_with fail
      go_roundw
      case rel => exact ⟨k + 1, z3, by omega, by go_num, rfl, HN, HB.out, NM.out, NF.out⟩
      case measure => simp [intOf]; omega
    · obtain rfl : k = n := by omega
      go_wp2
      go_ret
      exact ⟨ret_int HE.out, hM, hf⟩
set_option maxRecDepth 100000 in
set_option maxHeartbeats 3200000 in
theorem heldPublishedS_any {A : Option Addr} {lo hi n c : Nat} {un : Bool} {l : List PP} {k0 : Int} {w : World} (h : Pubs true un w lo hi A n (mkPs k0 l n)) (h0 : 0 ≤ k0) (h1 : k0 ≤ 100000000) (hn : n + psz l n ≤ 1048576) :
    Calls Tryz.prog 40 #[.slice A n c, .int .i64 k0] w fun e w' => e = .returned (.int .i64 (k0 + (2 * n + psz l n))) ∧ w = w' := by
  have hl : l.length = n := by have := h.len; rwa [mkPs_len] at this
  have HS := hid (fun k (hk : k < n) => psz_succ (l := l) (k := k) (by omega))
  have HM := hid (fun k (hk : k ≤ n) => psz_mono (l := l) (i := k) (j := n) hk (by omega))
  have HZ := hid (psz_zero l)
  have HLN := hid hl
  clear hl
  go_enter Tryz.func40, Tryz.ntmps40
  go_wp2_with fail
  go_loopw [1, 5] (fun q i wr => ∃ (k : Nat) (z : Int), k ≤ n ∧ i = .int .i64 k ∧ q = .int .i64 z ∧ Hid (z = k0 + (2 * k + psz l k)) ∧ (0 ≤ z ∧ z ≤ 200000000) ∧ wr = w) (fun _ i _ => n - (intOf i).toNat)
  case atStart => exact ⟨0, k0, Nat.zero_le _, rfl, rfl, hid (by rw [HZ.out]; simp), by omega, rfl⟩
  case round =>
    obtain ⟨k, z, hk, rfl, rfl, HE, hz, rfl⟩ := hrel
    by_cases hlt : k < n
    · obtain ⟨b, off, lv, V, nv, cv, H, nh, ch, sm, K, nk, ck, vs, ws, zs, rfl, _, _, hc0, hc1, hc2, hc3, hc4, hv, hh, hkk, hx⟩ := h.at_ hlt
      have hx2 := hx.out
      rw [mkPs_at _ _ (by rw [HLN.out]; exact hlt), if_pos hlt, ← HE.out] at hx2
      unfold mkP mkT at hx2
      injection hx2 with x0 x5
      injection x0 with x1 x2
      injection x2 with x2 x3
      injection x3 with x3 x4
      have hnv := hv.1
      have hnh := hh.1
      have hnk := hkk.1
      have e2 := congrArg List.length x2
      have e3 := congrArg List.length x3
      have e5 := congrArg List.length x5
      rw [hnv, iota_len] at e2
      rw [hnh, iota_len] at e3
      rw [hnk, iota_len] at e5
      rw [← e2] at x2 x3 x4 x5
      rw [← e3] at x3 x4 x5
      rw [← e5] at x5
      subst x1 x2 x3 x5
      have hi1 : (k : Int) < (n : Int) := by omega
      have hsu := HS.out k hlt
      unfold szPP at hsu
      rw [← e2, ← e3, ← e5] at hsu
      have hbd := HM.out (k + 1) hlt
      have hnv9 : nv + nh + nk ≤ 1048576 := by omega
      have t1 : (lv != lv) = false := by simp
      have HN := hid (show lv + 1 + (nv : Int) + nh + 1 + nk = k0 + (2 * ((k + 1 : Nat) : Int) + psz l (k + 1)) by have := HE.out; omega)
      have HB := hid (show 0 ≤ lv + 1 + (nv : Int) + nh + 1 + nk ∧ lv + 1 + (nv : Int) + nh + 1 + nk ≤ 200000000 by have := HN.out; omega)
      have t2 : ¬ (lv + 1 + (nv : Int) < 0) := by omega
      have t3 : ¬ (lv + 1 + (nv : Int) + (nh : Int) < 0) := by omega
      have t5 : ¬ (lv + 1 + (nv : Int) + (nh : Int) + 1 + (nk : Int) < 0) := by omega
      have t4 : (sm != lv + 1 + (nv : Int) + (nh : Int)) = false := by rw [x4]; simp
      have HHV := hid hv
      have HHH := hid hh
      have HHK := hid (show Ints wr lo hi K nk (iota (lv + 1 + (nv : Int) + (nh : Int) + 1) nk) by rw [show lv + 1 + (nv : Int) + (nh : Int) + 1 = lv + 2 + nv + nh by omega]; exact hkk)
      clear hsu hbd hx hnv hnh hnk e2 e3 e5 x4 hv hh hkk
      go_wp2_with fail
      refine (heldIntS_any HHV.out (by omega) (by omega)).mono ?_
      rintro e w1 ⟨rfl, rfl⟩
      obtain ⟨z', hz'⟩ : ∃ z', lv + 1 + (nv : Int) = z' := ⟨_, rfl⟩
      rw [hz'] at t2 t3 t4 t5 HN HB HHH HHK
      rw [hz']
      have hz9 : 0 ≤ z' ∧ z' ≤ 300000000 := by omega
      clear hz'
      go_wp2_with fail
      refine (heldIntS_any HHH.out (by omega) (by omega)).mono ?_
      rintro e w2 ⟨rfl, rfl⟩
      obtain ⟨z2, hz2⟩ : ∃ z2, z' + (nh : Int) = z2 := ⟨_, rfl⟩
      rw [hz2] at t3 t4 t5 HN HB HHK
      rw [hz2]
      have hz8 : 0 ≤ z2 ∧ z2 ≤ 400000000 := by omega
      clear hz2
      go_wp2_with fail
      refine (heldIntS_any HHK.out (by omega) (by omega)).mono ?_
      rintro e w3 ⟨rfl, rfl⟩
      obtain ⟨z3, hz3⟩ : ∃ z3, z2 + 1 + (nk : Int) = z3 := ⟨_, rfl⟩
      rw [hz3] at t5 HN HB
      rw [hz3]
      have hz7 : 0 ≤ z3 ∧ z3 ≤ 500000000 := by omega
      clear hz3
      go_wp2_with fail
      go_roundw
      case rel => exact ⟨k + 1, z3, by omega, by go_num, rfl, HN, HB.out, by trivial⟩
      case measure => simp [intOf]; omega
    · obtain rfl : k = n := by omega
      go_wp2
      go_ret
      exact ⟨ret_int HE.out, rfl⟩
end Go.Proofs.YtohjkpopbmmliaaGreat
