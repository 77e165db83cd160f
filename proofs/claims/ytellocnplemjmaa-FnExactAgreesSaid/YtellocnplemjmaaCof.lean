/- The conditions of published tables, of the program. -/
import Derived.Test.YtellocnplemjmaaCds
import Derived.Deep.RegionHeld3
namespace Go.Proofs.Ytellocnplemjmaa
open Go.RowKit Go.Sort
set_option linter.unusedVariables false
set_option linter.unusedSimpArgs false

/-- The conditions, read. -/
def CofRes (w : World) (N : Nat) (rs : List CC) (e : Ending) (w' : World) : Prop := ∃ R C, e = .returned (.slice R rs.length C) ∧ CdR w' R rs.length N rs ∧ Keeps w w'
theorem tyB_12 {ps : List Int} {l : List VV} (h : tyB ps l = true) : tyN ps l ≤ 12 := by unfold tyB at h; simp only [Bool.and_eq_true, decide_eq_true_eq] at h; exact h.2
theorem tyB_gs {ps : List Int} {l : List VV} (h : tyB ps l = true) : geoB ps = true ∧ schB l = true := by unfold tyB at h; simp only [Bool.and_eq_true] at h; exact h.1
theorem info_cnd : (Try.prog.info? 129).map (fun i => (i.zero, i.size, i.bytes)) = some (some (.agg #[.slice none 0 0, .int .i64 0]), 2, 32) := by kernel_rfl
set_option maxRecDepth 100000 in
set_option maxHeartbeats 25600000 in
theorem conditionsOf_any {A A' Q : Option Addr} {lo hi a c0 lo3 hi3 n c q e N : Nat} {un : Bool} {ps : List Int} {l : List VV} {ts : List PP} {w : World} (h : Ints w lo hi A a ps) (h' : Sch w A' q e l) (ht : Pubs true un w lo3 hi3 Q n ts) (hty : tyB ps l = true) (hap : apB ps l ts = true) (hN : tyN ps l = (N : Int)) :
    Calls Try.prog 58 #[.agg #[.slice A a c0], .slice A' q e, .slice Q n c] w (CofRes w N (ruTo ps l N ts ts.length)) := by
  have h12 := tyB_12 hty
  have hN12 : N ≤ 12 := by omega
  have hq := Vars.len (Classical.choose_spec (Classical.choose_spec h'.v))
  have HQL := hid hq
  have HPL := hid h.1
  have HG := hid (tyB_gs hty).1
  have HS := hid (tyB_gs hty).2
  have HTY := hid hty
  have HN := hid hN
  have HTL := hid ht.len
  have hap2 := apB_at hap
  have hn20 : n ≤ 20 := by have := hap2.1; have := ht.len; omega
  have HAP := hid (fun k (hk : k < n) => apR_parts (hap2.2 k (by have := ht.len; omega)))
  have HTR := hid (fun k (hk : k < N) => type_rec hty hN hk)
  have HCB := hid (fun (t : TT) k (hk : k < N) (htb : tabB ps l t = true) => ceK_bd hty hN hk htb)
  have HRL := hid (fun k (hk : k ≤ n) => ruTo_len (ps := ps) (l := l) (N := N) (ts := ts) (n := n) (fun k hk => by
    have h1 := apR_parts (hap2.2 k (by have := ht.len; omega))
    have h2 := (tabB_parts h1.1).2.2.2.2
    omega) k hk)
  clear h12 hq hty hap hN hap2
  go_enter Try.func58, Try.ntmps58
  have kw := keeps_refl w
  replace kw := Keeps.trans kw (keeps_alloc w (.cells #[.slice A a c0] 38))
  have b3 : B1 (w.alloc (.cells #[.slice A a c0] 38)) w.heap.size (.slice A a c0) := B1.new' (by simp)
  obtain ⟨ca1, fa1⟩ := id b3
  go_wp2_with fail
  clear ca1 fa1
  refine (typeCount_any (h.keeps kw) (h'.keeps kw) HG.out HS.out).mono ?_
  rintro e w2 ⟨rfl, k2⟩
  rw [HN.out]
  replace b3 := b3.keeps k2
  replace kw := Keeps.trans kw k2
  have lt3 := b3.lt
  have sz4 := kw.size
  clear k2
  go_wp2_with fail
  go_loopw [7, 22] (fun v i wr => ∃ (k : Nat) (f : Nat → Nat), k ≤ n ∧ i = .int .i64 k ∧ Cds wr (w.heap.size + 1) 129 v N f (ruTo ps l N ts k) ∧ B1 wr w.heap.size (.slice A a c0) ∧ Keeps w wr) (fun _ i _ => n - (intOf i).toNat)
  case atStart => exact ⟨0, fun _ => 0, Nat.zero_le _, rfl, Cds.nil _ _ _ _ _, b3, kw⟩
  clear b3 kw
  case round =>
    obtain ⟨k, f, hk, rfl, hC, b3, kw⟩ := hrel
    by_cases hlt : k < n
    rotate_left
    · obtain rfl : k = n := by omega
      have hR := HRL.out k (Nat.le_refl _)
      obtain ⟨R, C, rfl, hCR⟩ := hC.read (by omega) (by omega)
      have HE := hid (show ruTo ps l N ts ts.length = ruTo ps l N ts k by rw [HTL.out])
      have HK := hid kw
      clear hC b3 kw
      go_wp2
      go_ret
      exact ⟨R, C, by rw [HE.out]; rfl, by rw [HE.out]; exact hCR, HK.out⟩
    obtain ⟨b, off, lv, V, nv, cv, H, nh, ch, sm, K, nk, ck, vs, ws, zs, rfl, _, _, hc0, hc1, hc2, hc3, hc4, hvv, hhh, hkk, hx⟩ := ht.at_ hlt
    have hi1 : (k : Int) < (n : Int) := by omega
    have hrow := HAP.out k hlt
    rw [← hx.out] at hrow
    obtain ⟨htb0, hlen0, hwi0⟩ := hrow
    have HTB := hid (show tabB ps l (lv, vs, ws, sm) = true from htb0)
    have hzl : zs.length = nk := hkk.1
    have htn := (tabB_parts htb0).2.2.2.2
    have hnk6 : nk ≤ 600 := by simp only at hlen0 htn; omega
    have HLN := hid (show (nk : Int) = tabN ps l (lv, vs, ws, sm) by rw [← hzl]; exact hlen0)
    have HZL := hid hzl
    have HX := hid hx.out
    have hR := HRL.out k (by omega)
    have hR9 : (ruTo ps l N ts k).length ≤ 12000 := by omega
    clear hx htb0 hlen0 hwi0 hzl htn hR
    have d0 := cell_keeps hc0 kw
    have d1 := cell_keeps hc1 kw
    have d2 := cell_keeps hc2 kw
    have d3 := cell_keeps hc3 kw
    have d4 := cell_keeps hc4 kw
    have lt3 := b3.lt
    have hofA := hC.has.off_lt (Nat.le_refl _)
    have hofB := hC.has.off_lt (Nat.le_succ _)
    have hfl := hid (fun j hj => hC.lt (j := j) hj)
    replace b3 := b3.keeps (keeps_alloc wr (.cells #[.int .i64 lv, .slice V nv cv, .slice H nh ch, .int .i64 sm, .slice K nk ck] 100))
    replace hC := hC.keeps (keeps_alloc wr (.cells #[.int .i64 lv, .slice V nv cv, .slice H nh ch, .int .i64 sm, .slice K nk ck] 100))
    replace kw := Keeps.trans kw (keeps_alloc wr (.cells #[.int .i64 lv, .slice V nv cv, .slice H nh ch, .int .i64 sm, .slice K nk ck] 100))
    have b10 : Bl (wr.alloc (.cells #[.int .i64 lv, .slice V nv cv, .slice H nh ch, .int .i64 sm, .slice K nk ck] 100)) wr.heap.size [.int .i64 lv, .slice V nv cv, .slice H nh ch, .int .i64 sm, .slice K nk ck] := Bl.new' (by simp) (by simp)
    have ca5_0 : (wr.alloc (.cells #[.int .i64 lv, .slice V nv cv, .slice H nh ch, .int .i64 sm, .slice K nk ck] 100)).cell? ⟨wr.heap.size, 0, none⟩ = some (.int .i64 lv) := (b10.2 0 _ rfl).1
    have fa5_0 : (wr.alloc (.cells #[.int .i64 lv, .slice V nv cv, .slice H nh ch, .int .i64 sm, .slice K nk ck] 100)).frozen? ⟨wr.heap.size, 0, none⟩ = false := (b10.2 0 _ rfl).2
    have ca5_1 : (wr.alloc (.cells #[.int .i64 lv, .slice V nv cv, .slice H nh ch, .int .i64 sm, .slice K nk ck] 100)).cell? ⟨wr.heap.size, 1, none⟩ = some (.slice V nv cv) := (b10.2 1 _ rfl).1
    have fa5_1 : (wr.alloc (.cells #[.int .i64 lv, .slice V nv cv, .slice H nh ch, .int .i64 sm, .slice K nk ck] 100)).frozen? ⟨wr.heap.size, 1, none⟩ = false := (b10.2 1 _ rfl).2
    have ca5_2 : (wr.alloc (.cells #[.int .i64 lv, .slice V nv cv, .slice H nh ch, .int .i64 sm, .slice K nk ck] 100)).cell? ⟨wr.heap.size, 2, none⟩ = some (.slice H nh ch) := (b10.2 2 _ rfl).1
    have fa5_2 : (wr.alloc (.cells #[.int .i64 lv, .slice V nv cv, .slice H nh ch, .int .i64 sm, .slice K nk ck] 100)).frozen? ⟨wr.heap.size, 2, none⟩ = false := (b10.2 2 _ rfl).2
    have ca5_3 : (wr.alloc (.cells #[.int .i64 lv, .slice V nv cv, .slice H nh ch, .int .i64 sm, .slice K nk ck] 100)).cell? ⟨wr.heap.size, 3, none⟩ = some (.int .i64 sm) := (b10.2 3 _ rfl).1
    have fa5_3 : (wr.alloc (.cells #[.int .i64 lv, .slice V nv cv, .slice H nh ch, .int .i64 sm, .slice K nk ck] 100)).frozen? ⟨wr.heap.size, 3, none⟩ = false := (b10.2 3 _ rfl).2
    have ca5_4 : (wr.alloc (.cells #[.int .i64 lv, .slice V nv cv, .slice H nh ch, .int .i64 sm, .slice K nk ck] 100)).cell? ⟨wr.heap.size, 4, none⟩ = some (.slice K nk ck) := (b10.2 4 _ rfl).1
    have fa5_4 : (wr.alloc (.cells #[.int .i64 lv, .slice V nv cv, .slice H nh ch, .int .i64 sm, .slice K nk ck] 100)).frozen? ⟨wr.heap.size, 4, none⟩ = false := (b10.2 4 _ rfl).2
    have hmk := make_ints nk (by omega)
    replace b3 := b3.keeps (keeps_alloc (wr.alloc (.cells #[.int .i64 lv, .slice V nv cv, .slice H nh ch, .int .i64 sm, .slice K nk ck] 100)) (.cells (madeCells #[.int .i64 0] nk) 3))
    replace b10 := b10.keeps (keeps_alloc (wr.alloc (.cells #[.int .i64 lv, .slice V nv cv, .slice H nh ch, .int .i64 sm, .slice K nk ck] 100)) (.cells (madeCells #[.int .i64 0] nk) 3))
    replace hC := hC.keeps (keeps_alloc (wr.alloc (.cells #[.int .i64 lv, .slice V nv cv, .slice H nh ch, .int .i64 sm, .slice K nk ck] 100)) (.cells (madeCells #[.int .i64 0] nk) 3))
    replace kw := Keeps.trans kw (keeps_alloc (wr.alloc (.cells #[.int .i64 lv, .slice V nv cv, .slice H nh ch, .int .i64 sm, .slice K nk ck] 100)) (.cells (madeCells #[.int .i64 0] nk) 3))
    have ca6_0 : ((wr.alloc (.cells #[.int .i64 lv, .slice V nv cv, .slice H nh ch, .int .i64 sm, .slice K nk ck] 100)).alloc (.cells (madeCells #[.int .i64 0] nk) 3)).cell? ⟨wr.heap.size, 0, none⟩ = some (.int .i64 lv) := (b10.2 0 _ rfl).1
    have fa6_0 : ((wr.alloc (.cells #[.int .i64 lv, .slice V nv cv, .slice H nh ch, .int .i64 sm, .slice K nk ck] 100)).alloc (.cells (madeCells #[.int .i64 0] nk) 3)).frozen? ⟨wr.heap.size, 0, none⟩ = false := (b10.2 0 _ rfl).2
    have ca6_1 : ((wr.alloc (.cells #[.int .i64 lv, .slice V nv cv, .slice H nh ch, .int .i64 sm, .slice K nk ck] 100)).alloc (.cells (madeCells #[.int .i64 0] nk) 3)).cell? ⟨wr.heap.size, 1, none⟩ = some (.slice V nv cv) := (b10.2 1 _ rfl).1
    have fa6_1 : ((wr.alloc (.cells #[.int .i64 lv, .slice V nv cv, .slice H nh ch, .int .i64 sm, .slice K nk ck] 100)).alloc (.cells (madeCells #[.int .i64 0] nk) 3)).frozen? ⟨wr.heap.size, 1, none⟩ = false := (b10.2 1 _ rfl).2
    have ca6_2 : ((wr.alloc (.cells #[.int .i64 lv, .slice V nv cv, .slice H nh ch, .int .i64 sm, .slice K nk ck] 100)).alloc (.cells (madeCells #[.int .i64 0] nk) 3)).cell? ⟨wr.heap.size, 2, none⟩ = some (.slice H nh ch) := (b10.2 2 _ rfl).1
    have fa6_2 : ((wr.alloc (.cells #[.int .i64 lv, .slice V nv cv, .slice H nh ch, .int .i64 sm, .slice K nk ck] 100)).alloc (.cells (madeCells #[.int .i64 0] nk) 3)).frozen? ⟨wr.heap.size, 2, none⟩ = false := (b10.2 2 _ rfl).2
    have ca6_3 : ((wr.alloc (.cells #[.int .i64 lv, .slice V nv cv, .slice H nh ch, .int .i64 sm, .slice K nk ck] 100)).alloc (.cells (madeCells #[.int .i64 0] nk) 3)).cell? ⟨wr.heap.size, 3, none⟩ = some (.int .i64 sm) := (b10.2 3 _ rfl).1
    have fa6_3 : ((wr.alloc (.cells #[.int .i64 lv, .slice V nv cv, .slice H nh ch, .int .i64 sm, .slice K nk ck] 100)).alloc (.cells (madeCells #[.int .i64 0] nk) 3)).frozen? ⟨wr.heap.size, 3, none⟩ = false := (b10.2 3 _ rfl).2
    have ca6_4 : ((wr.alloc (.cells #[.int .i64 lv, .slice V nv cv, .slice H nh ch, .int .i64 sm, .slice K nk ck] 100)).alloc (.cells (madeCells #[.int .i64 0] nk) 3)).cell? ⟨wr.heap.size, 4, none⟩ = some (.slice K nk ck) := (b10.2 4 _ rfl).1
    have fa6_4 : ((wr.alloc (.cells #[.int .i64 lv, .slice V nv cv, .slice H nh ch, .int .i64 sm, .slice K nk ck] 100)).alloc (.cells (madeCells #[.int .i64 0] nk) 3)).frozen? ⟨wr.heap.size, 4, none⟩ = false := (b10.2 4 _ rfl).2
    have own : Own ((wr.alloc (.cells #[.int .i64 lv, .slice V nv cv, .slice H nh ch, .int .i64 sm, .slice K nk ck] 100)).alloc (.cells (madeCells #[.int .i64 0] nk) 3)) (wr.heap.size + 1) (atL ps l N ((lv, vs, ws, sm), zs) (ruTo ps l N ts k).length nk 0) := by
      rw [atL_zero]
      have q_ := Own.new (wr.alloc (.cells #[.int .i64 lv, .slice V nv cv, .slice H nh ch, .int .i64 sm, .slice K nk ck] 100)) nk
      rwa [show (wr.alloc (.cells #[.int .i64 lv, .slice V nv cv, .slice H nh ch, .int .i64 sm, .slice K nk ck] 100)).heap.size = wr.heap.size + 1 by simp] at q_
    go_wp2_with fail
    clear ca5_0 fa5_0 ca5_1 fa5_1 ca5_2 fa5_2 ca5_3 fa5_3 ca5_4 fa5_4 ca6_0 fa6_0 ca6_1 fa6_1 ca6_2 fa6_2 ca6_3 fa6_3 ca6_4 fa6_4
    clear hmk d0 d1 d2 d3 d4
    obtain ⟨W1, hX⟩ : ∃ u : World, u = ((wr.alloc (.cells #[.int .i64 lv, .slice V nv cv, .slice H nh ch, .int .i64 sm, .slice K nk ck] 100)).alloc (.cells (madeCells #[.int .i64 0] nk) 3)) := ⟨_, rfl⟩
    have szX6 := hid (show W1.heap.size = wr.heap.size + 1 + 1 by rw [hX]; simp)
    rw [← hX] at b3
    rw [← hX] at b10
    rw [← hX] at hC
    rw [← hX] at own
    rw [← hX] at kw
    rw [← hX]
    clear hX
    have sz8 := kw.size
    have hW1 : wr.heap.size + 2 ≤ W1.heap.size := by rw [szX6.out]; omega
    obtain ⟨GP, hGP⟩ : ∃ G, wr.heap.size = G := ⟨_, rfl⟩
    rw [hGP] at hofA hofB hfl b10 own hW1 lt3
    try rw [hGP]
    have HGP := hid hGP
    clear hGP szX6
    have hwG : w.heap.size + 1 ≤ GP := by omega
    go_loopw [7, 33] (fun vq i wv => ∃ (j : Nat) (f : Nat → Nat) (v : Value), j ≤ nk ∧ i = .int .i64 j ∧ v = vq ∧ Cds wv (w.heap.size + 1) 129 v N f ((ruTo ps l N ts k) ++ puTo ps l N ((lv, vs, ws, sm), zs) 0 j) ∧ Own wv (GP + 1) (atL ps l N ((lv, vs, ws, sm), zs) (ruTo ps l N ts k).length nk j) ∧ B1 wv w.heap.size (.slice A a c0) ∧ Bl wv GP [.int .i64 lv, .slice V nv cv, .slice H nh ch, .int .i64 sm, .slice K nk ck] ∧ v.ownBlock ≠ some GP ∧ Hid (∀ i, i < ((ruTo ps l N ts k) ++ puTo ps l N ((lv, vs, ws, sm), zs) 0 j).length → f i ≠ GP ∧ f i ≠ GP + 1) ∧ GP + 2 ≤ wv.heap.size ∧ Keeps w wv) (fun _ i _ => nk - (intOf i).toNat)
    case atStart => exact ⟨0, f, _, Nat.zero_le _, rfl, rfl, by rw [show puTo ps l N ((lv, vs, ws, sm), zs) 0 0 = [] from rfl, List.append_nil]; exact hC, own, b3, b10, hofA, hid (fun i hi => by rw [show puTo ps l N ((lv, vs, ws, sm), zs) 0 0 = [] from rfl, List.append_nil] at hi; have := hfl.out i hi; omega), hW1, kw⟩
    clear hC own b3 b10 hofA hofB hfl hW1 kw
    case round =>
      obtain ⟨j, f, v, hj, rfl, rfl, hC, own, b3, b10, hofA, hfo, hsz, kw⟩ := hrel
      have hpl := puTo_len ps l N ((lv, vs, ws, sm), zs) 0 j
      have hlt3 := b3.lt
      by_cases hjt : j < nk
      · obtain ⟨bk, ok, z, rfl, _, _, hcz, hz⟩ := (hkk.keeps kw).at_ hjt
        have hj1 : (j : Int) < (nk : Int) := by omega
        have hofB := has_off hC.has own (by decide)
        obtain ⟨y9, hcy9, -⟩ := own.at_ j (by rw [atL_len]; exact hjt)
        have hfy9 := own.frozen j
        obtain ⟨RN, hRN⟩ : ∃ x, ((ruTo ps l N ts k) ++ puTo ps l N ((lv, vs, ws, sm), zs) 0 j).length = x := ⟨_, rfl⟩
        have hRN2 : RN = (ruTo ps l N ts k).length + (puTo ps l N ((lv, vs, ws, sm), zs) 0 j).length := by rw [← hRN, List.length_append]
        have HRN := hid hRN
        have hRN9 : RN ≤ 67108864 := by omega
        have f1 : Fr (GP + 1) (GP + 1 + 1) wr (wr.setCell ⟨GP + 1, j, none⟩ (.int .i64 (-1))) := fr_one _
        have C1 := hC.far (i := j) (u := .int .i64 (-1)) hofB (fun i hi => (hfo.out i hi).2)
        have O1 := own.set_ j (-1)
        have B31 := b3.far (p := ⟨GP + 1, j, none⟩) (by show w.heap.size ≠ GP + 1; omega) (.int .i64 (-1))
        have B101 := b10.far (p := ⟨GP + 1, j, none⟩) (by show GP ≠ GP + 1; omega) (.int .i64 (-1))
        have K1 := kw.setCell (p := ⟨GP + 1, j, none⟩) (by show w.heap.size ≤ GP + 1; omega) (.int .i64 (-1))
        have S1 : GP + 2 ≤ (wr.setCell ⟨GP + 1, j, none⟩ (.int .i64 (-1))).heap.size := by simpa [World.setCell] using hsz
        clear f1
        by_cases hz0 : z < 0
        · have hzn : ¬ 0 ≤ zs.getD j 0 := by rw [← hz.out]; omega
          have HP := hid (puTo_no (ps := ps) (l := l) (N := N) (p := ((lv, vs, ws, sm), zs)) (m := 0) hzn)
          have HA := hid (atL_set (ps := ps) (l := l) (N := N) (p := ((lv, vs, ws, sm), zs)) (R := (ruTo ps l N ts k).length) (n := nk) (j := j) (v := -1) (if_neg hzn))
          rw [HA.out] at O1
          have N1 := hid C1
          have N2 := hid O1
          have N3 := hid B31
          have N4 := hid B101
          have N5 := hid K1
          have N6 := hid S1
          clear hzn hz C1 O1 B31 B101 K1 S1 hC own kw
          obtain ⟨c9, f9⟩ := id b3
          have ca0 := (b10.2 0 _ rfl).1
          have ca1 := (b10.2 1 _ rfl).1
          have ca2 := (b10.2 2 _ rfl).1
          have ca3 := (b10.2 3 _ rfl).1
          have ca4 := (b10.2 4 _ rfl).1
          go_wp2_with fail
          clear c9 f9 ca0 ca1 ca2 ca3 ca4
          go_roundw
          case rel => exact ⟨j + 1, f, _, by omega, by go_num, rfl, by rw [HP.out]; exact N1.out, N2.out, N3.out, N4.out, hofA, by rw [HP.out]; exact hfo, N6.out, N5.out⟩
          case measure => simp [intOf]; omega
        have hzp : 0 ≤ zs.getD j 0 := by rw [← hz.out]; omega
        have hz1 : 0 ≤ z := by omega
        have HP := hid (puTo_yes (ps := ps) (l := l) (N := N) (p := ((lv, vs, ws, sm), zs)) (m := 0) hzp)
        have HZ := hid (show zs.getD j 0 = z from hz.out.symm)
        have HA := hid (atL_set (ps := ps) (l := l) (N := N) (p := ((lv, vs, ws, sm), zs)) (R := (ruTo ps l N ts k).length) (n := nk) (j := j) (v := (RN : Int)) ((if_pos hzp).trans (by rw [hRN2])))
        have hofB1 := has_off C1.has O1 (by decide)
        have C2 := C1.far (i := j) (u := .int .i64 (RN : Int)) hofB1 (fun i hi => (hfo.out i hi).2)
        have O2 := O1.set_ j (RN : Int)
        rw [show ((atL ps l N ((lv, vs, ws, sm), zs) (ruTo ps l N ts k).length nk j).set j (-1)).set j (RN : Int) = (atL ps l N ((lv, vs, ws, sm), zs) (ruTo ps l N ts k).length nk j).set j (RN : Int) by simp, HA.out] at O2
        have B32 := B31.far (p := ⟨GP + 1, j, none⟩) (by show w.heap.size ≠ GP + 1; omega) (.int .i64 (RN : Int))
        have B102 := B101.far (p := ⟨GP + 1, j, none⟩) (by show GP ≠ GP + 1; omega) (.int .i64 (RN : Int))
        have K2 := K1.setCell (p := ⟨GP + 1, j, none⟩) (by show w.heap.size ≤ GP + 1; omega) (.int .i64 (RN : Int))
        have S2 : GP + 2 ≤ ((wr.setCell ⟨GP + 1, j, none⟩ (.int .i64 (-1))).setCell ⟨GP + 1, j, none⟩ (.int .i64 (RN : Int))).heap.size := by simpa [World.setCell] using hsz
        clear hz hzp hofB hofB1 C1 O1 B31 B101 K1 S1 hRN2
        have SW : wr.heap.size = ((wr.setCell ⟨GP + 1, j, none⟩ (.int .i64 (-1))).setCell ⟨GP + 1, j, none⟩ (.int .i64 (RN : Int))).heap.size := by simp [World.setCell]
        have C3 := C2.keeps (keeps_alloc ((wr.setCell ⟨GP + 1, j, none⟩ (.int .i64 (-1))).setCell ⟨GP + 1, j, none⟩ (.int .i64 (RN : Int))) (.cells (madeCells #[.int .i64 0] N) 3))
        have O3 := O2.keeps (keeps_alloc ((wr.setCell ⟨GP + 1, j, none⟩ (.int .i64 (-1))).setCell ⟨GP + 1, j, none⟩ (.int .i64 (RN : Int))) (.cells (madeCells #[.int .i64 0] N) 3))
        have B33 := B32.keeps (keeps_alloc ((wr.setCell ⟨GP + 1, j, none⟩ (.int .i64 (-1))).setCell ⟨GP + 1, j, none⟩ (.int .i64 (RN : Int))) (.cells (madeCells #[.int .i64 0] N) 3))
        have B103 := B102.keeps (keeps_alloc ((wr.setCell ⟨GP + 1, j, none⟩ (.int .i64 (-1))).setCell ⟨GP + 1, j, none⟩ (.int .i64 (RN : Int))) (.cells (madeCells #[.int .i64 0] N) 3))
        have K3 := Keeps.trans (show Keeps w _ from K2) (keeps_alloc ((wr.setCell ⟨GP + 1, j, none⟩ (.int .i64 (-1))).setCell ⟨GP + 1, j, none⟩ (.int .i64 (RN : Int))) (.cells (madeCells #[.int .i64 0] N) 3))
        have O4 := Own.new ((wr.setCell ⟨GP + 1, j, none⟩ (.int .i64 (-1))).setCell ⟨GP + 1, j, none⟩ (.int .i64 (RN : Int))) N
        rw [← SW, ← amT_zero ps l (lv, vs, ws, sm) N j] at O4
        clear SW
        have HFL := hid (fun i hi => hC.lt (j := i) hi)
        have hmk := make_ints N (by omega)
        obtain ⟨vA, vC, hv⟩ := hC.has.form
        subst hv
        rw [hRN]
        obtain ⟨c9, f9⟩ := id b3
        have ca0 := (b10.2 0 _ rfl).1
        have ca1 := (b10.2 1 _ rfl).1
        have ca2 := (b10.2 2 _ rfl).1
        have ca3 := (b10.2 3 _ rfl).1
        have ca4 := (b10.2 4 _ rfl).1
        have N1 := hid C3
        have N2 := hid O3
        have N3 := hid B33
        have N4 := hid B103
        have N5 := hid K3
        have N6 := hid S2
        have N7 := hid O4
        clear C2 O2 B32 B102 K2 C3 O3 B33 B103 K3 O4 S2 hC own kw b3
        clear hRN
        go_wp2_with (at_builtin; refine append_cond (x := z) info_cnd (by decide) N1.out N7.out (by omega) (fun i hi => HFL.out i hi) (amT_len _ _ _ _ _ _) (by rw [HRN.out]; exact hRN9) (by simp [World.setCell]; omega) _ _ rfl rfl Try.underlying103 (by rw [HRN.out]; rfl) (by first | rfl | (simp [World.setCell] <;> rfl)) ?_; intro v' w9 hC9 hG9 ho9 hb9)
        have M1 := hid hC9
        have M2 := hid (N2.out.grown hG9 (has_off N1.out.has N2.out (by decide)))
        have M3 := hid (N3.out.below hb9 (Nat.lt_succ_self _))
        have M4 := hid (N4.out.grown hG9 hofA)
        have M5 := hid (off_new ho9 hofA (by simp [World.setCell]; omega))
        have M6 := hid (Below.trans N5.out (hb9.mono (by omega)))
        have M7 := hid (show GP + 2 ≤ w9.heap.size by have := hb9.size; simp [World.setCell] at this; omega)
        clear hC9 hG9 ho9 hb9 hofA c9 f9 ca0 ca1 ca2 ca3 ca4 b10 hmk
        go_wp2_with fail
        go_roundw
        case rel => exact ⟨j + 1, _, _, by omega, by go_num, rfl, by rw [HP.out, ← List.append_assoc, HZ.out]; exact M1.out, M2.out, M3.out, M4.out, M5.out, hid (fun i hi => by
          rw [HP.out, ← List.append_assoc, List.length_append, List.length_singleton] at hi
          try dsimp only
          by_cases e : i < ((ruTo ps l N ts k) ++ puTo ps l N ((lv, vs, ws, sm), zs) 0 j).length
          · rw [if_pos e]; exact hfo.out i e
          · rw [if_neg e]; omega), M7.out, M6.out⟩
        case measure => simp [intOf]; omega
      obtain rfl : j = nk := by omega
      have hofB := has_off hC.has own (by decide)
      go_wp2_with fail
      
      go_loopw [57] (fun i wz => ∃ m : Nat, m ≤ N ∧ i = .int .i64 m ∧ Cds wz (w.heap.size + 1) 129 v N f ((ruTo ps l N ts k) ++ puTo ps l N ((lv, vs, ws, sm), zs) m j) ∧ Own wz (GP + 1) (atL ps l N ((lv, vs, ws, sm), zs) (ruTo ps l N ts k).length j j) ∧ B1 wz w.heap.size (.slice A a c0) ∧ Bl wz GP [.int .i64 lv, .slice V nv cv, .slice H nh ch, .int .i64 sm, .slice K j ck] ∧ Keeps w wz) (fun i _ => N - (intOf i).toNat)
      case atStart => exact ⟨0, Nat.zero_le _, rfl, hC, own, b3, b10, kw⟩
      clear hC own b3 b10 kw hpl hlt3
      case round =>
        obtain ⟨m, hm, rfl, hC, own, b3, b10, kw⟩ := hrel
        by_cases hmt : m < N
        rotate_left
        · obtain rfl : m = N := by omega
          have HNX := hid (ruTo_next (ps := ps) (l := l) (N := m) (ts := ts) (k := k) HX.out HZL.out)
          go_wp2_with fail
          go_roundw
          case rel => exact ⟨k + 1, f, by omega, by go_num, by rw [← HNX.out]; exact hC, b3, kw⟩
          case measure => simp [intOf]; omega
        obtain ⟨⟨ai, hai, hai2⟩, hfit⟩ := HTR.out m hmt
        have HAI := hid hai
        have HFI := hid hfit
        have hai3 : ai < a := by have := HPL.out; omega
        have hcb := HCB.out (lv, vs, ws, sm) m hmt HTB.out
        obtain ⟨cc, am, HCE⟩ : ∃ cc am, Hid (ceK ps l (lv, vs, ws, sm) m = (cc, am)) := ⟨_, _, rfl⟩
        rw [HCE.out] at hcb
        have HCQ := hid (show ceQ ps l (lv, vs, ws, sm) ai (taVals l (m : Int)) = (cc, am) by have := HCE.out; unfold ceK at this; rwa [HAI.out, Int.toNat_natCast] at this)
        have hc1_ : -1 ≤ cc := hcb.1.1
        have hc2_ : cc < (j : Int) := by have := HLN.out; have := hcb.1.2; simp only at this; omega
        have ham : 0 ≤ am ∧ am ≤ 7 := hcb.2
        have hm1 : (m : Int) < (N : Int) := by omega
        have hmN := hid (show (m : Int) < tyN ps l by rw [HN.out]; omega)
        have hm12 : (m : Int) ≤ 12 := by omega
        clear hai hfit hcb hai2
        obtain ⟨ca3, fa3⟩ := id b3
        have cb0 := (b10.2 0 _ rfl).1
        have cb1 := (b10.2 1 _ rfl).1
        have cb2 := (b10.2 2 _ rfl).1
        have cb3 := (b10.2 3 _ rfl).1
        have cb4 := (b10.2 4 _ rfl).1
        have kS := hid (show ∀ w', Keeps wr w' → (w'.cell? ⟨w.heap.size, 0, none⟩ = some (.slice A a c0) ∧ w'.cell? ⟨GP, 0, none⟩ = some (.int .i64 lv) ∧ w'.cell? ⟨GP, 1, none⟩ = some (.slice V nv cv) ∧ w'.cell? ⟨GP, 2, none⟩ = some (.slice H nh ch) ∧ w'.cell? ⟨GP, 3, none⟩ = some (.int .i64 sm)) from fun w' k => ⟨cell_keeps ca3 k, cell_keeps cb0 k, cell_keeps cb1 k, cell_keeps cb2 k, cell_keeps cb3 k⟩)
        go_wp2_with fail
        go_region_held3 (fun w' => w'.cell? ⟨w.heap.size, 0, none⟩ = some (.slice A a c0) ∧ w'.cell? ⟨GP, 0, none⟩ = some (.int .i64 lv) ∧ w'.cell? ⟨GP, 1, none⟩ = some (.slice V nv cv) ∧ w'.cell? ⟨GP, 2, none⟩ = some (.slice H nh ch) ∧ w'.cell? ⟨GP, 3, none⟩ = some (.int .i64 sm)) (first | with_reducible exact kS.out _ (keeps_d0 _) | with_reducible exact kS.out _ kW | go_keep)
          ((first | (go_at_call 88; refine (typeAt_any (c := c0) (h.keeps (Keeps.trans kw (keeps_d0 wr))) (h'.keeps (Keeps.trans kw (keeps_d0 wr))) HTY.out (by omega) hmN.out).mono ?_; rintro e wB ⟨VA, rfl, mV, kB⟩; rw [HAI.out]; have kW : Keeps wr wB := keeps_d kB; replace mV := mV.1; clear kB) | (go_at_call 87; refine (contribution_any (c0 := c0) (h.keeps (Keeps.trans kw kW)) (h'.keeps (Keeps.trans kw kW)) (hvv.keeps (Keeps.trans kw kW)) (hhh.keeps (Keeps.trans kw kW)) mV HG.out HS.out HTB.out HFI.out hai3).mono ?_; rintro e wC ⟨rfl, kC⟩; rw [HCQ.out]; replace kW : Keeps wr wC := kW.trans kC; clear kC mV)))
        clear kS ca3 fa3 cb0 cb1 cb2 cb3 cb4
        replace hC := hC.keeps kW
        replace own := own.keeps kW
        replace b3 := b3.keeps kW
        replace b10 := b10.keeps kW
        replace kw := Keeps.trans kw kW
        clear kW
        by_cases hc0_ : cc < 0
        · have HST := hid (puTo_stay (ps := ps) (l := l) (N := N) (p := ((lv, vs, ws, sm), zs)) (m := m) j (fun i hi _ => amI_ne HCE.out (by omega)))
          have hg0 : ¬ (0 : Int) ≤ cc := by omega
          go_wp2_with fail
          go_roundw
          case rel => exact ⟨m + 1, by omega, by go_num, by rw [← HST.out]; exact hC, own, b3, b10, kw⟩
          case measure => simp [intOf]; omega
        obtain ⟨ci, rfl⟩ : ∃ ci : Nat, cc = (ci : Int) := ⟨cc.toNat, by omega⟩
        have hg0 : (0 : Int) ≤ (ci : Int) := by omega
        have hci : ci < j := by omega
        have hca := own.cell ci (by rw [atL_len]; exact hci)
        have HAT := hid (atL_at (ps := ps) (l := l) (N := N) (p := ((lv, vs, ws, sm), zs)) (R := (ruTo ps l N ts k).length) hci)
        by_cases hzp : 0 ≤ zs.getD ci 0
        rotate_left
        · have HST := hid (puTo_stay (ps := ps) (l := l) (N := N) (p := ((lv, vs, ws, sm), zs)) (m := m) j (fun i hi hz => amI_ne HCE.out (fun e => hzp (by rw [show ci = i by omega]; exact hz))))
          rw [HAT.out, show atI ps l N ((lv, vs, ws, sm), zs) (ruTo ps l N ts k).length ci = -1 from if_neg hzp] at hca
          clear hzp
          go_wp2_with fail
          go_roundw
          case rel => exact ⟨m + 1, by omega, by go_num, by rw [← HST.out]; exact hC, own, b3, b10, kw⟩
          case measure => simp [intOf]; omega
        have HL2 := hid (puTo_len2 ps l N ((lv, vs, ws, sm), zs) 0 m ci)
        obtain ⟨RI, hRI⟩ : ∃ x, (ruTo ps l N ts k).length + (puTo ps l N ((lv, vs, ws, sm), zs) m ci).length = x := ⟨_, rfl⟩
        rw [HAT.out, show atI ps l N ((lv, vs, ws, sm), zs) (ruTo ps l N ts k).length ci = (RI : Int) from (if_pos hzp).trans (by rw [← hRI, HL2.out])] at hca
        have hlt9 := puTo_lt (ps := ps) (l := l) (N := N) (p := ((lv, vs, ws, sm), zs)) (m := m) hci hzp
        have hRL : RI < ((ruTo ps l N ts k) ++ puTo ps l N ((lv, vs, ws, sm), zs) m j).length := by rw [List.length_append]; omega
        have hrow := puTo_at (ps := ps) (l := l) (N := N) (p := ((lv, vs, ws, sm), zs)) (m := m) hzp j hci
        have HRW := hid (show ((ruTo ps l N ts k) ++ puTo ps l N ((lv, vs, ws, sm), zs) m j).getD RI cc0 = (amT ps l (lv, vs, ws, sm) N ci m, zs.getD ci 0) by rw [← hRI, getD_app]; exact hrow)
        have HSE := hid (show ((ruTo ps l N ts k) ++ puTo ps l N ((lv, vs, ws, sm), zs) m j).set RI (amT ps l (lv, vs, ws, sm) N ci (m + 1), zs.getD ci 0) = (ruTo ps l N ts k) ++ puTo ps l N ((lv, vs, ws, sm), zs) (m + 1) j by rw [← hRI, set_app, puTo_set HCE.out hzp j hci])
        obtain ⟨og, oc, hv, hr1, hr2⟩ := hC.row hRL
        have hOJ := (hC.own RI hRL)
        rw [HRW.out] at hOJ
        obtain ⟨yk, hyk, -⟩ := hOJ.1.at_ m (by rw [amT_len]; exact hmt)
        have hfk := hOJ.1.frozen m
        have C9 := hC.set_ (k := m) (a := am) (by decide) hRL HRW.out
        rw [show (amT ps l (lv, vs, ws, sm) N ci m).set m am = amT ps l (lv, vs, ws, sm) N ci (m + 1) by rw [← amI_eq HCE.out rfl]; exact amT_set, HSE.out] at C9
        have hfR := hfo.out RI (by rw [List.length_append, puTo_len2 ps l N ((lv, vs, ws, sm), zs) 0 m j, ← List.length_append]; exact hRL)
        have hBf := hOJ.2.1
        have hRI9 : RI ≤ 67108864 := by have := puTo_len ps l N ((lv, vs, ws, sm), zs) m j; rw [List.length_append] at hRL; omega
        have hri1 : (RI : Int) < (((ruTo ps l N ts k).length : Nat) : Int) + (((puTo ps l N ((lv, vs, ws, sm), zs) m j).length : Nat) : Int) := by rw [List.length_append] at hRL; omega
        have hri2 : RI < (ruTo ps l N ts k).length + (puTo ps l N ((lv, vs, ws, sm), zs) m j).length := by rw [List.length_append] at hRL; omega
        obtain ⟨FR, hFR⟩ : ∃ x, f RI = x := ⟨_, rfl⟩
        rw [hFR] at hr1 hyk hfk C9 hfR hBf
        have N1 := hid C9
        have N2 := hid (own.far (p := ⟨FR, m, none⟩) (by show GP + 1 ≠ FR; omega) (.int .i64 am))
        have N3 := hid (b3.far (p := ⟨FR, m, none⟩) (by show w.heap.size ≠ FR; omega) (.int .i64 am))
        have N4 := hid (b10.far (p := ⟨FR, m, none⟩) (by show GP ≠ FR; omega) (.int .i64 am))
        have N5 := hid (kw.setCell (p := ⟨FR, m, none⟩) (by show w.heap.size ≤ FR; omega) (.int .i64 am))
        subst hv
        clear hlt9 hRL hrow hOJ hFR hRI C9 hC own b3 b10 kw hzp hofA hofB
        go_wp2_with fail
        go_roundw
        case rel => exact ⟨m + 1, by omega, by go_num, N1.out, N2.out, N3.out, N4.out, N5.out⟩
        case measure => simp [intOf]; omega
end Go.Proofs.Ytellocnplemjmaa
