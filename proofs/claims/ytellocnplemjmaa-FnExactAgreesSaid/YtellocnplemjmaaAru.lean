/- The rules of published tables, of the reference. -/
import Derived.Test.YtellocnplemjmaaCof
namespace Go.Proofs.Ytellocnplemjmaa
open Go.RowKit Go.Sort
set_option linter.unusedVariables false
set_option linter.unusedSimpArgs false

theorem info_rul : (Try.prog.info? 96).map (fun i => (i.zero, i.size, i.bytes)) = some (some (.agg #[.slice none 0 0, .int .i64 0]), 2, 32) := by kernel_rfl
set_option maxRecDepth 100000 in
set_option maxHeartbeats 25600000 in
theorem aRules_any {A A' Q : Option Addr} {lo hi a c0 lo3 hi3 n c q e N : Nat} {un : Bool} {ps : List Int} {l : List VV} {ts : List PP} {w : World} (h : Ints w lo hi A a ps) (h' : Sch w A' q e l) (ht : Pubs true un w lo3 hi3 Q n ts) (hty : tyB ps l = true) (hap : apB ps l ts = true) (hN : tyN ps l = (N : Int)) :
    Calls Try.prog 51 #[.agg #[.slice A a c0], .slice A' q e, .slice Q n c] w (CofRes w N (ruTo ps l N ts ts.length)) := by
  have h12 := tyB_12 hty
  have hN12 : N ≤ 12 := by omega
  have hq := Vars.len (Classical.choose_spec (Classical.choose_spec h'.v))
  have HQL := hid hq
  have HPL := hid h.1
  have HG := hid (tyB_gs hty).1
  have HS := hid (tyB_gs hty).2
  have HTY := hid hty
  have HN := hid hN
  have HTL := hid ht.len
  have hap2 := apB_at hap
  have hn20 : n ≤ 20 := by have := hap2.1; have := ht.len; omega
  have HAP := hid (fun k (hk : k < n) => apR_parts (hap2.2 k (by have := ht.len; omega)))
  have HTR := hid (fun k (hk : k < N) => type_rec hty hN hk)
  have HCB := hid (fun (t : TT) k (hk : k < N) (htb : tabB ps l t = true) => ceK_bd hty hN hk htb)
  have HRL := hid (fun k (hk : k ≤ n) => ruTo_len (ps := ps) (l := l) (N := N) (ts := ts) (n := n) (fun k hk => by
    have h1 := apR_parts (hap2.2 k (by have := ht.len; omega))
    have h2 := (tabB_parts h1.1).2.2.2.2
    omega) k hk)
  clear h12 hq hty hap hN hap2
  go_enter Try.func51, Try.ntmps51
  have kw := keeps_refl w
  replace kw := Keeps.trans kw (keeps_alloc w (.cells #[.slice A a c0] 38))
  have b3 : B1 (w.alloc (.cells #[.slice A a c0] 38)) w.heap.size (.slice A a c0) := B1.new' (by simp)
  obtain ⟨ca1, fa1⟩ := id b3
  go_wp2_with fail
  clear ca1 fa1
  go_loopw [7, 18] (fun v i wr => ∃ (k : Nat) (f : Nat → Nat), k ≤ n ∧ i = .int .i64 k ∧ Cds wr (w.heap.size + 1) 96 v N f (ruTo ps l N ts k) ∧ B1 wr w.heap.size (.slice A a c0) ∧ Keeps w wr) (fun _ i _ => n - (intOf i).toNat)
  case atStart => exact ⟨0, fun _ => 0, Nat.zero_le _, rfl, Cds.nil _ _ _ _ _, b3, kw⟩
  clear b3 kw
  case round =>
    obtain ⟨k, f, hk, rfl, hC, b3, kw⟩ := hrel
    by_cases hlt : k < n
    rotate_left
    · obtain rfl : k = n := by omega
      have hR := HRL.out k (Nat.le_refl _)
      obtain ⟨R, C, rfl, hCR⟩ := hC.read (by omega) (by omega)
      have HE := hid (show ruTo ps l N ts ts.length = ruTo ps l N ts k by rw [HTL.out])
      have HK := hid kw
      clear hC b3 kw
      go_wp2
      go_ret
      exact ⟨R, C, by rw [HE.out]; rfl, by rw [HE.out]; exact hCR, HK.out⟩
    obtain ⟨b, off, lv, V, nv, cv, H, nh, ch, sm, K, nk, ck, vs, ws, zs, rfl, _, _, hc0, hc1, hc2, hc3, hc4, hvv, hhh, hkk, hx⟩ := ht.at_ hlt
    have hi1 : (k : Int) < (n : Int) := by omega
    have hrow := HAP.out k hlt
    rw [← hx.out] at hrow
    obtain ⟨htb0, hlen0, hwi0⟩ := hrow
    have HTB := hid (show tabB ps l (lv, vs, ws, sm) = true from htb0)
    have hzl : zs.length = nk := hkk.1
    have htn := (tabB_parts htb0).2.2.2.2
    have hnk6 : nk ≤ 600 := by simp only at hlen0 htn; omega
    have HLN := hid (show (nk : Int) = tabN ps l (lv, vs, ws, sm) by rw [← hzl]; exact hlen0)
    have HZL := hid hzl
    have HX := hid hx.out
    have hR := HRL.out k (by omega)
    have hR9 : (ruTo ps l N ts k).length ≤ 12000 := by omega
    clear hx htb0 hlen0 hwi0 hzl htn hR
    have d0 := cell_keeps hc0 kw
    have d1 := cell_keeps hc1 kw
    have d2 := cell_keeps hc2 kw
    have d3 := cell_keeps hc3 kw
    have d4 := cell_keeps hc4 kw
    have lt3 := b3.lt
    have hofA := hC.has.off_lt (Nat.le_refl _)
    replace b3 := b3.keeps (keeps_alloc wr (.cells #[.int .i64 lv, .slice V nv cv, .slice H nh ch, .int .i64 sm, .slice K nk ck] 100))
    replace hC := hC.keeps (keeps_alloc wr (.cells #[.int .i64 lv, .slice V nv cv, .slice H nh ch, .int .i64 sm, .slice K nk ck] 100))
    replace kw := Keeps.trans kw (keeps_alloc wr (.cells #[.int .i64 lv, .slice V nv cv, .slice H nh ch, .int .i64 sm, .slice K nk ck] 100))
    have b9 : Bl (wr.alloc (.cells #[.int .i64 lv, .slice V nv cv, .slice H nh ch, .int .i64 sm, .slice K nk ck] 100)) wr.heap.size [.int .i64 lv, .slice V nv cv, .slice H nh ch, .int .i64 sm, .slice K nk ck] := Bl.new' (by simp) (by simp)
    have ca2_0 : (wr.alloc (.cells #[.int .i64 lv, .slice V nv cv, .slice H nh ch, .int .i64 sm, .slice K nk ck] 100)).cell? ⟨wr.heap.size, 0, none⟩ = some (.int .i64 lv) := (b9.2 0 _ rfl).1
    have fa2_0 : (wr.alloc (.cells #[.int .i64 lv, .slice V nv cv, .slice H nh ch, .int .i64 sm, .slice K nk ck] 100)).frozen? ⟨wr.heap.size, 0, none⟩ = false := (b9.2 0 _ rfl).2
    have ca2_1 : (wr.alloc (.cells #[.int .i64 lv, .slice V nv cv, .slice H nh ch, .int .i64 sm, .slice K nk ck] 100)).cell? ⟨wr.heap.size, 1, none⟩ = some (.slice V nv cv) := (b9.2 1 _ rfl).1
    have fa2_1 : (wr.alloc (.cells #[.int .i64 lv, .slice V nv cv, .slice H nh ch, .int .i64 sm, .slice K nk ck] 100)).frozen? ⟨wr.heap.size, 1, none⟩ = false := (b9.2 1 _ rfl).2
    have ca2_2 : (wr.alloc (.cells #[.int .i64 lv, .slice V nv cv, .slice H nh ch, .int .i64 sm, .slice K nk ck] 100)).cell? ⟨wr.heap.size, 2, none⟩ = some (.slice H nh ch) := (b9.2 2 _ rfl).1
    have fa2_2 : (wr.alloc (.cells #[.int .i64 lv, .slice V nv cv, .slice H nh ch, .int .i64 sm, .slice K nk ck] 100)).frozen? ⟨wr.heap.size, 2, none⟩ = false := (b9.2 2 _ rfl).2
    have ca2_3 : (wr.alloc (.cells #[.int .i64 lv, .slice V nv cv, .slice H nh ch, .int .i64 sm, .slice K nk ck] 100)).cell? ⟨wr.heap.size, 3, none⟩ = some (.int .i64 sm) := (b9.2 3 _ rfl).1
    have fa2_3 : (wr.alloc (.cells #[.int .i64 lv, .slice V nv cv, .slice H nh ch, .int .i64 sm, .slice K nk ck] 100)).frozen? ⟨wr.heap.size, 3, none⟩ = false := (b9.2 3 _ rfl).2
    have ca2_4 : (wr.alloc (.cells #[.int .i64 lv, .slice V nv cv, .slice H nh ch, .int .i64 sm, .slice K nk ck] 100)).cell? ⟨wr.heap.size, 4, none⟩ = some (.slice K nk ck) := (b9.2 4 _ rfl).1
    have fa2_4 : (wr.alloc (.cells #[.int .i64 lv, .slice V nv cv, .slice H nh ch, .int .i64 sm, .slice K nk ck] 100)).frozen? ⟨wr.heap.size, 4, none⟩ = false := (b9.2 4 _ rfl).2
    go_wp2_with fail
    clear ca2_0 fa2_0 ca2_1 fa2_1 ca2_2 fa2_2 ca2_3 fa2_3 ca2_4 fa2_4
    clear d0 d1 d2 d3 d4
    obtain ⟨W1, hX⟩ : ∃ u : World, u = (wr.alloc (.cells #[.int .i64 lv, .slice V nv cv, .slice H nh ch, .int .i64 sm, .slice K nk ck] 100)) := ⟨_, rfl⟩
    have szX2 := hid (show W1.heap.size = wr.heap.size + 1 by rw [hX]; simp)
    rw [← hX] at b3
    rw [← hX] at b9
    rw [← hX] at hC
    rw [← hX] at kw
    rw [← hX]
    clear hX
    have sz4 := kw.size
    have hW1 : wr.heap.size + 1 ≤ W1.heap.size := by rw [szX2.out]; omega
    obtain ⟨GP, hGP⟩ : ∃ G, wr.heap.size = G := ⟨_, rfl⟩
    rw [hGP] at hofA b9 hW1 lt3
    try rw [hGP]
    clear hGP szX2
    have hwG : w.heap.size + 1 ≤ GP := by omega
    go_loopw [7, 25] (fun vq i wv => ∃ (j : Nat) (f : Nat → Nat) (v : Value), j ≤ nk ∧ i = .int .i64 j ∧ v = vq ∧ Cds wv (w.heap.size + 1) 96 v N f ((ruTo ps l N ts k) ++ puTo ps l N ((lv, vs, ws, sm), zs) N j) ∧ B1 wv w.heap.size (.slice A a c0) ∧ Bl wv GP [.int .i64 lv, .slice V nv cv, .slice H nh ch, .int .i64 sm, .slice K nk ck] ∧ v.ownBlock ≠ some GP ∧ GP + 1 ≤ wv.heap.size ∧ Keeps w wv) (fun _ i _ => nk - (intOf i).toNat)
    case atStart => exact ⟨0, f, _, Nat.zero_le _, rfl, rfl, by rw [show puTo ps l N ((lv, vs, ws, sm), zs) N 0 = [] from rfl, List.append_nil]; exact hC, b3, b9, hofA, hW1, kw⟩
    clear hC b3 b9 hofA hW1 kw
    case round =>
      obtain ⟨j, f, v, hj, rfl, rfl, hC, b3, b9, hofA, hsz, kw⟩ := hrel
      have hpl := puTo_len ps l N ((lv, vs, ws, sm), zs) N j
      have hlt3 := b3.lt
      by_cases hjt : j < nk
      rotate_left
      · obtain rfl : j = nk := by omega
        have HNX := hid (ruTo_next (ps := ps) (l := l) (N := N) (ts := ts) (k := k) HX.out HZL.out)
        go_wp2_with fail
        go_roundw
        case rel => exact ⟨k + 1, f, by omega, by go_num, by rw [← HNX.out]; exact hC, b3, kw⟩
        case measure => simp [intOf]; omega
      obtain ⟨bk, ok, z, rfl, _, _, hcz, hz⟩ := (hkk.keeps kw).at_ hjt
      have hj1 : (j : Int) < (nk : Int) := by omega
      by_cases hz0 : z < 0
      · have hzn : ¬ 0 ≤ zs.getD j 0 := by rw [← hz.out]; omega
        have HP := hid (puTo_no (ps := ps) (l := l) (N := N) (p := ((lv, vs, ws, sm), zs)) (m := N) hzn)
        clear hzn hz
        obtain ⟨ca5, fa5⟩ := id b3
        have ca6_0 : wr.cell? ⟨GP, 0, none⟩ = some (.int .i64 lv) := (b9.2 0 _ rfl).1
        have fa6_0 : wr.frozen? ⟨GP, 0, none⟩ = false := (b9.2 0 _ rfl).2
        have ca6_1 : wr.cell? ⟨GP, 1, none⟩ = some (.slice V nv cv) := (b9.2 1 _ rfl).1
        have fa6_1 : wr.frozen? ⟨GP, 1, none⟩ = false := (b9.2 1 _ rfl).2
        have ca6_2 : wr.cell? ⟨GP, 2, none⟩ = some (.slice H nh ch) := (b9.2 2 _ rfl).1
        have fa6_2 : wr.frozen? ⟨GP, 2, none⟩ = false := (b9.2 2 _ rfl).2
        have ca6_3 : wr.cell? ⟨GP, 3, none⟩ = some (.int .i64 sm) := (b9.2 3 _ rfl).1
        have fa6_3 : wr.frozen? ⟨GP, 3, none⟩ = false := (b9.2 3 _ rfl).2
        have ca6_4 : wr.cell? ⟨GP, 4, none⟩ = some (.slice (some ⟨bk, ok, none⟩) nk ck) := (b9.2 4 _ rfl).1
        have fa6_4 : wr.frozen? ⟨GP, 4, none⟩ = false := (b9.2 4 _ rfl).2
        go_wp2_with fail
        clear ca5 fa5 ca6_0 fa6_0 ca6_1 fa6_1 ca6_2 fa6_2 ca6_3 fa6_3 ca6_4 fa6_4
        go_roundw
        case rel => exact ⟨j + 1, f, _, by omega, by go_num, rfl, by rw [HP.out]; exact hC, b3, b9, hofA, hsz, kw⟩
        case measure => simp [intOf]; omega
      have hzp : 0 ≤ zs.getD j 0 := by rw [← hz.out]; omega
      have HP := hid (puTo_yes (ps := ps) (l := l) (N := N) (p := ((lv, vs, ws, sm), zs)) (m := N) hzp)
      have HZ := hid (show zs.getD j 0 = z from hz.out.symm)
      clear hzp hz
      obtain ⟨RN, hRN⟩ : ∃ x, ((ruTo ps l N ts k) ++ puTo ps l N ((lv, vs, ws, sm), zs) N j).length = x := ⟨_, rfl⟩
      have HRN := hid hRN
      have HRN9 := hid (show RN ≤ 67108864 by rw [← hRN, List.length_append]; omega)
      clear hRN
      obtain ⟨ca5, fa5⟩ := id b3
      have ca6_0 : wr.cell? ⟨GP, 0, none⟩ = some (.int .i64 lv) := (b9.2 0 _ rfl).1
      have fa6_0 : wr.frozen? ⟨GP, 0, none⟩ = false := (b9.2 0 _ rfl).2
      have ca6_1 : wr.cell? ⟨GP, 1, none⟩ = some (.slice V nv cv) := (b9.2 1 _ rfl).1
      have fa6_1 : wr.frozen? ⟨GP, 1, none⟩ = false := (b9.2 1 _ rfl).2
      have ca6_2 : wr.cell? ⟨GP, 2, none⟩ = some (.slice H nh ch) := (b9.2 2 _ rfl).1
      have fa6_2 : wr.frozen? ⟨GP, 2, none⟩ = false := (b9.2 2 _ rfl).2
      have ca6_3 : wr.cell? ⟨GP, 3, none⟩ = some (.int .i64 sm) := (b9.2 3 _ rfl).1
      have fa6_3 : wr.frozen? ⟨GP, 3, none⟩ = false := (b9.2 3 _ rfl).2
      have ca6_4 : wr.cell? ⟨GP, 4, none⟩ = some (.slice (some ⟨bk, ok, none⟩) nk ck) := (b9.2 4 _ rfl).1
      have fa6_4 : wr.frozen? ⟨GP, 4, none⟩ = false := (b9.2 4 _ rfl).2
      go_wp2_with fail
      clear ca5 fa5 ca6_0 fa6_0 ca6_1 fa6_1 ca6_2 fa6_2 ca6_3 fa6_3 ca6_4 fa6_4
      refine (aTypes_any (h.keeps kw) (h'.keeps kw) HG.out HS.out).mono ?_
      rintro e w7 ⟨rfl, k7⟩
      rw [HN.out]
      replace b3 := b3.keeps k7
      replace b9 := b9.keeps k7
      replace hC := hC.keeps k7
      replace kw := Keeps.trans kw k7
      have lt8 := b9.lt
      have sz9 := kw.size
      clear k7
      have hsz2 : GP + 1 ≤ w7.heap.size := b9.lt
      have HFL := hid (fun i hi => hC.lt (j := i) hi)
      have hmk := make_ints N (by omega)
      have ca10_0 : w7.cell? ⟨GP, 0, none⟩ = some (.int .i64 lv) := (b9.2 0 _ rfl).1
      have fa10_0 : w7.frozen? ⟨GP, 0, none⟩ = false := (b9.2 0 _ rfl).2
      have ca10_1 : w7.cell? ⟨GP, 1, none⟩ = some (.slice V nv cv) := (b9.2 1 _ rfl).1
      have fa10_1 : w7.frozen? ⟨GP, 1, none⟩ = false := (b9.2 1 _ rfl).2
      have ca10_2 : w7.cell? ⟨GP, 2, none⟩ = some (.slice H nh ch) := (b9.2 2 _ rfl).1
      have fa10_2 : w7.frozen? ⟨GP, 2, none⟩ = false := (b9.2 2 _ rfl).2
      have ca10_3 : w7.cell? ⟨GP, 3, none⟩ = some (.int .i64 sm) := (b9.2 3 _ rfl).1
      have fa10_3 : w7.frozen? ⟨GP, 3, none⟩ = false := (b9.2 3 _ rfl).2
      have ca10_4 : w7.cell? ⟨GP, 4, none⟩ = some (.slice (some ⟨bk, ok, none⟩) nk ck) := (b9.2 4 _ rfl).1
      have fa10_4 : w7.frozen? ⟨GP, 4, none⟩ = false := (b9.2 4 _ rfl).2
      replace b3 := b3.keeps (keeps_alloc w7 (.cells (madeCells #[.int .i64 0] N) 3))
      replace b9 := b9.keeps (keeps_alloc w7 (.cells (madeCells #[.int .i64 0] N) 3))
      replace hC := hC.keeps (keeps_alloc w7 (.cells (madeCells #[.int .i64 0] N) 3))
      replace kw := Keeps.trans kw (keeps_alloc w7 (.cells (madeCells #[.int .i64 0] N) 3))
      have own : Own (w7.alloc (.cells (madeCells #[.int .i64 0] N) 3)) (w7.heap.size) (amT ps l (lv, vs, ws, sm) N j 0) := by rw [amT_zero]; exact Own.new _ _
      replace b3 := b3.keeps (keeps_alloc (w7.alloc (.cells (madeCells #[.int .i64 0] N) 3)) (.cells #[.slice (some ⟨w7.heap.size, 0, none⟩) N N, .int .i64 z] 96))
      replace b9 := b9.keeps (keeps_alloc (w7.alloc (.cells (madeCells #[.int .i64 0] N) 3)) (.cells #[.slice (some ⟨w7.heap.size, 0, none⟩) N N, .int .i64 z] 96))
      replace hC := hC.keeps (keeps_alloc (w7.alloc (.cells (madeCells #[.int .i64 0] N) 3)) (.cells #[.slice (some ⟨w7.heap.size, 0, none⟩) N N, .int .i64 z] 96))
      replace own := own.keeps (keeps_alloc (w7.alloc (.cells (madeCells #[.int .i64 0] N) 3)) (.cells #[.slice (some ⟨w7.heap.size, 0, none⟩) N N, .int .i64 z] 96))
      replace kw := Keeps.trans kw (keeps_alloc (w7.alloc (.cells (madeCells #[.int .i64 0] N) 3)) (.cells #[.slice (some ⟨w7.heap.size, 0, none⟩) N N, .int .i64 z] 96))
      have b12 : Bl ((w7.alloc (.cells (madeCells #[.int .i64 0] N) 3)).alloc (.cells #[.slice (some ⟨w7.heap.size, 0, none⟩) N N, .int .i64 z] 96)) (w7.heap.size + 1) [.slice (some ⟨w7.heap.size, 0, none⟩) N N, .int .i64 z] := Bl.new' (by simp) (by simp)
      have ca11_0 : ((w7.alloc (.cells (madeCells #[.int .i64 0] N) 3)).alloc (.cells #[.slice (some ⟨w7.heap.size, 0, none⟩) N N, .int .i64 z] 96)).cell? ⟨GP, 0, none⟩ = some (.int .i64 lv) := (b9.2 0 _ rfl).1
      have fa11_0 : ((w7.alloc (.cells (madeCells #[.int .i64 0] N) 3)).alloc (.cells #[.slice (some ⟨w7.heap.size, 0, none⟩) N N, .int .i64 z] 96)).frozen? ⟨GP, 0, none⟩ = false := (b9.2 0 _ rfl).2
      have ca11_1 : ((w7.alloc (.cells (madeCells #[.int .i64 0] N) 3)).alloc (.cells #[.slice (some ⟨w7.heap.size, 0, none⟩) N N, .int .i64 z] 96)).cell? ⟨GP, 1, none⟩ = some (.slice V nv cv) := (b9.2 1 _ rfl).1
      have fa11_1 : ((w7.alloc (.cells (madeCells #[.int .i64 0] N) 3)).alloc (.cells #[.slice (some ⟨w7.heap.size, 0, none⟩) N N, .int .i64 z] 96)).frozen? ⟨GP, 1, none⟩ = false := (b9.2 1 _ rfl).2
      have ca11_2 : ((w7.alloc (.cells (madeCells #[.int .i64 0] N) 3)).alloc (.cells #[.slice (some ⟨w7.heap.size, 0, none⟩) N N, .int .i64 z] 96)).cell? ⟨GP, 2, none⟩ = some (.slice H nh ch) := (b9.2 2 _ rfl).1
      have fa11_2 : ((w7.alloc (.cells (madeCells #[.int .i64 0] N) 3)).alloc (.cells #[.slice (some ⟨w7.heap.size, 0, none⟩) N N, .int .i64 z] 96)).frozen? ⟨GP, 2, none⟩ = false := (b9.2 2 _ rfl).2
      have ca11_3 : ((w7.alloc (.cells (madeCells #[.int .i64 0] N) 3)).alloc (.cells #[.slice (some ⟨w7.heap.size, 0, none⟩) N N, .int .i64 z] 96)).cell? ⟨GP, 3, none⟩ = some (.int .i64 sm) := (b9.2 3 _ rfl).1
      have fa11_3 : ((w7.alloc (.cells (madeCells #[.int .i64 0] N) 3)).alloc (.cells #[.slice (some ⟨w7.heap.size, 0, none⟩) N N, .int .i64 z] 96)).frozen? ⟨GP, 3, none⟩ = false := (b9.2 3 _ rfl).2
      have ca11_4 : ((w7.alloc (.cells (madeCells #[.int .i64 0] N) 3)).alloc (.cells #[.slice (some ⟨w7.heap.size, 0, none⟩) N N, .int .i64 z] 96)).cell? ⟨GP, 4, none⟩ = some (.slice (some ⟨bk, ok, none⟩) nk ck) := (b9.2 4 _ rfl).1
      have fa11_4 : ((w7.alloc (.cells (madeCells #[.int .i64 0] N) 3)).alloc (.cells #[.slice (some ⟨w7.heap.size, 0, none⟩) N N, .int .i64 z] 96)).frozen? ⟨GP, 4, none⟩ = false := (b9.2 4 _ rfl).2
      have ca12_0 : ((w7.alloc (.cells (madeCells #[.int .i64 0] N) 3)).alloc (.cells #[.slice (some ⟨w7.heap.size, 0, none⟩) N N, .int .i64 z] 96)).cell? ⟨w7.heap.size + 1, 0, none⟩ = some (.slice (some ⟨w7.heap.size, 0, none⟩) N N) := (b12.2 0 _ rfl).1
      have fa12_0 : ((w7.alloc (.cells (madeCells #[.int .i64 0] N) 3)).alloc (.cells #[.slice (some ⟨w7.heap.size, 0, none⟩) N N, .int .i64 z] 96)).frozen? ⟨w7.heap.size + 1, 0, none⟩ = false := (b12.2 0 _ rfl).2
      have ca12_1 : ((w7.alloc (.cells (madeCells #[.int .i64 0] N) 3)).alloc (.cells #[.slice (some ⟨w7.heap.size, 0, none⟩) N N, .int .i64 z] 96)).cell? ⟨w7.heap.size + 1, 1, none⟩ = some (.int .i64 z) := (b12.2 1 _ rfl).1
      have fa12_1 : ((w7.alloc (.cells (madeCells #[.int .i64 0] N) 3)).alloc (.cells #[.slice (some ⟨w7.heap.size, 0, none⟩) N N, .int .i64 z] 96)).frozen? ⟨w7.heap.size + 1, 1, none⟩ = false := (b12.2 1 _ rfl).2
      go_wp2_with fail
      clear ca10_0 fa10_0 ca10_1 fa10_1 ca10_2 fa10_2 ca10_3 fa10_3 ca10_4 fa10_4 ca11_0 fa11_0 ca11_1 fa11_1 ca11_2 fa11_2 ca11_3 fa11_3 ca11_4 fa11_4 ca12_0 fa12_0 ca12_1 fa12_1
      clear hmk
      obtain ⟨W2, hX⟩ : ∃ u : World, u = ((w7.alloc (.cells (madeCells #[.int .i64 0] N) 3)).alloc (.cells #[.slice (some ⟨w7.heap.size, 0, none⟩) N N, .int .i64 z] 96)) := ⟨_, rfl⟩
      have szX12 := hid (show W2.heap.size = w7.heap.size + 1 + 1 by rw [hX]; simp)
      rw [← hX] at b3
      rw [← hX] at b9
      rw [← hX] at b12
      rw [← hX] at hC
      rw [← hX] at own
      rw [← hX] at kw
      rw [← hX]
      clear hX
      have sz14 := kw.size
      obtain ⟨GA, hGA⟩ : ∃ G, w7.heap.size = G := ⟨_, rfl⟩
      rw [hGA] at own b12 HFL hsz2
      try rw [hGA]
      have hW2 : GA + 2 ≤ W2.heap.size := by have := szX12.out; omega
      clear hGA szX12
      go_loopw [41] (fun i wz => ∃ m : Nat, m ≤ N ∧ i = .int .i64 m ∧ Cds wz (w.heap.size + 1) 96 v N f ((ruTo ps l N ts k) ++ puTo ps l N ((lv, vs, ws, sm), zs) N j) ∧ Own wz GA (amT ps l (lv, vs, ws, sm) N j m) ∧ B1 wz w.heap.size (.slice A a c0) ∧ Bl wz GP [.int .i64 lv, .slice V nv cv, .slice H nh ch, .int .i64 sm, .slice (some ⟨bk, ok, none⟩) nk ck] ∧ Bl wz (GA + 1) [.slice (some ⟨GA, 0, none⟩) N N, .int .i64 z] ∧ GA + 2 ≤ wz.heap.size ∧ Keeps w wz) (fun i _ => N - (intOf i).toNat)
      case atStart => exact ⟨0, Nat.zero_le _, rfl, hC, own, b3, b9, b12, hW2, kw⟩
      clear hC own b3 b9 b12 kw hW2 hlt3 hcz hsz
      case round =>
        obtain ⟨m, hm, rfl, hC, own, b3, b9, b12, hW2, kw⟩ := hrel
        by_cases hmt : m < N
        rotate_left
        · obtain rfl : m = N := by omega
          obtain ⟨vA, vC, hv⟩ := hC.has.form
          subst hv
          have hlt3 := b3.lt
          have ca0 := (b12.2 0 _ rfl).1
          have ca1 := (b12.2 1 _ rfl).1
          have N1 := hid hC
          have N3 := hid b3
          have N4 := hid b9
          have N5 := hid kw
          have N7 := hid own
          clear hC own b3 kw b12
          go_wp2_with (at_builtin; refine append_cond (x := z) info_rul (by decide) N1.out N7.out (by omega) (fun i hi => HFL.out i hi) (amT_len _ _ _ _ _ _) (by rw [HRN.out]; exact HRN9.out) (by omega) _ _ rfl rfl Try.underlying93 (by first | rfl | (simp <;> rfl)) (by first | rfl | (simp [World.setCell] <;> rfl)) ?_; intro v' w9 hC9 hG9 ho9 hb9)
          have M1 := hid hC9
          have M3 := hid (N3.out.below hb9 (Nat.lt_succ_self _))
          have M4 := hid (N4.out.grown hG9 hofA)
          have M5 := hid (off_new ho9 hofA (by omega))
          have M6 := hid (Below.trans N5.out (hb9.mono (by omega)))
          have M7 := hid (show GP + 1 ≤ w9.heap.size by have := hb9.size; omega)
          clear hC9 hG9 ho9 hb9 hofA ca0 ca1 b9
          go_wp2_with fail
          go_roundw
          case rel => exact ⟨j + 1, _, _, by omega, by go_num, rfl, by rw [HP.out, ← List.append_assoc, HZ.out]; exact M1.out, M3.out, M4.out, M5.out, M7.out, M6.out⟩
          case measure => simp [intOf]; omega
        obtain ⟨⟨ai, hai, hai2⟩, hfit⟩ := HTR.out m hmt
        have HAI := hid hai
        have HFI := hid hfit
        have hai3 : ai < a := by have := HPL.out; omega
        obtain ⟨cc, am, HCE⟩ : ∃ cc am, Hid (ceK ps l (lv, vs, ws, sm) m = (cc, am)) := ⟨_, _, rfl⟩
        have HCQ := hid (show ceQ ps l (lv, vs, ws, sm) ai (taVals l (m : Int)) = (cc, am) by have := HCE.out; unfold ceK at this; rwa [HAI.out, Int.toNat_natCast] at this)
        have hm1 : (m : Int) < (N : Int) := by omega
        have hmN := hid (show (m : Int) < tyN ps l by rw [HN.out]; omega)
        have hm12 : (m : Int) ≤ 12 := by omega
        clear hai hfit hai2
        obtain ⟨ca3, fa3⟩ := id b3
        have cb0 := (b9.2 0 _ rfl).1
        have cb1 := (b9.2 1 _ rfl).1
        have cb2 := (b9.2 2 _ rfl).1
        have cb3 := (b9.2 3 _ rfl).1
        have cb4 := (b9.2 4 _ rfl).1
        have kS := hid (show ∀ w', Keeps wr w' → (w'.cell? ⟨w.heap.size, 0, none⟩ = some (.slice A a c0) ∧ w'.cell? ⟨GP, 0, none⟩ = some (.int .i64 lv) ∧ w'.cell? ⟨GP, 1, none⟩ = some (.slice V nv cv) ∧ w'.cell? ⟨GP, 2, none⟩ = some (.slice H nh ch) ∧ w'.cell? ⟨GP, 3, none⟩ = some (.int .i64 sm)) from fun w' k => ⟨cell_keeps ca3 k, cell_keeps cb0 k, cell_keeps cb1 k, cell_keeps cb2 k, cell_keeps cb3 k⟩)
        go_wp2_with fail
        go_region_held3 (fun w' => w'.cell? ⟨w.heap.size, 0, none⟩ = some (.slice A a c0) ∧ w'.cell? ⟨GP, 0, none⟩ = some (.int .i64 lv) ∧ w'.cell? ⟨GP, 1, none⟩ = some (.slice V nv cv) ∧ w'.cell? ⟨GP, 2, none⟩ = some (.slice H nh ch) ∧ w'.cell? ⟨GP, 3, none⟩ = some (.int .i64 sm)) (first | with_reducible exact kS.out _ (keeps_d0 _) | with_reducible exact kS.out _ kW | go_keep)
          ((first | (go_at_call 82; refine (aRecord_any (c := c0) (h.keeps (Keeps.trans kw (keeps_d0 wr))) (h'.keeps (Keeps.trans kw (keeps_d0 wr))) HTY.out (by omega) hmN.out).mono ?_; rintro e wB ⟨VA, rfl, mV, kB⟩; rw [HAI.out]; have kW : Keeps wr wB := keeps_d kB; replace mV := mV.1; clear kB) | (go_at_call 81; refine (uCell_any (c0 := c0) (h.keeps (Keeps.trans kw kW)) (h'.keeps (Keeps.trans kw kW)) (hvv.keeps (Keeps.trans kw kW)) (hhh.keeps (Keeps.trans kw kW)) mV HG.out HS.out HTB.out HFI.out hai3).mono ?_; rintro e wC ⟨rfl, kC⟩; rw [HCQ.out]; replace kW : Keeps wr wC := kW.trans kC; clear kC mV)))
        clear kS ca3 fa3 cb0 cb1 cb2 cb3 cb4
        have hsk := kW.size
        replace hC := hC.keeps kW
        replace own := own.keeps kW
        replace b3 := b3.keeps kW
        replace b9 := b9.keeps kW
        replace b12 := b12.keeps kW
        replace kw := Keeps.trans kw kW
        replace hW2 := Nat.le_trans hW2 hsk
        clear kW hsk
        by_cases hcj : cc = (j : Int)
        rotate_left
        · have HST := hid (amT_stay (N := N) (amI_ne HCE.out hcj))
          have t9 : (cc == (j : Int)) = false := by rw [beq_eq_false_iff_ne]; exact hcj
          clear hcj
          go_wp2_with fail
          go_roundw
          case rel => exact ⟨m + 1, by omega, by go_num, hC, by rw [← HST.out]; exact own, b3, b9, b12, hW2, kw⟩
          case measure => simp [intOf]; omega
        have t9 : (cc == (j : Int)) = true := by rw [beq_iff_eq]; exact hcj
        have HAM := hid (amI_eq HCE.out hcj)
        clear hcj
        obtain ⟨yk, hyk, -⟩ := own.at_ m (by rw [amT_len]; exact hmt)
        have hfk := own.frozen m
        have O9 := own.set_ m am
        rw [← HAM.out, amT_set] at O9
        rw [HAM.out] at O9
        have hof := has_off hC.has own (by decide)
        have hlt3 := b3.lt
        have N1 := hid (hC.far (i := m) (u := .int .i64 am) hof (fun i hi => by have := HFL.out i hi; omega))
        have N2 := hid O9
        have N3 := hid (b3.far (p := ⟨GA, m, none⟩) (by show w.heap.size ≠ GA; omega) (.int .i64 am))
        have N4 := hid (b9.far (p := ⟨GA, m, none⟩) (by show GP ≠ GA; omega) (.int .i64 am))
        have N5 := hid (b12.far (p := ⟨GA, m, none⟩) (by show GA + 1 ≠ GA; omega) (.int .i64 am))
        have N6 := hid (kw.setCell (p := ⟨GA, m, none⟩) (by show w.heap.size ≤ GA; omega) (.int .i64 am))
        have N7 := hid (show GA + 2 ≤ (wC.setCell ⟨GA, m, none⟩ (.int .i64 am)).heap.size by simpa [World.setCell] using hW2)
        have ca0 := (b12.2 0 _ rfl).1
        have ca1 := (b12.2 1 _ rfl).1
        clear O9 hof hC own b3 b9 b12 kw
        go_wp2_with fail
        go_roundw
        case rel => exact ⟨m + 1, by omega, by go_num, N1.out, N2.out, N3.out, N4.out, N5.out, N7.out, N6.out⟩
        case measure => simp [intOf]; omega
end Go.Proofs.Ytellocnplemjmaa
