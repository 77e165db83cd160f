/- Agrees: of the program and of the reference. -/
import Derived.Test.YtellocnplemjmaaCof
import Derived.Test.YtellocnplemjmaaAru
namespace Go.Proofs.Ytellocnplemjmaa
open Go.RowKit Go.Sort
set_option linter.unusedVariables false
set_option linter.unusedSimpArgs false

set_option maxRecDepth 100000 in
set_option maxHeartbeats 6400000 in
theorem agree_any {R K : Option Addr} {n C N ck lo hi : Nat} {rs : List CC} {cs : List Int} {w : World} (hC : CdR w R n N rs) (hk : Ints w lo hi K N cs) (hA : AmOk N rs) (hcs : within 0 40 cs = true) (hN : N ≤ 12) :
    Calls Try.prog 57 #[.slice R n C, .slice K N ck] w fun e w' => e = .returned (.bool (agB rs cs)) ∧ Keeps w w' := by
  have hn := hC.le
  have HRL := hid hC.len
  have HKL := hid hk.1
  have HAO := hid hA
  have HCB := hid (fun j (hj : j < N) => within_true.1 hcs j (by rw [hk.1]; exact hj))
  clear hA hcs
  go_enter Try.func57, Try.ntmps57
  have kw := keeps_refl w
  go_wp2_with fail
  go_loopw [12] (fun i wr => ∃ k : Nat, k ≤ n ∧ i = .int .i64 k ∧ Hid (agTo rs cs N k = true) ∧ Keeps w wr) (fun i _ => n - (intOf i).toNat)
  case atStart => exact ⟨0, Nat.zero_le _, rfl, hid rfl, kw⟩
  clear kw
  case round =>
    obtain ⟨k, hk1, rfl, HT, kw⟩ := hrel
    by_cases hlt : k < n
    rotate_left
    · obtain rfl : k = n := by omega
      have HX := hid (agB_yes HRL.out HKL.out HT.out)
      go_wp2
      go_ret
      exact ⟨ret_bool HX.out.symm, kw⟩
    obtain ⟨b, off, A', ca, lo2, hi2, rfl, hr1, hr2, hia⟩ := hC.row k hlt
    have hao := HAO.out k (by rw [HRL.out]; exact hlt)
    obtain ⟨am, ham⟩ : ∃ am, (rs.getD k cc0).1 = am := ⟨_, rfl⟩
    obtain ⟨va, hva⟩ : ∃ va, (rs.getD k cc0).2 = va := ⟨_, rfl⟩
    rw [ham] at hia hao
    rw [hva] at hr2
    have HRW := hid (show (am, va) = rs.getD k cc0 by rw [← ham, ← hva])
    have HAB := hid hao.2
    clear ham hva hao
    have hi1 : (k : Int) < (n : Int) := by omega
    have HSB := hid (agS_bd (n := N) HAB.out HCB.out)
    have d0 := cell_keeps hr1 kw
    have d1 := cell_keeps hr2 kw
    replace kw := Keeps.trans kw (keeps_alloc wr (.cells #[.slice A' N ca, .int .i64 va] 129))
    have b6 : Bl (wr.alloc (.cells #[.slice A' N ca, .int .i64 va] 129)) wr.heap.size [.slice A' N ca, .int .i64 va] := Bl.new' (by simp) (by simp)
    have ca1_0 : (wr.alloc (.cells #[.slice A' N ca, .int .i64 va] 129)).cell? ⟨wr.heap.size, 0, none⟩ = some (.slice A' N ca) := (b6.2 0 _ rfl).1
    have fa1_0 : (wr.alloc (.cells #[.slice A' N ca, .int .i64 va] 129)).frozen? ⟨wr.heap.size, 0, none⟩ = false := (b6.2 0 _ rfl).2
    have ca1_1 : (wr.alloc (.cells #[.slice A' N ca, .int .i64 va] 129)).cell? ⟨wr.heap.size, 1, none⟩ = some (.int .i64 va) := (b6.2 1 _ rfl).1
    have fa1_1 : (wr.alloc (.cells #[.slice A' N ca, .int .i64 va] 129)).frozen? ⟨wr.heap.size, 1, none⟩ = false := (b6.2 1 _ rfl).2
    go_wp2_with fail
    clear ca1_0 fa1_0 ca1_1 fa1_1
    clear d0 d1
    obtain ⟨W1, hX⟩ : ∃ u : World, u = (wr.alloc (.cells #[.slice A' N ca, .int .i64 va] 129)) := ⟨_, rfl⟩
    have szX1 := hid (show W1.heap.size = wr.heap.size + 1 by rw [hX]; simp)
    rw [← hX] at b6
    rw [← hX] at kw
    rw [← hX]
    clear hX
    have sz3 := kw.size
    obtain ⟨G6, hG6⟩ : ∃ G, wr.heap.size = G := ⟨_, rfl⟩
    rw [hG6] at b6
    try rw [hG6]
    have hG9 : G6 < W1.heap.size := b6.lt
    clear hG6 szX1
    go_loopw [7, 18] (fun s i wz => ∃ (j : Nat) (z : Int), j ≤ N ∧ i = .int .i64 j ∧ s = .int .i64 z ∧ Hid (z = agS am cs j) ∧ Bl wz G6 [.slice A' N ca, .int .i64 va] ∧ Keeps w wz) (fun _ i _ => N - (intOf i).toNat)
    case atStart => exact ⟨0, 0, Nat.zero_le _, rfl, rfl, hid rfl, b6, kw⟩
    clear b6 kw
    case round =>
      obtain ⟨j, z, hj, rfl, rfl, HZ, b6, kw⟩ := hrel
      have hzb := HSB.out j hj
      rw [← HZ.out] at hzb
      have hltw := b6.lt
      by_cases hjt : j < N
      · obtain ⟨bk, ok, y, rfl, _, _, hcy, hy⟩ := (hk.keeps kw).at_ hjt
        obtain ⟨ba, oa, x, rfl, _, _, hcx, hx⟩ := (hia.keeps kw).at_ hjt
        have hj1 : (j : Int) < (N : Int) := by omega
        have hx7 := HAB.out j hjt
        have hy4 := HCB.out j hjt
        rw [← hx.out] at hx7
        rw [← hy.out] at hy4
        have hxy0 := Int.mul_nonneg hy4.1 hx7.1
        have hxy1 : y * x ≤ 280 := by have := Int.mul_le_mul hy4.2 hx7.2 hx7.1 (show (0 : Int) ≤ 40 by omega); omega
        have HN := hid (show z + y * x = agS am cs (j + 1) by unfold agS; rw [← HZ.out, ← hx.out, ← hy.out])
        have hz9 : z ≤ 10000 := by omega
        have hz8 : 0 ≤ z := hzb.1
        clear hx hy hx7 hy4 hzb
        have ca4_0 : wr.cell? ⟨G6, 0, none⟩ = some (.slice (some ⟨ba, oa, none⟩) N ca) := (b6.2 0 _ rfl).1
        have fa4_0 : wr.frozen? ⟨G6, 0, none⟩ = false := (b6.2 0 _ rfl).2
        have ca4_1 : wr.cell? ⟨G6, 1, none⟩ = some (.int .i64 va) := (b6.2 1 _ rfl).1
        have fa4_1 : wr.frozen? ⟨G6, 1, none⟩ = false := (b6.2 1 _ rfl).2
        go_wp2_with fail
        clear ca4_0 fa4_0 ca4_1 fa4_1
        go_roundw
        case rel => exact ⟨j + 1, _, by omega, by go_num, rfl, HN, b6, kw⟩
        case measure => simp [intOf]; omega
      obtain rfl : j = N := by omega
      by_cases hzv : z = va
      · have t1 : (z != va) = false := by rw [hzv]; simp
        have HNX := hid (agTo_next HT.out HRW.out HZ.out.symm hzv)
        clear hzv
        have ca4_0 : wr.cell? ⟨G6, 0, none⟩ = some (.slice A' j ca) := (b6.2 0 _ rfl).1
        have fa4_0 : wr.frozen? ⟨G6, 0, none⟩ = false := (b6.2 0 _ rfl).2
        have ca4_1 : wr.cell? ⟨G6, 1, none⟩ = some (.int .i64 va) := (b6.2 1 _ rfl).1
        have fa4_1 : wr.frozen? ⟨G6, 1, none⟩ = false := (b6.2 1 _ rfl).2
        go_wp2_with fail
        clear ca4_0 fa4_0 ca4_1 fa4_1
        go_roundw
        case rel => exact ⟨k + 1, by omega, by go_num, HNX, kw⟩
        case measure => simp [intOf]; omega
      · have t1 : (z != va) = true := by rw [bne_iff_ne]; exact hzv
        have HX := hid (agB_no HRL.out HKL.out hlt HRW.out HZ.out.symm hzv)
        clear hzv
        have ca4_0 : wr.cell? ⟨G6, 0, none⟩ = some (.slice A' j ca) := (b6.2 0 _ rfl).1
        have fa4_0 : wr.frozen? ⟨G6, 0, none⟩ = false := (b6.2 0 _ rfl).2
        have ca4_1 : wr.cell? ⟨G6, 1, none⟩ = some (.int .i64 va) := (b6.2 1 _ rfl).1
        have fa4_1 : wr.frozen? ⟨G6, 1, none⟩ = false := (b6.2 1 _ rfl).2
        go_wp2_with fail
        clear ca4_0 fa4_0 ca4_1 fa4_1
        go_ret
        exact ⟨ret_bool HX.out.symm, kw⟩
set_option maxRecDepth 100000 in
set_option maxHeartbeats 3200000 in
theorem aSum_any {A' K : Option Addr} {ca ck N lo hi lo2 hi2 : Nat} {am cs : List Int} {w : World} (hia : Ints w lo2 hi2 A' N am) (hk : Ints w lo hi K N cs) (hab : ∀ k, k < N → 0 ≤ am.getD k 0 ∧ am.getD k 0 ≤ 7) (hcb : ∀ k, k < N → 0 ≤ cs.getD k 0 ∧ cs.getD k 0 ≤ 40) (hN : N ≤ 12) :
    Calls Try.prog 52 #[.slice A' N ca, .slice K N ck] w fun e w' => e = .returned (.int .i64 (agS am cs N)) ∧ w = w' := by
  have HSB := hid (agS_bd (n := N) hab hcb)
  have HAB := hid hab
  have HCB := hid hcb
  clear hab hcb
  go_enter Try.func52, Try.ntmps52
  go_wp2
  go_loopw [5, 10] (fun s i wz => ∃ (j : Nat) (z : Int), j ≤ N ∧ i = .int .i64 j ∧ s = .int .i64 z ∧ Hid (z = agS am cs j) ∧ wz = w) (fun _ i _ => N - (intOf i).toNat)
  case atStart => exact ⟨0, 0, Nat.zero_le _, rfl, rfl, hid rfl, rfl⟩
  case round =>
    obtain ⟨j, z, hj, rfl, rfl, HZ, rfl⟩ := hrel
    have hzb := HSB.out j hj
    rw [← HZ.out] at hzb
    by_cases hjt : j < N
    · obtain ⟨bk, ok, y, rfl, _, _, hcy, hy⟩ := hk.at_ hjt
      obtain ⟨ba, oa, x, rfl, _, _, hcx, hx⟩ := hia.at_ hjt
      have hj1 : (j : Int) < (N : Int) := by omega
      have hx7 := HAB.out j hjt
      have hy4 := HCB.out j hjt
      rw [← hx.out] at hx7
      rw [← hy.out] at hy4
      have hxy0 := Int.mul_nonneg hx7.1 hy4.1
      have hxy1 : x * y ≤ 280 := by have := Int.mul_le_mul hx7.2 hy4.2 hy4.1 (show (0 : Int) ≤ 7 by omega); omega
      have HN := hid (show z + x * y = agS am cs (j + 1) by unfold agS; rw [← HZ.out, ← hx.out, ← hy.out, Int.mul_comm x y])
      have hz9 : z ≤ 10000 := by omega
      have hz8 : 0 ≤ z := hzb.1
      clear hx hy hx7 hy4 hzb
      go_wp2_with fail
      go_roundw
      case rel => exact ⟨j + 1, _, by omega, by go_num, rfl, HN, by trivial⟩
      case measure => simp [intOf]; omega
    · obtain rfl : j = N := by omega
      go_wp2
      go_ret
      exact ⟨ret_int HZ.out, rfl⟩
set_option maxRecDepth 100000 in
set_option maxHeartbeats 1600000 in
theorem areAttacked_any {A A' Q : Option Addr} {lo hi a c0 lo3 hi3 n c q e : Nat} {un : Bool} {ps : List Int} {l : List VV} {ts : List PP} {w : World} (h : Ints w lo hi A a ps) (h' : Sch w A' q e l) (ht : Pubs true un w lo3 hi3 Q n ts) :
    Calls Try.prog 54 #[.agg #[.slice A a c0], .slice A' q e, .slice Q n c] w fun e w' => e = .returned (.bool (tyB ps l && apB ps l ts)) ∧ Keeps w w' := by
  obtain ⟨X, hX⟩ : ∃ X, (tyB ps l && apB ps l ts) = X := ⟨_, rfl⟩
  rw [hX]
  have HB := hid hX
  clear hX
  go_enter Try.func54, Try.ntmps54
  have kw := keeps_refl w
  replace kw := Keeps.trans kw (keeps_alloc w (.cells #[.slice A a c0] 38))
  have b3 : B1 (w.alloc (.cells #[.slice A a c0] 38)) w.heap.size (.slice A a c0) := B1.new' (by simp)
  obtain ⟨ca1, fa1⟩ := id b3
  go_wp2_with fail
  clear ca1 fa1
  obtain ⟨pH1, H1⟩ : ∃ pB, Hid (tyB ps l = pB) := ⟨_, rfl⟩
  refine (areTyped_any (h.keeps kw) (h'.keeps kw)).mono ?_
  rintro e w2 ⟨rfl, k2⟩
  rw [H1.out]
  replace b3 := b3.keeps k2
  replace kw := Keeps.trans kw k2
  have lt3 := b3.lt
  have sz4 := kw.size
  clear k2
  cases pH1
  · obtain ⟨ca5, fa5⟩ := id b3
    go_wp2_with fail
    clear ca5 fa5
    go_ret
    exact ⟨ret_bool (by rw [← HB.out, H1.out]; rfl), kw⟩
  · skip
    obtain ⟨ca5, fa5⟩ := id b3
    go_wp2_with fail
    clear ca5 fa5
    obtain ⟨p2, H2⟩ : ∃ p, Hid (apB ps l ts = p) := ⟨_, rfl⟩
    refine (arePublished_any (h.keeps kw) (h'.keeps kw) (ht.keeps kw) (tyB_gs H1.out).1 (tyB_gs H1.out).2).mono ?_
    rintro e w6 ⟨rfl, k6⟩
    rw [H2.out]
    replace b3 := b3.keeps k6
    replace kw := Keeps.trans kw k6
    have lt7 := b3.lt
    have sz8 := kw.size
    clear k6
    go_wp2_with fail
    go_ret
    exact ⟨ret_bool (by rw [← HB.out, H1.out, H2.out]; rfl), kw⟩
set_option maxRecDepth 100000 in
set_option maxHeartbeats 6400000 in
theorem implAgrees_any {A A' Q K : Option Addr} {lo hi a c0 lo3 hi3 n c q lo9 hi9 lo4 hi4 m ck : Nat} {un : Bool} {ps cs : List Int} {l : List VV} {ts : List PP} {w : World} (h : Ints w lo hi A a ps) (hz : Vars w lo9 hi9 A' q l) (ok : NamesOk l) (ht : Pubs true un w lo3 hi3 Q n ts) (hk : Ints w lo4 hi4 K m cs) :
    Calls Try.prog 26 #[.agg #[.slice A a c0], .slice A' q q, .slice Q n c, .slice K m ck] w fun e w' => e = .returned (.tuple #[.bool (agQ ps l ts cs).1, .bool (agQ ps l ts cs).2]) ∧ Keeps w w' := by
  have hq := hz.le
  have hm := hk.le
  have h' : Sch w A' q q l := ⟨⟨_, _, hz⟩, ok, Nat.le_refl _, by unfold maxLen; omega⟩
  have HKL := hid hk.1
  have HTL := hid ht.len
  obtain ⟨r1, r2, HR⟩ : ∃ r1 r2, Hid (agQ ps l ts cs = (r1, r2)) := ⟨_, _, rfl⟩
  rw [HR.out]
  have HNO := hid (fun e => (show r1 = false ∧ r2 = false by
    have := HR.out.symm.trans (agQ_no (ps := ps) (l := l) (ts := ts) (cs := cs) e)
    injection this with a b; exact ⟨a, b⟩))
  go_enter Try.func26, Try.ntmps26
  have kw := keeps_refl w
  replace kw := Keeps.trans kw (keeps_alloc w (.cells #[.slice A a c0] 38))
  have b4 : B1 (w.alloc (.cells #[.slice A a c0] 38)) w.heap.size (.slice A a c0) := B1.new' (by simp)
  obtain ⟨ca1, fa1⟩ := id b4
  go_wp2_with fail
  clear ca1 fa1
  obtain ⟨pH0, H0⟩ : ∃ pB, Hid ((tyB ps l && apB ps l ts) = pB) := ⟨_, rfl⟩
  refine (areAttacked_any (h.keeps kw) (h'.keeps kw) (ht.keeps kw)).mono ?_
  rintro e w2 ⟨rfl, k2⟩
  rw [H0.out]
  replace b4 := b4.keeps k2
  replace kw := Keeps.trans kw k2
  have lt3 := b4.lt
  have sz4 := kw.size
  clear k2
  cases pH0
  · obtain ⟨rfl, rfl⟩ := HNO.out (by rw [H0.out]; rfl)
    obtain ⟨ca5, fa5⟩ := id b4
    go_wp2_with fail
    clear ca5 fa5
    go_ret2
    exact ⟨rfl, kw⟩
  · skip
    have H12 := H0.out
    simp only [Bool.and_eq_true] at H12
    have H1 := hid H12.1
    have H2 := hid H12.2
    clear H12
    obtain ⟨N, hN⟩ : ∃ N : Nat, tyN ps l = (N : Int) := ⟨(tyN ps l).toNat, by have := (tyN_bd (tyB_gs H1.out).1 (tyB_gs H1.out).2).1; omega⟩
    have HN := hid hN
    have hN12 : N ≤ 12 := by have := tyB_12 H1.out; omega
    have HG := hid (tyB_gs H1.out).1
    have HS := hid (tyB_gs H1.out).2
    clear hN
    obtain ⟨ca5, fa5⟩ := id b4
    go_wp2_with fail
    clear ca5 fa5
    refine (typeCount_any (h.keeps kw) (h'.keeps kw) HG.out HS.out).mono ?_
    rintro e w6 ⟨rfl, k6⟩
    rw [HN.out]
    replace b4 := b4.keeps k6
    replace kw := Keeps.trans kw k6
    have lt7 := b4.lt
    have sz8 := kw.size
    clear k6
    by_cases hmN : m = N
    rotate_left
    · have t3 : ((m : Int) != (N : Int)) = true := by rw [bne_iff_ne]; omega
      have HF := hid (decide_eq_false (show ¬ ((cs.length : Int) = tyN ps l) by rw [HN.out, HKL.out]; omega))
      obtain ⟨rfl, rfl⟩ := HNO.out (by rw [H1.out, H2.out, HF.out]; rfl)
      obtain ⟨ca9, fa9⟩ := id b4
      go_wp2_with fail
      clear ca9 fa9
      go_ret2
      exact ⟨rfl, kw⟩
    subst hmN
    have t3 : ((m : Int) != (m : Int)) = false := by simp
    have HD := hid (decide_eq_true (show ((cs.length : Int) = tyN ps l) by rw [HN.out, HKL.out]))
    obtain ⟨ca9, fa9⟩ := id b4
    go_wp2_with fail
    clear ca9 fa9
    obtain ⟨pH3, H3⟩ : ∃ pB, Hid (within 0 40 cs = pB) := ⟨_, rfl⟩
    refine (areWithin_any _ _ _ _ _ _ 0 40 _ (hk.keeps kw)).mono ?_
    rintro e w' ⟨rfl, rfl⟩
    rw [H3.out]
    cases pH3
    · obtain ⟨rfl, rfl⟩ := HNO.out (by rw [H1.out, H2.out, HD.out, H3.out]; rfl)
      obtain ⟨ca10, fa10⟩ := id b4
      go_wp2_with fail
      clear ca10 fa10
      go_ret2
      exact ⟨rfl, kw⟩
    · skip
      have HY := hid (show r1 = agB (ruTo ps l m ts ts.length) cs ∧ r2 = true by
        have := HR.out.symm.trans (agQ_yes (show (tyB ps l && apB ps l ts && decide ((cs.length : Int) = tyN ps l) && within 0 40 cs) = true by rw [H1.out, H2.out, HD.out, H3.out]; rfl))
        rw [HN.out, Int.toNat_natCast] at this
        injection this with a b; exact ⟨a, b⟩)
      have HAO := hid (ruTo_ok (N := m) (ts := ts) (n := ts.length) H1.out HN.out (apB_at H2.out).2 ts.length (Nat.le_refl _))
      obtain ⟨rs, hrs⟩ : ∃ x, ruTo ps l m ts ts.length = x := ⟨_, rfl⟩
      rw [hrs] at HY HAO
      have HRS := hid hrs
      clear hrs
      obtain ⟨ca10, fa10⟩ := id b4
      go_wp2_with fail
      clear ca10 fa10
      refine (conditionsOf_any (h.keeps kw) (h'.keeps kw) (ht.keeps kw) H1.out H2.out HN.out).mono ?_
      rintro e w9 ⟨R, C, rfl, hCR, k9⟩
      rw [HRS.out] at hCR
      rw [HRS.out]
      replace b4 := b4.keeps k9
      replace kw := Keeps.trans kw k9
      have lt11 := b4.lt
      have sz12 := kw.size
      clear k9
      obtain ⟨n9, hn9⟩ : ∃ x, rs.length = x := ⟨_, rfl⟩
      rw [hn9] at hCR
      rw [hn9]
      clear hn9
      obtain ⟨ca13, fa13⟩ := id b4
      go_wp2_with fail
      clear ca13 fa13
      refine (agree_any hCR (hk.keeps kw) HAO.out H3.out hN12).mono ?_
      rintro e w14 ⟨rfl, k14⟩
      rw [← HY.out.1]
      replace b4 := b4.keeps k14
      replace hCR := hCR.keeps k14
      replace kw := Keeps.trans kw k14
      have lt15 := b4.lt
      have sz16 := kw.size
      clear k14
      go_wp2_with fail
      go_ret2
      exact ⟨by rw [HY.out.2]; rfl, kw⟩
set_option maxRecDepth 100000 in
set_option maxHeartbeats 6400000 in
theorem specAgrees_any {A A' Q K : Option Addr} {lo hi a c0 lo3 hi3 n c q lo9 hi9 lo4 hi4 m ck : Nat} {un : Bool} {ps cs : List Int} {l : List VV} {ts : List PP} {w : World} (h : Ints w lo hi A a ps) (hz : Vars w lo9 hi9 A' q l) (ok : NamesOk l) (ht : Pubs true un w lo3 hi3 Q n ts) (hk : Ints w lo4 hi4 K m cs) :
    Calls Try.prog 23 #[.agg #[.slice A a c0], .slice A' q q, .slice Q n c, .slice K m ck] w fun e w' => e = .returned (.tuple #[.bool (agQ ps l ts cs).1, .bool (agQ ps l ts cs).2]) ∧ Keeps w w' := by
  have hq := hz.le
  have hm := hk.le
  have h' : Sch w A' q q l := ⟨⟨_, _, hz⟩, ok, Nat.le_refl _, by unfold maxLen; omega⟩
  have HKL := hid hk.1
  have HTL := hid ht.len
  obtain ⟨r1, r2, HR⟩ : ∃ r1 r2, Hid (agQ ps l ts cs = (r1, r2)) := ⟨_, _, rfl⟩
  rw [HR.out]
  have HNO := hid (fun e => (show r1 = false ∧ r2 = false by
    have := HR.out.symm.trans (agQ_no (ps := ps) (l := l) (ts := ts) (cs := cs) e)
    injection this with a b; exact ⟨a, b⟩))
  go_enter Try.func23, Try.ntmps23
  have kw := keeps_refl w
  replace kw := Keeps.trans kw (keeps_alloc w (.cells #[.slice A a c0] 38))
  have b4 : B1 (w.alloc (.cells #[.slice A a c0] 38)) w.heap.size (.slice A a c0) := B1.new' (by simp)
  obtain ⟨ca1, fa1⟩ := id b4
  go_wp2_with fail
  clear ca1 fa1
  obtain ⟨pH1, H1⟩ : ∃ pB, Hid (tyB ps l = pB) := ⟨_, rfl⟩
  refine (aGood_any (h.keeps kw) (h'.keeps kw)).mono ?_
  rintro e w2 ⟨rfl, k2⟩
  rw [H1.out]
  replace b4 := b4.keeps k2
  replace kw := Keeps.trans kw k2
  have lt3 := b4.lt
  have sz4 := kw.size
  clear k2
  cases pH1
  · obtain ⟨rfl, rfl⟩ := HNO.out (by rw [H1.out]; rfl)
    obtain ⟨ca5, fa5⟩ := id b4
    go_wp2_with fail
    clear ca5 fa5
    go_ret2
    exact ⟨rfl, kw⟩
  · skip
    obtain ⟨ca5, fa5⟩ := id b4
    go_wp2_with fail
    clear ca5 fa5
    obtain ⟨pH2, H2⟩ : ∃ pB, Hid (apB ps l ts = pB) := ⟨_, rfl⟩
    refine (aPublished_any (h.keeps kw) (h'.keeps kw) (ht.keeps kw) (tyB_gs H1.out).1 (tyB_gs H1.out).2).mono ?_
    rintro e w6 ⟨rfl, k6⟩
    rw [H2.out]
    replace b4 := b4.keeps k6
    replace kw := Keeps.trans kw k6
    have lt7 := b4.lt
    have sz8 := kw.size
    clear k6
    cases pH2
    · obtain ⟨rfl, rfl⟩ := HNO.out (by rw [H1.out, H2.out]; rfl)
      obtain ⟨ca9, fa9⟩ := id b4
      go_wp2_with fail
      clear ca9 fa9
      go_ret2
      exact ⟨rfl, kw⟩
    · skip
      obtain ⟨N, hN⟩ : ∃ N : Nat, tyN ps l = (N : Int) := ⟨(tyN ps l).toNat, by have := (tyN_bd (tyB_gs H1.out).1 (tyB_gs H1.out).2).1; omega⟩
      have HN := hid hN
      have hN12 : N ≤ 12 := by have := tyB_12 H1.out; omega
      have HG := hid (tyB_gs H1.out).1
      have HS := hid (tyB_gs H1.out).2
      clear hN
      obtain ⟨ca9, fa9⟩ := id b4
      go_wp2_with fail
      clear ca9 fa9
      refine (aTypes_any (h.keeps kw) (h'.keeps kw) HG.out HS.out).mono ?_
      rintro e w10 ⟨rfl, k10⟩
      rw [HN.out]
      replace b4 := b4.keeps k10
      replace kw := Keeps.trans kw k10
      have lt11 := b4.lt
      have sz12 := kw.size
      clear k10
      by_cases hmN : m = N
      rotate_left
      · have t3 : ((m : Int) != (N : Int)) = true := by rw [bne_iff_ne]; omega
        have HF := hid (decide_eq_false (show ¬ ((cs.length : Int) = tyN ps l) by rw [HN.out, HKL.out]; omega))
        obtain ⟨rfl, rfl⟩ := HNO.out (by rw [H1.out, H2.out, HF.out]; rfl)
        obtain ⟨ca13, fa13⟩ := id b4
        go_wp2_with fail
        clear ca13 fa13
        go_ret2
        exact ⟨rfl, kw⟩
      subst hmN
      have t3 : ((m : Int) != (m : Int)) = false := by simp
      have HD := hid (decide_eq_true (show ((cs.length : Int) = tyN ps l) by rw [HN.out, HKL.out]))
      obtain ⟨ca13, fa13⟩ := id b4
      go_wp2_with fail
      clear ca13 fa13
      obtain ⟨pH3, H3⟩ : ∃ pB, Hid (within 0 40 cs = pB) := ⟨_, rfl⟩
      refine (l1All_any _ _ _ _ _ _ 0 40 _ (hk.keeps kw)).mono ?_
      rintro e w' ⟨rfl, rfl⟩
      rw [H3.out]
      cases pH3
      · obtain ⟨rfl, rfl⟩ := HNO.out (by rw [H1.out, H2.out, HD.out, H3.out]; rfl)
        obtain ⟨ca14, fa14⟩ := id b4
        go_wp2_with fail
        clear ca14 fa14
        go_ret2
        exact ⟨rfl, kw⟩
      · skip
        have HY := hid (show r1 = agB (ruTo ps l m ts ts.length) cs ∧ r2 = true by
          have := HR.out.symm.trans (agQ_yes (show (tyB ps l && apB ps l ts && decide ((cs.length : Int) = tyN ps l) && within 0 40 cs) = true by rw [H1.out, H2.out, HD.out, H3.out]; rfl))
          rw [HN.out, Int.toNat_natCast] at this
          injection this with a b; exact ⟨a, b⟩)
        have HAO := hid (ruTo_ok (N := m) (ts := ts) (n := ts.length) H1.out HN.out (apB_at H2.out).2 ts.length (Nat.le_refl _))
        obtain ⟨rs, hrs⟩ : ∃ x, ruTo ps l m ts ts.length = x := ⟨_, rfl⟩
        rw [hrs] at HY HAO
        have HRS := hid hrs
        clear hrs
        obtain ⟨ca14, fa14⟩ := id b4
        go_wp2_with fail
        clear ca14 fa14
        refine (aRules_any (h.keeps kw) (h'.keeps kw) (ht.keeps kw) H1.out H2.out HN.out).mono ?_
        rintro e w9 ⟨R, C, rfl, hCR, k9⟩
        rw [HRS.out] at hCR
        rw [HRS.out]
        replace b4 := b4.keeps k9
        replace kw := Keeps.trans kw k9
        have lt15 := b4.lt
        have sz16 := kw.size
        clear k9
        obtain ⟨n9, hn9⟩ : ∃ x, rs.length = x := ⟨_, rfl⟩
        rw [hn9] at hCR
        rw [hn9]
        clear hn9
        have HRL := hid hCR.len
        have HCB := hid (fun j (hj : j < m) => within_true.1 H3.out j (by rw [HKL.out]; exact hj))
        have hn9 := hCR.le
        obtain ⟨ca17, fa17⟩ := id b4
        go_wp2_with fail
        clear ca17 fa17
        go_loopw [41] (fun i wr => ∃ k : Nat, k ≤ n9 ∧ i = .int .i64 k ∧ Hid (agTo rs cs m k = true) ∧ Keeps w9 wr ∧ Keeps w wr) (fun i _ => n9 - (intOf i).toNat)
        case atStart => exact ⟨0, Nat.zero_le _, rfl, hid rfl, keeps_refl _, kw⟩
        clear b4 kw
        case round =>
          obtain ⟨k, hk1, rfl, HT, kv, kw⟩ := hrel
          by_cases hlt : k < n9
          rotate_left
          · obtain rfl : k = n9 := by omega
            have HX := hid (agB_yes HRL.out HKL.out HT.out)
            have HE1 := hid (HY.out.1.trans HX.out)
            go_wp2
            go_ret2
            exact ⟨by rw [HE1.out, HY.out.2]; rfl, kw⟩
          obtain ⟨b, off, A', ca, lo2, hi2, rfl, hr1, hr2, hia⟩ := hCR.row k hlt
          have hao := HAO.out k (by rw [HRL.out]; exact hlt)
          obtain ⟨am, ham⟩ : ∃ am, (rs.getD k cc0).1 = am := ⟨_, rfl⟩
          obtain ⟨va, hva⟩ : ∃ va, (rs.getD k cc0).2 = va := ⟨_, rfl⟩
          rw [ham] at hia hao
          rw [hva] at hr2
          have HRW := hid (show (am, va) = rs.getD k cc0 by rw [← ham, ← hva])
          have HAB := hid hao.2
          clear ham hva hao
          have hi1 : (k : Int) < (n9 : Int) := by omega
          have HIA := hid (hia.keeps kv)
          have d0 := cell_keeps hr1 kv
          have d1 := cell_keeps hr2 kv
          replace kw := Keeps.trans kw (keeps_alloc wr (.cells #[.slice A' m ca, .int .i64 va] 96))
          have b11 : Bl (wr.alloc (.cells #[.slice A' m ca, .int .i64 va] 96)) wr.heap.size [.slice A' m ca, .int .i64 va] := Bl.new' (by simp) (by simp)
          have e0 := (b11.2 0 _ rfl).1
          have e1 := (b11.2 1 _ rfl).1
          obtain ⟨s, hs⟩ : ∃ s, agS am cs m = s := ⟨_, rfl⟩
          have HSS := hid hs
          clear hs
          have HC := hid (fun (q_ : Nat) => aSum_any (ca := ca) (ck := ck) ((hia.keeps (Keeps.trans kv (keeps_alloc _ _))).keeps (Keeps.drewN (wr.alloc (.cells #[.slice A' m ca, .int .i64 va] 96)) q_)) ((hk.keeps kw).keeps (Keeps.drewN (wr.alloc (.cells #[.slice A' m ca, .int .i64 va] 96)) q_)) HAB.out HCB.out hN12)
          rw [HSS.out] at HC
          by_cases hsv : s = va
          · have t1 : (s != va) = false := by rw [hsv]; simp
            have HNX := hid (agTo_next HT.out HRW.out HSS.out hsv)
            clear hsv
            go_wp2_with fail
            go_quiet ((go_at_call 52; exact quietS (HC.out _)))
            go_wp2_with fail
            go_roundw
            case rel => exact ⟨k + 1, by omega, by go_num, HNX, Keeps.trans (Keeps.trans kv (keeps_alloc _ _)) (Keeps.drewN _ _), Keeps.trans kw (Keeps.drewN _ _)⟩
            case measure => simp [intOf]; omega
          · have t1 : (s != va) = true := by rw [bne_iff_ne]; exact hsv
            have HX := hid (agB_no HRL.out HKL.out hlt HRW.out HSS.out hsv)
            have HE1 := hid (HY.out.1.trans HX.out)
            clear hsv
            go_wp2_with fail
            go_quiet ((go_at_call 52; exact quietS (HC.out _)))
            go_wp2_with fail
            go_ret2
            exact ⟨by rw [HE1.out, HY.out.2]; rfl, Keeps.trans kw (Keeps.drewN _ _)⟩
end Go.Proofs.Ytellocnplemjmaa
