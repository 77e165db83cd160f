/- NearestWhole: of the reference and of the program. -/
import Derived.Test.YtnopedjgagoahaaKN
import Derived.Test.YtnopedjgagoahaaMpr
namespace Go.Proofs.Ytnopedjgagoahaa
open Go.RowKit Go.Sort
set_option linter.unusedVariables false
set_option linter.unusedSimpArgs false

/-- What a function that makes a slice of ints hands back. -/
def IRes (w : World) (xs : List Int) (e : Ending) (w' : World) : Prop := ∃ A' N C, e = .returned (.slice A' N C) ∧ Mine w' w.heap.size w'.heap.size A' N xs ∧ Keeps w w'
def NRes (w : World) (R : List Int × Bool) (e : Ending) (w' : World) : Prop := ∃ A' N C, e = .returned (.tuple #[.slice A' N C, .bool R.2]) ∧ Mine w' w.heap.size w'.heap.size A' N R.1 ∧ Keeps w w'
theorem near_s {l : QL} {z : Int} (h : nearB l z = true) : roundB l = true ∧ 0 ≤ z ∧ z ≤ 5000 := by
  simp only [nearB, Bool.and_eq_true] at h; exact ⟨h.1, inB_true.1 h.2⟩
set_option maxRecDepth 100000 in
set_option maxHeartbeats 6400000 in
theorem wNearest_any {A : Option Addr} {lo hi n c : Nat} {l : QL} {z : Int} {w : World} (h : Fracs w lo hi A n l) (hB : nearB l z = true) :
    Calls Try.prog 234 #[.slice A n c, .int .i64 z] w (IRes w (nearX l z)) := by
  have hl := Fracs.len h
  have hn := h.le
  have HR := hid (near_s hB)
  have hz := (near_s hB).2
  have HB := hid hB
  have hln := (roundB_all HR.out.1).1
  have htop := h.top
  obtain ⟨S0, HS⟩ : ∃ S0, Hid ((floors l).sum = S0) := ⟨_, rfl⟩
  obtain ⟨T, HT⟩ : ∃ T, Hid (nT l z = T) := ⟨_, rfl⟩
  obtain ⟨D, HD⟩ : ∃ D, Hid (nD l z = D) := ⟨_, rfl⟩
  have hs0 := floors_sum HR.out.1
  rw [HS.out] at hs0
  have hT : T = (z - S0).toNat := by rw [← HT.out, ← HS.out]; rfl
  have hD : D = (S0 - z).toNat := by rw [← HD.out, ← HS.out]; rfl
  have hT1 : (T : Int) ≤ 5000 := by omega
  have hT2 : S0 < z → z - S0 = T := by omega
  have hT3 : z ≤ S0 → T = 0 := by omega
  have hD2 : z < S0 → S0 - z = D := by omega
  have hD3 : S0 ≤ z → D = 0 := by omega
  clear hT hD hB
  have HLF := hid (show (floors l).length = n by simp [floors, hl])
  have HI := hid (fun (t d : Nat) (ht : t ≤ T) (hd : d ≤ D) => HS.out ▸ nw_inv HB.out (HT.out.symm ▸ ht) (HD.out.symm ▸ hd))
  have HSU := hid (fun (k : Nat) (hk : k < n) => take_sum_succ (floors l) k (by rw [HLF.out]; exact hk))
  have HFB := hid (fun (k : Nat) (hk : k ≤ n) => sum_num (floors l) 5000 (fun j => by have := (floors_inv HR.out.1).bd j; omega) (by omega) k 30 (by rw [HLF.out]; exact hk) (by omega))
  go_enter Try.func234, Try.ntmps234
  go_wp2_with fail
  go_loopw [18, 5, 6] (fun si v sv wr => ∃ k : Nat, k ≤ n ∧ si = .int .i64 k ∧ Has wr w.heap.size 3 1 v k (((floors l).take k).map (Value.int .i64)) ∧ sv = .int .i64 ((floors l).take k).sum ∧ Keeps w wr) (fun si _ _ _ => n - (intOf si).toNat)
  case atStart => exact ⟨0, Nat.zero_le _, rfl, World.ownsRow_nil _ _ _ _, by simp, keeps_refl _⟩
  case round =>
    obtain ⟨k, hk, rfl, hown, rfl, kw⟩ := hrel
    by_cases hlt : k < n
    · have hi1 : (k : Int) < (n : Int) := by omega
      obtain ⟨b, ob, pb, qb, rfl, _, hbb, hcb, hdb, hxb⟩ := Fracs.at_ (Sl.keeps h kw) (k := k) hlt
      have rdb := hid (Rd.of (p := pb) (q := qb) (by rw [hxb.out]; exact (roundB_all HR.out.1).2 k (by omega)))
      have HN := hid (HSU.out k hlt)
      have e1 := floors_getD l k (by omega)
      rw [← hxb.out] at e1
      rw [e1] at HN
      have HT2 := hid (take_snoc (floors l) k 0 (by rw [HLF.out]; exact hlt))
      rw [e1] at HT2
      have hf := hid (flr_bd ((roundB_all HR.out.1).2 k (by omega)))
      rw [← hxb.out] at hf
      have h1 := HFB.out k hk
      clear e1
      generalize ((floors l).take k).sum = s at *
      obtain ⟨v0, Hv⟩ : ∃ v0, Hid (flr (pb, qb) = v0) := ⟨_, rfl⟩
      rw [Hv.out] at HN HT2 hf
      have hf1 := hf.out
      have kf := keeps_alloc wr (.cells #[.int .i64 pb, .int .i64 qb] 31)
      have hown1 := hown.alloc (.cells #[.int .i64 pb, .int .i64 qb] 31)
      have kw1 := Keeps.trans kw kf
      have bx := Bx.new' (w := wr) (x := pb) (y := qb) (t := 31) rfl
      obtain ⟨ca, cb, -, -⟩ := id bx
      clear hown
      go_wp2_with fail
      refine (fFloor_any rdb.out.2 ⟨rdb.out.1.1, by have := rdb.out.1.2; omega⟩).mono ?_
      rintro e w2 ⟨rfl, k2⟩
      have hown2 := Has.below hown1 k2
      have kw2 := Keeps.trans kw1 k2
      clear hown1 k2 kw1 bx ca cb
      go_wp2_with fail
      refine (l1Most_any _ _ _).mono ?_
      rintro e w3 ⟨rfl, rfl⟩
      rw [show max (pb / qb) 0 = v0 from Hv.out]
      have sz := kw2.size
      go_wp2_with (at_builtin; refine append_int (xs := (floors l).take k) hown2 (by omega) (by omega) _ _ rfl rfl rfl (by first | rfl | (simp <;> rfl)) ?_; intro v' w4 hown4 hb4)
      rw [← HT2.out] at hown4
      have kw4 := Below.trans kw2 hb4
      clear hown2 hb4 kw kf kw2
      go_wp2
      go_roundw
      case rel => exact ⟨k + 1, by omega, by go_num, hown4, by rw [HN.out], kw4⟩
      case measure => simp [intOf]; omega
    · obtain rfl : k = n := by omega
      obtain ⟨A1, C1, rfl⟩ := hown.form
      rw [List.take_of_length_le (by rw [HLF.out]; exact Nat.le_refl _)] at hown ⊢
      rw [HS.out]
      have hm := Mine.of_own hown (by omega)
      obtain ⟨w1, rfl⟩ : ∃ u : World, u = wr := ⟨_, rfl⟩
      have sz1 := kw.size
      clear hown
      go_wp2_with fail
      go_loopw [6] (fun sv wr => ∃ t : Nat, t ≤ T ∧ sv = .int .i64 (S0 + t) ∧ Mine wr w.heap.size w1.heap.size A1 k (nwX l t 0) ∧ Keeps w wr) (fun sv _ => T - (intOf sv - S0).toNat)
      case atStart => exact ⟨0, Nat.zero_le _, by simp, hm, kw⟩
      clear hm kw
      case round =>
        obtain ⟨t, ht, rfl, hm, kw⟩ := hrel
        obtain ⟨w2, rfl⟩ : ∃ u : World, u = wr := ⟨_, rfl⟩
        have hmt := hm.1.top
        by_cases hlt : t < T
        · obtain ⟨x, HX⟩ : ∃ x, Hid (nwX l t 0 = x) := ⟨_, rfl⟩
          have NI := hid (HI.out t 0 ht (Nat.zero_le _))
          rw [HX.out] at hm NI
          have i1 : S0 + (t : Int) < z := by omega
          go_wp2_with fail
          go_loopw [40, 10] (fun si sa wr => ∃ i : Nat, i ≤ k ∧ si = .int .i64 i ∧ sa = .int .i64 (upAt l x i : Int) ∧ Mine wr w.heap.size w1.heap.size A1 k x ∧ Keeps w wr) (fun si _ _ => k - (intOf si).toNat)
          case atStart => exact ⟨0, Nat.zero_le _, rfl, rfl, hm, kw⟩
          clear hm kw
          case round =>
            obtain ⟨i, hi, rfl, rfl, hm, kw⟩ := hrel
            obtain ⟨u, HU⟩ : ∃ u, Hid (upAt l x i = u) := ⟨_, rfl⟩
            have hub := upAt_lt l x i
            rw [HU.out] at hub ⊢
            by_cases hlt : i < k
            · have hi1 : (i : Int) < (k : Int) := by omega
              have hu1 : (u : Int) < (k : Int) := by omega
              have hu2 : u < k := by omega
              obtain ⟨b, ob, pb, qb, rfl, _, hbb, hcb, hdb, hxb⟩ := Fracs.at_ (Sl.keeps h kw) (k := i) hlt
              have rdb := hid (Rd.of (p := pb) (q := qb) (by rw [hxb.out]; exact (roundB_all HR.out.1).2 i (by omega)))
              obtain ⟨bu, obu, pbu, qbu, hAu, _, hbbu, hcbu, hdbu, hxbu⟩ := Fracs.at_ (Sl.keeps h kw) (k := u) hu2
              have rdbu := hid (Rd.of (p := pbu) (q := qbu) (by rw [hxbu.out]; exact (roundB_all HR.out.1).2 u (by omega)))
              obtain ⟨rfl, rfl⟩ : b = bu ∧ ob = obu := by injection hAu with e; injection e with e1 e2; exact ⟨e1, e2⟩
              clear hAu
              obtain ⟨bm, om, xi, rfl, hm1, hm2, hci, hxi⟩ := hm.1.at_ hlt
              obtain ⟨bm', om', xu, hA2, _, _, hcu, hxu⟩ := hm.1.at_ hu2
              obtain ⟨rfl, rfl⟩ : bm = bm' ∧ om = om' := by injection hA2 with e; injection e with e1 e2; exact ⟨e1, e2⟩
              clear hA2
              have bi := NI.out.bd i
              have bu_ := NI.out.bd u
              rw [← hxi.out] at bi
              rw [← hxu.out] at bu_
              obtain ⟨s, HS2⟩ : ∃ s, Hid (sgn (gapZ pb qb xi pbu qbu xu) = s) := ⟨_, rfl⟩
              have HG := hid ((gapS_at hxb.out hxi.out hxbu.out hxu.out).trans HS2.out)
              have HN := hid (upAt_next HU.out HG.out)
              have kf := keeps_alloc wr (.cells #[.int .i64 pb, .int .i64 qb] 31)
              have bx := Bx.new' (w := wr) (x := pb) (y := qb) (t := 31) rfl
              have kw1 := Keeps.trans kw kf
              have hm_ := hm.keeps kf
              have ci1 := cell_keeps hci kf
              have cu1 := cell_keeps hcu kf
              have cp1 := cell_keeps hcbu kf
              have cq1 := cell_keeps hdbu kf
              clear hm kw kf hci hcu hcbu hdbu
              go_wp2_with fail
              clear hcb hdb
              obtain ⟨ca, cb, -, -⟩ := id bx
              have r1 := fun d os => cell_regrown ca d os
              have r2 := fun d os => cell_regrown cb d os
              have r3 := fun d os => cell_regrown ci1 d os
              have r4 := fun d os => cell_regrown cu1 d os
              have r5 := fun d os => cell_regrown cp1 d os
              have r6 := fun d os => cell_regrown cq1 d os
              have cG := hid (fun (d : Nat) (os : Array Obj) => wGap_any (w := grow (redrawn (wr.alloc (.cells #[.int .i64 pb, .int .i64 qb] 31)) d) os) rdb.out rdbu.out (m := xi) (k := xu) (by omega) (by omega))
              rw [HS2.out] at cG
              clear ca cb ci1 cu1 cp1 cq1 bx
              refine wp_region_quiet_below (by kernel_rfl) (by kernel_rfl) ?_
              iterate 15 (go_big_quiet_step (with_reducible exact Calls.regrown_of (cG.out _ _)))
              refine wpQuiet_nil ?_
              intro _ hw'
              obtain ⟨⟨dq, osq⟩, hw''⟩ := hw'
              subst hw''
              clear r1 r2 r3 r4 r5 r6 cG
              have kQ := below_regrown (wr.alloc (.cells #[.int .i64 pb, .int .i64 qb] 31)) dq osq
              obtain ⟨wQ, hwQ⟩ : ∃ u, u = grow (redrawn (wr.alloc (.cells #[.int .i64 pb, .int .i64 qb] 31)) dq) osq := ⟨_, rfl⟩
              rw [← hwQ] at kQ
              rw [← hwQ]
              clear hwQ
              have hm3 := hm_.keeps kQ
              have kw3 := Keeps.trans kw1 kQ
              clear hm_ kw1 kQ
              by_cases hs : 0 < s
              · have HN2 := hid (HN.out.trans (if_pos hs))
                go_wp2
                go_roundw
                case rel => exact ⟨i + 1, by omega, by go_num, by rw [HN2.out], hm3, kw3⟩
                case measure => simp [intOf]; omega
              · have HN2 := hid (HN.out.trans (if_neg hs))
                go_wp2
                go_roundw
                case rel => exact ⟨i + 1, by omega, by go_num, by rw [HN2.out], hm3, kw3⟩
                case measure => simp [intOf]; omega
            · obtain rfl : i = k := by omega
              have hu2 : u < i := by omega
              have hu1 : (u : Int) < (i : Int) := by omega
              obtain ⟨bm, om, xu, rfl, hm1, hm2, hcu, hxu⟩ := hm.1.at_ hu2
              have bu_ := NI.out.bd u
              rw [← hxu.out] at bu_
              have hfz := hm.2 bm om rfl u hu2
              have hset := hm.set_ hu2 (xu + 1)
              have HX2 := hid (show nwX l (t + 1) 0 = x.set u (xu + 1) by rw [nw_up, HX.out, upX, hl, HU.out, hxu.out])
              rw [← HX2.out] at hset
              have hm3 := hset.1
              have kw3 := below_fr kw kw.size (Nat.le_refl _) hset.2
              clear hset hm kw
              go_wp2
              go_roundw
              case rel => exact ⟨t + 1, by omega, by go_num, hm3, kw3⟩
              case measure => simp [intOf]; omega
        · obtain rfl : t = T := by omega
          have i1 : ¬ S0 + (t : Int) < z := by omega
          go_wp2_with fail
          go_loopw [6] (fun sv wr => ∃ d : Nat, d ≤ D ∧ sv = .int .i64 (S0 + t - d) ∧ Mine wr w.heap.size w1.heap.size A1 k (nwX l t d) ∧ Keeps w wr) (fun sv _ => (intOf sv - z).toNat)
          case atStart => exact ⟨0, Nat.zero_le _, by simp, hm, kw⟩
          clear hm kw hmt i1
          case round =>
            obtain ⟨d, hd, rfl, hm, kw⟩ := hrel
            obtain ⟨w3, rfl⟩ : ∃ u : World, u = wr := ⟨_, rfl⟩
            have hmt := hm.1.top
            by_cases hlt : d < D
            · obtain ⟨x, HX⟩ : ∃ x, Hid (nwX l t d = x) := ⟨_, rfl⟩
              have NI := hid (HI.out t d ht hd)
              rw [HX.out] at hm NI
              have i1 : z < S0 + (t : Int) - (d : Int) := by omega
              have hpos := NI.out.pos (by omega)
              rw [hl] at hpos
              have HP := hid hpos
              clear hpos
              go_wp2_with fail
              go_loopw [75, 13] (fun si sa wr => ∃ (i : Nat) (a : Int), i ≤ k ∧ si = .int .i64 i ∧ sa = .int .i64 a ∧ Hid (dnAt l x i = a) ∧ Mine wr w.heap.size w1.heap.size A1 k x ∧ Keeps w wr) (fun si _ _ => k - (intOf si).toNat)
              case atStart => exact ⟨0, -1, Nat.zero_le _, rfl, rfl, rfl, hm, kw⟩
              clear hm kw
              case round =>
                obtain ⟨i, a, hi, rfl, rfl, HU, hm, kw⟩ := hrel
                have hub := dnAt_bd l x i
                rw [HU.out] at hub
                by_cases hlt : i < k
                · have hi1 : (i : Int) < (k : Int) := by omega
                  obtain ⟨b, ob, pb, qb, rfl, _, hbb, hcb, hdb, hxb⟩ := Fracs.at_ (Sl.keeps h kw) (k := i) hlt
                  have rdb := hid (Rd.of (p := pb) (q := qb) (by rw [hxb.out]; exact (roundB_all HR.out.1).2 i (by omega)))
                  obtain ⟨bm, om, xi, rfl, hm1, hm2, hci, hxi⟩ := hm.1.at_ hlt
                  have bi := NI.out.bd i
                  rw [← hxi.out] at bi
                  have kf := keeps_alloc wr (.cells #[.int .i64 pb, .int .i64 qb] 31)
                  have bx := Bx.new' (w := wr) (x := pb) (y := qb) (t := 31) rfl
                  have kw1 := Keeps.trans kw kf
                  have hm_ := hm.keeps kf
                  have ci1 := cell_keeps hci kf
                  clear hci
                  by_cases hp : 0 < xi
                  · by_cases ha : a < 0
                    · have HN := hid (dnAt_next1 hxi.out hp HU.out ha)
                      clear hm kw kf
                      go_wp2_with fail
                      clear hcb hdb
                      have r3 := fun d os => cell_regrown ci1 d os
                      refine wp_region_quiet_below (by kernel_rfl) (by kernel_rfl) ?_
                      iterate 26 (go_big_quiet_step (with_reducible exact Calls.regrown_of (cG.out _ _)))
                      refine wpQuiet_nil ?_
                      intro _ hw'
                      obtain ⟨⟨dq, osq⟩, hw''⟩ := hw'
                      subst hw''
                      clear r3
                      have kQ := below_regrown (wr.alloc (.cells #[.int .i64 pb, .int .i64 qb] 31)) dq osq
                      obtain ⟨wQ, hwQ⟩ : ∃ u, u = grow (redrawn (wr.alloc (.cells #[.int .i64 pb, .int .i64 qb] 31)) dq) osq := ⟨_, rfl⟩
                      rw [← hwQ] at kQ
                      rw [← hwQ]
                      clear hwQ
                      have hm3 := hm_.keeps kQ
                      have kw3 := Keeps.trans kw1 kQ
                      clear hm_ kw1 kQ ci1 bx
                      go_wp2
                      go_roundw
                      case rel => exact ⟨i + 1, i, by omega, by go_num, rfl, HN, hm3, kw3⟩
                      case measure => simp [intOf]; omega
                    · obtain ⟨u, rfl⟩ : ∃ u : Nat, a = u := ⟨a.toNat, by omega⟩
                      have hu2 : u < k := by omega
                      have hu1 : (u : Int) < (k : Int) := by omega
                      have hd2 : decide ((u : Int) < 0) = false := decide_eq_false (by omega)
                      obtain ⟨bu, obu, pbu, qbu, hAu, _, hbbu, hcbu, hdbu, hxbu⟩ := Fracs.at_ (Sl.keeps h kw) (k := u) hu2
                      have rdbu := hid (Rd.of (p := pbu) (q := qbu) (by rw [hxbu.out]; exact (roundB_all HR.out.1).2 u (by omega)))
                      obtain ⟨rfl, rfl⟩ : b = bu ∧ ob = obu := by injection hAu with e; injection e with e1 e2; exact ⟨e1, e2⟩
                      clear hAu
                      obtain ⟨bm', om', xu, hA2, _, _, hcu, hxu⟩ := hm.1.at_ hu2
                      obtain ⟨rfl, rfl⟩ : bm = bm' ∧ om = om' := by injection hA2 with e; injection e with e1 e2; exact ⟨e1, e2⟩
                      clear hA2
                      have bu_ := NI.out.bd u
                      rw [← hxu.out] at bu_
                      obtain ⟨s, HS2⟩ : ∃ s, Hid (sgn (gapZ pb qb xi pbu qbu xu) = s) := ⟨_, rfl⟩
                      have HG := hid ((gapS_at hxb.out hxi.out hxbu.out hxu.out).trans HS2.out)
                      have HN := hid (dnAt_next2 hxi.out hp HU.out HG.out)
                      have cu1 := cell_keeps hcu kf
                      have cp1 := cell_keeps hcbu kf
                      have cq1 := cell_keeps hdbu kf
                      clear hm kw kf hcu hcbu hdbu
                      have cG := hid (fun (d : Nat) (os : Array Obj) => wGap_any (w := grow (redrawn (wr.alloc (.cells #[.int .i64 pb, .int .i64 qb] 31)) d) os) rdb.out rdbu.out (m := xi) (k := xu) (by omega) (by omega))
                      rw [HS2.out] at cG
                      by_cases hs : s < 0
                      all_goals
                        go_wp2_with fail
                        clear hcb hdb
                        obtain ⟨ca, cb, -, -⟩ := id bx; have r1 := fun d os => cell_regrown ca d os; have r2 := fun d os => cell_regrown cb d os; have r3 := fun d os => cell_regrown ci1 d os; have r4 := fun d os => cell_regrown cu1 d os; have r5 := fun d os => cell_regrown cp1 d os; have r6 := fun d os => cell_regrown cq1 d os; clear ca cb cu1 cp1 cq1
                        refine wp_region_quiet_below (by kernel_rfl) (by kernel_rfl) ?_
                        iterate 26 (go_big_quiet_step (with_reducible exact Calls.regrown_of (cG.out _ _)))
                        refine wpQuiet_nil ?_
                        intro _ hw'
                        obtain ⟨⟨dq, osq⟩, hw''⟩ := hw'
                        subst hw''
                        clear r1 r2 r3 r4 r5 r6 cG
                        have kQ := below_regrown (wr.alloc (.cells #[.int .i64 pb, .int .i64 qb] 31)) dq osq
                        obtain ⟨wQ, hwQ⟩ : ∃ u, u = grow (redrawn (wr.alloc (.cells #[.int .i64 pb, .int .i64 qb] 31)) dq) osq := ⟨_, rfl⟩
                        rw [← hwQ] at kQ
                        rw [← hwQ]
                        clear hwQ
                        have hm3 := hm_.keeps kQ
                        have kw3 := Keeps.trans kw1 kQ
                        clear hm_ kw1 kQ ci1 bx
                        go_wp2
                        go_roundw
                        case rel => exact ⟨i + 1, _, by omega, by go_num, rfl, hid (HN.out.trans (by first | rw [if_pos hs] | rw [if_neg (by omega)])), hm3, kw3⟩
                        case measure => simp [intOf]; omega
                  · have HN := hid (dnAt_next0 hxi.out hp HU.out)
                    have hd1 : decide (0 < xi) = false := decide_eq_false hp
                    clear hm kw kf
                    go_wp2_with fail
                    clear hcb hdb
                    have r3 := fun d os => cell_regrown ci1 d os
                    refine wp_region_quiet_below (by kernel_rfl) (by kernel_rfl) ?_
                    iterate 26 (go_big_quiet_step (with_reducible exact Calls.regrown_of (cG.out _ _)))
                    refine wpQuiet_nil ?_
                    intro _ hw'
                    obtain ⟨⟨dq, osq⟩, hw''⟩ := hw'
                    subst hw''
                    clear r3
                    have kQ := below_regrown (wr.alloc (.cells #[.int .i64 pb, .int .i64 qb] 31)) dq osq
                    obtain ⟨wQ, hwQ⟩ : ∃ u, u = grow (redrawn (wr.alloc (.cells #[.int .i64 pb, .int .i64 qb] 31)) dq) osq := ⟨_, rfl⟩
                    rw [← hwQ] at kQ
                    rw [← hwQ]
                    clear hwQ
                    have hm3 := hm_.keeps kQ
                    have kw3 := Keeps.trans kw1 kQ
                    clear hm_ kw1 kQ ci1 bx
                    go_wp2
                    go_roundw
                    case rel => exact ⟨i + 1, a, by omega, by go_num, rfl, HN, hm3, kw3⟩
                    case measure => simp [intOf]; omega
                · obtain rfl : i = k := by omega
                  have hp := HP.out
                  rw [HU.out] at hp
                  obtain ⟨u, rfl⟩ : ∃ u : Nat, a = u := ⟨a.toNat, by omega⟩
                  have hu2 : u < i := by omega
                  have hu1 : (u : Int) < (i : Int) := by omega
                  obtain ⟨bm, om, xu, rfl, hm1, hm2, hcu, hxu⟩ := hm.1.at_ hu2
                  have bu_ := NI.out.bd u
                  rw [← hxu.out] at bu_
                  have hfz := hm.2 bm om rfl u hu2
                  have hset := hm.set_ hu2 (xu - 1)
                  have HX2 := hid (show nwX l t (d + 1) = x.set u (xu - 1) by rw [nw_dn, HX.out, dnX, hl, HU.out, Int.toNat_natCast, hxu.out])
                  rw [← HX2.out] at hset
                  have hm3 := hset.1
                  have kw3 := below_fr kw kw.size (Nat.le_refl _) hset.2
                  clear hset hm kw
                  go_wp2
                  go_roundw
                  case rel => exact ⟨d + 1, by omega, by go_num, hm3, kw3⟩
                  case measure => simp [intOf]; omega
            · obtain rfl : d = D := by omega
              have i1 : ¬ z < S0 + (t : Int) - (d : Int) := by omega
              have HE := hid (show nwX l t d = nearX l z by rw [← HT.out, ← HD.out]; exact nw_end)
              rw [HE.out] at hm
              have hm' := hm.widen (Nat.le_refl _) hmt (Nat.le_refl _)
              go_wp2
              go_ret
              exact ⟨_, _, _, rfl, hm', kw⟩
set_option maxRecDepth 100000 in
set_option maxHeartbeats 6400000 in
theorem nearestWhole_any {A : Option Addr} {lo hi n c : Nat} {l : QL} {z : Int} {w : World} (h : Fracs w lo hi A n l) (hB : nearB l z = true) :
    Calls Try.prog 228 #[.slice A n c, .int .i64 z] w (IRes w (nearX l z)) := by
  have hl := Fracs.len h
  have hn := h.le
  have HR := hid (near_s hB)
  have hz := (near_s hB).2
  have HB := hid hB
  have hln := (roundB_all HR.out.1).1
  have htop := h.top
  obtain ⟨S0, HS⟩ : ∃ S0, Hid ((floors l).sum = S0) := ⟨_, rfl⟩
  obtain ⟨T, HT⟩ : ∃ T, Hid (nT l z = T) := ⟨_, rfl⟩
  obtain ⟨D, HD⟩ : ∃ D, Hid (nD l z = D) := ⟨_, rfl⟩
  have hs0 := floors_sum HR.out.1
  rw [HS.out] at hs0
  have hT : T = (z - S0).toNat := by rw [← HT.out, ← HS.out]; rfl
  have hD : D = (S0 - z).toNat := by rw [← HD.out, ← HS.out]; rfl
  have hT1 : (T : Int) ≤ 5000 := by omega
  have hT2 : S0 < z → z - S0 = T := by omega
  have hT3 : z ≤ S0 → T = 0 := by omega
  have hD2 : z < S0 → S0 - z = D := by omega
  have hD3 : S0 ≤ z → D = 0 := by omega
  clear hT hD hB
  have HLF := hid (show (floors l).length = n by simp [floors, hl])
  have HI := hid (fun (t d : Nat) (ht : t ≤ T) (hd : d ≤ D) => HS.out ▸ nw_inv HB.out (HT.out.symm ▸ ht) (HD.out.symm ▸ hd))
  have hmk := make_ints n hn
  go_enter Try.func228, Try.ntmps228
  go_wp2_with fail
  clear hmk
  go_loopw [17] (fun si wr => ∃ k : Nat, k ≤ n ∧ si = .int .i64 k ∧ Own wr w.heap.size (padTo (floors l) k) ∧ Keeps w wr) (fun si _ => n - (intOf si).toNat)
  case atStart => exact ⟨0, Nat.zero_le _, rfl, by rw [padTo_zero, HLF.out]; exact Own.new w n, (Below.refl _ _).alloc (Nat.le_refl _) _⟩
  case round =>
    obtain ⟨k, hk, rfl, hown, kw⟩ := hrel
    by_cases hlt : k < n
    · have hi1 : (k : Int) < (n : Int) := by omega
      obtain ⟨b, ob, pb, qb, rfl, _, hbb, hcb, hdb, hxb⟩ := Fracs.at_ (Sl.keeps h kw) (k := k) hlt
      have rdb := hid (Rd.of (p := pb) (q := qb) (by rw [hxb.out]; exact (roundB_all HR.out.1).2 k (by omega)))
      have e1 := hid (floors_getD l k (by omega))
      rw [← hxb.out] at e1
      have hf := hid (flr_bd ((roundB_all HR.out.1).2 k (by omega)))
      rw [← hxb.out] at hf
      obtain ⟨v0, Hv⟩ : ∃ v0, Hid (flr (pb, qb) = v0) := ⟨_, rfl⟩
      rw [Hv.out] at e1 hf
      have hf1 := hf.out
      have kf := keeps_alloc wr (.cells #[.int .i64 pb, .int .i64 qb] 31)
      have ho := hown.keeps kf
      obtain ⟨y, hc2, -⟩ := ho.at_ k (by rw [padTo_len _ _ (by rw [HLF.out]; omega), HLF.out]; omega)
      have hfz := ho.frozen k
      have H1 := ho.set_ k v0
      rw [← e1.out, padTo_succ _ _ (by rw [HLF.out]; omega), e1.out] at H1
      have kw1 := Keeps.trans kw kf
      have kw2 := kw1.setCell (p := ⟨w.heap.size, k, none⟩) (Nat.le_refl _) (.int .i64 v0)
      have bx := Bx.new' (w := wr) (x := pb) (y := qb) (t := 31) rfl
      obtain ⟨ca, cb, -, -⟩ := id bx
      have rd1 := rdb.out.1
      have rd2 := rdb.out.2
      have H1' := hid H1
      have kw2' := hid kw2
      clear hown kw kf ho H1 kw1 kw2 bx
      go_wp2_with fail
      refine (floorDiv_any (by omega) (by omega)).mono ?_
      rintro e w3 ⟨rfl, rfl⟩
      have hmx : (if 0 < pb / qb then pb / qb else 0) = v0 := by rw [← Hv.out]; show _ = max (pb / qb) 0; rw [Int.max_def]; split <;> split <;> omega
      go_wp2
      go_roundw
      case rel => exact ⟨k + 1, by omega, by go_num, H1'.out, kw2'.out⟩
      case measure => simp [intOf]; omega
    · obtain rfl : k = n := by omega
      rw [show k = (floors l).length from HLF.out.symm, padTo_all] at hown
      have HLK := hid (show (floors l).length = k from HLF.out)
      obtain ⟨w1, rfl⟩ : ∃ u : World, u = wr := ⟨_, rfl⟩
      have hmi := hown.mine HLK.out hn (Nat.le_refl _) hown.lt (Nat.le_refl _)
      go_wp2_with fail
      refine (total_any _ _ _ _ _ _ _ hmi.1 (fun j => by have := (floors_inv HR.out.1).bd j; omega)).mono ?_
      rintro e w2 ⟨rfl, rfl⟩
      rw [HS.out]
      clear hmi
      go_wp2_with fail
      go_loopw [8] (fun sv wr => ∃ t d : Nat, t ≤ T ∧ d ≤ D ∧ sv = .int .i64 (S0 + t - d) ∧ Own wr w.heap.size (nwX l t d) ∧ Keeps w wr) (fun sv _ => (intOf sv - z).natAbs)
      case atStart => exact ⟨0, 0, Nat.zero_le _, Nat.zero_le _, by simp, hown, kw⟩
      clear hown kw
      case round =>
        obtain ⟨t, d, ht, hd, rfl, hm, kw⟩ := hrel
        obtain ⟨w2, rfl⟩ : ∃ u : World, u = wr := ⟨_, rfl⟩
        obtain ⟨x, HX⟩ : ∃ x, Hid (nwX l t d = x) := ⟨_, rfl⟩
        have NI := hid (HI.out t d ht hd)
        rw [HX.out] at hm NI
        have hxl := hid (NI.out.len.trans hl)
        by_cases hup : t < T
        · obtain rfl : d = 0 := by omega
          have i1 : S0 + (t : Int) < z := by omega
          have i2 : ¬ z < S0 + (t : Int) := by omega
          have i3 : ¬ S0 + (t : Int) = z := by omega
          have b3 : ((S0 + (t : Int)) != z) = true := by simp [i3]
          go_wp2_with fail
          go_loopw [39, 9] (fun si sa wr => ∃ (i : Nat) (a : Int), i ≤ k ∧ si = .int .i64 i ∧ sa = .int .i64 a ∧ Hid (a = if i = 0 then -1 else (upAt l x i : Int)) ∧ Own wr w.heap.size x ∧ Keeps w wr) (fun si _ _ => k - (intOf si).toNat)
          case atStart => exact ⟨0, -1, Nat.zero_le _, rfl, rfl, rfl, hm, kw⟩
          clear hm kw
          case round =>
            obtain ⟨i, a, hi, rfl, rfl, HU, hm, kw⟩ := hrel
            by_cases hlt : i < k
            · have hi1 : (i : Int) < (k : Int) := by omega
              by_cases h0 : i = 0
              · subst h0
                obtain rfl : a = -1 := HU.out
                go_wp2
                go_roundw
                case rel => exact ⟨1, 0, by omega, by go_num, by first | rfl | go_num, hid (upAt_one l x), hm, kw⟩
                case measure => simp [intOf]; omega
              · obtain ⟨u, HV⟩ : ∃ u, Hid (upAt l x i = u) := ⟨_, rfl⟩
                have hub := upAt_lt l x i
                rw [HV.out] at hub
                have ha := HU.out
                rw [if_neg h0, HV.out] at ha
                subst ha
                clear HU
                have hd2 : ¬ ((u : Int) < 0) := by omega
                have hu2 : u < k := by omega
                have hu1 : (u : Int) < (k : Int) := by omega
                obtain ⟨b, ob, pb, qb, rfl, _, hbb, hcb, hdb, hxb⟩ := Fracs.at_ (Sl.keeps h kw) (k := i) hlt
                have rdb := hid (Rd.of (p := pb) (q := qb) (by rw [hxb.out]; exact (roundB_all HR.out.1).2 i (by omega)))
                obtain ⟨bu, obu, pbu, qbu, hAu, _, hbbu, hcbu, hdbu, hxbu⟩ := Fracs.at_ (Sl.keeps h kw) (k := u) hu2
                have rdbu := hid (Rd.of (p := pbu) (q := qbu) (by rw [hxbu.out]; exact (roundB_all HR.out.1).2 u (by omega)))
                obtain ⟨rfl, rfl⟩ : b = bu ∧ ob = obu := by injection hAu with e; injection e with e1 e2; exact ⟨e1, e2⟩
                clear hAu
                obtain ⟨xi, hci, hxi⟩ := hm.at_ i (by rw [hxl.out]; exact hlt)
                obtain ⟨xu, hcu, hxu⟩ := hm.at_ u (by rw [hxl.out]; exact hu2)
                obtain ⟨s, HS2⟩ : ∃ s, Hid (sgn (gapZ pb qb xi pbu qbu xu) = s) := ⟨_, rfl⟩
                have HG := hid ((gapS_at hxb.out hxi.out hxbu.out hxu.out).trans HS2.out)
                have bi := NI.out.bd i
                have bu_ := NI.out.bd u
                rw [← hxi.out] at bi
                rw [← hxu.out] at bu_
                have r1 := fun d os => cell_regrown hcb d os
                have r2 := fun d os => cell_regrown hdb d os
                have r3 := fun d os => cell_regrown hci d os
                have r4 := fun d os => cell_regrown hcu d os
                have r5 := fun d os => cell_regrown hcbu d os
                have r6 := fun d os => cell_regrown hdbu d os
                have cG := hid (fun (d : Nat) (os : Array Obj) => compareRests_any (w := grow (redrawn wr d) os) rdb.out rdbu.out (m := xi) (k := xu) (by omega) (by omega))
                rw [HS2.out] at cG
                go_wp2_with fail
                clear hcb hdb hci hcu hcbu hdbu
                refine wp_region_quiet_below (by kernel_rfl) (by kernel_rfl) ?_
                iterate 18 (go_big_quiet_step (with_reducible exact Calls.regrown_of (cG.out _ _)))
                refine wpQuiet_nil ?_
                intro _ hw'
                obtain ⟨⟨dq, osq⟩, hw''⟩ := hw'
                subst hw''
                clear r1 r2 r3 r4 r5 r6 cG
                have kQ := below_regrown wr dq osq
                obtain ⟨wQ, hwQ⟩ : ∃ u, u = grow (redrawn wr dq) osq := ⟨_, rfl⟩
                rw [← hwQ] at kQ
                rw [← hwQ]
                clear hwQ
                have hm3 := hm.keeps kQ
                have kw3 := Keeps.trans kw kQ
                clear hm kw kQ
                have HN := hid (upAt_next HV.out HG.out)
                by_cases hs : 0 < s
                · have hs2 : ¬ s < 0 := by omega
                  have HN2 := hid (HN.out.trans (if_pos hs))
                  go_wp2
                  go_roundw
                  case rel => exact ⟨i + 1, i, by omega, by go_num, rfl, hid (by rw [if_neg (by omega), HN2.out]), hm3, kw3⟩
                  case measure => simp [intOf]; omega
                · have HN2 := hid (HN.out.trans (if_neg hs))
                  go_wp2
                  go_roundw
                  case rel => exact ⟨i + 1, u, by omega, by go_num, rfl, hid (by rw [if_neg (by omega), HN2.out]), hm3, kw3⟩
                  case measure => simp [intOf]; omega
            · obtain rfl : i = k := by omega
              obtain ⟨u, HV⟩ : ∃ u, Hid (upAt l x i = u) := ⟨_, rfl⟩
              have hub := upAt_lt l x i
              rw [HV.out] at hub
              have ha := HU.out
              rw [if_neg (by omega), HV.out] at ha
              subst ha
              clear HU
              have hu2 : u < i := by omega
              have hu1 : (u : Int) < (i : Int) := by omega
              obtain ⟨xu, hcu, hxu⟩ := hm.at_ u (by rw [hxl.out]; exact hu2)
              have bu_ := NI.out.bd u
              rw [← hxu.out] at bu_
              have hfz := hm.frozen u
              have hset := hm.set_ u (xu + 1)
              have HX2 := hid (show nwX l (t + 1) 0 = x.set u (xu + 1) by rw [nw_up, HX.out, upX, hl, HV.out, hxu.out])
              rw [← HX2.out] at hset
              have kw3 := kw.setCell (p := ⟨w.heap.size, u, none⟩) (Nat.le_refl _) (.int .i64 (xu + 1))
              have hset' := hid hset
              have kw3' := hid kw3
              clear hm kw hset kw3
              go_wp2
              go_roundw
              case rel => exact ⟨t + 1, 0, by omega, hd, by go_num, hset'.out, kw3'.out⟩
              case measure => simp [intOf]; omega
        · obtain rfl : t = T := by omega
          by_cases hdn : d < D
          · have i1 : ¬ S0 + (t : Int) - (d : Int) < z := by omega
            have i2 : z < S0 + (t : Int) - (d : Int) := by omega
            have b3 : ((S0 + (t : Int) - (d : Int)) != z) = true := by rw [bne_iff_ne]; omega
            have hpos := NI.out.pos (by omega)
            rw [hl] at hpos
            have HP := hid hpos
            clear hpos
            go_wp2_with fail
            go_loopw [39, 9] (fun si sa wr => ∃ (i : Nat) (a : Int), i ≤ k ∧ si = .int .i64 i ∧ sa = .int .i64 a ∧ Hid (dnAt l x i = a) ∧ Own wr w.heap.size x ∧ Keeps w wr) (fun si _ _ => k - (intOf si).toNat)
            case atStart => exact ⟨0, -1, Nat.zero_le _, rfl, rfl, rfl, hm, kw⟩
            clear hm kw
            case round =>
              obtain ⟨i, a, hi, rfl, rfl, HU, hm, kw⟩ := hrel
              have hub := dnAt_bd l x i
              rw [HU.out] at hub
              by_cases hlt : i < k
              · have hi1 : (i : Int) < (k : Int) := by omega
                obtain ⟨xi, hci, hxi⟩ := hm.at_ i (by rw [hxl.out]; exact hlt)
                have bi0 := NI.out.bd i
                rw [← hxi.out] at bi0
                by_cases hp : 0 < xi
                · have b4 : (xi == 0) = false := by rw [beq_eq_false_iff_ne]; omega
                  by_cases ha : a < 0
                  · have HN := hid (dnAt_next1 hxi.out hp HU.out ha)
                    go_wp2
                    go_roundw
                    case rel => exact ⟨i + 1, i, by omega, by go_num, rfl, HN, hm, kw⟩
                    case measure => simp [intOf]; omega
                  · obtain ⟨u, rfl⟩ : ∃ u : Nat, a = u := ⟨a.toNat, by omega⟩
                    have hu2 : u < k := by omega
                    have hu1 : (u : Int) < (k : Int) := by omega
                    obtain ⟨b, ob, pb, qb, rfl, _, hbb, hcb, hdb, hxb⟩ := Fracs.at_ (Sl.keeps h kw) (k := i) hlt
                    have rdb := hid (Rd.of (p := pb) (q := qb) (by rw [hxb.out]; exact (roundB_all HR.out.1).2 i (by omega)))
                    obtain ⟨bu, obu, pbu, qbu, hAu, _, hbbu, hcbu, hdbu, hxbu⟩ := Fracs.at_ (Sl.keeps h kw) (k := u) hu2
                    have rdbu := hid (Rd.of (p := pbu) (q := qbu) (by rw [hxbu.out]; exact (roundB_all HR.out.1).2 u (by omega)))
                    obtain ⟨rfl, rfl⟩ : b = bu ∧ ob = obu := by injection hAu with e; injection e with e1 e2; exact ⟨e1, e2⟩
                    clear hAu
                    obtain ⟨xu, hcu, hxu⟩ := hm.at_ u (by rw [hxl.out]; exact hu2)
                    clear bi0
                    obtain ⟨s, HS2⟩ : ∃ s, Hid (sgn (gapZ pb qb xi pbu qbu xu) = s) := ⟨_, rfl⟩
                    have HG := hid ((gapS_at hxb.out hxi.out hxbu.out hxu.out).trans HS2.out)
                    have bi := NI.out.bd i
                    have bu_ := NI.out.bd u
                    rw [← hxi.out] at bi
                    rw [← hxu.out] at bu_
                    have r1 := fun d os => cell_regrown hcb d os
                    have r2 := fun d os => cell_regrown hdb d os
                    have r3 := fun d os => cell_regrown hci d os
                    have r4 := fun d os => cell_regrown hcu d os
                    have r5 := fun d os => cell_regrown hcbu d os
                    have r6 := fun d os => cell_regrown hdbu d os
                    have cG := hid (fun (d : Nat) (os : Array Obj) => compareRests_any (w := grow (redrawn wr d) os) rdb.out rdbu.out (m := xi) (k := xu) (by omega) (by omega))
                    rw [HS2.out] at cG
                    go_wp2_with fail
                    clear hcb hdb hci hcu hcbu hdbu
                    refine wp_region_quiet_below (by kernel_rfl) (by kernel_rfl) ?_
                    iterate 18 (go_big_quiet_step (with_reducible exact Calls.regrown_of (cG.out _ _)))
                    refine wpQuiet_nil ?_
                    intro _ hw'
                    obtain ⟨⟨dq, osq⟩, hw''⟩ := hw'
                    subst hw''
                    clear r1 r2 r3 r4 r5 r6 cG
                    have kQ := below_regrown wr dq osq
                    obtain ⟨wQ, hwQ⟩ : ∃ u, u = grow (redrawn wr dq) osq := ⟨_, rfl⟩
                    rw [← hwQ] at kQ
                    rw [← hwQ]
                    clear hwQ
                    have hm3 := hm.keeps kQ
                    have kw3 := Keeps.trans kw kQ
                    clear hm kw kQ
                    have HN := hid (dnAt_next2 hxi.out hp HU.out HG.out)
                    by_cases hs : s < 0
                    · have HN2 := hid (HN.out.trans (if_pos hs))
                      go_wp2
                      go_roundw
                      case rel => exact ⟨i + 1, i, by omega, by go_num, rfl, HN2, hm3, kw3⟩
                      case measure => simp [intOf]; omega
                    · have HN2 := hid (HN.out.trans (if_neg hs))
                      go_wp2
                      go_roundw
                      case rel => exact ⟨i + 1, u, by omega, by go_num, rfl, HN2, hm3, kw3⟩
                      case measure => simp [intOf]; omega
                · have HN := hid (dnAt_next0 hxi.out hp HU.out)
                  have b4 : (xi == 0) = true := by rw [beq_iff_eq]; omega
                  go_wp2
                  go_roundw
                  case rel => exact ⟨i + 1, a, by omega, by go_num, rfl, HN, hm, kw⟩
                  case measure => simp [intOf]; omega
              · obtain rfl : i = k := by omega
                have hp := HP.out
                rw [HU.out] at hp
                obtain ⟨u, rfl⟩ : ∃ u : Nat, a = u := ⟨a.toNat, by omega⟩
                have hu2 : u < i := by omega
                have hu1 : (u : Int) < (i : Int) := by omega
                obtain ⟨xu, hcu, hxu⟩ := hm.at_ u (by rw [hxl.out]; exact hu2)
                have bu_ := NI.out.bd u
                rw [← hxu.out] at bu_
                have hfz := hm.frozen u
                have hset := hm.set_ u (xu - 1)
                have HX2 := hid (show nwX l t (d + 1) = x.set u (xu - 1) by rw [nw_dn, HX.out, dnX, hl, HU.out, Int.toNat_natCast, hxu.out])
                rw [← HX2.out] at hset
                have kw3 := kw.setCell (p := ⟨w.heap.size, u, none⟩) (Nat.le_refl _) (.int .i64 (xu - 1))
                have hset' := hid hset
                have kw3' := hid kw3
                clear hm kw hset kw3
                go_wp2
                go_roundw
                case rel => exact ⟨t, d + 1, ht, by omega, by go_num, hset'.out, kw3'.out⟩
                case measure => simp [intOf]; omega
          · obtain rfl : d = D := by omega
            have b3 : ((S0 + (t : Int) - (d : Int)) != z) = false := by rw [bne_eq_false_iff_eq]; omega
            have HE := hid (show x = nearX l z by rw [← HX.out, ← HT.out, ← HD.out]; exact nw_end)
            rw [HE.out] at hm
            have hm' := hm.mine (n := k) (by rw [← HE.out]; exact hxl.out) hn (Nat.le_refl _) hm.lt (Nat.le_refl _)
            go_wp2
            go_ret
            exact ⟨_, _, _, rfl, hm', kw⟩
end Go.Proofs.Ytnopedjgagoahaa
