/- The law FnNoisyMechanisms: its helpers, and the walk. -/
import Derived.Test.YtkpliolafkdijaaDraw
import Derived.Test.YtkpliolafkdijaaNmM
import Derived.Test.YtkpliolafkdijaaGmF
namespace Go.Proofs.Ytkpliolafkdijaa
open Go.ChangeShapes Go.WideShapes Go.ChangeAt Go.RowKit
set_option linter.unusedVariables false
set_option linter.unusedSimpArgs false

set_option maxHeartbeats 800000 in
theorem qFracs_true {A B : Option Addr} {lo hi lo' hi' n n' c c' : Nat} {l : List (Int × Int)} {w : World} (ha : Fracs w lo hi A n l) (hb : Fracs w lo' hi' B n' l) :
    Calls Try.prog 73 #[.slice A n c, .slice B n' c'] w fun e w' => e = .returned (.bool true) ∧ Keeps w w' := by
  obtain rfl : n = n' := (Fracs.len ha).symm.trans (Fracs.len hb)
  have hn := ha.le
  have hbb : ((n : Int) != n) = false := by simp
  go_enter Try.func73, Try.ntmps73
  go_wp2_with fail
  go_loopw [13] (fun i wr => ∃ k : Nat, k ≤ n ∧ i = .int .i64 k ∧ Quiet w wr) (fun i _ => n - (intOf i).toNat)
  case atStart => exact ⟨0, Nat.zero_le _, rfl, Quiet.refl _⟩
  case round =>
    obtain ⟨k, hk, rfl, hq⟩ := hrel
    by_cases hlt : k < n
    · obtain ⟨b, off, x, y, rfl, _, _, hc, hd, hx⟩ := Fracs.at_ (ha.quiet hq) hlt
      obtain ⟨b', off', x', y', rfl, _, _, hc', hd', hx'⟩ := Fracs.at_ (hb.quiet hq) hlt
      obtain ⟨rfl, rfl⟩ : x = x' ∧ y = y' := by have e := hx.out.trans hx'.out.symm; injection e with e1 e2; exact ⟨e1, e2⟩
      clear hx hx'
      have hi1 : (k : Int) < (n : Int) := by omega
      go_wp2_with fail
      go_quiet (fail)
      go_wp2
      go_roundw
      case rel => exact ⟨k + 1, by omega, by go_num, hq.step _⟩
      case measure => simp [intOf]; omega
    · go_wp2
      go_ret
      exact ⟨rfl, hq.keeps⟩
set_option maxHeartbeats 1600000 in
theorem qMechanism_true {A B : Option Addr} {lo hi lo' hi' n n' c c' : Nat} {ll : List (List QQ)} {w : World} (ha : FRows w lo hi A n ll) (hb : FRows w lo' hi' B n' ll) :
    Calls Try.prog 84 #[.agg #[.slice A n c], .agg #[.slice B n' c']] w fun e w' => e = .returned (.bool true) ∧ Keeps w w' := by
  obtain rfl : n = n' := ha.len.symm.trans hb.len
  have hn := ha.le
  have hbb : ((n : Int) != n) = false := by simp
  have k0 := Keeps.trans (keeps_alloc w (.cells #[.slice A n c] 38)) (keeps_alloc _ (.cells #[.slice B n c'] 38))
  have b2 : B1 ((w.alloc (.cells #[.slice A n c] 38)).alloc (.cells #[.slice B n c'] 38)) w.heap.size (.slice A n c) := (B1.new' rfl).keeps (keeps_alloc _ _)
  have b3 : B1 ((w.alloc (.cells #[.slice A n c] 38)).alloc (.cells #[.slice B n c'] 38)) (w.heap.size + 1) (.slice B n c') := B1.new' (by simp)
  go_enter Try.func84, Try.ntmps84
  obtain ⟨ca, fa⟩ := id b2
  obtain ⟨cb, fb⟩ := id b3
  go_wp2_with fail
  clear ca fa cb fb
  go_loopw [16] (fun i wr => ∃ k : Nat, k ≤ n ∧ i = .int .i64 k ∧ B1 wr w.heap.size (.slice A n c) ∧ B1 wr (w.heap.size + 1) (.slice B n c') ∧ Keeps w wr) (fun i _ => n - (intOf i).toNat)
  case atStart => exact ⟨0, Nat.zero_le _, rfl, b2, b3, k0⟩
  clear b2 b3 k0
  case round =>
    obtain ⟨k, hk, rfl, b2, b3, hq⟩ := hrel
    by_cases hlt : k < n
    · obtain ⟨b, off, A', m, c1, rfl, _, _, hc, hr⟩ := (ha.keeps hq).at_ hlt
      obtain ⟨b', off', A'', m', c1', rfl, _, _, hc', hr'⟩ := (hb.keeps hq).at_ hlt
      have hi1 : (k : Int) < (n : Int) := by omega
      obtain ⟨ca, -⟩ := id b2
      obtain ⟨cb, -⟩ := id b3
      go_wp2_with fail
      have kS := hid (show ∀ w', Keeps wr w' → (w'.cell? ⟨b, off + k, none⟩ = some (.slice A' m c1) ∧ w'.cell? ⟨b', off' + k, none⟩ = some (.slice A'' m' c1') ∧ w'.cell? ⟨w.heap.size, 0, none⟩ = some (.slice (some ⟨b, off, none⟩) n c) ∧ w'.cell? ⟨w.heap.size + 1, 0, none⟩ = some (.slice (some ⟨b', off', none⟩) n c')) from fun w' k => ⟨cell_keeps hc k, cell_keeps hc' k, cell_keeps ca k, cell_keeps cb k⟩)
      go_region_held3 (fun w' => w'.cell? ⟨b, off + k, none⟩ = some (.slice A' m c1) ∧ w'.cell? ⟨b', off' + k, none⟩ = some (.slice A'' m' c1') ∧ w'.cell? ⟨w.heap.size, 0, none⟩ = some (.slice (some ⟨b, off, none⟩) n c) ∧ w'.cell? ⟨w.heap.size + 1, 0, none⟩ = some (.slice (some ⟨b', off', none⟩) n c')) (first | with_reducible exact kS.out _ (keeps_d0 wr) | with_reducible exact kS.out _ kW | go_keep)
        ((first | (go_at_call 73; refine (qFracs_true (Sl.keeps hr (keeps_d0 wr)) (Sl.keeps hr' (keeps_d0 wr))).mono ?_; rintro e wB ⟨rfl, kB⟩; have kW : Keeps wr wB := keeps_d kB; clear kB)))
      clear kS
      have c2 := b2.keeps kW
      have c3 := b3.keeps kW
      have HK := hid (hq.trans kW)
      clear kW ca cb
      go_wp2_with fail
      go_roundw
      case rel => exact ⟨k + 1, by omega, by go_num, c2, c3, HK.out⟩
      case measure => simp [intOf]; omega
    · go_wp2
      go_ret
      exact ⟨rfl, hq⟩
/-- A slice of bytes that came in. -/
def BytesArg (w : World) (A : Option Addr) (n : Nat) : Prop := Bytes w w.heap.size A n
section
variable {H : Type} {enc : TypeId × Value → H} {w : World} {held : Bool}
set_option maxRecDepth 100000 in
theorem open_arg_bytes {r : Reach} {b0 : Nat} {v : Value} {d : DataW H} {p : List MemPlace} (hv : Value.okWide Try.prog w r b0 62 v) (h : DataW.Trod enc Try.prog w 0 (fun _ => true) held 62 v d p) :
    ∃ A n c, v = .slice A n c ∧ BytesArg w A n := by
  obtain ⟨A, n, c, rfl⟩ := okWide_slice Try.underlying62 hv
  obtain ⟨fuel, h⟩ := h
  refine ⟨A, n, c, rfl, ?_⟩
  rcases open_ints Try.underlying62 Try.underlying5 (by kernel_rfl) h with ⟨hcs, _⟩ | ⟨a, l, c', zs, hcs, _, hl, hm, hz, _, hcell, hwz⟩
  · simp [Value.cells] at hcs
    obtain ⟨rfl, rfl, rfl⟩ := hcs
    exact ⟨by omega, Nat.le_refl _, fun h0 => absurd h0 (by omega)⟩
  · simp [Value.cells] at hcs
    obtain ⟨rfl, rfl, rfl⟩ := hcs
    have hzl : n ≤ zs.length := by simp at hz; omega
    refine ⟨by unfold maxLen at hm; omega, Nat.le_refl _, fun h0 => ?_⟩
    obtain ⟨b, off, spot⟩ := a
    have hc0 := hcell 0 (by omega)
    have hsp : spot = none := by simpa [Addr.add] using World.cell?_spot hc0
    subst hsp
    refine ⟨b, off, rfl, ?_, fun j hj => ?_⟩
    · rcases Nat.lt_or_ge b w.heap.size with h1 | h1
      · exact h1
      · simp [World.cell?, Addr.add, Array.getElem?_eq_none h1] at hc0
    · have := hcell j (by omega)
      rw [Addr.add_lit] at this
      have hmem : zs.getD j 0 ∈ zs := by
        have hj2 : j < zs.length := by omega
        simp only [List.getD, List.getElem?_eq_getElem hj2, Option.getD_some]
        exact List.getElem_mem hj2
      have hb := bounds_u8 (hwz _ hmem)
      exact ⟨_, hb.1, hb.2, this⟩
end

set_option maxRecDepth 100000 in
set_option maxHeartbeats 6400000 in
theorem FnNoisyMechanisms_law (A0 : Option Addr) (n0 c0 : Nat) (A1 : Option Addr) (n1 c1 : Nat) (w : World) (wa0 : BytesArg w A0 n0) (wa1 : BytesArg w A1 n1) :
    Calls Try.prog 14 #[.slice A0 n0 c0, .slice A1 n1 c1] w fun e w' => e = .returned (.bool true) ∧ Below w.heap.size w w' := by
  have B0 := wa0
  have B1_ := wa1
  have m0 := wa0.1
  have m1 := wa1.1
  obtain ⟨S, hS⟩ : ∃ S, wrap64 ((n0 : Int) + (n1 : Int)) = S := ⟨_, rfl⟩
  by_cases hlt : 1048576 < S
  · go_enter Try.func14, Try.ntmps14
    have kw := keeps_refl w
    go_wp2_with fail
    go_ret
    exact ⟨rfl, kw⟩
  go_enter Try.func14, Try.ntmps14
  have kw := keeps_refl w
  go_wp2_with fail
  refine (DrawGeometricMechanism_any B0).mono ?_
  rintro e w1 ⟨a, p, q, rfl, ab, sm, k1⟩
  replace kw := Keeps.trans kw k1
  have sz2 := kw.size
  clear k1
  replace kw := Keeps.trans kw (keeps_alloc w1 (.cells #[.int .i64 p, .int .i64 q] 41))
  have b6 : Bx (w1.alloc (.cells #[.int .i64 p, .int .i64 q] 41)) w1.heap.size p q := Bx.new' (by simp)
  obtain ⟨ca3, cb3, fa3, fb3⟩ := id b6
  go_wp2_with fail
  clear ca3 cb3 fa3 fb3
  obtain ⟨ll, ok, HG⟩ : ∃ x y, Hid (gmQ a p q = (x, y)) := ⟨_, _, rfl⟩
  have wfa : (Lit.int .i64 a).wf = true := by simp [Lit.wf, IntKind.min, IntKind.max, IntKind.signed, IntKind.bits]; omega
  have i6 := sm.i64
  refine (implGeometricMechanism_any wfa i6).mono ?_
  rintro e w4 ⟨mA, mN, mC, rfl, mM, k4⟩
  replace b6 := b6.keeps k4
  replace kw := Keeps.trans kw k4
  have lt5 := b6.lt
  have sz6 := kw.size
  clear k4
  rw [HG.out] at mM
  rw [HG.out]
  dsimp only at mM
  dsimp only
  replace b6 := b6.keeps (keeps_alloc w4 (.cells #[.slice mA mN mC] 38))
  replace mM := mM.keeps (keeps_alloc w4 (.cells #[.slice mA mN mC] 38))
  replace kw := Keeps.trans kw (keeps_alloc w4 (.cells #[.slice mA mN mC] 38))
  have b7 : B1 (w4.alloc (.cells #[.slice mA mN mC] 38)) w4.heap.size (.slice mA mN mC) := B1.new' (by simp)
  obtain ⟨ca7, cb7, fa7, fb7⟩ := id b6
  go_wp2_with fail
  clear ca7 cb7 fa7 fb7
  refine (specGeometricMechanism_any wfa i6).mono ?_
  rintro e w8 ⟨uA, uN, uC, rfl, uM, k8⟩
  replace b6 := b6.keeps k8
  replace b7 := b7.keeps k8
  replace mM := mM.keeps k8
  replace kw := Keeps.trans kw k8
  have lt9 := b7.lt
  have sz10 := kw.size
  clear k8
  rw [HG.out] at uM
  rw [HG.out]
  dsimp only at uM
  dsimp only
  replace b6 := b6.keeps (keeps_alloc w8 (.cells #[.slice uA uN uC] 38))
  replace b7 := b7.keeps (keeps_alloc w8 (.cells #[.slice uA uN uC] 38))
  replace mM := mM.keeps (keeps_alloc w8 (.cells #[.slice uA uN uC] 38))
  replace uM := uM.keeps (keeps_alloc w8 (.cells #[.slice uA uN uC] 38))
  replace kw := Keeps.trans kw (keeps_alloc w8 (.cells #[.slice uA uN uC] 38))
  have b9 : B1 (w8.alloc (.cells #[.slice uA uN uC] 38)) w8.heap.size (.slice uA uN uC) := B1.new' (by simp)
  go_wp2_with fail
  refine (DrawRandomResponse_any (B1_.keeps kw)).mono ?_
  rintro e w11 ⟨b, r, s, rfl, bb, sm2, k11⟩
  replace b6 := b6.keeps k11
  replace b7 := b7.keeps k11
  replace b9 := b9.keeps k11
  replace mM := mM.keeps k11
  replace uM := uM.keeps k11
  replace kw := Keeps.trans kw k11
  have lt12 := b9.lt
  have sz13 := kw.size
  clear k11
  replace b6 := b6.keeps (keeps_alloc w11 (.cells #[.int .i64 r, .int .i64 s] 41))
  replace b7 := b7.keeps (keeps_alloc w11 (.cells #[.int .i64 r, .int .i64 s] 41))
  replace b9 := b9.keeps (keeps_alloc w11 (.cells #[.int .i64 r, .int .i64 s] 41))
  replace mM := mM.keeps (keeps_alloc w11 (.cells #[.int .i64 r, .int .i64 s] 41))
  replace uM := uM.keeps (keeps_alloc w11 (.cells #[.int .i64 r, .int .i64 s] 41))
  replace kw := Keeps.trans kw (keeps_alloc w11 (.cells #[.int .i64 r, .int .i64 s] 41))
  have b12 : Bx (w11.alloc (.cells #[.int .i64 r, .int .i64 s] 41)) w11.heap.size r s := Bx.new' (by simp)
  obtain ⟨ca14, cb14, fa14, fb14⟩ := id b12
  go_wp2_with fail
  clear ca14 cb14 fa14 fb14
  obtain ⟨rr, one, HR⟩ : ∃ x y, Hid (rrsQ b r s = (x, y)) := ⟨_, _, rfl⟩
  have wfb : (Lit.int .i64 b).wf = true := by simp [Lit.wf, IntKind.min, IntKind.max, IntKind.signed, IntKind.bits]; omega
  have i12 := sm2.i64
  refine (implRandomResponse_any wfb i12).mono ?_
  rintro e w15 ⟨rA, rN, rC, rfl, rM, k15⟩
  replace b6 := b6.keeps k15
  replace b7 := b7.keeps k15
  replace b9 := b9.keeps k15
  replace b12 := b12.keeps k15
  replace mM := mM.keeps k15
  replace uM := uM.keeps k15
  replace kw := Keeps.trans kw k15
  have lt16 := b12.lt
  have sz17 := kw.size
  clear k15
  rw [HR.out] at rM
  rw [HR.out]
  dsimp only at rM
  dsimp only
  replace b6 := b6.keeps (keeps_alloc w15 (.cells #[.slice rA rN rC] 38))
  replace b7 := b7.keeps (keeps_alloc w15 (.cells #[.slice rA rN rC] 38))
  replace b9 := b9.keeps (keeps_alloc w15 (.cells #[.slice rA rN rC] 38))
  replace b12 := b12.keeps (keeps_alloc w15 (.cells #[.slice rA rN rC] 38))
  replace mM := mM.keeps (keeps_alloc w15 (.cells #[.slice rA rN rC] 38))
  replace uM := uM.keeps (keeps_alloc w15 (.cells #[.slice rA rN rC] 38))
  replace rM := rM.keeps (keeps_alloc w15 (.cells #[.slice rA rN rC] 38))
  replace kw := Keeps.trans kw (keeps_alloc w15 (.cells #[.slice rA rN rC] 38))
  have b13 : B1 (w15.alloc (.cells #[.slice rA rN rC] 38)) w15.heap.size (.slice rA rN rC) := B1.new' (by simp)
  obtain ⟨ca18, cb18, fa18, fb18⟩ := id b12
  go_wp2_with fail
  clear ca18 cb18 fa18 fb18
  refine (specRandomResponse_any wfb i12).mono ?_
  rintro e w19 ⟨vA, vN, vC, rfl, vM, k19⟩
  replace b6 := b6.keeps k19
  replace b7 := b7.keeps k19
  replace b9 := b9.keeps k19
  replace b12 := b12.keeps k19
  replace b13 := b13.keeps k19
  replace mM := mM.keeps k19
  replace uM := uM.keeps k19
  replace rM := rM.keeps k19
  replace kw := Keeps.trans kw k19
  have lt20 := b13.lt
  have sz21 := kw.size
  clear k19
  rw [HR.out] at vM
  rw [HR.out]
  dsimp only at vM
  dsimp only
  replace b6 := b6.keeps (keeps_alloc w19 (.cells #[.slice vA vN vC] 38))
  replace b7 := b7.keeps (keeps_alloc w19 (.cells #[.slice vA vN vC] 38))
  replace b9 := b9.keeps (keeps_alloc w19 (.cells #[.slice vA vN vC] 38))
  replace b12 := b12.keeps (keeps_alloc w19 (.cells #[.slice vA vN vC] 38))
  replace b13 := b13.keeps (keeps_alloc w19 (.cells #[.slice vA vN vC] 38))
  replace mM := mM.keeps (keeps_alloc w19 (.cells #[.slice vA vN vC] 38))
  replace uM := uM.keeps (keeps_alloc w19 (.cells #[.slice vA vN vC] 38))
  replace rM := rM.keeps (keeps_alloc w19 (.cells #[.slice vA vN vC] 38))
  replace vM := vM.keeps (keeps_alloc w19 (.cells #[.slice vA vN vC] 38))
  replace kw := Keeps.trans kw (keeps_alloc w19 (.cells #[.slice vA vN vC] 38))
  have b15 : B1 (w19.alloc (.cells #[.slice vA vN vC] 38)) w19.heap.size (.slice vA vN vC) := B1.new' (by simp)
  have t1 : (ok != ok) = false := by simp
  have t2 : (one != one) = false := by simp
  obtain ⟨ca22, fa22⟩ := id b7
  obtain ⟨ca23, fa23⟩ := id b9
  go_wp2_with fail
  clear ca22 fa22 ca23 fa23
  refine (qMechanism_true mM.rows uM.rows).mono ?_
  rintro e w24 ⟨rfl, k24⟩
  replace b6 := b6.keeps k24
  replace b7 := b7.keeps k24
  replace b9 := b9.keeps k24
  replace b12 := b12.keeps k24
  replace b13 := b13.keeps k24
  replace b15 := b15.keeps k24
  replace mM := mM.keeps k24
  replace uM := uM.keeps k24
  replace rM := rM.keeps k24
  replace vM := vM.keeps k24
  replace kw := Keeps.trans kw k24
  have lt25 := b15.lt
  have sz26 := kw.size
  clear k24
  obtain ⟨ca27, fa27⟩ := id b13
  obtain ⟨ca28, fa28⟩ := id b15
  go_wp2_with fail
  clear ca27 fa27 ca28 fa28
  refine (qMechanism_true rM.rows vM.rows).mono ?_
  rintro e w29 ⟨rfl, k29⟩
  replace b6 := b6.keeps k29
  replace b7 := b7.keeps k29
  replace b9 := b9.keeps k29
  replace b12 := b12.keeps k29
  replace b13 := b13.keeps k29
  replace b15 := b15.keeps k29
  replace mM := mM.keeps k29
  replace uM := uM.keeps k29
  replace rM := rM.keeps k29
  replace vM := vM.keeps k29
  replace kw := Keeps.trans kw k29
  have lt30 := b15.lt
  have sz31 := kw.size
  clear k29
  cases one
  · cases ok
    · go_wp2_with fail
      go_ret
      exact ⟨rfl, kw⟩
    have HV := hid (gm_ratio HG.out)
    obtain ⟨ca32, fa32⟩ := id b7
    go_wp2_with fail
    clear ca32 fa32
    refine (implNeighbourRatio_any mM.rows).mono ?_
    rintro e w33 ⟨rfl, k33⟩
    rw [HV.out.2]
    replace b6 := b6.keeps k33
    replace b7 := b7.keeps k33
    replace b9 := b9.keeps k33
    replace b12 := b12.keeps k33
    replace b13 := b13.keeps k33
    replace b15 := b15.keeps k33
    replace mM := mM.keeps k33
    replace uM := uM.keeps k33
    replace rM := rM.keeps k33
    replace vM := vM.keeps k33
    replace kw := Keeps.trans kw k33
    have lt34 := b15.lt
    have sz35 := kw.size
    clear k33
    replace b6 := b6.keeps (keeps_alloc w33 (.cells #[.int .i64 q, .int .i64 p] 41))
    replace b7 := b7.keeps (keeps_alloc w33 (.cells #[.int .i64 q, .int .i64 p] 41))
    replace b9 := b9.keeps (keeps_alloc w33 (.cells #[.int .i64 q, .int .i64 p] 41))
    replace b12 := b12.keeps (keeps_alloc w33 (.cells #[.int .i64 q, .int .i64 p] 41))
    replace b13 := b13.keeps (keeps_alloc w33 (.cells #[.int .i64 q, .int .i64 p] 41))
    replace b15 := b15.keeps (keeps_alloc w33 (.cells #[.int .i64 q, .int .i64 p] 41))
    replace mM := mM.keeps (keeps_alloc w33 (.cells #[.int .i64 q, .int .i64 p] 41))
    replace uM := uM.keeps (keeps_alloc w33 (.cells #[.int .i64 q, .int .i64 p] 41))
    replace rM := rM.keeps (keeps_alloc w33 (.cells #[.int .i64 q, .int .i64 p] 41))
    replace vM := vM.keeps (keeps_alloc w33 (.cells #[.int .i64 q, .int .i64 p] 41))
    replace kw := Keeps.trans kw (keeps_alloc w33 (.cells #[.int .i64 q, .int .i64 p] 41))
    have b21 : Bx (w33.alloc (.cells #[.int .i64 q, .int .i64 p] 41)) w33.heap.size q p := Bx.new' (by simp)
    obtain ⟨ca36, cb36, fa36, fb36⟩ := id b6
    obtain ⟨ca37, cb37, fa37, fb37⟩ := id b21
    go_wp2_with fail
    clear ca36 cb36 fa36 fb36 ca37 cb37 fa37 fb37
    go_ret
    exact ⟨rfl, kw⟩
  have HM := hid (rr_mech HR.out)
  obtain ⟨x1, x2, x3, HX⟩ : ∃ x y z, Hid (varQ rr 0 1 = (x, y, z)) := ⟨_, _, _, rfl⟩
  have t3 : (x3 != x3) = false := by simp
  obtain ⟨ca32, fa32⟩ := id b13
  go_wp2_with fail
  clear ca32 fa32
  refine (implVariationOf_any rM.rows (i := 0) (k := 1) (by decide) (by decide)).mono ?_
  rintro e w33 ⟨rfl, k33⟩
  rw [HX.out]
  replace b6 := b6.keeps k33
  replace b7 := b7.keeps k33
  replace b9 := b9.keeps k33
  replace b12 := b12.keeps k33
  replace b13 := b13.keeps k33
  replace b15 := b15.keeps k33
  replace mM := mM.keeps k33
  replace uM := uM.keeps k33
  replace rM := rM.keeps k33
  replace vM := vM.keeps k33
  replace kw := Keeps.trans kw k33
  have lt34 := b15.lt
  have sz35 := kw.size
  clear k33
  replace b6 := b6.keeps (keeps_alloc w33 (.cells #[.int .i64 x1, .int .i64 x2] 41))
  replace b7 := b7.keeps (keeps_alloc w33 (.cells #[.int .i64 x1, .int .i64 x2] 41))
  replace b9 := b9.keeps (keeps_alloc w33 (.cells #[.int .i64 x1, .int .i64 x2] 41))
  replace b12 := b12.keeps (keeps_alloc w33 (.cells #[.int .i64 x1, .int .i64 x2] 41))
  replace b13 := b13.keeps (keeps_alloc w33 (.cells #[.int .i64 x1, .int .i64 x2] 41))
  replace b15 := b15.keeps (keeps_alloc w33 (.cells #[.int .i64 x1, .int .i64 x2] 41))
  replace mM := mM.keeps (keeps_alloc w33 (.cells #[.int .i64 x1, .int .i64 x2] 41))
  replace uM := uM.keeps (keeps_alloc w33 (.cells #[.int .i64 x1, .int .i64 x2] 41))
  replace rM := rM.keeps (keeps_alloc w33 (.cells #[.int .i64 x1, .int .i64 x2] 41))
  replace vM := vM.keeps (keeps_alloc w33 (.cells #[.int .i64 x1, .int .i64 x2] 41))
  replace kw := Keeps.trans kw (keeps_alloc w33 (.cells #[.int .i64 x1, .int .i64 x2] 41))
  have b17 : Bx (w33.alloc (.cells #[.int .i64 x1, .int .i64 x2] 41)) w33.heap.size x1 x2 := Bx.new' (by simp)
  obtain ⟨ca36, fa36⟩ := id b13
  go_wp2_with fail
  clear ca36 fa36
  refine (specVariationOf_any rM.rows (i := 0) (k := 1) (by decide) (by decide)).mono ?_
  rintro e w37 ⟨rfl, k37⟩
  rw [HX.out]
  replace b6 := b6.keeps k37
  replace b7 := b7.keeps k37
  replace b9 := b9.keeps k37
  replace b12 := b12.keeps k37
  replace b13 := b13.keeps k37
  replace b15 := b15.keeps k37
  replace b17 := b17.keeps k37
  replace mM := mM.keeps k37
  replace uM := uM.keeps k37
  replace rM := rM.keeps k37
  replace vM := vM.keeps k37
  replace kw := Keeps.trans kw k37
  have lt38 := b17.lt
  have sz39 := kw.size
  clear k37
  replace b6 := b6.keeps (keeps_alloc w37 (.cells #[.int .i64 x1, .int .i64 x2] 41))
  replace b7 := b7.keeps (keeps_alloc w37 (.cells #[.int .i64 x1, .int .i64 x2] 41))
  replace b9 := b9.keeps (keeps_alloc w37 (.cells #[.int .i64 x1, .int .i64 x2] 41))
  replace b12 := b12.keeps (keeps_alloc w37 (.cells #[.int .i64 x1, .int .i64 x2] 41))
  replace b13 := b13.keeps (keeps_alloc w37 (.cells #[.int .i64 x1, .int .i64 x2] 41))
  replace b15 := b15.keeps (keeps_alloc w37 (.cells #[.int .i64 x1, .int .i64 x2] 41))
  replace b17 := b17.keeps (keeps_alloc w37 (.cells #[.int .i64 x1, .int .i64 x2] 41))
  replace mM := mM.keeps (keeps_alloc w37 (.cells #[.int .i64 x1, .int .i64 x2] 41))
  replace uM := uM.keeps (keeps_alloc w37 (.cells #[.int .i64 x1, .int .i64 x2] 41))
  replace rM := rM.keeps (keeps_alloc w37 (.cells #[.int .i64 x1, .int .i64 x2] 41))
  replace vM := vM.keeps (keeps_alloc w37 (.cells #[.int .i64 x1, .int .i64 x2] 41))
  replace kw := Keeps.trans kw (keeps_alloc w37 (.cells #[.int .i64 x1, .int .i64 x2] 41))
  have b19 : Bx (w37.alloc (.cells #[.int .i64 x1, .int .i64 x2] 41)) w37.heap.size x1 x2 := Bx.new' (by simp)
  obtain ⟨ca40, fa40⟩ := id b13
  obtain ⟨ca41, cb41, fa41, fb41⟩ := id b17
  obtain ⟨ca42, cb42, fa42, fb42⟩ := id b19
  go_wp2_with fail
  clear ca40 fa40 ca41 cb41 fa41 fb41 ca42 cb42 fa42 fb42
  refine (IsMechanism_any rM.rows).mono ?_
  rintro e w43 ⟨rfl, k43⟩
  rw [HM.out]
  replace b6 := b6.keeps k43
  replace b7 := b7.keeps k43
  replace b9 := b9.keeps k43
  replace b12 := b12.keeps k43
  replace b13 := b13.keeps k43
  replace b15 := b15.keeps k43
  replace b17 := b17.keeps k43
  replace b19 := b19.keeps k43
  replace mM := mM.keeps k43
  replace uM := uM.keeps k43
  replace rM := rM.keeps k43
  replace vM := vM.keeps k43
  replace kw := Keeps.trans kw k43
  have lt44 := b19.lt
  have sz45 := kw.size
  clear k43
  cases ok
  · go_wp2_with fail
    go_ret
    exact ⟨rfl, kw⟩
  have HV := hid (gm_ratio HG.out)
  obtain ⟨ca46, fa46⟩ := id b7
  go_wp2_with fail
  clear ca46 fa46
  refine (implNeighbourRatio_any mM.rows).mono ?_
  rintro e w47 ⟨rfl, k47⟩
  rw [HV.out.2]
  replace b6 := b6.keeps k47
  replace b7 := b7.keeps k47
  replace b9 := b9.keeps k47
  replace b12 := b12.keeps k47
  replace b13 := b13.keeps k47
  replace b15 := b15.keeps k47
  replace b17 := b17.keeps k47
  replace b19 := b19.keeps k47
  replace mM := mM.keeps k47
  replace uM := uM.keeps k47
  replace rM := rM.keeps k47
  replace vM := vM.keeps k47
  replace kw := Keeps.trans kw k47
  have lt48 := b19.lt
  have sz49 := kw.size
  clear k47
  replace b6 := b6.keeps (keeps_alloc w47 (.cells #[.int .i64 q, .int .i64 p] 41))
  replace b7 := b7.keeps (keeps_alloc w47 (.cells #[.int .i64 q, .int .i64 p] 41))
  replace b9 := b9.keeps (keeps_alloc w47 (.cells #[.int .i64 q, .int .i64 p] 41))
  replace b12 := b12.keeps (keeps_alloc w47 (.cells #[.int .i64 q, .int .i64 p] 41))
  replace b13 := b13.keeps (keeps_alloc w47 (.cells #[.int .i64 q, .int .i64 p] 41))
  replace b15 := b15.keeps (keeps_alloc w47 (.cells #[.int .i64 q, .int .i64 p] 41))
  replace b17 := b17.keeps (keeps_alloc w47 (.cells #[.int .i64 q, .int .i64 p] 41))
  replace b19 := b19.keeps (keeps_alloc w47 (.cells #[.int .i64 q, .int .i64 p] 41))
  replace mM := mM.keeps (keeps_alloc w47 (.cells #[.int .i64 q, .int .i64 p] 41))
  replace uM := uM.keeps (keeps_alloc w47 (.cells #[.int .i64 q, .int .i64 p] 41))
  replace rM := rM.keeps (keeps_alloc w47 (.cells #[.int .i64 q, .int .i64 p] 41))
  replace vM := vM.keeps (keeps_alloc w47 (.cells #[.int .i64 q, .int .i64 p] 41))
  replace kw := Keeps.trans kw (keeps_alloc w47 (.cells #[.int .i64 q, .int .i64 p] 41))
  have b21 : Bx (w47.alloc (.cells #[.int .i64 q, .int .i64 p] 41)) w47.heap.size q p := Bx.new' (by simp)
  obtain ⟨ca50, cb50, fa50, fb50⟩ := id b6
  obtain ⟨ca51, cb51, fa51, fb51⟩ := id b21
  go_wp2_with fail
  clear ca50 cb50 fa50 fb50 ca51 cb51 fa51 fb51
  go_ret
  exact ⟨rfl, kw⟩
end Go.Proofs.Ytkpliolafkdijaa
