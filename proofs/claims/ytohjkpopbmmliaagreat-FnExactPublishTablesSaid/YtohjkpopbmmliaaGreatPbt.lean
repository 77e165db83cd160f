/- PublishTables: of the program and of the reference. -/
import Derived.Test.YtohjkpopbmmliaaGreatTbo
import Derived.Test.YtohjkpopbmmliaaGreatSep
import Derived.Test.YtohjkpopbmmliaaGreatBlk
import Derived.Deep.RegionHeld3
import Derived.Deep.RegionHeldLaw
import Derived.Maps.AppendAt
namespace Go.Proofs.YtohjkpopbmmliaaGreat
open Go.RowKit Go.Sort Go.Deep
set_option linter.unusedVariables false
set_option linter.unusedSimpArgs false

/-- The published tables. -/
def pbL (ps : List Int) (l : List VV) (rs : List RR) (ts : List TT) : List PP := ts.map fun t => (t, toL ps l t rs)
theorem pbL_len (ps : List Int) (l : List VV) (rs : List RR) (ts : List TT) : (pbL ps l rs ts).length = ts.length := by simp [pbL]
theorem pbL_at {ps : List Int} {l : List VV} {rs : List RR} {ts : List TT} {k : Nat} (h : k < ts.length) : (pbL ps l rs ts).getD k p0 = (ts.getD k t0, toL ps l (ts.getD k t0) rs) := by simp [pbL, List.getD, h]
theorem pbL_take {ps : List Int} {l : List VV} {rs : List RR} {ts : List TT} {k : Nat} (h : k < ts.length) : (pbL ps l rs ts).take (k + 1) = (pbL ps l rs ts).take k ++ [(ts.getD k t0, toL ps l (ts.getD k t0) rs)] := by
  rw [take_snoc _ _ p0 (by rw [pbL_len]; exact h), pbL_at h]
def pbB (ps : List Int) (l : List VV) (rs : List RR) (ts : List TT) : Bool := geoB ps && schB l && survB ps l rs && plB ps l ts
def pbQ (ps : List Int) (l : List VV) (rs : List RR) (ts : List TT) : List PP × Bool := if pbB ps l rs ts = true then (pbL ps l rs ts, true) else ([], false)
theorem pbQ_no {ps : List Int} {l : List VV} {rs : List RR} {ts : List TT} (h : pbB ps l rs ts = false) : pbQ ps l rs ts = ([], false) := if_neg (by rw [h]; simp)
theorem pbQ_yes {ps : List Int} {l : List VV} {rs : List RR} {ts : List TT} (h : pbB ps l rs ts = true) : pbQ ps l rs ts = (pbL ps l rs ts, true) := if_pos h
def PbRes (w : World) (R : List PP × Bool) (e : Ending) (w' : World) : Prop := ∃ A n c, e = .returned (.tuple #[.slice A n c, .bool R.2]) ∧ PubsO w' w.heap.size w'.heap.size A n R.1 ∧ Keeps w w'
theorem PbRes.no {w w' : World} {R : List PP × Bool} (h : R = ([], false)) (k : Keeps w w') : PbRes w R (.returned (.tuple #[.slice none 0 0, .bool false])) w' := by
  subst h; exact ⟨none, 0, 0, rfl, RowsM.nil_ _ _ _ _ (Nat.le_refl _), k⟩
/-- A published table is stored at row k. -/
theorem FillS.pub {w w1 : World} {g n k E nv nh nk cv ch ck : Nat} {cs : List Value} {L U : Nat → Nat} {l : List PP} {lv sm : Int} {xs ys zs : List Int} {V H K : Option Addr} (h : FillS 5 p0 RwP w g n E cs L U l k) (hk : k < n) (k1 : Keeps w w1) (e : l.getD k p0 = ((lv, xs, ys, sm), zs)) (hx : xs.length = nv) (hy : ys.length = nh) (hz : zs.length = nk)
    (m : ThM w1 w.heap.size w1.heap.size V nv xs H nh ys K nk zs) :
    ∃ cs' L' U', FillS 5 p0 RwP (((((w1.setCell ⟨g, k * 5, none⟩ (.int .i64 lv)).setCell ⟨g, k * 5 + 1, none⟩ (.slice V nv cv)).setCell ⟨g, k * 5 + 2, none⟩ (.slice H nh ch)).setCell ⟨g, k * 5 + 3, none⟩ (.int .i64 sm)).setCell ⟨g, k * 5 + 4, none⟩ (.slice K nk ck)) g n E cs' L' U' l (k + 1) := by
  subst hx hy hz
  have hr := Nat.mul_le_mul_right 5 (show k + 1 ≤ n from hk)
  rw [Nat.succ_mul] at hr
  have hl := h.len
  have ho := ((((h.own.keeps k1).set_ (k * 5) (.int .i64 lv)).set_ (k * 5 + 1) (.slice V xs.length cv)).set_ (k * 5 + 2) (.slice H ys.length ch)).set_ (k * 5 + 3) (.int .i64 sm) |>.set_ (k * 5 + 4) (.slice K zs.length ck)
  refine ⟨_, _, _, h.put RwP.ok hk k1 ?_ (by simp [World.setCell]) e ho (by simpa using hl) (fun j hj => ?_) ⟨V, cv, H, ch, K, ck, ?_, ?_, ?_, ?_, ?_, m⟩ (fun lo hi u u' x hr => hr.co)⟩
  · exact ((((fr_one _).trans (fr_one _)).trans (fr_one _)).trans (fr_one _)).trans (fr_one _)
  · rw [getD_set_other (by omega), getD_set_other (by omega), getD_set_other (by omega), getD_set_other (by omega), getD_set_other (by omega)]
  · show List.getD _ (k * 5) undef = _
    rw [getD_set_other (by omega), getD_set_other (by omega), getD_set_other (by omega), getD_set_other (by omega), getD_set_same (by omega)]
  · show List.getD _ (k * 5 + 1) undef = _
    rw [getD_set_other (by omega), getD_set_other (by omega), getD_set_other (by omega), getD_set_same (by simp; omega)]
  · show List.getD _ (k * 5 + 2) undef = _
    rw [getD_set_other (by omega), getD_set_other (by omega), getD_set_same (by simp; omega)]
  · show List.getD _ (k * 5 + 3) undef = _
    rw [getD_set_other (by omega), getD_set_same (by simp; omega)]
  · show List.getD _ (k * 5 + 4) undef = _
    rw [getD_set_same (by simp; omega)]

set_option maxRecDepth 100000 in
set_option maxHeartbeats 1600000 in
theorem isPlan_bad {A A' Q : Option Addr} {lo hi a c0 n c q e : Nat} {ps : List Int} {l : List VV} {w : World} (h : Ints w lo hi A a ps) (h' : Sch w A' q e l) (hb : (geoB ps && schB l) = false) :
    Calls Tryz.prog 55 #[.agg #[.slice A a c0], .slice A' q e, .slice Q n c] w fun e w' => e = .returned (.bool false) ∧ Keeps w w' := by
  obtain ⟨lo9, hi9, hv⟩ := h'.v
  have HB := hid hb
  clear hb
  go_enter Tryz.func55, Tryz.ntmps55
  have kw := keeps_refl w
  replace kw := Keeps.trans kw (keeps_alloc w (.cells #[.slice A a c0] 26))
  have b3 : B1 (w.alloc (.cells #[.slice A a c0] 26)) w.heap.size (.slice A a c0) := B1.new' (by simp)
  obtain ⟨ca1, fa1⟩ := id b3
  go_wp2_with fail
  clear ca1 fa1
  obtain ⟨pHG, HG⟩ : ∃ pB, Hid (geoB ps = pB) := ⟨_, rfl⟩
  refine (IsGeo_any (h.keeps kw)).mono ?_
  rintro e w2 ⟨rfl, k2⟩
  rw [HG.out]
  replace b3 := b3.keeps k2
  replace kw := Keeps.trans kw k2
  have lt3 := b3.lt
  have sz4 := kw.size
  clear k2
  cases pHG
  · obtain ⟨ca5, fa5⟩ := id b3
    go_wp2_with fail
    clear ca5 fa5
    go_ret
    exact ⟨rfl, kw⟩
  · skip
    obtain ⟨ca5, fa5⟩ := id b3
    go_wp2_with fail
    clear ca5 fa5
    have HS := hid (show schB l = false by have := HB.out; rw [HG.out] at this; simpa using this)
    refine (IsSchema_any (Sl.keeps hv kw) h'.ok h'.cap h'.c64).mono ?_
    rintro e w6 ⟨rfl, k6⟩
    rw [HS.out]
    replace b3 := b3.keeps k6
    replace kw := Keeps.trans kw k6
    have lt7 := b3.lt
    have sz8 := kw.size
    clear k6
    go_wp2_with fail
    go_ret
    exact ⟨rfl, kw⟩
set_option maxRecDepth 100000 in
set_option maxHeartbeats 1600000 in
theorem areTables_any {A A' Q : Option Addr} {lo hi a c0 lo3 hi3 n c q e : Nat} {un : Bool} {ps : List Int} {l : List VV} {ts : List TT} {w : World} (h : Ints w lo hi A a ps) (h' : Sch w A' q e l) (ht : Tabs true un w lo3 hi3 Q n ts) :
    Calls Tryz.prog 78 #[.agg #[.slice A a c0], .slice A' q e, .slice Q n c] w fun e w' => e = .returned (.bool (geoB ps && schB l && plB ps l ts)) ∧ Keeps w w' := by
  have HTL := hid ht.len
  have hn := ht.le
  obtain ⟨p, HP⟩ : ∃ p, Hid ((geoB ps && schB l && plB ps l ts) = p) := ⟨_, rfl⟩
  rw [HP.out]
  go_enter Tryz.func78, Tryz.ntmps78
  have kw := keeps_refl w
  replace kw := Keeps.trans kw (keeps_alloc w (.cells #[.slice A a c0] 26))
  have b3 : B1 (w.alloc (.cells #[.slice A a c0] 26)) w.heap.size (.slice A a c0) := B1.new' (by simp)
  by_cases h20 : n ≤ 20
  rotate_left
  · obtain rfl : p = false := HP.out.symm.trans (by rw [plB_len (ps := ps) (l := l) (ts := ts) (by rw [HTL.out]; exact h20)]; simp)
    have h21 : ¬ (n : Int) ≤ 20 := by omega
    obtain ⟨ca1, fa1⟩ := id b3
    go_wp2_with fail
    clear ca1 fa1
    go_ret
    exact ⟨rfl, kw⟩
  have h21 : (n : Int) ≤ 20 := by omega
  obtain ⟨ca1, fa1⟩ := id b3
  go_wp2_with fail
  clear ca1 fa1
  obtain ⟨b, HB⟩ : ∃ b, Hid ((geoB ps && schB l) = b) := ⟨_, rfl⟩
  cases b
  · obtain rfl : p = false := HP.out.symm.trans (by rw [HB.out]; rfl)
    refine (isPlan_bad (h.keeps kw) (h'.keeps kw) HB.out).mono ?_
    rintro e w2 ⟨rfl, k2⟩
    replace b3 := b3.keeps k2
    replace kw := Keeps.trans kw k2
    have lt3 := b3.lt
    have sz4 := kw.size
    clear k2
    go_wp2_with fail
    go_ret
    exact ⟨rfl, kw⟩
  have hgs : geoB ps = true ∧ schB l = true := by have := HB.out; simpa only [Bool.and_eq_true] using this
  have HPP := hid (show plB ps l ts = p by have := HP.out; rw [HB.out] at this; simpa using this)
  refine (isPlan_any (h.keeps kw) (h'.keeps kw) (ht.keeps kw) hgs.1 hgs.2).mono ?_
  rintro e w2 ⟨rfl, k2⟩
  rw [HPP.out]
  replace b3 := b3.keeps k2
  replace kw := Keeps.trans kw k2
  have lt3 := b3.lt
  have sz4 := kw.size
  clear k2
  go_wp2_with fail
  go_ret
  exact ⟨rfl, kw⟩
set_option maxRecDepth 100000 in
set_option maxHeartbeats 1600000 in
theorem dInput_bad {A A' : Option Addr} {n c m d : Nat} {l : List VV} {w : World} (h' : Sch w A' m d l) (hs : schB l = false) :
    Calls Tryz.prog 119 #[.slice A' m d, .slice A n c] w fun e w' => e = .returned (.bool false) ∧ Keeps w w' := by
  obtain ⟨lo', hi', hv⟩ := h'.v
  have HS := hid hs
  clear hs
  go_enter Tryz.func119, Tryz.ntmps119
  have kw := keeps_refl w
  go_wp2_with fail
  refine (sGood_any (Sl.keeps hv kw) h'.ok h'.cap h'.c64).mono ?_
  rintro e w1 ⟨rfl, k1⟩
  rw [HS.out]
  replace kw := Keeps.trans kw k1
  have sz2 := kw.size
  clear k1
  go_wp2_with fail
  go_ret
  exact ⟨rfl, kw⟩
set_option maxRecDepth 100000 in
set_option maxHeartbeats 1600000 in
theorem uSurvey_bad {A A' R : Option Addr} {lo hi n c m d q e : Nat} {ps : List Int} {l : List VV} {w : World} (h : Ints w lo hi A n ps) (h' : Sch w A' m d l) (hb : (geoB ps && schB l) = false) :
    Calls Tryz.prog 70 #[.agg #[.slice A n c], .slice A' m d, .slice R q e] w fun e w' => e = .returned (.bool false) ∧ Keeps w w' := by
  have HB := hid hb
  clear hb
  go_enter Tryz.func70, Tryz.ntmps70
  have kw := keeps_refl w
  replace kw := Keeps.trans kw (keeps_alloc w (.cells #[.slice A n c] 26))
  have b3 : B1 (w.alloc (.cells #[.slice A n c] 26)) w.heap.size (.slice A n c) := B1.new' (by simp)
  obtain ⟨ca1, fa1⟩ := id b3
  go_wp2_with fail
  clear ca1 fa1
  obtain ⟨pHG, HG⟩ : ∃ pB, Hid (geoB ps = pB) := ⟨_, rfl⟩
  refine (gGood_any (h.keeps kw)).mono ?_
  rintro e w2 ⟨rfl, k2⟩
  rw [HG.out]
  replace b3 := b3.keeps k2
  replace kw := Keeps.trans kw k2
  have lt3 := b3.lt
  have sz4 := kw.size
  clear k2
  cases pHG
  · obtain ⟨ca5, fa5⟩ := id b3
    go_wp2_with fail
    clear ca5 fa5
    go_ret
    exact ⟨rfl, kw⟩
  · skip
    obtain ⟨ca5, fa5⟩ := id b3
    go_wp2_with fail
    clear ca5 fa5
    have HS := hid (show schB l = false by have := HB.out; rw [HG.out] at this; simpa using this)
    refine (dInput_bad (h'.keeps kw) HS.out).mono ?_
    rintro e w6 ⟨rfl, k6⟩
    replace b3 := b3.keeps k6
    replace kw := Keeps.trans kw k6
    have lt7 := b3.lt
    have sz8 := kw.size
    clear k6
    obtain ⟨ca9, fa9⟩ := id b3
    go_wp2_with fail
    clear ca9 fa9
    go_ret
    exact ⟨rfl, kw⟩
theorem make_pubsI (n : Nat) (hn : n ≤ 67108864) (w : World) :
    (Instr.makeSlice 58 (.int .i64 (n : Int)) (.int .i64 (n : Int))).run Tryz.prog w = .ok (.slice (some ⟨w.heap.size, 0, none⟩) n n) (w.alloc (.cells (madeCells #[.int .i64 0, .slice none 0 0, .slice none 0 0, .int .i64 0, .slice none 0 0] (n * 5)) 125)) := by
  have info : (Tryz.prog.info? 125).map (fun i => (i.zero, i.size, i.bytes)) = some (some (.agg #[.int .i64 0, .slice none 0 0, .slice none 0 0, .int .i64 0, .slice none 0 0]), 5, 88) := by kernel_rfl
  obtain ⟨i, hi, hz0, hz1, hz2⟩ := info_parts info
  have h := run_make_rowN (P := Tryz.prog) 58 125 i _ Tryz.underlying58 hi hz0 .i64 .i64 n n (Nat.le_refl _) (by rw [hz2]; omega) (by omega) w
  rw [hz1] at h
  simpa [Value.cells] using h
set_option maxRecDepth 100000 in
set_option maxHeartbeats 12800000 in
theorem publishTables_any {A A' R Q : Option Addr} {lo hi a c0 lo3 hi3 lo4 hi4 n c q e r cr : Nat} {un : Bool} {ps : List Int} {l : List VV} {rs : List RR} {ts : List TT} {w : World} (h : Ints w lo hi A a ps) (h' : Sch w A' q e l) (hr : Recs w lo4 hi4 R r rs) (ht : Tabs true un w lo3 hi3 Q n ts) (hg : geoB ps = true) (hs : schB l = true) (hsv : survB ps l rs = true) (hpl : plB ps l ts = true) :
    Calls Tryz.prog 80 #[.agg #[.slice A a c0], .slice A' q e, .slice R r cr, .slice Q n c] w fun e' w' => ∃ P, e' = .returned (.slice P n n) ∧ PubsO w' w.heap.size w'.heap.size P n (pbL ps l rs ts) ∧ Keeps w w' := by
  have HTL := hid ht.len
  have hn := ht.le
  have hp2 := plB_at hpl
  have hn20 : n ≤ 20 := by have := hp2.1; rw [ht.len] at this; exact this
  have HTB := hid (fun k (hk : k < n) => hp2.2 k (by rw [ht.len]; exact hk))
  have HG := hid hg
  have HS := hid hs
  have HSV := hid hsv
  have HPA := hid (fun k (hk : k < n) => pbL_at (ps := ps) (l := l) (rs := rs) (ts := ts) (k := k) (by rw [ht.len]; exact hk))
  have HPT := hid (fun k (hk : k < n) => pbL_take (ps := ps) (l := l) (rs := rs) (ts := ts) (k := k) (by rw [ht.len]; exact hk))
  have HPN := hid ((pbL_len ps l rs ts).trans ht.len)
  clear hp2 hg hs hsv hpl
  have hmk := make_pubsI n (by omega)
  go_enter Tryz.func80, Tryz.ntmps80
  have kw := keeps_refl w
  replace kw := Keeps.trans kw (keeps_alloc w (.cells #[.slice A a c0] 26))
  have b4 : B1 (w.alloc (.cells #[.slice A a c0] 26)) w.heap.size (.slice A a c0) := B1.new' (by simp)
  obtain ⟨ca1, fa1⟩ := id b4
  replace b4 := b4.keeps (keeps_alloc (w.alloc (.cells #[.slice A a c0] 26)) (.cells (madeCells #[.int .i64 0, .slice none 0 0, .slice none 0 0, .int .i64 0, .slice none 0 0] (n * 5)) 125))
  replace kw := Keeps.trans kw (keeps_alloc (w.alloc (.cells #[.slice A a c0] 26)) (.cells (madeCells #[.int .i64 0, .slice none 0 0, .slice none 0 0, .int .i64 0, .slice none 0 0] (n * 5)) 125))
  obtain ⟨ca2, fa2⟩ := id b4
  go_wp2_with fail
  clear ca1 fa1 ca2 fa2
  clear hmk
  have F0 := FillS.new (sz := 5) (z := p0) (R := RwP) (w.alloc (.cells #[.slice A a c0] 26)) #[.int .i64 0, .slice none 0 0, .slice none 0 0, .int .i64 0, .slice none 0 0] n 125 (pbL ps l rs ts)
  rw [show (w.alloc (.cells #[.slice A a c0] 26)).heap.size = w.heap.size + 1 by simp] at F0
  go_loopw [17] (fun i wr => ∃ (k : Nat) (cs : List Value) (L U : Nat → Nat), k ≤ n ∧ i = .int .i64 k ∧ FillS 5 p0 RwP wr (w.heap.size + 1) n 125 cs L U (pbL ps l rs ts) k ∧ B1 wr w.heap.size (.slice A a c0) ∧ Keeps w wr) (fun i _ => n - (intOf i).toNat)
  case atStart => exact ⟨0, _, _, _, Nat.zero_le _, rfl, F0, b4, kw⟩
  clear F0 b4 kw
  case round =>
    obtain ⟨k, cs, L, U, hk, rfl, hF, b4, kw⟩ := hrel
    by_cases hlt : k < n
    rotate_left
    · obtain rfl : k = n := by omega
      have HM := hid (hF.rowsM HPN.out hn (lo := w.heap.size) (Nat.le_succ _))
      clear hF
      go_wp2
      go_ret
      exact ⟨_, rfl, HM.out, kw⟩
    obtain ⟨b, off, lv, V, nv, cv, H, nh, ch, sm, vs, ws, rfl, _, _, hc0, hc1, hc2, hc3, hvv, hhh, hx⟩ := (ht.keeps kw).at_ hlt
    have hi1 : (k : Int) < (n : Int) := by omega
    have HX := hid hx.out
    have HTK := hid (show tabB ps l (lv, vs, ws, sm) = true by have := HTB.out k hlt; rwa [← HX.out] at this)
    have hnv := hid hvv.1
    have hnh := hid hhh.1
    clear hx
    have lt3 := b4.lt
    have ltF := hF.lt
    replace hF := hF.keeps RwP.ok (keeps_alloc wr (.cells #[.int .i64 lv, .slice V nv cv, .slice H nh ch, .int .i64 sm] 120))
    have hvv2 := hvv.keeps (keeps_alloc wr (.cells #[.int .i64 lv, .slice V nv cv, .slice H nh ch, .int .i64 sm] 120))
    have hhh2 := hhh.keeps (keeps_alloc wr (.cells #[.int .i64 lv, .slice V nv cv, .slice H nh ch, .int .i64 sm] 120))
    replace b4 := b4.keeps (keeps_alloc wr (.cells #[.int .i64 lv, .slice V nv cv, .slice H nh ch, .int .i64 sm] 120))
    replace kw := Keeps.trans kw (keeps_alloc wr (.cells #[.int .i64 lv, .slice V nv cv, .slice H nh ch, .int .i64 sm] 120))
    have b11 : Bl (wr.alloc (.cells #[.int .i64 lv, .slice V nv cv, .slice H nh ch, .int .i64 sm] 120)) wr.heap.size [.int .i64 lv, .slice V nv cv, .slice H nh ch, .int .i64 sm] := Bl.new' (by simp) (by simp)
    have ca3_0 : (wr.alloc (.cells #[.int .i64 lv, .slice V nv cv, .slice H nh ch, .int .i64 sm] 120)).cell? ⟨wr.heap.size, 0, none⟩ = some (.int .i64 lv) := (b11.2 0 _ rfl).1
    have fa3_0 : (wr.alloc (.cells #[.int .i64 lv, .slice V nv cv, .slice H nh ch, .int .i64 sm] 120)).frozen? ⟨wr.heap.size, 0, none⟩ = false := (b11.2 0 _ rfl).2
    have ca3_1 : (wr.alloc (.cells #[.int .i64 lv, .slice V nv cv, .slice H nh ch, .int .i64 sm] 120)).cell? ⟨wr.heap.size, 1, none⟩ = some (.slice V nv cv) := (b11.2 1 _ rfl).1
    have fa3_1 : (wr.alloc (.cells #[.int .i64 lv, .slice V nv cv, .slice H nh ch, .int .i64 sm] 120)).frozen? ⟨wr.heap.size, 1, none⟩ = false := (b11.2 1 _ rfl).2
    have ca3_2 : (wr.alloc (.cells #[.int .i64 lv, .slice V nv cv, .slice H nh ch, .int .i64 sm] 120)).cell? ⟨wr.heap.size, 2, none⟩ = some (.slice H nh ch) := (b11.2 2 _ rfl).1
    have fa3_2 : (wr.alloc (.cells #[.int .i64 lv, .slice V nv cv, .slice H nh ch, .int .i64 sm] 120)).frozen? ⟨wr.heap.size, 2, none⟩ = false := (b11.2 2 _ rfl).2
    have ca3_3 : (wr.alloc (.cells #[.int .i64 lv, .slice V nv cv, .slice H nh ch, .int .i64 sm] 120)).cell? ⟨wr.heap.size, 3, none⟩ = some (.int .i64 sm) := (b11.2 3 _ rfl).1
    have fa3_3 : (wr.alloc (.cells #[.int .i64 lv, .slice V nv cv, .slice H nh ch, .int .i64 sm] 120)).frozen? ⟨wr.heap.size, 3, none⟩ = false := (b11.2 3 _ rfl).2
    go_wp2_with fail
    clear ca3_0 fa3_0 ca3_1 fa3_1 ca3_2 fa3_2 ca3_3 fa3_3
    clear hc0 hc1 hc2 hc3
    obtain ⟨W1, hX⟩ : ∃ u : World, u = (wr.alloc (.cells #[.int .i64 lv, .slice V nv cv, .slice H nh ch, .int .i64 sm] 120)) := ⟨_, rfl⟩
    have szX3 := hid (show W1.heap.size = wr.heap.size + 1 by rw [hX]; simp)
    rw [← hX] at b4
    rw [← hX] at b11
    rw [← hX] at kw
    rw [← hX] at hF
    rw [← hX] at hvv2
    rw [← hX] at hhh2
    rw [← hX]
    clear hX
    have sz5 := kw.size
    skip
    have hW1 : wr.heap.size + 1 ≤ W1.heap.size := by rw [szX3.out]; omega
    obtain ⟨GP, hGP⟩ : ∃ G, wr.heap.size = G := ⟨_, rfl⟩
    rw [hGP] at b11 hW1 lt3 ltF
    try rw [hGP]
    clear hGP szX3
    obtain ⟨ca4, fa4⟩ := id b4
    have cb0 := (b11.2 0 _ rfl).1
    have cb1 := (b11.2 1 _ rfl).1
    have cb2 := (b11.2 2 _ rfl).1
    have cb3 := (b11.2 3 _ rfl).1
    have kS := hid (show ∀ w', Keeps W1 w' → (w'.cell? ⟨w.heap.size, 0, none⟩ = some (.slice A a c0) ∧ w'.cell? ⟨GP, 0, none⟩ = some (.int .i64 lv) ∧ w'.cell? ⟨GP, 1, none⟩ = some (.slice V nv cv) ∧ w'.cell? ⟨GP, 2, none⟩ = some (.slice H nh ch) ∧ w'.cell? ⟨GP, 3, none⟩ = some (.int .i64 sm)) from fun w' k => ⟨cell_keeps ca4 k, cell_keeps cb0 k, cell_keeps cb1 k, cell_keeps cb2 k, cell_keeps cb3 k⟩)
    have kT := hid (show ∀ w', Keeps W1 w' → ∀ u0 u1 u2 u3 u4 : Value, ((((((w'.setCell ⟨w.heap.size + 1, k * 5, none⟩ u0).setCell ⟨w.heap.size + 1, k * 5 + 1, none⟩ u1).setCell ⟨w.heap.size + 1, k * 5 + 2, none⟩ u2).setCell ⟨w.heap.size + 1, k * 5 + 3, none⟩ u3).setCell ⟨w.heap.size + 1, k * 5 + 4, none⟩ u4).cell? ⟨w.heap.size, 0, none⟩ = some (.slice A a c0) ∧ (((((w'.setCell ⟨w.heap.size + 1, k * 5, none⟩ u0).setCell ⟨w.heap.size + 1, k * 5 + 1, none⟩ u1).setCell ⟨w.heap.size + 1, k * 5 + 2, none⟩ u2).setCell ⟨w.heap.size + 1, k * 5 + 3, none⟩ u3).setCell ⟨w.heap.size + 1, k * 5 + 4, none⟩ u4).cell? ⟨GP, 0, none⟩ = some (.int .i64 lv) ∧ (((((w'.setCell ⟨w.heap.size + 1, k * 5, none⟩ u0).setCell ⟨w.heap.size + 1, k * 5 + 1, none⟩ u1).setCell ⟨w.heap.size + 1, k * 5 + 2, none⟩ u2).setCell ⟨w.heap.size + 1, k * 5 + 3, none⟩ u3).setCell ⟨w.heap.size + 1, k * 5 + 4, none⟩ u4).cell? ⟨GP, 1, none⟩ = some (.slice V nv cv) ∧ (((((w'.setCell ⟨w.heap.size + 1, k * 5, none⟩ u0).setCell ⟨w.heap.size + 1, k * 5 + 1, none⟩ u1).setCell ⟨w.heap.size + 1, k * 5 + 2, none⟩ u2).setCell ⟨w.heap.size + 1, k * 5 + 3, none⟩ u3).setCell ⟨w.heap.size + 1, k * 5 + 4, none⟩ u4).cell? ⟨GP, 2, none⟩ = some (.slice H nh ch) ∧ (((((w'.setCell ⟨w.heap.size + 1, k * 5, none⟩ u0).setCell ⟨w.heap.size + 1, k * 5 + 1, none⟩ u1).setCell ⟨w.heap.size + 1, k * 5 + 2, none⟩ u2).setCell ⟨w.heap.size + 1, k * 5 + 3, none⟩ u3).setCell ⟨w.heap.size + 1, k * 5 + 4, none⟩ u4).cell? ⟨GP, 3, none⟩ = some (.int .i64 sm)) from fun w' k u0 u1 u2 u3 u4 => ⟨((World.cell?_setCell_other _ _ _ _ (by intro e; injection e with e _; omega)).trans ((World.cell?_setCell_other _ _ _ _ (by intro e; injection e with e _; omega)).trans ((World.cell?_setCell_other _ _ _ _ (by intro e; injection e with e _; omega)).trans ((World.cell?_setCell_other _ _ _ _ (by intro e; injection e with e _; omega)).trans ((World.cell?_setCell_other _ _ _ _ (by intro e; injection e with e _; omega)).trans (cell_keeps ca4 k)))))), ((World.cell?_setCell_other _ _ _ _ (by intro e; injection e with e _; omega)).trans ((World.cell?_setCell_other _ _ _ _ (by intro e; injection e with e _; omega)).trans ((World.cell?_setCell_other _ _ _ _ (by intro e; injection e with e _; omega)).trans ((World.cell?_setCell_other _ _ _ _ (by intro e; injection e with e _; omega)).trans ((World.cell?_setCell_other _ _ _ _ (by intro e; injection e with e _; omega)).trans (cell_keeps cb0 k)))))), ((World.cell?_setCell_other _ _ _ _ (by intro e; injection e with e _; omega)).trans ((World.cell?_setCell_other _ _ _ _ (by intro e; injection e with e _; omega)).trans ((World.cell?_setCell_other _ _ _ _ (by intro e; injection e with e _; omega)).trans ((World.cell?_setCell_other _ _ _ _ (by intro e; injection e with e _; omega)).trans ((World.cell?_setCell_other _ _ _ _ (by intro e; injection e with e _; omega)).trans (cell_keeps cb1 k)))))), ((World.cell?_setCell_other _ _ _ _ (by intro e; injection e with e _; omega)).trans ((World.cell?_setCell_other _ _ _ _ (by intro e; injection e with e _; omega)).trans ((World.cell?_setCell_other _ _ _ _ (by intro e; injection e with e _; omega)).trans ((World.cell?_setCell_other _ _ _ _ (by intro e; injection e with e _; omega)).trans ((World.cell?_setCell_other _ _ _ _ (by intro e; injection e with e _; omega)).trans (cell_keeps cb2 k)))))), ((World.cell?_setCell_other _ _ _ _ (by intro e; injection e with e _; omega)).trans ((World.cell?_setCell_other _ _ _ _ (by intro e; injection e with e _; omega)).trans ((World.cell?_setCell_other _ _ _ _ (by intro e; injection e with e _; omega)).trans ((World.cell?_setCell_other _ _ _ _ (by intro e; injection e with e _; omega)).trans ((World.cell?_setCell_other _ _ _ _ (by intro e; injection e with e _; omega)).trans (cell_keeps cb3 k))))))⟩)
    go_region_held3 (fun w' => w'.cell? ⟨w.heap.size, 0, none⟩ = some (.slice A a c0) ∧ w'.cell? ⟨GP, 0, none⟩ = some (.int .i64 lv) ∧ w'.cell? ⟨GP, 1, none⟩ = some (.slice V nv cv) ∧ w'.cell? ⟨GP, 2, none⟩ = some (.slice H nh ch) ∧ w'.cell? ⟨GP, 3, none⟩ = some (.int .i64 sm)) (first | with_reducible exact kS.out _ (keeps_d0 _) | with_reducible exact kS.out _ kW | with_reducible exact kT.out _ kW _ _ _ _ _ | go_keep)
      ((first | (go_at_call 96; refine (copyTable_tw (c1 := cv) (c2 := ch) (hvv2.keeps (keeps_d0 W1)) (hhh2.keeps (keeps_d0 W1))).mono ?_; rintro e wB ⟨A1, C1, A2, C2, rfl, tw, kB⟩; have kW : Keeps W1 wB := keeps_d kB; have sB := kW.size; replace tw : TwM wB W1.heap.size wB.heap.size A1 nv vs A2 nh ws := tw; clear kB) | (go_at_call 132; refine (tableOf_any (c0 := c0) (h.keeps (Keeps.trans kw kW)) (h'.keeps (Keeps.trans kw kW)) (hvv2.keeps kW) (hhh2.keeps kW) (hr.keeps (Keeps.trans kw kW)) HG.out HS.out HTK.out HSV.out).mono ?_; rintro e wC ⟨N1, K1, rfl, mk, kC⟩; have sC := kC.size; have th := TwM.three (w' := W1) (l := W1.heap.size) (h' := wC.heap.size) (tw.keeps kC) mk (by omega) (by omega) (by omega) (by omega) (by omega) (Nat.le_refl _); replace kW : Keeps W1 wC := kW.trans kC; have F9 := hF.keeps RwP.ok kW; have hl5 := F9.len; have hm5 := Nat.mul_le_mul_right 5 (show k + 1 ≤ n from hlt); rw [Nat.succ_mul] at hm5; have d0 := F9.own.cell (k * 5) (by omega); have f0 := F9.own.frozen (k * 5); have d1 := F9.own.cell (k * 5 + 1) (by omega); have f1 := F9.own.frozen (k * 5 + 1); have d2 := F9.own.cell (k * 5 + 2) (by omega); have f2 := F9.own.frozen (k * 5 + 2); have d3 := F9.own.cell (k * 5 + 3) (by omega); have f3 := F9.own.frozen (k * 5 + 3); have d4 := F9.own.cell (k * 5 + 4) (by omega); have f4 := F9.own.frozen (k * 5 + 4); clear hl5 hm5; clear kC tw)))
    have FP := hid (hF.pub hlt kW ((HPA.out k hlt).trans (by rw [← HX.out])) hnv.out hnh.out mk.1.1 (cv := C1) (ch := C2) (ck := N1) th)
    have N4 := hid (show B1 (((((wC.setCell ⟨w.heap.size + 1, k * 5, none⟩ (.int .i64 lv)).setCell ⟨w.heap.size + 1, k * 5 + 1, none⟩ (.slice A1 nv C1)).setCell ⟨w.heap.size + 1, k * 5 + 2, none⟩ (.slice A2 nh C2)).setCell ⟨w.heap.size + 1, k * 5 + 3, none⟩ (.int .i64 sm)).setCell ⟨w.heap.size + 1, k * 5 + 4, none⟩ (.slice K1 N1 N1)) w.heap.size (.slice A a c0) from (((((b4.keeps kW).far (p := ⟨w.heap.size + 1, k * 5, none⟩) (by show w.heap.size ≠ w.heap.size + 1; omega) _).far (p := ⟨w.heap.size + 1, k * 5 + 1, none⟩) (by show w.heap.size ≠ w.heap.size + 1; omega) _).far (p := ⟨w.heap.size + 1, k * 5 + 2, none⟩) (by show w.heap.size ≠ w.heap.size + 1; omega) _).far (p := ⟨w.heap.size + 1, k * 5 + 3, none⟩) (by show w.heap.size ≠ w.heap.size + 1; omega) _).far (p := ⟨w.heap.size + 1, k * 5 + 4, none⟩) (by show w.heap.size ≠ w.heap.size + 1; omega) _)
    have N5 := hid (show Keeps w (((((wC.setCell ⟨w.heap.size + 1, k * 5, none⟩ (.int .i64 lv)).setCell ⟨w.heap.size + 1, k * 5 + 1, none⟩ (.slice A1 nv C1)).setCell ⟨w.heap.size + 1, k * 5 + 2, none⟩ (.slice A2 nh C2)).setCell ⟨w.heap.size + 1, k * 5 + 3, none⟩ (.int .i64 sm)).setCell ⟨w.heap.size + 1, k * 5 + 4, none⟩ (.slice K1 N1 N1)) from (Below.setCell (Below.setCell (Below.setCell (Below.setCell (Below.setCell (Keeps.trans kw kW) (p := ⟨w.heap.size + 1, k * 5, none⟩) (Nat.le_succ _) _) (p := ⟨w.heap.size + 1, k * 5 + 1, none⟩) (Nat.le_succ _) _) (p := ⟨w.heap.size + 1, k * 5 + 2, none⟩) (Nat.le_succ _) _) (p := ⟨w.heap.size + 1, k * 5 + 3, none⟩) (Nat.le_succ _) _) (p := ⟨w.heap.size + 1, k * 5 + 4, none⟩) (Nat.le_succ _) _))
    obtain ⟨cs2, L2, U2, F2⟩ := FP.out
    have N6 := hid F2
    clear FP F2 F9 kS kT ca4 fa4 cb0 cb1 cb2 cb3 hF mk th kW b4 b11 kw d0 d1 d2 d3 d4 f0 f1 f2 f3 f4
    go_wp2_with fail
    go_roundw
    case rel => exact ⟨k + 1, cs2, L2, U2, by omega, by go_num, N6.out, N4.out, N5.out⟩
    case measure => simp [intOf]; omega
set_option maxRecDepth 100000 in
set_option maxHeartbeats 3200000 in
theorem implPublishTables_any {A A' R Q : Option Addr} {lo hi a c0 lo3 hi3 lo4 hi4 lo9 hi9 n c q r cr : Nat} {un : Bool} {ps : List Int} {l : List VV} {rs : List RR} {ts : List TT} {w : World} (h : Ints w lo hi A a ps) (hz : Vars w lo9 hi9 A' q l) (ok : NamesOk l) (hr : Recs w lo4 hi4 R r rs) (ht : Tabs true un w lo3 hi3 Q n ts) :
    Calls Tryz.prog 29 #[.agg #[.slice A a c0], .slice A' q q, .slice R r cr, .slice Q n c] w (PbRes w (pbQ ps l rs ts)) := by
  have hq := hz.le
  have h' : Sch w A' q q l := ⟨⟨_, _, hz⟩, ok, Nat.le_refl _, by unfold maxLen; omega⟩
  have HTL := hid ht.len
  have hn := ht.le
  obtain ⟨z, HZ⟩ : ∃ z, Hid (pbQ ps l rs ts = z) := ⟨_, rfl⟩
  rw [HZ.out]
  have HNO := hid (fun (e : pbB ps l rs ts = false) => HZ.out.symm.trans (pbQ_no e))
  go_enter Tryz.func29, Tryz.ntmps29
  have kw := keeps_refl w
  replace kw := Keeps.trans kw (keeps_alloc w (.cells #[.slice A a c0] 26))
  have b4 : B1 (w.alloc (.cells #[.slice A a c0] 26)) w.heap.size (.slice A a c0) := B1.new' (by simp)
  obtain ⟨ca1, fa1⟩ := id b4
  go_wp2_with fail
  clear ca1 fa1
  obtain ⟨pH0, H0⟩ : ∃ pB, Hid ((geoB ps && schB l && plB ps l ts) = pB) := ⟨_, rfl⟩
  refine (areTables_any (h.keeps kw) (h'.keeps kw) (ht.keeps kw)).mono ?_
  rintro e w2 ⟨rfl, k2⟩
  rw [H0.out]
  replace b4 := b4.keeps k2
  replace kw := Keeps.trans kw k2
  have lt3 := b4.lt
  have sz4 := kw.size
  clear k2
  cases pH0
  · have HY := hid (HNO.out (by have := H0.out; unfold pbB; cases hA : geoB ps <;> cases hB : schB l <;> cases hC : plB ps l ts <;> simp_all))
    obtain ⟨ca5, fa5⟩ := id b4
    go_wp2_with fail
    clear ca5 fa5
    go_ret2
    exact PbRes.no HY.out kw
  · skip
    have H3 := H0.out
    simp only [Bool.and_eq_true] at H3
    have HG := hid H3.1.1
    have HS := hid H3.1.2
    have HP := hid H3.2
    clear H3
    obtain ⟨ca5, fa5⟩ := id b4
    go_wp2_with fail
    clear ca5 fa5
    obtain ⟨pH1, H1⟩ : ∃ pB, Hid (survB ps l rs = pB) := ⟨_, rfl⟩
    refine (isSurvey_any (h.keeps kw) (h'.keeps kw) (hr.keeps kw) HG.out HS.out).mono ?_
    rintro e w6 ⟨rfl, k6⟩
    rw [H1.out]
    replace b4 := b4.keeps k6
    replace kw := Keeps.trans kw k6
    have lt7 := b4.lt
    have sz8 := kw.size
    clear k6
    cases pH1
    · have HY := hid (HNO.out (by unfold pbB; rw [H1.out]; simp))
      obtain ⟨ca9, fa9⟩ := id b4
      go_wp2_with fail
      clear ca9 fa9
      go_ret2
      exact PbRes.no HY.out kw
    · skip
      have HY := hid (HZ.out.symm.trans (pbQ_yes (show pbB ps l rs ts = true by unfold pbB; rw [HG.out, HS.out, H1.out, HP.out]; rfl)))
      clear HNO
      obtain ⟨ca9, fa9⟩ := id b4
      go_wp2_with fail
      clear ca9 fa9
      refine (publishTables_any (h.keeps kw) (h'.keeps kw) (hr.keeps kw) (ht.keeps kw) HG.out HS.out H1.out HP.out).mono ?_
      rintro e w9 ⟨P, rfl, hP, k9⟩
      have s9 := kw.size
      have s8 := k9.size
      have HM := hid (hP.widen (lo' := w.heap.size) (by omega) (Nat.le_refl _) (Nat.le_refl _))
      clear hP s8 s9
      replace b4 := b4.keeps k9
      replace kw := Keeps.trans kw k9
      have lt10 := b4.lt
      have sz11 := kw.size
      clear k9
      obtain ⟨ca12, fa12⟩ := id b4
      go_wp2_with fail
      clear ca12 fa12
      go_ret2
      exact (show PbRes w z _ _ from by rw [HY.out]; exact ⟨_, _, _, rfl, HM.out, kw⟩)
/-- A row more is appended, in a region that draws its order. -/
theorem step_append_row {W0 : World} {ops : Array Oper} {o : Oper} {a : Act} {K : Act → World → Prop} {Q : Exit → Act → World → Prop} {E' : Prop} {α : Type} {sz : Nat} {z a0 : α} {Rw : RowP α} {B E Ty x yb : Nat} {zr v : Value} {cs new : List Value} {L U : Nat → Nat} {l : List α}
    (hinfo : (Tryz.prog.info? E).map (fun i => (i.zero, i.size, i.bytes)) = some (some zr, sz, yb)) (hzs : zr.cells.size = sz) (hsz : 0 < sz) (hyb : yb ≤ 1000)
    (ok : RwOk Rw) (hG : GrowC sz z Rw W0 B E v cs L U l) (hn : l.length ≤ 67108864) (hB : B ≤ W0.heap.size) (hnew : new.length = sz) (h1 : ∀ y ∈ new, y.oneCell' = true)
    (hxB : B ≤ x) (hU : ∀ j, j < l.length → U j ≤ x) (hv : ∀ g, v.ownBlock = some g → g < x) (hr : Rw W0 x W0.heap.size (fun i => new.getD i undef) a0)
    (s x9 : Operand) (hgd : o.guard = none) (ho : o.op = .call { callee := .builtin .append, args := #[s, x9], argTypes := #[Ty, Ty] }) (ht : Tryz.prog.underlying Ty = some (.slice E))
    (hs : a.eval s = v) (hx : a.eval x9 = .slice (some ⟨W0.heap.size, 0, none⟩) 1 1)
    (h : ∀ v' w' cs' L' U', GrowC sz z Rw w' B E v' cs' L' U' (l ++ [a0]) → W0.grownBy w' v.ownBlock → K (a.put o.dst v') w') :
    if Region.wanted o (yielded ops a.tmps) = true then Oper.wp Tryz.prog o a (W0.alloc (.cells new.toArray E)) K Q else E' := by
  have hw : Region.wanted o (yielded ops a.tmps) = true := by simp [Region.wanted, hgd]
  rw [if_pos hw]
  obtain ⟨i, hi, hz0, hz1, hz2⟩ := info_parts hinfo
  have hbytes : (l.length + 1) * yb ≤ 140737488355328 := Nat.le_trans (Nat.mul_le_mul (show l.length + 1 ≤ 67108865 by omega) hyb) (by decide)
  obtain ⟨v', w', hq, h2, h3, _, h5⟩ := run_append_own_at (P := Tryz.prog) (W0.alloc (.cells new.toArray E)) B Ty o.type E i zr sz yb ht hi hz0 hz1 hz2 hzs hsz v l.length cs (hG.has.alloc _) ⟨W0.heap.size, 0, none⟩ 1 1 new (by rw [hnew, Nat.one_mul]) (fun j u hu => by rw [Addr.add_lit, Nat.zero_add, cell_of_row _ _ _ _ _ _ (heap_alloc_new W0 _)]; simpa using hu) h1 (by unfold maxLen; omega) hbytes (by simp; omega)
  have hg : W0.grownBy w' v.ownBlock := ⟨h3.os, h3.tape, h3.output, by have := h3.size; simp at this; omega, fun k hk hne => by rw [h3.block k (by simp; omega) hne]; exact heap_alloc_old W0 _ hk⟩
  unfold Oper.wp
  simp [execOp, ho, resolve, invoke, builtin, hs, hx, hq, Result.andThen]
  exact h v' w' _ _ _ (hG.snoc ok hnew h2 hg (by simpa using h5) hxB (Nat.le_refl _) hU (fun g e => .inl (hv g e)) hr) hg
theorem TwM.of_parts {w : World} {lo l1 h1 l2 h2 n1 n2 : Nat} {A1 A2 : Option Addr} {xs ys : List Int} (m1 : Mine w l1 h1 A1 n1 xs) (m2 : Mine w l2 h2 A2 n2 ys) (e1 : lo ≤ l1) (e2 : lo ≤ l2) (d : h1 ≤ l2 ∨ h2 ≤ l1) (t1 : h1 ≤ w.heap.size) (t2 : h2 ≤ w.heap.size) : TwM w lo w.heap.size A1 n1 xs A2 n2 ys :=
  ⟨Nat.le_refl _, l1, h1, l2, h2, e1, t1, e2, t2, d, m1, m2⟩
/-- A table of one's own in a box of its own. -/
structure OwT (W : World) (lv sm : Int) (nv nh : Nat) (vs ws : List Int) (s : Value) (w' : World) : Prop where
  ex : ∃ g V1 d1 H1 d2, s = .pointer (some ⟨g, 0, none⟩) ∧ Bl w' g [.int .i64 lv, .slice V1 nv d1, .slice H1 nh d2, .int .i64 sm] ∧ TwM w' W.heap.size w'.heap.size V1 nv vs H1 nh ws ∧ W.heap.size ≤ g ∧ Keeps W w'

set_option maxRecDepth 100000 in
set_option maxHeartbeats 12800000 in
theorem specPublishTables_any {A A' R Q : Option Addr} {lo hi a c0 lo3 hi3 lo4 hi4 lo9 hi9 n c q r cr : Nat} {un : Bool} {ps : List Int} {l : List VV} {rs : List RR} {ts : List TT} {w : World} (h : Ints w lo hi A a ps) (hz : Vars w lo9 hi9 A' q l) (ok : NamesOk l) (hr : Recs w lo4 hi4 R r rs) (ht : Tabs true un w lo3 hi3 Q n ts) :
    Calls Tryz.prog 24 #[.agg #[.slice A a c0], .slice A' q q, .slice R r cr, .slice Q n c] w (PbRes w (pbQ ps l rs ts)) := by
  have hq := hz.le
  have h' : Sch w A' q q l := ⟨⟨_, _, hz⟩, ok, Nat.le_refl _, by unfold maxLen; omega⟩
  have HTL := hid ht.len
  have hn := ht.le
  obtain ⟨z, HZ⟩ : ∃ z, Hid (pbQ ps l rs ts = z) := ⟨_, rfl⟩
  rw [HZ.out]
  have HNO := hid (fun (e : pbB ps l rs ts = false) => HZ.out.symm.trans (pbQ_no e))
  have HPT := hid (fun k (hk : k < n) => pbL_take (ps := ps) (l := l) (rs := rs) (ts := ts) (k := k) (by rw [ht.len]; exact hk))
  have HPN := hid ((pbL_len ps l rs ts).trans ht.len)
  have info_pub : (Tryz.prog.info? 125).map (fun i => (i.zero, i.size, i.bytes)) = some (some (.agg #[.int .i64 0, .slice none 0 0, .slice none 0 0, .int .i64 0, .slice none 0 0]), 5, 88) := by kernel_rfl
  have HIP := hid info_pub
  clear info_pub
  go_enter Tryz.func24, Tryz.ntmps24
  have kw := keeps_refl w
  replace kw := Keeps.trans kw (keeps_alloc w (.cells #[.slice A a c0] 26))
  have b4 : B1 (w.alloc (.cells #[.slice A a c0] 26)) w.heap.size (.slice A a c0) := B1.new' (by simp)
  obtain ⟨ca1, fa1⟩ := id b4
  go_wp2_with fail
  clear ca1 fa1
  obtain ⟨b, HB⟩ : ∃ b, Hid ((geoB ps && schB l) = b) := ⟨_, rfl⟩
  cases b
  · refine (uSurvey_bad (h.keeps kw) (h'.keeps kw) HB.out).mono ?_
    rintro e w2 ⟨rfl, k2⟩
    replace b4 := b4.keeps k2
    replace kw := Keeps.trans kw k2
    have lt3 := b4.lt
    have sz4 := kw.size
    clear k2
    have HY := hid (HNO.out (by unfold pbB; rw [HB.out]; rfl))
    obtain ⟨ca5, fa5⟩ := id b4
    go_wp2_with fail
    clear ca5 fa5
    go_ret2
    exact PbRes.no HY.out kw
  have hgs : geoB ps = true ∧ schB l = true := by have := HB.out; simpa only [Bool.and_eq_true] using this
  have HG := hid hgs.1
  have HS := hid hgs.2
  clear hgs
  obtain ⟨pH1, H1⟩ : ∃ pB, Hid (survB ps l rs = pB) := ⟨_, rfl⟩
  refine (uSurvey_any (h.keeps kw) (h'.keeps kw) (hr.keeps kw) HG.out HS.out).mono ?_
  rintro e w2 ⟨rfl, k2⟩
  rw [H1.out]
  replace b4 := b4.keeps k2
  replace kw := Keeps.trans kw k2
  have lt3 := b4.lt
  have sz4 := kw.size
  clear k2
  cases pH1
  · have HY := hid (HNO.out (by unfold pbB; rw [H1.out]; simp))
    obtain ⟨ca5, fa5⟩ := id b4
    go_wp2_with fail
    clear ca5 fa5
    go_ret2
    exact PbRes.no HY.out kw
  · skip
    by_cases h20 : n ≤ 20
    rotate_left
    · have h21 : (n : Int) > 20 := by omega
      have HPL := hid (plB_len (ps := ps) (l := l) (ts := ts) (by rw [HTL.out]; exact h20))
      clear h20
      have HY := hid (HNO.out (by unfold pbB; rw [HPL.out]; simp))
      obtain ⟨ca5, fa5⟩ := id b4
      go_wp2_with fail
      clear ca5 fa5
      go_ret2
      exact PbRes.no HY.out kw
    have h21 : ¬ (n : Int) > 20 := by omega
    obtain ⟨ca5, fa5⟩ := id b4
    go_wp2_with fail
    clear ca5 fa5
    have F0 := GrowC.nil (sz := 5) (z := p0) (R := RwP) w2 (w.heap.size + 1) 125
    go_loopw [10, 26] (fun sv i wr => ∃ (k : Nat) (vq : Value) (cs : List Value) (L U : Nat → Nat), vq = sv ∧ i = .int .i64 k ∧ k ≤ n ∧ Hid (plTo ps l ts k = true) ∧ GrowC 5 p0 RwP wr (w.heap.size + 1) 125 vq cs L U ((pbL ps l rs ts).take k) ∧ B1 wr w.heap.size (.slice A a c0) ∧ Keeps w wr) (fun _ i _ => n - (intOf i).toNat)
    case atStart => exact ⟨0, _, _, _, _, rfl, rfl, Nat.zero_le _, hid rfl, F0, b4, kw⟩
    clear F0 b4 kw
    case round =>
      obtain ⟨k, vq, cs, L, U, rfl, rfl, hk, HTO, hF, b4, kw⟩ := hrel
      have lb4 := b4.lt
      by_cases hlt : k < n
      rotate_left
      · obtain rfl : k = n := by omega
        rw [List.take_of_length_le (by rw [HPN.out]; exact Nat.le_refl _)] at hF
        obtain ⟨P, cP, rfl, hM⟩ := hF.rowsM (by rw [HPN.out]; exact hn) (by omega)
        rw [HPN.out] at hM
        rw [HPN.out]
        have HM := hid (RowsM.widen (lo' := w.heap.size) hM (by omega) (Nat.le_refl _) (Nat.le_refl _))
        clear hM hF
        have HY := hid (HZ.out.symm.trans (pbQ_yes (show pbB ps l rs ts = true by unfold pbB; rw [HG.out, HS.out, H1.out, plB_yes HTL.out h20 HTO.out]; rfl)))
        clear HNO
        go_wp2
        go_ret2
        exact (show PbRes w z _ _ from by rw [HY.out]; exact ⟨_, _, _, rfl, HM.out, kw⟩)
      obtain ⟨b, off, lv, V, nv, cv, H, nh, ch, sm, vs, ws, rfl, _, _, hc0, hc1, hc2, hc3, hvv, hhh, hx⟩ := (ht.keeps kw).at_ hlt
      have hi1 : (k : Int) < (n : Int) := by omega
      have HX := hid hx.out
      have hnv := hid hvv.1
      have hnh := hid hhh.1
      clear hx
      have kr := keeps_refl wr
      have lr := hid hF.has.lt
      replace b4 := b4.keeps (keeps_alloc wr (.cells #[.int .i64 lv, .slice V nv cv, .slice H nh ch, .int .i64 sm] 120))
      replace kw := Keeps.trans kw (keeps_alloc wr (.cells #[.int .i64 lv, .slice V nv cv, .slice H nh ch, .int .i64 sm] 120))
      replace kr := Keeps.trans kr (keeps_alloc wr (.cells #[.int .i64 lv, .slice V nv cv, .slice H nh ch, .int .i64 sm] 120))
      have b12 : Bl (wr.alloc (.cells #[.int .i64 lv, .slice V nv cv, .slice H nh ch, .int .i64 sm] 120)) wr.heap.size [.int .i64 lv, .slice V nv cv, .slice H nh ch, .int .i64 sm] := Bl.new' (by simp) (by simp)
      obtain ⟨ca6, fa6⟩ := id b4
      have ca7_0 : (wr.alloc (.cells #[.int .i64 lv, .slice V nv cv, .slice H nh ch, .int .i64 sm] 120)).cell? ⟨wr.heap.size, 0, none⟩ = some (.int .i64 lv) := (b12.2 0 _ rfl).1
      have fa7_0 : (wr.alloc (.cells #[.int .i64 lv, .slice V nv cv, .slice H nh ch, .int .i64 sm] 120)).frozen? ⟨wr.heap.size, 0, none⟩ = false := (b12.2 0 _ rfl).2
      have ca7_1 : (wr.alloc (.cells #[.int .i64 lv, .slice V nv cv, .slice H nh ch, .int .i64 sm] 120)).cell? ⟨wr.heap.size, 1, none⟩ = some (.slice V nv cv) := (b12.2 1 _ rfl).1
      have fa7_1 : (wr.alloc (.cells #[.int .i64 lv, .slice V nv cv, .slice H nh ch, .int .i64 sm] 120)).frozen? ⟨wr.heap.size, 1, none⟩ = false := (b12.2 1 _ rfl).2
      have ca7_2 : (wr.alloc (.cells #[.int .i64 lv, .slice V nv cv, .slice H nh ch, .int .i64 sm] 120)).cell? ⟨wr.heap.size, 2, none⟩ = some (.slice H nh ch) := (b12.2 2 _ rfl).1
      have fa7_2 : (wr.alloc (.cells #[.int .i64 lv, .slice V nv cv, .slice H nh ch, .int .i64 sm] 120)).frozen? ⟨wr.heap.size, 2, none⟩ = false := (b12.2 2 _ rfl).2
      have ca7_3 : (wr.alloc (.cells #[.int .i64 lv, .slice V nv cv, .slice H nh ch, .int .i64 sm] 120)).cell? ⟨wr.heap.size, 3, none⟩ = some (.int .i64 sm) := (b12.2 3 _ rfl).1
      have fa7_3 : (wr.alloc (.cells #[.int .i64 lv, .slice V nv cv, .slice H nh ch, .int .i64 sm] 120)).frozen? ⟨wr.heap.size, 3, none⟩ = false := (b12.2 3 _ rfl).2
      go_wp2_with fail
      clear ca6 fa6 ca7_0 fa7_0 ca7_1 fa7_1 ca7_2 fa7_2 ca7_3 fa7_3
      clear hc0 hc1 hc2 hc3
      obtain ⟨pHK, HK⟩ : ∃ pB, Hid (tabB ps l (lv, vs, ws, sm) = pB) := ⟨_, rfl⟩
      refine (uGood_any (c0 := c0) (h.keeps kw) (h'.keeps kw) (hvv.keeps kr) (hhh.keeps kr) HG.out HS.out).mono ?_
      rintro e w8 ⟨rfl, k8⟩
      rw [HK.out]
      replace b4 := b4.keeps k8
      replace b12 := b12.keeps k8
      replace kw := Keeps.trans kw k8
      replace kr := Keeps.trans kr k8
      have lt9 := b12.lt
      have sz10 := kw.size
      have sz11 := kr.size
      clear k8
      cases pHK
      · have HT9 := hid (plB_no HTL.out hlt (show tabB ps l (ts.getD k t0) = false by rw [← HX.out]; exact HK.out))
        have HY := hid (HNO.out (by unfold pbB; rw [HT9.out]; simp))
        obtain ⟨ca12, fa12⟩ := id b4
        have ca13_0 : w8.cell? ⟨wr.heap.size, 0, none⟩ = some (.int .i64 lv) := (b12.2 0 _ rfl).1
        have fa13_0 : w8.frozen? ⟨wr.heap.size, 0, none⟩ = false := (b12.2 0 _ rfl).2
        have ca13_1 : w8.cell? ⟨wr.heap.size, 1, none⟩ = some (.slice V nv cv) := (b12.2 1 _ rfl).1
        have fa13_1 : w8.frozen? ⟨wr.heap.size, 1, none⟩ = false := (b12.2 1 _ rfl).2
        have ca13_2 : w8.cell? ⟨wr.heap.size, 2, none⟩ = some (.slice H nh ch) := (b12.2 2 _ rfl).1
        have fa13_2 : w8.frozen? ⟨wr.heap.size, 2, none⟩ = false := (b12.2 2 _ rfl).2
        have ca13_3 : w8.cell? ⟨wr.heap.size, 3, none⟩ = some (.int .i64 sm) := (b12.2 3 _ rfl).1
        have fa13_3 : w8.frozen? ⟨wr.heap.size, 3, none⟩ = false := (b12.2 3 _ rfl).2
        go_wp2_with fail
        clear ca12 fa12 ca13_0 fa13_0 ca13_1 fa13_1 ca13_2 fa13_2 ca13_3 fa13_3
        go_ret2
        exact PbRes.no HY.out kw
      · skip
        obtain ⟨ca12, fa12⟩ := id b4
        have ca13_0 : w8.cell? ⟨wr.heap.size, 0, none⟩ = some (.int .i64 lv) := (b12.2 0 _ rfl).1
        have fa13_0 : w8.frozen? ⟨wr.heap.size, 0, none⟩ = false := (b12.2 0 _ rfl).2
        have ca13_1 : w8.cell? ⟨wr.heap.size, 1, none⟩ = some (.slice V nv cv) := (b12.2 1 _ rfl).1
        have fa13_1 : w8.frozen? ⟨wr.heap.size, 1, none⟩ = false := (b12.2 1 _ rfl).2
        have ca13_2 : w8.cell? ⟨wr.heap.size, 2, none⟩ = some (.slice H nh ch) := (b12.2 2 _ rfl).1
        have fa13_2 : w8.frozen? ⟨wr.heap.size, 2, none⟩ = false := (b12.2 2 _ rfl).2
        have ca13_3 : w8.cell? ⟨wr.heap.size, 3, none⟩ = some (.int .i64 sm) := (b12.2 3 _ rfl).1
        have fa13_3 : w8.frozen? ⟨wr.heap.size, 3, none⟩ = false := (b12.2 3 _ rfl).2
        go_wp2_with fail
        clear ca12 fa12 ca13_0 fa13_0 ca13_1 fa13_1 ca13_2 fa13_2 ca13_3 fa13_3
        clear HNO HZ
        have sW := kr.size
        obtain ⟨W, hWW⟩ : ∃ x : World, x = w8 := ⟨_, rfl⟩
        rw [← hWW] at b4 b12 kw kr sW
        rw [← hWW]
        clear hWW
        have l12 := b12.lt
        have kS := hid (show ∀ w', Keeps W w' → (w'.cell? ⟨wr.heap.size, 0, none⟩ = some (.int .i64 lv) ∧ w'.cell? ⟨wr.heap.size, 1, none⟩ = some (.slice V nv cv) ∧ w'.cell? ⟨wr.heap.size, 2, none⟩ = some (.slice H nh ch) ∧ w'.cell? ⟨wr.heap.size, 3, none⟩ = some (.int .i64 sm)) from fun w' k => ⟨((b12.keeps k).2 0 _ rfl).1, ((b12.keeps k).2 1 _ rfl).1, ((b12.keeps k).2 2 _ rfl).1, ((b12.keeps k).2 3 _ rfl).1⟩)
        go_cut [13] (fun s13 wq => ∃ wy, wy = wq ∧ OwT W lv sm nv nh vs ws s13 wy)
        case first =>
          go_region_held3 (fun w' => w'.cell? ⟨wr.heap.size, 0, none⟩ = some (.int .i64 lv) ∧ w'.cell? ⟨wr.heap.size, 1, none⟩ = some (.slice V nv cv) ∧ w'.cell? ⟨wr.heap.size, 2, none⟩ = some (.slice H nh ch) ∧ w'.cell? ⟨wr.heap.size, 3, none⟩ = some (.int .i64 sm)) (exact kS.out _ (by (repeat (first | with_reducible exact kB | with_reducible exact kA | with_reducible exact keeps_refl _ | with_reducible refine keeps_dr ?_ | with_reducible refine keeps_al ?_ | ((with_reducible refine keeps_s4 ?_ ?_); rotate_left; omega)))))
            ((first | (have nd := kkA; clear nd; go_at_call 72; refine calls_at ?_; intro XB hX; (first | (have sXB : XB.heap.size = wA.heap.size + 1 := nsz1 hX; have kqB : Keeps wA XB := kx1 hX; have kX : Keeps W XB := kA.trans kqB; have bX1 : Bl XB wA.heap.size [.int .i64 0, .slice none 0 0, .slice none 0 0, .int .i64 0] := nb1 hX; (try (have bX0 : Bl XB W.heap.size [.int .i64 0, .slice none 0 0, .slice none 0 0, .int .i64 0] := ob1 hX zA0; clear c_zA00 f_zA00 c_zA01 f_zA01 c_zA02 f_zA02 c_zA03 f_zA03 zA0 l_zA0))) | (have sXB : XB.heap.size = wA.heap.size + 0 := nsz0 hX; have kqB : Keeps wA XB := kx0 hX; have kX : Keeps W XB := kA.trans kqB; (try (have bX0 : Bl XB W.heap.size [.int .i64 0, .slice none 0 0, .slice none 0 0, .int .i64 0] := ob0 hX zA0; clear c_zA00 f_zA00 c_zA01 f_zA01 c_zA02 f_zA02 c_zA03 f_zA03 zA0 l_zA0))) | fail); have HXB := hid hX; clear hX; (first | ((with_reducible refine Calls.mono (l1Own_cp (c := cv) (hvv.keeps (Keeps.trans kr kX))) ?_); rintro e9 wB ⟨V1_, d1a, rfl, m1, kkB⟩) | ((with_reducible refine Calls.mono (l1Own_cp (c := ch) (hhh.keeps (Keeps.trans kr kX))) ?_); rintro e9 wB ⟨H1_, d1b, rfl, m2, kkB⟩) | fail); have kB := kX.trans kkB; have slB := kkB.size; clear kX; (try (have zB0 := bX0.keeps kkB; clear bX0; have l_zB0 : W.heap.size < wB.heap.size := zB0.lt; have c_zB00 : wB.cell? ⟨W.heap.size, 0, none⟩ = some (.int .i64 0) := (zB0.2 0 _ rfl).1; have f_zB00 : wB.frozen? ⟨W.heap.size, 0, none⟩ = false := (zB0.2 0 _ rfl).2; have c_zB01 : wB.cell? ⟨W.heap.size, 1, none⟩ = some (.slice none 0 0) := (zB0.2 1 _ rfl).1; have f_zB01 : wB.frozen? ⟨W.heap.size, 1, none⟩ = false := (zB0.2 1 _ rfl).2; have c_zB02 : wB.cell? ⟨W.heap.size, 2, none⟩ = some (.slice none 0 0) := (zB0.2 2 _ rfl).1; have f_zB02 : wB.frozen? ⟨W.heap.size, 2, none⟩ = false := (zB0.2 2 _ rfl).2; have c_zB03 : wB.cell? ⟨W.heap.size, 3, none⟩ = some (.int .i64 0) := (zB0.2 3 _ rfl).1; have f_zB03 : wB.frozen? ⟨W.heap.size, 3, none⟩ = false := (zB0.2 3 _ rfl).2)); (try (have zB1 := bX1.keeps kkB; clear bX1; have l_zB1 : wA.heap.size < wB.heap.size := zB1.lt; have c_zB10 : wB.cell? ⟨wA.heap.size, 0, none⟩ = some (.int .i64 0) := (zB1.2 0 _ rfl).1; have f_zB10 : wB.frozen? ⟨wA.heap.size, 0, none⟩ = false := (zB1.2 0 _ rfl).2; have c_zB11 : wB.cell? ⟨wA.heap.size, 1, none⟩ = some (.slice none 0 0) := (zB1.2 1 _ rfl).1; have f_zB11 : wB.frozen? ⟨wA.heap.size, 1, none⟩ = false := (zB1.2 1 _ rfl).2; have c_zB12 : wB.cell? ⟨wA.heap.size, 2, none⟩ = some (.slice none 0 0) := (zB1.2 2 _ rfl).1; have f_zB12 : wB.frozen? ⟨wA.heap.size, 2, none⟩ = false := (zB1.2 2 _ rfl).2; have c_zB13 : wB.cell? ⟨wA.heap.size, 3, none⟩ = some (.int .i64 0) := (zB1.2 3 _ rfl).1; have f_zB13 : wB.frozen? ⟨wA.heap.size, 3, none⟩ = false := (zB1.2 3 _ rfl).2)); have kAB : Keeps wA wB := kqB.trans kkB; have HM : ∃ l1 h1 l2 h2, Mine wB l1 h1 V1_ nv vs ∧ Mine wB l2 h2 H1_ nh ws ∧ ((l1 = XA.heap.size ∧ h1 = wA.heap.size ∧ l2 = XB.heap.size ∧ h2 = wB.heap.size) ∨ (l2 = XA.heap.size ∧ h2 = wA.heap.size ∧ l1 = XB.heap.size ∧ h1 = wB.heap.size)) := (by first | exact ⟨_, _, _, _, m1.keeps kAB, m2, .inl ⟨rfl, rfl, rfl, rfl⟩⟩ | exact ⟨_, _, _, _, m1, m2.keeps kAB, .inr ⟨rfl, rfl, rfl, rfl⟩⟩); clear m1 m2 kAB; obtain ⟨l1_, h1_, l2_, h2_, m1, m2, hd_⟩ := HM) | (go_at_call 72; refine calls_at ?_; intro XA hX; (first | (have sXA : XA.heap.size = W.heap.size + 1 := nsz1d hX; have kqA : Keeps W XA := kx1d hX; have kX : Keeps W XA := kqA; have bX0 : Bl XA W.heap.size [.int .i64 0, .slice none 0 0, .slice none 0 0, .int .i64 0] := nb1d hX) | (have sXA : XA.heap.size = W.heap.size + 0 := nsz0d hX; have kqA : Keeps W XA := kx0d hX; have kX : Keeps W XA := kqA) | fail); have HXA := hid hX; clear hX; (first | ((with_reducible refine Calls.mono (l1Own_cp (c := cv) (hvv.keeps (Keeps.trans kr kX))) ?_); rintro e9 wA ⟨V1_, d1a, rfl, m1, kkA⟩) | ((with_reducible refine Calls.mono (l1Own_cp (c := ch) (hhh.keeps (Keeps.trans kr kX))) ?_); rintro e9 wA ⟨H1_, d1b, rfl, m2, kkA⟩) | fail); have kA := kX.trans kkA; have slA := kkA.size; clear kX; (try (have zA0 := bX0.keeps kkA; clear bX0; have l_zA0 : W.heap.size < wA.heap.size := zA0.lt; have c_zA00 : wA.cell? ⟨W.heap.size, 0, none⟩ = some (.int .i64 0) := (zA0.2 0 _ rfl).1; have f_zA00 : wA.frozen? ⟨W.heap.size, 0, none⟩ = false := (zA0.2 0 _ rfl).2; have c_zA01 : wA.cell? ⟨W.heap.size, 1, none⟩ = some (.slice none 0 0) := (zA0.2 1 _ rfl).1; have f_zA01 : wA.frozen? ⟨W.heap.size, 1, none⟩ = false := (zA0.2 1 _ rfl).2; have c_zA02 : wA.cell? ⟨W.heap.size, 2, none⟩ = some (.slice none 0 0) := (zA0.2 2 _ rfl).1; have f_zA02 : wA.frozen? ⟨W.heap.size, 2, none⟩ = false := (zA0.2 2 _ rfl).2; have c_zA03 : wA.cell? ⟨W.heap.size, 3, none⟩ = some (.int .i64 0) := (zA0.2 3 _ rfl).1; have f_zA03 : wA.frozen? ⟨W.heap.size, 3, none⟩ = false := (zA0.2 3 _ rfl).2))) | fail))
          all_goals (go_wp2_with fail; go_meet; exact ⟨_, rfl, ⟨_, V1_, d1a, H1_, d1b, rfl, (by (repeat (first | with_reducible refine bl_p4z ?_ | with_reducible exact bl_nw (by simp) | with_reducible refine bl_al ?_ | with_reducible exact zB0 | with_reducible exact zB1))), TwM.of_parts (l1 := l1_) (h1 := h1_) (l2 := l2_) (h2 := h2_) (by (repeat (first | ((with_reducible refine mn_s4 ?_ ?_); rotate_left; omega) | with_reducible refine mn_al ?_ | with_reducible exact m1))) (by (repeat (first | ((with_reducible refine mn_s4 ?_ ?_); rotate_left; omega) | with_reducible refine mn_al ?_ | with_reducible exact m2))) (by omega) (by omega) (by omega) (by simp [World.setCell]; omega) (by simp [World.setCell]; omega), (by omega), (by (repeat (first | with_reducible exact kB | with_reducible exact kA | with_reducible exact keeps_refl _ | with_reducible refine keeps_dr ?_ | with_reducible refine keeps_al ?_ | ((with_reducible refine keeps_s4 ?_ ?_); rotate_left; omega))))⟩⟩)
        case rest =>
          have HTO2 := hid (show plTo ps l ts (k + 1) = true by unfold plTo; rw [HTO.out, ← HX.out, HK.out]; rfl)
          obtain ⟨wy, rfl, ⟨g13, V1_, d1a, H1_, d1b, rfl, b13, tw, l13, kZ⟩⟩ := hcut
          clear kS
          have kR := hid (kr.trans kZ)
          have sZ := kZ.size
          have l14 := b13.lt
          replace b4 := b4.keeps kZ
          replace b12 := b12.keeps kZ
          replace kw := Keeps.trans kw kZ
          have lt14 := b12.lt
          have sz15 := kw.size
          clear kZ kr
          have kS := hid (show ∀ w', Keeps wy w' → (w'.cell? ⟨w.heap.size, 0, none⟩ = some (.slice A a c0) ∧ w'.cell? ⟨wr.heap.size, 0, none⟩ = some (.int .i64 lv) ∧ w'.cell? ⟨wr.heap.size, 1, none⟩ = some (.slice V nv cv) ∧ w'.cell? ⟨wr.heap.size, 2, none⟩ = some (.slice H nh ch) ∧ w'.cell? ⟨wr.heap.size, 3, none⟩ = some (.int .i64 sm) ∧ w'.cell? ⟨g13, 0, none⟩ = some (.int .i64 lv) ∧ w'.cell? ⟨g13, 1, none⟩ = some (.slice V1_ nv d1a) ∧ w'.cell? ⟨g13, 2, none⟩ = some (.slice H1_ nh d1b) ∧ w'.cell? ⟨g13, 3, none⟩ = some (.int .i64 sm)) from fun w' k => ⟨cell_keeps (b4.1) k, cell_keeps (b12.2 0 _ rfl).1 k, cell_keeps (b12.2 1 _ rfl).1 k, cell_keeps (b12.2 2 _ rfl).1 k, cell_keeps (b12.2 3 _ rfl).1 k, cell_keeps (b13.2 0 _ rfl).1 k, cell_keeps (b13.2 1 _ rfl).1 k, cell_keeps (b13.2 2 _ rfl).1 k, cell_keeps (b13.2 3 _ rfl).1 k⟩)
          have HNE := hid (show ∀ g, g = w.heap.size ∨ wr.heap.size ≤ g → vq.ownBlock ≠ some g from fun g hg e => by have := lr.out g e; omega)
          have kG := hid (show ∀ wA wB : World, Keeps wy wA → wA.grownBy wB vq.ownBlock → (wB.cell? ⟨w.heap.size, 0, none⟩ = some (.slice A a c0) ∧ wB.cell? ⟨wr.heap.size, 0, none⟩ = some (.int .i64 lv) ∧ wB.cell? ⟨wr.heap.size, 1, none⟩ = some (.slice V nv cv) ∧ wB.cell? ⟨wr.heap.size, 2, none⟩ = some (.slice H nh ch) ∧ wB.cell? ⟨wr.heap.size, 3, none⟩ = some (.int .i64 sm) ∧ wB.cell? ⟨g13, 0, none⟩ = some (.int .i64 lv) ∧ wB.cell? ⟨g13, 1, none⟩ = some (.slice V1_ nv d1a) ∧ wB.cell? ⟨g13, 2, none⟩ = some (.slice H1_ nh d1b) ∧ wB.cell? ⟨g13, 3, none⟩ = some (.int .i64 sm)) from fun wA wB k hg => ⟨cell_grown (cell_keeps (b4.1) k) hg (HNE.out _ (.inl rfl)), cell_grown (cell_keeps ((b12.2 0 _ rfl).1) k) hg (HNE.out _ (.inr (Nat.le_refl _))), cell_grown (cell_keeps ((b12.2 1 _ rfl).1) k) hg (HNE.out _ (.inr (Nat.le_refl _))), cell_grown (cell_keeps ((b12.2 2 _ rfl).1) k) hg (HNE.out _ (.inr (Nat.le_refl _))), cell_grown (cell_keeps ((b12.2 3 _ rfl).1) k) hg (HNE.out _ (.inr (Nat.le_refl _))), cell_grown (cell_keeps ((b13.2 0 _ rfl).1) k) hg (HNE.out _ (.inr (by omega))), cell_grown (cell_keeps ((b13.2 1 _ rfl).1) k) hg (HNE.out _ (.inr (by omega))), cell_grown (cell_keeps ((b13.2 2 _ rfl).1) k) hg (HNE.out _ (.inr (by omega))), cell_grown (cell_keeps ((b13.2 3 _ rfl).1) k) hg (HNE.out _ (.inr (by omega)))⟩)
          have HLT := hid (show ((pbL ps l rs ts).take k).length = k by rw [List.length_take, HPN.out]; omega)
          have HRW := hid (show ∀ (wC : World) (V1 H1 K1 : Option Addr) (c1 c2 c3 N : Nat), (toL ps l (lv, vs, ws, sm) rs).length = N → ThM wC wr.heap.size wC.heap.size V1 nv vs H1 nh ws K1 N (toL ps l (lv, vs, ws, sm) rs) → RwP wC wr.heap.size wC.heap.size (fun i => [Value.int .i64 lv, .slice V1 nv c1, .slice H1 nh c2, .int .i64 sm, .slice K1 N c3].getD i undef) (ts.getD k t0, toL ps l (ts.getD k t0) rs) from fun wC V1 H1 K1 c1 c2 c3 N hN th => by
            rw [← HX.out]
            have e1 := hnv.out
            have e2 := hnh.out
            subst e1 e2 hN
            exact ⟨V1, c1, H1, c2, K1, c3, rfl, rfl, rfl, rfl, rfl, th⟩)
          go_wp2_with fail
          go_region_held3 (fun w' => w'.cell? ⟨w.heap.size, 0, none⟩ = some (.slice A a c0) ∧ w'.cell? ⟨wr.heap.size, 0, none⟩ = some (.int .i64 lv) ∧ w'.cell? ⟨wr.heap.size, 1, none⟩ = some (.slice V nv cv) ∧ w'.cell? ⟨wr.heap.size, 2, none⟩ = some (.slice H nh ch) ∧ w'.cell? ⟨wr.heap.size, 3, none⟩ = some (.int .i64 sm) ∧ w'.cell? ⟨g13, 0, none⟩ = some (.int .i64 lv) ∧ w'.cell? ⟨g13, 1, none⟩ = some (.slice V1_ nv d1a) ∧ w'.cell? ⟨g13, 2, none⟩ = some (.slice H1_ nh d1b) ∧ w'.cell? ⟨g13, 3, none⟩ = some (.int .i64 sm)) (first | with_reducible exact kS.out _ (keeps_d0 _) | with_reducible exact kS.out _ kW | with_reducible exact kS.out _ (keeps_al kW) | with_reducible exact kG.out _ _ kW hg9 | go_keep)
            ((first | (go_at_call 73; refine (uTable_any (c0 := c0) (h.keeps (Keeps.trans kw (keeps_d0 _))) (h'.keeps (Keeps.trans kw (keeps_d0 _))) ((hvv.keeps kR.out).keeps (keeps_d0 _)) ((hhh.keeps kR.out).keeps (keeps_d0 _)) (hr.keeps (Keeps.trans kw (keeps_d0 _))) HG.out HS.out HK.out H1.out).mono ?_; rintro e wC ⟨N1, K1, rfl, mk, kC⟩; have kW : Keeps wy wC := keeps_d kC; have sC : wy.heap.size ≤ wC.heap.size := kW.size; replace mk : Mine wC wy.heap.size wC.heap.size K1 N1 (toL ps l (lv, vs, ws, sm) rs) := mk; clear kC; have th := TwM.three (w' := wy) (l := wr.heap.size) (h' := wC.heap.size) (tw.keeps kW) mk (by omega) (by omega) (by omega) (by omega) (by omega) (Nat.le_refl _); have hnk := hid mk.1.1; clear mk) | (refine step_append_row (a0 := (ts.getD k t0, toL ps l (ts.getD k t0) rs)) (x := wr.heap.size) (new := [.int .i64 lv, .slice V1_ nv d1a, .slice H1_ nh d1b, .int .i64 sm, .slice K1 N1 N1]) HIP.out rfl (by decide) (by decide) RwP.ok (hF.keeps RwP.ok (kR.out.trans kW)) (by rw [HLT.out]; omega) (by omega) rfl (fun y hy => by simp at hy; rcases hy with rfl | rfl | rfl | rfl | rfl <;> rfl) (by omega) (fun j hj => (hF.iv j hj).2.1) (fun g e => (lr.out g e).2) (HRW.out wC V1_ H1_ K1 d1a d1b N1 N1 hnk.out th) _ _ rfl rfl Tryz.underlying58 rfl rfl ?_; intro v9 w9 cs9 L9 U9 hF9 hg9)))
          have HG2 := hid hF9
          have KW := hid (keeps_grown (kw.trans kW) hg9 (fun g e => by have := lr.out g e; omega))
          have B4 := hid (b1_grown (b4.keeps kW) hg9 (HNE.out _ (.inl rfl)))
          clear hF9 hg9 hF b4 b12 b13 kS kG tw th kw kW
          go_wp2_with fail
          go_roundw
          case rel => exact ⟨k + 1, _, _, _, _, rfl, by go_num, hlt, HTO2.out, (by rw [HPT.out k hlt]; exact HG2.out), B4.out, KW.out⟩
          case measure => simp [intOf]; omega
theorem psz_le {l : List PP} {c : Nat} (h : ∀ j, j < l.length → szPP (l.getD j p0) ≤ c) : ∀ k, k ≤ l.length → psz l k ≤ k * c
  | 0, _ => by rw [psz_zero]; exact Nat.zero_le _
  | k + 1, hk => by rw [psz_succ (by omega), Nat.succ_mul]; have := h k (by omega); have := psz_le h k (by omega); omega
theorem pbQ_len {ps : List Int} {l : List VV} {rs : List RR} {ts : List TT} : (pbQ ps l rs ts).1.length + psz (pbQ ps l rs ts).1 (pbQ ps l rs ts).1.length ≤ 1048576 := by
  cases hb : pbB ps l rs ts with
  | false => rw [pbQ_no hb]; simp [psz_zero]
  | true =>
    rw [pbQ_yes hb]
    dsimp only
    unfold pbB at hb
    simp only [Bool.and_eq_true] at hb
    obtain ⟨h20, hp⟩ := plB_at hb.2
    obtain ⟨_, _, hq6⟩ := schB_lv rfl hb.1.1.2
    have key := psz_le (l := pbL ps l rs ts) (c := 612) (fun j hj => by
      rw [pbL_len] at hj
      rw [pbL_at hj]
      obtain ⟨p1, p2, _, _, p5⟩ := tabB_parts (hp j hj)
      have v1 := vsB_len p1
      have w1 : (ts.getD j t0).2.2.1.length = l.length := by
        unfold whB at p2
        simp only [Bool.and_eq_true, decide_eq_true_eq] at p2
        exact p2.1
      have t1 : (toL ps l (ts.getD j t0) rs).length = (tabN ps l (ts.getD j t0)).toNat := toTo_len _ _ _ _ _
      unfold szPP
      dsimp only
      rw [w1, t1]
      omega) (pbL ps l rs ts).length (Nat.le_refl _)
    rw [pbL_len] at key ⊢
    omega
end Go.Proofs.YtohjkpopbmmliaaGreat
