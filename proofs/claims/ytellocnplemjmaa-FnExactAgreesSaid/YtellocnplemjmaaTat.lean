/- Types: of the program and of the reference. -/
import Derived.Test.YtellocnplemjmaaLeaf
import Derived.Deep.RegionHeld3
import Derived.IntWalk
import Derived.Deep.RegionLaw
namespace Go.Proofs.Ytellocnplemjmaa
open Go.RowKit
set_option linter.unusedVariables false
set_option linter.unusedSimpArgs false

def tyN (ps : List Int) (l : List VV) : Int := ((leaves ps).length : Int) * prodTo l l.length
def tyB (ps : List Int) (l : List VV) : Bool := geoB ps && schB l && decide (tyN ps l ≤ 12)
theorem tyN_bd {ps : List Int} {l : List VV} (hg : geoB ps = true) (h : schB l = true) : 0 ≤ tyN ps l ∧ tyN ps l ≤ 7864320 := by
  have h1 := leavesTo_len ps ps.length
  have h2 := (geoB_true.1 hg).1
  obtain ⟨hv, _, h6⟩ := schB_lv rfl h
  have h3 := prodTo_bd hv l.length (Nat.le_refl _)
  have h4 := pow8 h6
  unfold tyN leaves
  have h5 := Int.mul_le_mul (show (((leavesTo ps ps.length).length : Nat) : Int) ≤ 30 by omega) (show prodTo l l.length ≤ 262144 by omega) (by omega) (by omega)
  exact ⟨Int.mul_nonneg (by omega) (by omega), by omega⟩
/-- The parts of schemas that the walks ask for. -/
structure Sch (w : World) (A : Option Addr) (n c : Nat) (l : List VV) : Prop where
  v : ∃ lo hi, Vars w lo hi A n l
  ok : NamesOk l
  cap : n ≤ c
  c64 : c ≤ maxLen
theorem Sch.keeps {w w' : World} {A : Option Addr} {n c : Nat} {l : List VV} (h : Sch w A n c l) (k : Keeps w w') : Sch w' A n c l := by
  obtain ⟨⟨lo, hi, hv⟩, h1, h2, h3⟩ := h
  exact ⟨⟨lo, hi, Sl.keeps hv k⟩, h1, h2, h3⟩
theorem Sch.fr {w w' : World} {A : Option Addr} {n c : Nat} {l : List VV} (h : Sch w A n c l) {a b : Nat} (f : Fr a b w w') (hf : ∃ lo hi, Vars w lo hi A n l ∧ (b ≤ lo ∨ hi ≤ a ∨ b ≤ a)) : Sch w' A n c l := by
  obtain ⟨lo, hi, hv, ho⟩ := hf
  exact ⟨⟨lo, hi, Sl.fr hv f ho⟩, h.ok, h.cap, h.c64⟩

set_option maxRecDepth 100000 in
set_option maxHeartbeats 1600000 in
theorem typeCount_any {A : Option Addr} {lo hi n c : Nat} {ps : List Int} {A' : Option Addr} {m d : Nat} {l : List VV} {w : World} (h : Ints w lo hi A n ps) (h' : Sch w A' m d l) (hg : geoB ps = true) (hs : schB l = true) :
    Calls Try.prog 55 #[.agg #[.slice A n c], .slice A' m d] w fun e w' => e = .returned (.int .i64 (tyN ps l)) ∧ Keeps w w' := by
  obtain ⟨lo', hi', hv⟩ := h'.v
  have hl := Vars.len hv
  obtain ⟨hlv, h1, h6⟩ := schB_lv hl hs
  have hb := tyN_bd hg hs
  have HT := hid (show tyN ps l = ((leaves ps).length : Int) * prodTo l m by unfold tyN; rw [hl])
  have HG := hid hg
  have HV := hid hlv
  rw [HT.out] at hb
  clear hl hlv hs hg
  go_enter Try.func55, Try.ntmps55
  have kw := keeps_refl w
  replace kw := Keeps.trans kw (keeps_alloc w (.cells #[.slice A n c] 38))
  have b2 : B1 (w.alloc (.cells #[.slice A n c] 38)) w.heap.size (.slice A n c) := B1.new' (by simp)
  obtain ⟨ca1, fa1⟩ := id b2
  go_wp2_with fail
  clear ca1 fa1
  refine (leavesOf_any (h.keeps kw) HG.out).mono ?_
  rintro e w2 ⟨LA, LC, rfl, hm, k2⟩
  replace b2 := b2.keeps k2
  replace kw := Keeps.trans kw k2
  have lt3 := b2.lt
  have sz4 := kw.size
  clear k2
  clear hm
  go_wp2_with fail
  refine (combinations_any (Sl.keeps hv kw) HV.out h6).mono ?_
  rintro e w5 ⟨rfl, k5⟩
  replace b2 := b2.keeps k5
  replace kw := Keeps.trans kw k5
  have lt6 := b2.lt
  have sz7 := kw.size
  clear k5
  obtain ⟨P, hP⟩ : ∃ P, prodTo l m = P := ⟨_, rfl⟩
  obtain ⟨L, hL⟩ : ∃ L : Nat, (leaves ps).length = L := ⟨_, rfl⟩
  rw [hP, hL] at hb HT
  rw [hP]
  rw [hL]
  clear hP hL
  obtain ⟨b0, b1⟩ := hb
  go_wp2_with fail
  go_ret
  exact ⟨ret_int HT.out.symm, kw⟩
set_option maxRecDepth 100000 in
set_option maxHeartbeats 1600000 in
theorem aTypes_any {A : Option Addr} {lo hi n c : Nat} {ps : List Int} {A' : Option Addr} {m d : Nat} {l : List VV} {w : World} (h : Ints w lo hi A n ps) (h' : Sch w A' m d l) (hg : geoB ps = true) (hs : schB l = true) :
    Calls Try.prog 49 #[.agg #[.slice A n c], .slice A' m d] w fun e w' => e = .returned (.int .i64 (tyN ps l)) ∧ Keeps w w' := by
  obtain ⟨lo', hi', hv⟩ := h'.v
  have hl := Vars.len hv
  obtain ⟨hlv, h1, h6⟩ := schB_lv hl hs
  have hb := tyN_bd hg hs
  have HT := hid (show tyN ps l = ((leaves ps).length : Int) * prodTo l m by unfold tyN; rw [hl])
  have HG := hid hg
  have HV := hid hlv
  rw [HT.out] at hb
  clear hl hlv hs hg
  go_enter Try.func49, Try.ntmps49
  have kw := keeps_refl w
  replace kw := Keeps.trans kw (keeps_alloc w (.cells #[.slice A n c] 38))
  have b2 : B1 (w.alloc (.cells #[.slice A n c] 38)) w.heap.size (.slice A n c) := B1.new' (by simp)
  obtain ⟨ca1, fa1⟩ := id b2
  go_wp2_with fail
  clear ca1 fa1
  refine (gLeaves_any (h.keeps kw) HG.out).mono ?_
  rintro e w2 ⟨LA, LC, rfl, hm, k2⟩
  replace b2 := b2.keeps k2
  replace kw := Keeps.trans kw k2
  have lt3 := b2.lt
  have sz4 := kw.size
  clear k2
  clear hm
  go_wp2_with fail
  refine (sCount_any (Sl.keeps hv kw) HV.out h6).mono ?_
  rintro e w5 ⟨rfl, k5⟩
  replace b2 := b2.keeps k5
  replace kw := Keeps.trans kw k5
  have lt6 := b2.lt
  have sz7 := kw.size
  clear k5
  obtain ⟨P, hP⟩ : ∃ P, prodTo l m = P := ⟨_, rfl⟩
  obtain ⟨L, hL⟩ : ∃ L : Nat, (leaves ps).length = L := ⟨_, rfl⟩
  rw [hP, hL] at hb HT
  rw [hP]
  rw [hL]
  clear hP hL
  obtain ⟨b0, b1⟩ := hb
  go_wp2_with fail
  go_ret
  exact ⟨ret_int HT.out.symm, kw⟩
set_option maxRecDepth 100000 in
set_option maxHeartbeats 1600000 in
theorem areTyped_any {A : Option Addr} {lo hi n c : Nat} {ps : List Int} {A' : Option Addr} {m d : Nat} {l : List VV} {w : World} (h : Ints w lo hi A n ps) (h' : Sch w A' m d l) :
    Calls Try.prog 83 #[.agg #[.slice A n c], .slice A' m d] w fun e w' => e = .returned (.bool (tyB ps l)) ∧ Keeps w w' := by
  obtain ⟨lo', hi', hv⟩ := h'.v
  have HB := hid (show tyB ps l = (geoB ps && schB l && decide (tyN ps l ≤ 12)) from rfl)
  go_enter Try.func83, Try.ntmps83
  have kw := keeps_refl w
  replace kw := Keeps.trans kw (keeps_alloc w (.cells #[.slice A n c] 38))
  have b2 : B1 (w.alloc (.cells #[.slice A n c] 38)) w.heap.size (.slice A n c) := B1.new' (by simp)
  obtain ⟨ca1, fa1⟩ := id b2
  go_wp2_with fail
  clear ca1 fa1
  obtain ⟨pH1, H1⟩ : ∃ pB, Hid (geoB ps = pB) := ⟨_, rfl⟩
  refine (IsGeo_any (h.keeps kw)).mono ?_
  rintro e w2 ⟨rfl, k2⟩
  rw [H1.out]
  replace b2 := b2.keeps k2
  replace kw := Keeps.trans kw k2
  have lt3 := b2.lt
  have sz4 := kw.size
  clear k2
  cases pH1
  · go_wp2_with fail
    go_ret
    exact ⟨ret_bool (by rw [HB.out, H1.out]; rfl), kw⟩
  · skip
    go_wp2_with fail
    obtain ⟨pH2, H2⟩ : ∃ pB, Hid (schB l = pB) := ⟨_, rfl⟩
    refine (IsSchema_any (Sl.keeps hv kw) h'.ok h'.cap h'.c64).mono ?_
    rintro e w5 ⟨rfl, k5⟩
    rw [H2.out]
    replace b2 := b2.keeps k5
    replace kw := Keeps.trans kw k5
    have lt6 := b2.lt
    have sz7 := kw.size
    clear k5
    cases pH2
    · go_wp2_with fail
      go_ret
      exact ⟨ret_bool (by rw [HB.out, H1.out, H2.out]; rfl), kw⟩
    · skip
      obtain ⟨ca8, fa8⟩ := id b2
      go_wp2_with fail
      clear ca8 fa8
      refine (typeCount_any (h.keeps kw) (h'.keeps kw) H1.out H2.out).mono ?_
      rintro e w9 ⟨rfl, k9⟩
      replace b2 := b2.keeps k9
      replace kw := Keeps.trans kw k9
      have lt10 := b2.lt
      have sz11 := kw.size
      clear k9
      obtain ⟨Z, hZ⟩ : ∃ Z, tyN ps l = Z := ⟨_, rfl⟩
      rw [hZ] at HB
      rw [hZ]
      clear hZ
      by_cases hz : Z ≤ 12
      · go_wp2_with fail
        go_ret
        exact ⟨ret_bool (by rw [HB.out, H1.out, H2.out, decide_eq_true (by omega)]; rfl), kw⟩
      have hz1 : decide (Z ≤ 12) = false := decide_eq_false hz
      go_wp2_with fail
      go_ret
      exact ⟨ret_bool (by rw [HB.out, H1.out, H2.out, decide_eq_false (by omega)]; rfl), kw⟩
set_option maxRecDepth 100000 in
set_option maxHeartbeats 1600000 in
theorem aGood_any {A : Option Addr} {lo hi n c : Nat} {ps : List Int} {A' : Option Addr} {m d : Nat} {l : List VV} {w : World} (h : Ints w lo hi A n ps) (h' : Sch w A' m d l) :
    Calls Try.prog 47 #[.agg #[.slice A n c], .slice A' m d] w fun e w' => e = .returned (.bool (tyB ps l)) ∧ Keeps w w' := by
  obtain ⟨lo', hi', hv⟩ := h'.v
  have HB := hid (show tyB ps l = (geoB ps && schB l && decide (tyN ps l ≤ 12)) from rfl)
  go_enter Try.func47, Try.ntmps47
  have kw := keeps_refl w
  replace kw := Keeps.trans kw (keeps_alloc w (.cells #[.slice A n c] 38))
  have b2 : B1 (w.alloc (.cells #[.slice A n c] 38)) w.heap.size (.slice A n c) := B1.new' (by simp)
  obtain ⟨ca1, fa1⟩ := id b2
  go_wp2_with fail
  clear ca1 fa1
  obtain ⟨pH1, H1⟩ : ∃ pB, Hid (geoB ps = pB) := ⟨_, rfl⟩
  refine (gGood_any (h.keeps kw)).mono ?_
  rintro e w2 ⟨rfl, k2⟩
  rw [H1.out]
  replace b2 := b2.keeps k2
  replace kw := Keeps.trans kw k2
  have lt3 := b2.lt
  have sz4 := kw.size
  clear k2
  cases pH1
  · go_wp2_with fail
    go_ret
    exact ⟨ret_bool (by rw [HB.out, H1.out]; rfl), kw⟩
  · skip
    go_wp2_with fail
    obtain ⟨pH2, H2⟩ : ∃ pB, Hid (schB l = pB) := ⟨_, rfl⟩
    refine (sGood_any (Sl.keeps hv kw) h'.ok h'.cap h'.c64).mono ?_
    rintro e w5 ⟨rfl, k5⟩
    rw [H2.out]
    replace b2 := b2.keeps k5
    replace kw := Keeps.trans kw k5
    have lt6 := b2.lt
    have sz7 := kw.size
    clear k5
    cases pH2
    · go_wp2_with fail
      go_ret
      exact ⟨ret_bool (by rw [HB.out, H1.out, H2.out]; rfl), kw⟩
    · skip
      obtain ⟨ca8, fa8⟩ := id b2
      go_wp2_with fail
      clear ca8 fa8
      refine (aTypes_any (h.keeps kw) (h'.keeps kw) H1.out H2.out).mono ?_
      rintro e w9 ⟨rfl, k9⟩
      replace b2 := b2.keeps k9
      replace kw := Keeps.trans kw k9
      have lt10 := b2.lt
      have sz11 := kw.size
      clear k9
      obtain ⟨Z, hZ⟩ : ∃ Z, tyN ps l = Z := ⟨_, rfl⟩
      rw [hZ] at HB
      rw [hZ]
      clear hZ
      by_cases hz : Z ≤ 12
      · go_wp2_with fail
        go_ret
        exact ⟨ret_bool (by rw [HB.out, H1.out, H2.out, decide_eq_true (by omega)]; rfl), kw⟩
      have hz1 : decide (Z ≤ 12) = false := decide_eq_false hz
      go_wp2_with fail
      go_ret
      exact ⟨ret_bool (by rw [HB.out, H1.out, H2.out, decide_eq_false (by omega)]; rfl), kw⟩
def taLeaf (ps : List Int) (l : List VV) (i : Int) : Int := (leaves ps).getD (i / prodTo l l.length).toNat 0
def taVals (l : List VV) (i : Int) : List Int := vals l l.length (i % prodTo l l.length)
theorem set3_cells {w : World} {g : Nat} {u0 u1 u2 : Value} (h : Bl w g [u0, u1, u2]) (v0 v1 v2 : Value) : Bl (((w.setCell ⟨g, 0, none⟩ v0).setCell ⟨g, 1, none⟩ v1).setCell ⟨g, 2, none⟩ v2) g [v0, v1, v2] := ((h.set 0 v0).set 1 v1).set 2 v2
theorem fr_set3T {w : World} {g : Nat} (v0 v1 v2 : Value) : Fr g (g + 1) w (((w.setCell ⟨g, 0, none⟩ v0).setCell ⟨g, 1, none⟩ v1).setCell ⟨g, 2, none⟩ v2) := ((fr_one v0).trans (fr_one v1)).trans (fr_one v2)
theorem below_set3T {B : Nat} {a w : World} (k : Below B a w) {g : Nat} (hg : B ≤ g) (v0 v1 v2 : Value) : Below B a (((w.setCell ⟨g, 0, none⟩ v0).setCell ⟨g, 1, none⟩ v1).setCell ⟨g, 2, none⟩ v2) := ((k.setCell hg v0).setCell hg v1).setCell hg v2
/-- A call in a region, by its contract. -/
theorem step_any {W : World} {ops : Array Oper} {o : Oper} {a : Act} {K : Act → World → Prop} {Q : Exit → Act → World → Prop} {E : Prop} {f : FuncId} {args : Array Value} {R : Ending → World → Prop}
    (hc : Calls Try.prog f args W R) (hr : ∀ e w', R e w' → ∃ v, e = .returned v) (hgd : o.guard = none)
    (hrun : (execOp a.eval o).run Try.prog W = .ok (.enter f args) W)
    (h : ∀ v w', R (.returned v) w' → K (a.put o.dst v) w') :
    if Region.wanted o (yielded ops a.tmps) = true then Oper.wp Try.prog o a W K Q else E := by
  have hw : Region.wanted o (yielded ops a.tmps) = true := by simp [Region.wanted, hgd]
  rw [if_pos hw]
  unfold Oper.wp
  rw [hrun, Oper.upon_enter]
  refine hc.mono fun e w' hh => ?_
  obtain ⟨v, rfl⟩ := hr e w' hh
  exact h v w' hh
/-- A record of one's own. -/
def TaRec (w : World) (a : Int) (m : Nat) (xs : List Int) (e : Ending) (w' : World) : Prop := ∃ VA, e = .returned (.agg #[.int .i64 a, .int .i64 0, .slice VA m m]) ∧ Mine w' w.heap.size w'.heap.size VA m xs ∧ Keeps w w'

set_option maxRecDepth 100000 in
set_option maxHeartbeats 6400000 in
theorem typeAt_any {A : Option Addr} {lo hi n c : Nat} {ps : List Int} {A' : Option Addr} {m d : Nat} {l : List VV} {w : World} (h : Ints w lo hi A n ps) (h' : Sch w A' m d l) {i : Int} (ht : tyB ps l = true) (h0 : 0 ≤ i) (hi_ : i < tyN ps l) :
    Calls Try.prog 88 #[.agg #[.slice A n c], .slice A' m d, .int .i64 i] w (TaRec w (taLeaf ps l i) m (taVals l i)) := by
  obtain ⟨lo', hi', hv⟩ := h'.v
  have hl := Vars.len hv
  have htt : geoB ps = true ∧ schB l = true := by unfold tyB at ht; simp only [Bool.and_eq_true] at ht; exact ht.1
  have hb := tyN_bd htt.1 htt.2
  obtain ⟨hlv, hm1, hm6⟩ := schB_lv hl htt.2
  have hPb := prodTo_bd hlv m (Nat.le_refl _)
  have h86 := pow8 (k := m) hm6
  have HTA := hid (show taLeaf ps l i = (leaves ps).getD (i / prodTo l m).toNat 0 by unfold taLeaf; rw [hl])
  have HTV := hid (show taVals l i = vals l m (i % prodTo l m) by unfold taVals; rw [hl])
  have hTN : tyN ps l = ((leaves ps).length : Int) * prodTo l m := by unfold tyN; rw [hl]
  rw [hTN] at hi_ hb
  have HG := hid htt.1
  have HV := hid hlv
  clear hl htt hlv hm1 h' ht hTN
  obtain ⟨P, hP⟩ : ∃ P, prodTo l m = P := ⟨_, rfl⟩
  rw [hP] at hi_ hb hPb HTA HTV
  have HP := hid hP
  clear hP
  have hL30 : (leaves ps).length ≤ 30 := by have h1 := leavesTo_len ps ps.length; have h2 := (geoB_true.1 HG.out).1; unfold leaves; omega
  obtain ⟨L, hL⟩ : ∃ L : Nat, (leaves ps).length = L := ⟨_, rfl⟩
  rw [hL] at hi_ hb hL30
  have HLl := hid hL
  clear hL
  have hP1 : 1 ≤ P := hPb.1
  have hP2 : P ≤ 262144 := by omega
  have hi9 : i ≤ 7864320 := by omega
  clear hPb h86 hb
  have hq0 : 0 ≤ i / P := Int.ediv_nonneg h0 (by omega)
  have hqL : i / P < (L : Int) := Int.ediv_lt_of_lt_mul (by omega) hi_
  obtain ⟨q, hq⟩ : ∃ q : Nat, i / P = (q : Int) := ⟨(i / P).toNat, by omega⟩
  have hr0 : 0 ≤ i % P := Int.emod_nonneg _ (by omega)
  have hr1 : i % P ≤ 1000000 := by have := Int.emod_lt_of_pos i (show 0 < P by omega); omega
  rw [hq] at hqL HTA
  have hqn : q < L := by omega
  obtain ⟨M, hM⟩ : ∃ M, i % P = M := ⟨_, rfl⟩
  rw [hM] at hr0 hr1 HTV
  have e1_ : i.tdiv P = (q : Int) := by rw [Int.tdiv_eq_ediv_of_nonneg h0]; exact hq
  have e2_ : i.tmod P = M := by rw [Int.tmod_eq_emod_of_nonneg h0]; exact hM
  have E1 := hid e1_
  have E2 := hid e2_
  clear e1_ e2_ hq hM hq0 hi_
  have t0 : (P == 0) = false := by rw [beq_eq_false_iff_ne]; omega
  go_enter Try.func88, Try.ntmps88
  have kw := keeps_refl w
  replace kw := Keeps.trans kw (keeps_alloc w (.cells #[.slice A n c] 38))
  have b3 : B1 (w.alloc (.cells #[.slice A n c] 38)) w.heap.size (.slice A n c) := B1.new' (by simp)
  replace b3 := b3.keeps (keeps_alloc (w.alloc (.cells #[.slice A n c] 38)) (.cells #[.int .i64 0, .int .i64 0, .slice none 0 0] 126))
  replace kw := Keeps.trans kw (keeps_alloc (w.alloc (.cells #[.slice A n c] 38)) (.cells #[.int .i64 0, .int .i64 0, .slice none 0 0] 126))
  have b6 : Bl ((w.alloc (.cells #[.slice A n c] 38)).alloc (.cells #[.int .i64 0, .int .i64 0, .slice none 0 0] 126)) (w.heap.size + 1) [.int .i64 0, .int .i64 0, .slice none 0 0] := Bl.new' (by simp) (by simp)
  go_wp2_with fail
  refine (combinations_any (Sl.keeps hv kw) HV.out hm6).mono ?_
  rintro e w1 ⟨rfl, k1⟩
  rw [HP.out]
  replace b3 := b3.keeps k1
  replace b6 := b6.keeps k1
  replace kw := Keeps.trans kw k1
  have lt2 := b6.lt
  have sz3 := kw.size
  clear k1
  have lt3 := b3.lt
  have lt6 := b6.lt
  go_wp2_with fail
  have e1_ := E1.out
  have e2_ := E2.out
  have w1_ : IntKind.i64.wrap (q : Int) = q := IntWalk.i64_in _ (by omega)
  have w2_ : IntKind.i64.wrap M = M := IntWalk.i64_in _ (by omega)
  have p0_ : ¬ P = 0 := by omega
  have hW := h.keeps kw
  have hvW := Sl.keeps hv kw
  obtain ⟨ca3, fa3⟩ := id b3
  have hD := h.keeps (kw.trans (keeps_d0 w1))
  have z3 : w1.drew.cell? ⟨w.heap.size, 0, none⟩ = some (.slice A n c) := (b3.keeps (keeps_d0 w1)).1
  go_region_law ((first | (refine step_any (valuesAt_any (c := d) (Sl.keeps hvW kQ) HV.out hr0 hr1) (fun e w' hh => by obtain ⟨_, h, _⟩ := hh; exact ⟨_, h⟩) rfl (by kernel_rfl) ?_; intro v wB hh; obtain ⟨VA, eE, mV, kB⟩ := hh; cases eE; have hcz2 := cell_keeps hcz kB; have kR : Keeps w1 wB := kQ.trans kB; have sB := kQ.size; have b6B := b6.keeps kR; have y0 := (b6B.2 0 _ rfl).1; have x0 := (b6B.2 0 _ rfl).2; have y1 := (b6B.2 1 _ rfl).1; have x1 := (b6B.2 1 _ rfl).2; have y2 := (b6B.2 2 _ rfl).1; have x2 := (b6B.2 2 _ rfl).2) | (refine step_any (leavesOf_any (c := c) hD HG.out) (fun e w' hh => by obtain ⟨_, _, h, _⟩ := hh; exact ⟨_, h⟩) rfl (by kernel_rfl) ?_; intro v wA hh; obtain ⟨LA, LC, eE, mL, kA⟩ := hh; cases eE; have kQ : Keeps w1 wA := keeps_d kA; have rd := mL.1.at_ (k := q) (by rw [HLl.out]; exact hqn); obtain ⟨bl, ol, z, eL, hlo_, hhi_, hcz, hz⟩ := rd; subst eL; rw [HLl.out])))
  all_goals (
    have BB := hid (set3_cells b6B (.int .i64 z) (.int .i64 0) (.slice VA m m))
    have MM := hid ((mV.fr (fr_set3T (g := w.heap.size + 1) (.int .i64 z) (.int .i64 0) (.slice VA m m)) (by omega)).widen (lo' := w.heap.size) (hi' := (((wB.setCell ⟨w.heap.size + 1, 0, none⟩ (.int .i64 z)).setCell ⟨w.heap.size + 1, 1, none⟩ (.int .i64 0)).setCell ⟨w.heap.size + 1, 2, none⟩ (.slice VA m m)).heap.size) (by omega) (by simp [World.setCell]) (Nat.le_refl _))
    have KK := hid (below_set3T (show Below w.heap.size w wB from kw.trans kR) (g := w.heap.size + 1) (by omega) (.int .i64 z) (.int .i64 0) (.slice VA m m))
    have HZ := hid (show z = taLeaf ps l i by rw [HTA.out]; simpa using hz.out)
    clear mV b6B kR kQ z3 hD hcz hcz2 y0 y1 y2 x0 x1 x2 e1_ e2_ w1_ w2_ p0_ ca3 fa3 hz
    go_wp2_with fail
    have ca0_0 := (BB.out.2 0 _ rfl).1
    have ca0_1 := (BB.out.2 1 _ rfl).1
    have ca0_2 := (BB.out.2 2 _ rfl).1
    exact bodyPost_ret (v := .agg #[.int .i64 z, .int .i64 0, .slice VA m m]) (by simp [results, Try.results88, go_sem, ca0_0, ca0_1, ca0_2]) rfl ⟨VA, by rw [HZ.out], by rw [HTV.out]; exact MM.out, KK.out⟩)
set_option maxRecDepth 100000 in
set_option maxHeartbeats 6400000 in
theorem aRecord_any {A : Option Addr} {lo hi n c : Nat} {ps : List Int} {A' : Option Addr} {m d : Nat} {l : List VV} {w : World} (h : Ints w lo hi A n ps) (h' : Sch w A' m d l) {i : Int} (ht : tyB ps l = true) (h0 : 0 ≤ i) (hi_ : i < tyN ps l) :
    Calls Try.prog 82 #[.agg #[.slice A n c], .slice A' m d, .int .i64 i] w (TaRec w (taLeaf ps l i) m (taVals l i)) := by
  obtain ⟨lo', hi', hv⟩ := h'.v
  have hl := Vars.len hv
  have htt : geoB ps = true ∧ schB l = true := by unfold tyB at ht; simp only [Bool.and_eq_true] at ht; exact ht.1
  have hb := tyN_bd htt.1 htt.2
  obtain ⟨hlv, hm1, hm6⟩ := schB_lv hl htt.2
  have hPb := prodTo_bd hlv m (Nat.le_refl _)
  have h86 := pow8 (k := m) hm6
  have HTA := hid (show taLeaf ps l i = (leaves ps).getD (i / prodTo l m).toNat 0 by unfold taLeaf; rw [hl])
  have HTV := hid (show taVals l i = vals l m (i % prodTo l m) by unfold taVals; rw [hl])
  have hTN : tyN ps l = ((leaves ps).length : Int) * prodTo l m := by unfold tyN; rw [hl]
  rw [hTN] at hi_ hb
  have HG := hid htt.1
  have HV := hid hlv
  clear hl htt hlv hm1 h' ht hTN
  obtain ⟨P, hP⟩ : ∃ P, prodTo l m = P := ⟨_, rfl⟩
  rw [hP] at hi_ hb hPb HTA HTV
  have HP := hid hP
  clear hP
  have hL30 : (leaves ps).length ≤ 30 := by have h1 := leavesTo_len ps ps.length; have h2 := (geoB_true.1 HG.out).1; unfold leaves; omega
  obtain ⟨L, hL⟩ : ∃ L : Nat, (leaves ps).length = L := ⟨_, rfl⟩
  rw [hL] at hi_ hb hL30
  have HLl := hid hL
  clear hL
  have hP1 : 1 ≤ P := hPb.1
  have hP2 : P ≤ 262144 := by omega
  have hi9 : i ≤ 7864320 := by omega
  clear hPb h86 hb
  have hq0 : 0 ≤ i / P := Int.ediv_nonneg h0 (by omega)
  have hqL : i / P < (L : Int) := Int.ediv_lt_of_lt_mul (by omega) hi_
  obtain ⟨q, hq⟩ : ∃ q : Nat, i / P = (q : Int) := ⟨(i / P).toNat, by omega⟩
  have hr0 : 0 ≤ i % P := Int.emod_nonneg _ (by omega)
  have hr1 : i % P ≤ 1000000 := by have := Int.emod_lt_of_pos i (show 0 < P by omega); omega
  rw [hq] at hqL HTA
  have hqn : q < L := by omega
  obtain ⟨M, hM⟩ : ∃ M, i % P = M := ⟨_, rfl⟩
  rw [hM] at hr0 hr1 HTV
  have e1_ : i.tdiv P = (q : Int) := by rw [Int.tdiv_eq_ediv_of_nonneg h0]; exact hq
  have e2_ : i.tmod P = M := by rw [Int.tmod_eq_emod_of_nonneg h0]; exact hM
  have E1 := hid e1_
  have E2 := hid e2_
  clear e1_ e2_ hq hM hq0 hi_
  have t0 : (P == 0) = false := by rw [beq_eq_false_iff_ne]; omega
  go_enter Try.func82, Try.ntmps82
  have kw := keeps_refl w
  replace kw := Keeps.trans kw (keeps_alloc w (.cells #[.slice A n c] 38))
  have b3 : B1 (w.alloc (.cells #[.slice A n c] 38)) w.heap.size (.slice A n c) := B1.new' (by simp)
  replace b3 := b3.keeps (keeps_alloc (w.alloc (.cells #[.slice A n c] 38)) (.cells #[.int .i64 0, .int .i64 0, .slice none 0 0] 126))
  replace kw := Keeps.trans kw (keeps_alloc (w.alloc (.cells #[.slice A n c] 38)) (.cells #[.int .i64 0, .int .i64 0, .slice none 0 0] 126))
  have b6 : Bl ((w.alloc (.cells #[.slice A n c] 38)).alloc (.cells #[.int .i64 0, .int .i64 0, .slice none 0 0] 126)) (w.heap.size + 1) [.int .i64 0, .int .i64 0, .slice none 0 0] := Bl.new' (by simp) (by simp)
  go_wp2_with fail
  refine (sCount_any (Sl.keeps hv kw) HV.out hm6).mono ?_
  rintro e w1 ⟨rfl, k1⟩
  rw [HP.out]
  replace b3 := b3.keeps k1
  replace b6 := b6.keeps k1
  replace kw := Keeps.trans kw k1
  have lt2 := b6.lt
  have sz3 := kw.size
  clear k1
  have lt3 := b3.lt
  have lt6 := b6.lt
  go_wp2_with fail
  have e1_ := E1.out
  have e2_ := E2.out
  have w1_ : IntKind.i64.wrap (q : Int) = q := IntWalk.i64_in _ (by omega)
  have w2_ : IntKind.i64.wrap M = M := IntWalk.i64_in _ (by omega)
  have p0_ : ¬ P = 0 := by omega
  have hW := h.keeps kw
  have hvW := Sl.keeps hv kw
  obtain ⟨ca3, fa3⟩ := id b3
  have hD := h.keeps (kw.trans (keeps_d0 w1))
  have z3 : w1.drew.cell? ⟨w.heap.size, 0, none⟩ = some (.slice A n c) := (b3.keeps (keeps_d0 w1)).1
  go_region_law ((first | (refine step_any (sAt_any (c := d) (Sl.keeps hvW kQ) HV.out hr0 hr1) (fun e w' hh => by obtain ⟨_, h, _⟩ := hh; exact ⟨_, h⟩) rfl (by kernel_rfl) ?_; intro v wB hh; obtain ⟨VA, eE, mV, kB⟩ := hh; cases eE; have hcz2 := cell_keeps hcz kB; have kR : Keeps w1 wB := kQ.trans kB; have sB := kQ.size; have b6B := b6.keeps kR; have y0 := (b6B.2 0 _ rfl).1; have x0 := (b6B.2 0 _ rfl).2; have y1 := (b6B.2 1 _ rfl).1; have x1 := (b6B.2 1 _ rfl).2; have y2 := (b6B.2 2 _ rfl).1; have x2 := (b6B.2 2 _ rfl).2) | (refine step_any (gLeaves_any (c := c) hD HG.out) (fun e w' hh => by obtain ⟨_, _, h, _⟩ := hh; exact ⟨_, h⟩) rfl (by kernel_rfl) ?_; intro v wA hh; obtain ⟨LA, LC, eE, mL, kA⟩ := hh; cases eE; have kQ : Keeps w1 wA := keeps_d kA; have rd := mL.1.at_ (k := q) (by rw [HLl.out]; exact hqn); obtain ⟨bl, ol, z, eL, hlo_, hhi_, hcz, hz⟩ := rd; subst eL; rw [HLl.out])))
  all_goals (
    have BB := hid (set3_cells b6B (.int .i64 z) (.int .i64 0) (.slice VA m m))
    have MM := hid ((mV.fr (fr_set3T (g := w.heap.size + 1) (.int .i64 z) (.int .i64 0) (.slice VA m m)) (by omega)).widen (lo' := w.heap.size) (hi' := (((wB.setCell ⟨w.heap.size + 1, 0, none⟩ (.int .i64 z)).setCell ⟨w.heap.size + 1, 1, none⟩ (.int .i64 0)).setCell ⟨w.heap.size + 1, 2, none⟩ (.slice VA m m)).heap.size) (by omega) (by simp [World.setCell]) (Nat.le_refl _))
    have KK := hid (below_set3T (show Below w.heap.size w wB from kw.trans kR) (g := w.heap.size + 1) (by omega) (.int .i64 z) (.int .i64 0) (.slice VA m m))
    have HZ := hid (show z = taLeaf ps l i by rw [HTA.out]; simpa using hz.out)
    clear mV b6B kR kQ z3 hD hcz hcz2 y0 y1 y2 x0 x1 x2 e1_ e2_ w1_ w2_ p0_ ca3 fa3 hz
    go_wp2_with fail
    have ca0_0 := (BB.out.2 0 _ rfl).1
    have ca0_1 := (BB.out.2 1 _ rfl).1
    have ca0_2 := (BB.out.2 2 _ rfl).1
    exact bodyPost_ret (v := .agg #[.int .i64 z, .int .i64 0, .slice VA m m]) (by simp [results, Try.results82, go_sem, ca0_0, ca0_1, ca0_2]) rfl ⟨VA, by rw [HZ.out], by rw [HTV.out]; exact MM.out, KK.out⟩)
end Go.Proofs.Ytellocnplemjmaa
