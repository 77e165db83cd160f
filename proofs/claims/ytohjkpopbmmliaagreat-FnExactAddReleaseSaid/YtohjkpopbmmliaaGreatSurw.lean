/- Surveys: valid or not; of the program and of the reference. -/
import Derived.Test.YtohjkpopbmmliaaGreatSurv
namespace Go.Proofs.YtohjkpopbmmliaaGreat
open Go.RowKit
set_option linter.unusedVariables false
set_option linter.unusedSimpArgs false

theorem mem_leaves {ps : List Int} {a : Int} : a ∈ leaves ps ↔ (0 ≤ a ∧ a < (ps.length : Int)) ∧ leafB ps a.toNat = true := by
  unfold leaves leavesTo
  rw [List.mem_map]
  constructor
  · rintro ⟨j, hj, rfl⟩
    rw [List.mem_filter, List.mem_range] at hj
    exact ⟨by omega, by simpa using hj.2⟩
  · rintro ⟨⟨h1, h2⟩, h3⟩
    exact ⟨a.toNat, by rw [List.mem_filter, List.mem_range]; exact ⟨by omega, h3⟩, by omega⟩
/-- An area without children. -/
def lvB (ps : List Int) (a : Int) : Bool := decide (a ∈ leaves ps)
theorem lvB_no {ps : List Int} {a : Int} (h : ¬ (0 ≤ a ∧ a < (ps.length : Int))) : lvB ps a = false := decide_eq_false fun e => h (mem_leaves.1 e).1
theorem lvB_eq {ps : List Int} {i : Nat} (h : i < ps.length) : lvB ps (i : Int) = leafB ps i := by
  unfold lvB
  rcases Bool.eq_false_or_eq_true (leafB ps i) with e | e
  · rw [e]; exact decide_eq_true (mem_leaves.2 ⟨by omega, by simpa using e⟩)
  · rw [e]; exact decide_eq_false fun q => by have := (mem_leaves.1 q).2; simp [e] at this
def surTo (ps : List Int) (rs : List RR) : Nat → Bool
  | 0 => true
  | k + 1 => surTo ps rs k && lvB ps (rs.getD k r0).1
/-- A survey, where the areas and the schema are valid. -/
def survB (ps : List Int) (l : List VV) (rs : List RR) : Bool := datB l rs && surTo ps rs rs.length
theorem surTo_bad {ps : List Int} {rs : List RR} {k n : Nat} (h : surTo ps rs k = false) (hn : k ≤ n) : surTo ps rs n = false := by
  induction n with
  | zero => obtain rfl : k = 0 := by omega
            exact h
  | succ n ih =>
    rcases Nat.lt_or_ge n k with h1 | h1
    · obtain rfl : k = n + 1 := by omega
      exact h
    · unfold surTo; rw [ih h1]; rfl
theorem surTo_row {ps : List Int} {rs : List RR} : ∀ n k, surTo ps rs n = true → k < n → lvB ps (rs.getD k r0).1 = true
  | 0, k, _, hk => absurd hk (by omega)
  | n + 1, k, h, hk => by
    unfold surTo at h
    simp only [Bool.and_eq_true] at h
    rcases Nat.lt_or_ge k n with h1 | h1
    · exact surTo_row n k h.1 h1
    · obtain rfl : k = n := by omega
      exact h.2
theorem survB_no {ps : List Int} {l : List VV} {rs : List RR} {n k : Nat} (hl : rs.length = n) (hk : k < n) (h : lvB ps (rs.getD k r0).1 = false) : survB ps l rs = false := by
  unfold survB; rw [hl, surTo_bad (k := k + 1) (by unfold surTo; rw [h, Bool.and_false]) hk, Bool.and_false]
theorem survB_dat {ps : List Int} {l : List VV} {rs : List RR} (h : datB l rs = false) : survB ps l rs = false := by unfold survB; rw [h]; rfl
theorem survB_yes {ps : List Int} {l : List VV} {rs : List RR} {n : Nat} (hl : rs.length = n) (h : datB l rs = true) (h2 : surTo ps rs n = true) : survB ps l rs = true := by unfold survB; rw [hl, h, h2]; rfl

set_option maxRecDepth 100000 in
set_option maxHeartbeats 1600000 in
theorem l1Has_any {A : Option Addr} {lo hi n c : Nat} {xs : List Int} {v : Int} {w : World} (h : Ints w lo hi A n xs) :
    Calls Tryz.prog 121 #[.slice A n c, .int .i64 v] w fun e w' => e = .returned (.bool (decide (v ∈ xs))) ∧ w = w' := by
  have hn := h.le
  have HL := hid h.1
  go_enter Tryz.func121, Tryz.ntmps121
  go_wp2_with fail
  go_loop [9] (fun i => ∃ k : Nat, k ≤ n ∧ i = .int .i64 k ∧ Hid (∀ j, j < k → v ≠ xs.getD j 0)) (fun i => n - (intOf i).toNat)
  case atStart => exact ⟨0, Nat.zero_le _, rfl, fun j hj => absurd hj (by omega)⟩
  case round =>
    obtain ⟨k, hk, rfl, HN⟩ := hrel
    by_cases hlt : k < n
    · obtain ⟨b, off, x, rfl, _, _, hc, hx⟩ := h.at_ hlt
      have hi1 : (k : Int) < (n : Int) := by omega
      by_cases he : x = v
      · subst he
        have HM := hid (mem_of_at HL.out hlt hx.out)
        clear hx
        have t1 : (x == x) = true := by simp
        go_wp2
        go_ret
        exact ⟨ret_bool (decide_eq_true HM.out).symm, rfl⟩
      · have t1 : (x == v) = false := by rw [beq_eq_false_iff_ne]; exact he
        have HE := hid he
        have HX := hid (show ∀ j, j < k + 1 → v ≠ xs.getD j 0 from fun j hj => by
          rcases Nat.lt_or_ge j k with h1 | h1
          · exact HN.out j h1
          · obtain rfl : j = k := by omega
            rw [← hx.out]; exact fun e => HE.out e.symm)
        clear he
        go_wp2
        go_round
        case rel => exact ⟨k + 1, by omega, by go_num, HX⟩
        case measure => simp [intOf]; omega
    · obtain rfl : k = n := by omega
      have HM := hid (not_mem_of HL.out HN.out)
      go_wp2
      go_ret
      exact ⟨ret_bool (decide_eq_false HM.out).symm, rfl⟩
set_option maxRecDepth 100000 in
set_option maxHeartbeats 1600000 in
theorem isAreaQ_any {A : Option Addr} {n c : Nat} {a : Int} {w : World} (hn : n ≤ 67108864) :
    Calls Tryz.prog 130 #[.agg #[.slice A n c], .int .i64 a] w fun e w' => e = .returned (.bool (inB a 0 ((n : Int) - 1))) ∧ Keeps w w' := by
  have b2 : B1 (w.alloc (.cells #[.slice A n c] 26)) w.heap.size (.slice A n c) := B1.new' rfl
  obtain ⟨ca, fa⟩ := id b2
  by_cases h0 : 0 ≤ a
  rotate_left
  · have HX := hid (inB_not (a := a) (lo := 0) (hi := (n : Int) - 1) (by omega))
    go_enter Tryz.func130, Tryz.ntmps130
    go_wp2
    go_ret
    exact ⟨ret_bool HX.out.symm, keeps_alloc _ _⟩
  by_cases h1 : a < (n : Int)
  · have HX := hid (inB_true (a := a) (lo := 0) (hi := (n : Int) - 1) |>.2 (by omega))
    go_enter Tryz.func130, Tryz.ntmps130
    go_wp2
    go_ret
    exact ⟨ret_bool HX.out.symm, keeps_alloc _ _⟩
  · have HX := hid (inB_not (a := a) (lo := 0) (hi := (n : Int) - 1) (by omega))
    go_enter Tryz.func130, Tryz.ntmps130
    go_wp2
    go_ret
    exact ⟨ret_bool HX.out.symm, keeps_alloc _ _⟩
theorem isLeafX_any {A : Option Addr} {lo hi n c : Nat} {x : Int} {ps : List Int} {w : World} (h : Ints w lo hi A n ps) (hg : ps.getD 0 0 = -1) (h0 : 0 ≤ x) :
    Calls Tryz.prog 131 #[.agg #[.slice A n c], .int .i64 x] w fun e w' => e = .returned (.bool (leafB ps x.toNat)) ∧ Keeps w w' := by
  have := isLeaf_any (c := c) (i := x.toNat) h hg
  rwa [Int.toNat_of_nonneg h0] at this
theorem lvB_at {ps : List Int} {x : Int} (h : 0 ≤ x ∧ x < (ps.length : Int)) : lvB ps x = leafB ps x.toNat := by
  have := lvB_eq (ps := ps) (i := x.toNat) (by omega)
  rwa [Int.toNat_of_nonneg h.1] at this
set_option maxRecDepth 100000 in
set_option maxHeartbeats 1600000 in
theorem dInput_any {A A' : Option Addr} {lo hi n c m d : Nat} {rs : List RR} {l : List VV} {w : World} (h : Recs w lo hi A n rs) (h' : Sch w A' m d l) (hlv : LvOk l m) (hs : schB l = true) :
    Calls Tryz.prog 119 #[.slice A' m d, .slice A n c] w fun e w' => e = .returned (.bool (datB l rs)) ∧ Keeps w w' := by
  obtain ⟨lo', hi', hv⟩ := h'.v
  have HLV := hid hlv
  have HS := hid hs
  clear hlv hs
  go_enter Tryz.func119, Tryz.ntmps119
  go_wp2_with fail
  refine (sGood_any hv h'.ok h'.cap h'.c64).mono ?_
  rintro e w1 ⟨rfl, k1⟩
  rw [HS.out]
  go_wp2_with fail
  refine (dGood_any (h.keeps k1) (h'.keeps k1) HLV.out).mono ?_
  rintro e w2 ⟨rfl, k2⟩
  obtain ⟨p, hp⟩ : ∃ p, datB l rs = p := ⟨_, rfl⟩
  rw [hp]
  have HP := hid hp
  clear hp
  go_wp2
  go_ret
  exact ⟨ret_bool HP.out.symm, k1.trans k2⟩
set_option maxRecDepth 100000 in
set_option maxHeartbeats 1600000 in
theorem isSurvey_any {A A' R : Option Addr} {lo hi n c m d lo3 hi3 q e : Nat} {ps : List Int} {l : List VV} {rs : List RR} {w : World} (h : Ints w lo hi A n ps) (h' : Sch w A' m d l) (hr : Recs w lo3 hi3 R q rs) (hg : geoB ps = true) (hs : schB l = true) :
    Calls Tryz.prog 79 #[.agg #[.slice A n c], .slice A' m d, .slice R q e] w fun e w' => e = .returned (.bool (survB ps l rs)) ∧ Keeps w w' := by
  obtain ⟨lo', hi', hv⟩ := h'.v
  have hl := Vars.len hv
  have HLV := hid (schB_lv hl hs).1
  have hn := h.le
  have hq := hr.le
  have HPL := hid h.1
  have HRL := hid hr.len
  have HG := hid hg
  have HG0 := hid (geoB_true.1 hg).2.1
  have HS := hid hs
  clear hl hg hs
  go_enter Tryz.func79, Tryz.ntmps79
  have kw := keeps_refl w
  replace kw := Keeps.trans kw (keeps_alloc w (.cells #[.slice A n c] 26))
  have b3 : B1 (w.alloc (.cells #[.slice A n c] 26)) w.heap.size (.slice A n c) := B1.new' (by simp)
  obtain ⟨ca1, fa1⟩ := id b3
  go_wp2_with fail
  clear ca1 fa1
  obtain ⟨pHD, HD⟩ : ∃ pB, Hid (datB l rs = pB) := ⟨_, rfl⟩
  refine (isData_any (hr.keeps kw) (h'.keeps kw) HLV.out).mono ?_
  rintro e w2 ⟨rfl, k2⟩
  rw [HD.out]
  replace b3 := b3.keeps k2
  replace kw := Keeps.trans kw k2
  have lt3 := b3.lt
  have sz4 := kw.size
  clear k2
  cases pHD
  · obtain ⟨ca5, fa5⟩ := id b3
    go_wp2_with fail
    clear ca5 fa5
    go_ret
    exact ⟨ret_bool (survB_dat HD.out).symm, kw⟩
  · skip
    obtain ⟨ca5, fa5⟩ := id b3
    go_wp2_with fail
    clear ca5 fa5
    go_loopw [15] (fun i wr => ∃ k : Nat, k ≤ q ∧ i = .int .i64 k ∧ Hid (surTo ps rs k = true) ∧ B1 wr w.heap.size (.slice A n c) ∧ Keeps w2 wr ∧ Keeps w wr) (fun i _ => q - (intOf i).toNat)
    case atStart => exact ⟨0, Nat.zero_le _, rfl, hid rfl, b3, keeps_refl _, kw⟩
    clear b3 kw
    case round =>
      obtain ⟨k, hk, rfl, HT, b3, kv, kw⟩ := hrel
      by_cases hlt : k < q
      · obtain ⟨b, off, x, y, B, z, c', zs, rfl, _, _, hc, hd, hv, hvi, hx⟩ := (hr.keeps kw).at_ hlt
        have hi1 : (k : Int) < (q : Int) := by omega
        have HX0 := hid (show (rs.getD k r0).1 = x by rw [← hx.out])
        clear hx hvi
        have lt3 := b3.lt
        replace b3 := b3.keeps (keeps_alloc wr (.cells #[.int .i64 x, .int .i64 y, .slice B z c'] 128))
        replace kw := Keeps.trans kw (keeps_alloc wr (.cells #[.int .i64 x, .int .i64 y, .slice B z c'] 128))
        replace kv := Keeps.trans kv (keeps_alloc wr (.cells #[.int .i64 x, .int .i64 y, .slice B z c'] 128))
        have b8 : Bl (wr.alloc (.cells #[.int .i64 x, .int .i64 y, .slice B z c'] 128)) wr.heap.size [.int .i64 x, .int .i64 y, .slice B z c'] := Bl.new' (by simp) (by simp)
        obtain ⟨ca6, fa6⟩ := id b3
        have ca7_0 : (wr.alloc (.cells #[.int .i64 x, .int .i64 y, .slice B z c'] 128)).cell? ⟨wr.heap.size, 0, none⟩ = some (.int .i64 x) := (b8.2 0 _ rfl).1
        have fa7_0 : (wr.alloc (.cells #[.int .i64 x, .int .i64 y, .slice B z c'] 128)).frozen? ⟨wr.heap.size, 0, none⟩ = false := (b8.2 0 _ rfl).2
        have ca7_1 : (wr.alloc (.cells #[.int .i64 x, .int .i64 y, .slice B z c'] 128)).cell? ⟨wr.heap.size, 1, none⟩ = some (.int .i64 y) := (b8.2 1 _ rfl).1
        have fa7_1 : (wr.alloc (.cells #[.int .i64 x, .int .i64 y, .slice B z c'] 128)).frozen? ⟨wr.heap.size, 1, none⟩ = false := (b8.2 1 _ rfl).2
        have ca7_2 : (wr.alloc (.cells #[.int .i64 x, .int .i64 y, .slice B z c'] 128)).cell? ⟨wr.heap.size, 2, none⟩ = some (.slice B z c') := (b8.2 2 _ rfl).1
        have fa7_2 : (wr.alloc (.cells #[.int .i64 x, .int .i64 y, .slice B z c'] 128)).frozen? ⟨wr.heap.size, 2, none⟩ = false := (b8.2 2 _ rfl).2
        go_wp2_with fail
        clear ca6 fa6 ca7_0 fa7_0 ca7_1 fa7_1 ca7_2 fa7_2
        obtain ⟨pH1, H1⟩ : ∃ pB, Hid (inB x 0 ((n : Int) - 1) = pB) := ⟨_, rfl⟩
        refine (isAreaQ_any hn).mono ?_
        rintro e w8 ⟨rfl, k8⟩
        rw [H1.out]
        replace b3 := b3.keeps k8
        replace b8 := b8.keeps k8
        replace kw := Keeps.trans kw k8
        replace kv := Keeps.trans kv k8
        have lt9 := b8.lt
        have sz10 := kw.size
        have sz11 := kv.size
        clear k8
        cases pH1
        · have HX := hid (survB_no (ps := ps) (l := l) HRL.out hlt (by rw [HX0.out]; exact lvB_no (by rw [HPL.out]; intro q; have := inB_true.2 (show 0 ≤ x ∧ x ≤ (n : Int) - 1 by omega); rw [H1.out] at this; cases this)))
          go_wp2_with fail
          go_ret
          exact ⟨ret_bool HX.out.symm, kw⟩
        · skip
          have hx2 := inB_true.1 H1.out
          obtain ⟨ca12, fa12⟩ := id b3
          have ca13_0 : w8.cell? ⟨wr.heap.size, 0, none⟩ = some (.int .i64 x) := (b8.2 0 _ rfl).1
          have fa13_0 : w8.frozen? ⟨wr.heap.size, 0, none⟩ = false := (b8.2 0 _ rfl).2
          have ca13_1 : w8.cell? ⟨wr.heap.size, 1, none⟩ = some (.int .i64 y) := (b8.2 1 _ rfl).1
          have fa13_1 : w8.frozen? ⟨wr.heap.size, 1, none⟩ = false := (b8.2 1 _ rfl).2
          have ca13_2 : w8.cell? ⟨wr.heap.size, 2, none⟩ = some (.slice B z c') := (b8.2 2 _ rfl).1
          have fa13_2 : w8.frozen? ⟨wr.heap.size, 2, none⟩ = false := (b8.2 2 _ rfl).2
          go_wp2_with fail
          clear ca12 fa12 ca13_0 fa13_0 ca13_1 fa13_1 ca13_2 fa13_2
          have HE := hid (lvB_at (ps := ps) (x := x) (by rw [HPL.out]; omega))
          obtain ⟨pH2, H2⟩ : ∃ pB, Hid (leafB ps x.toNat = pB) := ⟨_, rfl⟩
          refine (isLeafX_any (h.keeps kw) HG0.out hx2.1).mono ?_
          rintro e w14 ⟨rfl, k14⟩
          rw [H2.out]
          replace b3 := b3.keeps k14
          replace b8 := b8.keeps k14
          replace kw := Keeps.trans kw k14
          replace kv := Keeps.trans kv k14
          have lt15 := b8.lt
          have sz16 := kw.size
          have sz17 := kv.size
          clear k14
          cases pH2
          · have HX := hid (survB_no (ps := ps) (l := l) HRL.out hlt (by rw [HX0.out]; exact by rw [HE.out]; exact H2.out))
            go_wp2_with fail
            go_ret
            exact ⟨ret_bool HX.out.symm, kw⟩
          · skip
            obtain ⟨ca18, fa18⟩ := id b3
            have ca19_0 : w14.cell? ⟨wr.heap.size, 0, none⟩ = some (.int .i64 x) := (b8.2 0 _ rfl).1
            have fa19_0 : w14.frozen? ⟨wr.heap.size, 0, none⟩ = false := (b8.2 0 _ rfl).2
            have ca19_1 : w14.cell? ⟨wr.heap.size, 1, none⟩ = some (.int .i64 y) := (b8.2 1 _ rfl).1
            have fa19_1 : w14.frozen? ⟨wr.heap.size, 1, none⟩ = false := (b8.2 1 _ rfl).2
            have ca19_2 : w14.cell? ⟨wr.heap.size, 2, none⟩ = some (.slice B z c') := (b8.2 2 _ rfl).1
            have fa19_2 : w14.frozen? ⟨wr.heap.size, 2, none⟩ = false := (b8.2 2 _ rfl).2
            have HN := hid (show surTo ps rs (k + 1) = true by unfold surTo; rw [HT.out, HX0.out, HE.out, H2.out]; rfl)
            go_wp2_with fail
            clear ca18 fa18 ca19_0 fa19_0 ca19_1 fa19_1 ca19_2 fa19_2
            go_roundw
            case rel => exact ⟨k + 1, by omega, by go_num, HN, b3, kv, kw⟩
            case measure => simp [intOf]; omega
      · obtain rfl : k = q := by omega
        go_wp2
        go_ret
        exact ⟨ret_bool (survB_yes HRL.out HD.out HT.out).symm, kw⟩
set_option maxRecDepth 100000 in
set_option maxHeartbeats 1600000 in
theorem uSurvey_any {A A' R : Option Addr} {lo hi n c m d lo3 hi3 q e : Nat} {ps : List Int} {l : List VV} {rs : List RR} {w : World} (h : Ints w lo hi A n ps) (h' : Sch w A' m d l) (hr : Recs w lo3 hi3 R q rs) (hg : geoB ps = true) (hs : schB l = true) :
    Calls Tryz.prog 70 #[.agg #[.slice A n c], .slice A' m d, .slice R q e] w fun e w' => e = .returned (.bool (survB ps l rs)) ∧ Keeps w w' := by
  obtain ⟨lo', hi', hv⟩ := h'.v
  have hl := Vars.len hv
  have HLV := hid (schB_lv hl hs).1
  have hn := h.le
  have hq := hr.le
  have HPL := hid h.1
  have HRL := hid hr.len
  have HG := hid hg
  have HG0 := hid (geoB_true.1 hg).2.1
  have HS := hid hs
  clear hl hg hs
  go_enter Tryz.func70, Tryz.ntmps70
  have kw := keeps_refl w
  replace kw := Keeps.trans kw (keeps_alloc w (.cells #[.slice A n c] 26))
  have b3 : B1 (w.alloc (.cells #[.slice A n c] 26)) w.heap.size (.slice A n c) := B1.new' (by simp)
  obtain ⟨ca1, fa1⟩ := id b3
  go_wp2_with fail
  clear ca1 fa1
  refine (gGood_any (h.keeps kw)).mono ?_
  rintro e w2 ⟨rfl, k2⟩
  rw [HG.out]
  replace b3 := b3.keeps k2
  replace kw := Keeps.trans kw k2
  have lt3 := b3.lt
  have sz4 := kw.size
  clear k2
  go_wp2_with fail
  obtain ⟨pHD, HD⟩ : ∃ pB, Hid (datB l rs = pB) := ⟨_, rfl⟩
  refine (dInput_any (hr.keeps kw) (h'.keeps kw) HLV.out HS.out).mono ?_
  rintro e w5 ⟨rfl, k5⟩
  rw [HD.out]
  replace b3 := b3.keeps k5
  replace kw := Keeps.trans kw k5
  have lt6 := b3.lt
  have sz7 := kw.size
  clear k5
  cases pHD
  · obtain ⟨ca8, fa8⟩ := id b3
    go_wp2_with fail
    clear ca8 fa8
    go_ret
    exact ⟨ret_bool (survB_dat HD.out).symm, kw⟩
  · skip
    obtain ⟨ca8, fa8⟩ := id b3
    go_wp2_with fail
    clear ca8 fa8
    refine (gLeaves_any (h.keeps kw) HG.out).mono ?_
    rintro e w9 ⟨LA, LC, rfl, mL, k9⟩
    replace b3 := b3.keeps k9
    replace kw := Keeps.trans kw k9
    have lt10 := b3.lt
    have sz11 := kw.size
    clear k9
    obtain ⟨LN, hLN⟩ : ∃ a, (leaves ps).length = a := ⟨_, rfl⟩
    rw [hLN] at mL
    rw [hLN]
    clear hLN
    obtain ⟨ca12, fa12⟩ := id b3
    go_wp2_with fail
    clear ca12 fa12
    go_loopw [23] (fun i wr => ∃ k : Nat, k ≤ q ∧ i = .int .i64 k ∧ Hid (surTo ps rs k = true) ∧ B1 wr w.heap.size (.slice A n c) ∧ Keeps w9 wr ∧ Keeps w wr) (fun i _ => q - (intOf i).toNat)
    case atStart => exact ⟨0, Nat.zero_le _, rfl, hid rfl, b3, keeps_refl _, kw⟩
    clear b3 kw
    case round =>
      obtain ⟨k, hk, rfl, HT, b3, kv, kw⟩ := hrel
      by_cases hlt : k < q
      · obtain ⟨b, off, x, y, B, z, c', zs, rfl, _, _, hc, hd, hv, hvi, hx⟩ := (hr.keeps kw).at_ hlt
        have hi1 : (k : Int) < (q : Int) := by omega
        have HX0 := hid (show (rs.getD k r0).1 = x by rw [← hx.out])
        clear hx hvi
        have lt3 := b3.lt
        replace b3 := b3.keeps (keeps_alloc wr (.cells #[.int .i64 x, .int .i64 y, .slice B z c'] 128))
        replace kw := Keeps.trans kw (keeps_alloc wr (.cells #[.int .i64 x, .int .i64 y, .slice B z c'] 128))
        replace kv := Keeps.trans kv (keeps_alloc wr (.cells #[.int .i64 x, .int .i64 y, .slice B z c'] 128))
        have b8 : Bl (wr.alloc (.cells #[.int .i64 x, .int .i64 y, .slice B z c'] 128)) wr.heap.size [.int .i64 x, .int .i64 y, .slice B z c'] := Bl.new' (by simp) (by simp)
        obtain ⟨ca13, fa13⟩ := id b3
        have ca14_0 : (wr.alloc (.cells #[.int .i64 x, .int .i64 y, .slice B z c'] 128)).cell? ⟨wr.heap.size, 0, none⟩ = some (.int .i64 x) := (b8.2 0 _ rfl).1
        have fa14_0 : (wr.alloc (.cells #[.int .i64 x, .int .i64 y, .slice B z c'] 128)).frozen? ⟨wr.heap.size, 0, none⟩ = false := (b8.2 0 _ rfl).2
        have ca14_1 : (wr.alloc (.cells #[.int .i64 x, .int .i64 y, .slice B z c'] 128)).cell? ⟨wr.heap.size, 1, none⟩ = some (.int .i64 y) := (b8.2 1 _ rfl).1
        have fa14_1 : (wr.alloc (.cells #[.int .i64 x, .int .i64 y, .slice B z c'] 128)).frozen? ⟨wr.heap.size, 1, none⟩ = false := (b8.2 1 _ rfl).2
        have ca14_2 : (wr.alloc (.cells #[.int .i64 x, .int .i64 y, .slice B z c'] 128)).cell? ⟨wr.heap.size, 2, none⟩ = some (.slice B z c') := (b8.2 2 _ rfl).1
        have fa14_2 : (wr.alloc (.cells #[.int .i64 x, .int .i64 y, .slice B z c'] 128)).frozen? ⟨wr.heap.size, 2, none⟩ = false := (b8.2 2 _ rfl).2
        go_wp2_with fail
        clear ca13 fa13 ca14_0 fa14_0 ca14_1 fa14_1 ca14_2 fa14_2
        obtain ⟨pH1, H1⟩ : ∃ pB, Hid (decide (x ∈ leaves ps) = pB) := ⟨_, rfl⟩
        refine (l1Has_any (v := x) (mL.1.keeps kv)).mono ?_
        rintro e w' ⟨rfl, rfl⟩
        rw [H1.out]
        cases pH1
        · obtain ⟨ca15, fa15⟩ := id b3
          have ca16_0 : (wr.alloc (.cells #[.int .i64 x, .int .i64 y, .slice B z c'] 128)).cell? ⟨wr.heap.size, 0, none⟩ = some (.int .i64 x) := (b8.2 0 _ rfl).1
          have fa16_0 : (wr.alloc (.cells #[.int .i64 x, .int .i64 y, .slice B z c'] 128)).frozen? ⟨wr.heap.size, 0, none⟩ = false := (b8.2 0 _ rfl).2
          have ca16_1 : (wr.alloc (.cells #[.int .i64 x, .int .i64 y, .slice B z c'] 128)).cell? ⟨wr.heap.size, 1, none⟩ = some (.int .i64 y) := (b8.2 1 _ rfl).1
          have fa16_1 : (wr.alloc (.cells #[.int .i64 x, .int .i64 y, .slice B z c'] 128)).frozen? ⟨wr.heap.size, 1, none⟩ = false := (b8.2 1 _ rfl).2
          have ca16_2 : (wr.alloc (.cells #[.int .i64 x, .int .i64 y, .slice B z c'] 128)).cell? ⟨wr.heap.size, 2, none⟩ = some (.slice B z c') := (b8.2 2 _ rfl).1
          have fa16_2 : (wr.alloc (.cells #[.int .i64 x, .int .i64 y, .slice B z c'] 128)).frozen? ⟨wr.heap.size, 2, none⟩ = false := (b8.2 2 _ rfl).2
          have HX := hid (survB_no (ps := ps) (l := l) HRL.out hlt (by rw [HX0.out]; exact (show lvB ps x = _ from H1.out)))
          go_wp2_with fail
          clear ca15 fa15 ca16_0 fa16_0 ca16_1 fa16_1 ca16_2 fa16_2
          go_ret
          exact ⟨ret_bool HX.out.symm, kw⟩
        · skip
          obtain ⟨ca15, fa15⟩ := id b3
          have ca16_0 : (wr.alloc (.cells #[.int .i64 x, .int .i64 y, .slice B z c'] 128)).cell? ⟨wr.heap.size, 0, none⟩ = some (.int .i64 x) := (b8.2 0 _ rfl).1
          have fa16_0 : (wr.alloc (.cells #[.int .i64 x, .int .i64 y, .slice B z c'] 128)).frozen? ⟨wr.heap.size, 0, none⟩ = false := (b8.2 0 _ rfl).2
          have ca16_1 : (wr.alloc (.cells #[.int .i64 x, .int .i64 y, .slice B z c'] 128)).cell? ⟨wr.heap.size, 1, none⟩ = some (.int .i64 y) := (b8.2 1 _ rfl).1
          have fa16_1 : (wr.alloc (.cells #[.int .i64 x, .int .i64 y, .slice B z c'] 128)).frozen? ⟨wr.heap.size, 1, none⟩ = false := (b8.2 1 _ rfl).2
          have ca16_2 : (wr.alloc (.cells #[.int .i64 x, .int .i64 y, .slice B z c'] 128)).cell? ⟨wr.heap.size, 2, none⟩ = some (.slice B z c') := (b8.2 2 _ rfl).1
          have fa16_2 : (wr.alloc (.cells #[.int .i64 x, .int .i64 y, .slice B z c'] 128)).frozen? ⟨wr.heap.size, 2, none⟩ = false := (b8.2 2 _ rfl).2
          have HN := hid (show surTo ps rs (k + 1) = true by unfold surTo; rw [HT.out, HX0.out, (show lvB ps x = _ from H1.out)]; rfl)
          go_wp2_with fail
          clear ca15 fa15 ca16_0 fa16_0 ca16_1 fa16_1 ca16_2 fa16_2
          go_roundw
          case rel => exact ⟨k + 1, by omega, by go_num, HN, b3, kv, kw⟩
          case measure => simp [intOf]; omega
      · obtain rfl : k = q := by omega
        go_wp2
        go_ret
        exact ⟨ret_bool (survB_yes HRL.out HD.out HT.out).symm, kw⟩
end Go.Proofs.YtohjkpopbmmliaaGreat
