/- Records and surveys: valid or not; of the program and of the reference. -/
import Derived.Test.YtohjkpopbmmliaaGreatFit
namespace Go.Proofs.YtohjkpopbmmliaaGreat
open Go.RowKit
set_option linter.unusedVariables false
set_option linter.unusedSimpArgs false

/-- A record of a schema. -/
def recB (l : List VV) (r : RR) : Bool := inB r.1 0 29 && inB r.2.1 0 999 && fitB l r.2.2
theorem recB_no1 {l : List VV} {x y : Int} {zs : List Int} (h : inB x 0 29 = false) : recB l (x, y, zs) = false := by unfold recB; simp [h]
theorem recB_no2 {l : List VV} {x y : Int} {zs : List Int} (h : inB y 0 999 = false) : recB l (x, y, zs) = false := by unfold recB; simp [h]
theorem recB_eq {l : List VV} {x y : Int} {zs : List Int} (h : inB x 0 29 = true) (h2 : inB y 0 999 = true) : recB l (x, y, zs) = fitB l zs := by unfold recB; simp [h, h2]
theorem inB_not {a lo hi : Int} (h : ¬ (lo ≤ a ∧ a ≤ hi)) : inB a lo hi = false := by rw [Bool.eq_false_iff]; intro e; exact h (inB_true.1 e)
def datTo (l : List VV) (rs : List RR) : Nat → Bool
  | 0 => true
  | k + 1 => datTo l rs k && recB l (rs.getD k r0)
/-- Data of a schema. -/
def datB (l : List VV) (rs : List RR) : Bool := datTo l rs rs.length && decide (rs.length ≤ 40)
theorem datTo_bad {l : List VV} {rs : List RR} {k n : Nat} (h : datTo l rs k = false) (hn : k ≤ n) : datTo l rs n = false := by
  induction n with
  | zero => obtain rfl : k = 0 := by omega
            exact h
  | succ n ih =>
    rcases Nat.lt_or_ge n k with h1 | h1
    · obtain rfl : k = n + 1 := by omega
      exact h
    · unfold datTo; rw [ih h1]; rfl
theorem datTo_row {l : List VV} {rs : List RR} : ∀ n k, datTo l rs n = true → k < n → recB l (rs.getD k r0) = true
  | 0, k, _, hk => absurd hk (by omega)
  | n + 1, k, h, hk => by
    unfold datTo at h
    simp only [Bool.and_eq_true] at h
    rcases Nat.lt_or_ge k n with h1 | h1
    · exact datTo_row n k h.1 h1
    · obtain rfl : k = n := by omega
      exact h.2
theorem datB_no {l : List VV} {rs : List RR} {n k : Nat} (hl : rs.length = n) (hk : k < n) (h : recB l (rs.getD k r0) = false) : datB l rs = false := by
  unfold datB; rw [hl, datTo_bad (k := k + 1) (by unfold datTo; rw [h, Bool.and_false]) hk]; rfl
theorem datB_len {l : List VV} {rs : List RR} (h : ¬ rs.length ≤ 40) : datB l rs = false := by unfold datB; rw [decide_eq_false h, Bool.and_false]
theorem datB_yes {l : List VV} {rs : List RR} {n : Nat} (hl : rs.length = n) (h : datTo l rs n = true) : datB l rs = decide (n ≤ 40) := by unfold datB; rw [hl, h]; rfl

set_option maxRecDepth 100000 in
set_option maxHeartbeats 3200000 in
theorem isRecord_any {B A' : Option Addr} {lo hi m c n d : Nat} {x y : Int} {zs : List Int} {l : List VV} {w : World} (h : Ints w lo hi B m zs) (h' : Sch w A' n d l) (hlv : LvOk l n) :
    Calls Tryz.prog 168 #[.slice A' n d, .agg #[.int .i64 x, .int .i64 y, .slice B m c]] w fun e w' => e = .returned (.bool (recB l (x, y, zs))) ∧ Keeps w w' := by
  have HLV := hid hlv
  clear hlv
  go_enter Tryz.func168, Tryz.ntmps168
  have kw := keeps_refl w
  replace kw := Keeps.trans kw (keeps_alloc w (.cells #[.int .i64 x, .int .i64 y, .slice B m c] 128))
  have b3 : Bl (w.alloc (.cells #[.int .i64 x, .int .i64 y, .slice B m c] 128)) w.heap.size [.int .i64 x, .int .i64 y, .slice B m c] := Bl.new' (by simp) (by simp)
  have ca1_0 : (w.alloc (.cells #[.int .i64 x, .int .i64 y, .slice B m c] 128)).cell? ⟨w.heap.size, 0, none⟩ = some (.int .i64 x) := (b3.2 0 _ rfl).1
  have fa1_0 : (w.alloc (.cells #[.int .i64 x, .int .i64 y, .slice B m c] 128)).frozen? ⟨w.heap.size, 0, none⟩ = false := (b3.2 0 _ rfl).2
  have ca1_1 : (w.alloc (.cells #[.int .i64 x, .int .i64 y, .slice B m c] 128)).cell? ⟨w.heap.size, 1, none⟩ = some (.int .i64 y) := (b3.2 1 _ rfl).1
  have fa1_1 : (w.alloc (.cells #[.int .i64 x, .int .i64 y, .slice B m c] 128)).frozen? ⟨w.heap.size, 1, none⟩ = false := (b3.2 1 _ rfl).2
  have ca1_2 : (w.alloc (.cells #[.int .i64 x, .int .i64 y, .slice B m c] 128)).cell? ⟨w.heap.size, 2, none⟩ = some (.slice B m c) := (b3.2 2 _ rfl).1
  have fa1_2 : (w.alloc (.cells #[.int .i64 x, .int .i64 y, .slice B m c] 128)).frozen? ⟨w.heap.size, 2, none⟩ = false := (b3.2 2 _ rfl).2
  by_cases x0 : 0 ≤ x
  rotate_left
  · have HX := hid (recB_no1 (l := l) (x := x) (y := y) (zs := zs) (inB_not (a := x) (lo := 0) (hi := 29) (by omega)))
    go_wp2_with fail
    clear ca1_0 fa1_0 ca1_1 fa1_1 ca1_2 fa1_2
    go_ret
    exact ⟨ret_bool (HX.out).symm, kw⟩
  by_cases x1 : x ≤ 29
  rotate_left
  · have HX := hid (recB_no1 (l := l) (x := x) (y := y) (zs := zs) (inB_not (a := x) (lo := 0) (hi := 29) (by omega)))
    go_wp2_with fail
    clear ca1_0 fa1_0 ca1_1 fa1_1 ca1_2 fa1_2
    go_ret
    exact ⟨ret_bool (HX.out).symm, kw⟩
  by_cases y0 : 0 ≤ y
  rotate_left
  · have HX := hid (recB_no2 (l := l) (x := x) (y := y) (zs := zs) (inB_not (a := y) (lo := 0) (hi := 999) (by omega)))
    go_wp2_with fail
    clear ca1_0 fa1_0 ca1_1 fa1_1 ca1_2 fa1_2
    go_ret
    exact ⟨ret_bool (HX.out).symm, kw⟩
  by_cases y1 : y ≤ 999
  rotate_left
  · have HX := hid (recB_no2 (l := l) (x := x) (y := y) (zs := zs) (inB_not (a := y) (lo := 0) (hi := 999) (by omega)))
    go_wp2_with fail
    clear ca1_0 fa1_0 ca1_1 fa1_1 ca1_2 fa1_2
    go_ret
    exact ⟨ret_bool (HX.out).symm, kw⟩
  have HE := hid (recB_eq (l := l) (x := x) (y := y) (zs := zs) (inB_true.2 ⟨x0, x1⟩) (inB_true.2 ⟨y0, y1⟩))
  go_wp2_with fail
  clear ca1_0 fa1_0 ca1_1 fa1_1 ca1_2 fa1_2
  refine (areValues_any (h.keeps kw) (h'.keeps kw)).mono ?_
  rintro e w2 ⟨rfl, k2⟩
  replace b3 := b3.keeps k2
  replace kw := Keeps.trans kw k2
  have lt3 := b3.lt
  have sz4 := kw.size
  clear k2
  rw [← HE.out]
  obtain ⟨p, hp⟩ : ∃ p, recB l (x, y, zs) = p := ⟨_, rfl⟩
  rw [hp]
  have HP := hid hp
  clear hp HE
  go_wp2_with fail
  go_ret
  exact ⟨ret_bool HP.out.symm, kw⟩
set_option maxRecDepth 100000 in
set_option maxHeartbeats 3200000 in
theorem rGood_any {B A' : Option Addr} {lo hi m c n d : Nat} {x y : Int} {zs : List Int} {l : List VV} {w : World} (h : Ints w lo hi B m zs) (h' : Sch w A' n d l) (hlv : LvOk l n) :
    Calls Tryz.prog 190 #[.slice A' n d, .agg #[.int .i64 x, .int .i64 y, .slice B m c]] w fun e w' => e = .returned (.bool (recB l (x, y, zs))) ∧ Keeps w w' := by
  have HLV := hid hlv
  clear hlv
  go_enter Tryz.func190, Tryz.ntmps190
  have kw := keeps_refl w
  replace kw := Keeps.trans kw (keeps_alloc w (.cells #[.int .i64 x, .int .i64 y, .slice B m c] 128))
  have b3 : Bl (w.alloc (.cells #[.int .i64 x, .int .i64 y, .slice B m c] 128)) w.heap.size [.int .i64 x, .int .i64 y, .slice B m c] := Bl.new' (by simp) (by simp)
  have ca1_0 : (w.alloc (.cells #[.int .i64 x, .int .i64 y, .slice B m c] 128)).cell? ⟨w.heap.size, 0, none⟩ = some (.int .i64 x) := (b3.2 0 _ rfl).1
  have fa1_0 : (w.alloc (.cells #[.int .i64 x, .int .i64 y, .slice B m c] 128)).frozen? ⟨w.heap.size, 0, none⟩ = false := (b3.2 0 _ rfl).2
  have ca1_1 : (w.alloc (.cells #[.int .i64 x, .int .i64 y, .slice B m c] 128)).cell? ⟨w.heap.size, 1, none⟩ = some (.int .i64 y) := (b3.2 1 _ rfl).1
  have fa1_1 : (w.alloc (.cells #[.int .i64 x, .int .i64 y, .slice B m c] 128)).frozen? ⟨w.heap.size, 1, none⟩ = false := (b3.2 1 _ rfl).2
  have ca1_2 : (w.alloc (.cells #[.int .i64 x, .int .i64 y, .slice B m c] 128)).cell? ⟨w.heap.size, 2, none⟩ = some (.slice B m c) := (b3.2 2 _ rfl).1
  have fa1_2 : (w.alloc (.cells #[.int .i64 x, .int .i64 y, .slice B m c] 128)).frozen? ⟨w.heap.size, 2, none⟩ = false := (b3.2 2 _ rfl).2
  go_wp2_with fail
  clear ca1_0 fa1_0 ca1_1 fa1_1 ca1_2 fa1_2
  obtain ⟨pH1, H1⟩ : ∃ pB, Hid (inB x 0 29 = pB) := ⟨_, rfl⟩
  refine (l1In_any _ _ _ _).mono ?_
  rintro e w' ⟨rfl, rfl⟩
  rw [H1.out]
  cases pH1
  · have HX := hid (recB_no1 (l := l) (x := x) (y := y) (zs := zs) H1.out)
    have ca2_0 : (w.alloc (.cells #[.int .i64 x, .int .i64 y, .slice B m c] 128)).cell? ⟨w.heap.size, 0, none⟩ = some (.int .i64 x) := (b3.2 0 _ rfl).1
    have fa2_0 : (w.alloc (.cells #[.int .i64 x, .int .i64 y, .slice B m c] 128)).frozen? ⟨w.heap.size, 0, none⟩ = false := (b3.2 0 _ rfl).2
    have ca2_1 : (w.alloc (.cells #[.int .i64 x, .int .i64 y, .slice B m c] 128)).cell? ⟨w.heap.size, 1, none⟩ = some (.int .i64 y) := (b3.2 1 _ rfl).1
    have fa2_1 : (w.alloc (.cells #[.int .i64 x, .int .i64 y, .slice B m c] 128)).frozen? ⟨w.heap.size, 1, none⟩ = false := (b3.2 1 _ rfl).2
    have ca2_2 : (w.alloc (.cells #[.int .i64 x, .int .i64 y, .slice B m c] 128)).cell? ⟨w.heap.size, 2, none⟩ = some (.slice B m c) := (b3.2 2 _ rfl).1
    have fa2_2 : (w.alloc (.cells #[.int .i64 x, .int .i64 y, .slice B m c] 128)).frozen? ⟨w.heap.size, 2, none⟩ = false := (b3.2 2 _ rfl).2
    go_wp2_with fail
    clear ca2_0 fa2_0 ca2_1 fa2_1 ca2_2 fa2_2
    go_ret
    exact ⟨ret_bool (HX.out).symm, kw⟩
  · skip
    have ca2_0 : (w.alloc (.cells #[.int .i64 x, .int .i64 y, .slice B m c] 128)).cell? ⟨w.heap.size, 0, none⟩ = some (.int .i64 x) := (b3.2 0 _ rfl).1
    have fa2_0 : (w.alloc (.cells #[.int .i64 x, .int .i64 y, .slice B m c] 128)).frozen? ⟨w.heap.size, 0, none⟩ = false := (b3.2 0 _ rfl).2
    have ca2_1 : (w.alloc (.cells #[.int .i64 x, .int .i64 y, .slice B m c] 128)).cell? ⟨w.heap.size, 1, none⟩ = some (.int .i64 y) := (b3.2 1 _ rfl).1
    have fa2_1 : (w.alloc (.cells #[.int .i64 x, .int .i64 y, .slice B m c] 128)).frozen? ⟨w.heap.size, 1, none⟩ = false := (b3.2 1 _ rfl).2
    have ca2_2 : (w.alloc (.cells #[.int .i64 x, .int .i64 y, .slice B m c] 128)).cell? ⟨w.heap.size, 2, none⟩ = some (.slice B m c) := (b3.2 2 _ rfl).1
    have fa2_2 : (w.alloc (.cells #[.int .i64 x, .int .i64 y, .slice B m c] 128)).frozen? ⟨w.heap.size, 2, none⟩ = false := (b3.2 2 _ rfl).2
    go_wp2_with fail
    clear ca2_0 fa2_0 ca2_1 fa2_1 ca2_2 fa2_2
    obtain ⟨pH2, H2⟩ : ∃ pB, Hid (inB y 0 999 = pB) := ⟨_, rfl⟩
    refine (l1In_any _ _ _ _).mono ?_
    rintro e w' ⟨rfl, rfl⟩
    rw [H2.out]
    cases pH2
    · have HX := hid (recB_no2 (l := l) (x := x) (y := y) (zs := zs) H2.out)
      have ca3_0 : (w.alloc (.cells #[.int .i64 x, .int .i64 y, .slice B m c] 128)).cell? ⟨w.heap.size, 0, none⟩ = some (.int .i64 x) := (b3.2 0 _ rfl).1
      have fa3_0 : (w.alloc (.cells #[.int .i64 x, .int .i64 y, .slice B m c] 128)).frozen? ⟨w.heap.size, 0, none⟩ = false := (b3.2 0 _ rfl).2
      have ca3_1 : (w.alloc (.cells #[.int .i64 x, .int .i64 y, .slice B m c] 128)).cell? ⟨w.heap.size, 1, none⟩ = some (.int .i64 y) := (b3.2 1 _ rfl).1
      have fa3_1 : (w.alloc (.cells #[.int .i64 x, .int .i64 y, .slice B m c] 128)).frozen? ⟨w.heap.size, 1, none⟩ = false := (b3.2 1 _ rfl).2
      have ca3_2 : (w.alloc (.cells #[.int .i64 x, .int .i64 y, .slice B m c] 128)).cell? ⟨w.heap.size, 2, none⟩ = some (.slice B m c) := (b3.2 2 _ rfl).1
      have fa3_2 : (w.alloc (.cells #[.int .i64 x, .int .i64 y, .slice B m c] 128)).frozen? ⟨w.heap.size, 2, none⟩ = false := (b3.2 2 _ rfl).2
      go_wp2_with fail
      clear ca3_0 fa3_0 ca3_1 fa3_1 ca3_2 fa3_2
      go_ret
      exact ⟨ret_bool (HX.out).symm, kw⟩
    · skip
      have ca3_0 : (w.alloc (.cells #[.int .i64 x, .int .i64 y, .slice B m c] 128)).cell? ⟨w.heap.size, 0, none⟩ = some (.int .i64 x) := (b3.2 0 _ rfl).1
      have fa3_0 : (w.alloc (.cells #[.int .i64 x, .int .i64 y, .slice B m c] 128)).frozen? ⟨w.heap.size, 0, none⟩ = false := (b3.2 0 _ rfl).2
      have ca3_1 : (w.alloc (.cells #[.int .i64 x, .int .i64 y, .slice B m c] 128)).cell? ⟨w.heap.size, 1, none⟩ = some (.int .i64 y) := (b3.2 1 _ rfl).1
      have fa3_1 : (w.alloc (.cells #[.int .i64 x, .int .i64 y, .slice B m c] 128)).frozen? ⟨w.heap.size, 1, none⟩ = false := (b3.2 1 _ rfl).2
      have ca3_2 : (w.alloc (.cells #[.int .i64 x, .int .i64 y, .slice B m c] 128)).cell? ⟨w.heap.size, 2, none⟩ = some (.slice B m c) := (b3.2 2 _ rfl).1
      have fa3_2 : (w.alloc (.cells #[.int .i64 x, .int .i64 y, .slice B m c] 128)).frozen? ⟨w.heap.size, 2, none⟩ = false := (b3.2 2 _ rfl).2
      go_wp2_with fail
      clear ca3_0 fa3_0 ca3_1 fa3_1 ca3_2 fa3_2
      have HE := hid (recB_eq (l := l) (x := x) (y := y) (zs := zs) H1.out H2.out)
      refine (sFits_any (h.keeps kw) (h'.keeps kw) HLV.out).mono ?_
      rintro e w4 ⟨rfl, k4⟩
      replace b3 := b3.keeps k4
      replace kw := Keeps.trans kw k4
      have lt5 := b3.lt
      have sz6 := kw.size
      clear k4
      rw [← HE.out]
      obtain ⟨p, hp⟩ : ∃ p, recB l (x, y, zs) = p := ⟨_, rfl⟩
      rw [hp]
      have HP := hid hp
      clear hp HE
      go_wp2_with fail
      go_ret
      exact ⟨ret_bool HP.out.symm, kw⟩
set_option maxRecDepth 100000 in
set_option maxHeartbeats 3200000 in
theorem isData_any {A A' : Option Addr} {lo hi n c m d : Nat} {rs : List RR} {l : List VV} {w : World} (h : Recs w lo hi A n rs) (h' : Sch w A' m d l) (hlv : LvOk l m) :
    Calls Tryz.prog 129 #[.slice A' m d, .slice A n c] w fun e w' => e = .returned (.bool (datB l rs)) ∧ Keeps w w' := by
  have HLV := hid hlv
  have hn := h.le
  have HL := hid h.len
  clear hlv
  by_cases h40 : n ≤ 40
  rotate_left
  · have HX := hid (datB_len (l := l) (rs := rs) (by rw [HL.out]; exact h40))
    go_enter Tryz.func129, Tryz.ntmps129
    go_wp2
    go_ret
    exact ⟨ret_bool HX.out.symm, keeps_refl _⟩
  have HD := hid (decide_eq_true h40)
  go_enter Tryz.func129, Tryz.ntmps129
  go_wp2_with fail
  go_loopw [12] (fun i wr => ∃ k : Nat, k ≤ n ∧ i = .int .i64 k ∧ Hid (datTo l rs k = true) ∧ Keeps w wr) (fun i _ => n - (intOf i).toNat)
  case atStart => exact ⟨0, Nat.zero_le _, rfl, hid rfl, keeps_refl _⟩
  case round =>
    obtain ⟨k, hk, rfl, HT, kw⟩ := hrel
    by_cases hlt : k < n
    · obtain ⟨b, off, x, y, B, m, c', zs, rfl, _, _, hc, hd, hv, hr, hx⟩ := (h.keeps kw).at_ hlt
      have hi1 : (k : Int) < (n : Int) := by omega
      have kA := kw.trans (keeps_alloc wr (.cells #[.int .i64 x, .int .i64 y, .slice B m c'] 128))
      have hrA := hr.keeps (keeps_alloc wr (.cells #[.int .i64 x, .int .i64 y, .slice B m c'] 128))
      obtain ⟨p, HP⟩ : ∃ p, Hid (recB l (x, y, zs) = p) := ⟨_, rfl⟩
      have HP2 := hid (show recB l (rs.getD k r0) = p by rw [← hx.out]; exact HP.out)
      clear hr hx
      go_wp2_with fail
      refine (isRecord_any (x := x) (y := y) (c := c') hrA (h'.keeps kA) HLV.out).mono ?_
      rintro e w1 ⟨rfl, k1⟩
      rw [HP.out]
      have kB := kA.trans k1
      clear k1 kA hc hd hv hrA
      cases p
      · have HX := hid (datB_no HL.out hlt HP2.out)
        go_wp2
        go_ret
        exact ⟨ret_bool HX.out.symm, kB⟩
      · have HN := hid (show datTo l rs (k + 1) = true by unfold datTo; rw [HT.out, HP2.out]; rfl)
        go_wp2
        go_roundw
        case rel => exact ⟨k + 1, by omega, by go_num, HN, kB⟩
        case measure => simp [intOf]; omega
    · obtain rfl : k = n := by omega
      have HX := hid (datB_yes HL.out HT.out)
      go_wp2
      go_ret
      exact ⟨ret_bool (by rw [HX.out, HD.out]), kw⟩
set_option maxRecDepth 100000 in
set_option maxHeartbeats 3200000 in
theorem dGood_any {A A' : Option Addr} {lo hi n c m d : Nat} {rs : List RR} {l : List VV} {w : World} (h : Recs w lo hi A n rs) (h' : Sch w A' m d l) (hlv : LvOk l m) :
    Calls Tryz.prog 156 #[.slice A' m d, .slice A n c] w fun e w' => e = .returned (.bool (datB l rs)) ∧ Keeps w w' := by
  have HLV := hid hlv
  have hn := h.le
  have HL := hid h.len
  clear hlv
  go_enter Tryz.func156, Tryz.ntmps156
  go_wp2_with fail
  go_loopw [9] (fun i wr => ∃ k : Nat, k ≤ n ∧ i = .int .i64 k ∧ Hid (datTo l rs k = true) ∧ Keeps w wr) (fun i _ => n - (intOf i).toNat)
  case atStart => exact ⟨0, Nat.zero_le _, rfl, hid rfl, keeps_refl _⟩
  case round =>
    obtain ⟨k, hk, rfl, HT, kw⟩ := hrel
    by_cases hlt : k < n
    · obtain ⟨b, off, x, y, B, m, c', zs, rfl, _, _, hc, hd, hv, hr, hx⟩ := (h.keeps kw).at_ hlt
      have hi1 : (k : Int) < (n : Int) := by omega
      have kA := kw.trans (keeps_alloc wr (.cells #[.int .i64 x, .int .i64 y, .slice B m c'] 128))
      have hrA := hr.keeps (keeps_alloc wr (.cells #[.int .i64 x, .int .i64 y, .slice B m c'] 128))
      obtain ⟨p, HP⟩ : ∃ p, Hid (recB l (x, y, zs) = p) := ⟨_, rfl⟩
      have HP2 := hid (show recB l (rs.getD k r0) = p by rw [← hx.out]; exact HP.out)
      clear hr hx
      go_wp2_with fail
      refine (rGood_any (x := x) (y := y) (c := c') hrA (h'.keeps kA) HLV.out).mono ?_
      rintro e w1 ⟨rfl, k1⟩
      rw [HP.out]
      have kB := kA.trans k1
      clear k1 kA hc hd hv hrA
      cases p
      · have HX := hid (datB_no HL.out hlt HP2.out)
        go_wp2
        go_ret
        exact ⟨ret_bool HX.out.symm, kB⟩
      · have HN := hid (show datTo l rs (k + 1) = true by unfold datTo; rw [HT.out, HP2.out]; rfl)
        go_wp2
        go_roundw
        case rel => exact ⟨k + 1, by omega, by go_num, HN, kB⟩
        case measure => simp [intOf]; omega
    · obtain rfl : k = n := by omega
      have HX := hid (datB_yes HL.out HT.out)
      by_cases h40 : k ≤ 40
      · have HD := hid (decide_eq_true h40)
        go_wp2
        go_ret
        exact ⟨ret_bool (by rw [HX.out, HD.out]; exact decide_eq_true (by omega)), kw⟩
      · have HD := hid (decide_eq_false h40)
        go_wp2
        go_ret
        exact ⟨ret_bool (by rw [HX.out, HD.out]; exact decide_eq_false (by omega)), kw⟩
end Go.Proofs.YtohjkpopbmmliaaGreat
