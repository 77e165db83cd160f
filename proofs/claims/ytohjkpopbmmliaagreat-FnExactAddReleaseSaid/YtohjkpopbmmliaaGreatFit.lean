/- Values of a record, records: valid or not; of the program and of the reference. -/
import Derived.Test.YtohjkpopbmmliaaGreatRecH
import Derived.Test.YtohjkpopbmmliaaGreatTaF
namespace Go.Proofs.YtohjkpopbmmliaaGreat
open Go.RowKit
set_option linter.unusedVariables false
set_option linter.unusedSimpArgs false

def fitRow (l : List VV) (vs : List Int) (k : Nat) : Bool := inB (vs.getD k 0) 0 ((l.getD k v0).2 - 1)
def fitTo (l : List VV) (vs : List Int) : Nat → Bool
  | 0 => true
  | k + 1 => fitTo l vs k && fitRow l vs k
/-- One value for each variable. -/
def fitB (l : List VV) (vs : List Int) : Bool := decide (vs.length = l.length) && fitTo l vs l.length
theorem fitTo_bad {l : List VV} {vs : List Int} {k n : Nat} (h : fitTo l vs k = false) (hn : k ≤ n) : fitTo l vs n = false := by
  induction n with
  | zero => obtain rfl : k = 0 := by omega
            exact h
  | succ n ih =>
    rcases Nat.lt_or_ge n k with h1 | h1
    · obtain rfl : k = n + 1 := by omega
      exact h
    · unfold fitTo; rw [ih h1]; rfl
theorem fitTo_row {l : List VV} {vs : List Int} : ∀ n k, fitTo l vs n = true → k < n → fitRow l vs k = true
  | 0, k, _, hk => absurd hk (by omega)
  | n + 1, k, h, hk => by
    unfold fitTo at h
    simp only [Bool.and_eq_true] at h
    rcases Nat.lt_or_ge k n with h1 | h1
    · exact fitTo_row n k h.1 h1
    · obtain rfl : k = n := by omega
      exact h.2
theorem fitB_no {l : List VV} {vs : List Int} {n k : Nat} (hl : l.length = n) (hk : k < n) (h : fitRow l vs k = false) : fitB l vs = false := by
  unfold fitB; rw [hl, fitTo_bad (k := k + 1) (by unfold fitTo; rw [h, Bool.and_false]) hk, Bool.and_false]
theorem fitB_yes {l : List VV} {vs : List Int} {n : Nat} (hl : l.length = n) (hv : vs.length = n) (h : fitTo l vs n = true) : fitB l vs = true := by
  unfold fitB; rw [hl, h, hv]; simp
theorem fitB_len {l : List VV} {vs : List Int} (h : vs.length ≠ l.length) : fitB l vs = false := by
  unfold fitB; rw [decide_eq_false h]; rfl
theorem fitB_row {l : List VV} {vs : List Int} {k : Nat} (h : fitB l vs = true) (hk : k < l.length) : vs.length = l.length ∧ 0 ≤ vs.getD k 0 ∧ vs.getD k 0 ≤ (l.getD k v0).2 - 1 := by
  unfold fitB at h
  simp only [Bool.and_eq_true, decide_eq_true_eq] at h
  have := inB_true.1 (fitTo_row _ k h.2 hk)
  exact ⟨h.1, this⟩
set_option maxRecDepth 100000 in
set_option maxHeartbeats 3200000 in
theorem areValues_any {A A' : Option Addr} {lo hi n c m d : Nat} {vs : List Int} {l : List VV} {w : World} (h : Ints w lo hi A n vs) (h' : Sch w A' m d l) :
    Calls Tryz.prog 191 #[.slice A' m d, .slice A n c] w fun e w' => e = .returned (.bool (fitB l vs)) ∧ Keeps w w' := by
  obtain ⟨lo', hi', hv⟩ := h'.v
  have hl := Vars.len hv
  have hn := h.le
  have hm := hv.le
  have hvl := h.1
  have HL := hid hl
  have HVL := hid hvl
  clear hl hvl
  by_cases hnm : n = m
  rotate_left
  · have hb : ((n : Int) != (m : Int)) = true := by simp; omega
    have HX := hid (fitB_len (l := l) (vs := vs) (by rw [HL.out, HVL.out]; exact hnm))
    go_enter Tryz.func191, Tryz.ntmps191
    go_wp2
    go_ret
    exact ⟨ret_bool HX.out.symm, keeps_refl _⟩
  subst hnm
  have hb : ((n : Int) != (n : Int)) = false := by simp
  go_enter Tryz.func191, Tryz.ntmps191
  go_wp2_with fail
  go_loopw [14] (fun i wr => ∃ k : Nat, k ≤ n ∧ i = .int .i64 k ∧ Hid (fitTo l vs k = true) ∧ Keeps w wr) (fun i _ => n - (intOf i).toNat)
  case atStart => exact ⟨0, Nat.zero_le _, rfl, hid rfl, keeps_refl _⟩
  case round =>
    obtain ⟨k, hk, rfl, HT, kw⟩ := hrel
    by_cases hlt : k < n
    · obtain ⟨b, off, x, y, rfl, _, _, hc, hd, hx⟩ := Vars.at_ (Sl.keeps hv kw) hlt
      obtain ⟨bi, oi, z, rfl, _, _, hci, hz⟩ := (h.keeps kw).at_ hlt
      have hi1 : (k : Int) < (n : Int) := by omega
      have HR := hid (show fitRow l vs k = inB z 0 (y - 1) by unfold fitRow; rw [← hx.out, ← hz.out])
      by_cases z0 : z < 0
      · have HX := hid (fitB_no HL.out hlt (show fitRow l vs k = false by rw [HR.out, Bool.eq_false_iff]; intro e; have := inB_true.1 e; omega))
        go_wp2
        go_ret
        exact ⟨ret_bool HX.out.symm, kw⟩
      by_cases z1 : y ≤ z
      · have HX := hid (fitB_no HL.out hlt (show fitRow l vs k = false by rw [HR.out, Bool.eq_false_iff]; intro e; have := inB_true.1 e; omega))
        go_wp2
        go_ret
        exact ⟨ret_bool HX.out.symm, kw⟩
      have HN := hid (show fitTo l vs (k + 1) = true by unfold fitTo; rw [HT.out, HR.out, inB_true.2 (by omega)]; rfl)
      go_wp2
      go_roundw
      case rel => exact ⟨k + 1, by omega, by go_num, HN, kw⟩
      case measure => simp [intOf]; omega
    · obtain rfl : k = n := by omega
      go_wp2
      go_ret
      exact ⟨ret_bool (fitB_yes HL.out HVL.out HT.out).symm, kw⟩
set_option maxRecDepth 100000 in
set_option maxHeartbeats 3200000 in
theorem sFits_any {A A' : Option Addr} {lo hi n c m d : Nat} {vs : List Int} {l : List VV} {w : World} (h : Ints w lo hi A n vs) (h' : Sch w A' m d l) (hlv : LvOk l m) :
    Calls Tryz.prog 203 #[.slice A' m d, .slice A n c] w fun e w' => e = .returned (.bool (fitB l vs)) ∧ Keeps w w' := by
  have HLV := hid hlv
  clear hlv
  obtain ⟨lo', hi', hv⟩ := h'.v
  have hl := Vars.len hv
  have hn := h.le
  have hm := hv.le
  have hvl := h.1
  have HL := hid hl
  have HVL := hid hvl
  clear hl hvl
  by_cases hnm : n = m
  rotate_left
  · have hb : ((n : Int) != (m : Int)) = true := by simp; omega
    have HX := hid (fitB_len (l := l) (vs := vs) (by rw [HL.out, HVL.out]; exact hnm))
    go_enter Tryz.func203, Tryz.ntmps203
    go_wp2
    go_ret
    exact ⟨ret_bool HX.out.symm, keeps_refl _⟩
  subst hnm
  have hb : ((n : Int) != (n : Int)) = false := by simp
  go_enter Tryz.func203, Tryz.ntmps203
  go_wp2_with fail
  go_loopw [14] (fun i wr => ∃ k : Nat, k ≤ n ∧ i = .int .i64 k ∧ Hid (fitTo l vs k = true) ∧ Keeps w wr) (fun i _ => n - (intOf i).toNat)
  case atStart => exact ⟨0, Nat.zero_le _, rfl, hid rfl, keeps_refl _⟩
  case round =>
    obtain ⟨k, hk, rfl, HT, kw⟩ := hrel
    by_cases hlt : k < n
    · obtain ⟨b, off, x, y, rfl, _, _, hc, hd, hx⟩ := Vars.at_ (Sl.keeps hv kw) hlt
      have hA := (h.keeps kw).at_ hlt
      obtain ⟨bi, oi, z, rfl, _, _, hci, hz⟩ := hA
      have hi1 : (k : Int) < (n : Int) := by omega
      have HR := hid (show fitRow l vs k = inB z 0 (y - 1) by unfold fitRow; rw [← hx.out, ← hz.out])
      have hyb := HLV.out k (by omega)
      rw [← hx.out] at hyb
      dsimp only at hyb
      obtain ⟨p, HP⟩ : ∃ p, Hid (inB z 0 (y - 1) = p) := ⟨_, rfl⟩
      have b4 : Bl (wr.alloc (.cells #[.string x, .int .i64 y] 126)) wr.heap.size [.string x, .int .i64 y] := Bl.new' rfl (by simp)
      have kA := kw.trans (keeps_alloc wr (.cells #[.string x, .int .i64 y] 126))
      have kD := hid (kA.trans (keeps_d0 (wr.alloc (.cells #[.string x, .int .i64 y] 126))))
      have hci2 := cell_keeps hci (keeps_alloc wr (.cells #[.string x, .int .i64 y] 126))
      have ca0 := (b4.2 0 _ rfl).1
      have ca1 := (b4.2 1 _ rfl).1
      have HX1 := hid (show p = false → fitB l vs = false from fun e => fitB_no HL.out hlt (by rw [HR.out, HP.out, e]))
      have HX2 := hid (show p = true → fitTo l vs (k + 1) = true from fun e => by unfold fitTo; rw [HT.out, HR.out, HP.out, e]; rfl)
      go_wp2_with fail
      have kQ := hid (kA.trans (keeps_d0 (wr.alloc (.cells #[.string x, .int .i64 y] 126))))
      go_quiet ((go_at_call 126; exact quietS (l1In_any _ _ _ _)))
      rw [HP.out]
      cases p
      · go_wp2
        go_ret
        exact ⟨ret_bool (by first | exact HX1.out rfl | exact HX1.out trivial | exact HX1.out : fitB l vs = false).symm, kA.trans (Keeps.drewN _ _)⟩
      · go_wp2
        go_roundw
        case rel => exact ⟨k + 1, by omega, by go_num, hid (by first | exact HX2.out rfl | exact HX2.out trivial | exact HX2.out), kA.trans (Keeps.drewN _ _)⟩
        case measure => simp [intOf]; omega
    · obtain rfl : k = n := by omega
      go_wp2
      go_ret
      exact ⟨ret_bool (fitB_yes HL.out HVL.out HT.out).symm, kw⟩
end Go.Proofs.YtohjkpopbmmliaaGreat
