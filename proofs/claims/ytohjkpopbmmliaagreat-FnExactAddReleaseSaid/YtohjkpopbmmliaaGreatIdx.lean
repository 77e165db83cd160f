/- The index of a record's values, the place of a number in a list: of the program and of the reference. -/
import Derived.Test.YtohjkpopbmmliaaGreatSurw
namespace Go.Proofs.YtohjkpopbmmliaaGreat
open Go.RowKit
set_option linter.unusedVariables false
set_option linter.unusedSimpArgs false

def ixTo (l : List VV) (vs : List Int) : Nat → Int
  | 0 => 0
  | k + 1 => ixTo l vs k * (l.getD k v0).2 + vs.getD k 0
theorem ixTo_bd {l : List VV} {vs : List Int} (hf : fitB l vs = true) (hv : LvOk l l.length) : ∀ k, k ≤ l.length → 0 ≤ ixTo l vs k ∧ ixTo l vs k + 1 ≤ prodTo l k
  | 0, _ => by simp [ixTo, prodTo]
  | k + 1, hk => by
    have ih := ixTo_bd hf hv k (by omega)
    have h1 := hv k (by omega)
    have h2 := (fitB_row hf (k := k) (by omega)).2
    show 0 ≤ ixTo l vs k * (l.getD k v0).2 + vs.getD k 0 ∧ ixTo l vs k * (l.getD k v0).2 + vs.getD k 0 + 1 ≤ prodTo l k * (l.getD k v0).2
    generalize (l.getD k v0).2 = L at *
    generalize vs.getD k 0 = v at *
    generalize ixTo l vs k = I at *
    generalize prodTo l k = P at *
    have h3 : 0 ≤ I * L := Int.mul_nonneg ih.1 (by omega)
    have h4 : (I + 1) * L ≤ P * L := Int.mul_le_mul_of_nonneg_right ih.2 (by omega)
    rw [Int.add_mul, Int.one_mul] at h4
    omega
set_option maxRecDepth 100000 in
set_option maxHeartbeats 1600000 in
theorem indexOfValues_any {A A' : Option Addr} {lo hi n c m d : Nat} {vs : List Int} {l : List VV} {w : World} (h : Ints w lo hi A n vs) (h' : Sch w A' m d l) (hf : fitB l vs = true) (hlv : LvOk l m) (h6 : m ≤ 6) :
    Calls Tryz.prog 205 #[.slice A' m d, .slice A n c] w fun e w' => e = .returned (.int .i64 (ixTo l vs m)) ∧ Keeps w w' := by
  obtain ⟨lo', hi', hv⟩ := h'.v
  have hl := Vars.len hv
  obtain rfl : n = m := by
    have h1 := h.1
    unfold fitB at hf
    simp only [Bool.and_eq_true, decide_eq_true_eq] at hf
    omega
  have HLV := hid hlv
  have HB := hid (fun k (hk : k ≤ n) => ixTo_bd hf (by rw [hl]; exact hlv) k (by omega))
  have HP := hid (fun k (hk : k ≤ n) => prodTo_bd hlv k hk)
  have HF := hid (fun k (hk : k < n) => (fitB_row hf (k := k) (by omega)).2)
  clear hlv hf hl
  go_enter Tryz.func205, Tryz.ntmps205
  go_wp2_with fail
  go_loopw [5, 10] (fun p i wr => ∃ k : Nat, k ≤ n ∧ i = .int .i64 k ∧ p = .int .i64 (ixTo l vs k) ∧ Keeps w wr) (fun _ i _ => n - (intOf i).toNat)
  case atStart => exact ⟨0, Nat.zero_le _, rfl, rfl, keeps_refl _⟩
  case round =>
    obtain ⟨k, hk, rfl, rfl, kw⟩ := hrel
    by_cases hlt : k < n
    · obtain ⟨b, off, x, y, rfl, _, _, hc, hd, hx⟩ := Vars.at_ (Sl.keeps hv kw) hlt
      obtain ⟨bi, oi, z, rfl, _, _, hci, hz⟩ := (h.keeps kw).at_ hlt
      have hi1 : (k : Int) < (n : Int) := by omega
      have hy0 : y = (l.getD k v0).2 := congrArg Prod.snd hx.out
      have e1 : ixTo l vs (k + 1) = ixTo l vs k * y + z := by show ixTo l vs k * (l.getD k v0).2 + vs.getD k 0 = _; rw [← hy0, ← hz.out]
      have hP := HP.out (k + 1) (by omega)
      have hp7 := pow8 (k := k + 1) (by omega)
      have hB := HB.out k (by omega)
      have hB1 := HB.out (k + 1) (by omega)
      have hzb := HF.out k hlt
      rw [← hz.out] at hzb
      rw [e1] at hB1
      have hyb := HLV.out k hlt
      rw [← hy0] at hyb
      have E1 := hid e1
      have KA := hid (kw.trans (keeps_alloc wr (.cells #[.string x, .int .i64 y] 126)))
      have hci2 := cell_keeps hci (keeps_alloc wr (.cells #[.string x, .int .i64 y] 126))
      clear e1 hx hy0
      obtain ⟨I, hI⟩ : ∃ I, ixTo l vs k = I := ⟨_, rfl⟩
      rw [hI] at hB hB1 E1 ⊢
      clear hI
      have hb1 : 0 ≤ I * y + z := hB1.1
      have hb2 : I * y + z ≤ 262144 := by omega
      have hb3 : 0 ≤ z := hzb.1
      have hb4 : I * y ≤ 262144 := by omega
      have hb5 : 0 ≤ I * y := Int.mul_nonneg hB.1 (by omega)
      clear hP hp7 hB hB1 hzb
      first
        | go_wp2_with fail
          go_roundw
          case rel => exact ⟨k + 1, by omega, by go_num, by rw [E1.out], kw⟩
          case measure => simp [intOf]; omega
        | go_wp2_with fail
          go_roundw
          case rel => exact ⟨k + 1, by omega, by go_num, by rw [E1.out], KA.out⟩
          case measure => simp [intOf]; omega
        | go_wp2_with fail
          go_quiet (fail)
          go_wp2_with fail
          go_roundw
          case rel => exact ⟨k + 1, by omega, by go_num, by rw [E1.out], KA.out.trans (Keeps.drewN _ _)⟩
          case measure => simp [intOf]; omega
    · obtain rfl : k = n := by omega
      go_wp2
      go_ret
      exact ⟨rfl, kw⟩
set_option maxRecDepth 100000 in
set_option maxHeartbeats 1600000 in
theorem sIndex_any {A A' : Option Addr} {lo hi n c m d : Nat} {vs : List Int} {l : List VV} {w : World} (h : Ints w lo hi A n vs) (h' : Sch w A' m d l) (hf : fitB l vs = true) (hlv : LvOk l m) (h6 : m ≤ 6) :
    Calls Tryz.prog 166 #[.slice A' m d, .slice A n c] w fun e w' => e = .returned (.int .i64 (ixTo l vs m)) ∧ Keeps w w' := by
  obtain ⟨lo', hi', hv⟩ := h'.v
  have hl := Vars.len hv
  obtain rfl : n = m := by
    have h1 := h.1
    unfold fitB at hf
    simp only [Bool.and_eq_true, decide_eq_true_eq] at hf
    omega
  have HLV := hid hlv
  have HB := hid (fun k (hk : k ≤ n) => ixTo_bd hf (by rw [hl]; exact hlv) k (by omega))
  have HP := hid (fun k (hk : k ≤ n) => prodTo_bd hlv k hk)
  have HF := hid (fun k (hk : k < n) => (fitB_row hf (k := k) (by omega)).2)
  clear hlv hf hl
  go_enter Tryz.func166, Tryz.ntmps166
  go_wp2_with fail
  go_loopw [5, 10] (fun p i wr => ∃ k : Nat, k ≤ n ∧ i = .int .i64 k ∧ p = .int .i64 (ixTo l vs k) ∧ Keeps w wr) (fun _ i _ => n - (intOf i).toNat)
  case atStart => exact ⟨0, Nat.zero_le _, rfl, rfl, keeps_refl _⟩
  case round =>
    obtain ⟨k, hk, rfl, rfl, kw⟩ := hrel
    by_cases hlt : k < n
    · obtain ⟨b, off, x, y, rfl, _, _, hc, hd, hx⟩ := Vars.at_ (Sl.keeps hv kw) hlt
      obtain ⟨bi, oi, z, rfl, _, _, hci, hz⟩ := (h.keeps kw).at_ hlt
      have hi1 : (k : Int) < (n : Int) := by omega
      have hy0 : y = (l.getD k v0).2 := congrArg Prod.snd hx.out
      have e1 : ixTo l vs (k + 1) = ixTo l vs k * y + z := by show ixTo l vs k * (l.getD k v0).2 + vs.getD k 0 = _; rw [← hy0, ← hz.out]
      have hP := HP.out (k + 1) (by omega)
      have hp7 := pow8 (k := k + 1) (by omega)
      have hB := HB.out k (by omega)
      have hB1 := HB.out (k + 1) (by omega)
      have hzb := HF.out k hlt
      rw [← hz.out] at hzb
      rw [e1] at hB1
      have hyb := HLV.out k hlt
      rw [← hy0] at hyb
      have E1 := hid e1
      have KA := hid (kw.trans (keeps_alloc wr (.cells #[.string x, .int .i64 y] 126)))
      have hci2 := cell_keeps hci (keeps_alloc wr (.cells #[.string x, .int .i64 y] 126))
      clear e1 hx hy0
      obtain ⟨I, hI⟩ : ∃ I, ixTo l vs k = I := ⟨_, rfl⟩
      rw [hI] at hB hB1 E1 ⊢
      clear hI
      have hb1 : 0 ≤ I * y + z := hB1.1
      have hb2 : I * y + z ≤ 262144 := by omega
      have hb3 : 0 ≤ z := hzb.1
      have hb4 : I * y ≤ 262144 := by omega
      have hb5 : 0 ≤ I * y := Int.mul_nonneg hB.1 (by omega)
      clear hP hp7 hB hB1 hzb
      first
        | go_wp2_with fail
          go_roundw
          case rel => exact ⟨k + 1, by omega, by go_num, by rw [E1.out], kw⟩
          case measure => simp [intOf]; omega
        | go_wp2_with fail
          go_roundw
          case rel => exact ⟨k + 1, by omega, by go_num, by rw [E1.out], KA.out⟩
          case measure => simp [intOf]; omega
        | go_wp2_with fail
          go_quiet (fail)
          go_wp2_with fail
          go_roundw
          case rel => exact ⟨k + 1, by omega, by go_num, by rw [E1.out], KA.out.trans (Keeps.drewN _ _)⟩
          case measure => simp [intOf]; omega
    · obtain rfl : k = n := by omega
      go_wp2
      go_ret
      exact ⟨rfl, kw⟩
/-- The first place of a number, as an int; -1 where it is not. -/
def posTo (xs : List Int) (v : Int) : Nat → Option Nat
  | 0 => none
  | k + 1 => match posTo xs v k with
    | some j => some j
    | none => if xs.getD k 0 = v then some k else none
end Go.Proofs.YtohjkpopbmmliaaGreat
