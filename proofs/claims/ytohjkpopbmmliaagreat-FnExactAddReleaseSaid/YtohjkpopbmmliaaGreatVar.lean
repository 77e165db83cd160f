/- Variables (a name and a number of levels) in memory; the helpers of the laws over slices of them. -/
import Derived.Test.YtohjkpopbmmliaaGreatKB
import Derived.Laws.BytesArg
import Derived.Laws.Concat
import Derived.Deep.RegionHeld3
namespace Go.Proofs.YtohjkpopbmmliaaGreat
open Go.RowKit
set_option linter.unusedVariables false
set_option linter.unusedSimpArgs false

abbrev VV := ByteArray × Int
/-- A variable's two cells. -/
def vr2 (f : VV) : List Value := [.string f.1, .int .i64 f.2]
def vrs (l : List VV) : List Value := l.flatMap vr2
def v0 : VV := (ByteArray.empty, 0)
theorem vrs_len (l : List VV) : (vrs l).length = l.length * 2 := by
  induction l with
  | nil => rfl
  | cons a r ih =>
    have e : (vrs (a :: r)).length = 2 + (vrs r).length := by simp [vrs, vr2]; omega
    rw [e, ih, List.length_cons]; omega
theorem vrs_at (l : List VV) (k : Nat) (h : k < l.length) : (vrs l).getD (k * 2) undef = .string (l.getD k v0).1 ∧ (vrs l).getD (k * 2 + 1) undef = .int .i64 (l.getD k v0).2 := by
  induction l generalizing k with
  | nil => simp at h
  | cons a r ih =>
    cases k with
    | zero => simp [vrs, vr2]
    | succ k =>
      have := ih k (by simpa using h)
      have e1 : (k + 1) * 2 = k * 2 + 2 := by omega
      rw [e1, show k * 2 + 2 + 1 = k * 2 + 1 + 2 by omega]
      simpa [vrs, vr2, List.getD] using this
theorem vrs_set (l : List VV) (k : Nat) (x : ByteArray) (y : Int) : ((vrs l).set (k * 2) (.string x)).set (k * 2 + 1) (.int .i64 y) = vrs (l.set k (x, y)) := by
  induction l generalizing k with
  | nil => simp [vrs]
  | cons a r ih =>
    cases k with
    | zero => simp [vrs, vr2]
    | succ k =>
      have e1 : (k + 1) * 2 = k * 2 + 2 := by omega
      rw [e1, show k * 2 + 2 + 1 = k * 2 + 1 + 2 by omega]
      have := ih k
      simpa [vrs, vr2] using this
abbrev Vars (w : World) (lo hi : Nat) (A : Option Addr) (n : Nat) (l : List VV) : Prop := Sl 2 w lo hi A n (vrs l)
abbrev VarsM (w : World) (lo hi : Nat) (A : Option Addr) (n : Nat) (l : List VV) : Prop := SlM 2 w lo hi A n (vrs l)
theorem Vars.len {w : World} {lo hi n : Nat} {A : Option Addr} {l : List VV} (h : Vars w lo hi A n l) : l.length = n := by
  have := h.1; rw [vrs_len] at this; omega
theorem Vars.at_ {w : World} {lo hi n k : Nat} {A : Option Addr} {l : List VV} (h : Vars w lo hi A n l) (hk : k < n) :
    ∃ b off x y, A = some ⟨b, off, none⟩ ∧ lo ≤ b ∧ b < hi ∧ w.cell? ⟨b, off + k * 2, none⟩ = some (.string x) ∧ w.cell? ⟨b, off + k * 2 + 1, none⟩ = some (.int .i64 y) ∧ Hid ((x, y) = l.getD k v0) := by
  obtain ⟨b, off, e, hl, hb, hc⟩ := h.2.2.2 (by omega)
  have h1 := hc (k * 2) (by omega)
  have h2 := hc (k * 2 + 1) (by omega)
  have := h.len
  have h3 := vrs_at l k (by omega)
  rw [h3.1] at h1
  rw [h3.2] at h2
  exact ⟨b, off, _, _, e, hl, hb, h1, h2, rfl⟩
theorem VarsM.set_ {w : World} {lo hi n k b off : Nat} {l : List VV} (h : VarsM w lo hi (some ⟨b, off, none⟩) n l) (hk : k < n) (x : ByteArray) (y : Int) :
    VarsM ((w.setCell ⟨b, off + k * 2, none⟩ (.string x)).setCell ⟨b, off + (k * 2 + 1), none⟩ (.int .i64 y)) lo hi (some ⟨b, off, none⟩) n (l.set k (x, y)) ∧
      Fr lo hi w ((w.setCell ⟨b, off + k * 2, none⟩ (.string x)).setCell ⟨b, off + (k * 2 + 1), none⟩ (.int .i64 y)) := by
  have h1 := SlM.set_ h (k := k * 2) (by omega) (.string x)
  have h2 := SlM.set_ h1.1 (k := k * 2 + 1) (by omega) (.int .i64 y)
  rw [vrs_set] at h2
  exact ⟨h2.1, h1.2.trans h2.2⟩
/-- The size that the laws count. -/
def vsz (l : List VV) (k : Nat) : Nat := ((l.take k).map fun v => v.1.size).sum
theorem vsz_zero (l : List VV) : vsz l 0 = 0 := by simp [vsz]
theorem vsz_succ {l : List VV} {k : Nat} (h : k < l.length) : vsz l (k + 1) = vsz l k + (l.getD k v0).1.size := by
  unfold vsz
  rw [List.take_succ_eq_append_getElem h, List.map_append, List.sum_append]
  simp [List.getD, h]
theorem vsz_mono {l : List VV} {i j : Nat} (h : i ≤ j) (hj : j ≤ l.length) : vsz l i ≤ vsz l j := by
  induction j with
  | zero => obtain rfl : i = 0 := by omega
            exact Nat.le_refl _
  | succ j ih =>
    rw [vsz_succ (by omega)]
    by_cases e : i = j + 1
    · subst e; rw [vsz_succ (by omega)]; exact Nat.le_refl _
    · have := ih (by omega) (by omega); omega
/-- A schema that came in. -/
def VarsArg (w : World) (A : Option Addr) (n : Nat) (l : List VV) : Prop :=
  n ≤ maxLen ∧ (n ≤ 67108864 → Vars w 0 w.heap.size A n l) ∧ (∀ j, (l.getD j v0).1.size ≤ maxLen) ∧ (∀ j, -9223372036854775808 ≤ (l.getD j v0).2 ∧ (l.getD j v0).2 ≤ 9223372036854775807)
/-- A box of a variable. -/
theorem info_var : (Tryz.prog.info? 126).map (fun i => (i.zero, i.size, i.bytes)) = some (some (.agg #[.string ByteArray.empty, .int .i64 0]), 2, 24) := by kernel_rfl
/-- Some text. -/
def SomeText (w : World) (e : Ending) (w' : World) : Prop := ∃ s : ByteArray, e = .returned (.string s) ∧ Keeps w w'
theorem pow_step {m j : Nat} (h : m * 2 ^ j ≤ 1099511627776) : m / 10 * 2 ^ (j + 1) ≤ 1099511627776 := by
  have h1 : m / 10 * 2 ≤ m := by omega
  have h2 : m / 10 * 2 * 2 ^ j ≤ m * 2 ^ j := Nat.mul_le_mul_right _ h1
  rw [Nat.pow_succ, Nat.mul_comm (2 ^ j) 2, ← Nat.mul_assoc]; omega
theorem pow_small {m j : Nat} (h : m * 2 ^ j ≤ 1099511627776) (hm : 0 < m) : j ≤ 40 := by
  rcases Nat.lt_or_ge 40 j with h1 | h1
  · have h2 : 2 ^ 41 ≤ 2 ^ j := Nat.pow_le_pow_right (by omega) h1
    have h3 : 1 * 2 ^ j ≤ m * 2 ^ j := Nat.mul_le_mul_right _ hm
    omega
  · exact h1
set_option maxHeartbeats 1600000 in
theorem markText_any {k0 : Int} {w : World} (h0 : 0 ≤ k0) (h1 : k0 ≤ 1000000000000) :
    Calls Tryz.prog 87 #[.int .i64 k0] w (SomeText w) := by
  have hcv : ∀ (w : World) (d : Int), (convert 22 9 (.slice (some ⟨w.heap.size, 0, none⟩) 1 1)).run Tryz.prog (w.alloc (.cells #[.int .u8 d] 5)) = .ok (.string (strOfNums [d])) (w.alloc (.cells #[.int .u8 d] 5)) := fun w d =>
    run_convert_bytes_arg _ 22 5 Tryz.underlying22 Tryz.underlying5 w.heap.size 0 1 1 [d] rfl (fun i hi => by
      obtain rfl : i = 0 := by omega
      simp) 9 Tryz.underlying9
  have hsz : ∀ d : Int, (strOfNums [d]).size = 1 := fun d => by simp [strOfNums, ByteArray.size]
  have HSZ := hid hsz
  clear hsz
  obtain ⟨m0, rfl⟩ : ∃ m : Nat, k0 = m := ⟨k0.toNat, by omega⟩
  by_cases hz : m0 = 0
  · subst hz
    go_enter Tryz.func87, Tryz.ntmps87
    go_wp2
    go_ret
    exact ⟨_, rfl, keeps_refl _⟩
  have hz1 : ¬ ((m0 : Int) ≤ 0) := by omega
  go_enter Tryz.func87, Tryz.ntmps87
  go_wp2_with fail
  go_loopw [0, 3] (fun t s wr => ∃ (m : Nat) (u : ByteArray), t = .int .i64 m ∧ s = .string u ∧ m ≤ m0 ∧ u.size ≤ 41 ∧ m * 2 ^ u.size ≤ 1099511627776 ∧ Keeps w wr) (fun t _ _ => (intOf t).toNat)
  case atStart => exact ⟨m0, ByteArray.empty, rfl, rfl, Nat.le_refl _, by simp, by simp; omega, keeps_refl _⟩
  case round =>
    obtain ⟨m, u, rfl, rfl, hm, hu, hp, kw⟩ := hrel
    by_cases hlt : 0 < m
    · have hi1 : (m : Int) > 0 := by omega
      have hj := pow_small hp hlt
      have HP := hid (pow_step hp)
      clear hp
      obtain ⟨d, hd⟩ : ∃ d : Int, d = 48 + (m : Int) % 10 := ⟨_, rfl⟩
      have hadd : ∀ (x : Int) (w : World), (Op.stringOp .add (strOfNums [x]) u).run Tryz.prog w = .ok (.string (strOfNums [x] ++ u)) w := fun x w => run_string_add_sum w _ _ (by rw [HSZ.out]; omega)
      have hus : ∀ x : Int, (strOfNums [x] ++ u).size = u.size + 1 := fun x => by rw [ByteArray.size_append, HSZ.out]; omega
      have HUS := hid hus
      clear hus hd
      go_wp2
      go_roundw
      case rel => exact ⟨m / 10, _, by go_num, rfl, by omega, by rw [HUS.out]; omega, by rw [HUS.out]; exact HP.out, kw.trans (keeps_alloc _ _)⟩
      case measure => simp [intOf]; omega
    · have hadd : ∀ (w : World), (Op.stringOp .add ⟨#[109]⟩ u).run Tryz.prog w = .ok (.string (⟨#[109]⟩ ++ u)) w := fun w => run_string_add_sum w _ _ (by have : (ByteArray.mk #[109]).size = 1 := rfl; omega)
      go_wp2
      go_ret
      exact ⟨_, rfl, kw⟩
end Go.Proofs.YtohjkpopbmmliaaGreat
