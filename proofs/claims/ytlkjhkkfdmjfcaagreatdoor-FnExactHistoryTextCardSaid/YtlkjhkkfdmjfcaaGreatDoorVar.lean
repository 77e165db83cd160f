/- Variables (a name and a number of levels) in memory; the helpers of the laws over slices of them. -/
import Derived.Test.YtlkjhkkfdmjfcaaGreatDoorKB
import Derived.Laws.BytesArg
import Derived.Laws.Concat
import Derived.Deep.RegionHeld3
namespace Go.Proofs.YtlkjhkkfdmjfcaaGreatDoor
open Go.RowKit
set_option linter.unusedVariables false
set_option linter.unusedSimpArgs false

abbrev VV := ByteArray × Int
/-- A variable's two cells. -/
def vr2 (f : VV) : List Value := [.string f.1, .int .i64 f.2]
def vrs (l : List VV) : List Value := l.flatMap vr2
def v0 : VV := (ByteArray.empty, 0)
theorem vrs_len (l : List VV) : (vrs l).length = l.length * 2 := by
  induction l with
  | nil => rfl
  | cons a r ih =>
    have e : (vrs (a :: r)).length = 2 + (vrs r).length := by simp [vrs, vr2]; omega
    rw [e, ih, List.length_cons]; omega
theorem vrs_at (l : List VV) (k : Nat) (h : k < l.length) : (vrs l).getD (k * 2) undef = .string (l.getD k v0).1 ∧ (vrs l).getD (k * 2 + 1) undef = .int .i64 (l.getD k v0).2 := by
  induction l generalizing k with
  | nil => simp at h
  | cons a r ih =>
    cases k with
    | zero => simp [vrs, vr2]
    | succ k =>
      have := ih k (by simpa using h)
      have e1 : (k + 1) * 2 = k * 2 + 2 := by omega
      rw [e1, show k * 2 + 2 + 1 = k * 2 + 1 + 2 by omega]
      simpa [vrs, vr2, List.getD] using this
theorem vrs_set (l : List VV) (k : Nat) (x : ByteArray) (y : Int) : ((vrs l).set (k * 2) (.string x)).set (k * 2 + 1) (.int .i64 y) = vrs (l.set k (x, y)) := by
  induction l generalizing k with
  | nil => simp [vrs]
  | cons a r ih =>
    cases k with
    | zero => simp [vrs, vr2]
    | succ k =>
      have e1 : (k + 1) * 2 = k * 2 + 2 := by omega
      rw [e1, show k * 2 + 2 + 1 = k * 2 + 1 + 2 by omega]
      have := ih k
      simpa [vrs, vr2] using this
abbrev Vars (w : World) (lo hi : Nat) (A : Option Addr) (n : Nat) (l : List VV) : Prop := Sl 2 w lo hi A n (vrs l)
abbrev VarsM (w : World) (lo hi : Nat) (A : Option Addr) (n : Nat) (l : List VV) : Prop := SlM 2 w lo hi A n (vrs l)
theorem Vars.len {w : World} {lo hi n : Nat} {A : Option Addr} {l : List VV} (h : Vars w lo hi A n l) : l.length = n := by
  have := h.1; rw [vrs_len] at this; omega
theorem Vars.at_ {w : World} {lo hi n k : Nat} {A : Option Addr} {l : List VV} (h : Vars w lo hi A n l) (hk : k < n) :
    ∃ b off x y, A = some ⟨b, off, none⟩ ∧ lo ≤ b ∧ b < hi ∧ w.cell? ⟨b, off + k * 2, none⟩ = some (.string x) ∧ w.cell? ⟨b, off + k * 2 + 1, none⟩ = some (.int .i64 y) ∧ Hid ((x, y) = l.getD k v0) := by
  obtain ⟨b, off, e, hl, hb, hc⟩ := h.2.2.2 (by omega)
  have h1 := hc (k * 2) (by omega)
  have h2 := hc (k * 2 + 1) (by omega)
  have := h.len
  have h3 := vrs_at l k (by omega)
  rw [h3.1] at h1
  rw [h3.2] at h2
  exact ⟨b, off, _, _, e, hl, hb, h1, h2, rfl⟩
theorem VarsM.set_ {w : World} {lo hi n k b off : Nat} {l : List VV} (h : VarsM w lo hi (some ⟨b, off, none⟩) n l) (hk : k < n) (x : ByteArray) (y : Int) :
    VarsM ((w.setCell ⟨b, off + k * 2, none⟩ (.string x)).setCell ⟨b, off + (k * 2 + 1), none⟩ (.int .i64 y)) lo hi (some ⟨b, off, none⟩) n (l.set k (x, y)) ∧
      Fr lo hi w ((w.setCell ⟨b, off + k * 2, none⟩ (.string x)).setCell ⟨b, off + (k * 2 + 1), none⟩ (.int .i64 y)) := by
  have h1 := SlM.set_ h (k := k * 2) (by omega) (.string x)
  have h2 := SlM.set_ h1.1 (k := k * 2 + 1) (by omega) (.int .i64 y)
  rw [vrs_set] at h2
  exact ⟨h2.1, h1.2.trans h2.2⟩
/-- The size that the laws count. -/
def vsz (l : List VV) (k : Nat) : Nat := ((l.take k).map fun v => v.1.size).sum
theorem vsz_zero (l : List VV) : vsz l 0 = 0 := by simp [vsz]
theorem vsz_succ {l : List VV} {k : Nat} (h : k < l.length) : vsz l (k + 1) = vsz l k + (l.getD k v0).1.size := by
  unfold vsz
  rw [List.take_succ_eq_append_getElem h, List.map_append, List.sum_append]
  simp [List.getD, h]
theorem vsz_mono {l : List VV} {i j : Nat} (h : i ≤ j) (hj : j ≤ l.length) : vsz l i ≤ vsz l j := by
  induction j with
  | zero => obtain rfl : i = 0 := by omega
            exact Nat.le_refl _
  | succ j ih =>
    rw [vsz_succ (by omega)]
    by_cases e : i = j + 1
    · subst e; rw [vsz_succ (by omega)]; exact Nat.le_refl _
    · have := ih (by omega) (by omega); omega
/-- A schema that came in. -/
def VarsArg (w : World) (A : Option Addr) (n : Nat) (l : List VV) : Prop :=
  n ≤ maxLen ∧ (n ≤ 67108864 → Vars w 0 w.heap.size A n l) ∧ (∀ j, (l.getD j v0).1.size ≤ maxLen) ∧ (∀ j, -9223372036854775808 ≤ (l.getD j v0).2 ∧ (l.getD j v0).2 ≤ 9223372036854775807)
/-- A box of a variable. -/
theorem info_var : (Tryz.prog.info? 82).map (fun i => (i.zero, i.size, i.bytes)) = some (some (.agg #[.string ByteArray.empty, .int .i64 0]), 2, 24) := by kernel_rfl
end Go.Proofs.YtlkjhkkfdmjfcaaGreatDoor
