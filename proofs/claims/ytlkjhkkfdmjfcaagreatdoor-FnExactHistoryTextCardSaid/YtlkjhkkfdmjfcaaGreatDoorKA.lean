/- Words for memory over this seat's program: slices of ints that are read, slices that the call may write, frames. Plain lemmas, no walk. -/
import Derived.Test.YtlkjhkkfdmjfcaaGreatDoorRows
import Derived.WalkKit
import Derived.Deep.Draws
import Derived.Laws.NewBlocks
import Derived.Deep.QuietTactic
import Derived.BigQuiet
import Derived.StillTailTactics
import Derived.Deep.AppendLies
import Derived.Deep.RegionHeld3
namespace Go.Proofs.YtlkjhkkfdmjfcaaGreatDoor
open Go.RowKit
set_option linter.unusedVariables false
set_option linter.unusedSimpArgs false

theorem hid {p : Prop} (h : p) : Hid p := h

/-- Everything below the old size of the heap is as it was. -/
abbrev Keeps (w w' : World) : Prop := Below w.heap.size w w'
theorem Keeps.trans {a b c : World} (h : Keeps a b) (k : Keeps b c) : Keeps a c := Below.trans h (k.mono h.size)
theorem Keeps.drewN (w : World) (n : Nat) : Keeps w (w.drewN n) := ⟨rfl, rfl, rfl, Nat.le_refl _, fun _ _ => rfl⟩
theorem keeps_refl (w : World) : Keeps w w := Below.refl _ _
theorem below_drewN {B : Nat} {a w : World} (h : Below B a w) (n : Nat) : Below B a (w.drewN n) := ⟨h.os, h.tape, h.output, h.size, h.block⟩
theorem below_keeps {B : Nat} {a b c : World} (h : Below B a b) (hB : B ≤ b.heap.size) (k : Keeps b c) : Below B a c := h.trans (k.mono hB)

/-- Only draws between the two worlds. -/
def Quiet (w w' : World) : Prop := ∃ m, w' = w.drewN m
theorem Quiet.refl (w : World) : Quiet w w := ⟨0, rfl⟩
theorem Quiet.drewN (w : World) (n : Nat) : Quiet w (w.drewN n) := ⟨n, rfl⟩
theorem Quiet.trans {a b c : World} (h : Quiet a b) (k : Quiet b c) : Quiet a c := by
  obtain ⟨m, rfl⟩ := h; obtain ⟨n, rfl⟩ := k; exact ⟨m + n, by rw [World.drewN_drewN]⟩
theorem Quiet.keeps {w w' : World} (h : Quiet w w') : Keeps w w' := by obtain ⟨m, rfl⟩ := h; exact Keeps.drewN w m
theorem Quiet.step {w w' : World} (h : Quiet w w') (n : Nat) : Quiet w (w'.drewN n) := h.trans (Quiet.drewN _ _)

/-- Of the old blocks only those from lo to hi (hi not included) may have turned. -/
structure Fr (lo hi : Nat) (w w' : World) : Prop where
  os : w'.os = w.os
  tape : w'.tape = w.tape
  output : w'.output = w.output
  size : w.heap.size ≤ w'.heap.size
  block : ∀ k, k < w.heap.size → (k < lo ∨ hi ≤ k) → w'.heap[k]? = w.heap[k]?
theorem Fr.refl (lo hi : Nat) (w : World) : Fr lo hi w w := ⟨rfl, rfl, rfl, Nat.le_refl _, fun _ _ _ => rfl⟩
theorem Fr.trans {lo hi : Nat} {a b c : World} (h : Fr lo hi a b) (k : Fr lo hi b c) : Fr lo hi a c :=
  ⟨k.os.trans h.os, k.tape.trans h.tape, k.output.trans h.output, Nat.le_trans h.size k.size, fun i hi ho => (k.block i (Nat.lt_of_lt_of_le hi h.size) ho).trans (h.block i hi ho)⟩
theorem Fr.of_keeps {w w' : World} (h : Keeps w w') (lo hi : Nat) : Fr lo hi w w' := ⟨h.os, h.tape, h.output, h.size, fun k hk _ => h.block k hk⟩
theorem Fr.widen {lo hi lo' hi' : Nat} {w w' : World} (h : Fr lo hi w w') (h1 : lo' ≤ lo ∨ hi ≤ lo) (h2 : hi ≤ hi' ∨ hi ≤ lo) : Fr lo' hi' w w' :=
  ⟨h.os, h.tape, h.output, h.size, fun k hk ho => h.block k hk (by omega)⟩
theorem Fr.drewN {lo hi : Nat} {a w : World} (h : Fr lo hi a w) (n : Nat) : Fr lo hi a (w.drewN n) := ⟨h.os, h.tape, h.output, h.size, h.block⟩
theorem Fr.setCell {lo hi : Nat} {a w : World} (h : Fr lo hi a w) {p : Addr} (h1 : lo ≤ p.block) (h2 : p.block < hi) (u : Value) : Fr lo hi a (w.setCell p u) :=
  h.trans ⟨rfl, rfl, rfl, by simp [World.setCell], fun k hk ho => Below.heap_setCell _ _ _ _ (by omega)⟩
theorem below_fr {B lo hi : Nat} {a b c : World} (h : Below B a b) (hB : B ≤ b.heap.size) (hlo : B ≤ lo) (k : Fr lo hi b c) : Below B a c :=
  h.trans ⟨k.os, k.tape, k.output, k.size, fun i hi => k.block i (by omega) (by omega)⟩
theorem Fr.cell {lo hi : Nat} {w w' : World} (h : Fr lo hi w w') {p : Addr} (hp : p.block < w.heap.size) (ho : p.block < lo ∨ hi ≤ p.block) : w'.cell? p = w.cell? p := World.cell?_of_block (w := w) (h.block p.block hp ho)
theorem Fr.frozen {lo hi : Nat} {w w' : World} (h : Fr lo hi w w') {p : Addr} (hp : p.block < w.heap.size) (ho : p.block < lo ∨ hi ≤ p.block) : w'.frozen? p = w.frozen? p := World.frozen?_of_block (w := w) (h.block p.block hp ho)

/-- A length that no counter outgrows. -/
abbrev small : Nat := 67108864

/-- The slice (A, n) reads as the list xs of ints, in blocks from lo to hi. -/
def Ints (w : World) (lo hi : Nat) (A : Option Addr) (n : Nat) (xs : List Int) : Prop :=
  xs.length = n ∧ n ≤ 67108864 ∧ hi ≤ w.heap.size ∧
  (0 < n → ∃ b off, A = some ⟨b, off, none⟩ ∧ lo ≤ b ∧ b < hi ∧ ∀ j, j < n → w.cell? ⟨b, off + j, none⟩ = some (.int .i64 (xs.getD j 0)))
/-- The same, and its cells may be written. -/
def Mine (w : World) (lo hi : Nat) (A : Option Addr) (n : Nat) (xs : List Int) : Prop :=
  Ints w lo hi A n xs ∧ (∀ b off, A = some ⟨b, off, none⟩ → ∀ j, j < n → w.frozen? ⟨b, off + j, none⟩ = false)

/-- Block g is just the ints xs, none frozen. -/
def Own (w : World) (g : Nat) (xs : List Int) : Prop := w.heap[g]? = some (.cells (xs.map (Value.int .i64)).toArray 3 (0, 0))

section
variable {w w' : World} {lo hi n : Nat} {A : Option Addr} {xs : List Int}
theorem Ints.len (h : Ints w lo hi A n xs) : xs.length = n := h.1
theorem Ints.le (h : Ints w lo hi A n xs) : n ≤ 67108864 := h.2.1
theorem Ints.top (h : Ints w lo hi A n xs) : hi ≤ w.heap.size := h.2.2.1
theorem Ints.at_ {k : Nat} (h : Ints w lo hi A n xs) (hk : k < n) :
    ∃ b off x, A = some ⟨b, off, none⟩ ∧ lo ≤ b ∧ b < hi ∧ w.cell? ⟨b, off + k, none⟩ = some (.int .i64 x) ∧ Hid (x = xs.getD k 0) := by
  obtain ⟨b, off, e, hl, hb, hc⟩ := h.2.2.2 (by omega)
  exact ⟨b, off, _, e, hl, hb, hc k hk, rfl⟩
theorem Ints.nil_ (w : World) (A : Option Addr) (lo : Nat) : Ints w lo w.heap.size A 0 [] := ⟨rfl, by omega, Nat.le_refl _, fun h => absurd h (by omega)⟩
theorem Ints.fr {l h' : Nat} (h : Ints w lo hi A n xs) (hf : Fr l h' w w') (ho : h' ≤ lo ∨ hi ≤ l ∨ h' ≤ l) : Ints w' lo hi A n xs :=
  ⟨h.1, h.2.1, Nat.le_trans h.top hf.size, fun hn => by
    obtain ⟨b, off, e, hl, hb, hc⟩ := h.2.2.2 hn
    have := h.top
    exact ⟨b, off, e, hl, hb, fun j hj => (hf.cell (p := ⟨b, off + j, none⟩) (by show b < _; omega) (by show b < _ ∨ _ ≤ b; omega)).trans (hc j hj)⟩⟩
theorem Ints.keeps (h : Ints w lo hi A n xs) (hb : Keeps w w') : Ints w' lo hi A n xs := h.fr (Fr.of_keeps hb 0 0) (by omega)
theorem Ints.quiet (h : Ints w lo hi A n xs) (hb : Quiet w w') : Ints w' lo hi A n xs := h.keeps hb.keeps
theorem Ints.drew (h : Ints w lo hi A n xs) : Ints w.drew lo hi A n xs := h
theorem Mine.drew (h : Mine w lo hi A n xs) : Mine w.drew lo hi A n xs := h
theorem Ints.widen {lo' hi' : Nat} (h : Ints w lo hi A n xs) (h1 : lo' ≤ lo) (h2 : hi ≤ hi') (h3 : hi' ≤ w.heap.size) : Ints w lo' hi' A n xs :=
  ⟨h.1, h.2.1, h3, fun hn => by
    obtain ⟨b, off, e, hl, hb, hc⟩ := h.2.2.2 hn
    exact ⟨b, off, e, by omega, by omega, hc⟩⟩
theorem Mine.ints (h : Mine w lo hi A n xs) : Ints w lo hi A n xs := h.1
theorem Mine.fr {l h' : Nat} (h : Mine w lo hi A n xs) (hf : Fr l h' w w') (ho : h' ≤ lo ∨ hi ≤ l ∨ h' ≤ l) : Mine w' lo hi A n xs :=
  ⟨h.1.fr hf ho, fun b off e j hj => by
    obtain ⟨b', off', e', hl, hb, _⟩ := h.1.2.2.2 (by omega)
    have := h.1.top
    rw [e] at e'
    obtain ⟨rfl, rfl⟩ : b = b' ∧ off = off' := by simpa using e'
    exact (hf.frozen (p := ⟨b, off + j, none⟩) (by show b < _; omega) (by show b < _ ∨ _ ≤ b; omega)).trans (h.2 b off e j hj)⟩
theorem Mine.keeps (h : Mine w lo hi A n xs) (hb : Keeps w w') : Mine w' lo hi A n xs := h.fr (Fr.of_keeps hb 0 0) (by omega)
theorem Mine.quiet (h : Mine w lo hi A n xs) (hb : Quiet w w') : Mine w' lo hi A n xs := h.keeps hb.keeps
theorem Mine.nil_ (w : World) (lo : Nat) : Mine w lo w.heap.size none 0 [] := ⟨Ints.nil_ w _ lo, fun b off e => by cases e⟩
theorem Mine.widen {lo' hi' : Nat} (h : Mine w lo hi A n xs) (h1 : lo' ≤ lo) (h2 : hi ≤ hi') (h3 : hi' ≤ w.heap.size) : Mine w lo' hi' A n xs := ⟨h.1.widen h1 h2 h3, h.2⟩
/-- A store at k. -/
theorem Mine.set_ {k : Nat} {b off : Nat} (h : Mine w lo hi (some ⟨b, off, none⟩) n xs) (hk : k < n) (u : Int) :
    Mine (w.setCell ⟨b, off + k, none⟩ (.int .i64 u)) lo hi (some ⟨b, off, none⟩) n (xs.set k u) ∧ Fr lo hi w (w.setCell ⟨b, off + k, none⟩ (.int .i64 u)) := by
  obtain ⟨⟨h1, h2, h3, h4⟩, h5⟩ := h
  obtain ⟨b', off', e, hl, hb, hc⟩ := h4 (by omega)
  obtain ⟨rfl, rfl⟩ : b = b' ∧ off = off' := by simpa using e
  refine ⟨⟨⟨by simpa using h1, h2, by simpa [World.setCell] using h3, fun _ => ⟨b, off, rfl, hl, hb, fun j hj => ?_⟩⟩, fun b' off' e' j hj => ?_⟩, (Fr.refl lo hi w).setCell (p := ⟨b, off + k, none⟩) hl hb _⟩
  · by_cases hjk : j = k
    · subst hjk
      rw [World.cell?_setCell_same _ _ _ (hc j hj)]
      simp [List.getD, h1, hj]
    · rw [World.cell?_setCell_other w _ _ _ (by intro e; injection e with _ e; omega), hc j hj]
      simp [List.getD, List.getElem?_set_ne (Ne.symm hjk)]
  · rw [World.frozen?_setCell]; exact h5 b' off' e' j hj
end

section
variable {w w' : World} {g : Nat} {xs : List Int}
theorem Own.lt (h : Own w g xs) : g < w.heap.size := by
  rcases Nat.lt_or_ge g w.heap.size with hlt | hge
  · exact hlt
  · unfold Own at h; rw [Array.getElem?_eq_none hge] at h; cases h
theorem Own.cell (h : Own w g xs) (j : Nat) (hj : j < xs.length) : w.cell? ⟨g, j, none⟩ = some (.int .i64 (xs.getD j 0)) := by
  rw [cell_of_row w g j _ _ _ h]
  simp [List.getD, hj]
theorem Own.at_ (h : Own w g xs) (j : Nat) (hj : j < xs.length) : ∃ x, w.cell? ⟨g, j, none⟩ = some (.int .i64 x) ∧ Hid (x = xs.getD j 0) := ⟨_, h.cell j hj, rfl⟩
theorem Own.frozen (h : Own w g xs) (i : Nat) : w.frozen? ⟨g, i, none⟩ = false := by
  unfold Own at h
  simp [World.frozen?, h]
theorem Own.mine (h : Own w g xs) {n lo hi : Nat} (hn : xs.length = n) (hs : n ≤ 67108864) (h1 : lo ≤ g) (h2 : g < hi) (h3 : hi ≤ w.heap.size) : Mine w lo hi (some ⟨g, 0, none⟩) n xs :=
  ⟨⟨hn, hs, h3, fun _ => ⟨g, 0, rfl, h1, h2, fun j hj => by rw [Nat.zero_add]; exact h.cell j (by omega)⟩⟩, fun b off e j hj => by
    obtain ⟨rfl, rfl⟩ : g = b ∧ 0 = off := by simpa using e
    exact h.frozen _⟩
theorem Own.drewN (h : Own w g xs) (k : Nat) : Own (w.drewN k) g xs := h
theorem Own.below {B : Nat} (h : Own w g xs) (hb : Below B w w') (hg : g < B) : Own w' g xs := (hb.block g hg).trans h
theorem Own.keeps (h : Own w g xs) (hb : Keeps w w') : Own w' g xs := h.below hb h.lt
theorem Own.set_ (h : Own w g xs) (i : Nat) (u : Int) : Own (w.setCell ⟨g, i, none⟩ (.int .i64 u)) g (xs.set i u) := by
  unfold Own at h ⊢
  simp [World.setCell, Array.getElem?_modify, h, List.map_set]
theorem Own.far (h : Own w g xs) {p : Addr} (hp : g ≠ p.block) (u : Value) : Own (w.setCell p u) g xs := (Below.heap_setCell w p u g hp).trans h
theorem Own.new (w : World) (n : Nat) : Own (w.alloc (.cells (madeCells #[.int .i64 0] n) 3)) w.heap.size (List.replicate n 0) := by
  unfold Own
  rw [heap_alloc_new]
  congr 2
  apply Array.ext
  · simp [size_madeCells]
  · intro i h1 h2
    simp [madeCells, Nat.mod_one]
end
/-- An owned row of ints (the kit's word for what append makes) is a slice that may be written. -/
theorem Mine.of_own {w : World} {base n : Nat} {A : Option Addr} {c : Nat} {xs : List Int} (h : w.ownsRow base 3 1 (.slice A n c) n (xs.map (Value.int .i64))) (hs : n ≤ 67108864) : Mine w base w.heap.size A n xs := by
  obtain ⟨h1, h2⟩ := h
  have hl : xs.length = n := by simpa using h1
  rcases h2 with ⟨h2, rfl⟩ | ⟨g, cap, cur, hv, hg, hh, hnc, hcm, hcs, htake⟩
  · refine ⟨⟨hl, hs, Nat.le_refl _, fun h => absurd h (by omega)⟩, fun b off e j hj => absurd hj (by omega)⟩
  · have hA : A = some ⟨g, 0, none⟩ := by injection hv
    subst hA
    have hlt : g < w.heap.size := (Array.getElem?_eq_some_iff.1 hh).1
    refine ⟨⟨hl, hs, Nat.le_refl _, fun _ => ⟨g, 0, rfl, hg, hlt, fun j hj => ?_⟩⟩, fun b off e j hj => ?_⟩
    · rw [Nat.zero_add, cell_of_row w g j cur _ _ hh]
      have h3 : (cur.toList.take (n * 1))[j]? = some (.int .i64 (xs.getD j 0)) := by
        rw [htake]; simp [List.getD, hl, hj]
      rw [List.getElem?_take, if_pos (by omega)] at h3
      simpa using h3
    · obtain ⟨rfl, rfl⟩ : g = b ∧ 0 = off := by simpa using e
      simp [World.frozen?, hh]
end Go.Proofs.YtlkjhkkfdmjfcaaGreatDoor

/- Contracts of the laws' helpers over []int: toIntS, eqIntS, markIntS, heldIntS, szIntS. -/
namespace Go.Proofs.YtlkjhkkfdmjfcaaGreatDoor
open Go.RowKit
set_option linter.unusedVariables false
set_option linter.unusedSimpArgs false

theorem info_int : (Tryz.prog.info? 3).map (fun i => (i.zero, i.size, i.bytes)) = some (some (.int .i64 0), 1, 8) := by kernel_rfl

theorem run_make_rowN {P : Program} (t e : TypeId) (i : TypeInfo) (z : Value) (ht : P.underlying t = some (.slice e)) (hi : P.info? e = some i) (hz : i.zero = some z)
    (kl kc : IntKind) (n c : Nat) (hnc : n ≤ c) (hbytes : i.bytes * c ≤ 281474976710656) (h63 : c ≤ 9223372036854775807) (w : World) :
    (Instr.makeSlice t (.int kl (n : Int)) (.int kc (c : Int))).run P w = .ok (.slice (some ⟨w.heap.size, 0, none⟩) n c) (w.alloc (.cells (madeCells z.cells (c * i.size)) e)) := by
  have hb : (i.bytes : Int) * (c : Int) ≤ 281474976710656 := by
    have h : ((i.bytes * c : Nat) : Int) ≤ 281474976710656 := by omega
    rwa [Int.natCast_mul] at h
  have hr := run_make (P := P) w t e i z ht hi hz kl kc n c (by omega) (by omega) hb (by omega)
  simp only [Int.toNat_natCast] at hr
  exact hr
theorem make_ints (n : Nat) (hn : n ≤ 67108864) (w : World) :
    (Instr.makeSlice 22 (.int .i64 (n : Int)) (.int .i64 (n : Int))).run Tryz.prog w = .ok (.slice (some ⟨w.heap.size, 0, none⟩) n n) (w.alloc (.cells (madeCells #[.int .i64 0] n) 3)) := by
  obtain ⟨i, hi, hz0, hz1, hz2⟩ := info_parts info_int
  have h := run_make_rowN (P := Tryz.prog) 22 3 i _ Tryz.underlying22 hi hz0 .i64 .i64 n n (Nat.le_refl _) (by rw [hz2]; omega) (by omega) w
  rw [hz1] at h
  simpa [Value.cells] using h

/-- The first k of xs, zeros behind. -/
def padTo (xs : List Int) (k : Nat) : List Int := xs.take k ++ List.replicate (xs.length - k) 0
theorem padTo_len (xs : List Int) (k : Nat) (h : k ≤ xs.length) : (padTo xs k).length = xs.length := by simp [padTo]; omega
theorem padTo_zero (xs : List Int) : padTo xs 0 = List.replicate xs.length 0 := by simp [padTo]
theorem padTo_all (xs : List Int) : padTo xs xs.length = xs := by simp [padTo]
theorem padTo_succ (xs : List Int) (k : Nat) (h : k < xs.length) : (padTo xs k).set k (xs.getD k 0) = padTo xs (k + 1) := by
  apply List.ext_getElem
  · simp [padTo]; omega
  · intro i h1 h2
    simp only [padTo, List.getElem_set, List.getElem_append, List.length_take]
    split
    · subst_vars; simp [List.getD, h]; omega
    · rename_i hne
      by_cases hik : i < k
      · rw [dif_pos (by omega), dif_pos (by omega)]; simp
      · rw [dif_neg (by omega), dif_neg (by omega)]; simp

set_option maxHeartbeats 400000 in
theorem toIntS_any {A : Option Addr} {lo hi n c : Nat} {xs : List Int} {w : World} (h : Ints w lo hi A n xs) :
    Calls Tryz.prog 33 #[.slice A n c] w fun e w' => ∃ A', e = .returned (.slice A' n n) ∧ Mine w' w.heap.size w'.heap.size A' n xs ∧ Keeps w w' := by
  have hn := h.le
  have hmk := make_ints n hn
  have hl := h.1
  go_enter Tryz.func33, Tryz.ntmps33
  go_wp2_with fail
  clear hmk
  go_loopw [4] (fun i wr => ∃ k : Nat, k ≤ n ∧ i = .int .i64 k ∧ Own wr w.heap.size (padTo xs k) ∧ Keeps w wr) (fun i _ => n - (intOf i).toNat)
  case atStart => exact ⟨0, Nat.zero_le _, rfl, by rw [padTo_zero, hl]; exact Own.new w n, (Below.refl _ _).alloc (Nat.le_refl _) _⟩
  case round =>
    obtain ⟨k, hk, rfl, hown, hkeep⟩ := hrel
    by_cases hlt : k < n
    · obtain ⟨b, off, x, rfl, _, hb, hc, hx⟩ := (h.keeps hkeep).at_ hlt
      obtain ⟨y, hc2, -⟩ := hown.at_ k (by rw [padTo_len _ _ (by omega)]; omega)
      have hf := hown.frozen k
      have H1 := hid (hown.set_ k x)
      rw [hx.out, padTo_succ _ _ (by omega), ← hx.out] at H1
      have H2 := hid (hkeep.setCell (p := ⟨w.heap.size, k, none⟩) (Nat.le_refl _) (.int .i64 x))
      clear hown hkeep
      go_wp2
      go_roundw
      case rel => exact ⟨k + 1, by omega, by go_num, H1.out, H2.out⟩
      case measure => simp [intOf]; omega
    · obtain rfl : k = n := by omega
      go_wp2
      go_ret
      rw [← hl, padTo_all] at hown
      exact ⟨_, rfl, hown.mine hl hn (Nat.le_refl _) hown.lt (Nat.le_refl _), hkeep⟩

set_option maxHeartbeats 400000 in
theorem eqIntS_true {A B : Option Addr} {lo hi lo' hi' n n' c c' : Nat} {xs : List Int} {w : World} (ha : Ints w lo hi A n xs) (hb : Ints w lo' hi' B n' xs) :
    Calls Tryz.prog 42 #[.slice A n c, .slice B n' c'] w fun e w' => e = .returned (.bool true) ∧ Quiet w w' := by
  obtain rfl : n = n' := ha.1.symm.trans hb.1
  have hn := ha.le
  have hl := ha.1
  have hbb : ((n : Int) != n) = false := by simp
  go_enter Tryz.func42, Tryz.ntmps42
  go_wp2_with fail
  go_loopw [5] (fun i wr => ∃ k : Nat, k ≤ n ∧ i = .int .i64 k ∧ Quiet w wr) (fun i _ => n - (intOf i).toNat)
  case atStart => exact ⟨0, Nat.zero_le _, rfl, Quiet.refl _⟩
  case round =>
    obtain ⟨k, hk, rfl, hq⟩ := hrel
    by_cases hlt : k < n
    · obtain ⟨b, off, x, rfl, _, _, hc, hx⟩ := (ha.quiet hq).at_ hlt
      obtain ⟨b', off', x', rfl, _, _, hc', hx'⟩ := (hb.quiet hq).at_ hlt
      obtain rfl : x = x' := hx.out.trans hx'.out.symm
      clear hx hx'
      have hi1 : (k : Int) < (n : Int) := by omega
      have hne : (x != x) = false := by simp
      go_wp2_with fail
      go_quiet (fail)
      go_wp2
      go_roundw
      case rel => exact ⟨k + 1, by omega, by go_num, hq.step _⟩
      case measure => simp [intOf]; omega
    · go_wp2
      go_ret
      exact ⟨rfl, hq⟩

def iota (k : Int) (n : Nat) : List Int := (List.range n).map fun (j : Nat) => k + (j : Int)
theorem iota_len (k : Int) (n : Nat) : (iota k n).length = n := by simp [iota]
def marked (k : Int) (xs : List Int) (j : Nat) : List Int := iota k j ++ xs.drop j
theorem marked_len (k : Int) (xs : List Int) (j : Nat) (h : j ≤ xs.length) : (marked k xs j).length = xs.length := by simp [marked, iota]; omega
theorem marked_zero (k : Int) (xs : List Int) : marked k xs 0 = xs := by simp [marked, iota]
theorem marked_all (k : Int) (xs : List Int) : marked k xs xs.length = iota k xs.length := by simp [marked]
theorem marked_succ (k : Int) (xs : List Int) (j : Nat) (h : j < xs.length) : (marked k xs j).set j (k + j) = marked k xs (j + 1) := by
  apply List.ext_getElem
  · simp [marked, iota]; omega
  · intro i h1 h2
    simp only [marked, iota, List.getElem_set, List.getElem_append, List.length_map, List.length_range, List.getElem_map, List.getElem_range, List.getElem_drop]
    split
    · subst_vars; rw [dif_pos (by omega)]
    · rename_i hne
      by_cases hik : i < j
      · rw [dif_pos (by omega), dif_pos (by omega)]
      · rw [dif_neg (by omega), dif_neg (by omega)]; congr 1; omega
theorem iota_getD (k : Int) (n j : Nat) (h : j < n) : (iota k n).getD j 0 = k + j := by simp [iota, List.getD, h]


end Go.Proofs.YtlkjhkkfdmjfcaaGreatDoor

/- Contracts of the small functions over ints and []int that many others call. -/
namespace Go.Proofs.YtlkjhkkfdmjfcaaGreatDoor
open Go.RowKit
set_option linter.unusedVariables false
set_option linter.unusedSimpArgs false

theorem ret_int {k : IntKind} {a b : Int} (h : a = b) : Ending.returned (.int k a) = .returned (.int k b) := by rw [h]
theorem ret_bool {a b : Bool} (h : a = b) : Ending.returned (.bool a) = .returned (.bool b) := by rw [h]

/-- Each element lies within -B and B. -/
def Bd (B : Int) (xs : List Int) : Prop := ∀ j, -B ≤ xs.getD j 0 ∧ xs.getD j 0 ≤ B
def inB (a lo hi : Int) : Bool := decide (lo ≤ a ∧ a ≤ hi)
theorem inB_true {a lo hi : Int} : inB a lo hi = true ↔ lo ≤ a ∧ a ≤ hi := by simp [inB]
theorem inB_false {a lo hi : Int} : inB a lo hi = false ↔ a < lo ∨ hi < a := by simp [inB]; omega
def within (lo hi : Int) (xs : List Int) : Bool := xs.all fun x => inB x lo hi
def Upto (lo hi : Int) (xs : List Int) (k : Nat) : Prop := ∀ j, j < k → lo ≤ xs.getD j 0 ∧ xs.getD j 0 ≤ hi
theorem upto_succ {lo hi : Int} {xs : List Int} {k : Nat} (h : Upto lo hi xs k) {x : Int} (hx : x = xs.getD k 0) (h1 : lo ≤ x) (h2 : x ≤ hi) : Upto lo hi xs (k + 1) := by
  intro j hj
  by_cases hjk : j = k
  · subst hjk; rw [← hx]; exact ⟨h1, h2⟩
  · exact h j (by omega)
theorem within_true {lo hi : Int} {xs : List Int} : within lo hi xs = true ↔ Upto lo hi xs xs.length := by
  simp only [within, List.all_eq_true, inB_true, Upto]
  constructor
  · intro h j hj
    have := h xs[j] (List.getElem_mem hj)
    simpa [List.getD, hj] using this
  · intro h x hx
    obtain ⟨j, hj, rfl⟩ := List.getElem_of_mem hx
    simpa [List.getD, hj] using h j hj
theorem within_no {lo hi : Int} {xs : List Int} {k : Nat} (hk : k < xs.length) {x : Int} (hx : x = xs.getD k 0) (h : x < lo ∨ hi < x) : within lo hi xs = false := by
  rw [Bool.eq_false_iff]
  intro h1
  have := within_true.1 h1 k hk
  omega
theorem within_bd {lo hi B : Int} {xs : List Int} (h : within lo hi xs = true) (h1 : -B ≤ lo) (h2 : hi ≤ B) (h3 : 0 ≤ B) : Bd B xs := by
  intro j
  by_cases hj : j < xs.length
  · have := within_true.1 h j hj; omega
  · simp [List.getD, List.getElem?_eq_none (Nat.le_of_not_lt hj)]; exact h3
theorem Bd.mono {B B' : Int} {xs : List Int} (h : Bd B xs) (hB : B ≤ B') : Bd B' xs := fun j => by have := h j; omega
theorem Bd.nil {B : Int} (h : 0 ≤ B) : Bd B [] := fun j => by simp; exact h

theorem take_sum_succ (xs : List Int) (k : Nat) (h : k < xs.length) : (xs.take (k + 1)).sum = (xs.take k).sum + xs.getD k 0 := by
  rw [List.take_succ_eq_append_getElem h, List.sum_append]
  simp [List.getD, h]
theorem sum_bd (xs : List Int) (B : Int) (h : Bd B xs) (h0 : 0 ≤ B) (k : Nat) (hk : k ≤ xs.length) : -(B * k) ≤ (xs.take k).sum ∧ (xs.take k).sum ≤ B * k := by
  induction k with
  | zero => simp
  | succ k ih =>
    have := ih (by omega)
    rw [take_sum_succ _ _ (by omega)]
    have := h k
    have e : B * ((k + 1 : Nat) : Int) = B * k + B := by rw [Int.natCast_succ, Int.mul_add, Int.mul_one]
    rw [e]; omega
theorem sum_bd_all (xs : List Int) (B : Int) (h : Bd B xs) (h0 : 0 ≤ B) : -(B * xs.length) ≤ xs.sum ∧ xs.sum ≤ B * xs.length := by
  have := sum_bd xs B h h0 xs.length (Nat.le_refl _)
  simpa using this
/-- The sum's bound, at a number for the length. -/
theorem sum_num (xs : List Int) (B : Int) (h : Bd B xs) (h0 : 0 ≤ B) (k m : Nat) (hk : k ≤ xs.length) (hm : k ≤ m) : -(B * m) ≤ (xs.take k).sum ∧ (xs.take k).sum ≤ B * m := by
  have h1 := sum_bd xs B h h0 k hk
  have h2 : B * (k : Int) ≤ B * (m : Int) := Int.mul_le_mul_of_nonneg_left (by omega) h0
  omega

theorem sq_bd {x B : Int} (h : -B ≤ x ∧ x ≤ B) : 0 ≤ x * x ∧ x * x ≤ B * B := by
  have h0 : 0 ≤ B := by omega
  constructor
  · rcases Int.le_total 0 x with h1 | h1
    · exact Int.mul_nonneg h1 h1
    · exact Int.mul_nonneg_of_nonpos_of_nonpos h1 h1
  · rcases Int.le_total 0 x with h1 | h1
    · exact Int.mul_le_mul h.2 h.2 h1 h0
    · have : (-x) * (-x) ≤ B * B := Int.mul_le_mul (by omega) (by omega) (by omega) h0
      rwa [Int.neg_mul_neg] at this

/-- The sum of the squares of the differences, of the first k. -/
def sqd (xs ys : List Int) : Nat → Int
  | 0 => 0
  | k + 1 => sqd xs ys k + (xs.getD k 0 - ys.getD k 0) * (xs.getD k 0 - ys.getD k 0)
theorem sqd_succ (xs ys : List Int) (k : Nat) : sqd xs ys (k + 1) = sqd xs ys k + (xs.getD k 0 - ys.getD k 0) * (xs.getD k 0 - ys.getD k 0) := rfl
theorem sqd_bd (xs ys : List Int) (hx : Bd 100000 xs) (hy : Bd 100000 ys) (k : Nat) : 0 ≤ sqd xs ys k ∧ sqd xs ys k ≤ 40000000000 * k := by
  induction k with
  | zero => simp [sqd]
  | succ k ih =>
    have := sq_bd (x := xs.getD k 0 - ys.getD k 0) (B := 200000) (by have := hx k; have := hy k; omega)
    simp only [sqd]
    omega

theorem l1In_any (a lo hi : Int) (w : World) : Calls Tryz.prog 87 #[.int .i64 a, .int .i64 lo, .int .i64 hi] w fun e w' => e = .returned (.bool (inB a lo hi)) ∧ w = w' := by
  by_cases h1 : lo ≤ a
  · by_cases h2 : a ≤ hi
    · go_enter Tryz.func87, Tryz.ntmps87
      go_wp2
      go_ret
      exact ⟨ret_bool (by simp [inB, h1, h2]), rfl⟩
    · go_enter Tryz.func87, Tryz.ntmps87
      go_wp2
      go_ret
      exact ⟨ret_bool (by simp [inB, h1]; omega), rfl⟩
  · go_enter Tryz.func87, Tryz.ntmps87
    go_wp2
    go_ret
    exact ⟨ret_bool (by simp [inB]; omega), rfl⟩
/-- 1 to 30 numbers, each between -100000 and 100000. -/
def partsB (xs : List Int) : Bool := decide (1 ≤ xs.length) && decide (xs.length ≤ 30) && within (-100000) 100000 xs
theorem partsB_true {xs : List Int} : partsB xs = true ↔ 1 ≤ xs.length ∧ xs.length ≤ 30 ∧ within (-100000) 100000 xs = true := by simp [partsB, and_assoc]
theorem partsB_short {xs : List Int} (h : xs.length < 1 ∨ 30 < xs.length) : partsB xs = false := by
  rw [Bool.eq_false_iff]; intro h1; have := partsB_true.1 h1; omega
theorem partsB_mid {xs : List Int} (h : 1 ≤ xs.length) (h' : xs.length ≤ 30) : partsB xs = within (-100000) 100000 xs := by simp [partsB, h, h']
theorem partsB_bd {xs : List Int} (h : partsB xs = true) : Bd 100000 xs := within_bd (partsB_true.1 h).2.2 (by omega) (by omega) (by omega)

end Go.Proofs.YtlkjhkkfdmjfcaaGreatDoor

/- append of one element to a slice that the call itself makes; small tools for walks. -/
namespace Go.Proofs.YtlkjhkkfdmjfcaaGreatDoor
open Go.RowKit
set_option linter.unusedVariables false
set_option linter.unusedSimpArgs false

theorem flip {P : Program} {f : FuncId} {args : Array Value} {w : World} {v : Value} (h : Calls P f args w fun e w' => e = .returned v ∧ w = w') : Calls P f args w fun e w' => e = .returned v ∧ w' = w :=
  h.mono fun _ _ ⟨a, b⟩ => ⟨a, b.symm⟩
theorem quietC {P : Program} {f : FuncId} {args : Array Value} {w : World} {n : Nat} {v : Value} (h : Calls P f args (w.drewN n) fun e w' => e = .returned v ∧ Quiet (w.drewN n) w') :
    Calls P f args (w.drewN n) fun e w'' => e = .returned v ∧ ∃ m, w'' = w.drewN m :=
  h.mono fun _ _ ⟨a, m, b⟩ => ⟨a, n + m, by rw [b, World.drewN_drewN]⟩
theorem quietS {P : Program} {f : FuncId} {args : Array Value} {w : World} {n : Nat} {v : Value} (h : Calls P f args (w.drewN n) fun e w' => e = .returned v ∧ w.drewN n = w') :
    Calls P f args (w.drewN n) fun e w'' => e = .returned v ∧ ∃ m, w'' = w.drewN m :=
  h.mono fun _ _ ⟨a, b⟩ => ⟨a, n, b.symm⟩

/-- What the call has gathered: a slice of its own, at the element type e of 'size' cells. -/
abbrev Has (w : World) (B : Nat) (e size : Nat) (v : Value) (n : Nat) (cs : List Value) : Prop := w.ownsRow B e size v n cs
theorem Has.below {w w' : World} {B e size n : Nat} {v : Value} {cs : List Value} (h : Has w B e size v n cs) (hb : Keeps w w') : Has w' B e size v n cs :=
  World.ownsRow.kept h (row := none) ⟨hb.os, hb.tape, hb.output, hb.size, fun k hk _ => hb.block k hk⟩ (by cases hv : v.ownBlock <;> simp)

/-- 'append(out, x)', behind the block of x: the walk goes on with the longer row. -/
theorem append_one {P : Program} {w0 : World} {ops : Array Oper} {rest : List Oper} {o : Oper} {a : Act} {Q : Exit → Act → World → Prop} {e size bytes : Nat} {z : Value} {B : Nat} {v : Value} {n : Nat} {xs cs : List Value}
    (hown : Has w0 B e size v n xs) (hcs : cs.length = size)
    (hinfo : (P.info? e).map (fun i => (i.zero, i.size, i.bytes)) = some (some z, size, bytes)) (hz : z.cells.size = size) (hsz : 0 < size)
    (s x : Operand) (t : TypeId) (hgd : o.guard = none)
    (ho : o.op = .call { callee := .builtin .append, args := #[s, x], argTypes := #[t, t] }) (ht : P.underlying t = some (.slice e))
    (hs : a.eval s = v) (hx : a.eval x = .slice (some ⟨w0.heap.size, 0, none⟩) 1 1) (h1 : ∀ u ∈ cs, u.oneCell' = true)
    (hn : n ≤ 67108864) (hb : bytes ≤ 1024) (hB : B ≤ w0.heap.size)
    (h : ∀ v' w', Has w' B e size v' (n + 1) (xs ++ cs) → Below B w0 w' → wpList P ops Q rest (a.put o.dst v') w') : wpList P ops Q (o :: rest) a (w0.alloc (.cells cs.toArray e)) := by
  obtain ⟨i, hi, hz0, hz1, hz2⟩ := info_parts hinfo
  have hbytes : (n + 1) * bytes ≤ 140737488355328 := Nat.le_trans (Nat.mul_le_mul (Nat.succ_le_succ hn) hb) (by omega)
  refine wpList_append_own _ hgd s x t ho B e i z size bytes ht hi hz0 hz1 hz2 hz hsz v n xs hs (hown.alloc _) ⟨w0.heap.size, 0, none⟩ 1 1 cs hx (by omega) (fun j u hu => ?_) h1 (by unfold maxLen; omega) hbytes (by simp; omega) (fun v' w' h2 h3 h4 => ?_)
  · rw [Addr.add_lit, Nat.zero_add, cell_of_row _ _ _ _ _ _ (heap_alloc_new w0 _)]
    simpa using hu
  · refine h v' w' h2 (((Below.refl B w0).alloc hB _).grown h3 (by simp; omega) (fun k hk => (hown.lt k hk).1))
/-- .. of an int. -/
theorem append_int {w0 : World} {ops : Array Oper} {rest : List Oper} {o : Oper} {a : Act} {Q : Exit → Act → World → Prop} {B : Nat} {v : Value} {n : Nat} {xs : List Int} {u : Int}
    (hown : Has w0 B 3 1 v n (xs.map (Value.int .i64))) (hn : n ≤ 67108864) (hB : B ≤ w0.heap.size)
    (s x : Operand) (hgd : o.guard = none)
    (ho : o.op = .call { callee := .builtin .append, args := #[s, x], argTypes := #[22, 22] })
    (hs : a.eval s = v) (hx : a.eval x = .slice (some ⟨w0.heap.size, 0, none⟩) 1 1)
    (h : ∀ v' w', Has w' B 3 1 v' (n + 1) ((xs ++ [u]).map (Value.int .i64)) → Below B w0 w' → wpList Tryz.prog ops Q rest (a.put o.dst v') w') : wpList Tryz.prog ops Q (o :: rest) a (w0.alloc (.cells #[.int .i64 u] 3)) :=
  append_one (cs := [.int .i64 u]) hown rfl info_int rfl (by omega) s x 22 hgd ho Tryz.underlying22 hs hx (fun y hy => by simp at hy; subst hy; rfl) hn (by omega) hB (fun v' w' h2 h3 => h v' w' (by simpa using h2) h3)

/-- The same in a region that draws its order: over whatever world the region has come to. -/
theorem step_append_int {W : World} {ops : Array Oper} {o : Oper} {a : Act} {K : Act → World → Prop} {Q : Exit → Act → World → Prop} {E : Prop} {B : Nat} {v : Value} {n g : Nat} {xs : List Int} {u : Int}
    (hown : Has W B 3 1 v n (xs.map (Value.int .i64))) (hn : n ≤ 67108864) (hB : B ≤ W.heap.size)
    (s x : Operand) (hgd : o.guard = none)
    (ho : o.op = .call { callee := .builtin .append, args := #[s, x], argTypes := #[22, 22] })
    (hs : a.eval s = v) (hx : a.eval x = .slice (some ⟨g, 0, none⟩) 1 1) (hg : W.heap[g]? = some (.cells #[.int .i64 u] 3 (0, 0)))
    (h : ∀ v' w', Has w' B 3 1 v' (n + 1) ((xs ++ [u]).map (Value.int .i64)) → Below B W w' → K (a.put o.dst v') w') :
    if Region.wanted o (yielded ops a.tmps) = true then Oper.wp Tryz.prog o a W K Q else E := by
  have hw : Region.wanted o (yielded ops a.tmps) = true := by simp [Region.wanted, hgd]
  rw [if_pos hw]
  obtain ⟨i, hi, hz0, hz1, hz2⟩ := info_parts info_int
  refine wp_append_own W s x 22 ho B 3 i _ 1 8 Tryz.underlying22 hi hz0 hz1 hz2 rfl (by omega) v n _ hs hown ⟨g, 0, none⟩ 1 1 [.int .i64 u] hx rfl (fun j y hy => ?_) (fun y hy => by simp at hy; subst hy; rfl) (by unfold maxLen; omega) (by omega) hB (fun v' w' h2 h3 h4 => ?_)
  · rw [Addr.add_lit, Nat.zero_add, cell_of_row _ _ _ _ _ _ hg]
    simpa using hy
  · exact h v' w' (by simpa using h2) ((Below.refl B W).grown h3 hB (fun k hk => (hown.lt k hk).1))

theorem Has.form {w : World} {B e size n : Nat} {v : Value} {cs : List Value} (h : Has w B e size v n cs) : ∃ A c, v = .slice A n c := by
  rcases h.2 with ⟨rfl, rfl⟩ | ⟨g, cap, cur, rfl, _⟩
  · exact ⟨_, _, rfl⟩
  · exact ⟨_, _, rfl⟩

theorem take_snoc {α : Type} (xs : List α) (k : Nat) (d : α) (h : k < xs.length) : xs.take (k + 1) = xs.take k ++ [xs.getD k d] := by
  rw [List.take_succ_eq_append_getElem h]; simp [List.getD, h]
end Go.Proofs.YtlkjhkkfdmjfcaaGreatDoor

