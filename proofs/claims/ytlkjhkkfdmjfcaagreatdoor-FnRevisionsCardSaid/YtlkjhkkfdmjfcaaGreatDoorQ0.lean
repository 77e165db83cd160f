/- What the proof of the statement leans on, part 1: walks of functions and plain lemmas, with no condition. -/
import Derived.Test.YtlkjhkkfdmjfcaaGreatDoorRows
import Derived.WalkKit
import Derived.Deep.Draws
import Derived.Laws.NewBlocks
import Derived.Deep.QuietTactic
import Derived.BigQuiet
import Derived.StillTailTactics
import Derived.Deep.AppendLies
import Derived.Deep.RegionHeld3
import Derived.ProofKit
import Derived.OpenShut
import Derived.ShutString
import Derived.ChangeOld
import Derived.Deep.Slices
import Derived.Lib.SmallJoins
import Derived.Laws.BytesArg
import Derived.Laws.Concat
import Derived.BigRegion
import Derived.Deep.SlicePairs
import Derived.Deep.DeepCutAuto
import Derived.Lib.SliceRun
import Derived.Laws.OwnMore
namespace Go.Proofs.YtlkjhkkfdmjfcaaGreatDoor
open Go.RowKit
set_option linter.unusedVariables false
set_option linter.unusedSimpArgs false
theorem hid {p : Prop} (h : p) : Hid p := h
/-- Everything below the old size of the heap is as it was. -/
abbrev Keeps (w w' : World) : Prop := Below w.heap.size w w'
theorem Keeps.trans {a b c : World} (h : Keeps a b) (k : Keeps b c) : Keeps a c := Below.trans h (k.mono h.size)
theorem Keeps.drewN (w : World) (n : Nat) : Keeps w (w.drewN n) := ⟨rfl, rfl, rfl, Nat.le_refl _, fun _ _ => rfl⟩
theorem keeps_refl (w : World) : Keeps w w := Below.refl _ _
/-- Only draws between the two worlds. -/
def Quiet (w w' : World) : Prop := ∃ m, w' = w.drewN m
theorem Quiet.refl (w : World) : Quiet w w := ⟨0, rfl⟩
theorem Quiet.drewN (w : World) (n : Nat) : Quiet w (w.drewN n) := ⟨n, rfl⟩
theorem Quiet.trans {a b c : World} (h : Quiet a b) (k : Quiet b c) : Quiet a c := by
  obtain ⟨m, rfl⟩ := h; obtain ⟨n, rfl⟩ := k; exact ⟨m + n, by rw [World.drewN_drewN]⟩
theorem Quiet.keeps {w w' : World} (h : Quiet w w') : Keeps w w' := by obtain ⟨m, rfl⟩ := h; exact Keeps.drewN w m
theorem Quiet.step {w w' : World} (h : Quiet w w') (n : Nat) : Quiet w (w'.drewN n) := h.trans (Quiet.drewN _ _)
/-- Of the old blocks only those from lo to hi (hi not included) may have turned. -/
structure Fr (lo hi : Nat) (w w' : World) : Prop where
  os : w'.os = w.os
  tape : w'.tape = w.tape
  output : w'.output = w.output
  size : w.heap.size ≤ w'.heap.size
  block : ∀ k, k < w.heap.size → (k < lo ∨ hi ≤ k) → w'.heap[k]? = w.heap[k]?
theorem Fr.refl (lo hi : Nat) (w : World) : Fr lo hi w w := ⟨rfl, rfl, rfl, Nat.le_refl _, fun _ _ _ => rfl⟩
theorem Fr.trans {lo hi : Nat} {a b c : World} (h : Fr lo hi a b) (k : Fr lo hi b c) : Fr lo hi a c :=
  ⟨k.os.trans h.os, k.tape.trans h.tape, k.output.trans h.output, Nat.le_trans h.size k.size, fun i hi ho => (k.block i (Nat.lt_of_lt_of_le hi h.size) ho).trans (h.block i hi ho)⟩
theorem Fr.of_keeps {w w' : World} (h : Keeps w w') (lo hi : Nat) : Fr lo hi w w' := ⟨h.os, h.tape, h.output, h.size, fun k hk _ => h.block k hk⟩
theorem Fr.widen {lo hi lo' hi' : Nat} {w w' : World} (h : Fr lo hi w w') (h1 : lo' ≤ lo ∨ hi ≤ lo) (h2 : hi ≤ hi' ∨ hi ≤ lo) : Fr lo' hi' w w' :=
  ⟨h.os, h.tape, h.output, h.size, fun k hk ho => h.block k hk (by omega)⟩
theorem Fr.drewN {lo hi : Nat} {a w : World} (h : Fr lo hi a w) (n : Nat) : Fr lo hi a (w.drewN n) := ⟨h.os, h.tape, h.output, h.size, h.block⟩
theorem Fr.setCell {lo hi : Nat} {a w : World} (h : Fr lo hi a w) {p : Addr} (h1 : lo ≤ p.block) (h2 : p.block < hi) (u : Value) : Fr lo hi a (w.setCell p u) :=
  h.trans ⟨rfl, rfl, rfl, by simp [World.setCell], fun k hk ho => Below.heap_setCell _ _ _ _ (by omega)⟩
theorem below_fr {B lo hi : Nat} {a b c : World} (h : Below B a b) (hB : B ≤ b.heap.size) (hlo : B ≤ lo) (k : Fr lo hi b c) : Below B a c :=
  h.trans ⟨k.os, k.tape, k.output, k.size, fun i hi => k.block i (by omega) (by omega)⟩
theorem Fr.cell {lo hi : Nat} {w w' : World} (h : Fr lo hi w w') {p : Addr} (hp : p.block < w.heap.size) (ho : p.block < lo ∨ hi ≤ p.block) : w'.cell? p = w.cell? p := World.cell?_of_block (w := w) (h.block p.block hp ho)
theorem Fr.frozen {lo hi : Nat} {w w' : World} (h : Fr lo hi w w') {p : Addr} (hp : p.block < w.heap.size) (ho : p.block < lo ∨ hi ≤ p.block) : w'.frozen? p = w.frozen? p := World.frozen?_of_block (w := w) (h.block p.block hp ho)
/-- The slice (A, n) reads as the list xs of ints, in blocks from lo to hi. -/
def Ints (w : World) (lo hi : Nat) (A : Option Addr) (n : Nat) (xs : List Int) : Prop :=
  xs.length = n ∧ n ≤ 67108864 ∧ hi ≤ w.heap.size ∧
  (0 < n → ∃ b off, A = some ⟨b, off, none⟩ ∧ lo ≤ b ∧ b < hi ∧ ∀ j, j < n → w.cell? ⟨b, off + j, none⟩ = some (.int .i64 (xs.getD j 0)))
/-- The same, and its cells may be written. -/
def Mine (w : World) (lo hi : Nat) (A : Option Addr) (n : Nat) (xs : List Int) : Prop :=
  Ints w lo hi A n xs ∧ (∀ b off, A = some ⟨b, off, none⟩ → ∀ j, j < n → w.frozen? ⟨b, off + j, none⟩ = false)
/-- Block g is just the ints xs, none frozen. -/
def Own (w : World) (g : Nat) (xs : List Int) : Prop := w.heap[g]? = some (.cells (xs.map (Value.int .i64)).toArray 3 (0, 0))
section
variable {w w' : World} {lo hi n : Nat} {A : Option Addr} {xs : List Int}
theorem Ints.le (h : Ints w lo hi A n xs) : n ≤ 67108864 := h.2.1
theorem Ints.top (h : Ints w lo hi A n xs) : hi ≤ w.heap.size := h.2.2.1
theorem Ints.at_ {k : Nat} (h : Ints w lo hi A n xs) (hk : k < n) :
    ∃ b off x, A = some ⟨b, off, none⟩ ∧ lo ≤ b ∧ b < hi ∧ w.cell? ⟨b, off + k, none⟩ = some (.int .i64 x) ∧ Hid (x = xs.getD k 0) := by
  obtain ⟨b, off, e, hl, hb, hc⟩ := h.2.2.2 (by omega)
  exact ⟨b, off, _, e, hl, hb, hc k hk, rfl⟩
theorem Ints.nil_ (w : World) (A : Option Addr) (lo : Nat) : Ints w lo w.heap.size A 0 [] := ⟨rfl, by omega, Nat.le_refl _, fun h => absurd h (by omega)⟩
theorem Ints.fr {l h' : Nat} (h : Ints w lo hi A n xs) (hf : Fr l h' w w') (ho : h' ≤ lo ∨ hi ≤ l ∨ h' ≤ l) : Ints w' lo hi A n xs :=
  ⟨h.1, h.2.1, Nat.le_trans h.top hf.size, fun hn => by
    obtain ⟨b, off, e, hl, hb, hc⟩ := h.2.2.2 hn
    have := h.top
    exact ⟨b, off, e, hl, hb, fun j hj => (hf.cell (p := ⟨b, off + j, none⟩) (by show b < _; omega) (by show b < _ ∨ _ ≤ b; omega)).trans (hc j hj)⟩⟩
theorem Ints.keeps (h : Ints w lo hi A n xs) (hb : Keeps w w') : Ints w' lo hi A n xs := h.fr (Fr.of_keeps hb 0 0) (by omega)
theorem Ints.quiet (h : Ints w lo hi A n xs) (hb : Quiet w w') : Ints w' lo hi A n xs := h.keeps hb.keeps
theorem Ints.drew (h : Ints w lo hi A n xs) : Ints w.drew lo hi A n xs := h
theorem Ints.widen {lo' hi' : Nat} (h : Ints w lo hi A n xs) (h1 : lo' ≤ lo) (h2 : hi ≤ hi') (h3 : hi' ≤ w.heap.size) : Ints w lo' hi' A n xs :=
  ⟨h.1, h.2.1, h3, fun hn => by
    obtain ⟨b, off, e, hl, hb, hc⟩ := h.2.2.2 hn
    exact ⟨b, off, e, by omega, by omega, hc⟩⟩
theorem Mine.ints (h : Mine w lo hi A n xs) : Ints w lo hi A n xs := h.1
theorem Mine.fr {l h' : Nat} (h : Mine w lo hi A n xs) (hf : Fr l h' w w') (ho : h' ≤ lo ∨ hi ≤ l ∨ h' ≤ l) : Mine w' lo hi A n xs :=
  ⟨h.1.fr hf ho, fun b off e j hj => by
    obtain ⟨b', off', e', hl, hb, _⟩ := h.1.2.2.2 (by omega)
    have := h.1.top
    rw [e] at e'
    obtain ⟨rfl, rfl⟩ : b = b' ∧ off = off' := by simpa using e'
    exact (hf.frozen (p := ⟨b, off + j, none⟩) (by show b < _; omega) (by show b < _ ∨ _ ≤ b; omega)).trans (h.2 b off e j hj)⟩
theorem Mine.keeps (h : Mine w lo hi A n xs) (hb : Keeps w w') : Mine w' lo hi A n xs := h.fr (Fr.of_keeps hb 0 0) (by omega)
theorem Mine.nil_ (w : World) (lo : Nat) : Mine w lo w.heap.size none 0 [] := ⟨Ints.nil_ w _ lo, fun b off e => by cases e⟩
theorem Mine.widen {lo' hi' : Nat} (h : Mine w lo hi A n xs) (h1 : lo' ≤ lo) (h2 : hi ≤ hi') (h3 : hi' ≤ w.heap.size) : Mine w lo' hi' A n xs := ⟨h.1.widen h1 h2 h3, h.2⟩
/-- A store at k. -/
theorem Mine.set_ {k : Nat} {b off : Nat} (h : Mine w lo hi (some ⟨b, off, none⟩) n xs) (hk : k < n) (u : Int) :
    Mine (w.setCell ⟨b, off + k, none⟩ (.int .i64 u)) lo hi (some ⟨b, off, none⟩) n (xs.set k u) ∧ Fr lo hi w (w.setCell ⟨b, off + k, none⟩ (.int .i64 u)) := by
  obtain ⟨⟨h1, h2, h3, h4⟩, h5⟩ := h
  obtain ⟨b', off', e, hl, hb, hc⟩ := h4 (by omega)
  obtain ⟨rfl, rfl⟩ : b = b' ∧ off = off' := by simpa using e
  refine ⟨⟨⟨by simpa using h1, h2, by simpa [World.setCell] using h3, fun _ => ⟨b, off, rfl, hl, hb, fun j hj => ?_⟩⟩, fun b' off' e' j hj => ?_⟩, (Fr.refl lo hi w).setCell (p := ⟨b, off + k, none⟩) hl hb _⟩
  · by_cases hjk : j = k
    · subst hjk
      rw [World.cell?_setCell_same _ _ _ (hc j hj)]
      simp [List.getD, h1, hj]
    · rw [World.cell?_setCell_other w _ _ _ (by intro e; injection e with _ e; omega), hc j hj]
      simp [List.getD, List.getElem?_set_ne (Ne.symm hjk)]
  · rw [World.frozen?_setCell]; exact h5 b' off' e' j hj
end
section
variable {w w' : World} {g : Nat} {xs : List Int}
theorem Own.cell (h : Own w g xs) (j : Nat) (hj : j < xs.length) : w.cell? ⟨g, j, none⟩ = some (.int .i64 (xs.getD j 0)) := by
  rw [cell_of_row w g j _ _ _ h]
  simp [List.getD, hj]
theorem Own.frozen (h : Own w g xs) (i : Nat) : w.frozen? ⟨g, i, none⟩ = false := by
  unfold Own at h
  simp [World.frozen?, h]
theorem Own.mine (h : Own w g xs) {n lo hi : Nat} (hn : xs.length = n) (hs : n ≤ 67108864) (h1 : lo ≤ g) (h2 : g < hi) (h3 : hi ≤ w.heap.size) : Mine w lo hi (some ⟨g, 0, none⟩) n xs :=
  ⟨⟨hn, hs, h3, fun _ => ⟨g, 0, rfl, h1, h2, fun j hj => by rw [Nat.zero_add]; exact h.cell j (by omega)⟩⟩, fun b off e j hj => by
    obtain ⟨rfl, rfl⟩ : g = b ∧ 0 = off := by simpa using e
    exact h.frozen _⟩
end
/-- An owned row of ints (the kit's word for what append makes) is a slice that may be written. -/
theorem Mine.of_own {w : World} {base n : Nat} {A : Option Addr} {c : Nat} {xs : List Int} (h : w.ownsRow base 3 1 (.slice A n c) n (xs.map (Value.int .i64))) (hs : n ≤ 67108864) : Mine w base w.heap.size A n xs := by
  obtain ⟨h1, h2⟩ := h
  have hl : xs.length = n := by simpa using h1
  rcases h2 with ⟨h2, rfl⟩ | ⟨g, cap, cur, hv, hg, hh, hnc, hcm, hcs, htake⟩
  · refine ⟨⟨hl, hs, Nat.le_refl _, fun h => absurd h (by omega)⟩, fun b off e j hj => absurd hj (by omega)⟩
  · have hA : A = some ⟨g, 0, none⟩ := by injection hv
    subst hA
    have hlt : g < w.heap.size := (Array.getElem?_eq_some_iff.1 hh).1
    refine ⟨⟨hl, hs, Nat.le_refl _, fun _ => ⟨g, 0, rfl, hg, hlt, fun j hj => ?_⟩⟩, fun b off e j hj => ?_⟩
    · rw [Nat.zero_add, cell_of_row w g j cur _ _ hh]
      have h3 : (cur.toList.take (n * 1))[j]? = some (.int .i64 (xs.getD j 0)) := by
        rw [htake]; simp [List.getD, hl, hj]
      rw [List.getElem?_take, if_pos (by omega)] at h3
      simpa using h3
    · obtain ⟨rfl, rfl⟩ : g = b ∧ 0 = off := by simpa using e
      simp [World.frozen?, hh]
end Go.Proofs.YtlkjhkkfdmjfcaaGreatDoor
namespace Go.Proofs.YtlkjhkkfdmjfcaaGreatDoor
open Go.RowKit
set_option linter.unusedVariables false
set_option linter.unusedSimpArgs false
theorem info_int : (Tryz.prog.info? 3).map (fun i => (i.zero, i.size, i.bytes)) = some (some (.int .i64 0), 1, 8) := by kernel_rfl
theorem run_make_rowN {P : Program} (t e : TypeId) (i : TypeInfo) (z : Value) (ht : P.underlying t = some (.slice e)) (hi : P.info? e = some i) (hz : i.zero = some z)
    (kl kc : IntKind) (n c : Nat) (hnc : n ≤ c) (hbytes : i.bytes * c ≤ 281474976710656) (h63 : c ≤ 9223372036854775807) (w : World) :
    (Instr.makeSlice t (.int kl (n : Int)) (.int kc (c : Int))).run P w = .ok (.slice (some ⟨w.heap.size, 0, none⟩) n c) (w.alloc (.cells (madeCells z.cells (c * i.size)) e)) := by
  have hb : (i.bytes : Int) * (c : Int) ≤ 281474976710656 := by
    have h : ((i.bytes * c : Nat) : Int) ≤ 281474976710656 := by omega
    rwa [Int.natCast_mul] at h
  have hr := run_make (P := P) w t e i z ht hi hz kl kc n c (by omega) (by omega) hb (by omega)
  simp only [Int.toNat_natCast] at hr
  exact hr
end Go.Proofs.YtlkjhkkfdmjfcaaGreatDoor
namespace Go.Proofs.YtlkjhkkfdmjfcaaGreatDoor
open Go.RowKit
set_option linter.unusedVariables false
set_option linter.unusedSimpArgs false
theorem ret_int {k : IntKind} {a b : Int} (h : a = b) : Ending.returned (.int k a) = .returned (.int k b) := by rw [h]
theorem ret_bool {a b : Bool} (h : a = b) : Ending.returned (.bool a) = .returned (.bool b) := by rw [h]
/-- Each element lies within -B and B. -/
def Bd (B : Int) (xs : List Int) : Prop := ∀ j, -B ≤ xs.getD j 0 ∧ xs.getD j 0 ≤ B
def inB (a lo hi : Int) : Bool := decide (lo ≤ a ∧ a ≤ hi)
theorem inB_true {a lo hi : Int} : inB a lo hi = true ↔ lo ≤ a ∧ a ≤ hi := by simp [inB]
theorem inB_false {a lo hi : Int} : inB a lo hi = false ↔ a < lo ∨ hi < a := by simp [inB]; omega
theorem l1In_any (a lo hi : Int) (w : World) : Calls Tryz.prog 87 #[.int .i64 a, .int .i64 lo, .int .i64 hi] w fun e w' => e = .returned (.bool (inB a lo hi)) ∧ w = w' := by
  by_cases h1 : lo ≤ a
  · by_cases h2 : a ≤ hi
    · go_enter Tryz.func87, Tryz.ntmps87
      go_wp2
      go_ret
      exact ⟨ret_bool (by simp [inB, h1, h2]), rfl⟩
    · go_enter Tryz.func87, Tryz.ntmps87
      go_wp2
      go_ret
      exact ⟨ret_bool (by simp [inB, h1]; omega), rfl⟩
  · go_enter Tryz.func87, Tryz.ntmps87
    go_wp2
    go_ret
    exact ⟨ret_bool (by simp [inB]; omega), rfl⟩
end Go.Proofs.YtlkjhkkfdmjfcaaGreatDoor
namespace Go.Proofs.YtlkjhkkfdmjfcaaGreatDoor
open Go.RowKit
set_option linter.unusedVariables false
set_option linter.unusedSimpArgs false
theorem quietS {P : Program} {f : FuncId} {args : Array Value} {w : World} {n : Nat} {v : Value} (h : Calls P f args (w.drewN n) fun e w' => e = .returned v ∧ w.drewN n = w') :
    Calls P f args (w.drewN n) fun e w'' => e = .returned v ∧ ∃ m, w'' = w.drewN m :=
  h.mono fun _ _ ⟨a, b⟩ => ⟨a, n, b.symm⟩
/-- What the call has gathered: a slice of its own, at the element type e of 'size' cells. -/
abbrev Has (w : World) (B : Nat) (e size : Nat) (v : Value) (n : Nat) (cs : List Value) : Prop := w.ownsRow B e size v n cs
theorem Has.below {w w' : World} {B e size n : Nat} {v : Value} {cs : List Value} (h : Has w B e size v n cs) (hb : Keeps w w') : Has w' B e size v n cs :=
  World.ownsRow.kept h (row := none) ⟨hb.os, hb.tape, hb.output, hb.size, fun k hk _ => hb.block k hk⟩ (by cases hv : v.ownBlock <;> simp)
/-- 'append(out, x)', behind the block of x: the walk goes on with the longer row. -/
theorem append_one {P : Program} {w0 : World} {ops : Array Oper} {rest : List Oper} {o : Oper} {a : Act} {Q : Exit → Act → World → Prop} {e size bytes : Nat} {z : Value} {B : Nat} {v : Value} {n : Nat} {xs cs : List Value}
    (hown : Has w0 B e size v n xs) (hcs : cs.length = size)
    (hinfo : (P.info? e).map (fun i => (i.zero, i.size, i.bytes)) = some (some z, size, bytes)) (hz : z.cells.size = size) (hsz : 0 < size)
    (s x : Operand) (t : TypeId) (hgd : o.guard = none)
    (ho : o.op = .call { callee := .builtin .append, args := #[s, x], argTypes := #[t, t] }) (ht : P.underlying t = some (.slice e))
    (hs : a.eval s = v) (hx : a.eval x = .slice (some ⟨w0.heap.size, 0, none⟩) 1 1) (h1 : ∀ u ∈ cs, u.oneCell' = true)
    (hn : n ≤ 67108864) (hb : bytes ≤ 1024) (hB : B ≤ w0.heap.size)
    (h : ∀ v' w', Has w' B e size v' (n + 1) (xs ++ cs) → Below B w0 w' → wpList P ops Q rest (a.put o.dst v') w') : wpList P ops Q (o :: rest) a (w0.alloc (.cells cs.toArray e)) := by
  obtain ⟨i, hi, hz0, hz1, hz2⟩ := info_parts hinfo
  have hbytes : (n + 1) * bytes ≤ 140737488355328 := Nat.le_trans (Nat.mul_le_mul (Nat.succ_le_succ hn) hb) (by omega)
  refine wpList_append_own _ hgd s x t ho B e i z size bytes ht hi hz0 hz1 hz2 hz hsz v n xs hs (hown.alloc _) ⟨w0.heap.size, 0, none⟩ 1 1 cs hx (by omega) (fun j u hu => ?_) h1 (by unfold maxLen; omega) hbytes (by simp; omega) (fun v' w' h2 h3 h4 => ?_)
  · rw [Addr.add_lit, Nat.zero_add, cell_of_row _ _ _ _ _ _ (heap_alloc_new w0 _)]
    simpa using hu
  · refine h v' w' h2 (((Below.refl B w0).alloc hB _).grown h3 (by simp; omega) (fun k hk => (hown.lt k hk).1))
/-- .. of an int. -/
theorem append_int {w0 : World} {ops : Array Oper} {rest : List Oper} {o : Oper} {a : Act} {Q : Exit → Act → World → Prop} {B : Nat} {v : Value} {n : Nat} {xs : List Int} {u : Int}
    (hown : Has w0 B 3 1 v n (xs.map (Value.int .i64))) (hn : n ≤ 67108864) (hB : B ≤ w0.heap.size)
    (s x : Operand) (hgd : o.guard = none)
    (ho : o.op = .call { callee := .builtin .append, args := #[s, x], argTypes := #[22, 22] })
    (hs : a.eval s = v) (hx : a.eval x = .slice (some ⟨w0.heap.size, 0, none⟩) 1 1)
    (h : ∀ v' w', Has w' B 3 1 v' (n + 1) ((xs ++ [u]).map (Value.int .i64)) → Below B w0 w' → wpList Tryz.prog ops Q rest (a.put o.dst v') w') : wpList Tryz.prog ops Q (o :: rest) a (w0.alloc (.cells #[.int .i64 u] 3)) :=
  append_one (cs := [.int .i64 u]) hown rfl info_int rfl (by omega) s x 22 hgd ho Tryz.underlying22 hs hx (fun y hy => by simp at hy; subst hy; rfl) hn (by omega) hB (fun v' w' h2 h3 => h v' w' (by simpa using h2) h3)
theorem Has.form {w : World} {B e size n : Nat} {v : Value} {cs : List Value} (h : Has w B e size v n cs) : ∃ A c, v = .slice A n c := by
  rcases h.2 with ⟨rfl, rfl⟩ | ⟨g, cap, cur, rfl, _⟩
  · exact ⟨_, _, rfl⟩
  · exact ⟨_, _, rfl⟩
theorem take_snoc {α : Type} (xs : List α) (k : Nat) (d : α) (h : k < xs.length) : xs.take (k + 1) = xs.take k ++ [xs.getD k d] := by
  rw [List.take_succ_eq_append_getElem h]; simp [List.getD, h]
end Go.Proofs.YtlkjhkkfdmjfcaaGreatDoor
namespace Go.Proofs.YtlkjhkkfdmjfcaaGreatDoor
open Go.RowKit
set_option linter.unusedVariables false
set_option linter.unusedSimpArgs false
theorem keeps_alloc (w : World) (o : Obj) : Keeps w (w.alloc o) := (Below.refl _ _).alloc (Nat.le_refl _) o
theorem cell_keeps {w w' : World} {p : Addr} {v : Value} (h : w.cell? p = some v) (k : Keeps w w') : w'.cell? p = some v := (k.cell (World.block_lt_of_cell? w _ h)).trans h
theorem cell_new (w : World) (v : Value) (t : TypeId) : (w.alloc (.cells #[v] t)).cell? ⟨w.heap.size, 0, none⟩ = some v := by
  rw [cell_of_row _ _ _ _ _ _ (heap_alloc_new w _)]; rfl
/-- 1 to 30 areas; the first is the root; each other one has an earlier parent. -/
def geoB (ps : List Int) : Bool := decide (1 ≤ ps.length ∧ ps.length ≤ 30) && (ps.getD 0 0 == -1) && (List.range ps.length).all fun i => decide (i = 0 ∨ 0 ≤ ps.getD i 0 ∧ ps.getD i 0 < (i : Int))
def ParTo (ps : List Int) (k : Nat) : Prop := ∀ i, i < k → 0 < i → 0 ≤ ps.getD i 0 ∧ ps.getD i 0 < (i : Int)
theorem geoB_true {ps : List Int} : geoB ps = true ↔ (1 ≤ ps.length ∧ ps.length ≤ 30) ∧ ps.getD 0 0 = -1 ∧ ParTo ps ps.length := by
  simp only [geoB, Bool.and_eq_true, decide_eq_true_eq, beq_iff_eq, List.all_eq_true, List.mem_range, ParTo, and_assoc]
  constructor
  · rintro ⟨h1, h2, h3, h4⟩
    exact ⟨h1, h2, h3, fun i hi h0 => by have := h4 i hi; omega⟩
  · rintro ⟨h1, h2, h3, h4⟩
    exact ⟨h1, h2, h3, fun i hi => by
      by_cases h0 : i = 0
      · exact .inl h0
      · exact .inr (h4 i hi (by omega))⟩
theorem geoB_len {ps : List Int} (h : ps.length < 1 ∨ 30 < ps.length) : geoB ps = false := by
  rw [Bool.eq_false_iff]; intro h1; have := (geoB_true.1 h1).1; omega
theorem geoB_root {ps : List Int} {x : Int} (hx : x = ps.getD 0 0) (h : x ≠ -1) : geoB ps = false := by
  rw [Bool.eq_false_iff]; intro h1; exact h (hx.trans (geoB_true.1 h1).2.1)
theorem geoB_par {ps : List Int} {k : Nat} {x : Int} (hk : k < ps.length) (h0 : 0 < k) (hx : x = ps.getD k 0) (h : x < 0 ∨ (k : Int) ≤ x) : geoB ps = false := by
  rw [Bool.eq_false_iff]; intro h1; have := (geoB_true.1 h1).2.2 k hk h0; omega
theorem parTo_succ {ps : List Int} {k : Nat} {x : Int} (h : ParTo ps k) (hx : x = ps.getD k 0) (h1 : 0 < k → 0 ≤ x ∧ x < (k : Int)) : ParTo ps (k + 1) := by
  intro i hi h0
  by_cases hik : i = k
  · subst hik; rw [← hx]; exact h1 h0
  · exact h i (by omega) h0
set_option maxHeartbeats 800000 in
theorem IsGeo_any {A : Option Addr} {lo hi n c : Nat} {ps : List Int} {w : World} (h : Ints w lo hi A n ps) :
    Calls Tryz.prog 49 #[.agg #[.slice A n c]] w fun e w' => e = .returned (.bool (geoB ps)) ∧ Keeps w w' := by
  have hn := h.le
  have hl := h.1
  have k := keeps_alloc w (.cells #[.slice A n c] 32)
  by_cases h1 : 1 ≤ n
  rotate_left
  · have HF := hid (geoB_len (ps := ps) (by omega))
    have t1 : (n : Int) < 1 := by omega
    go_enter Tryz.func49, Tryz.ntmps49
    go_wp2
    go_ret
    exact ⟨ret_bool HF.out.symm, k⟩
  have t1 : ¬ (n : Int) < 1 := by omega
  by_cases h2 : n ≤ 30
  rotate_left
  · have HF := hid (geoB_len (ps := ps) (by omega))
    have t2 : (30 : Int) < (n : Int) := by omega
    go_enter Tryz.func49, Tryz.ntmps49
    go_wp2
    go_ret
    exact ⟨ret_bool HF.out.symm, k⟩
  have t2 : ¬ (30 : Int) < (n : Int) := by omega
  have t0 : (0 : Int) < (n : Int) := by omega
  obtain ⟨b, off, x, rfl, _, hb, hc, hx⟩ := h.at_ (k := 0) (by omega)
  rw [Nat.add_zero] at hc
  have hbs : b < w.heap.size := by have := h.top; omega
  by_cases h3 : x = -1
  rotate_left
  · have HF := hid (geoB_root hx.out h3)
    have t3 : (x != -1) = true := by rw [bne_iff_ne]; exact h3
    go_enter Tryz.func49, Tryz.ntmps49
    go_wp2
    go_ret
    exact ⟨ret_bool HF.out.symm, k⟩
  subst h3
  have t3 : ((-1 : Int) != -1) = false := by decide
  go_enter Tryz.func49, Tryz.ntmps49
  go_wp2_with fail
  go_loop [3] (fun i => ∃ k : Nat, 1 ≤ k ∧ k ≤ n ∧ i = .int .i64 k ∧ Hid (ParTo ps k)) (fun i => n - (intOf i).toNat)
  case atStart => exact ⟨1, Nat.le_refl _, by omega, rfl, fun i hi h0 => by omega⟩
  case round =>
    obtain ⟨j, hj1, hj, rfl, hp⟩ := hrel
    clear hc
    by_cases hlt : j < n
    · obtain ⟨b', off', y, hA, _, hb', hcy, hy⟩ := (h.keeps k).at_ hlt
      obtain ⟨rfl, rfl⟩ : b = b' ∧ off = off' := by simpa using hA
      clear hA
      by_cases h4 : y < 0
      · have HF := hid (geoB_par (by omega) (by omega) hy.out (.inl h4))
        go_wp2
        go_ret
        exact ⟨ret_bool HF.out.symm, k⟩
      · by_cases h5 : (j : Int) ≤ y
        · have HF := hid (geoB_par (by omega) (by omega) hy.out (.inr h5))
          go_wp2
          go_ret
          exact ⟨ret_bool HF.out.symm, k⟩
        · have HP := hid (parTo_succ hp.out hy.out (fun _ => by omega))
          go_wp2
          go_round
          case rel => exact ⟨j + 1, by omega, by omega, by go_num, HP⟩
          case measure => simp [intOf]; omega
    · obtain rfl : j = n := by omega
      have HF := hid (geoB_true.2 ⟨⟨by omega, by omega⟩, hx.out.symm, by rw [hl]; exact hp.out⟩)
      go_wp2
      go_ret
      exact ⟨ret_bool HF.out.symm, k⟩
set_option maxHeartbeats 800000 in
theorem gGood_any {A : Option Addr} {lo hi n c : Nat} {ps : List Int} {w : World} (h : Ints w lo hi A n ps) :
    Calls Tryz.prog 85 #[.agg #[.slice A n c]] w fun e w' => e = .returned (.bool (geoB ps)) ∧ Keeps w w' := by
  have hn := h.le
  have hl := h.1
  have k := keeps_alloc w (.cells #[.slice A n c] 32)
  by_cases h1 : inB n 1 30 = true
  rotate_left
  · have h1 : inB n 1 30 = false := by simpa using h1
    have HF := hid (geoB_len (ps := ps) (by have := inB_false.1 h1; omega))
    have H1 := hid h1
    clear h1
    go_enter Tryz.func85, Tryz.ntmps85
    go_wp2_with (go_at_call 87; refine (l1In_any _ _ _ _).mono ?_; rintro e w' ⟨rfl, rfl⟩; rw [H1.out])
    go_ret
    exact ⟨ret_bool HF.out.symm, k⟩
  have h12 := inB_true.1 h1
  have H1 := hid h1
  clear h1
  have t0 : (0 : Int) < (n : Int) := by omega
  obtain ⟨b, off, x, rfl, _, hb, hc, hx⟩ := h.at_ (k := 0) (by omega)
  rw [Nat.add_zero] at hc
  have hbs : b < w.heap.size := by have := h.top; omega
  by_cases h3 : x = -1
  rotate_left
  · have HF := hid (geoB_root hx.out h3)
    have t3 : (x != -1) = true := by rw [bne_iff_ne]; exact h3
    go_enter Tryz.func85, Tryz.ntmps85
    go_wp2_with (go_at_call 87; refine (l1In_any _ _ _ _).mono ?_; rintro e w' ⟨rfl, rfl⟩; rw [H1.out])
    go_ret
    exact ⟨ret_bool HF.out.symm, k⟩
  subst h3
  have t3 : ((-1 : Int) != -1) = false := by decide
  go_enter Tryz.func85, Tryz.ntmps85
  go_wp2_with (go_at_call 87; refine (l1In_any _ _ _ _).mono ?_; rintro e w' ⟨rfl, rfl⟩; rw [H1.out])
  go_loop [20] (fun i => ∃ k : Nat, k ≤ n ∧ i = .int .i64 k ∧ Hid (ParTo ps k)) (fun i => n - (intOf i).toNat)
  case atStart => exact ⟨0, by omega, rfl, fun i hi h0 => by omega⟩
  case round =>
    obtain ⟨j, hj, rfl, hp⟩ := hrel
    clear hc
    by_cases hlt : j < n
    · obtain ⟨b', off', y, hA, _, hb', hcy, hy⟩ := (h.keeps k).at_ hlt
      obtain ⟨rfl, rfl⟩ : b = b' ∧ off = off' := by simpa using hA
      clear hA
      by_cases hj0 : 0 < j
      · have t4 : (0 : Int) < (j : Int) := by omega
        cases hin : inB y 0 ((j : Int) - 1) with
        | true =>
          have hi2 := inB_true.1 hin
          have HP := hid (parTo_succ hp.out hy.out (fun _ => by omega))
          have HI := hid hin
          clear hin
          go_wp2_with (go_at_call 87; refine (l1In_any _ _ _ _).mono ?_; rintro e w' ⟨rfl, rfl⟩; rw [HI.out])
          go_round
          case rel => exact ⟨j + 1, by omega, by go_num, HP⟩
          case measure => simp [intOf]; omega
        | false =>
          have hi2 := inB_false.1 hin
          have HF := hid (geoB_par (by omega) hj0 hy.out (by omega))
          have HI := hid hin
          clear hin hi2
          go_wp2_with (go_at_call 87; refine (l1In_any _ _ _ _).mono ?_; rintro e w' ⟨rfl, rfl⟩; rw [HI.out])
          go_ret
          exact ⟨ret_bool HF.out.symm, k⟩
      · obtain rfl : j = 0 := by omega
        rw [Nat.add_zero] at hcy
        have HP := hid (parTo_succ hp.out hy.out (fun h => by omega))
        go_wp2_with fail
        go_round
        case rel => exact ⟨0 + 1, by omega, by go_num, HP⟩
        case measure => simp [intOf]; omega
    · obtain rfl : j = n := by omega
      have HF := hid (geoB_true.2 ⟨⟨by omega, by omega⟩, hx.out.symm, by rw [hl]; exact hp.out⟩)
      go_wp2
      go_ret
      exact ⟨ret_bool HF.out.symm, k⟩
/-- The first k areas' children of i. -/
def isKid (ps : List Int) (i : Int) (j : Nat) : Bool := decide (0 < j) && (ps.getD j 0 == i)
def kidsTo (ps : List Int) (i : Int) (k : Nat) : List Int := ((List.range k).filter (isKid ps i)).map fun (j : Nat) => (j : Int)
def kids (ps : List Int) (i : Int) : List Int := kidsTo ps i ps.length
theorem kidsTo_yes {ps : List Int} {i x : Int} {k : Nat} (hx : x = ps.getD k 0) (h0 : 0 < k) (h : x = i) : kidsTo ps i (k + 1) = kidsTo ps i k ++ [(k : Int)] := by
  unfold kidsTo
  rw [List.range_succ, List.filter_append, List.map_append]
  have e : isKid ps i k = true := by unfold isKid; rw [← hx, h]; simp [h0]
  rw [List.filter_cons_of_pos e]; simp
theorem kidsTo_no {ps : List Int} {i x : Int} {k : Nat} (hx : x = ps.getD k 0) (h : k = 0 ∨ x ≠ i) : kidsTo ps i (k + 1) = kidsTo ps i k := by
  unfold kidsTo
  rw [List.range_succ, List.filter_append, List.map_append]
  have e : ¬ isKid ps i k = true := by unfold isKid; rw [← hx]; simp; omega
  rw [List.filter_cons_of_neg e]; simp
theorem kidsTo_len (ps : List Int) (i : Int) (k : Nat) : (kidsTo ps i k).length ≤ k := by
  unfold kidsTo
  rw [List.length_map]
  exact Nat.le_trans (List.length_filter_le _ _) (by simp)
theorem kidsTo_mem {ps : List Int} {i : Int} {k : Nat} {c : Int} (h : c ∈ kidsTo ps i k) : ∃ j : Nat, c = j ∧ 0 < j ∧ j < k ∧ ps.getD j 0 = i := by
  unfold kidsTo at h
  obtain ⟨j, hj, rfl⟩ := List.mem_map.1 h
  simp [isKid] at hj
  exact ⟨j, rfl, hj.2.1, hj.1, by simpa [List.getD] using hj.2.2⟩
theorem kids_getD {ps : List Int} {i : Int} {m : Nat} (h : m < (kids ps i).length) : ∃ j : Nat, (kids ps i).getD m 0 = j ∧ 0 < j ∧ j < ps.length ∧ ps.getD j 0 = i :=
  kidsTo_mem (by simp only [List.getD, List.getElem?_eq_getElem h, Option.getD_some]; exact List.getElem_mem h)
set_option maxHeartbeats 1600000 in
theorem gChildren_any {A : Option Addr} {lo hi n c : Nat} {ps : List Int} {i : Int} {w : World} (h : Ints w lo hi A n ps) (hg : ps.getD 0 0 = -1) (hi0 : 0 ≤ i) :
    Calls Tryz.prog 172 #[.agg #[.slice A n c], .int .i64 i] w fun e w' => ∃ A' c', e = .returned (.slice A' (kids ps i).length c') ∧ Mine w' w.heap.size w'.heap.size A' (kids ps i).length (kids ps i) ∧ Keeps w w' := by
  have hn := h.le
  have hl := h.1
  have HG := hid hg
  clear hg
  have k0 := keeps_alloc w (.cells #[.slice A n c] 32)
  go_enter Tryz.func172, Tryz.ntmps172
  go_wp2_with fail
  go_loopw [5, 11] (fun v t wr => ∃ k : Nat, k ≤ n ∧ t = .int .i64 k ∧ Has wr (w.heap.size + 1) 3 1 v (kidsTo ps i k).length ((kidsTo ps i k).map (Value.int .i64)) ∧ Keeps (w.alloc (.cells #[.slice A n c] 32)) wr) (fun _ t _ => n - (intOf t).toNat)
  case atStart => exact ⟨0, Nat.zero_le _, rfl, World.ownsRow_nil _ _ _ _, keeps_refl _⟩
  case round =>
    obtain ⟨k, hk, rfl, hown, hkeep⟩ := hrel
    have hkl := kidsTo_len ps i k
    by_cases hlt : k < n
    · obtain ⟨b, off, x, rfl, _, _, hx0, hx⟩ := ((h.keeps k0).keeps hkeep).at_ hlt
      have hs := hkeep.size
      simp at hs
      by_cases hxi : x = i
      · have t1 : (x == i) = true := by rw [beq_iff_eq]; exact hxi
        have hk0 : 0 < k := by
          rcases Nat.eq_zero_or_pos k with h0 | h0
          · subst h0; have := hx.out; have := HG.out; omega
          · exact h0
        have t2 : (0 : Int) < (k : Int) := by omega
        have HK := hid (kidsTo_yes hx.out hk0 hxi)
        clear hxi
        go_wp2_with (at_builtin; refine append_int (xs := kidsTo ps i k) hown (by omega) (by omega) _ _ rfl rfl rfl rfl ?_; intro v' w' hown' hb')
        have H1 := hid hown'
        rw [show (kidsTo ps i k).length + 1 = (kidsTo ps i k ++ [(k : Int)]).length by simp, ← HK.out] at H1
        have H2 := hid (Below.trans hkeep (hb'.mono (by simp)))
        clear hown' hb' hkeep hown
        go_wp2
        go_roundw
        case rel => exact ⟨k + 1, by omega, by go_num, H1.out, H2.out⟩
        case measure => simp [intOf]; omega
      · have t1 : (x == i) = false := by rw [beq_eq_false_iff_ne]; exact hxi
        have HK := hid (kidsTo_no hx.out (.inr hxi))
        have H1 := hid hown
        rw [← HK.out] at H1
        clear hxi hown
        go_wp2
        go_roundw
        case rel => exact ⟨k + 1, by omega, by go_num, H1.out, hkeep⟩
        case measure => simp [intOf]; omega
    · obtain rfl : k = n := by omega
      rw [← hl] at hown hkl
      obtain ⟨A', c', rfl⟩ := hown.form
      have HM := hid ((Mine.of_own hown (by omega)).widen (lo' := w.heap.size) (by omega) (Nat.le_refl _) (Nat.le_refl _))
      clear hown
      go_wp2
      go_ret
      exact ⟨A', c', rfl, HM.out, k0.trans hkeep⟩
end Go.Proofs.YtlkjhkkfdmjfcaaGreatDoor
namespace Go.Proofs.YtlkjhkkfdmjfcaaGreatDoor
open Go.RowKit
set_option linter.unusedVariables false
set_option linter.unusedSimpArgs false
theorem l1Most_any (a b : Int) (w : World) : Calls Tryz.prog 174 #[.int .i64 a, .int .i64 b] w fun e w' => e = .returned (.int .i64 (max a b)) ∧ w = w' := by
  by_cases h : b < a
  · go_enter Tryz.func174, Tryz.ntmps174
    go_wp2
    go_ret
    exact ⟨ret_int (by omega), rfl⟩
  · go_enter Tryz.func174, Tryz.ntmps174
    go_wp2
    go_ret
    exact ⟨ret_int (by omega), rfl⟩
theorem l1Abs_any {a : Int} {w : World} (h1 : -4611686018427387904 ≤ a) (h2 : a ≤ 4611686018427387904) : Calls Tryz.prog 156 #[.int .i64 a] w fun e w' => e = .returned (.int .i64 (max a (-a))) ∧ w = w' := by
  go_enter Tryz.func156, Tryz.ntmps156
  go_wp2_with (go_at_call 174; refine (l1Most_any _ _ _).mono ?_; rintro e w' ⟨rfl, rfl⟩)
  go_ret
  exact ⟨rfl, rfl⟩
end Go.Proofs.YtlkjhkkfdmjfcaaGreatDoor
namespace Go.Proofs.YtlkjhkkfdmjfcaaGreatDoor
open Go.ChangeShapes Go.WideShapes Go.ChangeAt Go.RowKit
set_option linter.unusedVariables false
set_option linter.unusedSimpArgs false
theorem own : ownKnob Tryz.prog.godebug = none := by kernel_rfl
theorem laidOut : laidOutB Tryz.prog = true := by kernel_rfl
/-- A slice of ints that came in: where it is not beyond all bounds it reads as xs. -/
def IntsArg (w : World) (A : Option Addr) (n : Nat) (xs : List Int) : Prop :=
  n ≤ maxLen ∧ (n ≤ 67108864 → Ints w 0 w.heap.size A n xs) ∧ ∀ j, -9223372036854775808 ≤ xs.getD j 0 ∧ xs.getD j 0 ≤ 9223372036854775807
section
variable {H : Type} {enc : TypeId × Value → H} {w : World} {spare : Nat → Bool} {held : Bool}
end
end Go.Proofs.YtlkjhkkfdmjfcaaGreatDoor
namespace Go.Proofs.YtlkjhkkfdmjfcaaGreatDoor
open Go.RowKit
set_option linter.unusedVariables false
set_option linter.unusedSimpArgs false
theorem gcd_emod (a b : Int) : Int.gcd b (a % b) = Int.gcd a b := by
  rw [Int.emod_def, show a - b * (a / b) = a - (a / b) * b by rw [Int.mul_comm], Int.gcd_sub_mul_right_right, Int.gcd_comm]
theorem gcd_tmod (a b : Int) : Int.gcd b (a.tmod b) = Int.gcd a b := by
  rw [Int.tmod_def, show a - b * a.tdiv b = a - (a.tdiv b) * b by rw [Int.mul_comm], Int.gcd_sub_mul_right_right, Int.gcd_comm]
theorem tmod_abs_lt (a b : Int) (h : b ≠ 0) : (a.tmod b).natAbs < b.natAbs := by
  rw [Int.natAbs_tmod]; exact Nat.mod_lt _ (by omega)
/-- n/d in lowest terms with a positive denominator, where it is a valid fraction. -/
def redN (n d : Int) : Int := if d < 0 then -(n / (Int.gcd n d : Int)) else n / (Int.gcd n d : Int)
def redD (n d : Int) : Int := if d < 0 then -(d / (Int.gcd n d : Int)) else d / (Int.gcd n d : Int)
def redOk (n d : Int) : Bool := decide (-1000000000 ≤ redN n d ∧ redN n d ≤ 1000000000 ∧ redD n d ≤ 1000000000)
def red (n d : Int) : Int × Int × Bool := if redOk n d then (redN n d, redD n d, true) else (0, 0, false)
theorem gcd_pos {n d : Int} (h : d ≠ 0) : 0 < Int.gcd n d := Int.gcd_pos_of_ne_zero_right _ h
theorem redD_pos {n d : Int} (h : d ≠ 0) : 1 ≤ redD n d := by
  have hg := gcd_pos (n := n) h
  obtain ⟨q, hq⟩ := Int.gcd_dvd_right n d
  have hd : d / (Int.gcd n d : Int) = q := by
    rw [Int.ediv_eq_of_eq_mul_right (by omega) hq]
  unfold redD
  rw [hd]
  by_cases h0 : d < 0
  · rw [if_pos h0]
    have : q < 0 := by
      rcases Int.lt_or_le q 0 with h1 | h1
      · exact h1
      · have := Int.mul_nonneg (Int.natCast_nonneg (Int.gcd n d)) h1; omega
    omega
  · rw [if_neg h0]
    have : 0 < q := by
      rcases Int.lt_or_le 0 q with h1 | h1
      · exact h1
      · have := Int.mul_nonpos_of_nonneg_of_nonpos (Int.natCast_nonneg (Int.gcd n d)) h1; omega
    omega
theorem red_gcd {n d : Int} (h : d ≠ 0) : Int.gcd (redN n d) (redD n d) = 1 := by
  have := Int.gcd_ediv_gcd_ediv_gcd (i := n) (j := d) (gcd_pos h)
  unfold redN redD
  split
  · rw [Int.gcd_neg, Int.neg_gcd]; exact this
  · exact this
theorem quo_le {n g B : Int} (hg : 1 ≤ g) (h : -B ≤ n ∧ n ≤ B) : -B ≤ n / g ∧ n / g ≤ B := by
  have h0 : 0 ≤ B := by omega
  constructor
  · rw [Int.le_ediv_iff_mul_le (by omega)]
    have := Int.mul_le_mul_of_nonneg_left hg h0
    rw [Int.neg_mul]; omega
  · apply Int.le_of_lt_add_one
    rw [Int.ediv_lt_iff_lt_mul (by omega)]
    have h1 := Int.mul_le_mul_of_nonneg_left hg (show 0 ≤ B + 1 by omega)
    omega
theorem gcd_le {n d B : Int} (hd : d ≠ 0) (h : -B ≤ d ∧ d ≤ B) : (Int.gcd n d : Int) ≤ B := by
  have h1 : Int.gcd n d ≤ d.natAbs := Nat.le_of_dvd (by omega) (Nat.gcd_dvd_right _ _)
  omega
theorem tdiv_gcd_left (n d : Int) : n.tdiv (Int.gcd n d : Int) = n / (Int.gcd n d : Int) := Int.tdiv_eq_ediv_of_dvd (Int.gcd_dvd_left _ _)
theorem tdiv_gcd_right (n d : Int) : d.tdiv (Int.gcd n d : Int) = d / (Int.gcd n d : Int) := Int.tdiv_eq_ediv_of_dvd (Int.gcd_dvd_right _ _)
/-- A valid fraction. -/
def fracB (n d : Int) : Bool := decide (1 ≤ d ∧ d ≤ 1000000000) && decide (-1000000000 ≤ n ∧ n ≤ 1000000000) && (Int.gcd n d == 1)
theorem fracB_true {n d : Int} : fracB n d = true ↔ (1 ≤ d ∧ d ≤ 1000000000) ∧ (-1000000000 ≤ n ∧ n ≤ 1000000000) ∧ Int.gcd n d = 1 := by simp [fracB, and_assoc]
theorem red_frac {n d : Int} (h : d ≠ 0) : fracB (redN n d) (redD n d) = redOk n d := by
  rw [Bool.eq_iff_iff, fracB_true]
  simp only [redOk, decide_eq_true_eq]
  have := redD_pos (n := n) h
  have := red_gcd (n := n) h
  omega
/-- The slice (A, n) reads as the cells cs, sz of them an element, in blocks from lo to hi. -/
def Sl (sz : Nat) (w : World) (lo hi : Nat) (A : Option Addr) (n : Nat) (cs : List Value) : Prop :=
  cs.length = n * sz ∧ n ≤ 67108864 ∧ hi ≤ w.heap.size ∧
  (0 < n → ∃ b off, A = some ⟨b, off, none⟩ ∧ lo ≤ b ∧ b < hi ∧ ∀ j, j < n * sz → w.cell? ⟨b, off + j, none⟩ = some (cs.getD j undef))
/-- The same, and its cells may be written. -/
def SlM (sz : Nat) (w : World) (lo hi : Nat) (A : Option Addr) (n : Nat) (cs : List Value) : Prop :=
  Sl sz w lo hi A n cs ∧ (∀ b off, A = some ⟨b, off, none⟩ → ∀ j, j < n * sz → w.frozen? ⟨b, off + j, none⟩ = false)
section
variable {w w' : World} {lo hi n sz : Nat} {A : Option Addr} {cs : List Value}
theorem Sl.le (h : Sl sz w lo hi A n cs) : n ≤ 67108864 := h.2.1
theorem Sl.top (h : Sl sz w lo hi A n cs) : hi ≤ w.heap.size := h.2.2.1
theorem Sl.fr {l h' : Nat} (h : Sl sz w lo hi A n cs) (hf : Fr l h' w w') (ho : h' ≤ lo ∨ hi ≤ l ∨ h' ≤ l) : Sl sz w' lo hi A n cs :=
  ⟨h.1, h.2.1, Nat.le_trans h.top hf.size, fun hn => by
    obtain ⟨b, off, e, hl, hb, hc⟩ := h.2.2.2 hn
    have := h.top
    exact ⟨b, off, e, hl, hb, fun j hj => (hf.cell (p := ⟨b, off + j, none⟩) (by show b < _; omega) (by show b < _ ∨ _ ≤ b; omega)).trans (hc j hj)⟩⟩
theorem Sl.keeps (h : Sl sz w lo hi A n cs) (hb : Keeps w w') : Sl sz w' lo hi A n cs := h.fr (Fr.of_keeps hb 0 0) (by omega)
theorem Sl.widen {lo' hi' : Nat} (h : Sl sz w lo hi A n cs) (h1 : lo' ≤ lo) (h2 : hi ≤ hi') (h3 : hi' ≤ w.heap.size) : Sl sz w lo' hi' A n cs :=
  ⟨h.1, h.2.1, h3, fun hn => by
    obtain ⟨b, off, e, hl, hb, hc⟩ := h.2.2.2 hn
    exact ⟨b, off, e, by omega, by omega, hc⟩⟩
theorem SlM.fr {l h' : Nat} (h : SlM sz w lo hi A n cs) (hf : Fr l h' w w') (ho : h' ≤ lo ∨ hi ≤ l ∨ h' ≤ l) : SlM sz w' lo hi A n cs :=
  ⟨h.1.fr hf ho, fun b off e j hj => by
    have hn : 0 < n := by
      rcases Nat.eq_zero_or_pos n with h0 | h0
      · subst h0; simp at hj
      · exact h0
    obtain ⟨b', off', e', hl, hb, _⟩ := h.1.2.2.2 hn
    have := h.1.top
    rw [e] at e'
    obtain ⟨rfl, rfl⟩ : b = b' ∧ off = off' := by simpa using e'
    exact (hf.frozen (p := ⟨b, off + j, none⟩) (by show b < _; omega) (by show b < _ ∨ _ ≤ b; omega)).trans (h.2 b off e j hj)⟩
theorem SlM.keeps (h : SlM sz w lo hi A n cs) (hb : Keeps w w') : SlM sz w' lo hi A n cs := h.fr (Fr.of_keeps hb 0 0) (by omega)
end
/-- An owned row (the kit's word for what append makes) is a slice that may be written. -/
theorem SlM.of_own {w : World} {base n sz c : Nat} {A : Option Addr} {e : TypeId} {cs : List Value} (h : w.ownsRow base e sz (.slice A n c) n cs) (hs : n ≤ 67108864) (hsz : 0 < sz) : SlM sz w base w.heap.size A n cs := by
  obtain ⟨h1, h2⟩ := h
  rcases h2 with ⟨h2, rfl⟩ | ⟨g, cap, cur, hv, hg, hh, hnc, hcm, hcs, htake⟩
  · refine ⟨⟨h1, hs, Nat.le_refl _, fun h => absurd h (by omega)⟩, fun b off e j hj => absurd hj (by simp)⟩
  · have hA : A = some ⟨g, 0, none⟩ := by injection hv
    subst hA
    have hlt : g < w.heap.size := (Array.getElem?_eq_some_iff.1 hh).1
    refine ⟨⟨h1, hs, Nat.le_refl _, fun _ => ⟨g, 0, rfl, hg, hlt, fun j hj => ?_⟩⟩, fun b off e j hj => ?_⟩
    · rw [Nat.zero_add, cell_of_row w g j cur _ _ hh]
      have h3 : (cur.toList.take (n * sz))[j]? = some (cs.getD j undef) := by
        rw [htake]; simp [List.getD, h1, hj]
      rw [List.getElem?_take, if_pos (by omega)] at h3
      simpa using h3
    · obtain ⟨rfl, rfl⟩ : g = b ∧ 0 = off := by simpa using e
      simp [World.frozen?, hh]
/-- Block g is just the cells cs of element type t, none frozen. -/
def OwnC (w : World) (g : Nat) (t : TypeId) (cs : List Value) : Prop := w.heap[g]? = some (.cells cs.toArray t (0, 0))
section
variable {w w' : World} {g : Nat} {t : TypeId} {cs : List Value}
theorem OwnC.lt (h : OwnC w g t cs) : g < w.heap.size := (Array.getElem?_eq_some_iff.1 h).1
theorem OwnC.cell (h : OwnC w g t cs) (j : Nat) (hj : j < cs.length) : w.cell? ⟨g, j, none⟩ = some (cs.getD j undef) := by
  rw [cell_of_row w g j _ _ _ h]; simp [List.getD, hj]
theorem OwnC.frozen (h : OwnC w g t cs) (i : Nat) : w.frozen? ⟨g, i, none⟩ = false := by unfold OwnC at h; simp [World.frozen?, h]
theorem OwnC.slm (h : OwnC w g t cs) {n sz lo hi : Nat} (hn : cs.length = n * sz) (hs : n ≤ 67108864) (h1 : lo ≤ g) (h2 : g < hi) (h3 : hi ≤ w.heap.size) : SlM sz w lo hi (some ⟨g, 0, none⟩) n cs :=
  ⟨⟨hn, hs, h3, fun _ => ⟨g, 0, rfl, h1, h2, fun j hj => by rw [Nat.zero_add]; exact h.cell j (by omega)⟩⟩, fun b off e j hj => by
    obtain ⟨rfl, rfl⟩ : g = b ∧ 0 = off := by simpa using e
    exact h.frozen _⟩
theorem OwnC.set_ (h : OwnC w g t cs) (i : Nat) (u : Value) : OwnC (w.setCell ⟨g, i, none⟩ u) g t (cs.set i u) := by
  unfold OwnC at h ⊢
  simp [World.setCell, Array.getElem?_modify, h]
end
/-- A fraction's two cells. -/
def fr2 (f : Int × Int) : List Value := [.int .i64 f.1, .int .i64 f.2]
def frs (l : List (Int × Int)) : List Value := l.flatMap fr2
abbrev Fracs (w : World) (lo hi : Nat) (A : Option Addr) (n : Nat) (l : List (Int × Int)) : Prop := Sl 2 w lo hi A n (frs l)
abbrev FracsM (w : World) (lo hi : Nat) (A : Option Addr) (n : Nat) (l : List (Int × Int)) : Prop := SlM 2 w lo hi A n (frs l)
/-- The first k of xs, d behind. -/
def padD {α : Type} (d : α) (xs : List α) (k : Nat) : List α := xs.take k ++ List.replicate (xs.length - k) d
theorem padD_len {α : Type} (d : α) (xs : List α) (k : Nat) (h : k ≤ xs.length) : (padD d xs k).length = xs.length := by simp [padD]; omega
theorem padD_zero {α : Type} (d : α) (xs : List α) : padD d xs 0 = List.replicate xs.length d := by simp [padD]
theorem padD_all {α : Type} (d : α) (xs : List α) : padD d xs xs.length = xs := by simp [padD]
theorem padD_succ {α : Type} (d : α) (xs : List α) (k : Nat) (h : k < xs.length) : (padD d xs k).set k (xs.getD k d) = padD d xs (k + 1) := by
  apply List.ext_getElem
  · simp [padD]; omega
  · intro i h1 h2
    simp only [padD, List.getElem_set, List.getElem_append, List.length_take]
    split
    · subst_vars; simp [List.getD, h]; omega
    · rename_i hne
      by_cases hik : i < k
      · rw [dif_pos (by omega), dif_pos (by omega)]; simp
      · rw [dif_neg (by omega), dif_neg (by omega)]; simp
end Go.Proofs.YtlkjhkkfdmjfcaaGreatDoor
namespace Go.Proofs.YtlkjhkkfdmjfcaaGreatDoor
open Go.RowKit
set_option linter.unusedVariables false
set_option linter.unusedSimpArgs false
abbrev VV := ByteArray × Int
/-- A variable's two cells. -/
def vr2 (f : VV) : List Value := [.string f.1, .int .i64 f.2]
def vrs (l : List VV) : List Value := l.flatMap vr2
def v0 : VV := (ByteArray.empty, 0)
theorem vrs_len (l : List VV) : (vrs l).length = l.length * 2 := by
  induction l with
  | nil => rfl
  | cons a r ih =>
    have e : (vrs (a :: r)).length = 2 + (vrs r).length := by simp [vrs, vr2]; omega
    rw [e, ih, List.length_cons]; omega
theorem vrs_at (l : List VV) (k : Nat) (h : k < l.length) : (vrs l).getD (k * 2) undef = .string (l.getD k v0).1 ∧ (vrs l).getD (k * 2 + 1) undef = .int .i64 (l.getD k v0).2 := by
  induction l generalizing k with
  | nil => simp at h
  | cons a r ih =>
    cases k with
    | zero => simp [vrs, vr2]
    | succ k =>
      have := ih k (by simpa using h)
      have e1 : (k + 1) * 2 = k * 2 + 2 := by omega
      rw [e1, show k * 2 + 2 + 1 = k * 2 + 1 + 2 by omega]
      simpa [vrs, vr2, List.getD] using this
theorem vrs_set (l : List VV) (k : Nat) (x : ByteArray) (y : Int) : ((vrs l).set (k * 2) (.string x)).set (k * 2 + 1) (.int .i64 y) = vrs (l.set k (x, y)) := by
  induction l generalizing k with
  | nil => simp [vrs]
  | cons a r ih =>
    cases k with
    | zero => simp [vrs, vr2]
    | succ k =>
      have e1 : (k + 1) * 2 = k * 2 + 2 := by omega
      rw [e1, show k * 2 + 2 + 1 = k * 2 + 1 + 2 by omega]
      have := ih k
      simpa [vrs, vr2] using this
abbrev Vars (w : World) (lo hi : Nat) (A : Option Addr) (n : Nat) (l : List VV) : Prop := Sl 2 w lo hi A n (vrs l)
abbrev VarsM (w : World) (lo hi : Nat) (A : Option Addr) (n : Nat) (l : List VV) : Prop := SlM 2 w lo hi A n (vrs l)
theorem Vars.len {w : World} {lo hi n : Nat} {A : Option Addr} {l : List VV} (h : Vars w lo hi A n l) : l.length = n := by
  have := h.1; rw [vrs_len] at this; omega
theorem Vars.at_ {w : World} {lo hi n k : Nat} {A : Option Addr} {l : List VV} (h : Vars w lo hi A n l) (hk : k < n) :
    ∃ b off x y, A = some ⟨b, off, none⟩ ∧ lo ≤ b ∧ b < hi ∧ w.cell? ⟨b, off + k * 2, none⟩ = some (.string x) ∧ w.cell? ⟨b, off + k * 2 + 1, none⟩ = some (.int .i64 y) ∧ Hid ((x, y) = l.getD k v0) := by
  obtain ⟨b, off, e, hl, hb, hc⟩ := h.2.2.2 (by omega)
  have h1 := hc (k * 2) (by omega)
  have h2 := hc (k * 2 + 1) (by omega)
  have := h.len
  have h3 := vrs_at l k (by omega)
  rw [h3.1] at h1
  rw [h3.2] at h2
  exact ⟨b, off, _, _, e, hl, hb, h1, h2, rfl⟩
/-- A schema that came in. -/
def VarsArg (w : World) (A : Option Addr) (n : Nat) (l : List VV) : Prop :=
  n ≤ maxLen ∧ (n ≤ 67108864 → Vars w 0 w.heap.size A n l) ∧ (∀ j, (l.getD j v0).1.size ≤ maxLen) ∧ (∀ j, -9223372036854775808 ≤ (l.getD j v0).2 ∧ (l.getD j v0).2 ≤ 9223372036854775807)
/-- A box of a variable. -/
theorem info_var : (Tryz.prog.info? 82).map (fun i => (i.zero, i.size, i.bytes)) = some (some (.agg #[.string ByteArray.empty, .int .i64 0]), 2, 24) := by kernel_rfl
end Go.Proofs.YtlkjhkkfdmjfcaaGreatDoor
namespace Go.Proofs.YtlkjhkkfdmjfcaaGreatDoor
open Go.RowKit
set_option linter.unusedVariables false
set_option linter.unusedSimpArgs false
theorem ret_fb {a b c d : Int} {p q : Bool} (h1 : a = c) (h2 : b = d) (h3 : p = q) : Ending.returned (.tuple #[.agg #[.int .i64 a, .int .i64 b], .bool p]) = .returned (.tuple #[.agg #[.int .i64 c, .int .i64 d], .bool q]) := by rw [h1, h2, h3]
set_option maxHeartbeats 800000 in
theorem gcdOf_any {a b : Int} {w : World} (ha : -4611686018427387904 ≤ a ∧ a ≤ 4611686018427387904) (hb : -4611686018427387904 ≤ b ∧ b ≤ 4611686018427387904) :
    Calls Tryz.prog 147 #[.int .i64 a, .int .i64 b] w fun e w' => e = .returned (.int .i64 (Int.gcd a b)) ∧ Quiet w w' := by
  by_cases h1 : a < 0
  · by_cases h2 : b < 0
    · go_enter Tryz.func147, Tryz.ntmps147
      go_wp2_with fail
      go_loopw [0, 1] (fun s t wr => ∃ x y : Nat, s = .int .i64 x ∧ t = .int .i64 y ∧ (x : Int) ≤ 4611686018427387904 ∧ (y : Int) ≤ 4611686018427387904 ∧ Hid (Int.gcd x y = Int.gcd a b) ∧ Quiet w wr) (fun _ t _ => (intOf t).toNat)
      case atStart => exact ⟨a.natAbs, b.natAbs, by go_num, by go_num, by omega, by omega, by unfold Hid; simp [Int.gcd], Quiet.refl _⟩
      case round =>
        obtain ⟨x, y, rfl, rfl, hx, hy, hg, hq⟩ := hrel
        by_cases h0 : y = 0
        · subst h0
          have t1 : (((0 : Nat) : Int) != 0) = false := by decide
          have HG := hid (show (x : Int) = (Int.gcd a b : Int) by have := hg.out; simp at this; omega)
          go_wp2
          go_ret
          exact ⟨ret_int HG.out, hq⟩
        · have t1 : ((y : Int) != 0) = true := by rw [bne_iff_ne]; omega
          have HM := hid (show ((x % y : Nat) : Int) = (x : Int) % (y : Int) from Int.natCast_emod x y)
          have HG := hid (gcd_emod (x : Int) (y : Int))
          have hy1 : (1 : Int) ≤ (y : Int) := by omega
          have hm := Nat.mod_lt x (show y > 0 by omega)
          clear h0
          go_wp2_with fail
          go_region
          go_wp2
          go_roundw
          case rel => exact ⟨y, x % y, rfl, by rw [HM.out], hy, by omega, by have h1 := HG.out; have h2 := hg.out; have h3 := HM.out; unfold Hid; rw [h3, h1, h2], hq.step 1⟩
          case measure => simp [intOf]; have := HM.out; omega
    · have h2' : ¬ b < 0 := h2
      go_enter Tryz.func147, Tryz.ntmps147
      go_wp2_with fail
      go_loopw [0, 1] (fun s t wr => ∃ x y : Nat, s = .int .i64 x ∧ t = .int .i64 y ∧ (x : Int) ≤ 4611686018427387904 ∧ (y : Int) ≤ 4611686018427387904 ∧ Hid (Int.gcd x y = Int.gcd a b) ∧ Quiet w wr) (fun _ t _ => (intOf t).toNat)
      case atStart => exact ⟨a.natAbs, b.natAbs, by go_num, by go_num, by omega, by omega, by unfold Hid; simp [Int.gcd], Quiet.refl _⟩
      case round =>
        obtain ⟨x, y, rfl, rfl, hx, hy, hg, hq⟩ := hrel
        by_cases h0 : y = 0
        · subst h0
          have t1 : (((0 : Nat) : Int) != 0) = false := by decide
          have HG := hid (show (x : Int) = (Int.gcd a b : Int) by have := hg.out; simp at this; omega)
          go_wp2
          go_ret
          exact ⟨ret_int HG.out, hq⟩
        · have t1 : ((y : Int) != 0) = true := by rw [bne_iff_ne]; omega
          have HM := hid (show ((x % y : Nat) : Int) = (x : Int) % (y : Int) from Int.natCast_emod x y)
          have HG := hid (gcd_emod (x : Int) (y : Int))
          have hy1 : (1 : Int) ≤ (y : Int) := by omega
          have hm := Nat.mod_lt x (show y > 0 by omega)
          clear h0
          go_wp2_with fail
          go_region
          go_wp2
          go_roundw
          case rel => exact ⟨y, x % y, rfl, by rw [HM.out], hy, by omega, by have h1 := HG.out; have h2 := hg.out; have h3 := HM.out; unfold Hid; rw [h3, h1, h2], hq.step 1⟩
          case measure => simp [intOf]; have := HM.out; omega
  · by_cases h2 : b < 0
    · go_enter Tryz.func147, Tryz.ntmps147
      go_wp2_with fail
      go_loopw [0, 1] (fun s t wr => ∃ x y : Nat, s = .int .i64 x ∧ t = .int .i64 y ∧ (x : Int) ≤ 4611686018427387904 ∧ (y : Int) ≤ 4611686018427387904 ∧ Hid (Int.gcd x y = Int.gcd a b) ∧ Quiet w wr) (fun _ t _ => (intOf t).toNat)
      case atStart => exact ⟨a.natAbs, b.natAbs, by go_num, by go_num, by omega, by omega, by unfold Hid; simp [Int.gcd], Quiet.refl _⟩
      case round =>
        obtain ⟨x, y, rfl, rfl, hx, hy, hg, hq⟩ := hrel
        by_cases h0 : y = 0
        · subst h0
          have t1 : (((0 : Nat) : Int) != 0) = false := by decide
          have HG := hid (show (x : Int) = (Int.gcd a b : Int) by have := hg.out; simp at this; omega)
          go_wp2
          go_ret
          exact ⟨ret_int HG.out, hq⟩
        · have t1 : ((y : Int) != 0) = true := by rw [bne_iff_ne]; omega
          have HM := hid (show ((x % y : Nat) : Int) = (x : Int) % (y : Int) from Int.natCast_emod x y)
          have HG := hid (gcd_emod (x : Int) (y : Int))
          have hy1 : (1 : Int) ≤ (y : Int) := by omega
          have hm := Nat.mod_lt x (show y > 0 by omega)
          clear h0
          go_wp2_with fail
          go_region
          go_wp2
          go_roundw
          case rel => exact ⟨y, x % y, rfl, by rw [HM.out], hy, by omega, by have h1 := HG.out; have h2 := hg.out; have h3 := HM.out; unfold Hid; rw [h3, h1, h2], hq.step 1⟩
          case measure => simp [intOf]; have := HM.out; omega
    · go_enter Tryz.func147, Tryz.ntmps147
      go_wp2_with fail
      go_loopw [0, 1] (fun s t wr => ∃ x y : Nat, s = .int .i64 x ∧ t = .int .i64 y ∧ (x : Int) ≤ 4611686018427387904 ∧ (y : Int) ≤ 4611686018427387904 ∧ Hid (Int.gcd x y = Int.gcd a b) ∧ Quiet w wr) (fun _ t _ => (intOf t).toNat)
      case atStart => exact ⟨a.natAbs, b.natAbs, by go_num, by go_num, by omega, by omega, by unfold Hid; simp [Int.gcd], Quiet.refl _⟩
      case round =>
        obtain ⟨x, y, rfl, rfl, hx, hy, hg, hq⟩ := hrel
        by_cases h0 : y = 0
        · subst h0
          have t1 : (((0 : Nat) : Int) != 0) = false := by decide
          have HG := hid (show (x : Int) = (Int.gcd a b : Int) by have := hg.out; simp at this; omega)
          go_wp2
          go_ret
          exact ⟨ret_int HG.out, hq⟩
        · have t1 : ((y : Int) != 0) = true := by rw [bne_iff_ne]; omega
          have HM := hid (show ((x % y : Nat) : Int) = (x : Int) % (y : Int) from Int.natCast_emod x y)
          have HG := hid (gcd_emod (x : Int) (y : Int))
          have hy1 : (1 : Int) ≤ (y : Int) := by omega
          have hm := Nat.mod_lt x (show y > 0 by omega)
          clear h0
          go_wp2_with fail
          go_region
          go_wp2
          go_roundw
          case rel => exact ⟨y, x % y, rfl, by rw [HM.out], hy, by omega, by have h1 := HG.out; have h2 := hg.out; have h3 := HM.out; unfold Hid; rw [h3, h1, h2], hq.step 1⟩
          case measure => simp [intOf]; have := HM.out; omega
set_option maxHeartbeats 800000 in
theorem fGcd_any {a b : Int} {w : World} (ha : -4611686018427387904 ≤ a ∧ a ≤ 4611686018427387904) (hb : -4611686018427387904 ≤ b ∧ b ≤ 4611686018427387904) :
    Calls Tryz.prog 119 #[.int .i64 a, .int .i64 b] w fun e w' => e = .returned (.int .i64 (Int.gcd a b)) ∧ w = w' := by
  go_enter Tryz.func119, Tryz.ntmps119
  go_wp2_with fail
  go_loop [0, 1] (fun s t => ∃ x y : Int, s = .int .i64 x ∧ t = .int .i64 y ∧ (-4611686018427387904 ≤ x ∧ x ≤ 4611686018427387904) ∧ (-4611686018427387904 ≤ y ∧ y ≤ 4611686018427387904) ∧ Hid (Int.gcd x y = Int.gcd a b)) (fun _ t => (intOf t).natAbs)
  case atStart => exact ⟨a, b, rfl, rfl, ha, hb, rfl⟩
  case round =>
    obtain ⟨x, y, rfl, rfl, hx, hy, hg⟩ := hrel
    by_cases h0 : y = 0
    · subst h0
      have t1 : ((0 : Int) != 0) = false := by decide
      have HG := hid (show max x (-x) = (Int.gcd a b : Int) by have := hg.out; simp at this; omega)
      go_wp2_with (go_at_call 156; refine (l1Abs_any (by omega) (by omega)).mono ?_; rintro e w' ⟨rfl, rfl⟩)
      go_ret
      exact ⟨ret_int HG.out, rfl⟩
    · have t1 : (y != 0) = true := by rw [bne_iff_ne]; exact h0
      have t2 : (y == 0) = false := by rw [beq_eq_false_iff_ne]; exact h0
      have HG := hid (gcd_tmod x y)
      have hm := tmod_abs_lt x y h0
      have hm2 : -4611686018427387904 ≤ x.tmod y ∧ x.tmod y ≤ 4611686018427387904 := by omega
      clear h0
      go_wp2_with fail
      go_round
      case rel => exact ⟨y, x.tmod y, rfl, rfl, hy, hm2, by have h1 := HG.out; have h2 := hg.out; unfold Hid; rw [h1, h2]⟩
      case measure => simp only [intOf]; simpa [Int.natAbs_tmod] using hm
set_option maxHeartbeats 800000 in
theorem fGood_any {n d : Int} {w : World} : Calls Tryz.prog 120 #[.agg #[.int .i64 n, .int .i64 d]] w fun e w' => e = .returned (.bool (fracB n d)) ∧ Keeps w w' := by
  cases h1 : inB d 1 1000000000 with
  | false =>
    have HF := hid (show fracB n d = false by rw [Bool.eq_false_iff]; intro h; have := (fracB_true.1 h).1; have := inB_false.1 h1; omega)
    have H1 := hid h1
    clear h1
    go_enter Tryz.func120, Tryz.ntmps120
    go_wp2_with (go_at_call 87; ((with_reducible refine (l1In_any d _ _ _).mono ?_); rintro e w' ⟨rfl, rfl⟩; rw [H1.out]))
    go_ret
    exact ⟨ret_bool HF.out.symm, keeps_alloc _ _⟩
  | true =>
    cases h2 : inB n (-1000000000) 1000000000 with
    | false =>
      have HF := hid (show fracB n d = false by rw [Bool.eq_false_iff]; intro h; have := (fracB_true.1 h).2.1; have := inB_false.1 h2; omega)
      have H1 := hid h1
      have H2 := hid h2
      clear h1 h2
      go_enter Tryz.func120, Tryz.ntmps120
      go_wp2_with fail
      refine (l1In_any d _ _ _).mono ?_
      rintro e w' ⟨rfl, rfl⟩
      rw [H1.out]
      go_wp2_with fail
      refine (l1In_any n _ _ _).mono ?_
      rintro e w' ⟨rfl, rfl⟩
      rw [H2.out]
      go_wp2_with fail
      go_ret
      exact ⟨ret_bool HF.out.symm, keeps_alloc _ _⟩
    | true =>
      have i1 := inB_true.1 h1
      have i2 := inB_true.1 h2
      have HF := hid (show ((Int.gcd n d : Int) == 1) = fracB n d by
        rw [Bool.eq_iff_iff, fracB_true, beq_iff_eq]; omega)
      have H1 := hid h1
      have H2 := hid h2
      clear h1 h2
      go_enter Tryz.func120, Tryz.ntmps120
      go_wp2_with fail
      refine (l1In_any d _ _ _).mono ?_
      rintro e w' ⟨rfl, rfl⟩
      rw [H1.out]
      go_wp2_with fail
      refine (l1In_any n _ _ _).mono ?_
      rintro e w' ⟨rfl, rfl⟩
      rw [H2.out]
      go_wp2_with fail
      refine (fGcd_any (by omega) (by omega)).mono ?_
      rintro e w' ⟨rfl, rfl⟩
      go_wp2_with fail
      go_ret
      exact ⟨ret_bool HF.out, keeps_alloc _ _⟩
/-- n/d as a valid fraction, where it is one; also for d = 0. -/
def mkF (n d : Int) : Int × Int × Bool := if d = 0 then (0, 0, false) else red n d
theorem mkF_zero (n : Int) : mkF n 0 = (0, 0, false) := by simp [mkF]
theorem mkF_red {n d : Int} (h : d ≠ 0) : mkF n d = red n d := by simp [mkF, h]
theorem red_of {n d : Int} (h : d ≠ 0) : (fracB (redN n d) (redD n d) = true → red n d = (redN n d, redD n d, true)) ∧ (fracB (redN n d) (redD n d) = false → red n d = (0, 0, false)) := by
  rw [red_frac h]; constructor <;> intro e <;> simp [red, e]
set_option maxHeartbeats 1600000 in
theorem fMake_any {n d : Int} {w : World} (hn : -4611686018427387904 ≤ n ∧ n ≤ 4611686018427387904) (hd : -4611686018427387904 ≤ d ∧ d ≤ 4611686018427387904) :
    Calls Tryz.prog 79 #[.int .i64 n, .int .i64 d] w fun e w' => e = .returned (.tuple #[.agg #[.int .i64 (mkF n d).1, .int .i64 (mkF n d).2.1], .bool (mkF n d).2.2]) ∧ Keeps w w' := by
  by_cases h0 : d = 0
  · subst h0
    have HF := hid (mkF_zero n)
    have t1 : ((0 : Int) == 0) = true := by decide
    go_enter Tryz.func79, Tryz.ntmps79
    go_wp2_with fail
    refine bodyPost_ret (v := .tuple #[.agg #[.int .i64 0, .int .i64 0], .bool false]) (by simp [results, Tryz.results79, go_sem]) rfl ⟨ret_fb (by rw [HF.out]) (by rw [HF.out]) (by rw [HF.out]), ?_⟩
    exact keeps_alloc w _
  rw [mkF_red h0]
  have t1 : (d == 0) = false := by rw [beq_eq_false_iff_ne]; exact h0
  have hg := gcd_pos (n := n) h0
  have hN := quo_le (g := (Int.gcd n d : Int)) (by omega) hn
  have hD := quo_le (g := (Int.gcd n d : Int)) (by omega) hd
  rw [← tdiv_gcd_left] at hN
  rw [← tdiv_gcd_right] at hD
  have HN := hid (tdiv_gcd_left n d)
  have HD := hid (tdiv_gcd_right n d)
  have hgl := gcd_le (n := n) h0 hd
  obtain ⟨rn, HRN⟩ : ∃ r, Hid (redN n d = r) := ⟨_, rfl⟩
  obtain ⟨rd, HRD⟩ : ∃ r, Hid (redD n d = r) := ⟨_, rfl⟩
  obtain ⟨g, HG⟩ : ∃ g : Nat, Hid (Int.gcd n d = g) := ⟨_, rfl⟩
  have e1 := HRN.out
  have e2 := HRD.out
  unfold redN at e1
  unfold redD at e2
  rw [HG.out] at hg hN hD HN HD hgl e1 e2
  rw [← HN.out] at e1
  rw [← HD.out] at e2
  by_cases hneg : d < 0
  · rw [if_pos hneg] at e1 e2
    have HE1 := hid e1
    have HE2 := hid e2
    have t2 : (-(g : Int) == 0) = false := by rw [beq_eq_false_iff_ne]; omega
    clear e1 e2
    go_enter Tryz.func79, Tryz.ntmps79
    go_wp2_with fail
    refine (fGcd_any hn hd).mono ?_
    rintro e w1 ⟨rfl, rfl⟩
    rw [HG.out]
    go_wp2_with fail
    go_region
    rw [HE1.out, HE2.out]
    clear HE1 HE2 hN hD HN HD hn hd
    cases hv : fracB rn rd with
    | true =>
      have HF := hid ((red_of (n := n) (d := d) h0).1 (by rw [HRN.out, HRD.out]; exact hv))
      have HV := hid hv
      clear hv h0
      go_wp2_with fail
      refine (fGood_any).mono ?_
      rintro e w1 ⟨rfl, k1⟩
      rw [HV.out]
      have c1 := k1.cell (p := ⟨w.heap.size, 0, none⟩) (by simp; omega)
      have c2 := k1.cell (p := ⟨w.heap.size, 1, none⟩) (by simp; omega)
      have c3 := k1.cell (p := ⟨w.heap.size + 1, 0, none⟩) (by simp)
      have c4 := k1.cell (p := ⟨w.heap.size + 1, 1, none⟩) (by simp)
      have f1 := k1.frozen (p := ⟨w.heap.size, 0, none⟩) (by simp; omega)
      have f2 := k1.frozen (p := ⟨w.heap.size, 1, none⟩) (by simp; omega)
      have HK := hid (show Keeps w w1 from Below.trans (((Below.refl w.heap.size w).alloc (Nat.le_refl _) _).alloc (by simp) _).drew (k1.mono (by simp; omega)))
      simp [go_sem] at c1 c2 c3 c4 f1 f2
      clear k1
      go_wp2_with fail
      refine bodyPost_ret (v := .tuple #[.agg #[.int .i64 rn, .int .i64 rd], .bool true]) (by simp [results, Tryz.results79, go_sem, c1, c2]) rfl ⟨ret_fb (by rw [HF.out]; exact HRN.out.symm) (by rw [HF.out]; exact HRD.out.symm) (by rw [HF.out]), ?_⟩
      exact Below.setCell (Below.setCell HK.out (Nat.le_refl _) _) (Nat.le_refl _) _
    | false =>
      have HF := hid ((red_of (n := n) (d := d) h0).2 (by rw [HRN.out, HRD.out]; exact hv))
      have HV := hid hv
      clear hv h0
      go_wp2_with fail
      refine (fGood_any).mono ?_
      rintro e w1 ⟨rfl, k1⟩
      rw [HV.out]
      have c1 := k1.cell (p := ⟨w.heap.size, 0, none⟩) (by simp; omega)
      have c2 := k1.cell (p := ⟨w.heap.size, 1, none⟩) (by simp; omega)
      have c3 := k1.cell (p := ⟨w.heap.size + 1, 0, none⟩) (by simp)
      have c4 := k1.cell (p := ⟨w.heap.size + 1, 1, none⟩) (by simp)
      have f1 := k1.frozen (p := ⟨w.heap.size, 0, none⟩) (by simp; omega)
      have f2 := k1.frozen (p := ⟨w.heap.size, 1, none⟩) (by simp; omega)
      have HK := hid (show Keeps w w1 from Below.trans (((Below.refl w.heap.size w).alloc (Nat.le_refl _) _).alloc (by simp) _).drew (k1.mono (by simp; omega)))
      simp [go_sem] at c1 c2 c3 c4 f1 f2
      clear k1
      go_wp2_with fail
      refine bodyPost_ret (v := .tuple #[.agg #[.int .i64 0, .int .i64 0], .bool false]) (by simp [results, Tryz.results79, go_sem, c1, c2]) rfl ⟨ret_fb (by rw [HF.out]) (by rw [HF.out]) (by rw [HF.out]), ?_⟩
      exact Below.setCell (Below.setCell HK.out (Nat.le_refl _) _) (Nat.le_refl _) _
  · rw [if_neg hneg] at e1 e2
    have HE1 := hid e1
    have HE2 := hid e2
    have t2 : ((g : Int) == 0) = false := by rw [beq_eq_false_iff_ne]; omega
    clear e1 e2
    go_enter Tryz.func79, Tryz.ntmps79
    go_wp2_with fail
    refine (fGcd_any hn hd).mono ?_
    rintro e w1 ⟨rfl, rfl⟩
    rw [HG.out]
    go_wp2_with fail
    go_region
    rw [HE1.out, HE2.out]
    clear HE1 HE2 hN hD HN HD hn hd
    cases hv : fracB rn rd with
    | true =>
      have HF := hid ((red_of (n := n) (d := d) h0).1 (by rw [HRN.out, HRD.out]; exact hv))
      have HV := hid hv
      clear hv h0
      go_wp2_with fail
      refine (fGood_any).mono ?_
      rintro e w1 ⟨rfl, k1⟩
      rw [HV.out]
      have c1 := k1.cell (p := ⟨w.heap.size, 0, none⟩) (by simp; omega)
      have c2 := k1.cell (p := ⟨w.heap.size, 1, none⟩) (by simp; omega)
      have c3 := k1.cell (p := ⟨w.heap.size + 1, 0, none⟩) (by simp)
      have c4 := k1.cell (p := ⟨w.heap.size + 1, 1, none⟩) (by simp)
      have f1 := k1.frozen (p := ⟨w.heap.size, 0, none⟩) (by simp; omega)
      have f2 := k1.frozen (p := ⟨w.heap.size, 1, none⟩) (by simp; omega)
      have HK := hid (show Keeps w w1 from Below.trans (((Below.refl w.heap.size w).alloc (Nat.le_refl _) _).alloc (by simp) _).drew (k1.mono (by simp; omega)))
      simp [go_sem] at c1 c2 c3 c4 f1 f2
      clear k1
      go_wp2_with fail
      refine bodyPost_ret (v := .tuple #[.agg #[.int .i64 rn, .int .i64 rd], .bool true]) (by simp [results, Tryz.results79, go_sem, c1, c2]) rfl ⟨ret_fb (by rw [HF.out]; exact HRN.out.symm) (by rw [HF.out]; exact HRD.out.symm) (by rw [HF.out]), ?_⟩
      exact Below.setCell (Below.setCell HK.out (Nat.le_refl _) _) (Nat.le_refl _) _
    | false =>
      have HF := hid ((red_of (n := n) (d := d) h0).2 (by rw [HRN.out, HRD.out]; exact hv))
      have HV := hid hv
      clear hv h0
      go_wp2_with fail
      refine (fGood_any).mono ?_
      rintro e w1 ⟨rfl, k1⟩
      rw [HV.out]
      have c1 := k1.cell (p := ⟨w.heap.size, 0, none⟩) (by simp; omega)
      have c2 := k1.cell (p := ⟨w.heap.size, 1, none⟩) (by simp; omega)
      have c3 := k1.cell (p := ⟨w.heap.size + 1, 0, none⟩) (by simp)
      have c4 := k1.cell (p := ⟨w.heap.size + 1, 1, none⟩) (by simp)
      have f1 := k1.frozen (p := ⟨w.heap.size, 0, none⟩) (by simp; omega)
      have f2 := k1.frozen (p := ⟨w.heap.size, 1, none⟩) (by simp; omega)
      have HK := hid (show Keeps w w1 from Below.trans (((Below.refl w.heap.size w).alloc (Nat.le_refl _) _).alloc (by simp) _).drew (k1.mono (by simp; omega)))
      simp [go_sem] at c1 c2 c3 c4 f1 f2
      clear k1
      go_wp2_with fail
      refine bodyPost_ret (v := .tuple #[.agg #[.int .i64 0, .int .i64 0], .bool false]) (by simp [results, Tryz.results79, go_sem, c1, c2]) rfl ⟨ret_fb (by rw [HF.out]) (by rw [HF.out]) (by rw [HF.out]), ?_⟩
      exact Below.setCell (Below.setCell HK.out (Nat.le_refl _) _) (Nat.le_refl _) _
end Go.Proofs.YtlkjhkkfdmjfcaaGreatDoor
namespace Go.Proofs.YtlkjhkkfdmjfcaaGreatDoor
open Go.RowKit
set_option linter.unusedVariables false
set_option linter.unusedSimpArgs false
theorem fInt_any {n : Int} {w : World} : Calls Tryz.prog 173 #[.int .i64 n] w fun e w' => e = .returned (.agg #[.int .i64 n, .int .i64 1]) ∧ Keeps w w' := by
  go_enter Tryz.func173, Tryz.ntmps173
  go_wp2_with fail
  refine bodyPost_ret (v := .agg #[.int .i64 n, .int .i64 1]) (by simp [results, Tryz.results173, go_sem]) rfl ⟨rfl, ?_⟩
  exact keeps_alloc _ _
set_option maxHeartbeats 800000 in
theorem IsFrac_any {n d : Int} {w : World} : Calls Tryz.prog 105 #[.agg #[.int .i64 n, .int .i64 d]] w fun e w' => e = .returned (.bool (fracB n d)) ∧ Keeps w w' := by
  have hk := keeps_alloc w (.cells #[.int .i64 n, .int .i64 d] 46)
  by_cases h1 : 1 ≤ d
  rotate_left
  · have HF := hid (show fracB n d = false by rw [Bool.eq_false_iff]; intro h; have := fracB_true.1 h; omega)
    go_enter Tryz.func105, Tryz.ntmps105
    go_wp2
    go_ret
    exact ⟨ret_bool HF.out.symm, hk⟩
  by_cases h2 : d ≤ 1000000000
  rotate_left
  · have HF := hid (show fracB n d = false by rw [Bool.eq_false_iff]; intro h; have := fracB_true.1 h; omega)
    go_enter Tryz.func105, Tryz.ntmps105
    go_wp2
    go_ret
    exact ⟨ret_bool HF.out.symm, hk⟩
  by_cases h3 : -1000000000 ≤ n
  rotate_left
  · have HF := hid (show fracB n d = false by rw [Bool.eq_false_iff]; intro h; have := fracB_true.1 h; omega)
    go_enter Tryz.func105, Tryz.ntmps105
    go_wp2
    go_ret
    exact ⟨ret_bool HF.out.symm, hk⟩
  by_cases h4 : n ≤ 1000000000
  rotate_left
  · have HF := hid (show fracB n d = false by rw [Bool.eq_false_iff]; intro h; have := fracB_true.1 h; omega)
    go_enter Tryz.func105, Tryz.ntmps105
    go_wp2
    go_ret
    exact ⟨ret_bool HF.out.symm, hk⟩
  have HF := hid (show ((Int.gcd n d : Int) == 1) = fracB n d by rw [Bool.eq_iff_iff, fracB_true, beq_iff_eq]; omega)
  go_enter Tryz.func105, Tryz.ntmps105
  go_wp2_with fail
  refine (gcdOf_any (by omega) (by omega)).mono ?_
  rintro e w1 ⟨rfl, q1⟩
  go_wp2_with fail
  go_ret
  exact ⟨ret_bool HF.out, hk.trans q1.keeps⟩
end Go.Proofs.YtlkjhkkfdmjfcaaGreatDoor
namespace Go.Proofs.YtlkjhkkfdmjfcaaGreatDoor
open Go.ChangeShapes Go.WideShapes Go.ChangeAt Go.RowKit Go.Deep
set_option linter.unusedVariables false
set_option linter.unusedSimpArgs false
/-- An int64. -/
def I64 (x : Int) : Prop := -9223372036854775808 ≤ x ∧ x ≤ 9223372036854775807
section
variable {H : Type} {enc : TypeId × Value → H} {w : World} {spare : Nat → Bool} {held : Bool}
end
end Go.Proofs.YtlkjhkkfdmjfcaaGreatDoor
namespace Go.Proofs.YtlkjhkkfdmjfcaaGreatDoor
open Go.RowKit
set_option linter.unusedVariables false
set_option linter.unusedSimpArgs false
theorem box2 {w w' : World} {x y : Value} {t : TypeId} (k : Keeps (w.alloc (.cells #[x, y] t)) w') :
    w'.cell? ⟨w.heap.size, 0, none⟩ = some x ∧ w'.cell? ⟨w.heap.size, 1, none⟩ = some y ∧ w'.frozen? ⟨w.heap.size, 0, none⟩ = false ∧ w'.frozen? ⟨w.heap.size, 1, none⟩ = false := by
  have c1 := k.cell (p := ⟨w.heap.size, 0, none⟩) (by simp)
  have c2 := k.cell (p := ⟨w.heap.size, 1, none⟩) (by simp)
  have f1 := k.frozen (p := ⟨w.heap.size, 0, none⟩) (by simp)
  have f2 := k.frozen (p := ⟨w.heap.size, 1, none⟩) (by simp)
  simp [go_sem] at c1 c2 f1 f2
  exact ⟨c1, c2, f1, f2⟩
/-- Block g holds a fraction that may be written. -/
def Bx (w : World) (g : Nat) (x y : Int) : Prop :=
  w.cell? ⟨g, 0, none⟩ = some (.int .i64 x) ∧ w.cell? ⟨g, 1, none⟩ = some (.int .i64 y) ∧ w.frozen? ⟨g, 0, none⟩ = false ∧ w.frozen? ⟨g, 1, none⟩ = false
theorem Bx.lt {w : World} {g : Nat} {x y : Int} (h : Bx w g x y) : g < w.heap.size := World.block_lt_of_cell? w _ h.1
theorem Bx.below {w w' : World} {g B : Nat} {x y : Int} (h : Bx w g x y) (k : Below B w w') (hg : g < B) : Bx w' g x y := by
  have e := k.block g hg
  exact ⟨(World.cell?_of_block (w := w) e).trans h.1, (World.cell?_of_block (w := w) e).trans h.2.1, (World.frozen?_of_block (w := w) e).trans h.2.2.1, (World.frozen?_of_block (w := w) e).trans h.2.2.2⟩
theorem Bx.keeps {w w' : World} {g : Nat} {x y : Int} (h : Bx w g x y) (k : Keeps w w') : Bx w' g x y := h.below k h.lt
theorem Bx.new (w : World) (x y : Int) (t : TypeId) : Bx (w.alloc (.cells #[.int .i64 x, .int .i64 y] t)) w.heap.size x y := box2 (keeps_refl _)
end Go.Proofs.YtlkjhkkfdmjfcaaGreatDoor
namespace Go.Proofs.YtlkjhkkfdmjfcaaGreatDoor
open Go.RowKit
set_option linter.unusedVariables false
set_option linter.unusedSimpArgs false
theorem Bx.far {w : World} {g : Nat} {x y : Int} (h : Bx w g x y) {p : Addr} (hp : g ≠ p.block) (u : Value) : Bx (w.setCell p u) g x y := by
  have e := Below.heap_setCell w p u g hp
  exact ⟨(World.cell?_of_block (w := w) e).trans h.1, (World.cell?_of_block (w := w) e).trans h.2.1, (World.frozen?_of_block (w := w) e).trans h.2.2.1, (World.frozen?_of_block (w := w) e).trans h.2.2.2⟩
section
variable {w w' : World} {g : Nat} {x y : Int} {o : Obj} {t : TypeId}
theorem keeps_d (k : Keeps w.drew w') : Keeps w w' := (Keeps.drewN w 1).trans k
theorem keeps_ad (k : Keeps (w.alloc o).drew w') : Keeps w w' := (keeps_alloc w o).trans (keeps_d k)
end
end Go.Proofs.YtlkjhkkfdmjfcaaGreatDoor
namespace Go.Proofs.YtlkjhkkfdmjfcaaGreatDoor
open Go.RowKit
set_option linter.unusedVariables false
set_option linter.unusedSimpArgs false
theorem Bx.new' {w : World} {g : Nat} {x y : Int} {t : TypeId} (e : w.heap.size = g) : Bx (w.alloc (.cells #[.int .i64 x, .int .i64 y] t)) g x y := by
  subst e; exact Bx.new w x y t
/-- Block g holds one value that may be written. -/
def B1 (w : World) (g : Nat) (v : Value) : Prop := w.cell? ⟨g, 0, none⟩ = some v ∧ w.frozen? ⟨g, 0, none⟩ = false
theorem B1.lt {w : World} {g : Nat} {v : Value} (h : B1 w g v) : g < w.heap.size := World.block_lt_of_cell? w _ h.1
theorem B1.below {w w' : World} {g B : Nat} {v : Value} (h : B1 w g v) (k : Below B w w') (hg : g < B) : B1 w' g v := by
  have e := k.block g hg
  exact ⟨(World.cell?_of_block (w := w) e).trans h.1, (World.frozen?_of_block (w := w) e).trans h.2⟩
theorem B1.keeps {w w' : World} {g : Nat} {v : Value} (h : B1 w g v) (k : Keeps w w') : B1 w' g v := h.below k h.lt
theorem B1.new' {w : World} {g : Nat} {v : Value} {t : TypeId} (e : w.heap.size = g) : B1 (w.alloc (.cells #[v] t)) g v := by
  subst e
  have h := heap_alloc_new w (.cells #[v] t)
  exact ⟨cell_new w v t, by simp only [World.frozen?, h]; simp⟩
theorem B1.far {w : World} {g : Nat} {v : Value} (h : B1 w g v) {p : Addr} (hp : g ≠ p.block) (u : Value) : B1 (w.setCell p u) g v := by
  have e := Below.heap_setCell w p u g hp
  exact ⟨(World.cell?_of_block (w := w) e).trans h.1, (World.frozen?_of_block (w := w) e).trans h.2⟩
theorem Bx.fr {w w' : World} {g l h' : Nat} {x y : Int} (h : Bx w g x y) (k : Fr l h' w w') (ho : g < l ∨ h' ≤ g) : Bx w' g x y := by
  have e := k.block g h.lt ho
  exact ⟨(World.cell?_of_block (w := w) e).trans h.1, (World.cell?_of_block (w := w) e).trans h.2.1, (World.frozen?_of_block (w := w) e).trans h.2.2.1, (World.frozen?_of_block (w := w) e).trans h.2.2.2⟩
theorem B1.fr {w w' : World} {g l h' : Nat} {v : Value} (h : B1 w g v) (k : Fr l h' w w') (ho : g < l ∨ h' ≤ g) : B1 w' g v := by
  have e := k.block g h.lt ho
  exact ⟨(World.cell?_of_block (w := w) e).trans h.1, (World.frozen?_of_block (w := w) e).trans h.2⟩
theorem keeps_d0 (w : World) : Keeps w w.drew := Keeps.drewN w 1
/-- A triple that is a valid fraction, or (0, 0, false). -/
def Fine (r : Int × Int × Bool) : Prop := (r.2.2 = true → fracB r.1 r.2.1 = true) ∧ (r.2.2 = false → r = (0, 0, false))
end Go.Proofs.YtlkjhkkfdmjfcaaGreatDoor
namespace Go.Proofs.YtlkjhkkfdmjfcaaGreatDoor
open Go.RowKit
set_option linter.unusedVariables false
set_option linter.unusedSimpArgs false
/-- Block g begins with the cells vs, none frozen. -/
def Bl (w : World) (g : Nat) (vs : List Value) : Prop := g < w.heap.size ∧ ∀ j v, vs[j]? = some v → w.cell? ⟨g, j, none⟩ = some v ∧ w.frozen? ⟨g, j, none⟩ = false
theorem Bl.lt {w : World} {g : Nat} {vs : List Value} (h : Bl w g vs) : g < w.heap.size := h.1
theorem Bl.new' {w : World} {g : Nat} {vs : List Value} {t : TypeId} (e : w.heap.size = g) (hn : 0 < vs.length) : Bl (w.alloc (.cells vs.toArray t)) g vs := by
  subst e
  refine ⟨by simp, fun j v hv => ?_⟩
  have hh := heap_alloc_new w (.cells vs.toArray t)
  have hc := cell_of_row (w.alloc (.cells vs.toArray t)) w.heap.size j _ _ _ hh
  have hf : ∀ (g : Nat) (w' : World), w'.heap[g]? = some (.cells vs.toArray t (0, 0)) → w'.frozen? ⟨g, j, none⟩ = false := fun g w' h => by simp [World.frozen?, h]
  exact ⟨by rw [hc]; simpa using hv, hf _ _ hh⟩
theorem Bl.fr {w w' : World} {g l h' : Nat} {vs : List Value} (h : Bl w g vs) (k : Fr l h' w w') (ho : g < l ∨ h' ≤ g) : Bl w' g vs :=
  ⟨Nat.lt_of_lt_of_le h.1 k.size, fun j v hv => ⟨(k.cell (p := ⟨g, j, none⟩) h.1 ho).trans (h.2 j v hv).1, (k.frozen (p := ⟨g, j, none⟩) h.1 ho).trans (h.2 j v hv).2⟩⟩
theorem Bl.keeps {w w' : World} {g : Nat} {vs : List Value} (h : Bl w g vs) (k : Keeps w w') : Bl w' g vs := h.fr (Fr.of_keeps k 0 0) (by omega)
theorem Bl.far {w : World} {g : Nat} {vs : List Value} (h : Bl w g vs) {p : Addr} (hp : g ≠ p.block) (u : Value) : Bl (w.setCell p u) g vs :=
  ⟨by simpa [World.setCell] using h.1, fun j v hv => ⟨by rw [World.cell?_setCell_other w _ _ _ (by intro e; subst e; exact hp rfl)]; exact (h.2 j v hv).1, by rw [World.frozen?_setCell]; exact (h.2 j v hv).2⟩⟩
theorem Bl.set {w : World} {g : Nat} {vs : List Value} (h : Bl w g vs) (i : Nat) (u : Value) : Bl (w.setCell ⟨g, i, none⟩ u) g (vs.set i u) :=
  ⟨by simpa [World.setCell] using h.1, fun j v hv => by
    by_cases e : j = i
    · subst e
      have hl : j < vs.length := by
        rcases Nat.lt_or_ge j vs.length with hl | hl
        · exact hl
        · rw [List.getElem?_eq_none (by simpa using hl)] at hv; cases hv
      have h0 := h.2 j vs[j] (List.getElem?_eq_getElem hl)
      rw [List.getElem?_set_self hl] at hv
      injection hv with hv; subst hv
      exact ⟨World.cell?_setCell_same _ _ _ h0.1, by rw [World.frozen?_setCell]; exact h0.2⟩
    · rw [List.getElem?_set_ne (Ne.symm e)] at hv
      exact ⟨by rw [World.cell?_setCell_other w _ _ _ (by intro e2; injection e2 with _ e2; exact e e2.symm)]; exact (h.2 j v hv).1, by rw [World.frozen?_setCell]; exact (h.2 j v hv).2⟩⟩
theorem fr_one {w : World} {p i : Nat} (v : Value) : Fr p (p + 1) w (w.setCell ⟨p, i, none⟩ v) := (Fr.refl p (p + 1) w).setCell (p := ⟨p, i, none⟩) (Nat.le_refl _) (Nat.lt_succ_self _) v
/-- The slice is nil only as it ought to be. -/
def NilOk (A : Option Addr) (n c : Nat) : Prop := A = none → n = 0 ∧ c = 0
/-- A copy that may be written. -/
def CopyRes (w : World) (xs : List Int) (n : Nat) (e : Ending) (w' : World) : Prop := ∃ A C, e = .returned (.slice A n C) ∧ Mine w' w.heap.size w'.heap.size A n xs ∧ NilOk A n C ∧ Keeps w w'
/-- append of a whole slice of ints to an empty one that has just been made. -/
theorem append_ints_all {w0 : World} {ops : Array Oper} {rest : List Oper} {o : Oper} {a : Act} {Q : Exit → Act → World → Prop} {lo hi n c b off : Nat} {l : List Int}
    (h : Ints w0 lo hi (some ⟨b, off, none⟩) n l)
    (s u : Operand) (hgd : o.guard = none)
    (ho : o.op = .call { callee := .builtin .append, args := #[s, u], argTypes := #[22, 22] })
    (hs : a.eval s = .slice (some ⟨w0.heap.size, 0, none⟩) 0 0) (hx : a.eval u = .slice (some ⟨b, off, none⟩) n c)
    (k : ∀ A1 C1 w', Mine w' w0.heap.size w'.heap.size A1 n l → NilOk A1 n C1 → Keeps w0 w' → wpList Tryz.prog ops Q rest (a.put o.dst (.slice A1 n C1)) w') : wpList Tryz.prog ops Q (o :: rest) a (w0.alloc (.cells #[] 3)) := by
  obtain ⟨i, hi, hz0, hz1, hz2⟩ := info_parts info_int
  have hn := h.le
  have hl := h.1
  refine wpList_append_own _ hgd s u 22 ho w0.heap.size 3 i _ 1 8 Tryz.underlying22 hi hz0 hz1 hz2 rfl (by omega) _ 0 [] hs (World.ownsRow_made w0 #[] 0 (Nat.le_refl _) (Nat.zero_le _) rfl) ⟨b, off, none⟩ n c (l.map (Value.int .i64)) hx (by simp [hl]) (fun j y hy => ?_) (fun y hy => ?_) (by unfold maxLen; omega) (by omega) (by simp) (fun v' w' h2 h3 _ => ?_)
  · rw [Addr.add_lit]
    obtain ⟨hj, rfl⟩ := List.getElem?_eq_some_iff.1 hy
    have hj' : j < n := by simpa [hl] using hj
    obtain ⟨b', off', e, _, _, hc⟩ := h.2.2.2 (by omega)
    obtain ⟨rfl, rfl⟩ : b = b' ∧ off = off' := by simpa using e
    have := hc j hj'
    refine cell_keeps (this.trans ?_) (keeps_alloc _ _)
    simp [List.getD, hl, hj']
  · obtain ⟨x, _, rfl⟩ := List.mem_map.1 hy
    rfl
  · have h2' : w'.ownsRow w0.heap.size 3 1 v' n (l.map (Value.int .i64)) := by simpa using h2
    obtain ⟨A1, C1, e1⟩ := Has.form h2'
    subst e1
    refine k A1 C1 w' (Mine.of_own h2' hn) (fun e => ?_) (((Below.refl _ w0).alloc (Nat.le_refl _) _).grown h3 (by simp) (fun k hk => ?_))
    · subst e
      obtain ⟨_, h4⟩ := h2'
      rcases h4 with ⟨h4, h5⟩ | ⟨g, cap, cur, hv, _⟩
      · injection h4 with _ h6 h7; exact ⟨h6, h7⟩
      · injection hv with hv; cases hv
    · simp [Value.ownBlock] at hk
      omega
set_option maxRecDepth 100000 in
set_option maxHeartbeats 1600000 in
theorem l1Own_copy {A : Option Addr} {lo hi n c : Nat} {xs : List Int} {w : World} (h : Ints w lo hi A n xs) (h0 : NilOk A n c) :
    Calls Tryz.prog 128 #[.slice A n c] w (CopyRes w xs n) := by
  have hl := h.1
  have hq : ∀ w' : World, (binOp .eql 22 (.slice A n c) (.slice none 0 0)).run Tryz.prog w' = .ok (.bool A.isNone) w' := fun w' => by
    have := Lib.run_eql_slice_nil (P := Tryz.prog) w' 22 3 A n c 0 0 Tryz.underlying22
    exact this
  cases A with
  | none =>
    obtain ⟨rfl, rfl⟩ := h0 rfl
    obtain rfl : xs = [] := by simpa using hl
    obtain ⟨i, hi, hz0, hz1, hz2⟩ := info_parts info_int
    have hm := World.ownsRow_made (e := 3) (size := 1) w #[] 0 (Nat.le_refl _) (Nat.zero_le _) rfl
    go_enter Tryz.func128, Tryz.ntmps128
    go_wp2_with (at_builtin; refine wpList_append_own_none _ rfl _ _ 22 rfl w.heap.size 3 i 1 Tryz.underlying22 hi _ 0 [] rfl hm rfl ?_)
    go_ret
    first
    | exact ⟨_, _, rfl, Mine.of_own hm (by omega), fun e => (by first | exact ⟨rfl, rfl⟩ | cases e), keeps_alloc _ _⟩
    | exact ⟨_, _, rfl, Mine.nil_ _ _, fun e => ⟨rfl, rfl⟩, keeps_refl _⟩
  | some p =>
    by_cases hn : n = 0
    · subst hn
      obtain rfl : xs = [] := by simpa using hl
      obtain ⟨i, hi, hz0, hz1, hz2⟩ := info_parts info_int
      have hm := World.ownsRow_made (e := 3) (size := 1) w #[] 0 (Nat.le_refl _) (Nat.zero_le _) rfl
      go_enter Tryz.func128, Tryz.ntmps128
      go_wp2_with (at_builtin; refine wpList_append_own _ rfl _ _ 22 rfl w.heap.size 3 i _ 1 8 Tryz.underlying22 hi hz0 hz1 hz2 rfl (by omega) _ 0 [] rfl hm p 0 c [] rfl rfl (fun j y hy => by simp at hy) (fun y hy => by simp at hy) (by unfold maxLen; omega) (by omega) (by simp) (fun v' w' h2 h3 _ => ?_))
      have h2' : w'.ownsRow w.heap.size 3 1 v' 0 [] := by simpa using h2
      have h3' : (w.alloc (.cells #[] 3)).grownBy w' (some w.heap.size) := h3
      have hk : Keeps w w' := ((Below.refl _ w).alloc (Nat.le_refl _) _).grown h3' (by simp) (fun k hk => by injection hk with hk; omega)
      obtain ⟨A1, C1, e1⟩ := Has.form h2'
      cases e1
      have hno : NilOk A1 0 C1 := fun e => by
        subst e
        obtain ⟨_, h4⟩ := h2'
        rcases h4 with ⟨h4, h5⟩ | ⟨g, cap, cur, hv, _⟩
        · injection h4 with _ h6 h7; exact ⟨rfl, h7⟩
        · injection hv with hv; cases hv
      clear h2 h3
      go_wp2
      go_ret
      exact ⟨A1, C1, rfl, Mine.of_own h2' (by omega), hno, hk⟩
    · obtain ⟨b, off, e, _⟩ := h.2.2.2 (by omega)
      injection e with e
      subst e
      clear h0
      go_enter Tryz.func128, Tryz.ntmps128
      go_wp2_with (at_builtin; refine append_ints_all h _ _ rfl rfl rfl rfl ?_; intro A1 C1 w' hm hno hk)
      go_wp2
      go_ret
      exact ⟨A1, C1, rfl, hm, hno, hk⟩
set_option maxRecDepth 100000 in
set_option maxHeartbeats 1600000 in
theorem cloneI_copy {A : Option Addr} {lo hi n c : Nat} {xs : List Int} {w : World} (h : Ints w lo hi A n xs) (h0 : NilOk A n c) :
    Calls Tryz.prog 175 #[.slice A n c] w (CopyRes w xs n) := by
  have hl := h.1
  have hq : ∀ w' : World, (binOp .eql 22 (.slice A n c) (.slice none 0 0)).run Tryz.prog w' = .ok (.bool A.isNone) w' := fun w' => by
    have := Lib.run_eql_slice_nil (P := Tryz.prog) w' 22 3 A n c 0 0 Tryz.underlying22
    exact this
  cases A with
  | none =>
    obtain ⟨rfl, rfl⟩ := h0 rfl
    obtain rfl : xs = [] := by simpa using hl
    obtain ⟨i, hi, hz0, hz1, hz2⟩ := info_parts info_int
    have hm := World.ownsRow_made (e := 3) (size := 1) w #[] 0 (Nat.le_refl _) (Nat.zero_le _) rfl
    go_enter Tryz.func175, Tryz.ntmps175
    go_wp2_with (at_builtin; refine wpList_append_own_none _ rfl _ _ 22 rfl w.heap.size 3 i 1 Tryz.underlying22 hi _ 0 [] rfl hm rfl ?_)
    go_ret
    first
    | exact ⟨_, _, rfl, Mine.of_own hm (by omega), fun e => (by first | exact ⟨rfl, rfl⟩ | cases e), keeps_alloc _ _⟩
    | exact ⟨_, _, rfl, Mine.nil_ _ _, fun e => ⟨rfl, rfl⟩, keeps_refl _⟩
  | some p =>
    by_cases hn : n = 0
    · subst hn
      obtain rfl : xs = [] := by simpa using hl
      obtain ⟨i, hi, hz0, hz1, hz2⟩ := info_parts info_int
      have hm := World.ownsRow_made (e := 3) (size := 1) w #[] 0 (Nat.le_refl _) (Nat.zero_le _) rfl
      go_enter Tryz.func175, Tryz.ntmps175
      go_wp2_with (at_builtin; refine wpList_append_own _ rfl _ _ 22 rfl w.heap.size 3 i _ 1 8 Tryz.underlying22 hi hz0 hz1 hz2 rfl (by omega) _ 0 [] rfl hm p 0 c [] rfl rfl (fun j y hy => by simp at hy) (fun y hy => by simp at hy) (by unfold maxLen; omega) (by omega) (by simp) (fun v' w' h2 h3 _ => ?_))
      have h2' : w'.ownsRow w.heap.size 3 1 v' 0 [] := by simpa using h2
      have h3' : (w.alloc (.cells #[] 3)).grownBy w' (some w.heap.size) := h3
      have hk : Keeps w w' := ((Below.refl _ w).alloc (Nat.le_refl _) _).grown h3' (by simp) (fun k hk => by injection hk with hk; omega)
      obtain ⟨A1, C1, e1⟩ := Has.form h2'
      cases e1
      have hno : NilOk A1 0 C1 := fun e => by
        subst e
        obtain ⟨_, h4⟩ := h2'
        rcases h4 with ⟨h4, h5⟩ | ⟨g, cap, cur, hv, _⟩
        · injection h4 with _ h6 h7; exact ⟨rfl, h7⟩
        · injection hv with hv; cases hv
      clear h2 h3
      go_wp2
      go_ret
      exact ⟨A1, C1, rfl, Mine.of_own h2' (by omega), hno, hk⟩
    · obtain ⟨b, off, e, _⟩ := h.2.2.2 (by omega)
      injection e with e
      subst e
      clear h0
      go_enter Tryz.func175, Tryz.ntmps175
      go_wp2_with (at_builtin; refine append_ints_all h _ _ rfl rfl rfl rfl ?_; intro A1 C1 w' hm hno hk)
      go_wp2
      go_ret
      exact ⟨A1, C1, rfl, hm, hno, hk⟩
end Go.Proofs.YtlkjhkkfdmjfcaaGreatDoor
namespace Go.Proofs.YtlkjhkkfdmjfcaaGreatDoor
open Go.RowKit
set_option linter.unusedVariables false
set_option linter.unusedSimpArgs false
theorem make_vars (n : Nat) (hn : n ≤ 67108864) (w : World) :
    (Instr.makeSlice 34 (.int .i64 (n : Int)) (.int .i64 (n : Int))).run Tryz.prog w = .ok (.slice (some ⟨w.heap.size, 0, none⟩) n n) (w.alloc (.cells (madeCells #[.string ByteArray.empty, .int .i64 0] (n * 2)) 82)) := by
  obtain ⟨i, hi, hz0, hz1, hz2⟩ := info_parts info_var
  have h := run_make_rowN (P := Tryz.prog) 34 82 i _ Tryz.underlying34 hi hz0 .i64 .i64 n n (Nat.le_refl _) (by rw [hz2]; omega) (by omega) w
  rw [hz1] at h
  simpa [Value.cells] using h
theorem vrs_replicate (n : Nat) : vrs (List.replicate n v0) = (madeCells #[.string ByteArray.empty, .int .i64 0] (n * 2)).toList := by
  apply List.ext_getElem
  · simp [vrs_len, size_madeCells]
  · intro i h1 h2
    rw [vrs_len, List.length_replicate] at h1
    have hk : i / 2 < (List.replicate n v0).length := by simp; omega
    have h3 := vrs_at (List.replicate n v0) (i / 2) hk
    have h4 : (List.replicate n v0).getD (i / 2) v0 = v0 := by simp [List.getD, show i / 2 < n by omega]
    rw [h4] at h3
    have hgd : (vrs (List.replicate n v0)).getD i undef = (vrs (List.replicate n v0))[i]'(by rw [vrs_len, List.length_replicate]; exact h1) := by
      simp [List.getD, show i < (vrs (List.replicate n v0)).length by rw [vrs_len, List.length_replicate]; exact h1]
    rw [← hgd]
    rcases Nat.mod_two_eq_zero_or_one i with h | h
    · have e : i = i / 2 * 2 := by omega
      have e2 : (madeCells #[Value.string ByteArray.empty, Value.int .i64 0] (n * 2)).toList[i] = .string ByteArray.empty := by
        simp only [madeCells, Array.toList_map, Array.toList_range, List.getElem_map, List.getElem_range]; simp [h]
      rw [e2]; rw [e]; exact h3.1
    · have e : i = i / 2 * 2 + 1 := by omega
      have e2 : (madeCells #[Value.string ByteArray.empty, Value.int .i64 0] (n * 2)).toList[i] = .int .i64 0 := by
        simp only [madeCells, Array.toList_map, Array.toList_range, List.getElem_map, List.getElem_range]; simp [h]
      rw [e2]; rw [e]; exact h3.2
theorem OwnC.newV (w : World) (n : Nat) : OwnC (w.alloc (.cells (madeCells #[.string ByteArray.empty, .int .i64 0] (n * 2)) 82)) w.heap.size 82 (vrs (List.replicate n v0)) := by
  unfold OwnC
  rw [heap_alloc_new, vrs_replicate]
theorem OwnC.setV {w : World} {g k : Nat} {t : TypeId} {l : List VV} (h : OwnC w g t (vrs l)) (x : ByteArray) (y : Int) :
    OwnC ((w.setCell ⟨g, k * 2, none⟩ (.string x)).setCell ⟨g, k * 2 + 1, none⟩ (.int .i64 y)) g t (vrs (l.set k (x, y))) := by
  have := (h.set_ (k * 2) (.string x)).set_ (k * 2 + 1) (.int .i64 y)
  rwa [vrs_set] at this
end Go.Proofs.YtlkjhkkfdmjfcaaGreatDoor
namespace Go.Proofs.YtlkjhkkfdmjfcaaGreatDoor
open Go.ChangeShapes Go.WideShapes Go.ChangeAt Go.RowKit Go.Deep
set_option linter.unusedVariables false
set_option linter.unusedSimpArgs false
inductive D where
  | i (x : Int)
  | s (b : ByteArray)
  | sl (n : Nat) (ds : List D)
mutual
/-- The value v reads as d, in blocks from lo to hi. -/
def Rd (w : World) (lo hi : Nat) : D → Value → Prop
  | .i x, v => v = .int .i64 x
  | .s b, v => v = .string b
  | .sl n ds, v => ∃ A c, v = .slice A n c ∧ hi ≤ w.heap.size ∧ (0 < n → ∃ b off, A = some ⟨b, off, none⟩ ∧ lo ≤ b ∧ b < hi ∧ RdL w lo hi b off ds)
def RdL (w : World) (lo hi b : Nat) : Nat → List D → Prop
  | _, [] => True
  | off, d :: ds => (∃ u, w.cell? ⟨b, off, none⟩ = some u ∧ Rd w lo hi d u) ∧ RdL w lo hi b (off + 1) ds
end
/-- Values side by side. -/
def RdV (w : World) (lo hi : Nat) : List D → List Value → Prop
  | [], [] => True
  | d :: ds, v :: vs => Rd w lo hi d v ∧ RdV w lo hi ds vs
  | _, _ => False
section
variable {w w' : World} {lo hi l h' : Nat}
end
theorem flat_len {α β : Type} {f : α → List β} {sz : Nat} (hf : ∀ a, (f a).length = sz) : ∀ (l : List α), (l.flatMap f).length = l.length * sz
  | [] => by simp
  | a :: l => by rw [List.flatMap_cons, List.length_append, hf, flat_len hf l, List.length_cons, Nat.succ_mul]; omega
theorem flat_at {α β : Type} {f : α → List β} {sz : Nat} (hf : ∀ a, (f a).length = sz) (d : β) (z : α) : ∀ (l : List α) (k j : Nat), k < l.length → j < sz → (l.flatMap f).getD (k * sz + j) d = (f (l.getD k z)).getD j d
  | [], k, j, hk, _ => absurd hk (by simp)
  | a :: l, 0, j, _, hj => by
    rw [List.flatMap_cons]
    simp only [List.getD, Nat.zero_mul, Nat.zero_add, List.getElem?_cons_zero, Option.getD_some]
    rw [List.getElem?_append_left (by rw [hf]; exact hj)]
  | a :: l, k + 1, j, hk, hj => by
    have := flat_at hf d z l k j (by simpa using hk) hj
    rw [List.flatMap_cons]
    simp only [List.getD] at this ⊢
    rw [List.getElem?_append_right (by rw [hf, Nat.succ_mul]; omega), hf, show (k + 1) * sz + j - sz = k * sz + j by rw [Nat.succ_mul]; omega]
    simpa using this
mutual
/-- What the laws count as the size of an argument. -/
def szD : D → Nat
  | .i _ => 0
  | .s b => b.size
  | .sl n ds => n + szL ds
def szL : List D → Nat
  | [] => 0
  | d :: ds => szD d + szL ds
end
/-- The size of the first k rows. -/
def szR {α : Type} (f : α → List D) (ts : List α) (k : Nat) : Nat := szL ((ts.take k).flatMap f)
/-- The kinds of cells. -/
inductive K where
  | i | s
  | sl (ks : List K)
mutual
inductive Hk : K → D → Prop
  | i (x : Int) (h : -9223372036854775808 ≤ x ∧ x ≤ 9223372036854775807) : Hk .i (.i x)
  | s (b : ByteArray) (h : b.size ≤ maxLen) : Hk .s (.s b)
  | sl (ks : List K) (n : Nat) (rows : List (List D)) (h : n ≤ maxLen) (hl : rows.length = n) (hr : ∀ r, r ∈ rows → HkL ks r) : Hk (.sl ks) (.sl n rows.flatten)
inductive HkL : List K → List D → Prop
  | nil : HkL [] []
  | cons (k : K) (d : D) (ks : List K) (ds : List D) (h : Hk k d) (hs : HkL ks ds) : HkL (k :: ks) (d :: ds)
end
section
variable {H : Type} {enc : TypeId × Value → H} {P : Program} {w : World} {spare : Nat → Bool} {held : Bool}
end
end Go.Proofs.YtlkjhkkfdmjfcaaGreatDoor
namespace Go.Proofs.YtlkjhkkfdmjfcaaGreatDoor
open Go.ChangeShapes Go.WideShapes Go.ChangeAt Go.RowKit
set_option linter.unusedVariables false
set_option linter.unusedSimpArgs false
def dv2 (v : VV) : List D := [.s v.1, .i v.2]
section
variable {H : Type} {enc : TypeId × Value → H} {w : World} {held : Bool}
end
end Go.Proofs.YtlkjhkkfdmjfcaaGreatDoor
namespace Go.Proofs.YtlkjhkkfdmjfcaaGreatDoor
open Go.ChangeShapes Go.WideShapes Go.ChangeAt Go.RowKit
set_option linter.unusedVariables false
set_option linter.unusedSimpArgs false
abbrev RR := Int × Int × List Int
def r0 : RR := (0, 0, [])
/-- Records that can be read. -/
def Recs (w : World) (lo hi : Nat) (A : Option Addr) (n : Nat) (l : List RR) : Prop :=
  l.length = n ∧ n ≤ 67108864 ∧ hi ≤ w.heap.size ∧ (0 < n → ∃ b off, A = some ⟨b, off, none⟩ ∧ lo ≤ b ∧ b < hi ∧
    ∀ j, j < n → ∃ A' m c, w.cell? ⟨b, off + j * 3, none⟩ = some (.int .i64 (l.getD j r0).1) ∧ w.cell? ⟨b, off + j * 3 + 1, none⟩ = some (.int .i64 (l.getD j r0).2.1) ∧ w.cell? ⟨b, off + j * 3 + 2, none⟩ = some (.slice A' m c) ∧ Ints w lo hi A' m (l.getD j r0).2.2)
/-- Records of one's own: block b holds the rows, the values of row j lie from L j to U j. -/
def RecC (w : World) (lo hi b off n : Nat) (L U : Nat → Nat) (l : List RR) : Prop :=
  l.length = n ∧ n ≤ 67108864 ∧ hi ≤ w.heap.size ∧ lo ≤ b ∧ b < hi ∧ (∀ j, j < n → lo ≤ L j ∧ U j ≤ hi ∧ (b < L j ∨ U j ≤ b)) ∧ (∀ i j, i < j → j < n → U i ≤ L j) ∧
  (∀ j, j < n * 3 → w.frozen? ⟨b, off + j, none⟩ = false) ∧
  ∀ j, j < n → ∃ A' m c, w.cell? ⟨b, off + j * 3, none⟩ = some (.int .i64 (l.getD j r0).1) ∧ w.cell? ⟨b, off + j * 3 + 1, none⟩ = some (.int .i64 (l.getD j r0).2.1) ∧ w.cell? ⟨b, off + j * 3 + 2, none⟩ = some (.slice A' m c) ∧ Mine w (L j) (U j) A' m (l.getD j r0).2.2
def RecM (w : World) (lo hi : Nat) (A : Option Addr) (n : Nat) (l : List RR) : Prop :=
  Recs w lo hi A n l ∧ (0 < n → ∃ b off L U, A = some ⟨b, off, none⟩ ∧ RecC w lo hi b off n L U l)
section
variable {w w' : World} {lo hi n : Nat} {A : Option Addr} {l : List RR}
end
/-- Records that came in. -/
def RecsArg (w : World) (A : Option Addr) (n : Nat) (l : List RR) : Prop :=
  n ≤ maxLen ∧ l.length = n ∧ (0 < n → ∃ b off, A = some ⟨b, off, none⟩ ∧ b < w.heap.size ∧ ∀ j, j < n → ∃ A' c, w.cell? ⟨b, off + j * 3, none⟩ = some (.int .i64 (l.getD j r0).1) ∧ w.cell? ⟨b, off + j * 3 + 1, none⟩ = some (.int .i64 (l.getD j r0).2.1) ∧ w.cell? ⟨b, off + j * 3 + 2, none⟩ = some (.slice A' (l.getD j r0).2.2.length c) ∧ IntsArg w A' (l.getD j r0).2.2.length (l.getD j r0).2.2) ∧
  ∀ j, (-9223372036854775808 ≤ (l.getD j r0).1 ∧ (l.getD j r0).1 ≤ 9223372036854775807) ∧ -9223372036854775808 ≤ (l.getD j r0).2.1 ∧ (l.getD j r0).2.1 ≤ 9223372036854775807
section
variable {H : Type} {enc : TypeId × Value → H} {w : World} {held : Bool}
end
/-- The first k records are copied into block g. -/
def FillR (w : World) (g n : Nat) (l : List RR) (k : Nat) : Prop :=
  ∃ (cs : List Value) (L U : Nat → Nat), OwnC w g 160 cs ∧ cs.length = n * 3 ∧ (∀ j, j < k → g < L j ∧ U j ≤ w.heap.size) ∧ (∀ i j, i < j → j < k → U i ≤ L j) ∧
    ∀ j, j < k → ∃ A' m, cs.getD (j * 3) undef = .int .i64 (l.getD j r0).1 ∧ cs.getD (j * 3 + 1) undef = .int .i64 (l.getD j r0).2.1 ∧ cs.getD (j * 3 + 2) undef = .slice A' m m ∧ Mine w (L j) (U j) A' m (l.getD j r0).2.2
theorem getD_set_other {α : Type} {l : List α} {i j : Nat} {d a : α} (h : i ≠ j) : (l.set i a).getD j d = l.getD j d := by simp [List.getD, List.getElem?_set_ne h]
theorem getD_set_same {α : Type} {l : List α} {i : Nat} {d a : α} (h : i < l.length) : (l.set i a).getD i d = a := by simp [List.getD, h]
end Go.Proofs.YtlkjhkkfdmjfcaaGreatDoor
