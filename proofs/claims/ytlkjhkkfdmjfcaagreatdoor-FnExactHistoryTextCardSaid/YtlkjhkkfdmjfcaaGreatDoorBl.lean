/- Boxes of several cells; copies of slices of ints. -/
import Derived.Test.YtlkjhkkfdmjfcaaGreatDoorKD
import Derived.Test.YtlkjhkkfdmjfcaaGreatDoorKB
import Derived.Lib.SliceRun
import Derived.Laws.OwnMore
namespace Go.Proofs.YtlkjhkkfdmjfcaaGreatDoor
open Go.RowKit
set_option linter.unusedVariables false
set_option linter.unusedSimpArgs false

/-- Block g begins with the cells vs, none frozen. -/
def Bl (w : World) (g : Nat) (vs : List Value) : Prop := g < w.heap.size ∧ ∀ j v, vs[j]? = some v → w.cell? ⟨g, j, none⟩ = some v ∧ w.frozen? ⟨g, j, none⟩ = false
theorem Bl.lt {w : World} {g : Nat} {vs : List Value} (h : Bl w g vs) : g < w.heap.size := h.1
theorem Bl.new' {w : World} {g : Nat} {vs : List Value} {t : TypeId} (e : w.heap.size = g) (hn : 0 < vs.length) : Bl (w.alloc (.cells vs.toArray t)) g vs := by
  subst e
  refine ⟨by simp, fun j v hv => ?_⟩
  have hh := heap_alloc_new w (.cells vs.toArray t)
  have hc := cell_of_row (w.alloc (.cells vs.toArray t)) w.heap.size j _ _ _ hh
  have hf : ∀ (g : Nat) (w' : World), w'.heap[g]? = some (.cells vs.toArray t (0, 0)) → w'.frozen? ⟨g, j, none⟩ = false := fun g w' h => by simp [World.frozen?, h]
  exact ⟨by rw [hc]; simpa using hv, hf _ _ hh⟩
theorem Bl.fr {w w' : World} {g l h' : Nat} {vs : List Value} (h : Bl w g vs) (k : Fr l h' w w') (ho : g < l ∨ h' ≤ g) : Bl w' g vs :=
  ⟨Nat.lt_of_lt_of_le h.1 k.size, fun j v hv => ⟨(k.cell (p := ⟨g, j, none⟩) h.1 ho).trans (h.2 j v hv).1, (k.frozen (p := ⟨g, j, none⟩) h.1 ho).trans (h.2 j v hv).2⟩⟩
theorem Bl.keeps {w w' : World} {g : Nat} {vs : List Value} (h : Bl w g vs) (k : Keeps w w') : Bl w' g vs := h.fr (Fr.of_keeps k 0 0) (by omega)
theorem Bl.far {w : World} {g : Nat} {vs : List Value} (h : Bl w g vs) {p : Addr} (hp : g ≠ p.block) (u : Value) : Bl (w.setCell p u) g vs :=
  ⟨by simpa [World.setCell] using h.1, fun j v hv => ⟨by rw [World.cell?_setCell_other w _ _ _ (by intro e; subst e; exact hp rfl)]; exact (h.2 j v hv).1, by rw [World.frozen?_setCell]; exact (h.2 j v hv).2⟩⟩
theorem Bl.set {w : World} {g : Nat} {vs : List Value} (h : Bl w g vs) (i : Nat) (u : Value) : Bl (w.setCell ⟨g, i, none⟩ u) g (vs.set i u) :=
  ⟨by simpa [World.setCell] using h.1, fun j v hv => by
    by_cases e : j = i
    · subst e
      have hl : j < vs.length := by
        rcases Nat.lt_or_ge j vs.length with hl | hl
        · exact hl
        · rw [List.getElem?_eq_none (by simpa using hl)] at hv; cases hv
      have h0 := h.2 j vs[j] (List.getElem?_eq_getElem hl)
      rw [List.getElem?_set_self hl] at hv
      injection hv with hv; subst hv
      exact ⟨World.cell?_setCell_same _ _ _ h0.1, by rw [World.frozen?_setCell]; exact h0.2⟩
    · rw [List.getElem?_set_ne (Ne.symm e)] at hv
      exact ⟨by rw [World.cell?_setCell_other w _ _ _ (by intro e2; injection e2 with _ e2; exact e e2.symm)]; exact (h.2 j v hv).1, by rw [World.frozen?_setCell]; exact (h.2 j v hv).2⟩⟩
theorem fr_one {w : World} {p i : Nat} (v : Value) : Fr p (p + 1) w (w.setCell ⟨p, i, none⟩ v) := (Fr.refl p (p + 1) w).setCell (p := ⟨p, i, none⟩) (Nat.le_refl _) (Nat.lt_succ_self _) v
theorem Bl.keepsA {w w' : World} {vs : List Value} {t : TypeId} (k : Keeps (w.alloc (.cells vs.toArray t)) w') (hn : 0 < vs.length) : Bl w' w.heap.size vs := (Bl.new' rfl hn).keeps k

/-- The slice is nil only as it ought to be. -/
def NilOk (A : Option Addr) (n c : Nat) : Prop := A = none → n = 0 ∧ c = 0
theorem Ints.nilOk {w : World} {lo hi n : Nat} {A : Option Addr} {xs : List Int} (h : Ints w lo hi A n xs) : NilOk A n n := fun e => by
  rcases Nat.eq_zero_or_pos n with h0 | h0
  · exact ⟨h0, h0⟩
  · obtain ⟨b, off, e2, _⟩ := h.2.2.2 h0; rw [e] at e2; cases e2
/-- A copy that may be written. -/
def CopyRes (w : World) (xs : List Int) (n : Nat) (e : Ending) (w' : World) : Prop := ∃ A C, e = .returned (.slice A n C) ∧ Mine w' w.heap.size w'.heap.size A n xs ∧ NilOk A n C ∧ Keeps w w'
/-- append of a whole slice of ints to an empty one that has just been made. -/
theorem append_ints_all {w0 : World} {ops : Array Oper} {rest : List Oper} {o : Oper} {a : Act} {Q : Exit → Act → World → Prop} {lo hi n c b off : Nat} {l : List Int}
    (h : Ints w0 lo hi (some ⟨b, off, none⟩) n l)
    (s u : Operand) (hgd : o.guard = none)
    (ho : o.op = .call { callee := .builtin .append, args := #[s, u], argTypes := #[22, 22] })
    (hs : a.eval s = .slice (some ⟨w0.heap.size, 0, none⟩) 0 0) (hx : a.eval u = .slice (some ⟨b, off, none⟩) n c)
    (k : ∀ A1 C1 w', Mine w' w0.heap.size w'.heap.size A1 n l → NilOk A1 n C1 → Keeps w0 w' → wpList Tryz.prog ops Q rest (a.put o.dst (.slice A1 n C1)) w') : wpList Tryz.prog ops Q (o :: rest) a (w0.alloc (.cells #[] 3)) := by
  obtain ⟨i, hi, hz0, hz1, hz2⟩ := info_parts info_int
  have hn := h.le
  have hl := h.1
  refine wpList_append_own _ hgd s u 22 ho w0.heap.size 3 i _ 1 8 Tryz.underlying22 hi hz0 hz1 hz2 rfl (by omega) _ 0 [] hs (World.ownsRow_made w0 #[] 0 (Nat.le_refl _) (Nat.zero_le _) rfl) ⟨b, off, none⟩ n c (l.map (Value.int .i64)) hx (by simp [hl]) (fun j y hy => ?_) (fun y hy => ?_) (by unfold maxLen; omega) (by omega) (by simp) (fun v' w' h2 h3 _ => ?_)
  · rw [Addr.add_lit]
    obtain ⟨hj, rfl⟩ := List.getElem?_eq_some_iff.1 hy
    have hj' : j < n := by simpa [hl] using hj
    obtain ⟨b', off', e, _, _, hc⟩ := h.2.2.2 (by omega)
    obtain ⟨rfl, rfl⟩ : b = b' ∧ off = off' := by simpa using e
    have := hc j hj'
    refine cell_keeps (this.trans ?_) (keeps_alloc _ _)
    simp [List.getD, hl, hj']
  · obtain ⟨x, _, rfl⟩ := List.mem_map.1 hy
    rfl
  · have h2' : w'.ownsRow w0.heap.size 3 1 v' n (l.map (Value.int .i64)) := by simpa using h2
    obtain ⟨A1, C1, e1⟩ := Has.form h2'
    subst e1
    refine k A1 C1 w' (Mine.of_own h2' hn) (fun e => ?_) (((Below.refl _ w0).alloc (Nat.le_refl _) _).grown h3 (by simp) (fun k hk => ?_))
    · subst e
      obtain ⟨_, h4⟩ := h2'
      rcases h4 with ⟨h4, h5⟩ | ⟨g, cap, cur, hv, _⟩
      · injection h4 with _ h6 h7; exact ⟨h6, h7⟩
      · injection hv with hv; cases hv
    · simp [Value.ownBlock] at hk
      omega
set_option maxRecDepth 100000 in
set_option maxHeartbeats 1600000 in
theorem l1Own_copy {A : Option Addr} {lo hi n c : Nat} {xs : List Int} {w : World} (h : Ints w lo hi A n xs) (h0 : NilOk A n c) :
    Calls Tryz.prog 128 #[.slice A n c] w (CopyRes w xs n) := by
  have hl := h.1
  have hq : ∀ w' : World, (binOp .eql 22 (.slice A n c) (.slice none 0 0)).run Tryz.prog w' = .ok (.bool A.isNone) w' := fun w' => by
    have := Lib.run_eql_slice_nil (P := Tryz.prog) w' 22 3 A n c 0 0 Tryz.underlying22
    exact this
  cases A with
  | none =>
    obtain ⟨rfl, rfl⟩ := h0 rfl
    obtain rfl : xs = [] := by simpa using hl
    obtain ⟨i, hi, hz0, hz1, hz2⟩ := info_parts info_int
    have hm := World.ownsRow_made (e := 3) (size := 1) w #[] 0 (Nat.le_refl _) (Nat.zero_le _) rfl
    go_enter Tryz.func128, Tryz.ntmps128
    go_wp2_with (at_builtin; refine wpList_append_own_none _ rfl _ _ 22 rfl w.heap.size 3 i 1 Tryz.underlying22 hi _ 0 [] rfl hm rfl ?_)
    go_ret
    first
    | exact ⟨_, _, rfl, Mine.of_own hm (by omega), fun e => (by first | exact ⟨rfl, rfl⟩ | cases e), keeps_alloc _ _⟩
    | exact ⟨_, _, rfl, Mine.nil_ _ _, fun e => ⟨rfl, rfl⟩, keeps_refl _⟩
  | some p =>
    by_cases hn : n = 0
    · subst hn
      obtain rfl : xs = [] := by simpa using hl
      obtain ⟨i, hi, hz0, hz1, hz2⟩ := info_parts info_int
      have hm := World.ownsRow_made (e := 3) (size := 1) w #[] 0 (Nat.le_refl _) (Nat.zero_le _) rfl
      go_enter Tryz.func128, Tryz.ntmps128
      go_wp2_with (at_builtin; refine wpList_append_own _ rfl _ _ 22 rfl w.heap.size 3 i _ 1 8 Tryz.underlying22 hi hz0 hz1 hz2 rfl (by omega) _ 0 [] rfl hm p 0 c [] rfl rfl (fun j y hy => by simp at hy) (fun y hy => by simp at hy) (by unfold maxLen; omega) (by omega) (by simp) (fun v' w' h2 h3 _ => ?_))
      have h2' : w'.ownsRow w.heap.size 3 1 v' 0 [] := by simpa using h2
      have h3' : (w.alloc (.cells #[] 3)).grownBy w' (some w.heap.size) := h3
      have hk : Keeps w w' := ((Below.refl _ w).alloc (Nat.le_refl _) _).grown h3' (by simp) (fun k hk => by injection hk with hk; omega)
      obtain ⟨A1, C1, e1⟩ := Has.form h2'
      cases e1
      have hno : NilOk A1 0 C1 := fun e => by
        subst e
        obtain ⟨_, h4⟩ := h2'
        rcases h4 with ⟨h4, h5⟩ | ⟨g, cap, cur, hv, _⟩
        · injection h4 with _ h6 h7; exact ⟨rfl, h7⟩
        · injection hv with hv; cases hv
      clear h2 h3
      go_wp2
      go_ret
      exact ⟨A1, C1, rfl, Mine.of_own h2' (by omega), hno, hk⟩
    · obtain ⟨b, off, e, _⟩ := h.2.2.2 (by omega)
      injection e with e
      subst e
      clear h0
      go_enter Tryz.func128, Tryz.ntmps128
      go_wp2_with (at_builtin; refine append_ints_all h _ _ rfl rfl rfl rfl ?_; intro A1 C1 w' hm hno hk)
      go_wp2
      go_ret
      exact ⟨A1, C1, rfl, hm, hno, hk⟩
set_option maxRecDepth 100000 in
set_option maxHeartbeats 1600000 in
theorem cloneI_copy {A : Option Addr} {lo hi n c : Nat} {xs : List Int} {w : World} (h : Ints w lo hi A n xs) (h0 : NilOk A n c) :
    Calls Tryz.prog 175 #[.slice A n c] w (CopyRes w xs n) := by
  have hl := h.1
  have hq : ∀ w' : World, (binOp .eql 22 (.slice A n c) (.slice none 0 0)).run Tryz.prog w' = .ok (.bool A.isNone) w' := fun w' => by
    have := Lib.run_eql_slice_nil (P := Tryz.prog) w' 22 3 A n c 0 0 Tryz.underlying22
    exact this
  cases A with
  | none =>
    obtain ⟨rfl, rfl⟩ := h0 rfl
    obtain rfl : xs = [] := by simpa using hl
    obtain ⟨i, hi, hz0, hz1, hz2⟩ := info_parts info_int
    have hm := World.ownsRow_made (e := 3) (size := 1) w #[] 0 (Nat.le_refl _) (Nat.zero_le _) rfl
    go_enter Tryz.func175, Tryz.ntmps175
    go_wp2_with (at_builtin; refine wpList_append_own_none _ rfl _ _ 22 rfl w.heap.size 3 i 1 Tryz.underlying22 hi _ 0 [] rfl hm rfl ?_)
    go_ret
    first
    | exact ⟨_, _, rfl, Mine.of_own hm (by omega), fun e => (by first | exact ⟨rfl, rfl⟩ | cases e), keeps_alloc _ _⟩
    | exact ⟨_, _, rfl, Mine.nil_ _ _, fun e => ⟨rfl, rfl⟩, keeps_refl _⟩
  | some p =>
    by_cases hn : n = 0
    · subst hn
      obtain rfl : xs = [] := by simpa using hl
      obtain ⟨i, hi, hz0, hz1, hz2⟩ := info_parts info_int
      have hm := World.ownsRow_made (e := 3) (size := 1) w #[] 0 (Nat.le_refl _) (Nat.zero_le _) rfl
      go_enter Tryz.func175, Tryz.ntmps175
      go_wp2_with (at_builtin; refine wpList_append_own _ rfl _ _ 22 rfl w.heap.size 3 i _ 1 8 Tryz.underlying22 hi hz0 hz1 hz2 rfl (by omega) _ 0 [] rfl hm p 0 c [] rfl rfl (fun j y hy => by simp at hy) (fun y hy => by simp at hy) (by unfold maxLen; omega) (by omega) (by simp) (fun v' w' h2 h3 _ => ?_))
      have h2' : w'.ownsRow w.heap.size 3 1 v' 0 [] := by simpa using h2
      have h3' : (w.alloc (.cells #[] 3)).grownBy w' (some w.heap.size) := h3
      have hk : Keeps w w' := ((Below.refl _ w).alloc (Nat.le_refl _) _).grown h3' (by simp) (fun k hk => by injection hk with hk; omega)
      obtain ⟨A1, C1, e1⟩ := Has.form h2'
      cases e1
      have hno : NilOk A1 0 C1 := fun e => by
        subst e
        obtain ⟨_, h4⟩ := h2'
        rcases h4 with ⟨h4, h5⟩ | ⟨g, cap, cur, hv, _⟩
        · injection h4 with _ h6 h7; exact ⟨rfl, h7⟩
        · injection hv with hv; cases hv
      clear h2 h3
      go_wp2
      go_ret
      exact ⟨A1, C1, rfl, Mine.of_own h2' (by omega), hno, hk⟩
    · obtain ⟨b, off, e, _⟩ := h.2.2.2 (by omega)
      injection e with e
      subst e
      clear h0
      go_enter Tryz.func175, Tryz.ntmps175
      go_wp2_with (at_builtin; refine append_ints_all h _ _ rfl rfl rfl rfl ?_; intro A1 C1 w' hm hno hk)
      go_wp2
      go_ret
      exact ⟨A1, C1, rfl, hm, hno, hk⟩
end Go.Proofs.YtlkjhkkfdmjfcaaGreatDoor
