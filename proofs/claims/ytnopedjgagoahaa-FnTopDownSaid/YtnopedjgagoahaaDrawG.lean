/- What the cursor draws: geographies (bounds alone). -/
import Derived.Test.YtnopedjgagoahaaDrawB
import Derived.Maps.AppendAt
import Derived.Deep.RegionLaw
import Derived.Laws.AppendOwnNone
namespace Go.Proofs.Ytnopedjgagoahaa
open Go.RowKit
set_option linter.unusedVariables false
set_option linter.unusedSimpArgs false

/-- append of one int in a region that draws its order; where the new row lies. -/
theorem step_append_int_at {W : World} {ops : Array Oper} {o : Oper} {a : Act} {K : Act → World → Prop} {Q : Exit → Act → World → Prop} {E : Prop} {B : Nat} {v : Value} {n g : Nat} {xs : List Int} {u : Int}
    (hown : Has W B 3 1 v n (xs.map (Value.int .i64))) (hn : n ≤ 67108864) (hB : B ≤ W.heap.size)
    (s x : Operand) (hgd : o.guard = none)
    (ho : o.op = .call { callee := .builtin .append, args := #[s, x], argTypes := #[51, 51] })
    (hs : a.eval s = v) (hx : a.eval x = .slice (some ⟨g, 0, none⟩) 1 1) (hg : W.heap[g]? = some (.cells #[.int .i64 u] 3 (0, 0)))
    (h : ∀ v' w', Has w' B 3 1 v' (n + 1) ((xs ++ [u]).map (Value.int .i64)) → W.grownBy w' v.ownBlock → (v'.ownBlock = v.ownBlock ∨ v'.ownBlock = some W.heap.size) → K (a.put o.dst v') w') :
    if Region.wanted o (yielded ops a.tmps) = true then Oper.wp Try.prog o a W K Q else E := by
  have hw : Region.wanted o (yielded ops a.tmps) = true := by simp [Region.wanted, hgd]
  rw [if_pos hw]
  obtain ⟨i, hi, hz0, hz1, hz2⟩ := info_parts info_int
  obtain ⟨v', w', hr, h2, h3, _, h5⟩ := run_append_own_at (P := Try.prog) W B 51 o.type 3 i _ 1 8 Try.underlying51 hi hz0 hz1 hz2 rfl (by omega) v n _ hown ⟨g, 0, none⟩ 1 1 [.int .i64 u] rfl (fun j y hy => by rw [Addr.add_lit, Nat.zero_add, cell_of_row _ _ _ _ _ _ hg]; simpa using hy) (fun y hy => by simp at hy; subst hy; rfl) (by unfold maxLen; omega) (by omega) hB
  unfold Oper.wp
  simp [execOp, ho, resolve, invoke, builtin, hs, hx, hr, Result.andThen]
  exact h v' w' (by simpa using h2) h3 h5
theorem zeroCells_int (m : Nat) : (Builtin.zeroCells #[Value.int .i64 0] m).toList = List.replicate m (.int .i64 0) := by
  apply List.ext_getElem
  · simp [Builtin.zeroCells]
  · intro i h1 h2
    simp [Builtin.zeroCells, Nat.mod_one]
section
variable {P : Program} {w : World}
theorem run_zeros_room (t u ty e : TypeId) (i : TypeInfo) (ht : P.underlying t = some (.slice e)) (hu : P.underlying u = some (.int .i64)) (hi : P.info? e = some i) (hz : i.zero = some (.int .i64 0)) (hsize : i.size = 1) (hby : i.bytes = 8)
    (g n cap : Nat) (cur : Array Value) (hg : w.heap[g]? = some (.cells cur e (0, 0))) (m : Nat) (hm : 0 < m) (h63 : n + m ≤ 67108864) (hroom : n + m ≤ cap) (hfit : n + m ≤ cur.size) :
    (Builtin.append_ #[t, u] ty #[.slice (some ⟨g, 0, none⟩) n cap, .int .i64 (m : Int)]).run P w =
      .ok (.slice (some ⟨g, 0, none⟩) (n + m) cap) (w.setRow g (cur.toList.take n ++ List.replicate m (Value.int .i64 0) ++ cur.toList.drop (n + m)).toArray) := by
  have hw : IntKind.i64.wrap (m : Int) = m := IntWalk.i64_in _ (by omega)
  have hb1 : ¬ (281474976710656 < (m : Int) * 8) := by omega
  have hm0 : ¬ ((m : Int) < 0) := by omega
  have hm1 : ¬ m = 0 := by omega
  have hst := run_storeCells_at P g n e (List.replicate m (Value.int .i64 0)) 0 cur w hg (by simpa using hfit) (fun u hu => by rw [(List.mem_replicate.1 hu).2]; rfl)
  simp only [Nat.add_zero, List.length_replicate] at hst
  simp [Builtin.append_, run_underlying ht, run_underlying hu, sizeOf, typeInfo, zeroValue, asInt, asIntOf, hi, hz, hsize, hby, hw, hb1, hm0, hm1, hroom, Addr.add_lit, Value.cells, zeroCells_int, hst]
theorem run_zeros_grow (t u ty e : TypeId) (i : TypeInfo) (ht : P.underlying t = some (.slice e)) (hu : P.underlying u = some (.int .i64)) (hi : P.info? e = some i) (hz : i.zero = some (.int .i64 0)) (hsize : i.size = 1) (hby : i.bytes = 8)
    (b : Addr) (n cap : Nat) (olds : List Value) (hlo : olds.length = n) (holds : ∀ j v, olds[j]? = some v → w.cell? (b.add j) = some v) (m : Nat) (hm : 0 < m) (h63 : n + m ≤ 67108864) (hg : cap < n + m) :
    (Builtin.append_ #[t, u] ty #[.slice (some b) n cap, .int .i64 (m : Int)]).run P w =
      .ok (.slice (some ⟨w.heap.size, 0, none⟩) (n + m) (grownCap w (n + m) cap e)) (w.drew.alloc (.cells (olds.toArray ++ (List.replicate m (Value.int .i64 0)).toArray ++ Builtin.zeroCells #[Value.int .i64 0] (grownCap w (n + m) cap e - (n + m))) e)) := by
  have hw : IntKind.i64.wrap (m : Int) = m := IntWalk.i64_in _ (by omega)
  have hb1 : ¬ (281474976710656 < (m : Int) * 8) := by omega
  have hm0 : ¬ ((m : Int) < 0) := by omega
  have hm1 : ¬ m = 0 := by omega
  have hn : ¬ (n + m ≤ cap) := by omega
  have h63' : ¬ (9223372036854775807 < ((n : Int) + (m : Int))) := by omega
  have hfits := growslice_fits (need := n + m) (old := cap) (bytes := 8) (by omega) (by omega)
  have h48' : ¬ (281474976710656 < Builtin.nextslicecap (n + m) cap * 8) := by omega
  have hfo := run_firstCells_some (P := P) w.drew 1 n b n cap olds (by omega) (by simpa using holds)
  simp [Builtin.append_, run_underlying ht, run_underlying hu, sizeOf, typeInfo, zeroValue, asInt, asIntOf, hi, hz, hsize, hby, hw, hb1, hm0, hm1, hn, h63', h48', Value.cells, Question.forced, hfo, newRow, grownCap]
  congr 2
  apply Array.ext'
  simp [List.append_assoc, zeroCells_int]
end
/-- append(s, make([]int, m)...) onto a row of the call's own, in a region that draws its order. -/
theorem step_append_zeros {W : World} {ops : Array Oper} {o : Oper} {a : Act} {K : Act → World → Prop} {Q : Exit → Act → World → Prop} {E : Prop} {B : Nat} {v : Value} {n m : Nat} {xs : List Int}
    (hown : Has W B 3 1 v n (xs.map (Value.int .i64))) (hn : 0 < n) (hm : 0 < m) (h63 : n + m ≤ 67108864) (hB : B ≤ W.heap.size)
    (s x : Operand) (hgd : o.guard = none)
    (ho : o.op = .call { callee := .builtin .append, args := #[s, x], argTypes := #[51, 3] })
    (hs : a.eval s = v) (hx : a.eval x = .int .i64 (m : Int))
    (h : ∀ v' w', Has w' B 3 1 v' (n + m) ((xs ++ List.replicate m 0).map (Value.int .i64)) → W.grownBy w' v.ownBlock → (v'.ownBlock = v.ownBlock ∨ v'.ownBlock = some W.heap.size) → K (a.put o.dst v') w') :
    if Region.wanted o (yielded ops a.tmps) = true then Oper.wp Try.prog o a W K Q else E := by
  have hw : Region.wanted o (yielded ops a.tmps) = true := by simp [Region.wanted, hgd]
  rw [if_pos hw]
  obtain ⟨i, hi, hz0, hz1, hz2⟩ := info_parts info_int
  have hxl : xs.length = n := by simpa using hown.1
  have e1 : (xs ++ List.replicate m 0).map (Value.int .i64) = xs.map (Value.int .i64) ++ List.replicate m (.int .i64 0) := by simp
  have key : ∃ v' w', (Builtin.append_ #[51, 3] o.type #[v, .int .i64 (m : Int)]).run Try.prog W = .ok v' w' ∧ Has w' B 3 1 v' (n + m) ((xs ++ List.replicate m 0).map (Value.int .i64)) ∧ W.grownBy w' v.ownBlock ∧ (v'.ownBlock = v.ownBlock ∨ v'.ownBlock = some W.heap.size) := by
    rcases hown.2 with ⟨_, h0⟩ | ⟨g, cap, cur, rfl, hbg, hg, hnc, hcm, hcs, htake⟩
    · omega
    · rw [Nat.mul_one] at hcs htake
      by_cases hroom : n + m ≤ cap
      · have hr := run_zeros_room (P := Try.prog) (w := W) 51 3 o.type 3 i Try.underlying51 Try.underlying3 hi hz0 hz1 hz2 g n cap cur hg m hm h63 hroom (by omega)
        refine ⟨_, _, hr, ⟨by simp [hxl], .inr ⟨g, cap, _, rfl, hbg, setRow_heap W g cur _ _ _ hg, hroom, hcm, ?_, ?_⟩⟩, ⟨rfl, rfl, rfl, by simp, fun k _ hk => setRow_other W g k _ (fun e => hk (by simp [Value.ownBlock, e]))⟩, .inl rfl⟩
        · simp only [List.size_toArray, List.length_append, List.length_take, List.length_drop, Array.length_toList, List.length_replicate]
          omega
        · rw [e1, htake]
          have : (xs.map (Value.int .i64) ++ List.replicate m (Value.int .i64 0)).length = (n + m) * 1 := by simp [hxl]
          rw [← this]
          exact List.take_left
      · have holds : ∀ j u, (xs.map (Value.int .i64))[j]? = some u → W.cell? ((⟨g, 0, none⟩ : Addr).add j) = some u := World.ownsRow.cells hown (g := g) rfl
        have hr := run_zeros_grow (P := Try.prog) (w := W) 51 3 o.type 3 i Try.underlying51 Try.underlying3 hi hz0 hz1 hz2 ⟨g, 0, none⟩ n cap (xs.map (Value.int .i64)) (by simp [hxl]) holds m hm h63 (by omega)
        have hge := grownCap_ge W (n + m) cap 3
        have hcm2 : grownCap W (n + m) cap 3 ≤ maxLen := grownCap_le_maxLen W (n + m) cap 3 (by unfold maxLen; omega)
        refine ⟨_, _, hr, ⟨by simp [hxl], .inr ⟨W.heap.size, _, _, rfl, hB, heap_alloc_new W.drew _, hge, hcm2, ?_, ?_⟩⟩, ⟨rfl, rfl, rfl, by simp, fun k hk _ => heap_alloc_old W.drew _ hk⟩, .inr rfl⟩
        · simp only [Array.size_append, List.size_toArray, size_zeroCells, List.length_map, List.length_replicate, hxl, List.size_toArray, List.length_cons, List.length_nil]; omega
        · have : (xs.map (Value.int .i64) ++ List.replicate m (Value.int .i64 0)).length = (n + m) * 1 := by simp [hxl]
          simp only [Array.toList_append, List.append_assoc]
          rw [← List.append_assoc, e1, ← this]
          exact List.take_left
  obtain ⟨v', w', hr, g1, g2, g3⟩ := key
  unfold Oper.wp
  simp [execOp, ho, resolve, invoke, builtin, hs, hx, hr, Result.andThen]
  exact h v' w' g1 g2 g3
--PART2
theorem cell_keepsF {w w' : World} {g : Nat} {p : Addr} {v : Value} (h : w.cell? p = some v) (f : Fr g (g + 1) w w') (hp : g < p.block) : w'.cell? p = some v := by
  have hl := World.block_lt_of_cell? w _ h
  exact (f.cell hl (by omega)).trans h
/-- append of a whole slice of ints to an empty one that has just been made. -/
theorem append_own_ints {w0 : World} {ops : Array Oper} {rest : List Oper} {o : Oper} {a : Act} {Q : Exit → Act → World → Prop} {lo hi n c b off : Nat} {l : List Int}
    (h : Ints w0 lo hi (some ⟨b, off, none⟩) n l)
    (s u : Operand) (hgd : o.guard = none)
    (ho : o.op = .call { callee := .builtin .append, args := #[s, u], argTypes := #[51, 51] })
    (hs : a.eval s = .slice (some ⟨w0.heap.size, 0, none⟩) 0 0) (hx : a.eval u = .slice (some ⟨b, off, none⟩) n c)
    (k : ∀ v' w', Has w' w0.heap.size 3 1 v' n (l.map (Value.int .i64)) → Keeps w0 w' → wpList Try.prog ops Q rest (a.put o.dst v') w') : wpList Try.prog ops Q (o :: rest) a (w0.alloc (.cells #[] 3)) := by
  obtain ⟨i, hi, hz0, hz1, hz2⟩ := info_parts info_int
  have hn := h.le
  have hl := h.1
  refine wpList_append_own _ hgd s u 51 ho w0.heap.size 3 i _ 1 8 Try.underlying51 hi hz0 hz1 hz2 rfl (by omega) _ 0 [] hs (World.ownsRow_made w0 #[] 0 (Nat.le_refl _) (Nat.zero_le _) rfl) ⟨b, off, none⟩ n c (l.map (Value.int .i64)) hx (by simp [hl]) (fun j y hy => ?_) (fun y hy => ?_) (by unfold maxLen; omega) (by omega) (by simp) (fun v' w' h2 h3 _ => ?_)
  · rw [Addr.add_lit]
    obtain ⟨hj, rfl⟩ := List.getElem?_eq_some_iff.1 hy
    have hj' : j < n := by simpa [hl] using hj
    obtain ⟨b', off', e, _, _, hc⟩ := h.2.2.2 (by omega)
    obtain ⟨rfl, rfl⟩ : b = b' ∧ off = off' := by simpa using e
    have := hc j hj'
    refine cell_keeps (this.trans ?_) (keeps_alloc _ _)
    simp [List.getD, hl, hj']
  · obtain ⟨x, _, rfl⟩ := List.mem_map.1 hy
    rfl
  · refine k v' w' (by simpa using h2) (((Below.refl _ w0).alloc (Nat.le_refl _) _).grown h3 (by simp) (fun k hk => ?_))
    simp [Value.ownBlock] at hk
    omega
/-- A copy of one's own. -/
def OwnRes (w : World) (xs : List Int) (n : Nat) (e : Ending) (w' : World) : Prop := ∃ A C, e = .returned (.slice A n C) ∧ Has w' w.heap.size 3 1 (.slice A n C) n (xs.map (Value.int .i64)) ∧ Keeps w w'
set_option maxRecDepth 100000 in
set_option maxHeartbeats 1600000 in
theorem l1Own_any {lo hi n c b off : Nat} {xs : List Int} {w : World} (h : Ints w lo hi (some ⟨b, off, none⟩) n xs) :
    Calls Try.prog 135 #[.slice (some ⟨b, off, none⟩) n c] w (OwnRes w xs n) := by
  go_enter Try.func135, Try.ntmps135
  go_wp2_with (at_builtin; refine append_own_ints h _ _ rfl rfl rfl rfl ?_; intro v' w' hown hb)
  obtain ⟨A1, C1, e1⟩ := hown.form
  cases e1
  go_wp2
  go_ret
  exact ⟨A1, C1, rfl, hown, hb⟩
theorem l1Own_none {xs : List Int} {w : World} (h : xs = []) :
    Calls Try.prog 135 #[.slice none 0 0] w (OwnRes w xs 0) := by
  subst h
  obtain ⟨i, hi, hz0, hz1, hz2⟩ := info_parts info_int
  go_enter Try.func135, Try.ntmps135
  have hm := World.ownsRow_made (e := 3) (size := 1) w #[] 0 (Nat.le_refl _) (Nat.zero_le _) rfl
  go_wp2_with (at_builtin; refine wpList_append_own_none _ rfl _ _ 51 rfl w.heap.size 3 i 1 Try.underlying51 hi _ 0 [] rfl hm rfl ?_)
  go_wp2
  go_ret
  exact ⟨_, _, rfl, hm, keeps_alloc _ _⟩
/-- A geography. -/
def DrawsG (w : World) (g : Nat) (T : Int) (m M : Nat) (e : Ending) (w' : World) : Prop := ∃ (A : Option Addr) (N C : Nat) (xs : List Int), e = .returned (.agg #[.slice A N C]) ∧ Has w' w.heap.size 3 1 (.slice A N C) N (xs.map (Value.int .i64)) ∧ (m ≤ N ∧ N ≤ M) ∧ Cur w' g T ∧ Fr g (g + 1) w w'
def Apart' (v : Value) (g : Nat) : Prop := ∀ b, v.ownBlock = some b → b ≠ g
/-- A list of one's own behind a box. -/
structure GB (w : World) (B G : Nat) (v : Value) (n : Nat) (xs : List Int) : Prop where
  own : Has w B 3 1 v n (xs.map (Value.int .i64))
  box : B1 w G v
  ap : Apart' v G
theorem GB.fr {w w' : World} {B G n l u : Nat} {v : Value} {xs : List Int} (h : GB w B G v n xs) (f : Fr l u w w') (ho : u ≤ B) (hG : u ≤ G) : GB w' B G v n xs := ⟨Has.fr h.own f ho, h.box.fr f (by omega), h.ap⟩
theorem GB.keeps {w w' : World} {B G n : Nat} {v : Value} {xs : List Int} (h : GB w B G v n xs) (k : Keeps w w') : GB w' B G v n xs := ⟨Has.below h.own k, h.box.keeps k, h.ap⟩
/-- Behind an append and the store of its result into the box. -/
theorem GB.put {w w' : World} {B G n n' : Nat} {v v' : Value} {xs ys : List Int} (h : GB w B G v n xs) (p1 : Has w' B 3 1 v' n' (ys.map (Value.int .i64))) (p2 : w.grownBy w' v.ownBlock) (p3 : v'.ownBlock = v.ownBlock ∨ v'.ownBlock = some w.heap.size) : GB (w'.setCell ⟨G, 0, none⟩ v') B G v' n' ys := by
  have hl := h.box.lt
  have ha : Apart' v' G := fun b hb => by
    rcases p3 with e | e
    · rw [e] at hb; exact h.ap b hb
    · rw [e] at hb; injection hb with hb; omega
  have eG : w'.heap[G]? = w.heap[G]? := p2.block G hl (fun e => h.ap G e.symm rfl)
  have cG : w'.cell? ⟨G, 0, none⟩ = some v := (World.cell?_of_block (w := w) eG).trans h.box.1
  have fG : w'.frozen? ⟨G, 0, none⟩ = false := (World.frozen?_of_block (w := w) eG).trans h.box.2
  refine ⟨?_, ⟨World.cell?_setCell_same _ _ _ cG, by simpa using fG⟩, ha⟩
  refine World.ownsRow.kept p1 (row := some G) ⟨rfl, rfl, rfl, by simp [World.setCell], fun k hk hne => Below.heap_setCell _ _ _ _ (fun e => hne (by rw [e]))⟩ ?_
  cases hv : v'.ownBlock with
  | none => exact .inl rfl
  | some b => exact .inr (fun e => ha b hv (by injection e))
theorem GB.boxA {w w' : World} {B G n : Nat} {v : Value} {xs : List Int} (h : GB w B G v n xs) (p2 : w.grownBy w' v.ownBlock) : B1 w' G v := by
  have eG : w'.heap[G]? = w.heap[G]? := p2.block G h.box.lt (fun e => h.ap G e.symm rfl)
  exact ⟨(World.cell?_of_block (w := w) eG).trans h.box.1, (World.frozen?_of_block (w := w) eG).trans h.box.2⟩
theorem Has.low {w : World} {B B' e size n : Nat} {v : Value} {cs : List Value} (h : Has w B e size v n cs) (hB : B' ≤ B) : Has w B' e size v n cs := by
  obtain ⟨h1, h2⟩ := h
  refine ⟨h1, ?_⟩
  rcases h2 with h2 | ⟨g, cap, cur, hv, hg, rest⟩
  · exact .inl h2
  · exact .inr ⟨g, cap, cur, hv, Nat.le_trans hB hg, rest⟩
theorem GB.below {w w' : World} {B G n : Nat} {v v' : Value} {xs : List Int} (h : GB w B G v n xs) (hB : B ≤ w.heap.size) (p2 : w.grownBy w' v.ownBlock) (hG : B ≤ G) : Below B w (w'.setCell ⟨G, 0, none⟩ v') :=
  ((Below.refl B w).grown p2 hB (fun k hk => (h.own.lt k hk).1)).setCell (p := ⟨G, 0, none⟩) hG v'
/-- A call of pick in a region that draws its order. -/
theorem step_pick {W : World} {ops : Array Oper} {o : Oper} {a : Act} {K : Act → World → Prop} {Q : Exit → Act → World → Prop} {E : Prop} {g : Nat} {T n : Int}
    (hc : Cur W g T) (hT : T ≤ 999999999999999) (hn : n ≤ 65536) (hgd : o.guard = none)
    (hrun : (execOp a.eval o).run Try.prog W = .ok (.enter 85 #[.pointer (some ⟨g, 0, none⟩), .int .i64 n]) W)
    (h : ∀ x w', (0 ≤ x ∧ (x < n ∨ n ≤ 1 ∧ x = 0)) → Cur w' g (T + 2) → Fr g (g + 1) W w' → K (a.put o.dst (.int .i64 x)) w') :
    if Region.wanted o (yielded ops a.tmps) = true then Oper.wp Try.prog o a W K Q else E := by
  have hw : Region.wanted o (yielded ops a.tmps) = true := by simp [Region.wanted, hgd]
  rw [if_pos hw]
  unfold Oper.wp
  rw [hrun, Oper.upon_enter]
  refine (pick_any hc hT hn).mono fun e w' hh => ?_
  obtain ⟨x, rfl, hx, h1, h2⟩ := hh
  exact h x w' hx h1 h2
theorem step_among {W : World} {ops : Array Oper} {o : Oper} {a : Act} {K : Act → World → Prop} {Q : Exit → Act → World → Prop} {E : Prop} {g lo hi n c : Nat} {A : Option Addr} {xs : List Int} {T : Int}
    (hc : Cur W g T) (hT : T ≤ 999999999999999) (hx : Ints W lo hi A n xs) (hg : g < lo) (h0 : 0 < n) (hn : n ≤ 65536) (hgd : o.guard = none)
    (hrun : (execOp a.eval o).run Try.prog W = .ok (.enter 124 #[.pointer (some ⟨g, 0, none⟩), .slice A n c]) W)
    (h : ∀ x w', Cur w' g (T + 2) → Fr g (g + 1) W w' → K (a.put o.dst (.int .i64 x)) w') :
    if Region.wanted o (yielded ops a.tmps) = true then Oper.wp Try.prog o a W K Q else E := by
  have hw : Region.wanted o (yielded ops a.tmps) = true := by simp [Region.wanted, hgd]
  rw [if_pos hw]
  unfold Oper.wp
  rw [hrun, Oper.upon_enter]
  refine (among_any hc hT hx hg h0 hn).mono fun e w' hh => ?_
  obtain ⟨x, _, rfl, _, _, h1, h2⟩ := hh
  exact h x w' h1 h2
set_option maxRecDepth 100000 in
set_option maxHeartbeats 6400000 in
theorem geo_any {g : Nat} {T : Int} {w : World} (h : Cur w g T) (hT : T ≤ 800000000000000) :
    Calls Try.prog 236 #[.pointer (some ⟨g, 0, none⟩)] w (DrawsG w g (T + 30) 1 11) := by
  have lg := h.lt
  have f : Fr g (g + 1) w w := Fr.refl _ _ _
  have hc := h
  replace f := f.keeps (keeps_alloc w (.cells #[.slice none 0 0] 53))
  replace hc := hc.keeps (keeps_alloc w (.cells #[.slice none 0 0] 53))
  have b2 : B1 (w.alloc (.cells #[.slice none 0 0] 53)) w.heap.size (.slice none 0 0) := B1.new' rfl
  replace f := f.keeps (keeps_alloc (w.alloc (.cells #[.slice none 0 0] 53)) (.cells #[.int .i64 (-1), .int .i64 0, .int .i64 0] 3))
  replace hc := hc.keeps (keeps_alloc (w.alloc (.cells #[.slice none 0 0] 53)) (.cells #[.int .i64 (-1), .int .i64 0, .int .i64 0] 3))
  replace b2 := b2.keeps (keeps_alloc (w.alloc (.cells #[.slice none 0 0] 53)) (.cells #[.int .i64 (-1), .int .i64 0, .int .i64 0] 3))
  have L0 : Ints ((w.alloc (.cells #[.slice none 0 0] 53)).alloc (.cells #[.int .i64 (-1), .int .i64 0, .int .i64 0] 3)) (w.heap.size + 1) (w.heap.size + 1 + 1) (some ⟨w.heap.size + 1, 0, none⟩) 3 [-1, 0, 0] := by
    have q := lit_ints (w.alloc (.cells #[.slice none 0 0] 53)) [-1, 0, 0] (by decide)
    rw [show (w.alloc (.cells #[.slice none 0 0] 53)).heap.size = w.heap.size + 1 by simp] at q
    exact q
  replace f := f.keeps (keeps_alloc ((w.alloc (.cells #[.slice none 0 0] 53)).alloc (.cells #[.int .i64 (-1), .int .i64 0, .int .i64 0] 3)) (.cells #[.int .i64 (-1), .int .i64 0, .int .i64 0, .int .i64 1, .int .i64 1, .int .i64 2, .int .i64 2] 3))
  replace hc := hc.keeps (keeps_alloc ((w.alloc (.cells #[.slice none 0 0] 53)).alloc (.cells #[.int .i64 (-1), .int .i64 0, .int .i64 0] 3)) (.cells #[.int .i64 (-1), .int .i64 0, .int .i64 0, .int .i64 1, .int .i64 1, .int .i64 2, .int .i64 2] 3))
  replace b2 := b2.keeps (keeps_alloc ((w.alloc (.cells #[.slice none 0 0] 53)).alloc (.cells #[.int .i64 (-1), .int .i64 0, .int .i64 0] 3)) (.cells #[.int .i64 (-1), .int .i64 0, .int .i64 0, .int .i64 1, .int .i64 1, .int .i64 2, .int .i64 2] 3))
  replace L0 := L0.keeps (keeps_alloc ((w.alloc (.cells #[.slice none 0 0] 53)).alloc (.cells #[.int .i64 (-1), .int .i64 0, .int .i64 0] 3)) (.cells #[.int .i64 (-1), .int .i64 0, .int .i64 0, .int .i64 1, .int .i64 1, .int .i64 2, .int .i64 2] 3))
  have L1 : Ints (((w.alloc (.cells #[.slice none 0 0] 53)).alloc (.cells #[.int .i64 (-1), .int .i64 0, .int .i64 0] 3)).alloc (.cells #[.int .i64 (-1), .int .i64 0, .int .i64 0, .int .i64 1, .int .i64 1, .int .i64 2, .int .i64 2] 3)) (w.heap.size + 1 + 1) (w.heap.size + 1 + 1 + 1) (some ⟨w.heap.size + 1 + 1, 0, none⟩) 7 [-1, 0, 0, 1, 1, 2, 2] := by
    have q := lit_ints ((w.alloc (.cells #[.slice none 0 0] 53)).alloc (.cells #[.int .i64 (-1), .int .i64 0, .int .i64 0] 3)) [-1, 0, 0, 1, 1, 2, 2] (by decide)
    rw [show ((w.alloc (.cells #[.slice none 0 0] 53)).alloc (.cells #[.int .i64 (-1), .int .i64 0, .int .i64 0] 3)).heap.size = w.heap.size + 1 + 1 by simp] at q
    exact q
  replace f := f.keeps (keeps_alloc (((w.alloc (.cells #[.slice none 0 0] 53)).alloc (.cells #[.int .i64 (-1), .int .i64 0, .int .i64 0] 3)).alloc (.cells #[.int .i64 (-1), .int .i64 0, .int .i64 0, .int .i64 1, .int .i64 1, .int .i64 2, .int .i64 2] 3)) (.cells #[.int .i64 (-1), .int .i64 0, .int .i64 0, .int .i64 0, .int .i64 1, .int .i64 1, .int .i64 2, .int .i64 3] 3))
  replace hc := hc.keeps (keeps_alloc (((w.alloc (.cells #[.slice none 0 0] 53)).alloc (.cells #[.int .i64 (-1), .int .i64 0, .int .i64 0] 3)).alloc (.cells #[.int .i64 (-1), .int .i64 0, .int .i64 0, .int .i64 1, .int .i64 1, .int .i64 2, .int .i64 2] 3)) (.cells #[.int .i64 (-1), .int .i64 0, .int .i64 0, .int .i64 0, .int .i64 1, .int .i64 1, .int .i64 2, .int .i64 3] 3))
  replace b2 := b2.keeps (keeps_alloc (((w.alloc (.cells #[.slice none 0 0] 53)).alloc (.cells #[.int .i64 (-1), .int .i64 0, .int .i64 0] 3)).alloc (.cells #[.int .i64 (-1), .int .i64 0, .int .i64 0, .int .i64 1, .int .i64 1, .int .i64 2, .int .i64 2] 3)) (.cells #[.int .i64 (-1), .int .i64 0, .int .i64 0, .int .i64 0, .int .i64 1, .int .i64 1, .int .i64 2, .int .i64 3] 3))
  replace L0 := L0.keeps (keeps_alloc (((w.alloc (.cells #[.slice none 0 0] 53)).alloc (.cells #[.int .i64 (-1), .int .i64 0, .int .i64 0] 3)).alloc (.cells #[.int .i64 (-1), .int .i64 0, .int .i64 0, .int .i64 1, .int .i64 1, .int .i64 2, .int .i64 2] 3)) (.cells #[.int .i64 (-1), .int .i64 0, .int .i64 0, .int .i64 0, .int .i64 1, .int .i64 1, .int .i64 2, .int .i64 3] 3))
  replace L1 := L1.keeps (keeps_alloc (((w.alloc (.cells #[.slice none 0 0] 53)).alloc (.cells #[.int .i64 (-1), .int .i64 0, .int .i64 0] 3)).alloc (.cells #[.int .i64 (-1), .int .i64 0, .int .i64 0, .int .i64 1, .int .i64 1, .int .i64 2, .int .i64 2] 3)) (.cells #[.int .i64 (-1), .int .i64 0, .int .i64 0, .int .i64 0, .int .i64 1, .int .i64 1, .int .i64 2, .int .i64 3] 3))
  have L2 : Ints ((((w.alloc (.cells #[.slice none 0 0] 53)).alloc (.cells #[.int .i64 (-1), .int .i64 0, .int .i64 0] 3)).alloc (.cells #[.int .i64 (-1), .int .i64 0, .int .i64 0, .int .i64 1, .int .i64 1, .int .i64 2, .int .i64 2] 3)).alloc (.cells #[.int .i64 (-1), .int .i64 0, .int .i64 0, .int .i64 0, .int .i64 1, .int .i64 1, .int .i64 2, .int .i64 3] 3)) (w.heap.size + 1 + 1 + 1) (w.heap.size + 1 + 1 + 1 + 1) (some ⟨w.heap.size + 1 + 1 + 1, 0, none⟩) 8 [-1, 0, 0, 0, 1, 1, 2, 3] := by
    have q := lit_ints (((w.alloc (.cells #[.slice none 0 0] 53)).alloc (.cells #[.int .i64 (-1), .int .i64 0, .int .i64 0] 3)).alloc (.cells #[.int .i64 (-1), .int .i64 0, .int .i64 0, .int .i64 1, .int .i64 1, .int .i64 2, .int .i64 2] 3)) [-1, 0, 0, 0, 1, 1, 2, 3] (by decide)
    rw [show (((w.alloc (.cells #[.slice none 0 0] 53)).alloc (.cells #[.int .i64 (-1), .int .i64 0, .int .i64 0] 3)).alloc (.cells #[.int .i64 (-1), .int .i64 0, .int .i64 0, .int .i64 1, .int .i64 1, .int .i64 2, .int .i64 2] 3)).heap.size = w.heap.size + 1 + 1 + 1 by simp] at q
    exact q
  replace f := f.keeps (keeps_alloc ((((w.alloc (.cells #[.slice none 0 0] 53)).alloc (.cells #[.int .i64 (-1), .int .i64 0, .int .i64 0] 3)).alloc (.cells #[.int .i64 (-1), .int .i64 0, .int .i64 0, .int .i64 1, .int .i64 1, .int .i64 2, .int .i64 2] 3)).alloc (.cells #[.int .i64 (-1), .int .i64 0, .int .i64 0, .int .i64 0, .int .i64 1, .int .i64 1, .int .i64 2, .int .i64 3] 3)) (.cells #[.int .i64 (-1), .int .i64 0, .int .i64 0, .int .i64 1, .int .i64 1] 3))
  replace hc := hc.keeps (keeps_alloc ((((w.alloc (.cells #[.slice none 0 0] 53)).alloc (.cells #[.int .i64 (-1), .int .i64 0, .int .i64 0] 3)).alloc (.cells #[.int .i64 (-1), .int .i64 0, .int .i64 0, .int .i64 1, .int .i64 1, .int .i64 2, .int .i64 2] 3)).alloc (.cells #[.int .i64 (-1), .int .i64 0, .int .i64 0, .int .i64 0, .int .i64 1, .int .i64 1, .int .i64 2, .int .i64 3] 3)) (.cells #[.int .i64 (-1), .int .i64 0, .int .i64 0, .int .i64 1, .int .i64 1] 3))
  replace b2 := b2.keeps (keeps_alloc ((((w.alloc (.cells #[.slice none 0 0] 53)).alloc (.cells #[.int .i64 (-1), .int .i64 0, .int .i64 0] 3)).alloc (.cells #[.int .i64 (-1), .int .i64 0, .int .i64 0, .int .i64 1, .int .i64 1, .int .i64 2, .int .i64 2] 3)).alloc (.cells #[.int .i64 (-1), .int .i64 0, .int .i64 0, .int .i64 0, .int .i64 1, .int .i64 1, .int .i64 2, .int .i64 3] 3)) (.cells #[.int .i64 (-1), .int .i64 0, .int .i64 0, .int .i64 1, .int .i64 1] 3))
  replace L0 := L0.keeps (keeps_alloc ((((w.alloc (.cells #[.slice none 0 0] 53)).alloc (.cells #[.int .i64 (-1), .int .i64 0, .int .i64 0] 3)).alloc (.cells #[.int .i64 (-1), .int .i64 0, .int .i64 0, .int .i64 1, .int .i64 1, .int .i64 2, .int .i64 2] 3)).alloc (.cells #[.int .i64 (-1), .int .i64 0, .int .i64 0, .int .i64 0, .int .i64 1, .int .i64 1, .int .i64 2, .int .i64 3] 3)) (.cells #[.int .i64 (-1), .int .i64 0, .int .i64 0, .int .i64 1, .int .i64 1] 3))
  replace L1 := L1.keeps (keeps_alloc ((((w.alloc (.cells #[.slice none 0 0] 53)).alloc (.cells #[.int .i64 (-1), .int .i64 0, .int .i64 0] 3)).alloc (.cells #[.int .i64 (-1), .int .i64 0, .int .i64 0, .int .i64 1, .int .i64 1, .int .i64 2, .int .i64 2] 3)).alloc (.cells #[.int .i64 (-1), .int .i64 0, .int .i64 0, .int .i64 0, .int .i64 1, .int .i64 1, .int .i64 2, .int .i64 3] 3)) (.cells #[.int .i64 (-1), .int .i64 0, .int .i64 0, .int .i64 1, .int .i64 1] 3))
  replace L2 := L2.keeps (keeps_alloc ((((w.alloc (.cells #[.slice none 0 0] 53)).alloc (.cells #[.int .i64 (-1), .int .i64 0, .int .i64 0] 3)).alloc (.cells #[.int .i64 (-1), .int .i64 0, .int .i64 0, .int .i64 1, .int .i64 1, .int .i64 2, .int .i64 2] 3)).alloc (.cells #[.int .i64 (-1), .int .i64 0, .int .i64 0, .int .i64 0, .int .i64 1, .int .i64 1, .int .i64 2, .int .i64 3] 3)) (.cells #[.int .i64 (-1), .int .i64 0, .int .i64 0, .int .i64 1, .int .i64 1] 3))
  have L3 : Ints (((((w.alloc (.cells #[.slice none 0 0] 53)).alloc (.cells #[.int .i64 (-1), .int .i64 0, .int .i64 0] 3)).alloc (.cells #[.int .i64 (-1), .int .i64 0, .int .i64 0, .int .i64 1, .int .i64 1, .int .i64 2, .int .i64 2] 3)).alloc (.cells #[.int .i64 (-1), .int .i64 0, .int .i64 0, .int .i64 0, .int .i64 1, .int .i64 1, .int .i64 2, .int .i64 3] 3)).alloc (.cells #[.int .i64 (-1), .int .i64 0, .int .i64 0, .int .i64 1, .int .i64 1] 3)) (w.heap.size + 1 + 1 + 1 + 1) (w.heap.size + 1 + 1 + 1 + 1 + 1) (some ⟨w.heap.size + 1 + 1 + 1 + 1, 0, none⟩) 5 [-1, 0, 0, 1, 1] := by
    have q := lit_ints ((((w.alloc (.cells #[.slice none 0 0] 53)).alloc (.cells #[.int .i64 (-1), .int .i64 0, .int .i64 0] 3)).alloc (.cells #[.int .i64 (-1), .int .i64 0, .int .i64 0, .int .i64 1, .int .i64 1, .int .i64 2, .int .i64 2] 3)).alloc (.cells #[.int .i64 (-1), .int .i64 0, .int .i64 0, .int .i64 0, .int .i64 1, .int .i64 1, .int .i64 2, .int .i64 3] 3)) [-1, 0, 0, 1, 1] (by decide)
    rw [show ((((w.alloc (.cells #[.slice none 0 0] 53)).alloc (.cells #[.int .i64 (-1), .int .i64 0, .int .i64 0] 3)).alloc (.cells #[.int .i64 (-1), .int .i64 0, .int .i64 0, .int .i64 1, .int .i64 1, .int .i64 2, .int .i64 2] 3)).alloc (.cells #[.int .i64 (-1), .int .i64 0, .int .i64 0, .int .i64 0, .int .i64 1, .int .i64 1, .int .i64 2, .int .i64 3] 3)).heap.size = w.heap.size + 1 + 1 + 1 + 1 by simp] at q
    exact q
  replace f := f.keeps (keeps_alloc (((((w.alloc (.cells #[.slice none 0 0] 53)).alloc (.cells #[.int .i64 (-1), .int .i64 0, .int .i64 0] 3)).alloc (.cells #[.int .i64 (-1), .int .i64 0, .int .i64 0, .int .i64 1, .int .i64 1, .int .i64 2, .int .i64 2] 3)).alloc (.cells #[.int .i64 (-1), .int .i64 0, .int .i64 0, .int .i64 0, .int .i64 1, .int .i64 1, .int .i64 2, .int .i64 3] 3)).alloc (.cells #[.int .i64 (-1), .int .i64 0, .int .i64 0, .int .i64 1, .int .i64 1] 3)) (.cells #[.int .i64 (-1)] 3))
  replace hc := hc.keeps (keeps_alloc (((((w.alloc (.cells #[.slice none 0 0] 53)).alloc (.cells #[.int .i64 (-1), .int .i64 0, .int .i64 0] 3)).alloc (.cells #[.int .i64 (-1), .int .i64 0, .int .i64 0, .int .i64 1, .int .i64 1, .int .i64 2, .int .i64 2] 3)).alloc (.cells #[.int .i64 (-1), .int .i64 0, .int .i64 0, .int .i64 0, .int .i64 1, .int .i64 1, .int .i64 2, .int .i64 3] 3)).alloc (.cells #[.int .i64 (-1), .int .i64 0, .int .i64 0, .int .i64 1, .int .i64 1] 3)) (.cells #[.int .i64 (-1)] 3))
  replace b2 := b2.keeps (keeps_alloc (((((w.alloc (.cells #[.slice none 0 0] 53)).alloc (.cells #[.int .i64 (-1), .int .i64 0, .int .i64 0] 3)).alloc (.cells #[.int .i64 (-1), .int .i64 0, .int .i64 0, .int .i64 1, .int .i64 1, .int .i64 2, .int .i64 2] 3)).alloc (.cells #[.int .i64 (-1), .int .i64 0, .int .i64 0, .int .i64 0, .int .i64 1, .int .i64 1, .int .i64 2, .int .i64 3] 3)).alloc (.cells #[.int .i64 (-1), .int .i64 0, .int .i64 0, .int .i64 1, .int .i64 1] 3)) (.cells #[.int .i64 (-1)] 3))
  replace L0 := L0.keeps (keeps_alloc (((((w.alloc (.cells #[.slice none 0 0] 53)).alloc (.cells #[.int .i64 (-1), .int .i64 0, .int .i64 0] 3)).alloc (.cells #[.int .i64 (-1), .int .i64 0, .int .i64 0, .int .i64 1, .int .i64 1, .int .i64 2, .int .i64 2] 3)).alloc (.cells #[.int .i64 (-1), .int .i64 0, .int .i64 0, .int .i64 0, .int .i64 1, .int .i64 1, .int .i64 2, .int .i64 3] 3)).alloc (.cells #[.int .i64 (-1), .int .i64 0, .int .i64 0, .int .i64 1, .int .i64 1] 3)) (.cells #[.int .i64 (-1)] 3))
  replace L1 := L1.keeps (keeps_alloc (((((w.alloc (.cells #[.slice none 0 0] 53)).alloc (.cells #[.int .i64 (-1), .int .i64 0, .int .i64 0] 3)).alloc (.cells #[.int .i64 (-1), .int .i64 0, .int .i64 0, .int .i64 1, .int .i64 1, .int .i64 2, .int .i64 2] 3)).alloc (.cells #[.int .i64 (-1), .int .i64 0, .int .i64 0, .int .i64 0, .int .i64 1, .int .i64 1, .int .i64 2, .int .i64 3] 3)).alloc (.cells #[.int .i64 (-1), .int .i64 0, .int .i64 0, .int .i64 1, .int .i64 1] 3)) (.cells #[.int .i64 (-1)] 3))
  replace L2 := L2.keeps (keeps_alloc (((((w.alloc (.cells #[.slice none 0 0] 53)).alloc (.cells #[.int .i64 (-1), .int .i64 0, .int .i64 0] 3)).alloc (.cells #[.int .i64 (-1), .int .i64 0, .int .i64 0, .int .i64 1, .int .i64 1, .int .i64 2, .int .i64 2] 3)).alloc (.cells #[.int .i64 (-1), .int .i64 0, .int .i64 0, .int .i64 0, .int .i64 1, .int .i64 1, .int .i64 2, .int .i64 3] 3)).alloc (.cells #[.int .i64 (-1), .int .i64 0, .int .i64 0, .int .i64 1, .int .i64 1] 3)) (.cells #[.int .i64 (-1)] 3))
  replace L3 := L3.keeps (keeps_alloc (((((w.alloc (.cells #[.slice none 0 0] 53)).alloc (.cells #[.int .i64 (-1), .int .i64 0, .int .i64 0] 3)).alloc (.cells #[.int .i64 (-1), .int .i64 0, .int .i64 0, .int .i64 1, .int .i64 1, .int .i64 2, .int .i64 2] 3)).alloc (.cells #[.int .i64 (-1), .int .i64 0, .int .i64 0, .int .i64 0, .int .i64 1, .int .i64 1, .int .i64 2, .int .i64 3] 3)).alloc (.cells #[.int .i64 (-1), .int .i64 0, .int .i64 0, .int .i64 1, .int .i64 1] 3)) (.cells #[.int .i64 (-1)] 3))
  have L4 : Ints ((((((w.alloc (.cells #[.slice none 0 0] 53)).alloc (.cells #[.int .i64 (-1), .int .i64 0, .int .i64 0] 3)).alloc (.cells #[.int .i64 (-1), .int .i64 0, .int .i64 0, .int .i64 1, .int .i64 1, .int .i64 2, .int .i64 2] 3)).alloc (.cells #[.int .i64 (-1), .int .i64 0, .int .i64 0, .int .i64 0, .int .i64 1, .int .i64 1, .int .i64 2, .int .i64 3] 3)).alloc (.cells #[.int .i64 (-1), .int .i64 0, .int .i64 0, .int .i64 1, .int .i64 1] 3)).alloc (.cells #[.int .i64 (-1)] 3)) (w.heap.size + 1 + 1 + 1 + 1 + 1) (w.heap.size + 1 + 1 + 1 + 1 + 1 + 1) (some ⟨w.heap.size + 1 + 1 + 1 + 1 + 1, 0, none⟩) 1 [-1] := by
    have q := lit_ints (((((w.alloc (.cells #[.slice none 0 0] 53)).alloc (.cells #[.int .i64 (-1), .int .i64 0, .int .i64 0] 3)).alloc (.cells #[.int .i64 (-1), .int .i64 0, .int .i64 0, .int .i64 1, .int .i64 1, .int .i64 2, .int .i64 2] 3)).alloc (.cells #[.int .i64 (-1), .int .i64 0, .int .i64 0, .int .i64 0, .int .i64 1, .int .i64 1, .int .i64 2, .int .i64 3] 3)).alloc (.cells #[.int .i64 (-1), .int .i64 0, .int .i64 0, .int .i64 1, .int .i64 1] 3)) [-1] (by decide)
    rw [show (((((w.alloc (.cells #[.slice none 0 0] 53)).alloc (.cells #[.int .i64 (-1), .int .i64 0, .int .i64 0] 3)).alloc (.cells #[.int .i64 (-1), .int .i64 0, .int .i64 0, .int .i64 1, .int .i64 1, .int .i64 2, .int .i64 2] 3)).alloc (.cells #[.int .i64 (-1), .int .i64 0, .int .i64 0, .int .i64 0, .int .i64 1, .int .i64 1, .int .i64 2, .int .i64 3] 3)).alloc (.cells #[.int .i64 (-1), .int .i64 0, .int .i64 0, .int .i64 1, .int .i64 1] 3)).heap.size = w.heap.size + 1 + 1 + 1 + 1 + 1 by simp] at q
    exact q
  replace f := f.keeps (keeps_alloc ((((((w.alloc (.cells #[.slice none 0 0] 53)).alloc (.cells #[.int .i64 (-1), .int .i64 0, .int .i64 0] 3)).alloc (.cells #[.int .i64 (-1), .int .i64 0, .int .i64 0, .int .i64 1, .int .i64 1, .int .i64 2, .int .i64 2] 3)).alloc (.cells #[.int .i64 (-1), .int .i64 0, .int .i64 0, .int .i64 0, .int .i64 1, .int .i64 1, .int .i64 2, .int .i64 3] 3)).alloc (.cells #[.int .i64 (-1), .int .i64 0, .int .i64 0, .int .i64 1, .int .i64 1] 3)).alloc (.cells #[.int .i64 (-1)] 3)) (.cells #[.int .i64 (-1), .int .i64 0, .int .i64 1, .int .i64 2] 3))
  replace hc := hc.keeps (keeps_alloc ((((((w.alloc (.cells #[.slice none 0 0] 53)).alloc (.cells #[.int .i64 (-1), .int .i64 0, .int .i64 0] 3)).alloc (.cells #[.int .i64 (-1), .int .i64 0, .int .i64 0, .int .i64 1, .int .i64 1, .int .i64 2, .int .i64 2] 3)).alloc (.cells #[.int .i64 (-1), .int .i64 0, .int .i64 0, .int .i64 0, .int .i64 1, .int .i64 1, .int .i64 2, .int .i64 3] 3)).alloc (.cells #[.int .i64 (-1), .int .i64 0, .int .i64 0, .int .i64 1, .int .i64 1] 3)).alloc (.cells #[.int .i64 (-1)] 3)) (.cells #[.int .i64 (-1), .int .i64 0, .int .i64 1, .int .i64 2] 3))
  replace b2 := b2.keeps (keeps_alloc ((((((w.alloc (.cells #[.slice none 0 0] 53)).alloc (.cells #[.int .i64 (-1), .int .i64 0, .int .i64 0] 3)).alloc (.cells #[.int .i64 (-1), .int .i64 0, .int .i64 0, .int .i64 1, .int .i64 1, .int .i64 2, .int .i64 2] 3)).alloc (.cells #[.int .i64 (-1), .int .i64 0, .int .i64 0, .int .i64 0, .int .i64 1, .int .i64 1, .int .i64 2, .int .i64 3] 3)).alloc (.cells #[.int .i64 (-1), .int .i64 0, .int .i64 0, .int .i64 1, .int .i64 1] 3)).alloc (.cells #[.int .i64 (-1)] 3)) (.cells #[.int .i64 (-1), .int .i64 0, .int .i64 1, .int .i64 2] 3))
  replace L0 := L0.keeps (keeps_alloc ((((((w.alloc (.cells #[.slice none 0 0] 53)).alloc (.cells #[.int .i64 (-1), .int .i64 0, .int .i64 0] 3)).alloc (.cells #[.int .i64 (-1), .int .i64 0, .int .i64 0, .int .i64 1, .int .i64 1, .int .i64 2, .int .i64 2] 3)).alloc (.cells #[.int .i64 (-1), .int .i64 0, .int .i64 0, .int .i64 0, .int .i64 1, .int .i64 1, .int .i64 2, .int .i64 3] 3)).alloc (.cells #[.int .i64 (-1), .int .i64 0, .int .i64 0, .int .i64 1, .int .i64 1] 3)).alloc (.cells #[.int .i64 (-1)] 3)) (.cells #[.int .i64 (-1), .int .i64 0, .int .i64 1, .int .i64 2] 3))
  replace L1 := L1.keeps (keeps_alloc ((((((w.alloc (.cells #[.slice none 0 0] 53)).alloc (.cells #[.int .i64 (-1), .int .i64 0, .int .i64 0] 3)).alloc (.cells #[.int .i64 (-1), .int .i64 0, .int .i64 0, .int .i64 1, .int .i64 1, .int .i64 2, .int .i64 2] 3)).alloc (.cells #[.int .i64 (-1), .int .i64 0, .int .i64 0, .int .i64 0, .int .i64 1, .int .i64 1, .int .i64 2, .int .i64 3] 3)).alloc (.cells #[.int .i64 (-1), .int .i64 0, .int .i64 0, .int .i64 1, .int .i64 1] 3)).alloc (.cells #[.int .i64 (-1)] 3)) (.cells #[.int .i64 (-1), .int .i64 0, .int .i64 1, .int .i64 2] 3))
  replace L2 := L2.keeps (keeps_alloc ((((((w.alloc (.cells #[.slice none 0 0] 53)).alloc (.cells #[.int .i64 (-1), .int .i64 0, .int .i64 0] 3)).alloc (.cells #[.int .i64 (-1), .int .i64 0, .int .i64 0, .int .i64 1, .int .i64 1, .int .i64 2, .int .i64 2] 3)).alloc (.cells #[.int .i64 (-1), .int .i64 0, .int .i64 0, .int .i64 0, .int .i64 1, .int .i64 1, .int .i64 2, .int .i64 3] 3)).alloc (.cells #[.int .i64 (-1), .int .i64 0, .int .i64 0, .int .i64 1, .int .i64 1] 3)).alloc (.cells #[.int .i64 (-1)] 3)) (.cells #[.int .i64 (-1), .int .i64 0, .int .i64 1, .int .i64 2] 3))
  replace L3 := L3.keeps (keeps_alloc ((((((w.alloc (.cells #[.slice none 0 0] 53)).alloc (.cells #[.int .i64 (-1), .int .i64 0, .int .i64 0] 3)).alloc (.cells #[.int .i64 (-1), .int .i64 0, .int .i64 0, .int .i64 1, .int .i64 1, .int .i64 2, .int .i64 2] 3)).alloc (.cells #[.int .i64 (-1), .int .i64 0, .int .i64 0, .int .i64 0, .int .i64 1, .int .i64 1, .int .i64 2, .int .i64 3] 3)).alloc (.cells #[.int .i64 (-1), .int .i64 0, .int .i64 0, .int .i64 1, .int .i64 1] 3)).alloc (.cells #[.int .i64 (-1)] 3)) (.cells #[.int .i64 (-1), .int .i64 0, .int .i64 1, .int .i64 2] 3))
  replace L4 := L4.keeps (keeps_alloc ((((((w.alloc (.cells #[.slice none 0 0] 53)).alloc (.cells #[.int .i64 (-1), .int .i64 0, .int .i64 0] 3)).alloc (.cells #[.int .i64 (-1), .int .i64 0, .int .i64 0, .int .i64 1, .int .i64 1, .int .i64 2, .int .i64 2] 3)).alloc (.cells #[.int .i64 (-1), .int .i64 0, .int .i64 0, .int .i64 0, .int .i64 1, .int .i64 1, .int .i64 2, .int .i64 3] 3)).alloc (.cells #[.int .i64 (-1), .int .i64 0, .int .i64 0, .int .i64 1, .int .i64 1] 3)).alloc (.cells #[.int .i64 (-1)] 3)) (.cells #[.int .i64 (-1), .int .i64 0, .int .i64 1, .int .i64 2] 3))
  have L5 : Ints (((((((w.alloc (.cells #[.slice none 0 0] 53)).alloc (.cells #[.int .i64 (-1), .int .i64 0, .int .i64 0] 3)).alloc (.cells #[.int .i64 (-1), .int .i64 0, .int .i64 0, .int .i64 1, .int .i64 1, .int .i64 2, .int .i64 2] 3)).alloc (.cells #[.int .i64 (-1), .int .i64 0, .int .i64 0, .int .i64 0, .int .i64 1, .int .i64 1, .int .i64 2, .int .i64 3] 3)).alloc (.cells #[.int .i64 (-1), .int .i64 0, .int .i64 0, .int .i64 1, .int .i64 1] 3)).alloc (.cells #[.int .i64 (-1)] 3)).alloc (.cells #[.int .i64 (-1), .int .i64 0, .int .i64 1, .int .i64 2] 3)) (w.heap.size + 1 + 1 + 1 + 1 + 1 + 1) (w.heap.size + 1 + 1 + 1 + 1 + 1 + 1 + 1) (some ⟨w.heap.size + 1 + 1 + 1 + 1 + 1 + 1, 0, none⟩) 4 [-1, 0, 1, 2] := by
    have q := lit_ints ((((((w.alloc (.cells #[.slice none 0 0] 53)).alloc (.cells #[.int .i64 (-1), .int .i64 0, .int .i64 0] 3)).alloc (.cells #[.int .i64 (-1), .int .i64 0, .int .i64 0, .int .i64 1, .int .i64 1, .int .i64 2, .int .i64 2] 3)).alloc (.cells #[.int .i64 (-1), .int .i64 0, .int .i64 0, .int .i64 0, .int .i64 1, .int .i64 1, .int .i64 2, .int .i64 3] 3)).alloc (.cells #[.int .i64 (-1), .int .i64 0, .int .i64 0, .int .i64 1, .int .i64 1] 3)).alloc (.cells #[.int .i64 (-1)] 3)) [-1, 0, 1, 2] (by decide)
    rw [show ((((((w.alloc (.cells #[.slice none 0 0] 53)).alloc (.cells #[.int .i64 (-1), .int .i64 0, .int .i64 0] 3)).alloc (.cells #[.int .i64 (-1), .int .i64 0, .int .i64 0, .int .i64 1, .int .i64 1, .int .i64 2, .int .i64 2] 3)).alloc (.cells #[.int .i64 (-1), .int .i64 0, .int .i64 0, .int .i64 0, .int .i64 1, .int .i64 1, .int .i64 2, .int .i64 3] 3)).alloc (.cells #[.int .i64 (-1), .int .i64 0, .int .i64 0, .int .i64 1, .int .i64 1] 3)).alloc (.cells #[.int .i64 (-1)] 3)).heap.size = w.heap.size + 1 + 1 + 1 + 1 + 1 + 1 by simp] at q
    exact q
  replace f := f.keeps (keeps_alloc (((((((w.alloc (.cells #[.slice none 0 0] 53)).alloc (.cells #[.int .i64 (-1), .int .i64 0, .int .i64 0] 3)).alloc (.cells #[.int .i64 (-1), .int .i64 0, .int .i64 0, .int .i64 1, .int .i64 1, .int .i64 2, .int .i64 2] 3)).alloc (.cells #[.int .i64 (-1), .int .i64 0, .int .i64 0, .int .i64 0, .int .i64 1, .int .i64 1, .int .i64 2, .int .i64 3] 3)).alloc (.cells #[.int .i64 (-1), .int .i64 0, .int .i64 0, .int .i64 1, .int .i64 1] 3)).alloc (.cells #[.int .i64 (-1)] 3)).alloc (.cells #[.int .i64 (-1), .int .i64 0, .int .i64 1, .int .i64 2] 3)) (.cells #[.slice (some ⟨w.heap.size + 1, 0, none⟩) 3 3, .slice (some ⟨w.heap.size + 1 + 1, 0, none⟩) 7 7, .slice (some ⟨w.heap.size + 1 + 1 + 1, 0, none⟩) 8 8, .slice (some ⟨w.heap.size + 1 + 1 + 1 + 1, 0, none⟩) 5 5, .slice (some ⟨w.heap.size + 1 + 1 + 1 + 1 + 1, 0, none⟩) 1 1, .slice (some ⟨w.heap.size + 1 + 1 + 1 + 1 + 1 + 1, 0, none⟩) 4 4] 51))
  replace hc := hc.keeps (keeps_alloc (((((((w.alloc (.cells #[.slice none 0 0] 53)).alloc (.cells #[.int .i64 (-1), .int .i64 0, .int .i64 0] 3)).alloc (.cells #[.int .i64 (-1), .int .i64 0, .int .i64 0, .int .i64 1, .int .i64 1, .int .i64 2, .int .i64 2] 3)).alloc (.cells #[.int .i64 (-1), .int .i64 0, .int .i64 0, .int .i64 0, .int .i64 1, .int .i64 1, .int .i64 2, .int .i64 3] 3)).alloc (.cells #[.int .i64 (-1), .int .i64 0, .int .i64 0, .int .i64 1, .int .i64 1] 3)).alloc (.cells #[.int .i64 (-1)] 3)).alloc (.cells #[.int .i64 (-1), .int .i64 0, .int .i64 1, .int .i64 2] 3)) (.cells #[.slice (some ⟨w.heap.size + 1, 0, none⟩) 3 3, .slice (some ⟨w.heap.size + 1 + 1, 0, none⟩) 7 7, .slice (some ⟨w.heap.size + 1 + 1 + 1, 0, none⟩) 8 8, .slice (some ⟨w.heap.size + 1 + 1 + 1 + 1, 0, none⟩) 5 5, .slice (some ⟨w.heap.size + 1 + 1 + 1 + 1 + 1, 0, none⟩) 1 1, .slice (some ⟨w.heap.size + 1 + 1 + 1 + 1 + 1 + 1, 0, none⟩) 4 4] 51))
  replace b2 := b2.keeps (keeps_alloc (((((((w.alloc (.cells #[.slice none 0 0] 53)).alloc (.cells #[.int .i64 (-1), .int .i64 0, .int .i64 0] 3)).alloc (.cells #[.int .i64 (-1), .int .i64 0, .int .i64 0, .int .i64 1, .int .i64 1, .int .i64 2, .int .i64 2] 3)).alloc (.cells #[.int .i64 (-1), .int .i64 0, .int .i64 0, .int .i64 0, .int .i64 1, .int .i64 1, .int .i64 2, .int .i64 3] 3)).alloc (.cells #[.int .i64 (-1), .int .i64 0, .int .i64 0, .int .i64 1, .int .i64 1] 3)).alloc (.cells #[.int .i64 (-1)] 3)).alloc (.cells #[.int .i64 (-1), .int .i64 0, .int .i64 1, .int .i64 2] 3)) (.cells #[.slice (some ⟨w.heap.size + 1, 0, none⟩) 3 3, .slice (some ⟨w.heap.size + 1 + 1, 0, none⟩) 7 7, .slice (some ⟨w.heap.size + 1 + 1 + 1, 0, none⟩) 8 8, .slice (some ⟨w.heap.size + 1 + 1 + 1 + 1, 0, none⟩) 5 5, .slice (some ⟨w.heap.size + 1 + 1 + 1 + 1 + 1, 0, none⟩) 1 1, .slice (some ⟨w.heap.size + 1 + 1 + 1 + 1 + 1 + 1, 0, none⟩) 4 4] 51))
  replace L0 := L0.keeps (keeps_alloc (((((((w.alloc (.cells #[.slice none 0 0] 53)).alloc (.cells #[.int .i64 (-1), .int .i64 0, .int .i64 0] 3)).alloc (.cells #[.int .i64 (-1), .int .i64 0, .int .i64 0, .int .i64 1, .int .i64 1, .int .i64 2, .int .i64 2] 3)).alloc (.cells #[.int .i64 (-1), .int .i64 0, .int .i64 0, .int .i64 0, .int .i64 1, .int .i64 1, .int .i64 2, .int .i64 3] 3)).alloc (.cells #[.int .i64 (-1), .int .i64 0, .int .i64 0, .int .i64 1, .int .i64 1] 3)).alloc (.cells #[.int .i64 (-1)] 3)).alloc (.cells #[.int .i64 (-1), .int .i64 0, .int .i64 1, .int .i64 2] 3)) (.cells #[.slice (some ⟨w.heap.size + 1, 0, none⟩) 3 3, .slice (some ⟨w.heap.size + 1 + 1, 0, none⟩) 7 7, .slice (some ⟨w.heap.size + 1 + 1 + 1, 0, none⟩) 8 8, .slice (some ⟨w.heap.size + 1 + 1 + 1 + 1, 0, none⟩) 5 5, .slice (some ⟨w.heap.size + 1 + 1 + 1 + 1 + 1, 0, none⟩) 1 1, .slice (some ⟨w.heap.size + 1 + 1 + 1 + 1 + 1 + 1, 0, none⟩) 4 4] 51))
  replace L1 := L1.keeps (keeps_alloc (((((((w.alloc (.cells #[.slice none 0 0] 53)).alloc (.cells #[.int .i64 (-1), .int .i64 0, .int .i64 0] 3)).alloc (.cells #[.int .i64 (-1), .int .i64 0, .int .i64 0, .int .i64 1, .int .i64 1, .int .i64 2, .int .i64 2] 3)).alloc (.cells #[.int .i64 (-1), .int .i64 0, .int .i64 0, .int .i64 0, .int .i64 1, .int .i64 1, .int .i64 2, .int .i64 3] 3)).alloc (.cells #[.int .i64 (-1), .int .i64 0, .int .i64 0, .int .i64 1, .int .i64 1] 3)).alloc (.cells #[.int .i64 (-1)] 3)).alloc (.cells #[.int .i64 (-1), .int .i64 0, .int .i64 1, .int .i64 2] 3)) (.cells #[.slice (some ⟨w.heap.size + 1, 0, none⟩) 3 3, .slice (some ⟨w.heap.size + 1 + 1, 0, none⟩) 7 7, .slice (some ⟨w.heap.size + 1 + 1 + 1, 0, none⟩) 8 8, .slice (some ⟨w.heap.size + 1 + 1 + 1 + 1, 0, none⟩) 5 5, .slice (some ⟨w.heap.size + 1 + 1 + 1 + 1 + 1, 0, none⟩) 1 1, .slice (some ⟨w.heap.size + 1 + 1 + 1 + 1 + 1 + 1, 0, none⟩) 4 4] 51))
  replace L2 := L2.keeps (keeps_alloc (((((((w.alloc (.cells #[.slice none 0 0] 53)).alloc (.cells #[.int .i64 (-1), .int .i64 0, .int .i64 0] 3)).alloc (.cells #[.int .i64 (-1), .int .i64 0, .int .i64 0, .int .i64 1, .int .i64 1, .int .i64 2, .int .i64 2] 3)).alloc (.cells #[.int .i64 (-1), .int .i64 0, .int .i64 0, .int .i64 0, .int .i64 1, .int .i64 1, .int .i64 2, .int .i64 3] 3)).alloc (.cells #[.int .i64 (-1), .int .i64 0, .int .i64 0, .int .i64 1, .int .i64 1] 3)).alloc (.cells #[.int .i64 (-1)] 3)).alloc (.cells #[.int .i64 (-1), .int .i64 0, .int .i64 1, .int .i64 2] 3)) (.cells #[.slice (some ⟨w.heap.size + 1, 0, none⟩) 3 3, .slice (some ⟨w.heap.size + 1 + 1, 0, none⟩) 7 7, .slice (some ⟨w.heap.size + 1 + 1 + 1, 0, none⟩) 8 8, .slice (some ⟨w.heap.size + 1 + 1 + 1 + 1, 0, none⟩) 5 5, .slice (some ⟨w.heap.size + 1 + 1 + 1 + 1 + 1, 0, none⟩) 1 1, .slice (some ⟨w.heap.size + 1 + 1 + 1 + 1 + 1 + 1, 0, none⟩) 4 4] 51))
  replace L3 := L3.keeps (keeps_alloc (((((((w.alloc (.cells #[.slice none 0 0] 53)).alloc (.cells #[.int .i64 (-1), .int .i64 0, .int .i64 0] 3)).alloc (.cells #[.int .i64 (-1), .int .i64 0, .int .i64 0, .int .i64 1, .int .i64 1, .int .i64 2, .int .i64 2] 3)).alloc (.cells #[.int .i64 (-1), .int .i64 0, .int .i64 0, .int .i64 0, .int .i64 1, .int .i64 1, .int .i64 2, .int .i64 3] 3)).alloc (.cells #[.int .i64 (-1), .int .i64 0, .int .i64 0, .int .i64 1, .int .i64 1] 3)).alloc (.cells #[.int .i64 (-1)] 3)).alloc (.cells #[.int .i64 (-1), .int .i64 0, .int .i64 1, .int .i64 2] 3)) (.cells #[.slice (some ⟨w.heap.size + 1, 0, none⟩) 3 3, .slice (some ⟨w.heap.size + 1 + 1, 0, none⟩) 7 7, .slice (some ⟨w.heap.size + 1 + 1 + 1, 0, none⟩) 8 8, .slice (some ⟨w.heap.size + 1 + 1 + 1 + 1, 0, none⟩) 5 5, .slice (some ⟨w.heap.size + 1 + 1 + 1 + 1 + 1, 0, none⟩) 1 1, .slice (some ⟨w.heap.size + 1 + 1 + 1 + 1 + 1 + 1, 0, none⟩) 4 4] 51))
  replace L4 := L4.keeps (keeps_alloc (((((((w.alloc (.cells #[.slice none 0 0] 53)).alloc (.cells #[.int .i64 (-1), .int .i64 0, .int .i64 0] 3)).alloc (.cells #[.int .i64 (-1), .int .i64 0, .int .i64 0, .int .i64 1, .int .i64 1, .int .i64 2, .int .i64 2] 3)).alloc (.cells #[.int .i64 (-1), .int .i64 0, .int .i64 0, .int .i64 0, .int .i64 1, .int .i64 1, .int .i64 2, .int .i64 3] 3)).alloc (.cells #[.int .i64 (-1), .int .i64 0, .int .i64 0, .int .i64 1, .int .i64 1] 3)).alloc (.cells #[.int .i64 (-1)] 3)).alloc (.cells #[.int .i64 (-1), .int .i64 0, .int .i64 1, .int .i64 2] 3)) (.cells #[.slice (some ⟨w.heap.size + 1, 0, none⟩) 3 3, .slice (some ⟨w.heap.size + 1 + 1, 0, none⟩) 7 7, .slice (some ⟨w.heap.size + 1 + 1 + 1, 0, none⟩) 8 8, .slice (some ⟨w.heap.size + 1 + 1 + 1 + 1, 0, none⟩) 5 5, .slice (some ⟨w.heap.size + 1 + 1 + 1 + 1 + 1, 0, none⟩) 1 1, .slice (some ⟨w.heap.size + 1 + 1 + 1 + 1 + 1 + 1, 0, none⟩) 4 4] 51))
  replace L5 := L5.keeps (keeps_alloc (((((((w.alloc (.cells #[.slice none 0 0] 53)).alloc (.cells #[.int .i64 (-1), .int .i64 0, .int .i64 0] 3)).alloc (.cells #[.int .i64 (-1), .int .i64 0, .int .i64 0, .int .i64 1, .int .i64 1, .int .i64 2, .int .i64 2] 3)).alloc (.cells #[.int .i64 (-1), .int .i64 0, .int .i64 0, .int .i64 0, .int .i64 1, .int .i64 1, .int .i64 2, .int .i64 3] 3)).alloc (.cells #[.int .i64 (-1), .int .i64 0, .int .i64 0, .int .i64 1, .int .i64 1] 3)).alloc (.cells #[.int .i64 (-1)] 3)).alloc (.cells #[.int .i64 (-1), .int .i64 0, .int .i64 1, .int .i64 2] 3)) (.cells #[.slice (some ⟨w.heap.size + 1, 0, none⟩) 3 3, .slice (some ⟨w.heap.size + 1 + 1, 0, none⟩) 7 7, .slice (some ⟨w.heap.size + 1 + 1 + 1, 0, none⟩) 8 8, .slice (some ⟨w.heap.size + 1 + 1 + 1 + 1, 0, none⟩) 5 5, .slice (some ⟨w.heap.size + 1 + 1 + 1 + 1 + 1, 0, none⟩) 1 1, .slice (some ⟨w.heap.size + 1 + 1 + 1 + 1 + 1 + 1, 0, none⟩) 4 4] 51))
  have HP := hid (show ∀ j : Nat, j < 6 → ∃ b n xs, ((((((((w.alloc (.cells #[.slice none 0 0] 53)).alloc (.cells #[.int .i64 (-1), .int .i64 0, .int .i64 0] 3)).alloc (.cells #[.int .i64 (-1), .int .i64 0, .int .i64 0, .int .i64 1, .int .i64 1, .int .i64 2, .int .i64 2] 3)).alloc (.cells #[.int .i64 (-1), .int .i64 0, .int .i64 0, .int .i64 0, .int .i64 1, .int .i64 1, .int .i64 2, .int .i64 3] 3)).alloc (.cells #[.int .i64 (-1), .int .i64 0, .int .i64 0, .int .i64 1, .int .i64 1] 3)).alloc (.cells #[.int .i64 (-1)] 3)).alloc (.cells #[.int .i64 (-1), .int .i64 0, .int .i64 1, .int .i64 2] 3)).alloc (.cells #[.slice (some ⟨w.heap.size + 1, 0, none⟩) 3 3, .slice (some ⟨w.heap.size + 1 + 1, 0, none⟩) 7 7, .slice (some ⟨w.heap.size + 1 + 1 + 1, 0, none⟩) 8 8, .slice (some ⟨w.heap.size + 1 + 1 + 1 + 1, 0, none⟩) 5 5, .slice (some ⟨w.heap.size + 1 + 1 + 1 + 1 + 1, 0, none⟩) 1 1, .slice (some ⟨w.heap.size + 1 + 1 + 1 + 1 + 1 + 1, 0, none⟩) 4 4] 51)).cell? ⟨w.heap.size + 1 + 1 + 1 + 1 + 1 + 1 + 1, j, none⟩ = some (.slice (some ⟨b, 0, none⟩) n n) ∧ Ints ((((((((w.alloc (.cells #[.slice none 0 0] 53)).alloc (.cells #[.int .i64 (-1), .int .i64 0, .int .i64 0] 3)).alloc (.cells #[.int .i64 (-1), .int .i64 0, .int .i64 0, .int .i64 1, .int .i64 1, .int .i64 2, .int .i64 2] 3)).alloc (.cells #[.int .i64 (-1), .int .i64 0, .int .i64 0, .int .i64 0, .int .i64 1, .int .i64 1, .int .i64 2, .int .i64 3] 3)).alloc (.cells #[.int .i64 (-1), .int .i64 0, .int .i64 0, .int .i64 1, .int .i64 1] 3)).alloc (.cells #[.int .i64 (-1)] 3)).alloc (.cells #[.int .i64 (-1), .int .i64 0, .int .i64 1, .int .i64 2] 3)).alloc (.cells #[.slice (some ⟨w.heap.size + 1, 0, none⟩) 3 3, .slice (some ⟨w.heap.size + 1 + 1, 0, none⟩) 7 7, .slice (some ⟨w.heap.size + 1 + 1 + 1, 0, none⟩) 8 8, .slice (some ⟨w.heap.size + 1 + 1 + 1 + 1, 0, none⟩) 5 5, .slice (some ⟨w.heap.size + 1 + 1 + 1 + 1 + 1, 0, none⟩) 1 1, .slice (some ⟨w.heap.size + 1 + 1 + 1 + 1 + 1 + 1, 0, none⟩) 4 4] 51)) w.heap.size ((((((((w.alloc (.cells #[.slice none 0 0] 53)).alloc (.cells #[.int .i64 (-1), .int .i64 0, .int .i64 0] 3)).alloc (.cells #[.int .i64 (-1), .int .i64 0, .int .i64 0, .int .i64 1, .int .i64 1, .int .i64 2, .int .i64 2] 3)).alloc (.cells #[.int .i64 (-1), .int .i64 0, .int .i64 0, .int .i64 0, .int .i64 1, .int .i64 1, .int .i64 2, .int .i64 3] 3)).alloc (.cells #[.int .i64 (-1), .int .i64 0, .int .i64 0, .int .i64 1, .int .i64 1] 3)).alloc (.cells #[.int .i64 (-1)] 3)).alloc (.cells #[.int .i64 (-1), .int .i64 0, .int .i64 1, .int .i64 2] 3)).alloc (.cells #[.slice (some ⟨w.heap.size + 1, 0, none⟩) 3 3, .slice (some ⟨w.heap.size + 1 + 1, 0, none⟩) 7 7, .slice (some ⟨w.heap.size + 1 + 1 + 1, 0, none⟩) 8 8, .slice (some ⟨w.heap.size + 1 + 1 + 1 + 1, 0, none⟩) 5 5, .slice (some ⟨w.heap.size + 1 + 1 + 1 + 1 + 1, 0, none⟩) 1 1, .slice (some ⟨w.heap.size + 1 + 1 + 1 + 1 + 1 + 1, 0, none⟩) 4 4] 51)).heap.size (some ⟨b, 0, none⟩) n xs ∧ (1 ≤ n ∧ n ≤ 8) from fun j hj => by
    have hh := heap_alloc_new (((((((w.alloc (.cells #[.slice none 0 0] 53)).alloc (.cells #[.int .i64 (-1), .int .i64 0, .int .i64 0] 3)).alloc (.cells #[.int .i64 (-1), .int .i64 0, .int .i64 0, .int .i64 1, .int .i64 1, .int .i64 2, .int .i64 2] 3)).alloc (.cells #[.int .i64 (-1), .int .i64 0, .int .i64 0, .int .i64 0, .int .i64 1, .int .i64 1, .int .i64 2, .int .i64 3] 3)).alloc (.cells #[.int .i64 (-1), .int .i64 0, .int .i64 0, .int .i64 1, .int .i64 1] 3)).alloc (.cells #[.int .i64 (-1)] 3)).alloc (.cells #[.int .i64 (-1), .int .i64 0, .int .i64 1, .int .i64 2] 3)) (.cells #[.slice (some ⟨w.heap.size + 1, 0, none⟩) 3 3, .slice (some ⟨w.heap.size + 1 + 1, 0, none⟩) 7 7, .slice (some ⟨w.heap.size + 1 + 1 + 1, 0, none⟩) 8 8, .slice (some ⟨w.heap.size + 1 + 1 + 1 + 1, 0, none⟩) 5 5, .slice (some ⟨w.heap.size + 1 + 1 + 1 + 1 + 1, 0, none⟩) 1 1, .slice (some ⟨w.heap.size + 1 + 1 + 1 + 1 + 1 + 1, 0, none⟩) 4 4] 51)
    rw [show (((((((w.alloc (.cells #[.slice none 0 0] 53)).alloc (.cells #[.int .i64 (-1), .int .i64 0, .int .i64 0] 3)).alloc (.cells #[.int .i64 (-1), .int .i64 0, .int .i64 0, .int .i64 1, .int .i64 1, .int .i64 2, .int .i64 2] 3)).alloc (.cells #[.int .i64 (-1), .int .i64 0, .int .i64 0, .int .i64 0, .int .i64 1, .int .i64 1, .int .i64 2, .int .i64 3] 3)).alloc (.cells #[.int .i64 (-1), .int .i64 0, .int .i64 0, .int .i64 1, .int .i64 1] 3)).alloc (.cells #[.int .i64 (-1)] 3)).alloc (.cells #[.int .i64 (-1), .int .i64 0, .int .i64 1, .int .i64 2] 3)).heap.size = w.heap.size + 1 + 1 + 1 + 1 + 1 + 1 + 1 by simp] at hh
    have hk : ∀ j v, #[Value.slice (some ⟨w.heap.size + 1, 0, none⟩) 3 3, Value.slice (some ⟨w.heap.size + 1 + 1, 0, none⟩) 7 7, Value.slice (some ⟨w.heap.size + 1 + 1 + 1, 0, none⟩) 8 8, Value.slice (some ⟨w.heap.size + 1 + 1 + 1 + 1, 0, none⟩) 5 5, Value.slice (some ⟨w.heap.size + 1 + 1 + 1 + 1 + 1, 0, none⟩) 1 1, Value.slice (some ⟨w.heap.size + 1 + 1 + 1 + 1 + 1 + 1, 0, none⟩) 4 4][j]? = some v → ((((((((w.alloc (.cells #[.slice none 0 0] 53)).alloc (.cells #[.int .i64 (-1), .int .i64 0, .int .i64 0] 3)).alloc (.cells #[.int .i64 (-1), .int .i64 0, .int .i64 0, .int .i64 1, .int .i64 1, .int .i64 2, .int .i64 2] 3)).alloc (.cells #[.int .i64 (-1), .int .i64 0, .int .i64 0, .int .i64 0, .int .i64 1, .int .i64 1, .int .i64 2, .int .i64 3] 3)).alloc (.cells #[.int .i64 (-1), .int .i64 0, .int .i64 0, .int .i64 1, .int .i64 1] 3)).alloc (.cells #[.int .i64 (-1)] 3)).alloc (.cells #[.int .i64 (-1), .int .i64 0, .int .i64 1, .int .i64 2] 3)).alloc (.cells #[.slice (some ⟨w.heap.size + 1, 0, none⟩) 3 3, .slice (some ⟨w.heap.size + 1 + 1, 0, none⟩) 7 7, .slice (some ⟨w.heap.size + 1 + 1 + 1, 0, none⟩) 8 8, .slice (some ⟨w.heap.size + 1 + 1 + 1 + 1, 0, none⟩) 5 5, .slice (some ⟨w.heap.size + 1 + 1 + 1 + 1 + 1, 0, none⟩) 1 1, .slice (some ⟨w.heap.size + 1 + 1 + 1 + 1 + 1 + 1, 0, none⟩) 4 4] 51)).cell? ⟨w.heap.size + 1 + 1 + 1 + 1 + 1 + 1 + 1, j, none⟩ = some v := fun j v hv => by rw [cell_of_row _ _ j _ _ _ hh]; exact hv
    rcases j with _ | _ | _ | _ | _ | _ | j
    · exact ⟨_, _, _, hk 0 _ rfl, L0.widen (by omega) (by first | (simp; done) | (simp; omega)) (Nat.le_refl _), by omega⟩
    · exact ⟨_, _, _, hk 1 _ rfl, L1.widen (by omega) (by first | (simp; done) | (simp; omega)) (Nat.le_refl _), by omega⟩
    · exact ⟨_, _, _, hk 2 _ rfl, L2.widen (by omega) (by first | (simp; done) | (simp; omega)) (Nat.le_refl _), by omega⟩
    · exact ⟨_, _, _, hk 3 _ rfl, L3.widen (by omega) (by first | (simp; done) | (simp; omega)) (Nat.le_refl _), by omega⟩
    · exact ⟨_, _, _, hk 4 _ rfl, L4.widen (by omega) (by first | (simp; done) | (simp; omega)) (Nat.le_refl _), by omega⟩
    · exact ⟨_, _, _, hk 5 _ rfl, L5.widen (by omega) (by first | (simp; done) | (simp; omega)) (Nat.le_refl _), by omega⟩
    · omega)
  obtain ⟨w0, hX⟩ : ∃ u : World, u = ((((((((w.alloc (.cells #[.slice none 0 0] 53)).alloc (.cells #[.int .i64 (-1), .int .i64 0, .int .i64 0] 3)).alloc (.cells #[.int .i64 (-1), .int .i64 0, .int .i64 0, .int .i64 1, .int .i64 1, .int .i64 2, .int .i64 2] 3)).alloc (.cells #[.int .i64 (-1), .int .i64 0, .int .i64 0, .int .i64 0, .int .i64 1, .int .i64 1, .int .i64 2, .int .i64 3] 3)).alloc (.cells #[.int .i64 (-1), .int .i64 0, .int .i64 0, .int .i64 1, .int .i64 1] 3)).alloc (.cells #[.int .i64 (-1)] 3)).alloc (.cells #[.int .i64 (-1), .int .i64 0, .int .i64 1, .int .i64 2] 3)).alloc (.cells #[.slice (some ⟨w.heap.size + 1, 0, none⟩) 3 3, .slice (some ⟨w.heap.size + 1 + 1, 0, none⟩) 7 7, .slice (some ⟨w.heap.size + 1 + 1 + 1, 0, none⟩) 8 8, .slice (some ⟨w.heap.size + 1 + 1 + 1 + 1, 0, none⟩) 5 5, .slice (some ⟨w.heap.size + 1 + 1 + 1 + 1 + 1, 0, none⟩) 1 1, .slice (some ⟨w.heap.size + 1 + 1 + 1 + 1 + 1 + 1, 0, none⟩) 4 4] 51)) := ⟨_, rfl⟩
  have szX := hid (show w0.heap.size = w.heap.size + 1 + 1 + 1 + 1 + 1 + 1 + 1 + 1 by rw [hX]; simp)
  clear L0 L1 L2 L3 L4 L5
  rw [← hX] at f hc HP b2
  go_enter Try.func236, Try.ntmps236
  go_wp2_with fail
  rw [← hX]
  clear hX
  refine (pick_any hc (by omega) (by omega)).mono ?_
  rintro e w1 ⟨x, rfl, hx, hc1, f1⟩
  obtain ⟨j, rfl⟩ : ∃ j : Nat, x = j := ⟨x.toNat, by omega⟩
  obtain ⟨b, n, xs, hcell, hI, hn⟩ := HP.out j (by omega)
  have hz0 := szX.out
  have hcell1 := cell_keepsF hcell f1 (by show g < w.heap.size + 1 + 1 + 1 + 1 + 1 + 1 + 1; omega)
  have hI1 := hI.fr f1 (by omega)
  have f2 := f.trans f1
  have s1 := f1.size
  have hj1 : (j : Int) < 6 := by omega
  replace b2 := b2.fr f1 (by omega)
  clear hc f f1 hcell hI HP
  go_wp2_with fail
  refine (l1Own_any hI1).mono ?_
  rintro e w2 ⟨A, C, rfl, hown, k2⟩
  have hc2 := hc1.keeps k2
  have f3 := f2.keeps k2
  have s2 := k2.size
  replace b2 := b2.keeps k2
  clear hc1 f2 k2 hI1 hcell1
  have hown2 := Has.below hown (keeps_alloc w2 (.cells #[.slice A n C] 53))
  have hc3 := hc2.keeps (keeps_alloc w2 (.cells #[.slice A n C] 53))
  have f4 := f3.keeps (keeps_alloc w2 (.cells #[.slice A n C] 53))
  replace b2 := b2.keeps (keeps_alloc w2 (.cells #[.slice A n C] 53))
  have gb : GB (w2.alloc (.cells #[.slice A n C] 53)) w1.heap.size w2.heap.size (.slice A n C) n xs := ⟨hown2, B1.new' rfl, fun b hb => by have := (hown.lt b hb).2; omega⟩
  clear hown hown2 hc2 f3
  go_wp2_with fail
  refine (pick_any hc3 (by omega) (by omega)).mono ?_
  rintro e w3 ⟨q, rfl, hq, hc4, f5⟩
  have gb3 := gb.fr f5 (by omega) (by omega)
  have f6 := f4.trans f5
  have s3 := f5.size
  simp at s3
  replace b2 := b2.fr f5 (by omega)
  clear gb hc3 f4 f5
  obtain ⟨K, rfl⟩ : ∃ K : Nat, q = K := ⟨q.toNat, by omega⟩
  go_wp2_with fail
  go_loopw [5] (fun sk wr => ∃ (m n : Nat) (v : Value) (xs : List Int), sk = .int .i64 m ∧ GB wr w1.heap.size w2.heap.size v n xs ∧ (1 ≤ n ∧ n + m ≤ 11) ∧ Cur wr g (T + 4 + 2 * n) ∧ Fr g (g + 1) w wr ∧ w1.heap.size ≤ wr.heap.size ∧ B1 wr w.heap.size (.slice none 0 0)) (fun sk _ => (intOf sk).toNat)
  case atStart => exact ⟨K, n, _, xs, rfl, gb3, by omega, hc4.mono (by omega), f6, by omega, b2⟩
  clear gb3 hc4 f6 b2
  case round =>
    obtain ⟨m, n, v, xs, rfl, gb, hn, hc, f, sr, b2⟩ := hrel
    obtain ⟨A, C, e1⟩ := gb.own.form
    cases e1
    by_cases hm : 0 < m
    · have hm1 : (m : Int) > 0 := by omega
      obtain ⟨z1, z2⟩ := id gb.box
      go_wp2_with fail
      have hcD := hc.keeps (keeps_d0 wr)
      have gbD := gb.keeps (keeps_d0 wr)
      have b2D := b2.keeps (keeps_d0 wr)
      have fD := f.keeps (keeps_d0 wr)
      have sD := (keeps_d0 wr).size
      clear hc gb b2 f
      go_region_law ((first | (refine step_pick (n := (n : Int)) hcD (by omega) (by omega) rfl (by kernel_rfl) ?_; intro y wB hy hcB fB; have gbB := gbD.fr fB (by omega) (by omega); have b2B := b2D.fr fB (by omega); have fBB := fD.trans fB; have sB := fB.size; clear fB; obtain ⟨y1, y2⟩ := id gbB.box; have y3 := (gbB.keeps (keeps_alloc wB (.cells #[.int .i64 y] 3))).box.1; have y4 := gbB.box.lt) | (have q1 := Has.below gbB.own (keeps_alloc wB (.cells #[.int .i64 y] 3)); have q2 : n ≤ 67108864 := (by omega); have q3 : w1.heap.size ≤ (wB.alloc (.cells #[.int .i64 y] 3)).heap.size := (by simp; omega); have q4 := heap_alloc_new wB (.cells #[.int .i64 y] 3); refine step_append_int_at (xs := xs) q1 q2 q3 _ _ rfl rfl rfl rfl q4 ?_; clear q1 q2 q4; intro v' w' p1 p2 p3; have bxA := GB.boxA (gbB.keeps (keeps_alloc wB (.cells #[.int .i64 y] 3))) p2; obtain ⟨u1, u2⟩ := bxA; clear y1 y2 y3 y4 z1 z2; have fm := Has.form p1; obtain ⟨A', C', e'⟩ := fm; subst e')))
      all_goals (
        have gbA := gbB.keeps (keeps_alloc wB (.cells #[.int .i64 y] 3))
        have HG := hid (gbA.put p1 p2 p3)
        have HL := hid (gbA.below (v' := .slice A' (n + 1) C') q3 p2 s2)
        clear p1 p2 p3 gbA q3 u1 u2
        go_wp2_with fail
        go_roundw
        case rel => exact ⟨m - 1, n + 1, _, _, by congr 1; omega, HG.out, by omega, ((hcB.keeps (keeps_alloc _ _)).below HL.out (by omega)).mono (by omega), (fBB.keeps (keeps_alloc _ _)).below HL.out (by omega), by have := HL.out.size; simp at this ⊢; omega, (b2B.keeps (keeps_alloc _ _)).below HL.out (by omega)⟩
        case measure => simp [intOf]; omega)
    · obtain rfl : m = 0 := by omega
      obtain ⟨z1, z2⟩ := id gb.box
      obtain ⟨z3, z4⟩ := id b2
      have HO := hid (gb.own)
      have fw : Fr w.heap.size (w.heap.size + 1) wr (wr.setCell ⟨w.heap.size, 0, none⟩ (.slice A n C)) := (Fr.refl _ _ _).setCell (p := ⟨w.heap.size, 0, none⟩) (Nat.le_refl _) (Nat.lt_succ_self _) _
      have HW := hid fw
      clear fw
      go_wp2_with fail
      refine bodyPost_ret (v := .agg #[.slice A n C]) (by simp [results, Try.results236, go_sem, z1, z2, z3, z4]) rfl ⟨A, n, C, xs, rfl, Has.low (Has.fr HO.out HW.out (by omega)) (by omega), by omega, (hc.fr HW.out (by omega)).mono (by omega), f.setNew (p := ⟨w.heap.size, 0, none⟩) (Nat.le_refl _) _⟩
end Go.Proofs.Ytnopedjgagoahaa
