/- append of one element to a slice that the call itself makes; small tools for walks. -/
import Derived.Test.YtkpliolafkdijaaPred
import Derived.StillTailTactics
import Derived.Deep.AppendLies
import Derived.Deep.RegionHeld3
namespace Go.Proofs.Ytkpliolafkdijaa
open Go.RowKit
set_option linter.unusedVariables false
set_option linter.unusedSimpArgs false

theorem flip {P : Program} {f : FuncId} {args : Array Value} {w : World} {v : Value} (h : Calls P f args w fun e w' => e = .returned v ∧ w = w') : Calls P f args w fun e w' => e = .returned v ∧ w' = w :=
  h.mono fun _ _ ⟨a, b⟩ => ⟨a, b.symm⟩
theorem quietC {P : Program} {f : FuncId} {args : Array Value} {w : World} {n : Nat} {v : Value} (h : Calls P f args (w.drewN n) fun e w' => e = .returned v ∧ Quiet (w.drewN n) w') :
    Calls P f args (w.drewN n) fun e w'' => e = .returned v ∧ ∃ m, w'' = w.drewN m :=
  h.mono fun _ _ ⟨a, m, b⟩ => ⟨a, n + m, by rw [b, World.drewN_drewN]⟩
theorem quietS {P : Program} {f : FuncId} {args : Array Value} {w : World} {n : Nat} {v : Value} (h : Calls P f args (w.drewN n) fun e w' => e = .returned v ∧ w.drewN n = w') :
    Calls P f args (w.drewN n) fun e w'' => e = .returned v ∧ ∃ m, w'' = w.drewN m :=
  h.mono fun _ _ ⟨a, b⟩ => ⟨a, n, b.symm⟩

/-- What the call has gathered: a slice of its own, at the element type e of 'size' cells. -/
abbrev Has (w : World) (B : Nat) (e size : Nat) (v : Value) (n : Nat) (cs : List Value) : Prop := w.ownsRow B e size v n cs
theorem Has.below {w w' : World} {B e size n : Nat} {v : Value} {cs : List Value} (h : Has w B e size v n cs) (hb : Keeps w w') : Has w' B e size v n cs :=
  World.ownsRow.kept h (row := none) ⟨hb.os, hb.tape, hb.output, hb.size, fun k hk _ => hb.block k hk⟩ (by cases hv : v.ownBlock <;> simp)

/-- 'append(out, x)', behind the block of x: the walk goes on with the longer row. -/
theorem append_one {P : Program} {w0 : World} {ops : Array Oper} {rest : List Oper} {o : Oper} {a : Act} {Q : Exit → Act → World → Prop} {e size bytes : Nat} {z : Value} {B : Nat} {v : Value} {n : Nat} {xs cs : List Value}
    (hown : Has w0 B e size v n xs) (hcs : cs.length = size)
    (hinfo : (P.info? e).map (fun i => (i.zero, i.size, i.bytes)) = some (some z, size, bytes)) (hz : z.cells.size = size) (hsz : 0 < size)
    (s x : Operand) (t : TypeId) (hgd : o.guard = none)
    (ho : o.op = .call { callee := .builtin .append, args := #[s, x], argTypes := #[t, t] }) (ht : P.underlying t = some (.slice e))
    (hs : a.eval s = v) (hx : a.eval x = .slice (some ⟨w0.heap.size, 0, none⟩) 1 1) (h1 : ∀ u ∈ cs, u.oneCell' = true)
    (hn : n ≤ 67108864) (hb : bytes ≤ 1024) (hB : B ≤ w0.heap.size)
    (h : ∀ v' w', Has w' B e size v' (n + 1) (xs ++ cs) → Below B w0 w' → wpList P ops Q rest (a.put o.dst v') w') : wpList P ops Q (o :: rest) a (w0.alloc (.cells cs.toArray e)) := by
  obtain ⟨i, hi, hz0, hz1, hz2⟩ := info_parts hinfo
  have hbytes : (n + 1) * bytes ≤ 140737488355328 := Nat.le_trans (Nat.mul_le_mul (Nat.succ_le_succ hn) hb) (by omega)
  refine wpList_append_own _ hgd s x t ho B e i z size bytes ht hi hz0 hz1 hz2 hz hsz v n xs hs (hown.alloc _) ⟨w0.heap.size, 0, none⟩ 1 1 cs hx (by omega) (fun j u hu => ?_) h1 (by unfold maxLen; omega) hbytes (by simp; omega) (fun v' w' h2 h3 h4 => ?_)
  · rw [Addr.add_lit, Nat.zero_add, cell_of_row _ _ _ _ _ _ (heap_alloc_new w0 _)]
    simpa using hu
  · refine h v' w' h2 (((Below.refl B w0).alloc hB _).grown h3 (by simp; omega) (fun k hk => (hown.lt k hk).1))
/-- .. of an int. -/
theorem append_int {w0 : World} {ops : Array Oper} {rest : List Oper} {o : Oper} {a : Act} {Q : Exit → Act → World → Prop} {B : Nat} {v : Value} {n : Nat} {xs : List Int} {u : Int}
    (hown : Has w0 B 3 1 v n (xs.map (Value.int .i64))) (hn : n ≤ 67108864) (hB : B ≤ w0.heap.size)
    (s x : Operand) (hgd : o.guard = none)
    (ho : o.op = .call { callee := .builtin .append, args := #[s, x], argTypes := #[24, 24] })
    (hs : a.eval s = v) (hx : a.eval x = .slice (some ⟨w0.heap.size, 0, none⟩) 1 1)
    (h : ∀ v' w', Has w' B 3 1 v' (n + 1) ((xs ++ [u]).map (Value.int .i64)) → Below B w0 w' → wpList Try.prog ops Q rest (a.put o.dst v') w') : wpList Try.prog ops Q (o :: rest) a (w0.alloc (.cells #[.int .i64 u] 3)) :=
  append_one (cs := [.int .i64 u]) hown rfl info_int rfl (by omega) s x 24 hgd ho Try.underlying24 hs hx (fun y hy => by simp at hy; subst hy; rfl) hn (by omega) hB (fun v' w' h2 h3 => h v' w' (by simpa using h2) h3)

/-- The same in a region that draws its order: over whatever world the region has come to. -/
theorem step_append_int {W : World} {ops : Array Oper} {o : Oper} {a : Act} {K : Act → World → Prop} {Q : Exit → Act → World → Prop} {E : Prop} {B : Nat} {v : Value} {n g : Nat} {xs : List Int} {u : Int}
    (hown : Has W B 3 1 v n (xs.map (Value.int .i64))) (hn : n ≤ 67108864) (hB : B ≤ W.heap.size)
    (s x : Operand) (hgd : o.guard = none)
    (ho : o.op = .call { callee := .builtin .append, args := #[s, x], argTypes := #[24, 24] })
    (hs : a.eval s = v) (hx : a.eval x = .slice (some ⟨g, 0, none⟩) 1 1) (hg : W.heap[g]? = some (.cells #[.int .i64 u] 3 (0, 0)))
    (h : ∀ v' w', Has w' B 3 1 v' (n + 1) ((xs ++ [u]).map (Value.int .i64)) → Below B W w' → K (a.put o.dst v') w') :
    if Region.wanted o (yielded ops a.tmps) = true then Oper.wp Try.prog o a W K Q else E := by
  have hw : Region.wanted o (yielded ops a.tmps) = true := by simp [Region.wanted, hgd]
  rw [if_pos hw]
  obtain ⟨i, hi, hz0, hz1, hz2⟩ := info_parts info_int
  refine wp_append_own W s x 24 ho B 3 i _ 1 8 Try.underlying24 hi hz0 hz1 hz2 rfl (by omega) v n _ hs hown ⟨g, 0, none⟩ 1 1 [.int .i64 u] hx rfl (fun j y hy => ?_) (fun y hy => by simp at hy; subst hy; rfl) (by unfold maxLen; omega) (by omega) hB (fun v' w' h2 h3 h4 => ?_)
  · rw [Addr.add_lit, Nat.zero_add, cell_of_row _ _ _ _ _ _ hg]
    simpa using hy
  · exact h v' w' (by simpa using h2) ((Below.refl B W).grown h3 hB (fun k hk => (hown.lt k hk).1))

theorem Has.form {w : World} {B e size n : Nat} {v : Value} {cs : List Value} (h : Has w B e size v n cs) : ∃ A c, v = .slice A n c := by
  rcases h.2 with ⟨rfl, rfl⟩ | ⟨g, cap, cur, rfl, _⟩
  · exact ⟨_, _, rfl⟩
  · exact ⟨_, _, rfl⟩

theorem take_snoc {α : Type} (xs : List α) (k : Nat) (d : α) (h : k < xs.length) : xs.take (k + 1) = xs.take k ++ [xs.getD k d] := by
  rw [List.take_succ_eq_append_getElem h]; simp [List.getD, h]
end Go.Proofs.Ytkpliolafkdijaa
