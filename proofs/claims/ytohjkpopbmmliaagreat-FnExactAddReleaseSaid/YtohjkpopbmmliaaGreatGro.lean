/- Rows gathered by append: more laws. No walk. -/
import Derived.Test.YtohjkpopbmmliaaGreatSep
import Derived.Deep.RegionHeld3
import Derived.Deep.RegionHeldLaw
import Derived.Maps.AppendAt
namespace Go.Proofs.YtohjkpopbmmliaaGreat
open Go.RowKit Go.Sort Go.Deep
set_option linter.unusedVariables false
set_option linter.unusedSimpArgs false
/-- A store into a block below. -/
theorem GrowC.store {α : Type} {sz : Nat} {z : α} {R : RowP α} {w : World} {B E : Nat} {v : Value} {cs : List Value} {L U : Nat → Nat} {l : List α} (ok : RwOk R) (h : GrowC sz z R w B E v cs L U l) {g i : Nat} (x : Value) (hg : g < B) : GrowC sz z R (w.setCell ⟨g, i, none⟩ x) B E v cs L U l := by
  refine ⟨⟨h.has.1, ?_⟩, fun j hj => by simpa [World.setCell] using h.iv j hj, h.inc, fun j hj => ?_⟩
  · rcases h.has.2 with h3 | ⟨g', cap, cur, hv, hb, hh, rest⟩
    · exact .inl h3
    · exact .inr ⟨g', cap, cur, hv, hb, (Below.heap_setCell w ⟨g, i, none⟩ x g' (by show g' ≠ g; omega)).trans hh, rest⟩
  · obtain ⟨u, h1, h2⟩ := h.row j hj
    exact ⟨u, h1, ok _ _ _ _ _ _ h2 ⟨by simp [World.setCell], fun b hb _ => Below.heap_setCell w ⟨g, i, none⟩ x b (by have := h.iv j hj; show b ≠ g; omega)⟩⟩
/-- Nothing is gathered yet, in a row that was made. -/
theorem GrowC.made {α : Type} {sz : Nat} {z : α} {R : RowP α} (w : World) (c : Array Value) (n B E : Nat) (hB : B ≤ w.heap.size) (hn : n ≤ 67108864) (hc : c.size = sz) : GrowC sz z R (w.alloc (.cells (madeCells c (n * sz)) E)) B E (.slice (some ⟨w.heap.size, 0, none⟩) 0 n) [] (fun _ => 0) (fun _ => 0) [] :=
  ⟨World.ownsRow_made w _ n hB (by unfold maxLen; omega) (by rw [size_madeCells]), fun j h => absurd h (by simp), fun i j _ h => absurd h (by simp), fun j h => absurd h (by simp)⟩
section
variable {W0 : World} {ops : Array Oper} {rest : List Oper} {o : Oper} {a : Act} {K : Act → World → Prop} {Q : Exit → Act → World → Prop} {E' : Prop} {α : Type} {sz : Nat} {z a0 : α} {Rw : RowP α} {B E Ty x yb : Nat} {zr v : Value} {cs new : List Value} {L U : Nat → Nat} {l : List α}
theorem row_run (hinfo : (Tryz.prog.info? E).map (fun i => (i.zero, i.size, i.bytes)) = some (some zr, sz, yb)) (hzs : zr.cells.size = sz) (hsz : 0 < sz) (hyb : yb ≤ 1000)
    (ok : RwOk Rw) (hG : GrowC sz z Rw W0 B E v cs L U l) (hn : l.length ≤ 67108864) (hB : B ≤ W0.heap.size) (hnew : new.length = sz) (h1 : ∀ y ∈ new, y.oneCell' = true)
    (hxB : B ≤ x) (hU : ∀ j, j < l.length → U j ≤ x) (hv : ∀ g, v.ownBlock = some g → g < x) (hr : Rw W0 x W0.heap.size (fun i => new.getD i undef) a0) (ty : TypeId) (ht : Tryz.prog.underlying Ty = some (.slice E)) :
    ∃ v' w' cs' L' U', (Builtin.append_ #[Ty, Ty] ty #[v, .slice (some ⟨W0.heap.size, 0, none⟩) 1 1]).run Tryz.prog (W0.alloc (.cells new.toArray E)) = .ok v' w' ∧ GrowC sz z Rw w' B E v' cs' L' U' (l ++ [a0]) ∧ W0.grownBy w' v.ownBlock := by
  obtain ⟨i, hi, hz0, hz1, hz2⟩ := info_parts hinfo
  have hbytes : (l.length + 1) * yb ≤ 140737488355328 := Nat.le_trans (Nat.mul_le_mul (show l.length + 1 ≤ 67108865 by omega) hyb) (by decide)
  obtain ⟨v', w', hq, h2, h3, _, h5⟩ := run_append_own_at (P := Tryz.prog) (W0.alloc (.cells new.toArray E)) B Ty ty E i zr sz yb ht hi hz0 hz1 hz2 hzs hsz v l.length cs (hG.has.alloc _) ⟨W0.heap.size, 0, none⟩ 1 1 new (by rw [hnew, Nat.one_mul]) (fun j u hu => by rw [Addr.add_lit, Nat.zero_add, cell_of_row _ _ _ _ _ _ (heap_alloc_new W0 _)]; simpa using hu) h1 (by unfold maxLen; omega) hbytes (by simp; omega)
  have hg : W0.grownBy w' v.ownBlock := ⟨h3.os, h3.tape, h3.output, by have := h3.size; simp at this; omega, fun k hk hne => by rw [h3.block k (by simp; omega) hne]; exact heap_alloc_old W0 _ hk⟩
  exact ⟨v', w', _, _, _, hq, hG.snoc ok hnew h2 hg (by simpa using h5) hxB (Nat.le_refl _) hU (fun g e => .inl (hv g e)) hr, hg⟩
/-- A row more is appended, in a region that draws its order. -/
theorem step_row (hinfo : (Tryz.prog.info? E).map (fun i => (i.zero, i.size, i.bytes)) = some (some zr, sz, yb)) (hzs : zr.cells.size = sz) (hsz : 0 < sz) (hyb : yb ≤ 1000)
    (ok : RwOk Rw) (hG : GrowC sz z Rw W0 B E v cs L U l) (hn : l.length ≤ 67108864) (hB : B ≤ W0.heap.size) (hnew : new.length = sz) (h1 : ∀ y ∈ new, y.oneCell' = true)
    (hxB : B ≤ x) (hU : ∀ j, j < l.length → U j ≤ x) (hv : ∀ g, v.ownBlock = some g → g < x) (hr : Rw W0 x W0.heap.size (fun i => new.getD i undef) a0)
    (s x9 : Operand) (hgd : o.guard = none) (ho : o.op = .call { callee := .builtin .append, args := #[s, x9], argTypes := #[Ty, Ty] }) (ht : Tryz.prog.underlying Ty = some (.slice E))
    (hs : a.eval s = v) (hx : a.eval x9 = .slice (some ⟨W0.heap.size, 0, none⟩) 1 1)
    (h : ∀ v' w' cs' L' U', GrowC sz z Rw w' B E v' cs' L' U' (l ++ [a0]) → W0.grownBy w' v.ownBlock → K (a.put o.dst v') w') :
    if Region.wanted o (yielded ops a.tmps) = true then Oper.wp Tryz.prog o a (W0.alloc (.cells new.toArray E)) K Q else E' := by
  have hw : Region.wanted o (yielded ops a.tmps) = true := by simp [Region.wanted, hgd]
  rw [if_pos hw]
  obtain ⟨v', w', cs', L', U', hq, h2, h3⟩ := row_run hinfo hzs hsz hyb ok hG hn hB hnew h1 hxB hU hv hr o.type ht
  unfold Oper.wp
  simp [execOp, ho, resolve, invoke, builtin, hs, hx, hq, Result.andThen]
  exact h v' w' _ _ _ h2 h3
/-- A row more is appended. -/
theorem append_row (hinfo : (Tryz.prog.info? E).map (fun i => (i.zero, i.size, i.bytes)) = some (some zr, sz, yb)) (hzs : zr.cells.size = sz) (hsz : 0 < sz) (hyb : yb ≤ 1000)
    (ok : RwOk Rw) (hG : GrowC sz z Rw W0 B E v cs L U l) (hn : l.length ≤ 67108864) (hB : B ≤ W0.heap.size) (hnew : new.length = sz) (h1 : ∀ y ∈ new, y.oneCell' = true)
    (hxB : B ≤ x) (hU : ∀ j, j < l.length → U j ≤ x) (hv : ∀ g, v.ownBlock = some g → g < x) (hr : Rw W0 x W0.heap.size (fun i => new.getD i undef) a0)
    (s x9 : Operand) (hgd : o.guard = none) (ho : o.op = .call { callee := .builtin .append, args := #[s, x9], argTypes := #[Ty, Ty] }) (ht : Tryz.prog.underlying Ty = some (.slice E))
    (hs : a.eval s = v) (hx : a.eval x9 = .slice (some ⟨W0.heap.size, 0, none⟩) 1 1)
    (h : ∀ v' w' cs' L' U', GrowC sz z Rw w' B E v' cs' L' U' (l ++ [a0]) → W0.grownBy w' v.ownBlock → wpList Tryz.prog ops Q rest (a.put o.dst v') w') :
    wpList Tryz.prog ops Q (o :: rest) a (W0.alloc (.cells new.toArray E)) := by
  refine wpList_plain hgd fun K hK => ?_
  obtain ⟨v', w', cs', L', U', hq, h2, h3⟩ := row_run hinfo hzs hsz hyb ok hG hn hB hnew h1 hxB hU hv hr o.type ht
  unfold Oper.wp execOp
  simp only [ho, resolve, invoke, builtin, Sem.run_bind, Sem.run_pure, Result.andThen_ok, List.map_toArray, List.map_cons, List.map_nil, hs, hx, hq]
  exact hK _ _ (h v' w' _ _ _ h2 h3)
end
/-- A table of one's own is stored at row k. -/
theorem FillS.tab {w w1 : World} {g n k E nv nh cv ch : Nat} {cs : List Value} {L U : Nat → Nat} {l : List TT} {lv sm : Int} {xs ys : List Int} {V H : Option Addr} (h : FillS 4 t0 RwT w g n E cs L U l k) (hk : k < n) (k1 : Keeps w w1) (e : l.getD k t0 = (lv, xs, ys, sm)) (hx : xs.length = nv) (hy : ys.length = nh)
    (m : TwM w1 w.heap.size w1.heap.size V nv xs H nh ys) :
    ∃ cs' L' U', FillS 4 t0 RwT ((((w1.setCell ⟨g, k * 4, none⟩ (.int .i64 lv)).setCell ⟨g, k * 4 + 1, none⟩ (.slice V nv cv)).setCell ⟨g, k * 4 + 2, none⟩ (.slice H nh ch)).setCell ⟨g, k * 4 + 3, none⟩ (.int .i64 sm)) g n E cs' L' U' l (k + 1) := by
  subst hx hy
  have hr := Nat.mul_le_mul_right 4 (show k + 1 ≤ n from hk)
  rw [Nat.succ_mul] at hr
  have hl := h.len
  have ho := ((((h.own.keeps k1).set_ (k * 4) (.int .i64 lv)).set_ (k * 4 + 1) (.slice V xs.length cv)).set_ (k * 4 + 2) (.slice H ys.length ch)).set_ (k * 4 + 3) (.int .i64 sm)
  refine ⟨_, _, _, h.put RwT.ok hk k1 ?_ (by simp [World.setCell]) e ho (by simpa using hl) (fun j hj => ?_) ⟨V, cv, H, ch, ?_, ?_, ?_, ?_, m⟩ (fun lo hi u u' x hr => hr.co)⟩
  · exact (((fr_one _).trans (fr_one _)).trans (fr_one _)).trans (fr_one _)
  · rw [getD_set_other (by omega), getD_set_other (by omega), getD_set_other (by omega), getD_set_other (by omega)]
  · show List.getD _ (k * 4) undef = _
    rw [getD_set_other (by omega), getD_set_other (by omega), getD_set_other (by omega), getD_set_same (by omega)]
  · show List.getD _ (k * 4 + 1) undef = _
    rw [getD_set_other (by omega), getD_set_other (by omega), getD_set_same (by simp; omega)]
  · show List.getD _ (k * 4 + 2) undef = _
    rw [getD_set_other (by omega), getD_set_same (by simp; omega)]
  · show List.getD _ (k * 4 + 3) undef = _
    rw [getD_set_same (by simp; omega)]
end Go.Proofs.YtohjkpopbmmliaaGreat
