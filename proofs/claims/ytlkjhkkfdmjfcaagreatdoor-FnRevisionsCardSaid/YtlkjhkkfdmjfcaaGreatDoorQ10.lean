/- What the proof of the statement leans on, part 11: walks of functions and plain lemmas, with no condition. -/
import Derived.Maps.AppendAt
import Derived.Deep.RegionLaw
import Derived.Laws.AppendOwnNone
import Derived.Test.YtlkjhkkfdmjfcaaGreatDoorQ1
import Derived.Test.YtlkjhkkfdmjfcaaGreatDoorQ7
import Derived.Test.YtlkjhkkfdmjfcaaGreatDoorQ9
namespace Go.Proofs.YtlkjhkkfdmjfcaaGreatDoor
open Go.RowKit Go.Sort Go.Deep
set_option linter.unusedVariables false
set_option linter.unusedSimpArgs false
def SchA (l : List VV) : Prop := ∀ j, (l.getD j v0).1.size ≤ 9 ∧ 0 ≤ (l.getD j v0).2 ∧ (l.getD j v0).2 ≤ 9
theorem SchA.nil : SchA [] := fun j => by simp [v0]
theorem SchA.snoc {l : List VV} {x : ByteArray} {y : Int} (h : SchA l) (hx : x.size ≤ 9) (hy : 0 ≤ y ∧ y ≤ 9) : SchA (l ++ [(x, y)]) := fun j => by
  rcases Nat.lt_trichotomy j l.length with e | e | e
  · rw [show (l ++ [(x, y)]).getD j v0 = l.getD j v0 by simp only [List.getD]; rw [List.getElem?_append_left e]]; exact h j
  · subst e; rw [show (l ++ [(x, y)]).getD l.length v0 = (x, y) by simp [List.getD]]; exact ⟨hx, hy⟩
  · rw [getD_out (by simp; omega)]; exact SchA.nil 0
theorem SchA.set {l : List VV} {k : Nat} {x : ByteArray} {y : Int} (h : SchA l) (hx : x.size ≤ 9) (hy : 0 ≤ y ∧ y ≤ 9) : SchA (l.set k (x, y)) := fun j => by
  by_cases e : j = k
  · subst e
    by_cases hj : j < l.length
    · rw [getD_set_same hj]; exact ⟨hx, hy⟩
    · rw [List.set_eq_of_length_le (by omega)]; exact h j
  · rw [getD_set_other (by omega)]; exact h j
set_option maxRecDepth 100000 in
set_option maxHeartbeats 12800000 in
theorem schema_any {g : Nat} {T : Int} {w : World} (h : Cur w g T) (hT : T ≤ 600000000000000) :
    Calls Tryz.prog 150 #[.pointer (some ⟨g, 0, none⟩)] w (DrawsL 2 v0 RwdV 82 (fun l => SchA l ∧ 1 ≤ l.length ∧ l.length ≤ 3) w g (T + 60)) := by
  have HIV := hid info_var
  have lg := h.lt
  go_enter Tryz.func150, Tryz.ntmps150
  have f : Fr g (g + 1) w w := Fr.refl _ _ _
  have hc := h
  replace f := f.keeps (keeps_alloc w (.cells #[.string { data := #[115, 101, 120] }, .string { data := #[97, 103, 101] }, .string { data := #[106, 111, 98] }, .string { data := #[104, 111, 109, 101] }, .string { data := #[115, 105, 122, 101] }, .string { data := #[108, 97, 110, 103] }] 9))
  replace hc := hc.keeps (keeps_alloc w (.cells #[.string { data := #[115, 101, 120] }, .string { data := #[97, 103, 101] }, .string { data := #[106, 111, 98] }, .string { data := #[104, 111, 109, 101] }, .string { data := #[115, 105, 122, 101] }, .string { data := #[108, 97, 110, 103] }] 9))
  have b3 : Bl (w.alloc (.cells #[.string { data := #[115, 101, 120] }, .string { data := #[97, 103, 101] }, .string { data := #[106, 111, 98] }, .string { data := #[104, 111, 109, 101] }, .string { data := #[115, 105, 122, 101] }, .string { data := #[108, 97, 110, 103] }] 9)) w.heap.size [.string { data := #[115, 101, 120] }, .string { data := #[97, 103, 101] }, .string { data := #[106, 111, 98] }, .string { data := #[104, 111, 109, 101] }, .string { data := #[115, 105, 122, 101] }, .string { data := #[108, 97, 110, 103] }] := Bl.new' (by simp) (by simp)
  go_wp2_with fail
  have F0 := GrowR.nil (sz := 2) (z := v0) (R := RwdV) (w.alloc (.cells #[.string { data := #[115, 101, 120] }, .string { data := #[97, 103, 101] }, .string { data := #[106, 111, 98] }, .string { data := #[104, 111, 109, 101] }, .string { data := #[115, 105, 122, 101] }, .string { data := #[108, 97, 110, 103] }] 9)) w.heap.size (w.heap.size + 1) 82 (Nat.le_succ _)
  go_loopw [4, 5] (fun sv i wr => ∃ (k : Nat) (vq : Value) (cs : List Value) (L U : Nat → Nat) (l : List VV), vq = sv ∧ i = .int .i64 k ∧ l.length = k ∧ k ≤ 3 ∧ SchA l ∧ GrowR 2 v0 RwdV wr w.heap.size (w.heap.size + 1) 82 vq cs L U l ∧ Bl wr w.heap.size [.string { data := #[115, 101, 120] }, .string { data := #[97, 103, 101] }, .string { data := #[106, 111, 98] }, .string { data := #[104, 111, 109, 101] }, .string { data := #[115, 105, 122, 101] }, .string { data := #[108, 97, 110, 103] }] ∧ Cur wr g (T + 5 * k) ∧ Fr g (g + 1) w wr ∧ w.heap.size + 1 ≤ wr.heap.size) (fun _ i _ => 4 - (intOf i).toNat)
  case atStart => exact ⟨0, _, _, _, _, [], rfl, rfl, rfl, Nat.zero_le _, SchA.nil, F0, b3, hc.mono (by omega), f, by simp⟩
  clear F0 b3 hc f
  case round =>
    obtain ⟨k, vq, cs, L, U, l, rfl, rfl, hl, hk, hA, hF, b3, hc, f, sz1⟩ := hrel
    obtain ⟨A8, c8, e8⟩ := hF.has.form
    rw [hl] at e8
    subst e8
    have HL := hid hl
    have HA := hid hA
    clear hl hA
    go_wp2_with fail
    refine (pick_any hc (by omega) (by omega)).mono ?_
    rintro e w1 ⟨x, rfl, hx, hn, ff⟩
    replace f := f.trans ff
    clear hc
    have hc := hn
    replace hF := hF.fr RwdV.ok ff (by omega)
    replace b3 := b3.fr ff (by first | omega | (simp; omega))
    have sf1 := ff.size
    try simp at sf1
    clear ff hn
    have sz1 := f.size
    have lt1 := b3.lt
    by_cases hcd : (k : Int) < 1 + x
    rotate_left
    · by_cases hk0 : k = 0
      · exfalso; omega
      have HF := hid (GrowR.lowB hF (by omega))
      have HC := hid hc
      have Hf := hid f
      clear hF hc f b3
      go_wp2
      go_ret
      exact ⟨_, _, _, _, _, _, l, rfl, HF.out, HL.out, ⟨HA.out, by rw [HL.out]; omega, by rw [HL.out]; exact hk⟩, HC.out.mono (by omega), Hf.out⟩
    have hk3 : k = 0 ∨ k = 1 ∨ k = 2 := by omega
    obtain ⟨sx, hsx⟩ : ∃ sx, ∀ w', Bl w' w.heap.size [.string { data := #[115, 101, 120] }, .string { data := #[97, 103, 101] }, .string { data := #[106, 111, 98] }, .string { data := #[104, 111, 109, 101] }, .string { data := #[115, 105, 122, 101] }, .string { data := #[108, 97, 110, 103] }] → w'.cell? ⟨w.heap.size, k, none⟩ = some (.string sx) ∧ sx.size ≤ 9 := by
      rcases hk3 with rfl | rfl | rfl
      · exact ⟨_, fun w' b => ⟨(b.2 0 _ rfl).1, by decide⟩⟩
      · exact ⟨_, fun w' b => ⟨(b.2 1 _ rfl).1, by decide⟩⟩
      · exact ⟨_, fun w' b => ⟨(b.2 2 _ rfl).1, by decide⟩⟩
    have HSX := hid (fun w' b => (hsx w' b).1)
    have HSZ := hid (hsx _ b3).2
    clear hsx
    have hk6 : (k : Int) < 6 := by omega
    have hk7 : k < 6 := by omega
    go_wp2_with fail
    have hcD := hc.keeps (keeps_d0 w1)
    have b3D := b3.keeps (keeps_d0 w1)
    have hFD := hF.keeps RwdV.ok (keeps_d0 w1)
    have fD := f.keeps (keeps_d0 w1)
    have cD := HSX.out _ b3D
    have sD : w.heap.size + 1 ≤ w1.drew.heap.size := by show _ ≤ w1.heap.size; omega
    clear hc b3 hF f
    go_region_law ((first | (refine stp_pick (n := 3) hcD (by omega) (by omega) rfl (by kernel_rfl) ?_; intro x9 wB hx9 hcB fB; have hFB := hFD.fr RwdV.ok fB (by omega); have b3B := b3D.fr fB (by omega); have cB := HSX.out _ b3B; have sB := fB.size; have hwr : IntKind.i64.wrap (2 + x9) = 2 + x9 := IntWalk.i64_in _ (by omega)) | ((try rw [hwr]); refine step_rowR (a0 := (sx, 2 + x9)) (x := w.heap.size) (y := w.heap.size) (new := [.string sx, .int .i64 (2 + x9)]) HIV.out rfl (by decide) (by decide) RwdV.ok hFB (by rw [HL.out]; omega) (by omega) rfl (fun y hy => by simp at hy; rcases hy with rfl | rfl <;> rfl) (Nat.le_refl _) (by omega) (fun g e => Nat.lt_or_ge _ _) ⟨rfl, rfl⟩ _ _ rfl rfl Tryz.underlying34 rfl rfl ?_; intro v9 w9 cs9 L9 U9 hF9 hg9)))
    all_goals (
      have KB := hid (hFB.below (by omega) hg9)
      have f9 := hid ((fD.trans fB).below KB.out (by omega))
      have hc9 := hid (hcB.below KB.out (by omega))
      have s9 := KB.out.size
      have B9 := hid (bl_grown b3B hg9 (fun e => by have := (hFB.lt _ e).1; omega))
      have HF9 := hid hF9
      have HA9 := hid (HA.out.snoc HSZ.out (y := 2 + x9) (by omega))
      have HL9 := hid (show (l ++ [(sx, 2 + x9)]).length = k + 1 by rw [List.length_append, HL.out]; rfl)
      clear hF9 hg9 hFB b3B hcB fB hFD b3D hcD fD cD cB hwr
      go_wp2_with fail
      go_roundw
      case rel => exact ⟨k + 1, _, _, _, _, _, rfl, by go_num, HL9.out, by omega, HA9.out, HF9.out, B9.out, hc9.out.mono (by omega), f9.out, by omega⟩
      case measure => simp [intOf]; omega)
end Go.Proofs.YtlkjhkkfdmjfcaaGreatDoor
namespace Go.Proofs.YtlkjhkkfdmjfcaaGreatDoor
open Go.RowKit
set_option linter.unusedVariables false
set_option linter.unusedSimpArgs false
/-- append of one int in a region that draws its order; where the new row lies. -/
theorem step_append_int_at {W : World} {ops : Array Oper} {o : Oper} {a : Act} {K : Act → World → Prop} {Q : Exit → Act → World → Prop} {E : Prop} {B : Nat} {v : Value} {n g : Nat} {xs : List Int} {u : Int}
    (hown : Has W B 3 1 v n (xs.map (Value.int .i64))) (hn : n ≤ 67108864) (hB : B ≤ W.heap.size)
    (s x : Operand) (hgd : o.guard = none)
    (ho : o.op = .call { callee := .builtin .append, args := #[s, x], argTypes := #[22, 22] })
    (hs : a.eval s = v) (hx : a.eval x = .slice (some ⟨g, 0, none⟩) 1 1) (hg : W.heap[g]? = some (.cells #[.int .i64 u] 3 (0, 0)))
    (h : ∀ v' w', Has w' B 3 1 v' (n + 1) ((xs ++ [u]).map (Value.int .i64)) → W.grownBy w' v.ownBlock → (v'.ownBlock = v.ownBlock ∨ v'.ownBlock = some W.heap.size) → K (a.put o.dst v') w') :
    if Region.wanted o (yielded ops a.tmps) = true then Oper.wp Tryz.prog o a W K Q else E := by
  have hw : Region.wanted o (yielded ops a.tmps) = true := by simp [Region.wanted, hgd]
  rw [if_pos hw]
  obtain ⟨i, hi, hz0, hz1, hz2⟩ := info_parts info_int
  obtain ⟨v', w', hr, h2, h3, _, h5⟩ := run_append_own_at (P := Tryz.prog) W B 22 o.type 3 i _ 1 8 Tryz.underlying22 hi hz0 hz1 hz2 rfl (by omega) v n _ hown ⟨g, 0, none⟩ 1 1 [.int .i64 u] rfl (fun j y hy => by rw [Addr.add_lit, Nat.zero_add, cell_of_row _ _ _ _ _ _ hg]; simpa using hy) (fun y hy => by simp at hy; subst hy; rfl) (by unfold maxLen; omega) (by omega) hB
  unfold Oper.wp
  simp [execOp, ho, resolve, invoke, builtin, hs, hx, hr, Result.andThen]
  exact h v' w' (by simpa using h2) h3 h5
theorem zeroCells_int (m : Nat) : (Builtin.zeroCells #[Value.int .i64 0] m).toList = List.replicate m (.int .i64 0) := by
  apply List.ext_getElem
  · simp [Builtin.zeroCells]
  · intro i h1 h2
    simp [Builtin.zeroCells, Nat.mod_one]
section
variable {P : Program} {w : World}
theorem run_zeros_room (t u ty e : TypeId) (i : TypeInfo) (ht : P.underlying t = some (.slice e)) (hu : P.underlying u = some (.int .i64)) (hi : P.info? e = some i) (hz : i.zero = some (.int .i64 0)) (hsize : i.size = 1) (hby : i.bytes = 8)
    (g n cap : Nat) (cur : Array Value) (hg : w.heap[g]? = some (.cells cur e (0, 0))) (m : Nat) (hm : 0 < m) (h63 : n + m ≤ 67108864) (hroom : n + m ≤ cap) (hfit : n + m ≤ cur.size) :
    (Builtin.append_ #[t, u] ty #[.slice (some ⟨g, 0, none⟩) n cap, .int .i64 (m : Int)]).run P w =
      .ok (.slice (some ⟨g, 0, none⟩) (n + m) cap) (w.setRow g (cur.toList.take n ++ List.replicate m (Value.int .i64 0) ++ cur.toList.drop (n + m)).toArray) := by
  have hw : IntKind.i64.wrap (m : Int) = m := IntWalk.i64_in _ (by omega)
  have hb1 : ¬ (281474976710656 < (m : Int) * 8) := by omega
  have hm0 : ¬ ((m : Int) < 0) := by omega
  have hm1 : ¬ m = 0 := by omega
  have hst := run_storeCells_at P g n e (List.replicate m (Value.int .i64 0)) 0 cur w hg (by simpa using hfit) (fun u hu => by rw [(List.mem_replicate.1 hu).2]; rfl)
  simp only [Nat.add_zero, List.length_replicate] at hst
  simp [Builtin.append_, run_underlying ht, run_underlying hu, sizeOf, typeInfo, zeroValue, asInt, asIntOf, hi, hz, hsize, hby, hw, hb1, hm0, hm1, hroom, Addr.add_lit, Value.cells, zeroCells_int, hst]
theorem run_zeros_grow (t u ty e : TypeId) (i : TypeInfo) (ht : P.underlying t = some (.slice e)) (hu : P.underlying u = some (.int .i64)) (hi : P.info? e = some i) (hz : i.zero = some (.int .i64 0)) (hsize : i.size = 1) (hby : i.bytes = 8)
    (b : Addr) (n cap : Nat) (olds : List Value) (hlo : olds.length = n) (holds : ∀ j v, olds[j]? = some v → w.cell? (b.add j) = some v) (m : Nat) (hm : 0 < m) (h63 : n + m ≤ 67108864) (hg : cap < n + m) :
    (Builtin.append_ #[t, u] ty #[.slice (some b) n cap, .int .i64 (m : Int)]).run P w =
      .ok (.slice (some ⟨w.heap.size, 0, none⟩) (n + m) (grownCap w (n + m) cap e)) (w.drew.alloc (.cells (olds.toArray ++ (List.replicate m (Value.int .i64 0)).toArray ++ Builtin.zeroCells #[Value.int .i64 0] (grownCap w (n + m) cap e - (n + m))) e)) := by
  have hw : IntKind.i64.wrap (m : Int) = m := IntWalk.i64_in _ (by omega)
  have hb1 : ¬ (281474976710656 < (m : Int) * 8) := by omega
  have hm0 : ¬ ((m : Int) < 0) := by omega
  have hm1 : ¬ m = 0 := by omega
  have hn : ¬ (n + m ≤ cap) := by omega
  have h63' : ¬ (9223372036854775807 < ((n : Int) + (m : Int))) := by omega
  have hfits := growslice_fits (need := n + m) (old := cap) (bytes := 8) (by omega) (by omega)
  have h48' : ¬ (281474976710656 < Builtin.nextslicecap (n + m) cap * 8) := by omega
  have hfo := run_firstCells_some (P := P) w.drew 1 n b n cap olds (by omega) (by simpa using holds)
  simp [Builtin.append_, run_underlying ht, run_underlying hu, sizeOf, typeInfo, zeroValue, asInt, asIntOf, hi, hz, hsize, hby, hw, hb1, hm0, hm1, hn, h63', h48', Value.cells, Question.forced, hfo, newRow, grownCap]
  congr 2
  apply Array.ext'
  simp [List.append_assoc, zeroCells_int]
end
/-- append(s, make([]int, m)...) onto a row of the call's own, in a region that draws its order. -/
theorem step_append_zeros {W : World} {ops : Array Oper} {o : Oper} {a : Act} {K : Act → World → Prop} {Q : Exit → Act → World → Prop} {E : Prop} {B : Nat} {v : Value} {n m : Nat} {xs : List Int}
    (hown : Has W B 3 1 v n (xs.map (Value.int .i64))) (hn : 0 < n) (hm : 0 < m) (h63 : n + m ≤ 67108864) (hB : B ≤ W.heap.size)
    (s x : Operand) (hgd : o.guard = none)
    (ho : o.op = .call { callee := .builtin .append, args := #[s, x], argTypes := #[22, 3] })
    (hs : a.eval s = v) (hx : a.eval x = .int .i64 (m : Int))
    (h : ∀ v' w', Has w' B 3 1 v' (n + m) ((xs ++ List.replicate m 0).map (Value.int .i64)) → W.grownBy w' v.ownBlock → (v'.ownBlock = v.ownBlock ∨ v'.ownBlock = some W.heap.size) → K (a.put o.dst v') w') :
    if Region.wanted o (yielded ops a.tmps) = true then Oper.wp Tryz.prog o a W K Q else E := by
  have hw : Region.wanted o (yielded ops a.tmps) = true := by simp [Region.wanted, hgd]
  rw [if_pos hw]
  obtain ⟨i, hi, hz0, hz1, hz2⟩ := info_parts info_int
  have hxl : xs.length = n := by simpa using hown.1
  have e1 : (xs ++ List.replicate m 0).map (Value.int .i64) = xs.map (Value.int .i64) ++ List.replicate m (.int .i64 0) := by simp
  have key : ∃ v' w', (Builtin.append_ #[22, 3] o.type #[v, .int .i64 (m : Int)]).run Tryz.prog W = .ok v' w' ∧ Has w' B 3 1 v' (n + m) ((xs ++ List.replicate m 0).map (Value.int .i64)) ∧ W.grownBy w' v.ownBlock ∧ (v'.ownBlock = v.ownBlock ∨ v'.ownBlock = some W.heap.size) := by
    rcases hown.2 with ⟨_, h0⟩ | ⟨g, cap, cur, rfl, hbg, hg, hnc, hcm, hcs, htake⟩
    · omega
    · rw [Nat.mul_one] at hcs htake
      by_cases hroom : n + m ≤ cap
      · have hr := run_zeros_room (P := Tryz.prog) (w := W) 22 3 o.type 3 i Tryz.underlying22 Tryz.underlying3 hi hz0 hz1 hz2 g n cap cur hg m hm h63 hroom (by omega)
        refine ⟨_, _, hr, ⟨by simp [hxl], .inr ⟨g, cap, _, rfl, hbg, setRow_heap W g cur _ _ _ hg, hroom, hcm, ?_, ?_⟩⟩, ⟨rfl, rfl, rfl, by simp, fun k _ hk => setRow_other W g k _ (fun e => hk (by simp [Value.ownBlock, e]))⟩, .inl rfl⟩
        · simp only [List.size_toArray, List.length_append, List.length_take, List.length_drop, Array.length_toList, List.length_replicate]
          omega
        · rw [e1, htake]
          have : (xs.map (Value.int .i64) ++ List.replicate m (Value.int .i64 0)).length = (n + m) * 1 := by simp [hxl]
          rw [← this]
          exact List.take_left
      · have holds : ∀ j u, (xs.map (Value.int .i64))[j]? = some u → W.cell? ((⟨g, 0, none⟩ : Addr).add j) = some u := World.ownsRow.cells hown (g := g) rfl
        have hr := run_zeros_grow (P := Tryz.prog) (w := W) 22 3 o.type 3 i Tryz.underlying22 Tryz.underlying3 hi hz0 hz1 hz2 ⟨g, 0, none⟩ n cap (xs.map (Value.int .i64)) (by simp [hxl]) holds m hm h63 (by omega)
        have hge := grownCap_ge W (n + m) cap 3
        have hcm2 : grownCap W (n + m) cap 3 ≤ maxLen := grownCap_le_maxLen W (n + m) cap 3 (by unfold maxLen; omega)
        refine ⟨_, _, hr, ⟨by simp [hxl], .inr ⟨W.heap.size, _, _, rfl, hB, heap_alloc_new W.drew _, hge, hcm2, ?_, ?_⟩⟩, ⟨rfl, rfl, rfl, by simp, fun k hk _ => heap_alloc_old W.drew _ hk⟩, .inr rfl⟩
        · simp only [Array.size_append, List.size_toArray, size_zeroCells, List.length_map, List.length_replicate, hxl, List.size_toArray, List.length_cons, List.length_nil]; omega
        · have : (xs.map (Value.int .i64) ++ List.replicate m (Value.int .i64 0)).length = (n + m) * 1 := by simp [hxl]
          simp only [Array.toList_append, List.append_assoc]
          rw [← List.append_assoc, e1, ← this]
          exact List.take_left
  obtain ⟨v', w', hr, g1, g2, g3⟩ := key
  unfold Oper.wp
  simp [execOp, ho, resolve, invoke, builtin, hs, hx, hr, Result.andThen]
  exact h v' w' g1 g2 g3
--PART2
theorem cell_keepsF {w w' : World} {g : Nat} {p : Addr} {v : Value} (h : w.cell? p = some v) (f : Fr g (g + 1) w w') (hp : g < p.block) : w'.cell? p = some v := by
  have hl := World.block_lt_of_cell? w _ h
  exact (f.cell hl (by omega)).trans h
/-- append of a whole slice of ints to an empty one that has just been made. -/
theorem append_own_ints {w0 : World} {ops : Array Oper} {rest : List Oper} {o : Oper} {a : Act} {Q : Exit → Act → World → Prop} {lo hi n c b off : Nat} {l : List Int}
    (h : Ints w0 lo hi (some ⟨b, off, none⟩) n l)
    (s u : Operand) (hgd : o.guard = none)
    (ho : o.op = .call { callee := .builtin .append, args := #[s, u], argTypes := #[22, 22] })
    (hs : a.eval s = .slice (some ⟨w0.heap.size, 0, none⟩) 0 0) (hx : a.eval u = .slice (some ⟨b, off, none⟩) n c)
    (k : ∀ v' w', Has w' w0.heap.size 3 1 v' n (l.map (Value.int .i64)) → Keeps w0 w' → wpList Tryz.prog ops Q rest (a.put o.dst v') w') : wpList Tryz.prog ops Q (o :: rest) a (w0.alloc (.cells #[] 3)) := by
  obtain ⟨i, hi, hz0, hz1, hz2⟩ := info_parts info_int
  have hn := h.le
  have hl := h.1
  refine wpList_append_own _ hgd s u 22 ho w0.heap.size 3 i _ 1 8 Tryz.underlying22 hi hz0 hz1 hz2 rfl (by omega) _ 0 [] hs (World.ownsRow_made w0 #[] 0 (Nat.le_refl _) (Nat.zero_le _) rfl) ⟨b, off, none⟩ n c (l.map (Value.int .i64)) hx (by simp [hl]) (fun j y hy => ?_) (fun y hy => ?_) (by unfold maxLen; omega) (by omega) (by simp) (fun v' w' h2 h3 _ => ?_)
  · rw [Addr.add_lit]
    obtain ⟨hj, rfl⟩ := List.getElem?_eq_some_iff.1 hy
    have hj' : j < n := by simpa [hl] using hj
    obtain ⟨b', off', e, _, _, hc⟩ := h.2.2.2 (by omega)
    obtain ⟨rfl, rfl⟩ : b = b' ∧ off = off' := by simpa using e
    have := hc j hj'
    refine cell_keeps (this.trans ?_) (keeps_alloc _ _)
    simp [List.getD, hl, hj']
  · obtain ⟨x, _, rfl⟩ := List.mem_map.1 hy
    rfl
  · refine k v' w' (by simpa using h2) (((Below.refl _ w0).alloc (Nat.le_refl _) _).grown h3 (by simp) (fun k hk => ?_))
    simp [Value.ownBlock] at hk
    omega
/-- A copy of one's own. -/
def OwnRes (w : World) (xs : List Int) (n : Nat) (e : Ending) (w' : World) : Prop := ∃ A C, e = .returned (.slice A n C) ∧ Has w' w.heap.size 3 1 (.slice A n C) n (xs.map (Value.int .i64)) ∧ Keeps w w'
set_option maxRecDepth 100000 in
set_option maxHeartbeats 1600000 in
theorem l1Own_any {lo hi n c b off : Nat} {xs : List Int} {w : World} (h : Ints w lo hi (some ⟨b, off, none⟩) n xs) :
    Calls Tryz.prog 128 #[.slice (some ⟨b, off, none⟩) n c] w (OwnRes w xs n) := by
  go_enter Tryz.func128, Tryz.ntmps128
  go_wp2_with (at_builtin; refine append_own_ints h _ _ rfl rfl rfl rfl ?_; intro v' w' hown hb)
  obtain ⟨A1, C1, e1⟩ := hown.form
  cases e1
  go_wp2
  go_ret
  exact ⟨A1, C1, rfl, hown, hb⟩
/-- A geography. -/
def GeoOk (xs : List Int) : Prop := xs.getD 0 0 = -1 ∧ ∀ j, j < xs.length → j = 0 ∨ (0 ≤ xs.getD j 0 ∧ xs.getD j 0 < (j : Int))
theorem GeoOk.snoc {xs : List Int} {n : Nat} {y : Int} (h : GeoOk xs) (hl : xs.length = n) (hn : 1 ≤ n) (hy : 0 ≤ y ∧ y < (n : Int)) : GeoOk (xs ++ [y]) := by
  have key : ∀ j, j < xs.length → (xs ++ [y]).getD j 0 = xs.getD j 0 := fun j e => by simp only [List.getD]; rw [List.getElem?_append_left e]
  refine ⟨by rw [key 0 (by omega)]; exact h.1, fun j hj => ?_⟩
  rw [List.length_append, List.length_singleton] at hj
  by_cases e : j < xs.length
  · rw [key j e]; exact h.2 j e
  · obtain rfl : j = xs.length := by omega
    rw [show (xs ++ [y]).getD xs.length 0 = y by simp [List.getD], hl]; exact .inr hy
def DrawsG (w : World) (g : Nat) (T : Int) (m M : Nat) (e : Ending) (w' : World) : Prop := ∃ (A : Option Addr) (N C : Nat) (xs : List Int), e = .returned (.agg #[.slice A N C]) ∧ Has w' w.heap.size 3 1 (.slice A N C) N (xs.map (Value.int .i64)) ∧ (m ≤ N ∧ N ≤ M ∧ GeoOk xs) ∧ Cur w' g T ∧ Fr g (g + 1) w w'
def Apart' (v : Value) (g : Nat) : Prop := ∀ b, v.ownBlock = some b → b ≠ g
/-- A list of one's own behind a box. -/
structure GB (w : World) (B G : Nat) (v : Value) (n : Nat) (xs : List Int) : Prop where
  own : Has w B 3 1 v n (xs.map (Value.int .i64))
  box : B1 w G v
  ap : Apart' v G
theorem GB.fr {w w' : World} {B G n l u : Nat} {v : Value} {xs : List Int} (h : GB w B G v n xs) (f : Fr l u w w') (ho : u ≤ B) (hG : u ≤ G) : GB w' B G v n xs := ⟨Has.fr h.own f ho, h.box.fr f (by omega), h.ap⟩
theorem GB.keeps {w w' : World} {B G n : Nat} {v : Value} {xs : List Int} (h : GB w B G v n xs) (k : Keeps w w') : GB w' B G v n xs := ⟨Has.below h.own k, h.box.keeps k, h.ap⟩
/-- Behind an append and the store of its result into the box. -/
theorem GB.put {w w' : World} {B G n n' : Nat} {v v' : Value} {xs ys : List Int} (h : GB w B G v n xs) (p1 : Has w' B 3 1 v' n' (ys.map (Value.int .i64))) (p2 : w.grownBy w' v.ownBlock) (p3 : v'.ownBlock = v.ownBlock ∨ v'.ownBlock = some w.heap.size) : GB (w'.setCell ⟨G, 0, none⟩ v') B G v' n' ys := by
  have hl := h.box.lt
  have ha : Apart' v' G := fun b hb => by
    rcases p3 with e | e
    · rw [e] at hb; exact h.ap b hb
    · rw [e] at hb; injection hb with hb; omega
  have eG : w'.heap[G]? = w.heap[G]? := p2.block G hl (fun e => h.ap G e.symm rfl)
  have cG : w'.cell? ⟨G, 0, none⟩ = some v := (World.cell?_of_block (w := w) eG).trans h.box.1
  have fG : w'.frozen? ⟨G, 0, none⟩ = false := (World.frozen?_of_block (w := w) eG).trans h.box.2
  refine ⟨?_, ⟨World.cell?_setCell_same _ _ _ cG, by simpa using fG⟩, ha⟩
  refine World.ownsRow.kept p1 (row := some G) ⟨rfl, rfl, rfl, by simp [World.setCell], fun k hk hne => Below.heap_setCell _ _ _ _ (fun e => hne (by rw [e]))⟩ ?_
  cases hv : v'.ownBlock with
  | none => exact .inl rfl
  | some b => exact .inr (fun e => ha b hv (by injection e))
theorem GB.boxA {w w' : World} {B G n : Nat} {v : Value} {xs : List Int} (h : GB w B G v n xs) (p2 : w.grownBy w' v.ownBlock) : B1 w' G v := by
  have eG : w'.heap[G]? = w.heap[G]? := p2.block G h.box.lt (fun e => h.ap G e.symm rfl)
  exact ⟨(World.cell?_of_block (w := w) eG).trans h.box.1, (World.frozen?_of_block (w := w) eG).trans h.box.2⟩
theorem Has.low {w : World} {B B' e size n : Nat} {v : Value} {cs : List Value} (h : Has w B e size v n cs) (hB : B' ≤ B) : Has w B' e size v n cs := by
  obtain ⟨h1, h2⟩ := h
  refine ⟨h1, ?_⟩
  rcases h2 with h2 | ⟨g, cap, cur, hv, hg, rest⟩
  · exact .inl h2
  · exact .inr ⟨g, cap, cur, hv, Nat.le_trans hB hg, rest⟩
theorem GB.below {w w' : World} {B G n : Nat} {v v' : Value} {xs : List Int} (h : GB w B G v n xs) (hB : B ≤ w.heap.size) (p2 : w.grownBy w' v.ownBlock) (hG : B ≤ G) : Below B w (w'.setCell ⟨G, 0, none⟩ v') :=
  ((Below.refl B w).grown p2 hB (fun k hk => (h.own.lt k hk).1)).setCell (p := ⟨G, 0, none⟩) hG v'
/-- A call of pick in a region that draws its order. -/
theorem step_pick {W : World} {ops : Array Oper} {o : Oper} {a : Act} {K : Act → World → Prop} {Q : Exit → Act → World → Prop} {E : Prop} {g : Nat} {T n : Int}
    (hc : Cur W g T) (hT : T ≤ 999999999999999) (hn : n ≤ 65536) (hgd : o.guard = none)
    (hrun : (execOp a.eval o).run Tryz.prog W = .ok (.enter 76 #[.pointer (some ⟨g, 0, none⟩), .int .i64 n]) W)
    (h : ∀ x w', (0 ≤ x ∧ (x < n ∨ n ≤ 1 ∧ x = 0)) → Cur w' g (T + 2) → Fr g (g + 1) W w' → K (a.put o.dst (.int .i64 x)) w') :
    if Region.wanted o (yielded ops a.tmps) = true then Oper.wp Tryz.prog o a W K Q else E := by
  have hw : Region.wanted o (yielded ops a.tmps) = true := by simp [Region.wanted, hgd]
  rw [if_pos hw]
  unfold Oper.wp
  rw [hrun, Oper.upon_enter]
  refine (pick_any hc hT hn).mono fun e w' hh => ?_
  obtain ⟨x, rfl, hx, h1, h2⟩ := hh
  exact h x w' hx h1 h2
theorem step_among {W : World} {ops : Array Oper} {o : Oper} {a : Act} {K : Act → World → Prop} {Q : Exit → Act → World → Prop} {E : Prop} {g lo hi n c : Nat} {A : Option Addr} {xs : List Int} {T : Int}
    (hc : Cur W g T) (hT : T ≤ 999999999999999) (hx : Ints W lo hi A n xs) (hg : g < lo) (h0 : 0 < n) (hn : n ≤ 65536) (hgd : o.guard = none)
    (hrun : (execOp a.eval o).run Tryz.prog W = .ok (.enter 113 #[.pointer (some ⟨g, 0, none⟩), .slice A n c]) W)
    (h : ∀ x w', Cur w' g (T + 2) → Fr g (g + 1) W w' → K (a.put o.dst (.int .i64 x)) w') :
    if Region.wanted o (yielded ops a.tmps) = true then Oper.wp Tryz.prog o a W K Q else E := by
  have hw : Region.wanted o (yielded ops a.tmps) = true := by simp [Region.wanted, hgd]
  rw [if_pos hw]
  unfold Oper.wp
  rw [hrun, Oper.upon_enter]
  refine (among_any hc hT hx hg h0 hn).mono fun e w' hh => ?_
  obtain ⟨x, _, rfl, _, _, h1, h2⟩ := hh
  exact h x w' h1 h2
set_option maxRecDepth 100000 in
set_option maxHeartbeats 6400000 in
theorem geo_any {g : Nat} {T : Int} {w : World} (h : Cur w g T) (hT : T ≤ 800000000000000) :
    Calls Tryz.prog 149 #[.pointer (some ⟨g, 0, none⟩)] w (DrawsG w g (T + 30) 1 11) := by
  have lg := h.lt
  have f : Fr g (g + 1) w w := Fr.refl _ _ _
  have hc := h
  replace f := f.keeps (keeps_alloc w (.cells #[.slice none 0 0] 32))
  replace hc := hc.keeps (keeps_alloc w (.cells #[.slice none 0 0] 32))
  have b2 : B1 (w.alloc (.cells #[.slice none 0 0] 32)) w.heap.size (.slice none 0 0) := B1.new' rfl
  replace f := f.keeps (keeps_alloc (w.alloc (.cells #[.slice none 0 0] 32)) (.cells #[.int .i64 (-1), .int .i64 0, .int .i64 0] 3))
  replace hc := hc.keeps (keeps_alloc (w.alloc (.cells #[.slice none 0 0] 32)) (.cells #[.int .i64 (-1), .int .i64 0, .int .i64 0] 3))
  replace b2 := b2.keeps (keeps_alloc (w.alloc (.cells #[.slice none 0 0] 32)) (.cells #[.int .i64 (-1), .int .i64 0, .int .i64 0] 3))
  have L0 : Ints ((w.alloc (.cells #[.slice none 0 0] 32)).alloc (.cells #[.int .i64 (-1), .int .i64 0, .int .i64 0] 3)) (w.heap.size + 1) (w.heap.size + 1 + 1) (some ⟨w.heap.size + 1, 0, none⟩) 3 [-1, 0, 0] := by
    have q := lit_ints (w.alloc (.cells #[.slice none 0 0] 32)) [-1, 0, 0] (by decide)
    rw [show (w.alloc (.cells #[.slice none 0 0] 32)).heap.size = w.heap.size + 1 by simp] at q
    exact q
  replace f := f.keeps (keeps_alloc ((w.alloc (.cells #[.slice none 0 0] 32)).alloc (.cells #[.int .i64 (-1), .int .i64 0, .int .i64 0] 3)) (.cells #[.int .i64 (-1), .int .i64 0, .int .i64 0, .int .i64 1, .int .i64 1, .int .i64 2, .int .i64 2] 3))
  replace hc := hc.keeps (keeps_alloc ((w.alloc (.cells #[.slice none 0 0] 32)).alloc (.cells #[.int .i64 (-1), .int .i64 0, .int .i64 0] 3)) (.cells #[.int .i64 (-1), .int .i64 0, .int .i64 0, .int .i64 1, .int .i64 1, .int .i64 2, .int .i64 2] 3))
  replace b2 := b2.keeps (keeps_alloc ((w.alloc (.cells #[.slice none 0 0] 32)).alloc (.cells #[.int .i64 (-1), .int .i64 0, .int .i64 0] 3)) (.cells #[.int .i64 (-1), .int .i64 0, .int .i64 0, .int .i64 1, .int .i64 1, .int .i64 2, .int .i64 2] 3))
  replace L0 := L0.keeps (keeps_alloc ((w.alloc (.cells #[.slice none 0 0] 32)).alloc (.cells #[.int .i64 (-1), .int .i64 0, .int .i64 0] 3)) (.cells #[.int .i64 (-1), .int .i64 0, .int .i64 0, .int .i64 1, .int .i64 1, .int .i64 2, .int .i64 2] 3))
  have L1 : Ints (((w.alloc (.cells #[.slice none 0 0] 32)).alloc (.cells #[.int .i64 (-1), .int .i64 0, .int .i64 0] 3)).alloc (.cells #[.int .i64 (-1), .int .i64 0, .int .i64 0, .int .i64 1, .int .i64 1, .int .i64 2, .int .i64 2] 3)) (w.heap.size + 1 + 1) (w.heap.size + 1 + 1 + 1) (some ⟨w.heap.size + 1 + 1, 0, none⟩) 7 [-1, 0, 0, 1, 1, 2, 2] := by
    have q := lit_ints ((w.alloc (.cells #[.slice none 0 0] 32)).alloc (.cells #[.int .i64 (-1), .int .i64 0, .int .i64 0] 3)) [-1, 0, 0, 1, 1, 2, 2] (by decide)
    rw [show ((w.alloc (.cells #[.slice none 0 0] 32)).alloc (.cells #[.int .i64 (-1), .int .i64 0, .int .i64 0] 3)).heap.size = w.heap.size + 1 + 1 by simp] at q
    exact q
  replace f := f.keeps (keeps_alloc (((w.alloc (.cells #[.slice none 0 0] 32)).alloc (.cells #[.int .i64 (-1), .int .i64 0, .int .i64 0] 3)).alloc (.cells #[.int .i64 (-1), .int .i64 0, .int .i64 0, .int .i64 1, .int .i64 1, .int .i64 2, .int .i64 2] 3)) (.cells #[.int .i64 (-1), .int .i64 0, .int .i64 0, .int .i64 0, .int .i64 1, .int .i64 1, .int .i64 2, .int .i64 3] 3))
  replace hc := hc.keeps (keeps_alloc (((w.alloc (.cells #[.slice none 0 0] 32)).alloc (.cells #[.int .i64 (-1), .int .i64 0, .int .i64 0] 3)).alloc (.cells #[.int .i64 (-1), .int .i64 0, .int .i64 0, .int .i64 1, .int .i64 1, .int .i64 2, .int .i64 2] 3)) (.cells #[.int .i64 (-1), .int .i64 0, .int .i64 0, .int .i64 0, .int .i64 1, .int .i64 1, .int .i64 2, .int .i64 3] 3))
  replace b2 := b2.keeps (keeps_alloc (((w.alloc (.cells #[.slice none 0 0] 32)).alloc (.cells #[.int .i64 (-1), .int .i64 0, .int .i64 0] 3)).alloc (.cells #[.int .i64 (-1), .int .i64 0, .int .i64 0, .int .i64 1, .int .i64 1, .int .i64 2, .int .i64 2] 3)) (.cells #[.int .i64 (-1), .int .i64 0, .int .i64 0, .int .i64 0, .int .i64 1, .int .i64 1, .int .i64 2, .int .i64 3] 3))
  replace L0 := L0.keeps (keeps_alloc (((w.alloc (.cells #[.slice none 0 0] 32)).alloc (.cells #[.int .i64 (-1), .int .i64 0, .int .i64 0] 3)).alloc (.cells #[.int .i64 (-1), .int .i64 0, .int .i64 0, .int .i64 1, .int .i64 1, .int .i64 2, .int .i64 2] 3)) (.cells #[.int .i64 (-1), .int .i64 0, .int .i64 0, .int .i64 0, .int .i64 1, .int .i64 1, .int .i64 2, .int .i64 3] 3))
  replace L1 := L1.keeps (keeps_alloc (((w.alloc (.cells #[.slice none 0 0] 32)).alloc (.cells #[.int .i64 (-1), .int .i64 0, .int .i64 0] 3)).alloc (.cells #[.int .i64 (-1), .int .i64 0, .int .i64 0, .int .i64 1, .int .i64 1, .int .i64 2, .int .i64 2] 3)) (.cells #[.int .i64 (-1), .int .i64 0, .int .i64 0, .int .i64 0, .int .i64 1, .int .i64 1, .int .i64 2, .int .i64 3] 3))
  have L2 : Ints ((((w.alloc (.cells #[.slice none 0 0] 32)).alloc (.cells #[.int .i64 (-1), .int .i64 0, .int .i64 0] 3)).alloc (.cells #[.int .i64 (-1), .int .i64 0, .int .i64 0, .int .i64 1, .int .i64 1, .int .i64 2, .int .i64 2] 3)).alloc (.cells #[.int .i64 (-1), .int .i64 0, .int .i64 0, .int .i64 0, .int .i64 1, .int .i64 1, .int .i64 2, .int .i64 3] 3)) (w.heap.size + 1 + 1 + 1) (w.heap.size + 1 + 1 + 1 + 1) (some ⟨w.heap.size + 1 + 1 + 1, 0, none⟩) 8 [-1, 0, 0, 0, 1, 1, 2, 3] := by
    have q := lit_ints (((w.alloc (.cells #[.slice none 0 0] 32)).alloc (.cells #[.int .i64 (-1), .int .i64 0, .int .i64 0] 3)).alloc (.cells #[.int .i64 (-1), .int .i64 0, .int .i64 0, .int .i64 1, .int .i64 1, .int .i64 2, .int .i64 2] 3)) [-1, 0, 0, 0, 1, 1, 2, 3] (by decide)
    rw [show (((w.alloc (.cells #[.slice none 0 0] 32)).alloc (.cells #[.int .i64 (-1), .int .i64 0, .int .i64 0] 3)).alloc (.cells #[.int .i64 (-1), .int .i64 0, .int .i64 0, .int .i64 1, .int .i64 1, .int .i64 2, .int .i64 2] 3)).heap.size = w.heap.size + 1 + 1 + 1 by simp] at q
    exact q
  replace f := f.keeps (keeps_alloc ((((w.alloc (.cells #[.slice none 0 0] 32)).alloc (.cells #[.int .i64 (-1), .int .i64 0, .int .i64 0] 3)).alloc (.cells #[.int .i64 (-1), .int .i64 0, .int .i64 0, .int .i64 1, .int .i64 1, .int .i64 2, .int .i64 2] 3)).alloc (.cells #[.int .i64 (-1), .int .i64 0, .int .i64 0, .int .i64 0, .int .i64 1, .int .i64 1, .int .i64 2, .int .i64 3] 3)) (.cells #[.int .i64 (-1), .int .i64 0, .int .i64 0, .int .i64 1, .int .i64 1] 3))
  replace hc := hc.keeps (keeps_alloc ((((w.alloc (.cells #[.slice none 0 0] 32)).alloc (.cells #[.int .i64 (-1), .int .i64 0, .int .i64 0] 3)).alloc (.cells #[.int .i64 (-1), .int .i64 0, .int .i64 0, .int .i64 1, .int .i64 1, .int .i64 2, .int .i64 2] 3)).alloc (.cells #[.int .i64 (-1), .int .i64 0, .int .i64 0, .int .i64 0, .int .i64 1, .int .i64 1, .int .i64 2, .int .i64 3] 3)) (.cells #[.int .i64 (-1), .int .i64 0, .int .i64 0, .int .i64 1, .int .i64 1] 3))
  replace b2 := b2.keeps (keeps_alloc ((((w.alloc (.cells #[.slice none 0 0] 32)).alloc (.cells #[.int .i64 (-1), .int .i64 0, .int .i64 0] 3)).alloc (.cells #[.int .i64 (-1), .int .i64 0, .int .i64 0, .int .i64 1, .int .i64 1, .int .i64 2, .int .i64 2] 3)).alloc (.cells #[.int .i64 (-1), .int .i64 0, .int .i64 0, .int .i64 0, .int .i64 1, .int .i64 1, .int .i64 2, .int .i64 3] 3)) (.cells #[.int .i64 (-1), .int .i64 0, .int .i64 0, .int .i64 1, .int .i64 1] 3))
  replace L0 := L0.keeps (keeps_alloc ((((w.alloc (.cells #[.slice none 0 0] 32)).alloc (.cells #[.int .i64 (-1), .int .i64 0, .int .i64 0] 3)).alloc (.cells #[.int .i64 (-1), .int .i64 0, .int .i64 0, .int .i64 1, .int .i64 1, .int .i64 2, .int .i64 2] 3)).alloc (.cells #[.int .i64 (-1), .int .i64 0, .int .i64 0, .int .i64 0, .int .i64 1, .int .i64 1, .int .i64 2, .int .i64 3] 3)) (.cells #[.int .i64 (-1), .int .i64 0, .int .i64 0, .int .i64 1, .int .i64 1] 3))
  replace L1 := L1.keeps (keeps_alloc ((((w.alloc (.cells #[.slice none 0 0] 32)).alloc (.cells #[.int .i64 (-1), .int .i64 0, .int .i64 0] 3)).alloc (.cells #[.int .i64 (-1), .int .i64 0, .int .i64 0, .int .i64 1, .int .i64 1, .int .i64 2, .int .i64 2] 3)).alloc (.cells #[.int .i64 (-1), .int .i64 0, .int .i64 0, .int .i64 0, .int .i64 1, .int .i64 1, .int .i64 2, .int .i64 3] 3)) (.cells #[.int .i64 (-1), .int .i64 0, .int .i64 0, .int .i64 1, .int .i64 1] 3))
  replace L2 := L2.keeps (keeps_alloc ((((w.alloc (.cells #[.slice none 0 0] 32)).alloc (.cells #[.int .i64 (-1), .int .i64 0, .int .i64 0] 3)).alloc (.cells #[.int .i64 (-1), .int .i64 0, .int .i64 0, .int .i64 1, .int .i64 1, .int .i64 2, .int .i64 2] 3)).alloc (.cells #[.int .i64 (-1), .int .i64 0, .int .i64 0, .int .i64 0, .int .i64 1, .int .i64 1, .int .i64 2, .int .i64 3] 3)) (.cells #[.int .i64 (-1), .int .i64 0, .int .i64 0, .int .i64 1, .int .i64 1] 3))
  have L3 : Ints (((((w.alloc (.cells #[.slice none 0 0] 32)).alloc (.cells #[.int .i64 (-1), .int .i64 0, .int .i64 0] 3)).alloc (.cells #[.int .i64 (-1), .int .i64 0, .int .i64 0, .int .i64 1, .int .i64 1, .int .i64 2, .int .i64 2] 3)).alloc (.cells #[.int .i64 (-1), .int .i64 0, .int .i64 0, .int .i64 0, .int .i64 1, .int .i64 1, .int .i64 2, .int .i64 3] 3)).alloc (.cells #[.int .i64 (-1), .int .i64 0, .int .i64 0, .int .i64 1, .int .i64 1] 3)) (w.heap.size + 1 + 1 + 1 + 1) (w.heap.size + 1 + 1 + 1 + 1 + 1) (some ⟨w.heap.size + 1 + 1 + 1 + 1, 0, none⟩) 5 [-1, 0, 0, 1, 1] := by
    have q := lit_ints ((((w.alloc (.cells #[.slice none 0 0] 32)).alloc (.cells #[.int .i64 (-1), .int .i64 0, .int .i64 0] 3)).alloc (.cells #[.int .i64 (-1), .int .i64 0, .int .i64 0, .int .i64 1, .int .i64 1, .int .i64 2, .int .i64 2] 3)).alloc (.cells #[.int .i64 (-1), .int .i64 0, .int .i64 0, .int .i64 0, .int .i64 1, .int .i64 1, .int .i64 2, .int .i64 3] 3)) [-1, 0, 0, 1, 1] (by decide)
    rw [show ((((w.alloc (.cells #[.slice none 0 0] 32)).alloc (.cells #[.int .i64 (-1), .int .i64 0, .int .i64 0] 3)).alloc (.cells #[.int .i64 (-1), .int .i64 0, .int .i64 0, .int .i64 1, .int .i64 1, .int .i64 2, .int .i64 2] 3)).alloc (.cells #[.int .i64 (-1), .int .i64 0, .int .i64 0, .int .i64 0, .int .i64 1, .int .i64 1, .int .i64 2, .int .i64 3] 3)).heap.size = w.heap.size + 1 + 1 + 1 + 1 by simp] at q
    exact q
  replace f := f.keeps (keeps_alloc (((((w.alloc (.cells #[.slice none 0 0] 32)).alloc (.cells #[.int .i64 (-1), .int .i64 0, .int .i64 0] 3)).alloc (.cells #[.int .i64 (-1), .int .i64 0, .int .i64 0, .int .i64 1, .int .i64 1, .int .i64 2, .int .i64 2] 3)).alloc (.cells #[.int .i64 (-1), .int .i64 0, .int .i64 0, .int .i64 0, .int .i64 1, .int .i64 1, .int .i64 2, .int .i64 3] 3)).alloc (.cells #[.int .i64 (-1), .int .i64 0, .int .i64 0, .int .i64 1, .int .i64 1] 3)) (.cells #[.int .i64 (-1)] 3))
  replace hc := hc.keeps (keeps_alloc (((((w.alloc (.cells #[.slice none 0 0] 32)).alloc (.cells #[.int .i64 (-1), .int .i64 0, .int .i64 0] 3)).alloc (.cells #[.int .i64 (-1), .int .i64 0, .int .i64 0, .int .i64 1, .int .i64 1, .int .i64 2, .int .i64 2] 3)).alloc (.cells #[.int .i64 (-1), .int .i64 0, .int .i64 0, .int .i64 0, .int .i64 1, .int .i64 1, .int .i64 2, .int .i64 3] 3)).alloc (.cells #[.int .i64 (-1), .int .i64 0, .int .i64 0, .int .i64 1, .int .i64 1] 3)) (.cells #[.int .i64 (-1)] 3))
  replace b2 := b2.keeps (keeps_alloc (((((w.alloc (.cells #[.slice none 0 0] 32)).alloc (.cells #[.int .i64 (-1), .int .i64 0, .int .i64 0] 3)).alloc (.cells #[.int .i64 (-1), .int .i64 0, .int .i64 0, .int .i64 1, .int .i64 1, .int .i64 2, .int .i64 2] 3)).alloc (.cells #[.int .i64 (-1), .int .i64 0, .int .i64 0, .int .i64 0, .int .i64 1, .int .i64 1, .int .i64 2, .int .i64 3] 3)).alloc (.cells #[.int .i64 (-1), .int .i64 0, .int .i64 0, .int .i64 1, .int .i64 1] 3)) (.cells #[.int .i64 (-1)] 3))
  replace L0 := L0.keeps (keeps_alloc (((((w.alloc (.cells #[.slice none 0 0] 32)).alloc (.cells #[.int .i64 (-1), .int .i64 0, .int .i64 0] 3)).alloc (.cells #[.int .i64 (-1), .int .i64 0, .int .i64 0, .int .i64 1, .int .i64 1, .int .i64 2, .int .i64 2] 3)).alloc (.cells #[.int .i64 (-1), .int .i64 0, .int .i64 0, .int .i64 0, .int .i64 1, .int .i64 1, .int .i64 2, .int .i64 3] 3)).alloc (.cells #[.int .i64 (-1), .int .i64 0, .int .i64 0, .int .i64 1, .int .i64 1] 3)) (.cells #[.int .i64 (-1)] 3))
  replace L1 := L1.keeps (keeps_alloc (((((w.alloc (.cells #[.slice none 0 0] 32)).alloc (.cells #[.int .i64 (-1), .int .i64 0, .int .i64 0] 3)).alloc (.cells #[.int .i64 (-1), .int .i64 0, .int .i64 0, .int .i64 1, .int .i64 1, .int .i64 2, .int .i64 2] 3)).alloc (.cells #[.int .i64 (-1), .int .i64 0, .int .i64 0, .int .i64 0, .int .i64 1, .int .i64 1, .int .i64 2, .int .i64 3] 3)).alloc (.cells #[.int .i64 (-1), .int .i64 0, .int .i64 0, .int .i64 1, .int .i64 1] 3)) (.cells #[.int .i64 (-1)] 3))
  replace L2 := L2.keeps (keeps_alloc (((((w.alloc (.cells #[.slice none 0 0] 32)).alloc (.cells #[.int .i64 (-1), .int .i64 0, .int .i64 0] 3)).alloc (.cells #[.int .i64 (-1), .int .i64 0, .int .i64 0, .int .i64 1, .int .i64 1, .int .i64 2, .int .i64 2] 3)).alloc (.cells #[.int .i64 (-1), .int .i64 0, .int .i64 0, .int .i64 0, .int .i64 1, .int .i64 1, .int .i64 2, .int .i64 3] 3)).alloc (.cells #[.int .i64 (-1), .int .i64 0, .int .i64 0, .int .i64 1, .int .i64 1] 3)) (.cells #[.int .i64 (-1)] 3))
  replace L3 := L3.keeps (keeps_alloc (((((w.alloc (.cells #[.slice none 0 0] 32)).alloc (.cells #[.int .i64 (-1), .int .i64 0, .int .i64 0] 3)).alloc (.cells #[.int .i64 (-1), .int .i64 0, .int .i64 0, .int .i64 1, .int .i64 1, .int .i64 2, .int .i64 2] 3)).alloc (.cells #[.int .i64 (-1), .int .i64 0, .int .i64 0, .int .i64 0, .int .i64 1, .int .i64 1, .int .i64 2, .int .i64 3] 3)).alloc (.cells #[.int .i64 (-1), .int .i64 0, .int .i64 0, .int .i64 1, .int .i64 1] 3)) (.cells #[.int .i64 (-1)] 3))
  have L4 : Ints ((((((w.alloc (.cells #[.slice none 0 0] 32)).alloc (.cells #[.int .i64 (-1), .int .i64 0, .int .i64 0] 3)).alloc (.cells #[.int .i64 (-1), .int .i64 0, .int .i64 0, .int .i64 1, .int .i64 1, .int .i64 2, .int .i64 2] 3)).alloc (.cells #[.int .i64 (-1), .int .i64 0, .int .i64 0, .int .i64 0, .int .i64 1, .int .i64 1, .int .i64 2, .int .i64 3] 3)).alloc (.cells #[.int .i64 (-1), .int .i64 0, .int .i64 0, .int .i64 1, .int .i64 1] 3)).alloc (.cells #[.int .i64 (-1)] 3)) (w.heap.size + 1 + 1 + 1 + 1 + 1) (w.heap.size + 1 + 1 + 1 + 1 + 1 + 1) (some ⟨w.heap.size + 1 + 1 + 1 + 1 + 1, 0, none⟩) 1 [-1] := by
    have q := lit_ints (((((w.alloc (.cells #[.slice none 0 0] 32)).alloc (.cells #[.int .i64 (-1), .int .i64 0, .int .i64 0] 3)).alloc (.cells #[.int .i64 (-1), .int .i64 0, .int .i64 0, .int .i64 1, .int .i64 1, .int .i64 2, .int .i64 2] 3)).alloc (.cells #[.int .i64 (-1), .int .i64 0, .int .i64 0, .int .i64 0, .int .i64 1, .int .i64 1, .int .i64 2, .int .i64 3] 3)).alloc (.cells #[.int .i64 (-1), .int .i64 0, .int .i64 0, .int .i64 1, .int .i64 1] 3)) [-1] (by decide)
    rw [show (((((w.alloc (.cells #[.slice none 0 0] 32)).alloc (.cells #[.int .i64 (-1), .int .i64 0, .int .i64 0] 3)).alloc (.cells #[.int .i64 (-1), .int .i64 0, .int .i64 0, .int .i64 1, .int .i64 1, .int .i64 2, .int .i64 2] 3)).alloc (.cells #[.int .i64 (-1), .int .i64 0, .int .i64 0, .int .i64 0, .int .i64 1, .int .i64 1, .int .i64 2, .int .i64 3] 3)).alloc (.cells #[.int .i64 (-1), .int .i64 0, .int .i64 0, .int .i64 1, .int .i64 1] 3)).heap.size = w.heap.size + 1 + 1 + 1 + 1 + 1 by simp] at q
    exact q
  replace f := f.keeps (keeps_alloc ((((((w.alloc (.cells #[.slice none 0 0] 32)).alloc (.cells #[.int .i64 (-1), .int .i64 0, .int .i64 0] 3)).alloc (.cells #[.int .i64 (-1), .int .i64 0, .int .i64 0, .int .i64 1, .int .i64 1, .int .i64 2, .int .i64 2] 3)).alloc (.cells #[.int .i64 (-1), .int .i64 0, .int .i64 0, .int .i64 0, .int .i64 1, .int .i64 1, .int .i64 2, .int .i64 3] 3)).alloc (.cells #[.int .i64 (-1), .int .i64 0, .int .i64 0, .int .i64 1, .int .i64 1] 3)).alloc (.cells #[.int .i64 (-1)] 3)) (.cells #[.int .i64 (-1), .int .i64 0, .int .i64 1, .int .i64 2] 3))
  replace hc := hc.keeps (keeps_alloc ((((((w.alloc (.cells #[.slice none 0 0] 32)).alloc (.cells #[.int .i64 (-1), .int .i64 0, .int .i64 0] 3)).alloc (.cells #[.int .i64 (-1), .int .i64 0, .int .i64 0, .int .i64 1, .int .i64 1, .int .i64 2, .int .i64 2] 3)).alloc (.cells #[.int .i64 (-1), .int .i64 0, .int .i64 0, .int .i64 0, .int .i64 1, .int .i64 1, .int .i64 2, .int .i64 3] 3)).alloc (.cells #[.int .i64 (-1), .int .i64 0, .int .i64 0, .int .i64 1, .int .i64 1] 3)).alloc (.cells #[.int .i64 (-1)] 3)) (.cells #[.int .i64 (-1), .int .i64 0, .int .i64 1, .int .i64 2] 3))
  replace b2 := b2.keeps (keeps_alloc ((((((w.alloc (.cells #[.slice none 0 0] 32)).alloc (.cells #[.int .i64 (-1), .int .i64 0, .int .i64 0] 3)).alloc (.cells #[.int .i64 (-1), .int .i64 0, .int .i64 0, .int .i64 1, .int .i64 1, .int .i64 2, .int .i64 2] 3)).alloc (.cells #[.int .i64 (-1), .int .i64 0, .int .i64 0, .int .i64 0, .int .i64 1, .int .i64 1, .int .i64 2, .int .i64 3] 3)).alloc (.cells #[.int .i64 (-1), .int .i64 0, .int .i64 0, .int .i64 1, .int .i64 1] 3)).alloc (.cells #[.int .i64 (-1)] 3)) (.cells #[.int .i64 (-1), .int .i64 0, .int .i64 1, .int .i64 2] 3))
  replace L0 := L0.keeps (keeps_alloc ((((((w.alloc (.cells #[.slice none 0 0] 32)).alloc (.cells #[.int .i64 (-1), .int .i64 0, .int .i64 0] 3)).alloc (.cells #[.int .i64 (-1), .int .i64 0, .int .i64 0, .int .i64 1, .int .i64 1, .int .i64 2, .int .i64 2] 3)).alloc (.cells #[.int .i64 (-1), .int .i64 0, .int .i64 0, .int .i64 0, .int .i64 1, .int .i64 1, .int .i64 2, .int .i64 3] 3)).alloc (.cells #[.int .i64 (-1), .int .i64 0, .int .i64 0, .int .i64 1, .int .i64 1] 3)).alloc (.cells #[.int .i64 (-1)] 3)) (.cells #[.int .i64 (-1), .int .i64 0, .int .i64 1, .int .i64 2] 3))
  replace L1 := L1.keeps (keeps_alloc ((((((w.alloc (.cells #[.slice none 0 0] 32)).alloc (.cells #[.int .i64 (-1), .int .i64 0, .int .i64 0] 3)).alloc (.cells #[.int .i64 (-1), .int .i64 0, .int .i64 0, .int .i64 1, .int .i64 1, .int .i64 2, .int .i64 2] 3)).alloc (.cells #[.int .i64 (-1), .int .i64 0, .int .i64 0, .int .i64 0, .int .i64 1, .int .i64 1, .int .i64 2, .int .i64 3] 3)).alloc (.cells #[.int .i64 (-1), .int .i64 0, .int .i64 0, .int .i64 1, .int .i64 1] 3)).alloc (.cells #[.int .i64 (-1)] 3)) (.cells #[.int .i64 (-1), .int .i64 0, .int .i64 1, .int .i64 2] 3))
  replace L2 := L2.keeps (keeps_alloc ((((((w.alloc (.cells #[.slice none 0 0] 32)).alloc (.cells #[.int .i64 (-1), .int .i64 0, .int .i64 0] 3)).alloc (.cells #[.int .i64 (-1), .int .i64 0, .int .i64 0, .int .i64 1, .int .i64 1, .int .i64 2, .int .i64 2] 3)).alloc (.cells #[.int .i64 (-1), .int .i64 0, .int .i64 0, .int .i64 0, .int .i64 1, .int .i64 1, .int .i64 2, .int .i64 3] 3)).alloc (.cells #[.int .i64 (-1), .int .i64 0, .int .i64 0, .int .i64 1, .int .i64 1] 3)).alloc (.cells #[.int .i64 (-1)] 3)) (.cells #[.int .i64 (-1), .int .i64 0, .int .i64 1, .int .i64 2] 3))
  replace L3 := L3.keeps (keeps_alloc ((((((w.alloc (.cells #[.slice none 0 0] 32)).alloc (.cells #[.int .i64 (-1), .int .i64 0, .int .i64 0] 3)).alloc (.cells #[.int .i64 (-1), .int .i64 0, .int .i64 0, .int .i64 1, .int .i64 1, .int .i64 2, .int .i64 2] 3)).alloc (.cells #[.int .i64 (-1), .int .i64 0, .int .i64 0, .int .i64 0, .int .i64 1, .int .i64 1, .int .i64 2, .int .i64 3] 3)).alloc (.cells #[.int .i64 (-1), .int .i64 0, .int .i64 0, .int .i64 1, .int .i64 1] 3)).alloc (.cells #[.int .i64 (-1)] 3)) (.cells #[.int .i64 (-1), .int .i64 0, .int .i64 1, .int .i64 2] 3))
  replace L4 := L4.keeps (keeps_alloc ((((((w.alloc (.cells #[.slice none 0 0] 32)).alloc (.cells #[.int .i64 (-1), .int .i64 0, .int .i64 0] 3)).alloc (.cells #[.int .i64 (-1), .int .i64 0, .int .i64 0, .int .i64 1, .int .i64 1, .int .i64 2, .int .i64 2] 3)).alloc (.cells #[.int .i64 (-1), .int .i64 0, .int .i64 0, .int .i64 0, .int .i64 1, .int .i64 1, .int .i64 2, .int .i64 3] 3)).alloc (.cells #[.int .i64 (-1), .int .i64 0, .int .i64 0, .int .i64 1, .int .i64 1] 3)).alloc (.cells #[.int .i64 (-1)] 3)) (.cells #[.int .i64 (-1), .int .i64 0, .int .i64 1, .int .i64 2] 3))
  have L5 : Ints (((((((w.alloc (.cells #[.slice none 0 0] 32)).alloc (.cells #[.int .i64 (-1), .int .i64 0, .int .i64 0] 3)).alloc (.cells #[.int .i64 (-1), .int .i64 0, .int .i64 0, .int .i64 1, .int .i64 1, .int .i64 2, .int .i64 2] 3)).alloc (.cells #[.int .i64 (-1), .int .i64 0, .int .i64 0, .int .i64 0, .int .i64 1, .int .i64 1, .int .i64 2, .int .i64 3] 3)).alloc (.cells #[.int .i64 (-1), .int .i64 0, .int .i64 0, .int .i64 1, .int .i64 1] 3)).alloc (.cells #[.int .i64 (-1)] 3)).alloc (.cells #[.int .i64 (-1), .int .i64 0, .int .i64 1, .int .i64 2] 3)) (w.heap.size + 1 + 1 + 1 + 1 + 1 + 1) (w.heap.size + 1 + 1 + 1 + 1 + 1 + 1 + 1) (some ⟨w.heap.size + 1 + 1 + 1 + 1 + 1 + 1, 0, none⟩) 4 [-1, 0, 1, 2] := by
    have q := lit_ints ((((((w.alloc (.cells #[.slice none 0 0] 32)).alloc (.cells #[.int .i64 (-1), .int .i64 0, .int .i64 0] 3)).alloc (.cells #[.int .i64 (-1), .int .i64 0, .int .i64 0, .int .i64 1, .int .i64 1, .int .i64 2, .int .i64 2] 3)).alloc (.cells #[.int .i64 (-1), .int .i64 0, .int .i64 0, .int .i64 0, .int .i64 1, .int .i64 1, .int .i64 2, .int .i64 3] 3)).alloc (.cells #[.int .i64 (-1), .int .i64 0, .int .i64 0, .int .i64 1, .int .i64 1] 3)).alloc (.cells #[.int .i64 (-1)] 3)) [-1, 0, 1, 2] (by decide)
    rw [show ((((((w.alloc (.cells #[.slice none 0 0] 32)).alloc (.cells #[.int .i64 (-1), .int .i64 0, .int .i64 0] 3)).alloc (.cells #[.int .i64 (-1), .int .i64 0, .int .i64 0, .int .i64 1, .int .i64 1, .int .i64 2, .int .i64 2] 3)).alloc (.cells #[.int .i64 (-1), .int .i64 0, .int .i64 0, .int .i64 0, .int .i64 1, .int .i64 1, .int .i64 2, .int .i64 3] 3)).alloc (.cells #[.int .i64 (-1), .int .i64 0, .int .i64 0, .int .i64 1, .int .i64 1] 3)).alloc (.cells #[.int .i64 (-1)] 3)).heap.size = w.heap.size + 1 + 1 + 1 + 1 + 1 + 1 by simp] at q
    exact q
  replace f := f.keeps (keeps_alloc (((((((w.alloc (.cells #[.slice none 0 0] 32)).alloc (.cells #[.int .i64 (-1), .int .i64 0, .int .i64 0] 3)).alloc (.cells #[.int .i64 (-1), .int .i64 0, .int .i64 0, .int .i64 1, .int .i64 1, .int .i64 2, .int .i64 2] 3)).alloc (.cells #[.int .i64 (-1), .int .i64 0, .int .i64 0, .int .i64 0, .int .i64 1, .int .i64 1, .int .i64 2, .int .i64 3] 3)).alloc (.cells #[.int .i64 (-1), .int .i64 0, .int .i64 0, .int .i64 1, .int .i64 1] 3)).alloc (.cells #[.int .i64 (-1)] 3)).alloc (.cells #[.int .i64 (-1), .int .i64 0, .int .i64 1, .int .i64 2] 3)) (.cells #[.slice (some ⟨w.heap.size + 1, 0, none⟩) 3 3, .slice (some ⟨w.heap.size + 1 + 1, 0, none⟩) 7 7, .slice (some ⟨w.heap.size + 1 + 1 + 1, 0, none⟩) 8 8, .slice (some ⟨w.heap.size + 1 + 1 + 1 + 1, 0, none⟩) 5 5, .slice (some ⟨w.heap.size + 1 + 1 + 1 + 1 + 1, 0, none⟩) 1 1, .slice (some ⟨w.heap.size + 1 + 1 + 1 + 1 + 1 + 1, 0, none⟩) 4 4] 22))
  replace hc := hc.keeps (keeps_alloc (((((((w.alloc (.cells #[.slice none 0 0] 32)).alloc (.cells #[.int .i64 (-1), .int .i64 0, .int .i64 0] 3)).alloc (.cells #[.int .i64 (-1), .int .i64 0, .int .i64 0, .int .i64 1, .int .i64 1, .int .i64 2, .int .i64 2] 3)).alloc (.cells #[.int .i64 (-1), .int .i64 0, .int .i64 0, .int .i64 0, .int .i64 1, .int .i64 1, .int .i64 2, .int .i64 3] 3)).alloc (.cells #[.int .i64 (-1), .int .i64 0, .int .i64 0, .int .i64 1, .int .i64 1] 3)).alloc (.cells #[.int .i64 (-1)] 3)).alloc (.cells #[.int .i64 (-1), .int .i64 0, .int .i64 1, .int .i64 2] 3)) (.cells #[.slice (some ⟨w.heap.size + 1, 0, none⟩) 3 3, .slice (some ⟨w.heap.size + 1 + 1, 0, none⟩) 7 7, .slice (some ⟨w.heap.size + 1 + 1 + 1, 0, none⟩) 8 8, .slice (some ⟨w.heap.size + 1 + 1 + 1 + 1, 0, none⟩) 5 5, .slice (some ⟨w.heap.size + 1 + 1 + 1 + 1 + 1, 0, none⟩) 1 1, .slice (some ⟨w.heap.size + 1 + 1 + 1 + 1 + 1 + 1, 0, none⟩) 4 4] 22))
  replace b2 := b2.keeps (keeps_alloc (((((((w.alloc (.cells #[.slice none 0 0] 32)).alloc (.cells #[.int .i64 (-1), .int .i64 0, .int .i64 0] 3)).alloc (.cells #[.int .i64 (-1), .int .i64 0, .int .i64 0, .int .i64 1, .int .i64 1, .int .i64 2, .int .i64 2] 3)).alloc (.cells #[.int .i64 (-1), .int .i64 0, .int .i64 0, .int .i64 0, .int .i64 1, .int .i64 1, .int .i64 2, .int .i64 3] 3)).alloc (.cells #[.int .i64 (-1), .int .i64 0, .int .i64 0, .int .i64 1, .int .i64 1] 3)).alloc (.cells #[.int .i64 (-1)] 3)).alloc (.cells #[.int .i64 (-1), .int .i64 0, .int .i64 1, .int .i64 2] 3)) (.cells #[.slice (some ⟨w.heap.size + 1, 0, none⟩) 3 3, .slice (some ⟨w.heap.size + 1 + 1, 0, none⟩) 7 7, .slice (some ⟨w.heap.size + 1 + 1 + 1, 0, none⟩) 8 8, .slice (some ⟨w.heap.size + 1 + 1 + 1 + 1, 0, none⟩) 5 5, .slice (some ⟨w.heap.size + 1 + 1 + 1 + 1 + 1, 0, none⟩) 1 1, .slice (some ⟨w.heap.size + 1 + 1 + 1 + 1 + 1 + 1, 0, none⟩) 4 4] 22))
  replace L0 := L0.keeps (keeps_alloc (((((((w.alloc (.cells #[.slice none 0 0] 32)).alloc (.cells #[.int .i64 (-1), .int .i64 0, .int .i64 0] 3)).alloc (.cells #[.int .i64 (-1), .int .i64 0, .int .i64 0, .int .i64 1, .int .i64 1, .int .i64 2, .int .i64 2] 3)).alloc (.cells #[.int .i64 (-1), .int .i64 0, .int .i64 0, .int .i64 0, .int .i64 1, .int .i64 1, .int .i64 2, .int .i64 3] 3)).alloc (.cells #[.int .i64 (-1), .int .i64 0, .int .i64 0, .int .i64 1, .int .i64 1] 3)).alloc (.cells #[.int .i64 (-1)] 3)).alloc (.cells #[.int .i64 (-1), .int .i64 0, .int .i64 1, .int .i64 2] 3)) (.cells #[.slice (some ⟨w.heap.size + 1, 0, none⟩) 3 3, .slice (some ⟨w.heap.size + 1 + 1, 0, none⟩) 7 7, .slice (some ⟨w.heap.size + 1 + 1 + 1, 0, none⟩) 8 8, .slice (some ⟨w.heap.size + 1 + 1 + 1 + 1, 0, none⟩) 5 5, .slice (some ⟨w.heap.size + 1 + 1 + 1 + 1 + 1, 0, none⟩) 1 1, .slice (some ⟨w.heap.size + 1 + 1 + 1 + 1 + 1 + 1, 0, none⟩) 4 4] 22))
  replace L1 := L1.keeps (keeps_alloc (((((((w.alloc (.cells #[.slice none 0 0] 32)).alloc (.cells #[.int .i64 (-1), .int .i64 0, .int .i64 0] 3)).alloc (.cells #[.int .i64 (-1), .int .i64 0, .int .i64 0, .int .i64 1, .int .i64 1, .int .i64 2, .int .i64 2] 3)).alloc (.cells #[.int .i64 (-1), .int .i64 0, .int .i64 0, .int .i64 0, .int .i64 1, .int .i64 1, .int .i64 2, .int .i64 3] 3)).alloc (.cells #[.int .i64 (-1), .int .i64 0, .int .i64 0, .int .i64 1, .int .i64 1] 3)).alloc (.cells #[.int .i64 (-1)] 3)).alloc (.cells #[.int .i64 (-1), .int .i64 0, .int .i64 1, .int .i64 2] 3)) (.cells #[.slice (some ⟨w.heap.size + 1, 0, none⟩) 3 3, .slice (some ⟨w.heap.size + 1 + 1, 0, none⟩) 7 7, .slice (some ⟨w.heap.size + 1 + 1 + 1, 0, none⟩) 8 8, .slice (some ⟨w.heap.size + 1 + 1 + 1 + 1, 0, none⟩) 5 5, .slice (some ⟨w.heap.size + 1 + 1 + 1 + 1 + 1, 0, none⟩) 1 1, .slice (some ⟨w.heap.size + 1 + 1 + 1 + 1 + 1 + 1, 0, none⟩) 4 4] 22))
  replace L2 := L2.keeps (keeps_alloc (((((((w.alloc (.cells #[.slice none 0 0] 32)).alloc (.cells #[.int .i64 (-1), .int .i64 0, .int .i64 0] 3)).alloc (.cells #[.int .i64 (-1), .int .i64 0, .int .i64 0, .int .i64 1, .int .i64 1, .int .i64 2, .int .i64 2] 3)).alloc (.cells #[.int .i64 (-1), .int .i64 0, .int .i64 0, .int .i64 0, .int .i64 1, .int .i64 1, .int .i64 2, .int .i64 3] 3)).alloc (.cells #[.int .i64 (-1), .int .i64 0, .int .i64 0, .int .i64 1, .int .i64 1] 3)).alloc (.cells #[.int .i64 (-1)] 3)).alloc (.cells #[.int .i64 (-1), .int .i64 0, .int .i64 1, .int .i64 2] 3)) (.cells #[.slice (some ⟨w.heap.size + 1, 0, none⟩) 3 3, .slice (some ⟨w.heap.size + 1 + 1, 0, none⟩) 7 7, .slice (some ⟨w.heap.size + 1 + 1 + 1, 0, none⟩) 8 8, .slice (some ⟨w.heap.size + 1 + 1 + 1 + 1, 0, none⟩) 5 5, .slice (some ⟨w.heap.size + 1 + 1 + 1 + 1 + 1, 0, none⟩) 1 1, .slice (some ⟨w.heap.size + 1 + 1 + 1 + 1 + 1 + 1, 0, none⟩) 4 4] 22))
  replace L3 := L3.keeps (keeps_alloc (((((((w.alloc (.cells #[.slice none 0 0] 32)).alloc (.cells #[.int .i64 (-1), .int .i64 0, .int .i64 0] 3)).alloc (.cells #[.int .i64 (-1), .int .i64 0, .int .i64 0, .int .i64 1, .int .i64 1, .int .i64 2, .int .i64 2] 3)).alloc (.cells #[.int .i64 (-1), .int .i64 0, .int .i64 0, .int .i64 0, .int .i64 1, .int .i64 1, .int .i64 2, .int .i64 3] 3)).alloc (.cells #[.int .i64 (-1), .int .i64 0, .int .i64 0, .int .i64 1, .int .i64 1] 3)).alloc (.cells #[.int .i64 (-1)] 3)).alloc (.cells #[.int .i64 (-1), .int .i64 0, .int .i64 1, .int .i64 2] 3)) (.cells #[.slice (some ⟨w.heap.size + 1, 0, none⟩) 3 3, .slice (some ⟨w.heap.size + 1 + 1, 0, none⟩) 7 7, .slice (some ⟨w.heap.size + 1 + 1 + 1, 0, none⟩) 8 8, .slice (some ⟨w.heap.size + 1 + 1 + 1 + 1, 0, none⟩) 5 5, .slice (some ⟨w.heap.size + 1 + 1 + 1 + 1 + 1, 0, none⟩) 1 1, .slice (some ⟨w.heap.size + 1 + 1 + 1 + 1 + 1 + 1, 0, none⟩) 4 4] 22))
  replace L4 := L4.keeps (keeps_alloc (((((((w.alloc (.cells #[.slice none 0 0] 32)).alloc (.cells #[.int .i64 (-1), .int .i64 0, .int .i64 0] 3)).alloc (.cells #[.int .i64 (-1), .int .i64 0, .int .i64 0, .int .i64 1, .int .i64 1, .int .i64 2, .int .i64 2] 3)).alloc (.cells #[.int .i64 (-1), .int .i64 0, .int .i64 0, .int .i64 0, .int .i64 1, .int .i64 1, .int .i64 2, .int .i64 3] 3)).alloc (.cells #[.int .i64 (-1), .int .i64 0, .int .i64 0, .int .i64 1, .int .i64 1] 3)).alloc (.cells #[.int .i64 (-1)] 3)).alloc (.cells #[.int .i64 (-1), .int .i64 0, .int .i64 1, .int .i64 2] 3)) (.cells #[.slice (some ⟨w.heap.size + 1, 0, none⟩) 3 3, .slice (some ⟨w.heap.size + 1 + 1, 0, none⟩) 7 7, .slice (some ⟨w.heap.size + 1 + 1 + 1, 0, none⟩) 8 8, .slice (some ⟨w.heap.size + 1 + 1 + 1 + 1, 0, none⟩) 5 5, .slice (some ⟨w.heap.size + 1 + 1 + 1 + 1 + 1, 0, none⟩) 1 1, .slice (some ⟨w.heap.size + 1 + 1 + 1 + 1 + 1 + 1, 0, none⟩) 4 4] 22))
  replace L5 := L5.keeps (keeps_alloc (((((((w.alloc (.cells #[.slice none 0 0] 32)).alloc (.cells #[.int .i64 (-1), .int .i64 0, .int .i64 0] 3)).alloc (.cells #[.int .i64 (-1), .int .i64 0, .int .i64 0, .int .i64 1, .int .i64 1, .int .i64 2, .int .i64 2] 3)).alloc (.cells #[.int .i64 (-1), .int .i64 0, .int .i64 0, .int .i64 0, .int .i64 1, .int .i64 1, .int .i64 2, .int .i64 3] 3)).alloc (.cells #[.int .i64 (-1), .int .i64 0, .int .i64 0, .int .i64 1, .int .i64 1] 3)).alloc (.cells #[.int .i64 (-1)] 3)).alloc (.cells #[.int .i64 (-1), .int .i64 0, .int .i64 1, .int .i64 2] 3)) (.cells #[.slice (some ⟨w.heap.size + 1, 0, none⟩) 3 3, .slice (some ⟨w.heap.size + 1 + 1, 0, none⟩) 7 7, .slice (some ⟨w.heap.size + 1 + 1 + 1, 0, none⟩) 8 8, .slice (some ⟨w.heap.size + 1 + 1 + 1 + 1, 0, none⟩) 5 5, .slice (some ⟨w.heap.size + 1 + 1 + 1 + 1 + 1, 0, none⟩) 1 1, .slice (some ⟨w.heap.size + 1 + 1 + 1 + 1 + 1 + 1, 0, none⟩) 4 4] 22))
  have HP := hid (show ∀ j : Nat, j < 6 → ∃ b n xs, ((((((((w.alloc (.cells #[.slice none 0 0] 32)).alloc (.cells #[.int .i64 (-1), .int .i64 0, .int .i64 0] 3)).alloc (.cells #[.int .i64 (-1), .int .i64 0, .int .i64 0, .int .i64 1, .int .i64 1, .int .i64 2, .int .i64 2] 3)).alloc (.cells #[.int .i64 (-1), .int .i64 0, .int .i64 0, .int .i64 0, .int .i64 1, .int .i64 1, .int .i64 2, .int .i64 3] 3)).alloc (.cells #[.int .i64 (-1), .int .i64 0, .int .i64 0, .int .i64 1, .int .i64 1] 3)).alloc (.cells #[.int .i64 (-1)] 3)).alloc (.cells #[.int .i64 (-1), .int .i64 0, .int .i64 1, .int .i64 2] 3)).alloc (.cells #[.slice (some ⟨w.heap.size + 1, 0, none⟩) 3 3, .slice (some ⟨w.heap.size + 1 + 1, 0, none⟩) 7 7, .slice (some ⟨w.heap.size + 1 + 1 + 1, 0, none⟩) 8 8, .slice (some ⟨w.heap.size + 1 + 1 + 1 + 1, 0, none⟩) 5 5, .slice (some ⟨w.heap.size + 1 + 1 + 1 + 1 + 1, 0, none⟩) 1 1, .slice (some ⟨w.heap.size + 1 + 1 + 1 + 1 + 1 + 1, 0, none⟩) 4 4] 22)).cell? ⟨w.heap.size + 1 + 1 + 1 + 1 + 1 + 1 + 1, j, none⟩ = some (.slice (some ⟨b, 0, none⟩) n n) ∧ Ints ((((((((w.alloc (.cells #[.slice none 0 0] 32)).alloc (.cells #[.int .i64 (-1), .int .i64 0, .int .i64 0] 3)).alloc (.cells #[.int .i64 (-1), .int .i64 0, .int .i64 0, .int .i64 1, .int .i64 1, .int .i64 2, .int .i64 2] 3)).alloc (.cells #[.int .i64 (-1), .int .i64 0, .int .i64 0, .int .i64 0, .int .i64 1, .int .i64 1, .int .i64 2, .int .i64 3] 3)).alloc (.cells #[.int .i64 (-1), .int .i64 0, .int .i64 0, .int .i64 1, .int .i64 1] 3)).alloc (.cells #[.int .i64 (-1)] 3)).alloc (.cells #[.int .i64 (-1), .int .i64 0, .int .i64 1, .int .i64 2] 3)).alloc (.cells #[.slice (some ⟨w.heap.size + 1, 0, none⟩) 3 3, .slice (some ⟨w.heap.size + 1 + 1, 0, none⟩) 7 7, .slice (some ⟨w.heap.size + 1 + 1 + 1, 0, none⟩) 8 8, .slice (some ⟨w.heap.size + 1 + 1 + 1 + 1, 0, none⟩) 5 5, .slice (some ⟨w.heap.size + 1 + 1 + 1 + 1 + 1, 0, none⟩) 1 1, .slice (some ⟨w.heap.size + 1 + 1 + 1 + 1 + 1 + 1, 0, none⟩) 4 4] 22)) w.heap.size ((((((((w.alloc (.cells #[.slice none 0 0] 32)).alloc (.cells #[.int .i64 (-1), .int .i64 0, .int .i64 0] 3)).alloc (.cells #[.int .i64 (-1), .int .i64 0, .int .i64 0, .int .i64 1, .int .i64 1, .int .i64 2, .int .i64 2] 3)).alloc (.cells #[.int .i64 (-1), .int .i64 0, .int .i64 0, .int .i64 0, .int .i64 1, .int .i64 1, .int .i64 2, .int .i64 3] 3)).alloc (.cells #[.int .i64 (-1), .int .i64 0, .int .i64 0, .int .i64 1, .int .i64 1] 3)).alloc (.cells #[.int .i64 (-1)] 3)).alloc (.cells #[.int .i64 (-1), .int .i64 0, .int .i64 1, .int .i64 2] 3)).alloc (.cells #[.slice (some ⟨w.heap.size + 1, 0, none⟩) 3 3, .slice (some ⟨w.heap.size + 1 + 1, 0, none⟩) 7 7, .slice (some ⟨w.heap.size + 1 + 1 + 1, 0, none⟩) 8 8, .slice (some ⟨w.heap.size + 1 + 1 + 1 + 1, 0, none⟩) 5 5, .slice (some ⟨w.heap.size + 1 + 1 + 1 + 1 + 1, 0, none⟩) 1 1, .slice (some ⟨w.heap.size + 1 + 1 + 1 + 1 + 1 + 1, 0, none⟩) 4 4] 22)).heap.size (some ⟨b, 0, none⟩) n xs ∧ (1 ≤ n ∧ n ≤ 8 ∧ GeoOk xs) from fun j hj => by
    have hh := heap_alloc_new (((((((w.alloc (.cells #[.slice none 0 0] 32)).alloc (.cells #[.int .i64 (-1), .int .i64 0, .int .i64 0] 3)).alloc (.cells #[.int .i64 (-1), .int .i64 0, .int .i64 0, .int .i64 1, .int .i64 1, .int .i64 2, .int .i64 2] 3)).alloc (.cells #[.int .i64 (-1), .int .i64 0, .int .i64 0, .int .i64 0, .int .i64 1, .int .i64 1, .int .i64 2, .int .i64 3] 3)).alloc (.cells #[.int .i64 (-1), .int .i64 0, .int .i64 0, .int .i64 1, .int .i64 1] 3)).alloc (.cells #[.int .i64 (-1)] 3)).alloc (.cells #[.int .i64 (-1), .int .i64 0, .int .i64 1, .int .i64 2] 3)) (.cells #[.slice (some ⟨w.heap.size + 1, 0, none⟩) 3 3, .slice (some ⟨w.heap.size + 1 + 1, 0, none⟩) 7 7, .slice (some ⟨w.heap.size + 1 + 1 + 1, 0, none⟩) 8 8, .slice (some ⟨w.heap.size + 1 + 1 + 1 + 1, 0, none⟩) 5 5, .slice (some ⟨w.heap.size + 1 + 1 + 1 + 1 + 1, 0, none⟩) 1 1, .slice (some ⟨w.heap.size + 1 + 1 + 1 + 1 + 1 + 1, 0, none⟩) 4 4] 22)
    rw [show (((((((w.alloc (.cells #[.slice none 0 0] 32)).alloc (.cells #[.int .i64 (-1), .int .i64 0, .int .i64 0] 3)).alloc (.cells #[.int .i64 (-1), .int .i64 0, .int .i64 0, .int .i64 1, .int .i64 1, .int .i64 2, .int .i64 2] 3)).alloc (.cells #[.int .i64 (-1), .int .i64 0, .int .i64 0, .int .i64 0, .int .i64 1, .int .i64 1, .int .i64 2, .int .i64 3] 3)).alloc (.cells #[.int .i64 (-1), .int .i64 0, .int .i64 0, .int .i64 1, .int .i64 1] 3)).alloc (.cells #[.int .i64 (-1)] 3)).alloc (.cells #[.int .i64 (-1), .int .i64 0, .int .i64 1, .int .i64 2] 3)).heap.size = w.heap.size + 1 + 1 + 1 + 1 + 1 + 1 + 1 by simp] at hh
    have hk : ∀ j v, #[Value.slice (some ⟨w.heap.size + 1, 0, none⟩) 3 3, Value.slice (some ⟨w.heap.size + 1 + 1, 0, none⟩) 7 7, Value.slice (some ⟨w.heap.size + 1 + 1 + 1, 0, none⟩) 8 8, Value.slice (some ⟨w.heap.size + 1 + 1 + 1 + 1, 0, none⟩) 5 5, Value.slice (some ⟨w.heap.size + 1 + 1 + 1 + 1 + 1, 0, none⟩) 1 1, Value.slice (some ⟨w.heap.size + 1 + 1 + 1 + 1 + 1 + 1, 0, none⟩) 4 4][j]? = some v → ((((((((w.alloc (.cells #[.slice none 0 0] 32)).alloc (.cells #[.int .i64 (-1), .int .i64 0, .int .i64 0] 3)).alloc (.cells #[.int .i64 (-1), .int .i64 0, .int .i64 0, .int .i64 1, .int .i64 1, .int .i64 2, .int .i64 2] 3)).alloc (.cells #[.int .i64 (-1), .int .i64 0, .int .i64 0, .int .i64 0, .int .i64 1, .int .i64 1, .int .i64 2, .int .i64 3] 3)).alloc (.cells #[.int .i64 (-1), .int .i64 0, .int .i64 0, .int .i64 1, .int .i64 1] 3)).alloc (.cells #[.int .i64 (-1)] 3)).alloc (.cells #[.int .i64 (-1), .int .i64 0, .int .i64 1, .int .i64 2] 3)).alloc (.cells #[.slice (some ⟨w.heap.size + 1, 0, none⟩) 3 3, .slice (some ⟨w.heap.size + 1 + 1, 0, none⟩) 7 7, .slice (some ⟨w.heap.size + 1 + 1 + 1, 0, none⟩) 8 8, .slice (some ⟨w.heap.size + 1 + 1 + 1 + 1, 0, none⟩) 5 5, .slice (some ⟨w.heap.size + 1 + 1 + 1 + 1 + 1, 0, none⟩) 1 1, .slice (some ⟨w.heap.size + 1 + 1 + 1 + 1 + 1 + 1, 0, none⟩) 4 4] 22)).cell? ⟨w.heap.size + 1 + 1 + 1 + 1 + 1 + 1 + 1, j, none⟩ = some v := fun j v hv => by rw [cell_of_row _ _ j _ _ _ hh]; exact hv
    rcases j with _ | _ | _ | _ | _ | _ | j
    · exact ⟨_, _, _, hk 0 _ rfl, L0.widen (by omega) (by first | (simp; done) | (simp; omega)) (Nat.le_refl _), by omega, by omega, (by unfold GeoOk; decide)⟩
    · exact ⟨_, _, _, hk 1 _ rfl, L1.widen (by omega) (by first | (simp; done) | (simp; omega)) (Nat.le_refl _), by omega, by omega, (by unfold GeoOk; decide)⟩
    · exact ⟨_, _, _, hk 2 _ rfl, L2.widen (by omega) (by first | (simp; done) | (simp; omega)) (Nat.le_refl _), by omega, by omega, (by unfold GeoOk; decide)⟩
    · exact ⟨_, _, _, hk 3 _ rfl, L3.widen (by omega) (by first | (simp; done) | (simp; omega)) (Nat.le_refl _), by omega, by omega, (by unfold GeoOk; decide)⟩
    · exact ⟨_, _, _, hk 4 _ rfl, L4.widen (by omega) (by first | (simp; done) | (simp; omega)) (Nat.le_refl _), by omega, by omega, (by unfold GeoOk; decide)⟩
    · exact ⟨_, _, _, hk 5 _ rfl, L5.widen (by omega) (by first | (simp; done) | (simp; omega)) (Nat.le_refl _), by omega, by omega, (by unfold GeoOk; decide)⟩
    · omega)
  obtain ⟨w0, hX⟩ : ∃ u : World, u = ((((((((w.alloc (.cells #[.slice none 0 0] 32)).alloc (.cells #[.int .i64 (-1), .int .i64 0, .int .i64 0] 3)).alloc (.cells #[.int .i64 (-1), .int .i64 0, .int .i64 0, .int .i64 1, .int .i64 1, .int .i64 2, .int .i64 2] 3)).alloc (.cells #[.int .i64 (-1), .int .i64 0, .int .i64 0, .int .i64 0, .int .i64 1, .int .i64 1, .int .i64 2, .int .i64 3] 3)).alloc (.cells #[.int .i64 (-1), .int .i64 0, .int .i64 0, .int .i64 1, .int .i64 1] 3)).alloc (.cells #[.int .i64 (-1)] 3)).alloc (.cells #[.int .i64 (-1), .int .i64 0, .int .i64 1, .int .i64 2] 3)).alloc (.cells #[.slice (some ⟨w.heap.size + 1, 0, none⟩) 3 3, .slice (some ⟨w.heap.size + 1 + 1, 0, none⟩) 7 7, .slice (some ⟨w.heap.size + 1 + 1 + 1, 0, none⟩) 8 8, .slice (some ⟨w.heap.size + 1 + 1 + 1 + 1, 0, none⟩) 5 5, .slice (some ⟨w.heap.size + 1 + 1 + 1 + 1 + 1, 0, none⟩) 1 1, .slice (some ⟨w.heap.size + 1 + 1 + 1 + 1 + 1 + 1, 0, none⟩) 4 4] 22)) := ⟨_, rfl⟩
  have szX := hid (show w0.heap.size = w.heap.size + 1 + 1 + 1 + 1 + 1 + 1 + 1 + 1 by rw [hX]; simp)
  clear L0 L1 L2 L3 L4 L5
  rw [← hX] at f hc HP b2
  go_enter Tryz.func149, Tryz.ntmps149
  go_wp2_with fail
  rw [← hX]
  clear hX
  refine (pick_any hc (by omega) (by omega)).mono ?_
  rintro e w1 ⟨x, rfl, hx, hc1, f1⟩
  obtain ⟨j, rfl⟩ : ∃ j : Nat, x = j := ⟨x.toNat, by omega⟩
  obtain ⟨b, n, xs, hcell, hI, hn1, hn2, hok⟩ := HP.out j (by omega)
  have hn : 1 ≤ n ∧ n ≤ 8 := ⟨hn1, hn2⟩
  have HOK := hid hok
  clear hn1 hn2 hok
  have hz0 := szX.out
  have hcell1 := cell_keepsF hcell f1 (by show g < w.heap.size + 1 + 1 + 1 + 1 + 1 + 1 + 1; omega)
  have hI1 := hI.fr f1 (by omega)
  have f2 := f.trans f1
  have s1 := f1.size
  have hj1 : (j : Int) < 6 := by omega
  replace b2 := b2.fr f1 (by omega)
  clear hc f f1 hcell hI HP
  go_wp2_with fail
  refine (l1Own_any hI1).mono ?_
  rintro e w2 ⟨A, C, rfl, hown, k2⟩
  have hc2 := hc1.keeps k2
  have f3 := f2.keeps k2
  have s2 := k2.size
  replace b2 := b2.keeps k2
  clear hc1 f2 k2 hI1 hcell1
  have hown2 := Has.below hown (keeps_alloc w2 (.cells #[.slice A n C] 32))
  have hc3 := hc2.keeps (keeps_alloc w2 (.cells #[.slice A n C] 32))
  have f4 := f3.keeps (keeps_alloc w2 (.cells #[.slice A n C] 32))
  replace b2 := b2.keeps (keeps_alloc w2 (.cells #[.slice A n C] 32))
  have gb : GB (w2.alloc (.cells #[.slice A n C] 32)) w1.heap.size w2.heap.size (.slice A n C) n xs := ⟨hown2, B1.new' rfl, fun b hb => by have := (hown.lt b hb).2; omega⟩
  clear hown hown2 hc2 f3
  go_wp2_with fail
  refine (pick_any hc3 (by omega) (by omega)).mono ?_
  rintro e w3 ⟨q, rfl, hq, hc4, f5⟩
  have gb3 := gb.fr f5 (by omega) (by omega)
  have f6 := f4.trans f5
  have s3 := f5.size
  simp at s3
  replace b2 := b2.fr f5 (by omega)
  clear gb hc3 f4 f5
  obtain ⟨K, rfl⟩ : ∃ K : Nat, q = K := ⟨q.toNat, by omega⟩
  go_wp2_with fail
  go_loopw [5] (fun sk wr => ∃ (m n : Nat) (v : Value) (xs : List Int), sk = .int .i64 m ∧ GB wr w1.heap.size w2.heap.size v n xs ∧ Hid (GeoOk xs) ∧ (1 ≤ n ∧ n + m ≤ 11) ∧ Cur wr g (T + 4 + 2 * n) ∧ Fr g (g + 1) w wr ∧ w1.heap.size ≤ wr.heap.size ∧ B1 wr w.heap.size (.slice none 0 0)) (fun sk _ => (intOf sk).toNat)
  case atStart => exact ⟨K, n, _, xs, rfl, gb3, HOK, by omega, hc4.mono (by omega), f6, by omega, b2⟩
  clear gb3 hc4 f6 b2
  case round =>
    obtain ⟨m, n, v, xs, rfl, gb, HOK, hn, hc, f, sr, b2⟩ := hrel
    obtain ⟨A, C, e1⟩ := gb.own.form
    cases e1
    by_cases hm : 0 < m
    · have hm1 : (m : Int) > 0 := by omega
      obtain ⟨z1, z2⟩ := id gb.box
      go_wp2_with fail
      have hcD := hc.keeps (keeps_d0 wr)
      have gbD := gb.keeps (keeps_d0 wr)
      have b2D := b2.keeps (keeps_d0 wr)
      have fD := f.keeps (keeps_d0 wr)
      have sD := (keeps_d0 wr).size
      clear hc gb b2 f
      go_region_law ((first | (refine step_pick (n := (n : Int)) hcD (by omega) (by omega) rfl (by kernel_rfl) ?_; intro y wB hy hcB fB; have gbB := gbD.fr fB (by omega) (by omega); have b2B := b2D.fr fB (by omega); have fBB := fD.trans fB; have sB := fB.size; clear fB; obtain ⟨y1, y2⟩ := id gbB.box; have y3 := (gbB.keeps (keeps_alloc wB (.cells #[.int .i64 y] 3))).box.1; have y4 := gbB.box.lt) | (have q1 := Has.below gbB.own (keeps_alloc wB (.cells #[.int .i64 y] 3)); have q2 : n ≤ 67108864 := (by omega); have q3 : w1.heap.size ≤ (wB.alloc (.cells #[.int .i64 y] 3)).heap.size := (by simp; omega); have q4 := heap_alloc_new wB (.cells #[.int .i64 y] 3); refine step_append_int_at (xs := xs) q1 q2 q3 _ _ rfl rfl rfl rfl q4 ?_; clear q1 q2 q4; intro v' w' p1 p2 p3; have bxA := GB.boxA (gbB.keeps (keeps_alloc wB (.cells #[.int .i64 y] 3))) p2; obtain ⟨u1, u2⟩ := bxA; clear y1 y2 y3 y4 z1 z2; have fm := Has.form p1; obtain ⟨A', C', e'⟩ := fm; subst e')))
      all_goals (
        have gbA := gbB.keeps (keeps_alloc wB (.cells #[.int .i64 y] 3))
        have HG := hid (gbA.put p1 p2 p3)
        have HOK9 := hid (HOK.out.snoc (n := n) (by have := gbA.own.1; simpa using this) hn.1 (by omega) : GeoOk (xs ++ [y]))
        have HL := hid (gbA.below (v' := .slice A' (n + 1) C') q3 p2 s2)
        clear p1 p2 p3 gbA q3 u1 u2
        go_wp2_with fail
        go_roundw
        case rel => exact ⟨m - 1, n + 1, _, _, by congr 1; omega, HG.out, HOK9, by omega, ((hcB.keeps (keeps_alloc _ _)).below HL.out (by omega)).mono (by omega), (fBB.keeps (keeps_alloc _ _)).below HL.out (by omega), by have := HL.out.size; simp at this ⊢; omega, (b2B.keeps (keeps_alloc _ _)).below HL.out (by omega)⟩
        case measure => simp [intOf]; omega)
    · obtain rfl : m = 0 := by omega
      obtain ⟨z1, z2⟩ := id gb.box
      obtain ⟨z3, z4⟩ := id b2
      have HO := hid (gb.own)
      have fw : Fr w.heap.size (w.heap.size + 1) wr (wr.setCell ⟨w.heap.size, 0, none⟩ (.slice A n C)) := (Fr.refl _ _ _).setCell (p := ⟨w.heap.size, 0, none⟩) (Nat.le_refl _) (Nat.lt_succ_self _) _
      have HW := hid fw
      clear fw
      go_wp2_with fail
      refine bodyPost_ret (v := .agg #[.slice A n C]) (by simp [results, Tryz.results149, go_sem, z1, z2, z3, z4]) rfl ⟨A, n, C, xs, rfl, Has.low (Has.fr HO.out HW.out (by omega)) (by omega), ⟨by omega, by omega, HOK.out⟩, (hc.fr HW.out (by omega)).mono (by omega), f.setNew (p := ⟨w.heap.size, 0, none⟩) (Nat.le_refl _) _⟩
end Go.Proofs.YtlkjhkkfdmjfcaaGreatDoor
namespace Go.Proofs.YtlkjhkkfdmjfcaaGreatDoor
open Go.RowKit
set_option linter.unusedVariables false
set_option linter.unusedSimpArgs false
/-- Any geography, perhaps not a valid one. -/
def DrawsH (w : World) (g : Nat) (T : Int) (e : Ending) (w' : World) : Prop := ∃ (A : Option Addr) (N C : Nat) (xs : List Int), e = .returned (.agg #[.slice A N C]) ∧ Ints w' w.heap.size w'.heap.size A N xs ∧ (N ≤ 45 ∧ N ≤ C) ∧ Cur w' g T ∧ Fr g (g + 1) w w'
theorem Has.cap {w : World} {B e size n c : Nat} {A : Option Addr} {cs : List Value} (h : Has w B e size (.slice A n c) n cs) : n ≤ c := by
  rcases h.2 with ⟨h1, h2⟩ | ⟨g, cap, cur, hv, _, _, hnc, _⟩
  · injection h1 with _ h3 h4; omega
  · injection hv with _ _ h3; omega
theorem zK {N : Nat} {y : Int} (hN : 1 ≤ N ∧ N ≤ 11) (hy : 0 ≤ y ∧ (y < 2 ∨ (2 : Int) ≤ 1 ∧ y = 0)) : ∃ K : Nat, IntKind.i64.wrap (IntKind.i64.wrap (30 - (N : Int)) + y) = K ∧ 0 < K ∧ K ≤ 31 := by
  rw [IntWalk.i64_in (30 - (N : Int)) (by omega), IntWalk.i64_in _ (by omega)]
  exact ⟨(30 - (N : Int) + y).toNat, by omega, by omega, by omega⟩
set_option maxRecDepth 100000 in
set_option maxHeartbeats 6400000 in
theorem anyGeo_any {g : Nat} {T : Int} {w : World} (h : Cur w g T) (hT : T ≤ 700000000000000) :
    Calls Tryz.prog 111 #[.pointer (some ⟨g, 0, none⟩)] w (DrawsH w g (T + 50)) := by
  have lg := h.lt
  have f0 : Fr g (g + 1) w (w.alloc (.cells #[.slice none 0 0] 32)) := (Fr.refl _ _ _).keeps (keeps_alloc w _)
  have hc0 := h.keeps (keeps_alloc w (.cells #[.slice none 0 0] 32))
  have b2 : B1 (w.alloc (.cells #[.slice none 0 0] 32)) w.heap.size (.slice none 0 0) := B1.new' rfl
  go_enter Tryz.func111, Tryz.ntmps111
  go_wp2_with fail
  refine (geo_any hc0 (by omega)).mono ?_
  rintro e w1 ⟨A, N, C, xs, rfl, hown, hN, hc1, f1⟩
  replace hN : 1 ≤ N ∧ N ≤ 11 := ⟨hN.1, hN.2.1⟩
  have sz1 := f1.size
  simp at sz1
  have hown := Has.low hown (B' := w.heap.size + 1) (by simp)
  have f2 := f0.trans f1
  replace b2 := b2.fr f1 (by omega)
  have hown2 := Has.below hown (keeps_alloc w1 (.cells #[.slice A N C] 32))
  have hc2 := hc1.keeps (keeps_alloc w1 (.cells #[.slice A N C] 32))
  have f3 := f2.keeps (keeps_alloc w1 (.cells #[.slice A N C] 32))
  replace b2 := b2.keeps (keeps_alloc w1 (.cells #[.slice A N C] 32))
  have gb : GB (w1.alloc (.cells #[.slice A N C] 32)) (w.heap.size + 1) w1.heap.size (.slice A N C) N xs := ⟨hown2, B1.new' rfl, fun b hb => by have := (hown.lt b hb).2; omega⟩
  clear hown hown2 hc1 f2 f0 hc0 f1
  go_wp2_with fail
  refine (pick_any hc2 (by omega) (by omega)).mono ?_
  rintro e w3 ⟨q, rfl, hq, hc3, f4⟩
  have gb3 := gb.fr f4 (by omega) (by omega)
  have f5 := f3.trans f4
  have s3 := f4.size
  simp at s3
  replace b2 := b2.fr f4 (by omega)
  clear gb hc2 f3 f4
  have gl := gb3.box.lt
  by_cases h2 : q = 2
  · subst h2
    obtain ⟨z3, z4⟩ := id b2
    have HW := hid ((Fr.refl w.heap.size (w.heap.size + 1) w3).setCell (p := ⟨w.heap.size, 0, none⟩) (Nat.le_refl _) (Nat.lt_succ_self _) (.slice none 0 0))
    go_wp2_with fail
    exact bodyPost_ret (v := .agg #[.slice none 0 0]) (by simp [results, Tryz.results111, go_sem, z3, z4]) rfl ⟨none, 0, 0, [], rfl, Ints.nil_ _ _ _, by omega, (hc3.fr HW.out (by omega)).mono (by omega), f5.setNew (p := ⟨w.heap.size, 0, none⟩) (Nat.le_refl _) _⟩
  have t2 : (q == 2) = false := by rw [beq_eq_false_iff_ne]; exact h2
  by_cases h0 : q = 0
  · subst h0
    have cp := Has.cap gb3.own
    obtain ⟨ga, e1, hga, ma⟩ := gb3.own.block (by omega) (by omega)
    cases e1
    have hne : ga ≠ w1.heap.size := gb3.ap ga rfl
    obtain ⟨b', off', x, e', _, _, hcx, hxx⟩ := ma.1.at_ (k := 0) (by omega)
    injection e' with e'; injection e' with e1 e2; subst e1; subst e2
    have hfz := ma.2 ga 0 rfl 0 (by omega)
    obtain ⟨m6, f6⟩ := ma.set_ (k := 0) (by omega) 0
    rw [Nat.add_zero] at hcx hfz m6 f6
    clear hxx
    have M6 := hid m6
    have F6 := hid f6
    clear m6 f6
    have hN1 : (0 : Int) < (N : Int) := by omega
    obtain ⟨z1, z2⟩ := id gb3.box
    have bx := gb3.box.fr F6.out (by omega)
    have b22 := b2.fr F6.out (by omega)
    obtain ⟨z5, z6⟩ := id bx
    obtain ⟨z7, z8⟩ := id b22
    have HW := hid ((Fr.refl w.heap.size (w.heap.size + 1) (w3.setCell ⟨ga, 0, none⟩ (.int .i64 0))).setCell (p := ⟨w.heap.size, 0, none⟩) (Nat.le_refl _) (Nat.lt_succ_self _) (.slice (some ⟨ga, 0, none⟩) N C))
    go_wp2_with fail
    have es : ((w3.setCell ⟨ga, 0, none⟩ (.int .i64 0)).setCell ⟨w.heap.size, 0, none⟩ (.slice (some ⟨ga, 0, none⟩) N C)).heap.size = w3.heap.size := by simp [World.setCell]
    have hm2 := (M6.out.1.fr HW.out (by omega)).widen (lo' := w.heap.size) (hi' := ((w3.setCell ⟨ga, 0, none⟩ (.int .i64 0)).setCell ⟨w.heap.size, 0, none⟩ (.slice (some ⟨ga, 0, none⟩) N C)).heap.size) (by omega) (by rw [es]; have := ma.1.top; omega) (Nat.le_refl _)
    exact bodyPost_ret (v := .agg #[.slice (some ⟨ga, 0, none⟩) N C]) (by simp [results, Tryz.results111, go_sem, z1, z2, z5, z6, z7, z8]) rfl ⟨_, _, _, _, rfl, hm2, by omega, ((hc3.fr F6.out (by omega)).fr HW.out (by omega)).mono (by omega), (f5.setNew (p := ⟨ga, 0, none⟩) (by show w.heap.size ≤ ga; omega) _).setNew (p := ⟨w.heap.size, 0, none⟩) (Nat.le_refl _) _⟩
  have t0 : (q == 0) = false := by rw [beq_eq_false_iff_ne]; exact h0
  by_cases h1 : q = 1
  · subst h1
    obtain ⟨z1, z2⟩ := id gb3.box
    have O3 := hid (show True from trivial)
    have hcD := (hc3.keeps (keeps_alloc w3 (.cells #[.int .i64 (-1), .int .i64 N, .int .i64 0] 3))).keeps (keeps_d0 _)
    have gbD := (gb3.keeps (keeps_alloc w3 (.cells #[.int .i64 (-1), .int .i64 N, .int .i64 0] 3))).keeps (keeps_d0 _)
    have b2D := (b2.keeps (keeps_alloc w3 (.cells #[.int .i64 (-1), .int .i64 N, .int .i64 0] 3))).keeps (keeps_d0 _)
    have fD := (f5.keeps (keeps_alloc w3 (.cells #[.int .i64 (-1), .int .i64 N, .int .i64 0] 3))).keeps (keeps_d0 _)
    have L : Ints (w3.alloc (.cells #[.int .i64 (-1), .int .i64 N, .int .i64 0] 3)).drew w3.heap.size (w3.heap.size + 1) (some ⟨w3.heap.size, 0, none⟩) 3 [-1, N, 0] := (lit_ints w3 [-1, N, 0] (by simp)).drew
    have c3 : 3 ≤ 65536 := by decide
    have c0 : 0 < 3 := by decide
    have cT : T + 30 + 2 ≤ 999999999999999 := by omega
    have zA := gbD.box.1
    have sD : w3.heap.size ≤ (w3.alloc (.cells #[.int .i64 (-1), .int .i64 N, .int .i64 0] 3)).drew.heap.size := ((keeps_alloc w3 (.cells #[.int .i64 (-1), .int .i64 N, .int .i64 0] 3)).trans (keeps_d0 _)).size
    have gL : g < w3.heap.size := by omega
    go_wp2_with fail
    clear hc3 gb3 b2 f5
    go_region_law ((first | (refine step_among (c := 3) hcD cT L gL c0 c3 rfl (by kernel_rfl) ?_; intro y wB hcB fB; have gbB := gbD.fr fB (by omega) (by omega); have b2B := b2D.fr fB (by omega); have fBB := fD.trans fB; have sB := fB.size; clear fB; obtain ⟨y1, y2⟩ := id gbB.box; have y3 := (gbB.keeps (keeps_alloc wB (.cells #[.int .i64 y] 3))).box.1; have y4 := gbB.box.lt) | (have q1 := Has.below gbB.own (keeps_alloc wB (.cells #[.int .i64 y] 3)); have q2 : N ≤ 67108864 := (by omega); have q3 : w.heap.size + 1 ≤ (wB.alloc (.cells #[.int .i64 y] 3)).heap.size := (by simp; omega); have q4 := heap_alloc_new wB (.cells #[.int .i64 y] 3); refine step_append_int_at (xs := xs) q1 q2 q3 _ _ rfl rfl rfl rfl q4 ?_; clear q1 q2 q4; intro v' w' p1 p2 p3; have bxA := GB.boxA (gbB.keeps (keeps_alloc wB (.cells #[.int .i64 y] 3))) p2; obtain ⟨u1, u2⟩ := bxA; clear y1 y2 y3 y4 z1 z2 zA; have fm := Has.form p1; obtain ⟨A', C', e'⟩ := fm; subst e')))
    all_goals
      have gbA := gbB.keeps (keeps_alloc wB (.cells #[.int .i64 y] 3))
      have gbF := gbA.put p1 p2 p3
      have HL := hid (gbA.below (v' := .slice A' (N + 1) C') q3 p2 (by omega))
      have hcF := (hcB.keeps (keeps_alloc wB (.cells #[.int .i64 y] 3))).below HL.out (by omega)
      have fF := (fBB.keeps (keeps_alloc wB (.cells #[.int .i64 y] 3))).below HL.out (by omega)
      have b2F := (b2B.keeps (keeps_alloc wB (.cells #[.int .i64 y] 3))).below HL.out (by omega)
      clear p1 p2 p3 gbA q3 u1 u2 HL gbB hcB fBB b2B
      obtain ⟨z1, z2⟩ := id (GB.box gbF)
      obtain ⟨z3, z4⟩ := id b2F
      have HW := hid ((Fr.refl w.heap.size (w.heap.size + 1) (w'.setCell ⟨w1.heap.size, 0, none⟩ (.slice A' (N + 1) C'))).setCell (p := ⟨w.heap.size, 0, none⟩) (Nat.le_refl _) (Nat.lt_succ_self _) (.slice A' (N + 1) C'))
      have HO := hid (GB.own gbF)
      have cp := Has.cap (GB.own gbF)
      go_wp2_with fail
      have es : ((w'.setCell ⟨w1.heap.size, 0, none⟩ (.slice A' (N + 1) C')).setCell ⟨w.heap.size, 0, none⟩ (.slice A' (N + 1) C')).heap.size = (w'.setCell ⟨w1.heap.size, 0, none⟩ (.slice A' (N + 1) C')).heap.size := by simp [World.setCell]
      have hmm := (Mine.of_own HO.out (by omega)).1
      have hm2 := (hmm.fr HW.out (by omega)).widen (lo' := w.heap.size) (hi' := ((w'.setCell ⟨w1.heap.size, 0, none⟩ (.slice A' (N + 1) C')).setCell ⟨w.heap.size, 0, none⟩ (.slice A' (N + 1) C')).heap.size) (by omega) (by rw [es]; exact Nat.le_refl _) (Nat.le_refl _)
      exact bodyPost_ret (v := .agg #[.slice A' (N + 1) C']) (by simp [results, Tryz.results111, go_sem, z1, z2, z3, z4]) rfl ⟨_, _, _, _, rfl, hm2, by omega, (Cur.fr hcF HW.out (by omega)).mono (by omega), Fr.setNew fF (p := ⟨w.heap.size, 0, none⟩) (Nat.le_refl _) _⟩
  have t1 : (q == 1) = false := by rw [beq_eq_false_iff_ne]; exact h1
  by_cases h3 : q = 3
  · subst h3
    obtain ⟨z1, z2⟩ := id gb3.box
    have hcD := hc3.keeps (keeps_d0 w3)
    have gbD := gb3.keeps (keeps_d0 w3)
    have b2D := b2.keeps (keeps_d0 w3)
    have fD := f5.keeps (keeps_d0 w3)
    have sD := (keeps_d0 w3).size
    go_wp2_with fail
    clear hc3 gb3 b2 f5
    go_region_law ((first | (refine step_pick (n := 2) hcD (by omega) (by omega) rfl (by kernel_rfl) ?_; intro y wB hy hcB fB; have gbB := gbD.fr fB (by omega) (by omega); have b2B := b2D.fr fB (by omega); have fBB := fD.trans fB; have sB := fB.size; clear fB; obtain ⟨y1, y2⟩ := id gbB.box; have y4 := gbB.box.lt; have yK := zK hN hy; obtain ⟨K, hK, hK0, hK1⟩ := yK; have HK := hid hK; clear hK) | (have q3 : w.heap.size + 1 ≤ wB.heap.size := (by omega); have q5 : 0 < N := (by omega); have q6 : 0 < K := hK0; have q7 : N + K ≤ 67108864 := (by omega); refine step_append_zeros (xs := xs) gbB.own q5 q6 q7 q3 _ _ rfl rfl rfl (congrArg (Value.int .i64) HK.out) ?_; clear q5 q6 q7; intro v' w' p1 p2 p3; have bxA := GB.boxA gbB p2; obtain ⟨u1, u2⟩ := bxA; clear y1 y2 y4 z1 z2; have fm := Has.form p1; obtain ⟨A', C', e'⟩ := fm; subst e')))
    all_goals
      have gbF := gbB.put p1 p2 p3
      have HL := hid (gbB.below (v' := .slice A' (N + K) C') q3 p2 (by omega))
      have hcF := hcB.below HL.out (by omega)
      have fF := fBB.below HL.out (by omega)
      have b2F := b2B.below HL.out (by omega)
      clear p1 p2 p3 q3 u1 u2 HL gbB hcB fBB b2B
      obtain ⟨z1, z2⟩ := id (GB.box gbF)
      obtain ⟨z3, z4⟩ := id b2F
      have HW := hid ((Fr.refl w.heap.size (w.heap.size + 1) (w'.setCell ⟨w1.heap.size, 0, none⟩ (.slice A' (N + K) C'))).setCell (p := ⟨w.heap.size, 0, none⟩) (Nat.le_refl _) (Nat.lt_succ_self _) (.slice A' (N + K) C'))
      have HO := hid (GB.own gbF)
      have cp := Has.cap (GB.own gbF)
      go_wp2_with fail
      have es : ((w'.setCell ⟨w1.heap.size, 0, none⟩ (.slice A' (N + K) C')).setCell ⟨w.heap.size, 0, none⟩ (.slice A' (N + K) C')).heap.size = (w'.setCell ⟨w1.heap.size, 0, none⟩ (.slice A' (N + K) C')).heap.size := by simp [World.setCell]
      have hmm := (Mine.of_own HO.out (by omega)).1
      have hm2 := (hmm.fr HW.out (by omega)).widen (lo' := w.heap.size) (hi' := ((w'.setCell ⟨w1.heap.size, 0, none⟩ (.slice A' (N + K) C')).setCell ⟨w.heap.size, 0, none⟩ (.slice A' (N + K) C')).heap.size) (by omega) (by rw [es]; exact Nat.le_refl _) (Nat.le_refl _)
      exact bodyPost_ret (v := .agg #[.slice A' (N + K) C']) (by simp [results, Tryz.results111, go_sem, z1, z2, z3, z4]) rfl ⟨_, _, _, _, rfl, hm2, by omega, (Cur.fr hcF HW.out (by omega)).mono (by omega), Fr.setNew fF (p := ⟨w.heap.size, 0, none⟩) (Nat.le_refl _) _⟩
  have t3 : (q == 3) = false := by rw [beq_eq_false_iff_ne]; exact h3
  obtain ⟨z1, z2⟩ := id (GB.box gb3)
  obtain ⟨z3, z4⟩ := id b2
  have HW := hid ((Fr.refl w.heap.size (w.heap.size + 1) w3).setCell (p := ⟨w.heap.size, 0, none⟩) (Nat.le_refl _) (Nat.lt_succ_self _) (.slice A N C))
  have HO := hid (GB.own gb3)
  have cp := Has.cap (GB.own gb3)
  go_wp2_with fail
  have es : (w3.setCell ⟨w.heap.size, 0, none⟩ (.slice A N C)).heap.size = w3.heap.size := by simp [World.setCell]
  have hmm := (Mine.of_own HO.out (by omega)).1
  have hm2 := (hmm.fr HW.out (by omega)).widen (lo' := w.heap.size) (hi' := (w3.setCell ⟨w.heap.size, 0, none⟩ (.slice A N C)).heap.size) (by omega) (by rw [es]; exact Nat.le_refl _) (Nat.le_refl _)
  exact bodyPost_ret (v := .agg #[.slice A N C]) (by simp [results, Tryz.results111, go_sem, z1, z2, z3, z4]) rfl ⟨_, _, _, _, rfl, hm2, by omega, (Cur.fr hc3 HW.out (by omega)).mono (by omega), Fr.setNew f5 (p := ⟨w.heap.size, 0, none⟩) (Nat.le_refl _) _⟩
end Go.Proofs.YtlkjhkkfdmjfcaaGreatDoor
namespace Go.Proofs.YtlkjhkkfdmjfcaaGreatDoor
open Go.RowKit Go.Sort Go.Deep
set_option linter.unusedVariables false
set_option linter.unusedSimpArgs false
theorem GeoOk.geo {ps : List Int} (h : GeoOk ps) (h1 : 1 ≤ ps.length) (h2 : ps.length ≤ 30) : geoB ps = true := geoB_true.2 ⟨⟨h1, h2⟩, h.1, fun i hi h0 => by have := h.2 i hi; omega⟩
theorem leaves_pos {ps : List Int} (h : GeoOk ps) (h1 : 1 ≤ ps.length) : 0 < (leaves ps).length := by
  obtain ⟨m, hm⟩ : ∃ m, ps.length = m + 1 := ⟨ps.length - 1, by omega⟩
  have hk : (kids ps (m : Int)).length = 0 := by
    rcases Nat.eq_zero_or_pos (kids ps (m : Int)).length with q | q
    · exact q
    · obtain ⟨j, _, h0, h2, h3⟩ := kids_getD q
      have := h.2 j h2
      omega
  unfold leaves
  rw [hm, leavesTo_yes (by unfold leafB; exact decide_eq_true hk), List.length_append]
  simp
theorem leaves_le (ps : List Int) : (leaves ps).length ≤ ps.length := by
  unfold leaves leavesTo
  rw [List.length_map]
  exact Nat.le_trans (List.length_filter_le _ _) (by simp)
theorem SchA.d {l : List VV} (h : SchA l) (h7 : l.length ≤ 7) : SchD l := ⟨h7, h⟩
/-- What a drawing function that hands back a survey leaves. -/
def DrawsSu (w : World) (g : Nat) (T : Int) (e : Ending) (w' : World) : Prop :=
  ∃ A N C ps S q cq l D nd cd cs L U ds m, e = .returned (.tuple #[.agg #[.slice A N C], .slice S q cq, .slice D nd cd]) ∧ w.heap.size + 1 ≤ m ∧ Ints w' (w.heap.size + 1) m A N ps ∧ N ≤ 45 ∧ Vars w' (w.heap.size + 1) m S q l ∧ (q ≤ cq ∧ cq ≤ maxLen) ∧ SchD l ∧ GrowR 3 () RwdN w' m m 160 (.slice D nd cd) cs L U ds ∧ ds.length = nd ∧ nd ≤ 31 ∧ Cur w' g T ∧ Fr g (g + 1) w w'
set_option maxRecDepth 100000 in
set_option maxHeartbeats 12800000 in
theorem survey_any {g : Nat} {T : Int} {w : World} (h : Cur w g T) (hT : T ≤ 100000000000000) :
    Calls Tryz.prog 110 #[.pointer (some ⟨g, 0, none⟩)] w (DrawsSu w g (T + 5000)) := by
  have lg := h.lt
  go_enter Tryz.func110, Tryz.ntmps110
  have f : Fr g (g + 1) w w := Fr.refl _ _ _
  have hc := h
  replace f := f.keeps (keeps_alloc w (.cells #[.slice none 0 0] 32))
  replace hc := hc.keeps (keeps_alloc w (.cells #[.slice none 0 0] 32))
  have b2 : Bl (w.alloc (.cells #[.slice none 0 0] 32)) w.heap.size [.slice none 0 0] := Bl.new' (by simp) (by simp)
  go_wp2_with fail
  refine (geo_any hc (by omega)).mono ?_
  rintro e w1 ⟨A1, N1, C1, ps, rfl, hGeo, ⟨hn1, hn2, hok⟩, hn, ff⟩
  replace f := f.trans ff
  clear hc
  have hc := hn
  replace b2 := b2.fr ff (by first | omega | (simp; omega))
  have sf1 := ff.size
  try simp at sf1
  clear ff hn
  have sz1 := f.size
  have lt1 := b2.lt
  have hpl : ps.length = N1 := by have := hGeo.1; simpa using this
  have iG : Ints w1 (w.heap.size + 1) w1.heap.size A1 N1 ps := Ints.widen (Mine.of_own hGeo (by omega)).1 (by simp) (Nat.le_refl _) (Nat.le_refl _)
  have HGB := hid (hok.geo (by omega) (by omega))
  have HLP := hid (leaves_pos hok (by omega))
  have HLE := hid (leaves_le ps)
  clear hGeo hok
  replace f := f.keeps (keeps_alloc w1 (.cells #[.slice A1 N1 C1] 32))
  replace hc := hc.keeps (keeps_alloc w1 (.cells #[.slice A1 N1 C1] 32))
  replace b2 := b2.keeps (keeps_alloc w1 (.cells #[.slice A1 N1 C1] 32))
  replace iG := iG.keeps (keeps_alloc w1 (.cells #[.slice A1 N1 C1] 32))
  have b5 : Bl (w1.alloc (.cells #[.slice A1 N1 C1] 32)) w1.heap.size [.slice A1 N1 C1] := Bl.new' (by simp) (by simp)
  go_wp2_with fail
  have l5 := b5.lt
  have hAl : (w1.alloc (.cells #[.slice A1 N1 C1] 32)).heap.size ≤ w1.heap.size + 1 := by simp
  have hPre : w.heap.size + 1 ≤ (w1.alloc (.cells #[.slice A1 N1 C1] 32)).heap.size := by first | omega | (simp; omega)
  refine (schema_any hc (by omega)).mono ?_
  rintro e w2 ⟨A2, n2, c2, csv, Lv, Uv, l, rfl, hS, hl2, ⟨hSA, hS1, hS3⟩, hn, ff⟩
  replace f := f.trans ff
  clear hc
  have hc := hn
  replace b2 := b2.fr ff (by first | omega | (simp; omega))
  replace b5 := b5.fr ff (by first | omega | (simp; omega))
  replace iG := iG.fr ff (by first | omega | (simp; omega))
  have sf2 := ff.size
  try simp at sf2
  clear ff hn
  have sz2 := f.size
  have lt2 := b5.lt
  have hcp9 := hS.has
  rw [hl2] at hcp9
  replace hcp9 := hcp9.cap_
  obtain ⟨Aq, cq, eq, hcap, iS⟩ := hS.vars (by omega) (by omega)
  rw [hl2] at eq iS hcap
  clear hcap
  have hcap := hcp9
  clear hcp9
  injection eq with eq1 eq9 eq2
  clear eq9
  subst eq1 eq2
  replace iS := iS.widen (lo' := w.heap.size + 1) hPre (Nat.le_refl _) (Nat.le_refl _)
  have HSD := hid (hSA.d (by omega))
  clear hS hSA
  have ca3_0 := (b5.2 0 _ rfl).1
  go_wp2_with fail
  clear ca3_0
  have b5D := b5.keeps (keeps_d0 w2)
  have b2D := b2.keeps (keeps_d0 w2)
  have hcD := hc.keeps (keeps_d0 w2)
  have fD := f.keeps (keeps_d0 w2)
  have iGD := iG.keeps (keeps_d0 w2)
  have iSD := iS.keeps (keeps_d0 w2)
  have sD : w.heap.size + 1 ≤ w2.drew.heap.size := by show _ ≤ w2.heap.size; omega
  have sD2 : w2.heap.size ≤ w2.drew.heap.size := Nat.le_refl _
  have cD := (b5D.2 0 _ rfl).1
  clear hc f b5 b2 iG iS
  go_region_held3 (fun w' => w'.cell? ⟨w1.heap.size, 0, none⟩ = some (.slice A1 N1 C1)) (first | exact cD | exact cA | exact cB | exact cF | go_keep)
    ((first | (go_at_call 152; refine (gLeaves_any iGD HGB.out).mono ?_; rintro e wA ⟨LA, LC, rfl, mL, kA⟩; have b5A := b5D.keeps kA; have b2A := b2D.keeps kA; have hcA := hcD.keeps kA; have fA := fD.keeps kA; have iGA := iGD.keeps kA; have iSA := iSD.keeps kA; have sA : w2.drew.heap.size ≤ wA.heap.size := kA.size; have sA2 : w2.heap.size ≤ wA.heap.size := sA; have cA := (b5A.2 0 _ rfl).1) | (go_at_call 151; refine (data_any hcA (by omega) iSA (by omega) HSD.out mL.1 (by show g < w2.drew.heap.size; omega) HLP.out (by have := HLE.out; omega)).mono ?_; rintro e wB ⟨Dd, nd, cd, csd, Ld, Ud, ds, rfl, hDt, hdl, hd30, hcB, fB⟩; have b5B := b5A.fr fB (by omega); have b2B := b2A.fr fB (by omega); have z1 := (b2B.2 0 _ rfl).1; have z2 := (b2B.2 0 _ rfl).2; have cB := (b5B.2 0 _ rfl).1; have cF := ((b5B.far (p := ⟨w.heap.size, 0, none⟩) (by show w1.heap.size ≠ w.heap.size; omega) (.slice A1 N1 C1)).2 0 _ rfl).1)))
  have sB := fB.size
  have HF9 := hid ((fA.trans fB).setNew (p := ⟨w.heap.size, 0, none⟩) (Nat.le_refl _) (.slice A1 N1 C1))
  have HC9 := hid (hcB.fr (fr_one (p := w.heap.size) (i := 0) (.slice A1 N1 C1)) (by omega))
  have B2 := b2B.set 0 (.slice A1 N1 C1)
  have HI9 := hid (((iGA.fr fB (by omega)).fr (fr_one (p := w.heap.size) (i := 0) (.slice A1 N1 C1)) (by omega)).widen (lo' := w.heap.size + 1) (hi' := wA.heap.size) (Nat.le_refl _) (by omega) (by simp [World.setCell]; omega))
  have HV9 := hid (Sl.widen (lo' := w.heap.size + 1) (hi' := wA.heap.size) ((iSA.fr fB (by omega)).fr (fr_one (p := w.heap.size) (i := 0) (.slice A1 N1 C1)) (by omega)) (Nat.le_refl _) (by omega) (by simp [World.setCell]; omega))
  have HD9 := hid (hDt.fr RwdN.ok (fr_one (p := w.heap.size) (i := 0) (.slice A1 N1 C1)) (by omega))
  have HCAP := hid hcap
  clear hDt hcB fB fA hcA b5A b2A iGA iSA b5D b2D hcD fD iGD iSD cD cA cB cF z1 z2 b5B b2B mL hcap
  go_wp2_with fail
  have ca0_0 := (B2.2 0 _ rfl).1
  try simp only [Exit.inBlock, Exit.then]
  exact bodyPost_ret (v := .tuple #[.agg #[.slice A1 N1 C1], .slice A2 n2 c2, .slice Dd nd cd]) (by simp [results, Tryz.results110, go_sem, ca0_0]) rfl ⟨_, _, _, ps, _, _, _, l, _, _, _, _, _, _, ds, wA.heap.size, rfl, by omega, HI9.out, by omega, HV9.out, HCAP.out, HSD.out, HD9.out, hdl, by have := hd30; omega, HC9.out.mono (by omega), HF9.out⟩
end Go.Proofs.YtlkjhkkfdmjfcaaGreatDoor
namespace Go.Proofs.YtlkjhkkfdmjfcaaGreatDoor
open Go.RowKit Go.Sort Go.Deep
set_option linter.unusedVariables false
set_option linter.unusedSimpArgs false
/-- Strings that are short. -/
structure Strs (w : World) (b n : Nat) : Prop where
  at_ : ∀ j, j < n → ∃ x, w.cell? ⟨b, j, none⟩ = some (.string x) ∧ x.size ≤ 9
theorem Strs.fr {w w' : World} {b n x y : Nat} (h : Strs w b n) (f : Fr x y w w') (hb : b < x ∨ y ≤ b) : Strs w' b n := ⟨fun j hj => by
  obtain ⟨s, h1, h2⟩ := h.at_ j hj
  exact ⟨s, (f.cell (p := ⟨b, j, none⟩) (World.block_lt_of_cell? w _ h1) hb).trans h1, h2⟩⟩
set_option maxRecDepth 100000 in
set_option maxHeartbeats 3200000 in
theorem of_any {g b n c : Nat} {T : Int} {w : World} (h : Cur w g T) (hT : T ≤ 600000000000000) (hS : Strs w b n) (hb : g < b) (h0 : 0 < n) (hn : n ≤ 65536) :
    Calls Tryz.prog 153 #[.pointer (some ⟨g, 0, none⟩), .slice (some ⟨b, 0, none⟩) n c] w fun e w' => ∃ x : ByteArray, e = .returned (.string x) ∧ x.size ≤ 9 ∧ Cur w' g (T + 2) ∧ Fr g (g + 1) w w' := by
  have lg := h.lt
  go_enter Tryz.func153, Tryz.ntmps153
  have f : Fr g (g + 1) w w := Fr.refl _ _ _
  have hc := h
  go_wp2_with fail
  refine (pick_any hc (by omega) (by omega)).mono ?_
  rintro e w1 ⟨y, rfl, hy, hn9, ff⟩
  replace f := f.trans ff
  clear hc
  have hc := hn9
  clear hn9
  have sz1 := f.size
  obtain ⟨k, rfl⟩ : ∃ k : Nat, y = k := ⟨y.toNat, by omega⟩
  have hk : k < n := by omega
  have hk1 : (k : Int) < (n : Int) := by omega
  obtain ⟨x, hx1, hx2⟩ := (hS.fr ff (by omega)).at_ k hk
  go_wp2
  go_ret
  exact ⟨x, rfl, hx2, hc, f⟩
section
variable {w : World} {m B E n c : Nat} {A : Option Addr} {cs : List Value} {L U : Nat → Nat} {l : List VV}
theorem GrowR.cellV (h : GrowR 2 v0 RwdV w m B E (.slice A n c) cs L U l) (h0 : 0 < l.length) : ∃ b, A = some ⟨b, 0, none⟩ ∧ B ≤ b ∧ b < w.heap.size ∧ (w.cell? ⟨b, 0, none⟩ = some (.string (l.getD 0 v0).1) ∧ w.frozen? ⟨b, 0, none⟩ = false) ∧ (w.cell? ⟨b, 1, none⟩ = some (.int .i64 (l.getD 0 v0).2) ∧ w.frozen? ⟨b, 1, none⟩ = false) := by
  obtain ⟨A', c', hv, _, hr⟩ := h.read
  injection hv with e1 e2 e3
  obtain ⟨b, e, h1, h2, _, u, hu, q0, q1⟩ := hr 0 h0
  have a0 := hu 0 (by omega)
  have a1 := hu 1 (by omega)
  rw [q0, Nat.zero_mul, Nat.zero_add] at a0
  rw [q1, Nat.zero_mul, Nat.zero_add] at a1
  exact ⟨b, e1.trans e, h1, h2, a0, a1⟩
theorem GrowR.setV {b i : Nat} {u9 : Value} {a : VV} (h : GrowR 2 v0 RwdV w m B E (.slice (some ⟨b, 0, none⟩) n c) cs L U l) (hi : i < 2) (ha : ∀ u : Nat → Value, RwdV w 0 0 u (l.getD 0 v0) → RwdV w 0 0 (fun j => if j = i then u9 else u j) a) : GrowR 2 v0 RwdV (w.setCell ⟨b, i, none⟩ u9) m B E (.slice (some ⟨b, 0, none⟩) n c) (cs.set i u9) L U (l.set 0 a) := by
  obtain ⟨A', c', e'⟩ := h.has.form
  injection e' with e1 e2 e3
  have hh := h.has
  rw [← e2] at hh
  have hs := (World.ownsRow.stored hh i u9).1
  refine ⟨by rw [List.length_set, ← e2]; exact hs, h.mB, fun j hj => by rw [List.length_set] at hj; simpa [World.setCell] using h.iv j hj, fun j hj => ?_⟩
  rw [List.length_set] at hj
  obtain ⟨u, h1, h2⟩ := h.row j hj
  have hl : cs.length = l.length * 2 := h.has.1
  by_cases e : j = 0
  · subst e
    refine ⟨fun j => if j = i then u9 else u j, fun q hq => ?_, ?_⟩
    · have hc0 : i < cs.length := by omega
      rw [List.getElem?_set]
      by_cases e0 : q = i
      · subst e0
        rw [if_pos (by omega), if_pos hc0]
        show some _ = some (if q = q then _ else _)
        rw [if_pos rfl]
      · rw [if_neg (by omega)]
        show cs[0 * 2 + q]? = some (if q = i then _ else u q)
        rw [if_neg e0]; exact h1 q hq
    · rw [getD_set_same hj]; exact ha u h2
  · refine ⟨u, fun q hq => ?_, ?_⟩
    · rw [List.getElem?_set, if_neg (by omega)]; exact h1 q hq
    · rw [getD_set_other (by omega)]; exact h2
end
end Go.Proofs.YtlkjhkkfdmjfcaaGreatDoor
