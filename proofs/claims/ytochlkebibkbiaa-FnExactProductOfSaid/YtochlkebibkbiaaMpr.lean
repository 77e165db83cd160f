/- ProductOf: of the reference and of the program. -/
import Derived.Test.YtochlkebibkbiaaMps
namespace Go.Proofs.Ytochlkebibkbiaa
open Go.RowKit Go.Sort
set_option linter.unusedVariables false
set_option linter.unusedSimpArgs false

/-- The product of the entry j / m of a row and the entry j % m of another. -/
def prF (aa bb : List (List QQ)) (m i j : Nat) : Int × Int × Bool :=
  mkF (((aa.getD i []).getD (j / m) (0, 0)).1 * ((bb.getD i []).getD (j % m) (0, 0)).1) (((aa.getD i []).getD (j / m) (0, 0)).2 * ((bb.getD i []).getD (j % m) (0, 0)).2)
theorem prF_at {aa bb : List (List QQ)} {m i z q : Nat} {x y u v : Int} (hq : q < m) (hx : (x, y) = (aa.getD i []).getD z (0, 0)) (hu : (u, v) = (bb.getD i []).getD q (0, 0)) : prF aa bb m i (z * m + q) = mkF (x * u) (y * v) := by
  have e1 : (z * m + q) / m = z := by rw [Nat.mul_comm, Nat.mul_add_div (by omega), Nat.div_eq_of_lt hq, Nat.add_zero]
  have e2 : (z * m + q) % m = q := by rw [Nat.mul_comm, Nat.mul_add_mod, Nat.mod_eq_of_lt hq]
  unfold prF; rw [e1, e2, ← hx, ← hu]
def prB (aa bb : List (List QQ)) : Bool := mechB aa && mechB bb && decide (aa.length = bb.length)
def prQ (aa bb : List (List QQ)) : List (List QQ) × Bool := if prB aa bb = true then nmQ (prF aa bb (bb.getD 0 []).length) aa.length ((aa.getD 0 []).length * (bb.getD 0 []).length) else ([], false)
theorem prQ_no {aa bb : List (List QQ)} (h : prB aa bb = false) : prQ aa bb = ([], false) := if_neg (by rw [h]; simp)
theorem prQ_yes {aa bb : List (List QQ)} (h : prB aa bb = true) : prQ aa bb = nmQ (prF aa bb (bb.getD 0 []).length) aa.length ((aa.getD 0 []).length * (bb.getD 0 []).length) := if_pos h
theorem prQ_len (aa bb : List (List QQ)) : (prQ aa bb).1.length ≤ 64 ∧ rowSum (prQ aa bb).1 (prQ aa bb).1.length ≤ 67108864 := by
  unfold prQ; split
  · exact nmQ_small _ _ _
  · simp [rowSum]
theorem nmQ_wide {f : Nat → Nat → Int × Int × Bool} {n k : Nat} (hn : 0 < n) (h : 24 < k) : nmQ f n k = ([], false) := by
  refine nmQ_no2 ?_
  rw [Bool.eq_false_iff]; intro hg
  have := mechB_len hg
  rw [tab_rowlen f hn] at this
  omega
theorem jq_lt {j l m : Nat} (h : j < l * m) : 0 < m ∧ j / m < l ∧ j % m < m := by
  have hm : 0 < m := by rcases Nat.eq_zero_or_pos m with rfl | h0; · simp at h
                        · exact h0
  exact ⟨hm, Nat.div_lt_of_lt_mul (by rw [Nat.mul_comm]; exact h), Nat.mod_lt _ hm⟩
theorem zq_lt {z q l m : Nat} (hz : z < l) (hq : q < m) : z * m + q < l * m := by
  have : (z + 1) * m ≤ l * m := Nat.mul_le_mul_right m hz
  rw [Nat.add_mul, Nat.one_mul] at this; omega

/-- The block of a slice that the call has built is not block g. -/
def Apart (v : Value) (g : Nat) : Prop := ∀ b, v.ownBlock = some b → b ≠ g
theorem B1.grown {w w' : World} {g : Nat} {u v : Value} (h : B1 w g u) (ha : Apart v g) (hb : ∀ b, b < w.heap.size → some b ≠ v.ownBlock → w'.heap[b]? = w.heap[b]?) : B1 w' g u := by
  have e := hb g h.lt (fun e => ha g e.symm rfl)
  exact ⟨(World.cell?_of_block (w := w) e).trans h.1, (World.frozen?_of_block (w := w) e).trans h.2⟩
theorem Bx.grown {w w' : World} {g : Nat} {x y : Int} {v : Value} (h : Bx w g x y) (ha : Apart v g) (hb : ∀ b, b < w.heap.size → some b ≠ v.ownBlock → w'.heap[b]? = w.heap[b]?) : Bx w' g x y := by
  have e := hb g h.lt (fun e => ha g e.symm rfl)
  obtain ⟨h1, h2, h3, h4⟩ := h
  exact ⟨(World.cell?_of_block (w := w) e).trans h1, (World.cell?_of_block (w := w) e).trans h2, (World.frozen?_of_block (w := w) e).trans h3, (World.frozen?_of_block (w := w) e).trans h4⟩
theorem Apart.of_lt {w : World} {B e size n g : Nat} {v : Value} {cs : List Value} (h : Has w B e size v n cs) (hg : w.heap.size ≤ g) : Apart v g := fun b hb => by have := Has.lt_ h b hb; omega
/-- append of a fraction, and where the new slice lies. -/
theorem append_frac_at {w0 : World} {ops : Array Oper} {rest : List Oper} {o : Oper} {a : Act} {Q : Exit → Act → World → Prop} {B : Nat} {v : Value} {n : Nat} {xs : List (Int × Int)} {x y : Int}
    (hown : Has w0 B 26 2 v n (frs xs)) (hn : n ≤ 67108864) (hB : B ≤ w0.heap.size)
    (s u : Operand) (hgd : o.guard = none)
    (ho : o.op = .call { callee := .builtin .append, args := #[s, u], argTypes := #[29, 29] })
    (hs : a.eval s = v) (hx : a.eval u = .slice (some ⟨w0.heap.size, 0, none⟩) 1 1)
    (h : ∀ v' w', Has w' B 26 2 v' (n + 1) (frs (xs ++ [(x, y)])) → Below B w0 w' → (∀ b, b < w0.heap.size → some b ≠ v.ownBlock → w'.heap[b]? = w0.heap[b]?) → (∀ g, g < w0.heap.size → Apart v g → Apart v' g) → wpList Try.prog ops Q rest (a.put o.dst v') w') : wpList Try.prog ops Q (o :: rest) a (w0.alloc (.cells #[.int .i64 x, .int .i64 y] 26)) := by
  obtain ⟨i, hi, hz0, hz1, hz2⟩ := info_parts info_frac
  refine wpList_append_own_at _ hgd s u 29 ho B 26 i _ 2 16 Try.underlying29 hi hz0 hz1 hz2 rfl (by omega) v n _ hs (hown.alloc _) ⟨w0.heap.size, 0, none⟩ 1 1 [.int .i64 x, .int .i64 y] hx rfl (fun j u hu => ?_) (fun y hy => by simp at hy; rcases hy with rfl | rfl <;> rfl) (by unfold maxLen; omega) (by omega) (by simp; omega) (fun v' w' g2 g3 g4 g5 => ?_)
  · rw [Addr.add_lit, Nat.zero_add, cell_of_row _ _ _ _ _ _ (heap_alloc_new w0 _)]
    simpa using hu
  · have hsz := g3.size
    simp at hsz
    have old : ∀ b, b < w0.heap.size → some b ≠ v.ownBlock → w'.heap[b]? = w0.heap[b]? := fun b hb hne => by
      rw [g3.block b (by simp; omega) hne]; exact heap_alloc_old w0 _ hb
    have hbel : Below B w0 w' := ⟨g3.os, g3.tape, g3.output, by omega, fun b hb => old b (by omega) (fun e => by have := Has.ge_ hown b e.symm; omega)⟩
    refine h v' w' (by rw [frs_append]; simpa [frs, fr2] using g2) hbel old (fun g hg ha b hb => ?_)
    rcases g5 with e | e
    · exact ha b (by rw [← e]; exact hb)
    · rw [hb] at e; injection e with e; simp at e; omega

set_option maxRecDepth 100000 in
set_option maxHeartbeats 3200000 in
theorem prClosure {A A' : Option Addr} {lo hi lo' hi' n n' c c' g1 g2 g3 i j m l : Nat} {aa bb : List (List QQ)} {w : World} (h : FRows w lo hi A n aa) (h' : FRows w lo' hi' A' n' bb) (b2 : B1 w g1 (.slice A n c)) (b6 : B1 w g2 (.int .i64 (m : Int))) (b3 : B1 w g3 (.slice A' n' c')) (hg : mechB aa = true) (hg' : mechB bb = true)
    (hnn : n = n') (hl0 : (aa.getD 0 []).length = l) (hm0 : (bb.getD 0 []).length = m) (hi0 : i < n) (hj0 : j < l * m) :
    Calls Try.prog 110 (#[.int .i64 (i : Int), .int .i64 (j : Int)] ++ #[.pointer (some ⟨g1, 0, none⟩), .pointer (some ⟨g2, 0, none⟩), .pointer (some ⟨g3, 0, none⟩)]) w fun e w' => e = .returned (.tuple #[.agg #[.int .i64 (prF aa bb m i j).1, .int .i64 (prF aa bb m i j).2.1], .bool (prF aa bb m i j).2.2]) ∧ Keeps w w' := by
  show Calls Try.prog 110 #[.int .i64 (i : Int), .int .i64 (j : Int), .pointer (some ⟨g1, 0, none⟩), .pointer (some ⟨g2, 0, none⟩), .pointer (some ⟨g3, 0, none⟩)] w _
  have hn := h.le
  have hn' := h'.le
  have hl := h.len
  have hl' := h'.len
  have lb2 := b2.lt
  have lb3 := b3.lt
  have lb6 := b6.lt
  obtain ⟨hmp, hz0, hq0⟩ := jq_lt hj0
  have ejm := Nat.div_add_mod j m
  obtain ⟨b, off, A1, m1, c1, rfl, hlb, hub, hci, hri⟩ := h.at_ hi0
  obtain ⟨b', off', A2, m2, c2, rfl, hlb', hub', hck, hrk⟩ := h'.at_ (k := i) (by omega)
  have hr1 := (Fracs.len hri).symm.trans (mechB_row hg (i := i) (by omega)).1
  have hr2 := (Fracs.len hrk).symm.trans (mechB_row hg' (i := i) (by omega)).1
  have hm1 := Fracs.len hri
  have hm2 := Fracs.len hrk
  obtain ⟨z, ez⟩ : ∃ z, z = j / m := ⟨_, rfl⟩
  obtain ⟨q, eq⟩ : ∃ q, q = j % m := ⟨_, rfl⟩
  have zi : (j : Int) / (m : Int) = (z : Int) := by rw [ez]; rfl
  have qi : (j : Int) % (m : Int) = (q : Int) := by rw [eq]; rfl
  have zw : IntKind.i64.wrap ((j : Int).tdiv (m : Int)) = (z : Int) := by rw [← zi]; exact IntWalk.i64_quo _ _ (by have h1 := IntWalk.tdiv_le (j : Int) (m : Int) (by omega) (by omega); have := mechB_len hg; have := mechB_len hg'; have : l * m ≤ 24 * 24 := Nat.mul_le_mul (by omega) (by omega); omega)
  have qw : (j : Int).tmod (m : Int) = (q : Int) := by rw [← qi]; exact IntWalk.rem_in _ _ (by omega)
  rw [← ez] at hz0 ejm
  rw [← eq] at hq0 ejm
  obtain ⟨bx, ox, x, y, rfl, _, hbx, hcx, hdx, hx⟩ := Fracs.at_ hri (k := z) (by omega)
  obtain ⟨bu, ou, u, v, rfl, _, hbu, hcu, hdu, hu⟩ := Fracs.at_ hrk (k := q) (by omega)
  have fx := hid (mechB_at hg (i := i) (k := z) (by omega) (by omega) hx.out).1
  have fu := hid (mechB_at hg' (i := i) (k := q) (by omega) (by omega) hu.out).1
  obtain ⟨q1, q2, q3, H5⟩ : ∃ q1 q2 q3, Hid (mkF (x * u) (y * v) = (q1, q2, q3)) := ⟨_, _, _, rfl⟩
  have HF := hid (show prF aa bb m i j = (q1, q2, q3) by rw [← H5.out, ← prF_at hq0 hx.out hu.out, Nat.mul_comm z m, ejm])
  have hi1 : (i : Int) < (n : Int) := by omega
  have hi2 : (i : Int) < (n' : Int) := by omega
  have hz1 : (z : Int) < (m1 : Int) := by omega
  have hm1le := hri.le
  have hm2le := hrk.le
  have hq1 : (q : Int) < (m2 : Int) := by omega
  have hmz : ¬ m = 0 := by omega
  have hmz2 : ¬ (m : Int) = 0 := by omega
  have ltb := h.top
  have ltb' := h'.top
  have htx := hri.top
  have htu := hrk.top
  have HH := hid (And.intro hg hg')
  clear hg hg' hl hl' hr1 hr2 hm1 hm2 hl0 hm0 hx hu eq ez ejm
  have ZI := hid zi
  have QI := hid qi
  have ZW := hid zw
  have QW := hid qw
  clear zi qi zw qw hnn
  go_enter Try.func110, Try.ntmps110
  have kw := keeps_refl w
  replace b2 := b2.keeps (keeps_alloc w (.cells #[.int .i64 0, .int .i64 0] 26))
  replace b6 := b6.keeps (keeps_alloc w (.cells #[.int .i64 0, .int .i64 0] 26))
  replace b3 := b3.keeps (keeps_alloc w (.cells #[.int .i64 0, .int .i64 0] 26))
  replace kw := Keeps.trans kw (keeps_alloc w (.cells #[.int .i64 0, .int .i64 0] 26))
  have b7 : Bx (w.alloc (.cells #[.int .i64 0, .int .i64 0] 26)) w.heap.size 0 0 := Bx.new' (by simp)
  go_wp2_with fail
  have zi := ZI.out
  have qi := QI.out
  have zw := ZW.out
  have zw4 := IntWalk.i64_in (z : Int) (by omega)
  have zw3 : wrap64 (z : Int) = (z : Int) := by unfold wrap64; omega
  have qw := QW.out
  have cx1 := cell_keeps hcx kw
  have cx2 := cell_keeps hdx kw
  have cu1 := cell_keeps hcu kw
  have cu2 := cell_keeps hdu kw
  have ci := cell_keeps hci kw
  have ck := cell_keeps hck kw
  obtain ⟨ca1, -⟩ := id b2
  obtain ⟨ca2, -⟩ := id b6
  obtain ⟨ca3, -⟩ := id b3
  obtain ⟨ca4, cb4, fa4, fb4⟩ := id b7
  have kS := hid (show ∀ w', Keeps (w.alloc (.cells #[.int .i64 0, .int .i64 0] 26)) w' → (w'.cell? ⟨g1, 0, none⟩ = some (.slice (some ⟨b, off, none⟩) n c) ∧ w'.cell? ⟨g2, 0, none⟩ = some (.int .i64 (m : Int)) ∧ w'.cell? ⟨g3, 0, none⟩ = some (.slice (some ⟨b', off', none⟩) n' c') ∧ w'.cell? ⟨b, off + i, none⟩ = some (.slice (some ⟨bx, ox, none⟩) m1 c1) ∧ w'.cell? ⟨b', off' + i, none⟩ = some (.slice (some ⟨bu, ou, none⟩) m2 c2) ∧ w'.cell? ⟨bx, ox + z * 2, none⟩ = some (.int .i64 x) ∧ w'.cell? ⟨bx, ox + z * 2 + 1, none⟩ = some (.int .i64 y) ∧ w'.cell? ⟨bu, ou + q * 2, none⟩ = some (.int .i64 u) ∧ w'.cell? ⟨bu, ou + q * 2 + 1, none⟩ = some (.int .i64 v)) from fun w' k => ⟨cell_keeps ca1 k, cell_keeps ca2 k, cell_keeps ca3 k, cell_keeps ci k, cell_keeps ck k, cell_keeps cx1 k, cell_keeps cx2 k, cell_keeps cu1 k, cell_keeps cu2 k⟩)
  have nT6 : g1 ≠ w.heap.size := by omega
  have nT7 : g2 ≠ w.heap.size := by omega
  have nT8 : g3 ≠ w.heap.size := by omega
  have nT9 : b ≠ w.heap.size := by omega
  have nT10 : b' ≠ w.heap.size := by omega
  have nT11 : bx ≠ w.heap.size := by omega
  have nT12 : bx ≠ w.heap.size := by omega
  have nT13 : bu ≠ w.heap.size := by omega
  have nT14 : bu ≠ w.heap.size := by omega
  have kT := hid (show ∀ w', Keeps (w.alloc (.cells #[.int .i64 0, .int .i64 0] 26)) w' → ∀ uA vA, let w'' := (w'.setCell ⟨w.heap.size, 0, none⟩ uA).setCell ⟨w.heap.size, 1, none⟩ vA; (w''.cell? ⟨g1, 0, none⟩ = some (.slice (some ⟨b, off, none⟩) n c) ∧ w''.cell? ⟨g2, 0, none⟩ = some (.int .i64 (m : Int)) ∧ w''.cell? ⟨g3, 0, none⟩ = some (.slice (some ⟨b', off', none⟩) n' c') ∧ w''.cell? ⟨b, off + i, none⟩ = some (.slice (some ⟨bx, ox, none⟩) m1 c1) ∧ w''.cell? ⟨b', off' + i, none⟩ = some (.slice (some ⟨bu, ou, none⟩) m2 c2) ∧ w''.cell? ⟨bx, ox + z * 2, none⟩ = some (.int .i64 x) ∧ w''.cell? ⟨bx, ox + z * 2 + 1, none⟩ = some (.int .i64 y) ∧ w''.cell? ⟨bu, ou + q * 2, none⟩ = some (.int .i64 u) ∧ w''.cell? ⟨bu, ou + q * 2 + 1, none⟩ = some (.int .i64 v)) from fun w' k uA vA => ⟨set2_far (cell_keeps ca1 k) nT6, set2_far (cell_keeps ca2 k) nT7, set2_far (cell_keeps ca3 k) nT8, set2_far (cell_keeps ci k) nT9, set2_far (cell_keeps ck k) nT10, set2_far (cell_keeps cx1 k) nT11, set2_far (cell_keeps cx2 k) nT12, set2_far (cell_keeps cu1 k) nT13, set2_far (cell_keeps cu2 k) nT14⟩)
  go_region_held3 (fun w' => w'.cell? ⟨g1, 0, none⟩ = some (.slice (some ⟨b, off, none⟩) n c) ∧ w'.cell? ⟨g2, 0, none⟩ = some (.int .i64 (m : Int)) ∧ w'.cell? ⟨g3, 0, none⟩ = some (.slice (some ⟨b', off', none⟩) n' c') ∧ w'.cell? ⟨b, off + i, none⟩ = some (.slice (some ⟨bx, ox, none⟩) m1 c1) ∧ w'.cell? ⟨b', off' + i, none⟩ = some (.slice (some ⟨bu, ou, none⟩) m2 c2) ∧ w'.cell? ⟨bx, ox + z * 2, none⟩ = some (.int .i64 x) ∧ w'.cell? ⟨bx, ox + z * 2 + 1, none⟩ = some (.int .i64 y) ∧ w'.cell? ⟨bu, ou + q * 2, none⟩ = some (.int .i64 u) ∧ w'.cell? ⟨bu, ou + q * 2 + 1, none⟩ = some (.int .i64 v)) (first | with_reducible exact kS.out _ (keeps_d0 (w.alloc (.cells #[.int .i64 0, .int .i64 0] 26))) | with_reducible exact kS.out _ kW | with_reducible exact kT.out _ kW _ _ | go_keep)
    ((first | (go_at_call 101; refine (MulFrac_any fx.out fu.out).mono ?_; rintro e wB ⟨rfl, kB⟩; rw [H5.out]; (first | (replace kW : Keeps (w.alloc (.cells #[.int .i64 0, .int .i64 0] 26)) wB := kW.trans kB) | (have kW : Keeps (w.alloc (.cells #[.int .i64 0, .int .i64 0] 26)) wB := keeps_d kB)); clear kB; (first | clear z1 z2 z3 z4 | skip); obtain ⟨z1, z2, z3, z4⟩ := b7.keeps kW)))
  clear kS kT z1 z2 z3 z4
  clear ca1 ca2 ca3 ca4 cb4 fa4 fb4 nT6 nT7 nT8 nT9 nT10 nT11 nT12 nT13 nT14
  replace b2 := b2.keeps kW
  replace b6 := b6.keeps kW
  replace b3 := b3.keeps kW
  replace b7 := b7.keeps kW
  replace kw := Keeps.trans kw kW
  have lt15 := b7.lt
  have sz16 := kw.size
  clear kW
  replace b2 := b2.set2 (p := w.heap.size) (by omega) (.int .i64 q1) (.int .i64 q2)
  replace b6 := b6.set2 (p := w.heap.size) (by omega) (.int .i64 q1) (.int .i64 q2)
  replace b3 := b3.set2 (p := w.heap.size) (by omega) (.int .i64 q1) (.int .i64 q2)
  replace b7 := b7.set q1 q2
  replace kw := below_set2 kw (p := w.heap.size) (by omega) (.int .i64 q1) (.int .i64 q2)
  obtain ⟨ca17, cb17, fa17, fb17⟩ := id b7
  go_wp2_with fail
  clear ca17 cb17 fa17 fb17
  obtain ⟨ca0, cb0, fa0, fb0⟩ := id b7
  refine bodyPost_ret (v := .tuple #[.agg #[.int .i64 q1, .int .i64 q2], .bool q3]) (by simp [results, Try.results110, go_sem, ca0, cb0]) rfl ⟨ret_fb (by rw [HF.out]) (by rw [HF.out]) (by rw [HF.out]), ?_⟩
  exact kw
set_option maxRecDepth 100000 in
set_option maxHeartbeats 12800000 in
theorem implProductOf_any {A A' : Option Addr} {lo hi lo' hi' n n' c c' : Nat} {aa bb : List (List QQ)} {w : World} (h : FRows w lo hi A n aa) (h' : FRows w lo' hi' A' n' bb) :
    Calls Try.prog 54 #[.agg #[.slice A n c], .agg #[.slice A' n' c']] w (MRes w (prQ aa bb)) := by
  have hn := h.le
  have hn' := h'.le
  have hl := h.len
  have hl' := h'.len
  go_enter Try.func54, Try.ntmps54
  have kw := keeps_refl w
  replace kw := Keeps.trans kw (keeps_alloc w (.cells #[.slice A n c] 57))
  have b2 : B1 (w.alloc (.cells #[.slice A n c] 57)) w.heap.size (.slice A n c) := B1.new' (by simp)
  replace b2 := b2.keeps (keeps_alloc (w.alloc (.cells #[.slice A n c] 57)) (.cells #[.slice A' n' c'] 57))
  replace kw := Keeps.trans kw (keeps_alloc (w.alloc (.cells #[.slice A n c] 57)) (.cells #[.slice A' n' c'] 57))
  have b3 : B1 ((w.alloc (.cells #[.slice A n c] 57)).alloc (.cells #[.slice A' n' c'] 57)) (w.heap.size + 1) (.slice A' n' c') := B1.new' (by simp)
  replace b2 := b2.keeps (keeps_alloc ((w.alloc (.cells #[.slice A n c] 57)).alloc (.cells #[.slice A' n' c'] 57)) (.cells #[.slice none 0 0] 57))
  replace b3 := b3.keeps (keeps_alloc ((w.alloc (.cells #[.slice A n c] 57)).alloc (.cells #[.slice A' n' c'] 57)) (.cells #[.slice none 0 0] 57))
  replace kw := Keeps.trans kw (keeps_alloc ((w.alloc (.cells #[.slice A n c] 57)).alloc (.cells #[.slice A' n' c'] 57)) (.cells #[.slice none 0 0] 57))
  have b4 : B1 (((w.alloc (.cells #[.slice A n c] 57)).alloc (.cells #[.slice A' n' c'] 57)).alloc (.cells #[.slice none 0 0] 57)) (w.heap.size + 1 + 1) (.slice none 0 0) := B1.new' (by simp)
  obtain ⟨ca1, fa1⟩ := id b2
  go_wp2_with fail
  clear ca1 fa1
  obtain ⟨pH1, H1⟩ : ∃ pB, Hid (mechB aa = pB) := ⟨_, rfl⟩
  refine (IsMechanism_any (h.keeps kw) (c := c)).mono ?_
  rintro e w2 ⟨rfl, k2⟩
  rw [H1.out]
  replace b2 := b2.keeps k2
  replace b3 := b3.keeps k2
  replace b4 := b4.keeps k2
  replace kw := Keeps.trans kw k2
  have lt3 := b4.lt
  have sz4 := kw.size
  clear k2
  cases pH1
  · have HF := hid (prQ_no (aa := aa) (bb := bb) (by rw [prB, H1.out]; rfl))
    obtain ⟨ca5, fa5⟩ := id b4
    go_wp2_with fail
    clear ca5 fa5
    obtain ⟨ca0, fa0⟩ := id b4
    refine bodyPost_ret (v := .tuple #[.agg #[.slice none 0 0], .bool false]) (by simp [results, Try.results54, go_sem, ca0]) rfl ⟨none, 0, 0, by rw [HF.out], ?_, ?_⟩
    · rw [HF.out]; exact RM.nil_ _ _
    · first | exact Below.setCell kw (p := ⟨w.heap.size + 1 + 1, 0, none⟩) (Nat.le_refl _) _ | exact kw | exact Below.setCell kw (p := ⟨w.heap.size + 1 + 1, 0, none⟩) (by show _ ≤ (w.heap.size + 1 + 1); omega) _
  · skip
    obtain ⟨ca5, fa5⟩ := id b3
    go_wp2_with fail
    clear ca5 fa5
    obtain ⟨pH2, H2⟩ : ∃ pB, Hid (mechB bb = pB) := ⟨_, rfl⟩
    refine (IsMechanism_any (h'.keeps kw) (c := c')).mono ?_
    rintro e w6 ⟨rfl, k6⟩
    rw [H2.out]
    replace b2 := b2.keeps k6
    replace b3 := b3.keeps k6
    replace b4 := b4.keeps k6
    replace kw := Keeps.trans kw k6
    have lt7 := b4.lt
    have sz8 := kw.size
    clear k6
    cases pH2
    · have HF := hid (prQ_no (aa := aa) (bb := bb) (by rw [prB, H1.out, H2.out]; rfl))
      obtain ⟨ca9, fa9⟩ := id b4
      go_wp2_with fail
      clear ca9 fa9
      obtain ⟨ca0, fa0⟩ := id b4
      refine bodyPost_ret (v := .tuple #[.agg #[.slice none 0 0], .bool false]) (by simp [results, Try.results54, go_sem, ca0]) rfl ⟨none, 0, 0, by rw [HF.out], ?_, ?_⟩
      · rw [HF.out]; exact RM.nil_ _ _
      · first | exact Below.setCell kw (p := ⟨w.heap.size + 1 + 1, 0, none⟩) (Nat.le_refl _) _ | exact kw | exact Below.setCell kw (p := ⟨w.heap.size + 1 + 1, 0, none⟩) (by show _ ≤ (w.heap.size + 1 + 1); omega) _
    · skip
      by_cases hnm : n = n'
      rotate_left
      · have t1 : ((n : Int) != (n' : Int)) = true := by rw [bne_iff_ne]; omega
        obtain ⟨ca9, fa9⟩ := id b2
        obtain ⟨ca10, fa10⟩ := id b3
        have HF := hid (prQ_no (aa := aa) (bb := bb) (by rw [prB, decide_eq_false (show ¬ aa.length = bb.length by omega), Bool.and_false]))
        obtain ⟨ca11, fa11⟩ := id b4
        go_wp2_with fail
        clear ca9 fa9 ca10 fa10 ca11 fa11
        obtain ⟨ca0, fa0⟩ := id b4
        refine bodyPost_ret (v := .tuple #[.agg #[.slice none 0 0], .bool false]) (by simp [results, Try.results54, go_sem, ca0]) rfl ⟨none, 0, 0, by rw [HF.out], ?_, ?_⟩
        · rw [HF.out]; exact RM.nil_ _ _
        · first | exact Below.setCell kw (p := ⟨w.heap.size + 1 + 1, 0, none⟩) (Nat.le_refl _) _ | exact kw | exact Below.setCell kw (p := ⟨w.heap.size + 1 + 1, 0, none⟩) (by show _ ≤ (w.heap.size + 1 + 1); omega) _
      have t1 : ((n : Int) != (n' : Int)) = false := by simp [hnm]
      have HB0 := hid (show prB aa bb = true by rw [prB, H1.out, H2.out, decide_eq_true (show aa.length = bb.length by omega)]; rfl)
      have HNM := hid hnm
      clear hnm
      obtain ⟨ca9, fa9⟩ := id b2
      obtain ⟨ca10, fa10⟩ := id b3
      have hln := mechB_len H1.out
      have hln' := mechB_len H2.out
      obtain ⟨b, off, A1, m1, c1, rfl, hlb, hub, hc0, hr0⟩ := h.head (by omega)
      obtain ⟨b', off', A2, m2, c2, rfl, hlb', hub', hc0', hr0'⟩ := h'.head (by omega)
      have hm0 := Fracs.len hr0
      have hm0' := Fracs.len hr0'
      have i0 : (0 : Int) < (n : Int) := by omega
      have i0' : (0 : Int) < (n' : Int) := by omega
      have i0n : 0 < n := by omega
      have i0n' : 0 < n' := by omega
      rw [hm0] at hln
      rw [hm0'] at hln'
      have hk0 : m1 * m2 ≤ 24 * 24 := Nat.mul_le_mul (by omega) (by omega)
      obtain ⟨k, hk⟩ : ∃ k, k = m1 * m2 := ⟨_, rfl⟩
      have hki : (m1 : Int) * (m2 : Int) = (k : Int) := by rw [hk]; rfl
      rw [← hk] at hk0
      have HY := hid (prQ_yes HB0.out)
      rw [hl, hm0, hm0', ← hk] at HY
      have HM0 := hid hm0
      have HM0' := hid hm0'
      clear hm0 hm0' hr0 hr0'
      have HK := hid hk
      have HKI := hid hki
      clear hk hki
      have HG := hid H1.out
      have HG' := hid H2.out
      clear H1 H2
      have ck := cell_keeps hc0' kw
      replace b2 := b2.keeps (keeps_alloc w6 (.cells #[.int .i64 (m2 : Int)] 3))
      replace b3 := b3.keeps (keeps_alloc w6 (.cells #[.int .i64 (m2 : Int)] 3))
      replace b4 := b4.keeps (keeps_alloc w6 (.cells #[.int .i64 (m2 : Int)] 3))
      replace kw := Keeps.trans kw (keeps_alloc w6 (.cells #[.int .i64 (m2 : Int)] 3))
      have b6 : B1 (w6.alloc (.cells #[.int .i64 (m2 : Int)] 3)) w6.heap.size (.int .i64 (m2 : Int)) := B1.new' (by simp)
      go_wp2_with fail
      clear ca9 fa9 ca10 fa10
      clear ck
      obtain ⟨ca2, -⟩ := id b2
      obtain ⟨ca6, -⟩ := id b6
      have hki := HKI.out
      have hkw : IntKind.i64.wrap ((m1 : Int) * (m2 : Int)) = (k : Int) := by rw [hki]; exact IntWalk.i64_in _ (by omega)
      by_cases h24 : k ≤ 24
      rotate_left
      · have HF := hid (show prQ aa bb = ([], false) from HY.out.trans (nmQ_wide (by omega) (by omega)))
        have i24 : (24 : Int) < (k : Int) := by omega
        have r2 := fun d os => cell_regrown (ca2) d os
        have r6 := fun d os => cell_regrown (ca6) d os
        have r5 := fun d os => cell_regrown (cell_keeps hc0 kw) d os
        go_wp2_with fail
        refine wp_region_quiet_below (by kernel_rfl) (by kernel_rfl) ?_
        iterate 8 (go_big_quiet_step (fail))
        refine wpQuiet_nil ?_
        intro _ hw'
        obtain ⟨⟨dq, osq⟩, hw''⟩ := hw'
        subst hw''
        clear r2 r6 r5
        have kQ := below_regrown (w6.alloc (.cells #[.int .i64 (m2 : Int)] 3)) dq osq
        obtain ⟨wQ11, hwQ⟩ : ∃ u, u = grow (redrawn (w6.alloc (.cells #[.int .i64 (m2 : Int)] 3)) dq) osq := ⟨_, rfl⟩
        rw [← hwQ] at kQ
        rw [← hwQ]
        clear hwQ
        replace b2 := b2.keeps kQ
        replace b3 := b3.keeps kQ
        replace b4 := b4.keeps kQ
        replace b6 := b6.keeps kQ
        replace kw := Keeps.trans kw kQ
        have lt12 := b6.lt
        have sz13 := kw.size
        clear kQ
        clear ca2 ca6
        obtain ⟨ca14, fa14⟩ := id b4
        go_wp2_with fail
        clear ca14 fa14
        obtain ⟨ca0, fa0⟩ := id b4
        refine bodyPost_ret (v := .tuple #[.agg #[.slice none 0 0], .bool false]) (by simp [results, Try.results54, go_sem, ca0]) rfl ⟨none, 0, 0, by rw [HF.out], ?_, ?_⟩
        · rw [HF.out]; exact RM.nil_ _ _
        · first | exact Below.setCell kw (p := ⟨w.heap.size + 1 + 1, 0, none⟩) (Nat.le_refl _) _ | exact kw | exact Below.setCell kw (p := ⟨w.heap.size + 1 + 1, 0, none⟩) (by show _ ≤ (w.heap.size + 1 + 1); omega) _
      have i24 : ¬ (24 : Int) < (k : Int) := by omega
      have P1 : n ≤ 64 := by omega
      have P2 : k ≤ 64 := by omega
      have r2 := fun d os => cell_regrown (ca2) d os
      have r6 := fun d os => cell_regrown (ca6) d os
      have r5 := fun d os => cell_regrown (cell_keeps hc0 kw) d os
      go_wp2_with fail
      refine wp_region_quiet_below (by kernel_rfl) (by kernel_rfl) ?_
      iterate 8 (go_big_quiet_step (fail))
      refine wpQuiet_nil ?_
      intro _ hw'
      obtain ⟨⟨dq, osq⟩, hw''⟩ := hw'
      subst hw''
      clear r2 r6 r5
      have kQ := below_regrown (w6.alloc (.cells #[.int .i64 (m2 : Int)] 3)) dq osq
      obtain ⟨wQ11, hwQ⟩ : ∃ u, u = grow (redrawn (w6.alloc (.cells #[.int .i64 (m2 : Int)] 3)) dq) osq := ⟨_, rfl⟩
      rw [← hwQ] at kQ
      rw [← hwQ]
      clear hwQ
      replace b2 := b2.keeps kQ
      replace b3 := b3.keeps kQ
      replace b4 := b4.keeps kQ
      replace b6 := b6.keeps kQ
      replace kw := Keeps.trans kw kQ
      have lt12 := b6.lt
      have sz13 := kw.size
      clear kQ
      clear ca2 ca6
      go_wp2_with fail
      have ck := cell_keeps hc0 kw
      obtain ⟨ca2, -⟩ := id b2
      obtain ⟨ca6, -⟩ := id b6
      have hb' : b < w.heap.size := by have := h.top; omega
      have lt2 := b2.lt
      have kS := hid (show ∀ w', Keeps wQ11 w' → (w'.cell? ⟨w.heap.size, 0, none⟩ = some (.slice (some ⟨b, off, none⟩) n c) ∧ w'.cell? ⟨w6.heap.size, 0, none⟩ = some (.int .i64 (m2 : Int)) ∧ w'.cell? ⟨b, off, none⟩ = some (.slice A1 m1 c1)) from fun w' k => ⟨cell_keeps ca2 k, cell_keeps ca6 k, cell_keeps ck k⟩)
      have kT := hid (show ∀ w', Keeps wQ11 w' → ∀ u, let w'' := w'.setCell ⟨w.heap.size + 1 + 1, 0, none⟩ u; (w''.cell? ⟨w.heap.size, 0, none⟩ = some (.slice (some ⟨b, off, none⟩) n c) ∧ w''.cell? ⟨w6.heap.size, 0, none⟩ = some (.int .i64 (m2 : Int)) ∧ w''.cell? ⟨b, off, none⟩ = some (.slice A1 m1 c1)) from fun w' k u => ⟨(World.cell?_setCell_far w' ⟨w.heap.size + 1 + 1, 0, none⟩ ⟨w.heap.size, 0, none⟩ u (by show w.heap.size + 1 + 1 ≠ _; simp only []; omega)).trans (cell_keeps ca2 k), (World.cell?_setCell_far w' ⟨w.heap.size + 1 + 1, 0, none⟩ ⟨w6.heap.size, 0, none⟩ u (by show w.heap.size + 1 + 1 ≠ _; simp only []; omega)).trans (cell_keeps ca6 k), (World.cell?_setCell_far w' ⟨w.heap.size + 1 + 1, 0, none⟩ ⟨b, off, none⟩ u (by show w.heap.size + 1 + 1 ≠ _; simp only []; omega)).trans (cell_keeps ck k)⟩)
      have hk4 := IntWalk.i64_in (k : Int) (by omega)
      have hk3 : wrap64 (k : Int) = (k : Int) := by unfold wrap64; omega
      have KN := hid (And.intro hn hn')
      clear hn hn'
      go_region_held3 (fun w' => w'.cell? ⟨w.heap.size, 0, none⟩ = some (.slice (some ⟨b, off, none⟩) n c) ∧ w'.cell? ⟨w6.heap.size, 0, none⟩ = some (.int .i64 (m2 : Int)) ∧ w'.cell? ⟨b, off, none⟩ = some (.slice A1 m1 c1)) (first | with_reducible exact kS.out _ (keeps_d0 _) | with_reducible exact kS.out _ kW | with_reducible exact kT.out _ kW _ | go_keep)
        ((first | (go_at_call 92; refine (newMechanism_any (n := n) (m := k) (K := 110) (caps := #[.pointer (some ⟨w.heap.size, 0, none⟩), .pointer (some ⟨w6.heap.size, 0, none⟩), .pointer (some ⟨w.heap.size + 1, 0, none⟩)]) (f := prF aa bb m2) P1 P2 (fun args w => enter_of Try.func110 (by kernel_rfl) rfl args w) (fun i j w' hi hj kk => prClosure (h.keeps (Keeps.trans (Keeps.trans kw (keeps_d0 _)) kk)) (h'.keeps (Keeps.trans (Keeps.trans kw (keeps_d0 _)) kk)) (b2.keeps (Keeps.trans (keeps_d0 _) kk)) (b6.keeps (Keeps.trans (keeps_d0 _) kk)) (b3.keeps (Keeps.trans (keeps_d0 _) kk)) HG.out HG'.out HNM.out HM0.out HM0'.out hi (by rw [← HK.out]; exact hj))).mono ?_; rintro e wB ⟨AN, NN, CN, rfl, rm, kB⟩; have kW : Keeps wQ11 wB := keeps_d kB; clear kB; obtain ⟨z1, z2⟩ := b4.keeps kW)))
      clear kS kT z1 z2 ca2 ca6 ck hki hkw hk3 hk4
      replace b2 := b2.keeps kW
      replace b3 := b3.keeps kW
      replace b4 := b4.keeps kW
      replace b6 := b6.keeps kW
      replace kw := Keeps.trans kw kW
      have lt14 := b6.lt
      have sz15 := kw.size
      clear kW
      rw [← HY.out] at rm
      obtain ⟨R, hR⟩ : ∃ R, prQ aa bb = R := ⟨_, rfl⟩
      rw [hR] at rm HY
      rw [← HY.out]
      rw [hR]
      clear HY
      have HF := hid hR
      clear hR
      replace rm : RM wB wQ11.heap.size wB.heap.size AN NN R.1 := rm
      obtain ⟨ca16, fa16⟩ := id b4
      go_wp2_with fail
      clear ca16 fa16
      obtain ⟨ca0, fa0⟩ := id b4
      have frS : Fr (w.heap.size + 1 + 1) (w.heap.size + 1 + 1 + 1) wB (wB.setCell ⟨w.heap.size + 1 + 1, 0, none⟩ (.slice AN NN CN)) := (Fr.refl _ _ _).setCell (p := ⟨w.heap.size + 1 + 1, 0, none⟩) (Nat.le_refl _) (Nat.lt_succ_self _) _
      have hs := (rm).1.top
      refine bodyPost_ret (v := .tuple #[.agg #[.slice AN NN CN], .bool R.2]) (by simp [results, Try.results54, go_sem, ca0]) rfl ⟨_, _, _, by rw [HF.out], ?_, Below.setCell kw (p := ⟨w.heap.size + 1 + 1, 0, none⟩) (by show _ ≤ (w.heap.size + 1 + 1); omega) _⟩
      rw [HF.out]
      exact (RM.fr rm frS (by omega)).widen (by first | omega | (simp; omega)) (by simp [World.setCell] <;> omega) (Nat.le_refl _)
set_option maxRecDepth 100000 in
set_option maxHeartbeats 25600000 in
theorem specProductOf_any {A A' : Option Addr} {lo hi lo' hi' n n' c c' : Nat} {aa bb : List (List QQ)} {w : World} (h : FRows w lo hi A n aa) (h' : FRows w lo' hi' A' n' bb) :
    Calls Try.prog 53 #[.agg #[.slice A n c], .agg #[.slice A' n' c']] w (MRes w (prQ aa bb)) := by
  have hn := h.le
  have hn' := h'.le
  have hl := h.len
  have hl' := h'.len
  go_enter Try.func53, Try.ntmps53
  have kw := keeps_refl w
  replace kw := Keeps.trans kw (keeps_alloc w (.cells #[.slice A n c] 57))
  have b2 : B1 (w.alloc (.cells #[.slice A n c] 57)) w.heap.size (.slice A n c) := B1.new' (by simp)
  replace b2 := b2.keeps (keeps_alloc (w.alloc (.cells #[.slice A n c] 57)) (.cells #[.slice A' n' c'] 57))
  replace kw := Keeps.trans kw (keeps_alloc (w.alloc (.cells #[.slice A n c] 57)) (.cells #[.slice A' n' c'] 57))
  have b3 : B1 ((w.alloc (.cells #[.slice A n c] 57)).alloc (.cells #[.slice A' n' c'] 57)) (w.heap.size + 1) (.slice A' n' c') := B1.new' (by simp)
  replace b2 := b2.keeps (keeps_alloc ((w.alloc (.cells #[.slice A n c] 57)).alloc (.cells #[.slice A' n' c'] 57)) (.cells #[.slice none 0 0] 57))
  replace b3 := b3.keeps (keeps_alloc ((w.alloc (.cells #[.slice A n c] 57)).alloc (.cells #[.slice A' n' c'] 57)) (.cells #[.slice none 0 0] 57))
  replace kw := Keeps.trans kw (keeps_alloc ((w.alloc (.cells #[.slice A n c] 57)).alloc (.cells #[.slice A' n' c'] 57)) (.cells #[.slice none 0 0] 57))
  have b4 : B1 (((w.alloc (.cells #[.slice A n c] 57)).alloc (.cells #[.slice A' n' c'] 57)).alloc (.cells #[.slice none 0 0] 57)) (w.heap.size + 1 + 1) (.slice none 0 0) := B1.new' (by simp)
  obtain ⟨ca1, fa1⟩ := id b2
  go_wp2_with fail
  clear ca1 fa1
  obtain ⟨pH1, H1⟩ : ∃ pB, Hid (mechB aa = pB) := ⟨_, rfl⟩
  refine (mGood_any (h.keeps kw) (c := c)).mono ?_
  rintro e w2 ⟨rfl, k2⟩
  rw [H1.out]
  replace b2 := b2.keeps k2
  replace b3 := b3.keeps k2
  replace b4 := b4.keeps k2
  replace kw := Keeps.trans kw k2
  have lt3 := b4.lt
  have sz4 := kw.size
  clear k2
  cases pH1
  · have HF := hid (prQ_no (aa := aa) (bb := bb) (by rw [prB, H1.out]; rfl))
    obtain ⟨ca5, fa5⟩ := id b4
    go_wp2_with fail
    clear ca5 fa5
    obtain ⟨ca0, fa0⟩ := id b4
    refine bodyPost_ret (v := .tuple #[.agg #[.slice none 0 0], .bool false]) (by simp [results, Try.results53, go_sem, ca0]) rfl ⟨none, 0, 0, by rw [HF.out], ?_, ?_⟩
    · rw [HF.out]; exact RM.nil_ _ _
    · first | exact Below.setCell kw (p := ⟨w.heap.size + 1 + 1, 0, none⟩) (Nat.le_refl _) _ | exact kw | exact Below.setCell kw (p := ⟨w.heap.size + 1 + 1, 0, none⟩) (by show _ ≤ (w.heap.size + 1 + 1); omega) _
  · skip
    obtain ⟨ca5, fa5⟩ := id b3
    go_wp2_with fail
    clear ca5 fa5
    obtain ⟨pH2, H2⟩ : ∃ pB, Hid (mechB bb = pB) := ⟨_, rfl⟩
    refine (mGood_any (h'.keeps kw) (c := c')).mono ?_
    rintro e w6 ⟨rfl, k6⟩
    rw [H2.out]
    replace b2 := b2.keeps k6
    replace b3 := b3.keeps k6
    replace b4 := b4.keeps k6
    replace kw := Keeps.trans kw k6
    have lt7 := b4.lt
    have sz8 := kw.size
    clear k6
    cases pH2
    · have HF := hid (prQ_no (aa := aa) (bb := bb) (by rw [prB, H1.out, H2.out]; rfl))
      obtain ⟨ca9, fa9⟩ := id b4
      go_wp2_with fail
      clear ca9 fa9
      obtain ⟨ca0, fa0⟩ := id b4
      refine bodyPost_ret (v := .tuple #[.agg #[.slice none 0 0], .bool false]) (by simp [results, Try.results53, go_sem, ca0]) rfl ⟨none, 0, 0, by rw [HF.out], ?_, ?_⟩
      · rw [HF.out]; exact RM.nil_ _ _
      · first | exact Below.setCell kw (p := ⟨w.heap.size + 1 + 1, 0, none⟩) (Nat.le_refl _) _ | exact kw | exact Below.setCell kw (p := ⟨w.heap.size + 1 + 1, 0, none⟩) (by show _ ≤ (w.heap.size + 1 + 1); omega) _
    · skip
      by_cases hnm : n = n'
      rotate_left
      · have t1 : ((n : Int) != (n' : Int)) = true := by rw [bne_iff_ne]; omega
        obtain ⟨ca9, fa9⟩ := id b2
        obtain ⟨ca10, fa10⟩ := id b3
        have HF := hid (prQ_no (aa := aa) (bb := bb) (by rw [prB, decide_eq_false (show ¬ aa.length = bb.length by omega), Bool.and_false]))
        obtain ⟨ca11, fa11⟩ := id b4
        go_wp2_with fail
        clear ca9 fa9 ca10 fa10 ca11 fa11
        obtain ⟨ca0, fa0⟩ := id b4
        refine bodyPost_ret (v := .tuple #[.agg #[.slice none 0 0], .bool false]) (by simp [results, Try.results53, go_sem, ca0]) rfl ⟨none, 0, 0, by rw [HF.out], ?_, ?_⟩
        · rw [HF.out]; exact RM.nil_ _ _
        · first | exact Below.setCell kw (p := ⟨w.heap.size + 1 + 1, 0, none⟩) (Nat.le_refl _) _ | exact kw | exact Below.setCell kw (p := ⟨w.heap.size + 1 + 1, 0, none⟩) (by show _ ≤ (w.heap.size + 1 + 1); omega) _
      have t1 : ((n : Int) != (n' : Int)) = false := by simp [hnm]
      have HB0 := hid (show prB aa bb = true by rw [prB, H1.out, H2.out, decide_eq_true (show aa.length = bb.length by omega)]; rfl)
      have HNM := hid hnm
      clear hnm
      obtain ⟨ca9, fa9⟩ := id b2
      obtain ⟨ca10, fa10⟩ := id b3
      go_wp2_with fail
      clear ca9 fa9 ca10 fa10
      have hln := mechB_len H1.out
      have hln' := mechB_len H2.out
      obtain ⟨b, off, A1, m1, c1, rfl, hlb, hub, hc0, hr0⟩ := h.head (by omega)
      obtain ⟨b', off', A2, m2, c2, rfl, hlb', hub', hc0', hr0'⟩ := h'.head (by omega)
      have hm0 := Fracs.len hr0
      have hm0' := Fracs.len hr0'
      have i0 : (0 : Int) < (n : Int) := by omega
      have i0' : (0 : Int) < (n' : Int) := by omega
      have i0n : 0 < n := by omega
      have i0n' : 0 < n' := by omega
      rw [hm0] at hln
      rw [hm0'] at hln'
      have hk0 : m1 * m2 ≤ 24 * 24 := Nat.mul_le_mul (by omega) (by omega)
      obtain ⟨k, hk⟩ : ∃ k, k = m1 * m2 := ⟨_, rfl⟩
      have hki : (m1 : Int) * (m2 : Int) = (k : Int) := by rw [hk]; rfl
      rw [← hk] at hk0
      have HY := hid (prQ_yes HB0.out)
      rw [hl, hm0, hm0', ← hk] at HY
      have HM0 := hid hm0
      have HM0' := hid hm0'
      clear hm0 hm0' hr0 hr0'
      have HK := hid hk
      have HKI := hid hki
      clear hk hki
      have HG := hid H1.out
      have HG' := hid H2.out
      clear H1 H2
      obtain ⟨ll, HL⟩ : ∃ ll, Hid (tab (prF aa bb m2) n k = ll) := ⟨_, rfl⟩
      obtain ⟨ca11, fa11⟩ := id b2
      go_wp2_with fail
      clear ca11 fa11
      go_loopw [37, 6] (fun si v wr => ∃ i : Nat, i ≤ n ∧ si = .int .i64 i ∧ Hid (OkTo (prF aa bb m2) k i 0) ∧ Built wr (w.heap.size + 1 + 1 + 1) v i ll wr.heap.size ∧ B1 wr w.heap.size (.slice (some ⟨b, off, none⟩) n c) ∧ B1 wr (w.heap.size + 1) (.slice (some ⟨b', off', none⟩) n' c') ∧ B1 wr (w.heap.size + 1 + 1) (.slice none 0 0) ∧ Keeps w wr) (fun si _ _ => n - (intOf si).toNat)
      case atStart => exact ⟨0, Nat.zero_le _, rfl, hid (okTo_start _ _), Built.nil_ _ _ _, b2, b3, b4, kw⟩
      clear kw b2 b3 b4
      case round =>
        obtain ⟨i, hi, rfl, OK, bu, b2, b3, b4, kw⟩ := hrel
        obtain ⟨wo, rfl⟩ : ∃ u : World, u = wr := ⟨_, rfl⟩
        have lt4 := b4.lt
        have sz := kw.size
        by_cases hlt : i < n
        · have hi1 : (i : Int) < (n : Int) := by omega
          obtain ⟨row, HR⟩ : ∃ row, Hid (ll.getD i [] = row) := ⟨_, rfl⟩
          have hrow : row = (List.range k).map fun j => ((prF aa bb m2 i j).1, (prF aa bb m2 i j).2.1) := by rw [← HR.out, ← HL.out]; exact tab_row _ hlt
          have HRL := hid (show row.length = k by rw [hrow]; simp)
          have HRA := hid (show ∀ j, j < k → row.getD j (0, 0) = ((prF aa bb m2 i j).1, (prF aa bb m2 i j).2.1) from fun j hj => by rw [hrow, getD_map_range, if_pos hj])
          clear hrow
          obtain ⟨b1_, off1, A1r, mr, c1r, e1, hlb1, hub1, hci, hri⟩ := (h.keeps kw).at_ hlt
          obtain ⟨rfl, rfl⟩ : b = b1_ ∧ off = off1 := by injection e1 with e1; injection e1 with e1 e2; exact ⟨e1, e2⟩
          clear e1
          have hmn : m1 = mr := by have := Fracs.len hri; have := (mechB_row HG.out (i := i) (by omega)).1; have := HM0.out; omega
          subst hmn
          have hnn := HNM.out
          have hi2 : (i : Int) < (n' : Int) := by omega
          obtain ⟨b2_, off2, A2r, mr2, c2r, e2, hlb2, hub2, hck, hrk⟩ := (h'.keeps kw).at_ (k := i) (by omega)
          clear hnn
          obtain ⟨rfl, rfl⟩ : b' = b2_ ∧ off' = off2 := by injection e2 with e1; injection e1 with e1 e2; exact ⟨e1, e2⟩
          clear e2
          have hmn2 : m2 = mr2 := by have := Fracs.len hrk; have := (mechB_row HG'.out (i := i) (by have := HNM.out; omega)).1; have := HM0'.out; omega
          subst hmn2
          have hai := Fracs.len hri
          have hbi := Fracs.len hrk
          have HAI := hid hai
          have HBI := hid hbi
          clear hai hbi
          have hmle1 := hri.le
          have hmle2 := hrk.le
          obtain ⟨ca12, fa12⟩ := id b2
          obtain ⟨ca13, fa13⟩ := id b3
          go_wp2_with fail
          clear ca12 fa12 ca13 fa13
          clear hci
          go_loopw [44, 9] (fun si v wr => ∃ z : Nat, z ≤ m1 ∧ si = .int .i64 z ∧ Hid (OkTo (prF aa bb m2) k i (z * m2)) ∧ Has wr wo.heap.size 26 2 v (z * m2) (frs (row.take (z * m2))) ∧ Keeps wo wr) (fun si _ _ => m1 - (intOf si).toNat)
          case atStart => exact ⟨0, Nat.zero_le _, rfl, by rw [Nat.zero_mul]; exact OK, by rw [Nat.zero_mul]; exact World.ownsRow_nil _ _ _ _, keeps_refl _⟩
          case round =>
            obtain ⟨z, hz, rfl, OKz, hown, ko⟩ := hrel
            obtain ⟨wk, rfl⟩ : ∃ u : World, u = wr := ⟨_, rfl⟩
            have lo := ko.size
            by_cases hlz : z < m1
            · have hz1 : (z : Int) < (m1 : Int) := by omega
              have hm1le := hri.le
              have hm2le := hrk.le
              have kwo := Keeps.trans kw ko
              have d2 := b2.keeps ko
              have d3 := b3.keeps ko
              have d4 := b4.keeps ko
              have hrkk := Sl.keeps hrk ko
              have hckk := cell_keeps hck ko
              obtain ⟨ba, oa, x, y, rfl, _, hb, hc, hd, hx⟩ := Fracs.at_ (Sl.keeps hri ko) hlz
              have fx := hid (mechB_at HG.out (i := i) (k := z) (by omega) (by have := HAI.out; omega) hx.out).1
              have lt4k := d4.lt
              have kk := keeps_refl wk
              replace d2 := d2.keeps (keeps_alloc wk (.cells #[.int .i64 x, .int .i64 y] 26))
              replace d3 := d3.keeps (keeps_alloc wk (.cells #[.int .i64 x, .int .i64 y] 26))
              replace d4 := d4.keeps (keeps_alloc wk (.cells #[.int .i64 x, .int .i64 y] 26))
              replace kwo := Keeps.trans kwo (keeps_alloc wk (.cells #[.int .i64 x, .int .i64 y] 26))
              replace ko := Keeps.trans ko (keeps_alloc wk (.cells #[.int .i64 x, .int .i64 y] 26))
              replace kk := Keeps.trans kk (keeps_alloc wk (.cells #[.int .i64 x, .int .i64 y] 26))
              have d11 : Bx (wk.alloc (.cells #[.int .i64 x, .int .i64 y] 26)) wk.heap.size x y := Bx.new' (by simp)
              obtain ⟨ca14, fa14⟩ := id d3
              have hck2 := cell_keeps hckk kk
              go_wp2_with fail
              clear ca14 fa14
              clear hck2 hc hd
              have apt : ∀ v, Has wk wo.heap.size 26 2 v (z * m2) (frs (row.take (z * m2))) → Apart v wk.heap.size := fun v hv => Apart.of_lt hv (Nat.le_refl _)
              have ap0 := apt _ hown
              have hown0 := Has.below hown kk
              clear apt hown
              go_loopw [54, 9] (fun si v wr => ∃ q : Nat, q ≤ m2 ∧ si = .int .i64 q ∧ Hid (OkTo (prF aa bb m2) k i (z * m2 + q)) ∧ Has wr wo.heap.size 26 2 v (z * m2 + q) (frs (row.take (z * m2 + q))) ∧ Apart v wk.heap.size ∧ B1 wr w.heap.size (.slice (some ⟨b, off, none⟩) n c) ∧ B1 wr (w.heap.size + 1) (.slice (some ⟨b', off', none⟩) n' c') ∧ B1 wr (w.heap.size + 1 + 1) (.slice none 0 0) ∧ Bx wr wk.heap.size x y ∧ Keeps wo wr) (fun si _ _ => m2 - (intOf si).toNat)
              case atStart => exact ⟨0, Nat.zero_le _, rfl, OKz, hown0, ap0, d2, d3, d4, d11, ko⟩
              clear hown0 ap0 kwo kk d2 d3 d4 d11
              have klo := ko
              clear ko
              case round =>
                obtain ⟨q, hq, rfl, OKq, hown, ap, d2, d3, d4, d11, ko⟩ := hrel
                obtain ⟨wz, rfl⟩ : ∃ u : World, u = wr := ⟨_, rfl⟩
                have lo2 := ko.size
                have lt11 := d11.lt
                by_cases hlq : q < m2
                · have hq1 : (q : Int) < (m2 : Int) := by omega
                  have hzq : z * m2 + q < k := by rw [HK.out]; exact zq_lt hlz hlq
                  have HT := hid (take_snoc row (z * m2 + q) (0, 0) (by have := HRL.out; omega))
                  rw [HRA.out _ hzq] at HT
                  obtain ⟨bu_, ou, u, v, rfl, _, hbu, hcu, hdu, hu⟩ := Fracs.at_ (Sl.keeps hrk ko) hlq
                  have fu := hid (mechB_at HG'.out (i := i) (k := q) (by have := HNM.out; omega) (by have := HBI.out; omega) hu.out).1
                  obtain ⟨q1, q2, q3, H5⟩ : ∃ q1 q2 q3, Hid (mkF (x * u) (y * v) = (q1, q2, q3)) := ⟨_, _, _, rfl⟩
                  have HP := hid ((prF_at (aa := aa) (bb := bb) hlq hx.out hu.out).trans H5.out)
                  have kf := keeps_refl wz
                  replace d2 := d2.keeps (keeps_alloc wz (.cells #[.int .i64 u, .int .i64 v] 26))
                  replace d3 := d3.keeps (keeps_alloc wz (.cells #[.int .i64 u, .int .i64 v] 26))
                  replace d4 := d4.keeps (keeps_alloc wz (.cells #[.int .i64 u, .int .i64 v] 26))
                  replace d11 := d11.keeps (keeps_alloc wz (.cells #[.int .i64 u, .int .i64 v] 26))
                  replace ko := Keeps.trans ko (keeps_alloc wz (.cells #[.int .i64 u, .int .i64 v] 26))
                  replace kf := Keeps.trans kf (keeps_alloc wz (.cells #[.int .i64 u, .int .i64 v] 26))
                  have d13 : Bx (wz.alloc (.cells #[.int .i64 u, .int .i64 v] 26)) wz.heap.size u v := Bx.new' (by simp)
                  obtain ⟨ca15, cb15, fa15, fb15⟩ := id d11
                  obtain ⟨ca16, cb16, fa16, fb16⟩ := id d13
                  go_wp2_with fail
                  clear ca15 cb15 fa15 fb15 ca16 cb16 fa16 fb16
                  clear hcu hdu
                  refine (fMul_any (fracB_qb fx.out) (fracB_qb fu.out)).mono ?_
                  rintro e w17 ⟨rfl, k17⟩
                  rw [H5.out]
                  replace d2 := d2.keeps k17
                  replace d3 := d3.keeps k17
                  replace d4 := d4.keeps k17
                  replace d11 := d11.keeps k17
                  replace d13 := d13.keeps k17
                  replace ko := Keeps.trans ko k17
                  replace kf := Keeps.trans kf k17
                  have lt18 := d13.lt
                  have sz19 := ko.size
                  have sz20 := kf.size
                  clear k17
                  cases q3
                  · have HF := hid (show prQ aa bb = ([], false) by rw [HY.out]; exact nmQ_no1 (okAll_no hlt hzq HP.out))
                    have kw2 := Keeps.trans kw ko
                    clear kw
                    have kw := kw2
                    obtain ⟨ca0, fa0⟩ := id d4
                    have ltB := d4.lt
                    have ca1 := cell_keeps ca0 (keeps_alloc w17 (.cells #[.int .i64 q1, .int .i64 q2] 26))
                    go_wp2_with fail
                    refine bodyPost_ret (v := .tuple #[.agg #[.slice none 0 0], .bool false]) (by simp [results, Try.results53, go_sem, ca0, ltB]) rfl ⟨none, 0, 0, by rw [HF.out], ?_, ?_⟩
                    · rw [HF.out]; exact RM.nil_ _ _
                    · exact Keeps.trans (Below.setCell kw (p := ⟨w.heap.size + 1 + 1, 0, none⟩) (by show _ ≤ (w.heap.size + 1 + 1); omega) _) (keeps_alloc _ _)
                  · replace d2 := d2.keeps (keeps_alloc w17 (.cells #[.int .i64 q1, .int .i64 q2] 26))
                    replace d3 := d3.keeps (keeps_alloc w17 (.cells #[.int .i64 q1, .int .i64 q2] 26))
                    replace d4 := d4.keeps (keeps_alloc w17 (.cells #[.int .i64 q1, .int .i64 q2] 26))
                    replace d11 := d11.keeps (keeps_alloc w17 (.cells #[.int .i64 q1, .int .i64 q2] 26))
                    replace d13 := d13.keeps (keeps_alloc w17 (.cells #[.int .i64 q1, .int .i64 q2] 26))
                    replace ko := Keeps.trans ko (keeps_alloc w17 (.cells #[.int .i64 q1, .int .i64 q2] 26))
                    replace kf := Keeps.trans kf (keeps_alloc w17 (.cells #[.int .i64 q1, .int .i64 q2] 26))
                    have d14 : Bx (w17.alloc (.cells #[.int .i64 q1, .int .i64 q2] 26)) w17.heap.size q1 q2 := Bx.new' (by simp)
                    rw [show ((prF aa bb m2 i (z * m2 + q)).1, (prF aa bb m2 i (z * m2 + q)).2.1) = (q1, q2) by rw [HP.out]] at HT
                    have ownZ := Has.below hown kf
                    have loz := ko.size
                    obtain ⟨ca21, cb21, fa21, fb21⟩ := id d14
                    go_wp2_with (at_builtin; refine append_frac_at (xs := row.take (z * m2 + q)) ownZ (by omega) loz _ _ rfl rfl rfl (by first | rfl | (simp <;> rfl)) ?_; intro v' w2 hown2 hb2 hb3 hap)
                    rw [← HT.out] at hown2
                    have ko2 := Below.trans ko hb2
                    have ap2 := hap _ (by simp; omega) ap
                    have c2_ := d2.below hb2 (by omega)
                    have c3 := d3.below hb2 (by omega)
                    have c4 := d4.below hb2 (by omega)
                    have c11 := d11.grown ap hb3
                    clear ownZ hb2 hb3 hap ko kf hown ap d2 d3 d4 d11 d13 d14
                    clear ca21 cb21 fa21 fb21
                    go_wp2
                    go_roundw
                    case rel => exact ⟨q + 1, by omega, by go_num, hid (okTo_next OKq.out HP.out), hown2, ap2, c2_, c3, c4, c11, ko2⟩
                    case measure => simp [intOf]; omega
                · obtain rfl : q = m2 := by omega
                  have ez : (z + 1) * q = z * q + q := by rw [Nat.add_mul, Nat.one_mul]
                  rw [← ez] at hown OKq
                  clear ez
                  have kz := ko
                  clear ap d2 d3 d4 d11
                  go_wp2
                  go_roundw
                  case rel => exact ⟨z + 1, by omega, by go_num, OKq, hown, kz⟩
                  case measure => simp [intOf]; omega
            · obtain rfl : z = m1 := by omega
              rw [← HK.out] at hown OKz
              obtain ⟨AR, CR, rfl⟩ := hown.form
              rw [List.take_of_length_le (by rw [HRL.out]; exact Nat.le_refl _)] at hown
              have hsl := SlM.of_own hown (by omega) (by omega)
              rw [← HR.out] at hsl
              have bu1 := bu.keeps ko
              replace b2 := b2.keeps ko
              replace b3 := b3.keeps ko
              replace b4 := b4.keeps ko
              replace kw := Keeps.trans kw ko
              have lt6' := b4.lt
              have OK2 := hid (okTo_row OKz.out)
              clear bu hown hri hrk hck
              go_wp2_with (at_builtin; refine append_row (ll := ll) bu1 hsl (by omega) (by omega) _ _ rfl rfl rfl (by first | rfl | (simp <;> rfl)) ?_; intro v' w2 bu2 hb2)
              have c2_ := b2.below hb2 (by omega)
              have c3 := b3.below hb2 (by omega)
              have c4 := b4.below hb2 (by omega)
              have kw2 := Below.trans kw (hb2.mono (by omega))
              clear b2 b3 b4 kw bu1 hsl hb2 ko
              go_wp2
              go_roundw
              case rel => exact ⟨i + 1, by omega, by go_num, OK2, bu2, c2_, c3, c4, kw2⟩
              case measure => simp [intOf]; omega
        · obtain rfl : i = n := by omega
          obtain ⟨AR, CR, rfl⟩ := bu.form
          have hll : ll.length = i := by rw [← HL.out]; exact tab_len _ _ _
          have rm := bu.rm hll (by omega)
          clear bu
          cases hg : mechB ll with
          | true =>
            have HGL := hid hg
            clear hg
            have HF := hid (show prQ aa bb = (ll, true) by rw [HY.out, ← HL.out]; exact nmQ_yes (okAll_yes OK.out) (by rw [HL.out]; exact HGL.out))
            clear HY
            go_wp2_with fail
            refine (mIf_yes rm.rows HGL.out).mono ?_
            rintro e w12 ⟨rfl, k12⟩
            replace b4 := b4.keeps k12
            replace rm := rm.keeps k12
            replace kw := Keeps.trans kw k12
            have lt13 := b4.lt
            have sz14 := kw.size
            clear k12
            obtain ⟨ca15, fa15⟩ := id b4
            go_wp2_with fail
            clear ca15 fa15
            obtain ⟨ca0, fa0⟩ := id b4
            have frS : Fr (w.heap.size + 1 + 1) (w.heap.size + 1 + 1 + 1) w12 (w12.setCell ⟨w.heap.size + 1 + 1, 0, none⟩ (.slice AR i CR)) := (Fr.refl _ _ _).setCell (p := ⟨w.heap.size + 1 + 1, 0, none⟩) (Nat.le_refl _) (Nat.lt_succ_self _) _
            have hs := (rm).1.top
            refine bodyPost_ret (v := .tuple #[.agg #[.slice AR i CR], .bool true]) (by simp [results, Try.results53, go_sem, ca0]) rfl ⟨_, _, _, by rw [HF.out], ?_, Below.setCell kw (p := ⟨w.heap.size + 1 + 1, 0, none⟩) (by show _ ≤ (w.heap.size + 1 + 1); omega) _⟩
            rw [HF.out]
            exact (RM.fr rm frS (by omega)).widen (by first | omega | (simp; omega)) (by simp [World.setCell] <;> omega) (Nat.le_refl _)
          | false =>
            have HGL := hid hg
            clear hg
            have HF := hid (show prQ aa bb = ([], false) by rw [HY.out]; exact nmQ_no2 (by rw [HL.out]; exact HGL.out))
            clear HY
            go_wp2_with fail
            refine (mIf_no rm.rows HGL.out).mono ?_
            rintro e w12 ⟨rfl, k12⟩
            replace b4 := b4.keeps k12
            replace rm := rm.keeps k12
            replace kw := Keeps.trans kw k12
            have lt13 := b4.lt
            have sz14 := kw.size
            clear k12
            obtain ⟨ca15, fa15⟩ := id b4
            go_wp2_with fail
            clear ca15 fa15
            obtain ⟨ca0, fa0⟩ := id b4
            refine bodyPost_ret (v := .tuple #[.agg #[.slice none 0 0], .bool false]) (by simp [results, Try.results53, go_sem, ca0]) rfl ⟨none, 0, 0, by rw [HF.out], ?_, ?_⟩
            · rw [HF.out]; exact RM.nil_ _ _
            · first | exact Below.setCell kw (p := ⟨w.heap.size + 1 + 1, 0, none⟩) (Nat.le_refl _) _ | exact kw | exact Below.setCell kw (p := ⟨w.heap.size + 1 + 1, 0, none⟩) (by show _ ≤ (w.heap.size + 1 + 1); omega) _
set_option maxRecDepth 100000 in
set_option maxHeartbeats 1600000 in
theorem FnExactProductOf_law (A0 : Option Addr) (n0 c0 : Nat) (z0 : List (List (Int × Int))) (A1 : Option Addr) (n1 c1 : Nat) (z1 : List (List (Int × Int))) (w : World) (wa0 : RowsArg w A0 n0 z0) (wa1 : RowsArg w A1 n1 z1) :
    Calls Try.prog 13 #[.agg #[.slice A0 n0 c0], .agg #[.slice A1 n1 c1]] w fun e w' => e = .returned (.bool true) ∧ Below w.heap.size w w' := by
  go_enter Try.func13, Try.ntmps13
  have kw := keeps_refl w
  replace kw := Keeps.trans kw (keeps_alloc w (.cells #[.slice A0 n0 c0] 52))
  have p0 : B1 (w.alloc (.cells #[.slice A0 n0 c0] 52)) w.heap.size (.slice A0 n0 c0) := B1.new' (by simp)
  replace p0 := p0.keeps (keeps_alloc (w.alloc (.cells #[.slice A0 n0 c0] 52)) (.cells #[.slice A1 n1 c1] 52))
  replace kw := Keeps.trans kw (keeps_alloc (w.alloc (.cells #[.slice A0 n0 c0] 52)) (.cells #[.slice A1 n1 c1] 52))
  have p1 : B1 ((w.alloc (.cells #[.slice A0 n0 c0] 52)).alloc (.cells #[.slice A1 n1 c1] 52)) (w.heap.size + 1) (.slice A1 n1 c1) := B1.new' (by simp)
  obtain ⟨ca1, fa1⟩ := id p0
  obtain ⟨ca2, fa2⟩ := id p1
  go_wp2_with fail
  clear ca1 fa1 ca2 fa2
  by_cases hs0 : (mz z0 : Int) ≤ 1048576
  rotate_left
  · have hm0 := wa0.1
    refine (szMechanism_no (left := 1048576) (wa0.keeps kw) (by omega) (by omega) (by omega)).mono ?_
    rintro e w3 ⟨rfl, k3⟩
    have ss4 := k3.size
    simp at ss4
    replace p0 := p0.keeps k3
    replace p1 := p1.keeps k3
    replace kw := Keeps.trans kw k3
    have lt5 := p1.lt
    have sz6 := kw.size
    clear k3
    go_wp2_with fail
    go_ret
    exact ⟨rfl, kw⟩
  have h0 := wa0.rows (by omega)
  refine (szMechanism_ok (left := 1048576) (wa0.keeps kw) (by omega) (by omega)).mono ?_
  rintro e w3 ⟨rfl, k3⟩
  have ss4 := k3.size
  simp at ss4
  replace p0 := p0.keeps k3
  replace p1 := p1.keeps k3
  replace kw := Keeps.trans kw k3
  have lt5 := p1.lt
  have sz6 := kw.size
  clear k3
  have tz0 : ¬ (1048576 - (mz z0 : Int) < 0) := by omega
  obtain ⟨ca7, fa7⟩ := id p0
  obtain ⟨ca8, fa8⟩ := id p1
  go_wp2_with fail
  clear ca7 fa7 ca8 fa8
  by_cases hs1 : (mz z1 : Int) ≤ 1048576 - (mz z0 : Int)
  rotate_left
  · have hm1 := wa1.1
    refine (szMechanism_no (left := 1048576 - (mz z0 : Int)) (wa1.keeps kw) (by omega) (by omega) (by omega)).mono ?_
    rintro e w9 ⟨rfl, k9⟩
    have ss10 := k9.size
    replace p0 := p0.keeps k9
    replace p1 := p1.keeps k9
    replace kw := Keeps.trans kw k9
    have lt11 := p1.lt
    have sz12 := kw.size
    clear k9
    go_wp2_with fail
    go_ret
    exact ⟨rfl, kw⟩
  have h1 := wa1.rows (by omega)
  refine (szMechanism_ok (left := 1048576 - (mz z0 : Int)) (wa1.keeps kw) (by omega) (by omega)).mono ?_
  rintro e w9 ⟨rfl, k9⟩
  have ss10 := k9.size
  replace p0 := p0.keeps k9
  replace p1 := p1.keeps k9
  replace kw := Keeps.trans kw k9
  have lt11 := p1.lt
  have sz12 := kw.size
  clear k9
  have tz1 : ¬ (1048576 - (mz z0 : Int) - (mz z1 : Int) < 0) := by omega
  obtain ⟨ca13, fa13⟩ := id p0
  obtain ⟨ca14, fa14⟩ := id p1
  go_wp2_with fail
  clear ca13 fa13 ca14 fa14
  obtain ⟨r0, r1, HR⟩ : ∃ r0 r1, Hid (prQ z0 z1 = (r0, r1)) := ⟨_, _, rfl⟩
  have hsm := prQ_len z0 z1
  rw [HR.out] at hsm
  dsimp only at hsm
  have hW0 := (h0.keeps kw)
  have hW1 := (h1.keeps kw)
  obtain ⟨ca16, -⟩ := id p0
  obtain ⟨ca17, -⟩ := id p1
  have kS := hid (show ∀ w', Keeps w9 w' → (w'.cell? ⟨w.heap.size, 0, none⟩ = some (.slice A0 n0 c0) ∧ w'.cell? ⟨w.heap.size + 1, 0, none⟩ = some (.slice A1 n1 c1)) from fun w' k => ⟨cell_keeps ca16 k, cell_keeps ca17 k⟩)
  go_cut [6, 7] (fun sd so wq => ∃ wy g AN NN CN, wy = wq ∧ sd = .pointer (some ⟨g, 0, none⟩) ∧ B1 wy g (.slice AN NN CN) ∧ w9.heap.size ≤ g ∧ so = .bool r1 ∧ RM wy w9.heap.size wy.heap.size AN NN r0 ∧ Keeps w9 wy)
  case first =>
    go_region_held3 (fun w' => w'.cell? ⟨w.heap.size, 0, none⟩ = some (.slice A0 n0 c0) ∧ w'.cell? ⟨w.heap.size + 1, 0, none⟩ = some (.slice A1 n1 c1)) (first | with_reducible exact kS.out _ (keeps_d0 w9) | with_reducible exact kS.out _ (keeps_ad0 w9 _) | with_reducible exact kS.out _ (kW) | with_reducible exact kS.out _ (kW.trans (keeps_alloc _ _)) | with_reducible exact kS.out _ (kW.trans (keeps_d0 _)) | with_reducible exact kS.out _ (kW.trans (keeps_ad0 _ _)) | with_reducible exact kS.out _ (below_set1 kW lz _) | go_keep)
      ((first | (go_at_call 35; (first | with_reducible refine (toMechanism_any (hW0.keeps (keeps_d0 _))).mono ?_ | with_reducible refine (toMechanism_any (hW0.keeps (keeps_ad0 _ _))).mono ?_ | with_reducible refine (toMechanism_any (hW0.keeps (keeps_refl _))).mono ?_ | with_reducible refine (toMechanism_any (hW0.keeps (kW))).mono ?_ | with_reducible refine (toMechanism_any (hW0.keeps (kW.trans (keeps_alloc _ _)))).mono ?_ | with_reducible refine (toMechanism_any (hW0.keeps (kW.trans (keeps_d0 _)))).mono ?_ | with_reducible refine (toMechanism_any (hW0.keeps (kW.trans (keeps_ad0 _ _)))).mono ?_); rintro e wB ⟨By0, rfl, y0, kB⟩; (first | (have y1 := RM.keeps y1 (kB)) | (have y1 := RM.keeps y1 (keeps_d kB)) | (have y1 := RM.keeps y1 ((keeps_alloc _ _).trans kB)) | (have y1 := RM.keeps y1 (keeps_ad kB)) | skip); (first | (have kZ := kZ.keeps (kB)) | (have kZ := kZ.keeps (keeps_d kB)) | (have kZ : B1 wB w9.heap.size (.slice none 0 0) := B1.kZ1 kB rfl; have lz : w9.heap.size ≤ w9.heap.size := (Nat.le_refl _)) | (have kZ : B1 wB w9.heap.size (.slice none 0 0) := B1.kZ2 kB rfl; have lz : w9.heap.size ≤ w9.heap.size := (Nat.le_refl _)) | (have kZ : B1 wB _ (.slice none 0 0) := B1.kZ1 kB rfl; have lz := kW.size) | (have kZ : B1 wB _ (.slice none 0 0) := B1.kZ2 kB rfl; have lz := kW.size) | skip); (first | obtain ⟨z1, z2⟩ := id kZ | skip); (first | (have kW : Keeps w9 wB := kW.trans (kB)) | (have kW : Keeps w9 wB := kW.trans (keeps_d kB)) | (have kW : Keeps w9 wB := kW.trans ((keeps_alloc _ _).trans kB)) | (have kW : Keeps w9 wB := kW.trans (keeps_ad kB)) | (have kW : Keeps w9 wB := kB) | (have kW : Keeps w9 wB := keeps_d kB) | (have kW : Keeps w9 wB := (keeps_alloc _ _).trans kB) | (have kW : Keeps w9 wB := keeps_ad kB)); clear kB) | (go_at_call 35; (first | with_reducible refine (toMechanism_any (hW1.keeps (keeps_d0 _))).mono ?_ | with_reducible refine (toMechanism_any (hW1.keeps (keeps_ad0 _ _))).mono ?_ | with_reducible refine (toMechanism_any (hW1.keeps (keeps_refl _))).mono ?_ | with_reducible refine (toMechanism_any (hW1.keeps (kW))).mono ?_ | with_reducible refine (toMechanism_any (hW1.keeps (kW.trans (keeps_alloc _ _)))).mono ?_ | with_reducible refine (toMechanism_any (hW1.keeps (kW.trans (keeps_d0 _)))).mono ?_ | with_reducible refine (toMechanism_any (hW1.keeps (kW.trans (keeps_ad0 _ _)))).mono ?_); rintro e wB ⟨By1, rfl, y1, kB⟩; (first | (have y0 := RM.keeps y0 (kB)) | (have y0 := RM.keeps y0 (keeps_d kB)) | (have y0 := RM.keeps y0 ((keeps_alloc _ _).trans kB)) | (have y0 := RM.keeps y0 (keeps_ad kB)) | skip); (first | (have kZ := kZ.keeps (kB)) | (have kZ := kZ.keeps (keeps_d kB)) | (have kZ : B1 wB w9.heap.size (.slice none 0 0) := B1.kZ1 kB rfl; have lz : w9.heap.size ≤ w9.heap.size := (Nat.le_refl _)) | (have kZ : B1 wB w9.heap.size (.slice none 0 0) := B1.kZ2 kB rfl; have lz : w9.heap.size ≤ w9.heap.size := (Nat.le_refl _)) | (have kZ : B1 wB _ (.slice none 0 0) := B1.kZ1 kB rfl; have lz := kW.size) | (have kZ : B1 wB _ (.slice none 0 0) := B1.kZ2 kB rfl; have lz := kW.size) | skip); (first | obtain ⟨z1, z2⟩ := id kZ | skip); (first | (have kW : Keeps w9 wB := kW.trans (kB)) | (have kW : Keeps w9 wB := kW.trans (keeps_d kB)) | (have kW : Keeps w9 wB := kW.trans ((keeps_alloc _ _).trans kB)) | (have kW : Keeps w9 wB := kW.trans (keeps_ad kB)) | (have kW : Keeps w9 wB := kB) | (have kW : Keeps w9 wB := keeps_d kB) | (have kW : Keeps w9 wB := (keeps_alloc _ _).trans kB) | (have kW : Keeps w9 wB := keeps_ad kB)); clear kB) | (go_at_call 53; (first | (have lz2 := kZ.lt) | skip); have lx := kW.size; (first | with_reducible refine (specProductOf_any (RM.rows y0) (RM.rows y1)).mono ?_ | with_reducible refine (specProductOf_any ((RM.rows y0).keeps (keeps_alloc _ _)) ((RM.rows y1).keeps (keeps_alloc _ _))).mono ?_ | with_reducible refine (specProductOf_any ((RM.rows y0).keeps (keeps_d0 _)) ((RM.rows y1).keeps (keeps_d0 _))).mono ?_ | with_reducible refine (specProductOf_any ((RM.rows y0).keeps (keeps_ad0 _ _)) ((RM.rows y1).keeps (keeps_ad0 _ _))).mono ?_); rintro e wB ⟨AN, NN, CN, rfl, rm, kB⟩; rw [HR.out]; rw [HR.out] at rm; dsimp only at rm; dsimp only; (first | (have kZ := kZ.keeps (kB)) | (have kZ := kZ.keeps (keeps_d kB)) | (have kZ : B1 wB w9.heap.size (.slice none 0 0) := B1.kZ1 kB rfl; have lz : w9.heap.size ≤ w9.heap.size := (Nat.le_refl _)) | (have kZ : B1 wB w9.heap.size (.slice none 0 0) := B1.kZ2 kB rfl; have lz : w9.heap.size ≤ w9.heap.size := (Nat.le_refl _)) | (have kZ : B1 wB _ (.slice none 0 0) := B1.kZ1 kB rfl; have lz := kW.size) | (have kZ : B1 wB _ (.slice none 0 0) := B1.kZ2 kB rfl; have lz := kW.size) | skip); (first | obtain ⟨z1, z2⟩ := id kZ | skip); (first | (have kW : Keeps w9 wB := kW.trans (kB)) | (have kW : Keeps w9 wB := kW.trans (keeps_d kB)) | (have kW : Keeps w9 wB := kW.trans ((keeps_alloc _ _).trans kB)) | (have kW : Keeps w9 wB := kW.trans (keeps_ad kB)) | (have kW : Keeps w9 wB := kB) | (have kW : Keeps w9 wB := keeps_d kB) | (have kW : Keeps w9 wB := (keeps_alloc _ _).trans kB) | (have kW : Keeps w9 wB := keeps_ad kB)); clear kB)))
    all_goals (go_wp2_with fail; go_meet; first
      | exact ⟨_, _, AN, NN, CN, rfl, rfl, B1.new' rfl, kW.size, rfl, RM.res_new rm (by have := kW.size; first | omega | (simp; done) | (simp; omega)), kW.trans (keeps_alloc _ _)⟩
      | exact ⟨_, _, AN, NN, CN, rfl, rfl, B1.put kZ _, lz, rfl, RM.res_set rm (by have := kW.size; first | omega | (simp; done) | (simp; omega)) (by first | omega | (simp; done) | (simp; omega)), below_set1 kW lz _⟩)
  case rest =>
    clear kS hW0 hW1
    clear ca16 ca17
    obtain ⟨wx15, g15, p_A0, p_N0, p_C0, rfl, rfl, p_b0, lg15, rfl, p_0, kx15⟩ := hcut
    have ss18 := kx15.size
    replace p0 := p0.keeps kx15
    replace p1 := p1.keeps kx15
    replace kw := Keeps.trans kw kx15
    have lt19 := p1.lt
    have sz20 := kw.size
    clear kx15
    have lt21 := p_b0.lt
    obtain ⟨ca22, fa22⟩ := id p0
    obtain ⟨ca23, fa23⟩ := id p1
    obtain ⟨ca24, fa24⟩ := id p_b0
    go_wp2_with fail
    clear ca22 fa22 ca23 fa23 ca24 fa24
    refine (toMechanism_any (h0.keeps kw)).mono ?_
    rintro e w25 ⟨Bx0, rfl, x0, k25⟩
    have ss26 := k25.size
    replace p0 := p0.keeps k25
    replace p1 := p1.keeps k25
    replace p_b0 := p_b0.keeps k25
    replace p_0 := p_0.keeps k25
    replace kw := Keeps.trans kw k25
    have lt27 := p_b0.lt
    have sz28 := kw.size
    clear k25
    replace p0 := p0.keeps (keeps_alloc w25 (.cells #[.slice Bx0 n0 n0] 57))
    replace p1 := p1.keeps (keeps_alloc w25 (.cells #[.slice Bx0 n0 n0] 57))
    replace p_b0 := p_b0.keeps (keeps_alloc w25 (.cells #[.slice Bx0 n0 n0] 57))
    replace p_0 := p_0.keeps (keeps_alloc w25 (.cells #[.slice Bx0 n0 n0] 57))
    replace x0 := x0.keeps (keeps_alloc w25 (.cells #[.slice Bx0 n0 n0] 57))
    replace kw := Keeps.trans kw (keeps_alloc w25 (.cells #[.slice Bx0 n0 n0] 57))
    have bx0 : B1 (w25.alloc (.cells #[.slice Bx0 n0 n0] 57)) w25.heap.size (.slice Bx0 n0 n0) := B1.new' (by simp)
    obtain ⟨ca29, fa29⟩ := id p0
    obtain ⟨ca30, fa30⟩ := id p1
    obtain ⟨ca31, fa31⟩ := id p_b0
    obtain ⟨ca32, fa32⟩ := id bx0
    go_wp2_with fail
    clear ca29 fa29 ca30 fa30 ca31 fa31 ca32 fa32
    refine (toMechanism_any (h1.keeps kw)).mono ?_
    rintro e w33 ⟨Bx1, rfl, x1, k33⟩
    have ss34 := k33.size
    simp at ss34
    replace p0 := p0.keeps k33
    replace p1 := p1.keeps k33
    replace p_b0 := p_b0.keeps k33
    replace bx0 := bx0.keeps k33
    replace p_0 := p_0.keeps k33
    replace x0 := x0.keeps k33
    replace kw := Keeps.trans kw k33
    have lt35 := bx0.lt
    have sz36 := kw.size
    clear k33
    replace x1 := x1.widen (lo' := w25.heap.size + 1) (by simp) (Nat.le_refl _) (Nat.le_refl _)
    replace p0 := p0.keeps (keeps_alloc w33 (.cells #[.slice Bx1 n1 n1] 57))
    replace p1 := p1.keeps (keeps_alloc w33 (.cells #[.slice Bx1 n1 n1] 57))
    replace p_b0 := p_b0.keeps (keeps_alloc w33 (.cells #[.slice Bx1 n1 n1] 57))
    replace bx0 := bx0.keeps (keeps_alloc w33 (.cells #[.slice Bx1 n1 n1] 57))
    replace p_0 := p_0.keeps (keeps_alloc w33 (.cells #[.slice Bx1 n1 n1] 57))
    replace x0 := x0.keeps (keeps_alloc w33 (.cells #[.slice Bx1 n1 n1] 57))
    replace x1 := x1.keeps (keeps_alloc w33 (.cells #[.slice Bx1 n1 n1] 57))
    replace kw := Keeps.trans kw (keeps_alloc w33 (.cells #[.slice Bx1 n1 n1] 57))
    have bx1 : B1 (w33.alloc (.cells #[.slice Bx1 n1 n1] 57)) w33.heap.size (.slice Bx1 n1 n1) := B1.new' (by simp)
    obtain ⟨ca37, fa37⟩ := id p0
    obtain ⟨ca38, fa38⟩ := id p1
    obtain ⟨ca39, fa39⟩ := id p_b0
    obtain ⟨ca40, fa40⟩ := id bx0
    obtain ⟨ca41, fa41⟩ := id bx1
    go_wp2_with fail
    clear ca37 fa37 ca38 fa38 ca39 fa39 ca40 fa40 ca41 fa41
    refine (implProductOf_any x0.1 x1.1).mono ?_
    rintro e w42 ⟨g_A0, g_N0, g_C0, rfl, g_0, k42⟩
    have ss43 := k42.size
    simp at ss43
    replace p0 := p0.keeps k42
    replace p1 := p1.keeps k42
    replace p_b0 := p_b0.keeps k42
    replace bx0 := bx0.keeps k42
    replace bx1 := bx1.keeps k42
    replace p_0 := p_0.keeps k42
    replace x0 := x0.keeps k42
    replace x1 := x1.keeps k42
    replace kw := Keeps.trans kw k42
    have lt44 := bx1.lt
    have sz45 := kw.size
    clear k42
    rw [HR.out]
    rw [HR.out] at g_0
    dsimp only at g_0
    dsimp only
    replace g_0 := g_0.widen (lo' := w33.heap.size + 1) (by simp) (Nat.le_refl _) (Nat.le_refl _)
    replace p0 := p0.keeps (keeps_alloc w42 (.cells #[.slice g_A0 g_N0 g_C0] 57))
    replace p1 := p1.keeps (keeps_alloc w42 (.cells #[.slice g_A0 g_N0 g_C0] 57))
    replace p_b0 := p_b0.keeps (keeps_alloc w42 (.cells #[.slice g_A0 g_N0 g_C0] 57))
    replace bx0 := bx0.keeps (keeps_alloc w42 (.cells #[.slice g_A0 g_N0 g_C0] 57))
    replace bx1 := bx1.keeps (keeps_alloc w42 (.cells #[.slice g_A0 g_N0 g_C0] 57))
    replace p_0 := p_0.keeps (keeps_alloc w42 (.cells #[.slice g_A0 g_N0 g_C0] 57))
    replace x0 := x0.keeps (keeps_alloc w42 (.cells #[.slice g_A0 g_N0 g_C0] 57))
    replace x1 := x1.keeps (keeps_alloc w42 (.cells #[.slice g_A0 g_N0 g_C0] 57))
    replace g_0 := g_0.keeps (keeps_alloc w42 (.cells #[.slice g_A0 g_N0 g_C0] 57))
    replace kw := Keeps.trans kw (keeps_alloc w42 (.cells #[.slice g_A0 g_N0 g_C0] 57))
    have g_b0 : B1 (w42.alloc (.cells #[.slice g_A0 g_N0 g_C0] 57)) w42.heap.size (.slice g_A0 g_N0 g_C0) := B1.new' (by simp)
    obtain ⟨ca46, fa46⟩ := id p0
    obtain ⟨ca47, fa47⟩ := id p1
    obtain ⟨ca48, fa48⟩ := id p_b0
    obtain ⟨ca49, fa49⟩ := id bx0
    obtain ⟨ca50, fa50⟩ := id bx1
    obtain ⟨ca51, fa51⟩ := id g_b0
    go_wp2_with fail
    clear ca46 fa46 ca47 fa47 ca48 fa48 ca49 fa49 ca50 fa50 ca51 fa51
    have e1 : (r1 != r1) = false := by simp
    refine (eqMechanism_true g_0.1 p_0.1).mono ?_
    rintro e w52 ⟨rfl, k52⟩
    have ss53 := k52.size
    simp at ss53
    replace p0 := p0.keeps k52
    replace p1 := p1.keeps k52
    replace p_b0 := p_b0.keeps k52
    replace bx0 := bx0.keeps k52
    replace bx1 := bx1.keeps k52
    replace g_b0 := g_b0.keeps k52
    replace p_0 := p_0.keeps k52
    replace x0 := x0.keeps k52
    replace x1 := x1.keeps k52
    replace g_0 := g_0.keeps k52
    replace kw := Keeps.trans kw k52
    have lt54 := g_b0.lt
    have sz55 := kw.size
    clear k52
    obtain ⟨ca56, fa56⟩ := id p0
    obtain ⟨ca57, fa57⟩ := id p1
    obtain ⟨ca58, fa58⟩ := id p_b0
    obtain ⟨ca59, fa59⟩ := id bx0
    obtain ⟨ca60, fa60⟩ := id bx1
    obtain ⟨ca61, fa61⟩ := id g_b0
    go_wp2_with fail
    clear ca56 fa56 ca57 fa57 ca58 fa58 ca59 fa59 ca60 fa60 ca61 fa61
    obtain ⟨ca62, -⟩ := id bx0
    obtain ⟨ca63, -⟩ := id p0
    have kS := hid (show ∀ w', Keeps w52 w' → (w'.cell? ⟨w25.heap.size, 0, none⟩ = some (.slice Bx0 n0 n0) ∧ w'.cell? ⟨w.heap.size, 0, none⟩ = some (.slice A0 n0 c0)) from fun w' k => ⟨cell_keeps ca62 k, cell_keeps ca63 k⟩)
    go_region_held3 (fun w' => w'.cell? ⟨w25.heap.size, 0, none⟩ = some (.slice Bx0 n0 n0) ∧ w'.cell? ⟨w.heap.size, 0, none⟩ = some (.slice A0 n0 c0)) (first | exact kS.out _ (keeps_d0 w52) | exact kS.out _ kW | go_keep)
      ((first | (go_at_call 35; refine (toMechanism_any (h0.keeps (Keeps.trans kw (keeps_d0 w52)))).mono ?_; rintro e wB64 ⟨Bt64, rfl, t0, kB⟩; have kW : Keeps w52 wB64 := keeps_d kB; clear kB) | (go_at_call 37; refine (eqMechanism_true (x0.1.keeps kW) t0.1).mono ?_; rintro e wC64 ⟨rfl, kC⟩; replace kW : Keeps w52 wC64 := kW.trans kC; clear kC)))
    clear kS t0
    clear ca62 ca63
    have ss65 := kW.size
    replace p0 := p0.keeps kW
    replace p1 := p1.keeps kW
    replace p_b0 := p_b0.keeps kW
    replace bx0 := bx0.keeps kW
    replace bx1 := bx1.keeps kW
    replace g_b0 := g_b0.keeps kW
    replace p_0 := p_0.keeps kW
    replace x0 := x0.keeps kW
    replace x1 := x1.keeps kW
    replace g_0 := g_0.keeps kW
    replace kw := Keeps.trans kw kW
    have lt66 := g_b0.lt
    have sz67 := kw.size
    clear kW
    obtain ⟨ca68, fa68⟩ := id p0
    obtain ⟨ca69, fa69⟩ := id p1
    obtain ⟨ca70, fa70⟩ := id p_b0
    obtain ⟨ca71, fa71⟩ := id bx0
    obtain ⟨ca72, fa72⟩ := id bx1
    obtain ⟨ca73, fa73⟩ := id g_b0
    go_wp2_with fail
    clear ca68 fa68 ca69 fa69 ca70 fa70 ca71 fa71 ca72 fa72 ca73 fa73
    obtain ⟨ca74, -⟩ := id bx1
    obtain ⟨ca75, -⟩ := id p1
    have kS := hid (show ∀ w', Keeps wC64 w' → (w'.cell? ⟨w33.heap.size, 0, none⟩ = some (.slice Bx1 n1 n1) ∧ w'.cell? ⟨w.heap.size + 1, 0, none⟩ = some (.slice A1 n1 c1)) from fun w' k => ⟨cell_keeps ca74 k, cell_keeps ca75 k⟩)
    go_region_held3 (fun w' => w'.cell? ⟨w33.heap.size, 0, none⟩ = some (.slice Bx1 n1 n1) ∧ w'.cell? ⟨w.heap.size + 1, 0, none⟩ = some (.slice A1 n1 c1)) (first | exact kS.out _ (keeps_d0 wC64) | exact kS.out _ kW | go_keep)
      ((first | (go_at_call 35; refine (toMechanism_any (h1.keeps (Keeps.trans kw (keeps_d0 wC64)))).mono ?_; rintro e wB76 ⟨Bt76, rfl, t1, kB⟩; have kW : Keeps wC64 wB76 := keeps_d kB; clear kB) | (go_at_call 37; refine (eqMechanism_true (x1.1.keeps kW) t1.1).mono ?_; rintro e wC76 ⟨rfl, kC⟩; replace kW : Keeps wC64 wC76 := kW.trans kC; clear kC)))
    clear kS t1
    clear ca74 ca75
    have ss77 := kW.size
    replace p0 := p0.keeps kW
    replace p1 := p1.keeps kW
    replace p_b0 := p_b0.keeps kW
    replace bx0 := bx0.keeps kW
    replace bx1 := bx1.keeps kW
    replace g_b0 := g_b0.keeps kW
    replace p_0 := p_0.keeps kW
    replace x0 := x0.keeps kW
    replace x1 := x1.keeps kW
    replace g_0 := g_0.keeps kW
    replace kw := Keeps.trans kw kW
    have lt78 := g_b0.lt
    have sz79 := kw.size
    clear kW
    obtain ⟨ca80, fa80⟩ := id p0
    obtain ⟨ca81, fa81⟩ := id p1
    obtain ⟨ca82, fa82⟩ := id p_b0
    obtain ⟨ca83, fa83⟩ := id bx0
    obtain ⟨ca84, fa84⟩ := id bx1
    obtain ⟨ca85, fa85⟩ := id g_b0
    go_wp2_with fail
    clear ca80 fa80 ca81 fa81 ca82 fa82 ca83 fa83 ca84 fa84 ca85 fa85
    have hb0 : rowSum z0 n0 ≤ 1048576 := by have e := (RM.rows x0).len; have e2 := hs0; unfold mz at e2; rw [e] at e2; omega
    have hb1 : rowSum z1 n1 ≤ 1048576 := by have e := (RM.rows x1).len; have e2 := hs1; unfold mz at e2; rw [e] at e2; omega
    refine (markMechanism_any x0 (by omega) (by omega) (by have e := (RM.rows x0).len; have e2 := hs0; unfold mz at e2; rw [e] at e2; omega)).mono ?_
    rintro e w86 ⟨rfl, mk86, f86⟩
    clear x0
    replace p0 := p0.fr f86 (by omega)
    replace p1 := p1.fr f86 (by omega)
    replace p_b0 := p_b0.fr f86 (by omega)
    replace bx0 := bx0.fr f86 (by omega)
    replace bx1 := bx1.fr f86 (by omega)
    replace g_b0 := g_b0.fr f86 (by omega)
    replace p_0 := p_0.fr f86 (by omega)
    replace x1 := x1.fr f86 (by omega)
    replace g_0 := g_0.fr f86 (by omega)
    have ssf86 := f86.size
    replace kw := below_fr kw kw.size (by omega) f86
    obtain ⟨ca87, fa87⟩ := id p0
    obtain ⟨ca88, fa88⟩ := id p1
    obtain ⟨ca89, fa89⟩ := id p_b0
    obtain ⟨ca90, fa90⟩ := id bx0
    obtain ⟨ca91, fa91⟩ := id bx1
    obtain ⟨ca92, fa92⟩ := id g_b0
    go_wp2_with fail
    clear ca87 fa87 ca88 fa88 ca89 fa89 ca90 fa90 ca91 fa91 ca92 fa92
    clear mk86
    refine (markMechanism_any x1 (by omega) (by omega) (by have e := (RM.rows x1).len; have e2 := hs1; unfold mz at e2; rw [e] at e2; omega)).mono ?_
    rintro e w93 ⟨rfl, mk93, f93⟩
    clear x1
    replace p0 := p0.fr f93 (by omega)
    replace p1 := p1.fr f93 (by omega)
    replace p_b0 := p_b0.fr f93 (by omega)
    replace bx0 := bx0.fr f93 (by omega)
    replace bx1 := bx1.fr f93 (by omega)
    replace g_b0 := g_b0.fr f93 (by omega)
    replace p_0 := p_0.fr f93 (by omega)
    replace g_0 := g_0.fr f93 (by omega)
    have ssf93 := f93.size
    replace kw := below_fr kw kw.size (by omega) f93
    obtain ⟨ca94, fa94⟩ := id p0
    obtain ⟨ca95, fa95⟩ := id p1
    obtain ⟨ca96, fa96⟩ := id p_b0
    obtain ⟨ca97, fa97⟩ := id bx0
    obtain ⟨ca98, fa98⟩ := id bx1
    obtain ⟨ca99, fa99⟩ := id g_b0
    go_wp2_with fail
    clear ca94 fa94 ca95 fa95 ca96 fa96 ca97 fa97 ca98 fa98 ca99 fa99
    clear mk93
    refine (eqMechanism_true g_0.1 p_0.1).mono ?_
    rintro e w100 ⟨rfl, k100⟩
    have ss101 := k100.size
    replace p0 := p0.keeps k100
    replace p1 := p1.keeps k100
    replace p_b0 := p_b0.keeps k100
    replace bx0 := bx0.keeps k100
    replace bx1 := bx1.keeps k100
    replace g_b0 := g_b0.keeps k100
    replace p_0 := p_0.keeps k100
    replace g_0 := g_0.keeps k100
    replace kw := Keeps.trans kw k100
    have lt102 := g_b0.lt
    have sz103 := kw.size
    clear k100
    obtain ⟨ca104, fa104⟩ := id p0
    obtain ⟨ca105, fa105⟩ := id p1
    obtain ⟨ca106, fa106⟩ := id p_b0
    obtain ⟨ca107, fa107⟩ := id bx0
    obtain ⟨ca108, fa108⟩ := id bx1
    obtain ⟨ca109, fa109⟩ := id g_b0
    go_wp2_with fail
    clear ca104 fa104 ca105 fa105 ca106 fa106 ca107 fa107 ca108 fa108 ca109 fa109
    have HLN := hid (RM.rows g_0).len
    refine (markMechanism_any g_0 (by omega) (by omega) (by rw [← (RM.rows g_0).len]; exact hsm.2)).mono ?_
    rintro e w110 ⟨rfl, mk110, f110⟩
    clear g_0
    replace p0 := p0.fr f110 (by omega)
    replace p1 := p1.fr f110 (by omega)
    replace p_b0 := p_b0.fr f110 (by omega)
    replace bx0 := bx0.fr f110 (by omega)
    replace bx1 := bx1.fr f110 (by omega)
    replace g_b0 := g_b0.fr f110 (by omega)
    replace p_0 := p_0.fr f110 (by omega)
    have ssf110 := f110.size
    replace kw := below_fr kw kw.size (by omega) f110
    obtain ⟨ca111, fa111⟩ := id p0
    obtain ⟨ca112, fa112⟩ := id p1
    obtain ⟨ca113, fa113⟩ := id p_b0
    obtain ⟨ca114, fa114⟩ := id bx0
    obtain ⟨ca115, fa115⟩ := id bx1
    obtain ⟨ca116, fa116⟩ := id g_b0
    go_wp2_with fail
    clear ca111 fa111 ca112 fa112 ca113 fa113 ca114 fa114 ca115 fa115 ca116 fa116
    have u1 : ((1 + 2 * (rowSum r0 g_N0 : Int)) != (1 + 2 * (rowSum r0 g_N0 : Int))) = false := by simp
    have u2 : ¬ (1 + 2 * (rowSum r0 g_N0 : Int) < 0) := by omega
    refine (heldMechanism_any mk110.1 (by omega) (by omega) (by rw [← HLN.out]; exact hsm.2)).mono ?_
    rintro e w117 ⟨rfl, k117⟩
    have ss118 := k117.size
    replace p0 := p0.keeps k117
    replace p1 := p1.keeps k117
    replace p_b0 := p_b0.keeps k117
    replace bx0 := bx0.keeps k117
    replace bx1 := bx1.keeps k117
    replace g_b0 := g_b0.keeps k117
    replace p_0 := p_0.keeps k117
    replace mk110 := mk110.keeps k117
    replace kw := Keeps.trans kw k117
    have lt119 := g_b0.lt
    have sz120 := kw.size
    clear k117
    obtain ⟨ca121, fa121⟩ := id p0
    obtain ⟨ca122, fa122⟩ := id p1
    obtain ⟨ca123, fa123⟩ := id p_b0
    obtain ⟨ca124, fa124⟩ := id bx0
    obtain ⟨ca125, fa125⟩ := id bx1
    obtain ⟨ca126, fa126⟩ := id g_b0
    go_wp2_with fail
    clear ca121 fa121 ca122 fa122 ca123 fa123 ca124 fa124 ca125 fa125 ca126 fa126
    have hW0 := (h0.keeps kw)
    have hW1 := (h1.keeps kw)
    obtain ⟨ca128, -⟩ := id p0
    obtain ⟨ca129, -⟩ := id p1
    have kS := hid (show ∀ w', Keeps w117 w' → (w'.cell? ⟨w.heap.size, 0, none⟩ = some (.slice A0 n0 c0) ∧ w'.cell? ⟨w.heap.size + 1, 0, none⟩ = some (.slice A1 n1 c1)) from fun w' k => ⟨cell_keeps ca128 k, cell_keeps ca129 k⟩)
    go_cut [15, 16] (fun sd so wq => ∃ wy g AN NN CN, wy = wq ∧ sd = .pointer (some ⟨g, 0, none⟩) ∧ B1 wy g (.slice AN NN CN) ∧ w117.heap.size ≤ g ∧ so = .bool r1 ∧ RM wy w117.heap.size wy.heap.size AN NN r0 ∧ Keeps w117 wy)
    case first =>
      go_region_held3 (fun w' => w'.cell? ⟨w.heap.size, 0, none⟩ = some (.slice A0 n0 c0) ∧ w'.cell? ⟨w.heap.size + 1, 0, none⟩ = some (.slice A1 n1 c1)) (first | with_reducible exact kS.out _ (keeps_d0 w117) | with_reducible exact kS.out _ (keeps_ad0 w117 _) | with_reducible exact kS.out _ (kW) | with_reducible exact kS.out _ (kW.trans (keeps_alloc _ _)) | with_reducible exact kS.out _ (kW.trans (keeps_d0 _)) | with_reducible exact kS.out _ (kW.trans (keeps_ad0 _ _)) | with_reducible exact kS.out _ (below_set1 kW lz _) | go_keep)
        ((first | (go_at_call 35; (first | with_reducible refine (toMechanism_any (hW0.keeps (keeps_d0 _))).mono ?_ | with_reducible refine (toMechanism_any (hW0.keeps (keeps_ad0 _ _))).mono ?_ | with_reducible refine (toMechanism_any (hW0.keeps (keeps_refl _))).mono ?_ | with_reducible refine (toMechanism_any (hW0.keeps (kW))).mono ?_ | with_reducible refine (toMechanism_any (hW0.keeps (kW.trans (keeps_alloc _ _)))).mono ?_ | with_reducible refine (toMechanism_any (hW0.keeps (kW.trans (keeps_d0 _)))).mono ?_ | with_reducible refine (toMechanism_any (hW0.keeps (kW.trans (keeps_ad0 _ _)))).mono ?_); rintro e wB ⟨By0, rfl, y0, kB⟩; (first | (have y1 := RM.keeps y1 (kB)) | (have y1 := RM.keeps y1 (keeps_d kB)) | (have y1 := RM.keeps y1 ((keeps_alloc _ _).trans kB)) | (have y1 := RM.keeps y1 (keeps_ad kB)) | skip); (first | (have kZ := kZ.keeps (kB)) | (have kZ := kZ.keeps (keeps_d kB)) | (have kZ : B1 wB w117.heap.size (.slice none 0 0) := B1.kZ1 kB rfl; have lz : w117.heap.size ≤ w117.heap.size := (Nat.le_refl _)) | (have kZ : B1 wB w117.heap.size (.slice none 0 0) := B1.kZ2 kB rfl; have lz : w117.heap.size ≤ w117.heap.size := (Nat.le_refl _)) | (have kZ : B1 wB _ (.slice none 0 0) := B1.kZ1 kB rfl; have lz := kW.size) | (have kZ : B1 wB _ (.slice none 0 0) := B1.kZ2 kB rfl; have lz := kW.size) | skip); (first | obtain ⟨z1, z2⟩ := id kZ | skip); (first | (have kW : Keeps w117 wB := kW.trans (kB)) | (have kW : Keeps w117 wB := kW.trans (keeps_d kB)) | (have kW : Keeps w117 wB := kW.trans ((keeps_alloc _ _).trans kB)) | (have kW : Keeps w117 wB := kW.trans (keeps_ad kB)) | (have kW : Keeps w117 wB := kB) | (have kW : Keeps w117 wB := keeps_d kB) | (have kW : Keeps w117 wB := (keeps_alloc _ _).trans kB) | (have kW : Keeps w117 wB := keeps_ad kB)); clear kB) | (go_at_call 35; (first | with_reducible refine (toMechanism_any (hW1.keeps (keeps_d0 _))).mono ?_ | with_reducible refine (toMechanism_any (hW1.keeps (keeps_ad0 _ _))).mono ?_ | with_reducible refine (toMechanism_any (hW1.keeps (keeps_refl _))).mono ?_ | with_reducible refine (toMechanism_any (hW1.keeps (kW))).mono ?_ | with_reducible refine (toMechanism_any (hW1.keeps (kW.trans (keeps_alloc _ _)))).mono ?_ | with_reducible refine (toMechanism_any (hW1.keeps (kW.trans (keeps_d0 _)))).mono ?_ | with_reducible refine (toMechanism_any (hW1.keeps (kW.trans (keeps_ad0 _ _)))).mono ?_); rintro e wB ⟨By1, rfl, y1, kB⟩; (first | (have y0 := RM.keeps y0 (kB)) | (have y0 := RM.keeps y0 (keeps_d kB)) | (have y0 := RM.keeps y0 ((keeps_alloc _ _).trans kB)) | (have y0 := RM.keeps y0 (keeps_ad kB)) | skip); (first | (have kZ := kZ.keeps (kB)) | (have kZ := kZ.keeps (keeps_d kB)) | (have kZ : B1 wB w117.heap.size (.slice none 0 0) := B1.kZ1 kB rfl; have lz : w117.heap.size ≤ w117.heap.size := (Nat.le_refl _)) | (have kZ : B1 wB w117.heap.size (.slice none 0 0) := B1.kZ2 kB rfl; have lz : w117.heap.size ≤ w117.heap.size := (Nat.le_refl _)) | (have kZ : B1 wB _ (.slice none 0 0) := B1.kZ1 kB rfl; have lz := kW.size) | (have kZ : B1 wB _ (.slice none 0 0) := B1.kZ2 kB rfl; have lz := kW.size) | skip); (first | obtain ⟨z1, z2⟩ := id kZ | skip); (first | (have kW : Keeps w117 wB := kW.trans (kB)) | (have kW : Keeps w117 wB := kW.trans (keeps_d kB)) | (have kW : Keeps w117 wB := kW.trans ((keeps_alloc _ _).trans kB)) | (have kW : Keeps w117 wB := kW.trans (keeps_ad kB)) | (have kW : Keeps w117 wB := kB) | (have kW : Keeps w117 wB := keeps_d kB) | (have kW : Keeps w117 wB := (keeps_alloc _ _).trans kB) | (have kW : Keeps w117 wB := keeps_ad kB)); clear kB) | (go_at_call 54; (first | (have lz2 := kZ.lt) | skip); have lx := kW.size; (first | with_reducible refine (implProductOf_any (RM.rows y0) (RM.rows y1)).mono ?_ | with_reducible refine (implProductOf_any ((RM.rows y0).keeps (keeps_alloc _ _)) ((RM.rows y1).keeps (keeps_alloc _ _))).mono ?_ | with_reducible refine (implProductOf_any ((RM.rows y0).keeps (keeps_d0 _)) ((RM.rows y1).keeps (keeps_d0 _))).mono ?_ | with_reducible refine (implProductOf_any ((RM.rows y0).keeps (keeps_ad0 _ _)) ((RM.rows y1).keeps (keeps_ad0 _ _))).mono ?_); rintro e wB ⟨AN, NN, CN, rfl, rm, kB⟩; rw [HR.out]; rw [HR.out] at rm; dsimp only at rm; dsimp only; (first | (have kZ := kZ.keeps (kB)) | (have kZ := kZ.keeps (keeps_d kB)) | (have kZ : B1 wB w117.heap.size (.slice none 0 0) := B1.kZ1 kB rfl; have lz : w117.heap.size ≤ w117.heap.size := (Nat.le_refl _)) | (have kZ : B1 wB w117.heap.size (.slice none 0 0) := B1.kZ2 kB rfl; have lz : w117.heap.size ≤ w117.heap.size := (Nat.le_refl _)) | (have kZ : B1 wB _ (.slice none 0 0) := B1.kZ1 kB rfl; have lz := kW.size) | (have kZ : B1 wB _ (.slice none 0 0) := B1.kZ2 kB rfl; have lz := kW.size) | skip); (first | obtain ⟨z1, z2⟩ := id kZ | skip); (first | (have kW : Keeps w117 wB := kW.trans (kB)) | (have kW : Keeps w117 wB := kW.trans (keeps_d kB)) | (have kW : Keeps w117 wB := kW.trans ((keeps_alloc _ _).trans kB)) | (have kW : Keeps w117 wB := kW.trans (keeps_ad kB)) | (have kW : Keeps w117 wB := kB) | (have kW : Keeps w117 wB := keeps_d kB) | (have kW : Keeps w117 wB := (keeps_alloc _ _).trans kB) | (have kW : Keeps w117 wB := keeps_ad kB)); clear kB)))
      all_goals (go_wp2_with fail; go_meet; first
        | exact ⟨_, _, AN, NN, CN, rfl, rfl, B1.new' rfl, kW.size, rfl, RM.res_new rm (by have := kW.size; first | omega | (simp; done) | (simp; omega)), kW.trans (keeps_alloc _ _)⟩
        | exact ⟨_, _, AN, NN, CN, rfl, rfl, B1.put kZ _, lz, rfl, RM.res_set rm (by have := kW.size; first | omega | (simp; done) | (simp; omega)) (by first | omega | (simp; done) | (simp; omega)), below_set1 kW lz _⟩)
    case rest =>
      clear kS hW0 hW1
      clear ca128 ca129
      obtain ⟨wx127, g127, h_A0, h_N0, h_C0, rfl, rfl, h_b0, lg127, rfl, h_0, kx127⟩ := hcut
      have ss130 := kx127.size
      replace p0 := p0.keeps kx127
      replace p1 := p1.keeps kx127
      replace p_b0 := p_b0.keeps kx127
      replace bx0 := bx0.keeps kx127
      replace bx1 := bx1.keeps kx127
      replace g_b0 := g_b0.keeps kx127
      replace p_0 := p_0.keeps kx127
      replace mk110 := mk110.keeps kx127
      replace kw := Keeps.trans kw kx127
      have lt131 := g_b0.lt
      have sz132 := kw.size
      clear kx127
      have lt133 := h_b0.lt
      obtain ⟨ca134, fa134⟩ := id p0
      obtain ⟨ca135, fa135⟩ := id p1
      obtain ⟨ca136, fa136⟩ := id p_b0
      obtain ⟨ca137, fa137⟩ := id bx0
      obtain ⟨ca138, fa138⟩ := id bx1
      obtain ⟨ca139, fa139⟩ := id g_b0
      obtain ⟨ca140, fa140⟩ := id h_b0
      go_wp2_with fail
      clear ca134 fa134 ca135 fa135 ca136 fa136 ca137 fa137 ca138 fa138 ca139 fa139 ca140 fa140
      refine (eqMechanism_true h_0.1 p_0.1).mono ?_
      rintro e w141 ⟨rfl, k141⟩
      have ss142 := k141.size
      replace p0 := p0.keeps k141
      replace p1 := p1.keeps k141
      replace p_b0 := p_b0.keeps k141
      replace bx0 := bx0.keeps k141
      replace bx1 := bx1.keeps k141
      replace g_b0 := g_b0.keeps k141
      replace h_b0 := h_b0.keeps k141
      replace p_0 := p_0.keeps k141
      replace mk110 := mk110.keeps k141
      replace h_0 := h_0.keeps k141
      replace kw := Keeps.trans kw k141
      have lt143 := h_b0.lt
      have sz144 := kw.size
      clear k141
      obtain ⟨ca145, fa145⟩ := id p0
      obtain ⟨ca146, fa146⟩ := id p1
      obtain ⟨ca147, fa147⟩ := id p_b0
      obtain ⟨ca148, fa148⟩ := id bx0
      obtain ⟨ca149, fa149⟩ := id bx1
      obtain ⟨ca150, fa150⟩ := id g_b0
      obtain ⟨ca151, fa151⟩ := id h_b0
      go_wp2_with fail
      clear ca145 fa145 ca146 fa146 ca147 fa147 ca148 fa148 ca149 fa149 ca150 fa150 ca151 fa151
      refine (heldMechanism_any mk110.1 (by omega) (by omega) (by rw [← HLN.out]; exact hsm.2)).mono ?_
      rintro e w152 ⟨rfl, k152⟩
      have ss153 := k152.size
      replace p0 := p0.keeps k152
      replace p1 := p1.keeps k152
      replace p_b0 := p_b0.keeps k152
      replace bx0 := bx0.keeps k152
      replace bx1 := bx1.keeps k152
      replace g_b0 := g_b0.keeps k152
      replace h_b0 := h_b0.keeps k152
      replace p_0 := p_0.keeps k152
      replace mk110 := mk110.keeps k152
      replace h_0 := h_0.keeps k152
      replace kw := Keeps.trans kw k152
      have lt154 := h_b0.lt
      have sz155 := kw.size
      clear k152
      obtain ⟨ca156, fa156⟩ := id p0
      obtain ⟨ca157, fa157⟩ := id p1
      obtain ⟨ca158, fa158⟩ := id p_b0
      obtain ⟨ca159, fa159⟩ := id bx0
      obtain ⟨ca160, fa160⟩ := id bx1
      obtain ⟨ca161, fa161⟩ := id g_b0
      obtain ⟨ca162, fa162⟩ := id h_b0
      go_wp2_with fail
      clear ca156 fa156 ca157 fa157 ca158 fa158 ca159 fa159 ca160 fa160 ca161 fa161 ca162 fa162
      go_ret
      exact ⟨rfl, kw⟩
end Go.Proofs.Ytochlkebibkbiaa
