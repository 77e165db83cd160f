/- ProductOf: of the reference and of the program. -/
import Derived.Test.YtnopedjgagoahaaMps
namespace Go.Proofs.Ytnopedjgagoahaa
open Go.RowKit Go.Sort
set_option linter.unusedVariables false
set_option linter.unusedSimpArgs false

/-- The product of the entry j / m of a row and the entry j % m of another. -/
def prF (aa bb : List (List QQ)) (m i j : Nat) : Int × Int × Bool :=
  mkF (((aa.getD i []).getD (j / m) (0, 0)).1 * ((bb.getD i []).getD (j % m) (0, 0)).1) (((aa.getD i []).getD (j / m) (0, 0)).2 * ((bb.getD i []).getD (j % m) (0, 0)).2)
theorem prF_at {aa bb : List (List QQ)} {m i z q : Nat} {x y u v : Int} (hq : q < m) (hx : (x, y) = (aa.getD i []).getD z (0, 0)) (hu : (u, v) = (bb.getD i []).getD q (0, 0)) : prF aa bb m i (z * m + q) = mkF (x * u) (y * v) := by
  have e1 : (z * m + q) / m = z := by rw [Nat.mul_comm, Nat.mul_add_div (by omega), Nat.div_eq_of_lt hq, Nat.add_zero]
  have e2 : (z * m + q) % m = q := by rw [Nat.mul_comm, Nat.mul_add_mod, Nat.mod_eq_of_lt hq]
  unfold prF; rw [e1, e2, ← hx, ← hu]
def prB (aa bb : List (List QQ)) : Bool := mechB aa && mechB bb && decide (aa.length = bb.length)
def prQ (aa bb : List (List QQ)) : List (List QQ) × Bool := if prB aa bb = true then nmQ (prF aa bb (bb.getD 0 []).length) aa.length ((aa.getD 0 []).length * (bb.getD 0 []).length) else ([], false)
theorem prQ_no {aa bb : List (List QQ)} (h : prB aa bb = false) : prQ aa bb = ([], false) := if_neg (by rw [h]; simp)
theorem prQ_yes {aa bb : List (List QQ)} (h : prB aa bb = true) : prQ aa bb = nmQ (prF aa bb (bb.getD 0 []).length) aa.length ((aa.getD 0 []).length * (bb.getD 0 []).length) := if_pos h
theorem prQ_len (aa bb : List (List QQ)) : (prQ aa bb).1.length ≤ 64 ∧ rowSum (prQ aa bb).1 (prQ aa bb).1.length ≤ 67108864 := by
  unfold prQ; split
  · exact nmQ_small _ _ _
  · simp [rowSum]
theorem nmQ_wide {f : Nat → Nat → Int × Int × Bool} {n k : Nat} (hn : 0 < n) (h : 24 < k) : nmQ f n k = ([], false) := by
  refine nmQ_no2 ?_
  rw [Bool.eq_false_iff]; intro hg
  have := mechB_len hg
  rw [tab_rowlen f hn] at this
  omega
theorem jq_lt {j l m : Nat} (h : j < l * m) : 0 < m ∧ j / m < l ∧ j % m < m := by
  have hm : 0 < m := by rcases Nat.eq_zero_or_pos m with rfl | h0; · simp at h
                        · exact h0
  exact ⟨hm, Nat.div_lt_of_lt_mul (by rw [Nat.mul_comm]; exact h), Nat.mod_lt _ hm⟩
theorem zq_lt {z q l m : Nat} (hz : z < l) (hq : q < m) : z * m + q < l * m := by
  have : (z + 1) * m ≤ l * m := Nat.mul_le_mul_right m hz
  rw [Nat.add_mul, Nat.one_mul] at this; omega

/-- The block of a slice that the call has built is not block g. -/
def Apart (v : Value) (g : Nat) : Prop := ∀ b, v.ownBlock = some b → b ≠ g
theorem B1.grown {w w' : World} {g : Nat} {u v : Value} (h : B1 w g u) (ha : Apart v g) (hb : ∀ b, b < w.heap.size → some b ≠ v.ownBlock → w'.heap[b]? = w.heap[b]?) : B1 w' g u := by
  have e := hb g h.lt (fun e => ha g e.symm rfl)
  exact ⟨(World.cell?_of_block (w := w) e).trans h.1, (World.frozen?_of_block (w := w) e).trans h.2⟩
theorem Bx.grown {w w' : World} {g : Nat} {x y : Int} {v : Value} (h : Bx w g x y) (ha : Apart v g) (hb : ∀ b, b < w.heap.size → some b ≠ v.ownBlock → w'.heap[b]? = w.heap[b]?) : Bx w' g x y := by
  have e := hb g h.lt (fun e => ha g e.symm rfl)
  obtain ⟨h1, h2, h3, h4⟩ := h
  exact ⟨(World.cell?_of_block (w := w) e).trans h1, (World.cell?_of_block (w := w) e).trans h2, (World.frozen?_of_block (w := w) e).trans h3, (World.frozen?_of_block (w := w) e).trans h4⟩
theorem Apart.of_lt {w : World} {B e size n g : Nat} {v : Value} {cs : List Value} (h : Has w B e size v n cs) (hg : w.heap.size ≤ g) : Apart v g := fun b hb => by have := Has.lt_ h b hb; omega
/-- append of a fraction, and where the new slice lies. -/
theorem append_frac_at {w0 : World} {ops : Array Oper} {rest : List Oper} {o : Oper} {a : Act} {Q : Exit → Act → World → Prop} {B : Nat} {v : Value} {n : Nat} {xs : List (Int × Int)} {x y : Int}
    (hown : Has w0 B 31 2 v n (frs xs)) (hn : n ≤ 67108864) (hB : B ≤ w0.heap.size)
    (s u : Operand) (hgd : o.guard = none)
    (ho : o.op = .call { callee := .builtin .append, args := #[s, u], argTypes := #[43, 43] })
    (hs : a.eval s = v) (hx : a.eval u = .slice (some ⟨w0.heap.size, 0, none⟩) 1 1)
    (h : ∀ v' w', Has w' B 31 2 v' (n + 1) (frs (xs ++ [(x, y)])) → Below B w0 w' → (∀ b, b < w0.heap.size → some b ≠ v.ownBlock → w'.heap[b]? = w0.heap[b]?) → (∀ g, g < w0.heap.size → Apart v g → Apart v' g) → wpList Try.prog ops Q rest (a.put o.dst v') w') : wpList Try.prog ops Q (o :: rest) a (w0.alloc (.cells #[.int .i64 x, .int .i64 y] 31)) := by
  obtain ⟨i, hi, hz0, hz1, hz2⟩ := info_parts info_frac
  refine wpList_append_own_at _ hgd s u 43 ho B 31 i _ 2 16 Try.underlying43 hi hz0 hz1 hz2 rfl (by omega) v n _ hs (hown.alloc _) ⟨w0.heap.size, 0, none⟩ 1 1 [.int .i64 x, .int .i64 y] hx rfl (fun j u hu => ?_) (fun y hy => by simp at hy; rcases hy with rfl | rfl <;> rfl) (by unfold maxLen; omega) (by omega) (by simp; omega) (fun v' w' g2 g3 g4 g5 => ?_)
  · rw [Addr.add_lit, Nat.zero_add, cell_of_row _ _ _ _ _ _ (heap_alloc_new w0 _)]
    simpa using hu
  · have hsz := g3.size
    simp at hsz
    have old : ∀ b, b < w0.heap.size → some b ≠ v.ownBlock → w'.heap[b]? = w0.heap[b]? := fun b hb hne => by
      rw [g3.block b (by simp; omega) hne]; exact heap_alloc_old w0 _ hb
    have hbel : Below B w0 w' := ⟨g3.os, g3.tape, g3.output, by omega, fun b hb => old b (by omega) (fun e => by have := Has.ge_ hown b e.symm; omega)⟩
    refine h v' w' (by rw [frs_append]; simpa [frs, fr2] using g2) hbel old (fun g hg ha b hb => ?_)
    rcases g5 with e | e
    · exact ha b (by rw [← e]; exact hb)
    · rw [hb] at e; injection e with e; simp at e; omega

set_option maxRecDepth 100000 in
set_option maxHeartbeats 3200000 in
theorem prClosure {A A' : Option Addr} {lo hi lo' hi' n n' c c' g1 g2 g3 i j m l : Nat} {aa bb : List (List QQ)} {w : World} (h : FRows w lo hi A n aa) (h' : FRows w lo' hi' A' n' bb) (b2 : B1 w g1 (.slice A n c)) (b6 : B1 w g2 (.int .i64 (m : Int))) (b3 : B1 w g3 (.slice A' n' c')) (hg : mechB aa = true) (hg' : mechB bb = true)
    (hnn : n = n') (hl0 : (aa.getD 0 []).length = l) (hm0 : (bb.getD 0 []).length = m) (hi0 : i < n) (hj0 : j < l * m) :
    Calls Try.prog 111 (#[.int .i64 (i : Int), .int .i64 (j : Int)] ++ #[.pointer (some ⟨g1, 0, none⟩), .pointer (some ⟨g2, 0, none⟩), .pointer (some ⟨g3, 0, none⟩)]) w fun e w' => e = .returned (.tuple #[.agg #[.int .i64 (prF aa bb m i j).1, .int .i64 (prF aa bb m i j).2.1], .bool (prF aa bb m i j).2.2]) ∧ Keeps w w' := by
  show Calls Try.prog 111 #[.int .i64 (i : Int), .int .i64 (j : Int), .pointer (some ⟨g1, 0, none⟩), .pointer (some ⟨g2, 0, none⟩), .pointer (some ⟨g3, 0, none⟩)] w _
  have hn := h.le
  have hn' := h'.le
  have hl := h.len
  have hl' := h'.len
  have lb2 := b2.lt
  have lb3 := b3.lt
  have lb6 := b6.lt
  obtain ⟨hmp, hz0, hq0⟩ := jq_lt hj0
  have ejm := Nat.div_add_mod j m
  obtain ⟨b, off, A1, m1, c1, rfl, hlb, hub, hci, hri⟩ := h.at_ hi0
  obtain ⟨b', off', A2, m2, c2, rfl, hlb', hub', hck, hrk⟩ := h'.at_ (k := i) (by omega)
  have hr1 := (Fracs.len hri).symm.trans (mechB_row hg (i := i) (by omega)).1
  have hr2 := (Fracs.len hrk).symm.trans (mechB_row hg' (i := i) (by omega)).1
  have hm1 := Fracs.len hri
  have hm2 := Fracs.len hrk
  obtain ⟨z, ez⟩ : ∃ z, z = j / m := ⟨_, rfl⟩
  obtain ⟨q, eq⟩ : ∃ q, q = j % m := ⟨_, rfl⟩
  have zi : (j : Int) / (m : Int) = (z : Int) := by rw [ez]; rfl
  have qi : (j : Int) % (m : Int) = (q : Int) := by rw [eq]; rfl
  have zw : IntKind.i64.wrap ((j : Int).tdiv (m : Int)) = (z : Int) := by rw [← zi]; exact IntWalk.i64_quo _ _ (by have h1 := IntWalk.tdiv_le (j : Int) (m : Int) (by omega) (by omega); have := mechB_len hg; have := mechB_len hg'; have : l * m ≤ 24 * 24 := Nat.mul_le_mul (by omega) (by omega); omega)
  have qw : (j : Int).tmod (m : Int) = (q : Int) := by rw [← qi]; exact IntWalk.rem_in _ _ (by omega)
  rw [← ez] at hz0 ejm
  rw [← eq] at hq0 ejm
  obtain ⟨bx, ox, x, y, rfl, _, hbx, hcx, hdx, hx⟩ := Fracs.at_ hri (k := z) (by omega)
  obtain ⟨bu, ou, u, v, rfl, _, hbu, hcu, hdu, hu⟩ := Fracs.at_ hrk (k := q) (by omega)
  have fx := hid (mechB_at hg (i := i) (k := z) (by omega) (by omega) hx.out).1
  have fu := hid (mechB_at hg' (i := i) (k := q) (by omega) (by omega) hu.out).1
  obtain ⟨q1, q2, q3, H5⟩ : ∃ q1 q2 q3, Hid (mkF (x * u) (y * v) = (q1, q2, q3)) := ⟨_, _, _, rfl⟩
  have HF := hid (show prF aa bb m i j = (q1, q2, q3) by rw [← H5.out, ← prF_at hq0 hx.out hu.out, Nat.mul_comm z m, ejm])
  have hi1 : (i : Int) < (n : Int) := by omega
  have hi2 : (i : Int) < (n' : Int) := by omega
  have hz1 : (z : Int) < (m1 : Int) := by omega
  have hm1le := hri.le
  have hm2le := hrk.le
  have hq1 : (q : Int) < (m2 : Int) := by omega
  have hmz : ¬ m = 0 := by omega
  have hmz2 : ¬ (m : Int) = 0 := by omega
  have ltb := h.top
  have ltb' := h'.top
  have htx := hri.top
  have htu := hrk.top
  have HH := hid (And.intro hg hg')
  clear hg hg' hl hl' hr1 hr2 hm1 hm2 hl0 hm0 hx hu eq ez ejm
  have ZI := hid zi
  have QI := hid qi
  have ZW := hid zw
  have QW := hid qw
  clear zi qi zw qw hnn
  go_enter Try.func111, Try.ntmps111
  have kw := keeps_refl w
  replace b2 := b2.keeps (keeps_alloc w (.cells #[.int .i64 0, .int .i64 0] 31))
  replace b6 := b6.keeps (keeps_alloc w (.cells #[.int .i64 0, .int .i64 0] 31))
  replace b3 := b3.keeps (keeps_alloc w (.cells #[.int .i64 0, .int .i64 0] 31))
  replace kw := Keeps.trans kw (keeps_alloc w (.cells #[.int .i64 0, .int .i64 0] 31))
  have b7 : Bx (w.alloc (.cells #[.int .i64 0, .int .i64 0] 31)) w.heap.size 0 0 := Bx.new' (by simp)
  go_wp2_with fail
  have zi := ZI.out
  have qi := QI.out
  have zw := ZW.out
  have zw4 := IntWalk.i64_in (z : Int) (by omega)
  have zw3 : wrap64 (z : Int) = (z : Int) := by unfold wrap64; omega
  have qw := QW.out
  have cx1 := cell_keeps hcx kw
  have cx2 := cell_keeps hdx kw
  have cu1 := cell_keeps hcu kw
  have cu2 := cell_keeps hdu kw
  have ci := cell_keeps hci kw
  have ck := cell_keeps hck kw
  obtain ⟨ca1, -⟩ := id b2
  obtain ⟨ca2, -⟩ := id b6
  obtain ⟨ca3, -⟩ := id b3
  obtain ⟨ca4, cb4, fa4, fb4⟩ := id b7
  have kS := hid (show ∀ w', Keeps (w.alloc (.cells #[.int .i64 0, .int .i64 0] 31)) w' → (w'.cell? ⟨g1, 0, none⟩ = some (.slice (some ⟨b, off, none⟩) n c) ∧ w'.cell? ⟨g2, 0, none⟩ = some (.int .i64 (m : Int)) ∧ w'.cell? ⟨g3, 0, none⟩ = some (.slice (some ⟨b', off', none⟩) n' c') ∧ w'.cell? ⟨b, off + i, none⟩ = some (.slice (some ⟨bx, ox, none⟩) m1 c1) ∧ w'.cell? ⟨b', off' + i, none⟩ = some (.slice (some ⟨bu, ou, none⟩) m2 c2) ∧ w'.cell? ⟨bx, ox + z * 2, none⟩ = some (.int .i64 x) ∧ w'.cell? ⟨bx, ox + z * 2 + 1, none⟩ = some (.int .i64 y) ∧ w'.cell? ⟨bu, ou + q * 2, none⟩ = some (.int .i64 u) ∧ w'.cell? ⟨bu, ou + q * 2 + 1, none⟩ = some (.int .i64 v)) from fun w' k => ⟨cell_keeps ca1 k, cell_keeps ca2 k, cell_keeps ca3 k, cell_keeps ci k, cell_keeps ck k, cell_keeps cx1 k, cell_keeps cx2 k, cell_keeps cu1 k, cell_keeps cu2 k⟩)
  have nT6 : g1 ≠ w.heap.size := by omega
  have nT7 : g2 ≠ w.heap.size := by omega
  have nT8 : g3 ≠ w.heap.size := by omega
  have nT9 : b ≠ w.heap.size := by omega
  have nT10 : b' ≠ w.heap.size := by omega
  have nT11 : bx ≠ w.heap.size := by omega
  have nT12 : bx ≠ w.heap.size := by omega
  have nT13 : bu ≠ w.heap.size := by omega
  have nT14 : bu ≠ w.heap.size := by omega
  have kT := hid (show ∀ w', Keeps (w.alloc (.cells #[.int .i64 0, .int .i64 0] 31)) w' → ∀ uA vA, let w'' := (w'.setCell ⟨w.heap.size, 0, none⟩ uA).setCell ⟨w.heap.size, 1, none⟩ vA; (w''.cell? ⟨g1, 0, none⟩ = some (.slice (some ⟨b, off, none⟩) n c) ∧ w''.cell? ⟨g2, 0, none⟩ = some (.int .i64 (m : Int)) ∧ w''.cell? ⟨g3, 0, none⟩ = some (.slice (some ⟨b', off', none⟩) n' c') ∧ w''.cell? ⟨b, off + i, none⟩ = some (.slice (some ⟨bx, ox, none⟩) m1 c1) ∧ w''.cell? ⟨b', off' + i, none⟩ = some (.slice (some ⟨bu, ou, none⟩) m2 c2) ∧ w''.cell? ⟨bx, ox + z * 2, none⟩ = some (.int .i64 x) ∧ w''.cell? ⟨bx, ox + z * 2 + 1, none⟩ = some (.int .i64 y) ∧ w''.cell? ⟨bu, ou + q * 2, none⟩ = some (.int .i64 u) ∧ w''.cell? ⟨bu, ou + q * 2 + 1, none⟩ = some (.int .i64 v)) from fun w' k uA vA => ⟨set2_far (cell_keeps ca1 k) nT6, set2_far (cell_keeps ca2 k) nT7, set2_far (cell_keeps ca3 k) nT8, set2_far (cell_keeps ci k) nT9, set2_far (cell_keeps ck k) nT10, set2_far (cell_keeps cx1 k) nT11, set2_far (cell_keeps cx2 k) nT12, set2_far (cell_keeps cu1 k) nT13, set2_far (cell_keeps cu2 k) nT14⟩)
  go_region_held3 (fun w' => w'.cell? ⟨g1, 0, none⟩ = some (.slice (some ⟨b, off, none⟩) n c) ∧ w'.cell? ⟨g2, 0, none⟩ = some (.int .i64 (m : Int)) ∧ w'.cell? ⟨g3, 0, none⟩ = some (.slice (some ⟨b', off', none⟩) n' c') ∧ w'.cell? ⟨b, off + i, none⟩ = some (.slice (some ⟨bx, ox, none⟩) m1 c1) ∧ w'.cell? ⟨b', off' + i, none⟩ = some (.slice (some ⟨bu, ou, none⟩) m2 c2) ∧ w'.cell? ⟨bx, ox + z * 2, none⟩ = some (.int .i64 x) ∧ w'.cell? ⟨bx, ox + z * 2 + 1, none⟩ = some (.int .i64 y) ∧ w'.cell? ⟨bu, ou + q * 2, none⟩ = some (.int .i64 u) ∧ w'.cell? ⟨bu, ou + q * 2 + 1, none⟩ = some (.int .i64 v)) (first | with_reducible exact kS.out _ (keeps_d0 (w.alloc (.cells #[.int .i64 0, .int .i64 0] 31))) | with_reducible exact kS.out _ kW | with_reducible exact kT.out _ kW _ _ | go_keep)
    ((first | (go_at_call 32; refine (MulFrac_any fx.out fu.out).mono ?_; rintro e wB ⟨rfl, kB⟩; rw [H5.out]; (first | (replace kW : Keeps (w.alloc (.cells #[.int .i64 0, .int .i64 0] 31)) wB := kW.trans kB) | (have kW : Keeps (w.alloc (.cells #[.int .i64 0, .int .i64 0] 31)) wB := keeps_d kB)); clear kB; (first | clear z1 z2 z3 z4 | skip); obtain ⟨z1, z2, z3, z4⟩ := b7.keeps kW)))
  clear kS kT z1 z2 z3 z4
  clear ca1 ca2 ca3 ca4 cb4 fa4 fb4 nT6 nT7 nT8 nT9 nT10 nT11 nT12 nT13 nT14
  replace b2 := b2.keeps kW
  replace b6 := b6.keeps kW
  replace b3 := b3.keeps kW
  replace b7 := b7.keeps kW
  replace kw := Keeps.trans kw kW
  have lt15 := b7.lt
  have sz16 := kw.size
  clear kW
  replace b2 := b2.set2 (p := w.heap.size) (by omega) (.int .i64 q1) (.int .i64 q2)
  replace b6 := b6.set2 (p := w.heap.size) (by omega) (.int .i64 q1) (.int .i64 q2)
  replace b3 := b3.set2 (p := w.heap.size) (by omega) (.int .i64 q1) (.int .i64 q2)
  replace b7 := b7.set q1 q2
  replace kw := below_set2 kw (p := w.heap.size) (by omega) (.int .i64 q1) (.int .i64 q2)
  obtain ⟨ca17, cb17, fa17, fb17⟩ := id b7
  go_wp2_with fail
  clear ca17 cb17 fa17 fb17
  obtain ⟨ca0, cb0, fa0, fb0⟩ := id b7
  refine bodyPost_ret (v := .tuple #[.agg #[.int .i64 q1, .int .i64 q2], .bool q3]) (by simp [results, Try.results111, go_sem, ca0, cb0]) rfl ⟨ret_fb (by rw [HF.out]) (by rw [HF.out]) (by rw [HF.out]), ?_⟩
  exact kw
set_option maxRecDepth 100000 in
set_option maxHeartbeats 12800000 in
theorem implProductOf_any {A A' : Option Addr} {lo hi lo' hi' n n' c c' : Nat} {aa bb : List (List QQ)} {w : World} (h : FRows w lo hi A n aa) (h' : FRows w lo' hi' A' n' bb) :
    Calls Try.prog 27 #[.agg #[.slice A n c], .agg #[.slice A' n' c']] w (MRes w (prQ aa bb)) := by
  have hn := h.le
  have hn' := h'.le
  have hl := h.len
  have hl' := h'.len
  go_enter Try.func27, Try.ntmps27
  have kw := keeps_refl w
  replace kw := Keeps.trans kw (keeps_alloc w (.cells #[.slice A n c] 25))
  have b2 : B1 (w.alloc (.cells #[.slice A n c] 25)) w.heap.size (.slice A n c) := B1.new' (by simp)
  replace b2 := b2.keeps (keeps_alloc (w.alloc (.cells #[.slice A n c] 25)) (.cells #[.slice A' n' c'] 25))
  replace kw := Keeps.trans kw (keeps_alloc (w.alloc (.cells #[.slice A n c] 25)) (.cells #[.slice A' n' c'] 25))
  have b3 : B1 ((w.alloc (.cells #[.slice A n c] 25)).alloc (.cells #[.slice A' n' c'] 25)) (w.heap.size + 1) (.slice A' n' c') := B1.new' (by simp)
  replace b2 := b2.keeps (keeps_alloc ((w.alloc (.cells #[.slice A n c] 25)).alloc (.cells #[.slice A' n' c'] 25)) (.cells #[.slice none 0 0] 25))
  replace b3 := b3.keeps (keeps_alloc ((w.alloc (.cells #[.slice A n c] 25)).alloc (.cells #[.slice A' n' c'] 25)) (.cells #[.slice none 0 0] 25))
  replace kw := Keeps.trans kw (keeps_alloc ((w.alloc (.cells #[.slice A n c] 25)).alloc (.cells #[.slice A' n' c'] 25)) (.cells #[.slice none 0 0] 25))
  have b4 : B1 (((w.alloc (.cells #[.slice A n c] 25)).alloc (.cells #[.slice A' n' c'] 25)).alloc (.cells #[.slice none 0 0] 25)) (w.heap.size + 1 + 1) (.slice none 0 0) := B1.new' (by simp)
  obtain ⟨ca1, fa1⟩ := id b2
  go_wp2_with fail
  clear ca1 fa1
  obtain ⟨pH1, H1⟩ : ∃ pB, Hid (mechB aa = pB) := ⟨_, rfl⟩
  refine (IsMechanism_any (h.keeps kw) (c := c)).mono ?_
  rintro e w2 ⟨rfl, k2⟩
  rw [H1.out]
  replace b2 := b2.keeps k2
  replace b3 := b3.keeps k2
  replace b4 := b4.keeps k2
  replace kw := Keeps.trans kw k2
  have lt3 := b4.lt
  have sz4 := kw.size
  clear k2
  cases pH1
  · have HF := hid (prQ_no (aa := aa) (bb := bb) (by rw [prB, H1.out]; rfl))
    obtain ⟨ca5, fa5⟩ := id b4
    go_wp2_with fail
    clear ca5 fa5
    obtain ⟨ca0, fa0⟩ := id b4
    refine bodyPost_ret (v := .tuple #[.agg #[.slice none 0 0], .bool false]) (by simp [results, Try.results27, go_sem, ca0]) rfl ⟨none, 0, 0, by rw [HF.out], ?_, ?_⟩
    · rw [HF.out]; exact RM.nil_ _ _
    · first | exact Below.setCell kw (p := ⟨w.heap.size + 1 + 1, 0, none⟩) (Nat.le_refl _) _ | exact kw | exact Below.setCell kw (p := ⟨w.heap.size + 1 + 1, 0, none⟩) (by show _ ≤ (w.heap.size + 1 + 1); omega) _
  · skip
    obtain ⟨ca5, fa5⟩ := id b3
    go_wp2_with fail
    clear ca5 fa5
    obtain ⟨pH2, H2⟩ : ∃ pB, Hid (mechB bb = pB) := ⟨_, rfl⟩
    refine (IsMechanism_any (h'.keeps kw) (c := c')).mono ?_
    rintro e w6 ⟨rfl, k6⟩
    rw [H2.out]
    replace b2 := b2.keeps k6
    replace b3 := b3.keeps k6
    replace b4 := b4.keeps k6
    replace kw := Keeps.trans kw k6
    have lt7 := b4.lt
    have sz8 := kw.size
    clear k6
    cases pH2
    · have HF := hid (prQ_no (aa := aa) (bb := bb) (by rw [prB, H1.out, H2.out]; rfl))
      obtain ⟨ca9, fa9⟩ := id b4
      go_wp2_with fail
      clear ca9 fa9
      obtain ⟨ca0, fa0⟩ := id b4
      refine bodyPost_ret (v := .tuple #[.agg #[.slice none 0 0], .bool false]) (by simp [results, Try.results27, go_sem, ca0]) rfl ⟨none, 0, 0, by rw [HF.out], ?_, ?_⟩
      · rw [HF.out]; exact RM.nil_ _ _
      · first | exact Below.setCell kw (p := ⟨w.heap.size + 1 + 1, 0, none⟩) (Nat.le_refl _) _ | exact kw | exact Below.setCell kw (p := ⟨w.heap.size + 1 + 1, 0, none⟩) (by show _ ≤ (w.heap.size + 1 + 1); omega) _
    · skip
      by_cases hnm : n = n'
      rotate_left
      · have t1 : ((n : Int) != (n' : Int)) = true := by rw [bne_iff_ne]; omega
        obtain ⟨ca9, fa9⟩ := id b2
        obtain ⟨ca10, fa10⟩ := id b3
        have HF := hid (prQ_no (aa := aa) (bb := bb) (by rw [prB, decide_eq_false (show ¬ aa.length = bb.length by omega), Bool.and_false]))
        obtain ⟨ca11, fa11⟩ := id b4
        go_wp2_with fail
        clear ca9 fa9 ca10 fa10 ca11 fa11
        obtain ⟨ca0, fa0⟩ := id b4
        refine bodyPost_ret (v := .tuple #[.agg #[.slice none 0 0], .bool false]) (by simp [results, Try.results27, go_sem, ca0]) rfl ⟨none, 0, 0, by rw [HF.out], ?_, ?_⟩
        · rw [HF.out]; exact RM.nil_ _ _
        · first | exact Below.setCell kw (p := ⟨w.heap.size + 1 + 1, 0, none⟩) (Nat.le_refl _) _ | exact kw | exact Below.setCell kw (p := ⟨w.heap.size + 1 + 1, 0, none⟩) (by show _ ≤ (w.heap.size + 1 + 1); omega) _
      have t1 : ((n : Int) != (n' : Int)) = false := by simp [hnm]
      have HB0 := hid (show prB aa bb = true by rw [prB, H1.out, H2.out, decide_eq_true (show aa.length = bb.length by omega)]; rfl)
      have HNM := hid hnm
      clear hnm
      obtain ⟨ca9, fa9⟩ := id b2
      obtain ⟨ca10, fa10⟩ := id b3
      have hln := mechB_len H1.out
      have hln' := mechB_len H2.out
      obtain ⟨b, off, A1, m1, c1, rfl, hlb, hub, hc0, hr0⟩ := h.head (by omega)
      obtain ⟨b', off', A2, m2, c2, rfl, hlb', hub', hc0', hr0'⟩ := h'.head (by omega)
      have hm0 := Fracs.len hr0
      have hm0' := Fracs.len hr0'
      have i0 : (0 : Int) < (n : Int) := by omega
      have i0' : (0 : Int) < (n' : Int) := by omega
      have i0n : 0 < n := by omega
      have i0n' : 0 < n' := by omega
      rw [hm0] at hln
      rw [hm0'] at hln'
      have hk0 : m1 * m2 ≤ 24 * 24 := Nat.mul_le_mul (by omega) (by omega)
      obtain ⟨k, hk⟩ : ∃ k, k = m1 * m2 := ⟨_, rfl⟩
      have hki : (m1 : Int) * (m2 : Int) = (k : Int) := by rw [hk]; rfl
      rw [← hk] at hk0
      have HY := hid (prQ_yes HB0.out)
      rw [hl, hm0, hm0', ← hk] at HY
      have HM0 := hid hm0
      have HM0' := hid hm0'
      clear hm0 hm0' hr0 hr0'
      have HK := hid hk
      have HKI := hid hki
      clear hk hki
      have HG := hid H1.out
      have HG' := hid H2.out
      clear H1 H2
      have ck := cell_keeps hc0' kw
      replace b2 := b2.keeps (keeps_alloc w6 (.cells #[.int .i64 (m2 : Int)] 3))
      replace b3 := b3.keeps (keeps_alloc w6 (.cells #[.int .i64 (m2 : Int)] 3))
      replace b4 := b4.keeps (keeps_alloc w6 (.cells #[.int .i64 (m2 : Int)] 3))
      replace kw := Keeps.trans kw (keeps_alloc w6 (.cells #[.int .i64 (m2 : Int)] 3))
      have b6 : B1 (w6.alloc (.cells #[.int .i64 (m2 : Int)] 3)) w6.heap.size (.int .i64 (m2 : Int)) := B1.new' (by simp)
      go_wp2_with fail
      clear ca9 fa9 ca10 fa10
      clear ck
      obtain ⟨ca2, -⟩ := id b2
      obtain ⟨ca6, -⟩ := id b6
      have hki := HKI.out
      have hkw : IntKind.i64.wrap ((m1 : Int) * (m2 : Int)) = (k : Int) := by rw [hki]; exact IntWalk.i64_in _ (by omega)
      by_cases h24 : k ≤ 24
      rotate_left
      · have HF := hid (show prQ aa bb = ([], false) from HY.out.trans (nmQ_wide (by omega) (by omega)))
        have i24 : (24 : Int) < (k : Int) := by omega
        have r2 := fun d os => cell_regrown (ca2) d os
        have r6 := fun d os => cell_regrown (ca6) d os
        have r5 := fun d os => cell_regrown (cell_keeps hc0 kw) d os
        go_wp2_with fail
        refine wp_region_quiet_below (by kernel_rfl) (by kernel_rfl) ?_
        iterate 8 (go_big_quiet_step (fail))
        refine wpQuiet_nil ?_
        intro _ hw'
        obtain ⟨⟨dq, osq⟩, hw''⟩ := hw'
        subst hw''
        clear r2 r6 r5
        have kQ := below_regrown (w6.alloc (.cells #[.int .i64 (m2 : Int)] 3)) dq osq
        obtain ⟨wQ11, hwQ⟩ : ∃ u, u = grow (redrawn (w6.alloc (.cells #[.int .i64 (m2 : Int)] 3)) dq) osq := ⟨_, rfl⟩
        rw [← hwQ] at kQ
        rw [← hwQ]
        clear hwQ
        replace b2 := b2.keeps kQ
        replace b3 := b3.keeps kQ
        replace b4 := b4.keeps kQ
        replace b6 := b6.keeps kQ
        replace kw := Keeps.trans kw kQ
        have lt12 := b6.lt
        have sz13 := kw.size
        clear kQ
        clear ca2 ca6
        obtain ⟨ca14, fa14⟩ := id b4
        go_wp2_with fail
        clear ca14 fa14
        obtain ⟨ca0, fa0⟩ := id b4
        refine bodyPost_ret (v := .tuple #[.agg #[.slice none 0 0], .bool false]) (by simp [results, Try.results27, go_sem, ca0]) rfl ⟨none, 0, 0, by rw [HF.out], ?_, ?_⟩
        · rw [HF.out]; exact RM.nil_ _ _
        · first | exact Below.setCell kw (p := ⟨w.heap.size + 1 + 1, 0, none⟩) (Nat.le_refl _) _ | exact kw | exact Below.setCell kw (p := ⟨w.heap.size + 1 + 1, 0, none⟩) (by show _ ≤ (w.heap.size + 1 + 1); omega) _
      have i24 : ¬ (24 : Int) < (k : Int) := by omega
      have P1 : n ≤ 64 := by omega
      have P2 : k ≤ 64 := by omega
      have r2 := fun d os => cell_regrown (ca2) d os
      have r6 := fun d os => cell_regrown (ca6) d os
      have r5 := fun d os => cell_regrown (cell_keeps hc0 kw) d os
      go_wp2_with fail
      refine wp_region_quiet_below (by kernel_rfl) (by kernel_rfl) ?_
      iterate 8 (go_big_quiet_step (fail))
      refine wpQuiet_nil ?_
      intro _ hw'
      obtain ⟨⟨dq, osq⟩, hw''⟩ := hw'
      subst hw''
      clear r2 r6 r5
      have kQ := below_regrown (w6.alloc (.cells #[.int .i64 (m2 : Int)] 3)) dq osq
      obtain ⟨wQ11, hwQ⟩ : ∃ u, u = grow (redrawn (w6.alloc (.cells #[.int .i64 (m2 : Int)] 3)) dq) osq := ⟨_, rfl⟩
      rw [← hwQ] at kQ
      rw [← hwQ]
      clear hwQ
      replace b2 := b2.keeps kQ
      replace b3 := b3.keeps kQ
      replace b4 := b4.keeps kQ
      replace b6 := b6.keeps kQ
      replace kw := Keeps.trans kw kQ
      have lt12 := b6.lt
      have sz13 := kw.size
      clear kQ
      clear ca2 ca6
      go_wp2_with fail
      have ck := cell_keeps hc0 kw
      obtain ⟨ca2, -⟩ := id b2
      obtain ⟨ca6, -⟩ := id b6
      have hb' : b < w.heap.size := by have := h.top; omega
      have lt2 := b2.lt
      have kS := hid (show ∀ w', Keeps wQ11 w' → (w'.cell? ⟨w.heap.size, 0, none⟩ = some (.slice (some ⟨b, off, none⟩) n c) ∧ w'.cell? ⟨w6.heap.size, 0, none⟩ = some (.int .i64 (m2 : Int)) ∧ w'.cell? ⟨b, off, none⟩ = some (.slice A1 m1 c1)) from fun w' k => ⟨cell_keeps ca2 k, cell_keeps ca6 k, cell_keeps ck k⟩)
      have kT := hid (show ∀ w', Keeps wQ11 w' → ∀ u, let w'' := w'.setCell ⟨w.heap.size + 1 + 1, 0, none⟩ u; (w''.cell? ⟨w.heap.size, 0, none⟩ = some (.slice (some ⟨b, off, none⟩) n c) ∧ w''.cell? ⟨w6.heap.size, 0, none⟩ = some (.int .i64 (m2 : Int)) ∧ w''.cell? ⟨b, off, none⟩ = some (.slice A1 m1 c1)) from fun w' k u => ⟨(World.cell?_setCell_far w' ⟨w.heap.size + 1 + 1, 0, none⟩ ⟨w.heap.size, 0, none⟩ u (by show w.heap.size + 1 + 1 ≠ _; simp only []; omega)).trans (cell_keeps ca2 k), (World.cell?_setCell_far w' ⟨w.heap.size + 1 + 1, 0, none⟩ ⟨w6.heap.size, 0, none⟩ u (by show w.heap.size + 1 + 1 ≠ _; simp only []; omega)).trans (cell_keeps ca6 k), (World.cell?_setCell_far w' ⟨w.heap.size + 1 + 1, 0, none⟩ ⟨b, off, none⟩ u (by show w.heap.size + 1 + 1 ≠ _; simp only []; omega)).trans (cell_keeps ck k)⟩)
      have hk4 := IntWalk.i64_in (k : Int) (by omega)
      have hk3 : wrap64 (k : Int) = (k : Int) := by unfold wrap64; omega
      have KN := hid (And.intro hn hn')
      clear hn hn'
      go_region_held3 (fun w' => w'.cell? ⟨w.heap.size, 0, none⟩ = some (.slice (some ⟨b, off, none⟩) n c) ∧ w'.cell? ⟨w6.heap.size, 0, none⟩ = some (.int .i64 (m2 : Int)) ∧ w'.cell? ⟨b, off, none⟩ = some (.slice A1 m1 c1)) (first | with_reducible exact kS.out _ (keeps_d0 _) | with_reducible exact kS.out _ kW | with_reducible exact kT.out _ kW _ | go_keep)
        ((first | (go_at_call 87; refine (newMechanism_any (n := n) (m := k) (K := 111) (caps := #[.pointer (some ⟨w.heap.size, 0, none⟩), .pointer (some ⟨w6.heap.size, 0, none⟩), .pointer (some ⟨w.heap.size + 1, 0, none⟩)]) (f := prF aa bb m2) P1 P2 (fun args w => enter_of Try.func111 (by kernel_rfl) rfl args w) (fun i j w' hi hj kk => prClosure (h.keeps (Keeps.trans (Keeps.trans kw (keeps_d0 _)) kk)) (h'.keeps (Keeps.trans (Keeps.trans kw (keeps_d0 _)) kk)) (b2.keeps (Keeps.trans (keeps_d0 _) kk)) (b6.keeps (Keeps.trans (keeps_d0 _) kk)) (b3.keeps (Keeps.trans (keeps_d0 _) kk)) HG.out HG'.out HNM.out HM0.out HM0'.out hi (by rw [← HK.out]; exact hj))).mono ?_; rintro e wB ⟨AN, NN, CN, rfl, rm, kB⟩; have kW : Keeps wQ11 wB := keeps_d kB; clear kB; obtain ⟨z1, z2⟩ := b4.keeps kW)))
      clear kS kT z1 z2 ca2 ca6 ck hki hkw hk3 hk4
      replace b2 := b2.keeps kW
      replace b3 := b3.keeps kW
      replace b4 := b4.keeps kW
      replace b6 := b6.keeps kW
      replace kw := Keeps.trans kw kW
      have lt14 := b6.lt
      have sz15 := kw.size
      clear kW
      rw [← HY.out] at rm
      obtain ⟨R, hR⟩ : ∃ R, prQ aa bb = R := ⟨_, rfl⟩
      rw [hR] at rm HY
      rw [← HY.out]
      rw [hR]
      clear HY
      have HF := hid hR
      clear hR
      replace rm : RM wB wQ11.heap.size wB.heap.size AN NN R.1 := rm
      obtain ⟨ca16, fa16⟩ := id b4
      go_wp2_with fail
      clear ca16 fa16
      obtain ⟨ca0, fa0⟩ := id b4
      have frS : Fr (w.heap.size + 1 + 1) (w.heap.size + 1 + 1 + 1) wB (wB.setCell ⟨w.heap.size + 1 + 1, 0, none⟩ (.slice AN NN CN)) := (Fr.refl _ _ _).setCell (p := ⟨w.heap.size + 1 + 1, 0, none⟩) (Nat.le_refl _) (Nat.lt_succ_self _) _
      have hs := (rm).1.top
      refine bodyPost_ret (v := .tuple #[.agg #[.slice AN NN CN], .bool R.2]) (by simp [results, Try.results27, go_sem, ca0]) rfl ⟨_, _, _, by rw [HF.out], ?_, Below.setCell kw (p := ⟨w.heap.size + 1 + 1, 0, none⟩) (by show _ ≤ (w.heap.size + 1 + 1); omega) _⟩
      rw [HF.out]
      exact (RM.fr rm frS (by omega)).widen (by first | omega | (simp; omega)) (by simp [World.setCell] <;> omega) (Nat.le_refl _)
set_option maxRecDepth 100000 in
set_option maxHeartbeats 25600000 in
theorem specProductOf_any {A A' : Option Addr} {lo hi lo' hi' n n' c c' : Nat} {aa bb : List (List QQ)} {w : World} (h : FRows w lo hi A n aa) (h' : FRows w lo' hi' A' n' bb) :
    Calls Try.prog 28 #[.agg #[.slice A n c], .agg #[.slice A' n' c']] w (MRes w (prQ aa bb)) := by
  have hn := h.le
  have hn' := h'.le
  have hl := h.len
  have hl' := h'.len
  go_enter Try.func28, Try.ntmps28
  have kw := keeps_refl w
  replace kw := Keeps.trans kw (keeps_alloc w (.cells #[.slice A n c] 25))
  have b2 : B1 (w.alloc (.cells #[.slice A n c] 25)) w.heap.size (.slice A n c) := B1.new' (by simp)
  replace b2 := b2.keeps (keeps_alloc (w.alloc (.cells #[.slice A n c] 25)) (.cells #[.slice A' n' c'] 25))
  replace kw := Keeps.trans kw (keeps_alloc (w.alloc (.cells #[.slice A n c] 25)) (.cells #[.slice A' n' c'] 25))
  have b3 : B1 ((w.alloc (.cells #[.slice A n c] 25)).alloc (.cells #[.slice A' n' c'] 25)) (w.heap.size + 1) (.slice A' n' c') := B1.new' (by simp)
  replace b2 := b2.keeps (keeps_alloc ((w.alloc (.cells #[.slice A n c] 25)).alloc (.cells #[.slice A' n' c'] 25)) (.cells #[.slice none 0 0] 25))
  replace b3 := b3.keeps (keeps_alloc ((w.alloc (.cells #[.slice A n c] 25)).alloc (.cells #[.slice A' n' c'] 25)) (.cells #[.slice none 0 0] 25))
  replace kw := Keeps.trans kw (keeps_alloc ((w.alloc (.cells #[.slice A n c] 25)).alloc (.cells #[.slice A' n' c'] 25)) (.cells #[.slice none 0 0] 25))
  have b4 : B1 (((w.alloc (.cells #[.slice A n c] 25)).alloc (.cells #[.slice A' n' c'] 25)).alloc (.cells #[.slice none 0 0] 25)) (w.heap.size + 1 + 1) (.slice none 0 0) := B1.new' (by simp)
  obtain ⟨ca1, fa1⟩ := id b2
  go_wp2_with fail
  clear ca1 fa1
  obtain ⟨pH1, H1⟩ : ∃ pB, Hid (mechB aa = pB) := ⟨_, rfl⟩
  refine (mGood_any (h.keeps kw) (c := c)).mono ?_
  rintro e w2 ⟨rfl, k2⟩
  rw [H1.out]
  replace b2 := b2.keeps k2
  replace b3 := b3.keeps k2
  replace b4 := b4.keeps k2
  replace kw := Keeps.trans kw k2
  have lt3 := b4.lt
  have sz4 := kw.size
  clear k2
  cases pH1
  · have HF := hid (prQ_no (aa := aa) (bb := bb) (by rw [prB, H1.out]; rfl))
    obtain ⟨ca5, fa5⟩ := id b4
    go_wp2_with fail
    clear ca5 fa5
    obtain ⟨ca0, fa0⟩ := id b4
    refine bodyPost_ret (v := .tuple #[.agg #[.slice none 0 0], .bool false]) (by simp [results, Try.results28, go_sem, ca0]) rfl ⟨none, 0, 0, by rw [HF.out], ?_, ?_⟩
    · rw [HF.out]; exact RM.nil_ _ _
    · first | exact Below.setCell kw (p := ⟨w.heap.size + 1 + 1, 0, none⟩) (Nat.le_refl _) _ | exact kw | exact Below.setCell kw (p := ⟨w.heap.size + 1 + 1, 0, none⟩) (by show _ ≤ (w.heap.size + 1 + 1); omega) _
  · skip
    obtain ⟨ca5, fa5⟩ := id b3
    go_wp2_with fail
    clear ca5 fa5
    obtain ⟨pH2, H2⟩ : ∃ pB, Hid (mechB bb = pB) := ⟨_, rfl⟩
    refine (mGood_any (h'.keeps kw) (c := c')).mono ?_
    rintro e w6 ⟨rfl, k6⟩
    rw [H2.out]
    replace b2 := b2.keeps k6
    replace b3 := b3.keeps k6
    replace b4 := b4.keeps k6
    replace kw := Keeps.trans kw k6
    have lt7 := b4.lt
    have sz8 := kw.size
    clear k6
    cases pH2
    · have HF := hid (prQ_no (aa := aa) (bb := bb) (by rw [prB, H1.out, H2.out]; rfl))
      obtain ⟨ca9, fa9⟩ := id b4
      go_wp2_with fail
      clear ca9 fa9
      obtain ⟨ca0, fa0⟩ := id b4
      refine bodyPost_ret (v := .tuple #[.agg #[.slice none 0 0], .bool false]) (by simp [results, Try.results28, go_sem, ca0]) rfl ⟨none, 0, 0, by rw [HF.out], ?_, ?_⟩
      · rw [HF.out]; exact RM.nil_ _ _
      · first | exact Below.setCell kw (p := ⟨w.heap.size + 1 + 1, 0, none⟩) (Nat.le_refl _) _ | exact kw | exact Below.setCell kw (p := ⟨w.heap.size + 1 + 1, 0, none⟩) (by show _ ≤ (w.heap.size + 1 + 1); omega) _
    · skip
      by_cases hnm : n = n'
      rotate_left
      · have t1 : ((n : Int) != (n' : Int)) = true := by rw [bne_iff_ne]; omega
        obtain ⟨ca9, fa9⟩ := id b2
        obtain ⟨ca10, fa10⟩ := id b3
        have HF := hid (prQ_no (aa := aa) (bb := bb) (by rw [prB, decide_eq_false (show ¬ aa.length = bb.length by omega), Bool.and_false]))
        obtain ⟨ca11, fa11⟩ := id b4
        go_wp2_with fail
        clear ca9 fa9 ca10 fa10 ca11 fa11
        obtain ⟨ca0, fa0⟩ := id b4
        refine bodyPost_ret (v := .tuple #[.agg #[.slice none 0 0], .bool false]) (by simp [results, Try.results28, go_sem, ca0]) rfl ⟨none, 0, 0, by rw [HF.out], ?_, ?_⟩
        · rw [HF.out]; exact RM.nil_ _ _
        · first | exact Below.setCell kw (p := ⟨w.heap.size + 1 + 1, 0, none⟩) (Nat.le_refl _) _ | exact kw | exact Below.setCell kw (p := ⟨w.heap.size + 1 + 1, 0, none⟩) (by show _ ≤ (w.heap.size + 1 + 1); omega) _
      have t1 : ((n : Int) != (n' : Int)) = false := by simp [hnm]
      have HB0 := hid (show prB aa bb = true by rw [prB, H1.out, H2.out, decide_eq_true (show aa.length = bb.length by omega)]; rfl)
      have HNM := hid hnm
      clear hnm
      obtain ⟨ca9, fa9⟩ := id b2
      obtain ⟨ca10, fa10⟩ := id b3
      go_wp2_with fail
      clear ca9 fa9 ca10 fa10
      have hln := mechB_len H1.out
      have hln' := mechB_len H2.out
      obtain ⟨b, off, A1, m1, c1, rfl, hlb, hub, hc0, hr0⟩ := h.head (by omega)
      obtain ⟨b', off', A2, m2, c2, rfl, hlb', hub', hc0', hr0'⟩ := h'.head (by omega)
      have hm0 := Fracs.len hr0
      have hm0' := Fracs.len hr0'
      have i0 : (0 : Int) < (n : Int) := by omega
      have i0' : (0 : Int) < (n' : Int) := by omega
      have i0n : 0 < n := by omega
      have i0n' : 0 < n' := by omega
      rw [hm0] at hln
      rw [hm0'] at hln'
      have hk0 : m1 * m2 ≤ 24 * 24 := Nat.mul_le_mul (by omega) (by omega)
      obtain ⟨k, hk⟩ : ∃ k, k = m1 * m2 := ⟨_, rfl⟩
      have hki : (m1 : Int) * (m2 : Int) = (k : Int) := by rw [hk]; rfl
      rw [← hk] at hk0
      have HY := hid (prQ_yes HB0.out)
      rw [hl, hm0, hm0', ← hk] at HY
      have HM0 := hid hm0
      have HM0' := hid hm0'
      clear hm0 hm0' hr0 hr0'
      have HK := hid hk
      have HKI := hid hki
      clear hk hki
      have HG := hid H1.out
      have HG' := hid H2.out
      clear H1 H2
      obtain ⟨ll, HL⟩ : ∃ ll, Hid (tab (prF aa bb m2) n k = ll) := ⟨_, rfl⟩
      obtain ⟨ca11, fa11⟩ := id b2
      go_wp2_with fail
      clear ca11 fa11
      go_loopw [37, 6] (fun si v wr => ∃ i : Nat, i ≤ n ∧ si = .int .i64 i ∧ Hid (OkTo (prF aa bb m2) k i 0) ∧ Built wr (w.heap.size + 1 + 1 + 1) v i ll wr.heap.size ∧ B1 wr w.heap.size (.slice (some ⟨b, off, none⟩) n c) ∧ B1 wr (w.heap.size + 1) (.slice (some ⟨b', off', none⟩) n' c') ∧ B1 wr (w.heap.size + 1 + 1) (.slice none 0 0) ∧ Keeps w wr) (fun si _ _ => n - (intOf si).toNat)
      case atStart => exact ⟨0, Nat.zero_le _, rfl, hid (okTo_start _ _), Built.nil_ _ _ _, b2, b3, b4, kw⟩
      clear kw b2 b3 b4
      case round =>
        obtain ⟨i, hi, rfl, OK, bu, b2, b3, b4, kw⟩ := hrel
        obtain ⟨wo, rfl⟩ : ∃ u : World, u = wr := ⟨_, rfl⟩
        have lt4 := b4.lt
        have sz := kw.size
        by_cases hlt : i < n
        · have hi1 : (i : Int) < (n : Int) := by omega
          obtain ⟨row, HR⟩ : ∃ row, Hid (ll.getD i [] = row) := ⟨_, rfl⟩
          have hrow : row = (List.range k).map fun j => ((prF aa bb m2 i j).1, (prF aa bb m2 i j).2.1) := by rw [← HR.out, ← HL.out]; exact tab_row _ hlt
          have HRL := hid (show row.length = k by rw [hrow]; simp)
          have HRA := hid (show ∀ j, j < k → row.getD j (0, 0) = ((prF aa bb m2 i j).1, (prF aa bb m2 i j).2.1) from fun j hj => by rw [hrow, getD_map_range, if_pos hj])
          clear hrow
          obtain ⟨b1_, off1, A1r, mr, c1r, e1, hlb1, hub1, hci, hri⟩ := (h.keeps kw).at_ hlt
          obtain ⟨rfl, rfl⟩ : b = b1_ ∧ off = off1 := by injection e1 with e1; injection e1 with e1 e2; exact ⟨e1, e2⟩
          clear e1
          have hmn : m1 = mr := by have := Fracs.len hri; have := (mechB_row HG.out (i := i) (by omega)).1; have := HM0.out; omega
          subst hmn
          have hnn := HNM.out
          have hi2 : (i : Int) < (n' : Int) := by omega
          obtain ⟨b2_, off2, A2r, mr2, c2r, e2, hlb2, hub2, hck, hrk⟩ := (h'.keeps kw).at_ (k := i) (by omega)
          clear hnn
          obtain ⟨rfl, rfl⟩ : b' = b2_ ∧ off' = off2 := by injection e2 with e1; injection e1 with e1 e2; exact ⟨e1, e2⟩
          clear e2
          have hmn2 : m2 = mr2 := by have := Fracs.len hrk; have := (mechB_row HG'.out (i := i) (by have := HNM.out; omega)).1; have := HM0'.out; omega
          subst hmn2
          have hai := Fracs.len hri
          have hbi := Fracs.len hrk
          have HAI := hid hai
          have HBI := hid hbi
          clear hai hbi
          have hmle1 := hri.le
          have hmle2 := hrk.le
          obtain ⟨ca12, fa12⟩ := id b2
          obtain ⟨ca13, fa13⟩ := id b3
          go_wp2_with fail
          clear ca12 fa12 ca13 fa13
          clear hci
          go_loopw [44, 9] (fun si v wr => ∃ z : Nat, z ≤ m1 ∧ si = .int .i64 z ∧ Hid (OkTo (prF aa bb m2) k i (z * m2)) ∧ Has wr wo.heap.size 31 2 v (z * m2) (frs (row.take (z * m2))) ∧ Keeps wo wr) (fun si _ _ => m1 - (intOf si).toNat)
          case atStart => exact ⟨0, Nat.zero_le _, rfl, by rw [Nat.zero_mul]; exact OK, by rw [Nat.zero_mul]; exact World.ownsRow_nil _ _ _ _, keeps_refl _⟩
          case round =>
            obtain ⟨z, hz, rfl, OKz, hown, ko⟩ := hrel
            obtain ⟨wk, rfl⟩ : ∃ u : World, u = wr := ⟨_, rfl⟩
            have lo := ko.size
            by_cases hlz : z < m1
            · have hz1 : (z : Int) < (m1 : Int) := by omega
              have hm1le := hri.le
              have hm2le := hrk.le
              have kwo := Keeps.trans kw ko
              have d2 := b2.keeps ko
              have d3 := b3.keeps ko
              have d4 := b4.keeps ko
              have hrkk := Sl.keeps hrk ko
              have hckk := cell_keeps hck ko
              obtain ⟨ba, oa, x, y, rfl, _, hb, hc, hd, hx⟩ := Fracs.at_ (Sl.keeps hri ko) hlz
              have fx := hid (mechB_at HG.out (i := i) (k := z) (by omega) (by have := HAI.out; omega) hx.out).1
              have lt4k := d4.lt
              have kk := keeps_refl wk
              replace d2 := d2.keeps (keeps_alloc wk (.cells #[.int .i64 x, .int .i64 y] 31))
              replace d3 := d3.keeps (keeps_alloc wk (.cells #[.int .i64 x, .int .i64 y] 31))
              replace d4 := d4.keeps (keeps_alloc wk (.cells #[.int .i64 x, .int .i64 y] 31))
              replace kwo := Keeps.trans kwo (keeps_alloc wk (.cells #[.int .i64 x, .int .i64 y] 31))
              replace ko := Keeps.trans ko (keeps_alloc wk (.cells #[.int .i64 x, .int .i64 y] 31))
              replace kk := Keeps.trans kk (keeps_alloc wk (.cells #[.int .i64 x, .int .i64 y] 31))
              have d11 : Bx (wk.alloc (.cells #[.int .i64 x, .int .i64 y] 31)) wk.heap.size x y := Bx.new' (by simp)
              obtain ⟨ca14, fa14⟩ := id d3
              have hck2 := cell_keeps hckk kk
              go_wp2_with fail
              clear ca14 fa14
              clear hck2 hc hd
              have apt : ∀ v, Has wk wo.heap.size 31 2 v (z * m2) (frs (row.take (z * m2))) → Apart v wk.heap.size := fun v hv => Apart.of_lt hv (Nat.le_refl _)
              have ap0 := apt _ hown
              have hown0 := Has.below hown kk
              clear apt hown
              go_loopw [54, 9] (fun si v wr => ∃ q : Nat, q ≤ m2 ∧ si = .int .i64 q ∧ Hid (OkTo (prF aa bb m2) k i (z * m2 + q)) ∧ Has wr wo.heap.size 31 2 v (z * m2 + q) (frs (row.take (z * m2 + q))) ∧ Apart v wk.heap.size ∧ B1 wr w.heap.size (.slice (some ⟨b, off, none⟩) n c) ∧ B1 wr (w.heap.size + 1) (.slice (some ⟨b', off', none⟩) n' c') ∧ B1 wr (w.heap.size + 1 + 1) (.slice none 0 0) ∧ Bx wr wk.heap.size x y ∧ Keeps wo wr) (fun si _ _ => m2 - (intOf si).toNat)
              case atStart => exact ⟨0, Nat.zero_le _, rfl, OKz, hown0, ap0, d2, d3, d4, d11, ko⟩
              clear hown0 ap0 kwo kk d2 d3 d4 d11
              have klo := ko
              clear ko
              case round =>
                obtain ⟨q, hq, rfl, OKq, hown, ap, d2, d3, d4, d11, ko⟩ := hrel
                obtain ⟨wz, rfl⟩ : ∃ u : World, u = wr := ⟨_, rfl⟩
                have lo2 := ko.size
                have lt11 := d11.lt
                by_cases hlq : q < m2
                · have hq1 : (q : Int) < (m2 : Int) := by omega
                  have hzq : z * m2 + q < k := by rw [HK.out]; exact zq_lt hlz hlq
                  have HT := hid (take_snoc row (z * m2 + q) (0, 0) (by have := HRL.out; omega))
                  rw [HRA.out _ hzq] at HT
                  obtain ⟨bu_, ou, u, v, rfl, _, hbu, hcu, hdu, hu⟩ := Fracs.at_ (Sl.keeps hrk ko) hlq
                  have fu := hid (mechB_at HG'.out (i := i) (k := q) (by have := HNM.out; omega) (by have := HBI.out; omega) hu.out).1
                  obtain ⟨q1, q2, q3, H5⟩ : ∃ q1 q2 q3, Hid (mkF (x * u) (y * v) = (q1, q2, q3)) := ⟨_, _, _, rfl⟩
                  have HP := hid ((prF_at (aa := aa) (bb := bb) hlq hx.out hu.out).trans H5.out)
                  have kf := keeps_refl wz
                  replace d2 := d2.keeps (keeps_alloc wz (.cells #[.int .i64 u, .int .i64 v] 31))
                  replace d3 := d3.keeps (keeps_alloc wz (.cells #[.int .i64 u, .int .i64 v] 31))
                  replace d4 := d4.keeps (keeps_alloc wz (.cells #[.int .i64 u, .int .i64 v] 31))
                  replace d11 := d11.keeps (keeps_alloc wz (.cells #[.int .i64 u, .int .i64 v] 31))
                  replace ko := Keeps.trans ko (keeps_alloc wz (.cells #[.int .i64 u, .int .i64 v] 31))
                  replace kf := Keeps.trans kf (keeps_alloc wz (.cells #[.int .i64 u, .int .i64 v] 31))
                  have d13 : Bx (wz.alloc (.cells #[.int .i64 u, .int .i64 v] 31)) wz.heap.size u v := Bx.new' (by simp)
                  obtain ⟨ca15, cb15, fa15, fb15⟩ := id d11
                  obtain ⟨ca16, cb16, fa16, fb16⟩ := id d13
                  go_wp2_with fail
                  clear ca15 cb15 fa15 fb15 ca16 cb16 fa16 fb16
                  clear hcu hdu
                  refine (fMul_any (fracB_qb fx.out) (fracB_qb fu.out)).mono ?_
                  rintro e w17 ⟨rfl, k17⟩
                  rw [H5.out]
                  replace d2 := d2.keeps k17
                  replace d3 := d3.keeps k17
                  replace d4 := d4.keeps k17
                  replace d11 := d11.keeps k17
                  replace d13 := d13.keeps k17
                  replace ko := Keeps.trans ko k17
                  replace kf := Keeps.trans kf k17
                  have lt18 := d13.lt
                  have sz19 := ko.size
                  have sz20 := kf.size
                  clear k17
                  cases q3
                  · have HF := hid (show prQ aa bb = ([], false) by rw [HY.out]; exact nmQ_no1 (okAll_no hlt hzq HP.out))
                    have kw2 := Keeps.trans kw ko
                    clear kw
                    have kw := kw2
                    obtain ⟨ca0, fa0⟩ := id d4
                    have ltB := d4.lt
                    have ca1 := cell_keeps ca0 (keeps_alloc w17 (.cells #[.int .i64 q1, .int .i64 q2] 31))
                    go_wp2_with fail
                    refine bodyPost_ret (v := .tuple #[.agg #[.slice none 0 0], .bool false]) (by simp [results, Try.results28, go_sem, ca0, ltB]) rfl ⟨none, 0, 0, by rw [HF.out], ?_, ?_⟩
                    · rw [HF.out]; exact RM.nil_ _ _
                    · exact Keeps.trans (Below.setCell kw (p := ⟨w.heap.size + 1 + 1, 0, none⟩) (by show _ ≤ (w.heap.size + 1 + 1); omega) _) (keeps_alloc _ _)
                  · replace d2 := d2.keeps (keeps_alloc w17 (.cells #[.int .i64 q1, .int .i64 q2] 31))
                    replace d3 := d3.keeps (keeps_alloc w17 (.cells #[.int .i64 q1, .int .i64 q2] 31))
                    replace d4 := d4.keeps (keeps_alloc w17 (.cells #[.int .i64 q1, .int .i64 q2] 31))
                    replace d11 := d11.keeps (keeps_alloc w17 (.cells #[.int .i64 q1, .int .i64 q2] 31))
                    replace d13 := d13.keeps (keeps_alloc w17 (.cells #[.int .i64 q1, .int .i64 q2] 31))
                    replace ko := Keeps.trans ko (keeps_alloc w17 (.cells #[.int .i64 q1, .int .i64 q2] 31))
                    replace kf := Keeps.trans kf (keeps_alloc w17 (.cells #[.int .i64 q1, .int .i64 q2] 31))
                    have d14 : Bx (w17.alloc (.cells #[.int .i64 q1, .int .i64 q2] 31)) w17.heap.size q1 q2 := Bx.new' (by simp)
                    rw [show ((prF aa bb m2 i (z * m2 + q)).1, (prF aa bb m2 i (z * m2 + q)).2.1) = (q1, q2) by rw [HP.out]] at HT
                    have ownZ := Has.below hown kf
                    have loz := ko.size
                    obtain ⟨ca21, cb21, fa21, fb21⟩ := id d14
                    go_wp2_with (at_builtin; refine append_frac_at (xs := row.take (z * m2 + q)) ownZ (by omega) loz _ _ rfl rfl rfl (by first | rfl | (simp <;> rfl)) ?_; intro v' w2 hown2 hb2 hb3 hap)
                    rw [← HT.out] at hown2
                    have ko2 := Below.trans ko hb2
                    have ap2 := hap _ (by simp; omega) ap
                    have c2_ := d2.below hb2 (by omega)
                    have c3 := d3.below hb2 (by omega)
                    have c4 := d4.below hb2 (by omega)
                    have c11 := d11.grown ap hb3
                    clear ownZ hb2 hb3 hap ko kf hown ap d2 d3 d4 d11 d13 d14
                    clear ca21 cb21 fa21 fb21
                    go_wp2
                    go_roundw
                    case rel => exact ⟨q + 1, by omega, by go_num, hid (okTo_next OKq.out HP.out), hown2, ap2, c2_, c3, c4, c11, ko2⟩
                    case measure => simp [intOf]; omega
                · obtain rfl : q = m2 := by omega
                  have ez : (z + 1) * q = z * q + q := by rw [Nat.add_mul, Nat.one_mul]
                  rw [← ez] at hown OKq
                  clear ez
                  have kz := ko
                  clear ap d2 d3 d4 d11
                  go_wp2
                  go_roundw
                  case rel => exact ⟨z + 1, by omega, by go_num, OKq, hown, kz⟩
                  case measure => simp [intOf]; omega
            · obtain rfl : z = m1 := by omega
              rw [← HK.out] at hown OKz
              obtain ⟨AR, CR, rfl⟩ := hown.form
              rw [List.take_of_length_le (by rw [HRL.out]; exact Nat.le_refl _)] at hown
              have hsl := RowH.of_own hown (by omega) (by omega)
              rw [← HR.out] at hsl
              have bu1 := bu.keeps ko
              replace b2 := b2.keeps ko
              replace b3 := b3.keeps ko
              replace b4 := b4.keeps ko
              replace kw := Keeps.trans kw ko
              have lt6' := b4.lt
              have OK2 := hid (okTo_row OKz.out)
              clear bu hown hri hrk hck
              go_wp2_with (at_builtin; refine append_row (ll := ll) bu1 hsl (by omega) (by omega) _ _ rfl rfl rfl (by first | rfl | (simp <;> rfl)) ?_; intro v' w2 bu2 hb2)
              have c2_ := b2.below hb2 (by omega)
              have c3 := b3.below hb2 (by omega)
              have c4 := b4.below hb2 (by omega)
              have kw2 := Below.trans kw (hb2.mono (by omega))
              clear b2 b3 b4 kw bu1 hsl hb2 ko
              go_wp2
              go_roundw
              case rel => exact ⟨i + 1, by omega, by go_num, OK2, bu2, c2_, c3, c4, kw2⟩
              case measure => simp [intOf]; omega
        · obtain rfl : i = n := by omega
          obtain ⟨AR, CR, rfl⟩ := bu.form
          have hll : ll.length = i := by rw [← HL.out]; exact tab_len _ _ _
          have rm := bu.rm hll (by omega)
          clear bu
          cases hg : mechB ll with
          | true =>
            have HGL := hid hg
            clear hg
            have HF := hid (show prQ aa bb = (ll, true) by rw [HY.out, ← HL.out]; exact nmQ_yes (okAll_yes OK.out) (by rw [HL.out]; exact HGL.out))
            clear HY
            go_wp2_with fail
            refine (mIf_yes rm.rows HGL.out).mono ?_
            rintro e w12 ⟨rfl, k12⟩
            replace b4 := b4.keeps k12
            replace rm := rm.keeps k12
            replace kw := Keeps.trans kw k12
            have lt13 := b4.lt
            have sz14 := kw.size
            clear k12
            obtain ⟨ca15, fa15⟩ := id b4
            go_wp2_with fail
            clear ca15 fa15
            obtain ⟨ca0, fa0⟩ := id b4
            have frS : Fr (w.heap.size + 1 + 1) (w.heap.size + 1 + 1 + 1) w12 (w12.setCell ⟨w.heap.size + 1 + 1, 0, none⟩ (.slice AR i CR)) := (Fr.refl _ _ _).setCell (p := ⟨w.heap.size + 1 + 1, 0, none⟩) (Nat.le_refl _) (Nat.lt_succ_self _) _
            have hs := (rm).1.top
            refine bodyPost_ret (v := .tuple #[.agg #[.slice AR i CR], .bool true]) (by simp [results, Try.results28, go_sem, ca0]) rfl ⟨_, _, _, by rw [HF.out], ?_, Below.setCell kw (p := ⟨w.heap.size + 1 + 1, 0, none⟩) (by show _ ≤ (w.heap.size + 1 + 1); omega) _⟩
            rw [HF.out]
            exact (RM.fr rm frS (by omega)).widen (by first | omega | (simp; omega)) (by simp [World.setCell] <;> omega) (Nat.le_refl _)
          | false =>
            have HGL := hid hg
            clear hg
            have HF := hid (show prQ aa bb = ([], false) by rw [HY.out]; exact nmQ_no2 (by rw [HL.out]; exact HGL.out))
            clear HY
            go_wp2_with fail
            refine (mIf_no rm.rows HGL.out).mono ?_
            rintro e w12 ⟨rfl, k12⟩
            replace b4 := b4.keeps k12
            replace rm := rm.keeps k12
            replace kw := Keeps.trans kw k12
            have lt13 := b4.lt
            have sz14 := kw.size
            clear k12
            obtain ⟨ca15, fa15⟩ := id b4
            go_wp2_with fail
            clear ca15 fa15
            obtain ⟨ca0, fa0⟩ := id b4
            refine bodyPost_ret (v := .tuple #[.agg #[.slice none 0 0], .bool false]) (by simp [results, Try.results28, go_sem, ca0]) rfl ⟨none, 0, 0, by rw [HF.out], ?_, ?_⟩
            · rw [HF.out]; exact RM.nil_ _ _
            · first | exact Below.setCell kw (p := ⟨w.heap.size + 1 + 1, 0, none⟩) (Nat.le_refl _) _ | exact kw | exact Below.setCell kw (p := ⟨w.heap.size + 1 + 1, 0, none⟩) (by show _ ≤ (w.heap.size + 1 + 1); omega) _
end Go.Proofs.Ytnopedjgagoahaa
