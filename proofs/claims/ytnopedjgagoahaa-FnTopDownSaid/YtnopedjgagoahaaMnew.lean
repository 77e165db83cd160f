/- newMechanism of the program: a table filled by a function value. -/
import Derived.Test.YtnopedjgagoahaaMgood
namespace Go.Proofs.Ytnopedjgagoahaa
open Go.RowKit
set_option linter.unusedVariables false
set_option linter.unusedSimpArgs false

/-- The table of n rows of m numbers each. -/
def tab (f : Nat → Nat → Int × Int × Bool) (n m : Nat) : List (List QQ) := (List.range n).map fun i => (List.range m).map fun j => ((f i j).1, (f i j).2.1)
theorem tab_len (f : Nat → Nat → Int × Int × Bool) (n m : Nat) : (tab f n m).length = n := by simp [tab]
theorem tab_row (f : Nat → Nat → Int × Int × Bool) {n m i : Nat} (h : i < n) : (tab f n m).getD i [] = (List.range m).map fun j => ((f i j).1, (f i j).2.1) := by unfold tab; rw [getD_map_range, if_pos h]
theorem tab_rowlen (f : Nat → Nat → Int × Int × Bool) {n m i : Nat} (h : i < n) : ((tab f n m).getD i []).length = m := by rw [tab_row f h]; simp
theorem tab_at (f : Nat → Nat → Int × Int × Bool) {n m i j : Nat} (h : i < n) (k : j < m) {x y : Int} {b : Bool} (e : f i j = (x, y, b)) : (x, y) = ((tab f n m).getD i []).getD j (0, 0) := by
  rw [tab_row f h, getD_map_range, if_pos k, e]
/-- All of the first k rows are made; of row k the first q elements too. -/
def OkTo (f : Nat → Nat → Int × Int × Bool) (m k q : Nat) : Prop := (∀ i j, i < k → j < m → (f i j).2.2 = true) ∧ ∀ j, j < q → (f k j).2.2 = true
def okAll (f : Nat → Nat → Int × Int × Bool) (n m : Nat) : Bool := (List.range n).all fun i => (List.range m).all fun j => (f i j).2.2
theorem okAll_yes {f : Nat → Nat → Int × Int × Bool} {n m : Nat} (h : OkTo f m n 0) : okAll f n m = true := by
  simp only [okAll, List.all_eq_true, List.mem_range]; exact fun i hi j hj => h.1 i j hi hj
theorem okAll_no {f : Nat → Nat → Int × Int × Bool} {n m i j : Nat} {x y : Int} (hi : i < n) (hj : j < m) (e : f i j = (x, y, false)) : okAll f n m = false := by
  rw [Bool.eq_false_iff]; intro h
  simp only [okAll, List.all_eq_true, List.mem_range] at h
  have := h i hi j hj; rw [e] at this; cases this
theorem okTo_start (f : Nat → Nat → Int × Int × Bool) (m : Nat) : OkTo f m 0 0 := ⟨fun i j h => absurd h (by omega), fun j h => absurd h (by omega)⟩
theorem okTo_next {f : Nat → Nat → Int × Int × Bool} {m k q : Nat} {x y : Int} (h : OkTo f m k q) (e : f k q = (x, y, true)) : OkTo f m k (q + 1) :=
  ⟨h.1, fun j hj => by by_cases hq : j = q
                       · subst hq; rw [e]
                       · exact h.2 j (by omega)⟩
theorem okTo_row {f : Nat → Nat → Int × Int × Bool} {m k : Nat} (h : OkTo f m k m) : OkTo f m (k + 1) 0 :=
  ⟨fun i j hi hj => by by_cases hk : i = k
                       · subst hk; exact h.2 j hj
                       · exact h.1 i j (by omega) hj, fun j hj => absurd hj (by omega)⟩
/-- The table, where all its numbers are made and it is a valid mechanism. -/
def nmQ (f : Nat → Nat → Int × Int × Bool) (n m : Nat) : List (List QQ) × Bool := if okAll f n m = true ∧ mechB (tab f n m) = true then (tab f n m, true) else ([], false)
theorem nmQ_no1 {f : Nat → Nat → Int × Int × Bool} {n m : Nat} (h : okAll f n m = false) : nmQ f n m = ([], false) := if_neg (by rw [h]; simp)
theorem nmQ_no2 {f : Nat → Nat → Int × Int × Bool} {n m : Nat} (h : mechB (tab f n m) = false) : nmQ f n m = ([], false) := if_neg (by rw [h]; simp)
theorem nmQ_yes {f : Nat → Nat → Int × Int × Bool} {n m : Nat} (h : okAll f n m = true) (k : mechB (tab f n m) = true) : nmQ f n m = (tab f n m, true) := if_pos ⟨h, k⟩
theorem rowSum_le {ll : List (List QQ)} {m : Nat} (h : ∀ i, (ll.getD i []).length ≤ m) (k : Nat) : rowSum ll k ≤ k * m := by
  induction k with
  | zero => simp [rowSum]
  | succ k ih =>
    rw [rowSum_succ, Nat.succ_mul]
    have := h k; omega
theorem mech_small {ll : List (List QQ)} (h : mechB ll = true) : ll.length ≤ 64 ∧ rowSum ll ll.length ≤ 67108864 := by
  have hl := mechB_len h
  have h1 : ∀ i, (ll.getD i []).length ≤ 24 := fun i => by
    by_cases hi : i < ll.length
    · have := (mechB_row h hi).1; omega
    · simp [List.getD, List.getElem?_eq_none (Nat.le_of_not_lt hi)]
  have := rowSum_le h1 ll.length
  omega
theorem nmQ_small (f : Nat → Nat → Int × Int × Bool) (n m : Nat) : (nmQ f n m).1.length ≤ 64 ∧ rowSum (nmQ f n m).1 (nmQ f n m).1.length ≤ 67108864 := by
  unfold nmQ; split
  · rename_i h; exact mech_small h.2
  · simp [rowSum]
theorem enter_of {P : Program} {f : FuncId} {fn : Func} {c : Code} (hf : P.funcs[f]? = some fn) (hname : (fn.name == "runtime.NumGoroutine") = false) (hb : fn.body = some c) (args : Array Value) (w : World) :
    (callFunc f args).run P w = .ok (.enter f args) w := by
  have h1 : fn.name ≠ "runtime.NumGoroutine" := by simpa using hname
  simp [callFunc, hf, h1, hb]
/-- Rows below k are filled; row k lies in block r and is filled up to q. -/
def Fill2 (w : World) (g n m : Nat) (ll : List (List QQ)) (k r q : Nat) : Prop :=
  ∃ (cs : List Value) (L U : Nat → Nat), OwnC w g 43 cs ∧ cs.length = n ∧ (∀ j, j < k → g < L j ∧ U j ≤ r) ∧ (∀ i j, i < j → j < k → U i ≤ L j) ∧
    (∀ j, j < k → ∃ A' m', cs.getD j undef = .slice A' m' m' ∧ FracsM w (L j) (U j) A' m' (ll.getD j [])) ∧ cs.getD k undef = .slice (some ⟨r, 0, none⟩) m m ∧ OwnC w r 31 (frs (padD (0, 0) (ll.getD k []) q)) ∧ g < r
section
variable {w w1 : World} {g n m k r q : Nat} {ll : List (List QQ)}
theorem Fill2.keeps (h : Fill2 w g n m ll k r q) (kk : Keeps w w1) : Fill2 w1 g n m ll k r q := by
  obtain ⟨cs, L, U, h1, h2, h3, h4, h5, h6, h7, h8⟩ := h
  exact ⟨cs, L, U, h1.keeps kk, h2, h3, h4, fun j hj => by obtain ⟨A', m', e1, e2⟩ := h5 j hj; exact ⟨A', m', e1, SlM.keeps e2 kk⟩, h6, h7.keeps kk, h8⟩
theorem Filled.keeps (h : Filled w g n ll k) (kk : Keeps w w1) : Filled w1 g n ll k := by
  obtain ⟨cs, L, U, h1, h2, h3, h4, h5⟩ := h
  have := kk.size
  exact ⟨cs, L, U, h1.keeps kk, h2, fun j hj => by have := h3 j hj; omega, h4, fun j hj => by obtain ⟨A', m', e1, e2⟩ := h5 j hj; exact ⟨A', m', e1, SlM.keeps e2 kk⟩⟩
theorem Fill2.fr {l h' : Nat} (h : Fill2 w g n m ll k r q) (hf : Fr l h' w w1) (ho : h' ≤ g ∨ r < l) : Fill2 w1 g n m ll k r q := by
  obtain ⟨cs, L, U, h1, h2, h3, h4, h5, h6, h7, h8⟩ := h
  have q1 : OwnC w1 g _ cs := (hf.block g h1.lt (by omega)).trans h1
  have q2 : OwnC w1 r _ _ := (hf.block r h7.lt (by omega)).trans h7
  exact ⟨cs, L, U, q1, h2, h3, h4, fun j hj => by obtain ⟨A', m', e1, e2⟩ := h5 j hj; have := h3 j hj; exact ⟨A', m', e1, SlM.fr e2 hf (by omega)⟩, h6, q2, h8⟩
theorem Filled.fr {l h' : Nat} (h : Filled w g n ll k) (hf : Fr l h' w w1) (ho : h' ≤ g) : Filled w1 g n ll k := by
  obtain ⟨cs, L, U, h1, h2, h3, h4, h5⟩ := h
  have := hf.size
  have q1 : OwnC w1 g _ cs := (hf.block g h1.lt (by omega)).trans h1
  exact ⟨cs, L, U, q1, h2, fun j hj => by have := h3 j hj; omega, h4, fun j hj => by obtain ⟨A', m', e1, e2⟩ := h5 j hj; have := h3 j hj; exact ⟨A', m', e1, SlM.fr e2 hf (by omega)⟩⟩
theorem Filled.open_ (h : Filled w g n ll k) (hk : k < n) (hm : (ll.getD k []).length = m) :
    Fill2 ((w.alloc (.cells (madeCells #[.int .i64 0, .int .i64 0] (m * 2)) 31)).setCell ⟨g, k, none⟩ (.slice (some ⟨w.heap.size, 0, none⟩) m m)) g n m ll k w.heap.size 0 := by
  obtain ⟨cs, L, U, h1, h2, h3, h4, h5⟩ := h
  have hg := h1.lt
  have ka := keeps_alloc w (.cells (madeCells #[.int .i64 0, .int .i64 0] (m * 2)) 31)
  have o2 := OwnC.newF w m
  have fr1 : Fr g (g + 1) (w.alloc (.cells (madeCells #[.int .i64 0, .int .i64 0] (m * 2)) 31)) ((w.alloc (.cells (madeCells #[.int .i64 0, .int .i64 0] (m * 2)) 31)).setCell ⟨g, k, none⟩ (.slice (some ⟨w.heap.size, 0, none⟩) m m)) := (Fr.refl g (g + 1) _).setCell (p := ⟨g, k, none⟩) (Nat.le_refl _) (Nat.lt_succ_self _) _
  refine ⟨cs.set k (.slice (some ⟨w.heap.size, 0, none⟩) m m), L, U, (h1.keeps ka).set_ k _, by simpa using h2, h3, h4, fun j hj => ?_, by simp [List.getD, h2, hk], ?_, hg⟩
  · obtain ⟨A', m', e1, e2⟩ := h5 j hj
    have := h3 j hj
    exact ⟨A', m', by rw [← e1]; simp [List.getD, List.getElem?_set_ne (show k ≠ j by omega)], SlM.fr (SlM.keeps e2 ka) fr1 (by omega)⟩
  · rw [padD_zero, hm]
    exact o2.far (p := ⟨g, k, none⟩) (show w.heap.size ≠ g by omega) _
theorem Fill2.step {x y : Int} (h : Fill2 w g n m ll k r q) (hq : q < (ll.getD k []).length) (hx : (x, y) = (ll.getD k []).getD q (0, 0)) :
    Fill2 ((w.setCell ⟨r, q * 2, none⟩ (.int .i64 x)).setCell ⟨r, q * 2 + 1, none⟩ (.int .i64 y)) g n m ll k r (q + 1) := by
  obtain ⟨cs, L, U, h1, h2, h3, h4, h5, h6, h7, h8⟩ := h
  have fr1 : Fr r (r + 1) w ((w.setCell ⟨r, q * 2, none⟩ (.int .i64 x)).setCell ⟨r, q * 2 + 1, none⟩ (.int .i64 y)) := ((Fr.refl r (r + 1) w).setCell (p := ⟨r, q * 2, none⟩) (Nat.le_refl _) (Nat.lt_succ_self _) _).setCell (p := ⟨r, q * 2 + 1, none⟩) (Nat.le_refl _) (Nat.lt_succ_self _) _
  have o7 := OwnC.setF (k := q) h7 x y
  rw [hx, padD_succ _ _ _ hq] at o7
  refine ⟨cs, L, U, (h1.far (p := ⟨r, q * 2, none⟩) (show g ≠ r by omega) _).far (p := ⟨r, q * 2 + 1, none⟩) (show g ≠ r by omega) _, h2, h3, h4, fun j hj => ?_, h6, o7, h8⟩
  obtain ⟨A', m', e1, e2⟩ := h5 j hj
  have := h3 j hj
  exact ⟨A', m', e1, SlM.fr e2 fr1 (by omega)⟩
theorem Fill2.close (h : Fill2 w g n m ll k r m) (hm : (ll.getD k []).length = m) (hs : m ≤ 67108864) : Filled w g n ll (k + 1) := by
  obtain ⟨cs, L, U, h1, h2, h3, h4, h5, h6, h7, h8⟩ := h
  have hr := h7.lt
  rw [← hm, padD_all] at h7
  refine ⟨cs, fun j => if j = k then r else L j, fun j => if j = k then r + 1 else U j, h1, h2, fun j hj => ?_, fun i j hij hj => ?_, fun j hj => ?_⟩
  · dsimp only
    split
    · exact ⟨h8, by omega⟩
    · have := h3 j (by omega); omega
  · dsimp only
    rw [if_neg (show ¬ i = k by omega)]
    split
    · have := (h3 i (by omega)).2; omega
    · exact h4 i j hij (by omega)
  · dsimp only
    by_cases hjk : j = k
    · subst hjk
      rw [if_pos rfl, if_pos rfl]
      exact ⟨_, m, h6, OwnC.slm h7 (by rw [frs_len, hm]) hs (Nat.le_refl _) (Nat.lt_succ_self _) (by omega)⟩
    · rw [if_neg hjk, if_neg hjk]
      exact h5 j (by omega)
theorem Fill2.cells (h : Fill2 w g n m ll k r q) (hk : k < n) : w.cell? ⟨g, k, none⟩ = some (.slice (some ⟨r, 0, none⟩) m m) ∧ g < r ∧ r < w.heap.size := by
  obtain ⟨cs, L, U, h1, h2, h3, h4, h5, h6, h7, h8⟩ := h
  exact ⟨by rw [h1.cell k (by omega), h6], h8, h7.lt⟩
theorem Fill2.row (h : Fill2 w g n m ll k r q) (hq : q < (ll.getD k []).length) :
    (∃ v, w.cell? ⟨r, q * 2, none⟩ = some v) ∧ (∃ v, w.cell? ⟨r, q * 2 + 1, none⟩ = some v) ∧ w.frozen? ⟨r, q * 2, none⟩ = false ∧ w.frozen? ⟨r, q * 2 + 1, none⟩ = false := by
  obtain ⟨cs, L, U, h1, h2, h3, h4, h5, h6, h7, h8⟩ := h
  have hl : (frs (padD (0, 0) (ll.getD k []) q)).length = (ll.getD k []).length * 2 := by rw [frs_len, padD_len _ _ _ (by omega)]
  exact ⟨⟨_, h7.cell (q * 2) (by omega)⟩, ⟨_, h7.cell (q * 2 + 1) (by omega)⟩, h7.frozen _, h7.frozen _⟩
theorem Filled.cell (h : Filled w g n ll k) (j : Nat) (hj : j < n) : (∃ v, w.cell? ⟨g, j, none⟩ = some v) ∧ w.frozen? ⟨g, j, none⟩ = false := by
  obtain ⟨cs, L, U, ho, hc, _⟩ := h
  exact ⟨⟨_, ho.cell j (by omega)⟩, ho.frozen j⟩
end

set_option maxRecDepth 100000 in
set_option maxHeartbeats 800000 in
theorem checked_yes {A : Option Addr} {lo hi n c : Nat} {ll : List (List QQ)} {w : World} (h : FRows w lo hi A n ll) (hg : mechB ll = true) :
    Calls Try.prog 179 #[.agg #[.slice A n c], .bool true] w fun e w' => e = .returned (.tuple #[.agg #[.slice A n c], .bool true]) ∧ Keeps w w' := by
  have HG := hid hg
  clear hg
  go_enter Try.func179, Try.ntmps179
  have kw := keeps_refl w
  replace kw := Keeps.trans kw (keeps_alloc w (.cells #[.slice A n c] 25))
  have b2 : B1 (w.alloc (.cells #[.slice A n c] 25)) w.heap.size (.slice A n c) := B1.new' (by simp)
  replace b2 := b2.keeps (keeps_alloc (w.alloc (.cells #[.slice A n c] 25)) (.cells #[.slice none 0 0] 25))
  replace kw := Keeps.trans kw (keeps_alloc (w.alloc (.cells #[.slice A n c] 25)) (.cells #[.slice none 0 0] 25))
  have b4 : B1 ((w.alloc (.cells #[.slice A n c] 25)).alloc (.cells #[.slice none 0 0] 25)) (w.heap.size + 1) (.slice none 0 0) := B1.new' (by simp)
  obtain ⟨ca1, fa1⟩ := id b2
  go_wp2_with fail
  clear ca1 fa1
  refine (IsMechanism_any (h.keeps kw)).mono ?_
  rintro e w2 ⟨rfl, k2⟩
  rw [HG.out]
  replace b2 := b2.keeps k2
  replace b4 := b4.keeps k2
  replace kw := Keeps.trans kw k2
  have lt3 := b4.lt
  have sz4 := kw.size
  clear k2
  obtain ⟨ca5, fa5⟩ := id b2
  obtain ⟨ca6, fa6⟩ := id b4
  go_wp2_with fail
  clear ca5 fa5 ca6 fa6
  obtain ⟨ca0, fa0⟩ := id b4
  exact bodyPost_ret (v := .tuple #[.agg #[.slice A n c], .bool true]) (by simp [results, Try.results179, go_sem, ca0]) rfl ⟨rfl, Below.setCell kw (p := ⟨w.heap.size + 1, 0, none⟩) (by show _ ≤ (w.heap.size + 1); omega) _⟩
set_option maxRecDepth 100000 in
set_option maxHeartbeats 800000 in
theorem checked_no {A : Option Addr} {lo hi n c : Nat} {ll : List (List QQ)} {w : World} (h : FRows w lo hi A n ll) (hg : mechB ll = false) :
    Calls Try.prog 179 #[.agg #[.slice A n c], .bool true] w fun e w' => e = .returned (.tuple #[.agg #[.slice none 0 0], .bool false]) ∧ Keeps w w' := by
  have HG := hid hg
  clear hg
  go_enter Try.func179, Try.ntmps179
  have kw := keeps_refl w
  replace kw := Keeps.trans kw (keeps_alloc w (.cells #[.slice A n c] 25))
  have b2 : B1 (w.alloc (.cells #[.slice A n c] 25)) w.heap.size (.slice A n c) := B1.new' (by simp)
  replace b2 := b2.keeps (keeps_alloc (w.alloc (.cells #[.slice A n c] 25)) (.cells #[.slice none 0 0] 25))
  replace kw := Keeps.trans kw (keeps_alloc (w.alloc (.cells #[.slice A n c] 25)) (.cells #[.slice none 0 0] 25))
  have b4 : B1 ((w.alloc (.cells #[.slice A n c] 25)).alloc (.cells #[.slice none 0 0] 25)) (w.heap.size + 1) (.slice none 0 0) := B1.new' (by simp)
  obtain ⟨ca1, fa1⟩ := id b2
  go_wp2_with fail
  clear ca1 fa1
  refine (IsMechanism_any (h.keeps kw)).mono ?_
  rintro e w2 ⟨rfl, k2⟩
  rw [HG.out]
  replace b2 := b2.keeps k2
  replace b4 := b4.keeps k2
  replace kw := Keeps.trans kw k2
  have lt3 := b4.lt
  have sz4 := kw.size
  clear k2
  obtain ⟨ca5, fa5⟩ := id b2
  obtain ⟨ca6, fa6⟩ := id b4
  go_wp2_with fail
  clear ca5 fa5 ca6 fa6
  obtain ⟨ca0, fa0⟩ := id b4
  exact bodyPost_ret (v := .tuple #[.agg #[.slice none 0 0], .bool false]) (by simp [results, Try.results179, go_sem, ca0]) rfl ⟨rfl, Below.setCell kw (p := ⟨w.heap.size + 1, 0, none⟩) (by show _ ≤ (w.heap.size + 1); omega) _⟩
set_option maxRecDepth 100000 in
set_option maxHeartbeats 6400000 in
theorem newMechanism_any {n m : Nat} {K : FuncId} {caps : Array Value} {f : Nat → Nat → Int × Int × Bool} {w : World} (hn : n ≤ 64) (hm : m ≤ 64) (hK : ∀ (args : Array Value) (w : World), (callFunc K args).run Try.prog w = .ok (.enter K args) w)
    (hat : ∀ (i j : Nat) (w' : World), i < n → j < m → Keeps w w' → Calls Try.prog K (#[.int .i64 (i : Int), .int .i64 (j : Int)] ++ caps) w' fun e w'' => e = .returned (.tuple #[.agg #[.int .i64 (f i j).1, .int .i64 (f i j).2.1], .bool (f i j).2.2]) ∧ Keeps w' w'') :
    Calls Try.prog 87 #[.int .i64 (n : Int), .int .i64 (m : Int), .func (.func K) #[] caps] w fun e w' => ∃ A' N C, e = .returned (.tuple #[.agg #[.slice A' N C], .bool (nmQ f n m).2]) ∧ RM w' w.heap.size w'.heap.size A' N (nmQ f n m).1 ∧ Keeps w w' := by
  have HAT := hid hat
  clear hat
  have hmk := make_frows n (by omega)
  have hmk2 := make_fracs m (by omega)
  obtain ⟨ll, HL⟩ : ∃ ll, Hid (tab f n m = ll) := ⟨_, rfl⟩
  have hll : ll.length = n := by rw [← HL.out]; exact tab_len f n m
  have HLL := hid hll
  clear hll
  have HR := hid (show ∀ i, i < n → (ll.getD i []).length = m from fun i hi => by rw [← HL.out]; exact tab_rowlen f hi)
  go_enter Try.func87, Try.ntmps87
  have kw := keeps_refl w
  replace kw := Keeps.trans kw (keeps_alloc w (.cells #[.slice none 0 0] 25))
  have b6 : B1 (w.alloc (.cells #[.slice none 0 0] 25)) w.heap.size (.slice none 0 0) := B1.new' (by simp)
  replace b6 := b6.keeps (keeps_alloc (w.alloc (.cells #[.slice none 0 0] 25)) (.cells (madeCells #[.slice none 0 0] n) 43))
  replace kw := Keeps.trans kw (keeps_alloc (w.alloc (.cells #[.slice none 0 0] 25)) (.cells (madeCells #[.slice none 0 0] n) 43))
  have fl : Filled ((w.alloc (.cells #[.slice none 0 0] 25)).alloc (.cells (madeCells #[.slice none 0 0] n) 43)) (w.heap.size + 1) n ll 0 := by have := Filled.new (w.alloc (.cells #[.slice none 0 0] 25)) n ll; simpa using this
  replace b6 := b6.keeps (keeps_alloc ((w.alloc (.cells #[.slice none 0 0] 25)).alloc (.cells (madeCells #[.slice none 0 0] n) 43)) (.cells #[.slice (some ⟨w.heap.size + 1, 0, none⟩) n n] 25))
  replace fl := fl.keeps (keeps_alloc ((w.alloc (.cells #[.slice none 0 0] 25)).alloc (.cells (madeCells #[.slice none 0 0] n) 43)) (.cells #[.slice (some ⟨w.heap.size + 1, 0, none⟩) n n] 25))
  replace kw := Keeps.trans kw (keeps_alloc ((w.alloc (.cells #[.slice none 0 0] 25)).alloc (.cells (madeCells #[.slice none 0 0] n) 43)) (.cells #[.slice (some ⟨w.heap.size + 1, 0, none⟩) n n] 25))
  have b8 : B1 (((w.alloc (.cells #[.slice none 0 0] 25)).alloc (.cells (madeCells #[.slice none 0 0] n) 43)).alloc (.cells #[.slice (some ⟨w.heap.size + 1, 0, none⟩) n n] 25)) (w.heap.size + 1 + 1) (.slice (some ⟨w.heap.size + 1, 0, none⟩) n n) := B1.new' (by simp)
  obtain ⟨ca1, fa1⟩ := id b8
  go_wp2_with fail
  clear ca1 fa1
  clear hmk
  go_loopw [19] (fun si wr => ∃ k : Nat, k ≤ n ∧ si = .int .i64 k ∧ Hid (OkTo f m k 0) ∧ Filled wr (w.heap.size + 1) n ll k ∧ B1 wr w.heap.size (.slice none 0 0) ∧ B1 wr (w.heap.size + 1 + 1) (.slice (some ⟨w.heap.size + 1, 0, none⟩) n n) ∧ Keeps w wr) (fun si _ => n - (intOf si).toNat)
  case atStart => exact ⟨0, Nat.zero_le _, rfl, okTo_start f m, fl, b6, b8, kw⟩
  clear kw b6 b8 fl
  case round =>
    obtain ⟨k, hk, rfl, HO, fl, b6, b8, kw⟩ := hrel
    obtain ⟨wo, rfl⟩ : ∃ u : World, u = wr := ⟨_, rfl⟩
    have lt8 := b8.lt
    have sz := kw.size
    by_cases hlt : k < n
    · have hi1 : (k : Int) < (n : Int) := by omega
      have hrk := HR.out k hlt
      have f2 := fl.open_ hlt hrk
      have f3 := hid f2
      clear f2
      obtain ⟨⟨v0, d0⟩, e0⟩ := (fl.keeps (keeps_alloc wo (.cells (madeCells #[.int .i64 0, .int .i64 0] (m * 2)) 31))).cell k hlt
      have hgl := fl.lt
      clear fl
      obtain ⟨ca2, fa2⟩ := id b8
      replace b6 := b6.keeps (keeps_alloc wo (.cells (madeCells #[.int .i64 0, .int .i64 0] (m * 2)) 31))
      replace b8 := b8.keeps (keeps_alloc wo (.cells (madeCells #[.int .i64 0, .int .i64 0] (m * 2)) 31))
      replace kw := Keeps.trans kw (keeps_alloc wo (.cells (madeCells #[.int .i64 0, .int .i64 0] (m * 2)) 31))
      obtain ⟨ca3, fa3⟩ := id b8
      have frS : Fr (w.heap.size + 1) (w.heap.size + 1 + 1) (wo.alloc (.cells (madeCells #[.int .i64 0, .int .i64 0] (m * 2)) 31)) ((wo.alloc (.cells (madeCells #[.int .i64 0, .int .i64 0] (m * 2)) 31)).setCell ⟨w.heap.size + 1, k, none⟩ (.slice (some ⟨wo.heap.size, 0, none⟩) m m)) := (Fr.refl _ _ _).setCell (p := ⟨w.heap.size + 1, k, none⟩) (Nat.le_refl _) (Nat.lt_succ_self _) _
      replace b6 := b6.fr frS (by omega)
      replace b8 := b8.fr frS (by omega)
      replace kw := Below.setCell kw (p := ⟨w.heap.size + 1, k, none⟩) (by show _ ≤ w.heap.size + 1; omega) (.slice (some ⟨wo.heap.size, 0, none⟩) m m)
      clear frS
      rw [World.setCell_alloc_past _ _ _ _ (show w.heap.size + 1 < wo.heap.size by omega)] at b6 b8 kw f3
      go_wp2_with fail
      go_region
      replace b6 := b6.keeps (keeps_d0 _)
      replace b8 := b8.keeps (keeps_d0 _)
      replace kw := Keeps.trans kw (keeps_d0 _)
      have f2 := f3.out.keeps (keeps_d0 _)
      clear f3
      clear ca2 fa2 ca3 fa3
      clear d0 e0
      obtain ⟨d1, -, -⟩ := f2.cells hlt
      obtain ⟨ca4, fa4⟩ := id b8
      go_wp2_with fail
      clear ca4 fa4
      clear d1
      go_loopw [34] (fun si wr => ∃ q : Nat, q ≤ m ∧ si = .int .i64 q ∧ Hid (OkTo f m k q) ∧ Fill2 wr (w.heap.size + 1) n m ll k wo.heap.size q ∧ B1 wr w.heap.size (.slice none 0 0) ∧ B1 wr (w.heap.size + 1 + 1) (.slice (some ⟨w.heap.size + 1, 0, none⟩) n n) ∧ Keeps w wr) (fun si _ => m - (intOf si).toNat)
      case atStart => exact ⟨0, Nat.zero_le _, rfl, HO.out, f2, b6, b8, kw⟩
      clear kw b6 b8 f2 HO
      case round =>
        obtain ⟨q, hq, rfl, HO, f2, b6, b8, kw⟩ := hrel
        have lt8' := b8.lt
        have sz' := kw.size
        by_cases hlq : q < m
        · have hi2 : (q : Int) < (m : Int) := by omega
          obtain ⟨x, y, ok, H5⟩ : ∃ x y ok, Hid (f k q = (x, y, ok)) := ⟨_, _, _, rfl⟩
          go_wp2_with fail
          skip
          refine (HAT.out k q _ hlt hlq kw).mono ?_
          rintro e w5 ⟨rfl, k5⟩
          rw [H5.out]
          replace b6 := b6.keeps k5
          replace b8 := b8.keeps k5
          replace f2 := f2.keeps k5
          replace kw := Keeps.trans kw k5
          have lt6 := b8.lt
          have sz7 := kw.size
          clear k5
          cases ok
          · have HF := hid (nmQ_no1 (okAll_no hlt hlq H5.out))
            replace b6 := b6.keeps (keeps_alloc w5 (.cells #[.int .i64 x, .int .i64 y] 31))
            replace b8 := b8.keeps (keeps_alloc w5 (.cells #[.int .i64 x, .int .i64 y] 31))
            replace f2 := f2.keeps (keeps_alloc w5 (.cells #[.int .i64 x, .int .i64 y] 31))
            replace kw := Keeps.trans kw (keeps_alloc w5 (.cells #[.int .i64 x, .int .i64 y] 31))
            have b11 : Bx (w5.alloc (.cells #[.int .i64 x, .int .i64 y] 31)) w5.heap.size x y := Bx.new' (by simp)
            obtain ⟨ca8, fa8⟩ := id b6
            go_wp2_with fail
            clear ca8 fa8
            obtain ⟨ca0, fa0⟩ := id b6
            refine bodyPost_ret (v := .tuple #[.agg #[.slice none 0 0], .bool false]) (by simp [results, Try.results87, go_sem, ca0]) rfl ⟨none, 0, 0, by rw [HF.out], ?_, Below.setCell kw (p := ⟨w.heap.size, 0, none⟩) (Nat.le_refl _) _⟩
            rw [HF.out]
            exact RM.nil_ _ _
          · have HO2 := hid (okTo_next HO.out H5.out)
            have hrk' := HR.out k hlt
            have hxy := tab_at f hlt hlq H5.out
            rw [HL.out] at hxy
            have HXY := hid hxy
            clear hxy
            obtain ⟨p1, -, lq⟩ := f2.cells hlt
            obtain ⟨⟨u1, p4⟩, ⟨u2, p5⟩, p6, p7⟩ := f2.row (q := q) (by omega)
            obtain ⟨ca8, fa8⟩ := id b8
            replace b6 := b6.keeps (keeps_alloc w5 (.cells #[.int .i64 x, .int .i64 y] 31))
            replace b8 := b8.keeps (keeps_alloc w5 (.cells #[.int .i64 x, .int .i64 y] 31))
            replace f2 := f2.keeps (keeps_alloc w5 (.cells #[.int .i64 x, .int .i64 y] 31))
            replace kw := Keeps.trans kw (keeps_alloc w5 (.cells #[.int .i64 x, .int .i64 y] 31))
            have b11 : Bx (w5.alloc (.cells #[.int .i64 x, .int .i64 y] 31)) w5.heap.size x y := Bx.new' (by simp)
            obtain ⟨d1, d2, d3⟩ := f2.cells hlt
            obtain ⟨⟨v1, d4⟩, ⟨v2, d5⟩, d6, d7⟩ := f2.row (q := q) (by omega)
            obtain ⟨ca9, fa9⟩ := id b8
            obtain ⟨ca10, cb10, fa10, fb10⟩ := id b11
            have f3 := hid (f2.step (by omega) HXY.out)
            clear f2
            have frS : Fr (wo.heap.size) (wo.heap.size + 1) (w5.alloc (.cells #[.int .i64 x, .int .i64 y] 31)) (((w5.alloc (.cells #[.int .i64 x, .int .i64 y] 31)).setCell ⟨wo.heap.size, q * 2, none⟩ (.int .i64 x)).setCell ⟨wo.heap.size, q * 2 + 1, none⟩ (.int .i64 y)) := ((Fr.refl _ _ _).setCell (p := ⟨wo.heap.size, q * 2, none⟩) (Nat.le_refl _) (Nat.lt_succ_self _) _).setCell (p := ⟨wo.heap.size, q * 2 + 1, none⟩) (Nat.le_refl _) (Nat.lt_succ_self _) _
            replace b6 := b6.fr frS (by omega)
            replace b8 := b8.fr frS (by omega)
            replace kw := Below.setCell (Below.setCell kw (p := ⟨wo.heap.size, q * 2, none⟩) (by show _ ≤ wo.heap.size; omega) (.int .i64 x)) (p := ⟨wo.heap.size, q * 2 + 1, none⟩) (by show _ ≤ wo.heap.size; omega) (.int .i64 y)
            clear frS
            rw [World.setCell_alloc_past _ _ _ _ lq, World.setCell_alloc_past _ _ _ _ (show wo.heap.size < (w5.setCell ⟨wo.heap.size, q * 2, none⟩ (.int .i64 x)).heap.size by simp [World.setCell]; omega)] at b6 b8 kw f3
            go_wp2_with fail
            go_region
            replace b6 := b6.keeps (keeps_d0 _)
            replace b8 := b8.keeps (keeps_d0 _)
            replace kw := Keeps.trans kw (keeps_d0 _)
            have f2 := f3.out.keeps (keeps_d0 _)
            clear f3 d1 d4 d5 d6 d7 p1 p4 p5 p6 p7
            clear ca8 fa8 ca9 fa9 ca10 cb10 fa10 fb10
            go_wp2_with fail
            go_roundw
            case rel => exact ⟨q + 1, by omega, by go_num, HO2.out, f2, b6, b8, kw⟩
            case measure => simp [intOf]; omega
        · obtain rfl : q = m := by omega
          have fl := f2.close (HR.out k hlt) (by omega)
          have HO2 := hid (okTo_row HO.out)
          clear f2
          go_wp2_with fail
          go_roundw
          case rel => exact ⟨k + 1, by omega, by go_num, HO2.out, fl, b6, b8, kw⟩
          case measure => simp [intOf]; omega
    · obtain rfl : k = n := by omega
      have HA := hid (okAll_yes HO.out)
      have hrm := fl.rm (w0 := w) HLL.out (by omega)
      clear fl
      cases hg : mechB ll with
      | true =>
        have HG := hid hg
        clear hg
        have HF := hid (show nmQ f k m = (ll, true) by rw [← HL.out]; exact nmQ_yes HA.out (by rw [HL.out]; exact HG.out))
        obtain ⟨ca2, fa2⟩ := id b8
        go_wp2_with fail
        clear ca2 fa2
        refine (checked_yes hrm.rows HG.out).mono ?_
        rintro e w3 ⟨rfl, k3⟩
        replace b6 := b6.keeps k3
        replace b8 := b8.keeps k3
        replace hrm := hrm.keeps k3
        replace kw := Keeps.trans kw k3
        have lt4 := b8.lt
        have sz5 := kw.size
        clear k3
        obtain ⟨ca6, fa6⟩ := id b6
        go_wp2_with fail
        clear ca6 fa6
        obtain ⟨ca0, fa0⟩ := id b6
        refine bodyPost_ret (v := .tuple #[.agg #[.slice (some ⟨w.heap.size + 1, 0, none⟩) k k], .bool true]) (by simp [results, Try.results87, go_sem, ca0]) rfl ⟨_, _, _, by rw [HF.out], ?_, Below.setCell kw (p := ⟨w.heap.size, 0, none⟩) (Nat.le_refl _) _⟩
        rw [HF.out]
        have frS : Fr (w.heap.size) (w.heap.size + 1) w3 (w3.setCell ⟨w.heap.size, 0, none⟩ (.slice (some ⟨w.heap.size + 1, 0, none⟩) k k)) := (Fr.refl _ _ _).setCell (p := ⟨w.heap.size, 0, none⟩) (Nat.le_refl _) (Nat.lt_succ_self _) _
        have hs := hrm.1.top
        exact (hrm.fr frS (by omega)).widen (by omega) (by simp [World.setCell]; omega) (Nat.le_refl _)
      | false =>
        have HG := hid hg
        clear hg
        have HF := hid (show nmQ f k m = ([], false) by exact nmQ_no2 (by rw [HL.out]; exact HG.out))
        obtain ⟨ca2, fa2⟩ := id b8
        go_wp2_with fail
        clear ca2 fa2
        refine (checked_no hrm.rows HG.out).mono ?_
        rintro e w3 ⟨rfl, k3⟩
        replace b6 := b6.keeps k3
        replace b8 := b8.keeps k3
        replace hrm := hrm.keeps k3
        replace kw := Keeps.trans kw k3
        have lt4 := b8.lt
        have sz5 := kw.size
        clear k3
        obtain ⟨ca6, fa6⟩ := id b6
        go_wp2_with fail
        clear ca6 fa6
        obtain ⟨ca0, fa0⟩ := id b6
        refine bodyPost_ret (v := .tuple #[.agg #[.slice none 0 0], .bool false]) (by simp [results, Try.results87, go_sem, ca0]) rfl ⟨_, _, _, by rw [HF.out], ?_, Below.setCell kw (p := ⟨w.heap.size, 0, none⟩) (Nat.le_refl _) _⟩
        rw [HF.out]
        exact RM.nil_ _ _
end Go.Proofs.Ytnopedjgagoahaa
