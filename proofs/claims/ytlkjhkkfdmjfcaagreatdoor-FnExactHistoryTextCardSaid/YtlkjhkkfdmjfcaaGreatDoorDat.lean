/- Data of any shape in memory: numbers, strings, slices of rows of those; how arguments are opened as such. No walk. -/
import Derived.Test.YtlkjhkkfdmjfcaaGreatDoorKB
import Derived.Deep.SlicePairs
namespace Go.Proofs.YtlkjhkkfdmjfcaaGreatDoor
open Go.ChangeShapes Go.WideShapes Go.ChangeAt Go.RowKit Go.Deep
set_option linter.unusedVariables false
set_option linter.unusedSimpArgs false

inductive D where
  | i (x : Int)
  | s (b : ByteArray)
  | sl (n : Nat) (ds : List D)
mutual
/-- The value v reads as d, in blocks from lo to hi. -/
def Rd (w : World) (lo hi : Nat) : D → Value → Prop
  | .i x, v => v = .int .i64 x
  | .s b, v => v = .string b
  | .sl n ds, v => ∃ A c, v = .slice A n c ∧ hi ≤ w.heap.size ∧ (0 < n → ∃ b off, A = some ⟨b, off, none⟩ ∧ lo ≤ b ∧ b < hi ∧ RdL w lo hi b off ds)
def RdL (w : World) (lo hi b : Nat) : Nat → List D → Prop
  | _, [] => True
  | off, d :: ds => (∃ u, w.cell? ⟨b, off, none⟩ = some u ∧ Rd w lo hi d u) ∧ RdL w lo hi b (off + 1) ds
end
/-- Values side by side. -/
def RdV (w : World) (lo hi : Nat) : List D → List Value → Prop
  | [], [] => True
  | d :: ds, v :: vs => Rd w lo hi d v ∧ RdV w lo hi ds vs
  | _, _ => False
section
variable {w w' : World} {lo hi l h' : Nat}
mutual
theorem Rd.fr (hf : Fr l h' w w') (ho : h' ≤ lo ∨ hi ≤ l ∨ h' ≤ l) : ∀ (d : D) (v : Value), Rd w lo hi d v → Rd w' lo hi d v
  | .i x, v, h => by unfold Rd at h ⊢; exact h
  | .s b, v, h => by unfold Rd at h ⊢; exact h
  | .sl n ds, v, h => by
    unfold Rd at h ⊢
    obtain ⟨A, c, e, ht, hr⟩ := h
    refine ⟨A, c, e, Nat.le_trans ht hf.size, fun hn => ?_⟩
    obtain ⟨b, off, e2, h1, h2, h3⟩ := hr hn
    exact ⟨b, off, e2, h1, h2, RdL.fr hf ho h1 h2 ht ds off h3⟩
theorem RdL.fr (hf : Fr l h' w w') (ho : h' ≤ lo ∨ hi ≤ l ∨ h' ≤ l) {b : Nat} (h1 : lo ≤ b) (h2 : b < hi) (ht : hi ≤ w.heap.size) : ∀ (ds : List D) (off : Nat), RdL w lo hi b off ds → RdL w' lo hi b off ds
  | [], off, h => by unfold RdL; trivial
  | d :: ds, off, h => by
    unfold RdL at h ⊢
    obtain ⟨⟨u, h3, h4⟩, h5⟩ := h
    exact ⟨⟨u, (hf.cell (p := ⟨b, off, none⟩) (by show b < _; omega) (by show b < _ ∨ _ ≤ b; omega)).trans h3, Rd.fr hf ho d u h4⟩, RdL.fr hf ho h1 h2 ht ds (off + 1) h5⟩
end
mutual
theorem Rd.widen {lo' hi' : Nat} (h1 : lo' ≤ lo) (h2 : hi ≤ hi') (h3 : hi' ≤ w.heap.size) : ∀ (d : D) (v : Value), Rd w lo hi d v → Rd w lo' hi' d v
  | .i x, v, h => by unfold Rd at h ⊢; exact h
  | .s b, v, h => by unfold Rd at h ⊢; exact h
  | .sl n ds, v, h => by
    unfold Rd at h ⊢
    obtain ⟨A, c, e, ht, hr⟩ := h
    refine ⟨A, c, e, h3, fun hn => ?_⟩
    obtain ⟨b, off, e2, g1, g2, g3⟩ := hr hn
    exact ⟨b, off, e2, by omega, by omega, RdL.widen h1 h2 h3 ds off g3⟩
theorem RdL.widen {lo' hi' b : Nat} (h1 : lo' ≤ lo) (h2 : hi ≤ hi') (h3 : hi' ≤ w.heap.size) : ∀ (ds : List D) (off : Nat), RdL w lo hi b off ds → RdL w lo' hi' b off ds
  | [], off, h => by unfold RdL; trivial
  | d :: ds, off, h => by
    unfold RdL at h ⊢
    obtain ⟨⟨u, g3, g4⟩, g5⟩ := h
    exact ⟨⟨u, g3, Rd.widen h1 h2 h3 d u g4⟩, RdL.widen h1 h2 h3 ds (off + 1) g5⟩
end
theorem RdV.fr (hf : Fr l h' w w') (ho : h' ≤ lo ∨ hi ≤ l ∨ h' ≤ l) : ∀ (ds : List D) (vs : List Value), RdV w lo hi ds vs → RdV w' lo hi ds vs
  | [], [], h => h
  | d :: ds, v :: vs, h => ⟨Rd.fr hf ho d v h.1, RdV.fr hf ho ds vs h.2⟩
  | [], _ :: _, h => h
  | _ :: _, [], h => h
theorem RdV.widen {lo' hi' : Nat} (h1 : lo' ≤ lo) (h2 : hi ≤ hi') (h3 : hi' ≤ w.heap.size) : ∀ (ds : List D) (vs : List Value), RdV w lo hi ds vs → RdV w lo' hi' ds vs
  | [], [], h => h
  | d :: ds, v :: vs, h => ⟨Rd.widen h1 h2 h3 d v h.1, RdV.widen h1 h2 h3 ds vs h.2⟩
  | [], _ :: _, h => h
  | _ :: _, [], h => h
theorem Rd.keeps {d : D} {v : Value} (h : Rd w lo hi d v) (k : Keeps w w') : Rd w' lo hi d v := Rd.fr (Fr.of_keeps k 0 0) (by omega) d v h
theorem RdV.keeps {ds : List D} {vs : List Value} (h : RdV w lo hi ds vs) (k : Keeps w w') : RdV w' lo hi ds vs := RdV.fr (Fr.of_keeps k 0 0) (by omega) ds vs h
theorem RdL.at_ {b : Nat} : ∀ (ds : List D) (off j : Nat), RdL w lo hi b off ds → j < ds.length → ∃ u, w.cell? ⟨b, off + j, none⟩ = some u ∧ Rd w lo hi (ds.getD j (.i 0)) u
  | [], off, j, h, hj => absurd hj (by simp)
  | d :: ds, off, 0, h, hj => by
    unfold RdL at h
    obtain ⟨⟨u, h1, h2⟩, _⟩ := h
    exact ⟨u, h1, h2⟩
  | d :: ds, off, j + 1, h, hj => by
    unfold RdL at h
    obtain ⟨u, h1, h2⟩ := RdL.at_ ds (off + 1) j h.2 (by simpa using hj)
    exact ⟨u, by rw [← h1]; congr 2; omega, by simpa using h2⟩
theorem RdL.of_at {b : Nat} : ∀ (ds : List D) (off : Nat), (∀ j, j < ds.length → ∃ u, w.cell? ⟨b, off + j, none⟩ = some u ∧ Rd w lo hi (ds.getD j (.i 0)) u) → RdL w lo hi b off ds
  | [], off, h => by unfold RdL; trivial
  | d :: ds, off, h => by
    unfold RdL
    refine ⟨by have := h 0 (by simp); simpa using this, RdL.of_at ds (off + 1) fun j hj => ?_⟩
    obtain ⟨u, h1, h2⟩ := h (j + 1) (by simpa using hj)
    exact ⟨u, by rw [← h1]; congr 2; omega, by simpa using h2⟩
theorem RdV.len : ∀ (ds : List D) (vs : List Value), RdV w lo hi ds vs → ds.length = vs.length
  | [], [], _ => rfl
  | d :: ds, v :: vs, h => by simp [RdV.len ds vs h.2]
  | [], _ :: _, h => by cases h
  | _ :: _, [], h => by cases h
theorem RdV.at_ : ∀ (ds : List D) (vs : List Value) (j : Nat), RdV w lo hi ds vs → j < ds.length → Rd w lo hi (ds.getD j (.i 0)) (vs.getD j undef)
  | [], [], j, _, hj => absurd hj (by simp)
  | d :: ds, v :: vs, 0, h, _ => h.1
  | d :: ds, v :: vs, j + 1, h, hj => by simpa using RdV.at_ ds vs j h.2 (by simpa using hj)
  | [], _ :: _, j, h, _ => by cases h
  | _ :: _, [], j, h, _ => by cases h
theorem RdV.of_at : ∀ (ds : List D) (vs : List Value), ds.length = vs.length → (∀ j, j < ds.length → Rd w lo hi (ds.getD j (.i 0)) (vs.getD j undef)) → RdV w lo hi ds vs
  | [], [], _, _ => trivial
  | d :: ds, v :: vs, hl, h => ⟨by have := h 0 (by simp); simpa using this, RdV.of_at ds vs (by simpa using hl) fun j hj => by have := h (j + 1) (by simpa using hj); simpa using this⟩
  | [], _ :: _, hl, _ => by simp at hl
  | _ :: _, [], hl, _ => by simp at hl
end
theorem flat_len {α β : Type} {f : α → List β} {sz : Nat} (hf : ∀ a, (f a).length = sz) : ∀ (l : List α), (l.flatMap f).length = l.length * sz
  | [] => by simp
  | a :: l => by rw [List.flatMap_cons, List.length_append, hf, flat_len hf l, List.length_cons, Nat.succ_mul]; omega
theorem flat_at {α β : Type} {f : α → List β} {sz : Nat} (hf : ∀ a, (f a).length = sz) (d : β) (z : α) : ∀ (l : List α) (k j : Nat), k < l.length → j < sz → (l.flatMap f).getD (k * sz + j) d = (f (l.getD k z)).getD j d
  | [], k, j, hk, _ => absurd hk (by simp)
  | a :: l, 0, j, _, hj => by
    rw [List.flatMap_cons]
    simp only [List.getD, Nat.zero_mul, Nat.zero_add, List.getElem?_cons_zero, Option.getD_some]
    rw [List.getElem?_append_left (by rw [hf]; exact hj)]
  | a :: l, k + 1, j, hk, hj => by
    have := flat_at hf d z l k j (by simpa using hk) hj
    rw [List.flatMap_cons]
    simp only [List.getD] at this ⊢
    rw [List.getElem?_append_right (by rw [hf, Nat.succ_mul]; omega), hf, show (k + 1) * sz + j - sz = k * sz + j by rw [Nat.succ_mul]; omega]
    simpa using this
/-- A slice of rows: the cells of row k. -/
theorem Rd.row {α : Type} {f : α → List D} {sz : Nat} (hf : ∀ a, (f a).length = sz) (z : α) {w : World} {lo hi n k : Nat} {ts : List α} {v : Value} (h : Rd w lo hi (.sl n (ts.flatMap f)) v) (hl : ts.length = n) (hk : k < n) :
    ∃ b off c, v = .slice (some ⟨b, off, none⟩) n c ∧ lo ≤ b ∧ b < hi ∧ hi ≤ w.heap.size ∧ ∀ j, j < sz → ∃ u, w.cell? ⟨b, off + (k * sz + j), none⟩ = some u ∧ Rd w lo hi ((f (ts.getD k z)).getD j (.i 0)) u := by
  unfold Rd at h
  obtain ⟨A, c, rfl, ht, hr⟩ := h
  obtain ⟨b, off, rfl, h1, h2, h3⟩ := hr (by omega)
  refine ⟨b, off, c, rfl, h1, h2, ht, fun j hj => ?_⟩
  have hlt : k * sz + j < (ts.flatMap f).length := by
    rw [flat_len hf, hl]
    have : (k + 1) * sz ≤ n * sz := Nat.mul_le_mul_right _ hk
    rw [Nat.succ_mul] at this
    omega
  have := RdL.at_ _ off (k * sz + j) h3 hlt
  rwa [flat_at hf _ z ts k j (by omega) hj] at this
/-- Lists of numbers. -/
theorem Rd.ints {w : World} {lo hi n : Nat} {xs : List Int} {v : Value} (h : Rd w lo hi (.sl n (xs.map D.i)) v) (hl : xs.length = n) (hn : n ≤ 67108864) : ∃ A c, v = .slice A n c ∧ Ints w lo hi A n xs := by
  unfold Rd at h
  obtain ⟨A, c, rfl, ht, hr⟩ := h
  refine ⟨A, c, rfl, hl, hn, ht, fun h0 => ?_⟩
  obtain ⟨b, off, rfl, h1, h2, h3⟩ := hr h0
  refine ⟨b, off, rfl, h1, h2, fun j hj => ?_⟩
  obtain ⟨u, h4, h5⟩ := RdL.at_ _ off j h3 (by simpa [hl] using hj)
  have e : (xs.map D.i).getD j (.i 0) = .i (xs.getD j 0) := by simp [List.getD, hl, hj]
  rw [e] at h5
  unfold Rd at h5
  rw [h4, h5]
theorem Ints.rd {w : World} {lo hi n c : Nat} {A : Option Addr} {xs : List Int} (h : Ints w lo hi A n xs) : Rd w lo hi (.sl n (xs.map D.i)) (.slice A n c) := by
  unfold Rd
  refine ⟨A, c, rfl, h.top, fun h0 => ?_⟩
  obtain ⟨b, off, e, h1, h2, h3⟩ := h.2.2.2 h0
  refine ⟨b, off, e, h1, h2, RdL.of_at _ off fun j hj => ?_⟩
  have hl := h.1
  have hj' : j < n := by simpa [hl] using hj
  have e : (xs.map D.i).getD j (.i 0) = .i (xs.getD j 0) := by simp [List.getD, hl, hj']
  exact ⟨_, h3 j hj', by rw [e]; unfold Rd; rfl⟩
mutual
/-- What the laws count as the size of an argument. -/
def szD : D → Nat
  | .i _ => 0
  | .s b => b.size
  | .sl n ds => n + szL ds
def szL : List D → Nat
  | [] => 0
  | d :: ds => szD d + szL ds
end
theorem szL_append : ∀ (a b : List D), szL (a ++ b) = szL a + szL b
  | [], b => by simp [szL]
  | d :: a, b => by simp only [List.cons_append, szL]; rw [szL_append a b]; omega
theorem szL_ints (xs : List Int) : szL (xs.map D.i) = 0 := by
  induction xs with
  | nil => simp [szL]
  | cons x xs ih => simp [szL, szD, ih]
theorem szD_ints (n : Nat) (xs : List Int) : szD (.sl n (xs.map D.i)) = n := by simp [szD, szL_ints]
/-- The size of the first k rows. -/
def szR {α : Type} (f : α → List D) (ts : List α) (k : Nat) : Nat := szL ((ts.take k).flatMap f)
theorem szR_zero {α : Type} (f : α → List D) (ts : List α) : szR f ts 0 = 0 := by simp [szR, szL]
theorem szR_succ {α : Type} (f : α → List D) (z : α) (ts : List α) (k : Nat) (h : k < ts.length) : szR f ts (k + 1) = szR f ts k + szL (f (ts.getD k z)) := by
  unfold szR
  rw [List.take_succ_eq_append_getElem h, List.flatMap_append, szL_append]
  simp [List.getD, h]
theorem szR_all {α : Type} (f : α → List D) (ts : List α) : szR f ts ts.length = szL (ts.flatMap f) := by simp [szR]
theorem szR_mono {α : Type} (f : α → List D) (z : α) (ts : List α) {i j : Nat} (h : i ≤ j) (hj : j ≤ ts.length) : szR f ts i ≤ szR f ts j := by
  induction j with
  | zero => obtain rfl : i = 0 := by omega
            exact Nat.le_refl _
  | succ j ih =>
    rw [szR_succ f z ts j (by omega)]
    by_cases e : i = j + 1
    · subst e; rw [szR_succ f z ts j (by omega)]; exact Nat.le_refl _
    · have := ih (by omega) (by omega); omega

/-- The kinds of cells. -/
inductive K where
  | i | s
  | sl (ks : List K)
mutual
inductive Hk : K → D → Prop
  | i (x : Int) (h : -9223372036854775808 ≤ x ∧ x ≤ 9223372036854775807) : Hk .i (.i x)
  | s (b : ByteArray) (h : b.size ≤ maxLen) : Hk .s (.s b)
  | sl (ks : List K) (n : Nat) (rows : List (List D)) (h : n ≤ maxLen) (hl : rows.length = n) (hr : ∀ r, r ∈ rows → HkL ks r) : Hk (.sl ks) (.sl n rows.flatten)
inductive HkL : List K → List D → Prop
  | nil : HkL [] []
  | cons (k : K) (d : D) (ks : List K) (ds : List D) (h : Hk k d) (hs : HkL ks ds) : HkL (k :: ks) (d :: ds)
end
theorem HkL.len : ∀ {ks : List K} {ds : List D}, HkL ks ds → ds.length = ks.length
  | _, _, .nil => rfl
  | _, _, .cons k d ks ds h hs => by simp [HkL.len hs]
theorem HkL.app : ∀ {ks ks' : List K} {ds ds' : List D}, HkL ks ds → HkL ks' ds' → HkL (ks ++ ks') (ds ++ ds')
  | _, _, _, _, .nil, h' => h'
  | _, _, _, _, .cons k d ks ds h hs, h' => .cons k d _ _ h (hs.app h')
theorem RdV.app {w : World} {lo hi : Nat} : ∀ {ds : List D} {vs : List Value} {ds' : List D} {vs' : List Value}, RdV w lo hi ds vs → RdV w lo hi ds' vs' → RdV w lo hi (ds ++ ds') (vs ++ vs')
  | [], [], _, _, _, h' => h'
  | d :: ds, v :: vs, _, _, h, h' => ⟨h.1, RdV.app h.2 h'⟩
  | [], _ :: _, _, _, h, _ => by cases h
  | _ :: _, [], _, _, h, _ => by cases h
def offsOk (P : Program) : List Field → List (List K) → Nat → Bool
  | [], [], _ => true
  | f :: fs, ks :: kss, o => f.offset == o && (P.cellsOf f.type == ks.length && offsOk P fs kss (o + ks.length))
  | _, _, _ => false
/-- The kinds of the cells of a type. -/
def kinds (P : Program) : Nat → TypeId → Option (List K)
  | 0, _ => none
  | n + 1, t => match P.underlying t with
    | some (.int .i64) => some [.i]
    | some .string => some [.s]
    | some (.slice e) => (kinds P n e).bind fun ks => if P.cellsOf e = ks.length ∧ 0 < ks.length then some [.sl ks] else none
    | some (.struct fs) => (fs.toList.mapM fun f => kinds P n f.type).bind fun kss => if offsOk P fs.toList kss 0 = true ∧ P.cellsOf t = kss.flatten.length then some kss.flatten else none
    | _ => none
section
variable {H : Type} {enc : TypeId × Value → H} {P : Program} {w : World} {spare : Nat → Bool} {held : Bool}
/-- Fields one behind another. -/
theorem open_fields {kn fuel : Nat} {cs : List Value} (ih : ∀ t ks cs x, kinds P kn t = some ks → DataW.trod enc P w 0 spare held fuel t cs = some x → ∃ ds, HkL ks ds ∧ RdV w 0 w.heap.size ds cs) :
    ∀ (fs : List Field) (kss : List (List K)) (o : Nat) (xs : List (DataW H × List MemPlace)), (fs.mapM fun f => kinds P kn f.type) = some kss → offsOk P fs kss o = true → xs.length = fs.length →
      (∀ (i : Nat) (f : Field), fs[i]? = some f → DataW.trod enc P w 0 spare held fuel f.type ((cs.drop f.offset).take (P.cellsOf f.type)) = xs[i]?) → ∃ ds, HkL kss.flatten ds ∧ RdV w 0 w.heap.size ds ((cs.drop o).take kss.flatten.length)
  | [], kss, o, xs, hm, ho, hl, hx => by
    simp at hm; subst hm
    exact ⟨[], .nil, by simp [RdV]⟩
  | f :: fs, kss, o, xs, hm, ho, hl, hx => by
    simp only [List.mapM_cons] at hm
    obtain ⟨ks, hk, hm⟩ := Option.bind_eq_some_iff.1 hm
    obtain ⟨kss', hk', hm⟩ := Option.bind_eq_some_iff.1 hm
    simp at hm; subst hm
    simp only [offsOk, Bool.and_eq_true, beq_iff_eq] at ho
    obtain ⟨ho1, ho2, ho3⟩ := ho
    match xs, hl with
    | x :: xs, hl =>
      have h0 := hx 0 f rfl
      simp only [List.getElem?_cons_zero] at h0
      obtain ⟨ds, g1, g2⟩ := ih _ _ _ _ hk h0
      obtain ⟨ds', g3, g4⟩ := open_fields ih fs kss' (o + ks.length) xs hk' ho3 (by simpa using hl) (fun i f' hf => by have := hx (i + 1) f' (by simpa using hf); simpa using this)
      refine ⟨ds ++ ds', by simpa using g1.app g3, ?_⟩
      have := RdV.app g2 g4
      rw [ho1, ho2] at this
      have e : (cs.drop o).take ((ks :: kss').flatten.length) = (cs.drop o).take ks.length ++ (cs.drop (o + ks.length)).take kss'.flatten.length := by
        rw [List.flatten_cons, List.length_append, List.take_add, List.drop_drop]
      rw [e]; exact this
theorem flatten_len {α : Type} {sz : Nat} : ∀ (rows : List (List α)), (∀ r, r ∈ rows → r.length = sz) → rows.flatten.length = rows.length * sz
  | [], _ => by simp
  | r :: rows, h => by rw [List.flatten_cons, List.length_append, h r (by simp), flatten_len rows (fun r hr => h r (by simp [hr])), List.length_cons, Nat.succ_mul]; omega
theorem flatten_at {α : Type} (d : α) {sz : Nat} : ∀ (rows : List (List α)) (k j : Nat), (∀ r, r ∈ rows → r.length = sz) → k < rows.length → j < sz → rows.flatten.getD (k * sz + j) d = (rows.getD k []).getD j d
  | [], k, j, _, hk, _ => absurd hk (by simp)
  | r :: rows, 0, j, h, _, hj => by
    rw [List.flatten_cons]
    simp only [List.getD, Nat.zero_mul, Nat.zero_add, List.getElem?_cons_zero, Option.getD_some]
    rw [List.getElem?_append_left (by rw [h r (by simp)]; exact hj)]
  | r :: rows, k + 1, j, h, hk, hj => by
    have := flatten_at d rows k j (fun r hr => h r (by simp [hr])) (by simpa using hk) hj
    have hr := h r (by simp)
    rw [List.flatten_cons]
    simp only [List.getD] at this ⊢
    rw [List.getElem?_append_right (by rw [hr, Nat.succ_mul]; omega), hr, show (k + 1) * sz + j - sz = k * sz + j by rw [Nat.succ_mul]; omega]
    simpa using this
theorem open_data : ∀ (kn fuel : Nat) (t : TypeId) (ks : List K) (cs : List Value) (x : DataW H × List MemPlace), kinds P kn t = some ks → DataW.trod enc P w 0 spare held fuel t cs = some x → ∃ ds, HkL ks ds ∧ RdV w 0 w.heap.size ds cs
  | 0, fuel, t, ks, cs, x, hk, h => by simp [kinds] at hk
  | kn + 1, fuel, t, ks, cs, x, hk, h => by
    simp only [kinds] at hk
    split at hk
    · rename_i hu
      injection hk with hk; subst hk
      obtain ⟨z, rfl, _, hw⟩ := DataW.trod_int hu h
      exact ⟨[.i z], .cons _ _ _ _ (.i z (bounds_i64 hw)) .nil, by unfold Rd; rfl, trivial⟩
    · rename_i hu
      injection hk with hk; subst hk
      obtain ⟨b, rfl, _, hb⟩ := DataW.trod_string hu h
      exact ⟨[.s b], .cons _ _ _ _ (.s b hb) .nil, by unfold Rd; rfl, trivial⟩
    · rename_i e hu
      obtain ⟨ke, hke, hk⟩ := Option.bind_eq_some_iff.1 hk
      split at hk
      · rename_i hce
        injection hk with hk; subst hk
        rcases DataW.trod_slice hu h with ⟨rfl, _⟩ | ⟨a, len, cap, elems, rest, n, rfl, rfl, _, _, hlc, hcm, hel, hat, _⟩
        · refine ⟨[.sl 0 [].flatten], .cons _ _ _ _ (.sl ke 0 [] (by simp) rfl (by simp)) .nil, ?_, trivial⟩
          unfold Rd
          exact ⟨none, 0, rfl, Nat.le_refl _, fun h => absurd h (by omega)⟩
        · have each : ∀ i, ∃ r : List D × List Value, i < len → HkL ke r.1 ∧ RdV w 0 w.heap.size r.1 r.2 ∧ w.cells? 0 (a.add (i * P.cellsOf e)) (P.cellsOf e) = some r.2 := fun i => by
            by_cases hi : i < len
            · have h1 := hat i hi
              rw [List.getElem?_eq_getElem (by omega)] at h1
              obtain ⟨cs', h2, h3⟩ := Option.bind_eq_some_iff.1 h1
              obtain ⟨ds, h4, h5⟩ := open_data kn n e ke cs' _ hke h3
              exact ⟨(ds, cs'), fun _ => ⟨h4, h5, h2⟩⟩
            · exact ⟨([], []), fun h => absurd h hi⟩
          obtain ⟨f, hf⟩ := Classical.axiomOfChoice each
          let rows : List (List D) := (List.range len).map fun i => (f i).1
          have hrl : rows.length = len := by simp [rows]
          have hrg : ∀ i, i < len → rows.getD i [] = (f i).1 := fun i hi => by simp [rows, List.getD, hi]
          have hrk : ∀ r, r ∈ rows → HkL ke r := fun r hr => by
            obtain ⟨i, hi, rfl⟩ := List.mem_map.1 hr
            exact (hf i (by simpa using hi)).1
          have hrz : ∀ r, r ∈ rows → r.length = ke.length := fun r hr => (hrk r hr).len
          refine ⟨[.sl len rows.flatten], .cons _ _ _ _ (.sl ke len rows (Nat.le_trans hlc hcm) hrl hrk) .nil, ?_, trivial⟩
          unfold Rd
          refine ⟨some a, cap, rfl, Nat.le_refl _, fun h0 => ?_⟩
          obtain ⟨hce, hke0⟩ := hce
          have hc0 := World.cells?_some (hf 0 h0).2.2
          have hc00 := hc0.2.2 0 (by omega)
          rw [List.getElem?_eq_getElem (by omega)] at hc00
          obtain ⟨b, off, spot⟩ := a
          have hsp : spot = none := by simpa [Addr.add] using World.cell?_spot hc00
          subst hsp
          refine ⟨b, off, rfl, Nat.zero_le _, World.block_lt_of_cell? w _ (by simpa [Addr.add] using hc00), RdL.of_at _ off fun j hj => ?_⟩
          rw [flatten_len rows hrz, hrl] at hj
          have hq : j / ke.length < len := Nat.div_lt_of_lt_mul (by rw [Nat.mul_comm]; exact hj)
          have hm : j % ke.length < ke.length := Nat.mod_lt _ (by omega)
          have ej : j = j / ke.length * ke.length + j % ke.length := by rw [Nat.mul_comm]; exact (Nat.div_add_mod j _).symm
          have hat2 := flatten_at (.i 0) rows (j / ke.length) (j % ke.length) hrz (by omega) hm
          rw [← ej, hrg _ hq] at hat2
          obtain ⟨g1, g2, g3⟩ := hf _ hq
          have hcc := World.cells?_some g3
          have hvl := RdV.len _ _ g2
          have hdl := g1.len
          have hcell := hcc.2.2 (j % ke.length) (by rw [hce]; exact hm)
          rw [List.getElem?_eq_getElem (by omega)] at hcell
          refine ⟨_, ?_, by rw [hat2]; exact RdV.at_ _ _ _ g2 (by omega)⟩
          have : (f (j / ke.length)).2.getD (j % ke.length) undef = (f (j / ke.length)).2[j % ke.length]'(by omega) := by simp [List.getD, show j % ke.length < (f (j / ke.length)).2.length by omega]
          rw [this, ← hcell]
          rw [Addr.add_lit, Addr.add_lit, hce, Nat.add_assoc, ← ej]
      · cases hk
    · rename_i fs hu
      obtain ⟨kss, hm, hk⟩ := Option.bind_eq_some_iff.1 hk
      split at hk
      · rename_i ho
        injection hk with hk; subst hk
        obtain ⟨xs, n, rfl, _, hcl, hxl, hx⟩ := DataW.trod_struct hu h
        obtain ⟨ds, g1, g2⟩ := open_fields (cs := cs) (fun t ks cs x => open_data kn n t ks cs x) fs.toList kss 0 xs hm ho.1 (by simpa using hxl) (fun i f hf => hx i f (by simpa using hf))
        refine ⟨ds, g1, ?_⟩
        rwa [List.drop_zero, ← ho.2, ← hcl, List.take_length] at g2
      · cases hk
    · cases hk
end
theorem HkL.inv {k : K} {ks : List K} {ds : List D} (h : HkL (k :: ks) ds) : ∃ d ds', ds = d :: ds' ∧ Hk k d ∧ HkL ks ds' := by
  cases h with
  | cons _ d _ ds h hs => exact ⟨d, ds, rfl, h, hs⟩
theorem HkL.inv0 {ds : List D} (h : HkL [] ds) : ds = [] := by cases h; rfl
theorem Hk.inv_i {d : D} (h : Hk .i d) : ∃ x, d = .i x ∧ (-9223372036854775808 ≤ x ∧ x ≤ 9223372036854775807) := by
  cases h with
  | i x h => exact ⟨x, rfl, h⟩
theorem Hk.inv_s {d : D} (h : Hk .s d) : ∃ b, d = .s b ∧ b.size ≤ maxLen := by
  cases h with
  | s b h => exact ⟨b, rfl, h⟩
theorem Hk.inv_sl {ks : List K} {d : D} (h : Hk (.sl ks) d) : ∃ (n : Nat) (rows : List (List D)), d = .sl n rows.flatten ∧ n ≤ maxLen ∧ rows.length = n ∧ ∀ r, r ∈ rows → HkL ks r := by
  cases h with
  | sl _ n rows h hl hr => exact ⟨n, rows, rfl, h, hl, hr⟩
theorem rows_ints : ∀ (rows : List (List D)), (∀ r, r ∈ rows → HkL [.i] r) → ∃ xs : List Int, rows.flatten = xs.map D.i ∧ xs.length = rows.length ∧ ∀ j, -9223372036854775808 ≤ xs.getD j 0 ∧ xs.getD j 0 ≤ 9223372036854775807
  | [], _ => ⟨[], rfl, rfl, fun j => by simp⟩
  | r :: rows, h => by
    obtain ⟨xs, h1, h2, h3⟩ := rows_ints rows (fun r hr => h r (by simp [hr]))
    obtain ⟨d, ds, rfl, g1, g2⟩ := (h r (by simp)).inv
    obtain rfl := g2.inv0
    obtain ⟨x, rfl, hx⟩ := g1.inv_i
    refine ⟨x :: xs, by simp [h1], by simp [h2], fun j => ?_⟩
    cases j with
    | zero => simpa using hx
    | succ j => simpa using h3 j
/-- A slice of ints that came in. -/
theorem Hk.ints {d : D} {w : World} {v : Value} (h : Hk (.sl [.i]) d) (hr : Rd w 0 w.heap.size d v) : ∃ A n c xs, v = .slice A n c ∧ IntsArg w A n xs := by
  obtain ⟨n, rows, rfl, h1, h2, h3⟩ := h.inv_sl
  obtain ⟨xs, e1, e2, e3⟩ := rows_ints rows h3
  rw [e1] at hr
  have hr0 := hr
  unfold Rd at hr0
  obtain ⟨A, c, rfl, _, _⟩ := hr0
  refine ⟨A, n, c, xs, rfl, h1, fun hn => ?_, e3⟩
  obtain ⟨A', c', e, hi⟩ := Rd.ints hr (by omega) hn
  injection e with e5 e6 e7
  subst e5; exact hi
end Go.Proofs.YtlkjhkkfdmjfcaaGreatDoor
