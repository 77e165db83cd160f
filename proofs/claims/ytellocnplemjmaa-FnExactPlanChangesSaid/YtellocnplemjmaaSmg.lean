/- Tables of the same meaning: of the reference. -/
import Derived.Test.YtellocnplemjmaaSmf
namespace Go.Proofs.Ytellocnplemjmaa
open Go.RowKit Go.Sort
set_option linter.unusedVariables false
set_option linter.unusedSimpArgs false
section
variable {W X : World}
theorem calls_at {P : Program} {f : FuncId} {args : Array Value} {R : Ending → World → Prop} (h : ∀ X, X = W → Calls P f args X R) : Calls P f args W R := h W rfl
theorem keeps_al {O : Obj} (k : Keeps W X) : Keeps W (X.alloc O) := k.trans (keeps_alloc _ _)
theorem keeps_dr (k : Keeps W X) : Keeps W X.drew := k.trans (keeps_d0 _)
theorem keeps_s1 {g i : Nat} {v : Value} (k : Keeps W X) (h : W.heap.size ≤ g) : Keeps W (X.setCell ⟨g, i, none⟩ v) := Below.setCell k (p := ⟨g, i, none⟩) h v
theorem bl_dr {g : Nat} {vs : List Value} (h : Bl X g vs) : Bl X.drew g vs := h
theorem bl_al {g : Nat} {vs : List Value} {O : Obj} (h : Bl X g vs) : Bl (X.alloc O) g vs := h.keeps (keeps_alloc _ _)
theorem bl_s1 {g p i : Nat} {v : Value} {vs : List Value} (h : Bl X g vs) (e : g ≠ p) : Bl (X.setCell ⟨p, i, none⟩ v) g vs := h.far (p := ⟨p, i, none⟩) e v
theorem bl_p4 {g : Nat} {z0 z1 z2 z3 a b c d : Value} (h : Bl X g [z0, z1, z2, z3]) : Bl ((((X.setCell ⟨g, 0, none⟩ a).setCell ⟨g, 1, none⟩ b).setCell ⟨g, 2, none⟩ c).setCell ⟨g, 3, none⟩ d) g [a, b, c, d] := (((h.set 0 a).set 1 b).set 2 c).set 3 d
theorem bl_p4z {g : Nat} {a b c d : Value} (h : Bl X g [.int .i64 0, .slice none 0 0, .slice none 0 0, .int .i64 0]) : Bl ((((X.setCell ⟨g, 0, none⟩ a).setCell ⟨g, 1, none⟩ b).setCell ⟨g, 2, none⟩ c).setCell ⟨g, 3, none⟩ d) g [a, b, c, d] := bl_p4 h
theorem bl_nw {g : Nat} {a b c d : Value} {ty : TypeId} (e : X.heap.size = g) : Bl (X.alloc (.cells #[a, b, c, d] ty)) g [a, b, c, d] := Bl.new' e (by simp)
theorem nsz0 (h : X = W) : X.heap.size = W.heap.size + 0 := by subst h; rfl
theorem kx0 (h : X = W) : Keeps W X := by subst h; exact keeps_refl _
theorem ob0 {g : Nat} {vs : List Value} (h : X = W) (b : Bl W g vs) : Bl X g vs := by subst h; exact b
theorem nsz0d (h : X = W.drew) : X.heap.size = W.heap.size + 0 := by subst h; rfl
theorem kx0d (h : X = W.drew) : Keeps W X := by subst h; exact keeps_dr (keeps_refl _)
theorem nsz1 {O : Obj} (h : X = W.alloc O) : X.heap.size = W.heap.size + 1 := by subst h; simp
theorem kx1 {O : Obj} (h : X = W.alloc O) : Keeps W X := by subst h; exact keeps_alloc _ _
theorem ob1 {O : Obj} {g : Nat} {vs : List Value} (h : X = W.alloc O) (b : Bl W g vs) : Bl X g vs := by subst h; exact b.keeps (keeps_alloc _ _)
theorem nsz1d {O : Obj} (h : X = (W.alloc O).drew) : X.heap.size = W.heap.size + 1 := by subst h; simp
theorem kx1d {O : Obj} (h : X = (W.alloc O).drew) : Keeps W X := by subst h; exact keeps_dr (keeps_alloc _ _)
theorem nsz2 {O O' : Obj} (h : X = (W.alloc O).alloc O') : X.heap.size = W.heap.size + 2 := by subst h; simp
theorem kx2 {O O' : Obj} (h : X = (W.alloc O).alloc O') : Keeps W X := by subst h; exact (keeps_alloc _ _).trans (keeps_alloc _ _)
theorem ob2 {O O' : Obj} {g : Nat} {vs : List Value} (h : X = (W.alloc O).alloc O') (b : Bl W g vs) : Bl X g vs := by subst h; exact (b.keeps (keeps_alloc _ _)).keeps (keeps_alloc _ _)
theorem nsz2d {O O' : Obj} (h : X = ((W.alloc O).alloc O').drew) : X.heap.size = W.heap.size + 2 := by subst h; simp
theorem kx2d {O O' : Obj} (h : X = ((W.alloc O).alloc O').drew) : Keeps W X := by subst h; exact keeps_dr ((keeps_alloc _ _).trans (keeps_alloc _ _))
theorem nb1 {a b c d : Value} {ty : TypeId} (h : X = W.alloc (.cells #[a, b, c, d] ty)) : Bl X W.heap.size [a, b, c, d] := by subst h; exact bl_nw rfl
theorem nb2a {O : Obj} {a b c d : Value} {ty : TypeId} (h : X = (W.alloc (.cells #[a, b, c, d] ty)).alloc O) : Bl X W.heap.size [a, b, c, d] := by subst h; exact bl_al (bl_nw rfl)
theorem nb2b {O : Obj} {a b c d : Value} {ty : TypeId} (h : X = (W.alloc O).alloc (.cells #[a, b, c, d] ty)) : Bl X (W.heap.size + 1) [a, b, c, d] := by subst h; exact bl_nw (by simp)
theorem nb1d {a b c d : Value} {ty : TypeId} (h : X = (W.alloc (.cells #[a, b, c, d] ty)).drew) : Bl X W.heap.size [a, b, c, d] := by subst h; exact bl_dr (bl_nw rfl)
theorem nb2ad {O : Obj} {a b c d : Value} {ty : TypeId} (h : X = ((W.alloc (.cells #[a, b, c, d] ty)).alloc O).drew) : Bl X W.heap.size [a, b, c, d] := by subst h; exact bl_dr (bl_al (bl_nw rfl))
theorem nb2bd {O : Obj} {a b c d : Value} {ty : TypeId} (h : X = ((W.alloc O).alloc (.cells #[a, b, c, d] ty)).drew) : Bl X (W.heap.size + 1) [a, b, c, d] := by subst h; exact bl_dr (bl_nw (by simp))
theorem fr_s4 {p : Nat} {a b c d : Value} : Fr p (p + 1) X ((((X.setCell ⟨p, 0, none⟩ a).setCell ⟨p, 1, none⟩ b).setCell ⟨p, 2, none⟩ c).setCell ⟨p, 3, none⟩ d) := (((fr_one a).trans (fr_one b)).trans (fr_one c)).trans (fr_one d)
theorem keeps_s4 {p : Nat} {a b c d : Value} (k : Keeps W X) (h : W.heap.size ≤ p) : Keeps W ((((X.setCell ⟨p, 0, none⟩ a).setCell ⟨p, 1, none⟩ b).setCell ⟨p, 2, none⟩ c).setCell ⟨p, 3, none⟩ d) := keeps_s1 (keeps_s1 (keeps_s1 (keeps_s1 k h) h) h) h
theorem bl_s4 {g p : Nat} {a b c d : Value} {vs : List Value} (h : Bl X g vs) (e : g ≠ p) : Bl ((((X.setCell ⟨p, 0, none⟩ a).setCell ⟨p, 1, none⟩ b).setCell ⟨p, 2, none⟩ c).setCell ⟨p, 3, none⟩ d) g vs := bl_s1 (bl_s1 (bl_s1 (bl_s1 h e) e) e) e
structure PairI (X : World) (lo hi n m : Nat) (A B : Option Addr) (xs ys : List Int) : Prop where
  a : Ints X lo hi A n xs
  b : Ints X lo hi B m ys
theorem in_al {lo hi n m : Nat} {A B : Option Addr} {xs ys : List Int} {O : Obj} (h : PairI X lo hi n m A B xs ys) : PairI (X.alloc O) lo hi n m A B xs ys := ⟨h.a.keeps (keeps_alloc _ _), h.b.keeps (keeps_alloc _ _)⟩
theorem in_dr {lo hi n m : Nat} {A B : Option Addr} {xs ys : List Int} (h : PairI X lo hi n m A B xs ys) : PairI X.drew lo hi n m A B xs ys := ⟨h.a, h.b⟩
theorem in_kp {lo hi n m : Nat} {A B : Option Addr} {xs ys : List Int} {Y : World} (h : PairI X lo hi n m A B xs ys) (k : Keeps X Y) : PairI Y lo hi n m A B xs ys := ⟨h.a.keeps k, h.b.keeps k⟩
theorem in_s4 {lo hi n m p : Nat} {A B : Option Addr} {xs ys : List Int} {a b c d : Value} (h : PairI X lo hi n m A B xs ys) (e : p < lo ∨ hi ≤ p) : PairI ((((X.setCell ⟨p, 0, none⟩ a).setCell ⟨p, 1, none⟩ b).setCell ⟨p, 2, none⟩ c).setCell ⟨p, 3, none⟩ d) lo hi n m A B xs ys := ⟨h.a.fr fr_s4 (by omega), h.b.fr fr_s4 (by omega)⟩
end
/-- Two normal tables in boxes of their own. -/
structure NsR (W : World) (lv sm lu su : Int) (n m n' m' : Nat) (vs ws us xs : List Int) (s7 s8 : Value) (w' : World) : Prop where
  ex : ∃ g7 g8 V1 d1 H1 d2 V2 d3 H2 d4 l1 u1 l2 u2, s7 = .pointer (some ⟨g7, 0, none⟩) ∧ s8 = .pointer (some ⟨g8, 0, none⟩) ∧ Bl w' g7 [.int .i64 lv, .slice V1 n d1, .slice H1 m d2, .int .i64 sm] ∧ Bl w' g8 [.int .i64 lu, .slice V2 n' d3, .slice H2 m' d4, .int .i64 su] ∧ PairI w' l1 u1 n m V1 H1 vs ws ∧ PairI w' l2 u2 n' m' V2 H2 us xs ∧ Keeps W w'
theorem smB_lv {l : List VV} {t u : TT} (h : ¬ t.1 = u.1) : smB l t u = false := by unfold smB; rw [decide_eq_false h]; rfl
theorem smB_vs {l : List VV} {t u : TT} (h : decide (t.2.1 = u.2.1) = false) : smB l t u = false := by unfold smB; rw [h]; simp
theorem smB_ws {l : List VV} {t u : TT} (h : decide (nmL l t.2.2.1 = nmL l u.2.2.1) = false) : smB l t u = false := by unfold smB; rw [h]; simp
theorem smB_sm {l : List VV} {t u : TT} (h : ¬ t.2.2.2 = u.2.2.2) : smB l t u = false := by unfold smB; rw [decide_eq_false h]; simp
theorem smB_yes {l : List VV} {t u : TT} (h1 : t.1 = u.1) (h2 : decide (t.2.1 = u.2.1) = true) (h3 : decide (nmL l t.2.2.1 = nmL l u.2.2.1) = true) (h4 : t.2.2.2 = u.2.2.2) : smB l t u = true := by unfold smB; rw [decide_eq_true h1, h2, h3, decide_eq_true h4]; rfl

set_option maxRecDepth 100000 in
set_option maxHeartbeats 400000000 in
theorem nSame_any {A' V H V' H' : Option Addr} {lo1 hi1 lo2 hi2 lo3 hi3 lo4 hi4 n c m d n' c' m' d' q e : Nat} {vs ws us xs : List Int} {l : List VV} {lv sm lu su : Int} {w : World} (h' : Sch w A' q e l) (hlv : LvOk l q) (hv : Ints w lo1 hi1 V n vs) (hw : Ints w lo2 hi2 H m ws) (hu : Ints w lo3 hi3 V' n' us) (hx : Ints w lo4 hi4 H' m' xs) (hW : whB l ws = true) (hX : whB l xs = true) :
    Calls Try.prog 66 #[.slice A' q e, .agg #[.int .i64 lv, .slice V n c, .slice H m d, .int .i64 sm], .agg #[.int .i64 lu, .slice V' n' c', .slice H' m' d', .int .i64 su]] w fun e w' => e = .returned (.bool (smB l (lv, vs, ws, sm) (lu, us, xs, su))) ∧ Keeps w w' := by
  have HLV := hid hlv
  have HW := hid hW
  have HX := hid hX
  clear hlv hW hX
  obtain ⟨p, HP⟩ : ∃ p, Hid (smB l (lv, vs, ws, sm) (lu, us, xs, su) = p) := ⟨_, rfl⟩
  rw [HP.out]
  go_enter Try.func66, Try.ntmps66
  have kw := keeps_refl w
  replace kw := Keeps.trans kw (keeps_alloc w (.cells #[.int .i64 lv, .slice V n c, .slice H m d, .int .i64 sm] 98))
  have b4 : Bl (w.alloc (.cells #[.int .i64 lv, .slice V n c, .slice H m d, .int .i64 sm] 98)) w.heap.size [.int .i64 lv, .slice V n c, .slice H m d, .int .i64 sm] := Bl.new' (by simp) (by simp)
  replace b4 := b4.keeps (keeps_alloc (w.alloc (.cells #[.int .i64 lv, .slice V n c, .slice H m d, .int .i64 sm] 98)) (.cells #[.int .i64 lu, .slice V' n' c', .slice H' m' d', .int .i64 su] 98))
  replace kw := Keeps.trans kw (keeps_alloc (w.alloc (.cells #[.int .i64 lv, .slice V n c, .slice H m d, .int .i64 sm] 98)) (.cells #[.int .i64 lu, .slice V' n' c', .slice H' m' d', .int .i64 su] 98))
  have b5 : Bl ((w.alloc (.cells #[.int .i64 lv, .slice V n c, .slice H m d, .int .i64 sm] 98)).alloc (.cells #[.int .i64 lu, .slice V' n' c', .slice H' m' d', .int .i64 su] 98)) (w.heap.size + 1) [.int .i64 lu, .slice V' n' c', .slice H' m' d', .int .i64 su] := Bl.new' (by simp) (by simp)
  go_wp2_with fail
  obtain ⟨W, hX⟩ : ∃ u : World, u = ((w.alloc (.cells #[.int .i64 lv, .slice V n c, .slice H m d, .int .i64 sm] 98)).alloc (.cells #[.int .i64 lu, .slice V' n' c', .slice H' m' d', .int .i64 su] 98)) := ⟨_, rfl⟩
  have szX0 := hid (show W.heap.size = w.heap.size + 1 + 1 by rw [hX]; simp)
  rw [← hX] at b4
  rw [← hX] at b5
  rw [← hX] at kw
  rw [← hX]
  clear hX
  have sz2 := kw.size
  have kS := hid (show ∀ w', Keeps W w' → (w'.cell? ⟨w.heap.size, 0, none⟩ = some (.int .i64 lv) ∧ w'.cell? ⟨w.heap.size, 1, none⟩ = some (.slice V n c) ∧ w'.cell? ⟨w.heap.size, 2, none⟩ = some (.slice H m d) ∧ w'.cell? ⟨w.heap.size, 3, none⟩ = some (.int .i64 sm) ∧ w'.cell? ⟨w.heap.size + 1, 0, none⟩ = some (.int .i64 lu) ∧ w'.cell? ⟨w.heap.size + 1, 1, none⟩ = some (.slice V' n' c') ∧ w'.cell? ⟨w.heap.size + 1, 2, none⟩ = some (.slice H' m' d') ∧ w'.cell? ⟨w.heap.size + 1, 3, none⟩ = some (.int .i64 su)) from fun w' k => ⟨((b4.keeps k).2 0 _ rfl).1, ((b4.keeps k).2 1 _ rfl).1, ((b4.keeps k).2 2 _ rfl).1, ((b4.keeps k).2 3 _ rfl).1, ((b5.keeps k).2 0 _ rfl).1, ((b5.keeps k).2 1 _ rfl).1, ((b5.keeps k).2 2 _ rfl).1, ((b5.keeps k).2 3 _ rfl).1⟩)
  have sW : w.heap.size + 2 ≤ W.heap.size := by rw [szX0.out]; omega
  go_cut [7, 8] (fun s7 s8 wq => ∃ wy, wy = wq ∧ NsR W lv sm lu su n m n' m' vs (nmL l ws) us (nmL l xs) s7 s8 wy)
  case first =>
    go_region_held3 (fun w' => w'.cell? ⟨w.heap.size, 0, none⟩ = some (.int .i64 lv) ∧ w'.cell? ⟨w.heap.size, 1, none⟩ = some (.slice V n c) ∧ w'.cell? ⟨w.heap.size, 2, none⟩ = some (.slice H m d) ∧ w'.cell? ⟨w.heap.size, 3, none⟩ = some (.int .i64 sm) ∧ w'.cell? ⟨w.heap.size + 1, 0, none⟩ = some (.int .i64 lu) ∧ w'.cell? ⟨w.heap.size + 1, 1, none⟩ = some (.slice V' n' c') ∧ w'.cell? ⟨w.heap.size + 1, 2, none⟩ = some (.slice H' m' d') ∧ w'.cell? ⟨w.heap.size + 1, 3, none⟩ = some (.int .i64 su)) (exact kS.out _ (by (repeat (first | with_reducible exact kB | with_reducible exact kA | with_reducible exact keeps_refl _ | with_reducible refine keeps_dr ?_ | with_reducible refine keeps_al ?_ | ((with_reducible refine keeps_s4 ?_ ?_); rotate_left; omega)))))
      ((first | (have nd := kkA; clear nd; go_at_call 92; refine calls_at ?_; intro XB hX; (first | (have sXB : XB.heap.size = wA.heap.size + 2 := nsz2 hX; have kX : Keeps W XB := kA.trans (kx2 hX); have bX2 : Bl XB wA.heap.size [.int .i64 0, .slice none 0 0, .slice none 0 0, .int .i64 0] := nb2a hX; have bX3 : Bl XB (wA.heap.size + 1) [.int .i64 0, .slice none 0 0, .slice none 0 0, .int .i64 0] := nb2b hX; (try (have bX0 : Bl XB W.heap.size [.int .i64 0, .slice none 0 0, .slice none 0 0, .int .i64 0] := ob2 hX zA0; clear c_zA00 f_zA00 c_zA01 f_zA01 c_zA02 f_zA02 c_zA03 f_zA03 zA0 l_zA0)); (try (have bX1 : Bl XB (W.heap.size + 1) [.int .i64 0, .slice none 0 0, .slice none 0 0, .int .i64 0] := ob2 hX zA1; clear c_zA10 f_zA10 c_zA11 f_zA11 c_zA12 f_zA12 c_zA13 f_zA13 zA1 l_zA1))) | (have sXB : XB.heap.size = wA.heap.size + 1 := nsz1 hX; have kX : Keeps W XB := kA.trans (kx1 hX); have bX2 : Bl XB wA.heap.size [.int .i64 0, .slice none 0 0, .slice none 0 0, .int .i64 0] := nb1 hX; (try (have bX0 : Bl XB W.heap.size [.int .i64 0, .slice none 0 0, .slice none 0 0, .int .i64 0] := ob1 hX zA0; clear c_zA00 f_zA00 c_zA01 f_zA01 c_zA02 f_zA02 c_zA03 f_zA03 zA0 l_zA0)); (try (have bX1 : Bl XB (W.heap.size + 1) [.int .i64 0, .slice none 0 0, .slice none 0 0, .int .i64 0] := ob1 hX zA1; clear c_zA10 f_zA10 c_zA11 f_zA11 c_zA12 f_zA12 c_zA13 f_zA13 zA1 l_zA1))) | (have sXB : XB.heap.size = wA.heap.size + 0 := nsz0 hX; have kX : Keeps W XB := kA.trans (kx0 hX); (try (have bX0 : Bl XB W.heap.size [.int .i64 0, .slice none 0 0, .slice none 0 0, .int .i64 0] := ob0 hX zA0; clear c_zA00 f_zA00 c_zA01 f_zA01 c_zA02 f_zA02 c_zA03 f_zA03 zA0 l_zA0)); (try (have bX1 : Bl XB (W.heap.size + 1) [.int .i64 0, .slice none 0 0, .slice none 0 0, .int .i64 0] := ob0 hX zA1; clear c_zA10 f_zA10 c_zA11 f_zA11 c_zA12 f_zA12 c_zA13 f_zA13 zA1 l_zA1))) | fail); have HXB := hid hX; clear hX; (first | ((with_reducible refine Calls.mono (nNormal_any (lv := lv) (sm := sm) (c := c) (d := d) (e := e) (hv.keeps (Keeps.trans kw kX)) (hw.keeps (Keeps.trans kw kX)) (h'.keeps (Keeps.trans kw kX)) HLV.out HW.out) ?_); rintro e9 wB ⟨V1_, d1a, H1_, d1b, rfl, tw, kkB⟩; have i1 := PairI.mk tw.a tw.b; clear tw) | ((with_reducible refine Calls.mono (nNormal_any (lv := lu) (sm := su) (c := c') (d := d') (e := e) (hu.keeps (Keeps.trans kw kX)) (hx.keeps (Keeps.trans kw kX)) (h'.keeps (Keeps.trans kw kX)) HLV.out HX.out) ?_); rintro e9 wB ⟨V2_, d2a, H2_, d2b, rfl, tw, kkB⟩; have i2 := PairI.mk tw.a tw.b; clear tw) | fail); have kB := kX.trans kkB; have slB := kkB.size; clear kX; (try (have zB0 := bX0.keeps kkB; clear bX0; have l_zB0 : W.heap.size < wB.heap.size := zB0.lt; have c_zB00 : wB.cell? ⟨W.heap.size, 0, none⟩ = some (.int .i64 0) := (zB0.2 0 _ rfl).1; have f_zB00 : wB.frozen? ⟨W.heap.size, 0, none⟩ = false := (zB0.2 0 _ rfl).2; have c_zB01 : wB.cell? ⟨W.heap.size, 1, none⟩ = some (.slice none 0 0) := (zB0.2 1 _ rfl).1; have f_zB01 : wB.frozen? ⟨W.heap.size, 1, none⟩ = false := (zB0.2 1 _ rfl).2; have c_zB02 : wB.cell? ⟨W.heap.size, 2, none⟩ = some (.slice none 0 0) := (zB0.2 2 _ rfl).1; have f_zB02 : wB.frozen? ⟨W.heap.size, 2, none⟩ = false := (zB0.2 2 _ rfl).2; have c_zB03 : wB.cell? ⟨W.heap.size, 3, none⟩ = some (.int .i64 0) := (zB0.2 3 _ rfl).1; have f_zB03 : wB.frozen? ⟨W.heap.size, 3, none⟩ = false := (zB0.2 3 _ rfl).2)); (try (have zB1 := bX1.keeps kkB; clear bX1; have l_zB1 : (W.heap.size + 1) < wB.heap.size := zB1.lt; have c_zB10 : wB.cell? ⟨(W.heap.size + 1), 0, none⟩ = some (.int .i64 0) := (zB1.2 0 _ rfl).1; have f_zB10 : wB.frozen? ⟨(W.heap.size + 1), 0, none⟩ = false := (zB1.2 0 _ rfl).2; have c_zB11 : wB.cell? ⟨(W.heap.size + 1), 1, none⟩ = some (.slice none 0 0) := (zB1.2 1 _ rfl).1; have f_zB11 : wB.frozen? ⟨(W.heap.size + 1), 1, none⟩ = false := (zB1.2 1 _ rfl).2; have c_zB12 : wB.cell? ⟨(W.heap.size + 1), 2, none⟩ = some (.slice none 0 0) := (zB1.2 2 _ rfl).1; have f_zB12 : wB.frozen? ⟨(W.heap.size + 1), 2, none⟩ = false := (zB1.2 2 _ rfl).2; have c_zB13 : wB.cell? ⟨(W.heap.size + 1), 3, none⟩ = some (.int .i64 0) := (zB1.2 3 _ rfl).1; have f_zB13 : wB.frozen? ⟨(W.heap.size + 1), 3, none⟩ = false := (zB1.2 3 _ rfl).2)); (try (have zB2 := bX2.keeps kkB; clear bX2; have l_zB2 : wA.heap.size < wB.heap.size := zB2.lt; have c_zB20 : wB.cell? ⟨wA.heap.size, 0, none⟩ = some (.int .i64 0) := (zB2.2 0 _ rfl).1; have f_zB20 : wB.frozen? ⟨wA.heap.size, 0, none⟩ = false := (zB2.2 0 _ rfl).2; have c_zB21 : wB.cell? ⟨wA.heap.size, 1, none⟩ = some (.slice none 0 0) := (zB2.2 1 _ rfl).1; have f_zB21 : wB.frozen? ⟨wA.heap.size, 1, none⟩ = false := (zB2.2 1 _ rfl).2; have c_zB22 : wB.cell? ⟨wA.heap.size, 2, none⟩ = some (.slice none 0 0) := (zB2.2 2 _ rfl).1; have f_zB22 : wB.frozen? ⟨wA.heap.size, 2, none⟩ = false := (zB2.2 2 _ rfl).2; have c_zB23 : wB.cell? ⟨wA.heap.size, 3, none⟩ = some (.int .i64 0) := (zB2.2 3 _ rfl).1; have f_zB23 : wB.frozen? ⟨wA.heap.size, 3, none⟩ = false := (zB2.2 3 _ rfl).2)); (try (have zB3 := bX3.keeps kkB; clear bX3; have l_zB3 : (wA.heap.size + 1) < wB.heap.size := zB3.lt; have c_zB30 : wB.cell? ⟨(wA.heap.size + 1), 0, none⟩ = some (.int .i64 0) := (zB3.2 0 _ rfl).1; have f_zB30 : wB.frozen? ⟨(wA.heap.size + 1), 0, none⟩ = false := (zB3.2 0 _ rfl).2; have c_zB31 : wB.cell? ⟨(wA.heap.size + 1), 1, none⟩ = some (.slice none 0 0) := (zB3.2 1 _ rfl).1; have f_zB31 : wB.frozen? ⟨(wA.heap.size + 1), 1, none⟩ = false := (zB3.2 1 _ rfl).2; have c_zB32 : wB.cell? ⟨(wA.heap.size + 1), 2, none⟩ = some (.slice none 0 0) := (zB3.2 2 _ rfl).1; have f_zB32 : wB.frozen? ⟨(wA.heap.size + 1), 2, none⟩ = false := (zB3.2 2 _ rfl).2; have c_zB33 : wB.cell? ⟨(wA.heap.size + 1), 3, none⟩ = some (.int .i64 0) := (zB3.2 3 _ rfl).1; have f_zB33 : wB.frozen? ⟨(wA.heap.size + 1), 3, none⟩ = false := (zB3.2 3 _ rfl).2))) | (go_at_call 92; refine calls_at ?_; intro XA hX; (first | (have sXA : XA.heap.size = W.heap.size + 2 := nsz2d hX; have kX : Keeps W XA := kx2d hX; have bX0 : Bl XA W.heap.size [.int .i64 0, .slice none 0 0, .slice none 0 0, .int .i64 0] := nb2ad hX; have bX1 : Bl XA (W.heap.size + 1) [.int .i64 0, .slice none 0 0, .slice none 0 0, .int .i64 0] := nb2bd hX) | (have sXA : XA.heap.size = W.heap.size + 1 := nsz1d hX; have kX : Keeps W XA := kx1d hX; have bX0 : Bl XA W.heap.size [.int .i64 0, .slice none 0 0, .slice none 0 0, .int .i64 0] := nb1d hX) | (have sXA : XA.heap.size = W.heap.size + 0 := nsz0d hX; have kX : Keeps W XA := kx0d hX) | fail); have HXA := hid hX; clear hX; (first | ((with_reducible refine Calls.mono (nNormal_any (lv := lv) (sm := sm) (c := c) (d := d) (e := e) (hv.keeps (Keeps.trans kw kX)) (hw.keeps (Keeps.trans kw kX)) (h'.keeps (Keeps.trans kw kX)) HLV.out HW.out) ?_); rintro e9 wA ⟨V1_, d1a, H1_, d1b, rfl, tw, kkA⟩; have i1 := PairI.mk tw.a tw.b; clear tw) | ((with_reducible refine Calls.mono (nNormal_any (lv := lu) (sm := su) (c := c') (d := d') (e := e) (hu.keeps (Keeps.trans kw kX)) (hx.keeps (Keeps.trans kw kX)) (h'.keeps (Keeps.trans kw kX)) HLV.out HX.out) ?_); rintro e9 wA ⟨V2_, d2a, H2_, d2b, rfl, tw, kkA⟩; have i2 := PairI.mk tw.a tw.b; clear tw) | fail); have kA := kX.trans kkA; have slA := kkA.size; clear kX; (try (have zA0 := bX0.keeps kkA; clear bX0; have l_zA0 : W.heap.size < wA.heap.size := zA0.lt; have c_zA00 : wA.cell? ⟨W.heap.size, 0, none⟩ = some (.int .i64 0) := (zA0.2 0 _ rfl).1; have f_zA00 : wA.frozen? ⟨W.heap.size, 0, none⟩ = false := (zA0.2 0 _ rfl).2; have c_zA01 : wA.cell? ⟨W.heap.size, 1, none⟩ = some (.slice none 0 0) := (zA0.2 1 _ rfl).1; have f_zA01 : wA.frozen? ⟨W.heap.size, 1, none⟩ = false := (zA0.2 1 _ rfl).2; have c_zA02 : wA.cell? ⟨W.heap.size, 2, none⟩ = some (.slice none 0 0) := (zA0.2 2 _ rfl).1; have f_zA02 : wA.frozen? ⟨W.heap.size, 2, none⟩ = false := (zA0.2 2 _ rfl).2; have c_zA03 : wA.cell? ⟨W.heap.size, 3, none⟩ = some (.int .i64 0) := (zA0.2 3 _ rfl).1; have f_zA03 : wA.frozen? ⟨W.heap.size, 3, none⟩ = false := (zA0.2 3 _ rfl).2)); (try (have zA1 := bX1.keeps kkA; clear bX1; have l_zA1 : (W.heap.size + 1) < wA.heap.size := zA1.lt; have c_zA10 : wA.cell? ⟨(W.heap.size + 1), 0, none⟩ = some (.int .i64 0) := (zA1.2 0 _ rfl).1; have f_zA10 : wA.frozen? ⟨(W.heap.size + 1), 0, none⟩ = false := (zA1.2 0 _ rfl).2; have c_zA11 : wA.cell? ⟨(W.heap.size + 1), 1, none⟩ = some (.slice none 0 0) := (zA1.2 1 _ rfl).1; have f_zA11 : wA.frozen? ⟨(W.heap.size + 1), 1, none⟩ = false := (zA1.2 1 _ rfl).2; have c_zA12 : wA.cell? ⟨(W.heap.size + 1), 2, none⟩ = some (.slice none 0 0) := (zA1.2 2 _ rfl).1; have f_zA12 : wA.frozen? ⟨(W.heap.size + 1), 2, none⟩ = false := (zA1.2 2 _ rfl).2; have c_zA13 : wA.cell? ⟨(W.heap.size + 1), 3, none⟩ = some (.int .i64 0) := (zA1.2 3 _ rfl).1; have f_zA13 : wA.frozen? ⟨(W.heap.size + 1), 3, none⟩ = false := (zA1.2 3 _ rfl).2))) | fail))
    all_goals (go_wp2_with fail; go_meet; exact ⟨_, rfl, ⟨_, _, V1_, d1a, H1_, d1b, V2_, d2a, H2_, d2b, XA.heap.size, wA.heap.size, XB.heap.size, wB.heap.size, rfl, rfl, (by (repeat (first | with_reducible refine bl_p4z ?_ | ((with_reducible refine bl_s4 ?_ ?_); rotate_left; omega) | with_reducible exact bl_nw (by simp) | with_reducible refine bl_al ?_ | with_reducible exact zB0 | with_reducible exact zB1 | with_reducible exact zB2 | with_reducible exact zB3))), (by (repeat (first | with_reducible refine bl_p4z ?_ | ((with_reducible refine bl_s4 ?_ ?_); rotate_left; omega) | with_reducible exact bl_nw (by simp) | with_reducible refine bl_al ?_ | with_reducible exact zB0 | with_reducible exact zB1 | with_reducible exact zB2 | with_reducible exact zB3))), (by (repeat (first | ((with_reducible refine in_s4 ?_ ?_); rotate_left; omega) | with_reducible refine in_al ?_ | with_reducible exact i1 | ((with_reducible refine in_kp ?_ kkB); rw [HXB.out])))), (by (repeat (first | ((with_reducible refine in_s4 ?_ ?_); rotate_left; omega) | with_reducible refine in_al ?_ | with_reducible exact i2 | ((with_reducible refine in_kp ?_ kkB); rw [HXB.out])))), (by (repeat (first | with_reducible exact kB | with_reducible exact kA | with_reducible exact keeps_refl _ | with_reducible refine keeps_dr ?_ | with_reducible refine keeps_al ?_ | ((with_reducible refine keeps_s4 ?_ ?_); rotate_left; omega))))⟩⟩)
  case rest =>
    obtain ⟨wy, rfl, ⟨g7, g8, V1_, d1a, H1_, d1b, V2_, d2a, H2_, d2b, l1, u1, l2, u2, rfl, rfl, b7, b8, ii1, ii2, kZ⟩⟩ := hcut
    have i1 := ii1.a
    have i2 := ii1.b
    have i3 := ii2.a
    have i4 := ii2.b
    clear ii1 ii2
    replace kw := Keeps.trans kw kZ
    clear kS kZ b4 b5
    by_cases e1 : lv = lu
    rotate_left
    · have t1 : (lv == lu) = false := by rw [beq_eq_false_iff_ne]; exact e1
      obtain rfl : p = false := HP.out.symm.trans (smB_lv (t := (lv, vs, ws, sm)) (u := (lu, us, xs, su)) e1)
      have ca3_0 : wy.cell? ⟨g7, 0, none⟩ = some (.int .i64 lv) := (b7.2 0 _ rfl).1
      have fa3_0 : wy.frozen? ⟨g7, 0, none⟩ = false := (b7.2 0 _ rfl).2
      have ca3_1 : wy.cell? ⟨g7, 1, none⟩ = some (.slice V1_ n d1a) := (b7.2 1 _ rfl).1
      have fa3_1 : wy.frozen? ⟨g7, 1, none⟩ = false := (b7.2 1 _ rfl).2
      have ca3_2 : wy.cell? ⟨g7, 2, none⟩ = some (.slice H1_ m d1b) := (b7.2 2 _ rfl).1
      have fa3_2 : wy.frozen? ⟨g7, 2, none⟩ = false := (b7.2 2 _ rfl).2
      have ca3_3 : wy.cell? ⟨g7, 3, none⟩ = some (.int .i64 sm) := (b7.2 3 _ rfl).1
      have fa3_3 : wy.frozen? ⟨g7, 3, none⟩ = false := (b7.2 3 _ rfl).2
      have ca4_0 : wy.cell? ⟨g8, 0, none⟩ = some (.int .i64 lu) := (b8.2 0 _ rfl).1
      have fa4_0 : wy.frozen? ⟨g8, 0, none⟩ = false := (b8.2 0 _ rfl).2
      have ca4_1 : wy.cell? ⟨g8, 1, none⟩ = some (.slice V2_ n' d2a) := (b8.2 1 _ rfl).1
      have fa4_1 : wy.frozen? ⟨g8, 1, none⟩ = false := (b8.2 1 _ rfl).2
      have ca4_2 : wy.cell? ⟨g8, 2, none⟩ = some (.slice H2_ m' d2b) := (b8.2 2 _ rfl).1
      have fa4_2 : wy.frozen? ⟨g8, 2, none⟩ = false := (b8.2 2 _ rfl).2
      have ca4_3 : wy.cell? ⟨g8, 3, none⟩ = some (.int .i64 su) := (b8.2 3 _ rfl).1
      have fa4_3 : wy.frozen? ⟨g8, 3, none⟩ = false := (b8.2 3 _ rfl).2
      go_wp2_with fail
      clear ca3_0 fa3_0 ca3_1 fa3_1 ca3_2 fa3_2 ca3_3 fa3_3 ca4_0 fa4_0 ca4_1 fa4_1 ca4_2 fa4_2 ca4_3 fa4_3
      go_ret
      exact ⟨ret_bool rfl, kw⟩
    have t1 : (lv == lu) = true := by rw [beq_iff_eq]; exact e1
    obtain ⟨r, HR⟩ : ∃ r, Hid (decide (vs = us) = r) := ⟨_, rfl⟩
    have E1 := hid e1
    clear e1
    have ca3_0 : wy.cell? ⟨g7, 0, none⟩ = some (.int .i64 lv) := (b7.2 0 _ rfl).1
    have fa3_0 : wy.frozen? ⟨g7, 0, none⟩ = false := (b7.2 0 _ rfl).2
    have ca3_1 : wy.cell? ⟨g7, 1, none⟩ = some (.slice V1_ n d1a) := (b7.2 1 _ rfl).1
    have fa3_1 : wy.frozen? ⟨g7, 1, none⟩ = false := (b7.2 1 _ rfl).2
    have ca3_2 : wy.cell? ⟨g7, 2, none⟩ = some (.slice H1_ m d1b) := (b7.2 2 _ rfl).1
    have fa3_2 : wy.frozen? ⟨g7, 2, none⟩ = false := (b7.2 2 _ rfl).2
    have ca3_3 : wy.cell? ⟨g7, 3, none⟩ = some (.int .i64 sm) := (b7.2 3 _ rfl).1
    have fa3_3 : wy.frozen? ⟨g7, 3, none⟩ = false := (b7.2 3 _ rfl).2
    have ca4_0 : wy.cell? ⟨g8, 0, none⟩ = some (.int .i64 lu) := (b8.2 0 _ rfl).1
    have fa4_0 : wy.frozen? ⟨g8, 0, none⟩ = false := (b8.2 0 _ rfl).2
    have ca4_1 : wy.cell? ⟨g8, 1, none⟩ = some (.slice V2_ n' d2a) := (b8.2 1 _ rfl).1
    have fa4_1 : wy.frozen? ⟨g8, 1, none⟩ = false := (b8.2 1 _ rfl).2
    have ca4_2 : wy.cell? ⟨g8, 2, none⟩ = some (.slice H2_ m' d2b) := (b8.2 2 _ rfl).1
    have fa4_2 : wy.frozen? ⟨g8, 2, none⟩ = false := (b8.2 2 _ rfl).2
    have ca4_3 : wy.cell? ⟨g8, 3, none⟩ = some (.int .i64 su) := (b8.2 3 _ rfl).1
    have fa4_3 : wy.frozen? ⟨g8, 3, none⟩ = false := (b8.2 3 _ rfl).2
    go_wp2_with fail
    clear ca3_0 fa3_0 ca3_1 fa3_1 ca3_2 fa3_2 ca3_3 fa3_3 ca4_0 fa4_0 ca4_1 fa4_1 ca4_2 fa4_2 ca4_3 fa4_3
    refine (l1Same_any i1 i3).mono ?_
    rintro e w5 ⟨rfl, k5⟩
    rw [HR.out]
    replace b7 := b7.keeps k5
    replace b8 := b8.keeps k5
    replace i1 := i1.keeps k5
    replace i2 := i2.keeps k5
    replace i3 := i3.keeps k5
    replace i4 := i4.keeps k5
    replace kw := Keeps.trans kw k5
    have lt6 := b8.lt
    have sz7 := kw.size
    clear k5
    cases r
    · obtain rfl : p = false := HP.out.symm.trans (smB_vs (t := (lv, vs, ws, sm)) (u := (lu, us, xs, su)) HR.out)
      have ca8_0 : w5.cell? ⟨g7, 0, none⟩ = some (.int .i64 lv) := (b7.2 0 _ rfl).1
      have fa8_0 : w5.frozen? ⟨g7, 0, none⟩ = false := (b7.2 0 _ rfl).2
      have ca8_1 : w5.cell? ⟨g7, 1, none⟩ = some (.slice V1_ n d1a) := (b7.2 1 _ rfl).1
      have fa8_1 : w5.frozen? ⟨g7, 1, none⟩ = false := (b7.2 1 _ rfl).2
      have ca8_2 : w5.cell? ⟨g7, 2, none⟩ = some (.slice H1_ m d1b) := (b7.2 2 _ rfl).1
      have fa8_2 : w5.frozen? ⟨g7, 2, none⟩ = false := (b7.2 2 _ rfl).2
      have ca8_3 : w5.cell? ⟨g7, 3, none⟩ = some (.int .i64 sm) := (b7.2 3 _ rfl).1
      have fa8_3 : w5.frozen? ⟨g7, 3, none⟩ = false := (b7.2 3 _ rfl).2
      have ca9_0 : w5.cell? ⟨g8, 0, none⟩ = some (.int .i64 lu) := (b8.2 0 _ rfl).1
      have fa9_0 : w5.frozen? ⟨g8, 0, none⟩ = false := (b8.2 0 _ rfl).2
      have ca9_1 : w5.cell? ⟨g8, 1, none⟩ = some (.slice V2_ n' d2a) := (b8.2 1 _ rfl).1
      have fa9_1 : w5.frozen? ⟨g8, 1, none⟩ = false := (b8.2 1 _ rfl).2
      have ca9_2 : w5.cell? ⟨g8, 2, none⟩ = some (.slice H2_ m' d2b) := (b8.2 2 _ rfl).1
      have fa9_2 : w5.frozen? ⟨g8, 2, none⟩ = false := (b8.2 2 _ rfl).2
      have ca9_3 : w5.cell? ⟨g8, 3, none⟩ = some (.int .i64 su) := (b8.2 3 _ rfl).1
      have fa9_3 : w5.frozen? ⟨g8, 3, none⟩ = false := (b8.2 3 _ rfl).2
      go_wp2_with fail
      clear ca8_0 fa8_0 ca8_1 fa8_1 ca8_2 fa8_2 ca8_3 fa8_3 ca9_0 fa9_0 ca9_1 fa9_1 ca9_2 fa9_2 ca9_3 fa9_3
      go_ret
      exact ⟨ret_bool rfl, kw⟩
    obtain ⟨r2, HR2⟩ : ∃ r, Hid (decide (nmL l ws = nmL l xs) = r) := ⟨_, rfl⟩
    have ca8_0 : w5.cell? ⟨g7, 0, none⟩ = some (.int .i64 lv) := (b7.2 0 _ rfl).1
    have fa8_0 : w5.frozen? ⟨g7, 0, none⟩ = false := (b7.2 0 _ rfl).2
    have ca8_1 : w5.cell? ⟨g7, 1, none⟩ = some (.slice V1_ n d1a) := (b7.2 1 _ rfl).1
    have fa8_1 : w5.frozen? ⟨g7, 1, none⟩ = false := (b7.2 1 _ rfl).2
    have ca8_2 : w5.cell? ⟨g7, 2, none⟩ = some (.slice H1_ m d1b) := (b7.2 2 _ rfl).1
    have fa8_2 : w5.frozen? ⟨g7, 2, none⟩ = false := (b7.2 2 _ rfl).2
    have ca8_3 : w5.cell? ⟨g7, 3, none⟩ = some (.int .i64 sm) := (b7.2 3 _ rfl).1
    have fa8_3 : w5.frozen? ⟨g7, 3, none⟩ = false := (b7.2 3 _ rfl).2
    have ca9_0 : w5.cell? ⟨g8, 0, none⟩ = some (.int .i64 lu) := (b8.2 0 _ rfl).1
    have fa9_0 : w5.frozen? ⟨g8, 0, none⟩ = false := (b8.2 0 _ rfl).2
    have ca9_1 : w5.cell? ⟨g8, 1, none⟩ = some (.slice V2_ n' d2a) := (b8.2 1 _ rfl).1
    have fa9_1 : w5.frozen? ⟨g8, 1, none⟩ = false := (b8.2 1 _ rfl).2
    have ca9_2 : w5.cell? ⟨g8, 2, none⟩ = some (.slice H2_ m' d2b) := (b8.2 2 _ rfl).1
    have fa9_2 : w5.frozen? ⟨g8, 2, none⟩ = false := (b8.2 2 _ rfl).2
    have ca9_3 : w5.cell? ⟨g8, 3, none⟩ = some (.int .i64 su) := (b8.2 3 _ rfl).1
    have fa9_3 : w5.frozen? ⟨g8, 3, none⟩ = false := (b8.2 3 _ rfl).2
    go_wp2_with fail
    clear ca8_0 fa8_0 ca8_1 fa8_1 ca8_2 fa8_2 ca8_3 fa8_3 ca9_0 fa9_0 ca9_1 fa9_1 ca9_2 fa9_2 ca9_3 fa9_3
    refine (l1Same_any i2 i4).mono ?_
    rintro e w10 ⟨rfl, k10⟩
    rw [HR2.out]
    replace b7 := b7.keeps k10
    replace b8 := b8.keeps k10
    replace i1 := i1.keeps k10
    replace i2 := i2.keeps k10
    replace i3 := i3.keeps k10
    replace i4 := i4.keeps k10
    replace kw := Keeps.trans kw k10
    have lt11 := b8.lt
    have sz12 := kw.size
    clear k10
    cases r2
    · obtain rfl : p = false := HP.out.symm.trans (smB_ws (t := (lv, vs, ws, sm)) (u := (lu, us, xs, su)) HR2.out)
      have ca13_0 : w10.cell? ⟨g7, 0, none⟩ = some (.int .i64 lv) := (b7.2 0 _ rfl).1
      have fa13_0 : w10.frozen? ⟨g7, 0, none⟩ = false := (b7.2 0 _ rfl).2
      have ca13_1 : w10.cell? ⟨g7, 1, none⟩ = some (.slice V1_ n d1a) := (b7.2 1 _ rfl).1
      have fa13_1 : w10.frozen? ⟨g7, 1, none⟩ = false := (b7.2 1 _ rfl).2
      have ca13_2 : w10.cell? ⟨g7, 2, none⟩ = some (.slice H1_ m d1b) := (b7.2 2 _ rfl).1
      have fa13_2 : w10.frozen? ⟨g7, 2, none⟩ = false := (b7.2 2 _ rfl).2
      have ca13_3 : w10.cell? ⟨g7, 3, none⟩ = some (.int .i64 sm) := (b7.2 3 _ rfl).1
      have fa13_3 : w10.frozen? ⟨g7, 3, none⟩ = false := (b7.2 3 _ rfl).2
      have ca14_0 : w10.cell? ⟨g8, 0, none⟩ = some (.int .i64 lu) := (b8.2 0 _ rfl).1
      have fa14_0 : w10.frozen? ⟨g8, 0, none⟩ = false := (b8.2 0 _ rfl).2
      have ca14_1 : w10.cell? ⟨g8, 1, none⟩ = some (.slice V2_ n' d2a) := (b8.2 1 _ rfl).1
      have fa14_1 : w10.frozen? ⟨g8, 1, none⟩ = false := (b8.2 1 _ rfl).2
      have ca14_2 : w10.cell? ⟨g8, 2, none⟩ = some (.slice H2_ m' d2b) := (b8.2 2 _ rfl).1
      have fa14_2 : w10.frozen? ⟨g8, 2, none⟩ = false := (b8.2 2 _ rfl).2
      have ca14_3 : w10.cell? ⟨g8, 3, none⟩ = some (.int .i64 su) := (b8.2 3 _ rfl).1
      have fa14_3 : w10.frozen? ⟨g8, 3, none⟩ = false := (b8.2 3 _ rfl).2
      go_wp2_with fail
      clear ca13_0 fa13_0 ca13_1 fa13_1 ca13_2 fa13_2 ca13_3 fa13_3 ca14_0 fa14_0 ca14_1 fa14_1 ca14_2 fa14_2 ca14_3 fa14_3
      go_ret
      exact ⟨ret_bool rfl, kw⟩
    by_cases e2 : sm = su
    · have t2 : (sm == su) = true := by rw [beq_iff_eq]; exact e2
      obtain rfl : p = true := HP.out.symm.trans (smB_yes (t := (lv, vs, ws, sm)) (u := (lu, us, xs, su)) E1.out HR.out HR2.out e2)
      have ca13_0 : w10.cell? ⟨g7, 0, none⟩ = some (.int .i64 lv) := (b7.2 0 _ rfl).1
      have fa13_0 : w10.frozen? ⟨g7, 0, none⟩ = false := (b7.2 0 _ rfl).2
      have ca13_1 : w10.cell? ⟨g7, 1, none⟩ = some (.slice V1_ n d1a) := (b7.2 1 _ rfl).1
      have fa13_1 : w10.frozen? ⟨g7, 1, none⟩ = false := (b7.2 1 _ rfl).2
      have ca13_2 : w10.cell? ⟨g7, 2, none⟩ = some (.slice H1_ m d1b) := (b7.2 2 _ rfl).1
      have fa13_2 : w10.frozen? ⟨g7, 2, none⟩ = false := (b7.2 2 _ rfl).2
      have ca13_3 : w10.cell? ⟨g7, 3, none⟩ = some (.int .i64 sm) := (b7.2 3 _ rfl).1
      have fa13_3 : w10.frozen? ⟨g7, 3, none⟩ = false := (b7.2 3 _ rfl).2
      have ca14_0 : w10.cell? ⟨g8, 0, none⟩ = some (.int .i64 lu) := (b8.2 0 _ rfl).1
      have fa14_0 : w10.frozen? ⟨g8, 0, none⟩ = false := (b8.2 0 _ rfl).2
      have ca14_1 : w10.cell? ⟨g8, 1, none⟩ = some (.slice V2_ n' d2a) := (b8.2 1 _ rfl).1
      have fa14_1 : w10.frozen? ⟨g8, 1, none⟩ = false := (b8.2 1 _ rfl).2
      have ca14_2 : w10.cell? ⟨g8, 2, none⟩ = some (.slice H2_ m' d2b) := (b8.2 2 _ rfl).1
      have fa14_2 : w10.frozen? ⟨g8, 2, none⟩ = false := (b8.2 2 _ rfl).2
      have ca14_3 : w10.cell? ⟨g8, 3, none⟩ = some (.int .i64 su) := (b8.2 3 _ rfl).1
      have fa14_3 : w10.frozen? ⟨g8, 3, none⟩ = false := (b8.2 3 _ rfl).2
      go_wp2_with fail
      clear ca13_0 fa13_0 ca13_1 fa13_1 ca13_2 fa13_2 ca13_3 fa13_3 ca14_0 fa14_0 ca14_1 fa14_1 ca14_2 fa14_2 ca14_3 fa14_3
      go_ret
      exact ⟨ret_bool rfl, kw⟩
    have t2 : (sm == su) = false := by rw [beq_eq_false_iff_ne]; exact e2
    obtain rfl : p = false := HP.out.symm.trans (smB_sm (t := (lv, vs, ws, sm)) (u := (lu, us, xs, su)) e2)
    have ca13_0 : w10.cell? ⟨g7, 0, none⟩ = some (.int .i64 lv) := (b7.2 0 _ rfl).1
    have fa13_0 : w10.frozen? ⟨g7, 0, none⟩ = false := (b7.2 0 _ rfl).2
    have ca13_1 : w10.cell? ⟨g7, 1, none⟩ = some (.slice V1_ n d1a) := (b7.2 1 _ rfl).1
    have fa13_1 : w10.frozen? ⟨g7, 1, none⟩ = false := (b7.2 1 _ rfl).2
    have ca13_2 : w10.cell? ⟨g7, 2, none⟩ = some (.slice H1_ m d1b) := (b7.2 2 _ rfl).1
    have fa13_2 : w10.frozen? ⟨g7, 2, none⟩ = false := (b7.2 2 _ rfl).2
    have ca13_3 : w10.cell? ⟨g7, 3, none⟩ = some (.int .i64 sm) := (b7.2 3 _ rfl).1
    have fa13_3 : w10.frozen? ⟨g7, 3, none⟩ = false := (b7.2 3 _ rfl).2
    have ca14_0 : w10.cell? ⟨g8, 0, none⟩ = some (.int .i64 lu) := (b8.2 0 _ rfl).1
    have fa14_0 : w10.frozen? ⟨g8, 0, none⟩ = false := (b8.2 0 _ rfl).2
    have ca14_1 : w10.cell? ⟨g8, 1, none⟩ = some (.slice V2_ n' d2a) := (b8.2 1 _ rfl).1
    have fa14_1 : w10.frozen? ⟨g8, 1, none⟩ = false := (b8.2 1 _ rfl).2
    have ca14_2 : w10.cell? ⟨g8, 2, none⟩ = some (.slice H2_ m' d2b) := (b8.2 2 _ rfl).1
    have fa14_2 : w10.frozen? ⟨g8, 2, none⟩ = false := (b8.2 2 _ rfl).2
    have ca14_3 : w10.cell? ⟨g8, 3, none⟩ = some (.int .i64 su) := (b8.2 3 _ rfl).1
    have fa14_3 : w10.frozen? ⟨g8, 3, none⟩ = false := (b8.2 3 _ rfl).2
    go_wp2_with fail
    clear ca13_0 fa13_0 ca13_1 fa13_1 ca13_2 fa13_2 ca13_3 fa13_3 ca14_0 fa14_0 ca14_1 fa14_1 ca14_2 fa14_2 ca14_3 fa14_3
    go_ret
    exact ⟨ret_bool rfl, kw⟩
end Go.Proofs.Ytellocnplemjmaa
