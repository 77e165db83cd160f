/- Published tables in memory, the helpers of their laws. -/
import Derived.Test.YtohjkpopbmmliaaGreatTabH
import Derived.Deep.RegionHeld3
namespace Go.Proofs.YtohjkpopbmmliaaGreat
open Go.ChangeShapes Go.WideShapes Go.ChangeAt Go.RowKit Go.Deep
set_option linter.unusedVariables false
set_option linter.unusedSimpArgs false

abbrev PP := TT × List Int
def p0 : PP := (t0, [])
def dP (p : PP) : List D := [.i p.1.1, .sl p.1.2.1.length (p.1.2.1.map D.i), .sl p.1.2.2.1.length (p.1.2.2.1.map D.i), .i p.1.2.2.2, .sl p.2.length (p.2.map D.i)]
theorem dP_len (p : PP) : (dP p).length = 5 := rfl
def smP (p : PP) : Prop := smT p.1 ∧ p.2.length ≤ 67108864
structure Pubs (ex un : Bool) (w : World) (lo hi : Nat) (A : Option Addr) (n : Nat) (l : List PP) : Prop where
  r : RgS ex un w lo hi A n (l.flatMap dP)
  len : l.length = n
  le : n ≤ 67108864
  sm : ∀ j, smP (l.getD j p0)
section
variable {ex un : Bool} {w w' : World} {lo hi n : Nat} {A : Option Addr} {l : List PP}
theorem Pubs.top (h : Pubs ex un w lo hi A n l) : hi ≤ w.heap.size := h.r.1
theorem Pubs.fr {a b : Nat} (h : Pubs ex un w lo hi A n l) (f : Fr a b w w') (ho : b ≤ lo ∨ hi ≤ a ∨ b ≤ a) : Pubs ex un w' lo hi A n l := ⟨h.r.fr f ho, h.len, h.le, h.sm⟩
theorem Pubs.keeps (h : Pubs ex un w lo hi A n l) (k : Keeps w w') : Pubs ex un w' lo hi A n l := ⟨h.r.keeps k, h.len, h.le, h.sm⟩
theorem Pubs.widen {lo' hi' : Nat} (h : Pubs ex un w lo hi A n l) (h1 : lo' ≤ lo) (h2 : hi ≤ hi') (h3 : hi' ≤ w.heap.size) : Pubs ex un w lo' hi' A n l := ⟨h.r.widen h1 h2 h3, h.len, h.le, h.sm⟩
theorem Pubs.weak {ex' un' : Bool} (h : Pubs ex un w lo hi A n l) (h1 : ex' = true → ex = true) (h2 : un' = true → un = true) : Pubs ex' un' w lo hi A n l := ⟨h.r.weak h1 h2, h.len, h.le, h.sm⟩
theorem Pubs.at_ {k : Nat} (h : Pubs true un w lo hi A n l) (hk : k < n) :
    ∃ b off lv V nv cv H nh ch sm K nk ck vs hs zs, A = some ⟨b, off, none⟩ ∧ lo ≤ b ∧ b < hi ∧ w.cell? ⟨b, off + k * 5, none⟩ = some (.int .i64 lv) ∧ w.cell? ⟨b, off + k * 5 + 1, none⟩ = some (.slice V nv cv) ∧ w.cell? ⟨b, off + k * 5 + 2, none⟩ = some (.slice H nh ch) ∧ w.cell? ⟨b, off + k * 5 + 3, none⟩ = some (.int .i64 sm) ∧ w.cell? ⟨b, off + k * 5 + 4, none⟩ = some (.slice K nk ck) ∧ Ints w lo hi V nv vs ∧ Ints w lo hi H nh hs ∧ Ints w lo hi K nk zs ∧ Hid (((lv, vs, hs, sm), zs) = l.getD k p0) := by
  obtain ⟨b, off, e, h1, h2, h3⟩ := h.r.row dP_len p0 h.len hk
  obtain ⟨u0, c0, _, g0⟩ := h3 0 (by omega)
  obtain ⟨u1, c1, _, g1⟩ := h3 1 (by omega)
  obtain ⟨u2, c2, _, g2⟩ := h3 2 (by omega)
  obtain ⟨u3, c3, _, g3⟩ := h3 3 (by omega)
  obtain ⟨u4, c4, _, g4⟩ := h3 4 (by omega)
  obtain rfl := Rg.i_ (x := (l.getD k p0).1.1) g0
  obtain rfl := Rg.i_ (x := (l.getD k p0).1.2.2.2) g3
  obtain ⟨V, cv, rfl, gv⟩ := Rg.sl (n := (l.getD k p0).1.2.1.length) (ds := (l.getD k p0).1.2.1.map D.i) g1
  obtain ⟨H, ch, rfl, gh⟩ := Rg.sl (n := (l.getD k p0).1.2.2.1.length) (ds := (l.getD k p0).1.2.2.1.map D.i) g2
  obtain ⟨K, ck, rfl, gk⟩ := Rg.sl (n := (l.getD k p0).2.length) (ds := (l.getD k p0).2.map D.i) g4
  exact ⟨b, off, _, V, _, cv, H, _, ch, _, K, _, ck, _, _, _, e, h1, h2, c0, c1, c2, c3, c4, gv.ints rfl (h.sm k).1.1, gh.ints rfl (h.sm k).1.2, gk.ints rfl (h.sm k).2, rfl⟩
end
/-- Sizes, as the laws count them. -/
def szPP (p : PP) : Nat := p.1.2.1.length + p.1.2.2.1.length + p.2.length
theorem szL_dP (p : PP) : szL (dP p) = szPP p := by simp [dP, szL, szD, szL_ints, szPP]; omega
def psz (l : List PP) : Nat → Nat := szR dP l
theorem psz_zero (l : List PP) : psz l 0 = 0 := szR_zero dP l
theorem psz_succ {l : List PP} {k : Nat} (h : k < l.length) : psz l (k + 1) = psz l k + szPP (l.getD k p0) := by unfold psz; rw [szR_succ dP p0 l k h, szL_dP]
theorem psz_mono {l : List PP} {i j : Nat} (h : i ≤ j) (hj : j ≤ l.length) : psz l i ≤ psz l j := szR_mono dP p0 l h hj
/-- Published tables that came in. -/
structure PubsArg (w : World) (A : Option Addr) (n : Nat) (l : List PP) : Prop where
  r : RgS true false w 0 w.heap.size A n (l.flatMap dP)
  len : l.length = n
  le : n ≤ maxLen
  sm : ∀ j, ((l.getD j p0).1.2.1.length ≤ maxLen ∧ (l.getD j p0).1.2.2.1.length ≤ maxLen) ∧ (l.getD j p0).2.length ≤ maxLen
theorem psz_at {l : List PP} {n : Nat} (hl : l.length = n) (j : Nat) : szPP (l.getD j p0) ≤ psz l n := by
  rcases Nat.lt_or_ge j n with h | h
  · have h1 := psz_succ (l := l) (k := j) (by omega)
    have h2 := psz_mono (l := l) (i := j + 1) (j := n) (by omega) (by omega)
    omega
  · rw [getD_out (by omega)]; simp [szPP, p0, t0]
theorem PubsArg.keeps {w w' : World} {A : Option Addr} {n : Nat} {l : List PP} (h : PubsArg w A n l) (k : Keeps w w') : PubsArg w' A n l := ⟨(h.r.keeps k).widen (Nat.le_refl _) k.size (Nat.le_refl _), h.len, h.le, h.sm⟩
theorem PubsArg.pubs {w : World} {A : Option Addr} {n : Nat} {l : List PP} (h : PubsArg w A n l) (hs : n + psz l n ≤ 67108864) : Pubs true false w 0 w.heap.size A n l :=
  ⟨h.r, h.len, by omega, fun j => by have := psz_at h.len j; unfold szPP at this; exact ⟨⟨by omega, by omega⟩, by omega⟩⟩
/-- The head of a published table that came in. -/
theorem PubsArg.at_ {w : World} {A : Option Addr} {n k : Nat} {l : List PP} (h : PubsArg w A n l) (hk : k < n) :
    ∃ b off lv V nv cv H nh ch sm K nk ck, A = some ⟨b, off, none⟩ ∧ b < w.heap.size ∧ w.cell? ⟨b, off + k * 5, none⟩ = some (.int .i64 lv) ∧ w.cell? ⟨b, off + k * 5 + 1, none⟩ = some (.slice V nv cv) ∧ w.cell? ⟨b, off + k * 5 + 2, none⟩ = some (.slice H nh ch) ∧ w.cell? ⟨b, off + k * 5 + 3, none⟩ = some (.int .i64 sm) ∧ w.cell? ⟨b, off + k * 5 + 4, none⟩ = some (.slice K nk ck) ∧ nv ≤ maxLen ∧ nh ≤ maxLen ∧ nk ≤ maxLen ∧ Hid (szPP (l.getD k p0) = nv + nh + nk) := by
  obtain ⟨b, off, e, h1, h2, h3⟩ := h.r.row dP_len p0 h.len hk
  obtain ⟨u0, c0, _, g0⟩ := h3 0 (by omega)
  obtain ⟨u1, c1, _, g1⟩ := h3 1 (by omega)
  obtain ⟨u2, c2, _, g2⟩ := h3 2 (by omega)
  obtain ⟨u3, c3, _, g3⟩ := h3 3 (by omega)
  obtain ⟨u4, c4, _, g4⟩ := h3 4 (by omega)
  obtain rfl := Rg.i_ (x := (l.getD k p0).1.1) g0
  obtain rfl := Rg.i_ (x := (l.getD k p0).1.2.2.2) g3
  obtain ⟨V, cv, rfl, gv⟩ := Rg.sl (n := (l.getD k p0).1.2.1.length) (ds := (l.getD k p0).1.2.1.map D.i) g1
  obtain ⟨H, ch, rfl, gh⟩ := Rg.sl (n := (l.getD k p0).1.2.2.1.length) (ds := (l.getD k p0).1.2.2.1.map D.i) g2
  obtain ⟨K, ck, rfl, gk⟩ := Rg.sl (n := (l.getD k p0).2.length) (ds := (l.getD k p0).2.map D.i) g4
  exact ⟨b, off, _, V, _, cv, H, _, ch, _, K, _, ck, e, h2, c0, c1, c2, c3, c4, (h.sm k).1.1, (h.sm k).1.2, (h.sm k).2, rfl⟩
def okP (p : PP) : Prop := okT p.1 ∧ p.2.length ≤ maxLen
theorem HkL.pub {r : List D} (h : HkL [.i, .sl [.i], .sl [.i], .i, .sl [.i]] r) : ∃ p : PP, r = dP p ∧ okP p := by
  obtain ⟨d1, ds1, rfl, g1, h1⟩ := h.inv
  obtain ⟨d2, ds2, rfl, g2, h2⟩ := h1.inv
  obtain ⟨d3, ds3, rfl, g3, h3⟩ := h2.inv
  obtain ⟨d4, ds4, rfl, g4, h4⟩ := h3.inv
  obtain ⟨d5, ds5, rfl, g5, h5⟩ := h4.inv
  obtain rfl := h5.inv0
  obtain ⟨x, rfl, hx⟩ := g1.inv_i
  obtain ⟨y, rfl, hy⟩ := g4.inv_i
  obtain ⟨vs, rfl, hv⟩ := g2.ints_
  obtain ⟨ws, rfl, hw⟩ := g3.ints_
  obtain ⟨zs, rfl, hz⟩ := g5.ints_
  exact ⟨((x, vs, ws, y), zs), rfl, ⟨hv, hw⟩, hz⟩
theorem Hk.pubs {d : D} (h : Hk (.sl [.i, .sl [.i], .sl [.i], .i, .sl [.i]]) d) : ∃ l : List PP, d = .sl l.length (l.flatMap dP) ∧ l.length ≤ maxLen ∧ ∀ a, a ∈ l → okP a := by
  obtain ⟨n, rows, rfl, h1, h2, h3⟩ := h.inv_sl
  obtain ⟨l, e1, e2, e3⟩ := rows_of (f := dP) (fun r hr => hr.pub) rows h3
  obtain rfl : l.length = n := by omega
  exact ⟨l, by rw [e1], h1, e3⟩
theorem pubsArg_of {w : World} {l : List PP} {v : Value} (h : Rd w 0 w.heap.size (.sl l.length (l.flatMap dP)) v) (hn : l.length ≤ maxLen) (ha : ∀ a, a ∈ l → okP a) : ∃ A c, v = .slice A l.length c ∧ PubsArg w A l.length l := by
  obtain ⟨A, c, e, hr⟩ := (Rd.rg _ _ h).sl
  exact ⟨A, c, e, hr, rfl, hn, fun j => all_getD ha (by simp [okP, okT, p0, t0]) j⟩
section
variable {H : Type} {enc : TypeId × Value → H} {w : World} {held : Bool}
end

/-- A published table of one's own. -/
def Pub1Res (w : World) (lv : Int) (n : Nat) (xs : List Int) (m : Nat) (ys : List Int) (sm : Int) (q : Nat) (zs : List Int) (e : Ending) (w' : World) : Prop :=
  ∃ V' H' K', e = .returned (.agg #[.int .i64 lv, .slice V' n n, .slice H' m m, .int .i64 sm, .slice K' q q]) ∧ Mine w' w.heap.size w'.heap.size V' n xs ∧ Mine w' w.heap.size w'.heap.size H' m ys ∧ Mine w' w.heap.size w'.heap.size K' q zs ∧ Keeps w w'
set_option maxRecDepth 100000 in
set_option maxHeartbeats 1600000 in
theorem eqPub1_true {V H K : Option Addr} {n c m d k0 ck : Nat} {lv sm : Int} {w : World} {V' H' K' : Option Addr} {c' d' e' lo hi lo' hi' lo2 hi2 lo3 hi3 lo4 hi4 lo5 hi5 : Nat} {xs ys zs : List Int} (h : Ints w lo hi V n xs) (g : Ints w lo2 hi2 H m ys) (f : Ints w lo4 hi4 K k0 zs) (h' : Ints w lo' hi' V' n xs) (g' : Ints w lo3 hi3 H' m ys) (f' : Ints w lo5 hi5 K' k0 zs) :
    Calls Tryz.prog 81 #[.agg #[.int .i64 lv, .slice V n c, .slice H m d, .int .i64 sm, .slice K k0 ck], .agg #[.int .i64 lv, .slice V' n c', .slice H' m d', .int .i64 sm, .slice K' k0 e']] w fun e w' => e = .returned (.bool true) ∧ Keeps w w' := by
  go_enter Tryz.func81, Tryz.ntmps81
  have kw := keeps_refl w
  replace kw := Keeps.trans kw (keeps_alloc w (.cells #[.int .i64 lv, .slice V n c, .slice H m d, .int .i64 sm, .slice K k0 ck] 125))
  have b2 : Bl (w.alloc (.cells #[.int .i64 lv, .slice V n c, .slice H m d, .int .i64 sm, .slice K k0 ck] 125)) w.heap.size [.int .i64 lv, .slice V n c, .slice H m d, .int .i64 sm, .slice K k0 ck] := Bl.new' (by simp) (by simp)
  replace b2 := b2.keeps (keeps_alloc (w.alloc (.cells #[.int .i64 lv, .slice V n c, .slice H m d, .int .i64 sm, .slice K k0 ck] 125)) (.cells #[.int .i64 lv, .slice V' n c', .slice H' m d', .int .i64 sm, .slice K' k0 e'] 125))
  replace kw := Keeps.trans kw (keeps_alloc (w.alloc (.cells #[.int .i64 lv, .slice V n c, .slice H m d, .int .i64 sm, .slice K k0 ck] 125)) (.cells #[.int .i64 lv, .slice V' n c', .slice H' m d', .int .i64 sm, .slice K' k0 e'] 125))
  have b3 : Bl ((w.alloc (.cells #[.int .i64 lv, .slice V n c, .slice H m d, .int .i64 sm, .slice K k0 ck] 125)).alloc (.cells #[.int .i64 lv, .slice V' n c', .slice H' m d', .int .i64 sm, .slice K' k0 e'] 125)) (w.heap.size + 1) [.int .i64 lv, .slice V' n c', .slice H' m d', .int .i64 sm, .slice K' k0 e'] := Bl.new' (by simp) (by simp)
  have ca1_0 : ((w.alloc (.cells #[.int .i64 lv, .slice V n c, .slice H m d, .int .i64 sm, .slice K k0 ck] 125)).alloc (.cells #[.int .i64 lv, .slice V' n c', .slice H' m d', .int .i64 sm, .slice K' k0 e'] 125)).cell? ⟨w.heap.size, 0, none⟩ = some (.int .i64 lv) := (b2.2 0 _ rfl).1
  have fa1_0 : ((w.alloc (.cells #[.int .i64 lv, .slice V n c, .slice H m d, .int .i64 sm, .slice K k0 ck] 125)).alloc (.cells #[.int .i64 lv, .slice V' n c', .slice H' m d', .int .i64 sm, .slice K' k0 e'] 125)).frozen? ⟨w.heap.size, 0, none⟩ = false := (b2.2 0 _ rfl).2
  have ca1_1 : ((w.alloc (.cells #[.int .i64 lv, .slice V n c, .slice H m d, .int .i64 sm, .slice K k0 ck] 125)).alloc (.cells #[.int .i64 lv, .slice V' n c', .slice H' m d', .int .i64 sm, .slice K' k0 e'] 125)).cell? ⟨w.heap.size, 1, none⟩ = some (.slice V n c) := (b2.2 1 _ rfl).1
  have fa1_1 : ((w.alloc (.cells #[.int .i64 lv, .slice V n c, .slice H m d, .int .i64 sm, .slice K k0 ck] 125)).alloc (.cells #[.int .i64 lv, .slice V' n c', .slice H' m d', .int .i64 sm, .slice K' k0 e'] 125)).frozen? ⟨w.heap.size, 1, none⟩ = false := (b2.2 1 _ rfl).2
  have ca1_2 : ((w.alloc (.cells #[.int .i64 lv, .slice V n c, .slice H m d, .int .i64 sm, .slice K k0 ck] 125)).alloc (.cells #[.int .i64 lv, .slice V' n c', .slice H' m d', .int .i64 sm, .slice K' k0 e'] 125)).cell? ⟨w.heap.size, 2, none⟩ = some (.slice H m d) := (b2.2 2 _ rfl).1
  have fa1_2 : ((w.alloc (.cells #[.int .i64 lv, .slice V n c, .slice H m d, .int .i64 sm, .slice K k0 ck] 125)).alloc (.cells #[.int .i64 lv, .slice V' n c', .slice H' m d', .int .i64 sm, .slice K' k0 e'] 125)).frozen? ⟨w.heap.size, 2, none⟩ = false := (b2.2 2 _ rfl).2
  have ca1_3 : ((w.alloc (.cells #[.int .i64 lv, .slice V n c, .slice H m d, .int .i64 sm, .slice K k0 ck] 125)).alloc (.cells #[.int .i64 lv, .slice V' n c', .slice H' m d', .int .i64 sm, .slice K' k0 e'] 125)).cell? ⟨w.heap.size, 3, none⟩ = some (.int .i64 sm) := (b2.2 3 _ rfl).1
  have fa1_3 : ((w.alloc (.cells #[.int .i64 lv, .slice V n c, .slice H m d, .int .i64 sm, .slice K k0 ck] 125)).alloc (.cells #[.int .i64 lv, .slice V' n c', .slice H' m d', .int .i64 sm, .slice K' k0 e'] 125)).frozen? ⟨w.heap.size, 3, none⟩ = false := (b2.2 3 _ rfl).2
  have ca1_4 : ((w.alloc (.cells #[.int .i64 lv, .slice V n c, .slice H m d, .int .i64 sm, .slice K k0 ck] 125)).alloc (.cells #[.int .i64 lv, .slice V' n c', .slice H' m d', .int .i64 sm, .slice K' k0 e'] 125)).cell? ⟨w.heap.size, 4, none⟩ = some (.slice K k0 ck) := (b2.2 4 _ rfl).1
  have fa1_4 : ((w.alloc (.cells #[.int .i64 lv, .slice V n c, .slice H m d, .int .i64 sm, .slice K k0 ck] 125)).alloc (.cells #[.int .i64 lv, .slice V' n c', .slice H' m d', .int .i64 sm, .slice K' k0 e'] 125)).frozen? ⟨w.heap.size, 4, none⟩ = false := (b2.2 4 _ rfl).2
  have ca2_0 : ((w.alloc (.cells #[.int .i64 lv, .slice V n c, .slice H m d, .int .i64 sm, .slice K k0 ck] 125)).alloc (.cells #[.int .i64 lv, .slice V' n c', .slice H' m d', .int .i64 sm, .slice K' k0 e'] 125)).cell? ⟨w.heap.size + 1, 0, none⟩ = some (.int .i64 lv) := (b3.2 0 _ rfl).1
  have fa2_0 : ((w.alloc (.cells #[.int .i64 lv, .slice V n c, .slice H m d, .int .i64 sm, .slice K k0 ck] 125)).alloc (.cells #[.int .i64 lv, .slice V' n c', .slice H' m d', .int .i64 sm, .slice K' k0 e'] 125)).frozen? ⟨w.heap.size + 1, 0, none⟩ = false := (b3.2 0 _ rfl).2
  have ca2_1 : ((w.alloc (.cells #[.int .i64 lv, .slice V n c, .slice H m d, .int .i64 sm, .slice K k0 ck] 125)).alloc (.cells #[.int .i64 lv, .slice V' n c', .slice H' m d', .int .i64 sm, .slice K' k0 e'] 125)).cell? ⟨w.heap.size + 1, 1, none⟩ = some (.slice V' n c') := (b3.2 1 _ rfl).1
  have fa2_1 : ((w.alloc (.cells #[.int .i64 lv, .slice V n c, .slice H m d, .int .i64 sm, .slice K k0 ck] 125)).alloc (.cells #[.int .i64 lv, .slice V' n c', .slice H' m d', .int .i64 sm, .slice K' k0 e'] 125)).frozen? ⟨w.heap.size + 1, 1, none⟩ = false := (b3.2 1 _ rfl).2
  have ca2_2 : ((w.alloc (.cells #[.int .i64 lv, .slice V n c, .slice H m d, .int .i64 sm, .slice K k0 ck] 125)).alloc (.cells #[.int .i64 lv, .slice V' n c', .slice H' m d', .int .i64 sm, .slice K' k0 e'] 125)).cell? ⟨w.heap.size + 1, 2, none⟩ = some (.slice H' m d') := (b3.2 2 _ rfl).1
  have fa2_2 : ((w.alloc (.cells #[.int .i64 lv, .slice V n c, .slice H m d, .int .i64 sm, .slice K k0 ck] 125)).alloc (.cells #[.int .i64 lv, .slice V' n c', .slice H' m d', .int .i64 sm, .slice K' k0 e'] 125)).frozen? ⟨w.heap.size + 1, 2, none⟩ = false := (b3.2 2 _ rfl).2
  have ca2_3 : ((w.alloc (.cells #[.int .i64 lv, .slice V n c, .slice H m d, .int .i64 sm, .slice K k0 ck] 125)).alloc (.cells #[.int .i64 lv, .slice V' n c', .slice H' m d', .int .i64 sm, .slice K' k0 e'] 125)).cell? ⟨w.heap.size + 1, 3, none⟩ = some (.int .i64 sm) := (b3.2 3 _ rfl).1
  have fa2_3 : ((w.alloc (.cells #[.int .i64 lv, .slice V n c, .slice H m d, .int .i64 sm, .slice K k0 ck] 125)).alloc (.cells #[.int .i64 lv, .slice V' n c', .slice H' m d', .int .i64 sm, .slice K' k0 e'] 125)).frozen? ⟨w.heap.size + 1, 3, none⟩ = false := (b3.2 3 _ rfl).2
  have ca2_4 : ((w.alloc (.cells #[.int .i64 lv, .slice V n c, .slice H m d, .int .i64 sm, .slice K k0 ck] 125)).alloc (.cells #[.int .i64 lv, .slice V' n c', .slice H' m d', .int .i64 sm, .slice K' k0 e'] 125)).cell? ⟨w.heap.size + 1, 4, none⟩ = some (.slice K' k0 e') := (b3.2 4 _ rfl).1
  have fa2_4 : ((w.alloc (.cells #[.int .i64 lv, .slice V n c, .slice H m d, .int .i64 sm, .slice K k0 ck] 125)).alloc (.cells #[.int .i64 lv, .slice V' n c', .slice H' m d', .int .i64 sm, .slice K' k0 e'] 125)).frozen? ⟨w.heap.size + 1, 4, none⟩ = false := (b3.2 4 _ rfl).2
  go_wp2_with fail
  clear ca1_0 fa1_0 ca1_1 fa1_1 ca1_2 fa1_2 ca1_3 fa1_3 ca1_4 fa1_4 ca2_0 fa2_0 ca2_1 fa2_1 ca2_2 fa2_2 ca2_3 fa2_3 ca2_4 fa2_4
  refine (eqTable_true (h.keeps kw) (g.keeps kw) (h'.keeps kw) (g'.keeps kw)).mono ?_
  rintro e w3 ⟨rfl, k3⟩
  replace b2 := b2.keeps k3
  replace b3 := b3.keeps k3
  replace kw := Keeps.trans kw k3
  have lt4 := b3.lt
  have sz5 := kw.size
  clear k3
  have ca6_0 : w3.cell? ⟨w.heap.size, 0, none⟩ = some (.int .i64 lv) := (b2.2 0 _ rfl).1
  have fa6_0 : w3.frozen? ⟨w.heap.size, 0, none⟩ = false := (b2.2 0 _ rfl).2
  have ca6_1 : w3.cell? ⟨w.heap.size, 1, none⟩ = some (.slice V n c) := (b2.2 1 _ rfl).1
  have fa6_1 : w3.frozen? ⟨w.heap.size, 1, none⟩ = false := (b2.2 1 _ rfl).2
  have ca6_2 : w3.cell? ⟨w.heap.size, 2, none⟩ = some (.slice H m d) := (b2.2 2 _ rfl).1
  have fa6_2 : w3.frozen? ⟨w.heap.size, 2, none⟩ = false := (b2.2 2 _ rfl).2
  have ca6_3 : w3.cell? ⟨w.heap.size, 3, none⟩ = some (.int .i64 sm) := (b2.2 3 _ rfl).1
  have fa6_3 : w3.frozen? ⟨w.heap.size, 3, none⟩ = false := (b2.2 3 _ rfl).2
  have ca6_4 : w3.cell? ⟨w.heap.size, 4, none⟩ = some (.slice K k0 ck) := (b2.2 4 _ rfl).1
  have fa6_4 : w3.frozen? ⟨w.heap.size, 4, none⟩ = false := (b2.2 4 _ rfl).2
  have ca7_0 : w3.cell? ⟨w.heap.size + 1, 0, none⟩ = some (.int .i64 lv) := (b3.2 0 _ rfl).1
  have fa7_0 : w3.frozen? ⟨w.heap.size + 1, 0, none⟩ = false := (b3.2 0 _ rfl).2
  have ca7_1 : w3.cell? ⟨w.heap.size + 1, 1, none⟩ = some (.slice V' n c') := (b3.2 1 _ rfl).1
  have fa7_1 : w3.frozen? ⟨w.heap.size + 1, 1, none⟩ = false := (b3.2 1 _ rfl).2
  have ca7_2 : w3.cell? ⟨w.heap.size + 1, 2, none⟩ = some (.slice H' m d') := (b3.2 2 _ rfl).1
  have fa7_2 : w3.frozen? ⟨w.heap.size + 1, 2, none⟩ = false := (b3.2 2 _ rfl).2
  have ca7_3 : w3.cell? ⟨w.heap.size + 1, 3, none⟩ = some (.int .i64 sm) := (b3.2 3 _ rfl).1
  have fa7_3 : w3.frozen? ⟨w.heap.size + 1, 3, none⟩ = false := (b3.2 3 _ rfl).2
  have ca7_4 : w3.cell? ⟨w.heap.size + 1, 4, none⟩ = some (.slice K' k0 e') := (b3.2 4 _ rfl).1
  have fa7_4 : w3.frozen? ⟨w.heap.size + 1, 4, none⟩ = false := (b3.2 4 _ rfl).2
  go_wp2_with fail
  clear ca6_0 fa6_0 ca6_1 fa6_1 ca6_2 fa6_2 ca6_3 fa6_3 ca6_4 fa6_4 ca7_0 fa7_0 ca7_1 fa7_1 ca7_2 fa7_2 ca7_3 fa7_3 ca7_4 fa7_4
  refine (eqIntS_true (f.keeps kw) (f'.keeps kw)).mono ?_
  rintro e w8 ⟨rfl, k8⟩
  replace k8 := Quiet.keeps k8
  replace b2 := b2.keeps k8
  replace b3 := b3.keeps k8
  replace kw := Keeps.trans kw k8
  have lt9 := b3.lt
  have sz10 := kw.size
  clear k8
  have ca11_0 : w8.cell? ⟨w.heap.size, 0, none⟩ = some (.int .i64 lv) := (b2.2 0 _ rfl).1
  have fa11_0 : w8.frozen? ⟨w.heap.size, 0, none⟩ = false := (b2.2 0 _ rfl).2
  have ca11_1 : w8.cell? ⟨w.heap.size, 1, none⟩ = some (.slice V n c) := (b2.2 1 _ rfl).1
  have fa11_1 : w8.frozen? ⟨w.heap.size, 1, none⟩ = false := (b2.2 1 _ rfl).2
  have ca11_2 : w8.cell? ⟨w.heap.size, 2, none⟩ = some (.slice H m d) := (b2.2 2 _ rfl).1
  have fa11_2 : w8.frozen? ⟨w.heap.size, 2, none⟩ = false := (b2.2 2 _ rfl).2
  have ca11_3 : w8.cell? ⟨w.heap.size, 3, none⟩ = some (.int .i64 sm) := (b2.2 3 _ rfl).1
  have fa11_3 : w8.frozen? ⟨w.heap.size, 3, none⟩ = false := (b2.2 3 _ rfl).2
  have ca11_4 : w8.cell? ⟨w.heap.size, 4, none⟩ = some (.slice K k0 ck) := (b2.2 4 _ rfl).1
  have fa11_4 : w8.frozen? ⟨w.heap.size, 4, none⟩ = false := (b2.2 4 _ rfl).2
  have ca12_0 : w8.cell? ⟨w.heap.size + 1, 0, none⟩ = some (.int .i64 lv) := (b3.2 0 _ rfl).1
  have fa12_0 : w8.frozen? ⟨w.heap.size + 1, 0, none⟩ = false := (b3.2 0 _ rfl).2
  have ca12_1 : w8.cell? ⟨w.heap.size + 1, 1, none⟩ = some (.slice V' n c') := (b3.2 1 _ rfl).1
  have fa12_1 : w8.frozen? ⟨w.heap.size + 1, 1, none⟩ = false := (b3.2 1 _ rfl).2
  have ca12_2 : w8.cell? ⟨w.heap.size + 1, 2, none⟩ = some (.slice H' m d') := (b3.2 2 _ rfl).1
  have fa12_2 : w8.frozen? ⟨w.heap.size + 1, 2, none⟩ = false := (b3.2 2 _ rfl).2
  have ca12_3 : w8.cell? ⟨w.heap.size + 1, 3, none⟩ = some (.int .i64 sm) := (b3.2 3 _ rfl).1
  have fa12_3 : w8.frozen? ⟨w.heap.size + 1, 3, none⟩ = false := (b3.2 3 _ rfl).2
  have ca12_4 : w8.cell? ⟨w.heap.size + 1, 4, none⟩ = some (.slice K' k0 e') := (b3.2 4 _ rfl).1
  have fa12_4 : w8.frozen? ⟨w.heap.size + 1, 4, none⟩ = false := (b3.2 4 _ rfl).2
  go_wp2_with fail
  clear ca11_0 fa11_0 ca11_1 fa11_1 ca11_2 fa11_2 ca11_3 fa11_3 ca11_4 fa11_4 ca12_0 fa12_0 ca12_1 fa12_1 ca12_2 fa12_2 ca12_3 fa12_3 ca12_4 fa12_4
  go_ret
  exact ⟨rfl, kw⟩
set_option maxRecDepth 100000 in
set_option maxHeartbeats 6400000 in
theorem eqPublishedS_true {A B : Option Addr} {lo hi lo' hi' n n' c c' : Nat} {un un' : Bool} {l : List PP} {w : World} (ha : Pubs true un w lo hi A n l) (hb : Pubs true un' w lo' hi' B n' l) :
    Calls Tryz.prog 30 #[.slice A n c, .slice B n' c'] w fun e w' => e = .returned (.bool true) ∧ Keeps w w' := by
  obtain rfl : n = n' := ha.len.symm.trans hb.len
  have hn := ha.le
  have hbb : ((n : Int) != n) = false := by simp
  go_enter Tryz.func30, Tryz.ntmps30
  go_wp2_with fail
  go_loopw [5] (fun i wr => ∃ k : Nat, k ≤ n ∧ i = .int .i64 k ∧ Keeps w wr) (fun i _ => n - (intOf i).toNat)
  case atStart => exact ⟨0, Nat.zero_le _, rfl, keeps_refl _⟩
  case round =>
    obtain ⟨k, hk, rfl, hq⟩ := hrel
    by_cases hlt : k < n
    · obtain ⟨b, off, lv, V, nv, cv, H, nh, ch, sm, K, nk, ck, vs, hs, zs, rfl, _, _, hc0, hc1, hc2, hc3, hc4, hv, hh, hkk, hx⟩ := (ha.keeps hq).at_ hlt
      obtain ⟨b', off', lv', V', nv', cv', H', nh', ch', sm', K', nk', ck', vs', hs', zs', rfl, _, _, hc0', hc1', hc2', hc3', hc4', hv', hh', hkk', hx'⟩ := (hb.keeps hq).at_ hlt
      have e0 := hx.out.trans hx'.out.symm
      obtain rfl : lv = lv' := congrArg (fun p : PP => p.1.1) e0
      obtain rfl : vs = vs' := congrArg (fun p : PP => p.1.2.1) e0
      obtain rfl : hs = hs' := congrArg (fun p : PP => p.1.2.2.1) e0
      obtain rfl : sm = sm' := congrArg (fun p : PP => p.1.2.2.2) e0
      obtain rfl : zs = zs' := congrArg (fun p : PP => p.2) e0
      obtain rfl : nv = nv' := hv.1.symm.trans hv'.1
      obtain rfl : nh = nh' := hh.1.symm.trans hh'.1
      obtain rfl : nk = nk' := hkk.1.symm.trans hkk'.1
      clear hx hx' e0
      have hi1 : (k : Int) < (n : Int) := by omega
      have kS := hid (show ∀ w', Keeps wr w' → (w'.cell? ⟨b, off + k * 5, none⟩ = some (.int .i64 lv) ∧ w'.cell? ⟨b, off + k * 5 + 1, none⟩ = some (.slice V nv cv) ∧ w'.cell? ⟨b, off + k * 5 + 2, none⟩ = some (.slice H nh ch) ∧ w'.cell? ⟨b, off + k * 5 + 3, none⟩ = some (.int .i64 sm) ∧ w'.cell? ⟨b, off + k * 5 + 4, none⟩ = some (.slice K nk ck) ∧ w'.cell? ⟨b', off' + k * 5, none⟩ = some (.int .i64 lv) ∧ w'.cell? ⟨b', off' + k * 5 + 1, none⟩ = some (.slice V' nv cv') ∧ w'.cell? ⟨b', off' + k * 5 + 2, none⟩ = some (.slice H' nh ch') ∧ w'.cell? ⟨b', off' + k * 5 + 3, none⟩ = some (.int .i64 sm) ∧ w'.cell? ⟨b', off' + k * 5 + 4, none⟩ = some (.slice K' nk ck')) from fun w' q => ⟨cell_keeps hc0 q, cell_keeps hc1 q, cell_keeps hc2 q, cell_keeps hc3 q, cell_keeps hc4 q, cell_keeps hc0' q, cell_keeps hc1' q, cell_keeps hc2' q, cell_keeps hc3' q, cell_keeps hc4' q⟩)
      go_wp2_with fail
      go_region_held3 (fun w' => w'.cell? ⟨b, off + k * 5, none⟩ = some (.int .i64 lv) ∧ w'.cell? ⟨b, off + k * 5 + 1, none⟩ = some (.slice V nv cv) ∧ w'.cell? ⟨b, off + k * 5 + 2, none⟩ = some (.slice H nh ch) ∧ w'.cell? ⟨b, off + k * 5 + 3, none⟩ = some (.int .i64 sm) ∧ w'.cell? ⟨b, off + k * 5 + 4, none⟩ = some (.slice K nk ck) ∧ w'.cell? ⟨b', off' + k * 5, none⟩ = some (.int .i64 lv) ∧ w'.cell? ⟨b', off' + k * 5 + 1, none⟩ = some (.slice V' nv cv') ∧ w'.cell? ⟨b', off' + k * 5 + 2, none⟩ = some (.slice H' nh ch') ∧ w'.cell? ⟨b', off' + k * 5 + 3, none⟩ = some (.int .i64 sm) ∧ w'.cell? ⟨b', off' + k * 5 + 4, none⟩ = some (.slice K' nk ck')) (first | with_reducible exact kS.out _ (keeps_d0 _) | with_reducible exact kS.out _ k1 | go_keep)
        ((go_at_call 81; refine (eqPub1_true (hv.keeps (keeps_d0 wr)) (hh.keeps (keeps_d0 wr)) (hkk.keeps (keeps_d0 wr)) (hv'.keeps (keeps_d0 wr)) (hh'.keeps (keeps_d0 wr)) (hkk'.keeps (keeps_d0 wr))).mono ?_; rintro e w1 ⟨rfl, k0⟩; have k1 : Keeps wr w1 := keeps_d k0; clear k0))
      have H2 := hid (hq.trans k1)
      clear k1 hq kS
      go_wp2
      go_roundw
      case rel => exact ⟨k + 1, by omega, by go_num, H2.out⟩
      case measure => simp [intOf]; omega
    · go_wp2
      go_ret
      exact ⟨rfl, hq⟩
end Go.Proofs.YtohjkpopbmmliaaGreat
