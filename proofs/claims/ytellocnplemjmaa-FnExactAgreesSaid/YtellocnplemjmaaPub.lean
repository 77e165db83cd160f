/- Published tables in memory, the helpers of their laws. -/
import Derived.Test.YtellocnplemjmaaTabH
import Derived.Deep.RegionHeld3
namespace Go.Proofs.Ytellocnplemjmaa
open Go.ChangeShapes Go.WideShapes Go.ChangeAt Go.RowKit Go.Deep
set_option linter.unusedVariables false
set_option linter.unusedSimpArgs false

abbrev PP := TT × List Int
def p0 : PP := (t0, [])
def dP (p : PP) : List D := [.i p.1.1, .sl p.1.2.1.length (p.1.2.1.map D.i), .sl p.1.2.2.1.length (p.1.2.2.1.map D.i), .i p.1.2.2.2, .sl p.2.length (p.2.map D.i)]
theorem dP_len (p : PP) : (dP p).length = 5 := rfl
def smP (p : PP) : Prop := smT p.1 ∧ p.2.length ≤ 67108864
structure Pubs (ex un : Bool) (w : World) (lo hi : Nat) (A : Option Addr) (n : Nat) (l : List PP) : Prop where
  r : RgS ex un w lo hi A n (l.flatMap dP)
  len : l.length = n
  le : n ≤ 67108864
  sm : ∀ j, smP (l.getD j p0)
section
variable {ex un : Bool} {w w' : World} {lo hi n : Nat} {A : Option Addr} {l : List PP}
theorem Pubs.top (h : Pubs ex un w lo hi A n l) : hi ≤ w.heap.size := h.r.1
theorem Pubs.fr {a b : Nat} (h : Pubs ex un w lo hi A n l) (f : Fr a b w w') (ho : b ≤ lo ∨ hi ≤ a ∨ b ≤ a) : Pubs ex un w' lo hi A n l := ⟨h.r.fr f ho, h.len, h.le, h.sm⟩
theorem Pubs.keeps (h : Pubs ex un w lo hi A n l) (k : Keeps w w') : Pubs ex un w' lo hi A n l := ⟨h.r.keeps k, h.len, h.le, h.sm⟩
theorem Pubs.widen {lo' hi' : Nat} (h : Pubs ex un w lo hi A n l) (h1 : lo' ≤ lo) (h2 : hi ≤ hi') (h3 : hi' ≤ w.heap.size) : Pubs ex un w lo' hi' A n l := ⟨h.r.widen h1 h2 h3, h.len, h.le, h.sm⟩
theorem Pubs.weak {ex' un' : Bool} (h : Pubs ex un w lo hi A n l) (h1 : ex' = true → ex = true) (h2 : un' = true → un = true) : Pubs ex' un' w lo hi A n l := ⟨h.r.weak h1 h2, h.len, h.le, h.sm⟩
theorem Pubs.at_ {k : Nat} (h : Pubs true un w lo hi A n l) (hk : k < n) :
    ∃ b off lv V nv cv H nh ch sm K nk ck vs hs zs, A = some ⟨b, off, none⟩ ∧ lo ≤ b ∧ b < hi ∧ w.cell? ⟨b, off + k * 5, none⟩ = some (.int .i64 lv) ∧ w.cell? ⟨b, off + k * 5 + 1, none⟩ = some (.slice V nv cv) ∧ w.cell? ⟨b, off + k * 5 + 2, none⟩ = some (.slice H nh ch) ∧ w.cell? ⟨b, off + k * 5 + 3, none⟩ = some (.int .i64 sm) ∧ w.cell? ⟨b, off + k * 5 + 4, none⟩ = some (.slice K nk ck) ∧ Ints w lo hi V nv vs ∧ Ints w lo hi H nh hs ∧ Ints w lo hi K nk zs ∧ Hid (((lv, vs, hs, sm), zs) = l.getD k p0) := by
  obtain ⟨b, off, e, h1, h2, h3⟩ := h.r.row dP_len p0 h.len hk
  obtain ⟨u0, c0, _, g0⟩ := h3 0 (by omega)
  obtain ⟨u1, c1, _, g1⟩ := h3 1 (by omega)
  obtain ⟨u2, c2, _, g2⟩ := h3 2 (by omega)
  obtain ⟨u3, c3, _, g3⟩ := h3 3 (by omega)
  obtain ⟨u4, c4, _, g4⟩ := h3 4 (by omega)
  obtain rfl := Rg.i_ (x := (l.getD k p0).1.1) g0
  obtain rfl := Rg.i_ (x := (l.getD k p0).1.2.2.2) g3
  obtain ⟨V, cv, rfl, gv⟩ := Rg.sl (n := (l.getD k p0).1.2.1.length) (ds := (l.getD k p0).1.2.1.map D.i) g1
  obtain ⟨H, ch, rfl, gh⟩ := Rg.sl (n := (l.getD k p0).1.2.2.1.length) (ds := (l.getD k p0).1.2.2.1.map D.i) g2
  obtain ⟨K, ck, rfl, gk⟩ := Rg.sl (n := (l.getD k p0).2.length) (ds := (l.getD k p0).2.map D.i) g4
  exact ⟨b, off, _, V, _, cv, H, _, ch, _, K, _, ck, _, _, _, e, h1, h2, c0, c1, c2, c3, c4, gv.ints rfl (h.sm k).1.1, gh.ints rfl (h.sm k).1.2, gk.ints rfl (h.sm k).2, rfl⟩
end
/-- Sizes, as the laws count them. -/
def szPP (p : PP) : Nat := p.1.2.1.length + p.1.2.2.1.length + p.2.length
theorem szL_dP (p : PP) : szL (dP p) = szPP p := by simp [dP, szL, szD, szL_ints, szPP]; omega
def psz (l : List PP) : Nat → Nat := szR dP l
theorem psz_zero (l : List PP) : psz l 0 = 0 := szR_zero dP l
theorem psz_succ {l : List PP} {k : Nat} (h : k < l.length) : psz l (k + 1) = psz l k + szPP (l.getD k p0) := by unfold psz; rw [szR_succ dP p0 l k h, szL_dP]
theorem psz_mono {l : List PP} {i j : Nat} (h : i ≤ j) (hj : j ≤ l.length) : psz l i ≤ psz l j := szR_mono dP p0 l h hj
/-- Published tables that came in. -/
structure PubsArg (w : World) (A : Option Addr) (n : Nat) (l : List PP) : Prop where
  r : RgS true false w 0 w.heap.size A n (l.flatMap dP)
  len : l.length = n
  le : n ≤ maxLen
  sm : ∀ j, ((l.getD j p0).1.2.1.length ≤ maxLen ∧ (l.getD j p0).1.2.2.1.length ≤ maxLen) ∧ (l.getD j p0).2.length ≤ maxLen
theorem psz_at {l : List PP} {n : Nat} (hl : l.length = n) (j : Nat) : szPP (l.getD j p0) ≤ psz l n := by
  rcases Nat.lt_or_ge j n with h | h
  · have h1 := psz_succ (l := l) (k := j) (by omega)
    have h2 := psz_mono (l := l) (i := j + 1) (j := n) (by omega) (by omega)
    omega
  · rw [getD_out (by omega)]; simp [szPP, p0, t0]
theorem PubsArg.keeps {w w' : World} {A : Option Addr} {n : Nat} {l : List PP} (h : PubsArg w A n l) (k : Keeps w w') : PubsArg w' A n l := ⟨(h.r.keeps k).widen (Nat.le_refl _) k.size (Nat.le_refl _), h.len, h.le, h.sm⟩
theorem PubsArg.pubs {w : World} {A : Option Addr} {n : Nat} {l : List PP} (h : PubsArg w A n l) (hs : n + psz l n ≤ 67108864) : Pubs true false w 0 w.heap.size A n l :=
  ⟨h.r, h.len, by omega, fun j => by have := psz_at h.len j; unfold szPP at this; exact ⟨⟨by omega, by omega⟩, by omega⟩⟩
/-- The head of a published table that came in. -/
theorem PubsArg.at_ {w : World} {A : Option Addr} {n k : Nat} {l : List PP} (h : PubsArg w A n l) (hk : k < n) :
    ∃ b off lv V nv cv H nh ch sm K nk ck, A = some ⟨b, off, none⟩ ∧ b < w.heap.size ∧ w.cell? ⟨b, off + k * 5, none⟩ = some (.int .i64 lv) ∧ w.cell? ⟨b, off + k * 5 + 1, none⟩ = some (.slice V nv cv) ∧ w.cell? ⟨b, off + k * 5 + 2, none⟩ = some (.slice H nh ch) ∧ w.cell? ⟨b, off + k * 5 + 3, none⟩ = some (.int .i64 sm) ∧ w.cell? ⟨b, off + k * 5 + 4, none⟩ = some (.slice K nk ck) ∧ nv ≤ maxLen ∧ nh ≤ maxLen ∧ nk ≤ maxLen ∧ Hid (szPP (l.getD k p0) = nv + nh + nk) := by
  obtain ⟨b, off, e, h1, h2, h3⟩ := h.r.row dP_len p0 h.len hk
  obtain ⟨u0, c0, _, g0⟩ := h3 0 (by omega)
  obtain ⟨u1, c1, _, g1⟩ := h3 1 (by omega)
  obtain ⟨u2, c2, _, g2⟩ := h3 2 (by omega)
  obtain ⟨u3, c3, _, g3⟩ := h3 3 (by omega)
  obtain ⟨u4, c4, _, g4⟩ := h3 4 (by omega)
  obtain rfl := Rg.i_ (x := (l.getD k p0).1.1) g0
  obtain rfl := Rg.i_ (x := (l.getD k p0).1.2.2.2) g3
  obtain ⟨V, cv, rfl, gv⟩ := Rg.sl (n := (l.getD k p0).1.2.1.length) (ds := (l.getD k p0).1.2.1.map D.i) g1
  obtain ⟨H, ch, rfl, gh⟩ := Rg.sl (n := (l.getD k p0).1.2.2.1.length) (ds := (l.getD k p0).1.2.2.1.map D.i) g2
  obtain ⟨K, ck, rfl, gk⟩ := Rg.sl (n := (l.getD k p0).2.length) (ds := (l.getD k p0).2.map D.i) g4
  exact ⟨b, off, _, V, _, cv, H, _, ch, _, K, _, ck, e, h2, c0, c1, c2, c3, c4, (h.sm k).1.1, (h.sm k).1.2, (h.sm k).2, rfl⟩
def okP (p : PP) : Prop := okT p.1 ∧ p.2.length ≤ maxLen
theorem HkL.pub {r : List D} (h : HkL [.i, .sl [.i], .sl [.i], .i, .sl [.i]] r) : ∃ p : PP, r = dP p ∧ okP p := by
  obtain ⟨d1, ds1, rfl, g1, h1⟩ := h.inv
  obtain ⟨d2, ds2, rfl, g2, h2⟩ := h1.inv
  obtain ⟨d3, ds3, rfl, g3, h3⟩ := h2.inv
  obtain ⟨d4, ds4, rfl, g4, h4⟩ := h3.inv
  obtain ⟨d5, ds5, rfl, g5, h5⟩ := h4.inv
  obtain rfl := h5.inv0
  obtain ⟨x, rfl, hx⟩ := g1.inv_i
  obtain ⟨y, rfl, hy⟩ := g4.inv_i
  obtain ⟨vs, rfl, hv⟩ := g2.ints_
  obtain ⟨ws, rfl, hw⟩ := g3.ints_
  obtain ⟨zs, rfl, hz⟩ := g5.ints_
  exact ⟨((x, vs, ws, y), zs), rfl, ⟨hv, hw⟩, hz⟩
theorem Hk.pubs {d : D} (h : Hk (.sl [.i, .sl [.i], .sl [.i], .i, .sl [.i]]) d) : ∃ l : List PP, d = .sl l.length (l.flatMap dP) ∧ l.length ≤ maxLen ∧ ∀ a, a ∈ l → okP a := by
  obtain ⟨n, rows, rfl, h1, h2, h3⟩ := h.inv_sl
  obtain ⟨l, e1, e2, e3⟩ := rows_of (f := dP) (fun r hr => hr.pub) rows h3
  obtain rfl : l.length = n := by omega
  exact ⟨l, by rw [e1], h1, e3⟩
theorem pubsArg_of {w : World} {l : List PP} {v : Value} (h : Rd w 0 w.heap.size (.sl l.length (l.flatMap dP)) v) (hn : l.length ≤ maxLen) (ha : ∀ a, a ∈ l → okP a) : ∃ A c, v = .slice A l.length c ∧ PubsArg w A l.length l := by
  obtain ⟨A, c, e, hr⟩ := (Rd.rg _ _ h).sl
  exact ⟨A, c, e, hr, rfl, hn, fun j => all_getD ha (by simp [okP, okT, p0, t0]) j⟩
section
variable {H : Type} {enc : TypeId × Value → H} {w : World} {held : Bool}
theorem kinds_pubs : kinds Try.prog 6 58 = some [.sl [.i, .sl [.i], .sl [.i], .i, .sl [.i]]] := by kernel_rfl
set_option maxRecDepth 100000 in
theorem open_arg_pubs {r : Reach} {b0 : Nat} {v : Value} {d : DataW H} {p : List MemPlace} (hv : Value.okWide Try.prog w r b0 58 v) (h : DataW.Trod enc Try.prog w 0 (fun _ => true) held 58 v d p) :
    ∃ A n c l, v = .slice A n c ∧ PubsArg w A n l := by
  obtain ⟨A, n, c, rfl⟩ := okWide_slice Try.underlying58 hv
  obtain ⟨fuel, hf⟩ := h
  obtain ⟨ds, g1, g2⟩ := open_data 6 fuel _ _ _ _ kinds_pubs hf
  obtain ⟨d1, ds, rfl, k1, g1⟩ := g1.inv
  obtain rfl := g1.inv0
  have g3 : RdV w 0 w.heap.size [d1] [.slice A n c] := g2
  obtain ⟨l, rfl, hl, ha⟩ := k1.pubs
  obtain ⟨A', c', e, hA⟩ := pubsArg_of g3.1 hl ha
  exact ⟨A', _, c', l, e, hA⟩
end

set_option maxRecDepth 100000 in
set_option maxHeartbeats 1600000 in
theorem szPub1_any {V H K : Option Addr} {n c m d k0 ck : Nat} {lv sm : Int} {w : World} {left : Int} (hn : n ≤ maxLen) (hm : m ≤ maxLen) (hk : k0 ≤ maxLen) (h0 : 0 ≤ left) (h1 : left ≤ 1048576) :
    Calls Try.prog 46 #[.agg #[.int .i64 lv, .slice V n c, .slice H m d, .int .i64 sm, .slice K k0 ck], .int .i64 left] w fun e w' => e = .returned (.int .i64 (szQ left (n + m + k0))) ∧ Keeps w w' := by
  by_cases h : ((n + m : Nat) : Int) ≤ left
  rotate_left
  · have HE := hid (szQ_no (left := left) (s := n + m) h)
    have HQ := hid (szQ_no (left := left) (s := n + m + k0) (by omega))
    go_enter Try.func46, Try.ntmps46
    have kw := keeps_refl w
    replace kw := Keeps.trans kw (keeps_alloc w (.cells #[.int .i64 lv, .slice V n c, .slice H m d, .int .i64 sm, .slice K k0 ck] 89))
    have b2 : Bl (w.alloc (.cells #[.int .i64 lv, .slice V n c, .slice H m d, .int .i64 sm, .slice K k0 ck] 89)) w.heap.size [.int .i64 lv, .slice V n c, .slice H m d, .int .i64 sm, .slice K k0 ck] := Bl.new' (by simp) (by simp)
    have ca1_0 : (w.alloc (.cells #[.int .i64 lv, .slice V n c, .slice H m d, .int .i64 sm, .slice K k0 ck] 89)).cell? ⟨w.heap.size, 0, none⟩ = some (.int .i64 lv) := (b2.2 0 _ rfl).1
    have fa1_0 : (w.alloc (.cells #[.int .i64 lv, .slice V n c, .slice H m d, .int .i64 sm, .slice K k0 ck] 89)).frozen? ⟨w.heap.size, 0, none⟩ = false := (b2.2 0 _ rfl).2
    have ca1_1 : (w.alloc (.cells #[.int .i64 lv, .slice V n c, .slice H m d, .int .i64 sm, .slice K k0 ck] 89)).cell? ⟨w.heap.size, 1, none⟩ = some (.slice V n c) := (b2.2 1 _ rfl).1
    have fa1_1 : (w.alloc (.cells #[.int .i64 lv, .slice V n c, .slice H m d, .int .i64 sm, .slice K k0 ck] 89)).frozen? ⟨w.heap.size, 1, none⟩ = false := (b2.2 1 _ rfl).2
    have ca1_2 : (w.alloc (.cells #[.int .i64 lv, .slice V n c, .slice H m d, .int .i64 sm, .slice K k0 ck] 89)).cell? ⟨w.heap.size, 2, none⟩ = some (.slice H m d) := (b2.2 2 _ rfl).1
    have fa1_2 : (w.alloc (.cells #[.int .i64 lv, .slice V n c, .slice H m d, .int .i64 sm, .slice K k0 ck] 89)).frozen? ⟨w.heap.size, 2, none⟩ = false := (b2.2 2 _ rfl).2
    have ca1_3 : (w.alloc (.cells #[.int .i64 lv, .slice V n c, .slice H m d, .int .i64 sm, .slice K k0 ck] 89)).cell? ⟨w.heap.size, 3, none⟩ = some (.int .i64 sm) := (b2.2 3 _ rfl).1
    have fa1_3 : (w.alloc (.cells #[.int .i64 lv, .slice V n c, .slice H m d, .int .i64 sm, .slice K k0 ck] 89)).frozen? ⟨w.heap.size, 3, none⟩ = false := (b2.2 3 _ rfl).2
    have ca1_4 : (w.alloc (.cells #[.int .i64 lv, .slice V n c, .slice H m d, .int .i64 sm, .slice K k0 ck] 89)).cell? ⟨w.heap.size, 4, none⟩ = some (.slice K k0 ck) := (b2.2 4 _ rfl).1
    have fa1_4 : (w.alloc (.cells #[.int .i64 lv, .slice V n c, .slice H m d, .int .i64 sm, .slice K k0 ck] 89)).frozen? ⟨w.heap.size, 4, none⟩ = false := (b2.2 4 _ rfl).2
    go_wp2_with fail
    clear ca1_0 fa1_0 ca1_1 fa1_1 ca1_2 fa1_2 ca1_3 fa1_3 ca1_4 fa1_4
    refine (szTable_any hn hm h0 h1).mono ?_
    rintro e w2 ⟨rfl, k2⟩
    rw [HE.out]
    replace b2 := b2.keeps k2
    replace kw := Keeps.trans kw k2
    have lt3 := b2.lt
    have sz4 := kw.size
    clear k2
    go_wp2_with fail
    go_ret
    exact ⟨ret_int HQ.out.symm, kw⟩
  have HE := hid (szQ_ok (left := left) (s := n + m) h)
  obtain ⟨L, hL⟩ : ∃ L, left - ((n + m : Nat) : Int) = L := ⟨_, rfl⟩
  rw [hL] at HE
  have hL0 : 0 ≤ L := by omega
  have hL1 : L ≤ 1048576 := by omega
  have hL2 : ¬ L < 0 := by omega
  by_cases h2 : L - (k0 : Int) < 0
  · have HE2 := hid (szI_no (left := L) (n := k0) (by omega))
    have HQ := hid ((szQ_no (left := left) (s := n + m + k0) (by omega)))
    clear hL h
    go_enter Try.func46, Try.ntmps46
    have kw := keeps_refl w
    replace kw := Keeps.trans kw (keeps_alloc w (.cells #[.int .i64 lv, .slice V n c, .slice H m d, .int .i64 sm, .slice K k0 ck] 89))
    have b2 : Bl (w.alloc (.cells #[.int .i64 lv, .slice V n c, .slice H m d, .int .i64 sm, .slice K k0 ck] 89)) w.heap.size [.int .i64 lv, .slice V n c, .slice H m d, .int .i64 sm, .slice K k0 ck] := Bl.new' (by simp) (by simp)
    have ca1_0 : (w.alloc (.cells #[.int .i64 lv, .slice V n c, .slice H m d, .int .i64 sm, .slice K k0 ck] 89)).cell? ⟨w.heap.size, 0, none⟩ = some (.int .i64 lv) := (b2.2 0 _ rfl).1
    have fa1_0 : (w.alloc (.cells #[.int .i64 lv, .slice V n c, .slice H m d, .int .i64 sm, .slice K k0 ck] 89)).frozen? ⟨w.heap.size, 0, none⟩ = false := (b2.2 0 _ rfl).2
    have ca1_1 : (w.alloc (.cells #[.int .i64 lv, .slice V n c, .slice H m d, .int .i64 sm, .slice K k0 ck] 89)).cell? ⟨w.heap.size, 1, none⟩ = some (.slice V n c) := (b2.2 1 _ rfl).1
    have fa1_1 : (w.alloc (.cells #[.int .i64 lv, .slice V n c, .slice H m d, .int .i64 sm, .slice K k0 ck] 89)).frozen? ⟨w.heap.size, 1, none⟩ = false := (b2.2 1 _ rfl).2
    have ca1_2 : (w.alloc (.cells #[.int .i64 lv, .slice V n c, .slice H m d, .int .i64 sm, .slice K k0 ck] 89)).cell? ⟨w.heap.size, 2, none⟩ = some (.slice H m d) := (b2.2 2 _ rfl).1
    have fa1_2 : (w.alloc (.cells #[.int .i64 lv, .slice V n c, .slice H m d, .int .i64 sm, .slice K k0 ck] 89)).frozen? ⟨w.heap.size, 2, none⟩ = false := (b2.2 2 _ rfl).2
    have ca1_3 : (w.alloc (.cells #[.int .i64 lv, .slice V n c, .slice H m d, .int .i64 sm, .slice K k0 ck] 89)).cell? ⟨w.heap.size, 3, none⟩ = some (.int .i64 sm) := (b2.2 3 _ rfl).1
    have fa1_3 : (w.alloc (.cells #[.int .i64 lv, .slice V n c, .slice H m d, .int .i64 sm, .slice K k0 ck] 89)).frozen? ⟨w.heap.size, 3, none⟩ = false := (b2.2 3 _ rfl).2
    have ca1_4 : (w.alloc (.cells #[.int .i64 lv, .slice V n c, .slice H m d, .int .i64 sm, .slice K k0 ck] 89)).cell? ⟨w.heap.size, 4, none⟩ = some (.slice K k0 ck) := (b2.2 4 _ rfl).1
    have fa1_4 : (w.alloc (.cells #[.int .i64 lv, .slice V n c, .slice H m d, .int .i64 sm, .slice K k0 ck] 89)).frozen? ⟨w.heap.size, 4, none⟩ = false := (b2.2 4 _ rfl).2
    go_wp2_with fail
    clear ca1_0 fa1_0 ca1_1 fa1_1 ca1_2 fa1_2 ca1_3 fa1_3 ca1_4 fa1_4
    refine (szTable_any hn hm h0 h1).mono ?_
    rintro e w2 ⟨rfl, k2⟩
    rw [HE.out]
    replace b2 := b2.keeps k2
    replace kw := Keeps.trans kw k2
    have lt3 := b2.lt
    have sz4 := kw.size
    clear k2
    have ca5_0 : w2.cell? ⟨w.heap.size, 0, none⟩ = some (.int .i64 lv) := (b2.2 0 _ rfl).1
    have fa5_0 : w2.frozen? ⟨w.heap.size, 0, none⟩ = false := (b2.2 0 _ rfl).2
    have ca5_1 : w2.cell? ⟨w.heap.size, 1, none⟩ = some (.slice V n c) := (b2.2 1 _ rfl).1
    have fa5_1 : w2.frozen? ⟨w.heap.size, 1, none⟩ = false := (b2.2 1 _ rfl).2
    have ca5_2 : w2.cell? ⟨w.heap.size, 2, none⟩ = some (.slice H m d) := (b2.2 2 _ rfl).1
    have fa5_2 : w2.frozen? ⟨w.heap.size, 2, none⟩ = false := (b2.2 2 _ rfl).2
    have ca5_3 : w2.cell? ⟨w.heap.size, 3, none⟩ = some (.int .i64 sm) := (b2.2 3 _ rfl).1
    have fa5_3 : w2.frozen? ⟨w.heap.size, 3, none⟩ = false := (b2.2 3 _ rfl).2
    have ca5_4 : w2.cell? ⟨w.heap.size, 4, none⟩ = some (.slice K k0 ck) := (b2.2 4 _ rfl).1
    have fa5_4 : w2.frozen? ⟨w.heap.size, 4, none⟩ = false := (b2.2 4 _ rfl).2
    go_wp2_with fail
    clear ca5_0 fa5_0 ca5_1 fa5_1 ca5_2 fa5_2 ca5_3 fa5_3 ca5_4 fa5_4
    refine (szIntS_any _ _ _ L _ hk hL0 hL1).mono ?_
    rintro e w' ⟨rfl, rfl⟩
    rw [HE2.out]
    go_wp2_with fail
    go_ret
    exact ⟨ret_int HQ.out.symm, kw⟩
  · have HE2 := hid (szI_ok (left := L) (n := k0) (by omega))
    have HQ := hid ((szQ_ok (left := left) (s := n + m + k0) (by omega)).trans (show left - ((n + m + k0 : Nat) : Int) = L - k0 by omega))
    clear hL h
    go_enter Try.func46, Try.ntmps46
    have kw := keeps_refl w
    replace kw := Keeps.trans kw (keeps_alloc w (.cells #[.int .i64 lv, .slice V n c, .slice H m d, .int .i64 sm, .slice K k0 ck] 89))
    have b2 : Bl (w.alloc (.cells #[.int .i64 lv, .slice V n c, .slice H m d, .int .i64 sm, .slice K k0 ck] 89)) w.heap.size [.int .i64 lv, .slice V n c, .slice H m d, .int .i64 sm, .slice K k0 ck] := Bl.new' (by simp) (by simp)
    have ca1_0 : (w.alloc (.cells #[.int .i64 lv, .slice V n c, .slice H m d, .int .i64 sm, .slice K k0 ck] 89)).cell? ⟨w.heap.size, 0, none⟩ = some (.int .i64 lv) := (b2.2 0 _ rfl).1
    have fa1_0 : (w.alloc (.cells #[.int .i64 lv, .slice V n c, .slice H m d, .int .i64 sm, .slice K k0 ck] 89)).frozen? ⟨w.heap.size, 0, none⟩ = false := (b2.2 0 _ rfl).2
    have ca1_1 : (w.alloc (.cells #[.int .i64 lv, .slice V n c, .slice H m d, .int .i64 sm, .slice K k0 ck] 89)).cell? ⟨w.heap.size, 1, none⟩ = some (.slice V n c) := (b2.2 1 _ rfl).1
    have fa1_1 : (w.alloc (.cells #[.int .i64 lv, .slice V n c, .slice H m d, .int .i64 sm, .slice K k0 ck] 89)).frozen? ⟨w.heap.size, 1, none⟩ = false := (b2.2 1 _ rfl).2
    have ca1_2 : (w.alloc (.cells #[.int .i64 lv, .slice V n c, .slice H m d, .int .i64 sm, .slice K k0 ck] 89)).cell? ⟨w.heap.size, 2, none⟩ = some (.slice H m d) := (b2.2 2 _ rfl).1
    have fa1_2 : (w.alloc (.cells #[.int .i64 lv, .slice V n c, .slice H m d, .int .i64 sm, .slice K k0 ck] 89)).frozen? ⟨w.heap.size, 2, none⟩ = false := (b2.2 2 _ rfl).2
    have ca1_3 : (w.alloc (.cells #[.int .i64 lv, .slice V n c, .slice H m d, .int .i64 sm, .slice K k0 ck] 89)).cell? ⟨w.heap.size, 3, none⟩ = some (.int .i64 sm) := (b2.2 3 _ rfl).1
    have fa1_3 : (w.alloc (.cells #[.int .i64 lv, .slice V n c, .slice H m d, .int .i64 sm, .slice K k0 ck] 89)).frozen? ⟨w.heap.size, 3, none⟩ = false := (b2.2 3 _ rfl).2
    have ca1_4 : (w.alloc (.cells #[.int .i64 lv, .slice V n c, .slice H m d, .int .i64 sm, .slice K k0 ck] 89)).cell? ⟨w.heap.size, 4, none⟩ = some (.slice K k0 ck) := (b2.2 4 _ rfl).1
    have fa1_4 : (w.alloc (.cells #[.int .i64 lv, .slice V n c, .slice H m d, .int .i64 sm, .slice K k0 ck] 89)).frozen? ⟨w.heap.size, 4, none⟩ = false := (b2.2 4 _ rfl).2
    go_wp2_with fail
    clear ca1_0 fa1_0 ca1_1 fa1_1 ca1_2 fa1_2 ca1_3 fa1_3 ca1_4 fa1_4
    refine (szTable_any hn hm h0 h1).mono ?_
    rintro e w2 ⟨rfl, k2⟩
    rw [HE.out]
    replace b2 := b2.keeps k2
    replace kw := Keeps.trans kw k2
    have lt3 := b2.lt
    have sz4 := kw.size
    clear k2
    have ca5_0 : w2.cell? ⟨w.heap.size, 0, none⟩ = some (.int .i64 lv) := (b2.2 0 _ rfl).1
    have fa5_0 : w2.frozen? ⟨w.heap.size, 0, none⟩ = false := (b2.2 0 _ rfl).2
    have ca5_1 : w2.cell? ⟨w.heap.size, 1, none⟩ = some (.slice V n c) := (b2.2 1 _ rfl).1
    have fa5_1 : w2.frozen? ⟨w.heap.size, 1, none⟩ = false := (b2.2 1 _ rfl).2
    have ca5_2 : w2.cell? ⟨w.heap.size, 2, none⟩ = some (.slice H m d) := (b2.2 2 _ rfl).1
    have fa5_2 : w2.frozen? ⟨w.heap.size, 2, none⟩ = false := (b2.2 2 _ rfl).2
    have ca5_3 : w2.cell? ⟨w.heap.size, 3, none⟩ = some (.int .i64 sm) := (b2.2 3 _ rfl).1
    have fa5_3 : w2.frozen? ⟨w.heap.size, 3, none⟩ = false := (b2.2 3 _ rfl).2
    have ca5_4 : w2.cell? ⟨w.heap.size, 4, none⟩ = some (.slice K k0 ck) := (b2.2 4 _ rfl).1
    have fa5_4 : w2.frozen? ⟨w.heap.size, 4, none⟩ = false := (b2.2 4 _ rfl).2
    go_wp2_with fail
    clear ca5_0 fa5_0 ca5_1 fa5_1 ca5_2 fa5_2 ca5_3 fa5_3 ca5_4 fa5_4
    refine (szIntS_any _ _ _ L _ hk hL0 hL1).mono ?_
    rintro e w' ⟨rfl, rfl⟩
    rw [HE2.out]
    go_wp2_with fail
    go_ret
    exact ⟨ret_int HQ.out.symm, kw⟩
/-- A published table of one's own. -/
def Pub1Res (w : World) (lv : Int) (n : Nat) (xs : List Int) (m : Nat) (ys : List Int) (sm : Int) (q : Nat) (zs : List Int) (e : Ending) (w' : World) : Prop :=
  ∃ V' H' K', e = .returned (.agg #[.int .i64 lv, .slice V' n n, .slice H' m m, .int .i64 sm, .slice K' q q]) ∧ Mine w' w.heap.size w'.heap.size V' n xs ∧ Mine w' w.heap.size w'.heap.size H' m ys ∧ Mine w' w.heap.size w'.heap.size K' q zs ∧ Keeps w w'
set_option maxRecDepth 100000 in
set_option maxHeartbeats 3200000 in
theorem toPub1_any {V H K : Option Addr} {n c m d k0 ck : Nat} {lv sm : Int} {w : World} {lo hi lo' hi' lo2 hi2 : Nat} {xs ys zs : List Int} (h : Ints w lo hi V n xs) (h' : Ints w lo' hi' H m ys) (h2 : Ints w lo2 hi2 K k0 zs) :
    Calls Try.prog 53 #[.agg #[.int .i64 lv, .slice V n c, .slice H m d, .int .i64 sm, .slice K k0 ck]] w (Pub1Res w lv n xs m ys sm k0 zs) := by
  go_enter Try.func53, Try.ntmps53
  have kw := keeps_refl w
  replace kw := Keeps.trans kw (keeps_alloc w (.cells #[.int .i64 lv, .slice V n c, .slice H m d, .int .i64 sm, .slice K k0 ck] 89))
  have b1 : Bl (w.alloc (.cells #[.int .i64 lv, .slice V n c, .slice H m d, .int .i64 sm, .slice K k0 ck] 89)) w.heap.size [.int .i64 lv, .slice V n c, .slice H m d, .int .i64 sm, .slice K k0 ck] := Bl.new' (by simp) (by simp)
  replace b1 := b1.keeps (keeps_alloc (w.alloc (.cells #[.int .i64 lv, .slice V n c, .slice H m d, .int .i64 sm, .slice K k0 ck] 89)) (.cells #[.int .i64 0, .slice none 0 0, .slice none 0 0, .int .i64 0, .slice none 0 0] 100))
  replace kw := Keeps.trans kw (keeps_alloc (w.alloc (.cells #[.int .i64 lv, .slice V n c, .slice H m d, .int .i64 sm, .slice K k0 ck] 89)) (.cells #[.int .i64 0, .slice none 0 0, .slice none 0 0, .int .i64 0, .slice none 0 0] 100))
  have b2 : Bl ((w.alloc (.cells #[.int .i64 lv, .slice V n c, .slice H m d, .int .i64 sm, .slice K k0 ck] 89)).alloc (.cells #[.int .i64 0, .slice none 0 0, .slice none 0 0, .int .i64 0, .slice none 0 0] 100)) (w.heap.size + 1) [.int .i64 0, .slice none 0 0, .slice none 0 0, .int .i64 0, .slice none 0 0] := Bl.new' (by simp) (by simp)
  replace b1 := b1.keeps (keeps_alloc ((w.alloc (.cells #[.int .i64 lv, .slice V n c, .slice H m d, .int .i64 sm, .slice K k0 ck] 89)).alloc (.cells #[.int .i64 0, .slice none 0 0, .slice none 0 0, .int .i64 0, .slice none 0 0] 100)) (.cells #[.int .i64 0, .slice none 0 0, .slice none 0 0, .int .i64 0, .slice none 0 0] 100))
  replace b2 := b2.keeps (keeps_alloc ((w.alloc (.cells #[.int .i64 lv, .slice V n c, .slice H m d, .int .i64 sm, .slice K k0 ck] 89)).alloc (.cells #[.int .i64 0, .slice none 0 0, .slice none 0 0, .int .i64 0, .slice none 0 0] 100)) (.cells #[.int .i64 0, .slice none 0 0, .slice none 0 0, .int .i64 0, .slice none 0 0] 100))
  replace kw := Keeps.trans kw (keeps_alloc ((w.alloc (.cells #[.int .i64 lv, .slice V n c, .slice H m d, .int .i64 sm, .slice K k0 ck] 89)).alloc (.cells #[.int .i64 0, .slice none 0 0, .slice none 0 0, .int .i64 0, .slice none 0 0] 100)) (.cells #[.int .i64 0, .slice none 0 0, .slice none 0 0, .int .i64 0, .slice none 0 0] 100))
  have b3 : Bl (((w.alloc (.cells #[.int .i64 lv, .slice V n c, .slice H m d, .int .i64 sm, .slice K k0 ck] 89)).alloc (.cells #[.int .i64 0, .slice none 0 0, .slice none 0 0, .int .i64 0, .slice none 0 0] 100)).alloc (.cells #[.int .i64 0, .slice none 0 0, .slice none 0 0, .int .i64 0, .slice none 0 0] 100)) (w.heap.size + 1 + 1) [.int .i64 0, .slice none 0 0, .slice none 0 0, .int .i64 0, .slice none 0 0] := Bl.new' (by simp) (by simp)
  have ca1_0 : (((w.alloc (.cells #[.int .i64 lv, .slice V n c, .slice H m d, .int .i64 sm, .slice K k0 ck] 89)).alloc (.cells #[.int .i64 0, .slice none 0 0, .slice none 0 0, .int .i64 0, .slice none 0 0] 100)).alloc (.cells #[.int .i64 0, .slice none 0 0, .slice none 0 0, .int .i64 0, .slice none 0 0] 100)).cell? ⟨w.heap.size, 0, none⟩ = some (.int .i64 lv) := (b1.2 0 _ rfl).1
  have fa1_0 : (((w.alloc (.cells #[.int .i64 lv, .slice V n c, .slice H m d, .int .i64 sm, .slice K k0 ck] 89)).alloc (.cells #[.int .i64 0, .slice none 0 0, .slice none 0 0, .int .i64 0, .slice none 0 0] 100)).alloc (.cells #[.int .i64 0, .slice none 0 0, .slice none 0 0, .int .i64 0, .slice none 0 0] 100)).frozen? ⟨w.heap.size, 0, none⟩ = false := (b1.2 0 _ rfl).2
  have ca1_1 : (((w.alloc (.cells #[.int .i64 lv, .slice V n c, .slice H m d, .int .i64 sm, .slice K k0 ck] 89)).alloc (.cells #[.int .i64 0, .slice none 0 0, .slice none 0 0, .int .i64 0, .slice none 0 0] 100)).alloc (.cells #[.int .i64 0, .slice none 0 0, .slice none 0 0, .int .i64 0, .slice none 0 0] 100)).cell? ⟨w.heap.size, 1, none⟩ = some (.slice V n c) := (b1.2 1 _ rfl).1
  have fa1_1 : (((w.alloc (.cells #[.int .i64 lv, .slice V n c, .slice H m d, .int .i64 sm, .slice K k0 ck] 89)).alloc (.cells #[.int .i64 0, .slice none 0 0, .slice none 0 0, .int .i64 0, .slice none 0 0] 100)).alloc (.cells #[.int .i64 0, .slice none 0 0, .slice none 0 0, .int .i64 0, .slice none 0 0] 100)).frozen? ⟨w.heap.size, 1, none⟩ = false := (b1.2 1 _ rfl).2
  have ca1_2 : (((w.alloc (.cells #[.int .i64 lv, .slice V n c, .slice H m d, .int .i64 sm, .slice K k0 ck] 89)).alloc (.cells #[.int .i64 0, .slice none 0 0, .slice none 0 0, .int .i64 0, .slice none 0 0] 100)).alloc (.cells #[.int .i64 0, .slice none 0 0, .slice none 0 0, .int .i64 0, .slice none 0 0] 100)).cell? ⟨w.heap.size, 2, none⟩ = some (.slice H m d) := (b1.2 2 _ rfl).1
  have fa1_2 : (((w.alloc (.cells #[.int .i64 lv, .slice V n c, .slice H m d, .int .i64 sm, .slice K k0 ck] 89)).alloc (.cells #[.int .i64 0, .slice none 0 0, .slice none 0 0, .int .i64 0, .slice none 0 0] 100)).alloc (.cells #[.int .i64 0, .slice none 0 0, .slice none 0 0, .int .i64 0, .slice none 0 0] 100)).frozen? ⟨w.heap.size, 2, none⟩ = false := (b1.2 2 _ rfl).2
  have ca1_3 : (((w.alloc (.cells #[.int .i64 lv, .slice V n c, .slice H m d, .int .i64 sm, .slice K k0 ck] 89)).alloc (.cells #[.int .i64 0, .slice none 0 0, .slice none 0 0, .int .i64 0, .slice none 0 0] 100)).alloc (.cells #[.int .i64 0, .slice none 0 0, .slice none 0 0, .int .i64 0, .slice none 0 0] 100)).cell? ⟨w.heap.size, 3, none⟩ = some (.int .i64 sm) := (b1.2 3 _ rfl).1
  have fa1_3 : (((w.alloc (.cells #[.int .i64 lv, .slice V n c, .slice H m d, .int .i64 sm, .slice K k0 ck] 89)).alloc (.cells #[.int .i64 0, .slice none 0 0, .slice none 0 0, .int .i64 0, .slice none 0 0] 100)).alloc (.cells #[.int .i64 0, .slice none 0 0, .slice none 0 0, .int .i64 0, .slice none 0 0] 100)).frozen? ⟨w.heap.size, 3, none⟩ = false := (b1.2 3 _ rfl).2
  have ca1_4 : (((w.alloc (.cells #[.int .i64 lv, .slice V n c, .slice H m d, .int .i64 sm, .slice K k0 ck] 89)).alloc (.cells #[.int .i64 0, .slice none 0 0, .slice none 0 0, .int .i64 0, .slice none 0 0] 100)).alloc (.cells #[.int .i64 0, .slice none 0 0, .slice none 0 0, .int .i64 0, .slice none 0 0] 100)).cell? ⟨w.heap.size, 4, none⟩ = some (.slice K k0 ck) := (b1.2 4 _ rfl).1
  have fa1_4 : (((w.alloc (.cells #[.int .i64 lv, .slice V n c, .slice H m d, .int .i64 sm, .slice K k0 ck] 89)).alloc (.cells #[.int .i64 0, .slice none 0 0, .slice none 0 0, .int .i64 0, .slice none 0 0] 100)).alloc (.cells #[.int .i64 0, .slice none 0 0, .slice none 0 0, .int .i64 0, .slice none 0 0] 100)).frozen? ⟨w.heap.size, 4, none⟩ = false := (b1.2 4 _ rfl).2
  have ca2_0 : (((w.alloc (.cells #[.int .i64 lv, .slice V n c, .slice H m d, .int .i64 sm, .slice K k0 ck] 89)).alloc (.cells #[.int .i64 0, .slice none 0 0, .slice none 0 0, .int .i64 0, .slice none 0 0] 100)).alloc (.cells #[.int .i64 0, .slice none 0 0, .slice none 0 0, .int .i64 0, .slice none 0 0] 100)).cell? ⟨w.heap.size + 1 + 1, 0, none⟩ = some (.int .i64 0) := (b3.2 0 _ rfl).1
  have fa2_0 : (((w.alloc (.cells #[.int .i64 lv, .slice V n c, .slice H m d, .int .i64 sm, .slice K k0 ck] 89)).alloc (.cells #[.int .i64 0, .slice none 0 0, .slice none 0 0, .int .i64 0, .slice none 0 0] 100)).alloc (.cells #[.int .i64 0, .slice none 0 0, .slice none 0 0, .int .i64 0, .slice none 0 0] 100)).frozen? ⟨w.heap.size + 1 + 1, 0, none⟩ = false := (b3.2 0 _ rfl).2
  have ca2_1 : (((w.alloc (.cells #[.int .i64 lv, .slice V n c, .slice H m d, .int .i64 sm, .slice K k0 ck] 89)).alloc (.cells #[.int .i64 0, .slice none 0 0, .slice none 0 0, .int .i64 0, .slice none 0 0] 100)).alloc (.cells #[.int .i64 0, .slice none 0 0, .slice none 0 0, .int .i64 0, .slice none 0 0] 100)).cell? ⟨w.heap.size + 1 + 1, 1, none⟩ = some (.slice none 0 0) := (b3.2 1 _ rfl).1
  have fa2_1 : (((w.alloc (.cells #[.int .i64 lv, .slice V n c, .slice H m d, .int .i64 sm, .slice K k0 ck] 89)).alloc (.cells #[.int .i64 0, .slice none 0 0, .slice none 0 0, .int .i64 0, .slice none 0 0] 100)).alloc (.cells #[.int .i64 0, .slice none 0 0, .slice none 0 0, .int .i64 0, .slice none 0 0] 100)).frozen? ⟨w.heap.size + 1 + 1, 1, none⟩ = false := (b3.2 1 _ rfl).2
  have ca2_2 : (((w.alloc (.cells #[.int .i64 lv, .slice V n c, .slice H m d, .int .i64 sm, .slice K k0 ck] 89)).alloc (.cells #[.int .i64 0, .slice none 0 0, .slice none 0 0, .int .i64 0, .slice none 0 0] 100)).alloc (.cells #[.int .i64 0, .slice none 0 0, .slice none 0 0, .int .i64 0, .slice none 0 0] 100)).cell? ⟨w.heap.size + 1 + 1, 2, none⟩ = some (.slice none 0 0) := (b3.2 2 _ rfl).1
  have fa2_2 : (((w.alloc (.cells #[.int .i64 lv, .slice V n c, .slice H m d, .int .i64 sm, .slice K k0 ck] 89)).alloc (.cells #[.int .i64 0, .slice none 0 0, .slice none 0 0, .int .i64 0, .slice none 0 0] 100)).alloc (.cells #[.int .i64 0, .slice none 0 0, .slice none 0 0, .int .i64 0, .slice none 0 0] 100)).frozen? ⟨w.heap.size + 1 + 1, 2, none⟩ = false := (b3.2 2 _ rfl).2
  have ca2_3 : (((w.alloc (.cells #[.int .i64 lv, .slice V n c, .slice H m d, .int .i64 sm, .slice K k0 ck] 89)).alloc (.cells #[.int .i64 0, .slice none 0 0, .slice none 0 0, .int .i64 0, .slice none 0 0] 100)).alloc (.cells #[.int .i64 0, .slice none 0 0, .slice none 0 0, .int .i64 0, .slice none 0 0] 100)).cell? ⟨w.heap.size + 1 + 1, 3, none⟩ = some (.int .i64 0) := (b3.2 3 _ rfl).1
  have fa2_3 : (((w.alloc (.cells #[.int .i64 lv, .slice V n c, .slice H m d, .int .i64 sm, .slice K k0 ck] 89)).alloc (.cells #[.int .i64 0, .slice none 0 0, .slice none 0 0, .int .i64 0, .slice none 0 0] 100)).alloc (.cells #[.int .i64 0, .slice none 0 0, .slice none 0 0, .int .i64 0, .slice none 0 0] 100)).frozen? ⟨w.heap.size + 1 + 1, 3, none⟩ = false := (b3.2 3 _ rfl).2
  have ca2_4 : (((w.alloc (.cells #[.int .i64 lv, .slice V n c, .slice H m d, .int .i64 sm, .slice K k0 ck] 89)).alloc (.cells #[.int .i64 0, .slice none 0 0, .slice none 0 0, .int .i64 0, .slice none 0 0] 100)).alloc (.cells #[.int .i64 0, .slice none 0 0, .slice none 0 0, .int .i64 0, .slice none 0 0] 100)).cell? ⟨w.heap.size + 1 + 1, 4, none⟩ = some (.slice none 0 0) := (b3.2 4 _ rfl).1
  have fa2_4 : (((w.alloc (.cells #[.int .i64 lv, .slice V n c, .slice H m d, .int .i64 sm, .slice K k0 ck] 89)).alloc (.cells #[.int .i64 0, .slice none 0 0, .slice none 0 0, .int .i64 0, .slice none 0 0] 100)).alloc (.cells #[.int .i64 0, .slice none 0 0, .slice none 0 0, .int .i64 0, .slice none 0 0] 100)).frozen? ⟨w.heap.size + 1 + 1, 4, none⟩ = false := (b3.2 4 _ rfl).2
  go_wp2_with fail
  clear ca1_0 fa1_0 ca1_1 fa1_1 ca1_2 fa1_2 ca1_3 fa1_3 ca1_4 fa1_4 ca2_0 fa2_0 ca2_1 fa2_1 ca2_2 fa2_2 ca2_3 fa2_3 ca2_4 fa2_4
  refine (toTable_any (h.keeps kw) (h'.keeps kw)).mono ?_
  rintro e w3 ⟨V1, H1, rfl, m1, m2, k3⟩
  have ss4 := k3.size
  try simp [World.setCell] at ss4
  replace b1 := b1.keeps k3
  replace b2 := b2.keeps k3
  replace b3 := b3.keeps k3
  replace kw := Keeps.trans kw k3
  have lt5 := b3.lt
  have sz6 := kw.size
  clear k3
  replace m1 := m1.widen (lo' := w.heap.size + 1 + 1 + 1) (by simp) (Nat.le_refl _) (Nat.le_refl _)
  replace m2 := m2.widen (lo' := w.heap.size + 1 + 1 + 1) (by simp) (Nat.le_refl _) (Nat.le_refl _)
  have ca7_0 : w3.cell? ⟨w.heap.size, 0, none⟩ = some (.int .i64 lv) := (b1.2 0 _ rfl).1
  have fa7_0 : w3.frozen? ⟨w.heap.size, 0, none⟩ = false := (b1.2 0 _ rfl).2
  have ca7_1 : w3.cell? ⟨w.heap.size, 1, none⟩ = some (.slice V n c) := (b1.2 1 _ rfl).1
  have fa7_1 : w3.frozen? ⟨w.heap.size, 1, none⟩ = false := (b1.2 1 _ rfl).2
  have ca7_2 : w3.cell? ⟨w.heap.size, 2, none⟩ = some (.slice H m d) := (b1.2 2 _ rfl).1
  have fa7_2 : w3.frozen? ⟨w.heap.size, 2, none⟩ = false := (b1.2 2 _ rfl).2
  have ca7_3 : w3.cell? ⟨w.heap.size, 3, none⟩ = some (.int .i64 sm) := (b1.2 3 _ rfl).1
  have fa7_3 : w3.frozen? ⟨w.heap.size, 3, none⟩ = false := (b1.2 3 _ rfl).2
  have ca7_4 : w3.cell? ⟨w.heap.size, 4, none⟩ = some (.slice K k0 ck) := (b1.2 4 _ rfl).1
  have fa7_4 : w3.frozen? ⟨w.heap.size, 4, none⟩ = false := (b1.2 4 _ rfl).2
  have ca8_0 : w3.cell? ⟨w.heap.size + 1 + 1, 0, none⟩ = some (.int .i64 0) := (b3.2 0 _ rfl).1
  have fa8_0 : w3.frozen? ⟨w.heap.size + 1 + 1, 0, none⟩ = false := (b3.2 0 _ rfl).2
  have ca8_1 : w3.cell? ⟨w.heap.size + 1 + 1, 1, none⟩ = some (.slice none 0 0) := (b3.2 1 _ rfl).1
  have fa8_1 : w3.frozen? ⟨w.heap.size + 1 + 1, 1, none⟩ = false := (b3.2 1 _ rfl).2
  have ca8_2 : w3.cell? ⟨w.heap.size + 1 + 1, 2, none⟩ = some (.slice none 0 0) := (b3.2 2 _ rfl).1
  have fa8_2 : w3.frozen? ⟨w.heap.size + 1 + 1, 2, none⟩ = false := (b3.2 2 _ rfl).2
  have ca8_3 : w3.cell? ⟨w.heap.size + 1 + 1, 3, none⟩ = some (.int .i64 0) := (b3.2 3 _ rfl).1
  have fa8_3 : w3.frozen? ⟨w.heap.size + 1 + 1, 3, none⟩ = false := (b3.2 3 _ rfl).2
  have ca8_4 : w3.cell? ⟨w.heap.size + 1 + 1, 4, none⟩ = some (.slice none 0 0) := (b3.2 4 _ rfl).1
  have fa8_4 : w3.frozen? ⟨w.heap.size + 1 + 1, 4, none⟩ = false := (b3.2 4 _ rfl).2
  replace b1 := b1.far (p := ⟨w.heap.size + 1 + 1, 0, none⟩) (by show _ ≠ (w.heap.size + 1 + 1); omega) (.int .i64 lv)
  replace b2 := b2.far (p := ⟨w.heap.size + 1 + 1, 0, none⟩) (by show _ ≠ (w.heap.size + 1 + 1); omega) (.int .i64 lv)
  replace m1 := m1.fr (fr_one (p := (w.heap.size + 1 + 1)) (i := 0) (.int .i64 lv)) (by omega)
  replace m2 := m2.fr (fr_one (p := (w.heap.size + 1 + 1)) (i := 0) (.int .i64 lv)) (by omega)
  replace kw := Below.setCell kw (p := ⟨w.heap.size + 1 + 1, 0, none⟩) (by show _ ≤ (w.heap.size + 1 + 1); omega) (.int .i64 lv)
  replace b3 : Bl (w3.setCell ⟨w.heap.size + 1 + 1, 0, none⟩ (.int .i64 lv)) (w.heap.size + 1 + 1) [.int .i64 lv, .slice none 0 0, .slice none 0 0, .int .i64 0, .slice none 0 0] := b3.set 0 (.int .i64 lv)
  replace b1 := b1.far (p := ⟨w.heap.size + 1 + 1, 1, none⟩) (by show _ ≠ (w.heap.size + 1 + 1); omega) (.slice V1 n n)
  replace b2 := b2.far (p := ⟨w.heap.size + 1 + 1, 1, none⟩) (by show _ ≠ (w.heap.size + 1 + 1); omega) (.slice V1 n n)
  replace m1 := m1.fr (fr_one (p := (w.heap.size + 1 + 1)) (i := 1) (.slice V1 n n)) (by omega)
  replace m2 := m2.fr (fr_one (p := (w.heap.size + 1 + 1)) (i := 1) (.slice V1 n n)) (by omega)
  replace kw := Below.setCell kw (p := ⟨w.heap.size + 1 + 1, 1, none⟩) (by show _ ≤ (w.heap.size + 1 + 1); omega) (.slice V1 n n)
  replace b3 : Bl ((w3.setCell ⟨w.heap.size + 1 + 1, 0, none⟩ (.int .i64 lv)).setCell ⟨w.heap.size + 1 + 1, 1, none⟩ (.slice V1 n n)) (w.heap.size + 1 + 1) [.int .i64 lv, .slice V1 n n, .slice none 0 0, .int .i64 0, .slice none 0 0] := b3.set 1 (.slice V1 n n)
  replace b1 := b1.far (p := ⟨w.heap.size + 1 + 1, 2, none⟩) (by show _ ≠ (w.heap.size + 1 + 1); omega) (.slice H1 m m)
  replace b2 := b2.far (p := ⟨w.heap.size + 1 + 1, 2, none⟩) (by show _ ≠ (w.heap.size + 1 + 1); omega) (.slice H1 m m)
  replace m1 := m1.fr (fr_one (p := (w.heap.size + 1 + 1)) (i := 2) (.slice H1 m m)) (by omega)
  replace m2 := m2.fr (fr_one (p := (w.heap.size + 1 + 1)) (i := 2) (.slice H1 m m)) (by omega)
  replace kw := Below.setCell kw (p := ⟨w.heap.size + 1 + 1, 2, none⟩) (by show _ ≤ (w.heap.size + 1 + 1); omega) (.slice H1 m m)
  replace b3 : Bl (((w3.setCell ⟨w.heap.size + 1 + 1, 0, none⟩ (.int .i64 lv)).setCell ⟨w.heap.size + 1 + 1, 1, none⟩ (.slice V1 n n)).setCell ⟨w.heap.size + 1 + 1, 2, none⟩ (.slice H1 m m)) (w.heap.size + 1 + 1) [.int .i64 lv, .slice V1 n n, .slice H1 m m, .int .i64 0, .slice none 0 0] := b3.set 2 (.slice H1 m m)
  replace b1 := b1.far (p := ⟨w.heap.size + 1 + 1, 3, none⟩) (by show _ ≠ (w.heap.size + 1 + 1); omega) (.int .i64 sm)
  replace b2 := b2.far (p := ⟨w.heap.size + 1 + 1, 3, none⟩) (by show _ ≠ (w.heap.size + 1 + 1); omega) (.int .i64 sm)
  replace m1 := m1.fr (fr_one (p := (w.heap.size + 1 + 1)) (i := 3) (.int .i64 sm)) (by omega)
  replace m2 := m2.fr (fr_one (p := (w.heap.size + 1 + 1)) (i := 3) (.int .i64 sm)) (by omega)
  replace kw := Below.setCell kw (p := ⟨w.heap.size + 1 + 1, 3, none⟩) (by show _ ≤ (w.heap.size + 1 + 1); omega) (.int .i64 sm)
  replace b3 : Bl ((((w3.setCell ⟨w.heap.size + 1 + 1, 0, none⟩ (.int .i64 lv)).setCell ⟨w.heap.size + 1 + 1, 1, none⟩ (.slice V1 n n)).setCell ⟨w.heap.size + 1 + 1, 2, none⟩ (.slice H1 m m)).setCell ⟨w.heap.size + 1 + 1, 3, none⟩ (.int .i64 sm)) (w.heap.size + 1 + 1) [.int .i64 lv, .slice V1 n n, .slice H1 m m, .int .i64 sm, .slice none 0 0] := b3.set 3 (.int .i64 sm)
  have ca9_0 : ((((w3.setCell ⟨w.heap.size + 1 + 1, 0, none⟩ (.int .i64 lv)).setCell ⟨w.heap.size + 1 + 1, 1, none⟩ (.slice V1 n n)).setCell ⟨w.heap.size + 1 + 1, 2, none⟩ (.slice H1 m m)).setCell ⟨w.heap.size + 1 + 1, 3, none⟩ (.int .i64 sm)).cell? ⟨w.heap.size, 0, none⟩ = some (.int .i64 lv) := (b1.2 0 _ rfl).1
  have fa9_0 : ((((w3.setCell ⟨w.heap.size + 1 + 1, 0, none⟩ (.int .i64 lv)).setCell ⟨w.heap.size + 1 + 1, 1, none⟩ (.slice V1 n n)).setCell ⟨w.heap.size + 1 + 1, 2, none⟩ (.slice H1 m m)).setCell ⟨w.heap.size + 1 + 1, 3, none⟩ (.int .i64 sm)).frozen? ⟨w.heap.size, 0, none⟩ = false := (b1.2 0 _ rfl).2
  have ca9_1 : ((((w3.setCell ⟨w.heap.size + 1 + 1, 0, none⟩ (.int .i64 lv)).setCell ⟨w.heap.size + 1 + 1, 1, none⟩ (.slice V1 n n)).setCell ⟨w.heap.size + 1 + 1, 2, none⟩ (.slice H1 m m)).setCell ⟨w.heap.size + 1 + 1, 3, none⟩ (.int .i64 sm)).cell? ⟨w.heap.size, 1, none⟩ = some (.slice V n c) := (b1.2 1 _ rfl).1
  have fa9_1 : ((((w3.setCell ⟨w.heap.size + 1 + 1, 0, none⟩ (.int .i64 lv)).setCell ⟨w.heap.size + 1 + 1, 1, none⟩ (.slice V1 n n)).setCell ⟨w.heap.size + 1 + 1, 2, none⟩ (.slice H1 m m)).setCell ⟨w.heap.size + 1 + 1, 3, none⟩ (.int .i64 sm)).frozen? ⟨w.heap.size, 1, none⟩ = false := (b1.2 1 _ rfl).2
  have ca9_2 : ((((w3.setCell ⟨w.heap.size + 1 + 1, 0, none⟩ (.int .i64 lv)).setCell ⟨w.heap.size + 1 + 1, 1, none⟩ (.slice V1 n n)).setCell ⟨w.heap.size + 1 + 1, 2, none⟩ (.slice H1 m m)).setCell ⟨w.heap.size + 1 + 1, 3, none⟩ (.int .i64 sm)).cell? ⟨w.heap.size, 2, none⟩ = some (.slice H m d) := (b1.2 2 _ rfl).1
  have fa9_2 : ((((w3.setCell ⟨w.heap.size + 1 + 1, 0, none⟩ (.int .i64 lv)).setCell ⟨w.heap.size + 1 + 1, 1, none⟩ (.slice V1 n n)).setCell ⟨w.heap.size + 1 + 1, 2, none⟩ (.slice H1 m m)).setCell ⟨w.heap.size + 1 + 1, 3, none⟩ (.int .i64 sm)).frozen? ⟨w.heap.size, 2, none⟩ = false := (b1.2 2 _ rfl).2
  have ca9_3 : ((((w3.setCell ⟨w.heap.size + 1 + 1, 0, none⟩ (.int .i64 lv)).setCell ⟨w.heap.size + 1 + 1, 1, none⟩ (.slice V1 n n)).setCell ⟨w.heap.size + 1 + 1, 2, none⟩ (.slice H1 m m)).setCell ⟨w.heap.size + 1 + 1, 3, none⟩ (.int .i64 sm)).cell? ⟨w.heap.size, 3, none⟩ = some (.int .i64 sm) := (b1.2 3 _ rfl).1
  have fa9_3 : ((((w3.setCell ⟨w.heap.size + 1 + 1, 0, none⟩ (.int .i64 lv)).setCell ⟨w.heap.size + 1 + 1, 1, none⟩ (.slice V1 n n)).setCell ⟨w.heap.size + 1 + 1, 2, none⟩ (.slice H1 m m)).setCell ⟨w.heap.size + 1 + 1, 3, none⟩ (.int .i64 sm)).frozen? ⟨w.heap.size, 3, none⟩ = false := (b1.2 3 _ rfl).2
  have ca9_4 : ((((w3.setCell ⟨w.heap.size + 1 + 1, 0, none⟩ (.int .i64 lv)).setCell ⟨w.heap.size + 1 + 1, 1, none⟩ (.slice V1 n n)).setCell ⟨w.heap.size + 1 + 1, 2, none⟩ (.slice H1 m m)).setCell ⟨w.heap.size + 1 + 1, 3, none⟩ (.int .i64 sm)).cell? ⟨w.heap.size, 4, none⟩ = some (.slice K k0 ck) := (b1.2 4 _ rfl).1
  have fa9_4 : ((((w3.setCell ⟨w.heap.size + 1 + 1, 0, none⟩ (.int .i64 lv)).setCell ⟨w.heap.size + 1 + 1, 1, none⟩ (.slice V1 n n)).setCell ⟨w.heap.size + 1 + 1, 2, none⟩ (.slice H1 m m)).setCell ⟨w.heap.size + 1 + 1, 3, none⟩ (.int .i64 sm)).frozen? ⟨w.heap.size, 4, none⟩ = false := (b1.2 4 _ rfl).2
  go_wp2_with fail
  clear ca7_0 fa7_0 ca7_1 fa7_1 ca7_2 fa7_2 ca7_3 fa7_3 ca7_4 fa7_4 ca8_0 fa8_0 ca8_1 fa8_1 ca8_2 fa8_2 ca8_3 fa8_3 ca8_4 fa8_4 ca9_0 fa9_0 ca9_1 fa9_1 ca9_2 fa9_2 ca9_3 fa9_3 ca9_4 fa9_4
  refine (toIntS_any (h2.keeps kw)).mono ?_
  rintro e w10 ⟨K1, rfl, m3, k10⟩
  have ss11 := k10.size
  try simp [World.setCell] at ss11
  replace b1 := b1.keeps k10
  replace b2 := b2.keeps k10
  replace b3 := b3.keeps k10
  replace m1 := m1.keeps k10
  replace m2 := m2.keeps k10
  replace kw := Keeps.trans kw k10
  have lt12 := b3.lt
  have sz13 := kw.size
  clear k10
  try simp at m3
  replace m3 := m3.widen (lo' := w.heap.size + 1 + 1 + 1) (by first | omega | (simp [World.setCell]; done) | (simp [World.setCell]; omega)) (Nat.le_refl _) (Nat.le_refl _)
  have ca14_0 : w10.cell? ⟨w.heap.size, 0, none⟩ = some (.int .i64 lv) := (b1.2 0 _ rfl).1
  have fa14_0 : w10.frozen? ⟨w.heap.size, 0, none⟩ = false := (b1.2 0 _ rfl).2
  have ca14_1 : w10.cell? ⟨w.heap.size, 1, none⟩ = some (.slice V n c) := (b1.2 1 _ rfl).1
  have fa14_1 : w10.frozen? ⟨w.heap.size, 1, none⟩ = false := (b1.2 1 _ rfl).2
  have ca14_2 : w10.cell? ⟨w.heap.size, 2, none⟩ = some (.slice H m d) := (b1.2 2 _ rfl).1
  have fa14_2 : w10.frozen? ⟨w.heap.size, 2, none⟩ = false := (b1.2 2 _ rfl).2
  have ca14_3 : w10.cell? ⟨w.heap.size, 3, none⟩ = some (.int .i64 sm) := (b1.2 3 _ rfl).1
  have fa14_3 : w10.frozen? ⟨w.heap.size, 3, none⟩ = false := (b1.2 3 _ rfl).2
  have ca14_4 : w10.cell? ⟨w.heap.size, 4, none⟩ = some (.slice K k0 ck) := (b1.2 4 _ rfl).1
  have fa14_4 : w10.frozen? ⟨w.heap.size, 4, none⟩ = false := (b1.2 4 _ rfl).2
  have ca15_0 : w10.cell? ⟨w.heap.size + 1 + 1, 0, none⟩ = some (.int .i64 lv) := (b3.2 0 _ rfl).1
  have fa15_0 : w10.frozen? ⟨w.heap.size + 1 + 1, 0, none⟩ = false := (b3.2 0 _ rfl).2
  have ca15_1 : w10.cell? ⟨w.heap.size + 1 + 1, 1, none⟩ = some (.slice V1 n n) := (b3.2 1 _ rfl).1
  have fa15_1 : w10.frozen? ⟨w.heap.size + 1 + 1, 1, none⟩ = false := (b3.2 1 _ rfl).2
  have ca15_2 : w10.cell? ⟨w.heap.size + 1 + 1, 2, none⟩ = some (.slice H1 m m) := (b3.2 2 _ rfl).1
  have fa15_2 : w10.frozen? ⟨w.heap.size + 1 + 1, 2, none⟩ = false := (b3.2 2 _ rfl).2
  have ca15_3 : w10.cell? ⟨w.heap.size + 1 + 1, 3, none⟩ = some (.int .i64 sm) := (b3.2 3 _ rfl).1
  have fa15_3 : w10.frozen? ⟨w.heap.size + 1 + 1, 3, none⟩ = false := (b3.2 3 _ rfl).2
  have ca15_4 : w10.cell? ⟨w.heap.size + 1 + 1, 4, none⟩ = some (.slice none 0 0) := (b3.2 4 _ rfl).1
  have fa15_4 : w10.frozen? ⟨w.heap.size + 1 + 1, 4, none⟩ = false := (b3.2 4 _ rfl).2
  replace b1 := b1.far (p := ⟨w.heap.size + 1 + 1, 4, none⟩) (by show _ ≠ (w.heap.size + 1 + 1); omega) (.slice K1 k0 k0)
  replace b2 := b2.far (p := ⟨w.heap.size + 1 + 1, 4, none⟩) (by show _ ≠ (w.heap.size + 1 + 1); omega) (.slice K1 k0 k0)
  replace m1 := m1.fr (fr_one (p := (w.heap.size + 1 + 1)) (i := 4) (.slice K1 k0 k0)) (by omega)
  replace m2 := m2.fr (fr_one (p := (w.heap.size + 1 + 1)) (i := 4) (.slice K1 k0 k0)) (by omega)
  replace m3 := m3.fr (fr_one (p := (w.heap.size + 1 + 1)) (i := 4) (.slice K1 k0 k0)) (by omega)
  replace kw := Below.setCell kw (p := ⟨w.heap.size + 1 + 1, 4, none⟩) (by show _ ≤ (w.heap.size + 1 + 1); omega) (.slice K1 k0 k0)
  replace b3 : Bl (w10.setCell ⟨w.heap.size + 1 + 1, 4, none⟩ (.slice K1 k0 k0)) (w.heap.size + 1 + 1) [.int .i64 lv, .slice V1 n n, .slice H1 m m, .int .i64 sm, .slice K1 k0 k0] := b3.set 4 (.slice K1 k0 k0)
  have ca16_0 : (w10.setCell ⟨w.heap.size + 1 + 1, 4, none⟩ (.slice K1 k0 k0)).cell? ⟨w.heap.size + 1 + 1, 0, none⟩ = some (.int .i64 lv) := (b3.2 0 _ rfl).1
  have fa16_0 : (w10.setCell ⟨w.heap.size + 1 + 1, 4, none⟩ (.slice K1 k0 k0)).frozen? ⟨w.heap.size + 1 + 1, 0, none⟩ = false := (b3.2 0 _ rfl).2
  have ca16_1 : (w10.setCell ⟨w.heap.size + 1 + 1, 4, none⟩ (.slice K1 k0 k0)).cell? ⟨w.heap.size + 1 + 1, 1, none⟩ = some (.slice V1 n n) := (b3.2 1 _ rfl).1
  have fa16_1 : (w10.setCell ⟨w.heap.size + 1 + 1, 4, none⟩ (.slice K1 k0 k0)).frozen? ⟨w.heap.size + 1 + 1, 1, none⟩ = false := (b3.2 1 _ rfl).2
  have ca16_2 : (w10.setCell ⟨w.heap.size + 1 + 1, 4, none⟩ (.slice K1 k0 k0)).cell? ⟨w.heap.size + 1 + 1, 2, none⟩ = some (.slice H1 m m) := (b3.2 2 _ rfl).1
  have fa16_2 : (w10.setCell ⟨w.heap.size + 1 + 1, 4, none⟩ (.slice K1 k0 k0)).frozen? ⟨w.heap.size + 1 + 1, 2, none⟩ = false := (b3.2 2 _ rfl).2
  have ca16_3 : (w10.setCell ⟨w.heap.size + 1 + 1, 4, none⟩ (.slice K1 k0 k0)).cell? ⟨w.heap.size + 1 + 1, 3, none⟩ = some (.int .i64 sm) := (b3.2 3 _ rfl).1
  have fa16_3 : (w10.setCell ⟨w.heap.size + 1 + 1, 4, none⟩ (.slice K1 k0 k0)).frozen? ⟨w.heap.size + 1 + 1, 3, none⟩ = false := (b3.2 3 _ rfl).2
  have ca16_4 : (w10.setCell ⟨w.heap.size + 1 + 1, 4, none⟩ (.slice K1 k0 k0)).cell? ⟨w.heap.size + 1 + 1, 4, none⟩ = some (.slice K1 k0 k0) := (b3.2 4 _ rfl).1
  have fa16_4 : (w10.setCell ⟨w.heap.size + 1 + 1, 4, none⟩ (.slice K1 k0 k0)).frozen? ⟨w.heap.size + 1 + 1, 4, none⟩ = false := (b3.2 4 _ rfl).2
  have ca17_0 : (w10.setCell ⟨w.heap.size + 1 + 1, 4, none⟩ (.slice K1 k0 k0)).cell? ⟨w.heap.size + 1, 0, none⟩ = some (.int .i64 0) := (b2.2 0 _ rfl).1
  have fa17_0 : (w10.setCell ⟨w.heap.size + 1 + 1, 4, none⟩ (.slice K1 k0 k0)).frozen? ⟨w.heap.size + 1, 0, none⟩ = false := (b2.2 0 _ rfl).2
  have ca17_1 : (w10.setCell ⟨w.heap.size + 1 + 1, 4, none⟩ (.slice K1 k0 k0)).cell? ⟨w.heap.size + 1, 1, none⟩ = some (.slice none 0 0) := (b2.2 1 _ rfl).1
  have fa17_1 : (w10.setCell ⟨w.heap.size + 1 + 1, 4, none⟩ (.slice K1 k0 k0)).frozen? ⟨w.heap.size + 1, 1, none⟩ = false := (b2.2 1 _ rfl).2
  have ca17_2 : (w10.setCell ⟨w.heap.size + 1 + 1, 4, none⟩ (.slice K1 k0 k0)).cell? ⟨w.heap.size + 1, 2, none⟩ = some (.slice none 0 0) := (b2.2 2 _ rfl).1
  have fa17_2 : (w10.setCell ⟨w.heap.size + 1 + 1, 4, none⟩ (.slice K1 k0 k0)).frozen? ⟨w.heap.size + 1, 2, none⟩ = false := (b2.2 2 _ rfl).2
  have ca17_3 : (w10.setCell ⟨w.heap.size + 1 + 1, 4, none⟩ (.slice K1 k0 k0)).cell? ⟨w.heap.size + 1, 3, none⟩ = some (.int .i64 0) := (b2.2 3 _ rfl).1
  have fa17_3 : (w10.setCell ⟨w.heap.size + 1 + 1, 4, none⟩ (.slice K1 k0 k0)).frozen? ⟨w.heap.size + 1, 3, none⟩ = false := (b2.2 3 _ rfl).2
  have ca17_4 : (w10.setCell ⟨w.heap.size + 1 + 1, 4, none⟩ (.slice K1 k0 k0)).cell? ⟨w.heap.size + 1, 4, none⟩ = some (.slice none 0 0) := (b2.2 4 _ rfl).1
  have fa17_4 : (w10.setCell ⟨w.heap.size + 1 + 1, 4, none⟩ (.slice K1 k0 k0)).frozen? ⟨w.heap.size + 1, 4, none⟩ = false := (b2.2 4 _ rfl).2
  replace b1 := b1.far (p := ⟨w.heap.size + 1, 0, none⟩) (by show _ ≠ (w.heap.size + 1); omega) (.int .i64 lv)
  replace b3 := b3.far (p := ⟨w.heap.size + 1, 0, none⟩) (by show _ ≠ (w.heap.size + 1); omega) (.int .i64 lv)
  replace m1 := m1.fr (fr_one (p := (w.heap.size + 1)) (i := 0) (.int .i64 lv)) (by omega)
  replace m2 := m2.fr (fr_one (p := (w.heap.size + 1)) (i := 0) (.int .i64 lv)) (by omega)
  replace m3 := m3.fr (fr_one (p := (w.heap.size + 1)) (i := 0) (.int .i64 lv)) (by omega)
  replace kw := Below.setCell kw (p := ⟨w.heap.size + 1, 0, none⟩) (by show _ ≤ (w.heap.size + 1); omega) (.int .i64 lv)
  replace b2 : Bl ((w10.setCell ⟨w.heap.size + 1 + 1, 4, none⟩ (.slice K1 k0 k0)).setCell ⟨w.heap.size + 1, 0, none⟩ (.int .i64 lv)) (w.heap.size + 1) [.int .i64 lv, .slice none 0 0, .slice none 0 0, .int .i64 0, .slice none 0 0] := b2.set 0 (.int .i64 lv)
  replace b1 := b1.far (p := ⟨w.heap.size + 1, 1, none⟩) (by show _ ≠ (w.heap.size + 1); omega) (.slice V1 n n)
  replace b3 := b3.far (p := ⟨w.heap.size + 1, 1, none⟩) (by show _ ≠ (w.heap.size + 1); omega) (.slice V1 n n)
  replace m1 := m1.fr (fr_one (p := (w.heap.size + 1)) (i := 1) (.slice V1 n n)) (by omega)
  replace m2 := m2.fr (fr_one (p := (w.heap.size + 1)) (i := 1) (.slice V1 n n)) (by omega)
  replace m3 := m3.fr (fr_one (p := (w.heap.size + 1)) (i := 1) (.slice V1 n n)) (by omega)
  replace kw := Below.setCell kw (p := ⟨w.heap.size + 1, 1, none⟩) (by show _ ≤ (w.heap.size + 1); omega) (.slice V1 n n)
  replace b2 : Bl (((w10.setCell ⟨w.heap.size + 1 + 1, 4, none⟩ (.slice K1 k0 k0)).setCell ⟨w.heap.size + 1, 0, none⟩ (.int .i64 lv)).setCell ⟨w.heap.size + 1, 1, none⟩ (.slice V1 n n)) (w.heap.size + 1) [.int .i64 lv, .slice V1 n n, .slice none 0 0, .int .i64 0, .slice none 0 0] := b2.set 1 (.slice V1 n n)
  replace b1 := b1.far (p := ⟨w.heap.size + 1, 2, none⟩) (by show _ ≠ (w.heap.size + 1); omega) (.slice H1 m m)
  replace b3 := b3.far (p := ⟨w.heap.size + 1, 2, none⟩) (by show _ ≠ (w.heap.size + 1); omega) (.slice H1 m m)
  replace m1 := m1.fr (fr_one (p := (w.heap.size + 1)) (i := 2) (.slice H1 m m)) (by omega)
  replace m2 := m2.fr (fr_one (p := (w.heap.size + 1)) (i := 2) (.slice H1 m m)) (by omega)
  replace m3 := m3.fr (fr_one (p := (w.heap.size + 1)) (i := 2) (.slice H1 m m)) (by omega)
  replace kw := Below.setCell kw (p := ⟨w.heap.size + 1, 2, none⟩) (by show _ ≤ (w.heap.size + 1); omega) (.slice H1 m m)
  replace b2 : Bl ((((w10.setCell ⟨w.heap.size + 1 + 1, 4, none⟩ (.slice K1 k0 k0)).setCell ⟨w.heap.size + 1, 0, none⟩ (.int .i64 lv)).setCell ⟨w.heap.size + 1, 1, none⟩ (.slice V1 n n)).setCell ⟨w.heap.size + 1, 2, none⟩ (.slice H1 m m)) (w.heap.size + 1) [.int .i64 lv, .slice V1 n n, .slice H1 m m, .int .i64 0, .slice none 0 0] := b2.set 2 (.slice H1 m m)
  replace b1 := b1.far (p := ⟨w.heap.size + 1, 3, none⟩) (by show _ ≠ (w.heap.size + 1); omega) (.int .i64 sm)
  replace b3 := b3.far (p := ⟨w.heap.size + 1, 3, none⟩) (by show _ ≠ (w.heap.size + 1); omega) (.int .i64 sm)
  replace m1 := m1.fr (fr_one (p := (w.heap.size + 1)) (i := 3) (.int .i64 sm)) (by omega)
  replace m2 := m2.fr (fr_one (p := (w.heap.size + 1)) (i := 3) (.int .i64 sm)) (by omega)
  replace m3 := m3.fr (fr_one (p := (w.heap.size + 1)) (i := 3) (.int .i64 sm)) (by omega)
  replace kw := Below.setCell kw (p := ⟨w.heap.size + 1, 3, none⟩) (by show _ ≤ (w.heap.size + 1); omega) (.int .i64 sm)
  replace b2 : Bl (((((w10.setCell ⟨w.heap.size + 1 + 1, 4, none⟩ (.slice K1 k0 k0)).setCell ⟨w.heap.size + 1, 0, none⟩ (.int .i64 lv)).setCell ⟨w.heap.size + 1, 1, none⟩ (.slice V1 n n)).setCell ⟨w.heap.size + 1, 2, none⟩ (.slice H1 m m)).setCell ⟨w.heap.size + 1, 3, none⟩ (.int .i64 sm)) (w.heap.size + 1) [.int .i64 lv, .slice V1 n n, .slice H1 m m, .int .i64 sm, .slice none 0 0] := b2.set 3 (.int .i64 sm)
  replace b1 := b1.far (p := ⟨w.heap.size + 1, 4, none⟩) (by show _ ≠ (w.heap.size + 1); omega) (.slice K1 k0 k0)
  replace b3 := b3.far (p := ⟨w.heap.size + 1, 4, none⟩) (by show _ ≠ (w.heap.size + 1); omega) (.slice K1 k0 k0)
  replace m1 := m1.fr (fr_one (p := (w.heap.size + 1)) (i := 4) (.slice K1 k0 k0)) (by omega)
  replace m2 := m2.fr (fr_one (p := (w.heap.size + 1)) (i := 4) (.slice K1 k0 k0)) (by omega)
  replace m3 := m3.fr (fr_one (p := (w.heap.size + 1)) (i := 4) (.slice K1 k0 k0)) (by omega)
  replace kw := Below.setCell kw (p := ⟨w.heap.size + 1, 4, none⟩) (by show _ ≤ (w.heap.size + 1); omega) (.slice K1 k0 k0)
  replace b2 : Bl ((((((w10.setCell ⟨w.heap.size + 1 + 1, 4, none⟩ (.slice K1 k0 k0)).setCell ⟨w.heap.size + 1, 0, none⟩ (.int .i64 lv)).setCell ⟨w.heap.size + 1, 1, none⟩ (.slice V1 n n)).setCell ⟨w.heap.size + 1, 2, none⟩ (.slice H1 m m)).setCell ⟨w.heap.size + 1, 3, none⟩ (.int .i64 sm)).setCell ⟨w.heap.size + 1, 4, none⟩ (.slice K1 k0 k0)) (w.heap.size + 1) [.int .i64 lv, .slice V1 n n, .slice H1 m m, .int .i64 sm, .slice K1 k0 k0] := b2.set 4 (.slice K1 k0 k0)
  have HT1 := hid (m1.widen (lo' := w.heap.size) (hi' := ((((((w10.setCell ⟨w.heap.size + 1 + 1, 4, none⟩ (.slice K1 k0 k0)).setCell ⟨w.heap.size + 1, 0, none⟩ (.int .i64 lv)).setCell ⟨w.heap.size + 1, 1, none⟩ (.slice V1 n n)).setCell ⟨w.heap.size + 1, 2, none⟩ (.slice H1 m m)).setCell ⟨w.heap.size + 1, 3, none⟩ (.int .i64 sm)).setCell ⟨w.heap.size + 1, 4, none⟩ (.slice K1 k0 k0)).heap.size) (by omega) (by simp [World.setCell] <;> omega) (Nat.le_refl _))
  have HT2 := hid (m2.widen (lo' := w.heap.size) (hi' := ((((((w10.setCell ⟨w.heap.size + 1 + 1, 4, none⟩ (.slice K1 k0 k0)).setCell ⟨w.heap.size + 1, 0, none⟩ (.int .i64 lv)).setCell ⟨w.heap.size + 1, 1, none⟩ (.slice V1 n n)).setCell ⟨w.heap.size + 1, 2, none⟩ (.slice H1 m m)).setCell ⟨w.heap.size + 1, 3, none⟩ (.int .i64 sm)).setCell ⟨w.heap.size + 1, 4, none⟩ (.slice K1 k0 k0)).heap.size) (by omega) (by simp [World.setCell] <;> omega) (Nat.le_refl _))
  have HT3 := hid (m3.widen (lo' := w.heap.size) (hi' := ((((((w10.setCell ⟨w.heap.size + 1 + 1, 4, none⟩ (.slice K1 k0 k0)).setCell ⟨w.heap.size + 1, 0, none⟩ (.int .i64 lv)).setCell ⟨w.heap.size + 1, 1, none⟩ (.slice V1 n n)).setCell ⟨w.heap.size + 1, 2, none⟩ (.slice H1 m m)).setCell ⟨w.heap.size + 1, 3, none⟩ (.int .i64 sm)).setCell ⟨w.heap.size + 1, 4, none⟩ (.slice K1 k0 k0)).heap.size) (by omega) (by simp [World.setCell] <;> omega) (Nat.le_refl _))
  have HK := hid kw
  clear m1 m2 m3 kw
  go_wp2_with fail
  clear ca14_0 fa14_0 ca14_1 fa14_1 ca14_2 fa14_2 ca14_3 fa14_3 ca14_4 fa14_4 ca15_0 fa15_0 ca15_1 fa15_1 ca15_2 fa15_2 ca15_3 fa15_3 ca15_4 fa15_4 ca16_0 fa16_0 ca16_1 fa16_1 ca16_2 fa16_2 ca16_3 fa16_3 ca16_4 fa16_4 ca17_0 fa17_0 ca17_1 fa17_1 ca17_2 fa17_2 ca17_3 fa17_3 ca17_4 fa17_4
  have ca0_0 : ((((((w10.setCell ⟨w.heap.size + 1 + 1, 4, none⟩ (.slice K1 k0 k0)).setCell ⟨w.heap.size + 1, 0, none⟩ (.int .i64 lv)).setCell ⟨w.heap.size + 1, 1, none⟩ (.slice V1 n n)).setCell ⟨w.heap.size + 1, 2, none⟩ (.slice H1 m m)).setCell ⟨w.heap.size + 1, 3, none⟩ (.int .i64 sm)).setCell ⟨w.heap.size + 1, 4, none⟩ (.slice K1 k0 k0)).cell? ⟨w.heap.size + 1, 0, none⟩ = some (.int .i64 lv) := (b2.2 0 _ rfl).1
  have ca0_1 : ((((((w10.setCell ⟨w.heap.size + 1 + 1, 4, none⟩ (.slice K1 k0 k0)).setCell ⟨w.heap.size + 1, 0, none⟩ (.int .i64 lv)).setCell ⟨w.heap.size + 1, 1, none⟩ (.slice V1 n n)).setCell ⟨w.heap.size + 1, 2, none⟩ (.slice H1 m m)).setCell ⟨w.heap.size + 1, 3, none⟩ (.int .i64 sm)).setCell ⟨w.heap.size + 1, 4, none⟩ (.slice K1 k0 k0)).cell? ⟨w.heap.size + 1, 1, none⟩ = some (.slice V1 n n) := (b2.2 1 _ rfl).1
  have ca0_2 : ((((((w10.setCell ⟨w.heap.size + 1 + 1, 4, none⟩ (.slice K1 k0 k0)).setCell ⟨w.heap.size + 1, 0, none⟩ (.int .i64 lv)).setCell ⟨w.heap.size + 1, 1, none⟩ (.slice V1 n n)).setCell ⟨w.heap.size + 1, 2, none⟩ (.slice H1 m m)).setCell ⟨w.heap.size + 1, 3, none⟩ (.int .i64 sm)).setCell ⟨w.heap.size + 1, 4, none⟩ (.slice K1 k0 k0)).cell? ⟨w.heap.size + 1, 2, none⟩ = some (.slice H1 m m) := (b2.2 2 _ rfl).1
  have ca0_3 : ((((((w10.setCell ⟨w.heap.size + 1 + 1, 4, none⟩ (.slice K1 k0 k0)).setCell ⟨w.heap.size + 1, 0, none⟩ (.int .i64 lv)).setCell ⟨w.heap.size + 1, 1, none⟩ (.slice V1 n n)).setCell ⟨w.heap.size + 1, 2, none⟩ (.slice H1 m m)).setCell ⟨w.heap.size + 1, 3, none⟩ (.int .i64 sm)).setCell ⟨w.heap.size + 1, 4, none⟩ (.slice K1 k0 k0)).cell? ⟨w.heap.size + 1, 3, none⟩ = some (.int .i64 sm) := (b2.2 3 _ rfl).1
  have ca0_4 : ((((((w10.setCell ⟨w.heap.size + 1 + 1, 4, none⟩ (.slice K1 k0 k0)).setCell ⟨w.heap.size + 1, 0, none⟩ (.int .i64 lv)).setCell ⟨w.heap.size + 1, 1, none⟩ (.slice V1 n n)).setCell ⟨w.heap.size + 1, 2, none⟩ (.slice H1 m m)).setCell ⟨w.heap.size + 1, 3, none⟩ (.int .i64 sm)).setCell ⟨w.heap.size + 1, 4, none⟩ (.slice K1 k0 k0)).cell? ⟨w.heap.size + 1, 4, none⟩ = some (.slice K1 k0 k0) := (b2.2 4 _ rfl).1
  try simp only [Exit.inBlock, Exit.then]
  exact bodyPost_ret (v := .agg #[.int .i64 lv, .slice V1 n n, .slice H1 m m, .int .i64 sm, .slice K1 k0 k0]) (by simp [results, Try.results53, go_sem, ca0_0, ca0_1, ca0_2, ca0_3, ca0_4]) rfl ⟨_, _, _, rfl, HT1.out, HT2.out, HT3.out, HK.out⟩
set_option maxRecDepth 100000 in
set_option maxHeartbeats 1600000 in
theorem eqPub1_true {V H K : Option Addr} {n c m d k0 ck : Nat} {lv sm : Int} {w : World} {V' H' K' : Option Addr} {c' d' e' lo hi lo' hi' lo2 hi2 lo3 hi3 lo4 hi4 lo5 hi5 : Nat} {xs ys zs : List Int} (h : Ints w lo hi V n xs) (g : Ints w lo2 hi2 H m ys) (f : Ints w lo4 hi4 K k0 zs) (h' : Ints w lo' hi' V' n xs) (g' : Ints w lo3 hi3 H' m ys) (f' : Ints w lo5 hi5 K' k0 zs) :
    Calls Try.prog 59 #[.agg #[.int .i64 lv, .slice V n c, .slice H m d, .int .i64 sm, .slice K k0 ck], .agg #[.int .i64 lv, .slice V' n c', .slice H' m d', .int .i64 sm, .slice K' k0 e']] w fun e w' => e = .returned (.bool true) ∧ Keeps w w' := by
  go_enter Try.func59, Try.ntmps59
  have kw := keeps_refl w
  replace kw := Keeps.trans kw (keeps_alloc w (.cells #[.int .i64 lv, .slice V n c, .slice H m d, .int .i64 sm, .slice K k0 ck] 100))
  have b2 : Bl (w.alloc (.cells #[.int .i64 lv, .slice V n c, .slice H m d, .int .i64 sm, .slice K k0 ck] 100)) w.heap.size [.int .i64 lv, .slice V n c, .slice H m d, .int .i64 sm, .slice K k0 ck] := Bl.new' (by simp) (by simp)
  replace b2 := b2.keeps (keeps_alloc (w.alloc (.cells #[.int .i64 lv, .slice V n c, .slice H m d, .int .i64 sm, .slice K k0 ck] 100)) (.cells #[.int .i64 lv, .slice V' n c', .slice H' m d', .int .i64 sm, .slice K' k0 e'] 100))
  replace kw := Keeps.trans kw (keeps_alloc (w.alloc (.cells #[.int .i64 lv, .slice V n c, .slice H m d, .int .i64 sm, .slice K k0 ck] 100)) (.cells #[.int .i64 lv, .slice V' n c', .slice H' m d', .int .i64 sm, .slice K' k0 e'] 100))
  have b3 : Bl ((w.alloc (.cells #[.int .i64 lv, .slice V n c, .slice H m d, .int .i64 sm, .slice K k0 ck] 100)).alloc (.cells #[.int .i64 lv, .slice V' n c', .slice H' m d', .int .i64 sm, .slice K' k0 e'] 100)) (w.heap.size + 1) [.int .i64 lv, .slice V' n c', .slice H' m d', .int .i64 sm, .slice K' k0 e'] := Bl.new' (by simp) (by simp)
  have ca1_0 : ((w.alloc (.cells #[.int .i64 lv, .slice V n c, .slice H m d, .int .i64 sm, .slice K k0 ck] 100)).alloc (.cells #[.int .i64 lv, .slice V' n c', .slice H' m d', .int .i64 sm, .slice K' k0 e'] 100)).cell? ⟨w.heap.size, 0, none⟩ = some (.int .i64 lv) := (b2.2 0 _ rfl).1
  have fa1_0 : ((w.alloc (.cells #[.int .i64 lv, .slice V n c, .slice H m d, .int .i64 sm, .slice K k0 ck] 100)).alloc (.cells #[.int .i64 lv, .slice V' n c', .slice H' m d', .int .i64 sm, .slice K' k0 e'] 100)).frozen? ⟨w.heap.size, 0, none⟩ = false := (b2.2 0 _ rfl).2
  have ca1_1 : ((w.alloc (.cells #[.int .i64 lv, .slice V n c, .slice H m d, .int .i64 sm, .slice K k0 ck] 100)).alloc (.cells #[.int .i64 lv, .slice V' n c', .slice H' m d', .int .i64 sm, .slice K' k0 e'] 100)).cell? ⟨w.heap.size, 1, none⟩ = some (.slice V n c) := (b2.2 1 _ rfl).1
  have fa1_1 : ((w.alloc (.cells #[.int .i64 lv, .slice V n c, .slice H m d, .int .i64 sm, .slice K k0 ck] 100)).alloc (.cells #[.int .i64 lv, .slice V' n c', .slice H' m d', .int .i64 sm, .slice K' k0 e'] 100)).frozen? ⟨w.heap.size, 1, none⟩ = false := (b2.2 1 _ rfl).2
  have ca1_2 : ((w.alloc (.cells #[.int .i64 lv, .slice V n c, .slice H m d, .int .i64 sm, .slice K k0 ck] 100)).alloc (.cells #[.int .i64 lv, .slice V' n c', .slice H' m d', .int .i64 sm, .slice K' k0 e'] 100)).cell? ⟨w.heap.size, 2, none⟩ = some (.slice H m d) := (b2.2 2 _ rfl).1
  have fa1_2 : ((w.alloc (.cells #[.int .i64 lv, .slice V n c, .slice H m d, .int .i64 sm, .slice K k0 ck] 100)).alloc (.cells #[.int .i64 lv, .slice V' n c', .slice H' m d', .int .i64 sm, .slice K' k0 e'] 100)).frozen? ⟨w.heap.size, 2, none⟩ = false := (b2.2 2 _ rfl).2
  have ca1_3 : ((w.alloc (.cells #[.int .i64 lv, .slice V n c, .slice H m d, .int .i64 sm, .slice K k0 ck] 100)).alloc (.cells #[.int .i64 lv, .slice V' n c', .slice H' m d', .int .i64 sm, .slice K' k0 e'] 100)).cell? ⟨w.heap.size, 3, none⟩ = some (.int .i64 sm) := (b2.2 3 _ rfl).1
  have fa1_3 : ((w.alloc (.cells #[.int .i64 lv, .slice V n c, .slice H m d, .int .i64 sm, .slice K k0 ck] 100)).alloc (.cells #[.int .i64 lv, .slice V' n c', .slice H' m d', .int .i64 sm, .slice K' k0 e'] 100)).frozen? ⟨w.heap.size, 3, none⟩ = false := (b2.2 3 _ rfl).2
  have ca1_4 : ((w.alloc (.cells #[.int .i64 lv, .slice V n c, .slice H m d, .int .i64 sm, .slice K k0 ck] 100)).alloc (.cells #[.int .i64 lv, .slice V' n c', .slice H' m d', .int .i64 sm, .slice K' k0 e'] 100)).cell? ⟨w.heap.size, 4, none⟩ = some (.slice K k0 ck) := (b2.2 4 _ rfl).1
  have fa1_4 : ((w.alloc (.cells #[.int .i64 lv, .slice V n c, .slice H m d, .int .i64 sm, .slice K k0 ck] 100)).alloc (.cells #[.int .i64 lv, .slice V' n c', .slice H' m d', .int .i64 sm, .slice K' k0 e'] 100)).frozen? ⟨w.heap.size, 4, none⟩ = false := (b2.2 4 _ rfl).2
  have ca2_0 : ((w.alloc (.cells #[.int .i64 lv, .slice V n c, .slice H m d, .int .i64 sm, .slice K k0 ck] 100)).alloc (.cells #[.int .i64 lv, .slice V' n c', .slice H' m d', .int .i64 sm, .slice K' k0 e'] 100)).cell? ⟨w.heap.size + 1, 0, none⟩ = some (.int .i64 lv) := (b3.2 0 _ rfl).1
  have fa2_0 : ((w.alloc (.cells #[.int .i64 lv, .slice V n c, .slice H m d, .int .i64 sm, .slice K k0 ck] 100)).alloc (.cells #[.int .i64 lv, .slice V' n c', .slice H' m d', .int .i64 sm, .slice K' k0 e'] 100)).frozen? ⟨w.heap.size + 1, 0, none⟩ = false := (b3.2 0 _ rfl).2
  have ca2_1 : ((w.alloc (.cells #[.int .i64 lv, .slice V n c, .slice H m d, .int .i64 sm, .slice K k0 ck] 100)).alloc (.cells #[.int .i64 lv, .slice V' n c', .slice H' m d', .int .i64 sm, .slice K' k0 e'] 100)).cell? ⟨w.heap.size + 1, 1, none⟩ = some (.slice V' n c') := (b3.2 1 _ rfl).1
  have fa2_1 : ((w.alloc (.cells #[.int .i64 lv, .slice V n c, .slice H m d, .int .i64 sm, .slice K k0 ck] 100)).alloc (.cells #[.int .i64 lv, .slice V' n c', .slice H' m d', .int .i64 sm, .slice K' k0 e'] 100)).frozen? ⟨w.heap.size + 1, 1, none⟩ = false := (b3.2 1 _ rfl).2
  have ca2_2 : ((w.alloc (.cells #[.int .i64 lv, .slice V n c, .slice H m d, .int .i64 sm, .slice K k0 ck] 100)).alloc (.cells #[.int .i64 lv, .slice V' n c', .slice H' m d', .int .i64 sm, .slice K' k0 e'] 100)).cell? ⟨w.heap.size + 1, 2, none⟩ = some (.slice H' m d') := (b3.2 2 _ rfl).1
  have fa2_2 : ((w.alloc (.cells #[.int .i64 lv, .slice V n c, .slice H m d, .int .i64 sm, .slice K k0 ck] 100)).alloc (.cells #[.int .i64 lv, .slice V' n c', .slice H' m d', .int .i64 sm, .slice K' k0 e'] 100)).frozen? ⟨w.heap.size + 1, 2, none⟩ = false := (b3.2 2 _ rfl).2
  have ca2_3 : ((w.alloc (.cells #[.int .i64 lv, .slice V n c, .slice H m d, .int .i64 sm, .slice K k0 ck] 100)).alloc (.cells #[.int .i64 lv, .slice V' n c', .slice H' m d', .int .i64 sm, .slice K' k0 e'] 100)).cell? ⟨w.heap.size + 1, 3, none⟩ = some (.int .i64 sm) := (b3.2 3 _ rfl).1
  have fa2_3 : ((w.alloc (.cells #[.int .i64 lv, .slice V n c, .slice H m d, .int .i64 sm, .slice K k0 ck] 100)).alloc (.cells #[.int .i64 lv, .slice V' n c', .slice H' m d', .int .i64 sm, .slice K' k0 e'] 100)).frozen? ⟨w.heap.size + 1, 3, none⟩ = false := (b3.2 3 _ rfl).2
  have ca2_4 : ((w.alloc (.cells #[.int .i64 lv, .slice V n c, .slice H m d, .int .i64 sm, .slice K k0 ck] 100)).alloc (.cells #[.int .i64 lv, .slice V' n c', .slice H' m d', .int .i64 sm, .slice K' k0 e'] 100)).cell? ⟨w.heap.size + 1, 4, none⟩ = some (.slice K' k0 e') := (b3.2 4 _ rfl).1
  have fa2_4 : ((w.alloc (.cells #[.int .i64 lv, .slice V n c, .slice H m d, .int .i64 sm, .slice K k0 ck] 100)).alloc (.cells #[.int .i64 lv, .slice V' n c', .slice H' m d', .int .i64 sm, .slice K' k0 e'] 100)).frozen? ⟨w.heap.size + 1, 4, none⟩ = false := (b3.2 4 _ rfl).2
  go_wp2_with fail
  clear ca1_0 fa1_0 ca1_1 fa1_1 ca1_2 fa1_2 ca1_3 fa1_3 ca1_4 fa1_4 ca2_0 fa2_0 ca2_1 fa2_1 ca2_2 fa2_2 ca2_3 fa2_3 ca2_4 fa2_4
  refine (eqTable_true (h.keeps kw) (g.keeps kw) (h'.keeps kw) (g'.keeps kw)).mono ?_
  rintro e w3 ⟨rfl, k3⟩
  replace b2 := b2.keeps k3
  replace b3 := b3.keeps k3
  replace kw := Keeps.trans kw k3
  have lt4 := b3.lt
  have sz5 := kw.size
  clear k3
  have ca6_0 : w3.cell? ⟨w.heap.size, 0, none⟩ = some (.int .i64 lv) := (b2.2 0 _ rfl).1
  have fa6_0 : w3.frozen? ⟨w.heap.size, 0, none⟩ = false := (b2.2 0 _ rfl).2
  have ca6_1 : w3.cell? ⟨w.heap.size, 1, none⟩ = some (.slice V n c) := (b2.2 1 _ rfl).1
  have fa6_1 : w3.frozen? ⟨w.heap.size, 1, none⟩ = false := (b2.2 1 _ rfl).2
  have ca6_2 : w3.cell? ⟨w.heap.size, 2, none⟩ = some (.slice H m d) := (b2.2 2 _ rfl).1
  have fa6_2 : w3.frozen? ⟨w.heap.size, 2, none⟩ = false := (b2.2 2 _ rfl).2
  have ca6_3 : w3.cell? ⟨w.heap.size, 3, none⟩ = some (.int .i64 sm) := (b2.2 3 _ rfl).1
  have fa6_3 : w3.frozen? ⟨w.heap.size, 3, none⟩ = false := (b2.2 3 _ rfl).2
  have ca6_4 : w3.cell? ⟨w.heap.size, 4, none⟩ = some (.slice K k0 ck) := (b2.2 4 _ rfl).1
  have fa6_4 : w3.frozen? ⟨w.heap.size, 4, none⟩ = false := (b2.2 4 _ rfl).2
  have ca7_0 : w3.cell? ⟨w.heap.size + 1, 0, none⟩ = some (.int .i64 lv) := (b3.2 0 _ rfl).1
  have fa7_0 : w3.frozen? ⟨w.heap.size + 1, 0, none⟩ = false := (b3.2 0 _ rfl).2
  have ca7_1 : w3.cell? ⟨w.heap.size + 1, 1, none⟩ = some (.slice V' n c') := (b3.2 1 _ rfl).1
  have fa7_1 : w3.frozen? ⟨w.heap.size + 1, 1, none⟩ = false := (b3.2 1 _ rfl).2
  have ca7_2 : w3.cell? ⟨w.heap.size + 1, 2, none⟩ = some (.slice H' m d') := (b3.2 2 _ rfl).1
  have fa7_2 : w3.frozen? ⟨w.heap.size + 1, 2, none⟩ = false := (b3.2 2 _ rfl).2
  have ca7_3 : w3.cell? ⟨w.heap.size + 1, 3, none⟩ = some (.int .i64 sm) := (b3.2 3 _ rfl).1
  have fa7_3 : w3.frozen? ⟨w.heap.size + 1, 3, none⟩ = false := (b3.2 3 _ rfl).2
  have ca7_4 : w3.cell? ⟨w.heap.size + 1, 4, none⟩ = some (.slice K' k0 e') := (b3.2 4 _ rfl).1
  have fa7_4 : w3.frozen? ⟨w.heap.size + 1, 4, none⟩ = false := (b3.2 4 _ rfl).2
  go_wp2_with fail
  clear ca6_0 fa6_0 ca6_1 fa6_1 ca6_2 fa6_2 ca6_3 fa6_3 ca6_4 fa6_4 ca7_0 fa7_0 ca7_1 fa7_1 ca7_2 fa7_2 ca7_3 fa7_3 ca7_4 fa7_4
  refine (eqIntS_true (f.keeps kw) (f'.keeps kw)).mono ?_
  rintro e w8 ⟨rfl, k8⟩
  replace k8 := Quiet.keeps k8
  replace b2 := b2.keeps k8
  replace b3 := b3.keeps k8
  replace kw := Keeps.trans kw k8
  have lt9 := b3.lt
  have sz10 := kw.size
  clear k8
  have ca11_0 : w8.cell? ⟨w.heap.size, 0, none⟩ = some (.int .i64 lv) := (b2.2 0 _ rfl).1
  have fa11_0 : w8.frozen? ⟨w.heap.size, 0, none⟩ = false := (b2.2 0 _ rfl).2
  have ca11_1 : w8.cell? ⟨w.heap.size, 1, none⟩ = some (.slice V n c) := (b2.2 1 _ rfl).1
  have fa11_1 : w8.frozen? ⟨w.heap.size, 1, none⟩ = false := (b2.2 1 _ rfl).2
  have ca11_2 : w8.cell? ⟨w.heap.size, 2, none⟩ = some (.slice H m d) := (b2.2 2 _ rfl).1
  have fa11_2 : w8.frozen? ⟨w.heap.size, 2, none⟩ = false := (b2.2 2 _ rfl).2
  have ca11_3 : w8.cell? ⟨w.heap.size, 3, none⟩ = some (.int .i64 sm) := (b2.2 3 _ rfl).1
  have fa11_3 : w8.frozen? ⟨w.heap.size, 3, none⟩ = false := (b2.2 3 _ rfl).2
  have ca11_4 : w8.cell? ⟨w.heap.size, 4, none⟩ = some (.slice K k0 ck) := (b2.2 4 _ rfl).1
  have fa11_4 : w8.frozen? ⟨w.heap.size, 4, none⟩ = false := (b2.2 4 _ rfl).2
  have ca12_0 : w8.cell? ⟨w.heap.size + 1, 0, none⟩ = some (.int .i64 lv) := (b3.2 0 _ rfl).1
  have fa12_0 : w8.frozen? ⟨w.heap.size + 1, 0, none⟩ = false := (b3.2 0 _ rfl).2
  have ca12_1 : w8.cell? ⟨w.heap.size + 1, 1, none⟩ = some (.slice V' n c') := (b3.2 1 _ rfl).1
  have fa12_1 : w8.frozen? ⟨w.heap.size + 1, 1, none⟩ = false := (b3.2 1 _ rfl).2
  have ca12_2 : w8.cell? ⟨w.heap.size + 1, 2, none⟩ = some (.slice H' m d') := (b3.2 2 _ rfl).1
  have fa12_2 : w8.frozen? ⟨w.heap.size + 1, 2, none⟩ = false := (b3.2 2 _ rfl).2
  have ca12_3 : w8.cell? ⟨w.heap.size + 1, 3, none⟩ = some (.int .i64 sm) := (b3.2 3 _ rfl).1
  have fa12_3 : w8.frozen? ⟨w.heap.size + 1, 3, none⟩ = false := (b3.2 3 _ rfl).2
  have ca12_4 : w8.cell? ⟨w.heap.size + 1, 4, none⟩ = some (.slice K' k0 e') := (b3.2 4 _ rfl).1
  have fa12_4 : w8.frozen? ⟨w.heap.size + 1, 4, none⟩ = false := (b3.2 4 _ rfl).2
  go_wp2_with fail
  clear ca11_0 fa11_0 ca11_1 fa11_1 ca11_2 fa11_2 ca11_3 fa11_3 ca11_4 fa11_4 ca12_0 fa12_0 ca12_1 fa12_1 ca12_2 fa12_2 ca12_3 fa12_3 ca12_4 fa12_4
  go_ret
  exact ⟨rfl, kw⟩
set_option maxRecDepth 100000 in
set_option maxHeartbeats 3200000 in
theorem szPublishedS_any {A : Option Addr} {n c : Nat} {l : List PP} {left : Int} {w : World} (h : PubsArg w A n l) (h0 : 0 ≤ left) (h1 : left ≤ 1048576) :
    Calls Try.prog 22 #[.slice A n c, .int .i64 left] w fun e w' => e = .returned (.int .i64 (szQ left (n + psz l n))) ∧ Keeps w w' := by
  have hm := h.le
  unfold maxLen at hm
  have hl := h.len
  have HN := hid (fun h => szQ_no (left := left) (s := n + psz l n) h)
  have HY := hid (fun h => szQ_ok (left := left) (s := n + psz l n) h)
  by_cases hn : left - (n : Int) < 0
  · go_enter Try.func22, Try.ntmps22
    go_wp2
    go_ret
    exact ⟨ret_int (HN.out (by omega)).symm, keeps_refl _⟩
  have hn2 : n ≤ 1048576 := by omega
  have HS := hid (fun k (hk : k < n) => psz_succ (l := l) (k := k) (by omega))
  have HM := hid (fun k (hk : k ≤ n) => psz_mono (l := l) (i := k) (j := n) hk (by omega))
  have HZ := hid (psz_zero l)
  clear hl
  go_enter Try.func22, Try.ntmps22
  go_wp2_with fail
  go_loopw [1, 5] (fun q i wr => ∃ (k : Nat) (z : Int), k ≤ n ∧ i = .int .i64 k ∧ q = .int .i64 z ∧ Hid (z = left - n - psz l k) ∧ (0 ≤ z ∧ z ≤ 1048576) ∧ Keeps w wr) (fun _ i _ => n - (intOf i).toNat)
  case atStart => exact ⟨0, _, Nat.zero_le _, rfl, rfl, hid (by rw [HZ.out]; omega), by omega, keeps_refl _⟩
  case round =>
    obtain ⟨k, z, hk, rfl, rfl, HE, hz, hq⟩ := hrel
    by_cases hlt : k < n
    · obtain ⟨b, off, lv, V, nv, cv, H, nh, ch, sm, K, nk, ck, rfl, _, hc0, hc1, hc2, hc3, hc4, hxs, hys, hzs, hx⟩ := (h.keeps hq).at_ hlt
      have hi1 : (k : Int) < (n : Int) := by omega
      go_wp2_with fail
      refine (szPub1_any hxs hys hzs hz.1 hz.2).mono ?_
      rintro e w1 ⟨rfl, k1⟩
      have hq1 := hid (hq.trans k1)
      clear hc0 hc1 hc2 hc3 hc4 k1 hq
      by_cases h2 : ((nv + nh + nk : Nat) : Int) ≤ z
      · have HV := hid (show z - ((nv + nh + nk : Nat) : Int) = left - n - psz l (k + 1) by have := HS.out k hlt; have := hx.out; have := HE.out; omega)
        rw [szQ_ok h2]
        obtain ⟨z', hz'⟩ : ∃ z', z - ((nv + nh + nk : Nat) : Int) = z' := ⟨_, rfl⟩
        rw [hz'] at HV ⊢
        have hz9 : 0 ≤ z' ∧ z' ≤ 1048576 := by omega
        have hz8 : ¬ z' < 0 := by omega
        clear hz'
        go_wp2_with fail
        go_roundw
        case rel => exact ⟨k + 1, z', by omega, by go_num, rfl, HV, hz9, hq1.out⟩
        case measure => simp [intOf]; omega
      · rw [szQ_no h2]
        go_wp2
        go_ret
        exact ⟨ret_int (HN.out (by have := HS.out k hlt; have := hx.out; have := HE.out; have := HM.out (k + 1) hlt; omega)).symm, hq1.out⟩
    · obtain rfl : k = n := by omega
      go_wp2
      go_ret
      exact ⟨ret_int (by rw [HY.out (by have := HE.out; omega)]; have := HE.out; omega), hq⟩
theorem info_pubs : (Try.prog.info? 100).map (fun i => (i.zero, i.size, i.bytes)) = some (some (.agg #[.int .i64 0, .slice none 0 0, .slice none 0 0, .int .i64 0, .slice none 0 0]), 5, 88) := by kernel_rfl
theorem make_pubs (n : Nat) (hn : n ≤ 67108864) (w : World) :
    (Instr.makeSlice 62 (.int .i64 (n : Int)) (.int .i64 (n : Int))).run Try.prog w = .ok (.slice (some ⟨w.heap.size, 0, none⟩) n n) (w.alloc (.cells (madeCells #[.int .i64 0, .slice none 0 0, .slice none 0 0, .int .i64 0, .slice none 0 0] (n * 5)) 100)) := by
  obtain ⟨i, hi, hz0, hz1, hz2⟩ := info_parts info_pubs
  have h := run_make_rowN (P := Try.prog) 62 100 i _ Try.underlying62 hi hz0 .i64 .i64 n n (Nat.le_refl _) (by rw [hz2]; omega) (by omega) w
  rw [hz1] at h
  simpa [Value.cells] using h
/-- A published table is stored at row k. -/
theorem FillD.pub {w w1 : World} {g n k nv nh nk : Nat} {T : TypeId} {l : List PP} {lv sm : Int} {xs ys zs : List Int} {V1 H1 K1 : Option Addr} (h : FillD dP 5 p0 w g n T l k) (hk : k < n) (k1 : Keeps w w1) (e : ((lv, xs, ys, sm), zs) = l.getD k p0) (hx : xs.length = nv) (hy : ys.length = nh) (hz : zs.length = nk)
    (mv : Mine w1 w.heap.size w1.heap.size V1 nv xs) (mh : Mine w1 w.heap.size w1.heap.size H1 nh ys) (mk : Mine w1 w.heap.size w1.heap.size K1 nk zs) :
    FillD dP 5 p0 (((((w1.setCell ⟨g, k * 5, none⟩ (.int .i64 lv)).setCell ⟨g, k * 5 + 1, none⟩ (.slice V1 nv nv)).setCell ⟨g, k * 5 + 2, none⟩ (.slice H1 nh nh)).setCell ⟨g, k * 5 + 3, none⟩ (.int .i64 sm)).setCell ⟨g, k * 5 + 4, none⟩ (.slice K1 nk nk)) g n T l (k + 1) := by
  have hg := h.lt
  obtain ⟨cs, ho, hc, h1⟩ := h.keeps k1
  have ho1 := (OwnC.set_ (OwnC.set_ (OwnC.set_ (OwnC.set_ (OwnC.set_ ho (k * 5) (.int .i64 lv)) (k * 5 + 1) (.slice V1 nv nv)) (k * 5 + 2) (.slice H1 nh nh)) (k * 5 + 3) (.int .i64 sm)) (k * 5 + 4) (.slice K1 nk nk))
  have hr := Nat.mul_le_mul_right 5 (show k + 1 ≤ n from hk)
  rw [Nat.succ_mul] at hr
  have hs := k1.size
  subst hx hy hz
  refine FillD.put (w := w1) (cs := cs) h1 ?_ (by simp [World.setCell]) ho1 (by simpa using hc) (fun j hj => ?_) (fun i hi => ?_)
  · exact ((((fr_one _).trans (fr_one _)).trans (fr_one _)).trans (fr_one _)).trans (fr_one _)
  · rw [getD_set_other (by omega), getD_set_other (by omega), getD_set_other (by omega), getD_set_other (by omega), getD_set_other (by omega)]
  · rw [← e]
    match i, hi with
    | 0, _ =>
      change Rg _ _ _ _ _ _ (List.getD _ (k * 5) undef)
      rw [getD_set_other (by omega), getD_set_other (by omega), getD_set_other (by omega), getD_set_other (by omega), getD_set_same (by omega)]
      exact Rg.of_i _
    | 1, _ =>
      rw [getD_set_other (by omega), getD_set_other (by omega), getD_set_other (by omega), getD_set_same (by simp; omega)]
      exact (RgS.widen mv.rgs (by omega) (Nat.le_refl _) (Nat.le_refl _)).rg
    | 2, _ =>
      rw [getD_set_other (by omega), getD_set_other (by omega), getD_set_same (by simp; omega)]
      exact (RgS.widen mh.rgs (by omega) (Nat.le_refl _) (Nat.le_refl _)).rg
    | 3, _ =>
      rw [getD_set_other (by omega), getD_set_same (by simp; omega)]
      exact Rg.of_i _
    | 4, _ =>
      rw [getD_set_same (by simp; omega)]
      exact (RgS.widen mk.rgs (by omega) (Nat.le_refl _) (Nat.le_refl _)).rg
set_option maxRecDepth 100000 in
set_option maxHeartbeats 3200000 in
theorem toPublishedS_any {A : Option Addr} {lo hi n c : Nat} {un : Bool} {l : List PP} {w : World} (h : Pubs true un w lo hi A n l) :
    Calls Try.prog 24 #[.slice A n c] w fun e w' => ∃ A', e = .returned (.slice A' n n) ∧ Pubs true true w' w.heap.size w'.heap.size A' n l ∧ Keeps w w' := by
  have hn := h.le
  have hmk := make_pubs n hn
  have hl := hid h.len
  have hsm := hid h.sm
  go_enter Try.func24, Try.ntmps24
  go_wp2_with fail
  clear hmk
  go_loopw [4] (fun i wr => ∃ k : Nat, k ≤ n ∧ i = .int .i64 k ∧ FillD dP 5 p0 wr w.heap.size n 100 l k ∧ Keeps w wr) (fun i _ => n - (intOf i).toNat)
  case atStart => exact ⟨0, Nat.zero_le _, rfl, FillD.made w n _ _ l, keeps_alloc _ _⟩
  case round =>
    obtain ⟨k, hk, rfl, hown, hkeep⟩ := hrel
    have hgs := hown.lt
    by_cases hlt : k < n
    · obtain ⟨b, off, lv, V, nv, cv, H, nh, ch, sm, K, nk, ck, vs, hs, zs, rfl, _, _, hc0, hc1, hc2, hc3, hc4, hv, hh, hkk, hx⟩ := (h.keeps hkeep).at_ hlt
      have hi1 : (k : Int) < (n : Int) := by omega
      have hnv := hv.1
      have hnh := hh.1
      have hnk := hkk.1
      go_wp2_with fail
      refine (toPub1_any hv hh hkk).mono ?_
      rintro e w1 ⟨V1, H1, K1, rfl, mv, mh, mk, k1⟩
      have HF := hid (hown.pub hlt k1 hx.out hnv hnh hnk mv mh mk)
      obtain ⟨cs, ho, hcl, _⟩ := hown
      have ho1 := ho.keeps k1
      have d0 := ho1.cell (k * 5) (by omega)
      have f0 := ho1.frozen (k * 5)
      have d1 := ho1.cell (k * 5 + 1) (by omega)
      have f1 := ho1.frozen (k * 5 + 1)
      have d2 := ho1.cell (k * 5 + 2) (by omega)
      have f2 := ho1.frozen (k * 5 + 2)
      have d3 := ho1.cell (k * 5 + 3) (by omega)
      have f3 := ho1.frozen (k * 5 + 3)
      have d4 := ho1.cell (k * 5 + 4) (by omega)
      have f4 := ho1.frozen (k * 5 + 4)
      have H2 := hid (Below.setCell (Below.setCell (Below.setCell (Below.setCell (Below.setCell (Keeps.trans hkeep k1) (p := ⟨w.heap.size, k * 5, none⟩) (Nat.le_refl _) (.int .i64 lv)) (p := ⟨w.heap.size, k * 5 + 1, none⟩) (Nat.le_refl _) (.slice V1 nv nv)) (p := ⟨w.heap.size, k * 5 + 2, none⟩) (Nat.le_refl _) (.slice H1 nh nh)) (p := ⟨w.heap.size, k * 5 + 3, none⟩) (Nat.le_refl _) (.int .i64 sm)) (p := ⟨w.heap.size, k * 5 + 4, none⟩) (Nat.le_refl _) (.slice K1 nk nk))
      clear ho ho1 hkeep k1 mv mh mk hv hh hkk hc0 hc1 hc2 hc3 hc4 hx hnv hnh hnk
      go_wp2_with fail
      go_roundw
      case rel => exact ⟨k + 1, by omega, by go_num, HF.out, H2.out⟩
      case measure => simp [intOf]; omega
    · obtain rfl : k = n := by omega
      go_wp2
      go_ret
      exact ⟨_, rfl, ⟨hown.rgs dP_len hl.out, hl.out, hn, hsm.out⟩, hkeep⟩
set_option maxRecDepth 100000 in
set_option maxHeartbeats 6400000 in
theorem eqPublishedS_true {A B : Option Addr} {lo hi lo' hi' n n' c c' : Nat} {un un' : Bool} {l : List PP} {w : World} (ha : Pubs true un w lo hi A n l) (hb : Pubs true un' w lo' hi' B n' l) :
    Calls Try.prog 27 #[.slice A n c, .slice B n' c'] w fun e w' => e = .returned (.bool true) ∧ Keeps w w' := by
  obtain rfl : n = n' := ha.len.symm.trans hb.len
  have hn := ha.le
  have hbb : ((n : Int) != n) = false := by simp
  go_enter Try.func27, Try.ntmps27
  go_wp2_with fail
  go_loopw [5] (fun i wr => ∃ k : Nat, k ≤ n ∧ i = .int .i64 k ∧ Keeps w wr) (fun i _ => n - (intOf i).toNat)
  case atStart => exact ⟨0, Nat.zero_le _, rfl, keeps_refl _⟩
  case round =>
    obtain ⟨k, hk, rfl, hq⟩ := hrel
    by_cases hlt : k < n
    · obtain ⟨b, off, lv, V, nv, cv, H, nh, ch, sm, K, nk, ck, vs, hs, zs, rfl, _, _, hc0, hc1, hc2, hc3, hc4, hv, hh, hkk, hx⟩ := (ha.keeps hq).at_ hlt
      obtain ⟨b', off', lv', V', nv', cv', H', nh', ch', sm', K', nk', ck', vs', hs', zs', rfl, _, _, hc0', hc1', hc2', hc3', hc4', hv', hh', hkk', hx'⟩ := (hb.keeps hq).at_ hlt
      have e0 := hx.out.trans hx'.out.symm
      obtain rfl : lv = lv' := congrArg (fun p : PP => p.1.1) e0
      obtain rfl : vs = vs' := congrArg (fun p : PP => p.1.2.1) e0
      obtain rfl : hs = hs' := congrArg (fun p : PP => p.1.2.2.1) e0
      obtain rfl : sm = sm' := congrArg (fun p : PP => p.1.2.2.2) e0
      obtain rfl : zs = zs' := congrArg (fun p : PP => p.2) e0
      obtain rfl : nv = nv' := hv.1.symm.trans hv'.1
      obtain rfl : nh = nh' := hh.1.symm.trans hh'.1
      obtain rfl : nk = nk' := hkk.1.symm.trans hkk'.1
      clear hx hx' e0
      have hi1 : (k : Int) < (n : Int) := by omega
      have kS := hid (show ∀ w', Keeps wr w' → (w'.cell? ⟨b, off + k * 5, none⟩ = some (.int .i64 lv) ∧ w'.cell? ⟨b, off + k * 5 + 1, none⟩ = some (.slice V nv cv) ∧ w'.cell? ⟨b, off + k * 5 + 2, none⟩ = some (.slice H nh ch) ∧ w'.cell? ⟨b, off + k * 5 + 3, none⟩ = some (.int .i64 sm) ∧ w'.cell? ⟨b, off + k * 5 + 4, none⟩ = some (.slice K nk ck) ∧ w'.cell? ⟨b', off' + k * 5, none⟩ = some (.int .i64 lv) ∧ w'.cell? ⟨b', off' + k * 5 + 1, none⟩ = some (.slice V' nv cv') ∧ w'.cell? ⟨b', off' + k * 5 + 2, none⟩ = some (.slice H' nh ch') ∧ w'.cell? ⟨b', off' + k * 5 + 3, none⟩ = some (.int .i64 sm) ∧ w'.cell? ⟨b', off' + k * 5 + 4, none⟩ = some (.slice K' nk ck')) from fun w' q => ⟨cell_keeps hc0 q, cell_keeps hc1 q, cell_keeps hc2 q, cell_keeps hc3 q, cell_keeps hc4 q, cell_keeps hc0' q, cell_keeps hc1' q, cell_keeps hc2' q, cell_keeps hc3' q, cell_keeps hc4' q⟩)
      go_wp2_with fail
      go_region_held3 (fun w' => w'.cell? ⟨b, off + k * 5, none⟩ = some (.int .i64 lv) ∧ w'.cell? ⟨b, off + k * 5 + 1, none⟩ = some (.slice V nv cv) ∧ w'.cell? ⟨b, off + k * 5 + 2, none⟩ = some (.slice H nh ch) ∧ w'.cell? ⟨b, off + k * 5 + 3, none⟩ = some (.int .i64 sm) ∧ w'.cell? ⟨b, off + k * 5 + 4, none⟩ = some (.slice K nk ck) ∧ w'.cell? ⟨b', off' + k * 5, none⟩ = some (.int .i64 lv) ∧ w'.cell? ⟨b', off' + k * 5 + 1, none⟩ = some (.slice V' nv cv') ∧ w'.cell? ⟨b', off' + k * 5 + 2, none⟩ = some (.slice H' nh ch') ∧ w'.cell? ⟨b', off' + k * 5 + 3, none⟩ = some (.int .i64 sm) ∧ w'.cell? ⟨b', off' + k * 5 + 4, none⟩ = some (.slice K' nk ck')) (first | with_reducible exact kS.out _ (keeps_d0 _) | with_reducible exact kS.out _ k1 | go_keep)
        ((go_at_call 59; refine (eqPub1_true (hv.keeps (keeps_d0 wr)) (hh.keeps (keeps_d0 wr)) (hkk.keeps (keeps_d0 wr)) (hv'.keeps (keeps_d0 wr)) (hh'.keeps (keeps_d0 wr)) (hkk'.keeps (keeps_d0 wr))).mono ?_; rintro e w1 ⟨rfl, k0⟩; have k1 : Keeps wr w1 := keeps_d k0; clear k0))
      have H2 := hid (hq.trans k1)
      clear k1 hq kS
      go_wp2
      go_roundw
      case rel => exact ⟨k + 1, by omega, by go_num, H2.out⟩
      case measure => simp [intOf]; omega
    · go_wp2
      go_ret
      exact ⟨rfl, hq⟩
end Go.Proofs.Ytellocnplemjmaa
