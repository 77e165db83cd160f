/- What the proof of the statement leans on, part 9: walks of functions and plain lemmas, with no condition. -/
import Derived.Test.YtlkjhkkfdmjfcaaGreatDoorQ0
import Derived.Test.YtlkjhkkfdmjfcaaGreatDoorQ1
import Derived.Test.YtlkjhkkfdmjfcaaGreatDoorQ3
import Derived.Test.YtlkjhkkfdmjfcaaGreatDoorQ7
namespace Go.Proofs.YtlkjhkkfdmjfcaaGreatDoor
open Go.RowKit Go.Sort Go.Deep
set_option linter.unusedVariables false
set_option linter.unusedSimpArgs false
theorem GrowR.below {α : Type} {sz : Nat} {z : α} {R : RowP α} {w w' : World} {m B E : Nat} {v : Value} {cs : List Value} {L U : Nat → Nat} {l : List α} (h : GrowR sz z R w m B E v cs L U l) (hB : B ≤ w.heap.size) (hg : w.grownBy w' v.ownBlock) : Below B w w' := (Below.refl B w).grown hg hB (fun k hk => (h.lt k hk).1)
/-- A schema that was drawn. -/
structure SchD (l : List VV) : Prop where
  len : l.length ≤ 7
  at_ : ∀ j, (l.getD j v0).1.size ≤ 9 ∧ 0 ≤ (l.getD j v0).2 ∧ (l.getD j v0).2 ≤ 9
theorem SchD.names {l : List VV} (h : SchD l) : NamesOk l := fun j => Nat.le_trans (h.at_ j).1 (by unfold maxLen; omega)
/-- What a drawing function that hands back rows leaves. -/
def DrawsL {α : Type} (sz : Nat) (z : α) (R : RowP α) (E : Nat) (P : List α → Prop) (w : World) (g : Nat) (T : Int) (e : Ending) (w' : World) : Prop :=
  ∃ A n c cs L U l, e = .returned (.slice A n c) ∧ GrowR sz z R w' w.heap.size w.heap.size E (.slice A n c) cs L U l ∧ l.length = n ∧ P l ∧ Cur w' g T ∧ Fr g (g + 1) w w'
set_option maxRecDepth 100000 in
set_option maxHeartbeats 6400000 in
theorem values_any {g : Nat} {T : Int} {lo hi q c : Nat} {A : Option Addr} {l : List VV} {w : World} (h : Cur w g T) (hT : T ≤ 400000000000000) (hs : Vars w lo hi A q l) (hgl : g < lo) (hD : SchD l) :
    Calls Tryz.prog 114 #[.pointer (some ⟨g, 0, none⟩), .slice A q c] w (DrawsL 1 0 RwdI 3 (fun xs => xs.length = q) w g (T + 60)) := by
  have HQL := hid (Vars.len hs)
  have HII := hid info_int
  have HD := hid hD
  have hq7 : q ≤ 7 := by have := hD.len; rw [Vars.len hs] at this; exact this
  have lg := h.lt
  go_enter Tryz.func114, Tryz.ntmps114
  have f : Fr g (g + 1) w w := Fr.refl _ _ _
  have hc := h
  go_wp2_with fail
  have F0 := GrowR.nil (sz := 1) (z := (0 : Int)) (R := RwdI) w w.heap.size w.heap.size 3 (Nat.le_refl _)
  go_loopw [5, 10] (fun sv i wr => ∃ (k : Nat) (vq : Value) (cs : List Value) (L U : Nat → Nat) (xs : List Int), vq = sv ∧ i = .int .i64 k ∧ k ≤ q ∧ xs.length = k ∧ GrowR 1 0 RwdI wr w.heap.size w.heap.size 3 vq cs L U xs ∧ Cur wr g (T + 4 * k) ∧ Fr g (g + 1) w wr) (fun _ i _ => q - (intOf i).toNat)
  case atStart => exact ⟨0, _, _, _, _, [], rfl, rfl, Nat.zero_le _, rfl, F0, hc.mono (by omega), f⟩
  clear F0 hc f
  case round =>
    obtain ⟨k, vq, cs, L, U, xs, rfl, rfl, hk, hxl, hF, hc, f⟩ := hrel
    have szr := f.size
    by_cases hlt : k < q
    rotate_left
    · obtain rfl : k = q := by omega
      obtain ⟨A9, c9, e9⟩ := hF.has.form
      rw [hxl] at e9
      subst e9
      have HF := hid hF
      have HXL := hid hxl
      have HC := hid hc
      have Hf := hid f
      clear hF hc f hxl
      go_wp2
      go_ret
      exact ⟨_, _, _, _, _, _, xs, rfl, HF.out, HXL.out, HXL.out, HC.out.mono (by omega), Hf.out⟩
    obtain ⟨b, off, x, y, rfl, _, _, hc0, hc1, hx⟩ := Vars.at_ (hs.fr f (by omega)) hlt
    have hi1 : (k : Int) < (q : Int) := by omega
    have hy : 0 ≤ y ∧ y ≤ 9 := by have := (HD.out.at_ k).2; rw [← hx.out] at this; exact this
    clear hx
    replace f := f.keeps (keeps_alloc wr (.cells #[.string x, .int .i64 y] 82))
    replace hc := hc.keeps (keeps_alloc wr (.cells #[.string x, .int .i64 y] 82))
    replace hF := hF.keeps RwdI.ok (keeps_alloc wr (.cells #[.string x, .int .i64 y] 82))
    have b7 : Bl (wr.alloc (.cells #[.string x, .int .i64 y] 82)) wr.heap.size [.string x, .int .i64 y] := Bl.new' (by simp) (by simp)
    have ca1_0 := (b7.2 0 _ rfl).1
    have ca1_1 := (b7.2 1 _ rfl).1
    go_wp2_with fail
    clear ca1_0 ca1_1
    clear hc0 hc1
    refine (pick_any hc (by omega) (by omega)).mono ?_
    rintro e w2 ⟨x9, rfl, hx9, hn, ff⟩
    replace f := f.trans ff
    clear hc
    have hc := hn
    replace hF := hF.fr RwdI.ok ff (by omega)
    replace b7 := b7.fr ff (by first | omega | (simp; omega))
    clear ff hn
    have sz2 := f.size
    have lt2 := b7.lt
    clear b7 lt2
    have hcB := hc
    have fB := f
    go_wp2_with (at_builtin; refine append_rowR (a0 := x9) (x := w.heap.size) (y := w.heap.size) (new := [.int .i64 x9]) HII.out rfl (by decide) (by decide) RwdI.ok hF (by omega) (by omega) rfl (fun y hy => by simp at hy; first | (subst hy; rfl) | (rcases hy with rfl | rfl; all_goals rfl) | (rcases hy with rfl | rfl | rfl | rfl; all_goals rfl) | (rcases hy with rfl | rfl | rfl | rfl | rfl | rfl; all_goals rfl)) (by omega) (by omega) (fun g e => Nat.lt_or_ge _ _) rfl _ _ rfl rfl Tryz.underlying22 rfl rfl ?_; intro v9 w9 cs9 L9 U9 hF9 hg9)
    have KB := hid (hF.below (by omega) hg9)
    have HF9 := hid hF9
    have f9 := hid (fB.below KB.out (by omega))
    have hc9 := hid (hcB.below KB.out (by omega))
    clear hF hg9 hF9 fB hcB hc f
    go_wp2_with fail
    go_roundw
    case rel => exact ⟨k + 1, _, _, _, _, _, rfl, by go_num, hlt, by rw [List.length_append, hxl]; rfl, HF9.out, hc9.out.mono (by omega), f9.out⟩
    case measure => simp [intOf]; omega
set_option maxRecDepth 100000 in
set_option maxHeartbeats 6400000 in
theorem where_any {g : Nat} {T : Int} {lo hi q c : Nat} {A : Option Addr} {l : List VV} {w : World} (h : Cur w g T) (hT : T ≤ 400000000000000) (hs : Vars w lo hi A q l) (hgl : g < lo) (hD : SchD l) :
    Calls Tryz.prog 117 #[.pointer (some ⟨g, 0, none⟩), .slice A q c] w (DrawsL 1 0 RwdI 3 (fun xs => xs.length = q) w g (T + 60)) := by
  have HQL := hid (Vars.len hs)
  have HII := hid info_int
  have HD := hid hD
  have hq7 : q ≤ 7 := by have := hD.len; rw [Vars.len hs] at this; exact this
  have lg := h.lt
  go_enter Tryz.func117, Tryz.ntmps117
  have f : Fr g (g + 1) w w := Fr.refl _ _ _
  have hc := h
  go_wp2_with fail
  have F0 := GrowR.nil (sz := 1) (z := (0 : Int)) (R := RwdI) w w.heap.size w.heap.size 3 (Nat.le_refl _)
  go_loopw [5, 11] (fun sv i wr => ∃ (k : Nat) (vq : Value) (cs : List Value) (L U : Nat → Nat) (xs : List Int), vq = sv ∧ i = .int .i64 k ∧ k ≤ q ∧ xs.length = k ∧ GrowR 1 0 RwdI wr w.heap.size w.heap.size 3 vq cs L U xs ∧ Cur wr g (T + 4 * k) ∧ Fr g (g + 1) w wr) (fun _ i _ => q - (intOf i).toNat)
  case atStart => exact ⟨0, _, _, _, _, [], rfl, rfl, Nat.zero_le _, rfl, F0, hc.mono (by omega), f⟩
  clear F0 hc f
  case round =>
    obtain ⟨k, vq, cs, L, U, xs, rfl, rfl, hk, hxl, hF, hc, f⟩ := hrel
    have szr := f.size
    by_cases hlt : k < q
    rotate_left
    · obtain rfl : k = q := by omega
      obtain ⟨A9, c9, e9⟩ := hF.has.form
      rw [hxl] at e9
      subst e9
      have HF := hid hF
      have HXL := hid hxl
      have HC := hid hc
      have Hf := hid f
      clear hF hc f hxl
      go_wp2
      go_ret
      exact ⟨_, _, _, _, _, _, xs, rfl, HF.out, HXL.out, HXL.out, HC.out.mono (by omega), Hf.out⟩
    obtain ⟨b, off, x, y, rfl, _, _, hc0, hc1, hx⟩ := Vars.at_ (hs.fr f (by omega)) hlt
    have hi1 : (k : Int) < (q : Int) := by omega
    have hy : 0 ≤ y ∧ y ≤ 9 := by have := (HD.out.at_ k).2; rw [← hx.out] at this; exact this
    clear hx
    replace f := f.keeps (keeps_alloc wr (.cells #[.string x, .int .i64 y] 82))
    replace hc := hc.keeps (keeps_alloc wr (.cells #[.string x, .int .i64 y] 82))
    replace hF := hF.keeps RwdI.ok (keeps_alloc wr (.cells #[.string x, .int .i64 y] 82))
    have b7 : Bl (wr.alloc (.cells #[.string x, .int .i64 y] 82)) wr.heap.size [.string x, .int .i64 y] := Bl.new' (by simp) (by simp)
    have ca1_0 := (b7.2 0 _ rfl).1
    have ca1_1 := (b7.2 1 _ rfl).1
    go_wp2_with fail
    clear ca1_0 ca1_1
    clear hc0 hc1
    refine (one_any hc (by omega) (by omega)).mono ?_
    rintro e w2 ⟨b9, rfl, hn, ff⟩
    replace f := f.trans ff
    clear hc
    have hc := hn
    replace hF := hF.fr RwdI.ok ff (by omega)
    replace b7 := b7.fr ff (by first | omega | (simp; omega))
    clear ff hn
    have sz2 := f.size
    have lt2 := b7.lt
    cases b9
    · try clear b7
      have hcB := hc
      have fB := f
      go_wp2_with (at_builtin; refine append_rowR (a0 := 0) (x := w.heap.size) (y := w.heap.size) (new := [.int .i64 0]) HII.out rfl (by decide) (by decide) RwdI.ok hF (by omega) (by omega) rfl (fun y hy => by simp at hy; first | (subst hy; rfl) | (rcases hy with rfl | rfl; all_goals rfl) | (rcases hy with rfl | rfl | rfl | rfl; all_goals rfl) | (rcases hy with rfl | rfl | rfl | rfl | rfl | rfl; all_goals rfl)) (by omega) (by omega) (fun g e => Nat.lt_or_ge _ _) rfl _ _ rfl rfl Tryz.underlying22 rfl rfl ?_; intro v9 w9 cs9 L9 U9 hF9 hg9)
      have KB := hid (hF.below (by omega) hg9)
      have HF9 := hid hF9
      have f9 := hid (fB.below KB.out (by omega))
      have hc9 := hid (hcB.below KB.out (by omega))
      clear hF hg9 hF9 fB hcB hc f
      go_wp2_with fail
      go_roundw
      case rel => exact ⟨k + 1, _, _, _, _, _, rfl, by go_num, hlt, by rw [List.length_append, hxl]; rfl, HF9.out, hc9.out.mono (by omega), f9.out⟩
      case measure => simp [intOf]; omega
    have key : y = 0 ∨ y = 1 ∨ y = 2 ∨ y = 3 ∨ y = 4 ∨ y = 5 ∨ y = 6 ∨ y = 7 ∨ y = 8 ∨ y = 9 := by omega
    clear hy
    rcases key with rfl | rfl | rfl | rfl | rfl | rfl | rfl | rfl | rfl | rfl
    all_goals (
      have ca0 := (b7.2 0 _ rfl).1
      have ca1 := (b7.2 1 _ rfl).1
      go_wp2_with fail
      clear ca0 ca1 b7
      refine (pick_any hc (by omega) (by omega)).mono ?_
      rintro e w3 ⟨x9, rfl, hx9, hn, ff⟩
      replace f := f.trans ff
      clear hc
      have hc := hn
      replace hF := hF.fr RwdI.ok ff (by omega)
      clear ff hn
      have sz3 := f.size
      have hx8 : 0 ≤ x9 ∧ x9 ≤ 65536 := by omega
      clear hx9
      try clear b7
      have hcB := hc
      have fB := f
      go_wp2_with (at_builtin; refine append_rowR (a0 := (1 + x9)) (x := w.heap.size) (y := w.heap.size) (new := [.int .i64 (1 + x9)]) HII.out rfl (by decide) (by decide) RwdI.ok hF (by omega) (by omega) rfl (fun y hy => by simp at hy; first | (subst hy; rfl) | (rcases hy with rfl | rfl; all_goals rfl) | (rcases hy with rfl | rfl | rfl | rfl; all_goals rfl) | (rcases hy with rfl | rfl | rfl | rfl | rfl | rfl; all_goals rfl)) (by omega) (by omega) (fun g e => Nat.lt_or_ge _ _) rfl _ _ rfl rfl Tryz.underlying22 rfl rfl ?_; intro v9 w9 cs9 L9 U9 hF9 hg9)
      have KB := hid (hF.below (by omega) hg9)
      have HF9 := hid hF9
      have f9 := hid (fB.below KB.out (by omega))
      have hc9 := hid (hcB.below KB.out (by omega))
      clear hF hg9 hF9 fB hcB hc f
      go_wp2_with fail
      go_roundw
      case rel => exact ⟨k + 1, _, _, _, _, _, rfl, by go_num, hlt, by rw [List.length_append, hxl]; rfl, HF9.out, hc9.out.mono (by omega), f9.out⟩
      case measure => simp [intOf]; omega)
end Go.Proofs.YtlkjhkkfdmjfcaaGreatDoor
namespace Go.Proofs.YtlkjhkkfdmjfcaaGreatDoor
open Go.RowKit Go.Sort Go.Deep
set_option linter.unusedVariables false
set_option linter.unusedSimpArgs false
/-- Ints in a row of one's own. -/
structure OI (w : World) (B : Nat) (v : Value) (xs : List Int) : Prop where
  ex : ∃ cs L U, GrowR 1 0 RwdI w B B 3 v cs L U xs
section
variable {w w1 : World} {B B' : Nat} {v : Value} {xs : List Int}
theorem OI.nil (w : World) (B : Nat) : OI w B (.slice none 0 0) [] := ⟨_, _, _, GrowR.nil w B B _ (Nat.le_refl _)⟩
theorem OI.fr {x y : Nat} (h : OI w B v xs) (f : Fr x y w w1) (hy : y ≤ B) : OI w1 B v xs := by obtain ⟨cs, L, U, h⟩ := h; exact ⟨cs, L, U, h.fr RwdI.ok f hy⟩
theorem OI.keeps (h : OI w B v xs) (k : Keeps w w1) : OI w1 B v xs := by obtain ⟨cs, L, U, h⟩ := h; exact ⟨cs, L, U, h.keeps RwdI.ok k⟩
theorem OI.lt (h : OI w B v xs) : ∀ g, v.ownBlock = some g → B ≤ g ∧ g < w.heap.size := by obtain ⟨cs, L, U, h⟩ := h; exact h.lt
theorem OI.form (h : OI w B v xs) : ∃ A c, v = .slice A xs.length c := by obtain ⟨cs, L, U, h⟩ := h; exact h.has.form
theorem OI.low (h : OI w B v xs) (hB : B' ≤ B) : OI w B' v xs := by
  obtain ⟨cs, L, U, h⟩ := h
  refine ⟨cs, L, U, ⟨h.has.1, ?_⟩, Nat.le_refl _, fun j hj => by have := h.iv j hj; exact ⟨by omega, this.2⟩, h.row⟩
  rcases h.has.2 with h3 | ⟨g', cap, cur, hv, hb, rest⟩
  · exact .inl h3
  · exact .inr ⟨g', cap, cur, hv, by omega, rest⟩
theorem OI.grown {r : Option Nat} (h : OI w B v xs) (hg : w.grownBy w1 r) (hne : ∀ g, v.ownBlock = some g → r ≠ some g) : OI w1 B v xs := by
  obtain ⟨cs, L, U, h⟩ := h
  have hs := hg.size
  refine ⟨cs, L, U, ⟨h.has.1, ?_⟩, h.mB, fun j hj => by have := h.iv j hj; exact ⟨this.1, by omega, this.2.2⟩, fun j hj => h.row j hj⟩
  rcases h.has.2 with h3 | ⟨g', cap, cur, hv, hb, hh, rest⟩
  · exact .inl h3
  · have hlt := (h.has.lt g' (by rw [hv]; rfl)).2
    exact .inr ⟨g', cap, cur, hv, hb, (hg.block g' hlt (fun e => hne g' (by rw [hv]; rfl) e.symm)).trans hh, rest⟩
theorem OI.store (h : OI w B v xs) {p i : Nat} {x : Value} (hne : ∀ g, v.ownBlock = some g → g ≠ p) : OI (w.setCell ⟨p, i, none⟩ x) B v xs := by
  obtain ⟨cs, L, U, h⟩ := h
  refine ⟨cs, L, U, ⟨h.has.1, ?_⟩, h.mB, fun j hj => by simpa [World.setCell] using h.iv j hj, fun j hj => h.row j hj⟩
  rcases h.has.2 with h3 | ⟨g', cap, cur, hv, hb, hh, rest⟩
  · exact .inl h3
  · exact .inr ⟨g', cap, cur, hv, hb, (Below.heap_setCell w ⟨p, i, none⟩ x g' (hne g' (by rw [hv]; rfl))).trans hh, rest⟩
theorem OI.set0 {b n c : Nat} {x : Int} (h : OI w B (.slice (some ⟨b, 0, none⟩) n c) xs) : OI (w.setCell ⟨b, 0, none⟩ (.int .i64 x)) B (.slice (some ⟨b, 0, none⟩) n c) (xs.set 0 x) := by
  obtain ⟨cs, L, U, h⟩ := h
  have hf := h.has.form
  obtain ⟨A', c', e'⟩ := hf
  injection e' with e1 e2 e3
  have hh := h.has
  rw [← e2] at hh
  have hs := World.ownsRow.stored hh 0 (.int .i64 x)
  refine ⟨cs.set 0 (.int .i64 x), L, U, by rw [List.length_set, ← e2]; exact hs.1, h.mB, fun j hj => by rw [List.length_set] at hj; simpa [World.setCell] using h.iv j hj, fun j hj => ?_⟩
  rw [List.length_set] at hj
  obtain ⟨u, h1, h2⟩ := h.row j hj
  have h1 := h1 0 (by omega)
  by_cases e : j = 0
  · subst e
    refine ⟨fun _ => .int .i64 x, fun i hi => ?_, ?_⟩
    · obtain rfl : i = 0 := by omega
      rw [Nat.zero_mul, Nat.zero_add] at h1 ⊢
      rw [List.getElem?_set]
      have : 0 < cs.length := by have q := hh.1; omega
      simp [this]
    · show Value.int .i64 x = Value.int .i64 _
      rw [getD_set_same hj]
  · refine ⟨u, fun i hi => ?_, ?_⟩
    · obtain rfl : i = 0 := by omega
      rw [List.getElem?_set]
      rw [if_neg (by omega)]
      exact h1
    · show u 0 = Value.int .i64 _
      rw [getD_set_other (by omega)]; exact h2
theorem OI.head (h : OI w B v xs) (h0 : 0 < xs.length) : ∃ b c, v = .slice (some ⟨b, 0, none⟩) xs.length c ∧ B ≤ b ∧ b < w.heap.size ∧ w.cell? ⟨b, 0, none⟩ = some (.int .i64 (xs.getD 0 0)) ∧ w.frozen? ⟨b, 0, none⟩ = false := by
  obtain ⟨cs, L, U, h⟩ := h
  obtain ⟨A, c, hv, _, hr⟩ := h.read
  obtain ⟨b, e, h1, h2, _, u, hu, hx⟩ := hr 0 h0
  have := hu 0 (by omega)
  rw [hx] at this
  rw [Nat.zero_mul, Nat.zero_add] at this
  exact ⟨b, c, by rw [hv, e], h1, h2, this.1, this.2⟩
theorem OI.ints (h : OI w B v xs) (hn : xs.length ≤ 67108864) (hB : B ≤ w.heap.size) : ∃ A c, v = .slice A xs.length c ∧ xs.length ≤ c ∧ Ints w B w.heap.size A xs.length xs := by obtain ⟨cs, L, U, h⟩ := h; exact h.ints hn hB
end
/-- A table that was drawn: its two lists are one's own, apart from each other. -/
structure OT (w : World) (B : Nat) (V H : Value) (xs ys : List Int) : Prop where
  v : OI w B V xs
  h : OI w B H ys
  ap : ∀ g, H.ownBlock = some g → V.ownBlock ≠ some g
def DrawsT (M : Nat) (w : World) (g : Nat) (T : Int) (e : Ending) (w' : World) : Prop :=
  ∃ lv sm V nv cv H nh ch xs ys, e = .returned (.agg #[.int .i64 lv, .slice V nv cv, .slice H nh ch, .int .i64 sm]) ∧ OT w' w.heap.size (.slice V nv cv) (.slice H nh ch) xs ys ∧ (xs.length = nv ∧ ys.length = nh ∧ nv ≤ M ∧ nh ≤ M) ∧ Cur w' g T ∧ Fr g (g + 1) w w'
set_option maxRecDepth 100000 in
set_option maxHeartbeats 12800000 in
theorem table_any {g : Nat} {T : Int} {lo hi q c lo2 hi2 a c0 : Nat} {A A2 : Option Addr} {l : List VV} {ps : List Int} {w : World} (h : Cur w g T) (hT : T ≤ 300000000000000) (hG : Ints w lo2 hi2 A2 a ps) (hg2 : g < lo2) (hs : Vars w lo hi A q l) (hgl : g < lo) (hD : SchD l) :
    Calls Tryz.prog 77 #[.pointer (some ⟨g, 0, none⟩), .agg #[.slice A2 a c0], .slice A q c] w (DrawsT 9 w g (T + 100)) := by
  have HQL := hid (Vars.len hs)
  have HII := hid info_int
  have HD := hid hD
  have hq7 : q ≤ 7 := by have := hD.len; rw [Vars.len hs] at this; exact this
  have lg := h.lt
  go_enter Tryz.func77, Tryz.ntmps77
  have f : Fr g (g + 1) w w := Fr.refl _ _ _
  have hc := h
  replace f := f.keeps (keeps_alloc w (.cells #[.slice A2 a c0] 32))
  replace hc := hc.keeps (keeps_alloc w (.cells #[.slice A2 a c0] 32))
  have b4 : B1 (w.alloc (.cells #[.slice A2 a c0] 32)) w.heap.size (.slice A2 a c0) := B1.new' (by simp)
  replace f := f.keeps (keeps_alloc (w.alloc (.cells #[.slice A2 a c0] 32)) (.cells #[.int .i64 0, .slice none 0 0, .slice none 0 0, .int .i64 0] 61))
  replace hc := hc.keeps (keeps_alloc (w.alloc (.cells #[.slice A2 a c0] 32)) (.cells #[.int .i64 0, .slice none 0 0, .slice none 0 0, .int .i64 0] 61))
  replace b4 := b4.keeps (keeps_alloc (w.alloc (.cells #[.slice A2 a c0] 32)) (.cells #[.int .i64 0, .slice none 0 0, .slice none 0 0, .int .i64 0] 61))
  have b6 : Bl ((w.alloc (.cells #[.slice A2 a c0] 32)).alloc (.cells #[.int .i64 0, .slice none 0 0, .slice none 0 0, .int .i64 0] 61)) (w.heap.size + 1) [.int .i64 0, .slice none 0 0, .slice none 0 0, .int .i64 0] := Bl.new' (by simp) (by simp)
  go_wp2_with fail
  refine (where_any hc (by omega) (hs.fr f (by omega)) hgl HD.out).mono ?_
  rintro e w1 ⟨H, nh, ch, cs0, L0, U0, ys, rfl, hH, hyl, hyq, hn, ff⟩
  replace f := f.trans ff
  clear hc
  have hc := hn
  replace b4 := b4.fr ff (by first | omega | (simp; omega))
  replace b6 := b6.fr ff (by first | omega | (simp; omega))
  clear ff hn
  have sz1 := f.size
  have lt1 := b6.lt
  have hO : OI w1 (w.heap.size + 2) (.slice H nh ch) ys := OI.low ⟨_, _, _, hH⟩ (by simp)
  clear hH
  have hOl := hid hO.lt
  replace f := f.keeps (keeps_alloc w1 (.cells #[.int .i64 0, .slice none 0 0, .slice H nh ch, .int .i64 (-1)] 61))
  replace hc := hc.keeps (keeps_alloc w1 (.cells #[.int .i64 0, .slice none 0 0, .slice H nh ch, .int .i64 (-1)] 61))
  replace b4 := b4.keeps (keeps_alloc w1 (.cells #[.int .i64 0, .slice none 0 0, .slice H nh ch, .int .i64 (-1)] 61))
  replace b6 := b6.keeps (keeps_alloc w1 (.cells #[.int .i64 0, .slice none 0 0, .slice H nh ch, .int .i64 (-1)] 61))
  replace hO := hO.keeps (keeps_alloc w1 (.cells #[.int .i64 0, .slice none 0 0, .slice H nh ch, .int .i64 (-1)] 61))
  have b7 : Bl (w1.alloc (.cells #[.int .i64 0, .slice none 0 0, .slice H nh ch, .int .i64 (-1)] 61)) w1.heap.size [.int .i64 0, .slice none 0 0, .slice H nh ch, .int .i64 (-1)] := Bl.new' (by simp) (by simp)
  obtain ⟨ca2, fa2⟩ := id b4
  have ca3_0 := (b7.2 0 _ rfl).1
  have fa3_0 := (b7.2 0 _ rfl).2
  have ca3_1 := (b7.2 1 _ rfl).1
  have fa3_1 := (b7.2 1 _ rfl).2
  have ca3_2 := (b7.2 2 _ rfl).1
  have fa3_2 := (b7.2 2 _ rfl).2
  have ca3_3 := (b7.2 3 _ rfl).1
  have fa3_3 := (b7.2 3 _ rfl).2
  go_wp2_with fail
  clear ca2 fa2 ca3_0 fa3_0 ca3_1 fa3_1 ca3_2 fa3_2 ca3_3 fa3_3
  obtain ⟨W7, hWW⟩ : ∃ u : World, u = (w1.alloc (.cells #[.int .i64 0, .slice none 0 0, .slice H nh ch, .int .i64 (-1)] 61)) := ⟨_, rfl⟩
  rw [← hWW] at f hc b4 b6 b7 hO
  rw [← hWW]
  clear hWW
  have l7 := b7.lt
  have F0 := OI.nil W7 W7.heap.size
  have sz7 := f.size
  go_loopw [15] (fun i wr => ∃ (k : Nat) (vq : Value) (xs : List Int), i = .int .i64 k ∧ k ≤ q ∧ xs.length ≤ k ∧ OI wr W7.heap.size vq xs ∧ Bl wr w1.heap.size [.int .i64 0, vq, .slice H nh ch, .int .i64 (-1)] ∧ OI wr (w.heap.size + 2) (.slice H nh ch) ys ∧ B1 wr w.heap.size (.slice A2 a c0) ∧ Bl wr (w.heap.size + 1) [.int .i64 0, .slice none 0 0, .slice none 0 0, .int .i64 0] ∧ Cur wr g (T + 62 + 2 * k) ∧ Fr g (g + 1) w wr ∧ W7.heap.size ≤ wr.heap.size) (fun i _ => q - (intOf i).toNat)
  case atStart => exact ⟨0, _, [], rfl, Nat.zero_le _, Nat.le_refl _, F0, b7, hO, b4, b6, hc.mono (by omega), f, Nat.le_refl _⟩
  clear F0 b7 hO b4 b6 hc f
  case round =>
    obtain ⟨k, vq, xs, rfl, hk, hxl, hV, b7, hO, b4, b6, hc, f, szq⟩ := hrel
    have szr := f.size
    obtain ⟨A9, c9, e9⟩ := hV.form
    subst e9
    obtain ⟨nv, hnv⟩ : ∃ x, xs.length = x := ⟨_, rfl⟩
    rw [hnv] at hV b7 hxl
    have HNV := hid hnv
    clear hnv
    by_cases hlt : k < q
    rotate_left
    · obtain rfl : k = q := by omega
      obtain ⟨ca4, fa4⟩ := id b4
      go_wp2_with fail
      clear ca4 fa4
      have HVL := hid hV.lt
      obtain ⟨gb, HGB⟩ : ∃ gb, Hid (geoB ps = gb) := ⟨_, rfl⟩
      refine (gGood_any (hG.fr f (by omega))).mono ?_
      rintro e w5 ⟨rfl, kk⟩
      replace f := f.keeps kk
      replace hc := hc.keeps kk
      replace b4 := b4.keeps kk
      replace b6 := b6.keeps kk
      replace b7 := b7.keeps kk
      replace hO := hO.keeps kk
      replace hV := hV.keeps kk
      have sf5 := kk.size
      try simp at sf5
      clear kk
      have sz5 := f.size
      have lt5 := b7.lt
      rw [HGB.out]
      cases gb
      · have ca6_0 := (b7.2 0 _ rfl).1
        have fa6_0 := (b7.2 0 _ rfl).2
        have ca6_1 := (b7.2 1 _ rfl).1
        have fa6_1 := (b7.2 1 _ rfl).2
        have ca6_2 := (b7.2 2 _ rfl).1
        have fa6_2 := (b7.2 2 _ rfl).2
        have ca6_3 := (b7.2 3 _ rfl).1
        have fa6_3 := (b7.2 3 _ rfl).2
        go_wp2_with fail
        clear ca6_0 fa6_0 ca6_1 fa6_1 ca6_2 fa6_2 ca6_3 fa6_3
        refine (one_any hc (by omega) (by omega)).mono ?_
        rintro e w7 ⟨b9, rfl, hn, ff⟩
        replace f := f.trans ff
        clear hc
        have hc := hn
        replace b4 := b4.fr ff (by first | omega | (simp; omega))
        replace b6 := b6.fr ff (by first | omega | (simp; omega))
        replace b7 := b7.fr ff (by first | omega | (simp; omega))
        replace hO := hO.fr ff (by first | omega | (simp; omega))
        replace hV := hV.fr ff (by first | omega | (simp; omega))
        have sf7 := ff.size
        try simp at sf7
        clear ff hn
        have sz7 := f.size
        have lt7 := b7.lt
        cases b9
        · have ca8_0 := (b7.2 0 _ rfl).1
          have ca8_1 := (b7.2 1 _ rfl).1
          have ca8_2 := (b7.2 2 _ rfl).1
          have ca8_3 := (b7.2 3 _ rfl).1
          have ca9_0 := (b6.2 0 _ rfl).1
          have fa9_0 := (b6.2 0 _ rfl).2
          have ca9_1 := (b6.2 1 _ rfl).1
          have fa9_1 := (b6.2 1 _ rfl).2
          have ca9_2 := (b6.2 2 _ rfl).1
          have fa9_2 := (b6.2 2 _ rfl).2
          have ca9_3 := (b6.2 3 _ rfl).1
          have fa9_3 := (b6.2 3 _ rfl).2
          have HV := hid hV
          have HO := hid hO
          clear hV hO
          replace f := f.setNew (p := ⟨w.heap.size + 1, 0, none⟩) (by show _ ≤ (w.heap.size + 1); omega) (.int .i64 0)
          replace hc := hc.fr (fr_one (p := (w.heap.size + 1)) (i := 0) (.int .i64 0)) (by omega)
          replace b4 := b4.far (p := ⟨w.heap.size + 1, 0, none⟩) (by show _ ≠ (w.heap.size + 1); omega) (.int .i64 0)
          replace b7 := b7.far (p := ⟨w.heap.size + 1, 0, none⟩) (by show _ ≠ (w.heap.size + 1); omega) (.int .i64 0)
          replace b6 : Bl (w7.setCell ⟨w.heap.size + 1, 0, none⟩ (.int .i64 0)) (w.heap.size + 1) [.int .i64 0, .slice none 0 0, .slice none 0 0, .int .i64 0] := b6.set 0 (.int .i64 0)
          replace f := f.setNew (p := ⟨w.heap.size + 1, 1, none⟩) (by show _ ≤ (w.heap.size + 1); omega) (.slice A9 nv c9)
          replace hc := hc.fr (fr_one (p := (w.heap.size + 1)) (i := 1) (.slice A9 nv c9)) (by omega)
          replace b4 := b4.far (p := ⟨w.heap.size + 1, 1, none⟩) (by show _ ≠ (w.heap.size + 1); omega) (.slice A9 nv c9)
          replace b7 := b7.far (p := ⟨w.heap.size + 1, 1, none⟩) (by show _ ≠ (w.heap.size + 1); omega) (.slice A9 nv c9)
          replace b6 : Bl ((w7.setCell ⟨w.heap.size + 1, 0, none⟩ (.int .i64 0)).setCell ⟨w.heap.size + 1, 1, none⟩ (.slice A9 nv c9)) (w.heap.size + 1) [.int .i64 0, .slice A9 nv c9, .slice none 0 0, .int .i64 0] := b6.set 1 (.slice A9 nv c9)
          replace f := f.setNew (p := ⟨w.heap.size + 1, 2, none⟩) (by show _ ≤ (w.heap.size + 1); omega) (.slice H nh ch)
          replace hc := hc.fr (fr_one (p := (w.heap.size + 1)) (i := 2) (.slice H nh ch)) (by omega)
          replace b4 := b4.far (p := ⟨w.heap.size + 1, 2, none⟩) (by show _ ≠ (w.heap.size + 1); omega) (.slice H nh ch)
          replace b7 := b7.far (p := ⟨w.heap.size + 1, 2, none⟩) (by show _ ≠ (w.heap.size + 1); omega) (.slice H nh ch)
          replace b6 : Bl (((w7.setCell ⟨w.heap.size + 1, 0, none⟩ (.int .i64 0)).setCell ⟨w.heap.size + 1, 1, none⟩ (.slice A9 nv c9)).setCell ⟨w.heap.size + 1, 2, none⟩ (.slice H nh ch)) (w.heap.size + 1) [.int .i64 0, .slice A9 nv c9, .slice H nh ch, .int .i64 0] := b6.set 2 (.slice H nh ch)
          replace f := f.setNew (p := ⟨w.heap.size + 1, 3, none⟩) (by show _ ≤ (w.heap.size + 1); omega) (.int .i64 (-1))
          replace hc := hc.fr (fr_one (p := (w.heap.size + 1)) (i := 3) (.int .i64 (-1))) (by omega)
          replace b4 := b4.far (p := ⟨w.heap.size + 1, 3, none⟩) (by show _ ≠ (w.heap.size + 1); omega) (.int .i64 (-1))
          replace b7 := b7.far (p := ⟨w.heap.size + 1, 3, none⟩) (by show _ ≠ (w.heap.size + 1); omega) (.int .i64 (-1))
          replace b6 : Bl ((((w7.setCell ⟨w.heap.size + 1, 0, none⟩ (.int .i64 0)).setCell ⟨w.heap.size + 1, 1, none⟩ (.slice A9 nv c9)).setCell ⟨w.heap.size + 1, 2, none⟩ (.slice H nh ch)).setCell ⟨w.heap.size + 1, 3, none⟩ (.int .i64 (-1))) (w.heap.size + 1) [.int .i64 0, .slice A9 nv c9, .slice H nh ch, .int .i64 (-1)] := b6.set 3 (.int .i64 (-1))
          have OTT := hid (show OT ((((w7.setCell ⟨w.heap.size + 1, 0, none⟩ (.int .i64 0)).setCell ⟨w.heap.size + 1, 1, none⟩ (.slice A9 nv c9)).setCell ⟨w.heap.size + 1, 2, none⟩ (.slice H nh ch)).setCell ⟨w.heap.size + 1, 3, none⟩ (.int .i64 (-1))) w.heap.size (.slice A9 nv c9) (.slice H nh ch) xs ys from ⟨OI.low (OI.store (p := w.heap.size + 1) (i := 3) (x := .int .i64 (-1)) (OI.store (p := w.heap.size + 1) (i := 2) (x := .slice H nh ch) (OI.store (p := w.heap.size + 1) (i := 1) (x := .slice A9 nv c9) (OI.store (p := w.heap.size + 1) (i := 0) (x := .int .i64 0) HV.out (fun g e => by have := HVL.out g e; omega)) (fun g e => by have := HVL.out g e; omega)) (fun g e => by have := HVL.out g e; omega)) (fun g e => by have := HVL.out g e; omega)) (by omega), OI.low (OI.store (p := w.heap.size + 1) (i := 3) (x := .int .i64 (-1)) (OI.store (p := w.heap.size + 1) (i := 2) (x := .slice H nh ch) (OI.store (p := w.heap.size + 1) (i := 1) (x := .slice A9 nv c9) (OI.store (p := w.heap.size + 1) (i := 0) (x := .int .i64 0) HO.out (fun g e => by have := hOl.out g e; omega)) (fun g e => by have := hOl.out g e; omega)) (fun g e => by have := hOl.out g e; omega)) (fun g e => by have := hOl.out g e; omega)) (by omega), fun g e e2 => by have h1 := hOl.out g e; have h2 := HVL.out g e2; omega⟩)
          clear HV HO b4
          have HC9 := hid hc
          have HF9 := hid f
          clear hc f
          go_wp2_with fail
          clear ca8_0 ca8_1 ca8_2 ca8_3 ca9_0 fa9_0 ca9_1 fa9_1 ca9_2 fa9_2 ca9_3 fa9_3
          have ca0_0 := (b6.2 0 _ rfl).1
          have ca0_1 := (b6.2 1 _ rfl).1
          have ca0_2 := (b6.2 2 _ rfl).1
          have ca0_3 := (b6.2 3 _ rfl).1
          try simp only [Exit.inBlock, Exit.then]
          exact bodyPost_ret (v := .agg #[.int .i64 0, .slice A9 nv c9, .slice H nh ch, .int .i64 (-1)]) (by simp [results, Tryz.results77, go_sem, ca0_0, ca0_1, ca0_2, ca0_3]) rfl ⟨_, _, _, _, _, _, _, _, xs, ys, rfl, OTT.out, ⟨HNV.out, hyl, by omega, by omega⟩, HC9.out.mono (by omega), HF9.out⟩
        by_cases hq0 : 0 < k
        · have hq9 : (k : Int) > 0 := by omega
          go_wp2_with fail
          refine (pick_any hc (by omega) (by omega)).mono ?_
          rintro e w8 ⟨x9, rfl, hx9, hn, ff⟩
          replace f := f.trans ff
          clear hc
          have hc := hn
          replace b4 := b4.fr ff (by first | omega | (simp; omega))
          replace b6 := b6.fr ff (by first | omega | (simp; omega))
          replace b7 := b7.fr ff (by first | omega | (simp; omega))
          replace hO := hO.fr ff (by first | omega | (simp; omega))
          replace hV := hV.fr ff (by first | omega | (simp; omega))
          have sf8 := ff.size
          try simp at sf8
          clear ff hn
          have sz8 := f.size
          have lt8 := b7.lt
          have ca9_0 := (b7.2 0 _ rfl).1
          have fa9_0 := (b7.2 0 _ rfl).2
          have ca9_1 := (b7.2 1 _ rfl).1
          have fa9_1 := (b7.2 1 _ rfl).2
          have ca9_2 := (b7.2 2 _ rfl).1
          have fa9_2 := (b7.2 2 _ rfl).2
          have ca9_3 := (b7.2 3 _ rfl).1
          have fa9_3 := (b7.2 3 _ rfl).2
          replace hO := hO.store (p := w1.heap.size) (i := 3) (x := .int .i64 x9) (fun g e => by have := hOl.out g e; omega)
          replace hV := hV.store (p := w1.heap.size) (i := 3) (x := .int .i64 x9) (fun g e => by have := HVL.out g e; omega)
          replace f := f.setNew (p := ⟨w1.heap.size, 3, none⟩) (by show _ ≤ w1.heap.size; omega) (.int .i64 x9)
          replace hc := hc.fr (fr_one (p := w1.heap.size) (i := 3) (.int .i64 x9)) (by omega)
          replace b4 := b4.far (p := ⟨w1.heap.size, 3, none⟩) (by show _ ≠ w1.heap.size; omega) (.int .i64 x9)
          replace b6 := b6.far (p := ⟨w1.heap.size, 3, none⟩) (by show _ ≠ w1.heap.size; omega) (.int .i64 x9)
          replace b7 : Bl (w8.setCell ⟨w1.heap.size, 3, none⟩ (.int .i64 x9)) w1.heap.size [.int .i64 0, .slice A9 nv c9, .slice H nh ch, .int .i64 x9] := b7.set 3 (.int .i64 x9)
          have ca10_0 := (b7.2 0 _ rfl).1
          have ca10_1 := (b7.2 1 _ rfl).1
          have ca10_2 := (b7.2 2 _ rfl).1
          have ca10_3 := (b7.2 3 _ rfl).1
          have ca11_0 := (b6.2 0 _ rfl).1
          have fa11_0 := (b6.2 0 _ rfl).2
          have ca11_1 := (b6.2 1 _ rfl).1
          have fa11_1 := (b6.2 1 _ rfl).2
          have ca11_2 := (b6.2 2 _ rfl).1
          have fa11_2 := (b6.2 2 _ rfl).2
          have ca11_3 := (b6.2 3 _ rfl).1
          have fa11_3 := (b6.2 3 _ rfl).2
          have HV := hid hV
          have HO := hid hO
          clear hV hO
          replace f := f.setNew (p := ⟨w.heap.size + 1, 0, none⟩) (by show _ ≤ (w.heap.size + 1); omega) (.int .i64 0)
          replace hc := hc.fr (fr_one (p := (w.heap.size + 1)) (i := 0) (.int .i64 0)) (by omega)
          replace b4 := b4.far (p := ⟨w.heap.size + 1, 0, none⟩) (by show _ ≠ (w.heap.size + 1); omega) (.int .i64 0)
          replace b7 := b7.far (p := ⟨w.heap.size + 1, 0, none⟩) (by show _ ≠ (w.heap.size + 1); omega) (.int .i64 0)
          replace b6 : Bl ((w8.setCell ⟨w1.heap.size, 3, none⟩ (.int .i64 x9)).setCell ⟨w.heap.size + 1, 0, none⟩ (.int .i64 0)) (w.heap.size + 1) [.int .i64 0, .slice none 0 0, .slice none 0 0, .int .i64 0] := b6.set 0 (.int .i64 0)
          replace f := f.setNew (p := ⟨w.heap.size + 1, 1, none⟩) (by show _ ≤ (w.heap.size + 1); omega) (.slice A9 nv c9)
          replace hc := hc.fr (fr_one (p := (w.heap.size + 1)) (i := 1) (.slice A9 nv c9)) (by omega)
          replace b4 := b4.far (p := ⟨w.heap.size + 1, 1, none⟩) (by show _ ≠ (w.heap.size + 1); omega) (.slice A9 nv c9)
          replace b7 := b7.far (p := ⟨w.heap.size + 1, 1, none⟩) (by show _ ≠ (w.heap.size + 1); omega) (.slice A9 nv c9)
          replace b6 : Bl (((w8.setCell ⟨w1.heap.size, 3, none⟩ (.int .i64 x9)).setCell ⟨w.heap.size + 1, 0, none⟩ (.int .i64 0)).setCell ⟨w.heap.size + 1, 1, none⟩ (.slice A9 nv c9)) (w.heap.size + 1) [.int .i64 0, .slice A9 nv c9, .slice none 0 0, .int .i64 0] := b6.set 1 (.slice A9 nv c9)
          replace f := f.setNew (p := ⟨w.heap.size + 1, 2, none⟩) (by show _ ≤ (w.heap.size + 1); omega) (.slice H nh ch)
          replace hc := hc.fr (fr_one (p := (w.heap.size + 1)) (i := 2) (.slice H nh ch)) (by omega)
          replace b4 := b4.far (p := ⟨w.heap.size + 1, 2, none⟩) (by show _ ≠ (w.heap.size + 1); omega) (.slice H nh ch)
          replace b7 := b7.far (p := ⟨w.heap.size + 1, 2, none⟩) (by show _ ≠ (w.heap.size + 1); omega) (.slice H nh ch)
          replace b6 : Bl ((((w8.setCell ⟨w1.heap.size, 3, none⟩ (.int .i64 x9)).setCell ⟨w.heap.size + 1, 0, none⟩ (.int .i64 0)).setCell ⟨w.heap.size + 1, 1, none⟩ (.slice A9 nv c9)).setCell ⟨w.heap.size + 1, 2, none⟩ (.slice H nh ch)) (w.heap.size + 1) [.int .i64 0, .slice A9 nv c9, .slice H nh ch, .int .i64 0] := b6.set 2 (.slice H nh ch)
          replace f := f.setNew (p := ⟨w.heap.size + 1, 3, none⟩) (by show _ ≤ (w.heap.size + 1); omega) (.int .i64 x9)
          replace hc := hc.fr (fr_one (p := (w.heap.size + 1)) (i := 3) (.int .i64 x9)) (by omega)
          replace b4 := b4.far (p := ⟨w.heap.size + 1, 3, none⟩) (by show _ ≠ (w.heap.size + 1); omega) (.int .i64 x9)
          replace b7 := b7.far (p := ⟨w.heap.size + 1, 3, none⟩) (by show _ ≠ (w.heap.size + 1); omega) (.int .i64 x9)
          replace b6 : Bl (((((w8.setCell ⟨w1.heap.size, 3, none⟩ (.int .i64 x9)).setCell ⟨w.heap.size + 1, 0, none⟩ (.int .i64 0)).setCell ⟨w.heap.size + 1, 1, none⟩ (.slice A9 nv c9)).setCell ⟨w.heap.size + 1, 2, none⟩ (.slice H nh ch)).setCell ⟨w.heap.size + 1, 3, none⟩ (.int .i64 x9)) (w.heap.size + 1) [.int .i64 0, .slice A9 nv c9, .slice H nh ch, .int .i64 x9] := b6.set 3 (.int .i64 x9)
          have OTT := hid (show OT (((((w8.setCell ⟨w1.heap.size, 3, none⟩ (.int .i64 x9)).setCell ⟨w.heap.size + 1, 0, none⟩ (.int .i64 0)).setCell ⟨w.heap.size + 1, 1, none⟩ (.slice A9 nv c9)).setCell ⟨w.heap.size + 1, 2, none⟩ (.slice H nh ch)).setCell ⟨w.heap.size + 1, 3, none⟩ (.int .i64 x9)) w.heap.size (.slice A9 nv c9) (.slice H nh ch) xs ys from ⟨OI.low (OI.store (p := w.heap.size + 1) (i := 3) (x := .int .i64 x9) (OI.store (p := w.heap.size + 1) (i := 2) (x := .slice H nh ch) (OI.store (p := w.heap.size + 1) (i := 1) (x := .slice A9 nv c9) (OI.store (p := w.heap.size + 1) (i := 0) (x := .int .i64 0) HV.out (fun g e => by have := HVL.out g e; omega)) (fun g e => by have := HVL.out g e; omega)) (fun g e => by have := HVL.out g e; omega)) (fun g e => by have := HVL.out g e; omega)) (by omega), OI.low (OI.store (p := w.heap.size + 1) (i := 3) (x := .int .i64 x9) (OI.store (p := w.heap.size + 1) (i := 2) (x := .slice H nh ch) (OI.store (p := w.heap.size + 1) (i := 1) (x := .slice A9 nv c9) (OI.store (p := w.heap.size + 1) (i := 0) (x := .int .i64 0) HO.out (fun g e => by have := hOl.out g e; omega)) (fun g e => by have := hOl.out g e; omega)) (fun g e => by have := hOl.out g e; omega)) (fun g e => by have := hOl.out g e; omega)) (by omega), fun g e e2 => by have h1 := hOl.out g e; have h2 := HVL.out g e2; omega⟩)
          clear HV HO b4
          have HC9 := hid hc
          have HF9 := hid f
          clear hc f
          go_wp2_with fail
          clear ca9_0 fa9_0 ca9_1 fa9_1 ca9_2 fa9_2 ca9_3 fa9_3 ca10_0 ca10_1 ca10_2 ca10_3 ca11_0 fa11_0 ca11_1 fa11_1 ca11_2 fa11_2 ca11_3 fa11_3
          have ca0_0 := (b6.2 0 _ rfl).1
          have ca0_1 := (b6.2 1 _ rfl).1
          have ca0_2 := (b6.2 2 _ rfl).1
          have ca0_3 := (b6.2 3 _ rfl).1
          try simp only [Exit.inBlock, Exit.then]
          exact bodyPost_ret (v := .agg #[.int .i64 0, .slice A9 nv c9, .slice H nh ch, .int .i64 x9]) (by simp [results, Tryz.results77, go_sem, ca0_0, ca0_1, ca0_2, ca0_3]) rfl ⟨_, _, _, _, _, _, _, _, xs, ys, rfl, OTT.out, ⟨HNV.out, hyl, by omega, by omega⟩, HC9.out.mono (by omega), HF9.out⟩
        have hq9 : ¬ (k : Int) > 0 := by omega
        have ca8_0 := (b7.2 0 _ rfl).1
        have ca8_1 := (b7.2 1 _ rfl).1
        have ca8_2 := (b7.2 2 _ rfl).1
        have ca8_3 := (b7.2 3 _ rfl).1
        have ca9_0 := (b6.2 0 _ rfl).1
        have fa9_0 := (b6.2 0 _ rfl).2
        have ca9_1 := (b6.2 1 _ rfl).1
        have fa9_1 := (b6.2 1 _ rfl).2
        have ca9_2 := (b6.2 2 _ rfl).1
        have fa9_2 := (b6.2 2 _ rfl).2
        have ca9_3 := (b6.2 3 _ rfl).1
        have fa9_3 := (b6.2 3 _ rfl).2
        have HV := hid hV
        have HO := hid hO
        clear hV hO
        replace f := f.setNew (p := ⟨w.heap.size + 1, 0, none⟩) (by show _ ≤ (w.heap.size + 1); omega) (.int .i64 0)
        replace hc := hc.fr (fr_one (p := (w.heap.size + 1)) (i := 0) (.int .i64 0)) (by omega)
        replace b4 := b4.far (p := ⟨w.heap.size + 1, 0, none⟩) (by show _ ≠ (w.heap.size + 1); omega) (.int .i64 0)
        replace b7 := b7.far (p := ⟨w.heap.size + 1, 0, none⟩) (by show _ ≠ (w.heap.size + 1); omega) (.int .i64 0)
        replace b6 : Bl (w7.setCell ⟨w.heap.size + 1, 0, none⟩ (.int .i64 0)) (w.heap.size + 1) [.int .i64 0, .slice none 0 0, .slice none 0 0, .int .i64 0] := b6.set 0 (.int .i64 0)
        replace f := f.setNew (p := ⟨w.heap.size + 1, 1, none⟩) (by show _ ≤ (w.heap.size + 1); omega) (.slice A9 nv c9)
        replace hc := hc.fr (fr_one (p := (w.heap.size + 1)) (i := 1) (.slice A9 nv c9)) (by omega)
        replace b4 := b4.far (p := ⟨w.heap.size + 1, 1, none⟩) (by show _ ≠ (w.heap.size + 1); omega) (.slice A9 nv c9)
        replace b7 := b7.far (p := ⟨w.heap.size + 1, 1, none⟩) (by show _ ≠ (w.heap.size + 1); omega) (.slice A9 nv c9)
        replace b6 : Bl ((w7.setCell ⟨w.heap.size + 1, 0, none⟩ (.int .i64 0)).setCell ⟨w.heap.size + 1, 1, none⟩ (.slice A9 nv c9)) (w.heap.size + 1) [.int .i64 0, .slice A9 nv c9, .slice none 0 0, .int .i64 0] := b6.set 1 (.slice A9 nv c9)
        replace f := f.setNew (p := ⟨w.heap.size + 1, 2, none⟩) (by show _ ≤ (w.heap.size + 1); omega) (.slice H nh ch)
        replace hc := hc.fr (fr_one (p := (w.heap.size + 1)) (i := 2) (.slice H nh ch)) (by omega)
        replace b4 := b4.far (p := ⟨w.heap.size + 1, 2, none⟩) (by show _ ≠ (w.heap.size + 1); omega) (.slice H nh ch)
        replace b7 := b7.far (p := ⟨w.heap.size + 1, 2, none⟩) (by show _ ≠ (w.heap.size + 1); omega) (.slice H nh ch)
        replace b6 : Bl (((w7.setCell ⟨w.heap.size + 1, 0, none⟩ (.int .i64 0)).setCell ⟨w.heap.size + 1, 1, none⟩ (.slice A9 nv c9)).setCell ⟨w.heap.size + 1, 2, none⟩ (.slice H nh ch)) (w.heap.size + 1) [.int .i64 0, .slice A9 nv c9, .slice H nh ch, .int .i64 0] := b6.set 2 (.slice H nh ch)
        replace f := f.setNew (p := ⟨w.heap.size + 1, 3, none⟩) (by show _ ≤ (w.heap.size + 1); omega) (.int .i64 (-1))
        replace hc := hc.fr (fr_one (p := (w.heap.size + 1)) (i := 3) (.int .i64 (-1))) (by omega)
        replace b4 := b4.far (p := ⟨w.heap.size + 1, 3, none⟩) (by show _ ≠ (w.heap.size + 1); omega) (.int .i64 (-1))
        replace b7 := b7.far (p := ⟨w.heap.size + 1, 3, none⟩) (by show _ ≠ (w.heap.size + 1); omega) (.int .i64 (-1))
        replace b6 : Bl ((((w7.setCell ⟨w.heap.size + 1, 0, none⟩ (.int .i64 0)).setCell ⟨w.heap.size + 1, 1, none⟩ (.slice A9 nv c9)).setCell ⟨w.heap.size + 1, 2, none⟩ (.slice H nh ch)).setCell ⟨w.heap.size + 1, 3, none⟩ (.int .i64 (-1))) (w.heap.size + 1) [.int .i64 0, .slice A9 nv c9, .slice H nh ch, .int .i64 (-1)] := b6.set 3 (.int .i64 (-1))
        have OTT := hid (show OT ((((w7.setCell ⟨w.heap.size + 1, 0, none⟩ (.int .i64 0)).setCell ⟨w.heap.size + 1, 1, none⟩ (.slice A9 nv c9)).setCell ⟨w.heap.size + 1, 2, none⟩ (.slice H nh ch)).setCell ⟨w.heap.size + 1, 3, none⟩ (.int .i64 (-1))) w.heap.size (.slice A9 nv c9) (.slice H nh ch) xs ys from ⟨OI.low (OI.store (p := w.heap.size + 1) (i := 3) (x := .int .i64 (-1)) (OI.store (p := w.heap.size + 1) (i := 2) (x := .slice H nh ch) (OI.store (p := w.heap.size + 1) (i := 1) (x := .slice A9 nv c9) (OI.store (p := w.heap.size + 1) (i := 0) (x := .int .i64 0) HV.out (fun g e => by have := HVL.out g e; omega)) (fun g e => by have := HVL.out g e; omega)) (fun g e => by have := HVL.out g e; omega)) (fun g e => by have := HVL.out g e; omega)) (by omega), OI.low (OI.store (p := w.heap.size + 1) (i := 3) (x := .int .i64 (-1)) (OI.store (p := w.heap.size + 1) (i := 2) (x := .slice H nh ch) (OI.store (p := w.heap.size + 1) (i := 1) (x := .slice A9 nv c9) (OI.store (p := w.heap.size + 1) (i := 0) (x := .int .i64 0) HO.out (fun g e => by have := hOl.out g e; omega)) (fun g e => by have := hOl.out g e; omega)) (fun g e => by have := hOl.out g e; omega)) (fun g e => by have := hOl.out g e; omega)) (by omega), fun g e e2 => by have h1 := hOl.out g e; have h2 := HVL.out g e2; omega⟩)
        clear HV HO b4
        have HC9 := hid hc
        have HF9 := hid f
        clear hc f
        go_wp2_with fail
        clear ca8_0 ca8_1 ca8_2 ca8_3 ca9_0 fa9_0 ca9_1 fa9_1 ca9_2 fa9_2 ca9_3 fa9_3
        have ca0_0 := (b6.2 0 _ rfl).1
        have ca0_1 := (b6.2 1 _ rfl).1
        have ca0_2 := (b6.2 2 _ rfl).1
        have ca0_3 := (b6.2 3 _ rfl).1
        try simp only [Exit.inBlock, Exit.then]
        exact bodyPost_ret (v := .agg #[.int .i64 0, .slice A9 nv c9, .slice H nh ch, .int .i64 (-1)]) (by simp [results, Tryz.results77, go_sem, ca0_0, ca0_1, ca0_2, ca0_3]) rfl ⟨_, _, _, _, _, _, _, _, xs, ys, rfl, OTT.out, ⟨HNV.out, hyl, by omega, by omega⟩, HC9.out.mono (by omega), HF9.out⟩
      have HT := hid (tree_of HGB.out)
      go_wp2_with fail
      refine (pick_any hc (by omega) (by omega)).mono ?_
      rintro e w6 ⟨x8, rfl, hx8, hn, ff⟩
      replace f := f.trans ff
      clear hc
      have hc := hn
      replace b4 := b4.fr ff (by first | omega | (simp; omega))
      replace b6 := b6.fr ff (by first | omega | (simp; omega))
      replace b7 := b7.fr ff (by first | omega | (simp; omega))
      replace hO := hO.fr ff (by first | omega | (simp; omega))
      replace hV := hV.fr ff (by first | omega | (simp; omega))
      have sf6 := ff.size
      try simp at sf6
      clear ff hn
      have sz6 := f.size
      have lt6 := b7.lt
      have ca7_0 := (b7.2 0 _ rfl).1
      have fa7_0 := (b7.2 0 _ rfl).2
      have ca7_1 := (b7.2 1 _ rfl).1
      have fa7_1 := (b7.2 1 _ rfl).2
      have ca7_2 := (b7.2 2 _ rfl).1
      have fa7_2 := (b7.2 2 _ rfl).2
      have ca7_3 := (b7.2 3 _ rfl).1
      have fa7_3 := (b7.2 3 _ rfl).2
      obtain ⟨ca8, fa8⟩ := id b4
      replace hO := hO.store (p := w1.heap.size) (i := 0) (x := .int .i64 x8) (fun g e => by have := hOl.out g e; omega)
      replace hV := hV.store (p := w1.heap.size) (i := 0) (x := .int .i64 x8) (fun g e => by have := HVL.out g e; omega)
      replace f := f.setNew (p := ⟨w1.heap.size, 0, none⟩) (by show _ ≤ w1.heap.size; omega) (.int .i64 x8)
      replace hc := hc.fr (fr_one (p := w1.heap.size) (i := 0) (.int .i64 x8)) (by omega)
      replace b4 := b4.far (p := ⟨w1.heap.size, 0, none⟩) (by show _ ≠ w1.heap.size; omega) (.int .i64 x8)
      replace b6 := b6.far (p := ⟨w1.heap.size, 0, none⟩) (by show _ ≠ w1.heap.size; omega) (.int .i64 x8)
      replace b7 : Bl (w6.setCell ⟨w1.heap.size, 0, none⟩ (.int .i64 x8)) w1.heap.size [.int .i64 x8, .slice A9 nv c9, .slice H nh ch, .int .i64 (-1)] := b7.set 0 (.int .i64 x8)
      obtain ⟨ca9, fa9⟩ := id b4
      have ca10_0 := (b7.2 0 _ rfl).1
      have fa10_0 := (b7.2 0 _ rfl).2
      have ca10_1 := (b7.2 1 _ rfl).1
      have fa10_1 := (b7.2 1 _ rfl).2
      have ca10_2 := (b7.2 2 _ rfl).1
      have fa10_2 := (b7.2 2 _ rfl).2
      have ca10_3 := (b7.2 3 _ rfl).1
      have fa10_3 := (b7.2 3 _ rfl).2
      go_wp2_with fail
      clear ca7_0 fa7_0 ca7_1 fa7_1 ca7_2 fa7_2 ca7_3 fa7_3 ca8 fa8 ca9 fa9 ca10_0 fa10_0 ca10_1 fa10_1 ca10_2 fa10_2 ca10_3 fa10_3
      refine (gLevel_any (lv := x8) (hG.fr f (by omega)) HT.out).mono ?_
      rintro e w11 ⟨LA, LC, rfl, mL, kk⟩
      replace f := f.keeps kk
      replace hc := hc.keeps kk
      replace b4 := b4.keeps kk
      replace b6 := b6.keeps kk
      replace b7 := b7.keeps kk
      replace hO := hO.keeps kk
      replace hV := hV.keeps kk
      have sf11 := kk.size
      try simp at sf11
      clear kk
      have sz11 := f.size
      have lt11 := b7.lt
      clear mL
      obtain ⟨nL, hnL⟩ : ∃ x, (lev ps x8).length = x := ⟨_, rfl⟩
      rw [hnL]
      clear hnL
      by_cases hn0 : nL = 0
      · subst hn0
        have ca12_0 := (b7.2 0 _ rfl).1
        have fa12_0 := (b7.2 0 _ rfl).2
        have ca12_1 := (b7.2 1 _ rfl).1
        have fa12_1 := (b7.2 1 _ rfl).2
        have ca12_2 := (b7.2 2 _ rfl).1
        have fa12_2 := (b7.2 2 _ rfl).2
        have ca12_3 := (b7.2 3 _ rfl).1
        have fa12_3 := (b7.2 3 _ rfl).2
        replace hO := hO.store (p := w1.heap.size) (i := 0) (x := .int .i64 0) (fun g e => by have := hOl.out g e; omega)
        replace hV := hV.store (p := w1.heap.size) (i := 0) (x := .int .i64 0) (fun g e => by have := HVL.out g e; omega)
        replace f := f.setNew (p := ⟨w1.heap.size, 0, none⟩) (by show _ ≤ w1.heap.size; omega) (.int .i64 0)
        replace hc := hc.fr (fr_one (p := w1.heap.size) (i := 0) (.int .i64 0)) (by omega)
        replace b4 := b4.far (p := ⟨w1.heap.size, 0, none⟩) (by show _ ≠ w1.heap.size; omega) (.int .i64 0)
        replace b6 := b6.far (p := ⟨w1.heap.size, 0, none⟩) (by show _ ≠ w1.heap.size; omega) (.int .i64 0)
        replace b7 : Bl (w11.setCell ⟨w1.heap.size, 0, none⟩ (.int .i64 0)) w1.heap.size [.int .i64 0, .slice A9 nv c9, .slice H nh ch, .int .i64 (-1)] := b7.set 0 (.int .i64 0)
        have ca13_0 := (b7.2 0 _ rfl).1
        have fa13_0 := (b7.2 0 _ rfl).2
        have ca13_1 := (b7.2 1 _ rfl).1
        have fa13_1 := (b7.2 1 _ rfl).2
        have ca13_2 := (b7.2 2 _ rfl).1
        have fa13_2 := (b7.2 2 _ rfl).2
        have ca13_3 := (b7.2 3 _ rfl).1
        have fa13_3 := (b7.2 3 _ rfl).2
        go_wp2_with fail
        clear ca12_0 fa12_0 ca12_1 fa12_1 ca12_2 fa12_2 ca12_3 fa12_3 ca13_0 fa13_0 ca13_1 fa13_1 ca13_2 fa13_2 ca13_3 fa13_3
        refine (one_any hc (by omega) (by omega)).mono ?_
        rintro e w14 ⟨b9, rfl, hn, ff⟩
        replace f := f.trans ff
        clear hc
        have hc := hn
        replace b4 := b4.fr ff (by first | omega | (simp; omega))
        replace b6 := b6.fr ff (by first | omega | (simp; omega))
        replace b7 := b7.fr ff (by first | omega | (simp; omega))
        replace hO := hO.fr ff (by first | omega | (simp; omega))
        replace hV := hV.fr ff (by first | omega | (simp; omega))
        have sf14 := ff.size
        try simp at sf14
        clear ff hn
        have sz14 := f.size
        have lt14 := b7.lt
        cases b9
        · have ca15_0 := (b7.2 0 _ rfl).1
          have ca15_1 := (b7.2 1 _ rfl).1
          have ca15_2 := (b7.2 2 _ rfl).1
          have ca15_3 := (b7.2 3 _ rfl).1
          have ca16_0 := (b6.2 0 _ rfl).1
          have fa16_0 := (b6.2 0 _ rfl).2
          have ca16_1 := (b6.2 1 _ rfl).1
          have fa16_1 := (b6.2 1 _ rfl).2
          have ca16_2 := (b6.2 2 _ rfl).1
          have fa16_2 := (b6.2 2 _ rfl).2
          have ca16_3 := (b6.2 3 _ rfl).1
          have fa16_3 := (b6.2 3 _ rfl).2
          have HV := hid hV
          have HO := hid hO
          clear hV hO
          replace f := f.setNew (p := ⟨w.heap.size + 1, 0, none⟩) (by show _ ≤ (w.heap.size + 1); omega) (.int .i64 0)
          replace hc := hc.fr (fr_one (p := (w.heap.size + 1)) (i := 0) (.int .i64 0)) (by omega)
          replace b4 := b4.far (p := ⟨w.heap.size + 1, 0, none⟩) (by show _ ≠ (w.heap.size + 1); omega) (.int .i64 0)
          replace b7 := b7.far (p := ⟨w.heap.size + 1, 0, none⟩) (by show _ ≠ (w.heap.size + 1); omega) (.int .i64 0)
          replace b6 : Bl (w14.setCell ⟨w.heap.size + 1, 0, none⟩ (.int .i64 0)) (w.heap.size + 1) [.int .i64 0, .slice none 0 0, .slice none 0 0, .int .i64 0] := b6.set 0 (.int .i64 0)
          replace f := f.setNew (p := ⟨w.heap.size + 1, 1, none⟩) (by show _ ≤ (w.heap.size + 1); omega) (.slice A9 nv c9)
          replace hc := hc.fr (fr_one (p := (w.heap.size + 1)) (i := 1) (.slice A9 nv c9)) (by omega)
          replace b4 := b4.far (p := ⟨w.heap.size + 1, 1, none⟩) (by show _ ≠ (w.heap.size + 1); omega) (.slice A9 nv c9)
          replace b7 := b7.far (p := ⟨w.heap.size + 1, 1, none⟩) (by show _ ≠ (w.heap.size + 1); omega) (.slice A9 nv c9)
          replace b6 : Bl ((w14.setCell ⟨w.heap.size + 1, 0, none⟩ (.int .i64 0)).setCell ⟨w.heap.size + 1, 1, none⟩ (.slice A9 nv c9)) (w.heap.size + 1) [.int .i64 0, .slice A9 nv c9, .slice none 0 0, .int .i64 0] := b6.set 1 (.slice A9 nv c9)
          replace f := f.setNew (p := ⟨w.heap.size + 1, 2, none⟩) (by show _ ≤ (w.heap.size + 1); omega) (.slice H nh ch)
          replace hc := hc.fr (fr_one (p := (w.heap.size + 1)) (i := 2) (.slice H nh ch)) (by omega)
          replace b4 := b4.far (p := ⟨w.heap.size + 1, 2, none⟩) (by show _ ≠ (w.heap.size + 1); omega) (.slice H nh ch)
          replace b7 := b7.far (p := ⟨w.heap.size + 1, 2, none⟩) (by show _ ≠ (w.heap.size + 1); omega) (.slice H nh ch)
          replace b6 : Bl (((w14.setCell ⟨w.heap.size + 1, 0, none⟩ (.int .i64 0)).setCell ⟨w.heap.size + 1, 1, none⟩ (.slice A9 nv c9)).setCell ⟨w.heap.size + 1, 2, none⟩ (.slice H nh ch)) (w.heap.size + 1) [.int .i64 0, .slice A9 nv c9, .slice H nh ch, .int .i64 0] := b6.set 2 (.slice H nh ch)
          replace f := f.setNew (p := ⟨w.heap.size + 1, 3, none⟩) (by show _ ≤ (w.heap.size + 1); omega) (.int .i64 (-1))
          replace hc := hc.fr (fr_one (p := (w.heap.size + 1)) (i := 3) (.int .i64 (-1))) (by omega)
          replace b4 := b4.far (p := ⟨w.heap.size + 1, 3, none⟩) (by show _ ≠ (w.heap.size + 1); omega) (.int .i64 (-1))
          replace b7 := b7.far (p := ⟨w.heap.size + 1, 3, none⟩) (by show _ ≠ (w.heap.size + 1); omega) (.int .i64 (-1))
          replace b6 : Bl ((((w14.setCell ⟨w.heap.size + 1, 0, none⟩ (.int .i64 0)).setCell ⟨w.heap.size + 1, 1, none⟩ (.slice A9 nv c9)).setCell ⟨w.heap.size + 1, 2, none⟩ (.slice H nh ch)).setCell ⟨w.heap.size + 1, 3, none⟩ (.int .i64 (-1))) (w.heap.size + 1) [.int .i64 0, .slice A9 nv c9, .slice H nh ch, .int .i64 (-1)] := b6.set 3 (.int .i64 (-1))
          have OTT := hid (show OT ((((w14.setCell ⟨w.heap.size + 1, 0, none⟩ (.int .i64 0)).setCell ⟨w.heap.size + 1, 1, none⟩ (.slice A9 nv c9)).setCell ⟨w.heap.size + 1, 2, none⟩ (.slice H nh ch)).setCell ⟨w.heap.size + 1, 3, none⟩ (.int .i64 (-1))) w.heap.size (.slice A9 nv c9) (.slice H nh ch) xs ys from ⟨OI.low (OI.store (p := w.heap.size + 1) (i := 3) (x := .int .i64 (-1)) (OI.store (p := w.heap.size + 1) (i := 2) (x := .slice H nh ch) (OI.store (p := w.heap.size + 1) (i := 1) (x := .slice A9 nv c9) (OI.store (p := w.heap.size + 1) (i := 0) (x := .int .i64 0) HV.out (fun g e => by have := HVL.out g e; omega)) (fun g e => by have := HVL.out g e; omega)) (fun g e => by have := HVL.out g e; omega)) (fun g e => by have := HVL.out g e; omega)) (by omega), OI.low (OI.store (p := w.heap.size + 1) (i := 3) (x := .int .i64 (-1)) (OI.store (p := w.heap.size + 1) (i := 2) (x := .slice H nh ch) (OI.store (p := w.heap.size + 1) (i := 1) (x := .slice A9 nv c9) (OI.store (p := w.heap.size + 1) (i := 0) (x := .int .i64 0) HO.out (fun g e => by have := hOl.out g e; omega)) (fun g e => by have := hOl.out g e; omega)) (fun g e => by have := hOl.out g e; omega)) (fun g e => by have := hOl.out g e; omega)) (by omega), fun g e e2 => by have h1 := hOl.out g e; have h2 := HVL.out g e2; omega⟩)
          clear HV HO b4
          have HC9 := hid hc
          have HF9 := hid f
          clear hc f
          go_wp2_with fail
          clear ca15_0 ca15_1 ca15_2 ca15_3 ca16_0 fa16_0 ca16_1 fa16_1 ca16_2 fa16_2 ca16_3 fa16_3
          have ca0_0 := (b6.2 0 _ rfl).1
          have ca0_1 := (b6.2 1 _ rfl).1
          have ca0_2 := (b6.2 2 _ rfl).1
          have ca0_3 := (b6.2 3 _ rfl).1
          try simp only [Exit.inBlock, Exit.then]
          exact bodyPost_ret (v := .agg #[.int .i64 0, .slice A9 nv c9, .slice H nh ch, .int .i64 (-1)]) (by simp [results, Tryz.results77, go_sem, ca0_0, ca0_1, ca0_2, ca0_3]) rfl ⟨_, _, _, _, _, _, _, _, xs, ys, rfl, OTT.out, ⟨HNV.out, hyl, by omega, by omega⟩, HC9.out.mono (by omega), HF9.out⟩
        by_cases hq0 : 0 < k
        · have hq9 : (k : Int) > 0 := by omega
          go_wp2_with fail
          refine (pick_any hc (by omega) (by omega)).mono ?_
          rintro e w15 ⟨x9, rfl, hx9, hn, ff⟩
          replace f := f.trans ff
          clear hc
          have hc := hn
          replace b4 := b4.fr ff (by first | omega | (simp; omega))
          replace b6 := b6.fr ff (by first | omega | (simp; omega))
          replace b7 := b7.fr ff (by first | omega | (simp; omega))
          replace hO := hO.fr ff (by first | omega | (simp; omega))
          replace hV := hV.fr ff (by first | omega | (simp; omega))
          have sf15 := ff.size
          try simp at sf15
          clear ff hn
          have sz15 := f.size
          have lt15 := b7.lt
          have ca16_0 := (b7.2 0 _ rfl).1
          have fa16_0 := (b7.2 0 _ rfl).2
          have ca16_1 := (b7.2 1 _ rfl).1
          have fa16_1 := (b7.2 1 _ rfl).2
          have ca16_2 := (b7.2 2 _ rfl).1
          have fa16_2 := (b7.2 2 _ rfl).2
          have ca16_3 := (b7.2 3 _ rfl).1
          have fa16_3 := (b7.2 3 _ rfl).2
          replace hO := hO.store (p := w1.heap.size) (i := 3) (x := .int .i64 x9) (fun g e => by have := hOl.out g e; omega)
          replace hV := hV.store (p := w1.heap.size) (i := 3) (x := .int .i64 x9) (fun g e => by have := HVL.out g e; omega)
          replace f := f.setNew (p := ⟨w1.heap.size, 3, none⟩) (by show _ ≤ w1.heap.size; omega) (.int .i64 x9)
          replace hc := hc.fr (fr_one (p := w1.heap.size) (i := 3) (.int .i64 x9)) (by omega)
          replace b4 := b4.far (p := ⟨w1.heap.size, 3, none⟩) (by show _ ≠ w1.heap.size; omega) (.int .i64 x9)
          replace b6 := b6.far (p := ⟨w1.heap.size, 3, none⟩) (by show _ ≠ w1.heap.size; omega) (.int .i64 x9)
          replace b7 : Bl (w15.setCell ⟨w1.heap.size, 3, none⟩ (.int .i64 x9)) w1.heap.size [.int .i64 0, .slice A9 nv c9, .slice H nh ch, .int .i64 x9] := b7.set 3 (.int .i64 x9)
          have ca17_0 := (b7.2 0 _ rfl).1
          have ca17_1 := (b7.2 1 _ rfl).1
          have ca17_2 := (b7.2 2 _ rfl).1
          have ca17_3 := (b7.2 3 _ rfl).1
          have ca18_0 := (b6.2 0 _ rfl).1
          have fa18_0 := (b6.2 0 _ rfl).2
          have ca18_1 := (b6.2 1 _ rfl).1
          have fa18_1 := (b6.2 1 _ rfl).2
          have ca18_2 := (b6.2 2 _ rfl).1
          have fa18_2 := (b6.2 2 _ rfl).2
          have ca18_3 := (b6.2 3 _ rfl).1
          have fa18_3 := (b6.2 3 _ rfl).2
          have HV := hid hV
          have HO := hid hO
          clear hV hO
          replace f := f.setNew (p := ⟨w.heap.size + 1, 0, none⟩) (by show _ ≤ (w.heap.size + 1); omega) (.int .i64 0)
          replace hc := hc.fr (fr_one (p := (w.heap.size + 1)) (i := 0) (.int .i64 0)) (by omega)
          replace b4 := b4.far (p := ⟨w.heap.size + 1, 0, none⟩) (by show _ ≠ (w.heap.size + 1); omega) (.int .i64 0)
          replace b7 := b7.far (p := ⟨w.heap.size + 1, 0, none⟩) (by show _ ≠ (w.heap.size + 1); omega) (.int .i64 0)
          replace b6 : Bl ((w15.setCell ⟨w1.heap.size, 3, none⟩ (.int .i64 x9)).setCell ⟨w.heap.size + 1, 0, none⟩ (.int .i64 0)) (w.heap.size + 1) [.int .i64 0, .slice none 0 0, .slice none 0 0, .int .i64 0] := b6.set 0 (.int .i64 0)
          replace f := f.setNew (p := ⟨w.heap.size + 1, 1, none⟩) (by show _ ≤ (w.heap.size + 1); omega) (.slice A9 nv c9)
          replace hc := hc.fr (fr_one (p := (w.heap.size + 1)) (i := 1) (.slice A9 nv c9)) (by omega)
          replace b4 := b4.far (p := ⟨w.heap.size + 1, 1, none⟩) (by show _ ≠ (w.heap.size + 1); omega) (.slice A9 nv c9)
          replace b7 := b7.far (p := ⟨w.heap.size + 1, 1, none⟩) (by show _ ≠ (w.heap.size + 1); omega) (.slice A9 nv c9)
          replace b6 : Bl (((w15.setCell ⟨w1.heap.size, 3, none⟩ (.int .i64 x9)).setCell ⟨w.heap.size + 1, 0, none⟩ (.int .i64 0)).setCell ⟨w.heap.size + 1, 1, none⟩ (.slice A9 nv c9)) (w.heap.size + 1) [.int .i64 0, .slice A9 nv c9, .slice none 0 0, .int .i64 0] := b6.set 1 (.slice A9 nv c9)
          replace f := f.setNew (p := ⟨w.heap.size + 1, 2, none⟩) (by show _ ≤ (w.heap.size + 1); omega) (.slice H nh ch)
          replace hc := hc.fr (fr_one (p := (w.heap.size + 1)) (i := 2) (.slice H nh ch)) (by omega)
          replace b4 := b4.far (p := ⟨w.heap.size + 1, 2, none⟩) (by show _ ≠ (w.heap.size + 1); omega) (.slice H nh ch)
          replace b7 := b7.far (p := ⟨w.heap.size + 1, 2, none⟩) (by show _ ≠ (w.heap.size + 1); omega) (.slice H nh ch)
          replace b6 : Bl ((((w15.setCell ⟨w1.heap.size, 3, none⟩ (.int .i64 x9)).setCell ⟨w.heap.size + 1, 0, none⟩ (.int .i64 0)).setCell ⟨w.heap.size + 1, 1, none⟩ (.slice A9 nv c9)).setCell ⟨w.heap.size + 1, 2, none⟩ (.slice H nh ch)) (w.heap.size + 1) [.int .i64 0, .slice A9 nv c9, .slice H nh ch, .int .i64 0] := b6.set 2 (.slice H nh ch)
          replace f := f.setNew (p := ⟨w.heap.size + 1, 3, none⟩) (by show _ ≤ (w.heap.size + 1); omega) (.int .i64 x9)
          replace hc := hc.fr (fr_one (p := (w.heap.size + 1)) (i := 3) (.int .i64 x9)) (by omega)
          replace b4 := b4.far (p := ⟨w.heap.size + 1, 3, none⟩) (by show _ ≠ (w.heap.size + 1); omega) (.int .i64 x9)
          replace b7 := b7.far (p := ⟨w.heap.size + 1, 3, none⟩) (by show _ ≠ (w.heap.size + 1); omega) (.int .i64 x9)
          replace b6 : Bl (((((w15.setCell ⟨w1.heap.size, 3, none⟩ (.int .i64 x9)).setCell ⟨w.heap.size + 1, 0, none⟩ (.int .i64 0)).setCell ⟨w.heap.size + 1, 1, none⟩ (.slice A9 nv c9)).setCell ⟨w.heap.size + 1, 2, none⟩ (.slice H nh ch)).setCell ⟨w.heap.size + 1, 3, none⟩ (.int .i64 x9)) (w.heap.size + 1) [.int .i64 0, .slice A9 nv c9, .slice H nh ch, .int .i64 x9] := b6.set 3 (.int .i64 x9)
          have OTT := hid (show OT (((((w15.setCell ⟨w1.heap.size, 3, none⟩ (.int .i64 x9)).setCell ⟨w.heap.size + 1, 0, none⟩ (.int .i64 0)).setCell ⟨w.heap.size + 1, 1, none⟩ (.slice A9 nv c9)).setCell ⟨w.heap.size + 1, 2, none⟩ (.slice H nh ch)).setCell ⟨w.heap.size + 1, 3, none⟩ (.int .i64 x9)) w.heap.size (.slice A9 nv c9) (.slice H nh ch) xs ys from ⟨OI.low (OI.store (p := w.heap.size + 1) (i := 3) (x := .int .i64 x9) (OI.store (p := w.heap.size + 1) (i := 2) (x := .slice H nh ch) (OI.store (p := w.heap.size + 1) (i := 1) (x := .slice A9 nv c9) (OI.store (p := w.heap.size + 1) (i := 0) (x := .int .i64 0) HV.out (fun g e => by have := HVL.out g e; omega)) (fun g e => by have := HVL.out g e; omega)) (fun g e => by have := HVL.out g e; omega)) (fun g e => by have := HVL.out g e; omega)) (by omega), OI.low (OI.store (p := w.heap.size + 1) (i := 3) (x := .int .i64 x9) (OI.store (p := w.heap.size + 1) (i := 2) (x := .slice H nh ch) (OI.store (p := w.heap.size + 1) (i := 1) (x := .slice A9 nv c9) (OI.store (p := w.heap.size + 1) (i := 0) (x := .int .i64 0) HO.out (fun g e => by have := hOl.out g e; omega)) (fun g e => by have := hOl.out g e; omega)) (fun g e => by have := hOl.out g e; omega)) (fun g e => by have := hOl.out g e; omega)) (by omega), fun g e e2 => by have h1 := hOl.out g e; have h2 := HVL.out g e2; omega⟩)
          clear HV HO b4
          have HC9 := hid hc
          have HF9 := hid f
          clear hc f
          go_wp2_with fail
          clear ca16_0 fa16_0 ca16_1 fa16_1 ca16_2 fa16_2 ca16_3 fa16_3 ca17_0 ca17_1 ca17_2 ca17_3 ca18_0 fa18_0 ca18_1 fa18_1 ca18_2 fa18_2 ca18_3 fa18_3
          have ca0_0 := (b6.2 0 _ rfl).1
          have ca0_1 := (b6.2 1 _ rfl).1
          have ca0_2 := (b6.2 2 _ rfl).1
          have ca0_3 := (b6.2 3 _ rfl).1
          try simp only [Exit.inBlock, Exit.then]
          exact bodyPost_ret (v := .agg #[.int .i64 0, .slice A9 nv c9, .slice H nh ch, .int .i64 x9]) (by simp [results, Tryz.results77, go_sem, ca0_0, ca0_1, ca0_2, ca0_3]) rfl ⟨_, _, _, _, _, _, _, _, xs, ys, rfl, OTT.out, ⟨HNV.out, hyl, by omega, by omega⟩, HC9.out.mono (by omega), HF9.out⟩
        have hq9 : ¬ (k : Int) > 0 := by omega
        have ca15_0 := (b7.2 0 _ rfl).1
        have ca15_1 := (b7.2 1 _ rfl).1
        have ca15_2 := (b7.2 2 _ rfl).1
        have ca15_3 := (b7.2 3 _ rfl).1
        have ca16_0 := (b6.2 0 _ rfl).1
        have fa16_0 := (b6.2 0 _ rfl).2
        have ca16_1 := (b6.2 1 _ rfl).1
        have fa16_1 := (b6.2 1 _ rfl).2
        have ca16_2 := (b6.2 2 _ rfl).1
        have fa16_2 := (b6.2 2 _ rfl).2
        have ca16_3 := (b6.2 3 _ rfl).1
        have fa16_3 := (b6.2 3 _ rfl).2
        have HV := hid hV
        have HO := hid hO
        clear hV hO
        replace f := f.setNew (p := ⟨w.heap.size + 1, 0, none⟩) (by show _ ≤ (w.heap.size + 1); omega) (.int .i64 0)
        replace hc := hc.fr (fr_one (p := (w.heap.size + 1)) (i := 0) (.int .i64 0)) (by omega)
        replace b4 := b4.far (p := ⟨w.heap.size + 1, 0, none⟩) (by show _ ≠ (w.heap.size + 1); omega) (.int .i64 0)
        replace b7 := b7.far (p := ⟨w.heap.size + 1, 0, none⟩) (by show _ ≠ (w.heap.size + 1); omega) (.int .i64 0)
        replace b6 : Bl (w14.setCell ⟨w.heap.size + 1, 0, none⟩ (.int .i64 0)) (w.heap.size + 1) [.int .i64 0, .slice none 0 0, .slice none 0 0, .int .i64 0] := b6.set 0 (.int .i64 0)
        replace f := f.setNew (p := ⟨w.heap.size + 1, 1, none⟩) (by show _ ≤ (w.heap.size + 1); omega) (.slice A9 nv c9)
        replace hc := hc.fr (fr_one (p := (w.heap.size + 1)) (i := 1) (.slice A9 nv c9)) (by omega)
        replace b4 := b4.far (p := ⟨w.heap.size + 1, 1, none⟩) (by show _ ≠ (w.heap.size + 1); omega) (.slice A9 nv c9)
        replace b7 := b7.far (p := ⟨w.heap.size + 1, 1, none⟩) (by show _ ≠ (w.heap.size + 1); omega) (.slice A9 nv c9)
        replace b6 : Bl ((w14.setCell ⟨w.heap.size + 1, 0, none⟩ (.int .i64 0)).setCell ⟨w.heap.size + 1, 1, none⟩ (.slice A9 nv c9)) (w.heap.size + 1) [.int .i64 0, .slice A9 nv c9, .slice none 0 0, .int .i64 0] := b6.set 1 (.slice A9 nv c9)
        replace f := f.setNew (p := ⟨w.heap.size + 1, 2, none⟩) (by show _ ≤ (w.heap.size + 1); omega) (.slice H nh ch)
        replace hc := hc.fr (fr_one (p := (w.heap.size + 1)) (i := 2) (.slice H nh ch)) (by omega)
        replace b4 := b4.far (p := ⟨w.heap.size + 1, 2, none⟩) (by show _ ≠ (w.heap.size + 1); omega) (.slice H nh ch)
        replace b7 := b7.far (p := ⟨w.heap.size + 1, 2, none⟩) (by show _ ≠ (w.heap.size + 1); omega) (.slice H nh ch)
        replace b6 : Bl (((w14.setCell ⟨w.heap.size + 1, 0, none⟩ (.int .i64 0)).setCell ⟨w.heap.size + 1, 1, none⟩ (.slice A9 nv c9)).setCell ⟨w.heap.size + 1, 2, none⟩ (.slice H nh ch)) (w.heap.size + 1) [.int .i64 0, .slice A9 nv c9, .slice H nh ch, .int .i64 0] := b6.set 2 (.slice H nh ch)
        replace f := f.setNew (p := ⟨w.heap.size + 1, 3, none⟩) (by show _ ≤ (w.heap.size + 1); omega) (.int .i64 (-1))
        replace hc := hc.fr (fr_one (p := (w.heap.size + 1)) (i := 3) (.int .i64 (-1))) (by omega)
        replace b4 := b4.far (p := ⟨w.heap.size + 1, 3, none⟩) (by show _ ≠ (w.heap.size + 1); omega) (.int .i64 (-1))
        replace b7 := b7.far (p := ⟨w.heap.size + 1, 3, none⟩) (by show _ ≠ (w.heap.size + 1); omega) (.int .i64 (-1))
        replace b6 : Bl ((((w14.setCell ⟨w.heap.size + 1, 0, none⟩ (.int .i64 0)).setCell ⟨w.heap.size + 1, 1, none⟩ (.slice A9 nv c9)).setCell ⟨w.heap.size + 1, 2, none⟩ (.slice H nh ch)).setCell ⟨w.heap.size + 1, 3, none⟩ (.int .i64 (-1))) (w.heap.size + 1) [.int .i64 0, .slice A9 nv c9, .slice H nh ch, .int .i64 (-1)] := b6.set 3 (.int .i64 (-1))
        have OTT := hid (show OT ((((w14.setCell ⟨w.heap.size + 1, 0, none⟩ (.int .i64 0)).setCell ⟨w.heap.size + 1, 1, none⟩ (.slice A9 nv c9)).setCell ⟨w.heap.size + 1, 2, none⟩ (.slice H nh ch)).setCell ⟨w.heap.size + 1, 3, none⟩ (.int .i64 (-1))) w.heap.size (.slice A9 nv c9) (.slice H nh ch) xs ys from ⟨OI.low (OI.store (p := w.heap.size + 1) (i := 3) (x := .int .i64 (-1)) (OI.store (p := w.heap.size + 1) (i := 2) (x := .slice H nh ch) (OI.store (p := w.heap.size + 1) (i := 1) (x := .slice A9 nv c9) (OI.store (p := w.heap.size + 1) (i := 0) (x := .int .i64 0) HV.out (fun g e => by have := HVL.out g e; omega)) (fun g e => by have := HVL.out g e; omega)) (fun g e => by have := HVL.out g e; omega)) (fun g e => by have := HVL.out g e; omega)) (by omega), OI.low (OI.store (p := w.heap.size + 1) (i := 3) (x := .int .i64 (-1)) (OI.store (p := w.heap.size + 1) (i := 2) (x := .slice H nh ch) (OI.store (p := w.heap.size + 1) (i := 1) (x := .slice A9 nv c9) (OI.store (p := w.heap.size + 1) (i := 0) (x := .int .i64 0) HO.out (fun g e => by have := hOl.out g e; omega)) (fun g e => by have := hOl.out g e; omega)) (fun g e => by have := hOl.out g e; omega)) (fun g e => by have := hOl.out g e; omega)) (by omega), fun g e e2 => by have h1 := hOl.out g e; have h2 := HVL.out g e2; omega⟩)
        clear HV HO b4
        have HC9 := hid hc
        have HF9 := hid f
        clear hc f
        go_wp2_with fail
        clear ca15_0 ca15_1 ca15_2 ca15_3 ca16_0 fa16_0 ca16_1 fa16_1 ca16_2 fa16_2 ca16_3 fa16_3
        have ca0_0 := (b6.2 0 _ rfl).1
        have ca0_1 := (b6.2 1 _ rfl).1
        have ca0_2 := (b6.2 2 _ rfl).1
        have ca0_3 := (b6.2 3 _ rfl).1
        try simp only [Exit.inBlock, Exit.then]
        exact bodyPost_ret (v := .agg #[.int .i64 0, .slice A9 nv c9, .slice H nh ch, .int .i64 (-1)]) (by simp [results, Tryz.results77, go_sem, ca0_0, ca0_1, ca0_2, ca0_3]) rfl ⟨_, _, _, _, _, _, _, _, xs, ys, rfl, OTT.out, ⟨HNV.out, hyl, by omega, by omega⟩, HC9.out.mono (by omega), HF9.out⟩
      have hn9 : ((nL : Int) == 0) = false := by rw [beq_eq_false_iff_ne]; omega
      have ca12_0 := (b7.2 0 _ rfl).1
      have fa12_0 := (b7.2 0 _ rfl).2
      have ca12_1 := (b7.2 1 _ rfl).1
      have fa12_1 := (b7.2 1 _ rfl).2
      have ca12_2 := (b7.2 2 _ rfl).1
      have fa12_2 := (b7.2 2 _ rfl).2
      have ca12_3 := (b7.2 3 _ rfl).1
      have fa12_3 := (b7.2 3 _ rfl).2
      go_wp2_with fail
      clear ca12_0 fa12_0 ca12_1 fa12_1 ca12_2 fa12_2 ca12_3 fa12_3
      refine (one_any hc (by omega) (by omega)).mono ?_
      rintro e w13 ⟨b9, rfl, hn, ff⟩
      replace f := f.trans ff
      clear hc
      have hc := hn
      replace b4 := b4.fr ff (by first | omega | (simp; omega))
      replace b6 := b6.fr ff (by first | omega | (simp; omega))
      replace b7 := b7.fr ff (by first | omega | (simp; omega))
      replace hO := hO.fr ff (by first | omega | (simp; omega))
      replace hV := hV.fr ff (by first | omega | (simp; omega))
      have sf13 := ff.size
      try simp at sf13
      clear ff hn
      have sz13 := f.size
      have lt13 := b7.lt
      cases b9
      · have ca14_0 := (b7.2 0 _ rfl).1
        have ca14_1 := (b7.2 1 _ rfl).1
        have ca14_2 := (b7.2 2 _ rfl).1
        have ca14_3 := (b7.2 3 _ rfl).1
        have ca15_0 := (b6.2 0 _ rfl).1
        have fa15_0 := (b6.2 0 _ rfl).2
        have ca15_1 := (b6.2 1 _ rfl).1
        have fa15_1 := (b6.2 1 _ rfl).2
        have ca15_2 := (b6.2 2 _ rfl).1
        have fa15_2 := (b6.2 2 _ rfl).2
        have ca15_3 := (b6.2 3 _ rfl).1
        have fa15_3 := (b6.2 3 _ rfl).2
        have HV := hid hV
        have HO := hid hO
        clear hV hO
        replace f := f.setNew (p := ⟨w.heap.size + 1, 0, none⟩) (by show _ ≤ (w.heap.size + 1); omega) (.int .i64 x8)
        replace hc := hc.fr (fr_one (p := (w.heap.size + 1)) (i := 0) (.int .i64 x8)) (by omega)
        replace b4 := b4.far (p := ⟨w.heap.size + 1, 0, none⟩) (by show _ ≠ (w.heap.size + 1); omega) (.int .i64 x8)
        replace b7 := b7.far (p := ⟨w.heap.size + 1, 0, none⟩) (by show _ ≠ (w.heap.size + 1); omega) (.int .i64 x8)
        replace b6 : Bl (w13.setCell ⟨w.heap.size + 1, 0, none⟩ (.int .i64 x8)) (w.heap.size + 1) [.int .i64 x8, .slice none 0 0, .slice none 0 0, .int .i64 0] := b6.set 0 (.int .i64 x8)
        replace f := f.setNew (p := ⟨w.heap.size + 1, 1, none⟩) (by show _ ≤ (w.heap.size + 1); omega) (.slice A9 nv c9)
        replace hc := hc.fr (fr_one (p := (w.heap.size + 1)) (i := 1) (.slice A9 nv c9)) (by omega)
        replace b4 := b4.far (p := ⟨w.heap.size + 1, 1, none⟩) (by show _ ≠ (w.heap.size + 1); omega) (.slice A9 nv c9)
        replace b7 := b7.far (p := ⟨w.heap.size + 1, 1, none⟩) (by show _ ≠ (w.heap.size + 1); omega) (.slice A9 nv c9)
        replace b6 : Bl ((w13.setCell ⟨w.heap.size + 1, 0, none⟩ (.int .i64 x8)).setCell ⟨w.heap.size + 1, 1, none⟩ (.slice A9 nv c9)) (w.heap.size + 1) [.int .i64 x8, .slice A9 nv c9, .slice none 0 0, .int .i64 0] := b6.set 1 (.slice A9 nv c9)
        replace f := f.setNew (p := ⟨w.heap.size + 1, 2, none⟩) (by show _ ≤ (w.heap.size + 1); omega) (.slice H nh ch)
        replace hc := hc.fr (fr_one (p := (w.heap.size + 1)) (i := 2) (.slice H nh ch)) (by omega)
        replace b4 := b4.far (p := ⟨w.heap.size + 1, 2, none⟩) (by show _ ≠ (w.heap.size + 1); omega) (.slice H nh ch)
        replace b7 := b7.far (p := ⟨w.heap.size + 1, 2, none⟩) (by show _ ≠ (w.heap.size + 1); omega) (.slice H nh ch)
        replace b6 : Bl (((w13.setCell ⟨w.heap.size + 1, 0, none⟩ (.int .i64 x8)).setCell ⟨w.heap.size + 1, 1, none⟩ (.slice A9 nv c9)).setCell ⟨w.heap.size + 1, 2, none⟩ (.slice H nh ch)) (w.heap.size + 1) [.int .i64 x8, .slice A9 nv c9, .slice H nh ch, .int .i64 0] := b6.set 2 (.slice H nh ch)
        replace f := f.setNew (p := ⟨w.heap.size + 1, 3, none⟩) (by show _ ≤ (w.heap.size + 1); omega) (.int .i64 (-1))
        replace hc := hc.fr (fr_one (p := (w.heap.size + 1)) (i := 3) (.int .i64 (-1))) (by omega)
        replace b4 := b4.far (p := ⟨w.heap.size + 1, 3, none⟩) (by show _ ≠ (w.heap.size + 1); omega) (.int .i64 (-1))
        replace b7 := b7.far (p := ⟨w.heap.size + 1, 3, none⟩) (by show _ ≠ (w.heap.size + 1); omega) (.int .i64 (-1))
        replace b6 : Bl ((((w13.setCell ⟨w.heap.size + 1, 0, none⟩ (.int .i64 x8)).setCell ⟨w.heap.size + 1, 1, none⟩ (.slice A9 nv c9)).setCell ⟨w.heap.size + 1, 2, none⟩ (.slice H nh ch)).setCell ⟨w.heap.size + 1, 3, none⟩ (.int .i64 (-1))) (w.heap.size + 1) [.int .i64 x8, .slice A9 nv c9, .slice H nh ch, .int .i64 (-1)] := b6.set 3 (.int .i64 (-1))
        have OTT := hid (show OT ((((w13.setCell ⟨w.heap.size + 1, 0, none⟩ (.int .i64 x8)).setCell ⟨w.heap.size + 1, 1, none⟩ (.slice A9 nv c9)).setCell ⟨w.heap.size + 1, 2, none⟩ (.slice H nh ch)).setCell ⟨w.heap.size + 1, 3, none⟩ (.int .i64 (-1))) w.heap.size (.slice A9 nv c9) (.slice H nh ch) xs ys from ⟨OI.low (OI.store (p := w.heap.size + 1) (i := 3) (x := .int .i64 (-1)) (OI.store (p := w.heap.size + 1) (i := 2) (x := .slice H nh ch) (OI.store (p := w.heap.size + 1) (i := 1) (x := .slice A9 nv c9) (OI.store (p := w.heap.size + 1) (i := 0) (x := .int .i64 x8) HV.out (fun g e => by have := HVL.out g e; omega)) (fun g e => by have := HVL.out g e; omega)) (fun g e => by have := HVL.out g e; omega)) (fun g e => by have := HVL.out g e; omega)) (by omega), OI.low (OI.store (p := w.heap.size + 1) (i := 3) (x := .int .i64 (-1)) (OI.store (p := w.heap.size + 1) (i := 2) (x := .slice H nh ch) (OI.store (p := w.heap.size + 1) (i := 1) (x := .slice A9 nv c9) (OI.store (p := w.heap.size + 1) (i := 0) (x := .int .i64 x8) HO.out (fun g e => by have := hOl.out g e; omega)) (fun g e => by have := hOl.out g e; omega)) (fun g e => by have := hOl.out g e; omega)) (fun g e => by have := hOl.out g e; omega)) (by omega), fun g e e2 => by have h1 := hOl.out g e; have h2 := HVL.out g e2; omega⟩)
        clear HV HO b4
        have HC9 := hid hc
        have HF9 := hid f
        clear hc f
        go_wp2_with fail
        clear ca14_0 ca14_1 ca14_2 ca14_3 ca15_0 fa15_0 ca15_1 fa15_1 ca15_2 fa15_2 ca15_3 fa15_3
        have ca0_0 := (b6.2 0 _ rfl).1
        have ca0_1 := (b6.2 1 _ rfl).1
        have ca0_2 := (b6.2 2 _ rfl).1
        have ca0_3 := (b6.2 3 _ rfl).1
        try simp only [Exit.inBlock, Exit.then]
        exact bodyPost_ret (v := .agg #[.int .i64 x8, .slice A9 nv c9, .slice H nh ch, .int .i64 (-1)]) (by simp [results, Tryz.results77, go_sem, ca0_0, ca0_1, ca0_2, ca0_3]) rfl ⟨_, _, _, _, _, _, _, _, xs, ys, rfl, OTT.out, ⟨HNV.out, hyl, by omega, by omega⟩, HC9.out.mono (by omega), HF9.out⟩
      by_cases hq0 : 0 < k
      · have hq9 : (k : Int) > 0 := by omega
        go_wp2_with fail
        refine (pick_any hc (by omega) (by omega)).mono ?_
        rintro e w14 ⟨x9, rfl, hx9, hn, ff⟩
        replace f := f.trans ff
        clear hc
        have hc := hn
        replace b4 := b4.fr ff (by first | omega | (simp; omega))
        replace b6 := b6.fr ff (by first | omega | (simp; omega))
        replace b7 := b7.fr ff (by first | omega | (simp; omega))
        replace hO := hO.fr ff (by first | omega | (simp; omega))
        replace hV := hV.fr ff (by first | omega | (simp; omega))
        have sf14 := ff.size
        try simp at sf14
        clear ff hn
        have sz14 := f.size
        have lt14 := b7.lt
        have ca15_0 := (b7.2 0 _ rfl).1
        have fa15_0 := (b7.2 0 _ rfl).2
        have ca15_1 := (b7.2 1 _ rfl).1
        have fa15_1 := (b7.2 1 _ rfl).2
        have ca15_2 := (b7.2 2 _ rfl).1
        have fa15_2 := (b7.2 2 _ rfl).2
        have ca15_3 := (b7.2 3 _ rfl).1
        have fa15_3 := (b7.2 3 _ rfl).2
        replace hO := hO.store (p := w1.heap.size) (i := 3) (x := .int .i64 x9) (fun g e => by have := hOl.out g e; omega)
        replace hV := hV.store (p := w1.heap.size) (i := 3) (x := .int .i64 x9) (fun g e => by have := HVL.out g e; omega)
        replace f := f.setNew (p := ⟨w1.heap.size, 3, none⟩) (by show _ ≤ w1.heap.size; omega) (.int .i64 x9)
        replace hc := hc.fr (fr_one (p := w1.heap.size) (i := 3) (.int .i64 x9)) (by omega)
        replace b4 := b4.far (p := ⟨w1.heap.size, 3, none⟩) (by show _ ≠ w1.heap.size; omega) (.int .i64 x9)
        replace b6 := b6.far (p := ⟨w1.heap.size, 3, none⟩) (by show _ ≠ w1.heap.size; omega) (.int .i64 x9)
        replace b7 : Bl (w14.setCell ⟨w1.heap.size, 3, none⟩ (.int .i64 x9)) w1.heap.size [.int .i64 x8, .slice A9 nv c9, .slice H nh ch, .int .i64 x9] := b7.set 3 (.int .i64 x9)
        have ca16_0 := (b7.2 0 _ rfl).1
        have ca16_1 := (b7.2 1 _ rfl).1
        have ca16_2 := (b7.2 2 _ rfl).1
        have ca16_3 := (b7.2 3 _ rfl).1
        have ca17_0 := (b6.2 0 _ rfl).1
        have fa17_0 := (b6.2 0 _ rfl).2
        have ca17_1 := (b6.2 1 _ rfl).1
        have fa17_1 := (b6.2 1 _ rfl).2
        have ca17_2 := (b6.2 2 _ rfl).1
        have fa17_2 := (b6.2 2 _ rfl).2
        have ca17_3 := (b6.2 3 _ rfl).1
        have fa17_3 := (b6.2 3 _ rfl).2
        have HV := hid hV
        have HO := hid hO
        clear hV hO
        replace f := f.setNew (p := ⟨w.heap.size + 1, 0, none⟩) (by show _ ≤ (w.heap.size + 1); omega) (.int .i64 x8)
        replace hc := hc.fr (fr_one (p := (w.heap.size + 1)) (i := 0) (.int .i64 x8)) (by omega)
        replace b4 := b4.far (p := ⟨w.heap.size + 1, 0, none⟩) (by show _ ≠ (w.heap.size + 1); omega) (.int .i64 x8)
        replace b7 := b7.far (p := ⟨w.heap.size + 1, 0, none⟩) (by show _ ≠ (w.heap.size + 1); omega) (.int .i64 x8)
        replace b6 : Bl ((w14.setCell ⟨w1.heap.size, 3, none⟩ (.int .i64 x9)).setCell ⟨w.heap.size + 1, 0, none⟩ (.int .i64 x8)) (w.heap.size + 1) [.int .i64 x8, .slice none 0 0, .slice none 0 0, .int .i64 0] := b6.set 0 (.int .i64 x8)
        replace f := f.setNew (p := ⟨w.heap.size + 1, 1, none⟩) (by show _ ≤ (w.heap.size + 1); omega) (.slice A9 nv c9)
        replace hc := hc.fr (fr_one (p := (w.heap.size + 1)) (i := 1) (.slice A9 nv c9)) (by omega)
        replace b4 := b4.far (p := ⟨w.heap.size + 1, 1, none⟩) (by show _ ≠ (w.heap.size + 1); omega) (.slice A9 nv c9)
        replace b7 := b7.far (p := ⟨w.heap.size + 1, 1, none⟩) (by show _ ≠ (w.heap.size + 1); omega) (.slice A9 nv c9)
        replace b6 : Bl (((w14.setCell ⟨w1.heap.size, 3, none⟩ (.int .i64 x9)).setCell ⟨w.heap.size + 1, 0, none⟩ (.int .i64 x8)).setCell ⟨w.heap.size + 1, 1, none⟩ (.slice A9 nv c9)) (w.heap.size + 1) [.int .i64 x8, .slice A9 nv c9, .slice none 0 0, .int .i64 0] := b6.set 1 (.slice A9 nv c9)
        replace f := f.setNew (p := ⟨w.heap.size + 1, 2, none⟩) (by show _ ≤ (w.heap.size + 1); omega) (.slice H nh ch)
        replace hc := hc.fr (fr_one (p := (w.heap.size + 1)) (i := 2) (.slice H nh ch)) (by omega)
        replace b4 := b4.far (p := ⟨w.heap.size + 1, 2, none⟩) (by show _ ≠ (w.heap.size + 1); omega) (.slice H nh ch)
        replace b7 := b7.far (p := ⟨w.heap.size + 1, 2, none⟩) (by show _ ≠ (w.heap.size + 1); omega) (.slice H nh ch)
        replace b6 : Bl ((((w14.setCell ⟨w1.heap.size, 3, none⟩ (.int .i64 x9)).setCell ⟨w.heap.size + 1, 0, none⟩ (.int .i64 x8)).setCell ⟨w.heap.size + 1, 1, none⟩ (.slice A9 nv c9)).setCell ⟨w.heap.size + 1, 2, none⟩ (.slice H nh ch)) (w.heap.size + 1) [.int .i64 x8, .slice A9 nv c9, .slice H nh ch, .int .i64 0] := b6.set 2 (.slice H nh ch)
        replace f := f.setNew (p := ⟨w.heap.size + 1, 3, none⟩) (by show _ ≤ (w.heap.size + 1); omega) (.int .i64 x9)
        replace hc := hc.fr (fr_one (p := (w.heap.size + 1)) (i := 3) (.int .i64 x9)) (by omega)
        replace b4 := b4.far (p := ⟨w.heap.size + 1, 3, none⟩) (by show _ ≠ (w.heap.size + 1); omega) (.int .i64 x9)
        replace b7 := b7.far (p := ⟨w.heap.size + 1, 3, none⟩) (by show _ ≠ (w.heap.size + 1); omega) (.int .i64 x9)
        replace b6 : Bl (((((w14.setCell ⟨w1.heap.size, 3, none⟩ (.int .i64 x9)).setCell ⟨w.heap.size + 1, 0, none⟩ (.int .i64 x8)).setCell ⟨w.heap.size + 1, 1, none⟩ (.slice A9 nv c9)).setCell ⟨w.heap.size + 1, 2, none⟩ (.slice H nh ch)).setCell ⟨w.heap.size + 1, 3, none⟩ (.int .i64 x9)) (w.heap.size + 1) [.int .i64 x8, .slice A9 nv c9, .slice H nh ch, .int .i64 x9] := b6.set 3 (.int .i64 x9)
        have OTT := hid (show OT (((((w14.setCell ⟨w1.heap.size, 3, none⟩ (.int .i64 x9)).setCell ⟨w.heap.size + 1, 0, none⟩ (.int .i64 x8)).setCell ⟨w.heap.size + 1, 1, none⟩ (.slice A9 nv c9)).setCell ⟨w.heap.size + 1, 2, none⟩ (.slice H nh ch)).setCell ⟨w.heap.size + 1, 3, none⟩ (.int .i64 x9)) w.heap.size (.slice A9 nv c9) (.slice H nh ch) xs ys from ⟨OI.low (OI.store (p := w.heap.size + 1) (i := 3) (x := .int .i64 x9) (OI.store (p := w.heap.size + 1) (i := 2) (x := .slice H nh ch) (OI.store (p := w.heap.size + 1) (i := 1) (x := .slice A9 nv c9) (OI.store (p := w.heap.size + 1) (i := 0) (x := .int .i64 x8) HV.out (fun g e => by have := HVL.out g e; omega)) (fun g e => by have := HVL.out g e; omega)) (fun g e => by have := HVL.out g e; omega)) (fun g e => by have := HVL.out g e; omega)) (by omega), OI.low (OI.store (p := w.heap.size + 1) (i := 3) (x := .int .i64 x9) (OI.store (p := w.heap.size + 1) (i := 2) (x := .slice H nh ch) (OI.store (p := w.heap.size + 1) (i := 1) (x := .slice A9 nv c9) (OI.store (p := w.heap.size + 1) (i := 0) (x := .int .i64 x8) HO.out (fun g e => by have := hOl.out g e; omega)) (fun g e => by have := hOl.out g e; omega)) (fun g e => by have := hOl.out g e; omega)) (fun g e => by have := hOl.out g e; omega)) (by omega), fun g e e2 => by have h1 := hOl.out g e; have h2 := HVL.out g e2; omega⟩)
        clear HV HO b4
        have HC9 := hid hc
        have HF9 := hid f
        clear hc f
        go_wp2_with fail
        clear ca15_0 fa15_0 ca15_1 fa15_1 ca15_2 fa15_2 ca15_3 fa15_3 ca16_0 ca16_1 ca16_2 ca16_3 ca17_0 fa17_0 ca17_1 fa17_1 ca17_2 fa17_2 ca17_3 fa17_3
        have ca0_0 := (b6.2 0 _ rfl).1
        have ca0_1 := (b6.2 1 _ rfl).1
        have ca0_2 := (b6.2 2 _ rfl).1
        have ca0_3 := (b6.2 3 _ rfl).1
        try simp only [Exit.inBlock, Exit.then]
        exact bodyPost_ret (v := .agg #[.int .i64 x8, .slice A9 nv c9, .slice H nh ch, .int .i64 x9]) (by simp [results, Tryz.results77, go_sem, ca0_0, ca0_1, ca0_2, ca0_3]) rfl ⟨_, _, _, _, _, _, _, _, xs, ys, rfl, OTT.out, ⟨HNV.out, hyl, by omega, by omega⟩, HC9.out.mono (by omega), HF9.out⟩
      have hq9 : ¬ (k : Int) > 0 := by omega
      have ca14_0 := (b7.2 0 _ rfl).1
      have ca14_1 := (b7.2 1 _ rfl).1
      have ca14_2 := (b7.2 2 _ rfl).1
      have ca14_3 := (b7.2 3 _ rfl).1
      have ca15_0 := (b6.2 0 _ rfl).1
      have fa15_0 := (b6.2 0 _ rfl).2
      have ca15_1 := (b6.2 1 _ rfl).1
      have fa15_1 := (b6.2 1 _ rfl).2
      have ca15_2 := (b6.2 2 _ rfl).1
      have fa15_2 := (b6.2 2 _ rfl).2
      have ca15_3 := (b6.2 3 _ rfl).1
      have fa15_3 := (b6.2 3 _ rfl).2
      have HV := hid hV
      have HO := hid hO
      clear hV hO
      replace f := f.setNew (p := ⟨w.heap.size + 1, 0, none⟩) (by show _ ≤ (w.heap.size + 1); omega) (.int .i64 x8)
      replace hc := hc.fr (fr_one (p := (w.heap.size + 1)) (i := 0) (.int .i64 x8)) (by omega)
      replace b4 := b4.far (p := ⟨w.heap.size + 1, 0, none⟩) (by show _ ≠ (w.heap.size + 1); omega) (.int .i64 x8)
      replace b7 := b7.far (p := ⟨w.heap.size + 1, 0, none⟩) (by show _ ≠ (w.heap.size + 1); omega) (.int .i64 x8)
      replace b6 : Bl (w13.setCell ⟨w.heap.size + 1, 0, none⟩ (.int .i64 x8)) (w.heap.size + 1) [.int .i64 x8, .slice none 0 0, .slice none 0 0, .int .i64 0] := b6.set 0 (.int .i64 x8)
      replace f := f.setNew (p := ⟨w.heap.size + 1, 1, none⟩) (by show _ ≤ (w.heap.size + 1); omega) (.slice A9 nv c9)
      replace hc := hc.fr (fr_one (p := (w.heap.size + 1)) (i := 1) (.slice A9 nv c9)) (by omega)
      replace b4 := b4.far (p := ⟨w.heap.size + 1, 1, none⟩) (by show _ ≠ (w.heap.size + 1); omega) (.slice A9 nv c9)
      replace b7 := b7.far (p := ⟨w.heap.size + 1, 1, none⟩) (by show _ ≠ (w.heap.size + 1); omega) (.slice A9 nv c9)
      replace b6 : Bl ((w13.setCell ⟨w.heap.size + 1, 0, none⟩ (.int .i64 x8)).setCell ⟨w.heap.size + 1, 1, none⟩ (.slice A9 nv c9)) (w.heap.size + 1) [.int .i64 x8, .slice A9 nv c9, .slice none 0 0, .int .i64 0] := b6.set 1 (.slice A9 nv c9)
      replace f := f.setNew (p := ⟨w.heap.size + 1, 2, none⟩) (by show _ ≤ (w.heap.size + 1); omega) (.slice H nh ch)
      replace hc := hc.fr (fr_one (p := (w.heap.size + 1)) (i := 2) (.slice H nh ch)) (by omega)
      replace b4 := b4.far (p := ⟨w.heap.size + 1, 2, none⟩) (by show _ ≠ (w.heap.size + 1); omega) (.slice H nh ch)
      replace b7 := b7.far (p := ⟨w.heap.size + 1, 2, none⟩) (by show _ ≠ (w.heap.size + 1); omega) (.slice H nh ch)
      replace b6 : Bl (((w13.setCell ⟨w.heap.size + 1, 0, none⟩ (.int .i64 x8)).setCell ⟨w.heap.size + 1, 1, none⟩ (.slice A9 nv c9)).setCell ⟨w.heap.size + 1, 2, none⟩ (.slice H nh ch)) (w.heap.size + 1) [.int .i64 x8, .slice A9 nv c9, .slice H nh ch, .int .i64 0] := b6.set 2 (.slice H nh ch)
      replace f := f.setNew (p := ⟨w.heap.size + 1, 3, none⟩) (by show _ ≤ (w.heap.size + 1); omega) (.int .i64 (-1))
      replace hc := hc.fr (fr_one (p := (w.heap.size + 1)) (i := 3) (.int .i64 (-1))) (by omega)
      replace b4 := b4.far (p := ⟨w.heap.size + 1, 3, none⟩) (by show _ ≠ (w.heap.size + 1); omega) (.int .i64 (-1))
      replace b7 := b7.far (p := ⟨w.heap.size + 1, 3, none⟩) (by show _ ≠ (w.heap.size + 1); omega) (.int .i64 (-1))
      replace b6 : Bl ((((w13.setCell ⟨w.heap.size + 1, 0, none⟩ (.int .i64 x8)).setCell ⟨w.heap.size + 1, 1, none⟩ (.slice A9 nv c9)).setCell ⟨w.heap.size + 1, 2, none⟩ (.slice H nh ch)).setCell ⟨w.heap.size + 1, 3, none⟩ (.int .i64 (-1))) (w.heap.size + 1) [.int .i64 x8, .slice A9 nv c9, .slice H nh ch, .int .i64 (-1)] := b6.set 3 (.int .i64 (-1))
      have OTT := hid (show OT ((((w13.setCell ⟨w.heap.size + 1, 0, none⟩ (.int .i64 x8)).setCell ⟨w.heap.size + 1, 1, none⟩ (.slice A9 nv c9)).setCell ⟨w.heap.size + 1, 2, none⟩ (.slice H nh ch)).setCell ⟨w.heap.size + 1, 3, none⟩ (.int .i64 (-1))) w.heap.size (.slice A9 nv c9) (.slice H nh ch) xs ys from ⟨OI.low (OI.store (p := w.heap.size + 1) (i := 3) (x := .int .i64 (-1)) (OI.store (p := w.heap.size + 1) (i := 2) (x := .slice H nh ch) (OI.store (p := w.heap.size + 1) (i := 1) (x := .slice A9 nv c9) (OI.store (p := w.heap.size + 1) (i := 0) (x := .int .i64 x8) HV.out (fun g e => by have := HVL.out g e; omega)) (fun g e => by have := HVL.out g e; omega)) (fun g e => by have := HVL.out g e; omega)) (fun g e => by have := HVL.out g e; omega)) (by omega), OI.low (OI.store (p := w.heap.size + 1) (i := 3) (x := .int .i64 (-1)) (OI.store (p := w.heap.size + 1) (i := 2) (x := .slice H nh ch) (OI.store (p := w.heap.size + 1) (i := 1) (x := .slice A9 nv c9) (OI.store (p := w.heap.size + 1) (i := 0) (x := .int .i64 x8) HO.out (fun g e => by have := hOl.out g e; omega)) (fun g e => by have := hOl.out g e; omega)) (fun g e => by have := hOl.out g e; omega)) (fun g e => by have := hOl.out g e; omega)) (by omega), fun g e e2 => by have h1 := hOl.out g e; have h2 := HVL.out g e2; omega⟩)
      clear HV HO b4
      have HC9 := hid hc
      have HF9 := hid f
      clear hc f
      go_wp2_with fail
      clear ca14_0 ca14_1 ca14_2 ca14_3 ca15_0 fa15_0 ca15_1 fa15_1 ca15_2 fa15_2 ca15_3 fa15_3
      have ca0_0 := (b6.2 0 _ rfl).1
      have ca0_1 := (b6.2 1 _ rfl).1
      have ca0_2 := (b6.2 2 _ rfl).1
      have ca0_3 := (b6.2 3 _ rfl).1
      try simp only [Exit.inBlock, Exit.then]
      exact bodyPost_ret (v := .agg #[.int .i64 x8, .slice A9 nv c9, .slice H nh ch, .int .i64 (-1)]) (by simp [results, Tryz.results77, go_sem, ca0_0, ca0_1, ca0_2, ca0_3]) rfl ⟨_, _, _, _, _, _, _, _, xs, ys, rfl, OTT.out, ⟨HNV.out, hyl, by omega, by omega⟩, HC9.out.mono (by omega), HF9.out⟩
    have hi1 : (k : Int) < (q : Int) := by omega
    go_wp2_with fail
    refine (one_any hc (by omega) (by omega)).mono ?_
    rintro e w4 ⟨b9, rfl, hn, ff⟩
    replace f := f.trans ff
    clear hc
    have hc := hn
    replace b4 := b4.fr ff (by first | omega | (simp; omega))
    replace b6 := b6.fr ff (by first | omega | (simp; omega))
    replace b7 := b7.fr ff (by first | omega | (simp; omega))
    replace hO := hO.fr ff (by first | omega | (simp; omega))
    replace hV := hV.fr ff (by first | omega | (simp; omega))
    have sf4 := ff.size
    try simp at sf4
    clear ff hn
    have sz4 := f.size
    have lt4 := b7.lt
    cases b9
    · go_wp2_with fail
      go_roundw
      case rel => exact ⟨k + 1, _, xs, by go_num, hlt, by rw [HNV.out]; omega, hV, b7, hO, b4, b6, hc.mono (by omega), f, by omega⟩
      case measure => simp [intOf]; omega
    have ca5_0 := (b7.2 0 _ rfl).1
    have ca5_1 := (b7.2 1 _ rfl).1
    have ca5_2 := (b7.2 2 _ rfl).1
    have ca5_3 := (b7.2 3 _ rfl).1
    obtain ⟨cs, L, U, hF⟩ := hV.ex
    have HVL := hid hV.lt
    clear hV
    have hcB := hc
    have fB := f
    have HNE := hid (show ∀ p, p < W7.heap.size → (Value.slice A9 nv c9).ownBlock ≠ some p from fun p hp e => by have := HVL.out p e; omega)
    go_wp2_with (at_builtin; refine append_rowR (a0 := (k : Int)) (x := W7.heap.size) (y := W7.heap.size) (new := [.int .i64 (k : Int)]) HII.out rfl (by decide) (by decide) RwdI.ok hF (by rw [HNV.out]; omega) (by omega) rfl (fun y hy => by simp at hy; subst hy; rfl) (Nat.le_refl _) (by omega) (fun g e => Nat.lt_or_ge _ _) rfl _ _ rfl rfl Tryz.underlying22 (by first | rfl | assumption | (simp [*])) rfl ?_; intro v9 w9 cs9 L9 U9 hF9 hg9; obtain ⟨Aa, ca, ea⟩ := hF9.has.form; rw [List.length_append, HNV.out, List.length_singleton] at ea; subst ea; have B79 := bl_grown b7 hg9 (HNE.out _ (by omega)); have hz1 := (B79.2 1 _ rfl).1; have hz2 := (B79.2 1 _ rfl).2)
    clear ca5_0 ca5_1 ca5_2 ca5_3
    have KB := hid (hF.below (by omega) hg9)
    have f9 := hid (fB.below KB.out (by omega))
    have hc9 := hid (hcB.below KB.out (by omega))
    have O9 := hid (hO.grown hg9 (fun g e e2 => by have h1 := hOl.out g e; have h2 := HVL.out g e2; omega))
    have B49 := hid (b1_grown b4 hg9 (HNE.out _ (by omega)))
    have B69 := hid (bl_grown b6 hg9 (HNE.out _ (by omega)))
    have sz9 := KB.out.size
    have OV : OI w9 W7.heap.size (.slice Aa (nv + 1) ca) (xs ++ [(k : Int)]) := ⟨_, _, _, hF9⟩
    have OVL := hid OV.lt
    have B7N := hid (B79.set 1 (.slice Aa (nv + 1) ca))
    have B4N := hid (B49.out.far (p := ⟨w1.heap.size, 1, none⟩) (by show w.heap.size ≠ w1.heap.size; omega) (.slice Aa (nv + 1) ca))
    have B6N := hid (B69.out.far (p := ⟨w1.heap.size, 1, none⟩) (by show w.heap.size + 1 ≠ w1.heap.size; omega) (.slice Aa (nv + 1) ca))
    have OVN := hid (OV.store (p := w1.heap.size) (i := 1) (x := (.slice Aa (nv + 1) ca)) (fun g e => by have := OVL.out g e; omega))
    have OHN := hid (O9.out.store (p := w1.heap.size) (i := 1) (x := (.slice Aa (nv + 1) ca)) (fun g e => by have := hOl.out g e; omega))
    have HCN := hid (hc9.out.fr (fr_one (p := w1.heap.size) (i := 1) (.slice Aa (nv + 1) ca)) (by omega))
    have HFN := hid (f9.out.setNew (p := ⟨w1.heap.size, 1, none⟩) (by show _ ≤ w1.heap.size; omega) (.slice Aa (nv + 1) ca))
    have hsN : W7.heap.size ≤ w9.heap.size := by omega
    clear hF hF9 hg9 hO b4 b6 b7 hc f hcB fB B79 OV B49 B69 O9 f9 hc9
    try go_wp2_with fail
    go_roundw
    case rel => exact ⟨k + 1, _, xs ++ [(k : Int)], by go_num, hlt, by rw [List.length_append, HNV.out, List.length_singleton]; omega, OVN.out, B7N.out, OHN.out, B4N.out, B6N.out, HCN.out.mono (by omega), HFN.out, by simpa [World.setCell] using hsN⟩
    case measure => simp [intOf]; omega
end Go.Proofs.YtlkjhkkfdmjfcaaGreatDoor
