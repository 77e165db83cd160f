/- For the law FnEstimates: slices.Reverse, PathTo, a fraction moved by one, a path moved by one, qFracs. -/
import Derived.Test.YtkpliolafkdijaaEsL
import Derived.Test.YtkpliolafkdijaaDrawI
import Derived.Test.YtkpliolafkdijaaCmpf
import Derived.Test.YtkpliolafkdijaaFops
import Derived.Test.YtkpliolafkdijaaFrac
import Derived.BigQuiet
namespace Go.Proofs.Ytkpliolafkdijaa
open Go.RowKit
set_option linter.unusedVariables false
set_option linter.unusedSimpArgs false

/-- The first k and the last k exchanged. -/
def revTo (xs : List Int) (k : Nat) : List Int := (List.range xs.length).map fun t => if t < k ∨ xs.length ≤ t + k then xs.getD (xs.length - 1 - t) 0 else xs.getD t 0
theorem revTo_len (xs : List Int) (k : Nat) : (revTo xs k).length = xs.length := by simp [revTo]
theorem revTo_getD {xs : List Int} {k t : Nat} (h : t < xs.length) : (revTo xs k).getD t 0 = if t < k ∨ xs.length ≤ t + k then xs.getD (xs.length - 1 - t) 0 else xs.getD t 0 := by
  simp [revTo, List.getD, h]
theorem extR_getD {xs ys : List Int} (hl : xs.length = ys.length) (h : ∀ t, t < xs.length → xs.getD t 0 = ys.getD t 0) : xs = ys := by
  apply List.ext_getElem hl
  intro i h1 h2
  have := h i h1
  simpa [List.getD, h1, h2] using this
theorem revTo_zero (xs : List Int) : revTo xs 0 = xs := by
  refine extR_getD (revTo_len _ _) fun t ht => ?_
  rw [revTo_len] at ht
  rw [revTo_getD ht, if_neg (by omega)]
theorem rev_getD {xs : List Int} {t : Nat} (h : t < xs.length) : xs.reverse.getD t 0 = xs.getD (xs.length - 1 - t) 0 := by
  simp [List.getD, List.getElem?_reverse h]
theorem revTo_all {xs : List Int} {k : Nat} (h : xs.length ≤ k + k + 1) : revTo xs k = xs.reverse := by
  refine extR_getD (by rw [revTo_len]; simp) fun t ht => ?_
  rw [revTo_len] at ht
  rw [revTo_getD ht, rev_getD ht]
  by_cases hc : t < k ∨ xs.length ≤ t + k
  · rw [if_pos hc]
  · rw [if_neg hc]; congr 1; omega
theorem getD_setR (xs : List Int) (k t : Nat) (u : Int) : (xs.set k u).getD t 0 = if t = k ∧ k < xs.length then u else xs.getD t 0 := by
  by_cases h : t = k
  · subst h
    by_cases hl : t < xs.length <;> simp [List.getD, hl]
  · have h' : ¬ k = t := fun e => h e.symm
    simp [List.getD, List.getElem?_set, h, h']
theorem revTo_step {xs : List Int} {k j : Nat} (h : j + k + 1 = xs.length) (hk : k < j) : ((revTo xs k).set k (xs.getD j 0)).set j (xs.getD k 0) = revTo xs (k + 1) := by
  refine extR_getD (by simp [revTo_len]) fun t ht => ?_
  simp only [List.length_set, revTo_len] at ht
  rw [getD_setR, getD_setR, revTo_getD ht, revTo_getD ht]
  simp only [List.length_set, revTo_len]
  by_cases h1 : t = j
  · subst h1
    rw [if_pos ⟨rfl, by omega⟩, if_pos (by omega)]
    congr 1; omega
  · rw [if_neg (fun e => h1 e.1)]
    by_cases h2 : t = k
    · subst h2
      rw [if_pos ⟨rfl, by omega⟩, if_pos (by omega)]
      congr 1; omega
    · rw [if_neg (fun e => h2 e.1)]
      by_cases hc : t < k ∨ xs.length ≤ t + k
      · rw [if_pos hc, if_pos (by omega)]
      · rw [if_neg hc, if_neg (by omega)]
set_option maxHeartbeats 1600000 in
theorem Reverse_any {A : Option Addr} {lo hi n c : Nat} {xs : List Int} {w : World} (h : Mine w lo hi A n xs) :
    Calls Try.prog 219 #[.slice A n c] w fun e w' => e = .returned (.tuple #[]) ∧ Mine w' lo hi A n xs.reverse ∧ Fr lo hi w w' := by
  have hn := h.1.le
  have hl := h.1.1
  go_enter Try.func219, Try.ntmps219
  go_wp2_with fail
  go_loopw [2, 3] (fun i j wr => ∃ (k : Nat) (J : Int), k ≤ n ∧ J + k + 1 = n ∧ i = .int .i64 k ∧ j = .int .i64 J ∧ Mine wr lo hi A n (revTo xs k) ∧ Fr lo hi w wr) (fun i _ _ => n - (intOf i).toNat)
  case atStart => exact ⟨0, (n : Int) - 1, Nat.zero_le _, by omega, rfl, by first | rfl | go_num, by rw [revTo_zero]; exact h, Fr.refl _ _ _⟩
  case round =>
    obtain ⟨k, J, hk, hJ, rfl, rfl, hm, hf⟩ := hrel
    by_cases hlt : (k : Int) < J
    · obtain ⟨j, rfl⟩ : ∃ j : Nat, J = j := ⟨J.toNat, by omega⟩
      have hkj : k < j := by omega
      have hjn : j < n := by omega
      have hj1 : (j : Int) < (n : Int) := by omega
      have hk1 : (k : Int) < (n : Int) := by omega
      obtain ⟨bb, off, x, rfl, hlo, hhi, hcx, hx⟩ := hm.1.at_ (k := k) (by omega)
      obtain ⟨bb', off', y, e', _, _, hcy, hy⟩ := hm.1.at_ (k := j) hjn
      obtain ⟨rfl, rfl⟩ : bb = bb' ∧ off = off' := by simpa using e'
      have fx := hm.2 bb off rfl k (by omega)
      have fy := hm.2 bb off rfl j (by omega)
      have hx' : x = xs.getD k 0 := by rw [hx.out, revTo_getD (by omega), if_neg (by omega)]
      have hy' : y = xs.getD j 0 := by rw [hy.out, revTo_getD (by omega), if_neg (by omega)]
      obtain ⟨m1, f1⟩ := hm.set_ (k := k) (by omega) y
      obtain ⟨m2, f2⟩ := m1.set_ (k := j) hjn x
      rw [hx', hy', revTo_step (by omega) hkj, ← hx', ← hy'] at m2
      have M := hid m2
      have F := hid ((hf.trans f1).trans f2)
      clear m1 m2 f1 f2 hx hy hx' hy' hm hf e'
      go_wp2_with fail
      go_region
      all_goals
        go_wp2_with fail
        go_roundw
        case rel => exact ⟨k + 1, (j : Int) - 1, by omega, by omega, by go_num, by go_num, M.out.keeps (keeps_d0 _), F.out.keeps (keeps_d0 _)⟩
        case measure => simp [intOf]; omega
    · go_wp2_with fail
      exact bodyPost_end (v := .tuple #[]) (by simp [results, Try.results219, go_sem]) rfl ⟨rfl, by rw [← revTo_all (xs := xs) (k := k) (by omega)]; exact hm, hf⟩
set_option maxHeartbeats 400000 in
theorem isArea_any {A : Option Addr} {lo hi n c : Nat} {ps : List Int} {i : Int} {w : World} (h : Ints w lo hi A n ps) :
    Calls Try.prog 165 #[.agg #[.slice A n c], .int .i64 i] w fun e w' => e = .returned (.bool (decide (0 ≤ i ∧ i < n))) ∧ Keeps w w' := by
  have k := keeps_alloc w (.cells #[.slice A n c] 51)
  by_cases h0 : i ≥ 0
  · by_cases h1 : i < (n : Int)
    · have HF := hid (show decide (0 ≤ i ∧ i < (n : Int)) = true by simp; omega)
      go_enter Try.func165, Try.ntmps165
      go_wp2
      go_ret
      exact ⟨ret_bool (by first | exact HF.out.symm | (symm; simp; omega)), k⟩
    · have HF := hid (show decide (0 ≤ i ∧ i < (n : Int)) = false by simp; omega)
      go_enter Try.func165, Try.ntmps165
      go_wp2
      go_ret
      exact ⟨ret_bool (by first | exact HF.out.symm | (symm; simp; omega)), k⟩
  · have HF := hid (show decide (0 ≤ i ∧ i < (n : Int)) = false by simp; omega)
    go_enter Try.func165, Try.ntmps165
    go_wp2
    go_ret
    exact ⟨ret_bool (by first | exact HF.out.symm | (symm; simp; omega)), k⟩
theorem chain_step {ps : List Int} {m : Nat} {i : Int} (hi : 0 ≤ i) : chain ps (m + 1) i = i :: chain ps m (ps.getD i.toNat 0) := if_neg (by omega)
theorem chain_end {ps : List Int} {m : Nat} {i : Int} (hi : i < 0) : chain ps m i = [] := by cases m <;> simp [chain, hi]
theorem par_lt {ps : List Int} (hg : geoB ps = true) {i : Nat} (hi : i < ps.length) : -1 ≤ ps.getD i 0 ∧ ps.getD i 0 < (i : Int) := by
  have h := geoB_true.1 hg
  rcases Nat.eq_zero_or_pos i with rfl | h0
  · rw [h.2.1]; omega
  · have := h.2.2 i hi h0; omega
set_option maxRecDepth 100000 in
set_option maxHeartbeats 3200000 in
theorem pathTo_any {A : Option Addr} {lo hi n c i0 : Nat} {ps : List Int} {w : World} (h : Ints w lo hi A n ps) (hg : geoB ps = true) (hi0 : i0 < n) :
    Calls Try.prog 166 #[.agg #[.slice A n c], .int .i64 (i0 : Int)] w fun e w' => ∃ A' N C, e = .returned (.slice A' N C) ∧ Ints w' w.heap.size w'.heap.size A' N (chain ps ps.length i0).reverse ∧ Keeps w w' := by
  have hn := h.le
  have hl := h.1
  have hn30 : n ≤ 30 := by have := (geoB_true.1 hg).1; omega
  have ht0 := h.top
  have k0 := keeps_alloc w (.cells #[.slice A n c] 51)
  have bx : B1 (w.alloc (.cells #[.slice A n c] 51)) w.heap.size (.slice A n c) := B1.new' rfl
  have h1 := h.keeps k0
  have s0 : (w.alloc (.cells #[.slice A n c] 51)).heap.size = w.heap.size + 1 := by simp
  have HG := hid (fun i (hi : i < ps.length) => par_lt hg hi)
  clear h hg
  go_enter Try.func166, Try.ntmps166
  go_wp2_with fail
  go_loopw [1, 5] (fun i v wr => ∃ (I : Int) (k : Nat) (m : Nat) (xs : List Int), i = .int .i64 I ∧ m + k = n ∧ (-1 ≤ I ∧ I < m) ∧ xs ++ chain ps m I = chain ps n i0 ∧ Has wr (w.heap.size + 1) 3 1 v k (xs.map (Value.int .i64)) ∧ B1 wr w.heap.size (.slice A n c) ∧ Ints wr lo hi A n ps ∧ Keeps w wr ∧ w.heap.size + 1 ≤ wr.heap.size) (fun i _ _ => (intOf i + 1).toNat)
  case atStart => exact ⟨i0, 0, n, [], rfl, by omega, by omega, rfl, World.ownsRow_nil _ _ _ _, bx, h1, k0, by omega⟩
  clear bx h1 k0 s0
  case round =>
    obtain ⟨I, k, m, xs, rfl, hmk, hI, hx, hown, bx, h1, kw, sr⟩ := hrel
    by_cases hlt : I ≥ 0
    · obtain ⟨j, rfl⟩ : ∃ j : Nat, I = j := ⟨I.toNat, by omega⟩
      have hjn : j < n := by omega
      have hj1 : (j : Int) < (n : Int) := by omega
      obtain ⟨m', rfl⟩ : ∃ m', m = m' + 1 := ⟨m - 1, by omega⟩
      rw [chain_step hlt] at hx
      have HX := hid hx
      have e1 : w.heap.size < w.heap.size + 1 := by omega
      have hht := h1.top
      have h9 := hid h1
      clear hx
      obtain ⟨b, off, x, rfl, hlo, hhi, hcx, hxx⟩ := h1.at_ (k := j) hjn
      have hb : b < w.heap.size := by omega
      have hxv := hid (show x = ps.getD (j : Int).toNat 0 from hxx.out)
      have hpar := HG.out j (by omega)
      rw [← hxx.out] at hpar
      clear hxx h1
      go_wp2_with (at_builtin; refine append_int (xs := xs) (u := (j : Int)) hown (by omega) (by omega) _ _ rfl rfl rfl (by first | rfl | (simp <;> rfl)) ?_; intro v' w4 hown4 hb4; have b4 := bx.below hb4 e1; obtain ⟨z1, z2⟩ := id b4; have c4 : w4.cell? ⟨b, off + j, none⟩ = some (.int .i64 x) := (World.cell?_of_block (w := wr) (hb4.block b (Nat.lt_succ_of_lt hb))).trans hcx)
      have hc4 := h9.out.below hb4 (by omega)
      have kw4 : Keeps w w4 := Below.trans kw (hb4.mono (by omega))
      have s4 := hb4.size
      clear hown hb4 bx kw z1 z2 hcx c4
      rw [← hxv.out] at HX
      go_wp2
      go_roundw
      case rel => exact ⟨x, k + 1, m', xs ++ [(j : Int)], rfl, by omega, by omega, by rw [List.append_assoc]; exact HX.out, hown4, b4, hc4, kw4, by omega⟩
      case measure => simp [intOf]; omega
    · obtain ⟨A1, C1, rfl⟩ := hown.form
      have hkn : k ≤ 30 := by omega
      have m1 := Mine.of_own hown (by omega)
      rw [chain_end (by omega), List.append_nil] at hx
      clear hown bx h1
      go_wp2_with fail
      refine (Reverse_any m1).mono ?_
      rintro e w5 ⟨rfl, m5, f5⟩
      go_wp2
      go_ret
      have s5 := f5.size
      exact ⟨A1, k, C1, rfl, by rw [hl, ← hx]; exact m5.1.widen (by omega) s5 (Nat.le_refl _), below_fr kw kw.size (by omega) f5⟩

theorem chain_nodup {ps : List Int} (hg : geoB ps = true) : ∀ k i, i < (ps.length : Int) → (chain ps k i).Nodup
  | 0, i, _ => by simp [chain]
  | k + 1, i, hi => by
    by_cases h0 : i < 0
    · rw [chain_end h0]; exact List.nodup_nil
    · rw [chain_step (by omega)]
      have hp := (par_lt hg (i := i.toNat) (by omega)).2
      have hp2 : ps.getD i.toNat 0 < (ps.length : Int) := by omega
      refine List.nodup_cons.2 ⟨fun hm => ?_, chain_nodup hg k _ hp2⟩
      have := chain_mem hg k _ hp2 _ hm
      omega
theorem getI_mem {p : List Int} {k : Nat} (h : k < p.length) : p.getD k 0 ∈ p := by
  have : p.getD k 0 = p[k] := by simp [List.getD, h]
  rw [this]; exact List.getElem_mem h
theorem bump_step {l L : List QQ} {p : List Int} {k i : Nat} {r s : Int} (hL : ∀ j : Nat, rv L j = if (j : Int) ∈ p.take k then rv l j + 1 else rv l j) (hnd : p.Nodup) (hk : k < p.length) (hi : p.getD k 0 = (i : Int)) (hiL : i < L.length) (hq : qv r s = rv L i + 1) :
    ∀ j : Nat, rv (L.set i (r, s)) j = if (j : Int) ∈ p.take (k + 1) then rv l j + 1 else rv l j := by
  intro j
  have e1 : p.take (k + 1) = p.take k ++ [p.getD k 0] := by
    rw [List.take_add_one]; simp [List.getD, hk]
  have hni : (i : Int) ∉ p.take k := by
    intro hm
    obtain ⟨t, ht, ht2⟩ := List.getElem_of_mem hm
    have ht3 : t < k := by simp at ht; omega
    have e2 : p[t]'(by omega) = p[k]'hk := by
      have e3 : p[k]'hk = (i : Int) := by rw [← hi]; simp [List.getD, hk]
      rw [e3, ← ht2]; simp
    have := (List.getElem_inj hnd).1 e2
    omega
  rw [e1, hi]
  by_cases hj : j = i
  · subst hj
    have : rv (L.set j (r, s)) j = qv r s := by unfold rv; simp [List.getD, hiL]
    rw [this, hq, hL j, if_neg hni, if_pos (by simp)]
  · have h' : ¬ i = j := fun e => hj e.symm
    have : rv (L.set i (r, s)) j = rv L j := by unfold rv; simp [List.getD, List.getElem?_set, h']
    rw [this, hL j]
    have : ((j : Int) ∈ p.take k ++ [(i : Int)]) ↔ ((j : Int) ∈ p.take k) := by
      simp only [List.mem_append, List.mem_singleton]
      constructor
      · rintro (h | h)
        · exact h
        · exact absurd (by omega) hj
      · exact Or.inl
    by_cases hm : (j : Int) ∈ p.take k
    · rw [if_pos hm, if_pos (this.2 hm)]
    · rw [if_neg hm, if_neg (fun e => hm (this.1 e))]
theorem kids_last {ps : List Int} {i : Nat} (hg : geoB ps = true) (hi : i + 1 = ps.length) : (kids ps i).length = 0 := by
  rcases Nat.eq_zero_or_pos (kids ps i).length with h | h
  · exact h
  · obtain ⟨j, _, h0, h1, h2⟩ := kids_getD h
    have := (par_lt hg h1).2
    omega
set_option maxHeartbeats 800000 in
theorem PathTo_any {A : Option Addr} {lo hi n c i0 : Nat} {I : Int} {ps : List Int} {w : World} (h : Ints w lo hi A n ps) (hg : geoB ps = true) (hi0 : i0 < n) (hI : I = (i0 : Int)) :
    Calls Try.prog 76 #[.agg #[.slice A n c], .int .i64 I] w fun e w' => ∃ A' N C, e = .returned (.tuple #[.slice A' N C, .bool true]) ∧ Ints w' w.heap.size w'.heap.size A' N (chain ps ps.length i0).reverse ∧ Keeps w w' := by
  subst hI
  have k0 := keeps_alloc w (.cells #[.slice A n c] 51)
  have bx : B1 (w.alloc (.cells #[.slice A n c] 51)) w.heap.size (.slice A n c) := B1.new' rfl
  have h1 := h.keeps k0
  have HG := hid hg
  have HD := hid (show decide (0 ≤ (i0 : Int) ∧ (i0 : Int) < (n : Int)) = true by simp; omega)
  clear h hg
  obtain ⟨z1, z2⟩ := id bx
  go_enter Try.func76, Try.ntmps76
  go_wp2_with fail
  clear z1 z2
  refine (IsGeo_any h1).mono ?_
  rintro e w1 ⟨rfl, k1⟩
  rw [HG.out]
  have h2 := h1.keeps k1
  have bx1 := bx.keeps k1
  have kw := k0.trans k1
  obtain ⟨z1, z2⟩ := id bx1
  clear h1 bx k0 k1
  go_wp2_with fail
  clear z1 z2
  refine (isArea_any h2).mono ?_
  rintro e w2 ⟨rfl, k2⟩
  rw [HD.out]
  have h3 := h2.keeps k2
  have bx2 := bx1.keeps k2
  replace kw := kw.trans k2
  obtain ⟨z1, z2⟩ := id bx2
  clear h2 bx1 k2
  go_wp2_with fail
  clear z1 z2
  refine (pathTo_any h3 HG.out hi0).mono ?_
  rintro e w3 ⟨A', N, C, rfl, hp, k3⟩
  have sz := kw.size
  go_wp2
  go_ret2
  exact ⟨A', N, C, rfl, hp.widen sz (Nat.le_refl _) (Nat.le_refl _), kw.trans k3⟩
set_option maxRecDepth 100000 in
set_option maxHeartbeats 1600000 in
theorem AddFrac1_any {a b : Int} {w : World} :
    Calls Try.prog 77 #[.agg #[.int .i64 a, .int .i64 b], .agg #[.int .i64 1, .int .i64 1]] w fun e w' => ∃ r s t, e = .returned (.tuple #[.agg #[.int .i64 r, .int .i64 s], .bool t]) ∧ (t = true → qv r s = qv a b + 1) ∧ Keeps w w' := by
  by_cases hf : fracB a b = true
  · refine (AddFrac_any hf (by decide)).mono fun e w' hh => ?_
    obtain ⟨rfl, k⟩ := hh
    refine ⟨_, _, _, rfl, fun ht => ?_, k⟩
    have hb := (fracB_true.1 hf).1.1
    have e1 : mkF (a * 1 + 1 * b) (b * 1) = ((mkF (a * 1 + 1 * b) (b * 1)).1, (mkF (a * 1 + 1 * b) (b * 1)).2.1, true) := by rw [← ht]
    have := (mkF_add (by omega) (by omega) e1).1
    rw [this]
    have : qv 1 1 = 1 := by unfold qv; grind
    rw [this]
  · have H1 := hid (show fracB a b = false by simpa using hf)
    clear hf
    go_enter Try.func77, Try.ntmps77
    have kw := keeps_refl w
    replace kw := Keeps.trans kw (keeps_alloc w (.cells #[.int .i64 a, .int .i64 b] 41))
    have b2 : Bx (w.alloc (.cells #[.int .i64 a, .int .i64 b] 41)) w.heap.size a b := Bx.new' (by simp)
    replace b2 := b2.keeps (keeps_alloc (w.alloc (.cells #[.int .i64 a, .int .i64 b] 41)) (.cells #[.int .i64 1, .int .i64 1] 41))
    replace kw := Keeps.trans kw (keeps_alloc (w.alloc (.cells #[.int .i64 a, .int .i64 b] 41)) (.cells #[.int .i64 1, .int .i64 1] 41))
    have b3 : Bx ((w.alloc (.cells #[.int .i64 a, .int .i64 b] 41)).alloc (.cells #[.int .i64 1, .int .i64 1] 41)) (w.heap.size + 1) 1 1 := Bx.new' (by simp)
    have b4 : Bx (((w.alloc (.cells #[.int .i64 a, .int .i64 b] 41)).alloc (.cells #[.int .i64 1, .int .i64 1] 41)).alloc (.cells #[.int .i64 0, .int .i64 0] 41)) (w.heap.size + 1 + 1) 0 0 := Bx.new' (by simp)
    replace kw := Keeps.trans kw (keeps_alloc _ (.cells #[.int .i64 0, .int .i64 0] 41))
    replace b2 := b2.keeps (keeps_alloc _ (.cells #[.int .i64 0, .int .i64 0] 41))
    clear b3
    obtain ⟨ca1, cb1, fa1, fb1⟩ := id b2
    go_wp2_with fail
    clear ca1 cb1 fa1 fb1
    refine (IsFrac_any).mono ?_
    rintro e w3 ⟨rfl, k3⟩
    rw [H1.out]
    replace b4 := b4.keeps k3
    replace kw := Keeps.trans kw k3
    obtain ⟨ca1, cb1, fa1, fb1⟩ := id b4
    have KW := hid (((show Below w.heap.size w w3 from kw).setCell (p := ⟨w.heap.size + 1 + 1, 0, none⟩) (by show w.heap.size ≤ w.heap.size + 1 + 1; omega) (.int .i64 0)).setCell (p := ⟨w.heap.size + 1 + 1, 1, none⟩) (by show w.heap.size ≤ w.heap.size + 1 + 1; omega) (.int .i64 0))
    clear b2 kw k3
    go_wp2_with fail
    exact bodyPost_ret (v := .tuple #[.agg #[.int .i64 0, .int .i64 0], .bool false]) (by simp [results, Try.results77, go_sem, ca1, cb1, fa1, fb1]) rfl ⟨_, _, _, rfl, (fun e => by cases e), KW.out⟩

set_option maxHeartbeats 800000 in
theorem qFracsE_true {A B : Option Addr} {lo hi lo' hi' n n' c c' : Nat} {l : List (Int × Int)} {w : World} (ha : Fracs w lo hi A n l) (hb : Fracs w lo' hi' B n' l) :
    Calls Try.prog 73 #[.slice A n c, .slice B n' c'] w fun e w' => e = .returned (.bool true) ∧ Keeps w w' := by
  obtain rfl : n = n' := (Fracs.len ha).symm.trans (Fracs.len hb)
  have hn := ha.le
  have hbb : ((n : Int) != n) = false := by simp
  go_enter Try.func73, Try.ntmps73
  go_wp2_with fail
  go_loopw [13] (fun i wr => ∃ k : Nat, k ≤ n ∧ i = .int .i64 k ∧ Quiet w wr) (fun i _ => n - (intOf i).toNat)
  case atStart => exact ⟨0, Nat.zero_le _, rfl, Quiet.refl _⟩
  case round =>
    obtain ⟨k, hk, rfl, hq⟩ := hrel
    by_cases hlt : k < n
    · obtain ⟨b, off, x, y, rfl, _, _, hc, hd, hx⟩ := Fracs.at_ (ha.quiet hq) hlt
      obtain ⟨b', off', x', y', rfl, _, _, hc', hd', hx'⟩ := Fracs.at_ (hb.quiet hq) hlt
      obtain ⟨rfl, rfl⟩ : x = x' ∧ y = y' := by have e := hx.out.trans hx'.out.symm; injection e with e1 e2; exact ⟨e1, e2⟩
      clear hx hx'
      have hi1 : (k : Int) < (n : Int) := by omega
      go_wp2_with fail
      go_quiet (fail)
      go_wp2
      go_roundw
      case rel => exact ⟨k + 1, by omega, by go_num, hq.step _⟩
      case measure => simp [intOf]; omega
    · go_wp2
      go_ret
      exact ⟨rfl, hq.keeps⟩
end Go.Proofs.Ytkpliolafkdijaa
