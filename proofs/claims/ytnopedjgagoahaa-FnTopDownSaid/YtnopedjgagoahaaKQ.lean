/- What the cursor draws: any geography, numbers for its areas (bounds alone). -/
import Derived.Test.YtnopedjgagoahaaDrawG
namespace Go.Proofs.Ytnopedjgagoahaa
open Go.RowKit
set_option linter.unusedVariables false
set_option linter.unusedSimpArgs false

/-- Any geography, perhaps not a valid one. -/
def DrawsH (w : World) (g : Nat) (T : Int) (e : Ending) (w' : World) : Prop := ∃ (A : Option Addr) (N C : Nat) (xs : List Int), e = .returned (.agg #[.slice A N C]) ∧ Ints w' w.heap.size w'.heap.size A N xs ∧ (N ≤ 45 ∧ N ≤ C) ∧ Cur w' g T ∧ Fr g (g + 1) w w'
theorem Has.cap {w : World} {B e size n c : Nat} {A : Option Addr} {cs : List Value} (h : Has w B e size (.slice A n c) n cs) : n ≤ c := by
  rcases h.2 with ⟨h1, h2⟩ | ⟨g, cap, cur, hv, _, _, hnc, _⟩
  · injection h1 with _ h3 h4; omega
  · injection hv with _ _ h3; omega
theorem zK {N : Nat} {y : Int} (hN : 1 ≤ N ∧ N ≤ 11) (hy : 0 ≤ y ∧ (y < 2 ∨ (2 : Int) ≤ 1 ∧ y = 0)) : ∃ K : Nat, IntKind.i64.wrap (IntKind.i64.wrap (30 - (N : Int)) + y) = K ∧ 0 < K ∧ K ≤ 31 := by
  rw [IntWalk.i64_in (30 - (N : Int)) (by omega), IntWalk.i64_in _ (by omega)]
  exact ⟨(30 - (N : Int) + y).toNat, by omega, by omega, by omega⟩
set_option maxRecDepth 100000 in
set_option maxHeartbeats 6400000 in
theorem anyGeo_any {g : Nat} {T : Int} {w : World} (h : Cur w g T) (hT : T ≤ 700000000000000) :
    Calls Try.prog 200 #[.pointer (some ⟨g, 0, none⟩)] w (DrawsH w g (T + 50)) := by
  have lg := h.lt
  have f0 : Fr g (g + 1) w (w.alloc (.cells #[.slice none 0 0] 53)) := (Fr.refl _ _ _).keeps (keeps_alloc w _)
  have hc0 := h.keeps (keeps_alloc w (.cells #[.slice none 0 0] 53))
  have b2 : B1 (w.alloc (.cells #[.slice none 0 0] 53)) w.heap.size (.slice none 0 0) := B1.new' rfl
  go_enter Try.func200, Try.ntmps200
  go_wp2_with fail
  refine (geo_any hc0 (by omega)).mono ?_
  rintro e w1 ⟨A, N, C, xs, rfl, hown, hN, hc1, f1⟩
  have sz1 := f1.size
  simp at sz1
  have hown := Has.low hown (B' := w.heap.size + 1) (by simp)
  have f2 := f0.trans f1
  replace b2 := b2.fr f1 (by omega)
  have hown2 := Has.below hown (keeps_alloc w1 (.cells #[.slice A N C] 53))
  have hc2 := hc1.keeps (keeps_alloc w1 (.cells #[.slice A N C] 53))
  have f3 := f2.keeps (keeps_alloc w1 (.cells #[.slice A N C] 53))
  replace b2 := b2.keeps (keeps_alloc w1 (.cells #[.slice A N C] 53))
  have gb : GB (w1.alloc (.cells #[.slice A N C] 53)) (w.heap.size + 1) w1.heap.size (.slice A N C) N xs := ⟨hown2, B1.new' rfl, fun b hb => by have := (hown.lt b hb).2; omega⟩
  clear hown hown2 hc1 f2 f0 hc0 f1
  go_wp2_with fail
  refine (pick_any hc2 (by omega) (by omega)).mono ?_
  rintro e w3 ⟨q, rfl, hq, hc3, f4⟩
  have gb3 := gb.fr f4 (by omega) (by omega)
  have f5 := f3.trans f4
  have s3 := f4.size
  simp at s3
  replace b2 := b2.fr f4 (by omega)
  clear gb hc2 f3 f4
  have gl := gb3.box.lt
  by_cases h2 : q = 2
  · subst h2
    obtain ⟨z3, z4⟩ := id b2
    have HW := hid ((Fr.refl w.heap.size (w.heap.size + 1) w3).setCell (p := ⟨w.heap.size, 0, none⟩) (Nat.le_refl _) (Nat.lt_succ_self _) (.slice none 0 0))
    go_wp2_with fail
    exact bodyPost_ret (v := .agg #[.slice none 0 0]) (by simp [results, Try.results200, go_sem, z3, z4]) rfl ⟨none, 0, 0, [], rfl, Ints.nil_ _ _ _, by omega, (hc3.fr HW.out (by omega)).mono (by omega), f5.setNew (p := ⟨w.heap.size, 0, none⟩) (Nat.le_refl _) _⟩
  have t2 : (q == 2) = false := by rw [beq_eq_false_iff_ne]; exact h2
  by_cases h0 : q = 0
  · subst h0
    have cp := Has.cap gb3.own
    obtain ⟨ga, e1, hga, ma⟩ := gb3.own.block (by omega) (by omega)
    cases e1
    have hne : ga ≠ w1.heap.size := gb3.ap ga rfl
    obtain ⟨b', off', x, e', _, _, hcx, hxx⟩ := ma.1.at_ (k := 0) (by omega)
    injection e' with e'; injection e' with e1 e2; subst e1; subst e2
    have hfz := ma.2 ga 0 rfl 0 (by omega)
    obtain ⟨m6, f6⟩ := ma.set_ (k := 0) (by omega) 0
    rw [Nat.add_zero] at hcx hfz m6 f6
    clear hxx
    have M6 := hid m6
    have F6 := hid f6
    clear m6 f6
    have hN1 : (0 : Int) < (N : Int) := by omega
    obtain ⟨z1, z2⟩ := id gb3.box
    have bx := gb3.box.fr F6.out (by omega)
    have b22 := b2.fr F6.out (by omega)
    obtain ⟨z5, z6⟩ := id bx
    obtain ⟨z7, z8⟩ := id b22
    have HW := hid ((Fr.refl w.heap.size (w.heap.size + 1) (w3.setCell ⟨ga, 0, none⟩ (.int .i64 0))).setCell (p := ⟨w.heap.size, 0, none⟩) (Nat.le_refl _) (Nat.lt_succ_self _) (.slice (some ⟨ga, 0, none⟩) N C))
    go_wp2_with fail
    have es : ((w3.setCell ⟨ga, 0, none⟩ (.int .i64 0)).setCell ⟨w.heap.size, 0, none⟩ (.slice (some ⟨ga, 0, none⟩) N C)).heap.size = w3.heap.size := by simp [World.setCell]
    have hm2 := (M6.out.1.fr HW.out (by omega)).widen (lo' := w.heap.size) (hi' := ((w3.setCell ⟨ga, 0, none⟩ (.int .i64 0)).setCell ⟨w.heap.size, 0, none⟩ (.slice (some ⟨ga, 0, none⟩) N C)).heap.size) (by omega) (by rw [es]; have := ma.1.top; omega) (Nat.le_refl _)
    exact bodyPost_ret (v := .agg #[.slice (some ⟨ga, 0, none⟩) N C]) (by simp [results, Try.results200, go_sem, z1, z2, z5, z6, z7, z8]) rfl ⟨_, _, _, _, rfl, hm2, by omega, ((hc3.fr F6.out (by omega)).fr HW.out (by omega)).mono (by omega), (f5.setNew (p := ⟨ga, 0, none⟩) (by show w.heap.size ≤ ga; omega) _).setNew (p := ⟨w.heap.size, 0, none⟩) (Nat.le_refl _) _⟩
  have t0 : (q == 0) = false := by rw [beq_eq_false_iff_ne]; exact h0
  by_cases h1 : q = 1
  · subst h1
    obtain ⟨z1, z2⟩ := id gb3.box
    have O3 := hid (show True from trivial)
    have hcD := (hc3.keeps (keeps_alloc w3 (.cells #[.int .i64 (-1), .int .i64 N, .int .i64 0] 3))).keeps (keeps_d0 _)
    have gbD := (gb3.keeps (keeps_alloc w3 (.cells #[.int .i64 (-1), .int .i64 N, .int .i64 0] 3))).keeps (keeps_d0 _)
    have b2D := (b2.keeps (keeps_alloc w3 (.cells #[.int .i64 (-1), .int .i64 N, .int .i64 0] 3))).keeps (keeps_d0 _)
    have fD := (f5.keeps (keeps_alloc w3 (.cells #[.int .i64 (-1), .int .i64 N, .int .i64 0] 3))).keeps (keeps_d0 _)
    have L : Ints (w3.alloc (.cells #[.int .i64 (-1), .int .i64 N, .int .i64 0] 3)).drew w3.heap.size (w3.heap.size + 1) (some ⟨w3.heap.size, 0, none⟩) 3 [-1, N, 0] := (lit_ints w3 [-1, N, 0] (by simp)).drew
    have c3 : 3 ≤ 65536 := by decide
    have c0 : 0 < 3 := by decide
    have cT : T + 30 + 2 ≤ 999999999999999 := by omega
    have zA := gbD.box.1
    have sD : w3.heap.size ≤ (w3.alloc (.cells #[.int .i64 (-1), .int .i64 N, .int .i64 0] 3)).drew.heap.size := ((keeps_alloc w3 (.cells #[.int .i64 (-1), .int .i64 N, .int .i64 0] 3)).trans (keeps_d0 _)).size
    have gL : g < w3.heap.size := by omega
    go_wp2_with fail
    clear hc3 gb3 b2 f5
    go_region_law ((first | (refine step_among (c := 3) hcD cT L gL c0 c3 rfl (by kernel_rfl) ?_; intro y wB hcB fB; have gbB := gbD.fr fB (by omega) (by omega); have b2B := b2D.fr fB (by omega); have fBB := fD.trans fB; have sB := fB.size; clear fB; obtain ⟨y1, y2⟩ := id gbB.box; have y3 := (gbB.keeps (keeps_alloc wB (.cells #[.int .i64 y] 3))).box.1; have y4 := gbB.box.lt) | (have q1 := Has.below gbB.own (keeps_alloc wB (.cells #[.int .i64 y] 3)); have q2 : N ≤ 67108864 := (by omega); have q3 : w.heap.size + 1 ≤ (wB.alloc (.cells #[.int .i64 y] 3)).heap.size := (by simp; omega); have q4 := heap_alloc_new wB (.cells #[.int .i64 y] 3); refine step_append_int_at (xs := xs) q1 q2 q3 _ _ rfl rfl rfl rfl q4 ?_; clear q1 q2 q4; intro v' w' p1 p2 p3; have bxA := GB.boxA (gbB.keeps (keeps_alloc wB (.cells #[.int .i64 y] 3))) p2; obtain ⟨u1, u2⟩ := bxA; clear y1 y2 y3 y4 z1 z2 zA; have fm := Has.form p1; obtain ⟨A', C', e'⟩ := fm; subst e')))
    all_goals
      have gbA := gbB.keeps (keeps_alloc wB (.cells #[.int .i64 y] 3))
      have gbF := gbA.put p1 p2 p3
      have HL := hid (gbA.below (v' := .slice A' (N + 1) C') q3 p2 (by omega))
      have hcF := (hcB.keeps (keeps_alloc wB (.cells #[.int .i64 y] 3))).below HL.out (by omega)
      have fF := (fBB.keeps (keeps_alloc wB (.cells #[.int .i64 y] 3))).below HL.out (by omega)
      have b2F := (b2B.keeps (keeps_alloc wB (.cells #[.int .i64 y] 3))).below HL.out (by omega)
      clear p1 p2 p3 gbA q3 u1 u2 HL gbB hcB fBB b2B
      obtain ⟨z1, z2⟩ := id (GB.box gbF)
      obtain ⟨z3, z4⟩ := id b2F
      have HW := hid ((Fr.refl w.heap.size (w.heap.size + 1) (w'.setCell ⟨w1.heap.size, 0, none⟩ (.slice A' (N + 1) C'))).setCell (p := ⟨w.heap.size, 0, none⟩) (Nat.le_refl _) (Nat.lt_succ_self _) (.slice A' (N + 1) C'))
      have HO := hid (GB.own gbF)
      have cp := Has.cap (GB.own gbF)
      go_wp2_with fail
      have es : ((w'.setCell ⟨w1.heap.size, 0, none⟩ (.slice A' (N + 1) C')).setCell ⟨w.heap.size, 0, none⟩ (.slice A' (N + 1) C')).heap.size = (w'.setCell ⟨w1.heap.size, 0, none⟩ (.slice A' (N + 1) C')).heap.size := by simp [World.setCell]
      have hmm := (Mine.of_own HO.out (by omega)).1
      have hm2 := (hmm.fr HW.out (by omega)).widen (lo' := w.heap.size) (hi' := ((w'.setCell ⟨w1.heap.size, 0, none⟩ (.slice A' (N + 1) C')).setCell ⟨w.heap.size, 0, none⟩ (.slice A' (N + 1) C')).heap.size) (by omega) (by rw [es]; exact Nat.le_refl _) (Nat.le_refl _)
      exact bodyPost_ret (v := .agg #[.slice A' (N + 1) C']) (by simp [results, Try.results200, go_sem, z1, z2, z3, z4]) rfl ⟨_, _, _, _, rfl, hm2, by omega, (Cur.fr hcF HW.out (by omega)).mono (by omega), Fr.setNew fF (p := ⟨w.heap.size, 0, none⟩) (Nat.le_refl _) _⟩
  have t1 : (q == 1) = false := by rw [beq_eq_false_iff_ne]; exact h1
  by_cases h3 : q = 3
  · subst h3
    obtain ⟨z1, z2⟩ := id gb3.box
    have hcD := hc3.keeps (keeps_d0 w3)
    have gbD := gb3.keeps (keeps_d0 w3)
    have b2D := b2.keeps (keeps_d0 w3)
    have fD := f5.keeps (keeps_d0 w3)
    have sD := (keeps_d0 w3).size
    go_wp2_with fail
    clear hc3 gb3 b2 f5
    go_region_law ((first | (refine step_pick (n := 2) hcD (by omega) (by omega) rfl (by kernel_rfl) ?_; intro y wB hy hcB fB; have gbB := gbD.fr fB (by omega) (by omega); have b2B := b2D.fr fB (by omega); have fBB := fD.trans fB; have sB := fB.size; clear fB; obtain ⟨y1, y2⟩ := id gbB.box; have y4 := gbB.box.lt; have yK := zK hN hy; obtain ⟨K, hK, hK0, hK1⟩ := yK; have HK := hid hK; clear hK) | (have q3 : w.heap.size + 1 ≤ wB.heap.size := (by omega); have q5 : 0 < N := (by omega); have q6 : 0 < K := hK0; have q7 : N + K ≤ 67108864 := (by omega); refine step_append_zeros (xs := xs) gbB.own q5 q6 q7 q3 _ _ rfl rfl rfl (congrArg (Value.int .i64) HK.out) ?_; clear q5 q6 q7; intro v' w' p1 p2 p3; have bxA := GB.boxA gbB p2; obtain ⟨u1, u2⟩ := bxA; clear y1 y2 y4 z1 z2; have fm := Has.form p1; obtain ⟨A', C', e'⟩ := fm; subst e')))
    all_goals
      have gbF := gbB.put p1 p2 p3
      have HL := hid (gbB.below (v' := .slice A' (N + K) C') q3 p2 (by omega))
      have hcF := hcB.below HL.out (by omega)
      have fF := fBB.below HL.out (by omega)
      have b2F := b2B.below HL.out (by omega)
      clear p1 p2 p3 q3 u1 u2 HL gbB hcB fBB b2B
      obtain ⟨z1, z2⟩ := id (GB.box gbF)
      obtain ⟨z3, z4⟩ := id b2F
      have HW := hid ((Fr.refl w.heap.size (w.heap.size + 1) (w'.setCell ⟨w1.heap.size, 0, none⟩ (.slice A' (N + K) C'))).setCell (p := ⟨w.heap.size, 0, none⟩) (Nat.le_refl _) (Nat.lt_succ_self _) (.slice A' (N + K) C'))
      have HO := hid (GB.own gbF)
      have cp := Has.cap (GB.own gbF)
      go_wp2_with fail
      have es : ((w'.setCell ⟨w1.heap.size, 0, none⟩ (.slice A' (N + K) C')).setCell ⟨w.heap.size, 0, none⟩ (.slice A' (N + K) C')).heap.size = (w'.setCell ⟨w1.heap.size, 0, none⟩ (.slice A' (N + K) C')).heap.size := by simp [World.setCell]
      have hmm := (Mine.of_own HO.out (by omega)).1
      have hm2 := (hmm.fr HW.out (by omega)).widen (lo' := w.heap.size) (hi' := ((w'.setCell ⟨w1.heap.size, 0, none⟩ (.slice A' (N + K) C')).setCell ⟨w.heap.size, 0, none⟩ (.slice A' (N + K) C')).heap.size) (by omega) (by rw [es]; exact Nat.le_refl _) (Nat.le_refl _)
      exact bodyPost_ret (v := .agg #[.slice A' (N + K) C']) (by simp [results, Try.results200, go_sem, z1, z2, z3, z4]) rfl ⟨_, _, _, _, rfl, hm2, by omega, (Cur.fr hcF HW.out (by omega)).mono (by omega), Fr.setNew fF (p := ⟨w.heap.size, 0, none⟩) (Nat.le_refl _) _⟩
  have t3 : (q == 3) = false := by rw [beq_eq_false_iff_ne]; exact h3
  obtain ⟨z1, z2⟩ := id (GB.box gb3)
  obtain ⟨z3, z4⟩ := id b2
  have HW := hid ((Fr.refl w.heap.size (w.heap.size + 1) w3).setCell (p := ⟨w.heap.size, 0, none⟩) (Nat.le_refl _) (Nat.lt_succ_self _) (.slice A N C))
  have HO := hid (GB.own gb3)
  have cp := Has.cap (GB.own gb3)
  go_wp2_with fail
  have es : (w3.setCell ⟨w.heap.size, 0, none⟩ (.slice A N C)).heap.size = w3.heap.size := by simp [World.setCell]
  have hmm := (Mine.of_own HO.out (by omega)).1
  have hm2 := (hmm.fr HW.out (by omega)).widen (lo' := w.heap.size) (hi' := (w3.setCell ⟨w.heap.size, 0, none⟩ (.slice A N C)).heap.size) (by omega) (by rw [es]; exact Nat.le_refl _) (Nat.le_refl _)
  exact bodyPost_ret (v := .agg #[.slice A N C]) (by simp [results, Try.results200, go_sem, z1, z2, z3, z4]) rfl ⟨_, _, _, _, rfl, hm2, by omega, (Cur.fr hc3 HW.out (by omega)).mono (by omega), Fr.setNew f5 (p := ⟨w.heap.size, 0, none⟩) (Nat.le_refl _) _⟩
end Go.Proofs.Ytnopedjgagoahaa

/- What the cursor draws: a geography with numbers for its areas (bounds alone). -/
namespace Go.Proofs.Ytnopedjgagoahaa
open Go.RowKit
set_option linter.unusedVariables false
set_option linter.unusedSimpArgs false

theorem Has.none_ {w : World} {B e size n c : Nat} {cs : List Value} (h : Has w B e size (.slice none n c) n cs) : n = 0 ∧ c = 0 := by
  rcases h.2 with ⟨h1, h2⟩ | ⟨g, cap, cur, hv, _⟩
  · injection h1 with _ h3 h4; exact ⟨h3, h4⟩
  · injection hv with h1; cases h1
/-- A geography with a list of numbers of one's own. -/
def DrawsP (w : World) (g : Nat) (T : Int) (e : Ending) (w' : World) : Prop := ∃ (A : Option Addr) (N C : Nat) (xs : List Int) (A1 : Option Addr) (N1 C1 : Nat) (ys : List Int), e = .returned (.tuple #[.agg #[.slice A N C], .slice A1 N1 C1]) ∧
  Ints w' w.heap.size w'.heap.size A N xs ∧ Mine w' w.heap.size w'.heap.size A1 N1 ys ∧ (A1 = none → N1 = 0 ∧ C1 = 0) ∧ (N ≤ 45 ∧ N1 ≤ 46) ∧ Near 100001 ys ∧ Cur w' g T ∧ Fr g (g + 1) w w'
end Go.Proofs.Ytnopedjgagoahaa

