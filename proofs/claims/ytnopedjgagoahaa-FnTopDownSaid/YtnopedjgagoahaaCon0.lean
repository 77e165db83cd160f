/- Consistent estimates: shares, a clone of fractions. -/
import Derived.Test.YtnopedjgagoahaaConL
import Derived.Lib.SliceRun
namespace Go.Proofs.Ytnopedjgagoahaa
open Go.RowKit
set_option linter.unusedVariables false
set_option linter.unusedSimpArgs false

/-- append of a whole slice of fractions to an empty one that has just been made. -/
theorem append_frs {w0 : World} {ops : Array Oper} {rest : List Oper} {o : Oper} {a : Act} {Q : Exit → Act → World → Prop} {lo hi n c b off : Nat} {l : List (Int × Int)}
    (h : Fracs w0 lo hi (some ⟨b, off, none⟩) n l) (h0 : 0 < n)
    (s u : Operand) (hgd : o.guard = none)
    (ho : o.op = .call { callee := .builtin .append, args := #[s, u], argTypes := #[43, 43] })
    (hs : a.eval s = .slice (some ⟨w0.heap.size, 0, none⟩) 0 0) (hx : a.eval u = .slice (some ⟨b, off, none⟩) n c)
    (k : ∀ v' w', Has w' w0.heap.size 31 2 v' n (frs l) → Keeps w0 w' → wpList Try.prog ops Q rest (a.put o.dst v') w') : wpList Try.prog ops Q (o :: rest) a (w0.alloc (.cells #[] 31)) := by
  obtain ⟨i, hi, hz0, hz1, hz2⟩ := info_parts info_frac
  have hn := h.le
  have hl := Fracs.len h
  refine wpList_append_own _ hgd s u 43 ho w0.heap.size 31 i _ 2 16 Try.underlying43 hi hz0 hz1 hz2 rfl (by omega) _ 0 [] hs (World.ownsRow_made w0 #[] 0 (Nat.le_refl _) (Nat.zero_le _) rfl) ⟨b, off, none⟩ n c (frs l) hx (by rw [frs_len, hl]) (fun j y hy => ?_) (fun y hy => ?_) (by unfold maxLen; omega) (by omega) (by simp) (fun v' w' h2 h3 h4 => ?_)
  · rw [Addr.add_lit]
    obtain ⟨b', off', e, _, _, hc⟩ := h.2.2.2 h0
    obtain ⟨rfl, rfl⟩ : b = b' ∧ off = off' := by simpa using e
    obtain ⟨hj, rfl⟩ := List.getElem?_eq_some_iff.1 hy
    have := hc j (by rw [frs_len, hl] at hj; exact hj)
    refine cell_keeps (this.trans ?_) (keeps_alloc _ _)
    simp [List.getD, hj]
  · simp only [frs, fr2, List.mem_flatMap] at hy
    obtain ⟨f, _, hf⟩ := hy
    simp at hf
    rcases hf with rfl | rfl <;> rfl
  · refine k v' w' (by simpa using h2) (((Below.refl _ w0).alloc (Nat.le_refl _) _).grown h3 (by simp) (fun k hk => ?_))
    simp [Value.ownBlock] at hk
    omega

set_option maxRecDepth 100000 in
set_option maxHeartbeats 1600000 in
theorem cloneF_any {lo hi n c b off : Nat} {l : List (Int × Int)} {w : World} (h : Fracs w lo hi (some ⟨b, off, none⟩) n l) (h0 : 0 < n) :
    Calls Try.prog 223 #[.slice (some ⟨b, off, none⟩) n c] w fun e w' => ∃ A' c', e = .returned (.slice A' n c') ∧ FracsM w' w.heap.size w'.heap.size A' n l ∧ Keeps w w' := by
  have hn := h.le
  have hq : ∀ w' : World, (binOp .eql 43 (.slice (some ⟨b, off, none⟩) n c) (.slice none 0 0)).run Try.prog w' = .ok (.bool false) w' := fun w' => Lib.run_eql_slice_nil w' _ _ (some ⟨b, off, none⟩) n c 0 0 Try.underlying43
  go_enter Try.func223, Try.ntmps223
  go_wp2_with (at_builtin; refine append_frs h h0 _ _ rfl rfl rfl rfl ?_; intro v' w' hown hb)
  go_wp2
  go_ret
  obtain ⟨A1, C1, rfl⟩ := hown.form
  exact ⟨_, _, rfl, SlM.of_own hown hn (by omega), hb⟩
set_option maxRecDepth 100000 in
set_option maxHeartbeats 1600000 in
theorem wShare_any {z1 z2 u1 u2 v1 v2 e1 e2 s1 s2 : Int} {w : World} (fz : fracB z1 z2 = true) (fu : fracB u1 u2 = true) (fv : fracB v1 v2 = true) (fe : fracB e1 e2 = true) (fs : fracB s1 s2 = true) :
    Calls Try.prog 195 #[.agg #[.int .i64 z1, .int .i64 z2], .agg #[.int .i64 u1, .int .i64 u2], .agg #[.int .i64 v1, .int .i64 v2], .agg #[.int .i64 e1, .int .i64 e2], .agg #[.int .i64 s1, .int .i64 s2]] w fun e w' => e = .returned (.tuple #[.agg #[.int .i64 (wShareQ z1 z2 u1 u2 v1 v2 e1 e2 s1 s2).1, .int .i64 (wShareQ z1 z2 u1 u2 v1 v2 e1 e2 s1 s2).2.1], .bool (wShareQ z1 z2 u1 u2 v1 v2 e1 e2 s1 s2).2.2]) ∧ Keeps w w' := by
  have Fz := hid fz
  clear fz
  have Fu := hid fu
  clear fu
  have Fv := hid fv
  clear fv
  have Fe := hid fe
  clear fe
  have Fs := hid fs
  clear fs
  go_enter Try.func195, Try.ntmps195
  have kw := keeps_refl w
  replace kw := Keeps.trans kw (keeps_alloc w (.cells #[.int .i64 z1, .int .i64 z2] 31))
  have b5 : Bx (w.alloc (.cells #[.int .i64 z1, .int .i64 z2] 31)) w.heap.size z1 z2 := Bx.new' (by simp)
  replace b5 := b5.keeps (keeps_alloc (w.alloc (.cells #[.int .i64 z1, .int .i64 z2] 31)) (.cells #[.int .i64 u1, .int .i64 u2] 31))
  replace kw := Keeps.trans kw (keeps_alloc (w.alloc (.cells #[.int .i64 z1, .int .i64 z2] 31)) (.cells #[.int .i64 u1, .int .i64 u2] 31))
  have b6 : Bx ((w.alloc (.cells #[.int .i64 z1, .int .i64 z2] 31)).alloc (.cells #[.int .i64 u1, .int .i64 u2] 31)) (w.heap.size + 1) u1 u2 := Bx.new' (by simp)
  replace b5 := b5.keeps (keeps_alloc ((w.alloc (.cells #[.int .i64 z1, .int .i64 z2] 31)).alloc (.cells #[.int .i64 u1, .int .i64 u2] 31)) (.cells #[.int .i64 v1, .int .i64 v2] 31))
  replace b6 := b6.keeps (keeps_alloc ((w.alloc (.cells #[.int .i64 z1, .int .i64 z2] 31)).alloc (.cells #[.int .i64 u1, .int .i64 u2] 31)) (.cells #[.int .i64 v1, .int .i64 v2] 31))
  replace kw := Keeps.trans kw (keeps_alloc ((w.alloc (.cells #[.int .i64 z1, .int .i64 z2] 31)).alloc (.cells #[.int .i64 u1, .int .i64 u2] 31)) (.cells #[.int .i64 v1, .int .i64 v2] 31))
  have b7 : Bx (((w.alloc (.cells #[.int .i64 z1, .int .i64 z2] 31)).alloc (.cells #[.int .i64 u1, .int .i64 u2] 31)).alloc (.cells #[.int .i64 v1, .int .i64 v2] 31)) (w.heap.size + 1 + 1) v1 v2 := Bx.new' (by simp)
  replace b5 := b5.keeps (keeps_alloc (((w.alloc (.cells #[.int .i64 z1, .int .i64 z2] 31)).alloc (.cells #[.int .i64 u1, .int .i64 u2] 31)).alloc (.cells #[.int .i64 v1, .int .i64 v2] 31)) (.cells #[.int .i64 e1, .int .i64 e2] 31))
  replace b6 := b6.keeps (keeps_alloc (((w.alloc (.cells #[.int .i64 z1, .int .i64 z2] 31)).alloc (.cells #[.int .i64 u1, .int .i64 u2] 31)).alloc (.cells #[.int .i64 v1, .int .i64 v2] 31)) (.cells #[.int .i64 e1, .int .i64 e2] 31))
  replace b7 := b7.keeps (keeps_alloc (((w.alloc (.cells #[.int .i64 z1, .int .i64 z2] 31)).alloc (.cells #[.int .i64 u1, .int .i64 u2] 31)).alloc (.cells #[.int .i64 v1, .int .i64 v2] 31)) (.cells #[.int .i64 e1, .int .i64 e2] 31))
  replace kw := Keeps.trans kw (keeps_alloc (((w.alloc (.cells #[.int .i64 z1, .int .i64 z2] 31)).alloc (.cells #[.int .i64 u1, .int .i64 u2] 31)).alloc (.cells #[.int .i64 v1, .int .i64 v2] 31)) (.cells #[.int .i64 e1, .int .i64 e2] 31))
  have b8 : Bx ((((w.alloc (.cells #[.int .i64 z1, .int .i64 z2] 31)).alloc (.cells #[.int .i64 u1, .int .i64 u2] 31)).alloc (.cells #[.int .i64 v1, .int .i64 v2] 31)).alloc (.cells #[.int .i64 e1, .int .i64 e2] 31)) (w.heap.size + 1 + 1 + 1) e1 e2 := Bx.new' (by simp)
  replace b5 := b5.keeps (keeps_alloc ((((w.alloc (.cells #[.int .i64 z1, .int .i64 z2] 31)).alloc (.cells #[.int .i64 u1, .int .i64 u2] 31)).alloc (.cells #[.int .i64 v1, .int .i64 v2] 31)).alloc (.cells #[.int .i64 e1, .int .i64 e2] 31)) (.cells #[.int .i64 s1, .int .i64 s2] 31))
  replace b6 := b6.keeps (keeps_alloc ((((w.alloc (.cells #[.int .i64 z1, .int .i64 z2] 31)).alloc (.cells #[.int .i64 u1, .int .i64 u2] 31)).alloc (.cells #[.int .i64 v1, .int .i64 v2] 31)).alloc (.cells #[.int .i64 e1, .int .i64 e2] 31)) (.cells #[.int .i64 s1, .int .i64 s2] 31))
  replace b7 := b7.keeps (keeps_alloc ((((w.alloc (.cells #[.int .i64 z1, .int .i64 z2] 31)).alloc (.cells #[.int .i64 u1, .int .i64 u2] 31)).alloc (.cells #[.int .i64 v1, .int .i64 v2] 31)).alloc (.cells #[.int .i64 e1, .int .i64 e2] 31)) (.cells #[.int .i64 s1, .int .i64 s2] 31))
  replace b8 := b8.keeps (keeps_alloc ((((w.alloc (.cells #[.int .i64 z1, .int .i64 z2] 31)).alloc (.cells #[.int .i64 u1, .int .i64 u2] 31)).alloc (.cells #[.int .i64 v1, .int .i64 v2] 31)).alloc (.cells #[.int .i64 e1, .int .i64 e2] 31)) (.cells #[.int .i64 s1, .int .i64 s2] 31))
  replace kw := Keeps.trans kw (keeps_alloc ((((w.alloc (.cells #[.int .i64 z1, .int .i64 z2] 31)).alloc (.cells #[.int .i64 u1, .int .i64 u2] 31)).alloc (.cells #[.int .i64 v1, .int .i64 v2] 31)).alloc (.cells #[.int .i64 e1, .int .i64 e2] 31)) (.cells #[.int .i64 s1, .int .i64 s2] 31))
  have b9 : Bx (((((w.alloc (.cells #[.int .i64 z1, .int .i64 z2] 31)).alloc (.cells #[.int .i64 u1, .int .i64 u2] 31)).alloc (.cells #[.int .i64 v1, .int .i64 v2] 31)).alloc (.cells #[.int .i64 e1, .int .i64 e2] 31)).alloc (.cells #[.int .i64 s1, .int .i64 s2] 31)) (w.heap.size + 1 + 1 + 1 + 1) s1 s2 := Bx.new' (by simp)
  replace b5 := b5.keeps (keeps_alloc (((((w.alloc (.cells #[.int .i64 z1, .int .i64 z2] 31)).alloc (.cells #[.int .i64 u1, .int .i64 u2] 31)).alloc (.cells #[.int .i64 v1, .int .i64 v2] 31)).alloc (.cells #[.int .i64 e1, .int .i64 e2] 31)).alloc (.cells #[.int .i64 s1, .int .i64 s2] 31)) (.cells #[.int .i64 0, .int .i64 0] 31))
  replace b6 := b6.keeps (keeps_alloc (((((w.alloc (.cells #[.int .i64 z1, .int .i64 z2] 31)).alloc (.cells #[.int .i64 u1, .int .i64 u2] 31)).alloc (.cells #[.int .i64 v1, .int .i64 v2] 31)).alloc (.cells #[.int .i64 e1, .int .i64 e2] 31)).alloc (.cells #[.int .i64 s1, .int .i64 s2] 31)) (.cells #[.int .i64 0, .int .i64 0] 31))
  replace b7 := b7.keeps (keeps_alloc (((((w.alloc (.cells #[.int .i64 z1, .int .i64 z2] 31)).alloc (.cells #[.int .i64 u1, .int .i64 u2] 31)).alloc (.cells #[.int .i64 v1, .int .i64 v2] 31)).alloc (.cells #[.int .i64 e1, .int .i64 e2] 31)).alloc (.cells #[.int .i64 s1, .int .i64 s2] 31)) (.cells #[.int .i64 0, .int .i64 0] 31))
  replace b8 := b8.keeps (keeps_alloc (((((w.alloc (.cells #[.int .i64 z1, .int .i64 z2] 31)).alloc (.cells #[.int .i64 u1, .int .i64 u2] 31)).alloc (.cells #[.int .i64 v1, .int .i64 v2] 31)).alloc (.cells #[.int .i64 e1, .int .i64 e2] 31)).alloc (.cells #[.int .i64 s1, .int .i64 s2] 31)) (.cells #[.int .i64 0, .int .i64 0] 31))
  replace b9 := b9.keeps (keeps_alloc (((((w.alloc (.cells #[.int .i64 z1, .int .i64 z2] 31)).alloc (.cells #[.int .i64 u1, .int .i64 u2] 31)).alloc (.cells #[.int .i64 v1, .int .i64 v2] 31)).alloc (.cells #[.int .i64 e1, .int .i64 e2] 31)).alloc (.cells #[.int .i64 s1, .int .i64 s2] 31)) (.cells #[.int .i64 0, .int .i64 0] 31))
  replace kw := Keeps.trans kw (keeps_alloc (((((w.alloc (.cells #[.int .i64 z1, .int .i64 z2] 31)).alloc (.cells #[.int .i64 u1, .int .i64 u2] 31)).alloc (.cells #[.int .i64 v1, .int .i64 v2] 31)).alloc (.cells #[.int .i64 e1, .int .i64 e2] 31)).alloc (.cells #[.int .i64 s1, .int .i64 s2] 31)) (.cells #[.int .i64 0, .int .i64 0] 31))
  have b10 : Bx ((((((w.alloc (.cells #[.int .i64 z1, .int .i64 z2] 31)).alloc (.cells #[.int .i64 u1, .int .i64 u2] 31)).alloc (.cells #[.int .i64 v1, .int .i64 v2] 31)).alloc (.cells #[.int .i64 e1, .int .i64 e2] 31)).alloc (.cells #[.int .i64 s1, .int .i64 s2] 31)).alloc (.cells #[.int .i64 0, .int .i64 0] 31)) (w.heap.size + 1 + 1 + 1 + 1 + 1) 0 0 := Bx.new' (by simp)
  obtain ⟨d1, d2, d3, HD⟩ : ∃ r1 r2 r3, Hid (mkF (e1 * s2 - s1 * e2) (e2 * s2) = (r1, r2, r3)) := ⟨_, _, _, rfl⟩
  obtain ⟨p1, p2, p3, HP⟩ : ∃ r1 r2 r3, Hid (mkF (u1 * v2) (u2 * v1) = (r1, r2, r3)) := ⟨_, _, _, rfl⟩
  obtain ⟨ca1, cb1, fa1, fb1⟩ := id b8
  obtain ⟨ca2, cb2, fa2, fb2⟩ := id b9
  go_wp2_with fail
  clear ca1 cb1 fa1 fb1 ca2 cb2 fa2 fb2
  refine (fSub_any (fracB_qb Fe.out) (fracB_qb Fs.out)).mono ?_
  rintro e w3 ⟨rfl, k3⟩
  rw [HD.out]
  replace b5 := b5.keeps k3
  replace b6 := b6.keeps k3
  replace b7 := b7.keeps k3
  replace b8 := b8.keeps k3
  replace b9 := b9.keeps k3
  replace b10 := b10.keeps k3
  replace kw := Keeps.trans kw k3
  have lt4 := b10.lt
  have sz5 := kw.size
  clear k3
  replace b5 := b5.keeps (keeps_alloc w3 (.cells #[.int .i64 d1, .int .i64 d2] 31))
  replace b6 := b6.keeps (keeps_alloc w3 (.cells #[.int .i64 d1, .int .i64 d2] 31))
  replace b7 := b7.keeps (keeps_alloc w3 (.cells #[.int .i64 d1, .int .i64 d2] 31))
  replace b8 := b8.keeps (keeps_alloc w3 (.cells #[.int .i64 d1, .int .i64 d2] 31))
  replace b9 := b9.keeps (keeps_alloc w3 (.cells #[.int .i64 d1, .int .i64 d2] 31))
  replace b10 := b10.keeps (keeps_alloc w3 (.cells #[.int .i64 d1, .int .i64 d2] 31))
  replace kw := Keeps.trans kw (keeps_alloc w3 (.cells #[.int .i64 d1, .int .i64 d2] 31))
  have b12 : Bx (w3.alloc (.cells #[.int .i64 d1, .int .i64 d2] 31)) w3.heap.size d1 d2 := Bx.new' (by simp)
  obtain ⟨ca6, cb6, fa6, fb6⟩ := id b6
  obtain ⟨ca7, cb7, fa7, fb7⟩ := id b7
  go_wp2_with fail
  clear ca6 cb6 fa6 fb6 ca7 cb7 fa7 fb7
  refine (fDiv_any (fracB_qb Fu.out) (fracB_qb Fv.out)).mono ?_
  rintro e w8 ⟨rfl, k8⟩
  rw [HP.out]
  replace b5 := b5.keeps k8
  replace b6 := b6.keeps k8
  replace b7 := b7.keeps k8
  replace b8 := b8.keeps k8
  replace b9 := b9.keeps k8
  replace b10 := b10.keeps k8
  replace b12 := b12.keeps k8
  replace kw := Keeps.trans kw k8
  have lt9 := b12.lt
  have sz10 := kw.size
  clear k8
  replace b5 := b5.keeps (keeps_alloc w8 (.cells #[.int .i64 p1, .int .i64 p2] 31))
  replace b6 := b6.keeps (keeps_alloc w8 (.cells #[.int .i64 p1, .int .i64 p2] 31))
  replace b7 := b7.keeps (keeps_alloc w8 (.cells #[.int .i64 p1, .int .i64 p2] 31))
  replace b8 := b8.keeps (keeps_alloc w8 (.cells #[.int .i64 p1, .int .i64 p2] 31))
  replace b9 := b9.keeps (keeps_alloc w8 (.cells #[.int .i64 p1, .int .i64 p2] 31))
  replace b10 := b10.keeps (keeps_alloc w8 (.cells #[.int .i64 p1, .int .i64 p2] 31))
  replace b12 := b12.keeps (keeps_alloc w8 (.cells #[.int .i64 p1, .int .i64 p2] 31))
  replace kw := Keeps.trans kw (keeps_alloc w8 (.cells #[.int .i64 p1, .int .i64 p2] 31))
  have b14 : Bx (w8.alloc (.cells #[.int .i64 p1, .int .i64 p2] 31)) w8.heap.size p1 p2 := Bx.new' (by simp)
  cases d3
  · have HE := hid (show wShareQ z1 z2 u1 u2 v1 v2 e1 e2 s1 s2 = (0, 0, false) from bindT_no HD.out)
    obtain ⟨ca11, cb11, fa11, fb11⟩ := id b10
    replace b5 := b5.set2 (p := (w.heap.size + 1 + 1 + 1 + 1 + 1)) (by omega) (.int .i64 0) (.int .i64 0)
    replace b6 := b6.set2 (p := (w.heap.size + 1 + 1 + 1 + 1 + 1)) (by omega) (.int .i64 0) (.int .i64 0)
    replace b7 := b7.set2 (p := (w.heap.size + 1 + 1 + 1 + 1 + 1)) (by omega) (.int .i64 0) (.int .i64 0)
    replace b8 := b8.set2 (p := (w.heap.size + 1 + 1 + 1 + 1 + 1)) (by omega) (.int .i64 0) (.int .i64 0)
    replace b9 := b9.set2 (p := (w.heap.size + 1 + 1 + 1 + 1 + 1)) (by omega) (.int .i64 0) (.int .i64 0)
    replace b12 := b12.set2 (p := (w.heap.size + 1 + 1 + 1 + 1 + 1)) (by omega) (.int .i64 0) (.int .i64 0)
    replace b14 := b14.set2 (p := (w.heap.size + 1 + 1 + 1 + 1 + 1)) (by omega) (.int .i64 0) (.int .i64 0)
    replace b10 := b10.set 0 0
    replace kw := below_set2 kw (p := (w.heap.size + 1 + 1 + 1 + 1 + 1)) (by omega) (.int .i64 0) (.int .i64 0)
    go_wp2_with fail
    clear ca11 cb11 fa11 fb11
    obtain ⟨ca0, cb0, fa0, fb0⟩ := id b10
    try simp only [Exit.inBlock, Exit.then]
    refine bodyPost_ret (v := .tuple #[.agg #[.int .i64 0, .int .i64 0], .bool false]) (by simp [results, Try.results195, go_sem, ca0, cb0]) rfl ⟨ret_fb (by rw [HE.out]) (by rw [HE.out]) (by rw [HE.out]), ?_⟩
    exact kw
  cases p3
  · have HE := hid (show wShareQ z1 z2 u1 u2 v1 v2 e1 e2 s1 s2 = (0, 0, false) from (bindT_yes HD.out).trans (bindT_no HP.out))
    obtain ⟨ca11, cb11, fa11, fb11⟩ := id b10
    replace b5 := b5.set2 (p := (w.heap.size + 1 + 1 + 1 + 1 + 1)) (by omega) (.int .i64 0) (.int .i64 0)
    replace b6 := b6.set2 (p := (w.heap.size + 1 + 1 + 1 + 1 + 1)) (by omega) (.int .i64 0) (.int .i64 0)
    replace b7 := b7.set2 (p := (w.heap.size + 1 + 1 + 1 + 1 + 1)) (by omega) (.int .i64 0) (.int .i64 0)
    replace b8 := b8.set2 (p := (w.heap.size + 1 + 1 + 1 + 1 + 1)) (by omega) (.int .i64 0) (.int .i64 0)
    replace b9 := b9.set2 (p := (w.heap.size + 1 + 1 + 1 + 1 + 1)) (by omega) (.int .i64 0) (.int .i64 0)
    replace b12 := b12.set2 (p := (w.heap.size + 1 + 1 + 1 + 1 + 1)) (by omega) (.int .i64 0) (.int .i64 0)
    replace b14 := b14.set2 (p := (w.heap.size + 1 + 1 + 1 + 1 + 1)) (by omega) (.int .i64 0) (.int .i64 0)
    replace b10 := b10.set 0 0
    replace kw := below_set2 kw (p := (w.heap.size + 1 + 1 + 1 + 1 + 1)) (by omega) (.int .i64 0) (.int .i64 0)
    go_wp2_with fail
    clear ca11 cb11 fa11 fb11
    obtain ⟨ca0, cb0, fa0, fb0⟩ := id b10
    try simp only [Exit.inBlock, Exit.then]
    refine bodyPost_ret (v := .tuple #[.agg #[.int .i64 0, .int .i64 0], .bool false]) (by simp [results, Try.results195, go_sem, ca0, cb0]) rfl ⟨ret_fb (by rw [HE.out]) (by rw [HE.out]) (by rw [HE.out]), ?_⟩
    exact kw
  have HF := hid (show wShareQ z1 z2 u1 u2 v1 v2 e1 e2 s1 s2 = shareP z1 z2 d1 d2 p1 p2 from (bindT_yes HD.out).trans (bindT_yes HP.out))
  have Fd := hid (mkF_fine HD.out)
  have Fp := hid (mkF_fine HP.out)
  obtain ⟨x1, x2, x3, HX⟩ : ∃ r1 r2 r3, Hid (mkF (p1 * d1) (p2 * d2) = (r1, r2, r3)) := ⟨_, _, _, rfl⟩
  obtain ⟨ca11, cb11, fa11, fb11⟩ := id b14
  obtain ⟨ca12, cb12, fa12, fb12⟩ := id b12
  go_wp2_with fail
  clear ca11 cb11 fa11 fb11 ca12 cb12 fa12 fb12
  refine (fMul_any (fracB_qb Fp.out) (fracB_qb Fd.out)).mono ?_
  rintro e w13 ⟨rfl, k13⟩
  rw [HX.out]
  replace b5 := b5.keeps k13
  replace b6 := b6.keeps k13
  replace b7 := b7.keeps k13
  replace b8 := b8.keeps k13
  replace b9 := b9.keeps k13
  replace b10 := b10.keeps k13
  replace b12 := b12.keeps k13
  replace b14 := b14.keeps k13
  replace kw := Keeps.trans kw k13
  have lt14 := b14.lt
  have sz15 := kw.size
  clear k13
  replace b5 := b5.keeps (keeps_alloc w13 (.cells #[.int .i64 x1, .int .i64 x2] 31))
  replace b6 := b6.keeps (keeps_alloc w13 (.cells #[.int .i64 x1, .int .i64 x2] 31))
  replace b7 := b7.keeps (keeps_alloc w13 (.cells #[.int .i64 x1, .int .i64 x2] 31))
  replace b8 := b8.keeps (keeps_alloc w13 (.cells #[.int .i64 x1, .int .i64 x2] 31))
  replace b9 := b9.keeps (keeps_alloc w13 (.cells #[.int .i64 x1, .int .i64 x2] 31))
  replace b10 := b10.keeps (keeps_alloc w13 (.cells #[.int .i64 x1, .int .i64 x2] 31))
  replace b12 := b12.keeps (keeps_alloc w13 (.cells #[.int .i64 x1, .int .i64 x2] 31))
  replace b14 := b14.keeps (keeps_alloc w13 (.cells #[.int .i64 x1, .int .i64 x2] 31))
  replace kw := Keeps.trans kw (keeps_alloc w13 (.cells #[.int .i64 x1, .int .i64 x2] 31))
  have b16 : Bx (w13.alloc (.cells #[.int .i64 x1, .int .i64 x2] 31)) w13.heap.size x1 x2 := Bx.new' (by simp)
  cases x3
  · have HE := hid (show wShareQ z1 z2 u1 u2 v1 v2 e1 e2 s1 s2 = (0, 0, false) from HF.out.trans (bindT_no HX.out))
    obtain ⟨ca16, cb16, fa16, fb16⟩ := id b10
    replace b5 := b5.set2 (p := (w.heap.size + 1 + 1 + 1 + 1 + 1)) (by omega) (.int .i64 0) (.int .i64 0)
    replace b6 := b6.set2 (p := (w.heap.size + 1 + 1 + 1 + 1 + 1)) (by omega) (.int .i64 0) (.int .i64 0)
    replace b7 := b7.set2 (p := (w.heap.size + 1 + 1 + 1 + 1 + 1)) (by omega) (.int .i64 0) (.int .i64 0)
    replace b8 := b8.set2 (p := (w.heap.size + 1 + 1 + 1 + 1 + 1)) (by omega) (.int .i64 0) (.int .i64 0)
    replace b9 := b9.set2 (p := (w.heap.size + 1 + 1 + 1 + 1 + 1)) (by omega) (.int .i64 0) (.int .i64 0)
    replace b12 := b12.set2 (p := (w.heap.size + 1 + 1 + 1 + 1 + 1)) (by omega) (.int .i64 0) (.int .i64 0)
    replace b14 := b14.set2 (p := (w.heap.size + 1 + 1 + 1 + 1 + 1)) (by omega) (.int .i64 0) (.int .i64 0)
    replace b16 := b16.set2 (p := (w.heap.size + 1 + 1 + 1 + 1 + 1)) (by omega) (.int .i64 0) (.int .i64 0)
    replace b10 := b10.set 0 0
    replace kw := below_set2 kw (p := (w.heap.size + 1 + 1 + 1 + 1 + 1)) (by omega) (.int .i64 0) (.int .i64 0)
    go_wp2_with fail
    clear ca16 cb16 fa16 fb16
    obtain ⟨ca0, cb0, fa0, fb0⟩ := id b10
    try simp only [Exit.inBlock, Exit.then]
    refine bodyPost_ret (v := .tuple #[.agg #[.int .i64 0, .int .i64 0], .bool false]) (by simp [results, Try.results195, go_sem, ca0, cb0]) rfl ⟨ret_fb (by rw [HE.out]) (by rw [HE.out]) (by rw [HE.out]), ?_⟩
    exact kw
  replace HF := hid (HF.out.trans (show shareP z1 z2 d1 d2 p1 p2 = shareX z1 z2 x1 x2 from bindT_yes HX.out))
  have Fx := hid (mkF_fine HX.out)
  obtain ⟨r1, r2, r3, HR⟩ : ∃ r1 r2 r3, Hid (mkF (z1 * x2 + x1 * z2) (z2 * x2) = (r1, r2, r3)) := ⟨_, _, _, rfl⟩
  replace HF := hid (HF.out.trans (show shareX z1 z2 x1 x2 = (r1, r2, r3) from HR.out))
  obtain ⟨ca16, cb16, fa16, fb16⟩ := id b5
  obtain ⟨ca17, cb17, fa17, fb17⟩ := id b16
  go_wp2_with fail
  clear ca16 cb16 fa16 fb16 ca17 cb17 fa17 fb17
  refine (fAdd_any (fracB_qb Fz.out) (fracB_qb Fx.out)).mono ?_
  rintro e w18 ⟨rfl, k18⟩
  rw [HR.out]
  replace b5 := b5.keeps k18
  replace b6 := b6.keeps k18
  replace b7 := b7.keeps k18
  replace b8 := b8.keeps k18
  replace b9 := b9.keeps k18
  replace b10 := b10.keeps k18
  replace b12 := b12.keeps k18
  replace b14 := b14.keeps k18
  replace b16 := b16.keeps k18
  replace kw := Keeps.trans kw k18
  have lt19 := b16.lt
  have sz20 := kw.size
  clear k18
  obtain ⟨ca21, cb21, fa21, fb21⟩ := id b10
  replace b5 := b5.set2 (p := (w.heap.size + 1 + 1 + 1 + 1 + 1)) (by omega) (.int .i64 r1) (.int .i64 r2)
  replace b6 := b6.set2 (p := (w.heap.size + 1 + 1 + 1 + 1 + 1)) (by omega) (.int .i64 r1) (.int .i64 r2)
  replace b7 := b7.set2 (p := (w.heap.size + 1 + 1 + 1 + 1 + 1)) (by omega) (.int .i64 r1) (.int .i64 r2)
  replace b8 := b8.set2 (p := (w.heap.size + 1 + 1 + 1 + 1 + 1)) (by omega) (.int .i64 r1) (.int .i64 r2)
  replace b9 := b9.set2 (p := (w.heap.size + 1 + 1 + 1 + 1 + 1)) (by omega) (.int .i64 r1) (.int .i64 r2)
  replace b12 := b12.set2 (p := (w.heap.size + 1 + 1 + 1 + 1 + 1)) (by omega) (.int .i64 r1) (.int .i64 r2)
  replace b14 := b14.set2 (p := (w.heap.size + 1 + 1 + 1 + 1 + 1)) (by omega) (.int .i64 r1) (.int .i64 r2)
  replace b16 := b16.set2 (p := (w.heap.size + 1 + 1 + 1 + 1 + 1)) (by omega) (.int .i64 r1) (.int .i64 r2)
  replace b10 := b10.set r1 r2
  replace kw := below_set2 kw (p := (w.heap.size + 1 + 1 + 1 + 1 + 1)) (by omega) (.int .i64 r1) (.int .i64 r2)
  go_wp2_with fail
  clear ca21 cb21 fa21 fb21
  obtain ⟨ca0, cb0, fa0, fb0⟩ := id b10
  try simp only [Exit.inBlock, Exit.then]
  refine bodyPost_ret (v := .tuple #[.agg #[.int .i64 r1, .int .i64 r2], .bool r3]) (by simp [results, Try.results195, go_sem, ca0, cb0]) rfl ⟨ret_fb (by rw [HF.out]) (by rw [HF.out]) (by rw [HF.out]), ?_⟩
  exact kw
set_option maxRecDepth 100000 in
set_option maxHeartbeats 1600000 in
theorem shared_any {z1 z2 u1 u2 v1 v2 d1 d2 : Int} {w : World} (fz : fracB z1 z2 = true) (fu : fracB u1 u2 = true) (fv : fracB v1 v2 = true) (fd : fracB d1 d2 = true) :
    Calls Try.prog 225 #[.agg #[.int .i64 z1, .int .i64 z2], .agg #[.int .i64 u1, .int .i64 u2], .agg #[.int .i64 v1, .int .i64 v2], .agg #[.int .i64 d1, .int .i64 d2]] w fun e w' => e = .returned (.tuple #[.agg #[.int .i64 (shareQ z1 z2 u1 u2 v1 v2 d1 d2).1, .int .i64 (shareQ z1 z2 u1 u2 v1 v2 d1 d2).2.1], .bool (shareQ z1 z2 u1 u2 v1 v2 d1 d2).2.2]) ∧ Keeps w w' := by
  have Fz := hid fz
  clear fz
  have Fu := hid fu
  clear fu
  have Fv := hid fv
  clear fv
  have Fd := hid fd
  clear fd
  go_enter Try.func225, Try.ntmps225
  have kw := keeps_refl w
  replace kw := Keeps.trans kw (keeps_alloc w (.cells #[.int .i64 z1, .int .i64 z2] 31))
  have b4 : Bx (w.alloc (.cells #[.int .i64 z1, .int .i64 z2] 31)) w.heap.size z1 z2 := Bx.new' (by simp)
  replace b4 := b4.keeps (keeps_alloc (w.alloc (.cells #[.int .i64 z1, .int .i64 z2] 31)) (.cells #[.int .i64 u1, .int .i64 u2] 31))
  replace kw := Keeps.trans kw (keeps_alloc (w.alloc (.cells #[.int .i64 z1, .int .i64 z2] 31)) (.cells #[.int .i64 u1, .int .i64 u2] 31))
  have b5 : Bx ((w.alloc (.cells #[.int .i64 z1, .int .i64 z2] 31)).alloc (.cells #[.int .i64 u1, .int .i64 u2] 31)) (w.heap.size + 1) u1 u2 := Bx.new' (by simp)
  replace b4 := b4.keeps (keeps_alloc ((w.alloc (.cells #[.int .i64 z1, .int .i64 z2] 31)).alloc (.cells #[.int .i64 u1, .int .i64 u2] 31)) (.cells #[.int .i64 v1, .int .i64 v2] 31))
  replace b5 := b5.keeps (keeps_alloc ((w.alloc (.cells #[.int .i64 z1, .int .i64 z2] 31)).alloc (.cells #[.int .i64 u1, .int .i64 u2] 31)) (.cells #[.int .i64 v1, .int .i64 v2] 31))
  replace kw := Keeps.trans kw (keeps_alloc ((w.alloc (.cells #[.int .i64 z1, .int .i64 z2] 31)).alloc (.cells #[.int .i64 u1, .int .i64 u2] 31)) (.cells #[.int .i64 v1, .int .i64 v2] 31))
  have b6 : Bx (((w.alloc (.cells #[.int .i64 z1, .int .i64 z2] 31)).alloc (.cells #[.int .i64 u1, .int .i64 u2] 31)).alloc (.cells #[.int .i64 v1, .int .i64 v2] 31)) (w.heap.size + 1 + 1) v1 v2 := Bx.new' (by simp)
  replace b4 := b4.keeps (keeps_alloc (((w.alloc (.cells #[.int .i64 z1, .int .i64 z2] 31)).alloc (.cells #[.int .i64 u1, .int .i64 u2] 31)).alloc (.cells #[.int .i64 v1, .int .i64 v2] 31)) (.cells #[.int .i64 d1, .int .i64 d2] 31))
  replace b5 := b5.keeps (keeps_alloc (((w.alloc (.cells #[.int .i64 z1, .int .i64 z2] 31)).alloc (.cells #[.int .i64 u1, .int .i64 u2] 31)).alloc (.cells #[.int .i64 v1, .int .i64 v2] 31)) (.cells #[.int .i64 d1, .int .i64 d2] 31))
  replace b6 := b6.keeps (keeps_alloc (((w.alloc (.cells #[.int .i64 z1, .int .i64 z2] 31)).alloc (.cells #[.int .i64 u1, .int .i64 u2] 31)).alloc (.cells #[.int .i64 v1, .int .i64 v2] 31)) (.cells #[.int .i64 d1, .int .i64 d2] 31))
  replace kw := Keeps.trans kw (keeps_alloc (((w.alloc (.cells #[.int .i64 z1, .int .i64 z2] 31)).alloc (.cells #[.int .i64 u1, .int .i64 u2] 31)).alloc (.cells #[.int .i64 v1, .int .i64 v2] 31)) (.cells #[.int .i64 d1, .int .i64 d2] 31))
  have b7 : Bx ((((w.alloc (.cells #[.int .i64 z1, .int .i64 z2] 31)).alloc (.cells #[.int .i64 u1, .int .i64 u2] 31)).alloc (.cells #[.int .i64 v1, .int .i64 v2] 31)).alloc (.cells #[.int .i64 d1, .int .i64 d2] 31)) (w.heap.size + 1 + 1 + 1) d1 d2 := Bx.new' (by simp)
  replace b4 := b4.keeps (keeps_alloc ((((w.alloc (.cells #[.int .i64 z1, .int .i64 z2] 31)).alloc (.cells #[.int .i64 u1, .int .i64 u2] 31)).alloc (.cells #[.int .i64 v1, .int .i64 v2] 31)).alloc (.cells #[.int .i64 d1, .int .i64 d2] 31)) (.cells #[.int .i64 0, .int .i64 0] 31))
  replace b5 := b5.keeps (keeps_alloc ((((w.alloc (.cells #[.int .i64 z1, .int .i64 z2] 31)).alloc (.cells #[.int .i64 u1, .int .i64 u2] 31)).alloc (.cells #[.int .i64 v1, .int .i64 v2] 31)).alloc (.cells #[.int .i64 d1, .int .i64 d2] 31)) (.cells #[.int .i64 0, .int .i64 0] 31))
  replace b6 := b6.keeps (keeps_alloc ((((w.alloc (.cells #[.int .i64 z1, .int .i64 z2] 31)).alloc (.cells #[.int .i64 u1, .int .i64 u2] 31)).alloc (.cells #[.int .i64 v1, .int .i64 v2] 31)).alloc (.cells #[.int .i64 d1, .int .i64 d2] 31)) (.cells #[.int .i64 0, .int .i64 0] 31))
  replace b7 := b7.keeps (keeps_alloc ((((w.alloc (.cells #[.int .i64 z1, .int .i64 z2] 31)).alloc (.cells #[.int .i64 u1, .int .i64 u2] 31)).alloc (.cells #[.int .i64 v1, .int .i64 v2] 31)).alloc (.cells #[.int .i64 d1, .int .i64 d2] 31)) (.cells #[.int .i64 0, .int .i64 0] 31))
  replace kw := Keeps.trans kw (keeps_alloc ((((w.alloc (.cells #[.int .i64 z1, .int .i64 z2] 31)).alloc (.cells #[.int .i64 u1, .int .i64 u2] 31)).alloc (.cells #[.int .i64 v1, .int .i64 v2] 31)).alloc (.cells #[.int .i64 d1, .int .i64 d2] 31)) (.cells #[.int .i64 0, .int .i64 0] 31))
  have b8 : Bx (((((w.alloc (.cells #[.int .i64 z1, .int .i64 z2] 31)).alloc (.cells #[.int .i64 u1, .int .i64 u2] 31)).alloc (.cells #[.int .i64 v1, .int .i64 v2] 31)).alloc (.cells #[.int .i64 d1, .int .i64 d2] 31)).alloc (.cells #[.int .i64 0, .int .i64 0] 31)) (w.heap.size + 1 + 1 + 1 + 1) 0 0 := Bx.new' (by simp)
  obtain ⟨p1, p2, p3, HP⟩ : ∃ r1 r2 r3, Hid (mkF (u1 * v2) (u2 * v1) = (r1, r2, r3)) := ⟨_, _, _, rfl⟩
  obtain ⟨ca1, cb1, fa1, fb1⟩ := id b5
  obtain ⟨ca2, cb2, fa2, fb2⟩ := id b6
  go_wp2_with fail
  clear ca1 cb1 fa1 fb1 ca2 cb2 fa2 fb2
  refine (DivFrac_any Fu.out Fv.out).mono ?_
  rintro e w3 ⟨rfl, k3⟩
  rw [HP.out]
  replace b4 := b4.keeps k3
  replace b5 := b5.keeps k3
  replace b6 := b6.keeps k3
  replace b7 := b7.keeps k3
  replace b8 := b8.keeps k3
  replace kw := Keeps.trans kw k3
  have lt4 := b8.lt
  have sz5 := kw.size
  clear k3
  replace b4 := b4.keeps (keeps_alloc w3 (.cells #[.int .i64 p1, .int .i64 p2] 31))
  replace b5 := b5.keeps (keeps_alloc w3 (.cells #[.int .i64 p1, .int .i64 p2] 31))
  replace b6 := b6.keeps (keeps_alloc w3 (.cells #[.int .i64 p1, .int .i64 p2] 31))
  replace b7 := b7.keeps (keeps_alloc w3 (.cells #[.int .i64 p1, .int .i64 p2] 31))
  replace b8 := b8.keeps (keeps_alloc w3 (.cells #[.int .i64 p1, .int .i64 p2] 31))
  replace kw := Keeps.trans kw (keeps_alloc w3 (.cells #[.int .i64 p1, .int .i64 p2] 31))
  have b10 : Bx (w3.alloc (.cells #[.int .i64 p1, .int .i64 p2] 31)) w3.heap.size p1 p2 := Bx.new' (by simp)
  cases p3
  · have HE := hid (show shareQ z1 z2 u1 u2 v1 v2 d1 d2 = (0, 0, false) from bindT_no HP.out)
    obtain ⟨ca6, cb6, fa6, fb6⟩ := id b8
    replace b4 := b4.set2 (p := (w.heap.size + 1 + 1 + 1 + 1)) (by omega) (.int .i64 0) (.int .i64 0)
    replace b5 := b5.set2 (p := (w.heap.size + 1 + 1 + 1 + 1)) (by omega) (.int .i64 0) (.int .i64 0)
    replace b6 := b6.set2 (p := (w.heap.size + 1 + 1 + 1 + 1)) (by omega) (.int .i64 0) (.int .i64 0)
    replace b7 := b7.set2 (p := (w.heap.size + 1 + 1 + 1 + 1)) (by omega) (.int .i64 0) (.int .i64 0)
    replace b10 := b10.set2 (p := (w.heap.size + 1 + 1 + 1 + 1)) (by omega) (.int .i64 0) (.int .i64 0)
    replace b8 := b8.set 0 0
    replace kw := below_set2 kw (p := (w.heap.size + 1 + 1 + 1 + 1)) (by omega) (.int .i64 0) (.int .i64 0)
    clear lt4
    go_wp2_with fail
    clear ca6 cb6 fa6 fb6
    obtain ⟨ca0, cb0, fa0, fb0⟩ := id b8
    try simp only [Exit.inBlock, Exit.then]
    refine bodyPost_ret (v := .tuple #[.agg #[.int .i64 0, .int .i64 0], .bool false]) (by simp [results, Try.results225, go_sem, ca0, cb0]) rfl ⟨ret_fb (by rw [HE.out]) (by rw [HE.out]) (by rw [HE.out]), ?_⟩
    exact kw
  have HF := hid (show shareQ z1 z2 u1 u2 v1 v2 d1 d2 = shareP z1 z2 d1 d2 p1 p2 from bindT_yes HP.out)
  have Fp := hid (mkF_fine HP.out)
  obtain ⟨x1, x2, x3, HX⟩ : ∃ r1 r2 r3, Hid (mkF (p1 * d1) (p2 * d2) = (r1, r2, r3)) := ⟨_, _, _, rfl⟩
  obtain ⟨ca6, cb6, fa6, fb6⟩ := id b10
  obtain ⟨ca7, cb7, fa7, fb7⟩ := id b7
  go_wp2_with fail
  clear ca6 cb6 fa6 fb6 ca7 cb7 fa7 fb7
  refine (MulFrac_any Fp.out Fd.out).mono ?_
  rintro e w8 ⟨rfl, k8⟩
  rw [HX.out]
  replace b4 := b4.keeps k8
  replace b5 := b5.keeps k8
  replace b6 := b6.keeps k8
  replace b7 := b7.keeps k8
  replace b8 := b8.keeps k8
  replace b10 := b10.keeps k8
  replace kw := Keeps.trans kw k8
  have lt9 := b10.lt
  have sz10 := kw.size
  clear k8
  obtain ⟨ca11, cb11, fa11, fb11⟩ := id b10
  replace b4 := b4.set2 (p := w3.heap.size) (by omega) (.int .i64 x1) (.int .i64 x2)
  replace b5 := b5.set2 (p := w3.heap.size) (by omega) (.int .i64 x1) (.int .i64 x2)
  replace b6 := b6.set2 (p := w3.heap.size) (by omega) (.int .i64 x1) (.int .i64 x2)
  replace b7 := b7.set2 (p := w3.heap.size) (by omega) (.int .i64 x1) (.int .i64 x2)
  replace b8 := b8.set2 (p := w3.heap.size) (by omega) (.int .i64 x1) (.int .i64 x2)
  replace b10 := b10.set x1 x2
  replace kw := below_set2 kw (p := w3.heap.size) (by omega) (.int .i64 x1) (.int .i64 x2)
  cases x3
  · have HE := hid (show shareQ z1 z2 u1 u2 v1 v2 d1 d2 = (0, 0, false) from HF.out.trans (bindT_no HX.out))
    obtain ⟨ca12, cb12, fa12, fb12⟩ := id b8
    replace b4 := b4.set2 (p := (w.heap.size + 1 + 1 + 1 + 1)) (by omega) (.int .i64 0) (.int .i64 0)
    replace b5 := b5.set2 (p := (w.heap.size + 1 + 1 + 1 + 1)) (by omega) (.int .i64 0) (.int .i64 0)
    replace b6 := b6.set2 (p := (w.heap.size + 1 + 1 + 1 + 1)) (by omega) (.int .i64 0) (.int .i64 0)
    replace b7 := b7.set2 (p := (w.heap.size + 1 + 1 + 1 + 1)) (by omega) (.int .i64 0) (.int .i64 0)
    replace b10 := b10.set2 (p := (w.heap.size + 1 + 1 + 1 + 1)) (by omega) (.int .i64 0) (.int .i64 0)
    replace b8 := b8.set 0 0
    replace kw := below_set2 kw (p := (w.heap.size + 1 + 1 + 1 + 1)) (by omega) (.int .i64 0) (.int .i64 0)
    clear lt9
    go_wp2_with fail
    clear ca11 cb11 fa11 fb11 ca12 cb12 fa12 fb12
    obtain ⟨ca0, cb0, fa0, fb0⟩ := id b8
    try simp only [Exit.inBlock, Exit.then]
    refine bodyPost_ret (v := .tuple #[.agg #[.int .i64 0, .int .i64 0], .bool false]) (by simp [results, Try.results225, go_sem, ca0, cb0]) rfl ⟨ret_fb (by rw [HE.out]) (by rw [HE.out]) (by rw [HE.out]), ?_⟩
    exact kw
  replace HF := hid (HF.out.trans (show shareP z1 z2 d1 d2 p1 p2 = shareX z1 z2 x1 x2 from bindT_yes HX.out))
  have Fx := hid (mkF_fine HX.out)
  obtain ⟨r1, r2, r3, HR⟩ : ∃ r1 r2 r3, Hid (mkF (z1 * x2 + x1 * z2) (z2 * x2) = (r1, r2, r3)) := ⟨_, _, _, rfl⟩
  replace HF := hid (HF.out.trans (show shareX z1 z2 x1 x2 = (r1, r2, r3) from HR.out))
  obtain ⟨ca12, cb12, fa12, fb12⟩ := id b4
  obtain ⟨ca13, cb13, fa13, fb13⟩ := id b10
  go_wp2_with fail
  clear ca11 cb11 fa11 fb11 ca12 cb12 fa12 fb12 ca13 cb13 fa13 fb13
  refine (AddFrac_any Fz.out Fx.out).mono ?_
  rintro e w14 ⟨rfl, k14⟩
  rw [HR.out]
  replace b4 := b4.keeps k14
  replace b5 := b5.keeps k14
  replace b6 := b6.keeps k14
  replace b7 := b7.keeps k14
  replace b8 := b8.keeps k14
  replace b10 := b10.keeps k14
  replace kw := Keeps.trans kw k14
  have lt15 := b10.lt
  have sz16 := kw.size
  clear k14
  obtain ⟨ca17, cb17, fa17, fb17⟩ := id b8
  replace b4 := b4.set2 (p := (w.heap.size + 1 + 1 + 1 + 1)) (by omega) (.int .i64 r1) (.int .i64 r2)
  replace b5 := b5.set2 (p := (w.heap.size + 1 + 1 + 1 + 1)) (by omega) (.int .i64 r1) (.int .i64 r2)
  replace b6 := b6.set2 (p := (w.heap.size + 1 + 1 + 1 + 1)) (by omega) (.int .i64 r1) (.int .i64 r2)
  replace b7 := b7.set2 (p := (w.heap.size + 1 + 1 + 1 + 1)) (by omega) (.int .i64 r1) (.int .i64 r2)
  replace b10 := b10.set2 (p := (w.heap.size + 1 + 1 + 1 + 1)) (by omega) (.int .i64 r1) (.int .i64 r2)
  replace b8 := b8.set r1 r2
  replace kw := below_set2 kw (p := (w.heap.size + 1 + 1 + 1 + 1)) (by omega) (.int .i64 r1) (.int .i64 r2)
  go_wp2_with fail
  clear ca17 cb17 fa17 fb17
  obtain ⟨ca0, cb0, fa0, fb0⟩ := id b8
  try simp only [Exit.inBlock, Exit.then]
  refine bodyPost_ret (v := .tuple #[.agg #[.int .i64 r1, .int .i64 r2], .bool r3]) (by simp [results, Try.results225, go_sem, ca0, cb0]) rfl ⟨ret_fb (by rw [HF.out]) (by rw [HF.out]) (by rw [HF.out]), ?_⟩
  exact kw
end Go.Proofs.Ytnopedjgagoahaa
