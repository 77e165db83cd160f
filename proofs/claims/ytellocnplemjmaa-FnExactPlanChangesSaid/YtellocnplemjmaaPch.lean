/- Changes of plans: of the program and of the reference. -/
import Derived.Test.YtellocnplemjmaaSmg
import Derived.Test.YtellocnplemjmaaNt
namespace Go.Proofs.Ytellocnplemjmaa
open Go.RowKit Go.Sort
set_option linter.unusedVariables false
set_option linter.unusedSimpArgs false

theorem exF_succ {g : Nat → Bool} {k : Nat} : exF g (k + 1) = (exF g k || g k) := by
  have h := fst_le g k
  unfold exF
  rw [show fst g (k + 1) = if fst g k < k then fst g k else if g k then k else k + 1 from rfl]
  by_cases h1 : fst g k < k
  · rw [if_pos h1, decide_eq_true h1, decide_eq_true (by omega)]; rfl
  · rw [if_neg h1, decide_eq_false h1]
    cases h2 : g k
    · simp
    · simp
/-- Whether another plan has table i. -/
def pcG (l : List VV) (ts us : List TT) (m : Nat) (i : Nat) : Bool := exF (fun j => smB l (ts.getD i t0) (us.getD j t0)) m
def pcL (l : List VV) (ts us : List TT) : List Int := ntTo (pcG l ts us us.length) ts.length
def pcQ (ps : List Int) (l : List VV) (a b : RL) : List Int × List Int × Bool :=
  if geoB ps && schB l && relB ps l a && relB ps l b then (pcL l b.2.1 a.2.1, pcL l a.2.1 b.2.1, true) else ([], [], false)
theorem pcQ_no {ps : List Int} {l : List VV} {a b : RL} (h : (geoB ps && schB l && relB ps l a && relB ps l b) = false) : pcQ ps l a b = ([], [], false) := by unfold pcQ; rw [h]; rfl
theorem pcQ_yes {ps : List Int} {l : List VV} {a b : RL} (h : (geoB ps && schB l && relB ps l a && relB ps l b) = true) : pcQ ps l a b = (pcL l b.2.1 a.2.1, pcL l a.2.1 b.2.1, true) := by unfold pcQ; rw [h]; rfl
theorem pcL_len (l : List VV) (ts us : List TT) : (pcL l ts us).length ≤ ts.length := ntTo_len _ _
theorem relB_pl {ps : List Int} {l : List VV} {r : RL} (h : relB ps l r = true) : plB ps l r.2.1 = true := by
  unfold relB at h
  simp only [Bool.and_eq_true] at h
  exact h.1.2
/-- The tables of a plan have conditions for the schema. -/
theorem pl_wh {ps : List Int} {l : List VV} {ts : List TT} (h : plB ps l ts = true) : ∀ k, k < ts.length → whB l (ts.getD k t0).2.2.1 = true := fun k hk => (tabB_parts ((plB_at h).2 k hk)).2.1

set_option maxRecDepth 100000 in
set_option maxHeartbeats 3200000 in
theorem niClosure {A' V H V' H' : Option Addr} {lo1 hi1 lo2 hi2 lo3 hi3 lo4 hi4 n c m d n' c' m' d' q e : Nat} {vs ws us xs : List Int} {l : List VV} {lv sm lu su : Int} {w : World} (h' : Sch w A' q e l) (hlv : LvOk l q) (hv : Ints w lo1 hi1 V n vs) (hw : Ints w lo2 hi2 H m ws) (hu : Ints w lo3 hi3 V' n' us) (hx : Ints w lo4 hi4 H' m' xs) (hW : whB l ws = true) (hX : whB l xs = true) {g1 g2 : Nat} {p : Bool} (b1 : B1 w g1 (.slice A' q e)) (b2 : Bl w g2 [.int .i64 lv, .slice V n c, .slice H m d, .int .i64 sm]) (hp : smB l (lv, vs, ws, sm) (lu, us, xs, su) = p) :
    Calls Try.prog 73 (#[.agg #[.int .i64 lu, .slice V' n' c', .slice H' m' d', .int .i64 su]] ++ #[.pointer (some ⟨g1, 0, none⟩), .pointer (some ⟨g2, 0, none⟩)]) w fun e w' => e = .returned (.bool p) ∧ Keeps w w' := by
  show Calls Try.prog 73 #[.agg #[.int .i64 lu, .slice V' n' c', .slice H' m' d', .int .i64 su], .pointer (some ⟨g1, 0, none⟩), .pointer (some ⟨g2, 0, none⟩)] w _
  have HLV := hid hlv
  have HW := hid hW
  have HX := hid hX
  have HP := hid hp
  have lt1 := b1.lt
  have lt2 := b2.lt
  clear hlv hW hX hp
  go_enter Try.func73, Try.ntmps73
  have kw := keeps_refl w
  replace b1 := b1.keeps (keeps_alloc w (.cells #[.int .i64 lu, .slice V' n' c', .slice H' m' d', .int .i64 su] 98))
  replace b2 := b2.keeps (keeps_alloc w (.cells #[.int .i64 lu, .slice V' n' c', .slice H' m' d', .int .i64 su] 98))
  replace kw := Keeps.trans kw (keeps_alloc w (.cells #[.int .i64 lu, .slice V' n' c', .slice H' m' d', .int .i64 su] 98))
  have b3 : Bl (w.alloc (.cells #[.int .i64 lu, .slice V' n' c', .slice H' m' d', .int .i64 su] 98)) w.heap.size [.int .i64 lu, .slice V' n' c', .slice H' m' d', .int .i64 su] := Bl.new' (by simp) (by simp)
  obtain ⟨ca1, fa1⟩ := id b1
  have ca2_0 : (w.alloc (.cells #[.int .i64 lu, .slice V' n' c', .slice H' m' d', .int .i64 su] 98)).cell? ⟨g2, 0, none⟩ = some (.int .i64 lv) := (b2.2 0 _ rfl).1
  have fa2_0 : (w.alloc (.cells #[.int .i64 lu, .slice V' n' c', .slice H' m' d', .int .i64 su] 98)).frozen? ⟨g2, 0, none⟩ = false := (b2.2 0 _ rfl).2
  have ca2_1 : (w.alloc (.cells #[.int .i64 lu, .slice V' n' c', .slice H' m' d', .int .i64 su] 98)).cell? ⟨g2, 1, none⟩ = some (.slice V n c) := (b2.2 1 _ rfl).1
  have fa2_1 : (w.alloc (.cells #[.int .i64 lu, .slice V' n' c', .slice H' m' d', .int .i64 su] 98)).frozen? ⟨g2, 1, none⟩ = false := (b2.2 1 _ rfl).2
  have ca2_2 : (w.alloc (.cells #[.int .i64 lu, .slice V' n' c', .slice H' m' d', .int .i64 su] 98)).cell? ⟨g2, 2, none⟩ = some (.slice H m d) := (b2.2 2 _ rfl).1
  have fa2_2 : (w.alloc (.cells #[.int .i64 lu, .slice V' n' c', .slice H' m' d', .int .i64 su] 98)).frozen? ⟨g2, 2, none⟩ = false := (b2.2 2 _ rfl).2
  have ca2_3 : (w.alloc (.cells #[.int .i64 lu, .slice V' n' c', .slice H' m' d', .int .i64 su] 98)).cell? ⟨g2, 3, none⟩ = some (.int .i64 sm) := (b2.2 3 _ rfl).1
  have fa2_3 : (w.alloc (.cells #[.int .i64 lu, .slice V' n' c', .slice H' m' d', .int .i64 su] 98)).frozen? ⟨g2, 3, none⟩ = false := (b2.2 3 _ rfl).2
  have ca3_0 : (w.alloc (.cells #[.int .i64 lu, .slice V' n' c', .slice H' m' d', .int .i64 su] 98)).cell? ⟨w.heap.size, 0, none⟩ = some (.int .i64 lu) := (b3.2 0 _ rfl).1
  have fa3_0 : (w.alloc (.cells #[.int .i64 lu, .slice V' n' c', .slice H' m' d', .int .i64 su] 98)).frozen? ⟨w.heap.size, 0, none⟩ = false := (b3.2 0 _ rfl).2
  have ca3_1 : (w.alloc (.cells #[.int .i64 lu, .slice V' n' c', .slice H' m' d', .int .i64 su] 98)).cell? ⟨w.heap.size, 1, none⟩ = some (.slice V' n' c') := (b3.2 1 _ rfl).1
  have fa3_1 : (w.alloc (.cells #[.int .i64 lu, .slice V' n' c', .slice H' m' d', .int .i64 su] 98)).frozen? ⟨w.heap.size, 1, none⟩ = false := (b3.2 1 _ rfl).2
  have ca3_2 : (w.alloc (.cells #[.int .i64 lu, .slice V' n' c', .slice H' m' d', .int .i64 su] 98)).cell? ⟨w.heap.size, 2, none⟩ = some (.slice H' m' d') := (b3.2 2 _ rfl).1
  have fa3_2 : (w.alloc (.cells #[.int .i64 lu, .slice V' n' c', .slice H' m' d', .int .i64 su] 98)).frozen? ⟨w.heap.size, 2, none⟩ = false := (b3.2 2 _ rfl).2
  have ca3_3 : (w.alloc (.cells #[.int .i64 lu, .slice V' n' c', .slice H' m' d', .int .i64 su] 98)).cell? ⟨w.heap.size, 3, none⟩ = some (.int .i64 su) := (b3.2 3 _ rfl).1
  have fa3_3 : (w.alloc (.cells #[.int .i64 lu, .slice V' n' c', .slice H' m' d', .int .i64 su] 98)).frozen? ⟨w.heap.size, 3, none⟩ = false := (b3.2 3 _ rfl).2
  go_wp2_with fail
  clear ca1 fa1 ca2_0 fa2_0 ca2_1 fa2_1 ca2_2 fa2_2 ca2_3 fa2_3 ca3_0 fa3_0 ca3_1 fa3_1 ca3_2 fa3_2 ca3_3 fa3_3
  refine (sameMeaning_any (h'.keeps kw) HLV.out (hv.keeps kw) (hw.keeps kw) (hu.keeps kw) (hx.keeps kw) HW.out HX.out).mono ?_
  rintro e w4 ⟨rfl, k4⟩
  rw [HP.out]
  replace b1 := b1.keeps k4
  replace b2 := b2.keeps k4
  replace b3 := b3.keeps k4
  replace kw := Keeps.trans kw k4
  have lt5 := b3.lt
  have sz6 := kw.size
  clear k4
  go_wp2_with fail
  go_ret
  exact ⟨ret_bool rfl, kw⟩
set_option maxRecDepth 100000 in
set_option maxHeartbeats 6400000 in
theorem newIn_any {A' B B' : Option Addr} {lo3 hi3 lo4 hi4 n c k9 c9 q e : Nat} {un un' : Bool} {l : List VV} {ts us : List TT} {w : World} (h' : Sch w A' q e l) (hlv : LvOk l q) (ht : Tabs true un w lo3 hi3 B n ts) (ho : Tabs true un' w lo4 hi4 B' k9 us) (hT : ∀ k, k < ts.length → whB l (ts.getD k t0).2.2.1 = true) (hU : ∀ k, k < us.length → whB l (us.getD k t0).2.2.1 = true) :
    Calls Try.prog 40 #[.slice A' q e, .slice B n c, .slice B' k9 c9] w fun e' w' => ∃ A1 N1 C1, e' = .returned (.slice A1 N1 C1) ∧ Mine w' w.heap.size w'.heap.size A1 N1 (pcL l ts us) ∧ Keeps w w' := by
  have hn := ht.le
  have hk9 := ho.le
  have HTL := hid ht.len
  have HUL := hid ho.len
  have HLV := hid hlv
  have HT := hid hT
  have HU := hid hU
  clear hlv hT hU
  have HE := hid (show pcL l ts us = ntTo (pcG l ts us k9) n by unfold pcL; rw [HTL.out, HUL.out])
  go_enter Try.func40, Try.ntmps40
  have kw := keeps_refl w
  replace kw := Keeps.trans kw (keeps_alloc w (.cells #[.slice A' q e] 40))
  have b3 : B1 (w.alloc (.cells #[.slice A' q e] 40)) w.heap.size (.slice A' q e) := B1.new' (by simp)
  go_wp2_with fail
  have sz0 := b3.lt
  go_loopw [7, 12] (fun v i wr => ∃ k : Nat, k ≤ n ∧ i = .int .i64 k ∧ Has wr (w.heap.size + 1) 3 1 v (ntTo (pcG l ts us k9) k).length ((ntTo (pcG l ts us k9) k).map (Value.int .i64)) ∧ B1 wr w.heap.size (.slice A' q e) ∧ Keeps w wr) (fun _ i _ => n - (intOf i).toNat)
  case atStart => exact ⟨0, Nat.zero_le _, rfl, World.ownsRow_nil _ _ _ _, b3, kw⟩
  clear b3 kw
  case round =>
    obtain ⟨k, hk, rfl, hown, b3, kw⟩ := hrel
    have hkl := ntTo_len (pcG l ts us k9) k
    by_cases hlt : k < n
    · obtain ⟨b', off', lv, V, n1, c1, H, m1, d1, sm, vs, ws, rfl, _, _, e0, e1, e2, e3, gv, gh, hx⟩ := ht.at_ hlt
      have HWK := hid (show whB l ws = true by have := HT.out k (by rw [HTL.out]; exact hlt); rw [← hx.out] at this; exact this)
      have HGK := hid (show (pcG l ts us k9) k = exF (fun j => smB l (lv, vs, ws, sm) (us.getD j t0)) k9 by unfold pcG; rw [← hx.out])
      clear hx
      have hj1 : (k : Int) < (n : Int) := by omega
      have d0 := cell_keeps e0 kw
      have d1' := cell_keeps e1 kw
      have d2' := cell_keeps e2 kw
      have d3 := cell_keeps e3 kw
      have lt3 := b3.lt
      replace b3 := b3.keeps (keeps_alloc wr (.cells #[.int .i64 lv, .slice V n1 c1, .slice H m1 d1, .int .i64 sm] 98))
      replace hown := hown.keeps (keeps_alloc wr (.cells #[.int .i64 lv, .slice V n1 c1, .slice H m1 d1, .int .i64 sm] 98))
      replace kw := Keeps.trans kw (keeps_alloc wr (.cells #[.int .i64 lv, .slice V n1 c1, .slice H m1 d1, .int .i64 sm] 98))
      have b9 : Bl (wr.alloc (.cells #[.int .i64 lv, .slice V n1 c1, .slice H m1 d1, .int .i64 sm] 98)) wr.heap.size [.int .i64 lv, .slice V n1 c1, .slice H m1 d1, .int .i64 sm] := Bl.new' (by simp) (by simp)
      have ca1_0 : (wr.alloc (.cells #[.int .i64 lv, .slice V n1 c1, .slice H m1 d1, .int .i64 sm] 98)).cell? ⟨wr.heap.size, 0, none⟩ = some (.int .i64 lv) := (b9.2 0 _ rfl).1
      have fa1_0 : (wr.alloc (.cells #[.int .i64 lv, .slice V n1 c1, .slice H m1 d1, .int .i64 sm] 98)).frozen? ⟨wr.heap.size, 0, none⟩ = false := (b9.2 0 _ rfl).2
      have ca1_1 : (wr.alloc (.cells #[.int .i64 lv, .slice V n1 c1, .slice H m1 d1, .int .i64 sm] 98)).cell? ⟨wr.heap.size, 1, none⟩ = some (.slice V n1 c1) := (b9.2 1 _ rfl).1
      have fa1_1 : (wr.alloc (.cells #[.int .i64 lv, .slice V n1 c1, .slice H m1 d1, .int .i64 sm] 98)).frozen? ⟨wr.heap.size, 1, none⟩ = false := (b9.2 1 _ rfl).2
      have ca1_2 : (wr.alloc (.cells #[.int .i64 lv, .slice V n1 c1, .slice H m1 d1, .int .i64 sm] 98)).cell? ⟨wr.heap.size, 2, none⟩ = some (.slice H m1 d1) := (b9.2 2 _ rfl).1
      have fa1_2 : (wr.alloc (.cells #[.int .i64 lv, .slice V n1 c1, .slice H m1 d1, .int .i64 sm] 98)).frozen? ⟨wr.heap.size, 2, none⟩ = false := (b9.2 2 _ rfl).2
      have ca1_3 : (wr.alloc (.cells #[.int .i64 lv, .slice V n1 c1, .slice H m1 d1, .int .i64 sm] 98)).cell? ⟨wr.heap.size, 3, none⟩ = some (.int .i64 sm) := (b9.2 3 _ rfl).1
      have fa1_3 : (wr.alloc (.cells #[.int .i64 lv, .slice V n1 c1, .slice H m1 d1, .int .i64 sm] 98)).frozen? ⟨wr.heap.size, 3, none⟩ = false := (b9.2 3 _ rfl).2
      go_wp2_with fail
      clear ca1_0 fa1_0 ca1_1 fa1_1 ca1_2 fa1_2 ca1_3 fa1_3
      clear d0 d1' d2' d3 e0 e1 e2 e3
      have HCL := hid (fun (j : Nat) (w' : World) (lu su : Int) (V' H' : Option Addr) (nv cv nh ch : Nat) (us' xs : List Int) (hj : j < k9) (kk : Keeps (wr.alloc (.cells #[.int .i64 lv, .slice V n1 c1, .slice H m1 d1, .int .i64 sm] 98)) w') (gv' : Ints w' lo4 hi4 V' nv us') (gh' : Ints w' lo4 hi4 H' nh xs) (hx : Hid ((lu, us', xs, su) = us.getD j t0)) => niClosure (p := smB l (lv, vs, ws, sm) (us.getD j t0)) (c := c1) (d := d1) (c' := cv) (d' := ch) (h'.keeps (Keeps.trans kw kk)) HLV.out (gv.keeps (Keeps.trans kw kk)) (gh.keeps (Keeps.trans kw kk)) gv' gh' HWK.out (show whB l xs = true by have := HU.out j (by rw [HUL.out]; exact hj); rw [← hx.out] at this; exact this) (b3.keeps kk) (b9.keeps kk) (congrArg (smB l (lv, vs, ws, sm)) hx.out))
      refine (containsFuncT_any (c := c9) (n := k9) (K := 73) (G := fun j => smB l (lv, vs, ws, sm) (us.getD j t0)) (ho.keeps kw) (fun args w => enterF_of Try.func73 (by kernel_rfl) rfl args w) HCL.out).mono ?_
      rintro e w2 ⟨rfl, k2⟩
      rw [← HGK.out]
      replace b3 := b3.keeps k2
      replace b9 := b9.keeps k2
      replace hown := hown.keeps k2
      replace kw := Keeps.trans kw k2
      have lt3 := b9.lt
      have sz4 := kw.size
      clear k2
      clear HCL b9
      have lt5 := b3.lt
      obtain ⟨p, HPP⟩ : ∃ p, Hid ((pcG l ts us k9) k = p) := ⟨_, rfl⟩
      rw [HPP.out]
      cases p
      · have HT2 := hid (ntTo_no HPP.out)
        go_wp2_with (at_builtin; refine append_int (xs := ntTo (pcG l ts us k9) k) hown (by omega) (by omega) _ _ rfl rfl rfl (by first | rfl | (simp <;> rfl)) ?_; intro v' w' hown' hb')
        have H1 := hid hown'
        rw [show (ntTo (pcG l ts us k9) k).length + 1 = (ntTo (pcG l ts us k9) k ++ [(k : Int)]).length by simp, ← HT2.out] at H1
        have H2 := hid (Below.trans kw (hb'.mono (by omega)))
        have H_b3 := hid (b3.fr (fr_belowN hb') (by omega))
        clear hown' hb' kw hown b3
        go_wp2
        go_roundw
        case rel => exact ⟨k + 1, by omega, by go_num, H1.out, H_b3.out, H2.out⟩
        case measure => simp [intOf] <;> omega
      have HT2 := hid (ntTo_yes HPP.out)
      have H1 := hid hown
      rw [← HT2.out] at H1
      clear hown
      go_wp2_with fail
      go_roundw
      case rel => exact ⟨k + 1, by omega, by go_num, H1.out, b3, kw⟩
      case measure => simp [intOf] <;> omega
    · obtain rfl : n = k := by omega
      obtain ⟨A1, C1, rfl⟩ := hown.form
      have sz9 := kw.size
      have HM := hid ((Mine.of_own hown (by omega)).widen (lo' := w.heap.size) (by omega) (Nat.le_refl _) (Nat.le_refl _))
      clear hown
      go_wp2
      go_ret
      exact ⟨A1, _, C1, rfl, by rw [HE.out]; exact HM.out, kw⟩
set_option maxRecDepth 100000 in
set_option maxHeartbeats 6400000 in
theorem rlMissing_any {A' B B' : Option Addr} {lo3 hi3 lo4 hi4 n c k9 c9 q e : Nat} {un un' : Bool} {l : List VV} {ts us : List TT} {w : World} (h' : Sch w A' q e l) (hlv : LvOk l q) (ht : Tabs true un w lo3 hi3 B n ts) (ho : Tabs true un' w lo4 hi4 B' k9 us) (hT : ∀ k, k < ts.length → whB l (ts.getD k t0).2.2.1 = true) (hU : ∀ k, k < us.length → whB l (us.getD k t0).2.2.1 = true) :
    Calls Try.prog 33 #[.slice A' q e, .slice B n c, .slice B' k9 c9] w fun e' w' => ∃ A1 N1 C1, e' = .returned (.slice A1 N1 C1) ∧ Mine w' w.heap.size w'.heap.size A1 N1 (pcL l ts us) ∧ Keeps w w' := by
  have hn := ht.le
  have hk9 := ho.le
  have HTL := hid ht.len
  have HUL := hid ho.len
  have HLV := hid hlv
  have HT := hid hT
  have HU := hid hU
  clear hlv hT hU
  have HE := hid (show pcL l ts us = ntTo (pcG l ts us k9) n by unfold pcL; rw [HTL.out, HUL.out])
  go_enter Try.func33, Try.ntmps33
  have kw := keeps_refl w
  go_wp2_with fail
  go_loopw [7, 15] (fun v i wr => ∃ k : Nat, k ≤ n ∧ i = .int .i64 k ∧ Has wr w.heap.size 3 1 v (ntTo (pcG l ts us k9) k).length ((ntTo (pcG l ts us k9) k).map (Value.int .i64)) ∧ Keeps w wr) (fun _ i _ => n - (intOf i).toNat)
  case atStart => exact ⟨0, Nat.zero_le _, rfl, World.ownsRow_nil _ _ _ _, kw⟩
  clear kw
  case round =>
    obtain ⟨k, hk, rfl, hown, kw⟩ := hrel
    have hkl := ntTo_len (pcG l ts us k9) k
    have sz8 := kw.size
    by_cases hlt : k < n
    · obtain ⟨b', off', lv, V, n1, c1, H, m1, d1, sm, vs, ws, rfl, _, _, e0, e1, e2, e3, gv, gh, hx⟩ := ht.at_ hlt
      have HWK := hid (show whB l ws = true by have := HT.out k (by rw [HTL.out]; exact hlt); rw [← hx.out] at this; exact this)
      have HGK := hid (show (pcG l ts us k9) k = exF (fun j => smB l (lv, vs, ws, sm) (us.getD j t0)) k9 by unfold pcG; rw [← hx.out])
      clear hx
      have hj1 : (k : Int) < (n : Int) := by omega
      have d0 := cell_keeps e0 kw
      have d1' := cell_keeps e1 kw
      have d2' := cell_keeps e2 kw
      have d3 := cell_keeps e3 kw
      replace hown := hown.keeps (keeps_alloc wr (.cells #[.int .i64 lv, .slice V n1 c1, .slice H m1 d1, .int .i64 sm] 98))
      replace kw := Keeps.trans kw (keeps_alloc wr (.cells #[.int .i64 lv, .slice V n1 c1, .slice H m1 d1, .int .i64 sm] 98))
      have b9 : Bl (wr.alloc (.cells #[.int .i64 lv, .slice V n1 c1, .slice H m1 d1, .int .i64 sm] 98)) wr.heap.size [.int .i64 lv, .slice V n1 c1, .slice H m1 d1, .int .i64 sm] := Bl.new' (by simp) (by simp)
      have ca1_0 : (wr.alloc (.cells #[.int .i64 lv, .slice V n1 c1, .slice H m1 d1, .int .i64 sm] 98)).cell? ⟨wr.heap.size, 0, none⟩ = some (.int .i64 lv) := (b9.2 0 _ rfl).1
      have fa1_0 : (wr.alloc (.cells #[.int .i64 lv, .slice V n1 c1, .slice H m1 d1, .int .i64 sm] 98)).frozen? ⟨wr.heap.size, 0, none⟩ = false := (b9.2 0 _ rfl).2
      have ca1_1 : (wr.alloc (.cells #[.int .i64 lv, .slice V n1 c1, .slice H m1 d1, .int .i64 sm] 98)).cell? ⟨wr.heap.size, 1, none⟩ = some (.slice V n1 c1) := (b9.2 1 _ rfl).1
      have fa1_1 : (wr.alloc (.cells #[.int .i64 lv, .slice V n1 c1, .slice H m1 d1, .int .i64 sm] 98)).frozen? ⟨wr.heap.size, 1, none⟩ = false := (b9.2 1 _ rfl).2
      have ca1_2 : (wr.alloc (.cells #[.int .i64 lv, .slice V n1 c1, .slice H m1 d1, .int .i64 sm] 98)).cell? ⟨wr.heap.size, 2, none⟩ = some (.slice H m1 d1) := (b9.2 2 _ rfl).1
      have fa1_2 : (wr.alloc (.cells #[.int .i64 lv, .slice V n1 c1, .slice H m1 d1, .int .i64 sm] 98)).frozen? ⟨wr.heap.size, 2, none⟩ = false := (b9.2 2 _ rfl).2
      have ca1_3 : (wr.alloc (.cells #[.int .i64 lv, .slice V n1 c1, .slice H m1 d1, .int .i64 sm] 98)).cell? ⟨wr.heap.size, 3, none⟩ = some (.int .i64 sm) := (b9.2 3 _ rfl).1
      have fa1_3 : (wr.alloc (.cells #[.int .i64 lv, .slice V n1 c1, .slice H m1 d1, .int .i64 sm] 98)).frozen? ⟨wr.heap.size, 3, none⟩ = false := (b9.2 3 _ rfl).2
      go_wp2_with fail
      clear ca1_0 fa1_0 ca1_1 fa1_1 ca1_2 fa1_2 ca1_3 fa1_3
      clear d0 d1' d2' d3 e0 e1 e2 e3
      have HP0 := hid (show false = exF (fun j => smB l (lv, vs, ws, sm) (us.getD j t0)) 0 from rfl)
      obtain ⟨g9, hg9⟩ : ∃ g, g = wr.heap.size := ⟨_, rfl⟩
      obtain ⟨wy, hwy⟩ : ∃ u : World, u = (wr.alloc (.cells #[.int .i64 lv, .slice V n1 c1, .slice H m1 d1, .int .i64 sm] 98)) := ⟨_, rfl⟩
      rw [← hwy] at b9 hown kw
      rw [← hg9] at b9
      rw [← hwy]
      have hgy : g9 < wy.heap.size := b9.lt
      try rw [← hg9]
      clear hwy
      have hgw : w.heap.size ≤ g9 := by omega
      clear hg9
      go_loopw [10, 22] (fun vm i wz => ∃ (j : Nat) (met : Bool), j ≤ k9 ∧ i = .int .i64 j ∧ vm = .bool met ∧ Hid (met = exF (fun j => smB l (lv, vs, ws, sm) (us.getD j t0)) j) ∧ Bl wz g9 [.int .i64 lv, .slice V n1 c1, .slice H m1 d1, .int .i64 sm] ∧ Keeps wy wz) (fun _ i _ => k9 - (intOf i).toNat)
      case atStart => exact ⟨0, false, Nat.zero_le _, rfl, rfl, HP0, b9, keeps_refl _⟩
      clear b9
      case round =>
        obtain ⟨j, met, hj, rfl, rfl, HM, b9, kz⟩ := hrel
        by_cases hlt2 : j < k9
        · obtain ⟨_, _, lu, V', n2, c2, H', m2, d2, su, us', xs, rfl, _, _, f0, f1, f2, f3, gv', gh', hx⟩ := ho.at_ hlt2
          have HWJ := hid (show whB l xs = true by have := HU.out j (by rw [HUL.out]; exact hlt2); rw [← hx.out] at this; exact this)
          have HXJ := hid (show smB l (lv, vs, ws, sm) (us.getD j t0) = smB l (lv, vs, ws, sm) (lu, us', xs, su) by rw [hx.out])
          clear hx
          have hj2 : (j : Int) < (k9 : Int) := by omega
          have kwz := Keeps.trans kw kz
          have d0 := cell_keeps f0 kwz
          have d1' := cell_keeps f1 kwz
          have d2' := cell_keeps f2 kwz
          have d3 := cell_keeps f3 kwz
          have lt9 := b9.lt
          cases met
          · replace b9 := b9.keeps (keeps_alloc wr (.cells #[.int .i64 lu, .slice V' n2 c2, .slice H' m2 d2, .int .i64 su] 98))
            replace kz := Keeps.trans kz (keeps_alloc wr (.cells #[.int .i64 lu, .slice V' n2 c2, .slice H' m2 d2, .int .i64 su] 98))
            replace kwz := Keeps.trans kwz (keeps_alloc wr (.cells #[.int .i64 lu, .slice V' n2 c2, .slice H' m2 d2, .int .i64 su] 98))
            have b12 : Bl (wr.alloc (.cells #[.int .i64 lu, .slice V' n2 c2, .slice H' m2 d2, .int .i64 su] 98)) wr.heap.size [.int .i64 lu, .slice V' n2 c2, .slice H' m2 d2, .int .i64 su] := Bl.new' (by simp) (by simp)
            have ca2_0 : (wr.alloc (.cells #[.int .i64 lu, .slice V' n2 c2, .slice H' m2 d2, .int .i64 su] 98)).cell? ⟨g9, 0, none⟩ = some (.int .i64 lv) := (b9.2 0 _ rfl).1
            have fa2_0 : (wr.alloc (.cells #[.int .i64 lu, .slice V' n2 c2, .slice H' m2 d2, .int .i64 su] 98)).frozen? ⟨g9, 0, none⟩ = false := (b9.2 0 _ rfl).2
            have ca2_1 : (wr.alloc (.cells #[.int .i64 lu, .slice V' n2 c2, .slice H' m2 d2, .int .i64 su] 98)).cell? ⟨g9, 1, none⟩ = some (.slice V n1 c1) := (b9.2 1 _ rfl).1
            have fa2_1 : (wr.alloc (.cells #[.int .i64 lu, .slice V' n2 c2, .slice H' m2 d2, .int .i64 su] 98)).frozen? ⟨g9, 1, none⟩ = false := (b9.2 1 _ rfl).2
            have ca2_2 : (wr.alloc (.cells #[.int .i64 lu, .slice V' n2 c2, .slice H' m2 d2, .int .i64 su] 98)).cell? ⟨g9, 2, none⟩ = some (.slice H m1 d1) := (b9.2 2 _ rfl).1
            have fa2_2 : (wr.alloc (.cells #[.int .i64 lu, .slice V' n2 c2, .slice H' m2 d2, .int .i64 su] 98)).frozen? ⟨g9, 2, none⟩ = false := (b9.2 2 _ rfl).2
            have ca2_3 : (wr.alloc (.cells #[.int .i64 lu, .slice V' n2 c2, .slice H' m2 d2, .int .i64 su] 98)).cell? ⟨g9, 3, none⟩ = some (.int .i64 sm) := (b9.2 3 _ rfl).1
            have fa2_3 : (wr.alloc (.cells #[.int .i64 lu, .slice V' n2 c2, .slice H' m2 d2, .int .i64 su] 98)).frozen? ⟨g9, 3, none⟩ = false := (b9.2 3 _ rfl).2
            have ca3_0 : (wr.alloc (.cells #[.int .i64 lu, .slice V' n2 c2, .slice H' m2 d2, .int .i64 su] 98)).cell? ⟨wr.heap.size, 0, none⟩ = some (.int .i64 lu) := (b12.2 0 _ rfl).1
            have fa3_0 : (wr.alloc (.cells #[.int .i64 lu, .slice V' n2 c2, .slice H' m2 d2, .int .i64 su] 98)).frozen? ⟨wr.heap.size, 0, none⟩ = false := (b12.2 0 _ rfl).2
            have ca3_1 : (wr.alloc (.cells #[.int .i64 lu, .slice V' n2 c2, .slice H' m2 d2, .int .i64 su] 98)).cell? ⟨wr.heap.size, 1, none⟩ = some (.slice V' n2 c2) := (b12.2 1 _ rfl).1
            have fa3_1 : (wr.alloc (.cells #[.int .i64 lu, .slice V' n2 c2, .slice H' m2 d2, .int .i64 su] 98)).frozen? ⟨wr.heap.size, 1, none⟩ = false := (b12.2 1 _ rfl).2
            have ca3_2 : (wr.alloc (.cells #[.int .i64 lu, .slice V' n2 c2, .slice H' m2 d2, .int .i64 su] 98)).cell? ⟨wr.heap.size, 2, none⟩ = some (.slice H' m2 d2) := (b12.2 2 _ rfl).1
            have fa3_2 : (wr.alloc (.cells #[.int .i64 lu, .slice V' n2 c2, .slice H' m2 d2, .int .i64 su] 98)).frozen? ⟨wr.heap.size, 2, none⟩ = false := (b12.2 2 _ rfl).2
            have ca3_3 : (wr.alloc (.cells #[.int .i64 lu, .slice V' n2 c2, .slice H' m2 d2, .int .i64 su] 98)).cell? ⟨wr.heap.size, 3, none⟩ = some (.int .i64 su) := (b12.2 3 _ rfl).1
            have fa3_3 : (wr.alloc (.cells #[.int .i64 lu, .slice V' n2 c2, .slice H' m2 d2, .int .i64 su] 98)).frozen? ⟨wr.heap.size, 3, none⟩ = false := (b12.2 3 _ rfl).2
            go_wp2_with fail
            clear ca2_0 fa2_0 ca2_1 fa2_1 ca2_2 fa2_2 ca2_3 fa2_3 ca3_0 fa3_0 ca3_1 fa3_1 ca3_2 fa3_2 ca3_3 fa3_3
            clear d0 d1' d2' d3 f0 f1 f2 f3
            obtain ⟨p, HPP⟩ : ∃ p, Hid (smB l (lv, vs, ws, sm) (lu, us', xs, su) = p) := ⟨_, rfl⟩
            refine (nSame_any (h'.keeps kwz) HLV.out (gv.keeps kwz) (gh.keeps kwz) (gv'.keeps kwz) (gh'.keeps kwz) HWK.out HWJ.out).mono ?_
            rintro e w4 ⟨rfl, k4⟩
            rw [HPP.out]
            replace b9 := b9.keeps k4
            replace b12 := b12.keeps k4
            replace kz := Keeps.trans kz k4
            replace kwz := Keeps.trans kwz k4
            have lt5 := b12.lt
            have sz6 := kz.size
            have sz7 := kwz.size
            clear k4
            have HN := hid (show p = exF (fun j => smB l (lv, vs, ws, sm) (us.getD j t0)) (j + 1) by rw [exF_succ, ← HM.out, Bool.false_or, HXJ.out, HPP.out])
            clear b12
            go_wp2_with fail
            go_roundw
            case rel => exact ⟨j + 1, p, by omega, by go_num, rfl, HN, b9, kz⟩
            case measure => simp [intOf] <;> omega
          · have HN := hid (show true = exF (fun j => smB l (lv, vs, ws, sm) (us.getD j t0)) (j + 1) by rw [exF_succ, ← HM.out]; rfl)
            replace b9 := b9.keeps (keeps_alloc wr (.cells #[.int .i64 lu, .slice V' n2 c2, .slice H' m2 d2, .int .i64 su] 98))
            replace kz := Keeps.trans kz (keeps_alloc wr (.cells #[.int .i64 lu, .slice V' n2 c2, .slice H' m2 d2, .int .i64 su] 98))
            replace kwz := Keeps.trans kwz (keeps_alloc wr (.cells #[.int .i64 lu, .slice V' n2 c2, .slice H' m2 d2, .int .i64 su] 98))
            have b12 : Bl (wr.alloc (.cells #[.int .i64 lu, .slice V' n2 c2, .slice H' m2 d2, .int .i64 su] 98)) wr.heap.size [.int .i64 lu, .slice V' n2 c2, .slice H' m2 d2, .int .i64 su] := Bl.new' (by simp) (by simp)
            have ca2_0 : (wr.alloc (.cells #[.int .i64 lu, .slice V' n2 c2, .slice H' m2 d2, .int .i64 su] 98)).cell? ⟨g9, 0, none⟩ = some (.int .i64 lv) := (b9.2 0 _ rfl).1
            have fa2_0 : (wr.alloc (.cells #[.int .i64 lu, .slice V' n2 c2, .slice H' m2 d2, .int .i64 su] 98)).frozen? ⟨g9, 0, none⟩ = false := (b9.2 0 _ rfl).2
            have ca2_1 : (wr.alloc (.cells #[.int .i64 lu, .slice V' n2 c2, .slice H' m2 d2, .int .i64 su] 98)).cell? ⟨g9, 1, none⟩ = some (.slice V n1 c1) := (b9.2 1 _ rfl).1
            have fa2_1 : (wr.alloc (.cells #[.int .i64 lu, .slice V' n2 c2, .slice H' m2 d2, .int .i64 su] 98)).frozen? ⟨g9, 1, none⟩ = false := (b9.2 1 _ rfl).2
            have ca2_2 : (wr.alloc (.cells #[.int .i64 lu, .slice V' n2 c2, .slice H' m2 d2, .int .i64 su] 98)).cell? ⟨g9, 2, none⟩ = some (.slice H m1 d1) := (b9.2 2 _ rfl).1
            have fa2_2 : (wr.alloc (.cells #[.int .i64 lu, .slice V' n2 c2, .slice H' m2 d2, .int .i64 su] 98)).frozen? ⟨g9, 2, none⟩ = false := (b9.2 2 _ rfl).2
            have ca2_3 : (wr.alloc (.cells #[.int .i64 lu, .slice V' n2 c2, .slice H' m2 d2, .int .i64 su] 98)).cell? ⟨g9, 3, none⟩ = some (.int .i64 sm) := (b9.2 3 _ rfl).1
            have fa2_3 : (wr.alloc (.cells #[.int .i64 lu, .slice V' n2 c2, .slice H' m2 d2, .int .i64 su] 98)).frozen? ⟨g9, 3, none⟩ = false := (b9.2 3 _ rfl).2
            have ca3_0 : (wr.alloc (.cells #[.int .i64 lu, .slice V' n2 c2, .slice H' m2 d2, .int .i64 su] 98)).cell? ⟨wr.heap.size, 0, none⟩ = some (.int .i64 lu) := (b12.2 0 _ rfl).1
            have fa3_0 : (wr.alloc (.cells #[.int .i64 lu, .slice V' n2 c2, .slice H' m2 d2, .int .i64 su] 98)).frozen? ⟨wr.heap.size, 0, none⟩ = false := (b12.2 0 _ rfl).2
            have ca3_1 : (wr.alloc (.cells #[.int .i64 lu, .slice V' n2 c2, .slice H' m2 d2, .int .i64 su] 98)).cell? ⟨wr.heap.size, 1, none⟩ = some (.slice V' n2 c2) := (b12.2 1 _ rfl).1
            have fa3_1 : (wr.alloc (.cells #[.int .i64 lu, .slice V' n2 c2, .slice H' m2 d2, .int .i64 su] 98)).frozen? ⟨wr.heap.size, 1, none⟩ = false := (b12.2 1 _ rfl).2
            have ca3_2 : (wr.alloc (.cells #[.int .i64 lu, .slice V' n2 c2, .slice H' m2 d2, .int .i64 su] 98)).cell? ⟨wr.heap.size, 2, none⟩ = some (.slice H' m2 d2) := (b12.2 2 _ rfl).1
            have fa3_2 : (wr.alloc (.cells #[.int .i64 lu, .slice V' n2 c2, .slice H' m2 d2, .int .i64 su] 98)).frozen? ⟨wr.heap.size, 2, none⟩ = false := (b12.2 2 _ rfl).2
            have ca3_3 : (wr.alloc (.cells #[.int .i64 lu, .slice V' n2 c2, .slice H' m2 d2, .int .i64 su] 98)).cell? ⟨wr.heap.size, 3, none⟩ = some (.int .i64 su) := (b12.2 3 _ rfl).1
            have fa3_3 : (wr.alloc (.cells #[.int .i64 lu, .slice V' n2 c2, .slice H' m2 d2, .int .i64 su] 98)).frozen? ⟨wr.heap.size, 3, none⟩ = false := (b12.2 3 _ rfl).2
            go_wp2_with fail
            clear ca2_0 fa2_0 ca2_1 fa2_1 ca2_2 fa2_2 ca2_3 fa2_3 ca3_0 fa3_0 ca3_1 fa3_1 ca3_2 fa3_2 ca3_3 fa3_3
            clear d0 d1' d2' d3 f0 f1 f2 f3
            clear b12
            go_roundw
            case rel => exact ⟨j + 1, true, by omega, by go_num, rfl, HN, b9, kz⟩
            case measure => simp [intOf] <;> omega
        obtain rfl : k9 = j := by omega
        have HPP := hid (HGK.out.trans HM.out.symm)
        have hj2 : ¬ (k9 : Int) < (k9 : Int) := by omega
        replace hown := Has.keeps hown kz
        replace kw := Keeps.trans kw kz
        have sz5 := kw.size
        clear b9 kz
        cases met
        · have HT2 := hid (ntTo_no HPP.out)
          go_wp2_with (at_builtin; refine append_int (xs := ntTo (pcG l ts us k9) k) hown (by omega) (by omega) _ _ rfl rfl rfl (by first | rfl | (simp <;> rfl)) ?_; intro v' w' hown' hb')
          have H1 := hid hown'
          rw [show (ntTo (pcG l ts us k9) k).length + 1 = (ntTo (pcG l ts us k9) k ++ [(k : Int)]).length by simp, ← HT2.out] at H1
          have H2 := hid (Below.trans kw (hb'.mono (by omega)))
          clear hown' hb' kw hown 
          go_wp2
          go_roundw
          case rel => exact ⟨k + 1, by omega, by go_num, H1.out, H2.out⟩
          case measure => simp [intOf] <;> omega
        have HT2 := hid (ntTo_yes HPP.out)
        have H1 := hid hown
        rw [← HT2.out] at H1
        clear hown
        go_wp2_with fail
        go_roundw
        case rel => exact ⟨k + 1, by omega, by go_num, H1.out, kw⟩
        case measure => simp [intOf] <;> omega
    · obtain rfl : n = k := by omega
      obtain ⟨A1, C1, rfl⟩ := hown.form
      have sz9 := kw.size
      have HM := hid ((Mine.of_own hown (by omega)).widen (lo' := w.heap.size) (by omega) (Nat.le_refl _) (Nat.le_refl _))
      clear hown
      go_wp2
      go_ret
      exact ⟨A1, _, C1, rfl, by rw [HE.out]; exact HM.out, kw⟩
end Go.Proofs.Ytellocnplemjmaa
