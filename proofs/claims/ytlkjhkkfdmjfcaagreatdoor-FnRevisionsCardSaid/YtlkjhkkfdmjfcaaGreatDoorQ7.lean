/- What the proof of the statement leans on, part 8: walks of functions and plain lemmas, with no condition. -/
import Derived.Deep.RegionHeld3
import Derived.WalkSmall
import Derived.Deep.RegionHeldLaw
import Derived.Maps.AppendAt
import Derived.Test.YtlkjhkkfdmjfcaaGreatDoorQ0
import Derived.Test.YtlkjhkkfdmjfcaaGreatDoorQ1
import Derived.Test.YtlkjhkkfdmjfcaaGreatDoorQ2
import Derived.Test.YtlkjhkkfdmjfcaaGreatDoorQ3
import Derived.Test.YtlkjhkkfdmjfcaaGreatDoorQ6
namespace Go.Proofs.YtlkjhkkfdmjfcaaGreatDoor
open Go.RowKit Go.Sort
set_option linter.unusedVariables false
set_option linter.unusedSimpArgs false
theorem exF_succ {g : Nat → Bool} {k : Nat} : exF g (k + 1) = (exF g k || g k) := by
  have h := fst_le g k
  unfold exF
  rw [show fst g (k + 1) = if fst g k < k then fst g k else if g k then k else k + 1 from rfl]
  by_cases h1 : fst g k < k
  · rw [if_pos h1, decide_eq_true h1, decide_eq_true (by omega)]; rfl
  · rw [if_neg h1, decide_eq_false h1]
    cases h2 : g k
    · simp
    · simp
/-- Whether another plan has table i. -/
def pcG (l : List VV) (ts us : List TT) (m : Nat) (i : Nat) : Bool := exF (fun j => smB l (ts.getD i t0) (us.getD j t0)) m
def pcL (l : List VV) (ts us : List TT) : List Int := ntTo (pcG l ts us us.length) ts.length
def pcQ (ps : List Int) (l : List VV) (a b : RL) : List Int × List Int × Bool :=
  if geoB ps && schB l && relB ps l a && relB ps l b then (pcL l b.2.1 a.2.1, pcL l a.2.1 b.2.1, true) else ([], [], false)
theorem pcQ_no {ps : List Int} {l : List VV} {a b : RL} (h : (geoB ps && schB l && relB ps l a && relB ps l b) = false) : pcQ ps l a b = ([], [], false) := by unfold pcQ; rw [h]; rfl
theorem pcQ_yes {ps : List Int} {l : List VV} {a b : RL} (h : (geoB ps && schB l && relB ps l a && relB ps l b) = true) : pcQ ps l a b = (pcL l b.2.1 a.2.1, pcL l a.2.1 b.2.1, true) := by unfold pcQ; rw [h]; rfl
theorem pcL_len (l : List VV) (ts us : List TT) : (pcL l ts us).length ≤ ts.length := ntTo_len _ _
theorem relB_pl {ps : List Int} {l : List VV} {r : RL} (h : relB ps l r = true) : plB ps l r.2.1 = true := by
  unfold relB at h
  simp only [Bool.and_eq_true] at h
  exact h.1.2
/-- The tables of a plan have conditions for the schema. -/
theorem pl_wh {ps : List Int} {l : List VV} {ts : List TT} (h : plB ps l ts = true) : ∀ k, k < ts.length → whB l (ts.getD k t0).2.2.1 = true := fun k hk => (tabB_parts ((plB_at h).2 k hk)).2.1
set_option maxRecDepth 100000 in
set_option maxHeartbeats 3200000 in
theorem niClosure {A' V H V' H' : Option Addr} {lo1 hi1 lo2 hi2 lo3 hi3 lo4 hi4 n c m d n' c' m' d' q e : Nat} {vs ws us xs : List Int} {l : List VV} {lv sm lu su : Int} {w : World} (h' : Sch w A' q e l) (hlv : LvOk l q) (hv : Ints w lo1 hi1 V n vs) (hw : Ints w lo2 hi2 H m ws) (hu : Ints w lo3 hi3 V' n' us) (hx : Ints w lo4 hi4 H' m' xs) (hW : whB l ws = true) (hX : whB l xs = true) {g1 g2 : Nat} {p : Bool} (b1 : B1 w g1 (.slice A' q e)) (b2 : Bl w g2 [.int .i64 lv, .slice V n c, .slice H m d, .int .i64 sm]) (hp : smB l (lv, vs, ws, sm) (lu, us, xs, su) = p) :
    Calls Tryz.prog 83 (#[.agg #[.int .i64 lu, .slice V' n' c', .slice H' m' d', .int .i64 su]] ++ #[.pointer (some ⟨g1, 0, none⟩), .pointer (some ⟨g2, 0, none⟩)]) w fun e w' => e = .returned (.bool p) ∧ Keeps w w' := by
  show Calls Tryz.prog 83 #[.agg #[.int .i64 lu, .slice V' n' c', .slice H' m' d', .int .i64 su], .pointer (some ⟨g1, 0, none⟩), .pointer (some ⟨g2, 0, none⟩)] w _
  have HLV := hid hlv
  have HW := hid hW
  have HX := hid hX
  have HP := hid hp
  have lt1 := b1.lt
  have lt2 := b2.lt
  clear hlv hW hX hp
  go_enter Tryz.func83, Tryz.ntmps83
  have kw := keeps_refl w
  replace b1 := b1.keeps (keeps_alloc w (.cells #[.int .i64 lu, .slice V' n' c', .slice H' m' d', .int .i64 su] 61))
  replace b2 := b2.keeps (keeps_alloc w (.cells #[.int .i64 lu, .slice V' n' c', .slice H' m' d', .int .i64 su] 61))
  replace kw := Keeps.trans kw (keeps_alloc w (.cells #[.int .i64 lu, .slice V' n' c', .slice H' m' d', .int .i64 su] 61))
  have b3 : Bl (w.alloc (.cells #[.int .i64 lu, .slice V' n' c', .slice H' m' d', .int .i64 su] 61)) w.heap.size [.int .i64 lu, .slice V' n' c', .slice H' m' d', .int .i64 su] := Bl.new' (by simp) (by simp)
  obtain ⟨ca1, fa1⟩ := id b1
  have ca2_0 := (b2.2 0 _ rfl).1
  have ca2_1 := (b2.2 1 _ rfl).1
  have ca2_2 := (b2.2 2 _ rfl).1
  have ca2_3 := (b2.2 3 _ rfl).1
  have ca3_0 := (b3.2 0 _ rfl).1
  have ca3_1 := (b3.2 1 _ rfl).1
  have ca3_2 := (b3.2 2 _ rfl).1
  have ca3_3 := (b3.2 3 _ rfl).1
  go_wp2_with fail
  clear ca1 fa1 ca2_0 ca2_1 ca2_2 ca2_3 ca3_0 ca3_1 ca3_2 ca3_3
  refine (sameMeaning_any (h'.keeps kw) HLV.out (hv.keeps kw) (hw.keeps kw) (hu.keeps kw) (hx.keeps kw) HW.out HX.out).mono ?_
  rintro e w4 ⟨rfl, k4⟩
  rw [HP.out]
  replace b1 := b1.keeps k4
  replace b2 := b2.keeps k4
  replace b3 := b3.keeps k4
  replace kw := Keeps.trans kw k4
  have lt5 := b3.lt
  have sz6 := kw.size
  clear k4
  go_wp2_with fail
  go_ret
  exact ⟨ret_bool rfl, kw⟩
set_option maxRecDepth 100000 in
set_option maxHeartbeats 6400000 in
theorem newIn_any {A' B B' : Option Addr} {lo3 hi3 lo4 hi4 n c k9 c9 q e : Nat} {un un' : Bool} {l : List VV} {ts us : List TT} {w : World} (h' : Sch w A' q e l) (hlv : LvOk l q) (ht : Tabs true un w lo3 hi3 B n ts) (ho : Tabs true un' w lo4 hi4 B' k9 us) (hT : ∀ k, k < ts.length → whB l (ts.getD k t0).2.2.1 = true) (hU : ∀ k, k < us.length → whB l (us.getD k t0).2.2.1 = true) :
    Calls Tryz.prog 52 #[.slice A' q e, .slice B n c, .slice B' k9 c9] w fun e' w' => ∃ A1 N1 C1, e' = .returned (.slice A1 N1 C1) ∧ Mine w' w.heap.size w'.heap.size A1 N1 (pcL l ts us) ∧ Keeps w w' := by
  have hn := ht.le
  have hk9 := ho.le
  have HTL := hid ht.len
  have HUL := hid ho.len
  have HLV := hid hlv
  have HT := hid hT
  have HU := hid hU
  clear hlv hT hU
  have HE := hid (show pcL l ts us = ntTo (pcG l ts us k9) n by unfold pcL; rw [HTL.out, HUL.out])
  go_enter Tryz.func52, Tryz.ntmps52
  have kw := keeps_refl w
  replace kw := Keeps.trans kw (keeps_alloc w (.cells #[.slice A' q e] 34))
  have b3 : B1 (w.alloc (.cells #[.slice A' q e] 34)) w.heap.size (.slice A' q e) := B1.new' (by simp)
  go_wp2_with fail
  have sz0 := b3.lt
  go_loopw [7, 12] (fun v i wr => ∃ k : Nat, k ≤ n ∧ i = .int .i64 k ∧ Has wr (w.heap.size + 1) 3 1 v (ntTo (pcG l ts us k9) k).length ((ntTo (pcG l ts us k9) k).map (Value.int .i64)) ∧ B1 wr w.heap.size (.slice A' q e) ∧ Keeps w wr) (fun _ i _ => n - (intOf i).toNat)
  case atStart => exact ⟨0, Nat.zero_le _, rfl, World.ownsRow_nil _ _ _ _, b3, kw⟩
  clear b3 kw
  case round =>
    obtain ⟨k, hk, rfl, hown, b3, kw⟩ := hrel
    have hkl := ntTo_len (pcG l ts us k9) k
    by_cases hlt : k < n
    · obtain ⟨b', off', lv, V, n1, c1, H, m1, d1, sm, vs, ws, rfl, _, _, e0, e1, e2, e3, gv, gh, hx⟩ := ht.at_ hlt
      have HWK := hid (show whB l ws = true by have := HT.out k (by rw [HTL.out]; exact hlt); rw [← hx.out] at this; exact this)
      have HGK := hid (show (pcG l ts us k9) k = exF (fun j => smB l (lv, vs, ws, sm) (us.getD j t0)) k9 by unfold pcG; rw [← hx.out])
      clear hx
      have hj1 : (k : Int) < (n : Int) := by omega
      have d0 := cell_keeps e0 kw
      have d1' := cell_keeps e1 kw
      have d2' := cell_keeps e2 kw
      have d3 := cell_keeps e3 kw
      have lt3 := b3.lt
      replace b3 := b3.keeps (keeps_alloc wr (.cells #[.int .i64 lv, .slice V n1 c1, .slice H m1 d1, .int .i64 sm] 61))
      replace hown := hown.keeps (keeps_alloc wr (.cells #[.int .i64 lv, .slice V n1 c1, .slice H m1 d1, .int .i64 sm] 61))
      replace kw := Keeps.trans kw (keeps_alloc wr (.cells #[.int .i64 lv, .slice V n1 c1, .slice H m1 d1, .int .i64 sm] 61))
      have b9 : Bl (wr.alloc (.cells #[.int .i64 lv, .slice V n1 c1, .slice H m1 d1, .int .i64 sm] 61)) wr.heap.size [.int .i64 lv, .slice V n1 c1, .slice H m1 d1, .int .i64 sm] := Bl.new' (by simp) (by simp)
      have ca1_0 := (b9.2 0 _ rfl).1
      have ca1_1 := (b9.2 1 _ rfl).1
      have ca1_2 := (b9.2 2 _ rfl).1
      have ca1_3 := (b9.2 3 _ rfl).1
      go_wp2_with fail
      clear ca1_0 ca1_1 ca1_2 ca1_3
      clear d0 d1' d2' d3 e0 e1 e2 e3
      have HCL := hid (fun (j : Nat) (w' : World) (lu su : Int) (V' H' : Option Addr) (nv cv nh ch : Nat) (us' xs : List Int) (hj : j < k9) (kk : Keeps (wr.alloc (.cells #[.int .i64 lv, .slice V n1 c1, .slice H m1 d1, .int .i64 sm] 61)) w') (gv' : Ints w' lo4 hi4 V' nv us') (gh' : Ints w' lo4 hi4 H' nh xs) (hx : Hid ((lu, us', xs, su) = us.getD j t0)) => niClosure (p := smB l (lv, vs, ws, sm) (us.getD j t0)) (c := c1) (d := d1) (c' := cv) (d' := ch) (h'.keeps (Keeps.trans kw kk)) HLV.out (gv.keeps (Keeps.trans kw kk)) (gh.keeps (Keeps.trans kw kk)) gv' gh' HWK.out (show whB l xs = true by have := HU.out j (by rw [HUL.out]; exact hj); rw [← hx.out] at this; exact this) (b3.keeps kk) (b9.keeps kk) (congrArg (smB l (lv, vs, ws, sm)) hx.out))
      refine (containsFuncT_any (c := c9) (n := k9) (K := 83) (G := fun j => smB l (lv, vs, ws, sm) (us.getD j t0)) (ho.keeps kw) (fun args w => enterF_of Tryz.func83 (by kernel_rfl) rfl args w) HCL.out).mono ?_
      rintro e w2 ⟨rfl, k2⟩
      rw [← HGK.out]
      replace b3 := b3.keeps k2
      replace b9 := b9.keeps k2
      replace hown := hown.keeps k2
      replace kw := Keeps.trans kw k2
      have lt3 := b9.lt
      have sz4 := kw.size
      clear k2
      clear HCL b9
      have lt5 := b3.lt
      obtain ⟨p, HPP⟩ : ∃ p, Hid ((pcG l ts us k9) k = p) := ⟨_, rfl⟩
      rw [HPP.out]
      cases p
      · have HT2 := hid (ntTo_no HPP.out)
        go_wp2_with (at_builtin; refine append_int (xs := ntTo (pcG l ts us k9) k) hown (by omega) (by omega) _ _ rfl rfl rfl (by first | rfl | (simp <;> rfl)) ?_; intro v' w' hown' hb')
        have H1 := hid hown'
        rw [show (ntTo (pcG l ts us k9) k).length + 1 = (ntTo (pcG l ts us k9) k ++ [(k : Int)]).length by simp, ← HT2.out] at H1
        have H2 := hid (Below.trans kw (hb'.mono (by omega)))
        have H_b3 := hid (b3.fr (fr_belowN hb') (by omega))
        clear hown' hb' kw hown b3
        go_wp2
        go_roundw
        case rel => exact ⟨k + 1, by omega, by go_num, H1.out, H_b3.out, H2.out⟩
        case measure => simp [intOf] <;> omega
      have HT2 := hid (ntTo_yes HPP.out)
      have H1 := hid hown
      rw [← HT2.out] at H1
      clear hown
      go_wp2_with fail
      go_roundw
      case rel => exact ⟨k + 1, by omega, by go_num, H1.out, b3, kw⟩
      case measure => simp [intOf] <;> omega
    · obtain rfl : n = k := by omega
      obtain ⟨A1, C1, rfl⟩ := hown.form
      have sz9 := kw.size
      have HM := hid ((Mine.of_own hown (by omega)).widen (lo' := w.heap.size) (by omega) (Nat.le_refl _) (Nat.le_refl _))
      clear hown
      go_wp2
      go_ret
      exact ⟨A1, _, C1, rfl, by rw [HE.out]; exact HM.out, kw⟩
set_option maxRecDepth 100000 in
set_option maxHeartbeats 6400000 in
theorem rlMissing_any {A' B B' : Option Addr} {lo3 hi3 lo4 hi4 n c k9 c9 q e : Nat} {un un' : Bool} {l : List VV} {ts us : List TT} {w : World} (h' : Sch w A' q e l) (hlv : LvOk l q) (ht : Tabs true un w lo3 hi3 B n ts) (ho : Tabs true un' w lo4 hi4 B' k9 us) (hT : ∀ k, k < ts.length → whB l (ts.getD k t0).2.2.1 = true) (hU : ∀ k, k < us.length → whB l (us.getD k t0).2.2.1 = true) :
    Calls Tryz.prog 55 #[.slice A' q e, .slice B n c, .slice B' k9 c9] w fun e' w' => ∃ A1 N1 C1, e' = .returned (.slice A1 N1 C1) ∧ Mine w' w.heap.size w'.heap.size A1 N1 (pcL l ts us) ∧ Keeps w w' := by
  have hn := ht.le
  have hk9 := ho.le
  have HTL := hid ht.len
  have HUL := hid ho.len
  have HLV := hid hlv
  have HT := hid hT
  have HU := hid hU
  clear hlv hT hU
  have HE := hid (show pcL l ts us = ntTo (pcG l ts us k9) n by unfold pcL; rw [HTL.out, HUL.out])
  go_enter Tryz.func55, Tryz.ntmps55
  have kw := keeps_refl w
  go_wp2_with fail
  go_loopw [7, 15] (fun v i wr => ∃ k : Nat, k ≤ n ∧ i = .int .i64 k ∧ Has wr w.heap.size 3 1 v (ntTo (pcG l ts us k9) k).length ((ntTo (pcG l ts us k9) k).map (Value.int .i64)) ∧ Keeps w wr) (fun _ i _ => n - (intOf i).toNat)
  case atStart => exact ⟨0, Nat.zero_le _, rfl, World.ownsRow_nil _ _ _ _, kw⟩
  clear kw
  case round =>
    obtain ⟨k, hk, rfl, hown, kw⟩ := hrel
    have hkl := ntTo_len (pcG l ts us k9) k
    have sz8 := kw.size
    by_cases hlt : k < n
    · obtain ⟨b', off', lv, V, n1, c1, H, m1, d1, sm, vs, ws, rfl, _, _, e0, e1, e2, e3, gv, gh, hx⟩ := ht.at_ hlt
      have HWK := hid (show whB l ws = true by have := HT.out k (by rw [HTL.out]; exact hlt); rw [← hx.out] at this; exact this)
      have HGK := hid (show (pcG l ts us k9) k = exF (fun j => smB l (lv, vs, ws, sm) (us.getD j t0)) k9 by unfold pcG; rw [← hx.out])
      clear hx
      have hj1 : (k : Int) < (n : Int) := by omega
      have d0 := cell_keeps e0 kw
      have d1' := cell_keeps e1 kw
      have d2' := cell_keeps e2 kw
      have d3 := cell_keeps e3 kw
      replace hown := hown.keeps (keeps_alloc wr (.cells #[.int .i64 lv, .slice V n1 c1, .slice H m1 d1, .int .i64 sm] 61))
      replace kw := Keeps.trans kw (keeps_alloc wr (.cells #[.int .i64 lv, .slice V n1 c1, .slice H m1 d1, .int .i64 sm] 61))
      have b9 : Bl (wr.alloc (.cells #[.int .i64 lv, .slice V n1 c1, .slice H m1 d1, .int .i64 sm] 61)) wr.heap.size [.int .i64 lv, .slice V n1 c1, .slice H m1 d1, .int .i64 sm] := Bl.new' (by simp) (by simp)
      have ca1_0 := (b9.2 0 _ rfl).1
      have ca1_1 := (b9.2 1 _ rfl).1
      have ca1_2 := (b9.2 2 _ rfl).1
      have ca1_3 := (b9.2 3 _ rfl).1
      go_wp2_with fail
      clear ca1_0 ca1_1 ca1_2 ca1_3
      clear d0 d1' d2' d3 e0 e1 e2 e3
      have HP0 := hid (show false = exF (fun j => smB l (lv, vs, ws, sm) (us.getD j t0)) 0 from rfl)
      obtain ⟨g9, hg9⟩ : ∃ g, g = wr.heap.size := ⟨_, rfl⟩
      obtain ⟨wy, hwy⟩ : ∃ u : World, u = (wr.alloc (.cells #[.int .i64 lv, .slice V n1 c1, .slice H m1 d1, .int .i64 sm] 61)) := ⟨_, rfl⟩
      rw [← hwy] at b9 hown kw
      rw [← hg9] at b9
      rw [← hwy]
      have hgy : g9 < wy.heap.size := b9.lt
      try rw [← hg9]
      clear hwy
      have hgw : w.heap.size ≤ g9 := by omega
      clear hg9
      go_loopw [10, 22] (fun vm i wz => ∃ (j : Nat) (met : Bool), j ≤ k9 ∧ i = .int .i64 j ∧ vm = .bool met ∧ Hid (met = exF (fun j => smB l (lv, vs, ws, sm) (us.getD j t0)) j) ∧ Bl wz g9 [.int .i64 lv, .slice V n1 c1, .slice H m1 d1, .int .i64 sm] ∧ Keeps wy wz) (fun _ i _ => k9 - (intOf i).toNat)
      case atStart => exact ⟨0, false, Nat.zero_le _, rfl, rfl, HP0, b9, keeps_refl _⟩
      clear b9
      case round =>
        obtain ⟨j, met, hj, rfl, rfl, HM, b9, kz⟩ := hrel
        by_cases hlt2 : j < k9
        · obtain ⟨_, _, lu, V', n2, c2, H', m2, d2, su, us', xs, rfl, _, _, f0, f1, f2, f3, gv', gh', hx⟩ := ho.at_ hlt2
          have HWJ := hid (show whB l xs = true by have := HU.out j (by rw [HUL.out]; exact hlt2); rw [← hx.out] at this; exact this)
          have HXJ := hid (show smB l (lv, vs, ws, sm) (us.getD j t0) = smB l (lv, vs, ws, sm) (lu, us', xs, su) by rw [hx.out])
          clear hx
          have hj2 : (j : Int) < (k9 : Int) := by omega
          have kwz := Keeps.trans kw kz
          have d0 := cell_keeps f0 kwz
          have d1' := cell_keeps f1 kwz
          have d2' := cell_keeps f2 kwz
          have d3 := cell_keeps f3 kwz
          have lt9 := b9.lt
          cases met
          · replace b9 := b9.keeps (keeps_alloc wr (.cells #[.int .i64 lu, .slice V' n2 c2, .slice H' m2 d2, .int .i64 su] 61))
            replace kz := Keeps.trans kz (keeps_alloc wr (.cells #[.int .i64 lu, .slice V' n2 c2, .slice H' m2 d2, .int .i64 su] 61))
            replace kwz := Keeps.trans kwz (keeps_alloc wr (.cells #[.int .i64 lu, .slice V' n2 c2, .slice H' m2 d2, .int .i64 su] 61))
            have b12 : Bl (wr.alloc (.cells #[.int .i64 lu, .slice V' n2 c2, .slice H' m2 d2, .int .i64 su] 61)) wr.heap.size [.int .i64 lu, .slice V' n2 c2, .slice H' m2 d2, .int .i64 su] := Bl.new' (by simp) (by simp)
            have ca2_0 := (b9.2 0 _ rfl).1
            have ca2_1 := (b9.2 1 _ rfl).1
            have ca2_2 := (b9.2 2 _ rfl).1
            have ca2_3 := (b9.2 3 _ rfl).1
            have ca3_0 := (b12.2 0 _ rfl).1
            have ca3_1 := (b12.2 1 _ rfl).1
            have ca3_2 := (b12.2 2 _ rfl).1
            have ca3_3 := (b12.2 3 _ rfl).1
            go_wp2_with fail
            clear ca2_0 ca2_1 ca2_2 ca2_3 ca3_0 ca3_1 ca3_2 ca3_3
            clear d0 d1' d2' d3 f0 f1 f2 f3
            obtain ⟨p, HPP⟩ : ∃ p, Hid (smB l (lv, vs, ws, sm) (lu, us', xs, su) = p) := ⟨_, rfl⟩
            refine (nSame_any (h'.keeps kwz) HLV.out (gv.keeps kwz) (gh.keeps kwz) (gv'.keeps kwz) (gh'.keeps kwz) HWK.out HWJ.out).mono ?_
            rintro e w4 ⟨rfl, k4⟩
            rw [HPP.out]
            replace b9 := b9.keeps k4
            replace b12 := b12.keeps k4
            replace kz := Keeps.trans kz k4
            replace kwz := Keeps.trans kwz k4
            have lt5 := b12.lt
            have sz6 := kz.size
            have sz7 := kwz.size
            clear k4
            have HN := hid (show p = exF (fun j => smB l (lv, vs, ws, sm) (us.getD j t0)) (j + 1) by rw [exF_succ, ← HM.out, Bool.false_or, HXJ.out, HPP.out])
            clear b12
            go_wp2_with fail
            go_roundw
            case rel => exact ⟨j + 1, p, by omega, by go_num, rfl, HN, b9, kz⟩
            case measure => simp [intOf] <;> omega
          · have HN := hid (show true = exF (fun j => smB l (lv, vs, ws, sm) (us.getD j t0)) (j + 1) by rw [exF_succ, ← HM.out]; rfl)
            replace b9 := b9.keeps (keeps_alloc wr (.cells #[.int .i64 lu, .slice V' n2 c2, .slice H' m2 d2, .int .i64 su] 61))
            replace kz := Keeps.trans kz (keeps_alloc wr (.cells #[.int .i64 lu, .slice V' n2 c2, .slice H' m2 d2, .int .i64 su] 61))
            replace kwz := Keeps.trans kwz (keeps_alloc wr (.cells #[.int .i64 lu, .slice V' n2 c2, .slice H' m2 d2, .int .i64 su] 61))
            have b12 : Bl (wr.alloc (.cells #[.int .i64 lu, .slice V' n2 c2, .slice H' m2 d2, .int .i64 su] 61)) wr.heap.size [.int .i64 lu, .slice V' n2 c2, .slice H' m2 d2, .int .i64 su] := Bl.new' (by simp) (by simp)
            have ca2_0 := (b9.2 0 _ rfl).1
            have ca2_1 := (b9.2 1 _ rfl).1
            have ca2_2 := (b9.2 2 _ rfl).1
            have ca2_3 := (b9.2 3 _ rfl).1
            have ca3_0 := (b12.2 0 _ rfl).1
            have ca3_1 := (b12.2 1 _ rfl).1
            have ca3_2 := (b12.2 2 _ rfl).1
            have ca3_3 := (b12.2 3 _ rfl).1
            go_wp2_with fail
            clear ca2_0 ca2_1 ca2_2 ca2_3 ca3_0 ca3_1 ca3_2 ca3_3
            clear d0 d1' d2' d3 f0 f1 f2 f3
            clear b12
            go_roundw
            case rel => exact ⟨j + 1, true, by omega, by go_num, rfl, HN, b9, kz⟩
            case measure => simp [intOf] <;> omega
        obtain rfl : k9 = j := by omega
        have HPP := hid (HGK.out.trans HM.out.symm)
        have hj2 : ¬ (k9 : Int) < (k9 : Int) := by omega
        replace hown := Has.keeps hown kz
        replace kw := Keeps.trans kw kz
        have sz5 := kw.size
        clear b9 kz
        cases met
        · have HT2 := hid (ntTo_no HPP.out)
          go_wp2_with (at_builtin; refine append_int (xs := ntTo (pcG l ts us k9) k) hown (by omega) (by omega) _ _ rfl rfl rfl (by first | rfl | (simp <;> rfl)) ?_; intro v' w' hown' hb')
          have H1 := hid hown'
          rw [show (ntTo (pcG l ts us k9) k).length + 1 = (ntTo (pcG l ts us k9) k ++ [(k : Int)]).length by simp, ← HT2.out] at H1
          have H2 := hid (Below.trans kw (hb'.mono (by omega)))
          clear hown' hb' kw hown 
          go_wp2
          go_roundw
          case rel => exact ⟨k + 1, by omega, by go_num, H1.out, H2.out⟩
          case measure => simp [intOf] <;> omega
        have HT2 := hid (ntTo_yes HPP.out)
        have H1 := hid hown
        rw [← HT2.out] at H1
        clear hown
        go_wp2_with fail
        go_roundw
        case rel => exact ⟨k + 1, by omega, by go_num, H1.out, kw⟩
        case measure => simp [intOf] <;> omega
    · obtain rfl : n = k := by omega
      obtain ⟨A1, C1, rfl⟩ := hown.form
      have sz9 := kw.size
      have HM := hid ((Mine.of_own hown (by omega)).widen (lo' := w.heap.size) (by omega) (Nat.le_refl _) (Nat.le_refl _))
      clear hown
      go_wp2
      go_ret
      exact ⟨A1, _, C1, rfl, by rw [HE.out]; exact HM.out, kw⟩
end Go.Proofs.YtlkjhkkfdmjfcaaGreatDoor
namespace Go.Proofs.YtlkjhkkfdmjfcaaGreatDoor
open Go.RowKit Go.Sort
set_option linter.unusedVariables false
set_option linter.unusedSimpArgs false
theorem rvAnd_self {a : Int} (h : 0 ≤ a ∧ a ≤ 255) : bAnd a a = a := by
  have h1 := small_nat h
  unfold bAnd
  rw [BitVec.and_self, h1, IntWalk.i64_in _ (by omega)]
  omega
theorem vaTo_self (vs : List Int) : ∀ n, n ≤ vs.length → vaTo vs vs n = true
  | 0, _ => rfl
  | n + 1, h => by
    show (vaTo vs vs n && decide (vs.getD n 0 ∈ vs)) = true
    rw [vaTo_self vs n (by omega), decide_eq_true (mem_of_at (n := vs.length) rfl (show n < vs.length by omega) rfl)]; rfl
theorem coTo_self {l : List VV} {ws us : List Int} (hv : LvOk l l.length) (hw : whB l ws = true) : ∀ n, n ≤ l.length → coTo l ws us ws n = true
  | 0, _ => rfl
  | n + 1, h => by
    show (coTo l ws us ws n && coR l ws us ws n) = true
    rw [coTo_self hv hw n (by omega)]
    have hb := cn_bd (l := l) (ws := ws) (k := n) rfl hv hw (by omega)
    unfold coR
    split
    · rw [decide_eq_true (rvAnd_self hb)]; rfl
    · simp
theorem flB_self {ps : List Int} {l : List VV} {t : TT} (hv : LvOk l l.length) (hw : whB l t.2.2.1 = true) : flB ps l t t = true := by
  unfold flB
  rw [lvlB_self, vaTo_self _ _ (Nat.le_refl _), coTo_self hv hw _ (Nat.le_refl _)]
  simp [smE]
theorem fst_min {g : Nat → Bool} {i : Nat} (h : g i = true) : ∀ n, i < n → fst g n ≤ i
  | 0, hi => by omega
  | n + 1, hi => by
    have hl := fst_le g n
    unfold fst
    by_cases h1 : fst g n < n
    · rw [if_pos h1]
      by_cases h2 : i < n
      · exact fst_min h n h2
      · omega
    · rw [if_neg h1]
      by_cases h2 : i < n
      · have := fst_min h n h2; omega
      · obtain rfl : i = n := by omega
        rw [if_pos h]; exact Nat.le_refl _
theorem exF_at {g : Nat → Bool} {i n : Nat} (h : g i = true) (hi : i < n) : exF g n = true := decide_eq_true (by have := fst_min h n hi; omega)
/-- A table of a release has a first version. -/
theorem rv_first {ps : List Int} {l : List VV} {rs : List RL} {i j : Nat} {v : Int} {pl : List TT} {x1 x2 x3 x4 : Int} {t : TT} (h : hisB ps l rs = true) (hi : i < rs.length) (e : (v, pl, x1, x2, x3, x4) = rs.getD i rl0) (hj : j < pl.length) (e2 : t = pl.getD j t0) :
    ∃ k, fvQ ps l rs t = (k, true) ∧ 1 ≤ k ∧ k ≤ v := by
  obtain ⟨hg, hs, h12, hr⟩ := hisB_parts h
  have hri := hr i hi
  rw [← e] at hri
  have hpl := relB_pl hri.2
  have ht := (plB_at hpl).2 j hj
  rw [← e2] at ht
  have hlv := (schB_lv rfl hs).1
  have hfl : flB ps l t t = true := flB_self hlv (tabB_parts ht).2.1
  have hG : fvG ps l rs t i = true := by
    unfold fvG
    rw [← e]
    exact exF_at (g := fun j => flB ps l t (pl.getD j t0)) (i := j) (by show flB ps l t (pl.getD j t0) = true; rw [← e2]; exact hfl) hj
  have hx := exF_at hG hi
  have hm := fst_min hG _ hi
  refine ⟨_, by rw [fvQ_yes rfl h ht, hx, svI_t hx], by omega, ?_⟩
  have := hri.1
  have h3 : v = (i : Int) + 1 := this
  omega
/-- Changes in the other direction. -/
theorem pc_swap (ps : List Int) (l : List VV) (a b : RL) : pcQ ps l b a = ((pcQ ps l a b).2.1, (pcQ ps l a b).1, (pcQ ps l a b).2.2) := by
  cases h : (geoB ps && schB l && relB ps l a && relB ps l b)
  · rw [pcQ_no h, pcQ_no (by rw [Bool.and_assoc, Bool.and_comm (relB ps l b), ← Bool.and_assoc]; exact h)]
  · rw [pcQ_yes h, pcQ_yes (by rw [Bool.and_assoc, Bool.and_comm (relB ps l b), ← Bool.and_assoc]; exact h)]
end Go.Proofs.YtlkjhkkfdmjfcaaGreatDoor
namespace Go.Proofs.YtlkjhkkfdmjfcaaGreatDoor
open Go.RowKit Go.Sort
set_option linter.unusedVariables false
set_option linter.unusedSimpArgs false
/-- Two lists of whole numbers and whether they count. -/
def TwoI (w : World) (l1 l2 : List Int) (ok : Bool) (e : Ending) (w' : World) : Prop :=
  ∃ A N C A' N' C' L1 U1 L2 U2, e = .returned (.tuple #[.slice A N C, .slice A' N' C', .bool ok]) ∧ (w.heap.size ≤ L1 ∧ U1 ≤ w'.heap.size ∧ w.heap.size ≤ L2 ∧ U2 ≤ w'.heap.size ∧ (U1 ≤ L2 ∨ U2 ≤ L1)) ∧ Mine w' L1 U1 A N l1 ∧ Mine w' L2 U2 A' N' l2 ∧ Keeps w w'
theorem TwoI.no {w w' : World} (k : Keeps w w') : TwoI w [] [] false (.returned (.tuple #[.slice none 0 0, .slice none 0 0, .bool false])) w' := by
  have := k.size
  exact ⟨_, _, _, _, _, _, w'.heap.size, w'.heap.size, w'.heap.size, w'.heap.size, rfl, by omega, Mine.nil_ w' _, Mine.nil_ w' _, k⟩
set_option maxRecDepth 100000 in
set_option maxHeartbeats 6400000 in
theorem implPlanChanges_gen {A A' Q1 Q2 : Option Addr} {lo hi a c0 lo3 hi3 lo4 hi4 n1 c1 n2 c2 q cq : Nat} {un un' : Bool} {va x1 x2 x3 x4 vb y1 y2 y3 y4 : Int} {ps : List Int} {l : List VV} {ts us : List TT} {w : World} (h : Ints w lo hi A a ps) (h' : Sch w A' q cq l) (hp : Tabs true un w lo3 hi3 Q1 n1 ts) (hr : Tabs true un' w lo4 hi4 Q2 n2 us) :
    Calls Tryz.prog 18 #[.agg #[.slice A a c0], .slice A' q cq, .agg #[.int .i64 va, .slice Q1 n1 c1, .int .i64 x1, .int .i64 x2, .int .i64 x3, .int .i64 x4], .agg #[.int .i64 vb, .slice Q2 n2 c2, .int .i64 y1, .int .i64 y2, .int .i64 y3, .int .i64 y4]] w fun e w' => TwoI w (pcQ ps l (va, ts, x1, x2, x3, x4) (vb, us, y1, y2, y3, y4)).1 (pcQ ps l (va, ts, x1, x2, x3, x4) (vb, us, y1, y2, y3, y4)).2.1 (pcQ ps l (va, ts, x1, x2, x3, x4) (vb, us, y1, y2, y3, y4)).2.2 e w' := by
  obtain ⟨_, _, hz⟩ := h'.v
  have hq := hz.le
  have HZ := hid (Vars.len hz)
  obtain ⟨q0, q1, q2, HQ⟩ : ∃ q0 q1 q2, Hid (pcQ ps l (va, ts, x1, x2, x3, x4) (vb, us, y1, y2, y3, y4) = (q0, q1, q2)) := ⟨_, _, _, rfl⟩
  rw [HQ.out]
  go_enter Tryz.func18, Tryz.ntmps18
  have kw := keeps_refl w
  replace kw := Keeps.trans kw (keeps_alloc w (.cells #[.slice A a c0] 32))
  have b4 : B1 (w.alloc (.cells #[.slice A a c0] 32)) w.heap.size (.slice A a c0) := B1.new' (by simp)
  replace b4 := b4.keeps (keeps_alloc (w.alloc (.cells #[.slice A a c0] 32)) (.cells #[.int .i64 va, .slice Q1 n1 c1, .int .i64 x1, .int .i64 x2, .int .i64 x3, .int .i64 x4] 50))
  replace kw := Keeps.trans kw (keeps_alloc (w.alloc (.cells #[.slice A a c0] 32)) (.cells #[.int .i64 va, .slice Q1 n1 c1, .int .i64 x1, .int .i64 x2, .int .i64 x3, .int .i64 x4] 50))
  have b6 : Bl ((w.alloc (.cells #[.slice A a c0] 32)).alloc (.cells #[.int .i64 va, .slice Q1 n1 c1, .int .i64 x1, .int .i64 x2, .int .i64 x3, .int .i64 x4] 50)) (w.heap.size + 1) [.int .i64 va, .slice Q1 n1 c1, .int .i64 x1, .int .i64 x2, .int .i64 x3, .int .i64 x4] := Bl.new' (by simp) (by simp)
  replace b4 := b4.keeps (keeps_alloc ((w.alloc (.cells #[.slice A a c0] 32)).alloc (.cells #[.int .i64 va, .slice Q1 n1 c1, .int .i64 x1, .int .i64 x2, .int .i64 x3, .int .i64 x4] 50)) (.cells #[.int .i64 vb, .slice Q2 n2 c2, .int .i64 y1, .int .i64 y2, .int .i64 y3, .int .i64 y4] 50))
  replace b6 := b6.keeps (keeps_alloc ((w.alloc (.cells #[.slice A a c0] 32)).alloc (.cells #[.int .i64 va, .slice Q1 n1 c1, .int .i64 x1, .int .i64 x2, .int .i64 x3, .int .i64 x4] 50)) (.cells #[.int .i64 vb, .slice Q2 n2 c2, .int .i64 y1, .int .i64 y2, .int .i64 y3, .int .i64 y4] 50))
  replace kw := Keeps.trans kw (keeps_alloc ((w.alloc (.cells #[.slice A a c0] 32)).alloc (.cells #[.int .i64 va, .slice Q1 n1 c1, .int .i64 x1, .int .i64 x2, .int .i64 x3, .int .i64 x4] 50)) (.cells #[.int .i64 vb, .slice Q2 n2 c2, .int .i64 y1, .int .i64 y2, .int .i64 y3, .int .i64 y4] 50))
  have b7 : Bl (((w.alloc (.cells #[.slice A a c0] 32)).alloc (.cells #[.int .i64 va, .slice Q1 n1 c1, .int .i64 x1, .int .i64 x2, .int .i64 x3, .int .i64 x4] 50)).alloc (.cells #[.int .i64 vb, .slice Q2 n2 c2, .int .i64 y1, .int .i64 y2, .int .i64 y3, .int .i64 y4] 50)) (w.heap.size + 1 + 1) [.int .i64 vb, .slice Q2 n2 c2, .int .i64 y1, .int .i64 y2, .int .i64 y3, .int .i64 y4] := Bl.new' (by simp) (by simp)
  obtain ⟨ca1, fa1⟩ := id b4
  have ca2_0 := (b6.2 0 _ rfl).1
  have ca2_1 := (b6.2 1 _ rfl).1
  have ca2_2 := (b6.2 2 _ rfl).1
  have ca2_3 := (b6.2 3 _ rfl).1
  have ca2_4 := (b6.2 4 _ rfl).1
  have ca2_5 := (b6.2 5 _ rfl).1
  have ca3_0 := (b7.2 0 _ rfl).1
  have ca3_1 := (b7.2 1 _ rfl).1
  have ca3_2 := (b7.2 2 _ rfl).1
  have ca3_3 := (b7.2 3 _ rfl).1
  have ca3_4 := (b7.2 4 _ rfl).1
  have ca3_5 := (b7.2 5 _ rfl).1
  go_wp2_with fail
  clear ca1 fa1 ca2_0 ca2_1 ca2_2 ca2_3 ca2_4 ca2_5 ca3_0 ca3_1 ca3_2 ca3_3 ca3_4 ca3_5
  obtain ⟨pHG, HG⟩ : ∃ pB, Hid (geoB ps = pB) := ⟨_, rfl⟩
  refine (IsGeo_any (h.keeps kw)).mono ?_
  rintro e w4 ⟨rfl, k4⟩
  rw [HG.out]
  replace b4 := b4.keeps k4
  replace b6 := b6.keeps k4
  replace b7 := b7.keeps k4
  replace kw := Keeps.trans kw k4
  have lt5 := b7.lt
  have sz6 := kw.size
  clear k4
  cases pHG
  · obtain ⟨e0, e1, e2⟩ : q0 = [] ∧ q1 = [] ∧ q2 = false := by have := HQ.out.symm.trans (pcQ_no (by rw [HG.out]; rfl)); injection this with a b; injection b with b c; exact ⟨a, b, c⟩
    subst e0 e1 e2
    obtain ⟨ca7, fa7⟩ := id b4
    have ca8_0 := (b6.2 0 _ rfl).1
    have ca8_1 := (b6.2 1 _ rfl).1
    have ca8_2 := (b6.2 2 _ rfl).1
    have ca8_3 := (b6.2 3 _ rfl).1
    have ca8_4 := (b6.2 4 _ rfl).1
    have ca8_5 := (b6.2 5 _ rfl).1
    have ca9_0 := (b7.2 0 _ rfl).1
    have ca9_1 := (b7.2 1 _ rfl).1
    have ca9_2 := (b7.2 2 _ rfl).1
    have ca9_3 := (b7.2 3 _ rfl).1
    have ca9_4 := (b7.2 4 _ rfl).1
    have ca9_5 := (b7.2 5 _ rfl).1
    go_wp2_with fail
    clear ca7 fa7 ca8_0 ca8_1 ca8_2 ca8_3 ca8_4 ca8_5 ca9_0 ca9_1 ca9_2 ca9_3 ca9_4 ca9_5
    go_ret3
    exact TwoI.no kw
  · skip
    obtain ⟨ca7, fa7⟩ := id b4
    have ca8_0 := (b6.2 0 _ rfl).1
    have ca8_1 := (b6.2 1 _ rfl).1
    have ca8_2 := (b6.2 2 _ rfl).1
    have ca8_3 := (b6.2 3 _ rfl).1
    have ca8_4 := (b6.2 4 _ rfl).1
    have ca8_5 := (b6.2 5 _ rfl).1
    have ca9_0 := (b7.2 0 _ rfl).1
    have ca9_1 := (b7.2 1 _ rfl).1
    have ca9_2 := (b7.2 2 _ rfl).1
    have ca9_3 := (b7.2 3 _ rfl).1
    have ca9_4 := (b7.2 4 _ rfl).1
    have ca9_5 := (b7.2 5 _ rfl).1
    go_wp2_with fail
    clear ca7 fa7 ca8_0 ca8_1 ca8_2 ca8_3 ca8_4 ca8_5 ca9_0 ca9_1 ca9_2 ca9_3 ca9_4 ca9_5
    obtain ⟨pHS, HS⟩ : ∃ pB, Hid (schB l = pB) := ⟨_, rfl⟩
    refine (IsSchema_any (Sl.keeps hz kw) h'.ok h'.cap h'.c64).mono ?_
    rintro e w10 ⟨rfl, k10⟩
    rw [HS.out]
    replace b4 := b4.keeps k10
    replace b6 := b6.keeps k10
    replace b7 := b7.keeps k10
    replace kw := Keeps.trans kw k10
    have lt11 := b7.lt
    have sz12 := kw.size
    clear k10
    cases pHS
    · obtain ⟨e0, e1, e2⟩ : q0 = [] ∧ q1 = [] ∧ q2 = false := by have := HQ.out.symm.trans (pcQ_no (by rw [HG.out, HS.out]; rfl)); injection this with a b; injection b with b c; exact ⟨a, b, c⟩
      subst e0 e1 e2
      obtain ⟨ca13, fa13⟩ := id b4
      have ca14_0 := (b6.2 0 _ rfl).1
      have ca14_1 := (b6.2 1 _ rfl).1
      have ca14_2 := (b6.2 2 _ rfl).1
      have ca14_3 := (b6.2 3 _ rfl).1
      have ca14_4 := (b6.2 4 _ rfl).1
      have ca14_5 := (b6.2 5 _ rfl).1
      have ca15_0 := (b7.2 0 _ rfl).1
      have ca15_1 := (b7.2 1 _ rfl).1
      have ca15_2 := (b7.2 2 _ rfl).1
      have ca15_3 := (b7.2 3 _ rfl).1
      have ca15_4 := (b7.2 4 _ rfl).1
      have ca15_5 := (b7.2 5 _ rfl).1
      go_wp2_with fail
      clear ca13 fa13 ca14_0 ca14_1 ca14_2 ca14_3 ca14_4 ca14_5 ca15_0 ca15_1 ca15_2 ca15_3 ca15_4 ca15_5
      go_ret3
      exact TwoI.no kw
    · skip
      obtain ⟨ca13, fa13⟩ := id b4
      have ca14_0 := (b6.2 0 _ rfl).1
      have ca14_1 := (b6.2 1 _ rfl).1
      have ca14_2 := (b6.2 2 _ rfl).1
      have ca14_3 := (b6.2 3 _ rfl).1
      have ca14_4 := (b6.2 4 _ rfl).1
      have ca14_5 := (b6.2 5 _ rfl).1
      have ca15_0 := (b7.2 0 _ rfl).1
      have ca15_1 := (b7.2 1 _ rfl).1
      have ca15_2 := (b7.2 2 _ rfl).1
      have ca15_3 := (b7.2 3 _ rfl).1
      have ca15_4 := (b7.2 4 _ rfl).1
      have ca15_5 := (b7.2 5 _ rfl).1
      go_wp2_with fail
      clear ca13 fa13 ca14_0 ca14_1 ca14_2 ca14_3 ca14_4 ca14_5 ca15_0 ca15_1 ca15_2 ca15_3 ca15_4 ca15_5
      obtain ⟨pHA, HA⟩ : ∃ pB, Hid (relB ps l (va, ts, x1, x2, x3, x4) = pB) := ⟨_, rfl⟩
      refine (isRelease_any (c := c1) (h.keeps kw) (h'.keeps kw) (hp.keeps kw) HG.out HS.out).mono ?_
      rintro e w16 ⟨rfl, k16⟩
      rw [HA.out]
      replace b4 := b4.keeps k16
      replace b6 := b6.keeps k16
      replace b7 := b7.keeps k16
      replace kw := Keeps.trans kw k16
      have lt17 := b7.lt
      have sz18 := kw.size
      clear k16
      cases pHA
      · obtain ⟨e0, e1, e2⟩ : q0 = [] ∧ q1 = [] ∧ q2 = false := by have := HQ.out.symm.trans (pcQ_no (by rw [HG.out, HS.out, HA.out]; rfl)); injection this with a b; injection b with b c; exact ⟨a, b, c⟩
        subst e0 e1 e2
        obtain ⟨ca19, fa19⟩ := id b4
        have ca20_0 := (b6.2 0 _ rfl).1
        have ca20_1 := (b6.2 1 _ rfl).1
        have ca20_2 := (b6.2 2 _ rfl).1
        have ca20_3 := (b6.2 3 _ rfl).1
        have ca20_4 := (b6.2 4 _ rfl).1
        have ca20_5 := (b6.2 5 _ rfl).1
        have ca21_0 := (b7.2 0 _ rfl).1
        have ca21_1 := (b7.2 1 _ rfl).1
        have ca21_2 := (b7.2 2 _ rfl).1
        have ca21_3 := (b7.2 3 _ rfl).1
        have ca21_4 := (b7.2 4 _ rfl).1
        have ca21_5 := (b7.2 5 _ rfl).1
        go_wp2_with fail
        clear ca19 fa19 ca20_0 ca20_1 ca20_2 ca20_3 ca20_4 ca20_5 ca21_0 ca21_1 ca21_2 ca21_3 ca21_4 ca21_5
        go_ret3
        exact TwoI.no kw
      · skip
        obtain ⟨ca19, fa19⟩ := id b4
        have ca20_0 := (b6.2 0 _ rfl).1
        have ca20_1 := (b6.2 1 _ rfl).1
        have ca20_2 := (b6.2 2 _ rfl).1
        have ca20_3 := (b6.2 3 _ rfl).1
        have ca20_4 := (b6.2 4 _ rfl).1
        have ca20_5 := (b6.2 5 _ rfl).1
        have ca21_0 := (b7.2 0 _ rfl).1
        have ca21_1 := (b7.2 1 _ rfl).1
        have ca21_2 := (b7.2 2 _ rfl).1
        have ca21_3 := (b7.2 3 _ rfl).1
        have ca21_4 := (b7.2 4 _ rfl).1
        have ca21_5 := (b7.2 5 _ rfl).1
        go_wp2_with fail
        clear ca19 fa19 ca20_0 ca20_1 ca20_2 ca20_3 ca20_4 ca20_5 ca21_0 ca21_1 ca21_2 ca21_3 ca21_4 ca21_5
        obtain ⟨pHB, HB⟩ : ∃ pB, Hid (relB ps l (vb, us, y1, y2, y3, y4) = pB) := ⟨_, rfl⟩
        refine (isRelease_any (c := c2) (h.keeps kw) (h'.keeps kw) (hr.keeps kw) HG.out HS.out).mono ?_
        rintro e w22 ⟨rfl, k22⟩
        rw [HB.out]
        replace b4 := b4.keeps k22
        replace b6 := b6.keeps k22
        replace b7 := b7.keeps k22
        replace kw := Keeps.trans kw k22
        have lt23 := b7.lt
        have sz24 := kw.size
        clear k22
        cases pHB
        · obtain ⟨e0, e1, e2⟩ : q0 = [] ∧ q1 = [] ∧ q2 = false := by have := HQ.out.symm.trans (pcQ_no (by rw [HG.out, HS.out, HA.out, HB.out]; rfl)); injection this with a b; injection b with b c; exact ⟨a, b, c⟩
          subst e0 e1 e2
          obtain ⟨ca25, fa25⟩ := id b4
          have ca26_0 := (b6.2 0 _ rfl).1
          have ca26_1 := (b6.2 1 _ rfl).1
          have ca26_2 := (b6.2 2 _ rfl).1
          have ca26_3 := (b6.2 3 _ rfl).1
          have ca26_4 := (b6.2 4 _ rfl).1
          have ca26_5 := (b6.2 5 _ rfl).1
          have ca27_0 := (b7.2 0 _ rfl).1
          have ca27_1 := (b7.2 1 _ rfl).1
          have ca27_2 := (b7.2 2 _ rfl).1
          have ca27_3 := (b7.2 3 _ rfl).1
          have ca27_4 := (b7.2 4 _ rfl).1
          have ca27_5 := (b7.2 5 _ rfl).1
          go_wp2_with fail
          clear ca25 fa25 ca26_0 ca26_1 ca26_2 ca26_3 ca26_4 ca26_5 ca27_0 ca27_1 ca27_2 ca27_3 ca27_4 ca27_5
          go_ret3
          exact TwoI.no kw
        · skip
          obtain ⟨e0, e1, e2⟩ : q0 = pcL l us ts ∧ q1 = pcL l ts us ∧ q2 = true := by have := HQ.out.symm.trans (pcQ_yes (by rw [HG.out, HS.out, HA.out, HB.out]; rfl)); injection this with a b; injection b with b c; exact ⟨a, b, c⟩
          subst e0 e1 e2
          have HT := hid (pl_wh (relB_pl HA.out))
          have HU := hid (pl_wh (relB_pl HB.out))
          have HLV := hid (schB_lv HZ.out HS.out).1
          have HP := hid (pcL_len l us ts)
          obtain ⟨ca25, fa25⟩ := id b4
          have ca26_0 := (b6.2 0 _ rfl).1
          have ca26_1 := (b6.2 1 _ rfl).1
          have ca26_2 := (b6.2 2 _ rfl).1
          have ca26_3 := (b6.2 3 _ rfl).1
          have ca26_4 := (b6.2 4 _ rfl).1
          have ca26_5 := (b6.2 5 _ rfl).1
          have ca27_0 := (b7.2 0 _ rfl).1
          have ca27_1 := (b7.2 1 _ rfl).1
          have ca27_2 := (b7.2 2 _ rfl).1
          have ca27_3 := (b7.2 3 _ rfl).1
          have ca27_4 := (b7.2 4 _ rfl).1
          have ca27_5 := (b7.2 5 _ rfl).1
          go_wp2_with fail
          clear ca25 fa25 ca26_0 ca26_1 ca26_2 ca26_3 ca26_4 ca26_5 ca27_0 ca27_1 ca27_2 ca27_3 ca27_4 ca27_5
          have ca1 := (b6.2 1 _ rfl).1
          have ca2 := (b7.2 1 _ rfl).1
          have kS := hid (show ∀ w', Keeps w22 w' → (w'.cell? ⟨w.heap.size + 1, 1, none⟩ = some (.slice Q1 n1 c1) ∧ w'.cell? ⟨w.heap.size + 1 + 1, 1, none⟩ = some (.slice Q2 n2 c2)) from fun w' k => ⟨cell_keeps ca1 k, cell_keeps ca2 k⟩)
          have hD := h'.keeps (kw.trans (keeps_d0 w22))
          have hpD := hp.keeps (kw.trans (keeps_d0 w22))
          have hrD := hr.keeps (kw.trans (keeps_d0 w22))
          go_region_held3 (fun w' => w'.cell? ⟨w.heap.size + 1, 1, none⟩ = some (.slice Q1 n1 c1) ∧ w'.cell? ⟨w.heap.size + 1 + 1, 1, none⟩ = some (.slice Q2 n2 c2)) (first | with_reducible exact kS.out _ (keeps_d0 w22) | with_reducible exact kS.out _ kW | go_keep)
            ((first | (go_at_call 52; (with_reducible refine (newIn_any (c := c2) (c9 := c1) hD HLV.out hrD hpD HU.out HT.out).mono ?_); rintro e wB ⟨A1, N1, C1, rfl, m1, kB⟩; have kW : Keeps w22 wB := keeps_d kB; replace m1 : Mine wB w22.heap.size wB.heap.size A1 N1 (pcL l us ts) := m1; clear kB) | (go_at_call 52; (with_reducible refine (newIn_any (c := c1) (c9 := c2) (h'.keeps (kw.trans kW)) HLV.out (hp.keeps (kw.trans kW)) (hr.keeps (kw.trans kW)) HT.out HU.out).mono ?_); rintro e wC ⟨A2, N2, C2, rfl, m2, kC⟩; have szB := kW.size; have szC := kC.size; replace m1 := m1.keeps kC; replace kW := kW.trans kC; clear kC)))
          clear kS hD hpD hrD ca1 ca2
          have szw := kw.size
          have HK := hid (kw.trans kW)
          clear kw kW b4 b6 b7
          go_wp2_with fail
          go_ret3
          exact ⟨A1, N1, C1, A2, N2, C2, _, _, _, _, rfl, by omega, m1, m2, HK.out⟩
set_option maxRecDepth 100000 in
set_option maxHeartbeats 6400000 in
theorem specPlanChanges_gen {A A' Q1 Q2 : Option Addr} {lo hi a c0 lo3 hi3 lo4 hi4 n1 c1 n2 c2 q cq : Nat} {un un' : Bool} {va x1 x2 x3 x4 vb y1 y2 y3 y4 : Int} {ps : List Int} {l : List VV} {ts us : List TT} {w : World} (h : Ints w lo hi A a ps) (h' : Sch w A' q cq l) (hp : Tabs true un w lo3 hi3 Q1 n1 ts) (hr : Tabs true un' w lo4 hi4 Q2 n2 us) :
    Calls Tryz.prog 19 #[.agg #[.slice A a c0], .slice A' q cq, .agg #[.int .i64 va, .slice Q1 n1 c1, .int .i64 x1, .int .i64 x2, .int .i64 x3, .int .i64 x4], .agg #[.int .i64 vb, .slice Q2 n2 c2, .int .i64 y1, .int .i64 y2, .int .i64 y3, .int .i64 y4]] w fun e w' => TwoI w (pcQ ps l (va, ts, x1, x2, x3, x4) (vb, us, y1, y2, y3, y4)).1 (pcQ ps l (va, ts, x1, x2, x3, x4) (vb, us, y1, y2, y3, y4)).2.1 (pcQ ps l (va, ts, x1, x2, x3, x4) (vb, us, y1, y2, y3, y4)).2.2 e w' := by
  obtain ⟨_, _, hz⟩ := h'.v
  have hq := hz.le
  have HZ := hid (Vars.len hz)
  obtain ⟨q0, q1, q2, HQ⟩ : ∃ q0 q1 q2, Hid (pcQ ps l (va, ts, x1, x2, x3, x4) (vb, us, y1, y2, y3, y4) = (q0, q1, q2)) := ⟨_, _, _, rfl⟩
  rw [HQ.out]
  go_enter Tryz.func19, Tryz.ntmps19
  have kw := keeps_refl w
  replace kw := Keeps.trans kw (keeps_alloc w (.cells #[.slice A a c0] 32))
  have b4 : B1 (w.alloc (.cells #[.slice A a c0] 32)) w.heap.size (.slice A a c0) := B1.new' (by simp)
  replace b4 := b4.keeps (keeps_alloc (w.alloc (.cells #[.slice A a c0] 32)) (.cells #[.int .i64 va, .slice Q1 n1 c1, .int .i64 x1, .int .i64 x2, .int .i64 x3, .int .i64 x4] 50))
  replace kw := Keeps.trans kw (keeps_alloc (w.alloc (.cells #[.slice A a c0] 32)) (.cells #[.int .i64 va, .slice Q1 n1 c1, .int .i64 x1, .int .i64 x2, .int .i64 x3, .int .i64 x4] 50))
  have b6 : Bl ((w.alloc (.cells #[.slice A a c0] 32)).alloc (.cells #[.int .i64 va, .slice Q1 n1 c1, .int .i64 x1, .int .i64 x2, .int .i64 x3, .int .i64 x4] 50)) (w.heap.size + 1) [.int .i64 va, .slice Q1 n1 c1, .int .i64 x1, .int .i64 x2, .int .i64 x3, .int .i64 x4] := Bl.new' (by simp) (by simp)
  replace b4 := b4.keeps (keeps_alloc ((w.alloc (.cells #[.slice A a c0] 32)).alloc (.cells #[.int .i64 va, .slice Q1 n1 c1, .int .i64 x1, .int .i64 x2, .int .i64 x3, .int .i64 x4] 50)) (.cells #[.int .i64 vb, .slice Q2 n2 c2, .int .i64 y1, .int .i64 y2, .int .i64 y3, .int .i64 y4] 50))
  replace b6 := b6.keeps (keeps_alloc ((w.alloc (.cells #[.slice A a c0] 32)).alloc (.cells #[.int .i64 va, .slice Q1 n1 c1, .int .i64 x1, .int .i64 x2, .int .i64 x3, .int .i64 x4] 50)) (.cells #[.int .i64 vb, .slice Q2 n2 c2, .int .i64 y1, .int .i64 y2, .int .i64 y3, .int .i64 y4] 50))
  replace kw := Keeps.trans kw (keeps_alloc ((w.alloc (.cells #[.slice A a c0] 32)).alloc (.cells #[.int .i64 va, .slice Q1 n1 c1, .int .i64 x1, .int .i64 x2, .int .i64 x3, .int .i64 x4] 50)) (.cells #[.int .i64 vb, .slice Q2 n2 c2, .int .i64 y1, .int .i64 y2, .int .i64 y3, .int .i64 y4] 50))
  have b7 : Bl (((w.alloc (.cells #[.slice A a c0] 32)).alloc (.cells #[.int .i64 va, .slice Q1 n1 c1, .int .i64 x1, .int .i64 x2, .int .i64 x3, .int .i64 x4] 50)).alloc (.cells #[.int .i64 vb, .slice Q2 n2 c2, .int .i64 y1, .int .i64 y2, .int .i64 y3, .int .i64 y4] 50)) (w.heap.size + 1 + 1) [.int .i64 vb, .slice Q2 n2 c2, .int .i64 y1, .int .i64 y2, .int .i64 y3, .int .i64 y4] := Bl.new' (by simp) (by simp)
  obtain ⟨ca1, fa1⟩ := id b4
  have ca2_0 := (b6.2 0 _ rfl).1
  have ca2_1 := (b6.2 1 _ rfl).1
  have ca2_2 := (b6.2 2 _ rfl).1
  have ca2_3 := (b6.2 3 _ rfl).1
  have ca2_4 := (b6.2 4 _ rfl).1
  have ca2_5 := (b6.2 5 _ rfl).1
  have ca3_0 := (b7.2 0 _ rfl).1
  have ca3_1 := (b7.2 1 _ rfl).1
  have ca3_2 := (b7.2 2 _ rfl).1
  have ca3_3 := (b7.2 3 _ rfl).1
  have ca3_4 := (b7.2 4 _ rfl).1
  have ca3_5 := (b7.2 5 _ rfl).1
  go_wp2_with fail
  clear ca1 fa1 ca2_0 ca2_1 ca2_2 ca2_3 ca2_4 ca2_5 ca3_0 ca3_1 ca3_2 ca3_3 ca3_4 ca3_5
  obtain ⟨pH1, H1⟩ : ∃ pB, Hid ((geoB ps && schB l) = pB) := ⟨_, rfl⟩
  refine (nInput_any (h.keeps kw) (h'.keeps kw)).mono ?_
  rintro e w4 ⟨rfl, k4⟩
  rw [H1.out]
  replace b4 := b4.keeps k4
  replace b6 := b6.keeps k4
  replace b7 := b7.keeps k4
  replace kw := Keeps.trans kw k4
  have lt5 := b7.lt
  have sz6 := kw.size
  clear k4
  cases pH1
  · obtain ⟨e0, e1, e2⟩ : q0 = [] ∧ q1 = [] ∧ q2 = false := by have := HQ.out.symm.trans (pcQ_no (by rw [H1.out]; rfl)); injection this with a b; injection b with b c; exact ⟨a, b, c⟩
    subst e0 e1 e2
    obtain ⟨ca7, fa7⟩ := id b4
    have ca8_0 := (b6.2 0 _ rfl).1
    have ca8_1 := (b6.2 1 _ rfl).1
    have ca8_2 := (b6.2 2 _ rfl).1
    have ca8_3 := (b6.2 3 _ rfl).1
    have ca8_4 := (b6.2 4 _ rfl).1
    have ca8_5 := (b6.2 5 _ rfl).1
    have ca9_0 := (b7.2 0 _ rfl).1
    have ca9_1 := (b7.2 1 _ rfl).1
    have ca9_2 := (b7.2 2 _ rfl).1
    have ca9_3 := (b7.2 3 _ rfl).1
    have ca9_4 := (b7.2 4 _ rfl).1
    have ca9_5 := (b7.2 5 _ rfl).1
    go_wp2_with fail
    clear ca7 fa7 ca8_0 ca8_1 ca8_2 ca8_3 ca8_4 ca8_5 ca9_0 ca9_1 ca9_2 ca9_3 ca9_4 ca9_5
    go_ret3
    exact TwoI.no kw
  · skip
    have HG := hid (show geoB ps = true by have := H1.out; simp only [Bool.and_eq_true] at this; exact this.1)
    have HS := hid (show schB l = true by have := H1.out; simp only [Bool.and_eq_true] at this; exact this.2)
    obtain ⟨ca7, fa7⟩ := id b4
    have ca8_0 := (b6.2 0 _ rfl).1
    have ca8_1 := (b6.2 1 _ rfl).1
    have ca8_2 := (b6.2 2 _ rfl).1
    have ca8_3 := (b6.2 3 _ rfl).1
    have ca8_4 := (b6.2 4 _ rfl).1
    have ca8_5 := (b6.2 5 _ rfl).1
    have ca9_0 := (b7.2 0 _ rfl).1
    have ca9_1 := (b7.2 1 _ rfl).1
    have ca9_2 := (b7.2 2 _ rfl).1
    have ca9_3 := (b7.2 3 _ rfl).1
    have ca9_4 := (b7.2 4 _ rfl).1
    have ca9_5 := (b7.2 5 _ rfl).1
    go_wp2_with fail
    clear ca7 fa7 ca8_0 ca8_1 ca8_2 ca8_3 ca8_4 ca8_5 ca9_0 ca9_1 ca9_2 ca9_3 ca9_4 ca9_5
    obtain ⟨pHA, HA⟩ : ∃ pB, Hid (relB ps l (va, ts, x1, x2, x3, x4) = pB) := ⟨_, rfl⟩
    refine (rlGood_any (c := c1) (h.keeps kw) (h'.keeps kw) (hp.keeps kw) HG.out HS.out).mono ?_
    rintro e w10 ⟨rfl, k10⟩
    rw [HA.out]
    replace b4 := b4.keeps k10
    replace b6 := b6.keeps k10
    replace b7 := b7.keeps k10
    replace kw := Keeps.trans kw k10
    have lt11 := b7.lt
    have sz12 := kw.size
    clear k10
    cases pHA
    · obtain ⟨e0, e1, e2⟩ : q0 = [] ∧ q1 = [] ∧ q2 = false := by have := HQ.out.symm.trans (pcQ_no (by rw [HG.out, HS.out, HA.out]; rfl)); injection this with a b; injection b with b c; exact ⟨a, b, c⟩
      subst e0 e1 e2
      obtain ⟨ca13, fa13⟩ := id b4
      have ca14_0 := (b6.2 0 _ rfl).1
      have ca14_1 := (b6.2 1 _ rfl).1
      have ca14_2 := (b6.2 2 _ rfl).1
      have ca14_3 := (b6.2 3 _ rfl).1
      have ca14_4 := (b6.2 4 _ rfl).1
      have ca14_5 := (b6.2 5 _ rfl).1
      have ca15_0 := (b7.2 0 _ rfl).1
      have ca15_1 := (b7.2 1 _ rfl).1
      have ca15_2 := (b7.2 2 _ rfl).1
      have ca15_3 := (b7.2 3 _ rfl).1
      have ca15_4 := (b7.2 4 _ rfl).1
      have ca15_5 := (b7.2 5 _ rfl).1
      go_wp2_with fail
      clear ca13 fa13 ca14_0 ca14_1 ca14_2 ca14_3 ca14_4 ca14_5 ca15_0 ca15_1 ca15_2 ca15_3 ca15_4 ca15_5
      go_ret3
      exact TwoI.no kw
    · skip
      obtain ⟨ca13, fa13⟩ := id b4
      have ca14_0 := (b6.2 0 _ rfl).1
      have ca14_1 := (b6.2 1 _ rfl).1
      have ca14_2 := (b6.2 2 _ rfl).1
      have ca14_3 := (b6.2 3 _ rfl).1
      have ca14_4 := (b6.2 4 _ rfl).1
      have ca14_5 := (b6.2 5 _ rfl).1
      have ca15_0 := (b7.2 0 _ rfl).1
      have ca15_1 := (b7.2 1 _ rfl).1
      have ca15_2 := (b7.2 2 _ rfl).1
      have ca15_3 := (b7.2 3 _ rfl).1
      have ca15_4 := (b7.2 4 _ rfl).1
      have ca15_5 := (b7.2 5 _ rfl).1
      go_wp2_with fail
      clear ca13 fa13 ca14_0 ca14_1 ca14_2 ca14_3 ca14_4 ca14_5 ca15_0 ca15_1 ca15_2 ca15_3 ca15_4 ca15_5
      obtain ⟨pHB, HB⟩ : ∃ pB, Hid (relB ps l (vb, us, y1, y2, y3, y4) = pB) := ⟨_, rfl⟩
      refine (rlGood_any (c := c2) (h.keeps kw) (h'.keeps kw) (hr.keeps kw) HG.out HS.out).mono ?_
      rintro e w16 ⟨rfl, k16⟩
      rw [HB.out]
      replace b4 := b4.keeps k16
      replace b6 := b6.keeps k16
      replace b7 := b7.keeps k16
      replace kw := Keeps.trans kw k16
      have lt17 := b7.lt
      have sz18 := kw.size
      clear k16
      cases pHB
      · obtain ⟨e0, e1, e2⟩ : q0 = [] ∧ q1 = [] ∧ q2 = false := by have := HQ.out.symm.trans (pcQ_no (by rw [HG.out, HS.out, HA.out, HB.out]; rfl)); injection this with a b; injection b with b c; exact ⟨a, b, c⟩
        subst e0 e1 e2
        obtain ⟨ca19, fa19⟩ := id b4
        have ca20_0 := (b6.2 0 _ rfl).1
        have ca20_1 := (b6.2 1 _ rfl).1
        have ca20_2 := (b6.2 2 _ rfl).1
        have ca20_3 := (b6.2 3 _ rfl).1
        have ca20_4 := (b6.2 4 _ rfl).1
        have ca20_5 := (b6.2 5 _ rfl).1
        have ca21_0 := (b7.2 0 _ rfl).1
        have ca21_1 := (b7.2 1 _ rfl).1
        have ca21_2 := (b7.2 2 _ rfl).1
        have ca21_3 := (b7.2 3 _ rfl).1
        have ca21_4 := (b7.2 4 _ rfl).1
        have ca21_5 := (b7.2 5 _ rfl).1
        go_wp2_with fail
        clear ca19 fa19 ca20_0 ca20_1 ca20_2 ca20_3 ca20_4 ca20_5 ca21_0 ca21_1 ca21_2 ca21_3 ca21_4 ca21_5
        go_ret3
        exact TwoI.no kw
      · skip
        obtain ⟨e0, e1, e2⟩ : q0 = pcL l us ts ∧ q1 = pcL l ts us ∧ q2 = true := by have := HQ.out.symm.trans (pcQ_yes (by rw [HG.out, HS.out, HA.out, HB.out]; rfl)); injection this with a b; injection b with b c; exact ⟨a, b, c⟩
        subst e0 e1 e2
        have HT := hid (pl_wh (relB_pl HA.out))
        have HU := hid (pl_wh (relB_pl HB.out))
        have HLV := hid (schB_lv HZ.out HS.out).1
        have HP := hid (pcL_len l us ts)
        obtain ⟨ca19, fa19⟩ := id b4
        have ca20_0 := (b6.2 0 _ rfl).1
        have ca20_1 := (b6.2 1 _ rfl).1
        have ca20_2 := (b6.2 2 _ rfl).1
        have ca20_3 := (b6.2 3 _ rfl).1
        have ca20_4 := (b6.2 4 _ rfl).1
        have ca20_5 := (b6.2 5 _ rfl).1
        have ca21_0 := (b7.2 0 _ rfl).1
        have ca21_1 := (b7.2 1 _ rfl).1
        have ca21_2 := (b7.2 2 _ rfl).1
        have ca21_3 := (b7.2 3 _ rfl).1
        have ca21_4 := (b7.2 4 _ rfl).1
        have ca21_5 := (b7.2 5 _ rfl).1
        go_wp2_with fail
        clear ca19 fa19 ca20_0 ca20_1 ca20_2 ca20_3 ca20_4 ca20_5 ca21_0 ca21_1 ca21_2 ca21_3 ca21_4 ca21_5
        have ca1 := (b6.2 1 _ rfl).1
        have ca2 := (b7.2 1 _ rfl).1
        have kS := hid (show ∀ w', Keeps w16 w' → (w'.cell? ⟨w.heap.size + 1, 1, none⟩ = some (.slice Q1 n1 c1) ∧ w'.cell? ⟨w.heap.size + 1 + 1, 1, none⟩ = some (.slice Q2 n2 c2)) from fun w' k => ⟨cell_keeps ca1 k, cell_keeps ca2 k⟩)
        have hD := h'.keeps (kw.trans (keeps_d0 w16))
        have hpD := hp.keeps (kw.trans (keeps_d0 w16))
        have hrD := hr.keeps (kw.trans (keeps_d0 w16))
        go_region_held3 (fun w' => w'.cell? ⟨w.heap.size + 1, 1, none⟩ = some (.slice Q1 n1 c1) ∧ w'.cell? ⟨w.heap.size + 1 + 1, 1, none⟩ = some (.slice Q2 n2 c2)) (first | with_reducible exact kS.out _ (keeps_d0 w16) | with_reducible exact kS.out _ kW | go_keep)
          ((first | (go_at_call 55; (with_reducible refine (rlMissing_any (c := c2) (c9 := c1) hD HLV.out hrD hpD HU.out HT.out).mono ?_); rintro e wB ⟨A1, N1, C1, rfl, m1, kB⟩; have kW : Keeps w16 wB := keeps_d kB; replace m1 : Mine wB w16.heap.size wB.heap.size A1 N1 (pcL l us ts) := m1; clear kB) | (go_at_call 55; (with_reducible refine (rlMissing_any (c := c1) (c9 := c2) (h'.keeps (kw.trans kW)) HLV.out (hp.keeps (kw.trans kW)) (hr.keeps (kw.trans kW)) HT.out HU.out).mono ?_); rintro e wC ⟨A2, N2, C2, rfl, m2, kC⟩; have szB := kW.size; have szC := kC.size; replace m1 := m1.keeps kC; replace kW := kW.trans kC; clear kC)))
        clear kS hD hpD hrD ca1 ca2
        have szw := kw.size
        have HK := hid (kw.trans kW)
        clear kw kW b4 b6 b7
        go_wp2_with fail
        go_ret3
        exact ⟨A1, N1, C1, A2, N2, C2, _, _, _, _, rfl, by omega, m1, m2, HK.out⟩
end Go.Proofs.YtlkjhkkfdmjfcaaGreatDoor
namespace Go.Proofs.YtlkjhkkfdmjfcaaGreatDoor
open Go.RowKit
set_option linter.unusedVariables false
set_option linter.unusedSimpArgs false
/-- The slice (A, n) reads as bytes, in blocks below hi. -/
def Bytes (w : World) (hi : Nat) (A : Option Addr) (n : Nat) : Prop :=
  n ≤ 9223372036854775807 ∧ hi ≤ w.heap.size ∧ (0 < n → ∃ b off, A = some ⟨b, off, none⟩ ∧ b < hi ∧ ∀ j, j < n → ∃ x : Int, 0 ≤ x ∧ x ≤ 255 ∧ w.cell? ⟨b, off + j, none⟩ = some (.int .u8 x))
theorem Bytes.fr {w w' : World} {hi n l h' : Nat} {A : Option Addr} (h : Bytes w hi A n) (hf : Fr l h' w w') (ho : hi ≤ l ∨ h' ≤ l) : Bytes w' hi A n :=
  ⟨h.1, Nat.le_trans h.2.1 hf.size, fun hn => by
    obtain ⟨b, off, e, hb, hc⟩ := h.2.2 hn
    refine ⟨b, off, e, hb, fun j hj => ?_⟩
    obtain ⟨x, h0, h1, h2⟩ := hc j hj
    have := h.2.1
    exact ⟨x, h0, h1, (hf.cell (p := ⟨b, off + j, none⟩) (by show b < _; omega) (by show b < _ ∨ _ ≤ b; omega)).trans h2⟩⟩
theorem Bytes.keeps {w w' : World} {hi n : Nat} {A : Option Addr} (h : Bytes w hi A n) (k : Keeps w w') : Bytes w' hi A n := h.fr (Fr.of_keeps k 0 0) (by omega)
/-- A cursor in block g that has drawn at most T times. -/
structure Cur (w : World) (g : Nat) (T : Int) : Prop where
  ex : ∃ (A : Option Addr) (n c : Nat) (k s : Int), Bytes w g A n ∧ w.cell? ⟨g, 0, none⟩ = some (.slice A n c) ∧ w.cell? ⟨g, 1, none⟩ = some (.int .i64 k) ∧ w.cell? ⟨g, 2, none⟩ = some (.int .u64 s) ∧
    w.frozen? ⟨g, 1, none⟩ = false ∧ w.frozen? ⟨g, 2, none⟩ = false ∧ (0 ≤ k ∧ k ≤ T) ∧ (0 ≤ s ∧ s ≤ 18446744073709551615)
theorem Cur.lt {w : World} {g : Nat} {T : Int} (h : Cur w g T) : g < w.heap.size := by
  obtain ⟨A, n, c, k, s, _, h1, _⟩ := h; exact World.block_lt_of_cell? w _ h1
theorem Cur.fr {w w' : World} {g l h' : Nat} {T : Int} (h : Cur w g T) (hf : Fr l h' w w') (ho : g < l ∨ (h' ≤ g ∧ h' ≤ l)) : Cur w' g T := by
  have hl := h.lt
  obtain ⟨A, n, c, k, s, h0, h1, h2, h3, h4, h5, h6, h7⟩ := h
  have e := hf.block g hl (by omega)
  exact ⟨A, n, c, k, s, h0.fr hf (by omega), (World.cell?_of_block (w := w) e).trans h1, (World.cell?_of_block (w := w) e).trans h2, (World.cell?_of_block (w := w) e).trans h3, (World.frozen?_of_block (w := w) e).trans h4, (World.frozen?_of_block (w := w) e).trans h5, h6, h7⟩
theorem Cur.keeps {w w' : World} {g : Nat} {T : Int} (h : Cur w g T) (k : Keeps w w') : Cur w' g T := h.fr (Fr.of_keeps k 0 0) (by omega)
theorem Cur.mono {w : World} {g : Nat} {T T' : Int} (h : Cur w g T) (hT : T ≤ T') : Cur w g T' := by
  obtain ⟨A, n, c, k, s, h0, h1, h2, h3, h4, h5, h6, h7⟩ := h
  exact ⟨A, n, c, k, s, h0, h1, h2, h3, h4, h5, by omega, h7⟩
theorem u64_wrap_bd (v : Int) : 0 ≤ IntKind.u64.wrap v ∧ IntKind.u64.wrap v ≤ 18446744073709551615 := by rw [IntKind.wrap_u64]; omega
theorem and255 (E : Int) (h0 : 0 ≤ E ∧ E ≤ 18446744073709551615) : 0 ≤ wrap64 (bits BinOp.and IntKind.u64 (E / 1099511627776) 255) ∧ wrap64 (bits BinOp.and IntKind.u64 (E / 1099511627776) 255) ≤ 255 := by
  have h := bits_and_u64_nat (E / 1099511627776).toNat 255 (by omega) (by omega)
  rw [Int.toNat_of_nonneg (by omega)] at h
  have h2 : (E / 1099511627776).toNat &&& 255 ≤ 255 := Nat.and_le_right
  have h3 : bits BinOp.and IntKind.u64 (E / 1099511627776) 255 = (((E / 1099511627776).toNat &&& 255 : Nat) : Int) := h
  rw [h3]
  unfold wrap64
  omega
/-- Behind a step of the cursor. -/
theorem Cur.step {w : World} {g n c : Nat} {A : Option Addr} {T k s : Int} (h0 : Bytes w g A n) (h1 : w.cell? ⟨g, 0, none⟩ = some (.slice A n c)) (h2 : w.cell? ⟨g, 1, none⟩ = some (.int .i64 k)) (h3 : w.cell? ⟨g, 2, none⟩ = some (.int .u64 s))
    (h4 : w.frozen? ⟨g, 1, none⟩ = false) (h5 : w.frozen? ⟨g, 2, none⟩ = false) (h6 : 0 ≤ k ∧ k ≤ T) (a b : Nat) (s' : Int) (hs : 0 ≤ s' ∧ s' ≤ 18446744073709551615) :
    Cur ((((w.drewN a).setCell ⟨g, 1, none⟩ (.int .i64 (k + 1))).setCell ⟨g, 2, none⟩ (.int .u64 s')).drewN b) g (T + 1) ∧ Fr g (g + 1) w ((((w.drewN a).setCell ⟨g, 1, none⟩ (.int .i64 (k + 1))).setCell ⟨g, 2, none⟩ (.int .u64 s')).drewN b) := by
  have hf : Fr g (g + 1) w (((w.drewN a).setCell ⟨g, 1, none⟩ (.int .i64 (k + 1))).setCell ⟨g, 2, none⟩ (.int .u64 s')) := (((Fr.refl _ _ _).drewN a).setCell (p := ⟨g, 1, none⟩) (Nat.le_refl _) (Nat.lt_succ_self _) _).setCell (p := ⟨g, 2, none⟩) (Nat.le_refl _) (Nat.lt_succ_self _) _
  have hC : Cur (((w.drewN a).setCell ⟨g, 1, none⟩ (.int .i64 (k + 1))).setCell ⟨g, 2, none⟩ (.int .u64 s')) g (T + 1) := by
    refine ⟨A, n, c, k + 1, s', h0.fr hf (.inl (Nat.le_refl _)), ?_, ?_, ?_, by simpa using h4, by simpa using h5, by omega, hs⟩
    · rw [World.cell?_setCell_other _ _ _ _ (by simp), World.cell?_setCell_other _ _ _ _ (by simp)]; exact h1
    · rw [World.cell?_setCell_other _ _ _ _ (by simp)]; exact World.cell?_setCell_same _ _ _ (show (w.drewN a).cell? _ = _ from h2)
    · exact World.cell?_setCell_same _ _ _ ((World.cell?_setCell_other _ _ _ _ (by simp)).trans (show (w.drewN a).cell? _ = _ from h3))
  exact ⟨hC.keeps (Keeps.drewN _ b), hf.drewN b⟩
set_option maxRecDepth 100000 in
set_option maxHeartbeats 1600000 in
theorem next_any {g : Nat} {T : Int} {w : World} (h : Cur w g T) (hT : T ≤ 1000000000000000) :
    Calls Tryz.prog 116 #[.pointer (some ⟨g, 0, none⟩)] w fun e w' => ∃ x, e = .returned (.int .i64 x) ∧ (0 ≤ x ∧ x ≤ 255) ∧ Cur w' g (T + 1) ∧ Fr g (g + 1) w w' := by
  obtain ⟨A, n, c, k, s, h0, h1, h2, h3, h4, h5, ⟨k0, k1⟩, h7⟩ := h
  have hn := h0.1
  by_cases hlt : k < n
  · obtain ⟨j, rfl⟩ : ∃ j : Nat, k = j := ⟨k.toNat, by omega⟩
    obtain ⟨b, off, rfl, hb, hc⟩ := h0.2.2 (by omega)
    obtain ⟨x, x0, x1, hx⟩ := hc j (by omega)
    have hst := hid (Cur.step (T := T) h0 h1 h2 h3 h4 h5 ⟨k0, k1⟩)
    have hle : (j : Int) + 1 ≤ (n : Int) := by omega
    go_enter Tryz.func116, Tryz.ntmps116
    go_wp2_with fail
    go_quiet (fail)
    go_wp2_with fail
    go_quiet (fail)
    go_wp2_with fail
    go_quiet (fail)
    go_wp2
    go_ret
    exact ⟨x, rfl, ⟨x0, x1⟩, (hst.out _ _ _ (u64_wrap_bd _)).1, (hst.out _ _ _ (u64_wrap_bd _)).2⟩
  · have hst := hid (Cur.step (T := T) h0 h1 h2 h3 h4 h5 ⟨k0, k1⟩)
    have hle : ¬ (k + 1 ≤ (n : Int)) := by omega
    go_enter Tryz.func116, Tryz.ntmps116
    go_wp2_with fail
    go_quiet (fail)
    go_wp2_with fail
    go_quiet (fail)
    go_wp2
    go_ret
    exact ⟨_, rfl, and255 _ (u64_wrap_bd _), (hst.out _ _ _ (u64_wrap_bd _)).1, (hst.out _ _ _ (u64_wrap_bd _)).2⟩
set_option maxRecDepth 100000 in
set_option maxHeartbeats 1600000 in
theorem pick_any {g : Nat} {T n : Int} {w : World} (h : Cur w g T) (hT : T ≤ 999999999999999) (hn : n ≤ 65536) :
    Calls Tryz.prog 76 #[.pointer (some ⟨g, 0, none⟩), .int .i64 n] w fun e w' => ∃ x, e = .returned (.int .i64 x) ∧ (0 ≤ x ∧ (x < n ∨ n ≤ 1 ∧ x = 0)) ∧ Cur w' g (T + 2) ∧ Fr g (g + 1) w w' := by
  by_cases h1 : n ≤ 1
  · go_enter Tryz.func76, Tryz.ntmps76
    go_wp2
    go_ret
    exact ⟨0, rfl, by omega, h.mono (by omega), Fr.refl _ _ _⟩
  · have hn0 : ¬ n = 0 := by omega
    have HM := hid (fun (y : Int) (hy : 0 ≤ y) => (show 0 ≤ y % n ∧ y % n < n from ⟨Int.emod_nonneg _ (by omega), Int.emod_lt_of_pos _ (by omega)⟩))
    by_cases h2 : 200 < n
    · go_enter Tryz.func76, Tryz.ntmps76
      go_wp2_with fail
      refine (next_any h (by omega)).mono ?_
      rintro e w1 ⟨x, rfl, ⟨x0, x1⟩, hc, hf⟩
      go_wp2_with fail
      refine (next_any hc (by omega)).mono ?_
      rintro e w2 ⟨y, rfl, ⟨y0, y1⟩, hc2, hf2⟩
      have hm := HM.out (x * 256 + y) (by omega)
      go_wp2
      go_ret
      exact ⟨_, rfl, by omega, hc2.mono (by omega), hf.trans hf2⟩
    · go_enter Tryz.func76, Tryz.ntmps76
      go_wp2_with fail
      refine (next_any h (by omega)).mono ?_
      rintro e w1 ⟨x, rfl, ⟨x0, x1⟩, hc, hf⟩
      have hm := HM.out x (by omega)
      go_wp2
      go_ret
      exact ⟨_, rfl, by omega, hc.mono (by omega), hf⟩
set_option maxHeartbeats 1600000 in
theorem one_any {g : Nat} {T n : Int} {w : World} (h : Cur w g T) (hT : T ≤ 999999999999999) (hn : n ≤ 65536) :
    Calls Tryz.prog 48 #[.pointer (some ⟨g, 0, none⟩), .int .i64 n] w fun e w' => ∃ b, e = .returned (.bool b) ∧ Cur w' g (T + 2) ∧ Fr g (g + 1) w w' := by
  go_enter Tryz.func48, Tryz.ntmps48
  go_wp2_with fail
  refine (pick_any h hT hn).mono ?_
  rintro e w1 ⟨x, rfl, _, hc, hf⟩
  go_wp2
  go_ret
  exact ⟨_, rfl, hc, hf⟩
set_option maxHeartbeats 1600000 in
theorem among_any {g : Nat} {T : Int} {lo hi n c : Nat} {A : Option Addr} {xs : List Int} {w : World} (h : Cur w g T) (hT : T ≤ 999999999999999) (hx : Ints w lo hi A n xs) (hg : g < lo) (h0 : 0 < n) (hn : n ≤ 65536) :
    Calls Tryz.prog 113 #[.pointer (some ⟨g, 0, none⟩), .slice A n c] w fun e w' => ∃ x j, e = .returned (.int .i64 x) ∧ j < n ∧ x = xs.getD j 0 ∧ Cur w' g (T + 2) ∧ Fr g (g + 1) w w' := by
  go_enter Tryz.func113, Tryz.ntmps113
  go_wp2_with fail
  refine (pick_any h hT (by omega)).mono ?_
  rintro e w1 ⟨y, rfl, hy, hc, hf⟩
  obtain ⟨j, rfl⟩ : ∃ j : Nat, y = j := ⟨y.toNat, by omega⟩
  have hj : j < n := by omega
  have hj1 : (j : Int) < (n : Int) := by omega
  obtain ⟨b, off, x, rfl, _, _, hcx, hxx⟩ := (hx.fr hf (by omega)).at_ hj
  go_wp2
  go_ret
  exact ⟨x, j, rfl, hj, hxx.out, hc, hf⟩
end Go.Proofs.YtlkjhkkfdmjfcaaGreatDoor
namespace Go.Proofs.YtlkjhkkfdmjfcaaGreatDoor
open Go.RowKit
set_option linter.unusedVariables false
set_option linter.unusedSimpArgs false
theorem Fr.setNew {lo hi : Nat} {a w : World} (h : Fr lo hi a w) {p : Addr} (hp : a.heap.size ≤ p.block) (u : Value) : Fr lo hi a (w.setCell p u) :=
  ⟨h.os, h.tape, h.output, Nat.le_trans h.size (by simp [World.setCell]), fun k hk ho => by rw [Below.heap_setCell _ _ _ _ (by omega)]; exact h.block k hk ho⟩
theorem Fr.keeps {lo hi : Nat} {a b c : World} (h : Fr lo hi a b) (k : Keeps b c) : Fr lo hi a c := h.trans (Fr.of_keeps k lo hi)
/-- A literal slice of ints. -/
theorem lit_ints (w : World) (xs : List Int) (hn : xs.length ≤ 67108864) : Ints (w.alloc (.cells (xs.map (Value.int .i64)).toArray 3)) w.heap.size (w.heap.size + 1) (some ⟨w.heap.size, 0, none⟩) xs.length xs := by
  have ho : Own (w.alloc (.cells (xs.map (Value.int .i64)).toArray 3)) w.heap.size xs := heap_alloc_new w _
  exact (ho.mine rfl hn (Nat.le_refl _) (Nat.lt_succ_self _) (by simp)).1
/-- A pair of numbers that are not great. -/
def Sm (p q : Int) : Prop := (-2000000000 ≤ p ∧ p ≤ 2000000000) ∧ (-2000000000 ≤ q ∧ q ≤ 2000000000)
theorem Cur.new {w : World} {hi n c : Nat} {A : Option Addr} {t : TypeId} (h : Bytes w hi A n) : Cur (w.alloc (.cells #[.slice A n c, .int .i64 0, .int .u64 0] t)) w.heap.size 0 := by
  have hb : Bytes w w.heap.size A n := ⟨h.1, Nat.le_refl _, fun hn => by obtain ⟨b, off, e, h1, h2⟩ := h.2.2 hn; exact ⟨b, off, e, Nat.lt_of_lt_of_le h1 h.2.1, h2⟩⟩
  have hh := heap_alloc_new w (.cells #[.slice A n c, .int .i64 0, .int .u64 0] t)
  have hk : ∀ j v, #[Value.slice A n c, .int .i64 0, .int .u64 0][j]? = some v → (w.alloc (.cells #[.slice A n c, .int .i64 0, .int .u64 0] t)).cell? ⟨w.heap.size, j, none⟩ = some v := fun j v hv => by rw [cell_of_row _ _ j _ _ _ hh]; exact hv
  exact ⟨A, n, c, 0, 0, hb.keeps (keeps_alloc _ _), hk 0 _ rfl, hk 1 _ rfl, hk 2 _ rfl, by simp only [World.frozen?, hh]; simp, by simp only [World.frozen?, hh]; simp, by omega, by omega⟩
end Go.Proofs.YtlkjhkkfdmjfcaaGreatDoor
namespace Go.Proofs.YtlkjhkkfdmjfcaaGreatDoor
open Go.RowKit Go.Sort
set_option linter.unusedVariables false
set_option linter.unusedSimpArgs false
/-- What a drawing function that hands back a loss leaves. -/
def DrawsLo (w : World) (g : Nat) (T : Int) (e : Ending) (w' : World) : Prop := ∃ a b c d, e = .returned (.agg #[.int .i64 a, .int .i64 b, .int .i64 c, .int .i64 d]) ∧ Cur w' g T ∧ Fr g (g + 1) w w'
set_option maxRecDepth 100000 in
set_option maxHeartbeats 3200000 in
theorem loss_any {g : Nat} {T : Int} {w : World} (h : Cur w g T) (hT : T ≤ 600000000000000) :
    Calls Tryz.prog 47 #[.pointer (some ⟨g, 0, none⟩)] w (DrawsLo w g (T + 8)) := by
  have lg := h.lt
  go_enter Tryz.func47, Tryz.ntmps47
  have f : Fr g (g + 1) w w := Fr.refl _ _ _
  have hc := h
  replace f := f.keeps (keeps_alloc w (.cells #[.int .i64 0, .int .i64 0, .int .i64 0, .int .i64 0] 48))
  replace hc := hc.keeps (keeps_alloc w (.cells #[.int .i64 0, .int .i64 0, .int .i64 0, .int .i64 0] 48))
  have b2 : Bl (w.alloc (.cells #[.int .i64 0, .int .i64 0, .int .i64 0, .int .i64 0] 48)) w.heap.size [.int .i64 0, .int .i64 0, .int .i64 0, .int .i64 0] := Bl.new' (by simp) (by simp)
  go_wp2_with fail
  refine (pick_any hc (by omega) (by omega)).mono ?_
  rintro e w1 ⟨x, rfl, hx, hn, ff⟩
  replace f := f.trans ff
  clear hc
  have hc := hn
  replace b2 := b2.fr ff (by first | omega | (simp; omega))
  clear ff hn
  have sz1 := f.size
  have lt1 := b2.lt
  go_wp2_with fail
  refine (pick_any hc (by omega) (by omega)).mono ?_
  rintro e w2 ⟨y, rfl, hy, hn, ff⟩
  replace f := f.trans ff
  clear hc
  have hc := hn
  replace b2 := b2.fr ff (by first | omega | (simp; omega))
  clear ff hn
  have sz2 := f.size
  have lt2 := b2.lt
  go_wp2_with fail
  obtain ⟨r1, r2, r3, HS⟩ : ∃ r1 r2 r3, Hid (mkF (1 + x + y) (1 + x) = (r1, r2, r3)) := ⟨_, _, _, rfl⟩
  refine (fMake_any (n := 1 + x + y) (d := 1 + x) (by omega) (by omega)).mono ?_
  rintro e w3 ⟨rfl, kk⟩
  replace f := f.keeps kk
  replace hc := hc.keeps kk
  replace b2 := b2.keeps kk
  clear kk
  have sz3 := f.size
  have lt3 := b2.lt
  rw [HS.out]
  replace f := f.keeps (keeps_alloc w3 (.cells #[.int .i64 r1, .int .i64 r2] 46))
  replace hc := hc.keeps (keeps_alloc w3 (.cells #[.int .i64 r1, .int .i64 r2] 46))
  replace b2 := b2.keeps (keeps_alloc w3 (.cells #[.int .i64 r1, .int .i64 r2] 46))
  have b4 : Bx (w3.alloc (.cells #[.int .i64 r1, .int .i64 r2] 46)) w3.heap.size r1 r2 := Bx.new' (by simp)
  go_wp2_with fail
  refine (pick_any hc (by omega) (by omega)).mono ?_
  rintro e w4 ⟨x2, rfl, hx2, hn, ff⟩
  replace f := f.trans ff
  clear hc
  have hc := hn
  replace b2 := b2.fr ff (by first | omega | (simp; omega))
  replace b4 := b4.fr ff (by first | omega | (simp; omega))
  clear ff hn
  have sz4 := f.size
  have lt4 := b4.lt
  go_wp2_with fail
  refine (pick_any hc (by omega) (by omega)).mono ?_
  rintro e w5 ⟨y2, rfl, hy2, hn, ff⟩
  replace f := f.trans ff
  clear hc
  have hc := hn
  replace b2 := b2.fr ff (by first | omega | (simp; omega))
  replace b4 := b4.fr ff (by first | omega | (simp; omega))
  clear ff hn
  have sz5 := f.size
  have lt5 := b4.lt
  go_wp2_with fail
  obtain ⟨r4, r5, r6, HS2⟩ : ∃ r1 r2 r3, Hid (mkF x2 (1 + y2) = (r1, r2, r3)) := ⟨_, _, _, rfl⟩
  refine (fMake_any (n := x2) (d := 1 + y2) (by omega) (by omega)).mono ?_
  rintro e w6 ⟨rfl, kk⟩
  replace f := f.keeps kk
  replace hc := hc.keeps kk
  replace b2 := b2.keeps kk
  replace b4 := b4.keeps kk
  clear kk
  have sz6 := f.size
  have lt6 := b4.lt
  rw [HS2.out]
  replace f := f.keeps (keeps_alloc w6 (.cells #[.int .i64 r4, .int .i64 r5] 46))
  replace hc := hc.keeps (keeps_alloc w6 (.cells #[.int .i64 r4, .int .i64 r5] 46))
  replace b2 := b2.keeps (keeps_alloc w6 (.cells #[.int .i64 r4, .int .i64 r5] 46))
  replace b4 := b4.keeps (keeps_alloc w6 (.cells #[.int .i64 r4, .int .i64 r5] 46))
  have b6 : Bx (w6.alloc (.cells #[.int .i64 r4, .int .i64 r5] 46)) w6.heap.size r4 r5 := Bx.new' (by simp)
  obtain ⟨ca7, cb7, fa7, fb7⟩ := id b4
  obtain ⟨ca8, cb8, fa8, fb8⟩ := id b6
  have ca9_0 := (b2.2 0 _ rfl).1
  have fa9_0 := (b2.2 0 _ rfl).2
  have ca9_1 := (b2.2 1 _ rfl).1
  have fa9_1 := (b2.2 1 _ rfl).2
  have ca9_2 := (b2.2 2 _ rfl).1
  have fa9_2 := (b2.2 2 _ rfl).2
  have ca9_3 := (b2.2 3 _ rfl).1
  have fa9_3 := (b2.2 3 _ rfl).2
  replace f := f.setNew (p := ⟨w.heap.size, 0, none⟩) (by show _ ≤ w.heap.size; omega) (.int .i64 r1)
  replace hc := hc.fr (fr_one (p := w.heap.size) (i := 0) (.int .i64 r1)) (by omega)
  replace b4 := b4.far (p := ⟨w.heap.size, 0, none⟩) (by show _ ≠ w.heap.size; omega) (.int .i64 r1)
  replace b6 := b6.far (p := ⟨w.heap.size, 0, none⟩) (by show _ ≠ w.heap.size; omega) (.int .i64 r1)
  replace b2 : Bl ((w6.alloc (.cells #[.int .i64 r4, .int .i64 r5] 46)).setCell ⟨w.heap.size, 0, none⟩ (.int .i64 r1)) w.heap.size [.int .i64 r1, .int .i64 0, .int .i64 0, .int .i64 0] := b2.set 0 (.int .i64 r1)
  replace f := f.setNew (p := ⟨w.heap.size, 1, none⟩) (by show _ ≤ w.heap.size; omega) (.int .i64 r2)
  replace hc := hc.fr (fr_one (p := w.heap.size) (i := 1) (.int .i64 r2)) (by omega)
  replace b4 := b4.far (p := ⟨w.heap.size, 1, none⟩) (by show _ ≠ w.heap.size; omega) (.int .i64 r2)
  replace b6 := b6.far (p := ⟨w.heap.size, 1, none⟩) (by show _ ≠ w.heap.size; omega) (.int .i64 r2)
  replace b2 : Bl (((w6.alloc (.cells #[.int .i64 r4, .int .i64 r5] 46)).setCell ⟨w.heap.size, 0, none⟩ (.int .i64 r1)).setCell ⟨w.heap.size, 1, none⟩ (.int .i64 r2)) w.heap.size [.int .i64 r1, .int .i64 r2, .int .i64 0, .int .i64 0] := b2.set 1 (.int .i64 r2)
  replace f := f.setNew (p := ⟨w.heap.size, 2, none⟩) (by show _ ≤ w.heap.size; omega) (.int .i64 r4)
  replace hc := hc.fr (fr_one (p := w.heap.size) (i := 2) (.int .i64 r4)) (by omega)
  replace b4 := b4.far (p := ⟨w.heap.size, 2, none⟩) (by show _ ≠ w.heap.size; omega) (.int .i64 r4)
  replace b6 := b6.far (p := ⟨w.heap.size, 2, none⟩) (by show _ ≠ w.heap.size; omega) (.int .i64 r4)
  replace b2 : Bl ((((w6.alloc (.cells #[.int .i64 r4, .int .i64 r5] 46)).setCell ⟨w.heap.size, 0, none⟩ (.int .i64 r1)).setCell ⟨w.heap.size, 1, none⟩ (.int .i64 r2)).setCell ⟨w.heap.size, 2, none⟩ (.int .i64 r4)) w.heap.size [.int .i64 r1, .int .i64 r2, .int .i64 r4, .int .i64 0] := b2.set 2 (.int .i64 r4)
  replace f := f.setNew (p := ⟨w.heap.size, 3, none⟩) (by show _ ≤ w.heap.size; omega) (.int .i64 r5)
  replace hc := hc.fr (fr_one (p := w.heap.size) (i := 3) (.int .i64 r5)) (by omega)
  replace b4 := b4.far (p := ⟨w.heap.size, 3, none⟩) (by show _ ≠ w.heap.size; omega) (.int .i64 r5)
  replace b6 := b6.far (p := ⟨w.heap.size, 3, none⟩) (by show _ ≠ w.heap.size; omega) (.int .i64 r5)
  replace b2 : Bl (((((w6.alloc (.cells #[.int .i64 r4, .int .i64 r5] 46)).setCell ⟨w.heap.size, 0, none⟩ (.int .i64 r1)).setCell ⟨w.heap.size, 1, none⟩ (.int .i64 r2)).setCell ⟨w.heap.size, 2, none⟩ (.int .i64 r4)).setCell ⟨w.heap.size, 3, none⟩ (.int .i64 r5)) w.heap.size [.int .i64 r1, .int .i64 r2, .int .i64 r4, .int .i64 r5] := b2.set 3 (.int .i64 r5)
  have HC9 := hid hc
  have HF9 := hid f
  clear hc f
  go_wp2_with fail
  clear ca7 cb7 fa7 fb7 ca8 cb8 fa8 fb8 ca9_0 fa9_0 ca9_1 fa9_1 ca9_2 fa9_2 ca9_3 fa9_3
  have ca0_0 := (b2.2 0 _ rfl).1
  have ca0_1 := (b2.2 1 _ rfl).1
  have ca0_2 := (b2.2 2 _ rfl).1
  have ca0_3 := (b2.2 3 _ rfl).1
  try simp only [Exit.inBlock, Exit.then]
  exact bodyPost_ret (v := .agg #[.int .i64 r1, .int .i64 r2, .int .i64 r4, .int .i64 r5]) (by simp [results, Tryz.results47, go_sem, ca0_0, ca0_1, ca0_2, ca0_3]) rfl ⟨_, _, _, _, rfl, HC9.out.mono (by omega), HF9.out⟩
end Go.Proofs.YtlkjhkkfdmjfcaaGreatDoor
namespace Go.Proofs.YtlkjhkkfdmjfcaaGreatDoor
open Go.RowKit
set_option linter.unusedVariables false
set_option linter.unusedSimpArgs false
theorem Has.fr {w w' : World} {B e size n l u : Nat} {v : Value} {cs : List Value} (h : Has w B e size v n cs) (f : Fr l u w w') (ho : u ≤ B) : Has w' B e size v n cs := by
  obtain ⟨h1, h2⟩ := h
  refine ⟨h1, ?_⟩
  rcases h2 with h2 | ⟨g, cap, cur, hv, hg, hh, rest⟩
  · exact .inl h2
  · exact .inr ⟨g, cap, cur, hv, hg, (f.block g (Array.getElem?_eq_some_iff.1 hh).1 (by omega)).trans hh, rest⟩
theorem Fr.below {lo hi B : Nat} {a w w' : World} (h : Fr lo hi a w) (k : Below B w w') (hB : a.heap.size ≤ B) : Fr lo hi a w' :=
  ⟨k.os.trans h.os, k.tape.trans h.tape, k.output.trans h.output, Nat.le_trans h.size k.size, fun i hi ho => (k.block i (by omega)).trans (h.block i hi ho)⟩
theorem Cur.below {w w' : World} {g B : Nat} {T : Int} (h : Cur w g T) (k : Below B w w') (hg : g < B) : Cur w' g T := by
  obtain ⟨A, n, c, t, s, h0, h1, h2, h3, h4, h5, h6, h7⟩ := h
  have e := k.block g hg
  refine ⟨A, n, c, t, s, ⟨h0.1, Nat.le_trans h0.2.1 k.size, fun hn => ?_⟩, (World.cell?_of_block (w := w) e).trans h1, (World.cell?_of_block (w := w) e).trans h2, (World.cell?_of_block (w := w) e).trans h3, (World.frozen?_of_block (w := w) e).trans h4, (World.frozen?_of_block (w := w) e).trans h5, h6, h7⟩
  obtain ⟨b, off, eA, hb, hc⟩ := h0.2.2 hn
  refine ⟨b, off, eA, hb, fun j hj => ?_⟩
  obtain ⟨x, x0, x1, hx⟩ := hc j hj
  exact ⟨x, x0, x1, (World.cell?_of_block (w := w) (k.block b (by omega))).trans hx⟩
/-- An owned row of ints that is not empty: its block. -/
theorem Has.block {w : World} {B n c : Nat} {A : Option Addr} {xs : List Int} (h : Has w B 3 1 (.slice A n c) n (xs.map (Value.int .i64))) (hn : 0 < n) (hs : n ≤ 67108864) :
    ∃ g, A = some ⟨g, 0, none⟩ ∧ B ≤ g ∧ Mine w g (g + 1) A n xs := by
  have hm := Mine.of_own h hs
  obtain ⟨h1, h2⟩ := h
  have hl : xs.length = n := by simpa using h1
  rcases h2 with ⟨h2, rfl⟩ | ⟨g, cap, cur, hv, hg, hh, _⟩
  · simp at h1; omega
  · have hA : A = some ⟨g, 0, none⟩ := by injection hv
    subst hA
    refine ⟨g, rfl, hg, ⟨hm.1.1, hm.1.2.1, (Array.getElem?_eq_some_iff.1 hh).1, fun h0 => ?_⟩, hm.2⟩
    obtain ⟨b, off, e, hl', hb', hc⟩ := hm.1.2.2.2 h0
    obtain ⟨rfl, rfl⟩ : g = b ∧ 0 = off := by simpa using e
    exact ⟨g, 0, rfl, Nat.le_refl _, Nat.lt_succ_self _, hc⟩
end Go.Proofs.YtlkjhkkfdmjfcaaGreatDoor
namespace Go.Proofs.YtlkjhkkfdmjfcaaGreatDoor
open Go.ChangeShapes Go.WideShapes Go.ChangeAt Go.RowKit Go.Deep
set_option linter.unusedVariables false
set_option linter.unusedSimpArgs false
abbrev PP := TT × List Int
def p0 : PP := (t0, [])
def dP (p : PP) : List D := [.i p.1.1, .sl p.1.2.1.length (p.1.2.1.map D.i), .sl p.1.2.2.1.length (p.1.2.2.1.map D.i), .i p.1.2.2.2, .sl p.2.length (p.2.map D.i)]
def smP (p : PP) : Prop := smT p.1 ∧ p.2.length ≤ 67108864
structure Pubs (ex un : Bool) (w : World) (lo hi : Nat) (A : Option Addr) (n : Nat) (l : List PP) : Prop where
  r : RgS ex un w lo hi A n (l.flatMap dP)
  len : l.length = n
  le : n ≤ 67108864
  sm : ∀ j, smP (l.getD j p0)
section
variable {ex un : Bool} {w w' : World} {lo hi n : Nat} {A : Option Addr} {l : List PP}
end
/-- Sizes, as the laws count them. -/
def szPP (p : PP) : Nat := p.1.2.1.length + p.1.2.2.1.length + p.2.length
/-- Published tables that came in. -/
structure PubsArg (w : World) (A : Option Addr) (n : Nat) (l : List PP) : Prop where
  r : RgS true false w 0 w.heap.size A n (l.flatMap dP)
  len : l.length = n
  le : n ≤ maxLen
  sm : ∀ j, ((l.getD j p0).1.2.1.length ≤ maxLen ∧ (l.getD j p0).1.2.2.1.length ≤ maxLen) ∧ (l.getD j p0).2.length ≤ maxLen
section
variable {H : Type} {enc : TypeId × Value → H} {w : World} {held : Bool}
end
end Go.Proofs.YtlkjhkkfdmjfcaaGreatDoor
namespace Go.Proofs.YtlkjhkkfdmjfcaaGreatDoor
open Go.RowKit Go.Sort Go.Deep
set_option linter.unusedVariables false
set_option linter.unusedSimpArgs false
/-- The blocks from lo to hi are as they were. -/
def SmB (w w' : World) (lo hi : Nat) : Prop := w.heap.size ≤ w'.heap.size ∧ ∀ g, lo ≤ g → g < hi → w'.heap[g]? = w.heap[g]?
section
variable {w w' : World} {lo hi a b n : Nat} {A : Option Addr} {xs : List Int}
theorem SmB.of_fr (f : Fr a b w w') (ht : hi ≤ w.heap.size) (ho : b ≤ lo ∨ hi ≤ a ∨ b ≤ a) : SmB w w' lo hi := ⟨f.size, fun g h1 h2 => f.block g (by omega) (by omega)⟩
theorem Ints.sm (h : Ints w lo hi A n xs) (s : SmB w w' lo hi) : Ints w' lo hi A n xs :=
  ⟨h.1, h.2.1, Nat.le_trans h.2.2.1 s.1, fun h0 => by
    obtain ⟨b, off, e, h1, h2, h3⟩ := h.2.2.2 h0
    exact ⟨b, off, e, h1, h2, fun j hj => (World.cell?_of_block (a := ⟨b, off + j, none⟩) (s.2 b h1 h2)).trans (h3 j hj)⟩⟩
end
/-- Three slices of ints of one's own, apart from each other. -/
structure ThM (w : World) (lo hi : Nat) (A1 : Option Addr) (n1 : Nat) (xs : List Int) (A2 : Option Addr) (n2 : Nat) (ys : List Int) (A3 : Option Addr) (n3 : Nat) (zs : List Int) : Prop where
  top : hi ≤ w.heap.size
  ex : ∃ l1 h1 l2 h2 l3 h3, (lo ≤ l1 ∧ h1 ≤ hi ∧ lo ≤ l2 ∧ h2 ≤ hi ∧ lo ≤ l3 ∧ h3 ≤ hi) ∧ (h1 ≤ l2 ∨ h2 ≤ l1) ∧ (h1 ≤ l3 ∨ h3 ≤ l1) ∧ (h2 ≤ l3 ∨ h3 ≤ l2) ∧ Mine w l1 h1 A1 n1 xs ∧ Mine w l2 h2 A2 n2 ys ∧ Mine w l3 h3 A3 n3 zs
abbrev RowP (α : Type) := World → Nat → Nat → (Nat → Value) → α → Prop
/-- What stands in blocks from lo to hi alone. -/
def RwOk {α : Type} (R : RowP α) : Prop := ∀ w w' lo hi u a, R w lo hi u a → SmB w w' lo hi → R w' lo hi u a
/-- Block b holds the rows; the data of row j lie from L j to U j. -/
structure RowsC {α : Type} (sz : Nat) (z : α) (R : RowP α) (w : World) (lo hi b off n : Nat) (L U : Nat → Nat) (l : List α) : Prop where
  len : l.length = n
  le : n ≤ 67108864
  top : hi ≤ w.heap.size
  bl : lo ≤ b ∧ b < hi
  iv : ∀ j, j < n → lo ≤ L j ∧ U j ≤ hi ∧ (b < L j ∨ U j ≤ b)
  inc : ∀ i j, i < j → j < n → U i ≤ L j
  fz : ∀ j, j < n * sz → w.frozen? ⟨b, off + j, none⟩ = false
  row : ∀ j, j < n → ∃ u : Nat → Value, (∀ i, i < sz → w.cell? ⟨b, off + (j * sz + i), none⟩ = some (u i)) ∧ R w (L j) (U j) u (l.getD j z)
/-- A slice of rows of one's own. -/
structure RowsM {α : Type} (sz : Nat) (z : α) (R : RowP α) (w : World) (lo hi : Nat) (A : Option Addr) (n : Nat) (l : List α) : Prop where
  len : l.length = n
  le : n ≤ 67108864
  top : hi ≤ w.heap.size
  ex : 0 < n → ∃ b off L U, A = some ⟨b, off, none⟩ ∧ RowsC sz z R w lo hi b off n L U l
/-- Of block b the cells from o1 to o2 may have turned, and the blocks from lk to uk. -/
structure Ch (w w1 : World) (b o1 o2 lk uk : Nat) : Prop where
  os : w1.os = w.os
  tape : w1.tape = w.tape
  output : w1.output = w.output
  size : w.heap.size ≤ w1.heap.size
  block : ∀ g, g < w.heap.size → g ≠ b → (g < lk ∨ uk ≤ g) → w1.heap[g]? = w.heap[g]?
  cell : ∀ i, (i < o1 ∨ o2 ≤ i) → w1.cell? ⟨b, i, none⟩ = w.cell? ⟨b, i, none⟩
  fz : ∀ i, w1.frozen? ⟨b, i, none⟩ = w.frozen? ⟨b, i, none⟩
section
variable {w w1 w2 : World} {b o1 o2 lk uk : Nat}
end
section
variable {α : Type} {sz : Nat} {z : α} {R : RowP α} {w w1 : World} {lo hi b off n : Nat} {L U : Nat → Nat} {l : List α} {A : Option Addr}
end
structure GrowC {α : Type} (sz : Nat) (z : α) (R : RowP α) (w : World) (B E : Nat) (v : Value) (cs : List Value) (L U : Nat → Nat) (l : List α) : Prop where
  has : Has w B E sz v l.length cs
  iv : ∀ j, j < l.length → B ≤ L j ∧ U j ≤ w.heap.size ∧ ∀ g, v.ownBlock = some g → g < L j ∨ U j ≤ g
  inc : ∀ i j, i < j → j < l.length → U i ≤ L j
  row : ∀ j, j < l.length → ∃ u : Nat → Value, (∀ i, i < sz → cs[j * sz + i]? = some (u i)) ∧ R w (L j) (U j) u (l.getD j z)
section
variable {α : Type} {sz : Nat} {z : α} {R : RowP α} {w w1 : World} {B E : Nat} {v : Value} {cs : List Value} {L U : Nat → Nat} {l : List α}
end
def RwT : RowP TT := fun w lo hi u t => ∃ V cv H ch, u 0 = .int .i64 t.1 ∧ u 1 = .slice V t.2.1.length cv ∧ u 2 = .slice H t.2.2.1.length ch ∧ u 3 = .int .i64 t.2.2.2 ∧ TwM w lo hi V t.2.1.length t.2.1 H t.2.2.1.length t.2.2.1
def RwP : RowP PP := fun w lo hi u p => ∃ V cv H ch K ck, u 0 = .int .i64 p.1.1 ∧ u 1 = .slice V p.1.2.1.length cv ∧ u 2 = .slice H p.1.2.2.1.length ch ∧ u 3 = .int .i64 p.1.2.2.2 ∧ u 4 = .slice K p.2.length ck ∧ ThM w lo hi V p.1.2.1.length p.1.2.1 H p.1.2.2.1.length p.1.2.2.1 K p.2.length p.2
def RwR : RowP RL := fun w lo hi u r => ∃ P cp, u 0 = .int .i64 r.1 ∧ u 1 = .slice P r.2.1.length cp ∧ u 2 = .int .i64 r.2.2.1 ∧ u 3 = .int .i64 r.2.2.2.1 ∧ u 4 = .int .i64 r.2.2.2.2.1 ∧ u 5 = .int .i64 r.2.2.2.2.2 ∧ RowsM 4 t0 RwT w lo hi P r.2.1.length r.2.1
/-- The first k rows of block g are filled. -/
structure FillS {α : Type} (sz : Nat) (z : α) (R : RowP α) (w : World) (g n E : Nat) (cs : List Value) (L U : Nat → Nat) (l : List α) (k : Nat) : Prop where
  own : OwnC w g E cs
  len : cs.length = n * sz
  iv : ∀ j, j < k → g < L j ∧ U j ≤ w.heap.size
  inc : ∀ i j, i < j → j < k → U i ≤ L j
  row : ∀ j, j < k → R w (L j) (U j) (fun i => cs.getD (j * sz + i) undef) (l.getD j z)
section
variable {α : Type} {sz : Nat} {z : α} {R : RowP α} {w w1 w2 : World} {g n E k : Nat} {cs : List Value} {L U : Nat → Nat} {l : List α}
end
/-- Published tables of one's own. -/
def PubsO (w : World) (lo hi : Nat) (A : Option Addr) (n : Nat) (l : List PP) : Prop := RowsM 5 p0 RwP w lo hi A n l
/-- Releases of one's own. -/
def RelsO (w : World) (lo hi : Nat) (A : Option Addr) (n : Nat) (l : List RL) : Prop := RowsM 6 rl0 RwR w lo hi A n l
section
variable {w w' : World} {lo hi a b n : Nat} {A : Option Addr} {l : List PP} {l' : List RL}
end
end Go.Proofs.YtlkjhkkfdmjfcaaGreatDoor
namespace Go.Proofs.YtlkjhkkfdmjfcaaGreatDoor
open Go.RowKit Go.Sort Go.Deep
set_option linter.unusedVariables false
set_option linter.unusedSimpArgs false
structure GrowR {α : Type} (sz : Nat) (z : α) (R : RowP α) (w : World) (m B E : Nat) (v : Value) (cs : List Value) (L U : Nat → Nat) (l : List α) : Prop where
  has : Has w B E sz v l.length cs
  mB : m ≤ B
  iv : ∀ j, j < l.length → m ≤ L j ∧ U j ≤ w.heap.size ∧ ∀ g, v.ownBlock = some g → g < L j ∨ U j ≤ g
  row : ∀ j, j < l.length → ∃ u : Nat → Value, (∀ i, i < sz → cs[j * sz + i]? = some (u i)) ∧ R w (L j) (U j) u (l.getD j z)
section
variable {α : Type} {sz : Nat} {z : α} {R : RowP α} {w w1 : World} {m B E : Nat} {v : Value} {cs : List Value} {L U : Nat → Nat} {l : List α}
theorem GrowR.nil (w : World) (m B E : Nat) (h : m ≤ B) : GrowR sz z R w m B E (.slice none 0 0) [] (fun _ => 0) (fun _ => 0) [] :=
  ⟨World.ownsRow_nil _ _ _ _, h, fun j h => absurd h (by simp), fun j h => absurd h (by simp)⟩
theorem GrowR.fr (ok : RwOk R) (h : GrowR sz z R w m B E v cs L U l) {x y : Nat} (f : Fr x y w w1) (hy : y ≤ m) : GrowR sz z R w1 m B E v cs L U l := by
  have hs := f.size
  refine ⟨⟨h.has.1, ?_⟩, h.mB, fun j hj => by have := h.iv j hj; exact ⟨this.1, by omega, this.2.2⟩, fun j hj => ?_⟩
  · rcases h.has.2 with h3 | ⟨g', cap, cur, hv, hb, hh, rest⟩
    · exact .inl h3
    · have hlt := (h.has.lt g' (by rw [hv]; rfl)).2
      exact .inr ⟨g', cap, cur, hv, hb, (f.block g' hlt (by have := h.mB; omega)).trans hh, rest⟩
  · obtain ⟨u, h1, h2⟩ := h.row j hj
    have hi := h.iv j hj
    exact ⟨u, h1, ok _ _ _ _ _ _ h2 (SmB.of_fr f hi.2.1 (by omega))⟩
theorem GrowR.keeps (ok : RwOk R) (h : GrowR sz z R w m B E v cs L U l) (k : Keeps w w1) : GrowR sz z R w1 m B E v cs L U l := h.fr ok (Fr.of_keeps k 0 0) (Nat.zero_le _)
theorem GrowR.lt (h : GrowR sz z R w m B E v cs L U l) : ∀ g, v.ownBlock = some g → B ≤ g ∧ g < w.heap.size := h.has.lt
/-- One row more. -/
theorem GrowR.snoc (ok : RwOk R) (h : GrowR sz z R w m B E v cs L U l) {v' : Value} {new : List Value} {a : α} {x y : Nat} (hn : new.length = sz) (hh : Has w1 B E sz v' (l.length + 1) (cs ++ new)) (hg : w.grownBy w1 v.ownBlock)
    (ho : v'.ownBlock = v.ownBlock ∨ v'.ownBlock = some (w.heap.size + 1)) (hx : m ≤ x) (hy : y ≤ w.heap.size) (hv : ∀ g, v.ownBlock = some g → g < x ∨ y ≤ g) (hr : R w x y (fun i => new.getD i undef) a) :
    GrowR sz z R w1 m B E v' (cs ++ new) (fun j => if j < l.length then L j else x) (fun j => if j < l.length then U j else y) (l ++ [a]) := by
  have hcl : cs.length = l.length * sz := h.has.1
  have own : ∀ lo hi, hi ≤ w.heap.size → (∀ g, v.ownBlock = some g → g < lo ∨ hi ≤ g) → SmB w w1 lo hi := fun lo hi h1 h2 => ⟨hg.size, fun g g1 g2 => hg.block g (by omega) (fun e => by have := h2 g e.symm; omega)⟩
  have new' : ∀ lo hi, hi ≤ w.heap.size → (∀ g, v.ownBlock = some g → g < lo ∨ hi ≤ g) → ∀ g, v'.ownBlock = some g → g < lo ∨ hi ≤ g := fun lo hi h1 h2 g e => by
    rcases ho with q | q
    · exact h2 g (q ▸ e)
    · rw [q] at e; injection e with e; omega
  refine ⟨by rw [List.length_append]; exact hh, h.mB, fun j hj => ?_, fun j hj => ?_⟩
  · rw [List.length_append, List.length_singleton] at hj
    have hs := hg.size
    by_cases e : j < l.length
    · have q := h.iv j e
      try dsimp only
      rw [if_pos e, if_pos e]; exact ⟨q.1, by omega, new' _ _ q.2.1 q.2.2⟩
    · try dsimp only
      rw [if_neg e, if_neg e]; exact ⟨hx, by omega, new' _ _ hy hv⟩
  · rw [List.length_append, List.length_singleton] at hj
    try dsimp only
    by_cases e : j < l.length
    · obtain ⟨u, h1, h2⟩ := h.row j e
      have q := h.iv j e
      have hm : (j + 1) * sz ≤ l.length * sz := Nat.mul_le_mul_right _ e
      rw [Nat.succ_mul] at hm
      rw [if_pos e, if_pos e]
      refine ⟨u, fun i hi => ?_, ?_⟩
      · rw [List.getElem?_append_left (by omega)]; exact h1 i hi
      · rw [show (l ++ [a]).getD j z = l.getD j z by simp only [List.getD]; rw [List.getElem?_append_left e]]
        exact ok _ _ _ _ _ _ h2 (own _ _ q.2.1 q.2.2)
    · obtain rfl : j = l.length := by omega
      rw [if_neg e, if_neg e]
      refine ⟨fun i => new.getD i undef, fun i hi => ?_, ?_⟩
      · rw [List.getElem?_append_right (by omega), hcl, show l.length * sz + i - l.length * sz = i by omega]
        simp [List.getD, show i < new.length by omega]
      · rw [show (l ++ [a]).getD l.length z = a by simp [List.getD]]
        exact ok _ _ _ _ _ _ hr (own _ _ hy hv)
/-- What was gathered can be read: its rows. -/
theorem GrowR.read (h : GrowR sz z R w m B E v cs L U l) : ∃ A c, v = .slice A l.length c ∧ l.length ≤ c ∧ ∀ j, j < l.length → ∃ b, A = some ⟨b, 0, none⟩ ∧ B ≤ b ∧ b < w.heap.size ∧ (m ≤ L j ∧ U j ≤ w.heap.size) ∧ ∃ u : Nat → Value, (∀ i, i < sz → w.cell? ⟨b, j * sz + i, none⟩ = some (u i) ∧ w.frozen? ⟨b, j * sz + i, none⟩ = false) ∧ R w (L j) (U j) u (l.getD j z) := by
  rcases h.has.2 with ⟨e, h3⟩ | ⟨g, cap, cur, hv, hb, hg, hcap, hmax, hsz, htk⟩
  · subst e
    exact ⟨none, 0, by rw [h3], by omega, fun j hj => absurd hj (by omega)⟩
  · refine ⟨_, _, hv, hcap, fun j hj => ⟨g, rfl, hb, (h.has.lt g (by rw [hv]; rfl)).2, ⟨(h.iv j hj).1, (h.iv j hj).2.1⟩, ?_⟩⟩
    obtain ⟨u, q1, q2⟩ := h.row j hj
    refine ⟨u, fun i hi => ⟨?_, ?_⟩, q2⟩
    · have := h.has.cells (g := g) (by rw [hv]; rfl) _ _ (q1 i hi)
      rwa [Addr.add_lit, Nat.zero_add] at this
    · unfold World.frozen?
      simp [hg]
end
section
variable {W0 : World} {ops : Array Oper} {rest : List Oper} {o : Oper} {a : Act} {K : Act → World → Prop} {Q : Exit → Act → World → Prop} {E' : Prop} {α : Type} {sz : Nat} {z a0 : α} {Rw : RowP α} {m B E Ty x y yb : Nat} {zr v : Value} {cs new : List Value} {L U : Nat → Nat} {l : List α}
theorem row_runR (hinfo : (Tryz.prog.info? E).map (fun i => (i.zero, i.size, i.bytes)) = some (some zr, sz, yb)) (hzs : zr.cells.size = sz) (hsz : 0 < sz) (hyb : yb ≤ 1000)
    (ok : RwOk Rw) (hG : GrowR sz z Rw W0 m B E v cs L U l) (hn : l.length ≤ 67108864) (hB : B ≤ W0.heap.size) (hnew : new.length = sz) (h1 : ∀ y ∈ new, y.oneCell' = true)
    (hx : m ≤ x) (hy : y ≤ W0.heap.size) (hv : ∀ g, v.ownBlock = some g → g < x ∨ y ≤ g) (hr : Rw W0 x y (fun i => new.getD i undef) a0) (ty : TypeId) (ht : Tryz.prog.underlying Ty = some (.slice E)) :
    ∃ v' w' cs' L' U', (Builtin.append_ #[Ty, Ty] ty #[v, .slice (some ⟨W0.heap.size, 0, none⟩) 1 1]).run Tryz.prog (W0.alloc (.cells new.toArray E)) = .ok v' w' ∧ GrowR sz z Rw w' m B E v' cs' L' U' (l ++ [a0]) ∧ W0.grownBy w' v.ownBlock ∧ (v'.ownBlock = v.ownBlock ∨ v'.ownBlock = some (W0.heap.size + 1)) := by
  obtain ⟨i, hi, hz0, hz1, hz2⟩ := info_parts hinfo
  have hbytes : (l.length + 1) * yb ≤ 140737488355328 := Nat.le_trans (Nat.mul_le_mul (show l.length + 1 ≤ 67108865 by omega) hyb) (by decide)
  obtain ⟨v', w', hq, h2, h3, _, h5⟩ := run_append_own_at (P := Tryz.prog) (W0.alloc (.cells new.toArray E)) B Ty ty E i zr sz yb ht hi hz0 hz1 hz2 hzs hsz v l.length cs (hG.has.alloc _) ⟨W0.heap.size, 0, none⟩ 1 1 new (by rw [hnew, Nat.one_mul]) (fun j u hu => by rw [Addr.add_lit, Nat.zero_add, cell_of_row _ _ _ _ _ _ (heap_alloc_new W0 _)]; simpa using hu) h1 (by unfold maxLen; omega) hbytes (by simp; omega)
  have hg : W0.grownBy w' v.ownBlock := ⟨h3.os, h3.tape, h3.output, by have := h3.size; simp at this; omega, fun k hk hne => by rw [h3.block k (by simp; omega) hne]; exact heap_alloc_old W0 _ hk⟩
  exact ⟨v', w', _, _, _, hq, hG.snoc ok hnew h2 hg (by simpa using h5) hx hy hv hr, hg, by simpa using h5⟩
/-- A row more is appended, in a region that draws its order. -/
theorem step_rowR (hinfo : (Tryz.prog.info? E).map (fun i => (i.zero, i.size, i.bytes)) = some (some zr, sz, yb)) (hzs : zr.cells.size = sz) (hsz : 0 < sz) (hyb : yb ≤ 1000)
    (ok : RwOk Rw) (hG : GrowR sz z Rw W0 m B E v cs L U l) (hn : l.length ≤ 67108864) (hB : B ≤ W0.heap.size) (hnew : new.length = sz) (h1 : ∀ y ∈ new, y.oneCell' = true)
    (hx : m ≤ x) (hy : y ≤ W0.heap.size) (hv : ∀ g, v.ownBlock = some g → g < x ∨ y ≤ g) (hr : Rw W0 x y (fun i => new.getD i undef) a0)
    (s x9 : Operand) (hgd : o.guard = none) (ho : o.op = .call { callee := .builtin .append, args := #[s, x9], argTypes := #[Ty, Ty] }) (ht : Tryz.prog.underlying Ty = some (.slice E))
    (hs : a.eval s = v) (hx9 : a.eval x9 = .slice (some ⟨W0.heap.size, 0, none⟩) 1 1)
    (h : ∀ v' w' cs' L' U', GrowR sz z Rw w' m B E v' cs' L' U' (l ++ [a0]) → W0.grownBy w' v.ownBlock → K (a.put o.dst v') w') :
    if Region.wanted o (yielded ops a.tmps) = true then Oper.wp Tryz.prog o a (W0.alloc (.cells new.toArray E)) K Q else E' := by
  have hw : Region.wanted o (yielded ops a.tmps) = true := by simp [Region.wanted, hgd]
  rw [if_pos hw]
  obtain ⟨v', w', cs', L', U', hq, h2, h3, h4⟩ := row_runR hinfo hzs hsz hyb ok hG hn hB hnew h1 hx hy hv hr o.type ht
  unfold Oper.wp
  simp [execOp, ho, resolve, invoke, builtin, hs, hx9, hq, Result.andThen]
  exact h v' w' _ _ _ h2 h3
/-- A row more is appended. -/
theorem append_rowR (hinfo : (Tryz.prog.info? E).map (fun i => (i.zero, i.size, i.bytes)) = some (some zr, sz, yb)) (hzs : zr.cells.size = sz) (hsz : 0 < sz) (hyb : yb ≤ 1000)
    (ok : RwOk Rw) (hG : GrowR sz z Rw W0 m B E v cs L U l) (hn : l.length ≤ 67108864) (hB : B ≤ W0.heap.size) (hnew : new.length = sz) (h1 : ∀ y ∈ new, y.oneCell' = true)
    (hx : m ≤ x) (hy : y ≤ W0.heap.size) (hv : ∀ g, v.ownBlock = some g → g < x ∨ y ≤ g) (hr : Rw W0 x y (fun i => new.getD i undef) a0)
    (s x9 : Operand) (hgd : o.guard = none) (ho : o.op = .call { callee := .builtin .append, args := #[s, x9], argTypes := #[Ty, Ty] }) (ht : Tryz.prog.underlying Ty = some (.slice E))
    (hs : a.eval s = v) (hx9 : a.eval x9 = .slice (some ⟨W0.heap.size, 0, none⟩) 1 1)
    (h : ∀ v' w' cs' L' U', GrowR sz z Rw w' m B E v' cs' L' U' (l ++ [a0]) → W0.grownBy w' v.ownBlock → wpList Tryz.prog ops Q rest (a.put o.dst v') w') :
    wpList Tryz.prog ops Q (o :: rest) a (W0.alloc (.cells new.toArray E)) := by
  refine wpList_plain hgd fun K hK => ?_
  obtain ⟨v', w', cs', L', U', hq, h2, h3, h4⟩ := row_runR hinfo hzs hsz hyb ok hG hn hB hnew h1 hx hy hv hr o.type ht
  unfold Oper.wp execOp
  simp only [ho, resolve, invoke, builtin, Sem.run_bind, Sem.run_pure, Result.andThen_ok, List.map_toArray, List.map_cons, List.map_nil, hs, hx9, hq]
  exact hK _ _ (h v' w' _ _ _ h2 h3)
/-- A row more is appended; where it lies, in a region that draws its order. -/
theorem step_rowB (hinfo : (Tryz.prog.info? E).map (fun i => (i.zero, i.size, i.bytes)) = some (some zr, sz, yb)) (hzs : zr.cells.size = sz) (hsz : 0 < sz) (hyb : yb ≤ 1000)
    (ok : RwOk Rw) (hG : GrowR sz z Rw W0 m B E v cs L U l) (hn : l.length ≤ 67108864) (hB : B ≤ W0.heap.size) (hnew : new.length = sz) (h1 : ∀ y ∈ new, y.oneCell' = true)
    (hx : m ≤ x) (hy : y ≤ W0.heap.size) (hv : ∀ g, v.ownBlock = some g → g < x ∨ y ≤ g) (hr : Rw W0 x y (fun i => new.getD i undef) a0)
    (s x9 : Operand) (hgd : o.guard = none) (ho : o.op = .call { callee := .builtin .append, args := #[s, x9], argTypes := #[Ty, Ty] }) (ht : Tryz.prog.underlying Ty = some (.slice E))
    (hs : a.eval s = v) (hx9 : a.eval x9 = .slice (some ⟨W0.heap.size, 0, none⟩) 1 1)
    (h : ∀ v' w' cs' L' U', GrowR sz z Rw w' m B E v' cs' L' U' (l ++ [a0]) → W0.grownBy w' v.ownBlock → (v'.ownBlock = v.ownBlock ∨ v'.ownBlock = some (W0.heap.size + 1)) → K (a.put o.dst v') w') :
    if Region.wanted o (yielded ops a.tmps) = true then Oper.wp Tryz.prog o a (W0.alloc (.cells new.toArray E)) K Q else E' := by
  have hw : Region.wanted o (yielded ops a.tmps) = true := by simp [Region.wanted, hgd]
  rw [if_pos hw]
  obtain ⟨v', w', cs', L', U', hq, h2, h3, h4⟩ := row_runR hinfo hzs hsz hyb ok hG hn hB hnew h1 hx hy hv hr o.type ht
  unfold Oper.wp
  simp [execOp, ho, resolve, invoke, builtin, hs, hx9, hq, Result.andThen]
  exact h v' w' _ _ _ h2 h3 h4
/-- A row more is appended; where it lies. -/
theorem append_rowB (hinfo : (Tryz.prog.info? E).map (fun i => (i.zero, i.size, i.bytes)) = some (some zr, sz, yb)) (hzs : zr.cells.size = sz) (hsz : 0 < sz) (hyb : yb ≤ 1000)
    (ok : RwOk Rw) (hG : GrowR sz z Rw W0 m B E v cs L U l) (hn : l.length ≤ 67108864) (hB : B ≤ W0.heap.size) (hnew : new.length = sz) (h1 : ∀ y ∈ new, y.oneCell' = true)
    (hx : m ≤ x) (hy : y ≤ W0.heap.size) (hv : ∀ g, v.ownBlock = some g → g < x ∨ y ≤ g) (hr : Rw W0 x y (fun i => new.getD i undef) a0)
    (s x9 : Operand) (hgd : o.guard = none) (ho : o.op = .call { callee := .builtin .append, args := #[s, x9], argTypes := #[Ty, Ty] }) (ht : Tryz.prog.underlying Ty = some (.slice E))
    (hs : a.eval s = v) (hx9 : a.eval x9 = .slice (some ⟨W0.heap.size, 0, none⟩) 1 1)
    (h : ∀ v' w' cs' L' U', GrowR sz z Rw w' m B E v' cs' L' U' (l ++ [a0]) → W0.grownBy w' v.ownBlock → (v'.ownBlock = v.ownBlock ∨ v'.ownBlock = some (W0.heap.size + 1)) → wpList Tryz.prog ops Q rest (a.put o.dst v') w') :
    wpList Tryz.prog ops Q (o :: rest) a (W0.alloc (.cells new.toArray E)) := by
  refine wpList_plain hgd fun K hK => ?_
  obtain ⟨v', w', cs', L', U', hq, h2, h3, h4⟩ := row_runR hinfo hzs hsz hyb ok hG hn hB hnew h1 hx hy hv hr o.type ht
  unfold Oper.wp execOp
  simp only [ho, resolve, invoke, builtin, Sem.run_bind, Sem.run_pure, Result.andThen_ok, List.map_toArray, List.map_cons, List.map_nil, hs, hx9, hq]
  exact hK _ _ (h v' w' _ _ _ h2 h3 h4)
end
/-- An int. -/
def RwdI : RowP Int := fun _ _ _ u x => u 0 = .int .i64 x
theorem RwdI.ok : RwOk RwdI := fun _ _ _ _ _ _ h _ => h
/-- A variable. -/
def RwdV : RowP VV := fun _ _ _ u x => u 0 = .string x.1 ∧ u 1 = .int .i64 x.2
theorem RwdV.ok : RwOk RwdV := fun _ _ _ _ _ _ h _ => h
/-- A row whose cells do not matter. -/
def RwdN : RowP Unit := fun _ _ _ _ _ => True
theorem RwdN.ok : RwOk RwdN := fun _ _ _ _ _ _ h _ => h
/-- A table that can be read. -/
def RwdT : RowP TT := fun w lo hi u t => ∃ V cv H ch, u 0 = .int .i64 t.1 ∧ u 1 = .slice V t.2.1.length cv ∧ u 2 = .slice H t.2.2.1.length ch ∧ u 3 = .int .i64 t.2.2.2 ∧ Ints w lo hi V t.2.1.length t.2.1 ∧ Ints w lo hi H t.2.2.1.length t.2.2.1
theorem RwdT.ok : RwOk RwdT := fun w w' lo hi u t h s => by obtain ⟨V, cv, H, ch, h0, h1, h2, h3, h4, h5⟩ := h; exact ⟨V, cv, H, ch, h0, h1, h2, h3, h4.sm s, h5.sm s⟩
section
variable {w : World} {m B E : Nat} {v : Value} {cs : List Value} {L U : Nat → Nat}
theorem GrowR.ints {xs : List Int} (h : GrowR 1 0 RwdI w m B E v cs L U xs) (hn : xs.length ≤ 67108864) (hB : B ≤ w.heap.size) : ∃ A c, v = .slice A xs.length c ∧ xs.length ≤ c ∧ Ints w B w.heap.size A xs.length xs := by
  obtain ⟨A, c, hv, hc, hr⟩ := h.read
  refine ⟨A, c, hv, hc, rfl, hn, Nat.le_refl _, fun h0 => ?_⟩
  obtain ⟨b, e, hb, hlt, _⟩ := hr 0 h0
  refine ⟨b, 0, e, hb, hlt, fun j hj => ?_⟩
  obtain ⟨b', e', _, _, _, u, hu, hx⟩ := hr j hj
  rw [e] at e'; injection e' with e'; injection e' with e'; subst e'
  have := (hu 0 (by omega)).1
  rw [hx] at this
  simpa using this
theorem GrowR.vars {l : List VV} (h : GrowR 2 v0 RwdV w m B E v cs L U l) (hn : l.length ≤ 67108864) (hB : B ≤ w.heap.size) : ∃ A c, v = .slice A l.length c ∧ l.length ≤ c ∧ Vars w B w.heap.size A l.length l := by
  obtain ⟨A, c, hv, hc, hr⟩ := h.read
  refine ⟨A, c, hv, hc, vrs_len l, hn, Nat.le_refl _, fun h0 => ?_⟩
  obtain ⟨b, e, hb, hlt, _⟩ := hr 0 h0
  refine ⟨b, 0, e, hb, hlt, fun j hj => ?_⟩
  have hq : j / 2 < l.length := by omega
  obtain ⟨b', e', _, _, _, u, hu, hx⟩ := hr (j / 2) hq
  rw [e] at e'; injection e' with e'; injection e' with e'; subst e'
  have hat := vrs_at l (j / 2) hq
  rcases Nat.mod_two_eq_zero_or_one j with q | q
  · have ej : j / 2 * 2 = j := by omega
    have := (hu 0 (by omega)).1
    rw [hx.1, Nat.add_zero, ej] at this
    rw [ej] at hat
    rw [Nat.zero_add, this]
    rw [hat.1]
  · have ej : j / 2 * 2 + 1 = j := by omega
    have := (hu 1 (by omega)).1
    rw [hx.2, ej] at this
    rw [ej] at hat
    rw [Nat.zero_add, this]
    rw [hat.2]
theorem GrowR.tabs {l : List TT} (h : GrowR 4 t0 RwdT w m B E v cs L U l) (hn : l.length ≤ 67108864) (hB : B ≤ w.heap.size) : ∃ A c, v = .slice A l.length c ∧ l.length ≤ c ∧ Tabs true false w m w.heap.size A l.length l := by
  obtain ⟨A, c, hv, hc, hr⟩ := h.read
  have hmB := h.mB
  refine ⟨A, c, hv, hc, ⟨Nat.le_refl _, fun h0 => ?_⟩, rfl, hn, fun j => ?_⟩
  · obtain ⟨b, e, hb, hlt, _⟩ := hr 0 h0
    refine ⟨b, 0, e, by omega, hlt, RgL.of_at _ 0 fun j hj => ?_⟩
    rw [flat_len dT_len] at hj
    have hq : j / 4 < l.length := by omega
    have ej : j / 4 * 4 + j % 4 = j := by omega
    obtain ⟨b', e', _, _, ⟨iv1, iv2⟩, u, hu, V, cv, H, ch, h0', h1, h2, h3, h4, h5⟩ := hr (j / 4) hq
    rw [e] at e'; injection e' with e'; injection e' with e'; subst e'
    have hm := Nat.mod_lt j (show 0 < 4 by omega)
    have h6 := flat_at dT_len (.i 0) t0 l (j / 4) (j % 4) hq hm
    have h7 := hu (j % 4) hm
    rw [ej] at h6 h7
    refine ⟨_, by rw [Nat.zero_add]; exact h7.1, (fun e => by cases e), ?_⟩
    rw [h6]
    have hrg : ∀ i, i < 4 → Rg true false w (L (j / 4)) (U (j / 4)) ((dT (l.getD (j / 4) t0)).getD i (.i 0)) (u i) := by
      intro i hi
      match i, hi with
      | 0, _ => rw [h0']; exact Rg.of_i _
      | 1, _ => rw [h1]; exact h4.rgs.rg
      | 2, _ => rw [h2]; exact h5.rgs.rg
      | 3, _ => rw [h3]; exact Rg.of_i _
    exact Rg.widen iv1 iv2 (Nat.le_refl _) _ _ (hrg _ hm)
  · rcases Nat.lt_or_ge j l.length with hj | hj
    · obtain ⟨_, _, _, _, _, u, hu, V, cv, H, ch, h0', h1, h2, h3, h4, h5⟩ := hr j hj
      exact ⟨h4.le, h5.le⟩
    · rw [getD_out hj]; simp [smT, t0]
end
end Go.Proofs.YtlkjhkkfdmjfcaaGreatDoor
