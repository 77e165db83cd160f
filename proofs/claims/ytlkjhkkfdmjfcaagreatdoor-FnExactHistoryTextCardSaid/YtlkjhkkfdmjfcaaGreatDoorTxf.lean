/- The texts of numbers and fractions: walks. -/
import Derived.Test.YtlkjhkkfdmjfcaaGreatDoorTxe
import Derived.Lib.QuietBelow
import Derived.Lib.AppendIntMem
namespace Go.Proofs.YtlkjhkkfdmjfcaaGreatDoor
open Go.RowKit Go.Sort
set_option linter.unusedVariables false
set_option linter.unusedSimpArgs false
/-- The library's table of powers lies as its text lays it. -/
def Tab10 (w : World) : Prop := Lib.TabIs Tryz.prog w "internal/strconv.uint64pow10" .u64 Lib.pow10Tab
theorem Tab10.keeps {w w' : World} (h : Tab10 w) (k : Keeps w w') : Tab10 w' := Lib.tabBelow_of_tabIs h w' k
theorem itoa_k {n : Int} (h : -4000000000 ≤ n ∧ n ≤ 4000000000) {w : World} (ht : Tab10 w) :
    Calls Tryz.prog 38 #[.int .i64 n] w fun e w' => e = .returned (.string (bs (Lib.itoa n))) ∧ Keeps w w' :=
  (itoa_any (by omega) (by omega) ht).mono fun e w' ⟨he, k, os, hw⟩ => ⟨he, hw ▸ Lib.below_grow _ w (Nat.le_refl _) k os⟩
theorem itoa_len {n : Int} (h : -4000000000 ≤ n ∧ n ≤ 4000000000) : (bs (Lib.itoa n)).size ≤ 21 := by rw [bs_size]; exact Lib.itoa_length_le n (by omega) (by omega)
theorem itoa_nat (m : Nat) : Lib.itoa (m : Int) = Lib.decDigits m := by unfold Lib.itoa; rw [if_neg (by omega)]; simp
theorem itoa_neg {n : Int} (h : n < 0) : Lib.itoa n = 45 :: Lib.decDigits n.natAbs := by unfold Lib.itoa; rw [if_pos h]
theorem ret_sb {a b : ByteArray} {p : Bool} (h : a = b) : Ending.returned (.tuple #[.string a, .bool p]) = .returned (.tuple #[.string b, .bool p]) := by rw [h]
theorem frac_n {a b : Int} (h : fracB a b = true) : (-1000000000 ≤ a ∧ a ≤ 1000000000) ∧ (1 ≤ b ∧ b ≤ 1000000000) := by have := fracB_true.1 h; omega

set_option maxRecDepth 100000 in
set_option maxHeartbeats 1600000 in
theorem l1Int_any {n : Int} {w : World} (h : -4000000000 ≤ n ∧ n ≤ 4000000000) :
    Calls Tryz.prog 65 #[.int .i64 n] w fun e w' => e = .returned (.string (bs (Lib.itoa n))) ∧ Keeps w w' := by
  by_cases h0 : n < 0
  · obtain ⟨m, hm⟩ : ∃ m : Nat, -n = m := ⟨(-n).toNat, by omega⟩
    have hm4 : m ≤ 4000000000 := by omega
    have hsz := dec_len m (by omega)
    rw [← bs_size] at hsz
    have HE := hid (show ({ data := #[45] } : ByteArray) ++ bs (Lib.decDigits m) = bs (Lib.itoa n) by
      rw [itoa_neg h0, show n.natAbs = m by omega]
      exact bs_app [45] _)
    obtain ⟨sA, hsA⟩ : ∃ s, bs (Lib.decDigits m) = s := ⟨_, rfl⟩
    have HC := hid (fun W => l1Num_any m hm4 W)
    rw [hsA] at hsz HE HC
    clear hsA
    have hz1 : ¬ (9223372036854775807 < 1 + sA.size) := by omega
    have hz2 : 1 + sA.size ≤ 9223372036854775807 := by omega
    clear hsz
    go_enter Tryz.func65, Tryz.ntmps65
    go_wp2_with fail
    refine (HC.out w).mono ?_
    rintro e w1 ⟨rfl, kw⟩
    go_wp2_with fail
    go_ret
    exact ⟨ret_str HE.out, kw⟩
  · obtain ⟨m, hm⟩ : ∃ m : Nat, n = m := ⟨n.toNat, by omega⟩
    subst hm
    have HE := hid (itoa_nat m)
    go_enter Tryz.func65, Tryz.ntmps65
    go_wp2_with fail
    refine (l1Num_any m (by omega) w).mono ?_
    rintro e w1 ⟨rfl, kw⟩
    go_wp2_with fail
    go_ret
    exact ⟨ret_str (by rw [HE.out]), kw⟩
set_option maxRecDepth 100000 in
set_option maxHeartbeats 3200000 in
theorem fText_any {a b : Int} {w : World} (h : fracB a b = true) :
    Calls Tryz.prog 32 #[.agg #[.int .i64 a, .int .i64 b]] w fun e w' => e = .returned (.string (bs (fracT a b))) ∧ Keeps w w' := by
  have hb := frac_n h
  clear h
  by_cases h1 : b = 1
  · subst h1
    have HE := hid (show fracT a 1 = Lib.itoa a from if_pos rfl)
    go_enter Tryz.func32, Tryz.ntmps32
    have kw := keeps_refl w
    replace kw := Keeps.trans kw (keeps_alloc w (.cells #[.int .i64 a, .int .i64 1] 46))
    have b1 : Bx (w.alloc (.cells #[.int .i64 a, .int .i64 1] 46)) w.heap.size a 1 := Bx.new' (by simp)
    obtain ⟨ca1, cb1, fa1, fb1⟩ := id b1
    go_wp2_with fail
    clear ca1 cb1 fa1 fb1
    refine (l1Int_any (n := a) (by omega)).mono ?_
    rintro e w2 ⟨rfl, k2⟩
    replace b1 := b1.keeps k2
    replace kw := Keeps.trans kw k2
    have lt3 := b1.lt
    have sz4 := kw.size
    clear k2
    go_wp2_with fail
    go_ret
    exact ⟨ret_str (by rw [HE.out]), kw⟩
  obtain ⟨m, hm⟩ : ∃ m : Nat, b = m := ⟨b.toNat, by omega⟩
  subst hm
  have t1 : ((m : Int) == 1) = false := by rw [beq_eq_false_iff_ne]; exact h1
  have HE0 : fracT a (m : Int) = Lib.itoa a ++ ([47] ++ Lib.itoa (m : Int)) := if_neg h1
  have HE1 : (bs (Lib.itoa a) ++ ({ data := #[47] } : ByteArray)) ++ bs (Lib.decDigits m) = bs (fracT a (m : Int)) := by
    rw [HE0, itoa_nat, show ({ data := #[47] } : ByteArray) = bs [47] from rfl, bs_app, bs_app, List.append_assoc]
  have HE := hid HE1
  clear HE0 HE1 h1
  have hs1 := itoa_len (n := a) (by omega)
  have hs2 := dec_len m (by omega)
  rw [← bs_size] at hs2
  have HI := hid (fun (W0 W : World) (_ : Keeps W0 W) => l1Int_any (n := a) (w := W) (by omega))
  have HN := hid (fun (W0 W : World) (_ : Keeps W0 W) => l1Num_any m (by omega) W)
  obtain ⟨sA, hsA⟩ : ∃ s, bs (Lib.itoa a) = s := ⟨_, rfl⟩
  obtain ⟨sB, hsB⟩ : ∃ s, bs (Lib.decDigits m) = s := ⟨_, rfl⟩
  rw [hsA] at hs1 HI HE
  rw [hsB] at hs2 HN HE
  clear hsA hsB
  have hz1 : ¬ (9223372036854775807 < sA.size + 1) := by omega
  have hz2 : ¬ (9223372036854775807 < sA.size + 1 + sB.size) := by omega
  clear hs1 hs2
  go_enter Tryz.func32, Tryz.ntmps32
  have kw := keeps_refl w
  replace kw := Keeps.trans kw (keeps_alloc w (.cells #[.int .i64 a, .int .i64 (m : Int)] 46))
  have b1 : Bx (w.alloc (.cells #[.int .i64 a, .int .i64 (m : Int)] 46)) w.heap.size a (m : Int) := Bx.new' (by simp)
  obtain ⟨ca1, cb1, fa1, fb1⟩ := id b1
  go_wp2_with fail
  clear ca1 cb1 fa1 fb1
  obtain ⟨qa_b1, qb_b1, -, -⟩ := id b1
  have rqa_b1 := fun d os => cell_regrown qa_b1 d os
  have rqb_b1 := fun d os => cell_regrown qb_b1 d os
  have cQ0 := hid (fun (dQ : Nat) (oQ : Array Obj) => HI.out _ _ (below_regrown (w.alloc (.cells #[.int .i64 a, .int .i64 (m : Int)] 46)) dQ oQ))
  have cQ1 := hid (fun (dQ : Nat) (oQ : Array Obj) => HN.out _ _ (below_regrown (w.alloc (.cells #[.int .i64 a, .int .i64 (m : Int)] 46)) dQ oQ))
  refine wp_region_quiet_below (by kernel_rfl) (by kernel_rfl) ?_
  iterate 9 (go_big_quiet_step ((first | with_reducible exact Calls.regrown_of (cQ0.out _ _) | with_reducible exact Calls.regrown_of (cQ1.out _ _))))
  refine wpQuiet_nil ?_
  intro _ hw'
  obtain ⟨⟨dq, osq⟩, hw''⟩ := hw'
  subst hw''
  clear qa_b1 qb_b1 rqa_b1 rqb_b1 cQ0 cQ1
  have kQ := below_regrown (w.alloc (.cells #[.int .i64 a, .int .i64 (m : Int)] 46)) dq osq
  obtain ⟨wQ2, hwQ⟩ : ∃ u, u = grow (redrawn (w.alloc (.cells #[.int .i64 a, .int .i64 (m : Int)] 46)) dq) osq := ⟨_, rfl⟩
  rw [← hwQ] at kQ
  rw [← hwQ]
  clear hwQ
  replace b1 := b1.keeps kQ
  replace kw := Keeps.trans kw kQ
  have lt3 := b1.lt
  have sz4 := kw.size
  clear kQ
  go_wp2_with fail
  go_ret
  exact ⟨ret_str HE.out, kw⟩
set_option maxRecDepth 100000 in
set_option maxHeartbeats 3200000 in
theorem FracText_any {a b : Int} {w : World} (ht : Tab10 w) (h : fracB a b = true) :
    Calls Tryz.prog 70 #[.agg #[.int .i64 a, .int .i64 b]] w fun e w' => e = .returned (.tuple #[.string (bs (fracT a b)), .bool true]) ∧ Keeps w w' := by
  have hb := frac_n h
  have HF := hid h
  clear h
  by_cases h1 : b = 1
  · subst h1
    have HE := hid (show fracT a 1 = Lib.itoa a from if_pos rfl)
    go_enter Tryz.func70, Tryz.ntmps70
    have kw := keeps_refl w
    replace kw := Keeps.trans kw (keeps_alloc w (.cells #[.int .i64 a, .int .i64 1] 46))
    have b1 : Bx (w.alloc (.cells #[.int .i64 a, .int .i64 1] 46)) w.heap.size a 1 := Bx.new' (by simp)
    obtain ⟨ca1, cb1, fa1, fb1⟩ := id b1
    go_wp2_with fail
    clear ca1 cb1 fa1 fb1
    refine (IsFrac_any).mono ?_
    rintro e w2 ⟨rfl, k2⟩
    rw [HF.out]
    replace b1 := b1.keeps k2
    replace kw := Keeps.trans kw k2
    have lt3 := b1.lt
    have sz4 := kw.size
    clear k2
    obtain ⟨ca5, cb5, fa5, fb5⟩ := id b1
    go_wp2_with fail
    clear ca5 cb5 fa5 fb5
    refine (itoa_k (n := a) (by omega) (ht.keeps kw)).mono ?_
    rintro e w6 ⟨rfl, k6⟩
    replace b1 := b1.keeps k6
    replace kw := Keeps.trans kw k6
    have lt7 := b1.lt
    have sz8 := kw.size
    clear k6
    obtain ⟨ca9, cb9, fa9, fb9⟩ := id b1
    go_wp2_with fail
    clear ca9 cb9 fa9 fb9
    go_ret2
    exact ⟨ret_sb (by rw [HE.out]), kw⟩
  have t1 : (b != 1) = true := by simp [h1]
  have HE0 : fracT a b = Lib.itoa a ++ ([47] ++ Lib.itoa b) := if_neg h1
  have HE1 : bs (Lib.itoa a) ++ (({ data := #[47] } : ByteArray) ++ bs (Lib.itoa b)) = bs (fracT a b) := by
    rw [HE0, show ({ data := #[47] } : ByteArray) = bs [47] from rfl, bs_app, bs_app]
  have HE := hid HE1
  clear HE0 HE1 h1
  have hs1 := itoa_len (n := a) (by omega)
  have hs2 := itoa_len (n := b) (by omega)
  have HI := hid (fun (W : World) (t : Tab10 W) => itoa_k (n := a) (by omega) t)
  have HN := hid (fun (W : World) (t : Tab10 W) => itoa_k (n := b) (by omega) t)
  obtain ⟨sA, hsA⟩ : ∃ s, bs (Lib.itoa a) = s := ⟨_, rfl⟩
  obtain ⟨sB, hsB⟩ : ∃ s, bs (Lib.itoa b) = s := ⟨_, rfl⟩
  rw [hsA] at hs1 HI HE
  rw [hsB] at hs2 HN HE
  clear hsA hsB
  have hz1 : ¬ (9223372036854775807 < 1 + sB.size) := by omega
  have hz2 : ¬ (9223372036854775807 < sA.size + (1 + sB.size)) := by omega
  clear hs1 hs2
  go_enter Tryz.func70, Tryz.ntmps70
  have kw := keeps_refl w
  replace kw := Keeps.trans kw (keeps_alloc w (.cells #[.int .i64 a, .int .i64 b] 46))
  have b1 : Bx (w.alloc (.cells #[.int .i64 a, .int .i64 b] 46)) w.heap.size a b := Bx.new' (by simp)
  obtain ⟨ca1, cb1, fa1, fb1⟩ := id b1
  go_wp2_with fail
  clear ca1 cb1 fa1 fb1
  refine (IsFrac_any).mono ?_
  rintro e w2 ⟨rfl, k2⟩
  rw [HF.out]
  replace b1 := b1.keeps k2
  replace kw := Keeps.trans kw k2
  have lt3 := b1.lt
  have sz4 := kw.size
  clear k2
  obtain ⟨ca5, cb5, fa5, fb5⟩ := id b1
  go_wp2_with fail
  clear ca5 cb5 fa5 fb5
  refine (HI.out _ (ht.keeps kw)).mono ?_
  rintro e w6 ⟨rfl, k6⟩
  replace b1 := b1.keeps k6
  replace kw := Keeps.trans kw k6
  have lt7 := b1.lt
  have sz8 := kw.size
  clear k6
  obtain ⟨ca9, cb9, fa9, fb9⟩ := id b1
  go_wp2_with fail
  clear ca9 cb9 fa9 fb9
  refine (HN.out _ (ht.keeps kw)).mono ?_
  rintro e w10 ⟨rfl, k10⟩
  replace b1 := b1.keeps k10
  replace kw := Keeps.trans kw k10
  have lt11 := b1.lt
  have sz12 := kw.size
  clear k10
  go_wp2_with fail
  go_ret2
  exact ⟨ret_sb (by rw [HE.out]), kw⟩
set_option maxRecDepth 100000 in
set_option maxHeartbeats 1600000 in
theorem fracText_any {a b : Int} {w : World} (ht : Tab10 w) (h : fracB a b = true) :
    Calls Tryz.prog 39 #[.agg #[.int .i64 a, .int .i64 b]] w fun e w' => e = .returned (.string (bs (fracT a b))) ∧ Keeps w w' := by
  have HF := hid h
  clear h
  go_enter Tryz.func39, Tryz.ntmps39
  have kw := keeps_refl w
  replace kw := Keeps.trans kw (keeps_alloc w (.cells #[.int .i64 a, .int .i64 b] 46))
  have b1 : Bx (w.alloc (.cells #[.int .i64 a, .int .i64 b] 46)) w.heap.size a b := Bx.new' (by simp)
  obtain ⟨ca1, cb1, fa1, fb1⟩ := id b1
  go_wp2_with fail
  clear ca1 cb1 fa1 fb1
  refine (FracText_any (ht.keeps kw) HF.out).mono ?_
  rintro e w2 ⟨rfl, k2⟩
  replace b1 := b1.keeps k2
  replace kw := Keeps.trans kw k2
  have lt3 := b1.lt
  have sz4 := kw.size
  clear k2
  go_wp2_with fail
  go_ret
  exact ⟨rfl, kw⟩
end Go.Proofs.YtlkjhkkfdmjfcaaGreatDoor
