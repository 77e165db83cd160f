/- slices.SortStableFunc over the numbers below n, n up to 30, by a comparison of keys: falling keys, equal ones in their order. -/
import Derived.Test.YtikmgohjgdojdaaStd
import Derived.Test.YtikmgohjgdojdaaStg
import Derived.Test.YtikmgohjgdojdaaLrL
namespace Go.Proofs.Ytikmgohjgdojdaa
open Go.RowKit
set_option linter.unusedVariables false
set_option linter.unusedSimpArgs false
theorem symMerge_any (N : Nat) : ∀ {A : Option Addr} {lo hi n c a m b : Nat} {xs : List Int} {K : FuncId} {caps : Array Value} {key : Int → Int} {cv : Int → Int → Int} {G : Int → Prop} {w : World} (h : Mine w lo hi A n xs) (hN : b - a ≤ N) (hl : Ready key xs a m b) (hbn : b ≤ n) (hK : ∀ (args : Array Value) (w : World), (callFunc K args).run Try.prog w = .ok (.enter K args) w) (hc : CmpAt K caps key cv G lo hi w) (hG : ∀ x ∈ xs, G x),
    Calls Try.prog 148 #[.slice A n c, .int .i64 (a : Int), .int .i64 (m : Int), .int .i64 (b : Int), .func (.func K) #[] caps] w fun e w' => e = .returned (.tuple #[]) ∧ ∃ ys, Mine w' lo hi A n ys ∧ Hid (Merged key xs ys a b) ∧ Fr lo hi w w' := by
  induction N with
  | zero => intro A lo hi n c a m b xs K caps key cv G w h hN hl; have := hl.am; have := hl.mb; omega
  | succ N ih =>
    intro A lo hi n c a m b xs K caps key cv G w h hN hl hbn hK hc hG
    by_cases h1 : m = a + 1
    · exact symMerge_up h hl h1 hbn hK hc hG
    · by_cases h2 : b = m + 1
      · exact symMerge_dn h hl h1 h2 hbn hK hc hG
      · exact symMerge_go h hl h1 h2 hbn hK hc hG (fun a' m' b' ys w' hlt hm hr hb' hc' hG' => ih hm (by omega) hr hb' hK hc' hG')
set_option maxRecDepth 100000 in
set_option maxHeartbeats 6400000 in
theorem stable_any {A : Option Addr} {lo hi n c  : Nat} {xs : List Int} {K : FuncId} {caps : Array Value} {key : Int → Int} {cv : Int → Int → Int} {G : Int → Prop} {w : World} (h : Mine w lo hi A n xs) (hn1 : 1 ≤ n) (hn2 : n ≤ 30) (hK : ∀ (args : Array Value) (w : World), (callFunc K args).run Try.prog w = .ok (.enter K args) w) (hc : CmpAt K caps key cv G lo hi w) (hG : ∀ x ∈ xs, G x) (hinc : ∀ s t, s < t → t < n → xs.getD s 0 < xs.getD t 0) :
    Calls Try.prog 114 #[.slice A n c, .int .i64 (n : Int), .func (.func K) #[] caps] w fun e w' => e = .returned (.tuple #[]) ∧ ∃ ys, Mine w' lo hi A n ys ∧ Hid (Merged key xs ys 0 n) ∧ Fr lo hi w w' := by
  have HL := hid h.1.1
  have HI := hid hinc
  have HC := hid hc
  have HG := hid hG
  have HK := hid hK
  clear hinc hc hG hK
  rcases Nat.lt_or_ge n 20 with q | q
  · have t1 : ¬ (20 : Int) ≤ (n : Int) := by omega
    have t2 : ¬ (20 : Int) < (n : Int) := by omega
    have c1 : Calls Try.prog 147 #[.slice A n c, .int .i64 0, .int .i64 (n : Int), .func (.func K) #[] caps] w _ := insertion_any (c := c) (a := 0) (b := n) h (by omega) (Nat.le_refl _) HK.out HC.out HG.out (fun s t _ h2 h3 => HI.out s t h2 h3)
    clear h
    go_enter Try.func114, Try.ntmps114
    go_wp2_with fail
    refine wp_loop_rounds 1 ?_
    rw [rounds_succ]
    go_wp2_with fail
    refine c1.mono ?_
    rintro e w1 ⟨rfl, ys, m1, HM, f1⟩
    go_wp2_with fail
    refine wp_loop_rounds 1 ?_
    rw [rounds_succ]
    go_wp2_with fail
    exact bodyPost_end (v := .tuple #[]) (by simp [results, Try.results114, go_sem]) rfl ⟨rfl, ys, m1, HM, f1⟩
  rcases Nat.lt_or_ge 20 n with q2 | q2
  rotate_left
  · obtain rfl : n = 20 := by omega
    have c1 : Calls Try.prog 147 #[.slice A 20 c, .int .i64 0, .int .i64 20, .func (.func K) #[] caps] w _ := insertion_any (c := c) (a := 0) (b := 20) h (by omega) (Nat.le_refl _) HK.out HC.out HG.out (fun s t _ h2 h3 => HI.out s t h2 h3)
    clear h
    go_enter Try.func114, Try.ntmps114
    go_wp2_with fail
    refine wp_loop_rounds 2 ?_
    rw [rounds_succ]
    go_wp2_with fail
    refine c1.mono ?_
    rintro e w1 ⟨rfl, ys, m1, HM, f1⟩
    go_wp2_with fail
    rw [rounds_succ]
    go_wp2_with fail
    have c2 : Calls Try.prog 147 #[.slice A 20 c, .int .i64 20, .int .i64 20, .func (.func K) #[] caps] w1 _ := insertion_any (c := c) (a := 20) (b := 20) m1 (by omega) (Nat.le_refl _) HK.out (HC.out.fr f1) (HM.out.all HG.out) (fun s t h1 h2 h3 => by omega)
    refine c2.mono ?_
    rintro e w2 ⟨rfl, zs, m2, HM2, f2⟩
    have HE := hid (show Merged key xs zs 0 20 from by
      obtain ⟨Z, hZ, hp, hs⟩ := HM2.out
      have hl := (HM.out.parts (by omega) (by rw [HL.out]; omega)).1
      rw [seg_none (Nat.le_refl _)] at hp
      obtain rfl : Z = [] := List.Perm.eq_nil hp
      have : zs = ys := by rw [hZ, List.nil_append, List.take_append_drop]
      rw [this]; exact HM.out)
    have F9 := hid (f1.trans f2)
    clear c1 c2 m1 f1 f2
    go_wp2_with fail
    refine wp_loop_rounds 1 ?_
    rw [rounds_succ]
    go_wp2_with fail
    exact bodyPost_end (v := .tuple #[]) (by simp [results, Try.results114, go_sem]) rfl ⟨rfl, zs, m2, HE, F9.out⟩
  have t1 : (20 : Int) ≤ (n : Int) := by omega
  have t2 : (20 : Int) < (n : Int) := by omega
  have t3 : ¬ (40 : Int) ≤ (n : Int) := by omega
  have t4 : ¬ (40 : Int) < (n : Int) := by omega
  have c1 : Calls Try.prog 147 #[.slice A n c, .int .i64 0, .int .i64 20, .func (.func K) #[] caps] w _ := insertion_any (c := c) (a := 0) (b := 20) h (by omega) (by omega) HK.out HC.out HG.out (fun s t _ h2 h3 => HI.out s t h2 (by omega))
  clear h
  go_enter Try.func114, Try.ntmps114
  go_wp2_with fail
  refine wp_loop_rounds 2 ?_
  rw [rounds_succ]
  go_wp2_with fail
  refine c1.mono ?_
  rintro e w1 ⟨rfl, ys, m1, HM, f1⟩
  clear c1
  go_wp2_with fail
  rw [rounds_succ]
  go_wp2_with fail
  have c2 : Calls Try.prog 147 #[.slice A n c, .int .i64 20, .int .i64 (n : Int), .func (.func K) #[] caps] w1 _ := insertion_any (c := c) (a := 20) (b := n) m1 (by omega) (Nat.le_refl _) HK.out (HC.out.fr f1) (HM.out.all HG.out) (fun s t h1 h2 h3 => by
    have hd := (HM.out.parts (by omega) (by rw [HL.out]; omega)).2.2.1
    have e1 := congrArg (fun l => l.getD (s - 20) 0) hd
    have e2 := congrArg (fun l => l.getD (t - 20) 0) hd
    simp only [drop_at] at e1 e2
    rw [show 20 + (s - 20) = s by omega] at e1
    rw [show 20 + (t - 20) = t by omega] at e2
    rw [e1, e2]; exact HI.out s t h2 h3)
  refine c2.mono ?_
  rintro e w2 ⟨rfl, zs, m2, HM2, f2⟩
  clear c2
  have F2 := hid (f1.trans f2)
  have HR := hid (ready_of HM.out HM2.out (by omega) q2 (by rw [HL.out]; exact Nat.le_refl _) HI.out)
  have HG2 := hid (HM2.out.all (HM.out.all HG.out))
  clear m1 f1 f2
  go_wp2_with fail
  refine wp_loop_rounds 2 ?_
  rw [rounds_succ]
  go_wp2_with fail
  refine wp_loop_rounds 1 ?_
  rw [rounds_succ]
  go_wp2_with fail
  have c3 : Calls Try.prog 148 #[.slice A n c, .int .i64 0, .int .i64 20, .int .i64 (n : Int), .func (.func K) #[] caps] w2 _ := symMerge_any n (c := c) (a := 0) (m := 20) (b := n) m2 (by omega) HR.out (Nat.le_refl _) HK.out (HC.out.fr F2.out) HG2.out
  refine c3.mono ?_
  rintro e w3 ⟨rfl, us, m3, HM3, f3⟩
  clear c3
  have HE := hid (merged_trans HM.out HM2.out HM3.out (by omega) (by rw [HL.out]; exact Nat.le_refl _))
  have F9 := hid (F2.out.trans f3)
  clear m2 f3 F2
  go_wp2_with fail
  rw [rounds_succ]
  go_wp2_with fail
  exact bodyPost_end (v := .tuple #[]) (by simp [results, Try.results114, go_sem]) rfl ⟨rfl, us, m3, HE, F9.out⟩
set_option maxRecDepth 100000 in
set_option maxHeartbeats 3200000 in
theorem sortStable_any {A : Option Addr} {lo hi n c : Nat} {K : FuncId} {caps : Array Value} {key : Int → Int} {cv : Int → Int → Int} {G : Int → Prop} {w : World} (h : Mine w lo hi A n (iot n)) (hn1 : 1 ≤ n) (hn2 : n ≤ 30) (hK : ∀ (args : Array Value) (w : World), (callFunc K args).run Try.prog w = .ok (.enter K args) w) (hc : CmpAt K caps key cv G lo hi w) (hG : ∀ x ∈ iot n, G x) :
    Calls Try.prog 77 #[.slice A n c, .func (.func K) #[] caps] w fun e w' => e = .returned (.tuple #[]) ∧ ∃ ys, Mine w' lo hi A n ys ∧ Hid (Ord key n ys) ∧ Fr lo hi w w' := by
  have c1 := stable_any (c := c) h hn1 hn2 hK hc hG (fun s t h1 h2 => iot_inc h1 h2)
  clear hK hc hG h
  go_enter Try.func77, Try.ntmps77
  go_wp2_with fail
  refine c1.mono ?_
  rintro e w1 ⟨rfl, ys, m1, HM, f1⟩
  have HO := hid (Ord.of_merged HM.out)
  clear HM c1
  go_wp2_with fail
  exact bodyPost_end (v := .tuple #[]) (by simp [results, Try.results77, go_sem]) rfl ⟨rfl, ys, m1, HO, f1⟩
end Go.Proofs.Ytikmgohjgdojdaa
