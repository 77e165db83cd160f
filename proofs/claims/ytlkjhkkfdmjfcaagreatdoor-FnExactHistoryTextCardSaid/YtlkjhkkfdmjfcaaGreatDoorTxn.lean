/- The texts of numbers: l1Num. Walks. -/
import Derived.Test.YtlkjhkkfdmjfcaaGreatDoorKD
import Derived.Test.YtlkjhkkfdmjfcaaGreatDoorKB
import Derived.Lib.ItoaNum
import Derived.Lib.ItoaLen
import Derived.Laws.BytesArg
import Derived.Deep.RegionLaw
namespace Go.Proofs.YtlkjhkkfdmjfcaaGreatDoor
open Go.RowKit
set_option linter.unusedVariables false
set_option linter.unusedSimpArgs false
/-- The text of some bytes. -/
def bs (l : List UInt8) : ByteArray := ⟨l.toArray⟩
theorem ret_str {a b : ByteArray} (h : a = b) : Ending.returned (.string a) = .returned (.string b) := by rw [h]
theorem bs_app (a b : List UInt8) : bs a ++ bs b = bs (a ++ b) := by
  apply ByteArray.ext
  simp [bs, ByteArray.data_append]
theorem bs_size (l : List UInt8) : (bs l).size = l.length := by simp [bs, ByteArray.size]
theorem dec_len (n : Nat) (h : n ≤ 9223372036854775807) : (Lib.decDigits n).length ≤ 20 := by
  rw [Lib.decDigits_length]; exact Lib.nDigits_le20 n (by omega)
theorem str_one (x : Int) : strOfNums [x] = bs [UInt8.ofNat x.toNat] := by simp [strOfNums, bs]
/-- An operation that reads alone, in a region that draws its order. -/
theorem step_val {W : World} {ops : Array Oper} {o : Oper} {a : Act} {K : Act → World → Prop} {Q : Exit → Act → World → Prop} {E : Prop} {m : Sem Value} {u : Value}
    (hgd : o.guard = none) (hx : execOp a.eval o = (do pure (.value (← m)))) (hm : m.run Tryz.prog W = .ok u W) (h : K (a.put o.dst u) W) :
    if Region.wanted o (yielded ops a.tmps) = true then Oper.wp Tryz.prog o a W K Q else E := by
  have hw : Region.wanted o (yielded ops a.tmps) = true := by simp [Region.wanted, hgd]
  rw [if_pos hw]
  unfold Oper.wp
  rw [hx]
  simp [hm, Oper.upon_value]
  exact h
/-- A call, in a region that draws its order. -/
theorem step_cl {W : World} {ops : Array Oper} {o : Oper} {a : Act} {K : Act → World → Prop} {Q : Exit → Act → World → Prop} {E : Prop} {f : FuncId} {args : Array Value} {u : Value} {R : World → Prop}
    (hc : Calls Tryz.prog f args W fun e w' => e = .returned u ∧ R w') (hgd : o.guard = none)
    (hrun : (execOp a.eval o).run Tryz.prog W = .ok (.enter f args) W)
    (h : ∀ w', R w' → K (a.put o.dst u) w') :
    if Region.wanted o (yielded ops a.tmps) = true then Oper.wp Tryz.prog o a W K Q else E := by
  have hw : Region.wanted o (yielded ops a.tmps) = true := by simp [Region.wanted, hgd]
  rw [if_pos hw]
  unfold Oper.wp
  rw [hrun, Oper.upon_enter]
  refine hc.mono fun e w' hh => ?_
  obtain ⟨rfl, hk⟩ := hh
  exact h w' hk
theorem new_u8 (w : World) (x : Int) : (w.alloc (.cells #[.int .u8 x] 5)).cell? ⟨w.heap.size, 0, none⟩ = some (.int .u8 x) := by
  rw [cell_of_row _ _ _ _ _ _ (heap_alloc_new _ _)]; rfl
theorem new_u8d (w : World) (x : Int) : (w.alloc (.cells #[.int .u8 x] 5)).drew.cell? ⟨w.heap.size, 0, none⟩ = some (.int .u8 x) := new_u8 w x
theorem cv_one {W : World} {g : Nat} {x : Int} (h : W.cell? ⟨g, 0, none⟩ = some (.int .u8 x)) : (convert 42 9 (.slice (some ⟨g, 0, none⟩) 1 1)).run Tryz.prog W = .ok (.string (bs [UInt8.ofNat x.toNat])) W := by
  have := run_convert_bytes_arg (P := Tryz.prog) W 42 5 Tryz.underlying42 Tryz.underlying5 g 0 1 1 [x] rfl (fun i hi => by
    obtain rfl : i = 0 := by omega
    exact h) 9 Tryz.underlying9
  rwa [str_one] at this
set_option maxRecDepth 100000 in
set_option maxHeartbeats 3200000 in
theorem l1Num_any : ∀ (n : Nat), n ≤ 4000000000 → ∀ w : World,
    Calls Tryz.prog 31 #[.int .i64 n] w fun e w' => e = .returned (.string (bs (Lib.decDigits n))) ∧ Keeps w w' := by
  intro n
  induction n using Nat.strongRecOn with
  | _ n ih =>
  intro hn w
  have IH := hid ih
  clear ih
  by_cases h : n < 10
  · have h1 : (n : Int) < 10 := by omega
    have HD := hid (Lib.decDigits_one h)
    have hcell : ∀ i, i < 1 → (w.alloc (.cells #[.int .u8 (48 + (n : Int))] 5)).cell? ⟨w.heap.size, 0 + i, none⟩ = some (.int .u8 ([48 + (n : Int)].getD i 0)) := by
      intro i hi
      obtain rfl : i = 0 := by omega
      rw [Nat.zero_add, cell_of_row _ _ _ _ _ _ (heap_alloc_new _ _)]
      rfl
    have HCV := hid (run_convert_bytes_arg (P := Tryz.prog) (w.alloc (.cells #[.int .u8 (48 + (n : Int))] 5)) 42 5 Tryz.underlying42 Tryz.underlying5 w.heap.size 0 1 1 [48 + (n : Int)] rfl hcell 9 Tryz.underlying9)
    clear hcell
    rw [str_one] at HCV
    have kw := keeps_alloc w (.cells #[.int .u8 (48 + (n : Int))] 5)
    go_enter Tryz.func31, Tryz.ntmps31
    go_wp2_with fail
    rw [HCV.out]
    go_wp2_with fail
    go_ret
    refine ⟨?_, kw⟩
    rw [HD.out]
    congr 3
  · have h1 : ¬ (n : Int) < 10 := by omega
    have HD : Hid (Lib.decDigits n = Lib.decDigits (n / 10) ++ [UInt8.ofNat (48 + n % 10)]) := by
      rw [Lib.decDigits, dif_neg h]; exact rfl
    obtain ⟨q, hq⟩ : ∃ q, n / 10 = q := ⟨_, rfl⟩
    obtain ⟨r, hr⟩ : ∃ r, n % 10 = r := ⟨_, rfl⟩
    rw [hq, hr] at HD
    have hlt : q < n := by omega
    have hq4 : q ≤ 4000000000 := by omega
    have hr10 : r < 10 := by omega
    have ht1 : (n : Int).tdiv 10 = (q : Int) := by rw [← hq]; exact (Int.ofNat_tdiv n 10).symm
    have ht2 : (n : Int).tmod 10 = (r : Int) := by rw [← hr]; exact (Int.ofNat_tmod n 10).symm
    have hw1 : IntKind.i64.wrap (q : Int) = (q : Int) := IntWalk.i64_in _ (by omega)
    have hw2 : IntKind.i64.wrap (r : Int) = (r : Int) := IntWalk.i64_in _ (by omega)
    have hw3 : IntKind.i64.wrap ((48 : Int) + (r : Int)) = (48 : Int) + (r : Int) := IntWalk.i64_in _ (by omega)
    have hw4 : IntKind.u8.wrap ((48 : Int) + (r : Int)) = (48 : Int) + (r : Int) := by simp [IntKind.wrap, IntKind.signed, IntKind.bits]; omega
    have hne : ¬ (10 : Int) = 0 := by omega
    have IHQ := hid (fun W => IH.out q hlt hq4 W)
    have hsz1 : (bs (Lib.decDigits q)).size ≤ 20 := by rw [bs_size]; exact dec_len q (by omega)
    have hsz2 : (bs [UInt8.ofNat ((48 : Int) + (r : Int)).toNat]).size = 1 := by rw [bs_size]; rfl
    obtain ⟨sA, hsA⟩ : ∃ s, bs (Lib.decDigits q) = s := ⟨_, rfl⟩
    obtain ⟨sB, hsB⟩ : ∃ s, bs [UInt8.ofNat ((48 : Int) + (r : Int)).toNat] = s := ⟨_, rfl⟩
    have HR := hid (show sA ++ sB = bs (Lib.decDigits n) by
      rw [← hsA, ← hsB, bs_app, HD.out]
      congr 3)
    rw [hsA] at hsz1 IHQ
    rw [hsB] at hsz2
    have HCV := hid (fun (W : World) (g : Nat) (hc : W.cell? ⟨g, 0, none⟩ = some (.int .u8 (48 + (r : Int)))) => cv_one hc)
    rw [hsB] at HCV
    clear IH HD hq hr hsA hsB hlt hq4
    have hz1 : ¬ (9223372036854775807 < sA.size + sB.size) := by omega
    have hz2 : sA.size + sB.size ≤ 9223372036854775807 := by omega
    clear hsz1 hsz2
    go_enter Tryz.func31, Tryz.ntmps31
    have kw := keeps_refl w
    go_wp2_with fail
    have hc1 := fun (W : World) => HCV.out _ W.heap.size (new_u8 W _)
    have hc2 := HCV.out _ w.heap.size (new_u8d w _)
    go_region_law ((first
      | (refine step_cl (IHQ.out _) rfl (by kernel_rfl) ?_; intro wB kB; try (have hc3 := HCV.out wB w.heap.size (cell_keeps (new_u8d w _) kB)))))
    all_goals (go_wp2_with fail; go_ret; exact ⟨ret_str HR.out, by first | exact (keeps_d kB).trans (keeps_alloc _ _) | exact keeps_ad kB⟩)
end Go.Proofs.YtlkjhkkfdmjfcaaGreatDoor
