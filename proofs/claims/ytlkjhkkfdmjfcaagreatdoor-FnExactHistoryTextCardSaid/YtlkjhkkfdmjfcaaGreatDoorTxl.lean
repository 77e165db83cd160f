/- The texts of plans: walks. -/
import Derived.Test.YtlkjhkkfdmjfcaaGreatDoorTxu
namespace Go.Proofs.YtlkjhkkfdmjfcaaGreatDoor
open Go.RowKit Go.Sort
set_option linter.unusedVariables false
set_option linter.unusedSimpArgs false

set_option maxRecDepth 100000 in
set_option maxHeartbeats 6400000 in
theorem planText_any {A' Q : Option Addr} {lo hi q c lo2 hi2 m cm : Nat} {un : Bool} {ps : List Int} {l : List VV} {ts : List TT} {w : World} (hs : Vars w lo hi A' q l) (htt : Tabs true un w lo2 hi2 Q m ts) (hg : geoB ps = true) (hS : schB l = true) (hP : plB ps l ts = true) (ht : Tab10 w) :
    Calls Tryz.prog 40 #[.slice A' q c, .slice Q m cm] w fun e w' => e = .returned (.string (bs (planTo l ts m))) ∧ Keeps w w' := by
  have hm := htt.le
  have HTL := hid htt.len
  have HG := hid hg
  have HS := hid hS
  have HP := hid hP
  have HB := hid (plB_at hP)
  clear hg hS hP
  go_enter Tryz.func40, Tryz.ntmps40
  have kw := keeps_refl w
  go_wp2_with fail
  go_loopw [5, 10] (fun sv i wr => ∃ (k : Nat) (s : ByteArray), sv = .string s ∧ i = .int .i64 k ∧ k ≤ m ∧ Hid (s = bs (planTo l ts k)) ∧ Keeps w wr) (fun _ i _ => m - (intOf i).toNat)
  case atStart => exact ⟨0, _, rfl, rfl, Nat.zero_le _, hid rfl, kw⟩
  clear kw
  case round =>
    obtain ⟨k, s, rfl, rfl, hk, HE, kw⟩ := hrel
    by_cases hlt : k < m
    rotate_left
    · obtain rfl : m = k := by omega
      go_wp2
      go_ret
      exact ⟨ret_str HE.out, kw⟩
    obtain ⟨b, off, lv, V, nv, cv, H, nh, ch, sm, vs, ws, rfl, _, _, hc0, hc1, hc2, hc3, hv, hh, hx⟩ := (htt.keeps kw).at_ hlt
    have htb := HB.out.2 k (by rw [HTL.out]; exact hlt)
    rw [← hx.out] at htb
    have HTB := hid htb
    have hi1 : (k : Int) < (m : Int) := by omega
    have hsz := planTo_len HG.out HS.out HP.out k (by rw [HTL.out]; omega)
    rw [← bs_size, ← HE.out] at hsz
    have hm20 := HB.out.1
    rw [HTL.out] at hm20
    have hs2 := tabT_len HG.out HS.out htb
    rw [← bs_size] at hs2
    have HR := hid (show s ++ (bs (tabT l (lv, vs, ws, sm)) ++ ({ data := #[10] } : ByteArray)) = bs (planTo l ts (k + 1)) by
      rw [HE.out, show ({ data := #[10] } : ByteArray) = bs [10] from rfl, bs_app, bs_app, hx.out]; rfl)
    obtain ⟨sT, hsT⟩ : ∃ z, bs (tabT l (lv, vs, ws, sm)) = z := ⟨_, rfl⟩
    rw [hsT] at hs2 HR
    have HST := hid hsT
    have hz1 : ¬ (9223372036854775807 < sT.size + 1) := by omega
    have hz2 : ¬ (9223372036854775807 < s.size + (sT.size + 1)) := by omega
    clear hsT hx htb hsz hs2 hm20
    replace hv := hv.keeps (keeps_alloc wr (.cells #[.int .i64 lv, .slice V nv cv, .slice H nh ch, .int .i64 sm] 61))
    replace hh := hh.keeps (keeps_alloc wr (.cells #[.int .i64 lv, .slice V nv cv, .slice H nh ch, .int .i64 sm] 61))
    replace kw := Keeps.trans kw (keeps_alloc wr (.cells #[.int .i64 lv, .slice V nv cv, .slice H nh ch, .int .i64 sm] 61))
    have b7 : Bl (wr.alloc (.cells #[.int .i64 lv, .slice V nv cv, .slice H nh ch, .int .i64 sm] 61)) wr.heap.size [.int .i64 lv, .slice V nv cv, .slice H nh ch, .int .i64 sm] := Bl.new' (by simp) (by simp)
    have ca1_0 : (wr.alloc (.cells #[.int .i64 lv, .slice V nv cv, .slice H nh ch, .int .i64 sm] 61)).cell? ⟨wr.heap.size, 0, none⟩ = some (.int .i64 lv) := (b7.2 0 _ rfl).1
    have fa1_0 : (wr.alloc (.cells #[.int .i64 lv, .slice V nv cv, .slice H nh ch, .int .i64 sm] 61)).frozen? ⟨wr.heap.size, 0, none⟩ = false := (b7.2 0 _ rfl).2
    have ca1_1 : (wr.alloc (.cells #[.int .i64 lv, .slice V nv cv, .slice H nh ch, .int .i64 sm] 61)).cell? ⟨wr.heap.size, 1, none⟩ = some (.slice V nv cv) := (b7.2 1 _ rfl).1
    have fa1_1 : (wr.alloc (.cells #[.int .i64 lv, .slice V nv cv, .slice H nh ch, .int .i64 sm] 61)).frozen? ⟨wr.heap.size, 1, none⟩ = false := (b7.2 1 _ rfl).2
    have ca1_2 : (wr.alloc (.cells #[.int .i64 lv, .slice V nv cv, .slice H nh ch, .int .i64 sm] 61)).cell? ⟨wr.heap.size, 2, none⟩ = some (.slice H nh ch) := (b7.2 2 _ rfl).1
    have fa1_2 : (wr.alloc (.cells #[.int .i64 lv, .slice V nv cv, .slice H nh ch, .int .i64 sm] 61)).frozen? ⟨wr.heap.size, 2, none⟩ = false := (b7.2 2 _ rfl).2
    have ca1_3 : (wr.alloc (.cells #[.int .i64 lv, .slice V nv cv, .slice H nh ch, .int .i64 sm] 61)).cell? ⟨wr.heap.size, 3, none⟩ = some (.int .i64 sm) := (b7.2 3 _ rfl).1
    have fa1_3 : (wr.alloc (.cells #[.int .i64 lv, .slice V nv cv, .slice H nh ch, .int .i64 sm] 61)).frozen? ⟨wr.heap.size, 3, none⟩ = false := (b7.2 3 _ rfl).2
    go_wp2_with fail
    clear ca1_0 fa1_0 ca1_1 fa1_1 ca1_2 fa1_2 ca1_3 fa1_3
    refine (tableText_any (hs.keeps kw) hv hh HG.out HS.out HTB.out (ht.keeps kw)).mono ?_
    rintro e w2 ⟨rfl, k2⟩
    rw [HST.out]
    replace b7 := b7.keeps k2
    replace hv := hv.keeps k2
    replace hh := hh.keeps k2
    replace kw := Keeps.trans kw k2
    have lt3 := b7.lt
    have sz4 := kw.size
    clear k2
    clear b7 hv hh hc0 hc1 hc2 hc3
    go_wp2_with fail
    go_roundw
    case rel => exact ⟨k + 1, _, rfl, by go_num, hlt, HR, kw⟩
    case measure => simp [intOf]; omega
set_option maxRecDepth 100000 in
set_option maxHeartbeats 6400000 in
theorem PlanText_yes {A A' Q : Option Addr} {lo hi a c0 q c lo2 hi2 m cm : Nat} {un : Bool} {ps : List Int} {l : List VV} {ts : List TT} {w : World} (h : Ints w lo hi A a ps) (h' : Sch w A' q c l) (htt : Tabs true un w lo2 hi2 Q m ts) (hg : geoB ps = true) (hS : schB l = true) (hP : plB ps l ts = true) :
    Calls Tryz.prog 30 #[.agg #[.slice A a c0], .slice A' q c, .slice Q m cm] w fun e w' => e = .returned (.tuple #[.string (bs (planTo l ts m)), .bool true]) ∧ Keeps w w' := by
  have hm := htt.le
  have HTL := hid htt.len
  have HG := hid hg
  have HS := hid hS
  have HP := hid hP
  have HB := hid (plB_at hP)
  clear hg hS hP
  obtain ⟨lo9, hi9, hs⟩ := h'.v
  go_enter Tryz.func30, Tryz.ntmps30
  have kw := keeps_refl w
  replace kw := Keeps.trans kw (keeps_alloc w (.cells #[.slice A a c0] 32))
  have b3 : B1 (w.alloc (.cells #[.slice A a c0] 32)) w.heap.size (.slice A a c0) := B1.new' (by simp)
  obtain ⟨ca1, fa1⟩ := id b3
  go_wp2_with fail
  clear ca1 fa1
  refine (nPlan_any (h.keeps kw) (h'.keeps kw) (htt.keeps kw) HG.out HS.out).mono ?_
  rintro e w2 ⟨rfl, k2⟩
  rw [HP.out]
  replace b3 := b3.keeps k2
  replace kw := Keeps.trans kw k2
  have lt3 := b3.lt
  have sz4 := kw.size
  clear k2
  clear b3
  go_wp2_with fail
  go_loopw [8, 18] (fun sv i wr => ∃ (k : Nat) (s : ByteArray), sv = .string s ∧ i = .int .i64 k ∧ k ≤ m ∧ Hid (s = bs (planTo l ts k)) ∧ Keeps w wr) (fun _ i _ => m - (intOf i).toNat)
  case atStart => exact ⟨0, _, rfl, rfl, Nat.zero_le _, hid rfl, kw⟩
  clear kw
  case round =>
    obtain ⟨k, s, rfl, rfl, hk, HE, kw⟩ := hrel
    by_cases hlt : k < m
    rotate_left
    · obtain rfl : m = k := by omega
      go_wp2
      go_ret2
      exact ⟨ret_sb HE.out, kw⟩
    obtain ⟨b, off, lv, V, nv, cv, H, nh, ch, sm, vs, ws, rfl, _, _, hc0, hc1, hc2, hc3, hv, hh, hx⟩ := (htt.keeps kw).at_ hlt
    have htb := HB.out.2 k (by rw [HTL.out]; exact hlt)
    rw [← hx.out] at htb
    have HTB := hid htb
    have hi1 : (k : Int) < (m : Int) := by omega
    have hsz := planTo_len HG.out HS.out HP.out k (by rw [HTL.out]; omega)
    rw [← bs_size, ← HE.out] at hsz
    have hm20 := HB.out.1
    rw [HTL.out] at hm20
    have hs2 := tabT_len HG.out HS.out htb
    rw [← bs_size] at hs2
    have HR := hid (show s ++ (bs (tabT l (lv, vs, ws, sm)) ++ ({ data := #[10] } : ByteArray)) = bs (planTo l ts (k + 1)) by
      rw [HE.out, show ({ data := #[10] } : ByteArray) = bs [10] from rfl, bs_app, bs_app, hx.out]; rfl)
    obtain ⟨sT, hsT⟩ : ∃ z, bs (tabT l (lv, vs, ws, sm)) = z := ⟨_, rfl⟩
    rw [hsT] at hs2 HR
    have HST := hid hsT
    have hz1 : ¬ (9223372036854775807 < sT.size + 1) := by omega
    have hz2 : ¬ (9223372036854775807 < s.size + (sT.size + 1)) := by omega
    clear hsT hx htb hsz hs2 hm20
    replace hv := hv.keeps (keeps_alloc wr (.cells #[.int .i64 lv, .slice V nv cv, .slice H nh ch, .int .i64 sm] 61))
    replace hh := hh.keeps (keeps_alloc wr (.cells #[.int .i64 lv, .slice V nv cv, .slice H nh ch, .int .i64 sm] 61))
    replace kw := Keeps.trans kw (keeps_alloc wr (.cells #[.int .i64 lv, .slice V nv cv, .slice H nh ch, .int .i64 sm] 61))
    have b7 : Bl (wr.alloc (.cells #[.int .i64 lv, .slice V nv cv, .slice H nh ch, .int .i64 sm] 61)) wr.heap.size [.int .i64 lv, .slice V nv cv, .slice H nh ch, .int .i64 sm] := Bl.new' (by simp) (by simp)
    have ca5_0 : (wr.alloc (.cells #[.int .i64 lv, .slice V nv cv, .slice H nh ch, .int .i64 sm] 61)).cell? ⟨wr.heap.size, 0, none⟩ = some (.int .i64 lv) := (b7.2 0 _ rfl).1
    have fa5_0 : (wr.alloc (.cells #[.int .i64 lv, .slice V nv cv, .slice H nh ch, .int .i64 sm] 61)).frozen? ⟨wr.heap.size, 0, none⟩ = false := (b7.2 0 _ rfl).2
    have ca5_1 : (wr.alloc (.cells #[.int .i64 lv, .slice V nv cv, .slice H nh ch, .int .i64 sm] 61)).cell? ⟨wr.heap.size, 1, none⟩ = some (.slice V nv cv) := (b7.2 1 _ rfl).1
    have fa5_1 : (wr.alloc (.cells #[.int .i64 lv, .slice V nv cv, .slice H nh ch, .int .i64 sm] 61)).frozen? ⟨wr.heap.size, 1, none⟩ = false := (b7.2 1 _ rfl).2
    have ca5_2 : (wr.alloc (.cells #[.int .i64 lv, .slice V nv cv, .slice H nh ch, .int .i64 sm] 61)).cell? ⟨wr.heap.size, 2, none⟩ = some (.slice H nh ch) := (b7.2 2 _ rfl).1
    have fa5_2 : (wr.alloc (.cells #[.int .i64 lv, .slice V nv cv, .slice H nh ch, .int .i64 sm] 61)).frozen? ⟨wr.heap.size, 2, none⟩ = false := (b7.2 2 _ rfl).2
    have ca5_3 : (wr.alloc (.cells #[.int .i64 lv, .slice V nv cv, .slice H nh ch, .int .i64 sm] 61)).cell? ⟨wr.heap.size, 3, none⟩ = some (.int .i64 sm) := (b7.2 3 _ rfl).1
    have fa5_3 : (wr.alloc (.cells #[.int .i64 lv, .slice V nv cv, .slice H nh ch, .int .i64 sm] 61)).frozen? ⟨wr.heap.size, 3, none⟩ = false := (b7.2 3 _ rfl).2
    go_wp2_with fail
    clear ca5_0 fa5_0 ca5_1 fa5_1 ca5_2 fa5_2 ca5_3 fa5_3
    refine (nTable_any (hs.keeps kw) hv hh HG.out HS.out HTB.out).mono ?_
    rintro e w6 ⟨rfl, k6⟩
    rw [HST.out]
    replace b7 := b7.keeps k6
    replace hv := hv.keeps k6
    replace hh := hh.keeps k6
    replace kw := Keeps.trans kw k6
    have lt7 := b7.lt
    have sz8 := kw.size
    clear k6
    clear b7 hv hh hc0 hc1 hc2 hc3
    go_wp2_with fail
    go_roundw
    case rel => exact ⟨k + 1, _, rfl, by go_num, hlt, HR, kw⟩
    case measure => simp [intOf]; omega
end Go.Proofs.YtlkjhkkfdmjfcaaGreatDoor
