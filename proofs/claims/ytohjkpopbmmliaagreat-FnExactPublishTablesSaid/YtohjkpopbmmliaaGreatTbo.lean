/- The cells of a table: of the program and of the reference. -/
import Derived.Test.YtohjkpopbmmliaaGreatCtb
import Derived.Test.YtohjkpopbmmliaaGreatSurw
namespace Go.Proofs.YtohjkpopbmmliaaGreat
open Go.RowKit Go.Sort
set_option linter.unusedVariables false
set_option linter.unusedSimpArgs false

/-- The cells of a table for the first k records. -/
def toTo (ps : List Int) (l : List VV) (t : TT) (rs : List RR) : Nat → List Int
  | 0 => List.replicate (tabN ps l t).toNat 0
  | k + 1 =>
    let q := ceQ ps l t (rs.getD k r0).1.toNat (rs.getD k r0).2.2
    if 0 ≤ q.1 then (toTo ps l t rs k).set q.1.toNat ((toTo ps l t rs k).getD q.1.toNat 0 + q.2) else toTo ps l t rs k
def toL (ps : List Int) (l : List VV) (t : TT) (rs : List RR) : List Int := toTo ps l t rs rs.length
theorem toTo_len (ps : List Int) (l : List VV) (t : TT) (rs : List RR) : ∀ k, (toTo ps l t rs k).length = (tabN ps l t).toNat
  | 0 => by simp [toTo]
  | k + 1 => by unfold toTo; dsimp only; split <;> simp [toTo_len ps l t rs k]
theorem toTo_no {ps : List Int} {l : List VV} {t : TT} {rs : List RR} {k i : Nat} {zs : List Int} {c a : Int} {y : Int} (hr : rs.getD k r0 = ((i : Int), y, zs)) (h : ceQ ps l t i zs = (c, a)) (hc : ¬ 0 ≤ c) : toTo ps l t rs (k + 1) = toTo ps l t rs k := by
  show (let q := ceQ ps l t (rs.getD k r0).1.toNat (rs.getD k r0).2.2; if 0 ≤ q.1 then _ else _) = _
  rw [hr]; dsimp only; rw [Int.toNat_natCast, h]; exact if_neg hc
theorem toTo_yes {ps : List Int} {l : List VV} {t : TT} {rs : List RR} {k i j : Nat} {zs : List Int} {a v : Int} {y : Int} (hr : rs.getD k r0 = ((i : Int), y, zs)) (h : ceQ ps l t i zs = ((j : Int), a)) (hv : (toTo ps l t rs k).getD j 0 = v) : (toTo ps l t rs k).set j (v + a) = toTo ps l t rs (k + 1) := by
  symm
  show (let q := ceQ ps l t (rs.getD k r0).1.toNat (rs.getD k r0).2.2; if 0 ≤ q.1 then _ else _) = _
  rw [hr]; dsimp only; rw [Int.toNat_natCast, h]; dsimp only; rw [if_pos (by omega), Int.toNat_natCast, hv]
theorem toTo_bd {ps : List Int} {l : List VV} {t : TT} {rs : List RR} (h : ∀ k, k < rs.length → 0 ≤ (ceQ ps l t (rs.getD k r0).1.toNat (rs.getD k r0).2.2).2 ∧ (ceQ ps l t (rs.getD k r0).1.toNat (rs.getD k r0).2.2).2 ≤ 7) : ∀ k j, k ≤ rs.length → 0 ≤ (toTo ps l t rs k).getD j 0 ∧ (toTo ps l t rs k).getD j 0 ≤ 7 * (k : Int)
  | 0, j, _ => by
    have : (toTo ps l t rs 0).getD j 0 = 0 := by
      unfold toTo
      simp only [List.getD, List.getElem?_replicate]; split <;> rfl
    rw [this]; omega
  | k + 1, j, hk => by
    have ih := toTo_bd h k j (by omega)
    have hb := h k (by omega)
    show 0 ≤ (let q := ceQ ps l t (rs.getD k r0).1.toNat (rs.getD k r0).2.2; if 0 ≤ q.1 then (toTo ps l t rs k).set q.1.toNat ((toTo ps l t rs k).getD q.1.toNat 0 + q.2) else toTo ps l t rs k).getD j 0 ∧ (let q := ceQ ps l t (rs.getD k r0).1.toNat (rs.getD k r0).2.2; if 0 ≤ q.1 then (toTo ps l t rs k).set q.1.toNat ((toTo ps l t rs k).getD q.1.toNat 0 + q.2) else toTo ps l t rs k).getD j 0 ≤ _
    obtain ⟨q, hq⟩ : ∃ q, ceQ ps l t (rs.getD k r0).1.toNat (rs.getD k r0).2.2 = q := ⟨_, rfl⟩
    rw [hq] at hb ⊢
    dsimp only
    split
    · by_cases e : j = q.1.toNat
      · subst e
        by_cases hl : q.1.toNat < (toTo ps l t rs k).length
        · rw [getD_set_same hl]; push_cast; omega
        · rw [List.set_eq_of_length_le (by omega)]; push_cast; omega
      · rw [getD_set_other (by omega)]; push_cast; omega
    · push_cast; omega

set_option maxRecDepth 100000 in
set_option maxHeartbeats 12800000 in
theorem tableOf_any {A A' V H R : Option Addr} {lo hi a c0 lo' hi' lo2 hi2 lo3 hi3 n c m d q e r cr : Nat} {ps vs ws : List Int} {l : List VV} {rs : List RR} {lv sm : Int} {w : World} (h : Ints w lo hi A a ps) (h' : Sch w A' q e l) (hV : Ints w lo' hi' V n vs) (hH : Ints w lo2 hi2 H m ws) (hr : Recs w lo3 hi3 R r rs) (hg : geoB ps = true) (hs : schB l = true) (ht : tabB ps l (lv, vs, ws, sm) = true) (hsv : survB ps l rs = true) :
    Calls Tryz.prog 132 #[.agg #[.slice A a c0], .slice A' q e, .agg #[.int .i64 lv, .slice V n c, .slice H m d, .int .i64 sm], .slice R r cr] w fun e' w' => ∃ N K, e' = .returned (.slice K N N) ∧ Mine w' w.heap.size w'.heap.size K N (toL ps l (lv, vs, ws, sm) rs) ∧ Keeps w w' := by
  obtain ⟨lo9, hi9, hv9⟩ := h'.v
  have HQL := hid (Vars.len hv9)
  have hq := hv9.le
  have htp := tabB_parts ht
  have HVS := hid (show vsB q vs = true by have := htp.1; simp only [HQL.out] at this; exact this)
  have HPL := hid h.1
  have HRL := hid hr.len
  have hr9 := hr.le
  obtain ⟨N, hN⟩ : ∃ N : Nat, tabN ps l (lv, vs, ws, sm) = (N : Int) := ⟨(tabN ps l (lv, vs, ws, sm)).toNat, by have := htp.2.2.2.1; omega⟩
  have HN := hid hN
  have hN6 : N ≤ 600 := by have := htp.2.2.2.2; omega
  have HG := hid hg
  have HS := hid hs
  have HTB := hid ht
  have HSV := hid (fun k (hk : k < r) => survB_row hsv (k := k) (by rw [hr.len]; exact hk))
  have h40 : r ≤ 40 := by
    rcases Nat.eq_zero_or_pos r with e | e
    · omega
    · have := (survB_row hsv (k := 0) (by rw [hr.len]; exact e)).1; rw [hr.len] at this; exact this
  have HAR := hid (fun k (hk : k < r) => (show ∃ i : Nat, (rs.getD k r0).1 = (i : Int) ∧ i < a by
    have h1 := (mem_leaves.1 (survB_row hsv (k := k) (by rw [hr.len]; exact hk)).2.1).1
    have h2 := h.1
    exact ⟨(rs.getD k r0).1.toNat, by omega, by omega⟩))
  have HBD := hid (toTo_bd (ps := ps) (l := l) (t := (lv, vs, ws, sm)) (rs := rs) (fun k hk => by
    have h1 := survB_row hsv hk
    have h2 := (mem_leaves.1 h1.2.1).1
    exact (ceQ_bd hg hs ht h1.2.2 (by omega)).2))
  have HTO := hid (show toL ps l (lv, vs, ws, sm) rs = toTo ps l (lv, vs, ws, sm) rs r by unfold toL; rw [hr.len])
  have HTZ := hid (show toTo ps l (lv, vs, ws, sm) rs 0 = List.replicate N 0 by unfold toTo; rw [hN, Int.toNat_natCast])
  have HLN := hid (fun k => (show (toTo ps l (lv, vs, ws, sm) rs k).length = N by rw [toTo_len, hN, Int.toNat_natCast]))
  have HCB := hid (fun i zs (hf : fitB l zs = true) (hi : i < ps.length) => ceQ_bd (zs := zs) hg hs ht hf hi)
  clear hg hs ht hsv htp hN
  have hmk := make_ints N (by omega)
  go_enter Tryz.func132, Tryz.ntmps132
  have kw := keeps_refl w
  replace kw := Keeps.trans kw (keeps_alloc w (.cells #[.slice A a c0] 26))
  have b4 : B1 (w.alloc (.cells #[.slice A a c0] 26)) w.heap.size (.slice A a c0) := B1.new' (by simp)
  replace b4 := b4.keeps (keeps_alloc (w.alloc (.cells #[.slice A a c0] 26)) (.cells #[.int .i64 lv, .slice V n c, .slice H m d, .int .i64 sm] 120))
  replace kw := Keeps.trans kw (keeps_alloc (w.alloc (.cells #[.slice A a c0] 26)) (.cells #[.int .i64 lv, .slice V n c, .slice H m d, .int .i64 sm] 120))
  have b6 : Bl ((w.alloc (.cells #[.slice A a c0] 26)).alloc (.cells #[.int .i64 lv, .slice V n c, .slice H m d, .int .i64 sm] 120)) (w.heap.size + 1) [.int .i64 lv, .slice V n c, .slice H m d, .int .i64 sm] := Bl.new' (by simp) (by simp)
  obtain ⟨ca1, fa1⟩ := id b4
  have ca2_0 : ((w.alloc (.cells #[.slice A a c0] 26)).alloc (.cells #[.int .i64 lv, .slice V n c, .slice H m d, .int .i64 sm] 120)).cell? ⟨w.heap.size + 1, 0, none⟩ = some (.int .i64 lv) := (b6.2 0 _ rfl).1
  have fa2_0 : ((w.alloc (.cells #[.slice A a c0] 26)).alloc (.cells #[.int .i64 lv, .slice V n c, .slice H m d, .int .i64 sm] 120)).frozen? ⟨w.heap.size + 1, 0, none⟩ = false := (b6.2 0 _ rfl).2
  have ca2_1 : ((w.alloc (.cells #[.slice A a c0] 26)).alloc (.cells #[.int .i64 lv, .slice V n c, .slice H m d, .int .i64 sm] 120)).cell? ⟨w.heap.size + 1, 1, none⟩ = some (.slice V n c) := (b6.2 1 _ rfl).1
  have fa2_1 : ((w.alloc (.cells #[.slice A a c0] 26)).alloc (.cells #[.int .i64 lv, .slice V n c, .slice H m d, .int .i64 sm] 120)).frozen? ⟨w.heap.size + 1, 1, none⟩ = false := (b6.2 1 _ rfl).2
  have ca2_2 : ((w.alloc (.cells #[.slice A a c0] 26)).alloc (.cells #[.int .i64 lv, .slice V n c, .slice H m d, .int .i64 sm] 120)).cell? ⟨w.heap.size + 1, 2, none⟩ = some (.slice H m d) := (b6.2 2 _ rfl).1
  have fa2_2 : ((w.alloc (.cells #[.slice A a c0] 26)).alloc (.cells #[.int .i64 lv, .slice V n c, .slice H m d, .int .i64 sm] 120)).frozen? ⟨w.heap.size + 1, 2, none⟩ = false := (b6.2 2 _ rfl).2
  have ca2_3 : ((w.alloc (.cells #[.slice A a c0] 26)).alloc (.cells #[.int .i64 lv, .slice V n c, .slice H m d, .int .i64 sm] 120)).cell? ⟨w.heap.size + 1, 3, none⟩ = some (.int .i64 sm) := (b6.2 3 _ rfl).1
  have fa2_3 : ((w.alloc (.cells #[.slice A a c0] 26)).alloc (.cells #[.int .i64 lv, .slice V n c, .slice H m d, .int .i64 sm] 120)).frozen? ⟨w.heap.size + 1, 3, none⟩ = false := (b6.2 3 _ rfl).2
  go_wp2_with fail
  clear ca1 fa1 ca2_0 fa2_0 ca2_1 fa2_1 ca2_2 fa2_2 ca2_3 fa2_3
  refine (cellCount_any (ws := ws) (sm := sm) (c0 := c0) (lv := lv) (c := c) (H := H) (m := m) (d := d) (h.keeps kw) (h'.keeps kw) (hV.keeps kw) HG.out HS.out HVS.out).mono ?_
  rintro e w3 ⟨rfl, k3⟩
  rw [HN.out]
  replace b4 := b4.keeps k3
  replace b6 := b6.keeps k3
  replace kw := Keeps.trans kw k3
  have lt4 := b6.lt
  have sz5 := kw.size
  clear k3
  obtain ⟨ca6, fa6⟩ := id b4
  have ca7_0 : w3.cell? ⟨w.heap.size + 1, 0, none⟩ = some (.int .i64 lv) := (b6.2 0 _ rfl).1
  have fa7_0 : w3.frozen? ⟨w.heap.size + 1, 0, none⟩ = false := (b6.2 0 _ rfl).2
  have ca7_1 : w3.cell? ⟨w.heap.size + 1, 1, none⟩ = some (.slice V n c) := (b6.2 1 _ rfl).1
  have fa7_1 : w3.frozen? ⟨w.heap.size + 1, 1, none⟩ = false := (b6.2 1 _ rfl).2
  have ca7_2 : w3.cell? ⟨w.heap.size + 1, 2, none⟩ = some (.slice H m d) := (b6.2 2 _ rfl).1
  have fa7_2 : w3.frozen? ⟨w.heap.size + 1, 2, none⟩ = false := (b6.2 2 _ rfl).2
  have ca7_3 : w3.cell? ⟨w.heap.size + 1, 3, none⟩ = some (.int .i64 sm) := (b6.2 3 _ rfl).1
  have fa7_3 : w3.frozen? ⟨w.heap.size + 1, 3, none⟩ = false := (b6.2 3 _ rfl).2
  go_wp2_with fail
  clear ca6 fa6 ca7_0 fa7_0 ca7_1 fa7_1 ca7_2 fa7_2 ca7_3 fa7_3
  replace b4 := b4.keeps (keeps_alloc w3 (.cells (madeCells #[.int .i64 0] N) 3))
  replace b6 := b6.keeps (keeps_alloc w3 (.cells (madeCells #[.int .i64 0] N) 3))
  replace kw := Keeps.trans kw (keeps_alloc w3 (.cells (madeCells #[.int .i64 0] N) 3))
  clear hmk
  have own : Own (w3.alloc (.cells (madeCells #[.int .i64 0] N) 3)) (w3.heap.size) (toTo ps l (lv, vs, ws, sm) rs 0) := by rw [HTZ.out]; exact Own.new _ _
  obtain ⟨GA, hGA⟩ : ∃ G, w3.heap.size = G := ⟨_, rfl⟩
  have hGw : w.heap.size + 2 ≤ GA := by have := b6.lt; omega
  rw [hGA] at own
  try rw [hGA]
  clear hGA
  go_loopw [21] (fun i wr => ∃ k : Nat, k ≤ r ∧ i = .int .i64 k ∧ Own wr GA (toTo ps l (lv, vs, ws, sm) rs k) ∧ B1 wr w.heap.size (.slice A a c0) ∧ Bl wr (w.heap.size + 1) [.int .i64 lv, .slice V n c, .slice H m d, .int .i64 sm] ∧ Keeps w wr) (fun i _ => r - (intOf i).toNat)
  case atStart => exact ⟨0, Nat.zero_le _, rfl, own, b4, b6, kw⟩
  clear own b4 b6 kw
  case round =>
    obtain ⟨k, hk, rfl, own, b4, b6, kw⟩ := hrel
    have ltG := own.lt
    by_cases hlt : k < r
    rotate_left
    · obtain rfl : k = r := by omega
      have HM := hid ((own.mine (n := N) (lo := w.heap.size) (hi := wr.heap.size) (HLN.out k) (by omega) (by omega) ltG (Nat.le_refl _)))
      clear own
      go_wp2
      go_ret
      exact ⟨N, _, rfl, by rw [HTO.out]; exact HM.out, kw⟩
    obtain ⟨b, off, x, y, B, z, cz, zs, rfl, _, _, hc0, hc1, hc2, hvi, hx⟩ := (hr.keeps kw).at_ hlt
    have hi1 : (k : Int) < (r : Int) := by omega
    obtain ⟨i, hi0, hia⟩ := HAR.out k hlt
    have hfit := (HSV.out k hlt).2.2
    rw [← hx.out] at hi0 hfit
    have hi0' : x = (i : Int) := hi0
    subst hi0'
    have HFI := hid hfit
    have HX := hid hx.out
    obtain ⟨cc, am, HCE⟩ : ∃ cc am, Hid (ceQ ps l (lv, vs, ws, sm) i zs = (cc, am)) := ⟨_, _, rfl⟩
    have hcb := HCB.out i zs hfit (by rw [HPL.out]; exact hia)
    rw [HCE.out, HN.out] at hcb
    have hcb1 : -1 ≤ cc := hcb.1.1
    have hcb2 : cc < (N : Int) := hcb.1.2
    have ham : 0 ≤ am ∧ am ≤ 7 := hcb.2
    clear hfit hx hcb hi0
    have lt9 := b6.lt
    replace b4 := b4.keeps (keeps_alloc wr (.cells #[.int .i64 (i : Int), .int .i64 y, .slice B z cz] 128))
    replace b6 := b6.keeps (keeps_alloc wr (.cells #[.int .i64 (i : Int), .int .i64 y, .slice B z cz] 128))
    replace own := own.keeps (keeps_alloc wr (.cells #[.int .i64 (i : Int), .int .i64 y, .slice B z cz] 128))
    replace kw := Keeps.trans kw (keeps_alloc wr (.cells #[.int .i64 (i : Int), .int .i64 y, .slice B z cz] 128))
    have b11 : Bl (wr.alloc (.cells #[.int .i64 (i : Int), .int .i64 y, .slice B z cz] 128)) wr.heap.size [.int .i64 (i : Int), .int .i64 y, .slice B z cz] := Bl.new' (by simp) (by simp)
    obtain ⟨ca8, fa8⟩ := id b4
    have ca9_0 : (wr.alloc (.cells #[.int .i64 (i : Int), .int .i64 y, .slice B z cz] 128)).cell? ⟨w.heap.size + 1, 0, none⟩ = some (.int .i64 lv) := (b6.2 0 _ rfl).1
    have fa9_0 : (wr.alloc (.cells #[.int .i64 (i : Int), .int .i64 y, .slice B z cz] 128)).frozen? ⟨w.heap.size + 1, 0, none⟩ = false := (b6.2 0 _ rfl).2
    have ca9_1 : (wr.alloc (.cells #[.int .i64 (i : Int), .int .i64 y, .slice B z cz] 128)).cell? ⟨w.heap.size + 1, 1, none⟩ = some (.slice V n c) := (b6.2 1 _ rfl).1
    have fa9_1 : (wr.alloc (.cells #[.int .i64 (i : Int), .int .i64 y, .slice B z cz] 128)).frozen? ⟨w.heap.size + 1, 1, none⟩ = false := (b6.2 1 _ rfl).2
    have ca9_2 : (wr.alloc (.cells #[.int .i64 (i : Int), .int .i64 y, .slice B z cz] 128)).cell? ⟨w.heap.size + 1, 2, none⟩ = some (.slice H m d) := (b6.2 2 _ rfl).1
    have fa9_2 : (wr.alloc (.cells #[.int .i64 (i : Int), .int .i64 y, .slice B z cz] 128)).frozen? ⟨w.heap.size + 1, 2, none⟩ = false := (b6.2 2 _ rfl).2
    have ca9_3 : (wr.alloc (.cells #[.int .i64 (i : Int), .int .i64 y, .slice B z cz] 128)).cell? ⟨w.heap.size + 1, 3, none⟩ = some (.int .i64 sm) := (b6.2 3 _ rfl).1
    have fa9_3 : (wr.alloc (.cells #[.int .i64 (i : Int), .int .i64 y, .slice B z cz] 128)).frozen? ⟨w.heap.size + 1, 3, none⟩ = false := (b6.2 3 _ rfl).2
    have ca10_0 : (wr.alloc (.cells #[.int .i64 (i : Int), .int .i64 y, .slice B z cz] 128)).cell? ⟨wr.heap.size, 0, none⟩ = some (.int .i64 (i : Int)) := (b11.2 0 _ rfl).1
    have fa10_0 : (wr.alloc (.cells #[.int .i64 (i : Int), .int .i64 y, .slice B z cz] 128)).frozen? ⟨wr.heap.size, 0, none⟩ = false := (b11.2 0 _ rfl).2
    have ca10_1 : (wr.alloc (.cells #[.int .i64 (i : Int), .int .i64 y, .slice B z cz] 128)).cell? ⟨wr.heap.size, 1, none⟩ = some (.int .i64 y) := (b11.2 1 _ rfl).1
    have fa10_1 : (wr.alloc (.cells #[.int .i64 (i : Int), .int .i64 y, .slice B z cz] 128)).frozen? ⟨wr.heap.size, 1, none⟩ = false := (b11.2 1 _ rfl).2
    have ca10_2 : (wr.alloc (.cells #[.int .i64 (i : Int), .int .i64 y, .slice B z cz] 128)).cell? ⟨wr.heap.size, 2, none⟩ = some (.slice B z cz) := (b11.2 2 _ rfl).1
    have fa10_2 : (wr.alloc (.cells #[.int .i64 (i : Int), .int .i64 y, .slice B z cz] 128)).frozen? ⟨wr.heap.size, 2, none⟩ = false := (b11.2 2 _ rfl).2
    go_wp2_with fail
    clear ca8 fa8 ca9_0 fa9_0 ca9_1 fa9_1 ca9_2 fa9_2 ca9_3 fa9_3 ca10_0 fa10_0 ca10_1 fa10_1 ca10_2 fa10_2
    refine (contribution_any (c0 := c0) (h.keeps kw) (h'.keeps kw) (hV.keeps kw) (hH.keeps kw) (hvi.keeps (keeps_alloc _ _)) HG.out HS.out HTB.out HFI.out hia).mono ?_
    rintro e w11 ⟨rfl, k11⟩
    rw [HCE.out]
    replace b4 := b4.keeps k11
    replace b6 := b6.keeps k11
    replace b11 := b11.keeps k11
    replace own := own.keeps k11
    replace kw := Keeps.trans kw k11
    have lt12 := b11.lt
    have sz13 := kw.size
    clear k11
    clear hc0 hc1 hc2
    by_cases hc0_ : 0 ≤ cc
    rotate_left
    · have HST := hid (toTo_no (rs := rs) (k := k) HX.out.symm HCE.out hc0_)
      obtain ⟨ca14, fa14⟩ := id b4
      have ca15_0 : w11.cell? ⟨w.heap.size + 1, 0, none⟩ = some (.int .i64 lv) := (b6.2 0 _ rfl).1
      have fa15_0 : w11.frozen? ⟨w.heap.size + 1, 0, none⟩ = false := (b6.2 0 _ rfl).2
      have ca15_1 : w11.cell? ⟨w.heap.size + 1, 1, none⟩ = some (.slice V n c) := (b6.2 1 _ rfl).1
      have fa15_1 : w11.frozen? ⟨w.heap.size + 1, 1, none⟩ = false := (b6.2 1 _ rfl).2
      have ca15_2 : w11.cell? ⟨w.heap.size + 1, 2, none⟩ = some (.slice H m d) := (b6.2 2 _ rfl).1
      have fa15_2 : w11.frozen? ⟨w.heap.size + 1, 2, none⟩ = false := (b6.2 2 _ rfl).2
      have ca15_3 : w11.cell? ⟨w.heap.size + 1, 3, none⟩ = some (.int .i64 sm) := (b6.2 3 _ rfl).1
      have fa15_3 : w11.frozen? ⟨w.heap.size + 1, 3, none⟩ = false := (b6.2 3 _ rfl).2
      go_wp2_with fail
      clear ca14 fa14 ca15_0 fa15_0 ca15_1 fa15_1 ca15_2 fa15_2 ca15_3 fa15_3
      go_roundw
      case rel => exact ⟨k + 1, by omega, by go_num, by rw [HST.out]; exact own, b4, b6, kw⟩
      case measure => simp [intOf]; omega
    obtain ⟨j, rfl⟩ : ∃ j : Nat, cc = (j : Int) := ⟨cc.toNat, by omega⟩
    have hjN : j < N := by omega
    obtain ⟨v, hv⟩ : ∃ v, (toTo ps l (lv, vs, ws, sm) rs k).getD j 0 = v := ⟨_, rfl⟩
    have hbv := HBD.out k j (by rw [HRL.out]; exact hk)
    rw [hv] at hbv
    have hcv := own.cell j (by rw [HLN.out]; exact hjN)
    rw [hv] at hcv
    have hfv := own.frozen j
    have O1 := own.set_ j (v + am)
    rw [toTo_yes (rs := rs) (k := k) HX.out.symm HCE.out hv] at O1
    have hv9 : 0 ≤ v ∧ v ≤ 280 := by omega
    have hltb := b6.lt
    clear hv hbv
    have N1 := hid O1
    have N2 := hid (b4.far (p := ⟨GA, j, none⟩) (by show w.heap.size ≠ GA; omega) (.int .i64 (v + am)))
    have N3 := hid (b6.far (p := ⟨GA, j, none⟩) (by show w.heap.size + 1 ≠ GA; omega) (.int .i64 (v + am)))
    have N4 := hid (kw.setCell (p := ⟨GA, j, none⟩) (by show w.heap.size ≤ GA; omega) (.int .i64 (v + am)))
    clear O1 own
    obtain ⟨ca14, fa14⟩ := id b4
    have ca15_0 : w11.cell? ⟨w.heap.size + 1, 0, none⟩ = some (.int .i64 lv) := (b6.2 0 _ rfl).1
    have fa15_0 : w11.frozen? ⟨w.heap.size + 1, 0, none⟩ = false := (b6.2 0 _ rfl).2
    have ca15_1 : w11.cell? ⟨w.heap.size + 1, 1, none⟩ = some (.slice V n c) := (b6.2 1 _ rfl).1
    have fa15_1 : w11.frozen? ⟨w.heap.size + 1, 1, none⟩ = false := (b6.2 1 _ rfl).2
    have ca15_2 : w11.cell? ⟨w.heap.size + 1, 2, none⟩ = some (.slice H m d) := (b6.2 2 _ rfl).1
    have fa15_2 : w11.frozen? ⟨w.heap.size + 1, 2, none⟩ = false := (b6.2 2 _ rfl).2
    have ca15_3 : w11.cell? ⟨w.heap.size + 1, 3, none⟩ = some (.int .i64 sm) := (b6.2 3 _ rfl).1
    have fa15_3 : w11.frozen? ⟨w.heap.size + 1, 3, none⟩ = false := (b6.2 3 _ rfl).2
    clear b4 b6 b11 kw
    go_wp2_with fail
    clear ca14 fa14 ca15_0 fa15_0 ca15_1 fa15_1 ca15_2 fa15_2 ca15_3 fa15_3
    go_roundw
    case rel => exact ⟨k + 1, by omega, by go_num, N1.out, N2.out, N3.out, N4.out⟩
    case measure => simp [intOf]; omega
set_option maxRecDepth 100000 in
set_option maxHeartbeats 12800000 in
theorem uTable_any {A A' V H R : Option Addr} {lo hi a c0 lo' hi' lo2 hi2 lo3 hi3 n c m d q e r cr : Nat} {ps vs ws : List Int} {l : List VV} {rs : List RR} {lv sm : Int} {w : World} (h : Ints w lo hi A a ps) (h' : Sch w A' q e l) (hV : Ints w lo' hi' V n vs) (hH : Ints w lo2 hi2 H m ws) (hr : Recs w lo3 hi3 R r rs) (hg : geoB ps = true) (hs : schB l = true) (ht : tabB ps l (lv, vs, ws, sm) = true) (hsv : survB ps l rs = true) :
    Calls Tryz.prog 73 #[.agg #[.slice A a c0], .slice A' q e, .agg #[.int .i64 lv, .slice V n c, .slice H m d, .int .i64 sm], .slice R r cr] w fun e' w' => ∃ N K, e' = .returned (.slice K N N) ∧ Mine w' w.heap.size w'.heap.size K N (toL ps l (lv, vs, ws, sm) rs) ∧ Keeps w w' := by
  obtain ⟨lo9, hi9, hv9⟩ := h'.v
  have HQL := hid (Vars.len hv9)
  have hq := hv9.le
  have htp := tabB_parts ht
  have HVS := hid (show vsB q vs = true by have := htp.1; simp only [HQL.out] at this; exact this)
  have HPL := hid h.1
  have HRL := hid hr.len
  have hr9 := hr.le
  obtain ⟨N, hN⟩ : ∃ N : Nat, tabN ps l (lv, vs, ws, sm) = (N : Int) := ⟨(tabN ps l (lv, vs, ws, sm)).toNat, by have := htp.2.2.2.1; omega⟩
  have HN := hid hN
  have hN6 : N ≤ 600 := by have := htp.2.2.2.2; omega
  have HG := hid hg
  have HS := hid hs
  have HTB := hid ht
  have HSV := hid (fun k (hk : k < r) => survB_row hsv (k := k) (by rw [hr.len]; exact hk))
  have h40 : r ≤ 40 := by
    rcases Nat.eq_zero_or_pos r with e | e
    · omega
    · have := (survB_row hsv (k := 0) (by rw [hr.len]; exact e)).1; rw [hr.len] at this; exact this
  have HAR := hid (fun k (hk : k < r) => (show ∃ i : Nat, (rs.getD k r0).1 = (i : Int) ∧ i < a by
    have h1 := (mem_leaves.1 (survB_row hsv (k := k) (by rw [hr.len]; exact hk)).2.1).1
    have h2 := h.1
    exact ⟨(rs.getD k r0).1.toNat, by omega, by omega⟩))
  have HBD := hid (toTo_bd (ps := ps) (l := l) (t := (lv, vs, ws, sm)) (rs := rs) (fun k hk => by
    have h1 := survB_row hsv hk
    have h2 := (mem_leaves.1 h1.2.1).1
    exact (ceQ_bd hg hs ht h1.2.2 (by omega)).2))
  have HTO := hid (show toL ps l (lv, vs, ws, sm) rs = toTo ps l (lv, vs, ws, sm) rs r by unfold toL; rw [hr.len])
  have HTZ := hid (show toTo ps l (lv, vs, ws, sm) rs 0 = List.replicate N 0 by unfold toTo; rw [hN, Int.toNat_natCast])
  have HLN := hid (fun k => (show (toTo ps l (lv, vs, ws, sm) rs k).length = N by rw [toTo_len, hN, Int.toNat_natCast]))
  have HCB := hid (fun i zs (hf : fitB l zs = true) (hi : i < ps.length) => ceQ_bd (zs := zs) hg hs ht hf hi)
  clear hg hs ht hsv htp hN
  have hmk := make_ints N (by omega)
  go_enter Tryz.func73, Tryz.ntmps73
  have kw := keeps_refl w
  replace kw := Keeps.trans kw (keeps_alloc w (.cells #[.slice A a c0] 26))
  have b4 : B1 (w.alloc (.cells #[.slice A a c0] 26)) w.heap.size (.slice A a c0) := B1.new' (by simp)
  replace b4 := b4.keeps (keeps_alloc (w.alloc (.cells #[.slice A a c0] 26)) (.cells #[.int .i64 lv, .slice V n c, .slice H m d, .int .i64 sm] 120))
  replace kw := Keeps.trans kw (keeps_alloc (w.alloc (.cells #[.slice A a c0] 26)) (.cells #[.int .i64 lv, .slice V n c, .slice H m d, .int .i64 sm] 120))
  have b6 : Bl ((w.alloc (.cells #[.slice A a c0] 26)).alloc (.cells #[.int .i64 lv, .slice V n c, .slice H m d, .int .i64 sm] 120)) (w.heap.size + 1) [.int .i64 lv, .slice V n c, .slice H m d, .int .i64 sm] := Bl.new' (by simp) (by simp)
  obtain ⟨ca1, fa1⟩ := id b4
  have ca2_0 : ((w.alloc (.cells #[.slice A a c0] 26)).alloc (.cells #[.int .i64 lv, .slice V n c, .slice H m d, .int .i64 sm] 120)).cell? ⟨w.heap.size + 1, 0, none⟩ = some (.int .i64 lv) := (b6.2 0 _ rfl).1
  have fa2_0 : ((w.alloc (.cells #[.slice A a c0] 26)).alloc (.cells #[.int .i64 lv, .slice V n c, .slice H m d, .int .i64 sm] 120)).frozen? ⟨w.heap.size + 1, 0, none⟩ = false := (b6.2 0 _ rfl).2
  have ca2_1 : ((w.alloc (.cells #[.slice A a c0] 26)).alloc (.cells #[.int .i64 lv, .slice V n c, .slice H m d, .int .i64 sm] 120)).cell? ⟨w.heap.size + 1, 1, none⟩ = some (.slice V n c) := (b6.2 1 _ rfl).1
  have fa2_1 : ((w.alloc (.cells #[.slice A a c0] 26)).alloc (.cells #[.int .i64 lv, .slice V n c, .slice H m d, .int .i64 sm] 120)).frozen? ⟨w.heap.size + 1, 1, none⟩ = false := (b6.2 1 _ rfl).2
  have ca2_2 : ((w.alloc (.cells #[.slice A a c0] 26)).alloc (.cells #[.int .i64 lv, .slice V n c, .slice H m d, .int .i64 sm] 120)).cell? ⟨w.heap.size + 1, 2, none⟩ = some (.slice H m d) := (b6.2 2 _ rfl).1
  have fa2_2 : ((w.alloc (.cells #[.slice A a c0] 26)).alloc (.cells #[.int .i64 lv, .slice V n c, .slice H m d, .int .i64 sm] 120)).frozen? ⟨w.heap.size + 1, 2, none⟩ = false := (b6.2 2 _ rfl).2
  have ca2_3 : ((w.alloc (.cells #[.slice A a c0] 26)).alloc (.cells #[.int .i64 lv, .slice V n c, .slice H m d, .int .i64 sm] 120)).cell? ⟨w.heap.size + 1, 3, none⟩ = some (.int .i64 sm) := (b6.2 3 _ rfl).1
  have fa2_3 : ((w.alloc (.cells #[.slice A a c0] 26)).alloc (.cells #[.int .i64 lv, .slice V n c, .slice H m d, .int .i64 sm] 120)).frozen? ⟨w.heap.size + 1, 3, none⟩ = false := (b6.2 3 _ rfl).2
  go_wp2_with fail
  clear ca1 fa1 ca2_0 fa2_0 ca2_1 fa2_1 ca2_2 fa2_2 ca2_3 fa2_3
  refine (uCount_any (ws := ws) (sm := sm) (c0 := c0) (lv := lv) (c := c) (H := H) (m := m) (d := d) (h.keeps kw) (h'.keeps kw) (hV.keeps kw) HG.out HS.out HVS.out).mono ?_
  rintro e w3 ⟨rfl, k3⟩
  rw [HN.out]
  replace b4 := b4.keeps k3
  replace b6 := b6.keeps k3
  replace kw := Keeps.trans kw k3
  have lt4 := b6.lt
  have sz5 := kw.size
  clear k3
  obtain ⟨ca6, fa6⟩ := id b4
  have ca7_0 : w3.cell? ⟨w.heap.size + 1, 0, none⟩ = some (.int .i64 lv) := (b6.2 0 _ rfl).1
  have fa7_0 : w3.frozen? ⟨w.heap.size + 1, 0, none⟩ = false := (b6.2 0 _ rfl).2
  have ca7_1 : w3.cell? ⟨w.heap.size + 1, 1, none⟩ = some (.slice V n c) := (b6.2 1 _ rfl).1
  have fa7_1 : w3.frozen? ⟨w.heap.size + 1, 1, none⟩ = false := (b6.2 1 _ rfl).2
  have ca7_2 : w3.cell? ⟨w.heap.size + 1, 2, none⟩ = some (.slice H m d) := (b6.2 2 _ rfl).1
  have fa7_2 : w3.frozen? ⟨w.heap.size + 1, 2, none⟩ = false := (b6.2 2 _ rfl).2
  have ca7_3 : w3.cell? ⟨w.heap.size + 1, 3, none⟩ = some (.int .i64 sm) := (b6.2 3 _ rfl).1
  have fa7_3 : w3.frozen? ⟨w.heap.size + 1, 3, none⟩ = false := (b6.2 3 _ rfl).2
  go_wp2_with fail
  clear ca6 fa6 ca7_0 fa7_0 ca7_1 fa7_1 ca7_2 fa7_2 ca7_3 fa7_3
  replace b4 := b4.keeps (keeps_alloc w3 (.cells (madeCells #[.int .i64 0] N) 3))
  replace b6 := b6.keeps (keeps_alloc w3 (.cells (madeCells #[.int .i64 0] N) 3))
  replace kw := Keeps.trans kw (keeps_alloc w3 (.cells (madeCells #[.int .i64 0] N) 3))
  clear hmk
  have own : Own (w3.alloc (.cells (madeCells #[.int .i64 0] N) 3)) (w3.heap.size) (toTo ps l (lv, vs, ws, sm) rs 0) := by rw [HTZ.out]; exact Own.new _ _
  obtain ⟨GA, hGA⟩ : ∃ G, w3.heap.size = G := ⟨_, rfl⟩
  have hGw : w.heap.size + 2 ≤ GA := by have := b6.lt; omega
  rw [hGA] at own
  try rw [hGA]
  clear hGA
  go_loopw [21] (fun i wr => ∃ k : Nat, k ≤ r ∧ i = .int .i64 k ∧ Own wr GA (toTo ps l (lv, vs, ws, sm) rs k) ∧ B1 wr w.heap.size (.slice A a c0) ∧ Bl wr (w.heap.size + 1) [.int .i64 lv, .slice V n c, .slice H m d, .int .i64 sm] ∧ Keeps w wr) (fun i _ => r - (intOf i).toNat)
  case atStart => exact ⟨0, Nat.zero_le _, rfl, own, b4, b6, kw⟩
  clear own b4 b6 kw
  case round =>
    obtain ⟨k, hk, rfl, own, b4, b6, kw⟩ := hrel
    have ltG := own.lt
    by_cases hlt : k < r
    rotate_left
    · obtain rfl : k = r := by omega
      have HM := hid ((own.mine (n := N) (lo := w.heap.size) (hi := wr.heap.size) (HLN.out k) (by omega) (by omega) ltG (Nat.le_refl _)))
      clear own
      go_wp2
      go_ret
      exact ⟨N, _, rfl, by rw [HTO.out]; exact HM.out, kw⟩
    obtain ⟨b, off, x, y, B, z, cz, zs, rfl, _, _, hc0, hc1, hc2, hvi, hx⟩ := (hr.keeps kw).at_ hlt
    have hi1 : (k : Int) < (r : Int) := by omega
    obtain ⟨i, hi0, hia⟩ := HAR.out k hlt
    have hfit := (HSV.out k hlt).2.2
    rw [← hx.out] at hi0 hfit
    have hi0' : x = (i : Int) := hi0
    subst hi0'
    have HFI := hid hfit
    have HX := hid hx.out
    obtain ⟨cc, am, HCE⟩ : ∃ cc am, Hid (ceQ ps l (lv, vs, ws, sm) i zs = (cc, am)) := ⟨_, _, rfl⟩
    have hcb := HCB.out i zs hfit (by rw [HPL.out]; exact hia)
    rw [HCE.out, HN.out] at hcb
    have hcb1 : -1 ≤ cc := hcb.1.1
    have hcb2 : cc < (N : Int) := hcb.1.2
    have ham : 0 ≤ am ∧ am ≤ 7 := hcb.2
    clear hfit hx hcb hi0
    have lt9 := b6.lt
    replace b4 := b4.keeps (keeps_alloc wr (.cells #[.int .i64 (i : Int), .int .i64 y, .slice B z cz] 128))
    replace b6 := b6.keeps (keeps_alloc wr (.cells #[.int .i64 (i : Int), .int .i64 y, .slice B z cz] 128))
    replace own := own.keeps (keeps_alloc wr (.cells #[.int .i64 (i : Int), .int .i64 y, .slice B z cz] 128))
    replace kw := Keeps.trans kw (keeps_alloc wr (.cells #[.int .i64 (i : Int), .int .i64 y, .slice B z cz] 128))
    have b11 : Bl (wr.alloc (.cells #[.int .i64 (i : Int), .int .i64 y, .slice B z cz] 128)) wr.heap.size [.int .i64 (i : Int), .int .i64 y, .slice B z cz] := Bl.new' (by simp) (by simp)
    obtain ⟨ca8, fa8⟩ := id b4
    have ca9_0 : (wr.alloc (.cells #[.int .i64 (i : Int), .int .i64 y, .slice B z cz] 128)).cell? ⟨w.heap.size + 1, 0, none⟩ = some (.int .i64 lv) := (b6.2 0 _ rfl).1
    have fa9_0 : (wr.alloc (.cells #[.int .i64 (i : Int), .int .i64 y, .slice B z cz] 128)).frozen? ⟨w.heap.size + 1, 0, none⟩ = false := (b6.2 0 _ rfl).2
    have ca9_1 : (wr.alloc (.cells #[.int .i64 (i : Int), .int .i64 y, .slice B z cz] 128)).cell? ⟨w.heap.size + 1, 1, none⟩ = some (.slice V n c) := (b6.2 1 _ rfl).1
    have fa9_1 : (wr.alloc (.cells #[.int .i64 (i : Int), .int .i64 y, .slice B z cz] 128)).frozen? ⟨w.heap.size + 1, 1, none⟩ = false := (b6.2 1 _ rfl).2
    have ca9_2 : (wr.alloc (.cells #[.int .i64 (i : Int), .int .i64 y, .slice B z cz] 128)).cell? ⟨w.heap.size + 1, 2, none⟩ = some (.slice H m d) := (b6.2 2 _ rfl).1
    have fa9_2 : (wr.alloc (.cells #[.int .i64 (i : Int), .int .i64 y, .slice B z cz] 128)).frozen? ⟨w.heap.size + 1, 2, none⟩ = false := (b6.2 2 _ rfl).2
    have ca9_3 : (wr.alloc (.cells #[.int .i64 (i : Int), .int .i64 y, .slice B z cz] 128)).cell? ⟨w.heap.size + 1, 3, none⟩ = some (.int .i64 sm) := (b6.2 3 _ rfl).1
    have fa9_3 : (wr.alloc (.cells #[.int .i64 (i : Int), .int .i64 y, .slice B z cz] 128)).frozen? ⟨w.heap.size + 1, 3, none⟩ = false := (b6.2 3 _ rfl).2
    have ca10_0 : (wr.alloc (.cells #[.int .i64 (i : Int), .int .i64 y, .slice B z cz] 128)).cell? ⟨wr.heap.size, 0, none⟩ = some (.int .i64 (i : Int)) := (b11.2 0 _ rfl).1
    have fa10_0 : (wr.alloc (.cells #[.int .i64 (i : Int), .int .i64 y, .slice B z cz] 128)).frozen? ⟨wr.heap.size, 0, none⟩ = false := (b11.2 0 _ rfl).2
    have ca10_1 : (wr.alloc (.cells #[.int .i64 (i : Int), .int .i64 y, .slice B z cz] 128)).cell? ⟨wr.heap.size, 1, none⟩ = some (.int .i64 y) := (b11.2 1 _ rfl).1
    have fa10_1 : (wr.alloc (.cells #[.int .i64 (i : Int), .int .i64 y, .slice B z cz] 128)).frozen? ⟨wr.heap.size, 1, none⟩ = false := (b11.2 1 _ rfl).2
    have ca10_2 : (wr.alloc (.cells #[.int .i64 (i : Int), .int .i64 y, .slice B z cz] 128)).cell? ⟨wr.heap.size, 2, none⟩ = some (.slice B z cz) := (b11.2 2 _ rfl).1
    have fa10_2 : (wr.alloc (.cells #[.int .i64 (i : Int), .int .i64 y, .slice B z cz] 128)).frozen? ⟨wr.heap.size, 2, none⟩ = false := (b11.2 2 _ rfl).2
    go_wp2_with fail
    clear ca8 fa8 ca9_0 fa9_0 ca9_1 fa9_1 ca9_2 fa9_2 ca9_3 fa9_3 ca10_0 fa10_0 ca10_1 fa10_1 ca10_2 fa10_2
    refine (uCell_any (c0 := c0) (h.keeps kw) (h'.keeps kw) (hV.keeps kw) (hH.keeps kw) (hvi.keeps (keeps_alloc _ _)) HG.out HS.out HTB.out HFI.out hia).mono ?_
    rintro e w11 ⟨rfl, k11⟩
    rw [HCE.out]
    replace b4 := b4.keeps k11
    replace b6 := b6.keeps k11
    replace b11 := b11.keeps k11
    replace own := own.keeps k11
    replace kw := Keeps.trans kw k11
    have lt12 := b11.lt
    have sz13 := kw.size
    clear k11
    clear hc0 hc1 hc2
    by_cases hc0_ : 0 ≤ cc
    rotate_left
    · have HST := hid (toTo_no (rs := rs) (k := k) HX.out.symm HCE.out hc0_)
      obtain ⟨ca14, fa14⟩ := id b4
      have ca15_0 : w11.cell? ⟨w.heap.size + 1, 0, none⟩ = some (.int .i64 lv) := (b6.2 0 _ rfl).1
      have fa15_0 : w11.frozen? ⟨w.heap.size + 1, 0, none⟩ = false := (b6.2 0 _ rfl).2
      have ca15_1 : w11.cell? ⟨w.heap.size + 1, 1, none⟩ = some (.slice V n c) := (b6.2 1 _ rfl).1
      have fa15_1 : w11.frozen? ⟨w.heap.size + 1, 1, none⟩ = false := (b6.2 1 _ rfl).2
      have ca15_2 : w11.cell? ⟨w.heap.size + 1, 2, none⟩ = some (.slice H m d) := (b6.2 2 _ rfl).1
      have fa15_2 : w11.frozen? ⟨w.heap.size + 1, 2, none⟩ = false := (b6.2 2 _ rfl).2
      have ca15_3 : w11.cell? ⟨w.heap.size + 1, 3, none⟩ = some (.int .i64 sm) := (b6.2 3 _ rfl).1
      have fa15_3 : w11.frozen? ⟨w.heap.size + 1, 3, none⟩ = false := (b6.2 3 _ rfl).2
      go_wp2_with fail
      clear ca14 fa14 ca15_0 fa15_0 ca15_1 fa15_1 ca15_2 fa15_2 ca15_3 fa15_3
      go_roundw
      case rel => exact ⟨k + 1, by omega, by go_num, by rw [HST.out]; exact own, b4, b6, kw⟩
      case measure => simp [intOf]; omega
    obtain ⟨j, rfl⟩ : ∃ j : Nat, cc = (j : Int) := ⟨cc.toNat, by omega⟩
    have hjN : j < N := by omega
    obtain ⟨v, hv⟩ : ∃ v, (toTo ps l (lv, vs, ws, sm) rs k).getD j 0 = v := ⟨_, rfl⟩
    have hbv := HBD.out k j (by rw [HRL.out]; exact hk)
    rw [hv] at hbv
    have hcv := own.cell j (by rw [HLN.out]; exact hjN)
    rw [hv] at hcv
    have hfv := own.frozen j
    have O1 := own.set_ j (v + am)
    rw [toTo_yes (rs := rs) (k := k) HX.out.symm HCE.out hv] at O1
    have hv9 : 0 ≤ v ∧ v ≤ 280 := by omega
    have hltb := b6.lt
    clear hv hbv
    have N1 := hid O1
    have N2 := hid (b4.far (p := ⟨GA, j, none⟩) (by show w.heap.size ≠ GA; omega) (.int .i64 (v + am)))
    have N3 := hid (b6.far (p := ⟨GA, j, none⟩) (by show w.heap.size + 1 ≠ GA; omega) (.int .i64 (v + am)))
    have N4 := hid (kw.setCell (p := ⟨GA, j, none⟩) (by show w.heap.size ≤ GA; omega) (.int .i64 (v + am)))
    clear O1 own
    obtain ⟨ca14, fa14⟩ := id b4
    have ca15_0 : w11.cell? ⟨w.heap.size + 1, 0, none⟩ = some (.int .i64 lv) := (b6.2 0 _ rfl).1
    have fa15_0 : w11.frozen? ⟨w.heap.size + 1, 0, none⟩ = false := (b6.2 0 _ rfl).2
    have ca15_1 : w11.cell? ⟨w.heap.size + 1, 1, none⟩ = some (.slice V n c) := (b6.2 1 _ rfl).1
    have fa15_1 : w11.frozen? ⟨w.heap.size + 1, 1, none⟩ = false := (b6.2 1 _ rfl).2
    have ca15_2 : w11.cell? ⟨w.heap.size + 1, 2, none⟩ = some (.slice H m d) := (b6.2 2 _ rfl).1
    have fa15_2 : w11.frozen? ⟨w.heap.size + 1, 2, none⟩ = false := (b6.2 2 _ rfl).2
    have ca15_3 : w11.cell? ⟨w.heap.size + 1, 3, none⟩ = some (.int .i64 sm) := (b6.2 3 _ rfl).1
    have fa15_3 : w11.frozen? ⟨w.heap.size + 1, 3, none⟩ = false := (b6.2 3 _ rfl).2
    clear b4 b6 b11 kw
    go_wp2_with fail
    clear ca14 fa14 ca15_0 fa15_0 ca15_1 fa15_1 ca15_2 fa15_2 ca15_3 fa15_3
    go_roundw
    case rel => exact ⟨k + 1, by omega, by go_num, N1.out, N2.out, N3.out, N4.out⟩
    case measure => simp [intOf]; omega
end Go.Proofs.YtohjkpopbmmliaaGreat
