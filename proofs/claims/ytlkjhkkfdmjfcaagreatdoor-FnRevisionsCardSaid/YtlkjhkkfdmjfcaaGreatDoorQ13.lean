/- What the proof of the statement leans on, part 14: walks of functions and plain lemmas, with no condition. -/
import Derived.Test.YtlkjhkkfdmjfcaaGreatDoorQ2
import Derived.Test.YtlkjhkkfdmjfcaaGreatDoorQ9
namespace Go.Proofs.YtlkjhkkfdmjfcaaGreatDoor
open Go.RowKit Go.Sort Go.Deep
set_option linter.unusedVariables false
set_option linter.unusedSimpArgs false
theorem fr_belowB {B : Nat} {w w' : World} (k : Below B w w') : Fr B w.heap.size w w' := ⟨k.os, k.tape, k.output, k.size, fun i hi ho => k.block i (by omega)⟩
theorem Mine.cellS {w : World} {lo hi n b off k : Nat} {xs : List Int} (h : Mine w lo hi (some ⟨b, off, none⟩) n xs) (hk : k < n) : w.cell? ⟨b, off + k, none⟩ = some (.int .i64 (xs.getD k 0)) ∧ w.frozen? ⟨b, off + k, none⟩ = false := by
  obtain ⟨b', off', x, e, _, _, hc, hx⟩ := h.ints.at_ hk
  injection e with e
  injection e with e1 e2
  subst e1 e2
  rw [hx.out] at hc
  exact ⟨hc, h.2 _ _ rfl _ hk⟩
theorem Vars.lvS {w : World} {lo hi n b off k : Nat} {l : List VV} (h : Vars w lo hi (some ⟨b, off, none⟩) n l) (hk : k < n) : w.cell? ⟨b, off + k * 2 + 1, none⟩ = some (.int .i64 (l.getD k v0).2) := by
  obtain ⟨b', off', x, y, e, _, _, _, hc, hx⟩ := Vars.at_ h hk
  injection e with e
  injection e with e1 e2
  subst e1 e2
  rw [← hx.out]
  exact hc
/-- What a drawing function that hands back a table leaves: bounds alone. -/
def DrawsBt (w : World) (g : Nat) (T : Int) (e : Ending) (w' : World) : Prop :=
  ∃ lv sm V n c H m d xs ys, e = .returned (.agg #[.int .i64 lv, .slice V n c, .slice H m d, .int .i64 sm]) ∧ Ints w' w.heap.size w'.heap.size V n xs ∧ Ints w' w.heap.size w'.heap.size H m ys ∧ Cur w' g T ∧ Fr g (g + 1) w w'
set_option maxRecDepth 100000 in
set_option maxHeartbeats 1600000 in
theorem pick_all {g : Nat} {T n : Int} {w : World} (h : Cur w g T) (hT : T ≤ 999999999999999) :
    Calls Tryz.prog 76 #[.pointer (some ⟨g, 0, none⟩), .int .i64 n] w fun e w' => ∃ x, e = .returned (.int .i64 x) ∧ Cur w' g (T + 2) ∧ Fr g (g + 1) w w' := by
  by_cases h0 : n ≤ 65536
  · exact (pick_any h hT h0).mono fun e w' ⟨x, h1, _, h2, h3⟩ => ⟨x, h1, h2, h3⟩
  · have h1 : ¬ n ≤ 1 := by omega
    have hn0 : ¬ n = 0 := by omega
    have h2 : 200 < n := by omega
    have HM := hid (fun (y : Int) (hy : 0 ≤ y) (hy2 : y ≤ 65536) => (show 0 ≤ y % n ∧ y % n ≤ 65536 from ⟨Int.emod_nonneg _ (by omega), by rw [Int.emod_eq_of_lt hy (by omega)]; exact hy2⟩))
    go_enter Tryz.func76, Tryz.ntmps76
    go_wp2_with fail
    refine (next_any h (by omega)).mono ?_
    rintro e w1 ⟨x, rfl, ⟨x0, x1⟩, hc, hf⟩
    go_wp2_with fail
    refine (next_any hc (by omega)).mono ?_
    rintro e w2 ⟨y, rfl, ⟨y0, y1⟩, hc2, hf2⟩
    have hm := HM.out (x * 256 + y) (by omega) (by omega)
    go_wp2
    go_ret
    exact ⟨_, rfl, hc2.mono (by omega), hf.trans hf2⟩
set_option maxRecDepth 100000 in
set_option maxHeartbeats 25600000 in
theorem below_any {g : Nat} {T : Int} {lo hi q c a c0 n m c1 c2 lo3 hi3 lo4 hi4 : Nat} {A A2 V H : Option Addr} {l : List VV} {vs ws : List Int} {lv sm : Int} {w : World} (h : Cur w g T) (hT : T ≤ 90000000000000) (hv : Ints w lo3 hi3 V n vs) (hw : Ints w lo4 hi4 H m ws) (hs : Vars w lo hi A q l) (hgl : g < lo) (hD : SchD l) :
    Calls Tryz.prog 57 #[.pointer (some ⟨g, 0, none⟩), .agg #[.slice A2 a c0], .slice A q c, .agg #[.int .i64 lv, .slice V n c1, .slice H m c2, .int .i64 sm]] w (DrawsBt w g (T + 2000000000)) := by
  have HD := hid hD
  have hq7 : q ≤ 7 := by have := hD.len; rw [Vars.len hs] at this; exact this
  have hnb := hv.2.1
  have hmb := hw.2.1
  have lg := h.lt
  go_enter Tryz.func57, Tryz.ntmps57
  have f : Fr g (g + 1) w w := Fr.refl _ _ _
  have hc := h
  replace f := f.keeps (keeps_alloc w (.cells #[.slice A2 a c0] 32))
  replace hc := hc.keeps (keeps_alloc w (.cells #[.slice A2 a c0] 32))
  replace hv := hv.keeps (keeps_alloc w (.cells #[.slice A2 a c0] 32))
  replace hw := hw.keeps (keeps_alloc w (.cells #[.slice A2 a c0] 32))
  have b5 : B1 (w.alloc (.cells #[.slice A2 a c0] 32)) w.heap.size (.slice A2 a c0) := B1.new' (by simp)
  replace f := f.keeps (keeps_alloc (w.alloc (.cells #[.slice A2 a c0] 32)) (.cells #[.int .i64 lv, .slice V n c1, .slice H m c2, .int .i64 sm] 61))
  replace hc := hc.keeps (keeps_alloc (w.alloc (.cells #[.slice A2 a c0] 32)) (.cells #[.int .i64 lv, .slice V n c1, .slice H m c2, .int .i64 sm] 61))
  replace b5 := b5.keeps (keeps_alloc (w.alloc (.cells #[.slice A2 a c0] 32)) (.cells #[.int .i64 lv, .slice V n c1, .slice H m c2, .int .i64 sm] 61))
  replace hv := hv.keeps (keeps_alloc (w.alloc (.cells #[.slice A2 a c0] 32)) (.cells #[.int .i64 lv, .slice V n c1, .slice H m c2, .int .i64 sm] 61))
  replace hw := hw.keeps (keeps_alloc (w.alloc (.cells #[.slice A2 a c0] 32)) (.cells #[.int .i64 lv, .slice V n c1, .slice H m c2, .int .i64 sm] 61))
  have b7 : Bl ((w.alloc (.cells #[.slice A2 a c0] 32)).alloc (.cells #[.int .i64 lv, .slice V n c1, .slice H m c2, .int .i64 sm] 61)) (w.heap.size + 1) [.int .i64 lv, .slice V n c1, .slice H m c2, .int .i64 sm] := Bl.new' (by simp) (by simp)
  replace f := f.keeps (keeps_alloc ((w.alloc (.cells #[.slice A2 a c0] 32)).alloc (.cells #[.int .i64 lv, .slice V n c1, .slice H m c2, .int .i64 sm] 61)) (.cells #[.int .i64 0, .slice none 0 0, .slice none 0 0, .int .i64 0] 61))
  replace hc := hc.keeps (keeps_alloc ((w.alloc (.cells #[.slice A2 a c0] 32)).alloc (.cells #[.int .i64 lv, .slice V n c1, .slice H m c2, .int .i64 sm] 61)) (.cells #[.int .i64 0, .slice none 0 0, .slice none 0 0, .int .i64 0] 61))
  replace b5 := b5.keeps (keeps_alloc ((w.alloc (.cells #[.slice A2 a c0] 32)).alloc (.cells #[.int .i64 lv, .slice V n c1, .slice H m c2, .int .i64 sm] 61)) (.cells #[.int .i64 0, .slice none 0 0, .slice none 0 0, .int .i64 0] 61))
  replace b7 := b7.keeps (keeps_alloc ((w.alloc (.cells #[.slice A2 a c0] 32)).alloc (.cells #[.int .i64 lv, .slice V n c1, .slice H m c2, .int .i64 sm] 61)) (.cells #[.int .i64 0, .slice none 0 0, .slice none 0 0, .int .i64 0] 61))
  replace hv := hv.keeps (keeps_alloc ((w.alloc (.cells #[.slice A2 a c0] 32)).alloc (.cells #[.int .i64 lv, .slice V n c1, .slice H m c2, .int .i64 sm] 61)) (.cells #[.int .i64 0, .slice none 0 0, .slice none 0 0, .int .i64 0] 61))
  replace hw := hw.keeps (keeps_alloc ((w.alloc (.cells #[.slice A2 a c0] 32)).alloc (.cells #[.int .i64 lv, .slice V n c1, .slice H m c2, .int .i64 sm] 61)) (.cells #[.int .i64 0, .slice none 0 0, .slice none 0 0, .int .i64 0] 61))
  have b8 : Bl (((w.alloc (.cells #[.slice A2 a c0] 32)).alloc (.cells #[.int .i64 lv, .slice V n c1, .slice H m c2, .int .i64 sm] 61)).alloc (.cells #[.int .i64 0, .slice none 0 0, .slice none 0 0, .int .i64 0] 61)) (w.heap.size + 1 + 1) [.int .i64 0, .slice none 0 0, .slice none 0 0, .int .i64 0] := Bl.new' (by simp) (by simp)
  have E0 := hid (show (((w.alloc (.cells #[.slice A2 a c0] 32)).alloc (.cells #[.int .i64 lv, .slice V n c1, .slice H m c2, .int .i64 sm] 61)).alloc (.cells #[.int .i64 0, .slice none 0 0, .slice none 0 0, .int .i64 0] 61)).heap.size = w.heap.size + 3 by simp)
  have ca1_0 := (b7.2 0 _ rfl).1
  have ca1_1 := (b7.2 1 _ rfl).1
  have ca1_2 := (b7.2 2 _ rfl).1
  have ca1_3 := (b7.2 3 _ rfl).1
  go_wp2_with fail
  clear ca1_0 ca1_1 ca1_2 ca1_3
  refine (nOwn_tw hv hw).mono ?_
  rintro e w2 ⟨V1, C1, H1, C2, rfl, tw, kk⟩
  replace f := f.keeps kk
  replace hc := hc.keeps kk
  replace b5 := b5.keeps kk
  replace b7 := b7.keeps kk
  replace b8 := b8.keeps kk
  replace hv := hv.keeps kk
  replace hw := hw.keeps kk
  have sf2 := kk.size
  try simp at sf2
  clear kk
  have sz2 := f.size
  have lt2 := b8.lt
  rw [E0.out] at tw
  obtain ⟨ht, l1, h1, l2, h2, q1, q2, q3, q4, d1, mV, mH⟩ := tw
  clear hv hw b5 b7 E0
  have l8 := b8.lt
  replace f := f.keeps (keeps_alloc w2 (.cells #[.int .i64 lv, .slice V1 n C1, .slice H1 m C2, .int .i64 sm] 61))
  replace hc := hc.keeps (keeps_alloc w2 (.cells #[.int .i64 lv, .slice V1 n C1, .slice H1 m C2, .int .i64 sm] 61))
  replace b8 := b8.keeps (keeps_alloc w2 (.cells #[.int .i64 lv, .slice V1 n C1, .slice H1 m C2, .int .i64 sm] 61))
  replace mV := mV.keeps (keeps_alloc w2 (.cells #[.int .i64 lv, .slice V1 n C1, .slice H1 m C2, .int .i64 sm] 61))
  replace mH := mH.keeps (keeps_alloc w2 (.cells #[.int .i64 lv, .slice V1 n C1, .slice H1 m C2, .int .i64 sm] 61))
  have b9 : Bl (w2.alloc (.cells #[.int .i64 lv, .slice V1 n C1, .slice H1 m C2, .int .i64 sm] 61)) w2.heap.size [.int .i64 lv, .slice V1 n C1, .slice H1 m C2, .int .i64 sm] := Bl.new' (by simp) (by simp)
  go_wp2_with fail
  refine (one_any hc (by omega) (by omega)).mono ?_
  rintro e w3 ⟨p0, rfl, hn, ff⟩
  replace f := f.trans ff
  clear hc
  have hc := hn
  replace b8 := b8.fr ff (by first | omega | (simp; omega))
  replace b9 := b9.fr ff (by first | omega | (simp; omega))
  replace mV := mV.fr ff (by first | omega | (simp; omega))
  replace mH := mH.fr ff (by first | omega | (simp; omega))
  have sf3 := ff.size
  try simp at sf3
  clear ff hn
  have sz3 := f.size
  have lt3 := b9.lt
  cases p0
  · have ca4_0 := (b9.2 0 _ rfl).1
    have fa4_0 := (b9.2 0 _ rfl).2
    have ca4_1 := (b9.2 1 _ rfl).1
    have fa4_1 := (b9.2 1 _ rfl).2
    have ca4_2 := (b9.2 2 _ rfl).1
    have fa4_2 := (b9.2 2 _ rfl).2
    have ca4_3 := (b9.2 3 _ rfl).1
    have fa4_3 := (b9.2 3 _ rfl).2
    go_wp2_with fail
    clear ca4_0 fa4_0 ca4_1 fa4_1 ca4_2 fa4_2 ca4_3 fa4_3
    go_loopw [10, 26] (fun sv i wr => ∃ (k : Nat) (xs ys : List Int), i = .int .i64 k ∧ k ≤ n ∧ xs.length ≤ k ∧ Has wr (w2.heap.size + 1) 3 1 sv xs.length (xs.map (Value.int .i64)) ∧ Mine wr l1 h1 V1 n vs ∧ Mine wr l2 h2 H1 m ys ∧ Bl wr (w.heap.size + 1 + 1) [.int .i64 0, .slice none 0 0, .slice none 0 0, .int .i64 0] ∧ Bl wr w2.heap.size [.int .i64 lv, .slice V1 n C1, .slice H1 m C2, .int .i64 sm] ∧ Cur wr g (T + 20 + 10 * k) ∧ Fr g (g + 1) w wr ∧ w2.heap.size + 1 ≤ wr.heap.size) (fun _ i _ => n - (intOf i).toNat)
    case atStart => exact ⟨0, [], ws, rfl, Nat.zero_le _, Nat.le_refl _, World.ownsRow_nil _ _ _ _, mV, mH, b8, b9, hc.mono (by omega), f, by first | omega | (simp [World.setCell]; omega)⟩
    clear mV mH b8 b9 hc f
    case round =>
      obtain ⟨k, xs, ys, rfl, hk, hxk, hown, mV, mH, b8, b9, hc, f, szr⟩ := hrel
      by_cases hlt : k < n
      rotate_left
      · obtain rfl : n = k := by omega
        obtain ⟨A9, C9, e9⟩ := hown.form
        subst e9
        have iV := ((Mine.of_own hown (by omega)).widen (lo' := w2.heap.size + 1) (by omega) (Nat.le_refl _) (Nat.le_refl _)).ints
        clear hown
        by_cases hn0 : 0 < n
        rotate_left
        · obtain rfl : n = 0 := by omega
          have hn9 : ¬ ((0 : Nat) : Int) > 0 := by omega
          have ca5_0 := (b9.2 0 _ rfl).1
          have fa5_0 := (b9.2 0 _ rfl).2
          have ca5_1 := (b9.2 1 _ rfl).1
          have fa5_1 := (b9.2 1 _ rfl).2
          have ca5_2 := (b9.2 2 _ rfl).1
          have fa5_2 := (b9.2 2 _ rfl).2
          have ca5_3 := (b9.2 3 _ rfl).1
          have fa5_3 := (b9.2 3 _ rfl).2
          replace f := f.setNew (p := ⟨w2.heap.size, 1, none⟩) (by show _ ≤ w2.heap.size; omega) (.slice A9 xs.length C9)
          replace hc := hc.fr (fr_one (p := w2.heap.size) (i := 1) (.slice A9 xs.length C9)) (by omega)
          replace b8 := b8.far (p := ⟨w2.heap.size, 1, none⟩) (by show _ ≠ w2.heap.size; omega) (.slice A9 xs.length C9)
          replace iV := iV.fr (fr_one (p := w2.heap.size) (i := 1) (.slice A9 xs.length C9)) (by omega)
          replace mV := mV.fr (fr_one (p := w2.heap.size) (i := 1) (.slice A9 xs.length C9)) (by omega)
          replace mH := mH.fr (fr_one (p := w2.heap.size) (i := 1) (.slice A9 xs.length C9)) (by omega)
          replace b9 : Bl (wr.setCell ⟨w2.heap.size, 1, none⟩ (.slice A9 xs.length C9)) w2.heap.size [.int .i64 lv, .slice A9 xs.length C9, .slice H1 m C2, .int .i64 sm] := b9.set 1 (.slice A9 xs.length C9)
          have ca6_0 := (b9.2 0 _ rfl).1
          have ca6_1 := (b9.2 1 _ rfl).1
          have ca6_2 := (b9.2 2 _ rfl).1
          have ca6_3 := (b9.2 3 _ rfl).1
          have ca7_0 := (b8.2 0 _ rfl).1
          have fa7_0 := (b8.2 0 _ rfl).2
          have ca7_1 := (b8.2 1 _ rfl).1
          have fa7_1 := (b8.2 1 _ rfl).2
          have ca7_2 := (b8.2 2 _ rfl).1
          have fa7_2 := (b8.2 2 _ rfl).2
          have ca7_3 := (b8.2 3 _ rfl).1
          have fa7_3 := (b8.2 3 _ rfl).2
          replace f := f.setNew (p := ⟨w.heap.size + 1 + 1, 0, none⟩) (by show _ ≤ (w.heap.size + 1 + 1); omega) (.int .i64 lv)
          replace hc := hc.fr (fr_one (p := (w.heap.size + 1 + 1)) (i := 0) (.int .i64 lv)) (by omega)
          replace b9 := b9.far (p := ⟨w.heap.size + 1 + 1, 0, none⟩) (by show _ ≠ (w.heap.size + 1 + 1); omega) (.int .i64 lv)
          replace iV := iV.fr (fr_one (p := (w.heap.size + 1 + 1)) (i := 0) (.int .i64 lv)) (by omega)
          replace mV := mV.fr (fr_one (p := (w.heap.size + 1 + 1)) (i := 0) (.int .i64 lv)) (by omega)
          replace mH := mH.fr (fr_one (p := (w.heap.size + 1 + 1)) (i := 0) (.int .i64 lv)) (by omega)
          replace b8 : Bl ((wr.setCell ⟨w2.heap.size, 1, none⟩ (.slice A9 xs.length C9)).setCell ⟨w.heap.size + 1 + 1, 0, none⟩ (.int .i64 lv)) (w.heap.size + 1 + 1) [.int .i64 lv, .slice none 0 0, .slice none 0 0, .int .i64 0] := b8.set 0 (.int .i64 lv)
          replace f := f.setNew (p := ⟨w.heap.size + 1 + 1, 1, none⟩) (by show _ ≤ (w.heap.size + 1 + 1); omega) (.slice A9 xs.length C9)
          replace hc := hc.fr (fr_one (p := (w.heap.size + 1 + 1)) (i := 1) (.slice A9 xs.length C9)) (by omega)
          replace b9 := b9.far (p := ⟨w.heap.size + 1 + 1, 1, none⟩) (by show _ ≠ (w.heap.size + 1 + 1); omega) (.slice A9 xs.length C9)
          replace iV := iV.fr (fr_one (p := (w.heap.size + 1 + 1)) (i := 1) (.slice A9 xs.length C9)) (by omega)
          replace mV := mV.fr (fr_one (p := (w.heap.size + 1 + 1)) (i := 1) (.slice A9 xs.length C9)) (by omega)
          replace mH := mH.fr (fr_one (p := (w.heap.size + 1 + 1)) (i := 1) (.slice A9 xs.length C9)) (by omega)
          replace b8 : Bl (((wr.setCell ⟨w2.heap.size, 1, none⟩ (.slice A9 xs.length C9)).setCell ⟨w.heap.size + 1 + 1, 0, none⟩ (.int .i64 lv)).setCell ⟨w.heap.size + 1 + 1, 1, none⟩ (.slice A9 xs.length C9)) (w.heap.size + 1 + 1) [.int .i64 lv, .slice A9 xs.length C9, .slice none 0 0, .int .i64 0] := b8.set 1 (.slice A9 xs.length C9)
          replace f := f.setNew (p := ⟨w.heap.size + 1 + 1, 2, none⟩) (by show _ ≤ (w.heap.size + 1 + 1); omega) (.slice H1 m C2)
          replace hc := hc.fr (fr_one (p := (w.heap.size + 1 + 1)) (i := 2) (.slice H1 m C2)) (by omega)
          replace b9 := b9.far (p := ⟨w.heap.size + 1 + 1, 2, none⟩) (by show _ ≠ (w.heap.size + 1 + 1); omega) (.slice H1 m C2)
          replace iV := iV.fr (fr_one (p := (w.heap.size + 1 + 1)) (i := 2) (.slice H1 m C2)) (by omega)
          replace mV := mV.fr (fr_one (p := (w.heap.size + 1 + 1)) (i := 2) (.slice H1 m C2)) (by omega)
          replace mH := mH.fr (fr_one (p := (w.heap.size + 1 + 1)) (i := 2) (.slice H1 m C2)) (by omega)
          replace b8 : Bl ((((wr.setCell ⟨w2.heap.size, 1, none⟩ (.slice A9 xs.length C9)).setCell ⟨w.heap.size + 1 + 1, 0, none⟩ (.int .i64 lv)).setCell ⟨w.heap.size + 1 + 1, 1, none⟩ (.slice A9 xs.length C9)).setCell ⟨w.heap.size + 1 + 1, 2, none⟩ (.slice H1 m C2)) (w.heap.size + 1 + 1) [.int .i64 lv, .slice A9 xs.length C9, .slice H1 m C2, .int .i64 0] := b8.set 2 (.slice H1 m C2)
          replace f := f.setNew (p := ⟨w.heap.size + 1 + 1, 3, none⟩) (by show _ ≤ (w.heap.size + 1 + 1); omega) (.int .i64 sm)
          replace hc := hc.fr (fr_one (p := (w.heap.size + 1 + 1)) (i := 3) (.int .i64 sm)) (by omega)
          replace b9 := b9.far (p := ⟨w.heap.size + 1 + 1, 3, none⟩) (by show _ ≠ (w.heap.size + 1 + 1); omega) (.int .i64 sm)
          replace iV := iV.fr (fr_one (p := (w.heap.size + 1 + 1)) (i := 3) (.int .i64 sm)) (by omega)
          replace mV := mV.fr (fr_one (p := (w.heap.size + 1 + 1)) (i := 3) (.int .i64 sm)) (by omega)
          replace mH := mH.fr (fr_one (p := (w.heap.size + 1 + 1)) (i := 3) (.int .i64 sm)) (by omega)
          replace b8 : Bl (((((wr.setCell ⟨w2.heap.size, 1, none⟩ (.slice A9 xs.length C9)).setCell ⟨w.heap.size + 1 + 1, 0, none⟩ (.int .i64 lv)).setCell ⟨w.heap.size + 1 + 1, 1, none⟩ (.slice A9 xs.length C9)).setCell ⟨w.heap.size + 1 + 1, 2, none⟩ (.slice H1 m C2)).setCell ⟨w.heap.size + 1 + 1, 3, none⟩ (.int .i64 sm)) (w.heap.size + 1 + 1) [.int .i64 lv, .slice A9 xs.length C9, .slice H1 m C2, .int .i64 sm] := b8.set 3 (.int .i64 sm)
          have HIV := hid (iV.widen (lo' := w.heap.size) (hi' := (((((wr.setCell ⟨w2.heap.size, 1, none⟩ (.slice A9 xs.length C9)).setCell ⟨w.heap.size + 1 + 1, 0, none⟩ (.int .i64 lv)).setCell ⟨w.heap.size + 1 + 1, 1, none⟩ (.slice A9 xs.length C9)).setCell ⟨w.heap.size + 1 + 1, 2, none⟩ (.slice H1 m C2)).setCell ⟨w.heap.size + 1 + 1, 3, none⟩ (.int .i64 sm)).heap.size) (by omega) (by first | (simp [World.setCell]; done) | (simp [World.setCell]; omega)) (Nat.le_refl _))
          have HIH := hid (mH.ints.widen (lo' := w.heap.size) (hi' := (((((wr.setCell ⟨w2.heap.size, 1, none⟩ (.slice A9 xs.length C9)).setCell ⟨w.heap.size + 1 + 1, 0, none⟩ (.int .i64 lv)).setCell ⟨w.heap.size + 1 + 1, 1, none⟩ (.slice A9 xs.length C9)).setCell ⟨w.heap.size + 1 + 1, 2, none⟩ (.slice H1 m C2)).setCell ⟨w.heap.size + 1 + 1, 3, none⟩ (.int .i64 sm)).heap.size) (by omega) (by simp [World.setCell]; omega) (Nat.le_refl _))
          clear iV mH mV b9
          have HC9 := hid hc
          have HF9 := hid f
          clear hc f
          go_wp2_with fail
          clear ca5_0 fa5_0 ca5_1 fa5_1 ca5_2 fa5_2 ca5_3 fa5_3 ca6_0 ca6_1 ca6_2 ca6_3 ca7_0 fa7_0 ca7_1 fa7_1 ca7_2 fa7_2 ca7_3 fa7_3
          have ca0_0 := (b8.2 0 _ rfl).1
          have ca0_1 := (b8.2 1 _ rfl).1
          have ca0_2 := (b8.2 2 _ rfl).1
          have ca0_3 := (b8.2 3 _ rfl).1
          try simp only [Exit.inBlock, Exit.then]
          exact bodyPost_ret (v := .agg #[.int .i64 lv, .slice A9 xs.length C9, .slice H1 m C2, .int .i64 sm]) (by simp [results, Tryz.results57, go_sem, ca0_0, ca0_1, ca0_2, ca0_3]) rfl ⟨_, _, _, _, _, _, _, _, _, _, rfl, HIV.out, HIH.out, HC9.out.mono (by omega), HF9.out⟩
        have hn9 : (n : Int) > 0 := by omega
        by_cases hsm : sm = -1
        rotate_left
        · have hs9 : (sm == -1) = false := by rw [beq_eq_false_iff_ne]; exact hsm
          have ca5_0 := (b9.2 0 _ rfl).1
          have fa5_0 := (b9.2 0 _ rfl).2
          have ca5_1 := (b9.2 1 _ rfl).1
          have fa5_1 := (b9.2 1 _ rfl).2
          have ca5_2 := (b9.2 2 _ rfl).1
          have fa5_2 := (b9.2 2 _ rfl).2
          have ca5_3 := (b9.2 3 _ rfl).1
          have fa5_3 := (b9.2 3 _ rfl).2
          replace f := f.setNew (p := ⟨w2.heap.size, 1, none⟩) (by show _ ≤ w2.heap.size; omega) (.slice A9 xs.length C9)
          replace hc := hc.fr (fr_one (p := w2.heap.size) (i := 1) (.slice A9 xs.length C9)) (by omega)
          replace b8 := b8.far (p := ⟨w2.heap.size, 1, none⟩) (by show _ ≠ w2.heap.size; omega) (.slice A9 xs.length C9)
          replace iV := iV.fr (fr_one (p := w2.heap.size) (i := 1) (.slice A9 xs.length C9)) (by omega)
          replace mV := mV.fr (fr_one (p := w2.heap.size) (i := 1) (.slice A9 xs.length C9)) (by omega)
          replace mH := mH.fr (fr_one (p := w2.heap.size) (i := 1) (.slice A9 xs.length C9)) (by omega)
          replace b9 : Bl (wr.setCell ⟨w2.heap.size, 1, none⟩ (.slice A9 xs.length C9)) w2.heap.size [.int .i64 lv, .slice A9 xs.length C9, .slice H1 m C2, .int .i64 sm] := b9.set 1 (.slice A9 xs.length C9)
          have ca6_0 := (b9.2 0 _ rfl).1
          have ca6_1 := (b9.2 1 _ rfl).1
          have ca6_2 := (b9.2 2 _ rfl).1
          have ca6_3 := (b9.2 3 _ rfl).1
          have ca7_0 := (b8.2 0 _ rfl).1
          have fa7_0 := (b8.2 0 _ rfl).2
          have ca7_1 := (b8.2 1 _ rfl).1
          have fa7_1 := (b8.2 1 _ rfl).2
          have ca7_2 := (b8.2 2 _ rfl).1
          have fa7_2 := (b8.2 2 _ rfl).2
          have ca7_3 := (b8.2 3 _ rfl).1
          have fa7_3 := (b8.2 3 _ rfl).2
          replace f := f.setNew (p := ⟨w.heap.size + 1 + 1, 0, none⟩) (by show _ ≤ (w.heap.size + 1 + 1); omega) (.int .i64 lv)
          replace hc := hc.fr (fr_one (p := (w.heap.size + 1 + 1)) (i := 0) (.int .i64 lv)) (by omega)
          replace b9 := b9.far (p := ⟨w.heap.size + 1 + 1, 0, none⟩) (by show _ ≠ (w.heap.size + 1 + 1); omega) (.int .i64 lv)
          replace iV := iV.fr (fr_one (p := (w.heap.size + 1 + 1)) (i := 0) (.int .i64 lv)) (by omega)
          replace mV := mV.fr (fr_one (p := (w.heap.size + 1 + 1)) (i := 0) (.int .i64 lv)) (by omega)
          replace mH := mH.fr (fr_one (p := (w.heap.size + 1 + 1)) (i := 0) (.int .i64 lv)) (by omega)
          replace b8 : Bl ((wr.setCell ⟨w2.heap.size, 1, none⟩ (.slice A9 xs.length C9)).setCell ⟨w.heap.size + 1 + 1, 0, none⟩ (.int .i64 lv)) (w.heap.size + 1 + 1) [.int .i64 lv, .slice none 0 0, .slice none 0 0, .int .i64 0] := b8.set 0 (.int .i64 lv)
          replace f := f.setNew (p := ⟨w.heap.size + 1 + 1, 1, none⟩) (by show _ ≤ (w.heap.size + 1 + 1); omega) (.slice A9 xs.length C9)
          replace hc := hc.fr (fr_one (p := (w.heap.size + 1 + 1)) (i := 1) (.slice A9 xs.length C9)) (by omega)
          replace b9 := b9.far (p := ⟨w.heap.size + 1 + 1, 1, none⟩) (by show _ ≠ (w.heap.size + 1 + 1); omega) (.slice A9 xs.length C9)
          replace iV := iV.fr (fr_one (p := (w.heap.size + 1 + 1)) (i := 1) (.slice A9 xs.length C9)) (by omega)
          replace mV := mV.fr (fr_one (p := (w.heap.size + 1 + 1)) (i := 1) (.slice A9 xs.length C9)) (by omega)
          replace mH := mH.fr (fr_one (p := (w.heap.size + 1 + 1)) (i := 1) (.slice A9 xs.length C9)) (by omega)
          replace b8 : Bl (((wr.setCell ⟨w2.heap.size, 1, none⟩ (.slice A9 xs.length C9)).setCell ⟨w.heap.size + 1 + 1, 0, none⟩ (.int .i64 lv)).setCell ⟨w.heap.size + 1 + 1, 1, none⟩ (.slice A9 xs.length C9)) (w.heap.size + 1 + 1) [.int .i64 lv, .slice A9 xs.length C9, .slice none 0 0, .int .i64 0] := b8.set 1 (.slice A9 xs.length C9)
          replace f := f.setNew (p := ⟨w.heap.size + 1 + 1, 2, none⟩) (by show _ ≤ (w.heap.size + 1 + 1); omega) (.slice H1 m C2)
          replace hc := hc.fr (fr_one (p := (w.heap.size + 1 + 1)) (i := 2) (.slice H1 m C2)) (by omega)
          replace b9 := b9.far (p := ⟨w.heap.size + 1 + 1, 2, none⟩) (by show _ ≠ (w.heap.size + 1 + 1); omega) (.slice H1 m C2)
          replace iV := iV.fr (fr_one (p := (w.heap.size + 1 + 1)) (i := 2) (.slice H1 m C2)) (by omega)
          replace mV := mV.fr (fr_one (p := (w.heap.size + 1 + 1)) (i := 2) (.slice H1 m C2)) (by omega)
          replace mH := mH.fr (fr_one (p := (w.heap.size + 1 + 1)) (i := 2) (.slice H1 m C2)) (by omega)
          replace b8 : Bl ((((wr.setCell ⟨w2.heap.size, 1, none⟩ (.slice A9 xs.length C9)).setCell ⟨w.heap.size + 1 + 1, 0, none⟩ (.int .i64 lv)).setCell ⟨w.heap.size + 1 + 1, 1, none⟩ (.slice A9 xs.length C9)).setCell ⟨w.heap.size + 1 + 1, 2, none⟩ (.slice H1 m C2)) (w.heap.size + 1 + 1) [.int .i64 lv, .slice A9 xs.length C9, .slice H1 m C2, .int .i64 0] := b8.set 2 (.slice H1 m C2)
          replace f := f.setNew (p := ⟨w.heap.size + 1 + 1, 3, none⟩) (by show _ ≤ (w.heap.size + 1 + 1); omega) (.int .i64 sm)
          replace hc := hc.fr (fr_one (p := (w.heap.size + 1 + 1)) (i := 3) (.int .i64 sm)) (by omega)
          replace b9 := b9.far (p := ⟨w.heap.size + 1 + 1, 3, none⟩) (by show _ ≠ (w.heap.size + 1 + 1); omega) (.int .i64 sm)
          replace iV := iV.fr (fr_one (p := (w.heap.size + 1 + 1)) (i := 3) (.int .i64 sm)) (by omega)
          replace mV := mV.fr (fr_one (p := (w.heap.size + 1 + 1)) (i := 3) (.int .i64 sm)) (by omega)
          replace mH := mH.fr (fr_one (p := (w.heap.size + 1 + 1)) (i := 3) (.int .i64 sm)) (by omega)
          replace b8 : Bl (((((wr.setCell ⟨w2.heap.size, 1, none⟩ (.slice A9 xs.length C9)).setCell ⟨w.heap.size + 1 + 1, 0, none⟩ (.int .i64 lv)).setCell ⟨w.heap.size + 1 + 1, 1, none⟩ (.slice A9 xs.length C9)).setCell ⟨w.heap.size + 1 + 1, 2, none⟩ (.slice H1 m C2)).setCell ⟨w.heap.size + 1 + 1, 3, none⟩ (.int .i64 sm)) (w.heap.size + 1 + 1) [.int .i64 lv, .slice A9 xs.length C9, .slice H1 m C2, .int .i64 sm] := b8.set 3 (.int .i64 sm)
          have HIV := hid (iV.widen (lo' := w.heap.size) (hi' := (((((wr.setCell ⟨w2.heap.size, 1, none⟩ (.slice A9 xs.length C9)).setCell ⟨w.heap.size + 1 + 1, 0, none⟩ (.int .i64 lv)).setCell ⟨w.heap.size + 1 + 1, 1, none⟩ (.slice A9 xs.length C9)).setCell ⟨w.heap.size + 1 + 1, 2, none⟩ (.slice H1 m C2)).setCell ⟨w.heap.size + 1 + 1, 3, none⟩ (.int .i64 sm)).heap.size) (by omega) (by first | (simp [World.setCell]; done) | (simp [World.setCell]; omega)) (Nat.le_refl _))
          have HIH := hid (mH.ints.widen (lo' := w.heap.size) (hi' := (((((wr.setCell ⟨w2.heap.size, 1, none⟩ (.slice A9 xs.length C9)).setCell ⟨w.heap.size + 1 + 1, 0, none⟩ (.int .i64 lv)).setCell ⟨w.heap.size + 1 + 1, 1, none⟩ (.slice A9 xs.length C9)).setCell ⟨w.heap.size + 1 + 1, 2, none⟩ (.slice H1 m C2)).setCell ⟨w.heap.size + 1 + 1, 3, none⟩ (.int .i64 sm)).heap.size) (by omega) (by simp [World.setCell]; omega) (Nat.le_refl _))
          clear iV mH mV b9
          have HC9 := hid hc
          have HF9 := hid f
          clear hc f
          go_wp2_with fail
          clear ca5_0 fa5_0 ca5_1 fa5_1 ca5_2 fa5_2 ca5_3 fa5_3 ca6_0 ca6_1 ca6_2 ca6_3 ca7_0 fa7_0 ca7_1 fa7_1 ca7_2 fa7_2 ca7_3 fa7_3
          have ca0_0 := (b8.2 0 _ rfl).1
          have ca0_1 := (b8.2 1 _ rfl).1
          have ca0_2 := (b8.2 2 _ rfl).1
          have ca0_3 := (b8.2 3 _ rfl).1
          try simp only [Exit.inBlock, Exit.then]
          exact bodyPost_ret (v := .agg #[.int .i64 lv, .slice A9 xs.length C9, .slice H1 m C2, .int .i64 sm]) (by simp [results, Tryz.results57, go_sem, ca0_0, ca0_1, ca0_2, ca0_3]) rfl ⟨_, _, _, _, _, _, _, _, _, _, rfl, HIV.out, HIH.out, HC9.out.mono (by omega), HF9.out⟩
        subst hsm
        have ca5_0 := (b9.2 0 _ rfl).1
        have fa5_0 := (b9.2 0 _ rfl).2
        have ca5_1 := (b9.2 1 _ rfl).1
        have fa5_1 := (b9.2 1 _ rfl).2
        have ca5_2 := (b9.2 2 _ rfl).1
        have fa5_2 := (b9.2 2 _ rfl).2
        have ca5_3 := (b9.2 3 _ rfl).1
        have fa5_3 := (b9.2 3 _ rfl).2
        go_wp2_with fail
        clear ca5_0 fa5_0 ca5_1 fa5_1 ca5_2 fa5_2 ca5_3 fa5_3
        refine (one_any hc (by omega) (by omega)).mono ?_
        rintro e w6 ⟨p3, rfl, hn, ff⟩
        replace f := f.trans ff
        clear hc
        have hc := hn
        replace b8 := b8.fr ff (by first | omega | (simp; omega))
        replace b9 := b9.fr ff (by first | omega | (simp; omega))
        replace iV := iV.fr ff (by first | omega | (simp; omega))
        replace mV := mV.fr ff (by first | omega | (simp; omega))
        replace mH := mH.fr ff (by first | omega | (simp; omega))
        have sf6 := ff.size
        try simp at sf6
        clear ff hn
        have sz6 := f.size
        have lt6 := b9.lt
        cases p3
        · have ca7_0 := (b9.2 0 _ rfl).1
          have fa7_0 := (b9.2 0 _ rfl).2
          have ca7_1 := (b9.2 1 _ rfl).1
          have fa7_1 := (b9.2 1 _ rfl).2
          have ca7_2 := (b9.2 2 _ rfl).1
          have fa7_2 := (b9.2 2 _ rfl).2
          have ca7_3 := (b9.2 3 _ rfl).1
          have fa7_3 := (b9.2 3 _ rfl).2
          replace f := f.setNew (p := ⟨w2.heap.size, 1, none⟩) (by show _ ≤ w2.heap.size; omega) (.slice A9 xs.length C9)
          replace hc := hc.fr (fr_one (p := w2.heap.size) (i := 1) (.slice A9 xs.length C9)) (by omega)
          replace b8 := b8.far (p := ⟨w2.heap.size, 1, none⟩) (by show _ ≠ w2.heap.size; omega) (.slice A9 xs.length C9)
          replace iV := iV.fr (fr_one (p := w2.heap.size) (i := 1) (.slice A9 xs.length C9)) (by omega)
          replace mV := mV.fr (fr_one (p := w2.heap.size) (i := 1) (.slice A9 xs.length C9)) (by omega)
          replace mH := mH.fr (fr_one (p := w2.heap.size) (i := 1) (.slice A9 xs.length C9)) (by omega)
          replace b9 : Bl (w6.setCell ⟨w2.heap.size, 1, none⟩ (.slice A9 xs.length C9)) w2.heap.size [.int .i64 lv, .slice A9 xs.length C9, .slice H1 m C2, .int .i64 (-1)] := b9.set 1 (.slice A9 xs.length C9)
          have ca8_0 := (b9.2 0 _ rfl).1
          have ca8_1 := (b9.2 1 _ rfl).1
          have ca8_2 := (b9.2 2 _ rfl).1
          have ca8_3 := (b9.2 3 _ rfl).1
          have ca9_0 := (b8.2 0 _ rfl).1
          have fa9_0 := (b8.2 0 _ rfl).2
          have ca9_1 := (b8.2 1 _ rfl).1
          have fa9_1 := (b8.2 1 _ rfl).2
          have ca9_2 := (b8.2 2 _ rfl).1
          have fa9_2 := (b8.2 2 _ rfl).2
          have ca9_3 := (b8.2 3 _ rfl).1
          have fa9_3 := (b8.2 3 _ rfl).2
          replace f := f.setNew (p := ⟨w.heap.size + 1 + 1, 0, none⟩) (by show _ ≤ (w.heap.size + 1 + 1); omega) (.int .i64 lv)
          replace hc := hc.fr (fr_one (p := (w.heap.size + 1 + 1)) (i := 0) (.int .i64 lv)) (by omega)
          replace b9 := b9.far (p := ⟨w.heap.size + 1 + 1, 0, none⟩) (by show _ ≠ (w.heap.size + 1 + 1); omega) (.int .i64 lv)
          replace iV := iV.fr (fr_one (p := (w.heap.size + 1 + 1)) (i := 0) (.int .i64 lv)) (by omega)
          replace mV := mV.fr (fr_one (p := (w.heap.size + 1 + 1)) (i := 0) (.int .i64 lv)) (by omega)
          replace mH := mH.fr (fr_one (p := (w.heap.size + 1 + 1)) (i := 0) (.int .i64 lv)) (by omega)
          replace b8 : Bl ((w6.setCell ⟨w2.heap.size, 1, none⟩ (.slice A9 xs.length C9)).setCell ⟨w.heap.size + 1 + 1, 0, none⟩ (.int .i64 lv)) (w.heap.size + 1 + 1) [.int .i64 lv, .slice none 0 0, .slice none 0 0, .int .i64 0] := b8.set 0 (.int .i64 lv)
          replace f := f.setNew (p := ⟨w.heap.size + 1 + 1, 1, none⟩) (by show _ ≤ (w.heap.size + 1 + 1); omega) (.slice A9 xs.length C9)
          replace hc := hc.fr (fr_one (p := (w.heap.size + 1 + 1)) (i := 1) (.slice A9 xs.length C9)) (by omega)
          replace b9 := b9.far (p := ⟨w.heap.size + 1 + 1, 1, none⟩) (by show _ ≠ (w.heap.size + 1 + 1); omega) (.slice A9 xs.length C9)
          replace iV := iV.fr (fr_one (p := (w.heap.size + 1 + 1)) (i := 1) (.slice A9 xs.length C9)) (by omega)
          replace mV := mV.fr (fr_one (p := (w.heap.size + 1 + 1)) (i := 1) (.slice A9 xs.length C9)) (by omega)
          replace mH := mH.fr (fr_one (p := (w.heap.size + 1 + 1)) (i := 1) (.slice A9 xs.length C9)) (by omega)
          replace b8 : Bl (((w6.setCell ⟨w2.heap.size, 1, none⟩ (.slice A9 xs.length C9)).setCell ⟨w.heap.size + 1 + 1, 0, none⟩ (.int .i64 lv)).setCell ⟨w.heap.size + 1 + 1, 1, none⟩ (.slice A9 xs.length C9)) (w.heap.size + 1 + 1) [.int .i64 lv, .slice A9 xs.length C9, .slice none 0 0, .int .i64 0] := b8.set 1 (.slice A9 xs.length C9)
          replace f := f.setNew (p := ⟨w.heap.size + 1 + 1, 2, none⟩) (by show _ ≤ (w.heap.size + 1 + 1); omega) (.slice H1 m C2)
          replace hc := hc.fr (fr_one (p := (w.heap.size + 1 + 1)) (i := 2) (.slice H1 m C2)) (by omega)
          replace b9 := b9.far (p := ⟨w.heap.size + 1 + 1, 2, none⟩) (by show _ ≠ (w.heap.size + 1 + 1); omega) (.slice H1 m C2)
          replace iV := iV.fr (fr_one (p := (w.heap.size + 1 + 1)) (i := 2) (.slice H1 m C2)) (by omega)
          replace mV := mV.fr (fr_one (p := (w.heap.size + 1 + 1)) (i := 2) (.slice H1 m C2)) (by omega)
          replace mH := mH.fr (fr_one (p := (w.heap.size + 1 + 1)) (i := 2) (.slice H1 m C2)) (by omega)
          replace b8 : Bl ((((w6.setCell ⟨w2.heap.size, 1, none⟩ (.slice A9 xs.length C9)).setCell ⟨w.heap.size + 1 + 1, 0, none⟩ (.int .i64 lv)).setCell ⟨w.heap.size + 1 + 1, 1, none⟩ (.slice A9 xs.length C9)).setCell ⟨w.heap.size + 1 + 1, 2, none⟩ (.slice H1 m C2)) (w.heap.size + 1 + 1) [.int .i64 lv, .slice A9 xs.length C9, .slice H1 m C2, .int .i64 0] := b8.set 2 (.slice H1 m C2)
          replace f := f.setNew (p := ⟨w.heap.size + 1 + 1, 3, none⟩) (by show _ ≤ (w.heap.size + 1 + 1); omega) (.int .i64 (-1))
          replace hc := hc.fr (fr_one (p := (w.heap.size + 1 + 1)) (i := 3) (.int .i64 (-1))) (by omega)
          replace b9 := b9.far (p := ⟨w.heap.size + 1 + 1, 3, none⟩) (by show _ ≠ (w.heap.size + 1 + 1); omega) (.int .i64 (-1))
          replace iV := iV.fr (fr_one (p := (w.heap.size + 1 + 1)) (i := 3) (.int .i64 (-1))) (by omega)
          replace mV := mV.fr (fr_one (p := (w.heap.size + 1 + 1)) (i := 3) (.int .i64 (-1))) (by omega)
          replace mH := mH.fr (fr_one (p := (w.heap.size + 1 + 1)) (i := 3) (.int .i64 (-1))) (by omega)
          replace b8 : Bl (((((w6.setCell ⟨w2.heap.size, 1, none⟩ (.slice A9 xs.length C9)).setCell ⟨w.heap.size + 1 + 1, 0, none⟩ (.int .i64 lv)).setCell ⟨w.heap.size + 1 + 1, 1, none⟩ (.slice A9 xs.length C9)).setCell ⟨w.heap.size + 1 + 1, 2, none⟩ (.slice H1 m C2)).setCell ⟨w.heap.size + 1 + 1, 3, none⟩ (.int .i64 (-1))) (w.heap.size + 1 + 1) [.int .i64 lv, .slice A9 xs.length C9, .slice H1 m C2, .int .i64 (-1)] := b8.set 3 (.int .i64 (-1))
          have HIV := hid (iV.widen (lo' := w.heap.size) (hi' := (((((w6.setCell ⟨w2.heap.size, 1, none⟩ (.slice A9 xs.length C9)).setCell ⟨w.heap.size + 1 + 1, 0, none⟩ (.int .i64 lv)).setCell ⟨w.heap.size + 1 + 1, 1, none⟩ (.slice A9 xs.length C9)).setCell ⟨w.heap.size + 1 + 1, 2, none⟩ (.slice H1 m C2)).setCell ⟨w.heap.size + 1 + 1, 3, none⟩ (.int .i64 (-1))).heap.size) (by omega) (by first | (simp [World.setCell]; done) | (simp [World.setCell]; omega)) (Nat.le_refl _))
          have HIH := hid (mH.ints.widen (lo' := w.heap.size) (hi' := (((((w6.setCell ⟨w2.heap.size, 1, none⟩ (.slice A9 xs.length C9)).setCell ⟨w.heap.size + 1 + 1, 0, none⟩ (.int .i64 lv)).setCell ⟨w.heap.size + 1 + 1, 1, none⟩ (.slice A9 xs.length C9)).setCell ⟨w.heap.size + 1 + 1, 2, none⟩ (.slice H1 m C2)).setCell ⟨w.heap.size + 1 + 1, 3, none⟩ (.int .i64 (-1))).heap.size) (by omega) (by simp [World.setCell]; omega) (Nat.le_refl _))
          clear iV mH mV b9
          have HC9 := hid hc
          have HF9 := hid f
          clear hc f
          go_wp2_with fail
          clear ca7_0 fa7_0 ca7_1 fa7_1 ca7_2 fa7_2 ca7_3 fa7_3 ca8_0 ca8_1 ca8_2 ca8_3 ca9_0 fa9_0 ca9_1 fa9_1 ca9_2 fa9_2 ca9_3 fa9_3
          have ca0_0 := (b8.2 0 _ rfl).1
          have ca0_1 := (b8.2 1 _ rfl).1
          have ca0_2 := (b8.2 2 _ rfl).1
          have ca0_3 := (b8.2 3 _ rfl).1
          try simp only [Exit.inBlock, Exit.then]
          exact bodyPost_ret (v := .agg #[.int .i64 lv, .slice A9 xs.length C9, .slice H1 m C2, .int .i64 (-1)]) (by simp [results, Tryz.results57, go_sem, ca0_0, ca0_1, ca0_2, ca0_3]) rfl ⟨_, _, _, _, _, _, _, _, _, _, rfl, HIV.out, HIH.out, HC9.out.mono (by omega), HF9.out⟩
        obtain ⟨bv, ov, z, rfl, hb1, hb2, hcz, hz⟩ := mV.ints.at_ hn0
        clear hz
        rw [Nat.add_zero] at hcz
        have hn8 : (0 : Int) < (n : Int) := by omega
        have ca7_0 := (b9.2 0 _ rfl).1
        have fa7_0 := (b9.2 0 _ rfl).2
        have ca7_1 := (b9.2 1 _ rfl).1
        have fa7_1 := (b9.2 1 _ rfl).2
        have ca7_2 := (b9.2 2 _ rfl).1
        have fa7_2 := (b9.2 2 _ rfl).2
        have ca7_3 := (b9.2 3 _ rfl).1
        have fa7_3 := (b9.2 3 _ rfl).2
        replace f := f.setNew (p := ⟨w2.heap.size, 3, none⟩) (by show _ ≤ w2.heap.size; omega) (.int .i64 z)
        replace hc := hc.fr (fr_one (p := w2.heap.size) (i := 3) (.int .i64 z)) (by omega)
        replace b8 := b8.far (p := ⟨w2.heap.size, 3, none⟩) (by show _ ≠ w2.heap.size; omega) (.int .i64 z)
        replace iV := iV.fr (fr_one (p := w2.heap.size) (i := 3) (.int .i64 z)) (by omega)
        replace mV := mV.fr (fr_one (p := w2.heap.size) (i := 3) (.int .i64 z)) (by omega)
        replace mH := mH.fr (fr_one (p := w2.heap.size) (i := 3) (.int .i64 z)) (by omega)
        replace b9 : Bl (w6.setCell ⟨w2.heap.size, 3, none⟩ (.int .i64 z)) w2.heap.size [.int .i64 lv, .slice (some ⟨bv, ov, none⟩) n C1, .slice H1 m C2, .int .i64 z] := b9.set 3 (.int .i64 z)
        have ca8_0 := (b9.2 0 _ rfl).1
        have fa8_0 := (b9.2 0 _ rfl).2
        have ca8_1 := (b9.2 1 _ rfl).1
        have fa8_1 := (b9.2 1 _ rfl).2
        have ca8_2 := (b9.2 2 _ rfl).1
        have fa8_2 := (b9.2 2 _ rfl).2
        have ca8_3 := (b9.2 3 _ rfl).1
        have fa8_3 := (b9.2 3 _ rfl).2
        replace f := f.setNew (p := ⟨w2.heap.size, 1, none⟩) (by show _ ≤ w2.heap.size; omega) (.slice A9 xs.length C9)
        replace hc := hc.fr (fr_one (p := w2.heap.size) (i := 1) (.slice A9 xs.length C9)) (by omega)
        replace b8 := b8.far (p := ⟨w2.heap.size, 1, none⟩) (by show _ ≠ w2.heap.size; omega) (.slice A9 xs.length C9)
        replace iV := iV.fr (fr_one (p := w2.heap.size) (i := 1) (.slice A9 xs.length C9)) (by omega)
        replace mV := mV.fr (fr_one (p := w2.heap.size) (i := 1) (.slice A9 xs.length C9)) (by omega)
        replace mH := mH.fr (fr_one (p := w2.heap.size) (i := 1) (.slice A9 xs.length C9)) (by omega)
        replace b9 : Bl ((w6.setCell ⟨w2.heap.size, 3, none⟩ (.int .i64 z)).setCell ⟨w2.heap.size, 1, none⟩ (.slice A9 xs.length C9)) w2.heap.size [.int .i64 lv, .slice A9 xs.length C9, .slice H1 m C2, .int .i64 z] := b9.set 1 (.slice A9 xs.length C9)
        have ca9_0 := (b9.2 0 _ rfl).1
        have ca9_1 := (b9.2 1 _ rfl).1
        have ca9_2 := (b9.2 2 _ rfl).1
        have ca9_3 := (b9.2 3 _ rfl).1
        have ca10_0 := (b8.2 0 _ rfl).1
        have fa10_0 := (b8.2 0 _ rfl).2
        have ca10_1 := (b8.2 1 _ rfl).1
        have fa10_1 := (b8.2 1 _ rfl).2
        have ca10_2 := (b8.2 2 _ rfl).1
        have fa10_2 := (b8.2 2 _ rfl).2
        have ca10_3 := (b8.2 3 _ rfl).1
        have fa10_3 := (b8.2 3 _ rfl).2
        replace f := f.setNew (p := ⟨w.heap.size + 1 + 1, 0, none⟩) (by show _ ≤ (w.heap.size + 1 + 1); omega) (.int .i64 lv)
        replace hc := hc.fr (fr_one (p := (w.heap.size + 1 + 1)) (i := 0) (.int .i64 lv)) (by omega)
        replace b9 := b9.far (p := ⟨w.heap.size + 1 + 1, 0, none⟩) (by show _ ≠ (w.heap.size + 1 + 1); omega) (.int .i64 lv)
        replace iV := iV.fr (fr_one (p := (w.heap.size + 1 + 1)) (i := 0) (.int .i64 lv)) (by omega)
        replace mV := mV.fr (fr_one (p := (w.heap.size + 1 + 1)) (i := 0) (.int .i64 lv)) (by omega)
        replace mH := mH.fr (fr_one (p := (w.heap.size + 1 + 1)) (i := 0) (.int .i64 lv)) (by omega)
        replace b8 : Bl (((w6.setCell ⟨w2.heap.size, 3, none⟩ (.int .i64 z)).setCell ⟨w2.heap.size, 1, none⟩ (.slice A9 xs.length C9)).setCell ⟨w.heap.size + 1 + 1, 0, none⟩ (.int .i64 lv)) (w.heap.size + 1 + 1) [.int .i64 lv, .slice none 0 0, .slice none 0 0, .int .i64 0] := b8.set 0 (.int .i64 lv)
        replace f := f.setNew (p := ⟨w.heap.size + 1 + 1, 1, none⟩) (by show _ ≤ (w.heap.size + 1 + 1); omega) (.slice A9 xs.length C9)
        replace hc := hc.fr (fr_one (p := (w.heap.size + 1 + 1)) (i := 1) (.slice A9 xs.length C9)) (by omega)
        replace b9 := b9.far (p := ⟨w.heap.size + 1 + 1, 1, none⟩) (by show _ ≠ (w.heap.size + 1 + 1); omega) (.slice A9 xs.length C9)
        replace iV := iV.fr (fr_one (p := (w.heap.size + 1 + 1)) (i := 1) (.slice A9 xs.length C9)) (by omega)
        replace mV := mV.fr (fr_one (p := (w.heap.size + 1 + 1)) (i := 1) (.slice A9 xs.length C9)) (by omega)
        replace mH := mH.fr (fr_one (p := (w.heap.size + 1 + 1)) (i := 1) (.slice A9 xs.length C9)) (by omega)
        replace b8 : Bl ((((w6.setCell ⟨w2.heap.size, 3, none⟩ (.int .i64 z)).setCell ⟨w2.heap.size, 1, none⟩ (.slice A9 xs.length C9)).setCell ⟨w.heap.size + 1 + 1, 0, none⟩ (.int .i64 lv)).setCell ⟨w.heap.size + 1 + 1, 1, none⟩ (.slice A9 xs.length C9)) (w.heap.size + 1 + 1) [.int .i64 lv, .slice A9 xs.length C9, .slice none 0 0, .int .i64 0] := b8.set 1 (.slice A9 xs.length C9)
        replace f := f.setNew (p := ⟨w.heap.size + 1 + 1, 2, none⟩) (by show _ ≤ (w.heap.size + 1 + 1); omega) (.slice H1 m C2)
        replace hc := hc.fr (fr_one (p := (w.heap.size + 1 + 1)) (i := 2) (.slice H1 m C2)) (by omega)
        replace b9 := b9.far (p := ⟨w.heap.size + 1 + 1, 2, none⟩) (by show _ ≠ (w.heap.size + 1 + 1); omega) (.slice H1 m C2)
        replace iV := iV.fr (fr_one (p := (w.heap.size + 1 + 1)) (i := 2) (.slice H1 m C2)) (by omega)
        replace mV := mV.fr (fr_one (p := (w.heap.size + 1 + 1)) (i := 2) (.slice H1 m C2)) (by omega)
        replace mH := mH.fr (fr_one (p := (w.heap.size + 1 + 1)) (i := 2) (.slice H1 m C2)) (by omega)
        replace b8 : Bl (((((w6.setCell ⟨w2.heap.size, 3, none⟩ (.int .i64 z)).setCell ⟨w2.heap.size, 1, none⟩ (.slice A9 xs.length C9)).setCell ⟨w.heap.size + 1 + 1, 0, none⟩ (.int .i64 lv)).setCell ⟨w.heap.size + 1 + 1, 1, none⟩ (.slice A9 xs.length C9)).setCell ⟨w.heap.size + 1 + 1, 2, none⟩ (.slice H1 m C2)) (w.heap.size + 1 + 1) [.int .i64 lv, .slice A9 xs.length C9, .slice H1 m C2, .int .i64 0] := b8.set 2 (.slice H1 m C2)
        replace f := f.setNew (p := ⟨w.heap.size + 1 + 1, 3, none⟩) (by show _ ≤ (w.heap.size + 1 + 1); omega) (.int .i64 z)
        replace hc := hc.fr (fr_one (p := (w.heap.size + 1 + 1)) (i := 3) (.int .i64 z)) (by omega)
        replace b9 := b9.far (p := ⟨w.heap.size + 1 + 1, 3, none⟩) (by show _ ≠ (w.heap.size + 1 + 1); omega) (.int .i64 z)
        replace iV := iV.fr (fr_one (p := (w.heap.size + 1 + 1)) (i := 3) (.int .i64 z)) (by omega)
        replace mV := mV.fr (fr_one (p := (w.heap.size + 1 + 1)) (i := 3) (.int .i64 z)) (by omega)
        replace mH := mH.fr (fr_one (p := (w.heap.size + 1 + 1)) (i := 3) (.int .i64 z)) (by omega)
        replace b8 : Bl ((((((w6.setCell ⟨w2.heap.size, 3, none⟩ (.int .i64 z)).setCell ⟨w2.heap.size, 1, none⟩ (.slice A9 xs.length C9)).setCell ⟨w.heap.size + 1 + 1, 0, none⟩ (.int .i64 lv)).setCell ⟨w.heap.size + 1 + 1, 1, none⟩ (.slice A9 xs.length C9)).setCell ⟨w.heap.size + 1 + 1, 2, none⟩ (.slice H1 m C2)).setCell ⟨w.heap.size + 1 + 1, 3, none⟩ (.int .i64 z)) (w.heap.size + 1 + 1) [.int .i64 lv, .slice A9 xs.length C9, .slice H1 m C2, .int .i64 z] := b8.set 3 (.int .i64 z)
        have HIV := hid (iV.widen (lo' := w.heap.size) (hi' := ((((((w6.setCell ⟨w2.heap.size, 3, none⟩ (.int .i64 z)).setCell ⟨w2.heap.size, 1, none⟩ (.slice A9 xs.length C9)).setCell ⟨w.heap.size + 1 + 1, 0, none⟩ (.int .i64 lv)).setCell ⟨w.heap.size + 1 + 1, 1, none⟩ (.slice A9 xs.length C9)).setCell ⟨w.heap.size + 1 + 1, 2, none⟩ (.slice H1 m C2)).setCell ⟨w.heap.size + 1 + 1, 3, none⟩ (.int .i64 z)).heap.size) (by omega) (by first | (simp [World.setCell]; done) | (simp [World.setCell]; omega)) (Nat.le_refl _))
        have HIH := hid (mH.ints.widen (lo' := w.heap.size) (hi' := ((((((w6.setCell ⟨w2.heap.size, 3, none⟩ (.int .i64 z)).setCell ⟨w2.heap.size, 1, none⟩ (.slice A9 xs.length C9)).setCell ⟨w.heap.size + 1 + 1, 0, none⟩ (.int .i64 lv)).setCell ⟨w.heap.size + 1 + 1, 1, none⟩ (.slice A9 xs.length C9)).setCell ⟨w.heap.size + 1 + 1, 2, none⟩ (.slice H1 m C2)).setCell ⟨w.heap.size + 1 + 1, 3, none⟩ (.int .i64 z)).heap.size) (by omega) (by simp [World.setCell]; omega) (Nat.le_refl _))
        clear iV mH mV b9
        have HC9 := hid hc
        have HF9 := hid f
        clear hc f
        go_wp2_with fail
        clear ca7_0 fa7_0 ca7_1 fa7_1 ca7_2 fa7_2 ca7_3 fa7_3 ca8_0 fa8_0 ca8_1 fa8_1 ca8_2 fa8_2 ca8_3 fa8_3 ca9_0 ca9_1 ca9_2 ca9_3 ca10_0 fa10_0 ca10_1 fa10_1 ca10_2 fa10_2 ca10_3 fa10_3
        have ca0_0 := (b8.2 0 _ rfl).1
        have ca0_1 := (b8.2 1 _ rfl).1
        have ca0_2 := (b8.2 2 _ rfl).1
        have ca0_3 := (b8.2 3 _ rfl).1
        try simp only [Exit.inBlock, Exit.then]
        exact bodyPost_ret (v := .agg #[.int .i64 lv, .slice A9 xs.length C9, .slice H1 m C2, .int .i64 z]) (by simp [results, Tryz.results57, go_sem, ca0_0, ca0_1, ca0_2, ca0_3]) rfl ⟨_, _, _, _, _, _, _, _, _, _, rfl, HIV.out, HIH.out, HC9.out.mono (by omega), HF9.out⟩
      obtain ⟨bv, ov, z, rfl, hb1, hb2, hcz, hz⟩ := mV.ints.at_ hlt
      clear hz
      have hi1 : (k : Int) < (n : Int) := by omega
      go_wp2_with fail
      clear hcz
      refine (one_any hc (by omega) (by omega)).mono ?_
      rintro e w5 ⟨p1, rfl, hn, ff⟩
      replace f := f.trans ff
      clear hc
      have hc := hn
      replace b8 := b8.fr ff (by first | omega | (simp; omega))
      replace b9 := b9.fr ff (by first | omega | (simp; omega))
      replace mV := mV.fr ff (by first | omega | (simp; omega))
      replace mH := mH.fr ff (by first | omega | (simp; omega))
      replace hown := hown.fr ff (by first | omega | (simp; omega))
      have sf5 := ff.size
      try simp at sf5
      clear ff hn
      have sz5 := f.size
      have lt5 := b9.lt
      cases p1
      · go_wp2_with (at_builtin; refine append_int (xs := xs) hown (by omega) (by omega) _ _ rfl rfl rfl (by first | rfl | (simp <;> rfl)) ?_; intro v' w' hown' hb')
        have KB := hid hb'
        have H1_ := hid hown'
        rw [show xs.length + 1 = (xs ++ [z]).length by simp] at H1_
        have FB := hid (fr_belowB hb')
        have FW := hid (f.below hb' (by omega))
        have CW := hid (hc.below hb' (by omega))
        have MV := hid (mV.fr FB.out (by omega))
        have MH := hid (mH.fr FB.out (by omega))
        have B8 := hid (b8.fr FB.out (by omega))
        have B9 := hid (b9.fr FB.out (by omega))
        have S9 := KB.out.size
        have HL := hid (show (xs ++ [z]).length ≤ k + 1 by simp; omega)
        clear hown hown' hb' f hc mV mH b8 b9 FB KB
        go_wp2
        go_roundw
        case rel => exact ⟨k + 1, xs ++ [z], ys, by go_num, hlt, HL.out, H1_.out, MV.out, MH.out, B8.out, B9.out, CW.out.mono (by omega), FW.out, by omega⟩
        case measure => simp [intOf]; omega
      go_wp2_with fail
      refine (one_any hc (by omega) (by omega)).mono ?_
      rintro e w6 ⟨p2, rfl, hn, ff⟩
      replace f := f.trans ff
      clear hc
      have hc := hn
      replace b8 := b8.fr ff (by first | omega | (simp; omega))
      replace b9 := b9.fr ff (by first | omega | (simp; omega))
      replace mV := mV.fr ff (by first | omega | (simp; omega))
      replace mH := mH.fr ff (by first | omega | (simp; omega))
      replace hown := hown.fr ff (by first | omega | (simp; omega))
      have sf6 := ff.size
      try simp at sf6
      clear ff hn
      have sz6 := f.size
      have lt6 := b9.lt
      cases p2
      · have H1_ := hid hown
        have FW := hid f
        have CW := hid hc
        have MV := hid mV
        have MH := hid mH
        have B8 := hid b8
        have B9 := hid b9
        clear hown f hc mV mH b8 b9
        go_wp2_with fail
        go_roundw
        case rel => exact ⟨k + 1, xs, ys, by go_num, hlt, by omega, H1_.out, MV.out, MH.out, B8.out, B9.out, CW.out.mono (by omega), FW.out, by omega⟩
        case measure => simp [intOf]; omega
      have ca7_0 := (b9.2 0 _ rfl).1
      have ca7_1 := (b9.2 1 _ rfl).1
      have ca7_2 := (b9.2 2 _ rfl).1
      have ca7_3 := (b9.2 3 _ rfl).1
      go_wp2_with fail
      refine (l1In_any z 0 ((m : Int) - 1) _).mono ?_
      rintro e w' ⟨rfl, e9⟩
      subst e9
      obtain ⟨p4, HP4⟩ : ∃ p, Hid (inB z 0 ((m : Int) - 1) = p) := ⟨_, rfl⟩
      rw [HP4.out]
      cases p4
      clear ca7_0 ca7_1 ca7_2 ca7_3
      · have H1_ := hid hown
        have FW := hid f
        have CW := hid hc
        have MV := hid mV
        have MH := hid mH
        have B8 := hid b8
        have B9 := hid b9
        clear hown f hc mV mH b8 b9
        go_wp2_with fail
        go_roundw
        case rel => exact ⟨k + 1, xs, ys, by go_num, hlt, by omega, H1_.out, MV.out, MH.out, B8.out, B9.out, CW.out.mono (by omega), FW.out, by omega⟩
        case measure => simp [intOf]; omega
      go_wp2_with fail
      refine (l1In_any z 0 ((q : Int) - 1) _).mono ?_
      rintro e w' ⟨rfl, e9⟩
      subst e9
      obtain ⟨p5, HP5⟩ : ∃ p, Hid (inB z 0 ((q : Int) - 1) = p) := ⟨_, rfl⟩
      rw [HP5.out]
      cases p5
      · have H1_ := hid hown
        have FW := hid f
        have CW := hid hc
        have MV := hid mV
        have MH := hid mH
        have B8 := hid b8
        have B9 := hid b9
        clear hown f hc mV mH b8 b9
        go_wp2_with fail
        go_roundw
        case rel => exact ⟨k + 1, xs, ys, by go_num, hlt, by omega, H1_.out, MV.out, MH.out, B8.out, B9.out, CW.out.mono (by omega), FW.out, by omega⟩
        case measure => simp [intOf]; omega
      have i4 := inB_true.1 HP4.out
      have i5 := inB_true.1 HP5.out
      obtain ⟨j, rfl⟩ : ∃ j : Nat, z = j := ⟨z.toNat, by omega⟩
      clear HP4 HP5
      have hjm : j < m := by omega
      have hjq : j < q := by omega
      clear i4 i5
      have hjm1 : (j : Int) < (m : Int) := by omega
      have hjq1 : (j : Int) < (q : Int) := by omega
      go_wp2_with fail
      obtain ⟨bh, oh, z2, rfl, hh1, hh2, hch, hz2⟩ := mH.ints.at_ hjm
      clear hch hz2 z2
      obtain ⟨bs, os, x8, y8, rfl, hs1, hs2, hcs0, hcs1, hx8⟩ := Vars.at_ hs hjq
      clear hcs0 hcs1 hx8 x8 y8
      obtain ⟨y9, hy9⟩ : ∃ y, (l.getD j v0).2 = y := ⟨_, rfl⟩
      have hyb : 0 ≤ y9 ∧ y9 ≤ 9 := by have := (HD.out.at_ j).2; rw [hy9] at this; exact this
      have hsW := Vars.lvS (hs.fr f (by omega)) hjq
      rw [hy9] at hsW
      have hsD : w6.drew.cell? ⟨bs, os + j * 2 + 1, none⟩ = some (.int .i64 y9) := hsW
      have b9D := b9.keeps (keeps_d0 w6)
      have c9D : w6.drew.cell? ⟨w2.heap.size, 2, none⟩ = some (.slice (some ⟨bh, oh, none⟩) m C2) := (b9D.2 2 _ rfl).1
      have hcD := hc.keeps (keeps_d0 w6)
      have mHD := mH.keeps (keeps_d0 w6)
      have chD := (mHD.cellS hjm).1
      have cfD := (mHD.cellS hjm).2
      have HSV := hid (hs.fr (f.keeps (keeps_d0 w6)) (by omega))
      go_region_law ((first | (refine stp_pick (n := y9) hcD (by omega) (by omega) rfl (by kernel_rfl) ?_; intro x9 wB hx9 hcB fB; have hx8 : 0 ≤ x9 ∧ x9 ≤ 9 := (by omega); have b9B := b9D.fr fB (by omega); have c9B : wB.cell? ⟨w2.heap.size, 2, none⟩ = some (.slice (some ⟨bh, oh, none⟩) m C2) := (b9B.2 2 _ rfl).1; have mHB := mHD.fr fB (by omega); have chB := (mHB.cellS hjm).1; have cfB := (mHB.cellS hjm).2; have hsB := Vars.lvS (Sl.fr HSV.out fB (by omega)) hjq; rw [hy9] at hsB)))
      all_goals (
        have sB : w6.heap.size ≤ wB.heap.size := fB.size
        have HMS := hid (fun u => (mHB.set_ hjm u).1)
        have HFS := hid (fun u => (mHB.set_ hjm u).2)
        have FW := hid (f.keeps (keeps_d0 w6) |>.trans fB)
        have H1_ := hid (Has.fr (Has.fr hown (Fr.of_keeps (keeps_d0 w6) 0 0) (Nat.zero_le _)) fB (by omega))
        have MV := hid ((mV.keeps (keeps_d0 w6)).fr fB (by omega))
        have B8 := hid ((b8.keeps (keeps_d0 w6)).fr fB (by omega))
        have B9 := hid b9B
        have HC := hid hcB
        clear hown f hc mV mH b8 b9 b9D b9B hcD hcB mHD mHB chD cfD chB cfB HSV hsW hsD hsB c9D c9B fB hx9 hyb hy9
        go_wp2_with fail
        go_roundw
        case rel => exact ⟨k + 1, xs, _, by go_num, hlt, by omega, H1_.out.fr (HFS.out _) (by omega), MV.out.fr (HFS.out _) (by omega), HMS.out _, B8.out.fr (HFS.out _) (by omega), B9.out.fr (HFS.out _) (by omega), (HC.out.fr (HFS.out _) (by omega)).mono (by omega), FW.out.setNew (p := ⟨bh, oh + j, none⟩) (by show _ ≤ bh; omega) _, by simp [World.setCell]; omega⟩
        case measure => simp [intOf]; omega)
  have ca4_0 := (b9.2 0 _ rfl).1
  have fa4_0 := (b9.2 0 _ rfl).2
  have ca4_1 := (b9.2 1 _ rfl).1
  have fa4_1 := (b9.2 1 _ rfl).2
  have ca4_2 := (b9.2 2 _ rfl).1
  have fa4_2 := (b9.2 2 _ rfl).2
  have ca4_3 := (b9.2 3 _ rfl).1
  have fa4_3 := (b9.2 3 _ rfl).2
  go_wp2_with fail
  clear ca4_0 fa4_0 ca4_1 fa4_1 ca4_2 fa4_2 ca4_3 fa4_3
  refine (pick_all hc (by omega)).mono ?_
  rintro e w5 ⟨x0, rfl, hn, ff⟩
  replace f := f.trans ff
  clear hc
  have hc := hn
  replace b8 := b8.fr ff (by first | omega | (simp; omega))
  replace b9 := b9.fr ff (by first | omega | (simp; omega))
  replace mV := mV.fr ff (by first | omega | (simp; omega))
  replace mH := mH.fr ff (by first | omega | (simp; omega))
  have sf5 := ff.size
  try simp at sf5
  clear ff hn
  have sz5 := f.size
  have lt5 := b9.lt
  have ca6_0 := (b9.2 0 _ rfl).1
  have fa6_0 := (b9.2 0 _ rfl).2
  have ca6_1 := (b9.2 1 _ rfl).1
  have fa6_1 := (b9.2 1 _ rfl).2
  have ca6_2 := (b9.2 2 _ rfl).1
  have fa6_2 := (b9.2 2 _ rfl).2
  have ca6_3 := (b9.2 3 _ rfl).1
  have fa6_3 := (b9.2 3 _ rfl).2
  replace f := f.setNew (p := ⟨w2.heap.size, 0, none⟩) (by show _ ≤ w2.heap.size; omega) (.int .i64 x0)
  replace hc := hc.fr (fr_one (p := w2.heap.size) (i := 0) (.int .i64 x0)) (by omega)
  replace b8 := b8.far (p := ⟨w2.heap.size, 0, none⟩) (by show _ ≠ w2.heap.size; omega) (.int .i64 x0)
  replace mV := mV.fr (fr_one (p := w2.heap.size) (i := 0) (.int .i64 x0)) (by omega)
  replace mH := mH.fr (fr_one (p := w2.heap.size) (i := 0) (.int .i64 x0)) (by omega)
  replace b9 : Bl (w5.setCell ⟨w2.heap.size, 0, none⟩ (.int .i64 x0)) w2.heap.size [.int .i64 x0, .slice V1 n C1, .slice H1 m C2, .int .i64 sm] := b9.set 0 (.int .i64 x0)
  have ca7_0 := (b9.2 0 _ rfl).1
  have fa7_0 := (b9.2 0 _ rfl).2
  have ca7_1 := (b9.2 1 _ rfl).1
  have fa7_1 := (b9.2 1 _ rfl).2
  have ca7_2 := (b9.2 2 _ rfl).1
  have fa7_2 := (b9.2 2 _ rfl).2
  have ca7_3 := (b9.2 3 _ rfl).1
  have fa7_3 := (b9.2 3 _ rfl).2
  go_wp2_with fail
  clear ca6_0 fa6_0 ca6_1 fa6_1 ca6_2 fa6_2 ca6_3 fa6_3 ca7_0 fa7_0 ca7_1 fa7_1 ca7_2 fa7_2 ca7_3 fa7_3
  go_loopw [10, 26] (fun sv i wr => ∃ (k : Nat) (xs ys : List Int), i = .int .i64 k ∧ k ≤ n ∧ xs.length ≤ k ∧ Has wr (w2.heap.size + 1) 3 1 sv xs.length (xs.map (Value.int .i64)) ∧ Mine wr l1 h1 V1 n vs ∧ Mine wr l2 h2 H1 m ys ∧ Bl wr (w.heap.size + 1 + 1) [.int .i64 0, .slice none 0 0, .slice none 0 0, .int .i64 0] ∧ Bl wr w2.heap.size [.int .i64 x0, .slice V1 n C1, .slice H1 m C2, .int .i64 sm] ∧ Cur wr g (T + 20 + 10 * k) ∧ Fr g (g + 1) w wr ∧ w2.heap.size + 1 ≤ wr.heap.size) (fun _ i _ => n - (intOf i).toNat)
  case atStart => exact ⟨0, [], ws, rfl, Nat.zero_le _, Nat.le_refl _, World.ownsRow_nil _ _ _ _, mV, mH, b8, b9, hc.mono (by omega), f, by first | omega | (simp [World.setCell]; omega)⟩
  clear mV mH b8 b9 hc f
  case round =>
    obtain ⟨k, xs, ys, rfl, hk, hxk, hown, mV, mH, b8, b9, hc, f, szr⟩ := hrel
    by_cases hlt : k < n
    rotate_left
    · obtain rfl : n = k := by omega
      obtain ⟨A9, C9, e9⟩ := hown.form
      subst e9
      have iV := ((Mine.of_own hown (by omega)).widen (lo' := w2.heap.size + 1) (by omega) (Nat.le_refl _) (Nat.le_refl _)).ints
      clear hown
      by_cases hn0 : 0 < n
      rotate_left
      · obtain rfl : n = 0 := by omega
        have hn9 : ¬ ((0 : Nat) : Int) > 0 := by omega
        have ca8_0 := (b9.2 0 _ rfl).1
        have fa8_0 := (b9.2 0 _ rfl).2
        have ca8_1 := (b9.2 1 _ rfl).1
        have fa8_1 := (b9.2 1 _ rfl).2
        have ca8_2 := (b9.2 2 _ rfl).1
        have fa8_2 := (b9.2 2 _ rfl).2
        have ca8_3 := (b9.2 3 _ rfl).1
        have fa8_3 := (b9.2 3 _ rfl).2
        replace f := f.setNew (p := ⟨w2.heap.size, 1, none⟩) (by show _ ≤ w2.heap.size; omega) (.slice A9 xs.length C9)
        replace hc := hc.fr (fr_one (p := w2.heap.size) (i := 1) (.slice A9 xs.length C9)) (by omega)
        replace b8 := b8.far (p := ⟨w2.heap.size, 1, none⟩) (by show _ ≠ w2.heap.size; omega) (.slice A9 xs.length C9)
        replace iV := iV.fr (fr_one (p := w2.heap.size) (i := 1) (.slice A9 xs.length C9)) (by omega)
        replace mV := mV.fr (fr_one (p := w2.heap.size) (i := 1) (.slice A9 xs.length C9)) (by omega)
        replace mH := mH.fr (fr_one (p := w2.heap.size) (i := 1) (.slice A9 xs.length C9)) (by omega)
        replace b9 : Bl (wr.setCell ⟨w2.heap.size, 1, none⟩ (.slice A9 xs.length C9)) w2.heap.size [.int .i64 x0, .slice A9 xs.length C9, .slice H1 m C2, .int .i64 sm] := b9.set 1 (.slice A9 xs.length C9)
        have ca9_0 := (b9.2 0 _ rfl).1
        have ca9_1 := (b9.2 1 _ rfl).1
        have ca9_2 := (b9.2 2 _ rfl).1
        have ca9_3 := (b9.2 3 _ rfl).1
        have ca10_0 := (b8.2 0 _ rfl).1
        have fa10_0 := (b8.2 0 _ rfl).2
        have ca10_1 := (b8.2 1 _ rfl).1
        have fa10_1 := (b8.2 1 _ rfl).2
        have ca10_2 := (b8.2 2 _ rfl).1
        have fa10_2 := (b8.2 2 _ rfl).2
        have ca10_3 := (b8.2 3 _ rfl).1
        have fa10_3 := (b8.2 3 _ rfl).2
        replace f := f.setNew (p := ⟨w.heap.size + 1 + 1, 0, none⟩) (by show _ ≤ (w.heap.size + 1 + 1); omega) (.int .i64 x0)
        replace hc := hc.fr (fr_one (p := (w.heap.size + 1 + 1)) (i := 0) (.int .i64 x0)) (by omega)
        replace b9 := b9.far (p := ⟨w.heap.size + 1 + 1, 0, none⟩) (by show _ ≠ (w.heap.size + 1 + 1); omega) (.int .i64 x0)
        replace iV := iV.fr (fr_one (p := (w.heap.size + 1 + 1)) (i := 0) (.int .i64 x0)) (by omega)
        replace mV := mV.fr (fr_one (p := (w.heap.size + 1 + 1)) (i := 0) (.int .i64 x0)) (by omega)
        replace mH := mH.fr (fr_one (p := (w.heap.size + 1 + 1)) (i := 0) (.int .i64 x0)) (by omega)
        replace b8 : Bl ((wr.setCell ⟨w2.heap.size, 1, none⟩ (.slice A9 xs.length C9)).setCell ⟨w.heap.size + 1 + 1, 0, none⟩ (.int .i64 x0)) (w.heap.size + 1 + 1) [.int .i64 x0, .slice none 0 0, .slice none 0 0, .int .i64 0] := b8.set 0 (.int .i64 x0)
        replace f := f.setNew (p := ⟨w.heap.size + 1 + 1, 1, none⟩) (by show _ ≤ (w.heap.size + 1 + 1); omega) (.slice A9 xs.length C9)
        replace hc := hc.fr (fr_one (p := (w.heap.size + 1 + 1)) (i := 1) (.slice A9 xs.length C9)) (by omega)
        replace b9 := b9.far (p := ⟨w.heap.size + 1 + 1, 1, none⟩) (by show _ ≠ (w.heap.size + 1 + 1); omega) (.slice A9 xs.length C9)
        replace iV := iV.fr (fr_one (p := (w.heap.size + 1 + 1)) (i := 1) (.slice A9 xs.length C9)) (by omega)
        replace mV := mV.fr (fr_one (p := (w.heap.size + 1 + 1)) (i := 1) (.slice A9 xs.length C9)) (by omega)
        replace mH := mH.fr (fr_one (p := (w.heap.size + 1 + 1)) (i := 1) (.slice A9 xs.length C9)) (by omega)
        replace b8 : Bl (((wr.setCell ⟨w2.heap.size, 1, none⟩ (.slice A9 xs.length C9)).setCell ⟨w.heap.size + 1 + 1, 0, none⟩ (.int .i64 x0)).setCell ⟨w.heap.size + 1 + 1, 1, none⟩ (.slice A9 xs.length C9)) (w.heap.size + 1 + 1) [.int .i64 x0, .slice A9 xs.length C9, .slice none 0 0, .int .i64 0] := b8.set 1 (.slice A9 xs.length C9)
        replace f := f.setNew (p := ⟨w.heap.size + 1 + 1, 2, none⟩) (by show _ ≤ (w.heap.size + 1 + 1); omega) (.slice H1 m C2)
        replace hc := hc.fr (fr_one (p := (w.heap.size + 1 + 1)) (i := 2) (.slice H1 m C2)) (by omega)
        replace b9 := b9.far (p := ⟨w.heap.size + 1 + 1, 2, none⟩) (by show _ ≠ (w.heap.size + 1 + 1); omega) (.slice H1 m C2)
        replace iV := iV.fr (fr_one (p := (w.heap.size + 1 + 1)) (i := 2) (.slice H1 m C2)) (by omega)
        replace mV := mV.fr (fr_one (p := (w.heap.size + 1 + 1)) (i := 2) (.slice H1 m C2)) (by omega)
        replace mH := mH.fr (fr_one (p := (w.heap.size + 1 + 1)) (i := 2) (.slice H1 m C2)) (by omega)
        replace b8 : Bl ((((wr.setCell ⟨w2.heap.size, 1, none⟩ (.slice A9 xs.length C9)).setCell ⟨w.heap.size + 1 + 1, 0, none⟩ (.int .i64 x0)).setCell ⟨w.heap.size + 1 + 1, 1, none⟩ (.slice A9 xs.length C9)).setCell ⟨w.heap.size + 1 + 1, 2, none⟩ (.slice H1 m C2)) (w.heap.size + 1 + 1) [.int .i64 x0, .slice A9 xs.length C9, .slice H1 m C2, .int .i64 0] := b8.set 2 (.slice H1 m C2)
        replace f := f.setNew (p := ⟨w.heap.size + 1 + 1, 3, none⟩) (by show _ ≤ (w.heap.size + 1 + 1); omega) (.int .i64 sm)
        replace hc := hc.fr (fr_one (p := (w.heap.size + 1 + 1)) (i := 3) (.int .i64 sm)) (by omega)
        replace b9 := b9.far (p := ⟨w.heap.size + 1 + 1, 3, none⟩) (by show _ ≠ (w.heap.size + 1 + 1); omega) (.int .i64 sm)
        replace iV := iV.fr (fr_one (p := (w.heap.size + 1 + 1)) (i := 3) (.int .i64 sm)) (by omega)
        replace mV := mV.fr (fr_one (p := (w.heap.size + 1 + 1)) (i := 3) (.int .i64 sm)) (by omega)
        replace mH := mH.fr (fr_one (p := (w.heap.size + 1 + 1)) (i := 3) (.int .i64 sm)) (by omega)
        replace b8 : Bl (((((wr.setCell ⟨w2.heap.size, 1, none⟩ (.slice A9 xs.length C9)).setCell ⟨w.heap.size + 1 + 1, 0, none⟩ (.int .i64 x0)).setCell ⟨w.heap.size + 1 + 1, 1, none⟩ (.slice A9 xs.length C9)).setCell ⟨w.heap.size + 1 + 1, 2, none⟩ (.slice H1 m C2)).setCell ⟨w.heap.size + 1 + 1, 3, none⟩ (.int .i64 sm)) (w.heap.size + 1 + 1) [.int .i64 x0, .slice A9 xs.length C9, .slice H1 m C2, .int .i64 sm] := b8.set 3 (.int .i64 sm)
        have HIV := hid (iV.widen (lo' := w.heap.size) (hi' := (((((wr.setCell ⟨w2.heap.size, 1, none⟩ (.slice A9 xs.length C9)).setCell ⟨w.heap.size + 1 + 1, 0, none⟩ (.int .i64 x0)).setCell ⟨w.heap.size + 1 + 1, 1, none⟩ (.slice A9 xs.length C9)).setCell ⟨w.heap.size + 1 + 1, 2, none⟩ (.slice H1 m C2)).setCell ⟨w.heap.size + 1 + 1, 3, none⟩ (.int .i64 sm)).heap.size) (by omega) (by first | (simp [World.setCell]; done) | (simp [World.setCell]; omega)) (Nat.le_refl _))
        have HIH := hid (mH.ints.widen (lo' := w.heap.size) (hi' := (((((wr.setCell ⟨w2.heap.size, 1, none⟩ (.slice A9 xs.length C9)).setCell ⟨w.heap.size + 1 + 1, 0, none⟩ (.int .i64 x0)).setCell ⟨w.heap.size + 1 + 1, 1, none⟩ (.slice A9 xs.length C9)).setCell ⟨w.heap.size + 1 + 1, 2, none⟩ (.slice H1 m C2)).setCell ⟨w.heap.size + 1 + 1, 3, none⟩ (.int .i64 sm)).heap.size) (by omega) (by simp [World.setCell]; omega) (Nat.le_refl _))
        clear iV mH mV b9
        have HC9 := hid hc
        have HF9 := hid f
        clear hc f
        go_wp2_with fail
        clear ca8_0 fa8_0 ca8_1 fa8_1 ca8_2 fa8_2 ca8_3 fa8_3 ca9_0 ca9_1 ca9_2 ca9_3 ca10_0 fa10_0 ca10_1 fa10_1 ca10_2 fa10_2 ca10_3 fa10_3
        have ca0_0 := (b8.2 0 _ rfl).1
        have ca0_1 := (b8.2 1 _ rfl).1
        have ca0_2 := (b8.2 2 _ rfl).1
        have ca0_3 := (b8.2 3 _ rfl).1
        try simp only [Exit.inBlock, Exit.then]
        exact bodyPost_ret (v := .agg #[.int .i64 x0, .slice A9 xs.length C9, .slice H1 m C2, .int .i64 sm]) (by simp [results, Tryz.results57, go_sem, ca0_0, ca0_1, ca0_2, ca0_3]) rfl ⟨_, _, _, _, _, _, _, _, _, _, rfl, HIV.out, HIH.out, HC9.out.mono (by omega), HF9.out⟩
      have hn9 : (n : Int) > 0 := by omega
      by_cases hsm : sm = -1
      rotate_left
      · have hs9 : (sm == -1) = false := by rw [beq_eq_false_iff_ne]; exact hsm
        have ca8_0 := (b9.2 0 _ rfl).1
        have fa8_0 := (b9.2 0 _ rfl).2
        have ca8_1 := (b9.2 1 _ rfl).1
        have fa8_1 := (b9.2 1 _ rfl).2
        have ca8_2 := (b9.2 2 _ rfl).1
        have fa8_2 := (b9.2 2 _ rfl).2
        have ca8_3 := (b9.2 3 _ rfl).1
        have fa8_3 := (b9.2 3 _ rfl).2
        replace f := f.setNew (p := ⟨w2.heap.size, 1, none⟩) (by show _ ≤ w2.heap.size; omega) (.slice A9 xs.length C9)
        replace hc := hc.fr (fr_one (p := w2.heap.size) (i := 1) (.slice A9 xs.length C9)) (by omega)
        replace b8 := b8.far (p := ⟨w2.heap.size, 1, none⟩) (by show _ ≠ w2.heap.size; omega) (.slice A9 xs.length C9)
        replace iV := iV.fr (fr_one (p := w2.heap.size) (i := 1) (.slice A9 xs.length C9)) (by omega)
        replace mV := mV.fr (fr_one (p := w2.heap.size) (i := 1) (.slice A9 xs.length C9)) (by omega)
        replace mH := mH.fr (fr_one (p := w2.heap.size) (i := 1) (.slice A9 xs.length C9)) (by omega)
        replace b9 : Bl (wr.setCell ⟨w2.heap.size, 1, none⟩ (.slice A9 xs.length C9)) w2.heap.size [.int .i64 x0, .slice A9 xs.length C9, .slice H1 m C2, .int .i64 sm] := b9.set 1 (.slice A9 xs.length C9)
        have ca9_0 := (b9.2 0 _ rfl).1
        have ca9_1 := (b9.2 1 _ rfl).1
        have ca9_2 := (b9.2 2 _ rfl).1
        have ca9_3 := (b9.2 3 _ rfl).1
        have ca10_0 := (b8.2 0 _ rfl).1
        have fa10_0 := (b8.2 0 _ rfl).2
        have ca10_1 := (b8.2 1 _ rfl).1
        have fa10_1 := (b8.2 1 _ rfl).2
        have ca10_2 := (b8.2 2 _ rfl).1
        have fa10_2 := (b8.2 2 _ rfl).2
        have ca10_3 := (b8.2 3 _ rfl).1
        have fa10_3 := (b8.2 3 _ rfl).2
        replace f := f.setNew (p := ⟨w.heap.size + 1 + 1, 0, none⟩) (by show _ ≤ (w.heap.size + 1 + 1); omega) (.int .i64 x0)
        replace hc := hc.fr (fr_one (p := (w.heap.size + 1 + 1)) (i := 0) (.int .i64 x0)) (by omega)
        replace b9 := b9.far (p := ⟨w.heap.size + 1 + 1, 0, none⟩) (by show _ ≠ (w.heap.size + 1 + 1); omega) (.int .i64 x0)
        replace iV := iV.fr (fr_one (p := (w.heap.size + 1 + 1)) (i := 0) (.int .i64 x0)) (by omega)
        replace mV := mV.fr (fr_one (p := (w.heap.size + 1 + 1)) (i := 0) (.int .i64 x0)) (by omega)
        replace mH := mH.fr (fr_one (p := (w.heap.size + 1 + 1)) (i := 0) (.int .i64 x0)) (by omega)
        replace b8 : Bl ((wr.setCell ⟨w2.heap.size, 1, none⟩ (.slice A9 xs.length C9)).setCell ⟨w.heap.size + 1 + 1, 0, none⟩ (.int .i64 x0)) (w.heap.size + 1 + 1) [.int .i64 x0, .slice none 0 0, .slice none 0 0, .int .i64 0] := b8.set 0 (.int .i64 x0)
        replace f := f.setNew (p := ⟨w.heap.size + 1 + 1, 1, none⟩) (by show _ ≤ (w.heap.size + 1 + 1); omega) (.slice A9 xs.length C9)
        replace hc := hc.fr (fr_one (p := (w.heap.size + 1 + 1)) (i := 1) (.slice A9 xs.length C9)) (by omega)
        replace b9 := b9.far (p := ⟨w.heap.size + 1 + 1, 1, none⟩) (by show _ ≠ (w.heap.size + 1 + 1); omega) (.slice A9 xs.length C9)
        replace iV := iV.fr (fr_one (p := (w.heap.size + 1 + 1)) (i := 1) (.slice A9 xs.length C9)) (by omega)
        replace mV := mV.fr (fr_one (p := (w.heap.size + 1 + 1)) (i := 1) (.slice A9 xs.length C9)) (by omega)
        replace mH := mH.fr (fr_one (p := (w.heap.size + 1 + 1)) (i := 1) (.slice A9 xs.length C9)) (by omega)
        replace b8 : Bl (((wr.setCell ⟨w2.heap.size, 1, none⟩ (.slice A9 xs.length C9)).setCell ⟨w.heap.size + 1 + 1, 0, none⟩ (.int .i64 x0)).setCell ⟨w.heap.size + 1 + 1, 1, none⟩ (.slice A9 xs.length C9)) (w.heap.size + 1 + 1) [.int .i64 x0, .slice A9 xs.length C9, .slice none 0 0, .int .i64 0] := b8.set 1 (.slice A9 xs.length C9)
        replace f := f.setNew (p := ⟨w.heap.size + 1 + 1, 2, none⟩) (by show _ ≤ (w.heap.size + 1 + 1); omega) (.slice H1 m C2)
        replace hc := hc.fr (fr_one (p := (w.heap.size + 1 + 1)) (i := 2) (.slice H1 m C2)) (by omega)
        replace b9 := b9.far (p := ⟨w.heap.size + 1 + 1, 2, none⟩) (by show _ ≠ (w.heap.size + 1 + 1); omega) (.slice H1 m C2)
        replace iV := iV.fr (fr_one (p := (w.heap.size + 1 + 1)) (i := 2) (.slice H1 m C2)) (by omega)
        replace mV := mV.fr (fr_one (p := (w.heap.size + 1 + 1)) (i := 2) (.slice H1 m C2)) (by omega)
        replace mH := mH.fr (fr_one (p := (w.heap.size + 1 + 1)) (i := 2) (.slice H1 m C2)) (by omega)
        replace b8 : Bl ((((wr.setCell ⟨w2.heap.size, 1, none⟩ (.slice A9 xs.length C9)).setCell ⟨w.heap.size + 1 + 1, 0, none⟩ (.int .i64 x0)).setCell ⟨w.heap.size + 1 + 1, 1, none⟩ (.slice A9 xs.length C9)).setCell ⟨w.heap.size + 1 + 1, 2, none⟩ (.slice H1 m C2)) (w.heap.size + 1 + 1) [.int .i64 x0, .slice A9 xs.length C9, .slice H1 m C2, .int .i64 0] := b8.set 2 (.slice H1 m C2)
        replace f := f.setNew (p := ⟨w.heap.size + 1 + 1, 3, none⟩) (by show _ ≤ (w.heap.size + 1 + 1); omega) (.int .i64 sm)
        replace hc := hc.fr (fr_one (p := (w.heap.size + 1 + 1)) (i := 3) (.int .i64 sm)) (by omega)
        replace b9 := b9.far (p := ⟨w.heap.size + 1 + 1, 3, none⟩) (by show _ ≠ (w.heap.size + 1 + 1); omega) (.int .i64 sm)
        replace iV := iV.fr (fr_one (p := (w.heap.size + 1 + 1)) (i := 3) (.int .i64 sm)) (by omega)
        replace mV := mV.fr (fr_one (p := (w.heap.size + 1 + 1)) (i := 3) (.int .i64 sm)) (by omega)
        replace mH := mH.fr (fr_one (p := (w.heap.size + 1 + 1)) (i := 3) (.int .i64 sm)) (by omega)
        replace b8 : Bl (((((wr.setCell ⟨w2.heap.size, 1, none⟩ (.slice A9 xs.length C9)).setCell ⟨w.heap.size + 1 + 1, 0, none⟩ (.int .i64 x0)).setCell ⟨w.heap.size + 1 + 1, 1, none⟩ (.slice A9 xs.length C9)).setCell ⟨w.heap.size + 1 + 1, 2, none⟩ (.slice H1 m C2)).setCell ⟨w.heap.size + 1 + 1, 3, none⟩ (.int .i64 sm)) (w.heap.size + 1 + 1) [.int .i64 x0, .slice A9 xs.length C9, .slice H1 m C2, .int .i64 sm] := b8.set 3 (.int .i64 sm)
        have HIV := hid (iV.widen (lo' := w.heap.size) (hi' := (((((wr.setCell ⟨w2.heap.size, 1, none⟩ (.slice A9 xs.length C9)).setCell ⟨w.heap.size + 1 + 1, 0, none⟩ (.int .i64 x0)).setCell ⟨w.heap.size + 1 + 1, 1, none⟩ (.slice A9 xs.length C9)).setCell ⟨w.heap.size + 1 + 1, 2, none⟩ (.slice H1 m C2)).setCell ⟨w.heap.size + 1 + 1, 3, none⟩ (.int .i64 sm)).heap.size) (by omega) (by first | (simp [World.setCell]; done) | (simp [World.setCell]; omega)) (Nat.le_refl _))
        have HIH := hid (mH.ints.widen (lo' := w.heap.size) (hi' := (((((wr.setCell ⟨w2.heap.size, 1, none⟩ (.slice A9 xs.length C9)).setCell ⟨w.heap.size + 1 + 1, 0, none⟩ (.int .i64 x0)).setCell ⟨w.heap.size + 1 + 1, 1, none⟩ (.slice A9 xs.length C9)).setCell ⟨w.heap.size + 1 + 1, 2, none⟩ (.slice H1 m C2)).setCell ⟨w.heap.size + 1 + 1, 3, none⟩ (.int .i64 sm)).heap.size) (by omega) (by simp [World.setCell]; omega) (Nat.le_refl _))
        clear iV mH mV b9
        have HC9 := hid hc
        have HF9 := hid f
        clear hc f
        go_wp2_with fail
        clear ca8_0 fa8_0 ca8_1 fa8_1 ca8_2 fa8_2 ca8_3 fa8_3 ca9_0 ca9_1 ca9_2 ca9_3 ca10_0 fa10_0 ca10_1 fa10_1 ca10_2 fa10_2 ca10_3 fa10_3
        have ca0_0 := (b8.2 0 _ rfl).1
        have ca0_1 := (b8.2 1 _ rfl).1
        have ca0_2 := (b8.2 2 _ rfl).1
        have ca0_3 := (b8.2 3 _ rfl).1
        try simp only [Exit.inBlock, Exit.then]
        exact bodyPost_ret (v := .agg #[.int .i64 x0, .slice A9 xs.length C9, .slice H1 m C2, .int .i64 sm]) (by simp [results, Tryz.results57, go_sem, ca0_0, ca0_1, ca0_2, ca0_3]) rfl ⟨_, _, _, _, _, _, _, _, _, _, rfl, HIV.out, HIH.out, HC9.out.mono (by omega), HF9.out⟩
      subst hsm
      have ca8_0 := (b9.2 0 _ rfl).1
      have fa8_0 := (b9.2 0 _ rfl).2
      have ca8_1 := (b9.2 1 _ rfl).1
      have fa8_1 := (b9.2 1 _ rfl).2
      have ca8_2 := (b9.2 2 _ rfl).1
      have fa8_2 := (b9.2 2 _ rfl).2
      have ca8_3 := (b9.2 3 _ rfl).1
      have fa8_3 := (b9.2 3 _ rfl).2
      go_wp2_with fail
      clear ca8_0 fa8_0 ca8_1 fa8_1 ca8_2 fa8_2 ca8_3 fa8_3
      refine (one_any hc (by omega) (by omega)).mono ?_
      rintro e w9 ⟨p3, rfl, hn, ff⟩
      replace f := f.trans ff
      clear hc
      have hc := hn
      replace b8 := b8.fr ff (by first | omega | (simp; omega))
      replace b9 := b9.fr ff (by first | omega | (simp; omega))
      replace iV := iV.fr ff (by first | omega | (simp; omega))
      replace mV := mV.fr ff (by first | omega | (simp; omega))
      replace mH := mH.fr ff (by first | omega | (simp; omega))
      have sf9 := ff.size
      try simp at sf9
      clear ff hn
      have sz9 := f.size
      have lt9 := b9.lt
      cases p3
      · have ca10_0 := (b9.2 0 _ rfl).1
        have fa10_0 := (b9.2 0 _ rfl).2
        have ca10_1 := (b9.2 1 _ rfl).1
        have fa10_1 := (b9.2 1 _ rfl).2
        have ca10_2 := (b9.2 2 _ rfl).1
        have fa10_2 := (b9.2 2 _ rfl).2
        have ca10_3 := (b9.2 3 _ rfl).1
        have fa10_3 := (b9.2 3 _ rfl).2
        replace f := f.setNew (p := ⟨w2.heap.size, 1, none⟩) (by show _ ≤ w2.heap.size; omega) (.slice A9 xs.length C9)
        replace hc := hc.fr (fr_one (p := w2.heap.size) (i := 1) (.slice A9 xs.length C9)) (by omega)
        replace b8 := b8.far (p := ⟨w2.heap.size, 1, none⟩) (by show _ ≠ w2.heap.size; omega) (.slice A9 xs.length C9)
        replace iV := iV.fr (fr_one (p := w2.heap.size) (i := 1) (.slice A9 xs.length C9)) (by omega)
        replace mV := mV.fr (fr_one (p := w2.heap.size) (i := 1) (.slice A9 xs.length C9)) (by omega)
        replace mH := mH.fr (fr_one (p := w2.heap.size) (i := 1) (.slice A9 xs.length C9)) (by omega)
        replace b9 : Bl (w9.setCell ⟨w2.heap.size, 1, none⟩ (.slice A9 xs.length C9)) w2.heap.size [.int .i64 x0, .slice A9 xs.length C9, .slice H1 m C2, .int .i64 (-1)] := b9.set 1 (.slice A9 xs.length C9)
        have ca11_0 := (b9.2 0 _ rfl).1
        have ca11_1 := (b9.2 1 _ rfl).1
        have ca11_2 := (b9.2 2 _ rfl).1
        have ca11_3 := (b9.2 3 _ rfl).1
        have ca12_0 := (b8.2 0 _ rfl).1
        have fa12_0 := (b8.2 0 _ rfl).2
        have ca12_1 := (b8.2 1 _ rfl).1
        have fa12_1 := (b8.2 1 _ rfl).2
        have ca12_2 := (b8.2 2 _ rfl).1
        have fa12_2 := (b8.2 2 _ rfl).2
        have ca12_3 := (b8.2 3 _ rfl).1
        have fa12_3 := (b8.2 3 _ rfl).2
        replace f := f.setNew (p := ⟨w.heap.size + 1 + 1, 0, none⟩) (by show _ ≤ (w.heap.size + 1 + 1); omega) (.int .i64 x0)
        replace hc := hc.fr (fr_one (p := (w.heap.size + 1 + 1)) (i := 0) (.int .i64 x0)) (by omega)
        replace b9 := b9.far (p := ⟨w.heap.size + 1 + 1, 0, none⟩) (by show _ ≠ (w.heap.size + 1 + 1); omega) (.int .i64 x0)
        replace iV := iV.fr (fr_one (p := (w.heap.size + 1 + 1)) (i := 0) (.int .i64 x0)) (by omega)
        replace mV := mV.fr (fr_one (p := (w.heap.size + 1 + 1)) (i := 0) (.int .i64 x0)) (by omega)
        replace mH := mH.fr (fr_one (p := (w.heap.size + 1 + 1)) (i := 0) (.int .i64 x0)) (by omega)
        replace b8 : Bl ((w9.setCell ⟨w2.heap.size, 1, none⟩ (.slice A9 xs.length C9)).setCell ⟨w.heap.size + 1 + 1, 0, none⟩ (.int .i64 x0)) (w.heap.size + 1 + 1) [.int .i64 x0, .slice none 0 0, .slice none 0 0, .int .i64 0] := b8.set 0 (.int .i64 x0)
        replace f := f.setNew (p := ⟨w.heap.size + 1 + 1, 1, none⟩) (by show _ ≤ (w.heap.size + 1 + 1); omega) (.slice A9 xs.length C9)
        replace hc := hc.fr (fr_one (p := (w.heap.size + 1 + 1)) (i := 1) (.slice A9 xs.length C9)) (by omega)
        replace b9 := b9.far (p := ⟨w.heap.size + 1 + 1, 1, none⟩) (by show _ ≠ (w.heap.size + 1 + 1); omega) (.slice A9 xs.length C9)
        replace iV := iV.fr (fr_one (p := (w.heap.size + 1 + 1)) (i := 1) (.slice A9 xs.length C9)) (by omega)
        replace mV := mV.fr (fr_one (p := (w.heap.size + 1 + 1)) (i := 1) (.slice A9 xs.length C9)) (by omega)
        replace mH := mH.fr (fr_one (p := (w.heap.size + 1 + 1)) (i := 1) (.slice A9 xs.length C9)) (by omega)
        replace b8 : Bl (((w9.setCell ⟨w2.heap.size, 1, none⟩ (.slice A9 xs.length C9)).setCell ⟨w.heap.size + 1 + 1, 0, none⟩ (.int .i64 x0)).setCell ⟨w.heap.size + 1 + 1, 1, none⟩ (.slice A9 xs.length C9)) (w.heap.size + 1 + 1) [.int .i64 x0, .slice A9 xs.length C9, .slice none 0 0, .int .i64 0] := b8.set 1 (.slice A9 xs.length C9)
        replace f := f.setNew (p := ⟨w.heap.size + 1 + 1, 2, none⟩) (by show _ ≤ (w.heap.size + 1 + 1); omega) (.slice H1 m C2)
        replace hc := hc.fr (fr_one (p := (w.heap.size + 1 + 1)) (i := 2) (.slice H1 m C2)) (by omega)
        replace b9 := b9.far (p := ⟨w.heap.size + 1 + 1, 2, none⟩) (by show _ ≠ (w.heap.size + 1 + 1); omega) (.slice H1 m C2)
        replace iV := iV.fr (fr_one (p := (w.heap.size + 1 + 1)) (i := 2) (.slice H1 m C2)) (by omega)
        replace mV := mV.fr (fr_one (p := (w.heap.size + 1 + 1)) (i := 2) (.slice H1 m C2)) (by omega)
        replace mH := mH.fr (fr_one (p := (w.heap.size + 1 + 1)) (i := 2) (.slice H1 m C2)) (by omega)
        replace b8 : Bl ((((w9.setCell ⟨w2.heap.size, 1, none⟩ (.slice A9 xs.length C9)).setCell ⟨w.heap.size + 1 + 1, 0, none⟩ (.int .i64 x0)).setCell ⟨w.heap.size + 1 + 1, 1, none⟩ (.slice A9 xs.length C9)).setCell ⟨w.heap.size + 1 + 1, 2, none⟩ (.slice H1 m C2)) (w.heap.size + 1 + 1) [.int .i64 x0, .slice A9 xs.length C9, .slice H1 m C2, .int .i64 0] := b8.set 2 (.slice H1 m C2)
        replace f := f.setNew (p := ⟨w.heap.size + 1 + 1, 3, none⟩) (by show _ ≤ (w.heap.size + 1 + 1); omega) (.int .i64 (-1))
        replace hc := hc.fr (fr_one (p := (w.heap.size + 1 + 1)) (i := 3) (.int .i64 (-1))) (by omega)
        replace b9 := b9.far (p := ⟨w.heap.size + 1 + 1, 3, none⟩) (by show _ ≠ (w.heap.size + 1 + 1); omega) (.int .i64 (-1))
        replace iV := iV.fr (fr_one (p := (w.heap.size + 1 + 1)) (i := 3) (.int .i64 (-1))) (by omega)
        replace mV := mV.fr (fr_one (p := (w.heap.size + 1 + 1)) (i := 3) (.int .i64 (-1))) (by omega)
        replace mH := mH.fr (fr_one (p := (w.heap.size + 1 + 1)) (i := 3) (.int .i64 (-1))) (by omega)
        replace b8 : Bl (((((w9.setCell ⟨w2.heap.size, 1, none⟩ (.slice A9 xs.length C9)).setCell ⟨w.heap.size + 1 + 1, 0, none⟩ (.int .i64 x0)).setCell ⟨w.heap.size + 1 + 1, 1, none⟩ (.slice A9 xs.length C9)).setCell ⟨w.heap.size + 1 + 1, 2, none⟩ (.slice H1 m C2)).setCell ⟨w.heap.size + 1 + 1, 3, none⟩ (.int .i64 (-1))) (w.heap.size + 1 + 1) [.int .i64 x0, .slice A9 xs.length C9, .slice H1 m C2, .int .i64 (-1)] := b8.set 3 (.int .i64 (-1))
        have HIV := hid (iV.widen (lo' := w.heap.size) (hi' := (((((w9.setCell ⟨w2.heap.size, 1, none⟩ (.slice A9 xs.length C9)).setCell ⟨w.heap.size + 1 + 1, 0, none⟩ (.int .i64 x0)).setCell ⟨w.heap.size + 1 + 1, 1, none⟩ (.slice A9 xs.length C9)).setCell ⟨w.heap.size + 1 + 1, 2, none⟩ (.slice H1 m C2)).setCell ⟨w.heap.size + 1 + 1, 3, none⟩ (.int .i64 (-1))).heap.size) (by omega) (by first | (simp [World.setCell]; done) | (simp [World.setCell]; omega)) (Nat.le_refl _))
        have HIH := hid (mH.ints.widen (lo' := w.heap.size) (hi' := (((((w9.setCell ⟨w2.heap.size, 1, none⟩ (.slice A9 xs.length C9)).setCell ⟨w.heap.size + 1 + 1, 0, none⟩ (.int .i64 x0)).setCell ⟨w.heap.size + 1 + 1, 1, none⟩ (.slice A9 xs.length C9)).setCell ⟨w.heap.size + 1 + 1, 2, none⟩ (.slice H1 m C2)).setCell ⟨w.heap.size + 1 + 1, 3, none⟩ (.int .i64 (-1))).heap.size) (by omega) (by simp [World.setCell]; omega) (Nat.le_refl _))
        clear iV mH mV b9
        have HC9 := hid hc
        have HF9 := hid f
        clear hc f
        go_wp2_with fail
        clear ca10_0 fa10_0 ca10_1 fa10_1 ca10_2 fa10_2 ca10_3 fa10_3 ca11_0 ca11_1 ca11_2 ca11_3 ca12_0 fa12_0 ca12_1 fa12_1 ca12_2 fa12_2 ca12_3 fa12_3
        have ca0_0 := (b8.2 0 _ rfl).1
        have ca0_1 := (b8.2 1 _ rfl).1
        have ca0_2 := (b8.2 2 _ rfl).1
        have ca0_3 := (b8.2 3 _ rfl).1
        try simp only [Exit.inBlock, Exit.then]
        exact bodyPost_ret (v := .agg #[.int .i64 x0, .slice A9 xs.length C9, .slice H1 m C2, .int .i64 (-1)]) (by simp [results, Tryz.results57, go_sem, ca0_0, ca0_1, ca0_2, ca0_3]) rfl ⟨_, _, _, _, _, _, _, _, _, _, rfl, HIV.out, HIH.out, HC9.out.mono (by omega), HF9.out⟩
      obtain ⟨bv, ov, z, rfl, hb1, hb2, hcz, hz⟩ := mV.ints.at_ hn0
      clear hz
      rw [Nat.add_zero] at hcz
      have hn8 : (0 : Int) < (n : Int) := by omega
      have ca10_0 := (b9.2 0 _ rfl).1
      have fa10_0 := (b9.2 0 _ rfl).2
      have ca10_1 := (b9.2 1 _ rfl).1
      have fa10_1 := (b9.2 1 _ rfl).2
      have ca10_2 := (b9.2 2 _ rfl).1
      have fa10_2 := (b9.2 2 _ rfl).2
      have ca10_3 := (b9.2 3 _ rfl).1
      have fa10_3 := (b9.2 3 _ rfl).2
      replace f := f.setNew (p := ⟨w2.heap.size, 3, none⟩) (by show _ ≤ w2.heap.size; omega) (.int .i64 z)
      replace hc := hc.fr (fr_one (p := w2.heap.size) (i := 3) (.int .i64 z)) (by omega)
      replace b8 := b8.far (p := ⟨w2.heap.size, 3, none⟩) (by show _ ≠ w2.heap.size; omega) (.int .i64 z)
      replace iV := iV.fr (fr_one (p := w2.heap.size) (i := 3) (.int .i64 z)) (by omega)
      replace mV := mV.fr (fr_one (p := w2.heap.size) (i := 3) (.int .i64 z)) (by omega)
      replace mH := mH.fr (fr_one (p := w2.heap.size) (i := 3) (.int .i64 z)) (by omega)
      replace b9 : Bl (w9.setCell ⟨w2.heap.size, 3, none⟩ (.int .i64 z)) w2.heap.size [.int .i64 x0, .slice (some ⟨bv, ov, none⟩) n C1, .slice H1 m C2, .int .i64 z] := b9.set 3 (.int .i64 z)
      have ca11_0 := (b9.2 0 _ rfl).1
      have fa11_0 := (b9.2 0 _ rfl).2
      have ca11_1 := (b9.2 1 _ rfl).1
      have fa11_1 := (b9.2 1 _ rfl).2
      have ca11_2 := (b9.2 2 _ rfl).1
      have fa11_2 := (b9.2 2 _ rfl).2
      have ca11_3 := (b9.2 3 _ rfl).1
      have fa11_3 := (b9.2 3 _ rfl).2
      replace f := f.setNew (p := ⟨w2.heap.size, 1, none⟩) (by show _ ≤ w2.heap.size; omega) (.slice A9 xs.length C9)
      replace hc := hc.fr (fr_one (p := w2.heap.size) (i := 1) (.slice A9 xs.length C9)) (by omega)
      replace b8 := b8.far (p := ⟨w2.heap.size, 1, none⟩) (by show _ ≠ w2.heap.size; omega) (.slice A9 xs.length C9)
      replace iV := iV.fr (fr_one (p := w2.heap.size) (i := 1) (.slice A9 xs.length C9)) (by omega)
      replace mV := mV.fr (fr_one (p := w2.heap.size) (i := 1) (.slice A9 xs.length C9)) (by omega)
      replace mH := mH.fr (fr_one (p := w2.heap.size) (i := 1) (.slice A9 xs.length C9)) (by omega)
      replace b9 : Bl ((w9.setCell ⟨w2.heap.size, 3, none⟩ (.int .i64 z)).setCell ⟨w2.heap.size, 1, none⟩ (.slice A9 xs.length C9)) w2.heap.size [.int .i64 x0, .slice A9 xs.length C9, .slice H1 m C2, .int .i64 z] := b9.set 1 (.slice A9 xs.length C9)
      have ca12_0 := (b9.2 0 _ rfl).1
      have ca12_1 := (b9.2 1 _ rfl).1
      have ca12_2 := (b9.2 2 _ rfl).1
      have ca12_3 := (b9.2 3 _ rfl).1
      have ca13_0 := (b8.2 0 _ rfl).1
      have fa13_0 := (b8.2 0 _ rfl).2
      have ca13_1 := (b8.2 1 _ rfl).1
      have fa13_1 := (b8.2 1 _ rfl).2
      have ca13_2 := (b8.2 2 _ rfl).1
      have fa13_2 := (b8.2 2 _ rfl).2
      have ca13_3 := (b8.2 3 _ rfl).1
      have fa13_3 := (b8.2 3 _ rfl).2
      replace f := f.setNew (p := ⟨w.heap.size + 1 + 1, 0, none⟩) (by show _ ≤ (w.heap.size + 1 + 1); omega) (.int .i64 x0)
      replace hc := hc.fr (fr_one (p := (w.heap.size + 1 + 1)) (i := 0) (.int .i64 x0)) (by omega)
      replace b9 := b9.far (p := ⟨w.heap.size + 1 + 1, 0, none⟩) (by show _ ≠ (w.heap.size + 1 + 1); omega) (.int .i64 x0)
      replace iV := iV.fr (fr_one (p := (w.heap.size + 1 + 1)) (i := 0) (.int .i64 x0)) (by omega)
      replace mV := mV.fr (fr_one (p := (w.heap.size + 1 + 1)) (i := 0) (.int .i64 x0)) (by omega)
      replace mH := mH.fr (fr_one (p := (w.heap.size + 1 + 1)) (i := 0) (.int .i64 x0)) (by omega)
      replace b8 : Bl (((w9.setCell ⟨w2.heap.size, 3, none⟩ (.int .i64 z)).setCell ⟨w2.heap.size, 1, none⟩ (.slice A9 xs.length C9)).setCell ⟨w.heap.size + 1 + 1, 0, none⟩ (.int .i64 x0)) (w.heap.size + 1 + 1) [.int .i64 x0, .slice none 0 0, .slice none 0 0, .int .i64 0] := b8.set 0 (.int .i64 x0)
      replace f := f.setNew (p := ⟨w.heap.size + 1 + 1, 1, none⟩) (by show _ ≤ (w.heap.size + 1 + 1); omega) (.slice A9 xs.length C9)
      replace hc := hc.fr (fr_one (p := (w.heap.size + 1 + 1)) (i := 1) (.slice A9 xs.length C9)) (by omega)
      replace b9 := b9.far (p := ⟨w.heap.size + 1 + 1, 1, none⟩) (by show _ ≠ (w.heap.size + 1 + 1); omega) (.slice A9 xs.length C9)
      replace iV := iV.fr (fr_one (p := (w.heap.size + 1 + 1)) (i := 1) (.slice A9 xs.length C9)) (by omega)
      replace mV := mV.fr (fr_one (p := (w.heap.size + 1 + 1)) (i := 1) (.slice A9 xs.length C9)) (by omega)
      replace mH := mH.fr (fr_one (p := (w.heap.size + 1 + 1)) (i := 1) (.slice A9 xs.length C9)) (by omega)
      replace b8 : Bl ((((w9.setCell ⟨w2.heap.size, 3, none⟩ (.int .i64 z)).setCell ⟨w2.heap.size, 1, none⟩ (.slice A9 xs.length C9)).setCell ⟨w.heap.size + 1 + 1, 0, none⟩ (.int .i64 x0)).setCell ⟨w.heap.size + 1 + 1, 1, none⟩ (.slice A9 xs.length C9)) (w.heap.size + 1 + 1) [.int .i64 x0, .slice A9 xs.length C9, .slice none 0 0, .int .i64 0] := b8.set 1 (.slice A9 xs.length C9)
      replace f := f.setNew (p := ⟨w.heap.size + 1 + 1, 2, none⟩) (by show _ ≤ (w.heap.size + 1 + 1); omega) (.slice H1 m C2)
      replace hc := hc.fr (fr_one (p := (w.heap.size + 1 + 1)) (i := 2) (.slice H1 m C2)) (by omega)
      replace b9 := b9.far (p := ⟨w.heap.size + 1 + 1, 2, none⟩) (by show _ ≠ (w.heap.size + 1 + 1); omega) (.slice H1 m C2)
      replace iV := iV.fr (fr_one (p := (w.heap.size + 1 + 1)) (i := 2) (.slice H1 m C2)) (by omega)
      replace mV := mV.fr (fr_one (p := (w.heap.size + 1 + 1)) (i := 2) (.slice H1 m C2)) (by omega)
      replace mH := mH.fr (fr_one (p := (w.heap.size + 1 + 1)) (i := 2) (.slice H1 m C2)) (by omega)
      replace b8 : Bl (((((w9.setCell ⟨w2.heap.size, 3, none⟩ (.int .i64 z)).setCell ⟨w2.heap.size, 1, none⟩ (.slice A9 xs.length C9)).setCell ⟨w.heap.size + 1 + 1, 0, none⟩ (.int .i64 x0)).setCell ⟨w.heap.size + 1 + 1, 1, none⟩ (.slice A9 xs.length C9)).setCell ⟨w.heap.size + 1 + 1, 2, none⟩ (.slice H1 m C2)) (w.heap.size + 1 + 1) [.int .i64 x0, .slice A9 xs.length C9, .slice H1 m C2, .int .i64 0] := b8.set 2 (.slice H1 m C2)
      replace f := f.setNew (p := ⟨w.heap.size + 1 + 1, 3, none⟩) (by show _ ≤ (w.heap.size + 1 + 1); omega) (.int .i64 z)
      replace hc := hc.fr (fr_one (p := (w.heap.size + 1 + 1)) (i := 3) (.int .i64 z)) (by omega)
      replace b9 := b9.far (p := ⟨w.heap.size + 1 + 1, 3, none⟩) (by show _ ≠ (w.heap.size + 1 + 1); omega) (.int .i64 z)
      replace iV := iV.fr (fr_one (p := (w.heap.size + 1 + 1)) (i := 3) (.int .i64 z)) (by omega)
      replace mV := mV.fr (fr_one (p := (w.heap.size + 1 + 1)) (i := 3) (.int .i64 z)) (by omega)
      replace mH := mH.fr (fr_one (p := (w.heap.size + 1 + 1)) (i := 3) (.int .i64 z)) (by omega)
      replace b8 : Bl ((((((w9.setCell ⟨w2.heap.size, 3, none⟩ (.int .i64 z)).setCell ⟨w2.heap.size, 1, none⟩ (.slice A9 xs.length C9)).setCell ⟨w.heap.size + 1 + 1, 0, none⟩ (.int .i64 x0)).setCell ⟨w.heap.size + 1 + 1, 1, none⟩ (.slice A9 xs.length C9)).setCell ⟨w.heap.size + 1 + 1, 2, none⟩ (.slice H1 m C2)).setCell ⟨w.heap.size + 1 + 1, 3, none⟩ (.int .i64 z)) (w.heap.size + 1 + 1) [.int .i64 x0, .slice A9 xs.length C9, .slice H1 m C2, .int .i64 z] := b8.set 3 (.int .i64 z)
      have HIV := hid (iV.widen (lo' := w.heap.size) (hi' := ((((((w9.setCell ⟨w2.heap.size, 3, none⟩ (.int .i64 z)).setCell ⟨w2.heap.size, 1, none⟩ (.slice A9 xs.length C9)).setCell ⟨w.heap.size + 1 + 1, 0, none⟩ (.int .i64 x0)).setCell ⟨w.heap.size + 1 + 1, 1, none⟩ (.slice A9 xs.length C9)).setCell ⟨w.heap.size + 1 + 1, 2, none⟩ (.slice H1 m C2)).setCell ⟨w.heap.size + 1 + 1, 3, none⟩ (.int .i64 z)).heap.size) (by omega) (by first | (simp [World.setCell]; done) | (simp [World.setCell]; omega)) (Nat.le_refl _))
      have HIH := hid (mH.ints.widen (lo' := w.heap.size) (hi' := ((((((w9.setCell ⟨w2.heap.size, 3, none⟩ (.int .i64 z)).setCell ⟨w2.heap.size, 1, none⟩ (.slice A9 xs.length C9)).setCell ⟨w.heap.size + 1 + 1, 0, none⟩ (.int .i64 x0)).setCell ⟨w.heap.size + 1 + 1, 1, none⟩ (.slice A9 xs.length C9)).setCell ⟨w.heap.size + 1 + 1, 2, none⟩ (.slice H1 m C2)).setCell ⟨w.heap.size + 1 + 1, 3, none⟩ (.int .i64 z)).heap.size) (by omega) (by simp [World.setCell]; omega) (Nat.le_refl _))
      clear iV mH mV b9
      have HC9 := hid hc
      have HF9 := hid f
      clear hc f
      go_wp2_with fail
      clear ca10_0 fa10_0 ca10_1 fa10_1 ca10_2 fa10_2 ca10_3 fa10_3 ca11_0 fa11_0 ca11_1 fa11_1 ca11_2 fa11_2 ca11_3 fa11_3 ca12_0 ca12_1 ca12_2 ca12_3 ca13_0 fa13_0 ca13_1 fa13_1 ca13_2 fa13_2 ca13_3 fa13_3
      have ca0_0 := (b8.2 0 _ rfl).1
      have ca0_1 := (b8.2 1 _ rfl).1
      have ca0_2 := (b8.2 2 _ rfl).1
      have ca0_3 := (b8.2 3 _ rfl).1
      try simp only [Exit.inBlock, Exit.then]
      exact bodyPost_ret (v := .agg #[.int .i64 x0, .slice A9 xs.length C9, .slice H1 m C2, .int .i64 z]) (by simp [results, Tryz.results57, go_sem, ca0_0, ca0_1, ca0_2, ca0_3]) rfl ⟨_, _, _, _, _, _, _, _, _, _, rfl, HIV.out, HIH.out, HC9.out.mono (by omega), HF9.out⟩
    obtain ⟨bv, ov, z, rfl, hb1, hb2, hcz, hz⟩ := mV.ints.at_ hlt
    clear hz
    have hi1 : (k : Int) < (n : Int) := by omega
    go_wp2_with fail
    clear hcz
    refine (one_any hc (by omega) (by omega)).mono ?_
    rintro e w8 ⟨p1, rfl, hn, ff⟩
    replace f := f.trans ff
    clear hc
    have hc := hn
    replace b8 := b8.fr ff (by first | omega | (simp; omega))
    replace b9 := b9.fr ff (by first | omega | (simp; omega))
    replace mV := mV.fr ff (by first | omega | (simp; omega))
    replace mH := mH.fr ff (by first | omega | (simp; omega))
    replace hown := hown.fr ff (by first | omega | (simp; omega))
    have sf8 := ff.size
    try simp at sf8
    clear ff hn
    have sz8 := f.size
    have lt8 := b9.lt
    cases p1
    · go_wp2_with (at_builtin; refine append_int (xs := xs) hown (by omega) (by omega) _ _ rfl rfl rfl (by first | rfl | (simp <;> rfl)) ?_; intro v' w' hown' hb')
      have KB := hid hb'
      have H1_ := hid hown'
      rw [show xs.length + 1 = (xs ++ [z]).length by simp] at H1_
      have FB := hid (fr_belowB hb')
      have FW := hid (f.below hb' (by omega))
      have CW := hid (hc.below hb' (by omega))
      have MV := hid (mV.fr FB.out (by omega))
      have MH := hid (mH.fr FB.out (by omega))
      have B8 := hid (b8.fr FB.out (by omega))
      have B9 := hid (b9.fr FB.out (by omega))
      have S9 := KB.out.size
      have HL := hid (show (xs ++ [z]).length ≤ k + 1 by simp; omega)
      clear hown hown' hb' f hc mV mH b8 b9 FB KB
      go_wp2
      go_roundw
      case rel => exact ⟨k + 1, xs ++ [z], ys, by go_num, hlt, HL.out, H1_.out, MV.out, MH.out, B8.out, B9.out, CW.out.mono (by omega), FW.out, by omega⟩
      case measure => simp [intOf]; omega
    go_wp2_with fail
    refine (one_any hc (by omega) (by omega)).mono ?_
    rintro e w9 ⟨p2, rfl, hn, ff⟩
    replace f := f.trans ff
    clear hc
    have hc := hn
    replace b8 := b8.fr ff (by first | omega | (simp; omega))
    replace b9 := b9.fr ff (by first | omega | (simp; omega))
    replace mV := mV.fr ff (by first | omega | (simp; omega))
    replace mH := mH.fr ff (by first | omega | (simp; omega))
    replace hown := hown.fr ff (by first | omega | (simp; omega))
    have sf9 := ff.size
    try simp at sf9
    clear ff hn
    have sz9 := f.size
    have lt9 := b9.lt
    cases p2
    · have H1_ := hid hown
      have FW := hid f
      have CW := hid hc
      have MV := hid mV
      have MH := hid mH
      have B8 := hid b8
      have B9 := hid b9
      clear hown f hc mV mH b8 b9
      go_wp2_with fail
      go_roundw
      case rel => exact ⟨k + 1, xs, ys, by go_num, hlt, by omega, H1_.out, MV.out, MH.out, B8.out, B9.out, CW.out.mono (by omega), FW.out, by omega⟩
      case measure => simp [intOf]; omega
    have ca10_0 := (b9.2 0 _ rfl).1
    have ca10_1 := (b9.2 1 _ rfl).1
    have ca10_2 := (b9.2 2 _ rfl).1
    have ca10_3 := (b9.2 3 _ rfl).1
    go_wp2_with fail
    refine (l1In_any z 0 ((m : Int) - 1) _).mono ?_
    rintro e w' ⟨rfl, e9⟩
    subst e9
    obtain ⟨p4, HP4⟩ : ∃ p, Hid (inB z 0 ((m : Int) - 1) = p) := ⟨_, rfl⟩
    rw [HP4.out]
    cases p4
    clear ca10_0 ca10_1 ca10_2 ca10_3
    · have H1_ := hid hown
      have FW := hid f
      have CW := hid hc
      have MV := hid mV
      have MH := hid mH
      have B8 := hid b8
      have B9 := hid b9
      clear hown f hc mV mH b8 b9
      go_wp2_with fail
      go_roundw
      case rel => exact ⟨k + 1, xs, ys, by go_num, hlt, by omega, H1_.out, MV.out, MH.out, B8.out, B9.out, CW.out.mono (by omega), FW.out, by omega⟩
      case measure => simp [intOf]; omega
    go_wp2_with fail
    refine (l1In_any z 0 ((q : Int) - 1) _).mono ?_
    rintro e w' ⟨rfl, e9⟩
    subst e9
    obtain ⟨p5, HP5⟩ : ∃ p, Hid (inB z 0 ((q : Int) - 1) = p) := ⟨_, rfl⟩
    rw [HP5.out]
    cases p5
    · have H1_ := hid hown
      have FW := hid f
      have CW := hid hc
      have MV := hid mV
      have MH := hid mH
      have B8 := hid b8
      have B9 := hid b9
      clear hown f hc mV mH b8 b9
      go_wp2_with fail
      go_roundw
      case rel => exact ⟨k + 1, xs, ys, by go_num, hlt, by omega, H1_.out, MV.out, MH.out, B8.out, B9.out, CW.out.mono (by omega), FW.out, by omega⟩
      case measure => simp [intOf]; omega
    have i4 := inB_true.1 HP4.out
    have i5 := inB_true.1 HP5.out
    obtain ⟨j, rfl⟩ : ∃ j : Nat, z = j := ⟨z.toNat, by omega⟩
    clear HP4 HP5
    have hjm : j < m := by omega
    have hjq : j < q := by omega
    clear i4 i5
    have hjm1 : (j : Int) < (m : Int) := by omega
    have hjq1 : (j : Int) < (q : Int) := by omega
    go_wp2_with fail
    obtain ⟨bh, oh, z2, rfl, hh1, hh2, hch, hz2⟩ := mH.ints.at_ hjm
    clear hch hz2 z2
    obtain ⟨bs, os, x8, y8, rfl, hs1, hs2, hcs0, hcs1, hx8⟩ := Vars.at_ hs hjq
    clear hcs0 hcs1 hx8 x8 y8
    obtain ⟨y9, hy9⟩ : ∃ y, (l.getD j v0).2 = y := ⟨_, rfl⟩
    have hyb : 0 ≤ y9 ∧ y9 ≤ 9 := by have := (HD.out.at_ j).2; rw [hy9] at this; exact this
    have hsW := Vars.lvS (hs.fr f (by omega)) hjq
    rw [hy9] at hsW
    have hsD : w9.drew.cell? ⟨bs, os + j * 2 + 1, none⟩ = some (.int .i64 y9) := hsW
    have b9D := b9.keeps (keeps_d0 w9)
    have c9D : w9.drew.cell? ⟨w2.heap.size, 2, none⟩ = some (.slice (some ⟨bh, oh, none⟩) m C2) := (b9D.2 2 _ rfl).1
    have hcD := hc.keeps (keeps_d0 w9)
    have mHD := mH.keeps (keeps_d0 w9)
    have chD := (mHD.cellS hjm).1
    have cfD := (mHD.cellS hjm).2
    have HSV := hid (hs.fr (f.keeps (keeps_d0 w9)) (by omega))
    go_region_law ((first | (refine stp_pick (n := y9) hcD (by omega) (by omega) rfl (by kernel_rfl) ?_; intro x9 wB hx9 hcB fB; have hx8 : 0 ≤ x9 ∧ x9 ≤ 9 := (by omega); have b9B := b9D.fr fB (by omega); have c9B : wB.cell? ⟨w2.heap.size, 2, none⟩ = some (.slice (some ⟨bh, oh, none⟩) m C2) := (b9B.2 2 _ rfl).1; have mHB := mHD.fr fB (by omega); have chB := (mHB.cellS hjm).1; have cfB := (mHB.cellS hjm).2; have hsB := Vars.lvS (Sl.fr HSV.out fB (by omega)) hjq; rw [hy9] at hsB)))
    all_goals (
      have sB : w9.heap.size ≤ wB.heap.size := fB.size
      have HMS := hid (fun u => (mHB.set_ hjm u).1)
      have HFS := hid (fun u => (mHB.set_ hjm u).2)
      have FW := hid (f.keeps (keeps_d0 w9) |>.trans fB)
      have H1_ := hid (Has.fr (Has.fr hown (Fr.of_keeps (keeps_d0 w9) 0 0) (Nat.zero_le _)) fB (by omega))
      have MV := hid ((mV.keeps (keeps_d0 w9)).fr fB (by omega))
      have B8 := hid ((b8.keeps (keeps_d0 w9)).fr fB (by omega))
      have B9 := hid b9B
      have HC := hid hcB
      clear hown f hc mV mH b8 b9 b9D b9B hcD hcB mHD mHB chD cfD chB cfB HSV hsW hsD hsB c9D c9B fB hx9 hyb hy9
      go_wp2_with fail
      go_roundw
      case rel => exact ⟨k + 1, xs, _, by go_num, hlt, by omega, H1_.out.fr (HFS.out _) (by omega), MV.out.fr (HFS.out _) (by omega), HMS.out _, B8.out.fr (HFS.out _) (by omega), B9.out.fr (HFS.out _) (by omega), (HC.out.fr (HFS.out _) (by omega)).mono (by omega), FW.out.setNew (p := ⟨bh, oh + j, none⟩) (by show _ ≤ bh; omega) _, by simp [World.setCell]; omega⟩
      case measure => simp [intOf]; omega)
end Go.Proofs.YtlkjhkkfdmjfcaaGreatDoor
