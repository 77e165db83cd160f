/- What the proof of the statement leans on, part 12: walks of functions and plain lemmas, with no condition. -/
import Derived.Test.YtlkjhkkfdmjfcaaGreatDoorQ0
import Derived.Test.YtlkjhkkfdmjfcaaGreatDoorQ6
import Derived.Test.YtlkjhkkfdmjfcaaGreatDoorQ9
import Derived.Test.YtlkjhkkfdmjfcaaGreatDoorQ10
namespace Go.Proofs.YtlkjhkkfdmjfcaaGreatDoor
open Go.RowKit Go.Sort Go.Deep
set_option linter.unusedVariables false
set_option linter.unusedSimpArgs false
set_option maxRecDepth 100000 in
set_option maxHeartbeats 12800000 in
theorem anySchema_any {g : Nat} {T : Int} {w : World} (h : Cur w g T) (hT : T ≤ 500000000000000) :
    Calls Tryz.prog 112 #[.pointer (some ⟨g, 0, none⟩)] w (DrawsL 2 v0 RwdV 82 (fun l => SchA l ∧ l.length ≤ 7) w g (T + 200)) := by
  have HIV := hid info_var
  have lg := h.lt
  go_enter Tryz.func112, Tryz.ntmps112
  have f : Fr g (g + 1) w w := Fr.refl _ _ _
  have hc := h
  go_wp2_with fail
  refine (schema_any hc (by omega)).mono ?_
  rintro e w1 ⟨A1, n1, c1, cs, L, U, l, rfl, hF, hl, ⟨hA, hl1, hl3⟩, hn, ff⟩
  replace f := f.trans ff
  clear hc
  have hc := hn
  have sf1 := ff.size
  try simp at sf1
  clear ff hn
  have sz1 := f.size
  have hF := hF
  have HA := hid hA
  have HL := hid hl
  clear hA
  rw [hl] at hl1 hl3
  clear hl
  go_wp2_with fail
  refine (pick_any hc (by omega) (by omega)).mono ?_
  rintro e w2 ⟨v, rfl, hv, hn, ff⟩
  replace f := f.trans ff
  clear hc
  have hc := hn
  replace hF := hF.fr RwdV.ok ff (by omega)
  have sf2 := ff.size
  try simp at sf2
  clear ff hn
  have sz2 := f.size
  by_cases h0 : v = 0
  · subst h0
    clear hv
    obtain ⟨b, rfl, hb1, hb2, _, _⟩ := hF.cellV (by rw [HL.out]; omega)
    have Lx : Ints (w2.alloc (.cells #[.int .i64 1, .int .i64 8, .int .i64 9] 3)) w2.heap.size (w2.heap.size + 1) (some ⟨w2.heap.size, 0, none⟩) 3 [1, 8, 9] := lit_ints w2 [1, 8, 9] (by decide)
    replace f := f.keeps (keeps_alloc w2 (.cells #[.int .i64 1, .int .i64 8, .int .i64 9] 3))
    replace hc := hc.keeps (keeps_alloc w2 (.cells #[.int .i64 1, .int .i64 8, .int .i64 9] 3))
    replace hF := hF.keeps RwdV.ok (keeps_alloc w2 (.cells #[.int .i64 1, .int .i64 8, .int .i64 9] 3))
    go_wp2_with fail
    refine (among_any hc (by omega) Lx (by first | omega | (simp; omega)) (by omega) (by omega)).mono ?_
    rintro e w3 ⟨x9, xj, rfl, xh, xe, hn, ff⟩
    replace f := f.trans ff
    clear hc
    have hc := hn
    replace hF := hF.fr RwdV.ok ff (by omega)
    have sf3 := ff.size
    try simp at sf3
    clear ff hn
    have sz3 := f.size
    have hxb : 0 ≤ x9 ∧ x9 ≤ 9 := by rw [xe]; rcases xj with _ | _ | _ | xj <;> first | (simp; done) | (simp at xh; omega)
    clear Lx xe xh
    obtain ⟨b2, eb, hb3, hb4, ⟨k0, k1⟩, ⟨k2, k3⟩⟩ := hF.cellV (by rw [HL.out]; omega)
    injection eb with eb
    injection eb with eb
    subst eb
    have hn1 : 0 < n1 := by omega
    have hF9 := hF.setV (i := 1) (u9 := .int .i64 x9) (a := ((l.getD 0 v0).1, x9)) (by omega) (fun u hu => ⟨hu.1, rfl⟩)
    have HL9 := hid (show (l.set 0 ((l.getD 0 v0).1, x9)).length = n1 by rw [List.length_set, HL.out])
    have HA9 := hid (HA.out.set (k := 0) (HA.out 0).1 hxb)
    have f9 := f.setNew (p := ⟨b, 1, none⟩) (by show _ ≤ b; omega) (.int .i64 x9)
    have hc9 := hc.fr (fr_one (p := b) (i := 1) (.int .i64 x9)) (by omega)
    clear hF hc f
    have hF := hF9
    have hc := hc9
    have f := f9
    clear hF9 hc9 f9
    have HF := hid hF
    have HC := hid hc
    have Hf := hid f
    clear hF hc f
    go_wp2
    go_ret
    exact ⟨_, _, _, _, _, _, l.set 0 ((l.getD 0 v0).1, x9), rfl, HF.out, HL9.out, (show SchA (l.set 0 ((l.getD 0 v0).1, x9)) ∧ (l.set 0 ((l.getD 0 v0).1, x9)).length ≤ 7 from ⟨HA9.out, by rw [HL9.out]; omega⟩), HC.out.mono (by omega), Hf.out⟩
  have t0 : (v == 0) = false := by rw [beq_eq_false_iff_ne]; exact h0
  by_cases h1 : v = 1
  · subst h1
    clear hv t0 h0
    obtain ⟨b, rfl, hb1, hb2, _, _⟩ := hF.cellV (by rw [HL.out]; omega)
    replace f := f.keeps (keeps_alloc w2 (.cells #[.string { data := #[] }, .string { data := #[65, 103, 101] }, .string { data := #[97, 98, 99, 100, 101, 102, 103, 104, 105] }, .string { data := #[97, 103, 101] }, .string { data := #[97, 98, 32, 99, 100] }] 9))
    replace hc := hc.keeps (keeps_alloc w2 (.cells #[.string { data := #[] }, .string { data := #[65, 103, 101] }, .string { data := #[97, 98, 99, 100, 101, 102, 103, 104, 105] }, .string { data := #[97, 103, 101] }, .string { data := #[97, 98, 32, 99, 100] }] 9))
    replace hF := hF.keeps RwdV.ok (keeps_alloc w2 (.cells #[.string { data := #[] }, .string { data := #[65, 103, 101] }, .string { data := #[97, 98, 99, 100, 101, 102, 103, 104, 105] }, .string { data := #[97, 103, 101] }, .string { data := #[97, 98, 32, 99, 100] }] 9))
    have b20 : Bl (w2.alloc (.cells #[.string { data := #[] }, .string { data := #[65, 103, 101] }, .string { data := #[97, 98, 99, 100, 101, 102, 103, 104, 105] }, .string { data := #[97, 103, 101] }, .string { data := #[97, 98, 32, 99, 100] }] 9)) w2.heap.size [.string { data := #[] }, .string { data := #[65, 103, 101] }, .string { data := #[97, 98, 99, 100, 101, 102, 103, 104, 105] }, .string { data := #[97, 103, 101] }, .string { data := #[97, 98, 32, 99, 100] }] := Bl.new' (by simp) (by simp)
    go_wp2_with fail
    have hSt : Strs (w2.alloc (.cells #[.string { data := #[] }, .string { data := #[65, 103, 101] }, .string { data := #[97, 98, 99, 100, 101, 102, 103, 104, 105] }, .string { data := #[97, 103, 101] }, .string { data := #[97, 98, 32, 99, 100] }] 9)) w2.heap.size 5 := ⟨fun j hj => by
      rcases j with _ | _ | _ | _ | _ | j
      · exact ⟨_, (b20.2 0 _ rfl).1, by decide⟩
      · exact ⟨_, (b20.2 1 _ rfl).1, by decide⟩
      · exact ⟨_, (b20.2 2 _ rfl).1, by decide⟩
      · exact ⟨_, (b20.2 3 _ rfl).1, by decide⟩
      · exact ⟨_, (b20.2 4 _ rfl).1, by decide⟩
      · omega⟩
    refine (of_any hc (by omega) hSt (by first | omega | (simp; omega)) (by omega) (by omega)).mono ?_
    rintro e w3 ⟨x9, rfl, hxb, hn, ff⟩
    replace f := f.trans ff
    clear hc
    have hc := hn
    replace hF := hF.fr RwdV.ok ff (by omega)
    replace b20 := b20.fr ff (by first | omega | (simp; omega))
    have sf3 := ff.size
    try simp at sf3
    clear ff hn
    have sz3 := f.size
    have lt3 := b20.lt
    clear hSt b20
    obtain ⟨b2, eb, hb3, hb4, ⟨k0, k1⟩, ⟨k2, k3⟩⟩ := hF.cellV (by rw [HL.out]; omega)
    injection eb with eb
    injection eb with eb
    subst eb
    have hn1 : 0 < n1 := by omega
    have hF9 := hF.setV (i := 0) (u9 := .string x9) (a := (x9, (l.getD 0 v0).2)) (by omega) (fun u hu => ⟨rfl, hu.2⟩)
    have HL9 := hid (show (l.set 0 (x9, (l.getD 0 v0).2)).length = n1 by rw [List.length_set, HL.out])
    have HA9 := hid (HA.out.set (k := 0) hxb (HA.out 0).2)
    have f9 := f.setNew (p := ⟨b, 0, none⟩) (by show _ ≤ b; omega) (.string x9)
    have hc9 := hc.fr (fr_one (p := b) (i := 0) (.string x9)) (by omega)
    clear hF hc f
    have hF := hF9
    have hc := hc9
    have f := f9
    clear hF9 hc9 f9
    have HF := hid hF
    have HC := hid hc
    have Hf := hid f
    clear hF hc f
    go_wp2
    go_ret
    exact ⟨_, _, _, _, _, _, l.set 0 (x9, (l.getD 0 v0).2), rfl, HF.out, HL9.out, (show SchA (l.set 0 (x9, (l.getD 0 v0).2)) ∧ (l.set 0 (x9, (l.getD 0 v0).2)).length ≤ 7 from ⟨HA9.out, by rw [HL9.out]; omega⟩), HC.out.mono (by omega), Hf.out⟩
  have t1 : (v == 1) = false := by rw [beq_eq_false_iff_ne]; exact h1
  by_cases h2 : v = 2
  · subst h2
    clear hv t0 h0 t1 h1 hF
    have hF := GrowR.nil (sz := 2) (z := v0) (R := RwdV) w2 w.heap.size w.heap.size 82 (Nat.le_refl _)
    have HF := hid hF
    have HC := hid hc
    have Hf := hid f
    clear hF hc f
    go_wp2
    go_ret
    exact ⟨_, _, _, _, _, _, [], rfl, HF.out, rfl, (show SchA [] ∧ ([] : List VV).length ≤ 7 from ⟨SchA.nil, by decide⟩), HC.out.mono (by omega), Hf.out⟩
  have t2 : (v == 2) = false := by rw [beq_eq_false_iff_ne]; exact h2
  by_cases h3 : v = 3
  rotate_left
  · have t3 : (v == 3) = false := by rw [beq_eq_false_iff_ne]; exact h3
    have HF := hid hF
    have HC := hid hc
    have Hf := hid f
    clear hF hc f
    go_wp2
    go_ret
    exact ⟨_, _, _, _, _, _, l, rfl, HF.out, HL.out, (show SchA (l) ∧ (l).length ≤ 7 from ⟨HA.out, by rw [HL.out]; omega⟩), HC.out.mono (by omega), Hf.out⟩
  subst h3
  clear hv t0 h0 t1 h1 t2 h2
  have szw := f.size
  go_wp2_with fail
  go_loopw [3] (fun sv wz => ∃ (vq : Value) (cs : List Value) (L U : Nat → Nat) (l : List VV), vq = sv ∧ l.length ≤ 7 ∧ SchA l ∧ GrowR 2 v0 RwdV wz w.heap.size w.heap.size 82 vq cs L U l ∧ Cur wz g (T + 70 + 5 * l.length) ∧ Fr g (g + 1) w wz ∧ w.heap.size ≤ wz.heap.size) (fun sv _ => 8 - lenOf sv)
  case atStart => exact ⟨_, _, _, _, l, rfl, by rw [HL.out]; omega, HA.out, hF, hc.mono (by omega), f, szw⟩
  clear hF hc f HL HA
  case round =>
    obtain ⟨vq, cs, L, U, l, rfl, hm2, hA, hF, hc, f, sz3⟩ := hrel
    obtain ⟨A8, c8, e8⟩ := hF.has.form
    obtain ⟨ln, hkk⟩ : ∃ x, l.length = x := ⟨_, rfl⟩
    rw [hkk] at e8 hm2 hc
    subst e8
    have HL := hid hkk
    have HA := hid hA
    clear hkk hA
    go_wp2_with fail
    refine (pick_any hc (by omega) (by omega)).mono ?_
    rintro e w3 ⟨x7, rfl, hx7, hn, ff⟩
    replace f := f.trans ff
    clear hc
    have hc := hn
    replace hF := hF.fr RwdV.ok ff (by omega)
    have sf3 := ff.size
    try simp at sf3
    clear ff hn
    have sz3 := f.size
    by_cases hcd : (ln : Int) < 6 + x7
    rotate_left
    · have HF := hid hF
      have HC := hid hc
      have Hf := hid f
      clear hF hc f
      go_wp2
      go_ret
      exact ⟨_, _, _, _, _, _, l, rfl, HF.out, HL.out, (show SchA (l) ∧ (l).length ≤ 7 from ⟨HA.out, by rw [HL.out]; omega⟩), HC.out.mono (by omega), Hf.out⟩
    have hcB := hc
    have fB := f
    obtain ⟨sx, hsx⟩ : ∃ x : ByteArray, strOfNums [97 + (ln : Int)] = x := ⟨_, rfl⟩
    have HSZ := hid (show sx.size ≤ 8 by rw [← hsx]; simp [strOfNums, ByteArray.size])
    have hcell9 : ∀ i, i < 1 → (w3.alloc (.cells #[.int .u8 (97 + (ln : Int))] 5)).cell? ⟨w3.heap.size, 0 + i, none⟩ = some (.int .u8 ([97 + (ln : Int)].getD i 0)) := by
      intro i hi
      obtain rfl : i = 0 := by omega
      rw [Nat.zero_add, cell_of_row _ _ _ _ _ _ (heap_alloc_new _ _)]
      rfl
    have HCV := hid (run_convert_bytes_arg (P := Tryz.prog) (w3.alloc (.cells #[.int .u8 (97 + (ln : Int))] 5)) 42 5 Tryz.underlying42 Tryz.underlying5 w3.heap.size 0 1 1 [97 + (ln : Int)] rfl hcell9 9 Tryz.underlying9)
    clear hcell9
    rw [hsx] at HCV
    clear hsx
    have hFZ := hF.keeps RwdV.ok (keeps_alloc w3 (.cells #[.int .u8 (97 + (ln : Int))] 5))
    have fZ := f.keeps (keeps_alloc w3 (.cells #[.int .u8 (97 + (ln : Int))] 5))
    have hcZ := hc.keeps (keeps_alloc w3 (.cells #[.int .u8 (97 + (ln : Int))] 5))
    go_wp2_with fail
    rw [HCV.out]
    obtain ⟨WZ, hWZ⟩ : ∃ x, x = w3.alloc (.cells #[.int .u8 (97 + (ln : Int))] 5) := ⟨_, rfl⟩
    rw [← hWZ] at hFZ fZ hcZ
    rw [← hWZ]
    clear hWZ HCV hF f hc hcB fB
    have szZ := fZ.size
    have hsz := HSZ.out
    have hsz2 : ¬ (9223372036854775807 < sx.size) := by omega
    have hsz3 : ¬ (9223372036854775807 < ({ data := #[120] } : ByteArray).size + sx.size) := by have e1 : ({ data := #[120] } : ByteArray).size = 1 := rfl; omega
    have hsz4 : ¬ (9223372036854775807 < 1 + sx.size) := by omega
    have hsz5 : ({ data := #[120] } : ByteArray).size + sx.size ≤ 9223372036854775807 := by have e1 : ({ data := #[120] } : ByteArray).size = 1 := rfl; omega
    go_wp2_with (at_builtin; refine append_rowR (a0 := ((_ : ByteArray), (2 : Int))) (x := w.heap.size) (y := w.heap.size) (new := [.string _, .int .i64 2]) HIV.out rfl (by decide) (by decide) RwdV.ok hFZ (by rw [HL.out]; omega) (by omega) rfl (fun y hy => by simp at hy; rcases hy with rfl | rfl <;> rfl) (Nat.le_refl _) (by omega) (fun g e => Nat.lt_or_ge _ _) ⟨rfl, rfl⟩ _ _ rfl rfl Tryz.underlying34 rfl rfl ?_; intro v9 w9 cs9 L9 U9 hF9 hg9)
    all_goals (
      have KB := hid (hFZ.below (by omega) hg9)
      have HF9 := hid hF9
      have f9 := hid (fZ.below KB.out (by omega))
      have hc9 := hid (hcZ.below KB.out (by omega))
      have s9 := KB.out.size
      have HS9 : (({ data := #[120] } : ByteArray) ++ sx).size ≤ 9 := by
        have := HSZ.out
        rw [ByteArray.size_append]
        have e1 : ({ data := #[120] } : ByteArray).size = 1 := rfl
        omega
      have HA9 := hid (HA.out.snoc HS9 (y := 2) (by omega))
      have HL9 := hid (show (l ++ [(({ data := #[120] } : ByteArray) ++ sx, (2 : Int))]).length = ln + 1 by rw [List.length_append, HL.out]; rfl)
      obtain ⟨A6, c6, e6⟩ := HF9.out.has.form
      rw [HL9.out] at e6
      subst e6
      clear hFZ hF9 hg9 fZ hcZ
      refine ⟨⟨_, _, _, _, l ++ [(({ data := #[120] } : ByteArray) ++ sx, (2 : Int))], rfl, by rw [HL9.out]; omega, HA9.out, HF9.out, hc9.out.mono (by have := HL9.out; omega), f9.out, by omega⟩, by simp [lenOf]; omega⟩)
end Go.Proofs.YtlkjhkkfdmjfcaaGreatDoor
namespace Go.Proofs.YtlkjhkkfdmjfcaaGreatDoor
open Go.RowKit Go.Sort Go.Deep
set_option linter.unusedVariables false
set_option linter.unusedSimpArgs false
theorem Below.toFr {B : Nat} {w w' : World} (h : Below B w w') : Fr B w'.heap.size w w' := ⟨h.os, h.tape, h.output, h.size, fun k hk ho => h.block k (by have := h.size; omega)⟩
/-- What anySurvey leaves: the data do not matter. -/
def DrawsAs (w : World) (g : Nat) (T : Int) (e : Ending) (w' : World) : Prop :=
  ∃ A N C ps S q cq l D nd cd, e = .returned (.tuple #[.agg #[.slice A N C], .slice S q cq, .slice D nd cd]) ∧ Ints w' (w.heap.size + 1) w'.heap.size A N ps ∧ N ≤ 45 ∧ Vars w' (w.heap.size + 1) w'.heap.size S q l ∧ (q ≤ cq ∧ cq ≤ maxLen) ∧ SchD l ∧ Cur w' g T ∧ Fr g (g + 1) w w'
set_option maxRecDepth 100000 in
set_option maxHeartbeats 12800000 in
theorem anySurvey_any {g : Nat} {T : Int} {w : World} (h : Cur w g T) (hT : T ≤ 90000000000000) :
    Calls Tryz.prog 74 #[.pointer (some ⟨g, 0, none⟩)] w (DrawsAs w g (T + 6000)) := by
  have HIR := hid info_rec9
  have lg := h.lt
  go_enter Tryz.func74, Tryz.ntmps74
  have f : Fr g (g + 1) w w := Fr.refl _ _ _
  have hc := h
  replace f := f.keeps (keeps_alloc w (.cells #[.slice none 0 0] 32))
  replace hc := hc.keeps (keeps_alloc w (.cells #[.slice none 0 0] 32))
  have b2 : Bl (w.alloc (.cells #[.slice none 0 0] 32)) w.heap.size [.slice none 0 0] := Bl.new' (by simp) (by simp)
  go_wp2_with fail
  refine (survey_any hc (by omega)).mono ?_
  rintro e w1 ⟨A1, N1, C1, ps, S1, q, cq, l, D1, nd, cd, cs, L, U, ds, m, rfl, hm1, iG, hN, iS, hcap, hSD, hD, hdl, hd31, hn, ff⟩
  replace f := f.trans ff
  clear hc
  have hc := hn
  replace b2 := b2.fr ff (by first | omega | (simp; omega))
  have sf1 := ff.size
  try simp at sf1
  clear ff hn
  have sz1 := f.size
  have lt1 := b2.lt
  replace hm1 : w.heap.size + 1 ≤ m := by simp at hm1; omega
  have hm2 : m ≤ w1.heap.size := iG.top
  replace iG := iG.widen (lo' := w.heap.size + 1) (by simp) (Nat.le_refl _) hm2
  replace iS := Sl.widen (lo' := w.heap.size + 1) iS (by simp) (Nat.le_refl _) hm2
  have HSD := hid hSD
  have HCAP := hid hcap
  have HDL := hid hD.lt
  clear hSD hcap
  replace f := f.keeps (keeps_alloc w1 (.cells #[.slice A1 N1 C1] 32))
  replace hc := hc.keeps (keeps_alloc w1 (.cells #[.slice A1 N1 C1] 32))
  replace hD := hD.keeps RwdN.ok (keeps_alloc w1 (.cells #[.slice A1 N1 C1] 32))
  replace b2 := b2.keeps (keeps_alloc w1 (.cells #[.slice A1 N1 C1] 32))
  replace iG := iG.keeps (keeps_alloc w1 (.cells #[.slice A1 N1 C1] 32))
  replace iS := iS.keeps (keeps_alloc w1 (.cells #[.slice A1 N1 C1] 32))
  have b5 : Bl (w1.alloc (.cells #[.slice A1 N1 C1] 32)) w1.heap.size [.slice A1 N1 C1] := Bl.new' (by simp) (by simp)
  go_wp2_with fail
  refine (pick_any hc (by omega) (by omega)).mono ?_
  rintro e w2 ⟨v, rfl, hv, hn, ff⟩
  replace f := f.trans ff
  clear hc
  have hc := hn
  replace hD := hD.fr RwdN.ok ff (by omega)
  replace b2 := b2.fr ff (by first | omega | (simp; omega))
  replace b5 := b5.fr ff (by first | omega | (simp; omega))
  replace iG := iG.fr ff (by first | omega | (simp; omega))
  replace iS := iS.fr ff (by first | omega | (simp; omega))
  have sf2 := ff.size
  try simp at sf2
  clear ff hn
  have sz2 := f.size
  have lt2 := b5.lt
  have G5 := hid (show w1.heap.size < w2.heap.size from b5.lt)
  by_cases h0 : v = 0
  · subst h0
    clear hv
    go_wp2_with fail
    refine (anyGeo_any hc (by omega)).mono ?_
    rintro e w3 ⟨A3, N3, C3, qs, rfl, iG3, ⟨hN3, hNC⟩, hn, ff⟩
    replace f := f.trans ff
    clear hc
    have hc := hn
    replace hD := hD.fr RwdN.ok ff (by omega)
    replace b2 := b2.fr ff (by first | omega | (simp; omega))
    replace b5 := b5.fr ff (by first | omega | (simp; omega))
    replace iG := iG.fr ff (by first | omega | (simp; omega))
    replace iS := iS.fr ff (by first | omega | (simp; omega))
    have sf3 := ff.size
    try simp at sf3
    clear ff hn
    have sz3 := f.size
    have lt3 := b5.lt
    clear iG
    have iG := Ints.widen (lo' := w.heap.size + 1) iG3 (by omega) (Nat.le_refl _) (Nat.le_refl _)
    clear iG3
    have ca4_0 := (b2.2 0 _ rfl).1
    have fa4_0 := (b2.2 0 _ rfl).2
    replace f := f.setNew (p := ⟨w.heap.size, 0, none⟩) (by show _ ≤ w.heap.size; omega) (.slice A3 N3 C3)
    replace hc := hc.fr (fr_one (p := w.heap.size) (i := 0) (.slice A3 N3 C3)) (by omega)
    replace b5 := b5.far (p := ⟨w.heap.size, 0, none⟩) (by show _ ≠ w.heap.size; omega) (.slice A3 N3 C3)
    replace iG := iG.fr (fr_one (p := w.heap.size) (i := 0) (.slice A3 N3 C3)) (by omega)
    replace iS := iS.fr (fr_one (p := w.heap.size) (i := 0) (.slice A3 N3 C3)) (by omega)
    replace b2 : Bl (w3.setCell ⟨w.heap.size, 0, none⟩ (.slice A3 N3 C3)) w.heap.size [.slice A3 N3 C3] := b2.set 0 (.slice A3 N3 C3)
    have HI9 := hid (Ints.widen (lo' := w.heap.size + 1) (hi' := (w3.setCell ⟨w.heap.size, 0, none⟩ (.slice A3 N3 C3)).heap.size) iG (Nat.le_refl _) (by first | (simp [World.setCell]; done) | (simp [World.setCell]; omega)) (Nat.le_refl _))
    have HV9 := hid (Sl.widen (lo' := w.heap.size + 1) (hi' := (w3.setCell ⟨w.heap.size, 0, none⟩ (.slice A3 N3 C3)).heap.size) iS (Nat.le_refl _) (by first | (simp [World.setCell]; done) | (simp [World.setCell]; omega)) (Nat.le_refl _))
    have HC9 := hid hc
    have HF9 := hid f
    clear hc f
    go_wp2_with fail
    clear ca4_0 fa4_0
    have ca0_0 := (b2.2 0 _ rfl).1
    try simp only [Exit.inBlock, Exit.then]
    exact bodyPost_ret (v := .tuple #[.agg #[.slice A3 N3 C3], .slice S1 q cq, .slice D1 nd cd]) (by simp [results, Tryz.results74, go_sem, ca0_0]) rfl ⟨_, _, _, _, _, _, _, _, _, _, _, rfl, HI9.out, by omega, HV9.out, HCAP.out, HSD.out, HC9.out.mono (by omega), HF9.out⟩
  have t0 : (v == 0) = false := by rw [beq_eq_false_iff_ne]; exact h0
  by_cases h1 : v = 1
  · subst h1
    clear hv t0 h0 hD
    have ca3_0 := (b5.2 0 _ rfl).1
    go_wp2_with fail
    clear ca3_0
    have b5D := b5.keeps (keeps_d0 w2)
    have b2D := b2.keeps (keeps_d0 w2)
    have hcD := hc.keeps (keeps_d0 w2)
    have fD := f.keeps (keeps_d0 w2)
    have iGD := iG.keeps (keeps_d0 w2)
    have cD := (b5D.2 0 _ rfl).1
    have sD : w2.drew.heap.size = w2.heap.size := rfl
    clear hc f b5 b2 iG iS
    go_region_held3 (fun w' => w'.cell? ⟨w1.heap.size, 0, none⟩ = some (.slice A1 N1 C1)) (first | exact cD | exact cB | exact cF | go_keep)
      ((first | (go_at_call 112; refine (anySchema_any hcD (by omega)).mono ?_; rintro e wB ⟨A3, n3, c3, cs3, L3, U3, l3, rfl, hS3, hl3, ⟨hA3, h37⟩, hcB, fB⟩; have b5B := b5D.fr fB (by omega); have b2B := b2D.fr fB (by omega); have z1 := (b2B.2 0 _ rfl).1; have z2 := (b2B.2 0 _ rfl).2; have cB := (b5B.2 0 _ rfl).1; have cF := ((b5B.far (p := ⟨w.heap.size, 0, none⟩) (by show w1.heap.size ≠ w.heap.size; omega) (.slice A1 N1 C1)).2 0 _ rfl).1)))
    have sB := fB.size
    have hcp9 := hS3.has
    rw [hl3] at hcp9
    replace hcp9 := hid hcp9.cap_
    obtain ⟨Aq, cq9, eq, hcap, iS⟩ := hS3.vars (by omega) (by omega)
    rw [hl3] at eq iS
    injection eq with eq1 eq9 eq2
    clear eq9 hcap
    subst eq1 eq2
    have HSA := hid (hA3.d (by omega))
    have HF9 := hid ((fD.trans fB).setNew (p := ⟨w.heap.size, 0, none⟩) (Nat.le_refl _) (.slice A1 N1 C1))
    have HC9 := hid (hcB.fr (fr_one (p := w.heap.size) (i := 0) (.slice A1 N1 C1)) (by omega))
    have B2 := b2B.set 0 (.slice A1 N1 C1)
    have HI9 := hid (((iGD.fr fB (by omega)).fr (fr_one (p := w.heap.size) (i := 0) (.slice A1 N1 C1)) (by omega)).widen (lo' := w.heap.size + 1) (hi' := (wB.setCell ⟨w.heap.size, 0, none⟩ (.slice A1 N1 C1)).heap.size) (Nat.le_refl _) (by simp [World.setCell]; omega) (Nat.le_refl _))
    have HV9 := hid (Sl.widen (lo' := w.heap.size + 1) (hi' := (wB.setCell ⟨w.heap.size, 0, none⟩ (.slice A1 N1 C1)).heap.size) (Sl.fr iS (fr_one (p := w.heap.size) (i := 0) (.slice A1 N1 C1)) (by omega)) (by omega) (by simp [World.setCell]) (Nat.le_refl _))
    clear hS3 hA3 hcB fB b5B b2B b5D b2D hcD fD iGD cD cB cF z1 z2 iS
    go_wp2_with fail
    have ca0_0 := (B2.2 0 _ rfl).1
    try simp only [Exit.inBlock, Exit.then]
    exact bodyPost_ret (v := .tuple #[.agg #[.slice A1 N1 C1], .slice A3 n3 c3, .slice D1 nd cd]) (by simp [results, Tryz.results74, go_sem, ca0_0]) rfl ⟨_, _, _, _, _, _, _, _, _, _, _, rfl, HI9.out, by omega, HV9.out, hcp9.out, HSA.out, HC9.out.mono (by omega), HF9.out⟩
  have t1 : (v == 1) = false := by rw [beq_eq_false_iff_ne]; exact h1
  by_cases h2 : v = 2
  · subst h2
    clear hv t0 h0 t1 h1
    have hq7 : q ≤ 7 := by have := HSD.out.len; rw [Vars.len iS] at this; exact this
    have Lx : Ints (w2.alloc (.cells #[.int .i64 0, .int .i64 29, .int .i64 (-1)] 3)) w2.heap.size (w2.heap.size + 1) (some ⟨w2.heap.size, 0, none⟩) 3 [0, 29, -1] := lit_ints w2 [0, 29, -1] (by decide)
    replace f := f.keeps (keeps_alloc w2 (.cells #[.int .i64 0, .int .i64 29, .int .i64 (-1)] 3))
    replace hc := hc.keeps (keeps_alloc w2 (.cells #[.int .i64 0, .int .i64 29, .int .i64 (-1)] 3))
    replace hD := hD.keeps RwdN.ok (keeps_alloc w2 (.cells #[.int .i64 0, .int .i64 29, .int .i64 (-1)] 3))
    replace b2 := b2.keeps (keeps_alloc w2 (.cells #[.int .i64 0, .int .i64 29, .int .i64 (-1)] 3))
    replace b5 := b5.keeps (keeps_alloc w2 (.cells #[.int .i64 0, .int .i64 29, .int .i64 (-1)] 3))
    replace iG := iG.keeps (keeps_alloc w2 (.cells #[.int .i64 0, .int .i64 29, .int .i64 (-1)] 3))
    replace iS := iS.keeps (keeps_alloc w2 (.cells #[.int .i64 0, .int .i64 29, .int .i64 (-1)] 3))
    go_wp2_with fail
    refine (among_any hc (by omega) Lx (by first | omega | (simp; omega)) (by omega) (by omega)).mono ?_
    rintro e w3 ⟨x9, xj, rfl, xh, xe, hn, ff⟩
    replace f := f.trans ff
    clear hc
    have hc := hn
    replace hD := hD.fr RwdN.ok ff (by omega)
    replace b2 := b2.fr ff (by first | omega | (simp; omega))
    replace b5 := b5.fr ff (by first | omega | (simp; omega))
    replace iG := iG.fr ff (by first | omega | (simp; omega))
    replace iS := iS.fr ff (by first | omega | (simp; omega))
    have sf3 := ff.size
    try simp at sf3
    clear ff hn
    have sz3 := f.size
    have lt3 := b5.lt
    clear Lx xe xh
    go_wp2_with fail
    refine (values_any hc (by omega) iS (by omega) HSD.out).mono ?_
    rintro e w4 ⟨V, nv, cv, cs0, L0, U0, xs, rfl, hV, hxl, hxq, hn, ff⟩
    replace f := f.trans ff
    clear hc
    have hc := hn
    replace hD := hD.fr RwdN.ok ff (by omega)
    replace b2 := b2.fr ff (by first | omega | (simp; omega))
    replace b5 := b5.fr ff (by first | omega | (simp; omega))
    replace iG := iG.fr ff (by first | omega | (simp; omega))
    replace iS := iS.fr ff (by first | omega | (simp; omega))
    have sf4 := ff.size
    try simp at sf4
    clear ff hn
    have sz4 := f.size
    have lt4 := b5.lt
    clear hV
    have hcB := hc
    have fB := f
    have HNE := hid (show ∀ g, g < m ∨ w1.heap.size ≤ g → (Value.slice D1 nd cd).ownBlock ≠ some g from fun g hg e => by have := HDL.out g e; omega)
    go_wp2_with (at_builtin; refine append_rowR (a0 := ()) (x := m) (y := m) (new := [.int .i64 x9, .int .i64 0, .slice V nv cv]) HIR.out rfl (by decide) (by decide) RwdN.ok hD (by omega) (by omega) rfl (fun y hy => by simp at hy; rcases hy with rfl | rfl | rfl <;> rfl) (Nat.le_refl _) (by omega) (fun g e => .inr (by have := HDL.out g e; omega)) trivial _ _ rfl rfl Tryz.underlying122 rfl rfl ?_; intro v9 w9 cs9 L9 U9 hF9 hg9; obtain ⟨A9, c9, e9⟩ := hF9.has.form; subst e9; have b5_ := bl_grown b5 hg9 (HNE.out _ (.inr (Nat.le_refl _))); have b2_ := bl_grown b2 hg9 (HNE.out _ (.inl (by omega))); have z0 := (b5_.2 0 _ rfl).1; have z1 := (b2_.2 0 _ rfl).1; have z2 := (b2_.2 0 _ rfl).2)
    have KB := hid (hD.below (by omega) hg9)
    have s9 := KB.out.size
    have hf9 := (fB.below KB.out (by omega)).setNew (p := ⟨w.heap.size, 0, none⟩) (Nat.le_refl _) (.slice A1 N1 C1)
    have HF9 := hid hf9
    have HC9 := hid ((hcB.below KB.out (by omega)).fr (fr_one (p := w.heap.size) (i := 0) (.slice A1 N1 C1)) (by omega))
    have B2 := b2_.set 0 (.slice A1 N1 C1)
    have HI9 := hid (((iG.fr (Below.toFr KB.out) (by omega)).fr (fr_one (p := w.heap.size) (i := 0) (.slice A1 N1 C1)) (by omega)).widen (lo' := w.heap.size + 1) (hi' := (w9.setCell ⟨w.heap.size, 0, none⟩ (.slice A1 N1 C1)).heap.size) (Nat.le_refl _) (by simp [World.setCell]; omega) (Nat.le_refl _))
    have HV9 := hid (Sl.widen (lo' := w.heap.size + 1) (hi' := (w9.setCell ⟨w.heap.size, 0, none⟩ (.slice A1 N1 C1)).heap.size) (Sl.fr (Sl.fr iS (Below.toFr KB.out) (by omega)) (fr_one (p := w.heap.size) (i := 0) (.slice A1 N1 C1)) (by omega)) (Nat.le_refl _) (by simp [World.setCell]; omega) (Nat.le_refl _))
    clear hD hF9 hg9 hf9 hcB fB hc f b2 b5 b5_ b2_ z0 z1 z2 iG iS
    have ca0_0 := (B2.2 0 _ rfl).1
    try simp only [Exit.inBlock, Exit.then]
    exact bodyPost_ret (v := .tuple #[.agg #[.slice A1 N1 C1], .slice S1 q cq, .slice A9 (nd + 1) c9]) (by simp [results, Tryz.results74, go_sem, ca0_0]) rfl ⟨_, _, _, _, _, _, _, _, _, _, _, rfl, HI9.out, by omega, HV9.out, HCAP.out, HSD.out, HC9.out.mono (by omega), HF9.out⟩
  have t2 : (v == 2) = false := by rw [beq_eq_false_iff_ne]; exact h2
  have ca3_0 := (b5.2 0 _ rfl).1
  have ca4_0 := (b2.2 0 _ rfl).1
  have fa4_0 := (b2.2 0 _ rfl).2
  replace f := f.setNew (p := ⟨w.heap.size, 0, none⟩) (by show _ ≤ w.heap.size; omega) (.slice A1 N1 C1)
  replace hc := hc.fr (fr_one (p := w.heap.size) (i := 0) (.slice A1 N1 C1)) (by omega)
  replace b5 := b5.far (p := ⟨w.heap.size, 0, none⟩) (by show _ ≠ w.heap.size; omega) (.slice A1 N1 C1)
  replace iG := iG.fr (fr_one (p := w.heap.size) (i := 0) (.slice A1 N1 C1)) (by omega)
  replace iS := iS.fr (fr_one (p := w.heap.size) (i := 0) (.slice A1 N1 C1)) (by omega)
  replace b2 : Bl (w2.setCell ⟨w.heap.size, 0, none⟩ (.slice A1 N1 C1)) w.heap.size [.slice A1 N1 C1] := b2.set 0 (.slice A1 N1 C1)
  have HI9 := hid (Ints.widen (lo' := w.heap.size + 1) (hi' := (w2.setCell ⟨w.heap.size, 0, none⟩ (.slice A1 N1 C1)).heap.size) iG (Nat.le_refl _) (by first | (simp [World.setCell]; done) | (simp [World.setCell]; omega)) (Nat.le_refl _))
  have HV9 := hid (Sl.widen (lo' := w.heap.size + 1) (hi' := (w2.setCell ⟨w.heap.size, 0, none⟩ (.slice A1 N1 C1)).heap.size) iS (Nat.le_refl _) (by first | (simp [World.setCell]; done) | (simp [World.setCell]; omega)) (Nat.le_refl _))
  have HC9 := hid hc
  have HF9 := hid f
  clear hc f
  go_wp2_with fail
  clear ca3_0 ca4_0 fa4_0
  have ca0_0 := (b2.2 0 _ rfl).1
  try simp only [Exit.inBlock, Exit.then]
  exact bodyPost_ret (v := .tuple #[.agg #[.slice A1 N1 C1], .slice S1 q cq, .slice D1 nd cd]) (by simp [results, Tryz.results74, go_sem, ca0_0]) rfl ⟨_, _, _, _, _, _, _, _, _, _, _, rfl, HI9.out, by omega, HV9.out, HCAP.out, HSD.out, HC9.out.mono (by omega), HF9.out⟩
end Go.Proofs.YtlkjhkkfdmjfcaaGreatDoor
namespace Go.Proofs.YtlkjhkkfdmjfcaaGreatDoor
open Go.RowKit
set_option linter.unusedVariables false
set_option linter.unusedSimpArgs false
abbrev LQ := Int × Int × Int × Int
def lz : LQ := (0, 0, 0, 0)
def lc4 (x : LQ) : List Value := [.int .i64 x.1, .int .i64 x.2.1, .int .i64 x.2.2.1, .int .i64 x.2.2.2]
def lcs (l : List LQ) : List Value := l.flatMap lc4
abbrev Los (w : World) (lo hi : Nat) (A : Option Addr) (n : Nat) (l : List LQ) : Prop := Sl 4 w lo hi A n (lcs l)
set_option maxRecDepth 100000 in
set_option maxHeartbeats 1600000 in
theorem pNone_any {w : World} :
    Calls Tryz.prog 154 #[] w fun e w' => e = .returned (.agg #[.int .i64 1, .int .i64 1, .int .i64 0, .int .i64 1]) ∧ Keeps w w' := by
  go_enter Tryz.func154, Tryz.ntmps154
  have kw := keeps_refl w
  replace kw := Keeps.trans kw (keeps_alloc w (.cells #[.int .i64 0, .int .i64 0, .int .i64 0, .int .i64 0] 48))
  have b0 : Bl (w.alloc (.cells #[.int .i64 0, .int .i64 0, .int .i64 0, .int .i64 0] 48)) w.heap.size [.int .i64 0, .int .i64 0, .int .i64 0, .int .i64 0] := Bl.new' (by simp) (by simp)
  go_wp2_with fail
  refine (fInt_any).mono ?_
  rintro e w1 ⟨rfl, k1⟩
  replace b0 := b0.keeps k1
  replace kw := Keeps.trans kw k1
  have lt2 := b0.lt
  have sz3 := kw.size
  clear k1
  go_wp2_with fail
  refine (fInt_any).mono ?_
  rintro e w4 ⟨rfl, k4⟩
  replace b0 := b0.keeps k4
  replace kw := Keeps.trans kw k4
  have lt5 := b0.lt
  have sz6 := kw.size
  clear k4
  have ca7_0 := (b0.2 0 _ rfl).1
  have fa7_0 := (b0.2 0 _ rfl).2
  have ca7_1 := (b0.2 1 _ rfl).1
  have fa7_1 := (b0.2 1 _ rfl).2
  have ca7_2 := (b0.2 2 _ rfl).1
  have fa7_2 := (b0.2 2 _ rfl).2
  have ca7_3 := (b0.2 3 _ rfl).1
  have fa7_3 := (b0.2 3 _ rfl).2
  replace kw := Below.setCell kw (p := ⟨w.heap.size, 0, none⟩) (by show _ ≤ w.heap.size; omega) (.int .i64 1)
  replace b0 : Bl (w4.setCell ⟨w.heap.size, 0, none⟩ (.int .i64 1)) w.heap.size [.int .i64 1, .int .i64 0, .int .i64 0, .int .i64 0] := b0.set 0 (.int .i64 1)
  replace kw := Below.setCell kw (p := ⟨w.heap.size, 1, none⟩) (by show _ ≤ w.heap.size; omega) (.int .i64 1)
  replace b0 : Bl ((w4.setCell ⟨w.heap.size, 0, none⟩ (.int .i64 1)).setCell ⟨w.heap.size, 1, none⟩ (.int .i64 1)) w.heap.size [.int .i64 1, .int .i64 1, .int .i64 0, .int .i64 0] := b0.set 1 (.int .i64 1)
  replace kw := Below.setCell kw (p := ⟨w.heap.size, 2, none⟩) (by show _ ≤ w.heap.size; omega) (.int .i64 0)
  replace b0 : Bl (((w4.setCell ⟨w.heap.size, 0, none⟩ (.int .i64 1)).setCell ⟨w.heap.size, 1, none⟩ (.int .i64 1)).setCell ⟨w.heap.size, 2, none⟩ (.int .i64 0)) w.heap.size [.int .i64 1, .int .i64 1, .int .i64 0, .int .i64 0] := b0.set 2 (.int .i64 0)
  replace kw := Below.setCell kw (p := ⟨w.heap.size, 3, none⟩) (by show _ ≤ w.heap.size; omega) (.int .i64 1)
  replace b0 : Bl ((((w4.setCell ⟨w.heap.size, 0, none⟩ (.int .i64 1)).setCell ⟨w.heap.size, 1, none⟩ (.int .i64 1)).setCell ⟨w.heap.size, 2, none⟩ (.int .i64 0)).setCell ⟨w.heap.size, 3, none⟩ (.int .i64 1)) w.heap.size [.int .i64 1, .int .i64 1, .int .i64 0, .int .i64 1] := b0.set 3 (.int .i64 1)
  have HK := hid kw
  clear kw
  go_wp2_with fail
  clear ca7_0 fa7_0 ca7_1 fa7_1 ca7_2 fa7_2 ca7_3 fa7_3
  have ca0_0 := (b0.2 0 _ rfl).1
  have ca0_1 := (b0.2 1 _ rfl).1
  have ca0_2 := (b0.2 2 _ rfl).1
  have ca0_3 := (b0.2 3 _ rfl).1
  try simp only [Exit.inBlock, Exit.then]
  exact bodyPost_ret (v := .agg #[.int .i64 1, .int .i64 1, .int .i64 0, .int .i64 1]) (by simp [results, Tryz.results154, go_sem, ca0_0, ca0_1, ca0_2, ca0_3]) rfl ⟨rfl, HK.out⟩
end Go.Proofs.YtlkjhkkfdmjfcaaGreatDoor
namespace Go.Proofs.YtlkjhkkfdmjfcaaGreatDoor
open Go.RowKit Go.Sort Go.Deep
set_option linter.unusedVariables false
set_option linter.unusedSimpArgs false
theorem info_rel9 : (Tryz.prog.info? 50).map (fun i => (i.zero, i.size, i.bytes)) = some (some (.agg #[.int .i64 0, .slice none 0 0, .int .i64 0, .int .i64 0, .int .i64 0, .int .i64 0]), 6, 64) := by kernel_rfl
section
variable {ex un : Bool} {w w' : World} {lo hi : Nat}
mutual
theorem Rg.smB (s : SmB w w' lo hi) : ∀ (d : D) (v : Value), Rg ex un w lo hi d v → Rg ex un w' lo hi d v
  | .i x, v, h => by unfold Rg at h ⊢; exact h
  | .s b, v, h => by unfold Rg at h ⊢; exact h
  | .sl n ds, v, h => by
    unfold Rg at h ⊢
    obtain ⟨A, c, e, ht, hr⟩ := h
    refine ⟨A, c, e, Nat.le_trans ht s.1, fun hn => ?_⟩
    obtain ⟨b, off, e2, h1, h2, h3⟩ := hr hn
    exact ⟨b, off, e2, h1, h2, RgL.smB s h1 h2 ds off h3⟩
theorem RgL.smB (s : SmB w w' lo hi) {b : Nat} (h1 : lo ≤ b) (h2 : b < hi) : ∀ (ds : List D) (off : Nat), RgL ex un w lo hi b off ds → RgL ex un w' lo hi b off ds
  | [], off, h => by unfold RgL; trivial
  | d :: ds, off, h => by
    unfold RgL at h ⊢
    obtain ⟨⟨u, h3, hz, h4⟩, h5⟩ := h
    exact ⟨⟨u, (World.cell?_of_block (a := ⟨b, off, none⟩) (s.2 b h1 h2)).trans h3, fun e => (World.frozen?_of_block (a := ⟨b, off, none⟩) (s.2 b h1 h2)).trans (hz e), Rg.smB s d u h4⟩, RgL.smB s h1 h2 ds (off + 1) h5⟩
end
theorem Tabs.smB {A : Option Addr} {n : Nat} {l : List TT} (h : Tabs ex un w lo hi A n l) (s : SmB w w' lo hi) : Tabs ex un w' lo hi A n l :=
  ⟨⟨Nat.le_trans h.r.1 s.1, fun h0 => by obtain ⟨b, off, e, h1, h2, h3⟩ := h.r.2 h0; exact ⟨b, off, e, h1, h2, RgL.smB s h1 h2 _ off h3⟩⟩, h.len, h.le, h.sm⟩
end
/-- A release that can be read. -/
def RwdR : RowP RL := fun w lo hi u r => ∃ P cp, u 0 = .int .i64 r.1 ∧ u 1 = .slice P r.2.1.length cp ∧ u 2 = .int .i64 r.2.2.1 ∧ u 3 = .int .i64 r.2.2.2.1 ∧ u 4 = .int .i64 r.2.2.2.2.1 ∧ u 5 = .int .i64 r.2.2.2.2.2 ∧ Tabs true false w lo hi P r.2.1.length r.2.1
theorem RwdR.ok : RwOk RwdR := fun w w' lo hi u t h s => by obtain ⟨P, cp, h0, h1, h2, h3, h4, h5, h6⟩ := h; exact ⟨P, cp, h0, h1, h2, h3, h4, h5, h6.smB s⟩
section
variable {w : World} {m B E : Nat} {v : Value} {cs : List Value} {L U : Nat → Nat}
theorem GrowR.rels {l : List RL} (h : GrowR 6 rl0 RwdR w m B E v cs L U l) (hn : l.length ≤ 67108864) (hB : B ≤ w.heap.size) : ∃ A c, v = .slice A l.length c ∧ l.length ≤ c ∧ Rels true false w m w.heap.size A l.length l := by
  obtain ⟨A, c, hv, hc, hr⟩ := h.read
  have hmB := h.mB
  refine ⟨A, c, hv, hc, ⟨Nat.le_refl _, fun h0 => ?_⟩, rfl, hn, fun j => ?_⟩
  · obtain ⟨b, e, hb, hlt, _⟩ := hr 0 h0
    refine ⟨b, 0, e, by omega, hlt, RgL.of_at _ 0 fun j hj => ?_⟩
    rw [flat_len dR_len] at hj
    have hq : j / 6 < l.length := by omega
    have ej : j / 6 * 6 + j % 6 = j := by omega
    obtain ⟨b', e', _, _, ⟨iv1, iv2⟩, u, hu, P, cp, h0', h1, h2, h3, h4, h5, h6⟩ := hr (j / 6) hq
    rw [e] at e'; injection e' with e'; injection e' with e'; subst e'
    have hm := Nat.mod_lt j (show 0 < 6 by omega)
    have h7 := flat_at dR_len (.i 0) rl0 l (j / 6) (j % 6) hq hm
    have h8 := hu (j % 6) hm
    rw [ej] at h7 h8
    refine ⟨_, by rw [Nat.zero_add]; exact h8.1, (fun e => by cases e), ?_⟩
    rw [h7]
    have hrg : ∀ i, i < 6 → Rg true false w (L (j / 6)) (U (j / 6)) ((dR (l.getD (j / 6) rl0)).getD i (.i 0)) (u i) := by
      intro i hi
      match i, hi with
      | 0, _ => rw [h0']; exact Rg.of_i _
      | 1, _ => rw [h1]; exact h6.r.rg
      | 2, _ => rw [h2]; exact Rg.of_i _
      | 3, _ => rw [h3]; exact Rg.of_i _
      | 4, _ => rw [h4]; exact Rg.of_i _
      | 5, _ => rw [h5]; exact Rg.of_i _
    exact Rg.widen iv1 iv2 (Nat.le_refl _) _ _ (hrg _ hm)
  · rcases Nat.lt_or_ge j l.length with hj | hj
    · obtain ⟨_, _, _, _, _, u, hu, P, cp, h0', h1, h2, h3, h4, h5, h6⟩ := hr j hj
      exact ⟨h6.le, fun i => h6.sm i⟩
    · rw [getD_out hj]; simp [smR, smT, rl0, t0]
/-- The first release's version is written. -/
theorem GrowR.ver {l : List RL} {b n c : Nat} {x : Int} (h : GrowR 6 rl0 RwdR w m B E (.slice (some ⟨b, 0, none⟩) n c) cs L U l) : GrowR 6 rl0 RwdR (w.setCell ⟨b, 0, none⟩ (.int .i64 x)) m B E (.slice (some ⟨b, 0, none⟩) n c) (cs.set 0 (.int .i64 x)) L U (l.set 0 (x, (l.getD 0 rl0).2)) := by
  obtain ⟨A', c', e'⟩ := h.has.form
  injection e' with e1 e2 e3
  have hh := h.has
  rw [← e2] at hh
  have hs := (World.ownsRow.stored hh 0 (.int .i64 x)).1
  have hsm : ∀ j, j < l.length → SmB w (w.setCell ⟨b, 0, none⟩ (.int .i64 x)) (L j) (U j) := fun j hj => ⟨by simp [World.setCell], fun g g1 g2 => Below.heap_setCell w ⟨b, 0, none⟩ _ g (by have := (h.iv j hj).2.2 b rfl; show g ≠ b; omega)⟩
  refine ⟨by rw [List.length_set, ← e2]; exact hs, h.mB, fun j hj => by rw [List.length_set] at hj; simpa [World.setCell] using h.iv j hj, fun j hj => ?_⟩
  rw [List.length_set] at hj
  obtain ⟨u, h1, h2⟩ := h.row j hj
  have hl : cs.length = l.length * 6 := h.has.1
  by_cases e : j = 0
  · subst e
    obtain ⟨P, cp, q0, q1, q2, q3, q4, q5, q6⟩ := h2
    refine ⟨fun i => if i = 0 then .int .i64 x else u i, fun i hi => ?_, P, cp, ?_, ?_, ?_, ?_, ?_, ?_, ?_⟩
    · have hc0 : 0 < cs.length := by omega
      rw [List.getElem?_set]
      by_cases e0 : i = 0
      · subst e0
        rw [if_pos (by omega), if_pos hc0]
        show some _ = some (if (0 : Nat) = 0 then _ else _)
        rw [if_pos rfl]
      · rw [if_neg (by omega)]
        show cs[0 * 6 + i]? = some (if i = 0 then _ else u i)
        rw [if_neg e0]; exact h1 i hi
    all_goals rw [getD_set_same hj]
    · rfl
    · exact q1
    · exact q2
    · exact q3
    · exact q4
    · exact q5
    · exact q6.smB (hsm 0 hj)
  · refine ⟨u, fun i hi => ?_, ?_⟩
    · rw [List.getElem?_set, if_neg (by omega)]; exact h1 i hi
    · rw [getD_set_other (by omega)]; exact RwdR.ok _ _ _ _ _ _ h2 (hsm j hj)
end
end Go.Proofs.YtlkjhkkfdmjfcaaGreatDoor
namespace Go.Proofs.YtlkjhkkfdmjfcaaGreatDoor
open Go.RowKit Go.Sort Go.Deep
set_option linter.unusedVariables false
set_option linter.unusedSimpArgs false
theorem tabs_nil (w : World) (lo hi : Nat) (h : hi ≤ w.heap.size) : Tabs true false w lo hi none 0 [] := ⟨⟨h, fun h => absurd h (by omega)⟩, rfl, by omega, fun j => by simp [smT, t0]⟩
theorem GrowR.cell0 {w : World} {m B E n c : Nat} {A : Option Addr} {cs : List Value} {L U : Nat → Nat} {l : List RL} (h : GrowR 6 rl0 RwdR w m B E (.slice A n c) cs L U l) (h0 : 0 < l.length) : ∃ b, A = some ⟨b, 0, none⟩ ∧ B ≤ b ∧ b < w.heap.size ∧ w.cell? ⟨b, 0, none⟩ = some (.int .i64 (l.getD 0 rl0).1) ∧ w.frozen? ⟨b, 0, none⟩ = false := by
  obtain ⟨A', c', hv, _, hr⟩ := h.read
  injection hv with e1 e2 e3
  obtain ⟨b, e, h1, h2, _, u, hu, P, cp, q0, _⟩ := hr 0 h0
  have := hu 0 (by omega)
  rw [q0, Nat.zero_mul, Nat.zero_add] at this
  exact ⟨b, e1.trans e, h1, h2, this.1, this.2⟩
theorem GrowR.rowR {w : World} {B nP cP : Nat} {P : Option Addr} {E : Nat} {cs : List Value} {L U : Nat → Nat} {ts : List TT} (h : GrowR 4 t0 RwdT w B B E (.slice P nP cP) cs L U ts) (v a b c d : Int) (hl : ts.length = nP) (hn : nP ≤ 67108864) (hB : B ≤ w.heap.size) :
    RwdR w B w.heap.size (fun i => [Value.int .i64 v, .slice P nP cP, .int .i64 a, .int .i64 b, .int .i64 c, .int .i64 d].getD i undef) (v, ts, a, b, c, d) := by
  subst hl
  obtain ⟨A1, c1, e1, _, i1⟩ := h.tabs hn hB
  injection e1 with e1
  subst e1
  exact ⟨P, cP, rfl, rfl, rfl, rfl, rfl, rfl, i1⟩
set_option maxRecDepth 100000 in
set_option maxHeartbeats 1600000 in
theorem sNoLoss_any {w : World} :
    Calls Tryz.prog 115 #[] w fun e w' => e = .returned (.agg #[.int .i64 1, .int .i64 1, .int .i64 0, .int .i64 1]) ∧ Keeps w w' := by
  go_enter Tryz.func115, Tryz.ntmps115
  have kw := keeps_refl w
  replace kw := Keeps.trans kw (keeps_alloc w (.cells #[.int .i64 0, .int .i64 0, .int .i64 0, .int .i64 0] 48))
  have b0 : Bl (w.alloc (.cells #[.int .i64 0, .int .i64 0, .int .i64 0, .int .i64 0] 48)) w.heap.size [.int .i64 0, .int .i64 0, .int .i64 0, .int .i64 0] := Bl.new' (by simp) (by simp)
  go_wp2_with fail
  refine (pNone_any).mono ?_
  rintro e w1 ⟨rfl, k1⟩
  replace b0 := b0.keeps k1
  replace kw := Keeps.trans kw k1
  have lt2 := b0.lt
  have sz3 := kw.size
  clear k1
  have ca4_0 := (b0.2 0 _ rfl).1
  have fa4_0 := (b0.2 0 _ rfl).2
  have ca4_1 := (b0.2 1 _ rfl).1
  have fa4_1 := (b0.2 1 _ rfl).2
  have ca4_2 := (b0.2 2 _ rfl).1
  have fa4_2 := (b0.2 2 _ rfl).2
  have ca4_3 := (b0.2 3 _ rfl).1
  have fa4_3 := (b0.2 3 _ rfl).2
  replace kw := Below.setCell kw (p := ⟨w.heap.size, 0, none⟩) (by show _ ≤ w.heap.size; omega) (.int .i64 1)
  replace b0 : Bl (w1.setCell ⟨w.heap.size, 0, none⟩ (.int .i64 1)) w.heap.size [.int .i64 1, .int .i64 0, .int .i64 0, .int .i64 0] := b0.set 0 (.int .i64 1)
  replace kw := Below.setCell kw (p := ⟨w.heap.size, 1, none⟩) (by show _ ≤ w.heap.size; omega) (.int .i64 1)
  replace b0 : Bl ((w1.setCell ⟨w.heap.size, 0, none⟩ (.int .i64 1)).setCell ⟨w.heap.size, 1, none⟩ (.int .i64 1)) w.heap.size [.int .i64 1, .int .i64 1, .int .i64 0, .int .i64 0] := b0.set 1 (.int .i64 1)
  replace kw := Below.setCell kw (p := ⟨w.heap.size, 2, none⟩) (by show _ ≤ w.heap.size; omega) (.int .i64 0)
  replace b0 : Bl (((w1.setCell ⟨w.heap.size, 0, none⟩ (.int .i64 1)).setCell ⟨w.heap.size, 1, none⟩ (.int .i64 1)).setCell ⟨w.heap.size, 2, none⟩ (.int .i64 0)) w.heap.size [.int .i64 1, .int .i64 1, .int .i64 0, .int .i64 0] := b0.set 2 (.int .i64 0)
  replace kw := Below.setCell kw (p := ⟨w.heap.size, 3, none⟩) (by show _ ≤ w.heap.size; omega) (.int .i64 1)
  replace b0 : Bl ((((w1.setCell ⟨w.heap.size, 0, none⟩ (.int .i64 1)).setCell ⟨w.heap.size, 1, none⟩ (.int .i64 1)).setCell ⟨w.heap.size, 2, none⟩ (.int .i64 0)).setCell ⟨w.heap.size, 3, none⟩ (.int .i64 1)) w.heap.size [.int .i64 1, .int .i64 1, .int .i64 0, .int .i64 1] := b0.set 3 (.int .i64 1)
  have HK := hid kw
  clear kw
  go_wp2_with fail
  clear ca4_0 fa4_0 ca4_1 fa4_1 ca4_2 fa4_2 ca4_3 fa4_3
  have ca0_0 := (b0.2 0 _ rfl).1
  have ca0_1 := (b0.2 1 _ rfl).1
  have ca0_2 := (b0.2 2 _ rfl).1
  have ca0_3 := (b0.2 3 _ rfl).1
  try simp only [Exit.inBlock, Exit.then]
  exact bodyPost_ret (v := .agg #[.int .i64 1, .int .i64 1, .int .i64 0, .int .i64 1]) (by simp [results, Tryz.results115, go_sem, ca0_0, ca0_1, ca0_2, ca0_3]) rfl ⟨rfl, HK.out⟩
set_option maxRecDepth 100000 in
set_option maxHeartbeats 12800000 in
theorem history_any {g : Nat} {T : Int} {lo hi q c lo2 hi2 a c0 : Nat} {A A2 : Option Addr} {l : List VV} {ps : List Int} {w : World} (h : Cur w g T) (hT : T ≤ 90000000000000) (hG : Ints w lo2 hi2 A2 a ps) (hg2 : g < lo2) (hs : Vars w lo hi A q l) (hgl : g < lo) (hD : SchD l) :
    Calls Tryz.prog 75 #[.pointer (some ⟨g, 0, none⟩), .agg #[.slice A2 a c0], .slice A q c] w (DrawsL 6 rl0 RwdR 50 (fun rs => rs.length ≤ 14) w g (T + 40000)) := by
  have HD := hid hD
  have HIT := hid info_rel9
  have lg := h.lt
  go_enter Tryz.func75, Tryz.ntmps75
  have f : Fr g (g + 1) w w := Fr.refl _ _ _
  have hc := h
  replace f := f.keeps (keeps_alloc w (.cells #[.slice A2 a c0] 32))
  replace hc := hc.keeps (keeps_alloc w (.cells #[.slice A2 a c0] 32))
  have b4 : B1 (w.alloc (.cells #[.slice A2 a c0] 32)) w.heap.size (.slice A2 a c0) := B1.new' (by simp)
  go_wp2_with fail
  refine (pick_any hc (by omega) (by omega)).mono ?_
  rintro e w1 ⟨x0, rfl, hx0, hn, ff⟩
  replace f := f.trans ff
  clear hc
  have hc := hn
  replace b4 := b4.fr ff (by first | omega | (simp; omega))
  have sf1 := ff.size
  try simp at sf1
  clear ff hn
  have sz1 := f.size
  have lt1 := b4.lt
  obtain ⟨m0, rfl⟩ : ∃ m : Nat, x0 = m := ⟨x0.toNat, by omega⟩
  have hm0 : m0 ≤ 3 := by omega
  clear hx0
  have F0 := GrowR.nil (sz := 6) (z := rl0) (R := RwdR) w1 w.heap.size (w.heap.size + 1) 50 (Nat.le_succ _)
  go_wp2_with fail
  go_loopw [7, 8] (fun sv i wr => ∃ (m : Nat) (vq : Value) (cs : List Value) (L U : Nat → Nat) (rs : List RL), vq = sv ∧ i = .int .i64 m ∧ m + rs.length ≤ 3 ∧ GrowR 6 rl0 RwdR wr w.heap.size (w.heap.size + 1) 50 vq cs L U rs ∧ B1 wr w.heap.size (.slice A2 a c0) ∧ Cur wr g (T + 10 + 6100 * rs.length) ∧ Fr g (g + 1) w wr ∧ w.heap.size + 1 ≤ wr.heap.size) (fun _ i _ => (intOf i).toNat)
  case atStart => exact ⟨m0, _, _, _, _, [], rfl, rfl, hm0, F0, b4, hc.mono (by first | (simp; done) | (simp; omega)), f, by omega⟩
  clear F0 b4 hc f
  case round =>
    obtain ⟨m, vq, cs, L, U, rs, rfl, rfl, hm, hF, b4, hc, f, sz1⟩ := hrel
    obtain ⟨A8, c8, e8⟩ := hF.has.form
    obtain ⟨ln, hkk⟩ : ∃ x, rs.length = x := ⟨_, rfl⟩
    rw [hkk] at e8 hm hc
    subst e8
    have HKK := hid hkk
    clear hkk
    by_cases hlt : 0 < m
    rotate_left
    · obtain rfl : m = 0 := by omega
      have hm9 : ¬ ((0 : Nat) : Int) > 0 := by omega
      go_wp2_with fail
      refine (pick_any hc (by omega) (by omega)).mono ?_
      rintro e w2 ⟨v, rfl, hv, hn, ff⟩
      replace f := f.trans ff
      clear hc
      have hc := hn
      replace hF := hF.fr RwdR.ok ff (by omega)
      replace b4 := b4.fr ff (by first | omega | (simp; omega))
      have sf2 := ff.size
      try simp at sf2
      clear ff hn
      have sz2 := f.size
      have lt2 := b4.lt
      by_cases h0 : v = 0
      · subst h0
        clear hv
        by_cases hk0 : 0 < ln
        rotate_left
        · have hk9 : ¬ (ln : Int) > 0 := by omega
          have HF := hid (GrowR.lowB hF (by omega))
          have HC := hid hc
          have Hf := hid f
          clear hF hc f b4
          try go_wp2
          go_ret
          exact ⟨_, _, _, _, _, _, rs, rfl, HF.out, HKK.out, (show (rs).length ≤ 14 by have := HKK.out; omega), HC.out.mono (by omega), Hf.out⟩
        have hk9 : (ln : Int) > 0 := by omega
        obtain ⟨b, rfl, hb1, hb2, _, _⟩ := hF.cell0 (by rw [HKK.out]; exact hk0)
        have Lx : Ints (w2.alloc (.cells #[.int .i64 0, .int .i64 2, .int .i64 1000] 3)) w2.heap.size (w2.heap.size + 1) (some ⟨w2.heap.size, 0, none⟩) 3 [0, 2, 1000] := lit_ints w2 [0, 2, 1000] (by decide)
        replace f := f.keeps (keeps_alloc w2 (.cells #[.int .i64 0, .int .i64 2, .int .i64 1000] 3))
        replace hc := hc.keeps (keeps_alloc w2 (.cells #[.int .i64 0, .int .i64 2, .int .i64 1000] 3))
        replace hF := hF.keeps RwdR.ok (keeps_alloc w2 (.cells #[.int .i64 0, .int .i64 2, .int .i64 1000] 3))
        replace b4 := b4.keeps (keeps_alloc w2 (.cells #[.int .i64 0, .int .i64 2, .int .i64 1000] 3))
        go_wp2_with fail
        refine (among_any hc (by omega) Lx (by first | omega | (simp; omega)) (by omega) (by omega)).mono ?_
        rintro e w3 ⟨x9, xj, rfl, xh, xe, hn, ff⟩
        replace f := f.trans ff
        clear hc
        have hc := hn
        replace hF := hF.fr RwdR.ok ff (by omega)
        replace b4 := b4.fr ff (by first | omega | (simp; omega))
        have sf3 := ff.size
        try simp at sf3
        clear ff hn
        have sz3 := f.size
        have lt3 := b4.lt
        clear Lx xe xh
        obtain ⟨b2, eb, hb3, hb4, hcc, hff⟩ := hF.cell0 (by rw [HKK.out]; exact hk0)
        injection eb with eb
        injection eb with eb
        subst eb
        have hF9 := hF.ver (x := x9)
        have HL9 := hid (show (rs.set 0 (x9, (rs.getD 0 rl0).2)).length = ln by rw [List.length_set, HKK.out])
        have f9 := f.setNew (p := ⟨b, 0, none⟩) (by show _ ≤ b; omega) (.int .i64 x9)
        have hc9 := hc.fr (fr_one (p := b) (i := 0) (.int .i64 x9)) (by omega)
        clear b4
        have HF := hid (GrowR.lowB hF9 (by omega))
        have HC := hid hc9
        have Hf := hid f9
        clear hF hF9 hc hc9 f f9
        go_wp2
        go_ret
        exact ⟨_, _, _, _, _, _, _, rfl, HF.out, HL9.out, (show (rs.set 0 (x9, (rs.getD 0 rl0).2)).length ≤ 14 by have := HL9.out; omega), HC.out.mono (by omega), Hf.out⟩
      have t0_ : (v == 0) = false := by rw [beq_eq_false_iff_ne]; exact h0
      by_cases h1 : v = 1
      rotate_left
      · have t1_ : (v == 1) = false := by rw [beq_eq_false_iff_ne]; exact h1
        have HF := hid (GrowR.lowB hF (by omega))
        have HC := hid hc
        have Hf := hid f
        clear hF hc f b4
        try go_wp2
        go_ret
        exact ⟨_, _, _, _, _, _, rs, rfl, HF.out, HKK.out, (show (rs).length ≤ 14 by have := HKK.out; omega), HC.out.mono (by omega), Hf.out⟩
      subst h1
      clear hv h0 t0_
      have sz2 : w.heap.size + 1 ≤ w2.heap.size := by omega
      go_wp2_with fail
      go_loopw [7] (fun sv wz => ∃ (vq : Value) (cs : List Value) (L U : Nat → Nat) (rs : List RL), vq = sv ∧ rs.length ≤ 13 ∧ GrowR 6 rl0 RwdR wz w.heap.size (w.heap.size + 1) 50 vq cs L U rs ∧ B1 wz w.heap.size (.slice A2 a c0) ∧ Cur wz g (T + 20000 + 110 * rs.length) ∧ Fr g (g + 1) w wz ∧ w.heap.size + 1 ≤ wz.heap.size) (fun sv _ => 14 - lenOf sv)
      case atStart => exact ⟨_, _, _, _, rs, rfl, by rw [HKK.out]; omega, hF, b4, hc.mono (by rw [HKK.out]; omega), f, sz2⟩
      clear hF b4 hc f HKK
      case round =>
        obtain ⟨vq, cs, L, U, rs, rfl, hm2, hF, b4, hc, f, sz3⟩ := hrel
        obtain ⟨A8, c8, e8⟩ := hF.has.form
        obtain ⟨ln, hkk⟩ : ∃ x, rs.length = x := ⟨_, rfl⟩
        rw [hkk] at e8 hm2 hc
        subst e8
        have HKK := hid hkk
        clear hkk
        go_wp2_with fail
        refine (pick_any hc (by omega) (by omega)).mono ?_
        rintro e w3 ⟨x7, rfl, hx7, hn, ff⟩
        replace f := f.trans ff
        clear hc
        have hc := hn
        replace hF := hF.fr RwdR.ok ff (by omega)
        replace b4 := b4.fr ff (by first | omega | (simp; omega))
        have sf3 := ff.size
        try simp at sf3
        clear ff hn
        have sz3 := f.size
        have lt3 := b4.lt
        by_cases hcd : (ln : Int) < 12 + x7
        rotate_left
        · have HF := hid (GrowR.lowB hF (by omega))
          have HC := hid hc
          have Hf := hid f
          clear hF hc f b4
          try go_wp2
          go_ret
          exact ⟨_, _, _, _, _, _, rs, rfl, HF.out, HKK.out, (show (rs).length ≤ 14 by have := HKK.out; omega), HC.out.mono (by omega), Hf.out⟩
        go_wp2_with fail
        have lr := hid hF.lt
        refine (sNoLoss_any).mono ?_
        rintro e w4 ⟨rfl, kk⟩
        replace f := f.keeps kk
        replace hc := hc.keeps kk
        replace hF := hF.keeps RwdR.ok kk
        replace b4 := b4.keeps kk
        have sf4 := kk.size
        try simp at sf4
        clear kk
        have sz4 := f.size
        have lt4 := b4.lt
        have hcB := hc
        have fB := f
        go_wp2_with (at_builtin; refine append_rowR (a0 := ((ln : Int) + 1, [], 1, 1, 0, 1)) (x := w3.heap.size) (y := w3.heap.size) (new := [.int .i64 ((ln : Int) + 1), .slice none 0 0, .int .i64 1, .int .i64 1, .int .i64 0, .int .i64 1]) HIT.out rfl (by decide) (by decide) RwdR.ok hF (by rw [HKK.out]; omega) (by omega) rfl (fun y hy => by simp at hy; rcases hy with rfl | rfl | rfl | rfl | rfl | rfl <;> rfl) (by omega) (by omega) (fun g e => .inl (lr.out g e).2) ⟨none, 0, rfl, rfl, rfl, rfl, rfl, rfl, tabs_nil _ _ _ (by omega)⟩ _ _ rfl rfl Tryz.underlying36 rfl rfl ?_; intro v9 w9 cs9 L9 U9 hF9 hg9)
        have KB := hid (hF.below (by omega) hg9)
        have HF9 := hid hF9
        have f9 := hid (fB.below KB.out (by omega))
        have hc9 := hid (hcB.below KB.out (by omega))
        have s9 := KB.out.size
        have B49 := hid (b1_grown b4 hg9 (fun e => by have := lr.out _ e; omega))
        have HL9 := hid (show (rs ++ [((ln : Int) + 1, [], 1, 1, 0, 1)]).length = ln + 1 by rw [List.length_append, HKK.out]; rfl)
        clear hF hF9 hg9 b4 hc f hcB fB
        obtain ⟨A6, c6, e6⟩ := HF9.out.has.form
        rw [HL9.out] at e6
        subst e6
        try go_wp2_with fail
        go_roundw
        case rel => exact ⟨_, _, _, _, rs ++ [((ln : Int) + 1, [], 1, 1, 0, 1)], rfl, by rw [HL9.out]; omega, HF9.out, B49.out, hc9.out.mono (by have := HL9.out; omega), f9.out, by omega⟩
        case measure => simp [lenOf]; omega
    have hm9 : (m : Int) > 0 := by omega
    obtain ⟨ca2, fa2⟩ := id b4
    go_wp2_with fail
    clear ca2 fa2
    have lr := hid hF.lt
    refine (tables_any hc (by omega) (hG.fr f (by omega)) hg2 (hs.fr f (by omega)) hgl HD.out).mono ?_
    rintro e w3 ⟨P, nP, cP, cs1, L1, U1, ts, rfl, hP, hPl, hP21, hn, ff⟩
    replace f := f.trans ff
    clear hc
    have hc := hn
    replace hF := hF.fr RwdR.ok ff (by omega)
    replace b4 := b4.fr ff (by first | omega | (simp; omega))
    have sf3 := ff.size
    try simp at sf3
    clear ff hn
    have sz3 := f.size
    have lt3 := b4.lt
    go_wp2_with fail
    refine (loss_any hc (by omega)).mono ?_
    rintro e w4 ⟨a1, b1, c1, d1, rfl, hn, ff⟩
    replace f := f.trans ff
    clear hc
    have hc := hn
    replace hF := hF.fr RwdR.ok ff (by omega)
    replace hP := hP.fr RwdT.ok ff (by omega)
    replace b4 := b4.fr ff (by first | omega | (simp; omega))
    have sf4 := ff.size
    try simp at sf4
    clear ff hn
    have sz4 := f.size
    have lt4 := b4.lt
    have HRW := hid (hP.rowR ((ln : Int) + 1) a1 b1 c1 d1 hPl (by omega) (by omega))
    clear hP
    have hcB := hc
    have fB := f
    go_wp2_with (at_builtin; refine append_rowR (a0 := ((ln : Int) + 1, ts, a1, b1, c1, d1)) (x := wr.heap.size) (y := w4.heap.size) (new := [.int .i64 ((ln : Int) + 1), .slice P nP cP, .int .i64 a1, .int .i64 b1, .int .i64 c1, .int .i64 d1]) HIT.out rfl (by decide) (by decide) RwdR.ok hF (by rw [HKK.out]; omega) (by omega) rfl (fun y hy => by simp at hy; rcases hy with rfl | rfl | rfl | rfl | rfl | rfl <;> rfl) (by omega) (by omega) (fun g e => .inl (lr.out g e).2) HRW.out _ _ rfl rfl Tryz.underlying36 rfl rfl ?_; intro v9 w9 cs9 L9 U9 hF9 hg9)
    have KB := hid (hF.below (by omega) hg9)
    have HF9 := hid hF9
    have f9 := hid (fB.below KB.out (by omega))
    have hc9 := hid (hcB.below KB.out (by omega))
    have s9 := KB.out.size
    have B49 := hid (b1_grown b4 hg9 (fun e => by have := lr.out _ e; omega))
    have HL9 := hid (show (rs ++ [((ln : Int) + 1, ts, a1, b1, c1, d1)]).length = ln + 1 by rw [List.length_append, HKK.out]; rfl)
    clear hF hF9 hg9 b4 hc f hcB fB
    try go_wp2_with fail
    go_roundw
    case rel => exact ⟨m - 1, _, _, _, _, rs ++ [((ln : Int) + 1, ts, a1, b1, c1, d1)], rfl, by congr 1; omega, by rw [HL9.out]; omega, HF9.out, B49.out, hc9.out.mono (by have := HL9.out; omega), f9.out, by omega⟩
    case measure => simp [intOf]; omega
end Go.Proofs.YtlkjhkkfdmjfcaaGreatDoor
namespace Go.Proofs.YtlkjhkkfdmjfcaaGreatDoor
open Go.RowKit Go.Sort Go.Deep
set_option linter.unusedVariables false
set_option linter.unusedSimpArgs false
/-- What DrawIsHistory leaves. -/
def DrawsHi (w : World) (e : Ending) (w' : World) : Prop :=
  ∃ A N C ps S q cq l R n cr rs, e = .returned (.tuple #[.agg #[.slice A N C], .slice S q cq, .slice R n cr]) ∧ Ints w' w.heap.size w'.heap.size A N ps ∧ N ≤ 45 ∧ Vars w' w.heap.size w'.heap.size S q l ∧ (q ≤ cq ∧ cq ≤ maxLen) ∧ SchD l ∧ Rels true false w' w.heap.size w'.heap.size R n rs ∧ n ≤ cr ∧ n ≤ 14 ∧ Keeps w w'
theorem Tabs.wide {ex un : Bool} {w : World} {lo hi lo' hi' n : Nat} {A : Option Addr} {l : List TT} (h : Tabs ex un w lo hi A n l) (h1 : lo' ≤ lo) (h2 : hi ≤ hi') (h3 : hi' ≤ w.heap.size) : Tabs ex un w lo' hi' A n l := ⟨h.r.widen h1 h2 h3, h.len, h.le, h.sm⟩
theorem Rels.wide {ex un : Bool} {w : World} {lo hi lo' hi' n : Nat} {A : Option Addr} {l : List RL} (h : Rels ex un w lo hi A n l) (h1 : lo' ≤ lo) (h2 : hi ≤ hi') (h3 : hi' ≤ w.heap.size) : Rels ex un w lo' hi' A n l := ⟨h.r.widen h1 h2 h3, h.len, h.le, h.sm⟩
set_option maxRecDepth 100000 in
set_option maxHeartbeats 12800000 in
theorem DrawIsHistory_any {A : Option Addr} {hi n c : Nat} {w : World} (hb : Bytes w hi A n) :
    Calls Tryz.prog 56 #[.slice A n c] w (DrawsHi w) := by
  go_enter Tryz.func56, Tryz.ntmps56
  have kw := keeps_refl w
  replace kw := Keeps.trans kw (keeps_alloc w (.cells #[.slice none 0 0] 32))
  have b2 : Bl (w.alloc (.cells #[.slice none 0 0] 32)) (w.heap.size) [.slice none 0 0] := Bl.new' (by simp) (by simp)
  have hc := Cur.new (t := 99) (c := c) (hb.keeps kw)
  rw [show (w.alloc (.cells #[.slice none 0 0] 32)).heap.size = w.heap.size + 1 by simp] at hc
  replace b2 := b2.keeps (keeps_alloc (w.alloc (.cells #[.slice none 0 0] 32)) (.cells #[.slice A n c, .int .i64 0, .int .u64 0] 99))
  replace kw := Keeps.trans kw (keeps_alloc (w.alloc (.cells #[.slice none 0 0] 32)) (.cells #[.slice A n c, .int .i64 0, .int .u64 0] 99))
  have hbW := hb.keeps kw
  have E0 := hid (show ((w.alloc (.cells #[.slice none 0 0] 32)).alloc (.cells #[.slice A n c, .int .i64 0, .int .u64 0] 99)).heap.size = w.heap.size + 2 by simp)
  go_wp2_with fail
  refine (anySurvey_any hc (by omega)).mono ?_
  rintro e w1 ⟨A1, N1, C1, ps, S1, q, cq, l, D1, nd, cd, rfl, iG, hN, iS, hcap, hSD, hc1, ff⟩
  have sf1 := ff.size
  rw [E0.out] at iG iS sf1
  replace kw : Keeps w w1 := below_fr kw kw.size (by omega) ff
  replace b2 := b2.fr ff (by omega)
  have HSD := hid hSD
  have HCAP := hid hcap
  clear hc ff hSD hcap E0 hbW
  have hc := hc1
  clear hc1
  replace b2 := b2.keeps (keeps_alloc w1 (.cells #[.slice A1 N1 C1] 32))
  replace hc := hc.keeps (keeps_alloc w1 (.cells #[.slice A1 N1 C1] 32))
  replace iG := iG.keeps (keeps_alloc w1 (.cells #[.slice A1 N1 C1] 32))
  replace iS := iS.keeps (keeps_alloc w1 (.cells #[.slice A1 N1 C1] 32))
  replace kw := Keeps.trans kw (keeps_alloc w1 (.cells #[.slice A1 N1 C1] 32))
  have b9 : Bl (w1.alloc (.cells #[.slice A1 N1 C1] 32)) w1.heap.size [.slice A1 N1 C1] := Bl.new' (by simp) (by simp)
  go_wp2_with fail
  obtain ⟨w2, hX⟩ : ∃ u : World, u = w1.alloc (.cells #[.slice A1 N1 C1] 32) := ⟨_, rfl⟩
  have szX := hid (show w2.heap.size = w1.heap.size + 1 by rw [hX]; simp)
  rw [← hX] at b2
  rw [← hX] at hc
  rw [← hX] at iG
  rw [← hX] at iS
  rw [← hX] at kw
  rw [← hX] at b9
  rw [← hX]
  clear hX
  have sX := szX.out
  have b9D := b9.keeps (keeps_d0 w2)
  have b2D := b2.keeps (keeps_d0 w2)
  have hcD := hc.keeps (keeps_d0 w2)
  have iGD := iG.keeps (keeps_d0 w2)
  have iSD := iS.keeps (keeps_d0 w2)
  have kwD := Keeps.trans kw (keeps_d0 w2)
  have sD : w2.drew.heap.size = w2.heap.size := rfl
  have cD := (b9D.2 0 _ rfl).1
  clear hc b9 b2 iG iS kw
  go_region_held3 (fun w' => w'.cell? ⟨w1.heap.size, 0, none⟩ = some (.slice A1 N1 C1)) (first | exact cD | exact cB | exact cF | go_keep)
    ((first | (go_at_call 75; refine (history_any hcD (by omega) iGD (by omega) iSD (by omega) HSD.out).mono ?_; rintro e wB ⟨R, n7, cr, cs, L, U, rs, rfl, hR, hrl, hr14, hcB, fB⟩; have b9B := b9D.fr fB (by omega); have b2B := b2D.fr fB (by omega); have z1 := (b2B.2 0 _ rfl).1; have z2 := (b2B.2 0 _ rfl).2; have cB := (b9B.2 0 _ rfl).1; have cF := ((b9B.far (p := ⟨w.heap.size, 0, none⟩) (by show w1.heap.size ≠ w.heap.size; omega) (.slice A1 N1 C1)).2 0 _ rfl).1)))
  have sB := fB.size
  obtain ⟨R8, cr8, eq8, hcr8, hRR⟩ := hR.rels (by omega) (by omega)
  injection eq8 with eq1 eq9 eq2
  subst eq1 eq2
  rw [hrl] at hRR hcr8
  have KW := hid (Below.setCell (below_fr kwD kwD.size (by omega) fB) (p := ⟨w.heap.size, 0, none⟩) (Nat.le_refl _) (.slice A1 N1 C1))
  have HI9 := hid (((iGD.fr fB (by omega)).fr (fr_one (p := w.heap.size) (i := 0) (.slice A1 N1 C1)) (by omega)).widen (lo' := w.heap.size) (hi' := (wB.setCell ⟨w.heap.size, 0, none⟩ (.slice A1 N1 C1)).heap.size) (by omega) (by simp [World.setCell]; omega) (Nat.le_refl _))
  have HV9 := hid (Sl.widen (lo' := w.heap.size) (hi' := (wB.setCell ⟨w.heap.size, 0, none⟩ (.slice A1 N1 C1)).heap.size) (Sl.fr (Sl.fr iSD fB (by omega)) (fr_one (p := w.heap.size) (i := 0) (.slice A1 N1 C1)) (by omega)) (by omega) (by simp [World.setCell]; omega) (Nat.le_refl _))
  have HR9 := hid (Rels.wide (lo' := w.heap.size) (hi' := (wB.setCell ⟨w.heap.size, 0, none⟩ (.slice A1 N1 C1)).heap.size) (hRR.fr (fr_one (p := w.heap.size) (i := 0) (.slice A1 N1 C1)) (by omega)) (by omega) (by simp [World.setCell]) (Nat.le_refl _))
  have HCR := hid hcr8
  have B2 := b2B.set 0 (.slice A1 N1 C1)
  have c9 := (B2.2 0 _ rfl).1
  clear hR hRR hcr8 hcB fB b9B b2B b9D b2D hcD iGD iSD cD cB cF z1 z2 kwD B2 eq9
  go_wp2_with fail
  try simp only [Exit.inBlock, Exit.then]
  exact bodyPost_ret (v := .tuple #[.agg #[.slice A1 N1 C1], .slice S1 q cq, .slice R n7 cr]) (by simp [results, Tryz.results56, go_sem, c9]) rfl ⟨_, _, _, _, _, _, _, _, _, _, _, rs, rfl, HI9.out, by omega, HV9.out, HCAP.out, HSD.out, HR9.out, HCR.out, by omega, KW.out⟩
end Go.Proofs.YtlkjhkkfdmjfcaaGreatDoor
