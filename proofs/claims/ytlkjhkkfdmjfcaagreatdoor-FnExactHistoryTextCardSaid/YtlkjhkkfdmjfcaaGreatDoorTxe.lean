/- The levels of a set and their text: walks. -/
import Derived.Test.YtlkjhkkfdmjfcaaGreatDoorTxp
import Derived.Test.YtlkjhkkfdmjfcaaGreatDoorShl
import Derived.Test.YtlkjhkkfdmjfcaaGreatDoorKA
namespace Go.Proofs.YtlkjhkkfdmjfcaaGreatDoor
open Go.RowKit
set_option linter.unusedVariables false
set_option linter.unusedSimpArgs false
def lvI (s : Int) (k : Nat) : List Int := (bitsTo s k).map fun x : Nat => (x : Int)
theorem lvI_yes {s : Int} {k : Nat} (h : bitB s k = true) : lvI s (k + 1) = lvI s k ++ [(k : Int)] := by unfold lvI; rw [bitsTo_yes h]; simp
theorem lvI_no {s : Int} {k : Nat} (h : bitB s k = false) : lvI s (k + 1) = lvI s k := by unfold lvI; rw [bitsTo_no h]
theorem lvI_len (s : Int) (k : Nat) : (lvI s k).length ≤ k := by unfold lvI; rw [List.length_map]; exact bitsTo_len s k
theorem lvI_stop {s : Int} {k : Nat} (h0 : 0 ≤ s) (hk : k ≤ 8) (h : ¬ 0 < s / 2 ^ k) : lvI s 8 = lvI s k := by unfold lvI; rw [bitsTo_stop h0 h 8 hk]
theorem digs_yes {s : Int} {k : Nat} (h : bitB s k = true) : digs s (k + 1) = digs s k ++ [Lib.decDigits k] := by unfold digs; rw [bitsTo_yes h]; simp
theorem digs_no {s : Int} {k : Nat} (h : bitB s k = false) : digs s (k + 1) = digs s k := by unfold digs; rw [bitsTo_no h]
/-- Strings of one's own. -/
abbrev HasS (w : World) (B : Nat) (v : Value) (xs : List (List UInt8)) : Prop := Has w B 9 1 v xs.length (xs.map fun d => Value.string (bs d))
theorem info_str : (Tryz.prog.info? 9).map (fun i => (i.zero, i.size, i.bytes)) = some (some (.string { data := #[] }), 1, 16) := by kernel_rfl
theorem append_str {w0 : World} {ops : Array Oper} {rest : List Oper} {o : Oper} {a : Act} {Q : Exit → Act → World → Prop} {B : Nat} {v : Value} {xs : List (List UInt8)} {s : ByteArray} (d : List UInt8) (hd : s = bs d)
    (hown : HasS w0 B v xs) (hn : xs.length ≤ 67108864) (hB : B ≤ w0.heap.size)
    (r x : Operand) (hgd : o.guard = none)
    (ho : o.op = .call { callee := .builtin .append, args := #[r, x], argTypes := #[151, 151] })
    (hs : a.eval r = v) (hx : a.eval x = .slice (some ⟨w0.heap.size, 0, none⟩) 1 1)
    (h : ∀ v' w', HasS w' B v' (xs ++ [d]) → Below B w0 w' → wpList Tryz.prog ops Q rest (a.put o.dst v') w') : wpList Tryz.prog ops Q (o :: rest) a (w0.alloc (.cells #[.string s] 9)) :=
  append_one (cs := [.string s]) hown rfl info_str rfl (by omega) r x 151 hgd ho Tryz.underlying151 hs hx (fun y hy => by simp at hy; subst hy; rfl) hn (by omega) hB (fun v' w' h2 h3 => h v' w' (by
    subst hd
    have e : (xs ++ [d]).map (fun d => Value.string (bs d)) = xs.map (fun d => Value.string (bs d)) ++ [.string (bs d)] := by simp
    unfold HasS
    rw [e, List.length_append, List.length_singleton]
    exact h2) h3)
/-- Strings of one's own, joined by commas. -/
theorem join_own {w : World} {B m : Nat} {v : Value} {xs : List (List UInt8)} (hown : HasS w B v xs) (hB : B ≤ w.heap.size) (hn : xs.length ≤ 67108864) (hm : ∀ x ∈ xs, x.length ≤ m) (hm2 : m ≤ 1000) :
    ∃ A c, v = .slice A xs.length c ∧ Calls Tryz.prog 106 #[.slice A xs.length c, .string { data := #[44] }] w fun e w' => e = .returned (.string (bs (joinC xs))) ∧ Keeps w w' := by
  obtain ⟨A, c, rfl⟩ := hown.form
  refine ⟨A, c, rfl, ?_⟩
  by_cases h0 : xs = []
  · subst h0
    exact join_none.mono fun e w' ⟨he, hw⟩ => ⟨he, hw ▸ keeps_refl _⟩
  · have hl : 0 < xs.length := by cases xs with | nil => exact absurd rfl h0 | cons x r => simp
    rcases hown.2 with ⟨h3, h4⟩ | ⟨g, cap, cur, hv, hb, hg, hcap, hmax, hsz, htk⟩
    · omega
    · injection hv with e1 e2 e3
      subst e1 e3
      have hlen := joinC_len hm
      have e4 : (xs.map bs).length = xs.length := List.length_map _
      have e5 : ((xs.map bs).map (·.data.toList)) = xs := by rw [List.map_map]; exact (List.map_congr_left (fun a _ => by simp [bs])).trans (List.map_id _)
      have key := join_any (bk := g) (o := 0) (c := c) (xs := xs.map bs) (sep := { data := #[44] }) (w := w) (fun j x hj => by
        have hx : (xs.map fun d => Value.string (bs d))[j]? = some (.string x) := by
          rw [List.getElem?_map] at hj ⊢
          cases e6 : xs[j]? with
          | none => rw [e6] at hj; cases hj
          | some d => rw [e6] at hj; simp at hj; subst hj; rfl
        have := hown.cells (g := g) rfl j _ hx
        rwa [Addr.add_lit] at this) ((hown.lt g rfl).2) (by rw [e4]; omega) (by rw [e4]; exact hcap) (by
          rw [e5]
          show (joinC xs).length ≤ _
          have h7 : xs.length * (m + 1) ≤ 67108864 * 1001 := Nat.mul_le_mul hn (by omega)
          omega)
      rw [e4, e5] at key
      exact key

/-- The levels of a set, gathered. -/
def EvRes (w : World) (s : Int) (e : Ending) (w' : World) : Prop := ∃ A c, e = .returned (.slice A (lvI s 8).length c) ∧ Ints w' w.heap.size w'.heap.size A (lvI s 8).length (lvI s 8) ∧ Keeps w w'
set_option maxRecDepth 100000 in
set_option maxHeartbeats 6400000 in
theorem eLevels_any {s : Int} {w : World} (h : 0 ≤ s ∧ s ≤ 255) :
    Calls Tryz.prog 100 #[.int .i64 s] w (EvRes w s) := by
  go_enter Tryz.func100, Tryz.ntmps100
  have kw := keeps_refl w
  go_wp2_with fail
  go_loopw [3, 4] (fun v i wr => ∃ k : Nat, k ≤ 8 ∧ i = .int .i64 k ∧ Has wr w.heap.size 3 1 v (lvI s k).length ((lvI s k).map (Value.int .i64)) ∧ Keeps w wr) (fun _ i _ => 9 - (intOf i).toNat)
  case atStart => exact ⟨0, Nat.zero_le _, rfl, World.ownsRow_nil _ _ _ _, kw⟩
  clear kw
  case round =>
    obtain ⟨k, hk, rfl, hown, kw⟩ := hrel
    have hks := kw.size
    have hkl := lvI_len s k
    have key : k = 0 ∨ k = 1 ∨ k = 2 ∨ k = 3 ∨ k = 4 ∨ k = 5 ∨ k = 6 ∨ k = 7 ∨ k = 8 := by omega
    rcases key with rfl | rfl | rfl | rfl | rfl | rfl | rfl | rfl | rfl
    · by_cases hp : 0 < s
      rotate_left
      · have HS := hid (lvI_stop (k := 0) h.1 (by omega) (by simpa using hp))
        rw [← HS.out] at hown
        have hkl8 := lvI_len s 8
        obtain ⟨A', c', rfl⟩ := hown.form
        have HM := hid ((Mine.of_own hown (by omega)).1)
        clear hown
        go_wp2
        go_ret
        exact ⟨A', c', rfl, HM.out, kw⟩
      cases hbit : bitB s 0
      · have t1 : (bits BinOp.and IntKind.i64 (s) 1 == 1) = false := by simpa [bitB] using hbit
        have HK := hid (lvI_no hbit)
        rw [← HK.out] at hown
        clear hbit
        go_wp2
        go_roundw
        case rel => exact ⟨0 + 1, by omega, by go_num, hown, kw⟩
        case measure => simp [intOf]
      · have t1 : (bits BinOp.and IntKind.i64 (s) 1 == 1) = true := by simpa [bitB] using hbit
        have HK := hid (lvI_yes hbit)
        clear hbit
        go_wp2_with (at_builtin; refine append_int (xs := lvI s 0) hown (by omega) (by omega) _ _ rfl rfl rfl rfl ?_; intro v' w' hown' hb')
        have H1 := hid hown'
        rw [show (lvI s 0).length + 1 = (lvI s 0 ++ [((0 : Nat) : Int)]).length by simp] at H1
        replace H1 := hid (show Has w' w.heap.size 3 1 v' (lvI s (0 + 1)).length ((lvI s (0 + 1)).map (Value.int .i64)) by rw [HK.out]; exact H1.out)
        have H2 := hid (Below.trans kw hb')
        clear hown' hb' kw hown
        go_wp2
        go_roundw
        case rel => exact ⟨0 + 1, by omega, by go_num, H1.out, H2.out⟩
        case measure => simp [intOf]
    · by_cases hp : 0 < s / 2
      rotate_left
      · have HS := hid (lvI_stop (k := 1) h.1 (by omega) (by simpa using hp))
        rw [← HS.out] at hown
        have hkl8 := lvI_len s 8
        obtain ⟨A', c', rfl⟩ := hown.form
        have HM := hid ((Mine.of_own hown (by omega)).1)
        clear hown
        go_wp2
        go_ret
        exact ⟨A', c', rfl, HM.out, kw⟩
      cases hbit : bitB s 1
      · have t1 : (bits BinOp.and IntKind.i64 (s / 2) 1 == 1) = false := by simpa [bitB] using hbit
        have HK := hid (lvI_no hbit)
        rw [← HK.out] at hown
        clear hbit
        go_wp2
        go_roundw
        case rel => exact ⟨1 + 1, by omega, by go_num, hown, kw⟩
        case measure => simp [intOf]
      · have t1 : (bits BinOp.and IntKind.i64 (s / 2) 1 == 1) = true := by simpa [bitB] using hbit
        have HK := hid (lvI_yes hbit)
        clear hbit
        go_wp2_with (at_builtin; refine append_int (xs := lvI s 1) hown (by omega) (by omega) _ _ rfl rfl rfl rfl ?_; intro v' w' hown' hb')
        have H1 := hid hown'
        rw [show (lvI s 1).length + 1 = (lvI s 1 ++ [((1 : Nat) : Int)]).length by simp] at H1
        replace H1 := hid (show Has w' w.heap.size 3 1 v' (lvI s (1 + 1)).length ((lvI s (1 + 1)).map (Value.int .i64)) by rw [HK.out]; exact H1.out)
        have H2 := hid (Below.trans kw hb')
        clear hown' hb' kw hown
        go_wp2
        go_roundw
        case rel => exact ⟨1 + 1, by omega, by go_num, H1.out, H2.out⟩
        case measure => simp [intOf]
    · by_cases hp : 0 < s / 4
      rotate_left
      · have HS := hid (lvI_stop (k := 2) h.1 (by omega) (by simpa using hp))
        rw [← HS.out] at hown
        have hkl8 := lvI_len s 8
        obtain ⟨A', c', rfl⟩ := hown.form
        have HM := hid ((Mine.of_own hown (by omega)).1)
        clear hown
        go_wp2
        go_ret
        exact ⟨A', c', rfl, HM.out, kw⟩
      cases hbit : bitB s 2
      · have t1 : (bits BinOp.and IntKind.i64 (s / 4) 1 == 1) = false := by simpa [bitB] using hbit
        have HK := hid (lvI_no hbit)
        rw [← HK.out] at hown
        clear hbit
        go_wp2
        go_roundw
        case rel => exact ⟨2 + 1, by omega, by go_num, hown, kw⟩
        case measure => simp [intOf]
      · have t1 : (bits BinOp.and IntKind.i64 (s / 4) 1 == 1) = true := by simpa [bitB] using hbit
        have HK := hid (lvI_yes hbit)
        clear hbit
        go_wp2_with (at_builtin; refine append_int (xs := lvI s 2) hown (by omega) (by omega) _ _ rfl rfl rfl rfl ?_; intro v' w' hown' hb')
        have H1 := hid hown'
        rw [show (lvI s 2).length + 1 = (lvI s 2 ++ [((2 : Nat) : Int)]).length by simp] at H1
        replace H1 := hid (show Has w' w.heap.size 3 1 v' (lvI s (2 + 1)).length ((lvI s (2 + 1)).map (Value.int .i64)) by rw [HK.out]; exact H1.out)
        have H2 := hid (Below.trans kw hb')
        clear hown' hb' kw hown
        go_wp2
        go_roundw
        case rel => exact ⟨2 + 1, by omega, by go_num, H1.out, H2.out⟩
        case measure => simp [intOf]
    · by_cases hp : 0 < s / 8
      rotate_left
      · have HS := hid (lvI_stop (k := 3) h.1 (by omega) (by simpa using hp))
        rw [← HS.out] at hown
        have hkl8 := lvI_len s 8
        obtain ⟨A', c', rfl⟩ := hown.form
        have HM := hid ((Mine.of_own hown (by omega)).1)
        clear hown
        go_wp2
        go_ret
        exact ⟨A', c', rfl, HM.out, kw⟩
      cases hbit : bitB s 3
      · have t1 : (bits BinOp.and IntKind.i64 (s / 8) 1 == 1) = false := by simpa [bitB] using hbit
        have HK := hid (lvI_no hbit)
        rw [← HK.out] at hown
        clear hbit
        go_wp2
        go_roundw
        case rel => exact ⟨3 + 1, by omega, by go_num, hown, kw⟩
        case measure => simp [intOf]
      · have t1 : (bits BinOp.and IntKind.i64 (s / 8) 1 == 1) = true := by simpa [bitB] using hbit
        have HK := hid (lvI_yes hbit)
        clear hbit
        go_wp2_with (at_builtin; refine append_int (xs := lvI s 3) hown (by omega) (by omega) _ _ rfl rfl rfl rfl ?_; intro v' w' hown' hb')
        have H1 := hid hown'
        rw [show (lvI s 3).length + 1 = (lvI s 3 ++ [((3 : Nat) : Int)]).length by simp] at H1
        replace H1 := hid (show Has w' w.heap.size 3 1 v' (lvI s (3 + 1)).length ((lvI s (3 + 1)).map (Value.int .i64)) by rw [HK.out]; exact H1.out)
        have H2 := hid (Below.trans kw hb')
        clear hown' hb' kw hown
        go_wp2
        go_roundw
        case rel => exact ⟨3 + 1, by omega, by go_num, H1.out, H2.out⟩
        case measure => simp [intOf]
    · by_cases hp : 0 < s / 16
      rotate_left
      · have HS := hid (lvI_stop (k := 4) h.1 (by omega) (by simpa using hp))
        rw [← HS.out] at hown
        have hkl8 := lvI_len s 8
        obtain ⟨A', c', rfl⟩ := hown.form
        have HM := hid ((Mine.of_own hown (by omega)).1)
        clear hown
        go_wp2
        go_ret
        exact ⟨A', c', rfl, HM.out, kw⟩
      cases hbit : bitB s 4
      · have t1 : (bits BinOp.and IntKind.i64 (s / 16) 1 == 1) = false := by simpa [bitB] using hbit
        have HK := hid (lvI_no hbit)
        rw [← HK.out] at hown
        clear hbit
        go_wp2
        go_roundw
        case rel => exact ⟨4 + 1, by omega, by go_num, hown, kw⟩
        case measure => simp [intOf]
      · have t1 : (bits BinOp.and IntKind.i64 (s / 16) 1 == 1) = true := by simpa [bitB] using hbit
        have HK := hid (lvI_yes hbit)
        clear hbit
        go_wp2_with (at_builtin; refine append_int (xs := lvI s 4) hown (by omega) (by omega) _ _ rfl rfl rfl rfl ?_; intro v' w' hown' hb')
        have H1 := hid hown'
        rw [show (lvI s 4).length + 1 = (lvI s 4 ++ [((4 : Nat) : Int)]).length by simp] at H1
        replace H1 := hid (show Has w' w.heap.size 3 1 v' (lvI s (4 + 1)).length ((lvI s (4 + 1)).map (Value.int .i64)) by rw [HK.out]; exact H1.out)
        have H2 := hid (Below.trans kw hb')
        clear hown' hb' kw hown
        go_wp2
        go_roundw
        case rel => exact ⟨4 + 1, by omega, by go_num, H1.out, H2.out⟩
        case measure => simp [intOf]
    · by_cases hp : 0 < s / 32
      rotate_left
      · have HS := hid (lvI_stop (k := 5) h.1 (by omega) (by simpa using hp))
        rw [← HS.out] at hown
        have hkl8 := lvI_len s 8
        obtain ⟨A', c', rfl⟩ := hown.form
        have HM := hid ((Mine.of_own hown (by omega)).1)
        clear hown
        go_wp2
        go_ret
        exact ⟨A', c', rfl, HM.out, kw⟩
      cases hbit : bitB s 5
      · have t1 : (bits BinOp.and IntKind.i64 (s / 32) 1 == 1) = false := by simpa [bitB] using hbit
        have HK := hid (lvI_no hbit)
        rw [← HK.out] at hown
        clear hbit
        go_wp2
        go_roundw
        case rel => exact ⟨5 + 1, by omega, by go_num, hown, kw⟩
        case measure => simp [intOf]
      · have t1 : (bits BinOp.and IntKind.i64 (s / 32) 1 == 1) = true := by simpa [bitB] using hbit
        have HK := hid (lvI_yes hbit)
        clear hbit
        go_wp2_with (at_builtin; refine append_int (xs := lvI s 5) hown (by omega) (by omega) _ _ rfl rfl rfl rfl ?_; intro v' w' hown' hb')
        have H1 := hid hown'
        rw [show (lvI s 5).length + 1 = (lvI s 5 ++ [((5 : Nat) : Int)]).length by simp] at H1
        replace H1 := hid (show Has w' w.heap.size 3 1 v' (lvI s (5 + 1)).length ((lvI s (5 + 1)).map (Value.int .i64)) by rw [HK.out]; exact H1.out)
        have H2 := hid (Below.trans kw hb')
        clear hown' hb' kw hown
        go_wp2
        go_roundw
        case rel => exact ⟨5 + 1, by omega, by go_num, H1.out, H2.out⟩
        case measure => simp [intOf]
    · by_cases hp : 0 < s / 64
      rotate_left
      · have HS := hid (lvI_stop (k := 6) h.1 (by omega) (by simpa using hp))
        rw [← HS.out] at hown
        have hkl8 := lvI_len s 8
        obtain ⟨A', c', rfl⟩ := hown.form
        have HM := hid ((Mine.of_own hown (by omega)).1)
        clear hown
        go_wp2
        go_ret
        exact ⟨A', c', rfl, HM.out, kw⟩
      cases hbit : bitB s 6
      · have t1 : (bits BinOp.and IntKind.i64 (s / 64) 1 == 1) = false := by simpa [bitB] using hbit
        have HK := hid (lvI_no hbit)
        rw [← HK.out] at hown
        clear hbit
        go_wp2
        go_roundw
        case rel => exact ⟨6 + 1, by omega, by go_num, hown, kw⟩
        case measure => simp [intOf]
      · have t1 : (bits BinOp.and IntKind.i64 (s / 64) 1 == 1) = true := by simpa [bitB] using hbit
        have HK := hid (lvI_yes hbit)
        clear hbit
        go_wp2_with (at_builtin; refine append_int (xs := lvI s 6) hown (by omega) (by omega) _ _ rfl rfl rfl rfl ?_; intro v' w' hown' hb')
        have H1 := hid hown'
        rw [show (lvI s 6).length + 1 = (lvI s 6 ++ [((6 : Nat) : Int)]).length by simp] at H1
        replace H1 := hid (show Has w' w.heap.size 3 1 v' (lvI s (6 + 1)).length ((lvI s (6 + 1)).map (Value.int .i64)) by rw [HK.out]; exact H1.out)
        have H2 := hid (Below.trans kw hb')
        clear hown' hb' kw hown
        go_wp2
        go_roundw
        case rel => exact ⟨6 + 1, by omega, by go_num, H1.out, H2.out⟩
        case measure => simp [intOf]
    · by_cases hp : 0 < s / 128
      rotate_left
      · have HS := hid (lvI_stop (k := 7) h.1 (by omega) (by simpa using hp))
        rw [← HS.out] at hown
        have hkl8 := lvI_len s 8
        obtain ⟨A', c', rfl⟩ := hown.form
        have HM := hid ((Mine.of_own hown (by omega)).1)
        clear hown
        go_wp2
        go_ret
        exact ⟨A', c', rfl, HM.out, kw⟩
      cases hbit : bitB s 7
      · have t1 : (bits BinOp.and IntKind.i64 (s / 128) 1 == 1) = false := by simpa [bitB] using hbit
        have HK := hid (lvI_no hbit)
        rw [← HK.out] at hown
        clear hbit
        go_wp2
        go_roundw
        case rel => exact ⟨7 + 1, by omega, by go_num, hown, kw⟩
        case measure => simp [intOf]
      · have t1 : (bits BinOp.and IntKind.i64 (s / 128) 1 == 1) = true := by simpa [bitB] using hbit
        have HK := hid (lvI_yes hbit)
        clear hbit
        go_wp2_with (at_builtin; refine append_int (xs := lvI s 7) hown (by omega) (by omega) _ _ rfl rfl rfl rfl ?_; intro v' w' hown' hb')
        have H1 := hid hown'
        rw [show (lvI s 7).length + 1 = (lvI s 7 ++ [((7 : Nat) : Int)]).length by simp] at H1
        replace H1 := hid (show Has w' w.heap.size 3 1 v' (lvI s (7 + 1)).length ((lvI s (7 + 1)).map (Value.int .i64)) by rw [HK.out]; exact H1.out)
        have H2 := hid (Below.trans kw hb')
        clear hown' hb' kw hown
        go_wp2
        go_roundw
        case rel => exact ⟨7 + 1, by omega, by go_num, H1.out, H2.out⟩
        case measure => simp [intOf]
    · by_cases hp : 0 < s / 256
      rotate_left
      · have HS := hid (lvI_stop (k := 8) h.1 (by omega) (by simpa using hp))
        rw [← HS.out] at hown
        have hkl8 := lvI_len s 8
        obtain ⟨A', c', rfl⟩ := hown.form
        have HM := hid ((Mine.of_own hown (by omega)).1)
        clear hown
        go_wp2
        go_ret
        exact ⟨A', c', rfl, HM.out, kw⟩
      · omega
set_option maxRecDepth 100000 in
set_option maxHeartbeats 6400000 in
theorem setText_any {s : Int} {w : World} (h : 0 ≤ s ∧ s ≤ 255) :
    Calls Tryz.prog 107 #[.int .i64 s] w fun e w' => e = .returned (.string (bs (setT s))) ∧ Keeps w w' := by
  go_enter Tryz.func107, Tryz.ntmps107
  have kw := keeps_refl w
  go_wp2_with fail
  go_loopw [3, 5] (fun v i wr => ∃ k : Nat, k ≤ 8 ∧ i = .int .i64 k ∧ HasS wr w.heap.size v (digs s k) ∧ Keeps w wr) (fun _ i _ => 9 - (intOf i).toNat)
  case atStart => exact ⟨0, Nat.zero_le _, rfl, World.ownsRow_nil _ _ _ _, kw⟩
  clear kw
  case round =>
    obtain ⟨k, hk, rfl, hown, kw⟩ := hrel
    have hks := kw.size
    have hkl := digs_len s k
    have key : k = 0 ∨ k = 1 ∨ k = 2 ∨ k = 3 ∨ k = 4 ∨ k = 5 ∨ k = 6 ∨ k = 7 ∨ k = 8 := by omega
    rcases key with rfl | rfl | rfl | rfl | rfl | rfl | rfl | rfl | rfl
    · cases hbit : bitB s 0
      · have t1 : (bits BinOp.and IntKind.i64 (s) 1 == 1) = false := by simpa [bitB] using hbit
        have HK := hid (digs_no hbit)
        rw [← HK.out] at hown
        clear hbit
        go_wp2
        go_roundw
        case rel => exact ⟨0 + 1, by omega, by go_num, hown, kw⟩
        case measure => simp [intOf]
      · have t1 : (bits BinOp.and IntKind.i64 (s) 1 == 1) = true := by simpa [bitB] using hbit
        have HK := hid (digs_yes hbit)
        have HU := hid (show Utf8.encode 48 = bs (Lib.decDigits 0) by rw [Lib.decDigits_one (by omega)]; first | rfl | decide | kernel_rfl)
        clear hbit
        go_wp2_with (at_builtin; refine append_str (Lib.decDigits 0) HU.out hown (by omega) (by omega) _ _ rfl rfl rfl rfl ?_; intro v' w' hown' hb')
        rw [← HK.out] at hown'
        have H1 := hid hown'
        have H2 := hid (Below.trans kw hb')
        clear hown' hb' kw hown
        go_wp2
        go_roundw
        case rel => exact ⟨0 + 1, by omega, by go_num, H1.out, H2.out⟩
        case measure => simp [intOf]
    · cases hbit : bitB s 1
      · have t1 : (bits BinOp.and IntKind.i64 (s / 2) 1 == 1) = false := by simpa [bitB] using hbit
        have HK := hid (digs_no hbit)
        rw [← HK.out] at hown
        clear hbit
        go_wp2
        go_roundw
        case rel => exact ⟨1 + 1, by omega, by go_num, hown, kw⟩
        case measure => simp [intOf]
      · have t1 : (bits BinOp.and IntKind.i64 (s / 2) 1 == 1) = true := by simpa [bitB] using hbit
        have HK := hid (digs_yes hbit)
        have HU := hid (show Utf8.encode 49 = bs (Lib.decDigits 1) by rw [Lib.decDigits_one (by omega)]; first | rfl | decide | kernel_rfl)
        clear hbit
        go_wp2_with (at_builtin; refine append_str (Lib.decDigits 1) HU.out hown (by omega) (by omega) _ _ rfl rfl rfl rfl ?_; intro v' w' hown' hb')
        rw [← HK.out] at hown'
        have H1 := hid hown'
        have H2 := hid (Below.trans kw hb')
        clear hown' hb' kw hown
        go_wp2
        go_roundw
        case rel => exact ⟨1 + 1, by omega, by go_num, H1.out, H2.out⟩
        case measure => simp [intOf]
    · cases hbit : bitB s 2
      · have t1 : (bits BinOp.and IntKind.i64 (s / 4) 1 == 1) = false := by simpa [bitB] using hbit
        have HK := hid (digs_no hbit)
        rw [← HK.out] at hown
        clear hbit
        go_wp2
        go_roundw
        case rel => exact ⟨2 + 1, by omega, by go_num, hown, kw⟩
        case measure => simp [intOf]
      · have t1 : (bits BinOp.and IntKind.i64 (s / 4) 1 == 1) = true := by simpa [bitB] using hbit
        have HK := hid (digs_yes hbit)
        have HU := hid (show Utf8.encode 50 = bs (Lib.decDigits 2) by rw [Lib.decDigits_one (by omega)]; first | rfl | decide | kernel_rfl)
        clear hbit
        go_wp2_with (at_builtin; refine append_str (Lib.decDigits 2) HU.out hown (by omega) (by omega) _ _ rfl rfl rfl rfl ?_; intro v' w' hown' hb')
        rw [← HK.out] at hown'
        have H1 := hid hown'
        have H2 := hid (Below.trans kw hb')
        clear hown' hb' kw hown
        go_wp2
        go_roundw
        case rel => exact ⟨2 + 1, by omega, by go_num, H1.out, H2.out⟩
        case measure => simp [intOf]
    · cases hbit : bitB s 3
      · have t1 : (bits BinOp.and IntKind.i64 (s / 8) 1 == 1) = false := by simpa [bitB] using hbit
        have HK := hid (digs_no hbit)
        rw [← HK.out] at hown
        clear hbit
        go_wp2
        go_roundw
        case rel => exact ⟨3 + 1, by omega, by go_num, hown, kw⟩
        case measure => simp [intOf]
      · have t1 : (bits BinOp.and IntKind.i64 (s / 8) 1 == 1) = true := by simpa [bitB] using hbit
        have HK := hid (digs_yes hbit)
        have HU := hid (show Utf8.encode 51 = bs (Lib.decDigits 3) by rw [Lib.decDigits_one (by omega)]; first | rfl | decide | kernel_rfl)
        clear hbit
        go_wp2_with (at_builtin; refine append_str (Lib.decDigits 3) HU.out hown (by omega) (by omega) _ _ rfl rfl rfl rfl ?_; intro v' w' hown' hb')
        rw [← HK.out] at hown'
        have H1 := hid hown'
        have H2 := hid (Below.trans kw hb')
        clear hown' hb' kw hown
        go_wp2
        go_roundw
        case rel => exact ⟨3 + 1, by omega, by go_num, H1.out, H2.out⟩
        case measure => simp [intOf]
    · cases hbit : bitB s 4
      · have t1 : (bits BinOp.and IntKind.i64 (s / 16) 1 == 1) = false := by simpa [bitB] using hbit
        have HK := hid (digs_no hbit)
        rw [← HK.out] at hown
        clear hbit
        go_wp2
        go_roundw
        case rel => exact ⟨4 + 1, by omega, by go_num, hown, kw⟩
        case measure => simp [intOf]
      · have t1 : (bits BinOp.and IntKind.i64 (s / 16) 1 == 1) = true := by simpa [bitB] using hbit
        have HK := hid (digs_yes hbit)
        have HU := hid (show Utf8.encode 52 = bs (Lib.decDigits 4) by rw [Lib.decDigits_one (by omega)]; first | rfl | decide | kernel_rfl)
        clear hbit
        go_wp2_with (at_builtin; refine append_str (Lib.decDigits 4) HU.out hown (by omega) (by omega) _ _ rfl rfl rfl rfl ?_; intro v' w' hown' hb')
        rw [← HK.out] at hown'
        have H1 := hid hown'
        have H2 := hid (Below.trans kw hb')
        clear hown' hb' kw hown
        go_wp2
        go_roundw
        case rel => exact ⟨4 + 1, by omega, by go_num, H1.out, H2.out⟩
        case measure => simp [intOf]
    · cases hbit : bitB s 5
      · have t1 : (bits BinOp.and IntKind.i64 (s / 32) 1 == 1) = false := by simpa [bitB] using hbit
        have HK := hid (digs_no hbit)
        rw [← HK.out] at hown
        clear hbit
        go_wp2
        go_roundw
        case rel => exact ⟨5 + 1, by omega, by go_num, hown, kw⟩
        case measure => simp [intOf]
      · have t1 : (bits BinOp.and IntKind.i64 (s / 32) 1 == 1) = true := by simpa [bitB] using hbit
        have HK := hid (digs_yes hbit)
        have HU := hid (show Utf8.encode 53 = bs (Lib.decDigits 5) by rw [Lib.decDigits_one (by omega)]; first | rfl | decide | kernel_rfl)
        clear hbit
        go_wp2_with (at_builtin; refine append_str (Lib.decDigits 5) HU.out hown (by omega) (by omega) _ _ rfl rfl rfl rfl ?_; intro v' w' hown' hb')
        rw [← HK.out] at hown'
        have H1 := hid hown'
        have H2 := hid (Below.trans kw hb')
        clear hown' hb' kw hown
        go_wp2
        go_roundw
        case rel => exact ⟨5 + 1, by omega, by go_num, H1.out, H2.out⟩
        case measure => simp [intOf]
    · cases hbit : bitB s 6
      · have t1 : (bits BinOp.and IntKind.i64 (s / 64) 1 == 1) = false := by simpa [bitB] using hbit
        have HK := hid (digs_no hbit)
        rw [← HK.out] at hown
        clear hbit
        go_wp2
        go_roundw
        case rel => exact ⟨6 + 1, by omega, by go_num, hown, kw⟩
        case measure => simp [intOf]
      · have t1 : (bits BinOp.and IntKind.i64 (s / 64) 1 == 1) = true := by simpa [bitB] using hbit
        have HK := hid (digs_yes hbit)
        have HU := hid (show Utf8.encode 54 = bs (Lib.decDigits 6) by rw [Lib.decDigits_one (by omega)]; first | rfl | decide | kernel_rfl)
        clear hbit
        go_wp2_with (at_builtin; refine append_str (Lib.decDigits 6) HU.out hown (by omega) (by omega) _ _ rfl rfl rfl rfl ?_; intro v' w' hown' hb')
        rw [← HK.out] at hown'
        have H1 := hid hown'
        have H2 := hid (Below.trans kw hb')
        clear hown' hb' kw hown
        go_wp2
        go_roundw
        case rel => exact ⟨6 + 1, by omega, by go_num, H1.out, H2.out⟩
        case measure => simp [intOf]
    · cases hbit : bitB s 7
      · have t1 : (bits BinOp.and IntKind.i64 (s / 128) 1 == 1) = false := by simpa [bitB] using hbit
        have HK := hid (digs_no hbit)
        rw [← HK.out] at hown
        clear hbit
        go_wp2
        go_roundw
        case rel => exact ⟨7 + 1, by omega, by go_num, hown, kw⟩
        case measure => simp [intOf]
      · have t1 : (bits BinOp.and IntKind.i64 (s / 128) 1 == 1) = true := by simpa [bitB] using hbit
        have HK := hid (digs_yes hbit)
        have HU := hid (show Utf8.encode 55 = bs (Lib.decDigits 7) by rw [Lib.decDigits_one (by omega)]; first | rfl | decide | kernel_rfl)
        clear hbit
        go_wp2_with (at_builtin; refine append_str (Lib.decDigits 7) HU.out hown (by omega) (by omega) _ _ rfl rfl rfl rfl ?_; intro v' w' hown' hb')
        rw [← HK.out] at hown'
        have H1 := hid hown'
        have H2 := hid (Below.trans kw hb')
        clear hown' hb' kw hown
        go_wp2
        go_roundw
        case rel => exact ⟨7 + 1, by omega, by go_num, H1.out, H2.out⟩
        case measure => simp [intOf]
    · obtain ⟨A, c, rfl, hj⟩ := join_own hown hks (by omega) (digs_small s (Nat.le_refl _)) (by omega)
      clear hown
      go_wp2_with fail
      refine hj.mono ?_
      rintro e w1 ⟨rfl, k1⟩
      have KW := hid (Keeps.trans kw k1)
      clear kw k1 hj
      go_wp2
      go_ret
      exact ⟨rfl, KW.out⟩
end Go.Proofs.YtlkjhkkfdmjfcaaGreatDoor
