/- The law FnWhole: what is drawn for DistanceWhole, and the walk. -/
import Derived.Test.YtkpliolafkdijaaDrawW
import Derived.Test.YtkpliolafkdijaaWhL
import Derived.Test.YtkpliolafkdijaaFnh
import Derived.Test.YtkpliolafkdijaaCmpf
namespace Go.Proofs.Ytkpliolafkdijaa
open Go.RowKit
set_option linter.unusedVariables false
set_option linter.unusedSimpArgs false

theorem slBelow {w w' : World} {lo hi n sz B : Nat} {A : Option Addr} {cs : List Value} (h : Sl sz w lo hi A n cs) (k : Below B w w') (hB : hi ≤ B) : Sl sz w' lo hi A n cs :=
  ⟨h.1, h.2.1, Nat.le_trans h.top k.size, fun hn => by
    obtain ⟨b, off, e, hl, hb, hc⟩ := h.2.2.2 hn
    exact ⟨b, off, e, hl, hb, fun j hj => (World.cell?_of_block (w := w) (k.block b (by omega))).trans (hc j hj)⟩⟩
/-- Fractions and whole numbers. -/
def DrawsD (w : World) (e : Ending) (w' : World) : Prop := ∃ A N C l A1 N1 C1 xs, e = .returned (.tuple #[.slice A N C, .slice A1 N1 C1]) ∧ Fracs w' w.heap.size w'.heap.size A N l ∧ Ints w' w.heap.size w'.heap.size A1 N1 xs ∧ Keeps w w'
set_option maxRecDepth 100000 in
set_option maxHeartbeats 6400000 in
theorem DrawDistanceWhole_any {A : Option Addr} {hi n c : Nat} {w : World} (hb : Bytes w hi A n) :
    Calls Try.prog 56 #[.slice A n c] w (DrawsD w) := by
  have hc := Cur.new (t := 125) (c := c) hb
  have k0 := keeps_alloc w (.cells #[.slice A n c, .int .i64 0, .int .u64 0] 125)
  have hb0 := hb.keeps k0
  have e0 : (w.alloc (.cells #[.slice A n c, .int .i64 0, .int .u64 0] 125)).heap.size = w.heap.size + 1 := by simp
  have E0 := hid e0
  clear e0
  go_enter Try.func56, Try.ntmps56
  go_wp2_with fail
  refine (DrawNearestWhole_any hb0).mono ?_
  rintro e w1 ⟨A0, N, C, l, z, rfl, hl, hN, hz, k1⟩
  have hc1 := hc.keeps k1
  have kw := k0.trans k1
  have s1 := k1.size
  rw [E0.out] at hl s1
  clear hc k0 k1 E0
  go_wp2_with fail
  refine (specNearestWhole_any hl).mono ?_
  obtain ⟨xs, ok, HQ⟩ : ∃ a b, Hid (nearQ l z = (a, b)) := ⟨_, _, rfl⟩
  rw [HQ.out]
  rintro e w2 ⟨A1, N1, C1, rfl, hx, k2⟩
  have hl2 := Sl.keeps hl k2
  have hc2 := hc1.keeps k2
  have kw2 := kw.trans k2
  have s2 := k2.size
  clear hl hc1 kw k2 HQ
  dsimp only at hx ⊢
  cases ok
  · go_wp2_with fail
    obtain ⟨sd, HSD⟩ : ∃ s, Hid (w2.heap.size = s) := ⟨_, rfl⟩
    have top0 := hl2.top
    go_loopw [9, 37] (fun v i wr => ∃ (k : Nat) (ys : List Int), k ≤ N ∧ i = .int .i64 k ∧ Has wr w2.heap.size 3 1 v k (ys.map (Value.int .i64)) ∧ Cur wr w.heap.size (2 + 2 * k) ∧ Keeps w wr ∧ Fracs wr (w.heap.size + 1) w1.heap.size A0 N l ∧ w2.heap.size ≤ wr.heap.size) (fun _ i _ => N - (intOf i).toNat)
    case atStart => exact ⟨0, [], Nat.zero_le _, rfl, World.ownsRow_nil _ _ _ _, hc2.mono (by omega), kw2, hl2, Nat.le_refl _⟩
    clear hl2 hc2 kw2
    case round =>
      obtain ⟨k, ys, hk, rfl, hown, hcr, kwr, hlr, sr⟩ := hrel
      by_cases hlt : k < N
      · have hi1 : (k : Int) < (N : Int) := by omega
        go_wp2_with fail
        refine (pick_any hcr (by omega) (by omega)).mono ?_
        rintro e wa ⟨y, rfl, hy, hca, fa⟩
        have howna := Has.fr hown fa (by omega)
        have kwa : Keeps w wa := below_fr kwr kwr.size (Nat.le_refl _) fa
        have hla := Sl.fr hlr fa (by omega)
        have sa := fa.size
        clear hown hcr kwr hlr fa
        go_wp2_with (at_builtin; refine append_int (xs := ys) (u := y) howna (by omega) (by omega) _ _ rfl rfl rfl (by first | rfl | (simp <;> rfl)) ?_; intro v' wb hownb hbb)
        have hcb := hca.below hbb (by omega)
        have kwb : Keeps w wb := Below.trans kwa (hbb.mono (by omega))
        have hlb := slBelow hla hbb (by omega)
        have sb := hbb.size
        clear howna hca kwa hla hbb
        go_wp2
        go_roundw
        case rel => exact ⟨k + 1, _, by omega, by go_num, hownb, hcb.mono (by omega), kwb, hlb, by omega⟩
        case measure => simp [intOf]; omega
      · obtain rfl : k = N := by omega
        obtain ⟨A2, C2, rfl⟩ := hown.form
        go_wp2_with fail
        refine (one_any hcr (by omega) (by omega)).mono ?_
        rintro e wa ⟨bb, rfl, hca, fa⟩
        have howna := Has.fr hown fa (by omega)
        have kwa : Keeps w wa := below_fr kwr kwr.size (Nat.le_refl _) fa
        have hla := Sl.fr hlr fa (by omega)
        have sa := fa.size
        clear hown hcr kwr hlr fa
        cases bb
        · have hxx := (Mine.of_own howna (by omega)).1
          go_wp2
          go_ret2
          exact ⟨_, _, _, _, _, _, _, _, rfl, Sl.widen hla (by omega) (by omega) (Nat.le_refl _), hxx.widen (by omega) (Nat.le_refl _) (Nat.le_refl _), kwa⟩
        · have L := lit_ints wa [-1, 0, 5001] (by decide)
          have hcc := hca.keeps (keeps_alloc wa (.cells #[.int .i64 (-1), .int .i64 0, .int .i64 5001] 3))
          have hownc := Has.below howna (keeps_alloc wa (.cells #[.int .i64 (-1), .int .i64 0, .int .i64 5001] 3))
          have kwc := kwa.trans (keeps_alloc wa (.cells #[.int .i64 (-1), .int .i64 0, .int .i64 5001] 3))
          have hlc := Sl.keeps hla (keeps_alloc wa (.cells #[.int .i64 (-1), .int .i64 0, .int .i64 5001] 3))
          go_wp2_with fail
          refine (among_any hcc (by omega) L (by omega) (by decide) (by decide)).mono ?_
          rintro e wd ⟨u, j, rfl, hj, hu, hcd, fd⟩
          have hownd := Has.fr hownc fd (by omega)
          have kwd : Keeps w wd := below_fr kwc kwc.size (Nat.le_refl _) fd
          have hld := Sl.fr hlc fd (by omega)
          have sd2 := fd.size
          simp at sd2
          clear hownc hcc kwc hlc fd L howna hca kwa hla hu
          go_wp2_with (at_builtin; refine append_int (xs := ys) (u := u) hownd (by omega) (by omega) _ _ rfl rfl rfl (by first | rfl | (simp <;> rfl)) ?_; intro v' we howne hbe)
          have kwe : Keeps w we := Below.trans kwd (hbe.mono (by omega))
          have hle := slBelow hld hbe (by omega)
          have se := hbe.size
          obtain ⟨A3, C3, e3⟩ := howne.form
          cases e3
          have hxx := (Mine.of_own howne (by omega)).1
          clear hownd hcd kwd hld hbe howne
          go_wp2
          go_ret2
          exact ⟨_, _, _, _, _, _, _, _, rfl, Sl.widen hle (by omega) (by omega) (Nat.le_refl _), hxx.widen (by omega) (Nat.le_refl _) (Nat.le_refl _), kwe⟩
  by_cases hle : z ≤ 60
  rotate_left
  · go_wp2_with fail
    obtain ⟨sd, HSD⟩ : ∃ s, Hid (w2.heap.size = s) := ⟨_, rfl⟩
    have top0 := hl2.top
    go_loopw [9, 37] (fun v i wr => ∃ (k : Nat) (ys : List Int), k ≤ N ∧ i = .int .i64 k ∧ Has wr w2.heap.size 3 1 v k (ys.map (Value.int .i64)) ∧ Cur wr w.heap.size (2 + 2 * k) ∧ Keeps w wr ∧ Fracs wr (w.heap.size + 1) w1.heap.size A0 N l ∧ w2.heap.size ≤ wr.heap.size) (fun _ i _ => N - (intOf i).toNat)
    case atStart => exact ⟨0, [], Nat.zero_le _, rfl, World.ownsRow_nil _ _ _ _, hc2.mono (by omega), kw2, hl2, Nat.le_refl _⟩
    clear hl2 hc2 kw2
    case round =>
      obtain ⟨k, ys, hk, rfl, hown, hcr, kwr, hlr, sr⟩ := hrel
      by_cases hlt : k < N
      · have hi1 : (k : Int) < (N : Int) := by omega
        go_wp2_with fail
        refine (pick_any hcr (by omega) (by omega)).mono ?_
        rintro e wa ⟨y, rfl, hy, hca, fa⟩
        have howna := Has.fr hown fa (by omega)
        have kwa : Keeps w wa := below_fr kwr kwr.size (Nat.le_refl _) fa
        have hla := Sl.fr hlr fa (by omega)
        have sa := fa.size
        clear hown hcr kwr hlr fa
        go_wp2_with (at_builtin; refine append_int (xs := ys) (u := y) howna (by omega) (by omega) _ _ rfl rfl rfl (by first | rfl | (simp <;> rfl)) ?_; intro v' wb hownb hbb)
        have hcb := hca.below hbb (by omega)
        have kwb : Keeps w wb := Below.trans kwa (hbb.mono (by omega))
        have hlb := slBelow hla hbb (by omega)
        have sb := hbb.size
        clear howna hca kwa hla hbb
        go_wp2
        go_roundw
        case rel => exact ⟨k + 1, _, by omega, by go_num, hownb, hcb.mono (by omega), kwb, hlb, by omega⟩
        case measure => simp [intOf]; omega
      · obtain rfl : k = N := by omega
        obtain ⟨A2, C2, rfl⟩ := hown.form
        go_wp2_with fail
        refine (one_any hcr (by omega) (by omega)).mono ?_
        rintro e wa ⟨bb, rfl, hca, fa⟩
        have howna := Has.fr hown fa (by omega)
        have kwa : Keeps w wa := below_fr kwr kwr.size (Nat.le_refl _) fa
        have hla := Sl.fr hlr fa (by omega)
        have sa := fa.size
        clear hown hcr kwr hlr fa
        cases bb
        · have hxx := (Mine.of_own howna (by omega)).1
          go_wp2
          go_ret2
          exact ⟨_, _, _, _, _, _, _, _, rfl, Sl.widen hla (by omega) (by omega) (Nat.le_refl _), hxx.widen (by omega) (Nat.le_refl _) (Nat.le_refl _), kwa⟩
        · have L := lit_ints wa [-1, 0, 5001] (by decide)
          have hcc := hca.keeps (keeps_alloc wa (.cells #[.int .i64 (-1), .int .i64 0, .int .i64 5001] 3))
          have hownc := Has.below howna (keeps_alloc wa (.cells #[.int .i64 (-1), .int .i64 0, .int .i64 5001] 3))
          have kwc := kwa.trans (keeps_alloc wa (.cells #[.int .i64 (-1), .int .i64 0, .int .i64 5001] 3))
          have hlc := Sl.keeps hla (keeps_alloc wa (.cells #[.int .i64 (-1), .int .i64 0, .int .i64 5001] 3))
          go_wp2_with fail
          refine (among_any hcc (by omega) L (by omega) (by decide) (by decide)).mono ?_
          rintro e wd ⟨u, j, rfl, hj, hu, hcd, fd⟩
          have hownd := Has.fr hownc fd (by omega)
          have kwd : Keeps w wd := below_fr kwc kwc.size (Nat.le_refl _) fd
          have hld := Sl.fr hlc fd (by omega)
          have sd2 := fd.size
          simp at sd2
          clear hownc hcc kwc hlc fd L howna hca kwa hla hu
          go_wp2_with (at_builtin; refine append_int (xs := ys) (u := u) hownd (by omega) (by omega) _ _ rfl rfl rfl (by first | rfl | (simp <;> rfl)) ?_; intro v' we howne hbe)
          have kwe : Keeps w we := Below.trans kwd (hbe.mono (by omega))
          have hle := slBelow hld hbe (by omega)
          have se := hbe.size
          obtain ⟨A3, C3, e3⟩ := howne.form
          cases e3
          have hxx := (Mine.of_own howne (by omega)).1
          clear hownd hcd kwd hld hbe howne
          go_wp2
          go_ret2
          exact ⟨_, _, _, _, _, _, _, _, rfl, Sl.widen hle (by omega) (by omega) (Nat.le_refl _), hxx.widen (by omega) (Nat.le_refl _) (Nat.le_refl _), kwe⟩
  go_wp2_with fail
  refine (one_any hc2 (by omega) (by omega)).mono ?_
  rintro e w3 ⟨b, rfl, hc3, f3⟩
  have kw3 : Keeps w w3 := below_fr kw2 kw2.size (Nat.le_refl _) f3
  have hl3 := Sl.fr hl2 f3 (by omega)
  have hx3 := hx.fr f3 (by omega)
  have s3 := f3.size
  clear hl2 hc2 kw2 f3 hx
  cases b
  · go_wp2_with fail
    obtain ⟨sd, HSD⟩ : ∃ s, Hid (w3.heap.size = s) := ⟨_, rfl⟩
    have top0 := hl3.top
    go_loopw [9, 37] (fun v i wr => ∃ (k : Nat) (ys : List Int), k ≤ N ∧ i = .int .i64 k ∧ Has wr w3.heap.size 3 1 v k (ys.map (Value.int .i64)) ∧ Cur wr w.heap.size (2 + 2 * k) ∧ Keeps w wr ∧ Fracs wr (w.heap.size + 1) w1.heap.size A0 N l ∧ w3.heap.size ≤ wr.heap.size) (fun _ i _ => N - (intOf i).toNat)
    case atStart => exact ⟨0, [], Nat.zero_le _, rfl, World.ownsRow_nil _ _ _ _, hc3.mono (by omega), kw3, hl3, Nat.le_refl _⟩
    clear hl3 hc3 kw3
    case round =>
      obtain ⟨k, ys, hk, rfl, hown, hcr, kwr, hlr, sr⟩ := hrel
      by_cases hlt : k < N
      · have hi1 : (k : Int) < (N : Int) := by omega
        go_wp2_with fail
        refine (pick_any hcr (by omega) (by omega)).mono ?_
        rintro e wa ⟨y, rfl, hy, hca, fa⟩
        have howna := Has.fr hown fa (by omega)
        have kwa : Keeps w wa := below_fr kwr kwr.size (Nat.le_refl _) fa
        have hla := Sl.fr hlr fa (by omega)
        have sa := fa.size
        clear hown hcr kwr hlr fa
        go_wp2_with (at_builtin; refine append_int (xs := ys) (u := y) howna (by omega) (by omega) _ _ rfl rfl rfl (by first | rfl | (simp <;> rfl)) ?_; intro v' wb hownb hbb)
        have hcb := hca.below hbb (by omega)
        have kwb : Keeps w wb := Below.trans kwa (hbb.mono (by omega))
        have hlb := slBelow hla hbb (by omega)
        have sb := hbb.size
        clear howna hca kwa hla hbb
        go_wp2
        go_roundw
        case rel => exact ⟨k + 1, _, by omega, by go_num, hownb, hcb.mono (by omega), kwb, hlb, by omega⟩
        case measure => simp [intOf]; omega
      · obtain rfl : k = N := by omega
        obtain ⟨A2, C2, rfl⟩ := hown.form
        go_wp2_with fail
        refine (one_any hcr (by omega) (by omega)).mono ?_
        rintro e wa ⟨bb, rfl, hca, fa⟩
        have howna := Has.fr hown fa (by omega)
        have kwa : Keeps w wa := below_fr kwr kwr.size (Nat.le_refl _) fa
        have hla := Sl.fr hlr fa (by omega)
        have sa := fa.size
        clear hown hcr kwr hlr fa
        cases bb
        · have hxx := (Mine.of_own howna (by omega)).1
          go_wp2
          go_ret2
          exact ⟨_, _, _, _, _, _, _, _, rfl, Sl.widen hla (by omega) (by omega) (Nat.le_refl _), hxx.widen (by omega) (Nat.le_refl _) (Nat.le_refl _), kwa⟩
        · have L := lit_ints wa [-1, 0, 5001] (by decide)
          have hcc := hca.keeps (keeps_alloc wa (.cells #[.int .i64 (-1), .int .i64 0, .int .i64 5001] 3))
          have hownc := Has.below howna (keeps_alloc wa (.cells #[.int .i64 (-1), .int .i64 0, .int .i64 5001] 3))
          have kwc := kwa.trans (keeps_alloc wa (.cells #[.int .i64 (-1), .int .i64 0, .int .i64 5001] 3))
          have hlc := Sl.keeps hla (keeps_alloc wa (.cells #[.int .i64 (-1), .int .i64 0, .int .i64 5001] 3))
          go_wp2_with fail
          refine (among_any hcc (by omega) L (by omega) (by decide) (by decide)).mono ?_
          rintro e wd ⟨u, j, rfl, hj, hu, hcd, fd⟩
          have hownd := Has.fr hownc fd (by omega)
          have kwd : Keeps w wd := below_fr kwc kwc.size (Nat.le_refl _) fd
          have hld := Sl.fr hlc fd (by omega)
          have sd2 := fd.size
          simp at sd2
          clear hownc hcc kwc hlc fd L howna hca kwa hla hu
          go_wp2_with (at_builtin; refine append_int (xs := ys) (u := u) hownd (by omega) (by omega) _ _ rfl rfl rfl (by first | rfl | (simp <;> rfl)) ?_; intro v' we howne hbe)
          have kwe : Keeps w we := Below.trans kwd (hbe.mono (by omega))
          have hle := slBelow hld hbe (by omega)
          have se := hbe.size
          obtain ⟨A3, C3, e3⟩ := howne.form
          cases e3
          have hxx := (Mine.of_own howne (by omega)).1
          clear hownd hcd kwd hld hbe howne
          go_wp2
          go_ret2
          exact ⟨_, _, _, _, _, _, _, _, rfl, Sl.widen hle (by omega) (by omega) (Nat.le_refl _), hxx.widen (by omega) (Nat.le_refl _) (Nat.le_refl _), kwe⟩
  · go_wp2
    go_ret2
    exact ⟨_, _, _, _, _, _, _, _, rfl, Sl.widen hl3 (by omega) (by omega) (Nat.le_refl _), hx3.1.widen (by omega) (by omega) (Nat.le_refl _), kw3⟩
/-- append of a whole slice of ints to an empty one that has just been made. -/
theorem append_own_ints {w0 : World} {ops : Array Oper} {rest : List Oper} {o : Oper} {a : Act} {Q : Exit → Act → World → Prop} {lo hi n c b off : Nat} {l : List Int}
    (h : Ints w0 lo hi (some ⟨b, off, none⟩) n l) (h0 : 0 < n)
    (s u : Operand) (hgd : o.guard = none)
    (ho : o.op = .call { callee := .builtin .append, args := #[s, u], argTypes := #[24, 24] })
    (hs : a.eval s = .slice (some ⟨w0.heap.size, 0, none⟩) 0 0) (hx : a.eval u = .slice (some ⟨b, off, none⟩) n c)
    (k : ∀ v' w', Has w' w0.heap.size 3 1 v' n (l.map (Value.int .i64)) → Keeps w0 w' → wpList Try.prog ops Q rest (a.put o.dst v') w') : wpList Try.prog ops Q (o :: rest) a (w0.alloc (.cells #[] 3)) := by
  obtain ⟨i, hi, hz0, hz1, hz2⟩ := info_parts info_int
  have hn := h.le
  have hl := h.1
  refine wpList_append_own _ hgd s u 24 ho w0.heap.size 3 i _ 1 8 Try.underlying24 hi hz0 hz1 hz2 rfl (by omega) _ 0 [] hs (World.ownsRow_made w0 #[] 0 (Nat.le_refl _) (Nat.zero_le _) rfl) ⟨b, off, none⟩ n c (l.map (Value.int .i64)) hx (by simp [hl]) (fun j y hy => ?_) (fun y hy => ?_) (by unfold maxLen; omega) (by omega) (by simp) (fun v' w' h2 h3 _ => ?_)
  · rw [Addr.add_lit]
    obtain ⟨b', off', e, _, _, hc⟩ := h.2.2.2 h0
    obtain ⟨rfl, rfl⟩ : b = b' ∧ off = off' := by simpa using e
    obtain ⟨hj, rfl⟩ := List.getElem?_eq_some_iff.1 hy
    have hj' : j < n := by simpa [hl] using hj
    have := hc j hj'
    refine cell_keeps (this.trans ?_) (keeps_alloc _ _)
    simp [List.getD, hl, hj']
  · obtain ⟨x, _, rfl⟩ := List.mem_map.1 hy
    rfl
  · refine k v' w' (by simpa using h2) (((Below.refl _ w0).alloc (Nat.le_refl _) _).grown h3 (by simp) (fun k hk => ?_))
    simp [Value.ownBlock] at hk
    omega
theorem dwQ_frac {l : List (Int × Int)} {xs : List Int} {a b : Int} (e : dwQ l xs = (a, b, true)) : fracB a b = true := by
  by_cases h : roundB l = true ∧ xs.length = l.length ∧ within 0 5000 xs = true
  · rw [dwQ_yes h] at e
    exact (accQ_fine fracB_01 (fun _ _ _ _ => dwSt_fine _ _ _ _ _) _).ok e
  · rw [dwQ_no h] at e; cases e
def FrE (w : World) (A : Option Addr) (n : Nat) (l : List (Int × Int)) : Prop := ∃ lo hi, Fracs w lo hi A n l
def InE (w : World) (A : Option Addr) (n : Nat) (xs : List Int) : Prop := ∃ lo hi, Ints w lo hi A n xs
theorem nearX_sum {l : QL} {z : Int} (h : nearB l z = true) : (nearX l z).sum = z := by
  have hn := nw_inv h (t := nT l z) (d := nD l z) (Nat.le_refl _) (Nat.le_refl _)
  rw [nw_end] at hn
  rw [hn.sum]; unfold nT nD; omega
set_option maxRecDepth 100000 in
set_option maxHeartbeats 12800000 in
theorem FnWhole_law (A0 : Option Addr) (n0 c0 : Nat) (A1 : Option Addr) (n1 c1 : Nat) (w : World) (wa0 : BytesArg w A0 n0) (wa1 : BytesArg w A1 n1) :
    Calls Try.prog 10 #[.slice A0 n0 c0, .slice A1 n1 c1] w fun e w' => e = .returned (.bool true) ∧ Below w.heap.size w w' := by
  have B0 := wa0
  have B1_ := wa1
  have m0 := wa0.1
  have m1 := wa1.1
  obtain ⟨S, hS⟩ : ∃ S, wrap64 ((n0 : Int) + (n1 : Int)) = S := ⟨_, rfl⟩
  by_cases hlt : 1048576 < S
  · go_enter Try.func10, Try.ntmps10
    have kw := keeps_refl w
    go_wp2_with fail
    go_ret
    exact ⟨rfl, kw⟩
  go_enter Try.func10, Try.ntmps10
  have kw := keeps_refl w
  go_wp2_with fail
  refine (DrawNearestWhole_any B0).mono ?_
  rintro e w1 ⟨A2, N, C, l, z, rfl, hl, hN, hz, k1⟩
  replace kw := Keeps.trans kw k1
  have sz2 := kw.size
  clear k1
  go_wp2_with fail
  obtain ⟨xs, ok, HG⟩ : ∃ x y, Hid (nearQ l z = (x, y)) := ⟨_, _, rfl⟩
  refine (implNearestWhole_any hl).mono ?_
  rintro e w3 ⟨A3, N3, C3, rfl, hx, k3⟩
  replace hl := hl.keeps k3
  replace kw := Keeps.trans kw k3
  have sz4 := kw.size
  clear k3
  rw [HG.out] at hx
  rw [HG.out]
  dsimp only at hx
  dsimp only
  go_wp2_with fail
  refine (specNearestWhole_any hl).mono ?_
  rintro e w5 ⟨A4, N4, C4, rfl, hy, k5⟩
  replace hl := hl.keeps k5
  replace hx := hx.keeps k5
  replace kw := Keeps.trans kw k5
  have sz6 := kw.size
  clear k5
  rw [HG.out] at hy
  rw [HG.out]
  dsimp only at hy
  dsimp only
  go_wp2_with fail
  refine (DrawDistanceWhole_any (Bytes.keeps B1_ kw)).mono ?_
  rintro e w7 ⟨A5, N5, C5, fl, A6, N6, C6, ys, rfl, hf, hys, k7⟩
  replace hl := hl.keeps k7
  replace hx := hx.keeps k7
  replace hy := hy.keeps k7
  replace kw := Keeps.trans kw k7
  have sz8 := kw.size
  clear k7
  go_wp2_with fail
  obtain ⟨d1, d2, d3, HD⟩ : ∃ x y v, Hid (dwQ fl ys = (x, y, v)) := ⟨_, _, _, rfl⟩
  refine (implDistanceWhole_any hf hys).mono ?_
  rintro e w9 ⟨rfl, k9⟩
  rw [HD.out]
  replace hl := hl.keeps k9
  replace hx := hx.keeps k9
  replace hy := hy.keeps k9
  replace hf := hf.keeps k9
  replace hys := hys.keeps k9
  replace kw := Keeps.trans kw k9
  have sz10 := kw.size
  clear k9
  replace hl := hl.keeps (keeps_alloc w9 (.cells #[.int .i64 d1, .int .i64 d2] 41))
  replace hx := hx.keeps (keeps_alloc w9 (.cells #[.int .i64 d1, .int .i64 d2] 41))
  replace hy := hy.keeps (keeps_alloc w9 (.cells #[.int .i64 d1, .int .i64 d2] 41))
  replace hf := hf.keeps (keeps_alloc w9 (.cells #[.int .i64 d1, .int .i64 d2] 41))
  replace hys := hys.keeps (keeps_alloc w9 (.cells #[.int .i64 d1, .int .i64 d2] 41))
  replace kw := Keeps.trans kw (keeps_alloc w9 (.cells #[.int .i64 d1, .int .i64 d2] 41))
  have b13 : Bx (w9.alloc (.cells #[.int .i64 d1, .int .i64 d2] 41)) w9.heap.size d1 d2 := Bx.new' (by simp)
  go_wp2_with fail
  refine (specDistanceWhole_any hf hys).mono ?_
  rintro e w11 ⟨rfl, k11⟩
  rw [HD.out]
  replace b13 := b13.keeps k11
  replace hl := hl.keeps k11
  replace hx := hx.keeps k11
  replace hy := hy.keeps k11
  replace hf := hf.keeps k11
  replace hys := hys.keeps k11
  replace kw := Keeps.trans kw k11
  have lt12 := b13.lt
  have sz13 := kw.size
  clear k11
  replace b13 := b13.keeps (keeps_alloc w11 (.cells #[.int .i64 d1, .int .i64 d2] 41))
  replace hl := hl.keeps (keeps_alloc w11 (.cells #[.int .i64 d1, .int .i64 d2] 41))
  replace hx := hx.keeps (keeps_alloc w11 (.cells #[.int .i64 d1, .int .i64 d2] 41))
  replace hy := hy.keeps (keeps_alloc w11 (.cells #[.int .i64 d1, .int .i64 d2] 41))
  replace hf := hf.keeps (keeps_alloc w11 (.cells #[.int .i64 d1, .int .i64 d2] 41))
  replace hys := hys.keeps (keeps_alloc w11 (.cells #[.int .i64 d1, .int .i64 d2] 41))
  replace kw := Keeps.trans kw (keeps_alloc w11 (.cells #[.int .i64 d1, .int .i64 d2] 41))
  have b15 : Bx (w11.alloc (.cells #[.int .i64 d1, .int .i64 d2] 41)) w11.heap.size d1 d2 := Bx.new' (by simp)
  have q0 : (ok != ok) = false := by simp
  go_wp2_with fail
  refine (qInts_true hx.1 hy.1).mono ?_
  rintro e w14 ⟨rfl, k14⟩
  replace k14 := Quiet.keeps k14
  replace b13 := b13.keeps k14
  replace b15 := b15.keeps k14
  replace hl := hl.keeps k14
  replace hx := hx.keeps k14
  replace hy := hy.keeps k14
  replace hf := hf.keeps k14
  replace hys := hys.keeps k14
  replace kw := Keeps.trans kw k14
  have lt15 := b15.lt
  have sz16 := kw.size
  clear k14
  have q1 : (d3 != d3) = false := by simp
  obtain ⟨ca17, cb17, fa17, fb17⟩ := id b13
  obtain ⟨ca18, cb18, fa18, fb18⟩ := id b15
  cases ok
  · go_wp2_with fail
    clear ca17 cb17 fa17 fb17 ca18 cb18 fa18 fb18
    go_ret
    exact ⟨rfl, kw⟩
  · skip
    have HB : Hid (nearB l z = true) := by
      have h := HG.out
      unfold nearQ at h
      split at h
      · assumption
      · cases h
    have hxs : xs = nearX l z := by
      have h := HG.out
      rw [nearQ_yes HB.out] at h
      injection h with h _
      exact h.symm
    subst hxs
    clear HG
    clear hy hf hys
    go_wp2_with fail
    clear ca17 cb17 fa17 fb17 ca18 cb18 fa18 fb18
    clear b13 b15
    obtain ⟨e1, e2, e3, HE⟩ : ∃ x y v, Hid (dwQ l (nearX l z) = (x, y, v)) := ⟨_, _, _, rfl⟩
    have hx0 := hx.1
    clear hx
    refine (implDistanceWhole_any hl hx0).mono ?_
    rintro e w19 ⟨rfl, k19⟩
    rw [HE.out]
    replace hl := hl.keeps k19
    replace hx0 := hx0.keeps k19
    replace kw := Keeps.trans kw k19
    have sz20 := kw.size
    clear k19
    replace hl := hl.keeps (keeps_alloc w19 (.cells #[.int .i64 e1, .int .i64 e2] 41))
    replace hx0 := hx0.keeps (keeps_alloc w19 (.cells #[.int .i64 e1, .int .i64 e2] 41))
    replace kw := Keeps.trans kw (keeps_alloc w19 (.cells #[.int .i64 e1, .int .i64 e2] 41))
    have b17 : Bx (w19.alloc (.cells #[.int .i64 e1, .int .i64 e2] 41)) w19.heap.size e1 e2 := Bx.new' (by simp)
    have HNI := hid (nw_inv HB.out (t := nT l z) (d := nD l z) (Nat.le_refl _) (Nat.le_refl _))
    rw [nw_end] at HNI
    have hNl : N3 = l.length := by have := hx0.1; have := HNI.out.len; omega
    have HNL := hid hNl
    clear hNl
    go_wp2_with fail
    have HE2 := hid (show e3 = true → fracB e1 e2 = true from fun h => dwQ_frac (by rw [HE.out, h]))
    obtain ⟨G, hG⟩ : ∃ G, w19.heap.size = G := ⟨_, rfl⟩
    rw [hG] at b17
    have hlE : FrE (w19.alloc (.cells #[.int .i64 e1, .int .i64 e2] 41)) A2 N l := ⟨_, _, hl⟩
    have hxE : InE (w19.alloc (.cells #[.int .i64 e1, .int .i64 e2] 41)) A3 N3 (nearX l z) := ⟨_, _, hx0⟩
    have hN3 := hx0.le
    clear hl hx0
    have hGG := hid hG
    clear hG
    try rw [hGG.out]
    go_loopw [95] (fun i wr => ∃ k : Nat, k ≤ N3 ∧ i = .int .i64 k ∧ Bx wr G e1 e2 ∧ Keeps w wr ∧ FrE wr A2 N l ∧ InE wr A3 N3 (nearX l z)) (fun i _ => N3 - (intOf i).toNat)
    case atStart => exact ⟨0, Nat.zero_le _, rfl, b17, kw, hlE, hxE⟩
    clear b17 kw hlE hxE
    case round =>
      obtain ⟨i, hi, rfl, b17, kw, hlE, hxE⟩ := hrel
      by_cases hlt : i < N3
      rotate_left
      · have hi1 : ¬ (i : Int) < (N3 : Int) := by omega
        obtain ⟨lx, ux, hxI⟩ := hxE
        have HSU := hid (nearX_sum HB.out)
        go_wp2_with fail
        refine (qSum_any _ _ _ _ _ _ _ hxI (fun j => by have := HNI.out.bd j; omega)).mono ?_
        rintro e w' ⟨rfl, rfl⟩
        rw [HSU.out]
        have q9 : (z == z) = true := by simp
        go_wp2
        go_ret
        exact ⟨rfl, kw⟩
      have hi1 : (i : Int) < (N3 : Int) := by omega
      obtain ⟨wo, rfl⟩ : ∃ u : World, u = wr := ⟨_, rfl⟩
      go_wp2_with fail
      go_loopw [100] (fun i wr => ∃ k : Nat, k ≤ N3 ∧ i = .int .i64 k ∧ Bx wr G e1 e2 ∧ Keeps w wr ∧ FrE wr A2 N l ∧ InE wr A3 N3 (nearX l z)) (fun i _ => N3 - (intOf i).toNat)
      case atStart => exact ⟨0, Nat.zero_le _, rfl, b17, kw, hlE, hxE⟩
      clear b17 kw hlE hxE
      case round =>
        obtain ⟨k, hk, rfl, b17, kw, hlE, hxE⟩ := hrel
        by_cases hlk : k < N3
        rotate_left
        · have hk1 : ¬ (k : Int) < (N3 : Int) := by omega
          go_wp2
          go_roundw
          case rel => exact ⟨i + 1, by omega, by go_num, b17, kw, hlE, hxE⟩
          case measure => simp [intOf]; omega
        have hk1 : (k : Int) < (N3 : Int) := by omega
        by_cases hik : i = k
        · subst hik
          have g0 : ((i : Int) == (i : Int)) = true := by simp
          go_wp2
          go_roundw
          case rel => exact ⟨i + 1, by omega, by go_num, b17, kw, hlE, hxE⟩
          case measure => simp [intOf]; omega
        have g0 : ((i : Int) == (k : Int)) = false := by rw [beq_eq_false_iff_ne]; omega
        have hxE0 := hid hxE
        obtain ⟨lx, ux, hxI⟩ := hxE
        obtain ⟨bx, ox, xi, rfl, _, _, hcxi, hxi⟩ := hxI.at_ hlt
        obtain ⟨bx2, ox2, xk, ex, _, _, hcxk, hxk⟩ := hxI.at_ hlk
        injection ex with ex; injection ex with ex1 ex2; subst ex1; subst ex2
        have bi := HNI.out.bd i
        have bk := HNI.out.bd k
        rw [← hxi.out] at bi
        rw [← hxk.out] at bk
        by_cases hz0 : xi = 0
        · have g1 : (xi == 0) = true := by simpa using hz0
          clear hz0 hxi hxk
          go_wp2
          go_roundw
          case rel => exact ⟨k + 1, by omega, by go_num, b17, kw, hlE, hxE0.out⟩
          case measure => simp [intOf]; omega
        have g1 : (xi == 0) = false := by rw [beq_eq_false_iff_ne]; exact hz0
        by_cases hz5 : xk = 5000
        · have g2 : (xk == 5000) = true := by simpa using hz5
          clear hz5 hxi hxk
          go_wp2
          go_roundw
          case rel => exact ⟨k + 1, by omega, by go_num, b17, kw, hlE, hxE0.out⟩
          case measure => simp [intOf]; omega
        have g2 : (xk == 5000) = false := by rw [beq_eq_false_iff_ne]; exact hz5
        have HXI := hid hz0
        clear hz0 hz5
        go_wp2_with (at_builtin; refine append_own_ints (w0 := wr) hxI (by omega) _ _ rfl rfl rfl rfl ?_; intro v' wa howna ka)
        obtain ⟨Aa, Ca, ea⟩ := howna.form
        cases ea
        obtain ⟨ga, ea, hga, ma⟩ := howna.block (by omega) (by have := hxI.le; omega)
        cases ea
        have b17a := b17.keeps ka
        have hga2 := b17.lt
        have kwa := kw.trans ka
        obtain ⟨ll, ul, hlI⟩ := hlE
        have hla := Sl.keeps hlI ka
        have tl := hlI.top
        have hlE0 : Hid (FrE wr A2 N l) := ⟨ll, ul, hlI⟩
        have BW := hid b17
        have KW := hid kw
        clear howna g0 g1 g2 hcxi hcxk b17 kw hlI
        obtain ⟨b1, o1, yi, e1', _, _, hcyi, hyi⟩ := ma.1.at_ hlt
        injection e1' with e1'; injection e1' with e11 e12; subst e11; subst e12
        obtain rfl : yi = xi := hyi.out.trans hxi.out.symm
        have hfi := ma.2 ga 0 rfl i hlt
        have sa := ma.set_ hlt (yi - 1)
        have SA := hid sa
        have mb := sa.1
        obtain ⟨b2, o2, yk, e2', _, _, hcyk, hyk⟩ := mb.1.at_ hlk
        injection e2' with e2'; injection e2' with e21 e22; subst e21; subst e22
        have hfk := mb.2 ga 0 rfl k hlk
        have hykv : yk = xk := by rw [hyk.out, getD_set_int, if_neg (by omega)]; exact hxk.out.symm
        subst hykv
        have sb := mb.set_ hlk (yk + 1)
        have SB := hid sb
        have HX1 := hid hxi.out
        have HX2 := hid hxk.out
        clear sa sb mb hyi hyk hxi hxk
        rw [Nat.zero_add] at hcyi hfi hcyk hfk
        have SA2 : Hid (Mine (wa.setCell ⟨ga, i, none⟩ (.int .i64 (yi - 1))) ga (ga + 1) (some ⟨ga, 0, none⟩) N3 ((nearX l z).set i (yi - 1)) ∧ Fr ga (ga + 1) wa (wa.setCell ⟨ga, i, none⟩ (.int .i64 (yi - 1)))) := by
          have := SA.out; rw [Nat.zero_add] at this; exact this
        have SB2 : Hid (Mine ((wa.setCell ⟨ga, i, none⟩ (.int .i64 (yi - 1))).setCell ⟨ga, k, none⟩ (.int .i64 (yk + 1))) ga (ga + 1) (some ⟨ga, 0, none⟩) N3 (((nearX l z).set i (yi - 1)).set k (yk + 1)) ∧ Fr ga (ga + 1) (wa.setCell ⟨ga, i, none⟩ (.int .i64 (yi - 1))) ((wa.setCell ⟨ga, i, none⟩ (.int .i64 (yi - 1))).setCell ⟨ga, k, none⟩ (.int .i64 (yk + 1)))) := by
          have := SB.out; rw [Nat.zero_add, Nat.zero_add] at this; exact this
        rw [Nat.zero_add] at hcyk hfk
        clear SA SB
        go_wp2_with fail
        have fab := SA2.out.2.trans SB2.out.2
        obtain ⟨f1, f2, f3, HF⟩ : ∃ x y v, Hid (dwQ l (((nearX l z).set i (yi - 1)).set k (yk + 1)) = (x, y, v)) := ⟨_, _, _, rfl⟩
        refine (implDistanceWhole_any (Sl.fr hla fab (by omega)) SB2.out.1.1).mono ?_
        rintro e wc ⟨rfl, kc⟩
        rw [HF.out]
        have b17c := (b17a.fr fab (by omega)).keeps kc
        have kwc : Keeps w wc := Below.trans (below_fr kwa kwa.size (by have := KW.out.size; omega) fab) (kc.mono (by have := (below_fr kwa kwa.size (by have := KW.out.size; omega) fab).size; omega))
        have hlc := Sl.keeps (Sl.fr hla fab (by omega)) kc
        have hxc := (hxI.keeps ka)
        have hxd := (hxc.fr fab (by have := hxI.top; omega)).keeps kc
        clear b17a kwa hla kc hcyi hfi hcyk hfk fab hxc ka
        have b22 : Bx (wc.alloc (.cells #[.int .i64 f1, .int .i64 f2] 41)) wc.heap.size f1 f2 := Bx.new' (by simp)
        have b17d := b17c.keeps (keeps_alloc wc (.cells #[.int .i64 f1, .int .i64 f2] 41))
        have kwd := kwc.trans (keeps_alloc wc (.cells #[.int .i64 f1, .int .i64 f2] 41))
        have hld := Sl.keeps hlc (keeps_alloc wc (.cells #[.int .i64 f1, .int .i64 f2] 41))
        have hxe := hxd.keeps (keeps_alloc wc (.cells #[.int .i64 f1, .int .i64 f2] 41))
        obtain ⟨x1, x2, x3, x4⟩ := id b17d
        obtain ⟨x5, x6, x7, x8⟩ := id b22
        have glt := b17c.lt
        clear b17c
        go_wp2_with fail
        refine (CompareFrac_any).mono ?_
        rintro e we ⟨rfl, ke⟩
        have b17e := b17d.keeps ke
        have kwe := kwd.trans ke
        have hle : FrE we A2 N l := ⟨_, _, Sl.keeps hld ke⟩
        have hxf : InE we (some ⟨bx, ox, none⟩) N3 (nearX l z) := ⟨_, _, hxe.keeps ke⟩
        clear x1 x2 x3 x4 x5 x6 x7 x8 b17d b22 kwd hld hxe ke kwc hlc hxd
        obtain ⟨r1, r2, HR⟩ : ∃ x y, Hid (cfQ e1 e2 f1 f2 = (x, y)) := ⟨_, _, rfl⟩
        rw [HR.out]
        cases e3
        · go_wp2
          go_roundw
          case rel => exact ⟨k + 1, by omega, by go_num, b17e, kwe, hle, hxf⟩
          case measure => simp [intOf]; omega
        cases f3
        · go_wp2
          go_roundw
          case rel => exact ⟨k + 1, by omega, by go_num, b17e, kwe, hle, hxf⟩
          case measure => simp [intOf]; omega
        have hno : r2 = true ∧ ¬ 0 < r1 := by
          have hfe := HE2.out rfl
          have hff := dwQ_frac HF.out
          have hb := near_best HB.out (i := i) (k := k) (by rw [← HNL.out]; omega) (by rw [← HNL.out]; omega) hik (by rw [← HX1.out]; exact HXI.out) HE.out (by rw [← HX1.out, ← HX2.out]; exact HF.out)
          have := HR.out
          rw [cfQ_yes hfe hff] at this
          injection this with h1 h2
          exact ⟨h2.symm, by omega⟩
        obtain ⟨rfl, hno⟩ := hno
        go_wp2
        go_roundw
        case rel => exact ⟨k + 1, by omega, by go_num, b17e, kwe, hle, hxf⟩
        case measure => simp [intOf]; omega
end Go.Proofs.Ytkpliolafkdijaa
