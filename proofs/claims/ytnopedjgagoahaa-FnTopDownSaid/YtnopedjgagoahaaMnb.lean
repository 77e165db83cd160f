/- NeighbourRatio: of the reference and of the program. -/
import Derived.Test.YtnopedjgagoahaaMdel
namespace Go.Proofs.Ytnopedjgagoahaa
open Go.RowKit
set_option linter.unusedVariables false
set_option linter.unusedSimpArgs false

/-- Of two valid fractions the first is not greater. -/
def leQ (f g : QQ) : Prop := f.1 * g.2 ≤ g.1 * f.2
theorem leQ_cmp {f g : QQ} : leQ f g ↔ ¬ cmpQ g.1 g.2 f.1 f.2 < 0 := by
  unfold leQ cmpQ
  constructor
  · intro h; split
    · omega
    · split <;> omega
  · intro h; split at h
    · omega
    · omega
theorem leQ_total (f g : QQ) : leQ f g ∨ leQ g f := by unfold leQ; omega
theorem leQ_trans {f g h : QQ} (hf : 1 ≤ f.2) (hg : 1 ≤ g.2) (hh : 1 ≤ h.2) (a : leQ f g) (b : leQ g h) : leQ f h := by
  unfold leQ at *
  have h1 := Int.mul_le_mul_of_nonneg_right a (show 0 ≤ h.2 by omega)
  have h2 := Int.mul_le_mul_of_nonneg_right b (show 0 ≤ f.2 by omega)
  have h3 : f.1 * h.2 * g.2 ≤ h.1 * f.2 * g.2 := by
    have e1 : f.1 * g.2 * h.2 = f.1 * h.2 * g.2 := by rw [Int.mul_assoc, Int.mul_comm g.2, ← Int.mul_assoc]
    have e2 : g.1 * f.2 * h.2 = g.1 * h.2 * f.2 := by rw [Int.mul_assoc, Int.mul_comm f.2, ← Int.mul_assoc]
    have e3 : h.1 * g.2 * f.2 = h.1 * f.2 * g.2 := by rw [Int.mul_assoc, Int.mul_comm g.2, ← Int.mul_assoc]
    rw [e1, e2] at h1; rw [e3] at h2; omega
  exact Int.le_of_mul_le_mul_right h3 (by omega)
theorem dvd_part {a b c : Int} (h : b ∣ a * c) (k : Int.gcd a b = 1) : b ∣ c := by
  have h1 := Int.natAbs_dvd_natAbs.2 h
  rw [Int.natAbs_mul] at h1
  have h2 : Nat.Coprime b.natAbs a.natAbs := by unfold Nat.Coprime; rw [Nat.gcd_comm]; exact k
  exact Int.natAbs_dvd_natAbs.1 (h2.dvd_of_dvd_mul_left h1)
theorem leQ_antisymm {f g : QQ} (hf : fracB f.1 f.2 = true) (hg : fracB g.1 g.2 = true) (a : leQ f g) (b : leQ g f) : f = g := by
  have h1 := fracB_true.1 hf
  have h2 := fracB_true.1 hg
  have e : f.1 * g.2 = g.1 * f.2 := by unfold leQ at *; omega
  have d1 : f.2 ∣ g.2 := by
    exact dvd_part ⟨g.1, by rw [e, Int.mul_comm]⟩ h1.2.2
  have d2 : g.2 ∣ f.2 := by
    exact dvd_part ⟨f.1, by rw [← e, Int.mul_comm]⟩ h2.2.2
  have l1 := Int.le_of_dvd (by omega) d1
  have l2 := Int.le_of_dvd (by omega) d2
  have e2 : f.2 = g.2 := by omega
  have e1 : f.1 = g.1 := by
    rw [e2] at e
    exact Int.eq_of_mul_eq_mul_right (by omega) e
  exact Prod.ext e1 e2
theorem maxQ_spec (f g : QQ) : (maxQ f g = f ∨ maxQ f g = g) ∧ leQ f (maxQ f g) ∧ leQ g (maxQ f g) := by
  unfold maxQ
  split
  · rename_i h
    refine ⟨Or.inr rfl, ?_, by unfold leQ; omega⟩
    rcases leQ_total f g with a | a
    · exact a
    · exact absurd h (leQ_cmp.1 a)
  · rename_i h
    exact ⟨Or.inl rfl, by unfold leQ; omega, leQ_cmp.2 h⟩
theorem maxQ_swap {s a b : QQ} (hs : fracB s.1 s.2 = true) (ha : fracB a.1 a.2 = true) (hb : fracB b.1 b.2 = true) : maxQ (maxQ s b) a = maxQ s (maxQ a b) := by
  have p1 := (fracB_true.1 hs).1.1
  have p2 := (fracB_true.1 ha).1.1
  have p3 := (fracB_true.1 hb).1.1
  obtain ⟨m1, m2, m3⟩ := maxQ_spec s b
  obtain ⟨n1, n2, n3⟩ := maxQ_spec (maxQ s b) a
  obtain ⟨u1, u2, u3⟩ := maxQ_spec a b
  obtain ⟨v1, v2, v3⟩ := maxQ_spec s (maxQ a b)
  have q1 : fracB (maxQ s b).1 (maxQ s b).2 = true := by rcases m1 with e | e <;> rw [e] <;> assumption
  have q2 : fracB (maxQ a b).1 (maxQ a b).2 = true := by rcases u1 with e | e <;> rw [e] <;> assumption
  have q3 : fracB (maxQ (maxQ s b) a).1 (maxQ (maxQ s b) a).2 = true := by rcases n1 with e | e <;> rw [e] <;> assumption
  have q4 : fracB (maxQ s (maxQ a b)).1 (maxQ s (maxQ a b)).2 = true := by rcases v1 with e | e <;> rw [e] <;> assumption
  have r1 := (fracB_true.1 q1).1.1
  have r2 := (fracB_true.1 q2).1.1
  have r3 := (fracB_true.1 q3).1.1
  have r4 := (fracB_true.1 q4).1.1
  refine leQ_antisymm q3 q4 ?_ ?_
  · rcases n1 with e | e
    · rw [e]
      rcases m1 with e' | e'
      · rw [e']; exact v2
      · rw [e']; exact leQ_trans p3 r2 r4 u3 v3
    · rw [e]; exact leQ_trans p2 r2 r4 u2 v3
  · rcases v1 with e | e
    · rw [e]; exact leQ_trans p1 r1 r3 m2 n2
    · rw [e]
      rcases u1 with e' | e'
      · rw [e']; exact n3
      · rw [e']; exact leQ_trans p3 r1 r3 m3 n2
/-- The two ratios of inputs i - 1 and i, in the program's order. -/
def nbR (ll : List (List QQ)) (i q : Nat) : Int × Int × Bool := if q = 0 then rrQ (ll.getD (i - 1) []) (ll.getD i []) else rrQ (ll.getD i []) (ll.getD (i - 1) [])
def nbIn (ll : List (List QQ)) (i : Nat) (q : Nat) (a b : Int) : Int × Int × Bool :=
  if (nbR ll i q).2.2 = true then ((maxQ (a, b) ((nbR ll i q).1, (nbR ll i q).2.1)).1, (maxQ (a, b) ((nbR ll i q).1, (nbR ll i q).2.1)).2, true) else (0, 0, false)
theorem nbIn_no {ll : List (List QQ)} {i q : Nat} {a b x y : Int} (e : nbR ll i q = (x, y, false)) : nbIn ll i q a b = (0, 0, false) := by unfold nbIn; rw [e]; simp
theorem nbIn_yes {ll : List (List QQ)} {i q : Nat} {a b x y : Int} (e : nbR ll i q = (x, y, true)) : nbIn ll i q a b = ((maxQ (a, b) (x, y)).1, (maxQ (a, b) (x, y)).2, true) := by unfold nbIn; rw [e]; simp
theorem nbR_fine (ll : List (List QQ)) (i q : Nat) : Fine (nbR ll i q) := by unfold nbR; exact Fine.ite (rrQ_fine _ _) (rrQ_fine _ _)
theorem nbIn_fine {ll : List (List QQ)} {i q : Nat} {a b : Int} (h : fracB a b = true) : Fine (nbIn ll i q a b) := by
  unfold nbIn; split
  · rename_i h1; exact Fine.yes (maxQ_frac h ((nbR_fine ll i q).1 h1))
  · exact Fine.no
def nbSt (ll : List (List QQ)) (i : Nat) (a b : Int) : Int × Int × Bool := if i = 0 then (a, b, true) else accQ (nbIn ll i) a b 2
theorem nbSt_in {ll : List (List QQ)} {i : Nat} {a b : Int} (h : 1 ≤ i) : nbSt ll i a b = accQ (nbIn ll i) a b 2 := if_neg (by omega)
theorem nbSt_fine {ll : List (List QQ)} {i : Nat} {a b : Int} (h : fracB a b = true) : Fine (nbSt ll i a b) := by
  unfold nbSt; exact Fine.ite (Fine.yes h) (accQ_fine h (fun _ _ _ h => nbIn_fine h) _)
theorem nbSt_no1 {ll : List (List QQ)} {i : Nat} {a b x y : Int} (h : 1 ≤ i) (e : rrQ (ll.getD i []) (ll.getD (i - 1) []) = (x, y, false)) : nbSt ll i a b = (0, 0, false) := by
  rw [nbSt_in h]
  have e0 : accQ (nbIn ll i) a b 2 = if (accQ (nbIn ll i) a b 1).2.2 = true then nbIn ll i 1 (accQ (nbIn ll i) a b 1).1 (accQ (nbIn ll i) a b 1).2.1 else (0, 0, false) := rfl
  rw [e0]
  split
  · exact nbIn_no (x := x) (y := y) (show nbR ll i 1 = _ from e)
  · rfl
theorem nbSt_no2 {ll : List (List QQ)} {i : Nat} {a b x y : Int} (h : 1 ≤ i) (e : rrQ (ll.getD (i - 1) []) (ll.getD i []) = (x, y, false)) : nbSt ll i a b = (0, 0, false) := by
  rw [nbSt_in h]
  have : nbIn ll i 0 a b = (0, 0, false) := nbIn_no (x := x) (y := y) (show nbR ll i 0 = _ from e)
  simp only [accQ, if_true]
  rw [this]; simp
theorem nbSt_yes {ll : List (List QQ)} {i : Nat} {a b x y u v : Int} (h : 1 ≤ i) (hf : fracB a b = true) (e1 : rrQ (ll.getD i []) (ll.getD (i - 1) []) = (x, y, true)) (e2 : rrQ (ll.getD (i - 1) []) (ll.getD i []) = (u, v, true)) :
    nbSt ll i a b = ((maxQ (a, b) (maxQ (x, y) (u, v))).1, (maxQ (a, b) (maxQ (x, y) (u, v))).2, true) := by
  rw [nbSt_in h]
  have f0 := nbIn_yes (a := a) (b := b) (show nbR ll i 0 = (u, v, true) from e2)
  have f1 := nbIn_yes (a := (maxQ (a, b) (u, v)).1) (b := (maxQ (a, b) (u, v)).2) (show nbR ll i 1 = (x, y, true) from e1)
  simp only [accQ, if_true]
  rw [f0]
  simp only [if_true]
  rw [f1]
  have := maxQ_swap (s := (a, b)) (a := (x, y)) (b := (u, v)) hf ((rrQ_fine _ _).ok e1) ((rrQ_fine _ _).ok e2)
  rw [← this]
def nbQ (ll : List (List QQ)) : Int × Int × Bool := if mechB ll = true then accQ (nbSt ll) 1 1 ll.length else (0, 0, false)
theorem nbQ_no {ll : List (List QQ)} (h : mechB ll = false) : nbQ ll = (0, 0, false) := if_neg (by rw [h]; simp)
theorem nbQ_yes {ll : List (List QQ)} (h : mechB ll = true) : nbQ ll = accQ (nbSt ll) 1 1 ll.length := if_pos h
theorem rowRatio_int {A : Option Addr} {lo hi n c : Nat} {ll : List (List QQ)} {w : World} (h : FRows w lo hi A n ll) (hg : mechB ll = true) {i k : Int} (ni nk : Nat) (ei : i = ni) (ek : k = nk) (hi : ni < n) (hk : nk < n) :
    Calls Try.prog 107 #[.agg #[.slice A n c], .int .i64 i, .int .i64 k] w fun e w' => e = .returned (.tuple #[.agg #[.int .i64 (rrQ (ll.getD ni []) (ll.getD nk [])).1, .int .i64 (rrQ (ll.getD ni []) (ll.getD nk [])).2.1], .bool (rrQ (ll.getD ni []) (ll.getD nk [])).2.2]) ∧ Keeps w w' := by
  subst ei ek
  exact rowRatio_any h hg hi hk

set_option maxRecDepth 100000 in
set_option maxHeartbeats 6400000 in
theorem implNeighbourRatio_any {A : Option Addr} {lo hi n c : Nat} {ll : List (List QQ)} {w : World} (h : FRows w lo hi A n ll) :
    Calls Try.prog 21 #[.agg #[.slice A n c]] w fun e w' => e = .returned (.tuple #[.agg #[.int .i64 (nbQ ll).1, .int .i64 (nbQ ll).2.1], .bool (nbQ ll).2.2]) ∧ Keeps w w' := by
  have hn := h.le
  have hl := h.len
  have x0 : ∀ (a b c d : Int) (w : World), (Instr.index 136 (.agg #[.int .i64 a, .int .i64 b, .int .i64 c, .int .i64 d]) (.int .i64 0)).run Try.prog w = .ok (.agg #[.int .i64 a, .int .i64 b]) w := fun _ _ _ _ _ => by kernel_rfl
  have x1 : ∀ (a b c d : Int) (w : World), (Instr.index 136 (.agg #[.int .i64 a, .int .i64 b, .int .i64 c, .int .i64 d]) (.int .i64 1)).run Try.prog w = .ok (.agg #[.int .i64 c, .int .i64 d]) w := fun _ _ _ _ _ => by kernel_rfl
  go_enter Try.func21, Try.ntmps21
  have kw := keeps_refl w
  replace kw := Keeps.trans kw (keeps_alloc w (.cells #[.slice A n c] 25))
  have b1 : B1 (w.alloc (.cells #[.slice A n c] 25)) w.heap.size (.slice A n c) := B1.new' (by simp)
  replace b1 := b1.keeps (keeps_alloc (w.alloc (.cells #[.slice A n c] 25)) (.cells #[.int .i64 0, .int .i64 0] 31))
  replace kw := Keeps.trans kw (keeps_alloc (w.alloc (.cells #[.slice A n c] 25)) (.cells #[.int .i64 0, .int .i64 0] 31))
  have b2 : Bx ((w.alloc (.cells #[.slice A n c] 25)).alloc (.cells #[.int .i64 0, .int .i64 0] 31)) (w.heap.size + 1) 0 0 := Bx.new' (by simp)
  obtain ⟨ca1, fa1⟩ := id b1
  go_wp2_with fail
  clear ca1 fa1
  obtain ⟨pH1, H1⟩ : ∃ pB, Hid (mechB ll = pB) := ⟨_, rfl⟩
  refine (IsMechanism_any (h.keeps kw)).mono ?_
  rintro e w2 ⟨rfl, k2⟩
  rw [H1.out]
  replace b1 := b1.keeps k2
  replace b2 := b2.keeps k2
  replace kw := Keeps.trans kw k2
  have lt3 := b2.lt
  have sz4 := kw.size
  clear k2
  cases pH1
  · have HF := hid (nbQ_no (ll := ll) H1.out)
    obtain ⟨ca5, fa5⟩ := id b1
    obtain ⟨ca6, cb6, fa6, fb6⟩ := id b2
    go_wp2_with fail
    clear ca5 fa5 ca6 cb6 fa6 fb6
    obtain ⟨ca0, cb0, fa0, fb0⟩ := id b2
    refine bodyPost_ret (v := .tuple #[.agg #[.int .i64 0, .int .i64 0], .bool false]) (by simp [results, Try.results21, go_sem, ca0, cb0]) rfl ⟨ret_fb (by rw [HF.out]) (by rw [HF.out]) (by rw [HF.out]), ?_⟩
    exact below_set2 kw (p := (w.heap.size + 1)) (by omega) _ _
  · skip
    have hln := mechB_len H1.out
    have HV := hid (nbQ_yes H1.out)
    rw [hl] at HV
    obtain ⟨ca5, fa5⟩ := id b1
    replace b1 := b1.keeps (keeps_alloc w2 (.cells #[.int .i64 1, .int .i64 1] 31))
    replace b2 := b2.keeps (keeps_alloc w2 (.cells #[.int .i64 1, .int .i64 1] 31))
    replace kw := Keeps.trans kw (keeps_alloc w2 (.cells #[.int .i64 1, .int .i64 1] 31))
    have b4 : Bx (w2.alloc (.cells #[.int .i64 1, .int .i64 1] 31)) w2.heap.size 1 1 := Bx.new' (by simp)
    obtain ⟨ca6, fa6⟩ := id b1
    go_wp2_with fail
    clear ca5 fa5 ca6 fa6
    go_loopw [5] (fun si wr => ∃ (k : Nat) (s1 : Int) (s2 : Int), k ≤ n ∧ si = .int .i64 k ∧ Hid (accQ (nbSt ll) 1 1 k = (s1, s2, true)) ∧ Hid (fracB s1 s2 = true) ∧ 1 ≤ k ∧ B1 wr w.heap.size (.slice A n c) ∧ Bx wr (w.heap.size + 1) 0 0 ∧ Bx wr w2.heap.size s1 s2 ∧ Keeps w wr) (fun si _ => n - (intOf si).toNat)
    case atStart => exact ⟨1, 1, 1, by omega, by go_num, rfl, fracB_11, Nat.le_refl _, b1, b2, b4, kw⟩
    clear kw b1 b2 b4 
    case round =>
      obtain ⟨k, s1, s2, hk, rfl, HA, HB, hk1, b1, b2, b4, kw⟩ := hrel
      obtain ⟨wo, rfl⟩ : ∃ u : World, u = wr := ⟨_, rfl⟩
      have lt7 := b4.lt
      have sz8 := kw.size
      by_cases hlt : k < n
      · have hi1 : (k : Int) < (n : Int) := by omega
        have hi2 : (1 : Int) ≤ (k : Int) := by omega
        obtain ⟨ca9, fa9⟩ := id b1
        go_wp2_with fail
        clear ca9 fa9
        go_loopw [31] (fun si wv => ∃ (q : Nat) (t1' : Int) (t2' : Int), q ≤ 2 ∧ si = .int .i64 q ∧ Hid (accQ (nbIn ll k) s1 s2 q = (t1', t2', true)) ∧ Hid (fracB t1' t2' = true) ∧ B1 wv w.heap.size (.slice A n c) ∧ Bx wv (w.heap.size + 1) 0 0 ∧ Bx wv w2.heap.size t1' t2' ∧ Keeps w wv) (fun si _ => 2 - (intOf si).toNat)
        case atStart => exact ⟨0, s1, s2, Nat.zero_le _, rfl, rfl, HB.out, b1, b2, b4, kw⟩
        clear kw b1 b2 b4 
        case round =>
          obtain ⟨q, t1', t2', hq, rfl, HA2, HB2, b1, b2, b4, kw⟩ := hrel
          have lt10 := b4.lt
          have sz11 := kw.size
          by_cases hq0 : q = 0
          · subst hq0
            obtain ⟨q1, q2, q3, H5⟩ : ∃ q1 q2 q3, Hid (rrQ (ll.getD (k - 1) []) (ll.getD (k) []) = (q1, q2, q3)) := ⟨_, _, _, rfl⟩
            have HR := hid (show nbR ll k 0 = (q1, q2, q3) from H5.out)
            obtain ⟨ca12, fa12⟩ := id b1
            replace b1 := b1.keeps (keeps_alloc wr (.cells #[.int .i64 ((k : Int) - 1), .int .i64 ((k : Int))] 135))
            replace b2 := b2.keeps (keeps_alloc wr (.cells #[.int .i64 ((k : Int) - 1), .int .i64 ((k : Int))] 135))
            replace b4 := b4.keeps (keeps_alloc wr (.cells #[.int .i64 ((k : Int) - 1), .int .i64 ((k : Int))] 135))
            replace kw := Keeps.trans kw (keeps_alloc wr (.cells #[.int .i64 ((k : Int) - 1), .int .i64 ((k : Int))] 135))
            have b7 : Bx (wr.alloc (.cells #[.int .i64 ((k : Int) - 1), .int .i64 ((k : Int))] 135)) wr.heap.size ((k : Int) - 1) ((k : Int)) := Bx.new' (by simp)
            obtain ⟨ca13, fa13⟩ := id b1
            obtain ⟨ca14, cb14, fa14, fb14⟩ := id b7
            go_wp2_with fail
            clear ca12 fa12 ca13 fa13 ca14 cb14 fa14 fb14
            refine (rowRatio_int (h.keeps kw) H1.out (k - 1) (k) (by omega) (by omega) (by omega) (by omega)).mono ?_
            rintro e w15 ⟨rfl, k15⟩
            rw [H5.out]
            replace b1 := b1.keeps k15
            replace b2 := b2.keeps k15
            replace b4 := b4.keeps k15
            replace b7 := b7.keeps k15
            replace kw := Keeps.trans kw k15
            have lt16 := b7.lt
            have sz17 := kw.size
            clear k15
            cases q3
            · have HX := hid (accQ_fail HA2.out (nbIn_no HR.out) (show 0 < 2 by omega))
              replace b1 := b1.keeps (keeps_alloc w15 (.cells #[.int .i64 q1, .int .i64 q2] 31))
              replace b2 := b2.keeps (keeps_alloc w15 (.cells #[.int .i64 q1, .int .i64 q2] 31))
              replace b4 := b4.keeps (keeps_alloc w15 (.cells #[.int .i64 q1, .int .i64 q2] 31))
              replace b7 := b7.keeps (keeps_alloc w15 (.cells #[.int .i64 q1, .int .i64 q2] 31))
              replace kw := Keeps.trans kw (keeps_alloc w15 (.cells #[.int .i64 q1, .int .i64 q2] 31))
              have b8 : Bx (w15.alloc (.cells #[.int .i64 q1, .int .i64 q2] 31)) w15.heap.size q1 q2 := Bx.new' (by simp)
              have HE := hid (accQ_fail HA.out (show nbSt ll k s1 s2 = (0, 0, false) from (nbSt_in hk1).trans HX.out) hlt)
              have HF := hid (HV.out.trans HE.out)
              obtain ⟨ca18, cb18, fa18, fb18⟩ := id b2
              go_wp2_with fail
              clear ca18 cb18 fa18 fb18
              obtain ⟨ca0, cb0, fa0, fb0⟩ := id b2
              refine bodyPost_ret (v := .tuple #[.agg #[.int .i64 0, .int .i64 0], .bool false]) (by simp [results, Try.results21, go_sem, ca0, cb0]) rfl ⟨ret_fb (by rw [HF.out]) (by rw [HF.out]) (by rw [HF.out]), ?_⟩
              exact below_set2 kw (p := (w.heap.size + 1)) (by omega) _ _
            · have fq := hid ((rrQ_fine _ _).ok H5.out)
              have HN := hid (accQ_next HA2.out (nbIn_yes (a := t1') (b := t2') HR.out))
              have HMx := hid (maxQ_frac HB2.out fq.out)
              obtain ⟨ca18, cb18, fa18, fb18⟩ := id b4
              replace b1 := b1.keeps (keeps_alloc w15 (.cells #[.int .i64 q1, .int .i64 q2] 31))
              replace b2 := b2.keeps (keeps_alloc w15 (.cells #[.int .i64 q1, .int .i64 q2] 31))
              replace b4 := b4.keeps (keeps_alloc w15 (.cells #[.int .i64 q1, .int .i64 q2] 31))
              replace b7 := b7.keeps (keeps_alloc w15 (.cells #[.int .i64 q1, .int .i64 q2] 31))
              replace kw := Keeps.trans kw (keeps_alloc w15 (.cells #[.int .i64 q1, .int .i64 q2] 31))
              have b8 : Bx (w15.alloc (.cells #[.int .i64 q1, .int .i64 q2] 31)) w15.heap.size q1 q2 := Bx.new' (by simp)
              obtain ⟨ca19, cb19, fa19, fb19⟩ := id b4
              obtain ⟨ca20, cb20, fa20, fb20⟩ := id b8
              go_wp2_with fail
              clear ca18 cb18 fa18 fb18 ca19 cb19 fa19 fb19 ca20 cb20 fa20 fb20
              obtain ⟨cq, HC⟩ : ∃ cq, Hid (cmpQ q1 q2 t1' t2' = cq) := ⟨_, rfl⟩
              refine (cmpFrac_any (fracB_qb fq.out) (fracB_qb HB2.out)).mono ?_
              rintro e w21 ⟨rfl, k21⟩
              rw [HC.out]
              replace b1 := b1.keeps k21
              replace b2 := b2.keeps k21
              replace b4 := b4.keeps k21
              replace b7 := b7.keeps k21
              replace b8 := b8.keeps k21
              replace kw := Keeps.trans kw k21
              have lt22 := b8.lt
              have sz23 := kw.size
              clear k21
              by_cases hcq : 0 < cq
              · have HY := hid (maxQ_new (a := t1') (b := t2') (c := q1) (d := q2) (by rw [HC.out]; exact hcq))
                rw [HY.out] at HN HMx
                obtain ⟨ca24, cb24, fa24, fb24⟩ := id b4
                obtain ⟨ca25, cb25, fa25, fb25⟩ := id b8
                replace b1 := b1.set2 (p := w2.heap.size) (by omega) (.int .i64 q1) (.int .i64 q2)
                replace b2 := b2.set2 (p := w2.heap.size) (by omega) (.int .i64 q1) (.int .i64 q2)
                replace b7 := b7.set2 (p := w2.heap.size) (by omega) (.int .i64 q1) (.int .i64 q2)
                replace b8 := b8.set2 (p := w2.heap.size) (by omega) (.int .i64 q1) (.int .i64 q2)
                replace b4 := b4.set q1 q2
                replace kw := below_set2 kw (p := w2.heap.size) (by omega) (.int .i64 q1) (.int .i64 q2)
                go_wp2_with fail
                clear ca24 cb24 fa24 fb24 ca25 cb25 fa25 fb25
                go_roundw
                case rel => exact ⟨1, q1, q2, (by omega), (by go_num), HN.out, HMx.out, b1, b2, b4, kw⟩
                case measure => simp [intOf]
              · have HY := hid (maxQ_old (a := t1') (b := t2') (c := q1) (d := q2) (by rw [HC.out]; omega))
                rw [HY.out] at HN HMx
                go_wp2_with fail
                go_roundw
                case rel => exact ⟨1, t1', t2', (by omega), (by go_num), HN.out, HMx.out, b1, b2, b4, kw⟩
                case measure => simp [intOf]
          · by_cases hq1 : q = 1
            · subst hq1
              clear hq0
              obtain ⟨q1, q2, q3, H5⟩ : ∃ q1 q2 q3, Hid (rrQ (ll.getD (k) []) (ll.getD (k - 1) []) = (q1, q2, q3)) := ⟨_, _, _, rfl⟩
              have HR := hid (show nbR ll k 1 = (q1, q2, q3) from H5.out)
              obtain ⟨ca12, fa12⟩ := id b1
              replace b1 := b1.keeps (keeps_alloc wr (.cells #[.int .i64 ((k : Int)), .int .i64 ((k : Int) - 1)] 135))
              replace b2 := b2.keeps (keeps_alloc wr (.cells #[.int .i64 ((k : Int)), .int .i64 ((k : Int) - 1)] 135))
              replace b4 := b4.keeps (keeps_alloc wr (.cells #[.int .i64 ((k : Int)), .int .i64 ((k : Int) - 1)] 135))
              replace kw := Keeps.trans kw (keeps_alloc wr (.cells #[.int .i64 ((k : Int)), .int .i64 ((k : Int) - 1)] 135))
              have b7 : Bx (wr.alloc (.cells #[.int .i64 ((k : Int)), .int .i64 ((k : Int) - 1)] 135)) wr.heap.size ((k : Int)) ((k : Int) - 1) := Bx.new' (by simp)
              obtain ⟨ca13, fa13⟩ := id b1
              obtain ⟨ca14, cb14, fa14, fb14⟩ := id b7
              go_wp2_with fail
              clear ca12 fa12 ca13 fa13 ca14 cb14 fa14 fb14
              refine (rowRatio_int (h.keeps kw) H1.out (k) (k - 1) (by omega) (by omega) (by omega) (by omega)).mono ?_
              rintro e w15 ⟨rfl, k15⟩
              rw [H5.out]
              replace b1 := b1.keeps k15
              replace b2 := b2.keeps k15
              replace b4 := b4.keeps k15
              replace b7 := b7.keeps k15
              replace kw := Keeps.trans kw k15
              have lt16 := b7.lt
              have sz17 := kw.size
              clear k15
              cases q3
              · have HX := hid (accQ_fail HA2.out (nbIn_no HR.out) (show 1 < 2 by omega))
                replace b1 := b1.keeps (keeps_alloc w15 (.cells #[.int .i64 q1, .int .i64 q2] 31))
                replace b2 := b2.keeps (keeps_alloc w15 (.cells #[.int .i64 q1, .int .i64 q2] 31))
                replace b4 := b4.keeps (keeps_alloc w15 (.cells #[.int .i64 q1, .int .i64 q2] 31))
                replace b7 := b7.keeps (keeps_alloc w15 (.cells #[.int .i64 q1, .int .i64 q2] 31))
                replace kw := Keeps.trans kw (keeps_alloc w15 (.cells #[.int .i64 q1, .int .i64 q2] 31))
                have b8 : Bx (w15.alloc (.cells #[.int .i64 q1, .int .i64 q2] 31)) w15.heap.size q1 q2 := Bx.new' (by simp)
                have HE := hid (accQ_fail HA.out (show nbSt ll k s1 s2 = (0, 0, false) from (nbSt_in hk1).trans HX.out) hlt)
                have HF := hid (HV.out.trans HE.out)
                obtain ⟨ca18, cb18, fa18, fb18⟩ := id b2
                go_wp2_with fail
                clear ca18 cb18 fa18 fb18
                obtain ⟨ca0, cb0, fa0, fb0⟩ := id b2
                refine bodyPost_ret (v := .tuple #[.agg #[.int .i64 0, .int .i64 0], .bool false]) (by simp [results, Try.results21, go_sem, ca0, cb0]) rfl ⟨ret_fb (by rw [HF.out]) (by rw [HF.out]) (by rw [HF.out]), ?_⟩
                exact below_set2 kw (p := (w.heap.size + 1)) (by omega) _ _
              · have fq := hid ((rrQ_fine _ _).ok H5.out)
                have HN := hid (accQ_next HA2.out (nbIn_yes (a := t1') (b := t2') HR.out))
                have HMx := hid (maxQ_frac HB2.out fq.out)
                obtain ⟨ca18, cb18, fa18, fb18⟩ := id b4
                replace b1 := b1.keeps (keeps_alloc w15 (.cells #[.int .i64 q1, .int .i64 q2] 31))
                replace b2 := b2.keeps (keeps_alloc w15 (.cells #[.int .i64 q1, .int .i64 q2] 31))
                replace b4 := b4.keeps (keeps_alloc w15 (.cells #[.int .i64 q1, .int .i64 q2] 31))
                replace b7 := b7.keeps (keeps_alloc w15 (.cells #[.int .i64 q1, .int .i64 q2] 31))
                replace kw := Keeps.trans kw (keeps_alloc w15 (.cells #[.int .i64 q1, .int .i64 q2] 31))
                have b8 : Bx (w15.alloc (.cells #[.int .i64 q1, .int .i64 q2] 31)) w15.heap.size q1 q2 := Bx.new' (by simp)
                obtain ⟨ca19, cb19, fa19, fb19⟩ := id b4
                obtain ⟨ca20, cb20, fa20, fb20⟩ := id b8
                go_wp2_with fail
                clear ca18 cb18 fa18 fb18 ca19 cb19 fa19 fb19 ca20 cb20 fa20 fb20
                obtain ⟨cq, HC⟩ : ∃ cq, Hid (cmpQ q1 q2 t1' t2' = cq) := ⟨_, rfl⟩
                refine (cmpFrac_any (fracB_qb fq.out) (fracB_qb HB2.out)).mono ?_
                rintro e w21 ⟨rfl, k21⟩
                rw [HC.out]
                replace b1 := b1.keeps k21
                replace b2 := b2.keeps k21
                replace b4 := b4.keeps k21
                replace b7 := b7.keeps k21
                replace b8 := b8.keeps k21
                replace kw := Keeps.trans kw k21
                have lt22 := b8.lt
                have sz23 := kw.size
                clear k21
                by_cases hcq : 0 < cq
                · have HY := hid (maxQ_new (a := t1') (b := t2') (c := q1) (d := q2) (by rw [HC.out]; exact hcq))
                  rw [HY.out] at HN HMx
                  obtain ⟨ca24, cb24, fa24, fb24⟩ := id b4
                  obtain ⟨ca25, cb25, fa25, fb25⟩ := id b8
                  replace b1 := b1.set2 (p := w2.heap.size) (by omega) (.int .i64 q1) (.int .i64 q2)
                  replace b2 := b2.set2 (p := w2.heap.size) (by omega) (.int .i64 q1) (.int .i64 q2)
                  replace b7 := b7.set2 (p := w2.heap.size) (by omega) (.int .i64 q1) (.int .i64 q2)
                  replace b8 := b8.set2 (p := w2.heap.size) (by omega) (.int .i64 q1) (.int .i64 q2)
                  replace b4 := b4.set q1 q2
                  replace kw := below_set2 kw (p := w2.heap.size) (by omega) (.int .i64 q1) (.int .i64 q2)
                  go_wp2_with fail
                  clear ca24 cb24 fa24 fb24 ca25 cb25 fa25 fb25
                  go_roundw
                  case rel => exact ⟨2, q1, q2, (by omega), (by go_num), HN.out, HMx.out, b1, b2, b4, kw⟩
                  case measure => simp [intOf]
                · have HY := hid (maxQ_old (a := t1') (b := t2') (c := q1) (d := q2) (by rw [HC.out]; omega))
                  rw [HY.out] at HN HMx
                  go_wp2_with fail
                  go_roundw
                  case rel => exact ⟨2, t1', t2', (by omega), (by go_num), HN.out, HMx.out, b1, b2, b4, kw⟩
                  case measure => simp [intOf]
            · obtain rfl : q = 2 := by omega
              clear hq0 hq1
              have HS := hid (show nbSt ll k s1 s2 = (t1', t2', true) from (nbSt_in hk1).trans HA2.out)
              go_wp2_with fail
              go_roundw
              case rel => exact ⟨k + 1, t1', t2', (by omega), (by go_num), accQ_next HA.out HS.out, HB2.out, by omega, b1, b2, b4, kw⟩
              case measure => simp [intOf]; omega
      · obtain rfl : k = n := by omega
        have HF := hid (HV.out.trans HA.out)
        obtain ⟨ca9, fa9⟩ := id b1
        obtain ⟨ca10, cb10, fa10, fb10⟩ := id b2
        obtain ⟨ca11, cb11, fa11, fb11⟩ := id b4
        go_wp2_with fail
        clear ca9 fa9 ca10 cb10 fa10 fb10 ca11 cb11 fa11 fb11
        obtain ⟨ca0, cb0, fa0, fb0⟩ := id b2
        refine bodyPost_ret (v := .tuple #[.agg #[.int .i64 s1, .int .i64 s2], .bool true]) (by simp [results, Try.results21, go_sem, ca0, cb0]) rfl ⟨ret_fb (by rw [HF.out]) (by rw [HF.out]) (by rw [HF.out]), ?_⟩
        exact below_set2 kw (p := (w.heap.size + 1)) (by omega) _ _
end Go.Proofs.Ytnopedjgagoahaa
