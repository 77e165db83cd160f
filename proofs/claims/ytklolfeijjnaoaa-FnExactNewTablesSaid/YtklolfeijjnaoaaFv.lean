/- The first version of a table: of the program and of the reference. -/
import Derived.Test.YtklolfeijjnaoaaFow
import Derived.Test.YtklolfeijjnaoaaRls
namespace Go.Proofs.Ytklolfeijjnaoaa
open Go.RowKit Go.Sort
set_option linter.unusedVariables false
set_option linter.unusedSimpArgs false

structure TwoInts (w : World) (lo hi : Nat) (A : Option Addr) (n : Nat) (l : List Int) (B : Option Addr) (m : Nat) (l' : List Int) : Prop where
  a : Ints w lo hi A n l
  b : Ints w lo hi B m l'
theorem TwoInts.of {w : World} {lo hi n m : Nat} {A B : Option Addr} {l l' : List Int} (h : Ints w lo hi A n l ∧ Ints w lo hi B m l') : TwoInts w lo hi A n l B m l' := ⟨h.1, h.2⟩
theorem TwoInts.keeps {w w' : World} {lo hi n m : Nat} {A B : Option Addr} {l l' : List Int} (h : TwoInts w lo hi A n l B m l') (k : Keeps w w') : TwoInts w' lo hi A n l B m l' := ⟨h.a.keeps k, h.b.keeps k⟩
theorem enterF_of {P : Program} {f : FuncId} {fn : Func} {c : Code} (hf : P.funcs[f]? = some fn) (hname : (fn.name == "runtime.NumGoroutine") = false) (hb : fn.body = some c) (args : Array Value) (w : World) :
    (callFunc f args).run P w = .ok (.enter f args) w := by
  have h1 : fn.name ≠ "runtime.NumGoroutine" := by simpa using hname
  simp [callFunc, hf, h1, hb]
/-- The first number below n where g holds, or n. -/
def fst (g : Nat → Bool) : Nat → Nat
  | 0 => 0
  | k + 1 => if fst g k < k then fst g k else if g k then k else k + 1
theorem fst_no {g : Nat → Bool} {k : Nat} (h : fst g k = k) (h1 : g k = false) : fst g (k + 1) = k + 1 := by unfold fst; rw [h, if_neg (by omega), h1]; rfl
theorem fst_yes {g : Nat → Bool} {k n : Nat} (h : fst g k = k) (h1 : g k = true) (hn : k < n) : fst g n = k := by
  induction n with
  | zero => omega
  | succ n ih =>
    unfold fst
    rcases Nat.lt_or_ge k n with h2 | h2
    · rw [ih h2, if_pos h2]
    · obtain rfl : k = n := by omega
      rw [h, if_neg (by omega), if_pos h1]
def ixF (g : Nat → Bool) (n : Nat) : Int := if fst g n < n then (fst g n : Int) else -1
def exF (g : Nat → Bool) (n : Nat) : Bool := decide (fst g n < n)
theorem ixF_yes {g : Nat → Bool} {k n : Nat} (h : fst g k = k) (h1 : g k = true) (hn : k < n) : ixF g n = (k : Int) := by unfold ixF; rw [fst_yes h h1 hn, if_pos hn]
theorem ixF_no {g : Nat → Bool} {n : Nat} (h : fst g n = n) : ixF g n = -1 := by unfold ixF; rw [h, if_neg (by omega)]
theorem exF_yes {g : Nat → Bool} {k n : Nat} (h : fst g k = k) (h1 : g k = true) (hn : k < n) : exF g n = true := by unfold exF; rw [fst_yes h h1 hn]; exact decide_eq_true hn
theorem exF_no {g : Nat → Bool} {n : Nat} (h : fst g n = n) : exF g n = false := by unfold exF; rw [h]; exact decide_eq_false (by omega)
theorem ixF_t {g : Nat → Bool} {n : Nat} (h : exF g n = true) : ixF g n = (fst g n : Int) := by unfold exF at h; unfold ixF; rw [if_pos (of_decide_eq_true h)]
theorem ixF_f {g : Nat → Bool} {n : Nat} (h : exF g n = false) : ixF g n = -1 := by unfold exF at h; unfold ixF; rw [if_neg (of_decide_eq_false h)]
theorem exF_lt {g : Nat → Bool} {n : Nat} (h : exF g n = true) : fst g n < n := of_decide_eq_true h
theorem fst_le (g : Nat → Bool) : ∀ n, fst g n ≤ n
  | 0 => Nat.le_refl _
  | n + 1 => by
    have := fst_le g n
    unfold fst; split
    · omega
    · split <;> omega
/-- Whether t follows from a table of release i. -/
def fvG (ps : List Int) (l : List VV) (rs : List RL) (t : TT) (i : Nat) : Bool := exF (fun j => flB ps l t ((rs.getD i rl0).2.1.getD j t0)) (rs.getD i rl0).2.1.length
def svI (g : Nat → Bool) (n : Nat) : Int := if exF g n then (fst g n : Int) + 1 else 0
theorem svI_yes {g : Nat → Bool} {k n : Nat} (h : fst g k = k) (h1 : g k = true) (hn : k < n) : svI g n = (k : Int) + 1 := by unfold svI; rw [exF_yes h h1 hn, fst_yes h h1 hn]; rfl
theorem svI_no {g : Nat → Bool} {n : Nat} (h : fst g n = n) : svI g n = 0 := by unfold svI; rw [exF_no h]; rfl
theorem svI_t {g : Nat → Bool} {n : Nat} (h : exF g n = true) : svI g n = (fst g n : Int) + 1 := by unfold svI; rw [h]; rfl
theorem svI_f {g : Nat → Bool} {n : Nat} (h : exF g n = false) : svI g n = 0 := by unfold svI; rw [h]; rfl
def fvQ (ps : List Int) (l : List VV) (rs : List RL) (t : TT) : Int × Bool :=
  if hisB ps l rs && tabB ps l t then (svI (fvG ps l rs t) rs.length, exF (fvG ps l rs t) rs.length) else (0, false)
theorem fvQ_no {ps : List Int} {l : List VV} {rs : List RL} {t : TT} (h : (hisB ps l rs && tabB ps l t) = false) : fvQ ps l rs t = (0, false) := by unfold fvQ; rw [h]; rfl
theorem fvQ_yes {ps : List Int} {l : List VV} {rs : List RL} {t : TT} {n : Nat} (hl : rs.length = n) (h : hisB ps l rs = true) (h1 : tabB ps l t = true) : fvQ ps l rs t = (svI (fvG ps l rs t) n, exF (fvG ps l rs t) n) := by unfold fvQ; rw [h, h1, hl]; rfl

set_option maxRecDepth 100000 in
set_option maxHeartbeats 3200000 in
theorem indexFuncT_any {A : Option Addr} {lo hi n c : Nat} {K : FuncId} {caps : Array Value} {un : Bool} {ts : List TT} {G : Nat → Bool} {w : World} (h : Tabs true un w lo hi A n ts) (hK : ∀ (args : Array Value) (w : World), (callFunc K args).run Try.prog w = .ok (.enter K args) w)
    (hat : ∀ (k : Nat) (w' : World) (lv sm : Int) (V H : Option Addr) (nv cv nh ch : Nat) (vs hs : List Int), k < n → Keeps w w' → Ints w' lo hi V nv vs → Ints w' lo hi H nh hs → Hid ((lv, vs, hs, sm) = ts.getD k t0) → Calls Try.prog K (#[.agg #[.int .i64 lv, .slice V nv cv, .slice H nh ch, .int .i64 sm]] ++ caps) w' fun e w'' => e = .returned (.bool (G k)) ∧ Keeps w' w'') :
    Calls Try.prog 149 #[.slice A n c, .func (.func K) #[] caps] w fun e w' => e = .returned (.int .i64 (ixF G n)) ∧ Keeps w w' := by
  have HAT := hid hat
  clear hat
  have hn := h.le
  go_enter Try.func149, Try.ntmps149
  go_wp2_with fail
  go_loopw [8] (fun i wr => ∃ k : Nat, k ≤ n ∧ i = .int .i64 k ∧ Hid (fst G k = k) ∧ Keeps w wr) (fun i _ => n - (intOf i).toNat)
  case atStart => exact ⟨0, Nat.zero_le _, rfl, hid rfl, keeps_refl _⟩
  case round =>
    obtain ⟨k, hk, rfl, HK, kw⟩ := hrel
    by_cases hlt : k < n
    · have hi1 : (k : Int) < (n : Int) := by omega
      obtain ⟨b, off, lv, V, nv, cv, H, nh, ch, sm, vs, hs, rfl, _, _, c0, c1, c2, c3, gv, gh, hx⟩ := (h.keeps kw).at_ hlt
      go_wp2_with fail
      clear c0 c1 c2 c3
      refine (HAT.out k _ lv sm V H nv cv nh ch vs hs hlt kw gv gh hx).mono ?_
      rintro e w1 ⟨rfl, k1⟩
      replace kw := Keeps.trans kw k1
      obtain ⟨p, HP⟩ : ∃ p, Hid (G k = p) := ⟨_, rfl⟩
      rw [HP.out]
      cases p
      · have HN := hid (fst_no HK.out HP.out)
        go_wp2
        go_roundw
        case rel => exact ⟨k + 1, by omega, by go_num, HN, kw⟩
        case measure => simp [intOf]; omega
      · have HX := hid (ixF_yes HK.out HP.out hlt)
        go_wp2
        go_ret
        exact ⟨ret_int HX.out.symm, kw⟩
    · obtain rfl : n = k := by omega
      have HX := hid (ixF_no HK.out)
      go_wp2
      go_ret
      exact ⟨ret_int HX.out.symm, kw⟩
set_option maxRecDepth 100000 in
set_option maxHeartbeats 3200000 in
theorem containsFuncT_any {A : Option Addr} {lo hi n c : Nat} {K : FuncId} {caps : Array Value} {un : Bool} {ts : List TT} {G : Nat → Bool} {w : World} (h : Tabs true un w lo hi A n ts) (hK : ∀ (args : Array Value) (w : World), (callFunc K args).run Try.prog w = .ok (.enter K args) w)
    (hat : ∀ (k : Nat) (w' : World) (lv sm : Int) (V H : Option Addr) (nv cv nh ch : Nat) (vs hs : List Int), k < n → Keeps w w' → Ints w' lo hi V nv vs → Ints w' lo hi H nh hs → Hid ((lv, vs, hs, sm) = ts.getD k t0) → Calls Try.prog K (#[.agg #[.int .i64 lv, .slice V nv cv, .slice H nh ch, .int .i64 sm]] ++ caps) w' fun e w'' => e = .returned (.bool (G k)) ∧ Keeps w' w'') :
    Calls Try.prog 115 #[.slice A n c, .func (.func K) #[] caps] w fun e w' => e = .returned (.bool (exF G n)) ∧ Keeps w w' := by
  have HAT := hid hat
  have HKK := hid hK
  clear hat hK
  obtain ⟨p, HP⟩ : ∃ p, Hid (exF G n = p) := ⟨_, rfl⟩
  rw [HP.out]
  go_enter Try.func115, Try.ntmps115
  go_wp2_with fail
  cases p
  · refine (indexFuncT_any (c := c) h HKK.out HAT.out).mono ?_
    rintro e w1 ⟨rfl, k1⟩
    rw [ixF_f HP.out]
    go_wp2
    go_ret
    exact ⟨ret_bool rfl, k1⟩
  · refine (indexFuncT_any (c := c) h HKK.out HAT.out).mono ?_
    rintro e w1 ⟨rfl, k1⟩
    rw [ixF_t HP.out]
    have ge : (0 : Int) ≤ (fst G n : Int) := by omega
    go_wp2
    go_ret
    exact ⟨ret_bool rfl, k1⟩
set_option maxRecDepth 100000 in
set_option maxHeartbeats 3200000 in
theorem svClosure {A A' V H V' H' : Option Addr} {lo hi lo1 hi1 lo2 hi2 lo3 hi3 lo4 hi4 a c0 q e n c m d n' c' m' d' : Nat} {ps vs ws us xs : List Int} {l : List VV} {lv sm lu su : Int} {w : World} (h : Ints w lo hi A a ps) (hg : geoB ps = true) (h' : Sch w A' q e l) (hlv : LvOk l q) (hv : Ints w lo1 hi1 V n vs) (hw : Ints w lo2 hi2 H m ws) (hu : Ints w lo3 hi3 V' n' us) (hx : Ints w lo4 hi4 H' m' xs) (h0 : 0 ≤ lv) (h1 : 0 ≤ lu) (hW : whB l ws = true) (hX : whB l xs = true) {g1 g2 g3 : Nat} {p : Bool} (b1 : B1 w g1 (.slice A a c0)) (b2 : B1 w g2 (.slice A' q e)) (b3 : Bl w g3 [.int .i64 lv, .slice V n c, .slice H m d, .int .i64 sm]) (hp : flB ps l (lv, vs, ws, sm) (lu, us, xs, su) = p) :
    Calls Try.prog 138 (#[.agg #[.int .i64 lu, .slice V' n' c', .slice H' m' d', .int .i64 su]] ++ #[.pointer (some ⟨g1, 0, none⟩), .pointer (some ⟨g2, 0, none⟩), .pointer (some ⟨g3, 0, none⟩)]) w fun e w' => e = .returned (.bool p) ∧ Keeps w w' := by
  show Calls Try.prog 138 #[.agg #[.int .i64 lu, .slice V' n' c', .slice H' m' d', .int .i64 su], .pointer (some ⟨g1, 0, none⟩), .pointer (some ⟨g2, 0, none⟩), .pointer (some ⟨g3, 0, none⟩)] w _
  have HP := hid hp
  clear hp
  have lt1 := b1.lt
  have lt2 := b2.lt
  have lt3 := b3.lt
  go_enter Try.func138, Try.ntmps138
  have kw := keeps_refl w
  replace b1 := b1.keeps (keeps_alloc w (.cells #[.int .i64 lu, .slice V' n' c', .slice H' m' d', .int .i64 su] 84))
  replace b2 := b2.keeps (keeps_alloc w (.cells #[.int .i64 lu, .slice V' n' c', .slice H' m' d', .int .i64 su] 84))
  replace b3 := b3.keeps (keeps_alloc w (.cells #[.int .i64 lu, .slice V' n' c', .slice H' m' d', .int .i64 su] 84))
  replace kw := Keeps.trans kw (keeps_alloc w (.cells #[.int .i64 lu, .slice V' n' c', .slice H' m' d', .int .i64 su] 84))
  have b4 : Bl (w.alloc (.cells #[.int .i64 lu, .slice V' n' c', .slice H' m' d', .int .i64 su] 84)) w.heap.size [.int .i64 lu, .slice V' n' c', .slice H' m' d', .int .i64 su] := Bl.new' (by simp) (by simp)
  obtain ⟨ca1, fa1⟩ := id b1
  obtain ⟨ca2, fa2⟩ := id b2
  have ca3_0 : (w.alloc (.cells #[.int .i64 lu, .slice V' n' c', .slice H' m' d', .int .i64 su] 84)).cell? ⟨g3, 0, none⟩ = some (.int .i64 lv) := (b3.2 0 _ rfl).1
  have fa3_0 : (w.alloc (.cells #[.int .i64 lu, .slice V' n' c', .slice H' m' d', .int .i64 su] 84)).frozen? ⟨g3, 0, none⟩ = false := (b3.2 0 _ rfl).2
  have ca3_1 : (w.alloc (.cells #[.int .i64 lu, .slice V' n' c', .slice H' m' d', .int .i64 su] 84)).cell? ⟨g3, 1, none⟩ = some (.slice V n c) := (b3.2 1 _ rfl).1
  have fa3_1 : (w.alloc (.cells #[.int .i64 lu, .slice V' n' c', .slice H' m' d', .int .i64 su] 84)).frozen? ⟨g3, 1, none⟩ = false := (b3.2 1 _ rfl).2
  have ca3_2 : (w.alloc (.cells #[.int .i64 lu, .slice V' n' c', .slice H' m' d', .int .i64 su] 84)).cell? ⟨g3, 2, none⟩ = some (.slice H m d) := (b3.2 2 _ rfl).1
  have fa3_2 : (w.alloc (.cells #[.int .i64 lu, .slice V' n' c', .slice H' m' d', .int .i64 su] 84)).frozen? ⟨g3, 2, none⟩ = false := (b3.2 2 _ rfl).2
  have ca3_3 : (w.alloc (.cells #[.int .i64 lu, .slice V' n' c', .slice H' m' d', .int .i64 su] 84)).cell? ⟨g3, 3, none⟩ = some (.int .i64 sm) := (b3.2 3 _ rfl).1
  have fa3_3 : (w.alloc (.cells #[.int .i64 lu, .slice V' n' c', .slice H' m' d', .int .i64 su] 84)).frozen? ⟨g3, 3, none⟩ = false := (b3.2 3 _ rfl).2
  have ca4_0 : (w.alloc (.cells #[.int .i64 lu, .slice V' n' c', .slice H' m' d', .int .i64 su] 84)).cell? ⟨w.heap.size, 0, none⟩ = some (.int .i64 lu) := (b4.2 0 _ rfl).1
  have fa4_0 : (w.alloc (.cells #[.int .i64 lu, .slice V' n' c', .slice H' m' d', .int .i64 su] 84)).frozen? ⟨w.heap.size, 0, none⟩ = false := (b4.2 0 _ rfl).2
  have ca4_1 : (w.alloc (.cells #[.int .i64 lu, .slice V' n' c', .slice H' m' d', .int .i64 su] 84)).cell? ⟨w.heap.size, 1, none⟩ = some (.slice V' n' c') := (b4.2 1 _ rfl).1
  have fa4_1 : (w.alloc (.cells #[.int .i64 lu, .slice V' n' c', .slice H' m' d', .int .i64 su] 84)).frozen? ⟨w.heap.size, 1, none⟩ = false := (b4.2 1 _ rfl).2
  have ca4_2 : (w.alloc (.cells #[.int .i64 lu, .slice V' n' c', .slice H' m' d', .int .i64 su] 84)).cell? ⟨w.heap.size, 2, none⟩ = some (.slice H' m' d') := (b4.2 2 _ rfl).1
  have fa4_2 : (w.alloc (.cells #[.int .i64 lu, .slice V' n' c', .slice H' m' d', .int .i64 su] 84)).frozen? ⟨w.heap.size, 2, none⟩ = false := (b4.2 2 _ rfl).2
  have ca4_3 : (w.alloc (.cells #[.int .i64 lu, .slice V' n' c', .slice H' m' d', .int .i64 su] 84)).cell? ⟨w.heap.size, 3, none⟩ = some (.int .i64 su) := (b4.2 3 _ rfl).1
  have fa4_3 : (w.alloc (.cells #[.int .i64 lu, .slice V' n' c', .slice H' m' d', .int .i64 su] 84)).frozen? ⟨w.heap.size, 3, none⟩ = false := (b4.2 3 _ rfl).2
  go_wp2_with fail
  clear ca1 fa1 ca2 fa2 ca3_0 fa3_0 ca3_1 fa3_1 ca3_2 fa3_2 ca3_3 fa3_3 ca4_0 fa4_0 ca4_1 fa4_1 ca4_2 fa4_2 ca4_3 fa4_3
  refine (followsFrom_any (h.keeps kw) hg (h'.keeps kw) hlv (hv.keeps kw) (hw.keeps kw) (hu.keeps kw) (hx.keeps kw) h0 h1 hW hX).mono ?_
  rintro e w5 ⟨rfl, k5⟩
  rw [HP.out]
  replace b1 := b1.keeps k5
  replace b2 := b2.keeps k5
  replace b3 := b3.keeps k5
  replace b4 := b4.keeps k5
  replace kw := Keeps.trans kw k5
  have lt6 := b4.lt
  have sz7 := kw.size
  clear k5
  go_wp2_with fail
  go_ret
  exact ⟨ret_bool rfl, kw⟩
set_option maxRecDepth 100000 in
set_option maxHeartbeats 6400000 in
theorem sourceVersion_any {A A' V H R : Option Addr} {lo hi lo1 hi1 lo2 hi2 lo3 hi3 a c0 q e n c m d r cr : Nat} {un : Bool} {ps vs ws : List Int} {l : List VV} {rs : List RL} {lv sm : Int} {w : World} (h : Ints w lo hi A a ps) (h' : Sch w A' q e l) (hr : Rels true un w lo3 hi3 R r rs) (hv : Ints w lo1 hi1 V n vs) (hw : Ints w lo2 hi2 H m ws) (hh : hisB ps l rs = true) (hT : tabB ps l (lv, vs, ws, sm) = true) :
    Calls Try.prog 99 #[.agg #[.slice A a c0], .slice A' q e, .slice R r cr, .agg #[.int .i64 lv, .slice V n c, .slice H m d, .int .i64 sm]] w fun e w' => e = .returned (.int .i64 (svI (fvG ps l rs (lv, vs, ws, sm)) r)) ∧ Keeps w w' := by
  obtain ⟨lo9, hi9, hz⟩ := h'.v
  have hq := hz.le
  have hn := hr.le
  have HRL := hid hr.len
  have HP := hid (hisB_parts hh)
  have HLV := hid (schB_lv (Vars.len hz) HP.out.2.1).1
  have HT := hid hT
  have h0 := tab_lv hT
  have HW := hid (tabB_parts hT).2.1
  have HPL := hid (fun k (hk : k < r) => show plB ps l (rs.getD k rl0).2.1 = true from (by have h9 := (HP.out.2.2.2 k (by rw [HRL.out]; exact hk)).2; unfold relB at h9; simp only [Bool.and_eq_true] at h9; exact h9.1.2))
  clear hh hT h0
  go_enter Try.func99, Try.ntmps99
  have kw := keeps_refl w
  replace kw := Keeps.trans kw (keeps_alloc w (.cells #[.slice A a c0] 38))
  have b4 : B1 (w.alloc (.cells #[.slice A a c0] 38)) w.heap.size (.slice A a c0) := B1.new' (by simp)
  replace b4 := b4.keeps (keeps_alloc (w.alloc (.cells #[.slice A a c0] 38)) (.cells #[.slice A' q e] 40))
  replace kw := Keeps.trans kw (keeps_alloc (w.alloc (.cells #[.slice A a c0] 38)) (.cells #[.slice A' q e] 40))
  have b5 : B1 ((w.alloc (.cells #[.slice A a c0] 38)).alloc (.cells #[.slice A' q e] 40)) (w.heap.size + 1) (.slice A' q e) := B1.new' (by simp)
  replace b4 := b4.keeps (keeps_alloc ((w.alloc (.cells #[.slice A a c0] 38)).alloc (.cells #[.slice A' q e] 40)) (.cells #[.int .i64 lv, .slice V n c, .slice H m d, .int .i64 sm] 84))
  replace b5 := b5.keeps (keeps_alloc ((w.alloc (.cells #[.slice A a c0] 38)).alloc (.cells #[.slice A' q e] 40)) (.cells #[.int .i64 lv, .slice V n c, .slice H m d, .int .i64 sm] 84))
  replace kw := Keeps.trans kw (keeps_alloc ((w.alloc (.cells #[.slice A a c0] 38)).alloc (.cells #[.slice A' q e] 40)) (.cells #[.int .i64 lv, .slice V n c, .slice H m d, .int .i64 sm] 84))
  have b7 : Bl (((w.alloc (.cells #[.slice A a c0] 38)).alloc (.cells #[.slice A' q e] 40)).alloc (.cells #[.int .i64 lv, .slice V n c, .slice H m d, .int .i64 sm] 84)) (w.heap.size + 1 + 1) [.int .i64 lv, .slice V n c, .slice H m d, .int .i64 sm] := Bl.new' (by simp) (by simp)
  go_wp2_with fail
  go_loopw [13] (fun i wr => ∃ k : Nat, k ≤ r ∧ i = .int .i64 k ∧ Hid (fst (fvG ps l rs (lv, vs, ws, sm)) k = k) ∧ B1 wr w.heap.size (.slice A a c0) ∧ B1 wr (w.heap.size + 1) (.slice A' q e) ∧ Bl wr (w.heap.size + 1 + 1) [.int .i64 lv, .slice V n c, .slice H m d, .int .i64 sm] ∧ Keeps w wr) (fun i _ => r - (intOf i).toNat)
  case atStart => exact ⟨0, Nat.zero_le _, rfl, hid rfl, b4, b5, b7, kw⟩
  clear b4 b5 b7 kw
  case round =>
    obtain ⟨k, hk, rfl, HK, b4, b5, b7, kw⟩ := hrel
    by_cases hlt : k < r
    · obtain ⟨b, off, v, P, np, cp, x1, x2, x3, x4, pl, rfl, _, _, e0, e1, e2, e3, e4, e5, ht, hx⟩ := hr.at_ hlt
      have HVV := hid (show v = (k : Int) + 1 by have := (HP.out.2.2.2 k (by rw [HRL.out]; exact hlt)).1; rw [← hx.out] at this; exact this)
      have HPB := hid (show plB ps l pl = true by have := HPL.out k hlt; rw [← hx.out] at this; exact this)
      have HTL := hid ht.len
      have HGK := hid (show fvG ps l rs (lv, vs, ws, sm) k = exF (fun j => flB ps l (lv, vs, ws, sm) (pl.getD j t0)) np by unfold fvG; rw [← hx.out, ← HTL.out])
      clear hx
      have hi1 : (k : Int) < (r : Int) := by omega
      have hnp := ht.le
      have d0 := cell_keeps e0 kw
      have d1 := cell_keeps e1 kw
      have d2 := cell_keeps e2 kw
      have d3 := cell_keeps e3 kw
      have d4 := cell_keeps e4 kw
      have d5 := cell_keeps e5 kw
      have lt7 := b7.lt
      have HTJ := hid (fun (j : Nat) (hj : j < np) (lu su : Int) (us xs : List Int) (hx : Hid ((lu, us, xs, su) = pl.getD j t0)) => show tabB ps l (lu, us, xs, su) = true from (by have := (plB_at HPB.out).2 j (by rw [HTL.out]; exact hj); rw [← hx.out] at this; exact this))
      replace b4 := b4.keeps (keeps_alloc wr (.cells #[.int .i64 v, .slice P np cp, .int .i64 x1, .int .i64 x2, .int .i64 x3, .int .i64 x4] 47))
      replace b5 := b5.keeps (keeps_alloc wr (.cells #[.int .i64 v, .slice P np cp, .int .i64 x1, .int .i64 x2, .int .i64 x3, .int .i64 x4] 47))
      replace b7 := b7.keeps (keeps_alloc wr (.cells #[.int .i64 v, .slice P np cp, .int .i64 x1, .int .i64 x2, .int .i64 x3, .int .i64 x4] 47))
      replace kw := Keeps.trans kw (keeps_alloc wr (.cells #[.int .i64 v, .slice P np cp, .int .i64 x1, .int .i64 x2, .int .i64 x3, .int .i64 x4] 47))
      have b10 : Bl (wr.alloc (.cells #[.int .i64 v, .slice P np cp, .int .i64 x1, .int .i64 x2, .int .i64 x3, .int .i64 x4] 47)) wr.heap.size [.int .i64 v, .slice P np cp, .int .i64 x1, .int .i64 x2, .int .i64 x3, .int .i64 x4] := Bl.new' (by simp) (by simp)
      have ca1_0 : (wr.alloc (.cells #[.int .i64 v, .slice P np cp, .int .i64 x1, .int .i64 x2, .int .i64 x3, .int .i64 x4] 47)).cell? ⟨wr.heap.size, 0, none⟩ = some (.int .i64 v) := (b10.2 0 _ rfl).1
      have fa1_0 : (wr.alloc (.cells #[.int .i64 v, .slice P np cp, .int .i64 x1, .int .i64 x2, .int .i64 x3, .int .i64 x4] 47)).frozen? ⟨wr.heap.size, 0, none⟩ = false := (b10.2 0 _ rfl).2
      have ca1_1 : (wr.alloc (.cells #[.int .i64 v, .slice P np cp, .int .i64 x1, .int .i64 x2, .int .i64 x3, .int .i64 x4] 47)).cell? ⟨wr.heap.size, 1, none⟩ = some (.slice P np cp) := (b10.2 1 _ rfl).1
      have fa1_1 : (wr.alloc (.cells #[.int .i64 v, .slice P np cp, .int .i64 x1, .int .i64 x2, .int .i64 x3, .int .i64 x4] 47)).frozen? ⟨wr.heap.size, 1, none⟩ = false := (b10.2 1 _ rfl).2
      have ca1_2 : (wr.alloc (.cells #[.int .i64 v, .slice P np cp, .int .i64 x1, .int .i64 x2, .int .i64 x3, .int .i64 x4] 47)).cell? ⟨wr.heap.size, 2, none⟩ = some (.int .i64 x1) := (b10.2 2 _ rfl).1
      have fa1_2 : (wr.alloc (.cells #[.int .i64 v, .slice P np cp, .int .i64 x1, .int .i64 x2, .int .i64 x3, .int .i64 x4] 47)).frozen? ⟨wr.heap.size, 2, none⟩ = false := (b10.2 2 _ rfl).2
      have ca1_3 : (wr.alloc (.cells #[.int .i64 v, .slice P np cp, .int .i64 x1, .int .i64 x2, .int .i64 x3, .int .i64 x4] 47)).cell? ⟨wr.heap.size, 3, none⟩ = some (.int .i64 x2) := (b10.2 3 _ rfl).1
      have fa1_3 : (wr.alloc (.cells #[.int .i64 v, .slice P np cp, .int .i64 x1, .int .i64 x2, .int .i64 x3, .int .i64 x4] 47)).frozen? ⟨wr.heap.size, 3, none⟩ = false := (b10.2 3 _ rfl).2
      have ca1_4 : (wr.alloc (.cells #[.int .i64 v, .slice P np cp, .int .i64 x1, .int .i64 x2, .int .i64 x3, .int .i64 x4] 47)).cell? ⟨wr.heap.size, 4, none⟩ = some (.int .i64 x3) := (b10.2 4 _ rfl).1
      have fa1_4 : (wr.alloc (.cells #[.int .i64 v, .slice P np cp, .int .i64 x1, .int .i64 x2, .int .i64 x3, .int .i64 x4] 47)).frozen? ⟨wr.heap.size, 4, none⟩ = false := (b10.2 4 _ rfl).2
      have ca1_5 : (wr.alloc (.cells #[.int .i64 v, .slice P np cp, .int .i64 x1, .int .i64 x2, .int .i64 x3, .int .i64 x4] 47)).cell? ⟨wr.heap.size, 5, none⟩ = some (.int .i64 x4) := (b10.2 5 _ rfl).1
      have fa1_5 : (wr.alloc (.cells #[.int .i64 v, .slice P np cp, .int .i64 x1, .int .i64 x2, .int .i64 x3, .int .i64 x4] 47)).frozen? ⟨wr.heap.size, 5, none⟩ = false := (b10.2 5 _ rfl).2
      go_wp2_with fail
      clear ca1_0 fa1_0 ca1_1 fa1_1 ca1_2 fa1_2 ca1_3 fa1_3 ca1_4 fa1_4 ca1_5 fa1_5
      clear d0 d1 d2 d3 d4 d5 e0 e1 e2 e3 e4 e5
      have HCL := hid (fun (j : Nat) (w' : World) (lu su : Int) (V' H' : Option Addr) (nv cv nh ch : Nat) (us xs : List Int) (hj : j < np) (kk : Keeps (wr.alloc (.cells #[.int .i64 v, .slice P np cp, .int .i64 x1, .int .i64 x2, .int .i64 x3, .int .i64 x4] 47)) w') (gv : Ints w' lo3 hi3 V' nv us) (gh : Ints w' lo3 hi3 H' nh xs) (hx : Hid ((lu, us, xs, su) = pl.getD j t0)) => svClosure (p := flB ps l (lv, vs, ws, sm) (pl.getD j t0)) (c' := cv) (d' := ch) (c := c) (d := d) (c0 := c0) (e := e) (h.keeps (Keeps.trans kw kk)) HP.out.1 (h'.keeps (Keeps.trans kw kk)) HLV.out (hv.keeps (Keeps.trans kw kk)) (hw.keeps (Keeps.trans kw kk)) gv gh (tab_lv HT.out) (tab_lv (HTJ.out j hj lu su us xs hx)) HW.out (tabB_parts (HTJ.out j hj lu su us xs hx)).2.1 (b4.keeps kk) (b5.keeps kk) (b7.keeps kk) (congrArg (flB ps l (lv, vs, ws, sm)) hx.out))
      refine (containsFuncT_any (c := cp) (n := np) (K := 138) (G := fun j => flB ps l (lv, vs, ws, sm) (pl.getD j t0)) (ht.keeps kw) (fun args w => enterF_of Try.func138 (by kernel_rfl) rfl args w) HCL.out).mono ?_
      rintro e w2 ⟨rfl, k2⟩
      rw [← HGK.out]
      replace b4 := b4.keeps k2
      replace b5 := b5.keeps k2
      replace b7 := b7.keeps k2
      replace b10 := b10.keeps k2
      replace kw := Keeps.trans kw k2
      have lt3 := b10.lt
      have sz4 := kw.size
      clear k2
      clear HCL
      obtain ⟨p, HPP⟩ : ∃ p, Hid (fvG ps l rs (lv, vs, ws, sm) k = p) := ⟨_, rfl⟩
      rw [HPP.out]
      cases p
      · have HN := hid (fst_no HK.out HPP.out)
        clear b10
        go_wp2_with fail
        go_roundw
        case rel => exact ⟨k + 1, by omega, by go_num, HN, b4, b5, b7, kw⟩
        case measure => simp [intOf]; omega
      have HX := hid ((svI_yes HK.out HPP.out hlt).trans HVV.out.symm)
      have ca5_0 : w2.cell? ⟨wr.heap.size, 0, none⟩ = some (.int .i64 v) := (b10.2 0 _ rfl).1
      have fa5_0 : w2.frozen? ⟨wr.heap.size, 0, none⟩ = false := (b10.2 0 _ rfl).2
      have ca5_1 : w2.cell? ⟨wr.heap.size, 1, none⟩ = some (.slice P np cp) := (b10.2 1 _ rfl).1
      have fa5_1 : w2.frozen? ⟨wr.heap.size, 1, none⟩ = false := (b10.2 1 _ rfl).2
      have ca5_2 : w2.cell? ⟨wr.heap.size, 2, none⟩ = some (.int .i64 x1) := (b10.2 2 _ rfl).1
      have fa5_2 : w2.frozen? ⟨wr.heap.size, 2, none⟩ = false := (b10.2 2 _ rfl).2
      have ca5_3 : w2.cell? ⟨wr.heap.size, 3, none⟩ = some (.int .i64 x2) := (b10.2 3 _ rfl).1
      have fa5_3 : w2.frozen? ⟨wr.heap.size, 3, none⟩ = false := (b10.2 3 _ rfl).2
      have ca5_4 : w2.cell? ⟨wr.heap.size, 4, none⟩ = some (.int .i64 x3) := (b10.2 4 _ rfl).1
      have fa5_4 : w2.frozen? ⟨wr.heap.size, 4, none⟩ = false := (b10.2 4 _ rfl).2
      have ca5_5 : w2.cell? ⟨wr.heap.size, 5, none⟩ = some (.int .i64 x4) := (b10.2 5 _ rfl).1
      have fa5_5 : w2.frozen? ⟨wr.heap.size, 5, none⟩ = false := (b10.2 5 _ rfl).2
      go_wp2_with fail
      clear ca5_0 fa5_0 ca5_1 fa5_1 ca5_2 fa5_2 ca5_3 fa5_3 ca5_4 fa5_4 ca5_5 fa5_5
      go_ret
      exact ⟨ret_int HX.out.symm, kw⟩
    · obtain rfl : r = k := by omega
      have HX := hid (svI_no HK.out)
      go_wp2
      go_ret
      exact ⟨ret_int HX.out.symm, kw⟩
set_option maxRecDepth 100000 in
set_option maxHeartbeats 6400000 in
theorem rlFirst_any {A A' V H R : Option Addr} {lo hi lo1 hi1 lo2 hi2 lo3 hi3 a c0 q e n c m d r cr : Nat} {un : Bool} {ps vs ws : List Int} {l : List VV} {rs : List RL} {lv sm : Int} {w : World} (h : Ints w lo hi A a ps) (h' : Sch w A' q e l) (hr : Rels true un w lo3 hi3 R r rs) (hv : Ints w lo1 hi1 V n vs) (hw : Ints w lo2 hi2 H m ws) (hh : hisB ps l rs = true) (hT : tabB ps l (lv, vs, ws, sm) = true) :
    Calls Try.prog 97 #[.agg #[.slice A a c0], .slice A' q e, .slice R r cr, .agg #[.int .i64 lv, .slice V n c, .slice H m d, .int .i64 sm]] w fun e w' => e = .returned (.int .i64 (ixF (fvG ps l rs (lv, vs, ws, sm)) r)) ∧ Keeps w w' := by
  obtain ⟨lo9, hi9, hz⟩ := h'.v
  have hq := hz.le
  have hn := hr.le
  have HRL := hid hr.len
  have HP := hid (hisB_parts hh)
  have HLV := hid (schB_lv (Vars.len hz) HP.out.2.1).1
  have HT := hid hT
  have h0 := tab_lv hT
  have HW := hid (tabB_parts hT).2.1
  have HPL := hid (fun k (hk : k < r) => show plB ps l (rs.getD k rl0).2.1 = true from (by have h9 := (HP.out.2.2.2 k (by rw [HRL.out]; exact hk)).2; unfold relB at h9; simp only [Bool.and_eq_true] at h9; exact h9.1.2))
  clear hh hT h0
  go_enter Try.func97, Try.ntmps97
  have kw := keeps_refl w
  replace kw := Keeps.trans kw (keeps_alloc w (.cells #[.slice A a c0] 38))
  have b4 : B1 (w.alloc (.cells #[.slice A a c0] 38)) w.heap.size (.slice A a c0) := B1.new' (by simp)
  replace b4 := b4.keeps (keeps_alloc (w.alloc (.cells #[.slice A a c0] 38)) (.cells #[.int .i64 lv, .slice V n c, .slice H m d, .int .i64 sm] 84))
  replace kw := Keeps.trans kw (keeps_alloc (w.alloc (.cells #[.slice A a c0] 38)) (.cells #[.int .i64 lv, .slice V n c, .slice H m d, .int .i64 sm] 84))
  have b7 : Bl ((w.alloc (.cells #[.slice A a c0] 38)).alloc (.cells #[.int .i64 lv, .slice V n c, .slice H m d, .int .i64 sm] 84)) (w.heap.size + 1) [.int .i64 lv, .slice V n c, .slice H m d, .int .i64 sm] := Bl.new' (by simp) (by simp)
  go_wp2_with fail
  go_loopw [15] (fun i wr => ∃ k : Nat, k ≤ r ∧ i = .int .i64 k ∧ Hid (fst (fvG ps l rs (lv, vs, ws, sm)) k = k) ∧ B1 wr w.heap.size (.slice A a c0) ∧ Bl wr (w.heap.size + 1) [.int .i64 lv, .slice V n c, .slice H m d, .int .i64 sm] ∧ Keeps w wr) (fun i _ => r - (intOf i).toNat)
  case atStart => exact ⟨0, Nat.zero_le _, rfl, hid rfl, b4, b7, kw⟩
  clear b4 b7 kw
  case round =>
    obtain ⟨k, hk, rfl, HK, b4, b7, kw⟩ := hrel
    by_cases hlt : k < r
    · obtain ⟨wq, rfl⟩ : ∃ u : World, u = wr := ⟨_, rfl⟩
      obtain ⟨b, off, v, P, np, cp, x1, x2, x3, x4, pl, rfl, _, _, e0, e1, e2, e3, e4, e5, ht, hx⟩ := hr.at_ hlt
      have HVV := hid (show v = (k : Int) + 1 by have := (HP.out.2.2.2 k (by rw [HRL.out]; exact hlt)).1; rw [← hx.out] at this; exact this)
      have HPB := hid (show plB ps l pl = true by have := HPL.out k hlt; rw [← hx.out] at this; exact this)
      have HTL := hid ht.len
      have HGK := hid (show fvG ps l rs (lv, vs, ws, sm) k = exF (fun j => flB ps l (lv, vs, ws, sm) (pl.getD j t0)) np by unfold fvG; rw [← hx.out, ← HTL.out])
      clear hx
      have hi1 : (k : Int) < (r : Int) := by omega
      have hnp := ht.le
      have d0 := cell_keeps e0 kw
      have d1 := cell_keeps e1 kw
      have d2 := cell_keeps e2 kw
      have d3 := cell_keeps e3 kw
      have d4 := cell_keeps e4 kw
      have d5 := cell_keeps e5 kw
      have lt7 := b7.lt
      replace b4 := b4.keeps (keeps_alloc wq (.cells #[.int .i64 v, .slice P np cp, .int .i64 x1, .int .i64 x2, .int .i64 x3, .int .i64 x4] 47))
      replace b7 := b7.keeps (keeps_alloc wq (.cells #[.int .i64 v, .slice P np cp, .int .i64 x1, .int .i64 x2, .int .i64 x3, .int .i64 x4] 47))
      replace kw := Keeps.trans kw (keeps_alloc wq (.cells #[.int .i64 v, .slice P np cp, .int .i64 x1, .int .i64 x2, .int .i64 x3, .int .i64 x4] 47))
      have b10 : Bl (wq.alloc (.cells #[.int .i64 v, .slice P np cp, .int .i64 x1, .int .i64 x2, .int .i64 x3, .int .i64 x4] 47)) wq.heap.size [.int .i64 v, .slice P np cp, .int .i64 x1, .int .i64 x2, .int .i64 x3, .int .i64 x4] := Bl.new' (by simp) (by simp)
      have ca1_0 : (wq.alloc (.cells #[.int .i64 v, .slice P np cp, .int .i64 x1, .int .i64 x2, .int .i64 x3, .int .i64 x4] 47)).cell? ⟨wq.heap.size, 0, none⟩ = some (.int .i64 v) := (b10.2 0 _ rfl).1
      have fa1_0 : (wq.alloc (.cells #[.int .i64 v, .slice P np cp, .int .i64 x1, .int .i64 x2, .int .i64 x3, .int .i64 x4] 47)).frozen? ⟨wq.heap.size, 0, none⟩ = false := (b10.2 0 _ rfl).2
      have ca1_1 : (wq.alloc (.cells #[.int .i64 v, .slice P np cp, .int .i64 x1, .int .i64 x2, .int .i64 x3, .int .i64 x4] 47)).cell? ⟨wq.heap.size, 1, none⟩ = some (.slice P np cp) := (b10.2 1 _ rfl).1
      have fa1_1 : (wq.alloc (.cells #[.int .i64 v, .slice P np cp, .int .i64 x1, .int .i64 x2, .int .i64 x3, .int .i64 x4] 47)).frozen? ⟨wq.heap.size, 1, none⟩ = false := (b10.2 1 _ rfl).2
      have ca1_2 : (wq.alloc (.cells #[.int .i64 v, .slice P np cp, .int .i64 x1, .int .i64 x2, .int .i64 x3, .int .i64 x4] 47)).cell? ⟨wq.heap.size, 2, none⟩ = some (.int .i64 x1) := (b10.2 2 _ rfl).1
      have fa1_2 : (wq.alloc (.cells #[.int .i64 v, .slice P np cp, .int .i64 x1, .int .i64 x2, .int .i64 x3, .int .i64 x4] 47)).frozen? ⟨wq.heap.size, 2, none⟩ = false := (b10.2 2 _ rfl).2
      have ca1_3 : (wq.alloc (.cells #[.int .i64 v, .slice P np cp, .int .i64 x1, .int .i64 x2, .int .i64 x3, .int .i64 x4] 47)).cell? ⟨wq.heap.size, 3, none⟩ = some (.int .i64 x2) := (b10.2 3 _ rfl).1
      have fa1_3 : (wq.alloc (.cells #[.int .i64 v, .slice P np cp, .int .i64 x1, .int .i64 x2, .int .i64 x3, .int .i64 x4] 47)).frozen? ⟨wq.heap.size, 3, none⟩ = false := (b10.2 3 _ rfl).2
      have ca1_4 : (wq.alloc (.cells #[.int .i64 v, .slice P np cp, .int .i64 x1, .int .i64 x2, .int .i64 x3, .int .i64 x4] 47)).cell? ⟨wq.heap.size, 4, none⟩ = some (.int .i64 x3) := (b10.2 4 _ rfl).1
      have fa1_4 : (wq.alloc (.cells #[.int .i64 v, .slice P np cp, .int .i64 x1, .int .i64 x2, .int .i64 x3, .int .i64 x4] 47)).frozen? ⟨wq.heap.size, 4, none⟩ = false := (b10.2 4 _ rfl).2
      have ca1_5 : (wq.alloc (.cells #[.int .i64 v, .slice P np cp, .int .i64 x1, .int .i64 x2, .int .i64 x3, .int .i64 x4] 47)).cell? ⟨wq.heap.size, 5, none⟩ = some (.int .i64 x4) := (b10.2 5 _ rfl).1
      have fa1_5 : (wq.alloc (.cells #[.int .i64 v, .slice P np cp, .int .i64 x1, .int .i64 x2, .int .i64 x3, .int .i64 x4] 47)).frozen? ⟨wq.heap.size, 5, none⟩ = false := (b10.2 5 _ rfl).2
      go_wp2_with fail
      clear ca1_0 fa1_0 ca1_1 fa1_1 ca1_2 fa1_2 ca1_3 fa1_3 ca1_4 fa1_4 ca1_5 fa1_5
      clear d0 d1 d2 d3 d4 d5 e0 e1 e2 e3 e4 e5
      go_loopw [23] (fun i wr => ∃ j : Nat, j ≤ np ∧ i = .int .i64 j ∧ Hid (fst (fun j => flB ps l (lv, vs, ws, sm) (pl.getD j t0)) j = j) ∧ B1 wr w.heap.size (.slice A a c0) ∧ Bl wr (w.heap.size + 1) [.int .i64 lv, .slice V n c, .slice H m d, .int .i64 sm] ∧ Keeps w wr) (fun i _ => np - (intOf i).toNat)
      case atStart => exact ⟨0, Nat.zero_le _, rfl, hid rfl, b4, b7, kw⟩
      clear b4 b7 b10 kw
      case round =>
        obtain ⟨j, hj, rfl, HJ, b4, b7, kw⟩ := hrel
        by_cases hjt : j < np
        · obtain ⟨b', off', lu, V', n', c', H', m', d', su, us, xs, rfl, _, _, e0, e1, e2, e3, gv, gh, hx⟩ := ht.at_ hjt
          have HTB := hid (show tabB ps l (lu, us, xs, su) = true by have := (plB_at HPB.out).2 j (by rw [HTL.out]; exact hjt); rw [← hx.out] at this; exact this)
          obtain ⟨p, HPP⟩ : ∃ p, Hid (flB ps l (lv, vs, ws, sm) (lu, us, xs, su) = p) := ⟨_, rfl⟩
          have HPJ := hid (show flB ps l (lv, vs, ws, sm) (pl.getD j t0) = p by rw [← hx.out]; exact HPP.out)
          clear hx
          have hj1 : (j : Int) < (np : Int) := by omega
          have d0 := cell_keeps e0 kw
          have d1 := cell_keeps e1 kw
          have d2 := cell_keeps e2 kw
          have d3 := cell_keeps e3 kw
          have lt7 := b7.lt
          replace b4 := b4.keeps (keeps_alloc wr (.cells #[.int .i64 lu, .slice V' n' c', .slice H' m' d', .int .i64 su] 84))
          replace b7 := b7.keeps (keeps_alloc wr (.cells #[.int .i64 lu, .slice V' n' c', .slice H' m' d', .int .i64 su] 84))
          replace kw := Keeps.trans kw (keeps_alloc wr (.cells #[.int .i64 lu, .slice V' n' c', .slice H' m' d', .int .i64 su] 84))
          have b12 : Bl (wr.alloc (.cells #[.int .i64 lu, .slice V' n' c', .slice H' m' d', .int .i64 su] 84)) wr.heap.size [.int .i64 lu, .slice V' n' c', .slice H' m' d', .int .i64 su] := Bl.new' (by simp) (by simp)
          obtain ⟨ca2, fa2⟩ := id b4
          have ca3_0 : (wr.alloc (.cells #[.int .i64 lu, .slice V' n' c', .slice H' m' d', .int .i64 su] 84)).cell? ⟨w.heap.size + 1, 0, none⟩ = some (.int .i64 lv) := (b7.2 0 _ rfl).1
          have fa3_0 : (wr.alloc (.cells #[.int .i64 lu, .slice V' n' c', .slice H' m' d', .int .i64 su] 84)).frozen? ⟨w.heap.size + 1, 0, none⟩ = false := (b7.2 0 _ rfl).2
          have ca3_1 : (wr.alloc (.cells #[.int .i64 lu, .slice V' n' c', .slice H' m' d', .int .i64 su] 84)).cell? ⟨w.heap.size + 1, 1, none⟩ = some (.slice V n c) := (b7.2 1 _ rfl).1
          have fa3_1 : (wr.alloc (.cells #[.int .i64 lu, .slice V' n' c', .slice H' m' d', .int .i64 su] 84)).frozen? ⟨w.heap.size + 1, 1, none⟩ = false := (b7.2 1 _ rfl).2
          have ca3_2 : (wr.alloc (.cells #[.int .i64 lu, .slice V' n' c', .slice H' m' d', .int .i64 su] 84)).cell? ⟨w.heap.size + 1, 2, none⟩ = some (.slice H m d) := (b7.2 2 _ rfl).1
          have fa3_2 : (wr.alloc (.cells #[.int .i64 lu, .slice V' n' c', .slice H' m' d', .int .i64 su] 84)).frozen? ⟨w.heap.size + 1, 2, none⟩ = false := (b7.2 2 _ rfl).2
          have ca3_3 : (wr.alloc (.cells #[.int .i64 lu, .slice V' n' c', .slice H' m' d', .int .i64 su] 84)).cell? ⟨w.heap.size + 1, 3, none⟩ = some (.int .i64 sm) := (b7.2 3 _ rfl).1
          have fa3_3 : (wr.alloc (.cells #[.int .i64 lu, .slice V' n' c', .slice H' m' d', .int .i64 su] 84)).frozen? ⟨w.heap.size + 1, 3, none⟩ = false := (b7.2 3 _ rfl).2
          have ca4_0 : (wr.alloc (.cells #[.int .i64 lu, .slice V' n' c', .slice H' m' d', .int .i64 su] 84)).cell? ⟨wr.heap.size, 0, none⟩ = some (.int .i64 lu) := (b12.2 0 _ rfl).1
          have fa4_0 : (wr.alloc (.cells #[.int .i64 lu, .slice V' n' c', .slice H' m' d', .int .i64 su] 84)).frozen? ⟨wr.heap.size, 0, none⟩ = false := (b12.2 0 _ rfl).2
          have ca4_1 : (wr.alloc (.cells #[.int .i64 lu, .slice V' n' c', .slice H' m' d', .int .i64 su] 84)).cell? ⟨wr.heap.size, 1, none⟩ = some (.slice V' n' c') := (b12.2 1 _ rfl).1
          have fa4_1 : (wr.alloc (.cells #[.int .i64 lu, .slice V' n' c', .slice H' m' d', .int .i64 su] 84)).frozen? ⟨wr.heap.size, 1, none⟩ = false := (b12.2 1 _ rfl).2
          have ca4_2 : (wr.alloc (.cells #[.int .i64 lu, .slice V' n' c', .slice H' m' d', .int .i64 su] 84)).cell? ⟨wr.heap.size, 2, none⟩ = some (.slice H' m' d') := (b12.2 2 _ rfl).1
          have fa4_2 : (wr.alloc (.cells #[.int .i64 lu, .slice V' n' c', .slice H' m' d', .int .i64 su] 84)).frozen? ⟨wr.heap.size, 2, none⟩ = false := (b12.2 2 _ rfl).2
          have ca4_3 : (wr.alloc (.cells #[.int .i64 lu, .slice V' n' c', .slice H' m' d', .int .i64 su] 84)).cell? ⟨wr.heap.size, 3, none⟩ = some (.int .i64 su) := (b12.2 3 _ rfl).1
          have fa4_3 : (wr.alloc (.cells #[.int .i64 lu, .slice V' n' c', .slice H' m' d', .int .i64 su] 84)).frozen? ⟨wr.heap.size, 3, none⟩ = false := (b12.2 3 _ rfl).2
          go_wp2_with fail
          clear ca2 fa2 ca3_0 fa3_0 ca3_1 fa3_1 ca3_2 fa3_2 ca3_3 fa3_3 ca4_0 fa4_0 ca4_1 fa4_1 ca4_2 fa4_2 ca4_3 fa4_3
          clear d0 d1 d2 d3 e0 e1 e2 e3
          refine (lFollows_any (h.keeps kw) HP.out.1 (h'.keeps kw) HLV.out (hv.keeps kw) (hw.keeps kw) (gv.keeps kw) (gh.keeps kw) (tab_lv HT.out) (tab_lv HTB.out) HW.out (tabB_parts HTB.out).2.1).mono ?_
          rintro e w5 ⟨rfl, k5⟩
          rw [HPP.out]
          replace b4 := b4.keeps k5
          replace b7 := b7.keeps k5
          replace b12 := b12.keeps k5
          replace kw := Keeps.trans kw k5
          have lt6 := b12.lt
          have sz7 := kw.size
          clear k5
          clear b12
          cases p
          · have HN := hid (fst_no HJ.out HPJ.out)
            go_wp2_with fail
            go_roundw
            case rel => exact ⟨j + 1, by omega, by go_num, HN, b4, b7, kw⟩
            case measure => simp [intOf]; omega
          have HX := hid (ixF_yes HK.out (HGK.out.trans (exF_yes HJ.out HPJ.out hjt)) hlt)
          go_wp2_with fail
          go_ret
          exact ⟨ret_int HX.out.symm, kw⟩
        · obtain rfl : np = j := by omega
          have HN := hid (fst_no HK.out (HGK.out.trans (exF_no HJ.out)))
          go_wp2
          go_roundw
          case rel => exact ⟨k + 1, by omega, by go_num, HN, b4, b7, kw⟩
          case measure => simp [intOf]; omega
    · obtain rfl : r = k := by omega
      have HX := hid (ixF_no HK.out)
      go_wp2
      go_ret
      exact ⟨ret_int HX.out.symm, kw⟩
set_option maxRecDepth 100000 in
set_option maxHeartbeats 3200000 in
theorem implFirstVersionOf_any {A A' R V H : Option Addr} {lo hi a c0 lo1 hi1 lo2 hi2 lo3 hi3 n q m d r c lo9 hi9 : Nat} {un : Bool} {ps vs ws : List Int} {l : List VV} {rs : List RL} {lv sm : Int} {w : World} (h : Ints w lo hi A a ps) (hz : Vars w lo9 hi9 A' q l) (ok : NamesOk l) (hr : Rels true un w lo3 hi3 R r rs) (hv : Ints w lo1 hi1 V n vs) (hw : Ints w lo2 hi2 H m ws) :
    Calls Try.prog 49 #[.agg #[.slice A a c0], .slice A' q q, .slice R r r, .agg #[.int .i64 lv, .slice V n c, .slice H m d, .int .i64 sm]] w fun e w' => e = .returned (.tuple #[.int .i64 (fvQ ps l rs (lv, vs, ws, sm)).1, .bool (fvQ ps l rs (lv, vs, ws, sm)).2]) ∧ Keeps w w' := by
  have hq := hz.le
  have h' : Sch w A' q q l := ⟨⟨_, _, hz⟩, ok, Nat.le_refl _, by unfold maxLen; omega⟩
  have hn := hr.le
  have HRL := hid hr.len
  obtain ⟨q0, q1, HQ⟩ : ∃ q0 q1, Hid (fvQ ps l rs (lv, vs, ws, sm) = (q0, q1)) := ⟨_, _, rfl⟩
  rw [HQ.out]
  go_enter Try.func49, Try.ntmps49
  have kw := keeps_refl w
  replace kw := Keeps.trans kw (keeps_alloc w (.cells #[.slice A a c0] 38))
  have b4 : B1 (w.alloc (.cells #[.slice A a c0] 38)) w.heap.size (.slice A a c0) := B1.new' (by simp)
  replace b4 := b4.keeps (keeps_alloc (w.alloc (.cells #[.slice A a c0] 38)) (.cells #[.int .i64 lv, .slice V n c, .slice H m d, .int .i64 sm] 84))
  replace kw := Keeps.trans kw (keeps_alloc (w.alloc (.cells #[.slice A a c0] 38)) (.cells #[.int .i64 lv, .slice V n c, .slice H m d, .int .i64 sm] 84))
  have b7 : Bl ((w.alloc (.cells #[.slice A a c0] 38)).alloc (.cells #[.int .i64 lv, .slice V n c, .slice H m d, .int .i64 sm] 84)) (w.heap.size + 1) [.int .i64 lv, .slice V n c, .slice H m d, .int .i64 sm] := Bl.new' (by simp) (by simp)
  obtain ⟨ca1, fa1⟩ := id b4
  have ca2_0 : ((w.alloc (.cells #[.slice A a c0] 38)).alloc (.cells #[.int .i64 lv, .slice V n c, .slice H m d, .int .i64 sm] 84)).cell? ⟨w.heap.size + 1, 0, none⟩ = some (.int .i64 lv) := (b7.2 0 _ rfl).1
  have fa2_0 : ((w.alloc (.cells #[.slice A a c0] 38)).alloc (.cells #[.int .i64 lv, .slice V n c, .slice H m d, .int .i64 sm] 84)).frozen? ⟨w.heap.size + 1, 0, none⟩ = false := (b7.2 0 _ rfl).2
  have ca2_1 : ((w.alloc (.cells #[.slice A a c0] 38)).alloc (.cells #[.int .i64 lv, .slice V n c, .slice H m d, .int .i64 sm] 84)).cell? ⟨w.heap.size + 1, 1, none⟩ = some (.slice V n c) := (b7.2 1 _ rfl).1
  have fa2_1 : ((w.alloc (.cells #[.slice A a c0] 38)).alloc (.cells #[.int .i64 lv, .slice V n c, .slice H m d, .int .i64 sm] 84)).frozen? ⟨w.heap.size + 1, 1, none⟩ = false := (b7.2 1 _ rfl).2
  have ca2_2 : ((w.alloc (.cells #[.slice A a c0] 38)).alloc (.cells #[.int .i64 lv, .slice V n c, .slice H m d, .int .i64 sm] 84)).cell? ⟨w.heap.size + 1, 2, none⟩ = some (.slice H m d) := (b7.2 2 _ rfl).1
  have fa2_2 : ((w.alloc (.cells #[.slice A a c0] 38)).alloc (.cells #[.int .i64 lv, .slice V n c, .slice H m d, .int .i64 sm] 84)).frozen? ⟨w.heap.size + 1, 2, none⟩ = false := (b7.2 2 _ rfl).2
  have ca2_3 : ((w.alloc (.cells #[.slice A a c0] 38)).alloc (.cells #[.int .i64 lv, .slice V n c, .slice H m d, .int .i64 sm] 84)).cell? ⟨w.heap.size + 1, 3, none⟩ = some (.int .i64 sm) := (b7.2 3 _ rfl).1
  have fa2_3 : ((w.alloc (.cells #[.slice A a c0] 38)).alloc (.cells #[.int .i64 lv, .slice V n c, .slice H m d, .int .i64 sm] 84)).frozen? ⟨w.heap.size + 1, 3, none⟩ = false := (b7.2 3 _ rfl).2
  go_wp2_with fail
  clear ca1 fa1 ca2_0 fa2_0 ca2_1 fa2_1 ca2_2 fa2_2 ca2_3 fa2_3
  obtain ⟨pHH, HH⟩ : ∃ pB, Hid (hisB ps l rs = pB) := ⟨_, rfl⟩
  refine (isHistory_any (h.keeps kw) (h'.keeps kw) (hr.keeps kw)).mono ?_
  rintro e w3 ⟨rfl, k3⟩
  rw [HH.out]
  replace b4 := b4.keeps k3
  replace b7 := b7.keeps k3
  replace kw := Keeps.trans kw k3
  have lt4 := b7.lt
  have sz5 := kw.size
  clear k3
  cases pHH
  · obtain ⟨e0, e1⟩ : q0 = 0 ∧ q1 = false := by have := HQ.out.symm.trans (fvQ_no (by rw [HH.out]; rfl)); injection this with a b; exact ⟨a, b⟩
    subst e0 e1
    obtain ⟨ca6, fa6⟩ := id b4
    have ca7_0 : w3.cell? ⟨w.heap.size + 1, 0, none⟩ = some (.int .i64 lv) := (b7.2 0 _ rfl).1
    have fa7_0 : w3.frozen? ⟨w.heap.size + 1, 0, none⟩ = false := (b7.2 0 _ rfl).2
    have ca7_1 : w3.cell? ⟨w.heap.size + 1, 1, none⟩ = some (.slice V n c) := (b7.2 1 _ rfl).1
    have fa7_1 : w3.frozen? ⟨w.heap.size + 1, 1, none⟩ = false := (b7.2 1 _ rfl).2
    have ca7_2 : w3.cell? ⟨w.heap.size + 1, 2, none⟩ = some (.slice H m d) := (b7.2 2 _ rfl).1
    have fa7_2 : w3.frozen? ⟨w.heap.size + 1, 2, none⟩ = false := (b7.2 2 _ rfl).2
    have ca7_3 : w3.cell? ⟨w.heap.size + 1, 3, none⟩ = some (.int .i64 sm) := (b7.2 3 _ rfl).1
    have fa7_3 : w3.frozen? ⟨w.heap.size + 1, 3, none⟩ = false := (b7.2 3 _ rfl).2
    go_wp2_with fail
    clear ca6 fa6 ca7_0 fa7_0 ca7_1 fa7_1 ca7_2 fa7_2 ca7_3 fa7_3
    go_ret2
    exact ⟨rfl, kw⟩
  · skip
    obtain ⟨ca6, fa6⟩ := id b4
    have ca7_0 : w3.cell? ⟨w.heap.size + 1, 0, none⟩ = some (.int .i64 lv) := (b7.2 0 _ rfl).1
    have fa7_0 : w3.frozen? ⟨w.heap.size + 1, 0, none⟩ = false := (b7.2 0 _ rfl).2
    have ca7_1 : w3.cell? ⟨w.heap.size + 1, 1, none⟩ = some (.slice V n c) := (b7.2 1 _ rfl).1
    have fa7_1 : w3.frozen? ⟨w.heap.size + 1, 1, none⟩ = false := (b7.2 1 _ rfl).2
    have ca7_2 : w3.cell? ⟨w.heap.size + 1, 2, none⟩ = some (.slice H m d) := (b7.2 2 _ rfl).1
    have fa7_2 : w3.frozen? ⟨w.heap.size + 1, 2, none⟩ = false := (b7.2 2 _ rfl).2
    have ca7_3 : w3.cell? ⟨w.heap.size + 1, 3, none⟩ = some (.int .i64 sm) := (b7.2 3 _ rfl).1
    have fa7_3 : w3.frozen? ⟨w.heap.size + 1, 3, none⟩ = false := (b7.2 3 _ rfl).2
    go_wp2_with fail
    clear ca6 fa6 ca7_0 fa7_0 ca7_1 fa7_1 ca7_2 fa7_2 ca7_3 fa7_3
    have HGS := hid (hisB_parts HH.out)
    obtain ⟨pHB, HB⟩ : ∃ pB, Hid (tabB ps l (lv, vs, ws, sm) = pB) := ⟨_, rfl⟩
    refine (isTable_any (h.keeps kw) (h'.keeps kw) (hv.keeps kw) (hw.keeps kw) HGS.out.1 HGS.out.2.1).mono ?_
    rintro e w8 ⟨rfl, k8⟩
    rw [HB.out]
    replace b4 := b4.keeps k8
    replace b7 := b7.keeps k8
    replace kw := Keeps.trans kw k8
    have lt9 := b7.lt
    have sz10 := kw.size
    clear k8
    cases pHB
    · obtain ⟨e0, e1⟩ : q0 = 0 ∧ q1 = false := by have := HQ.out.symm.trans (fvQ_no (by rw [HH.out, HB.out]; rfl)); injection this with a b; exact ⟨a, b⟩
      subst e0 e1
      obtain ⟨ca11, fa11⟩ := id b4
      have ca12_0 : w8.cell? ⟨w.heap.size + 1, 0, none⟩ = some (.int .i64 lv) := (b7.2 0 _ rfl).1
      have fa12_0 : w8.frozen? ⟨w.heap.size + 1, 0, none⟩ = false := (b7.2 0 _ rfl).2
      have ca12_1 : w8.cell? ⟨w.heap.size + 1, 1, none⟩ = some (.slice V n c) := (b7.2 1 _ rfl).1
      have fa12_1 : w8.frozen? ⟨w.heap.size + 1, 1, none⟩ = false := (b7.2 1 _ rfl).2
      have ca12_2 : w8.cell? ⟨w.heap.size + 1, 2, none⟩ = some (.slice H m d) := (b7.2 2 _ rfl).1
      have fa12_2 : w8.frozen? ⟨w.heap.size + 1, 2, none⟩ = false := (b7.2 2 _ rfl).2
      have ca12_3 : w8.cell? ⟨w.heap.size + 1, 3, none⟩ = some (.int .i64 sm) := (b7.2 3 _ rfl).1
      have fa12_3 : w8.frozen? ⟨w.heap.size + 1, 3, none⟩ = false := (b7.2 3 _ rfl).2
      go_wp2_with fail
      clear ca11 fa11 ca12_0 fa12_0 ca12_1 fa12_1 ca12_2 fa12_2 ca12_3 fa12_3
      go_ret2
      exact ⟨rfl, kw⟩
    · skip
      obtain ⟨e0, e1⟩ : q0 = svI (fvG ps l rs (lv, vs, ws, sm)) r ∧ q1 = exF (fvG ps l rs (lv, vs, ws, sm)) r := by have := HQ.out.symm.trans (fvQ_yes HRL.out HH.out HB.out); injection this with a b; exact ⟨a, b⟩
      have HE0 := hid e0
      have HE1 := hid e1
      clear e0 e1
      obtain ⟨ca11, fa11⟩ := id b4
      have ca12_0 : w8.cell? ⟨w.heap.size + 1, 0, none⟩ = some (.int .i64 lv) := (b7.2 0 _ rfl).1
      have fa12_0 : w8.frozen? ⟨w.heap.size + 1, 0, none⟩ = false := (b7.2 0 _ rfl).2
      have ca12_1 : w8.cell? ⟨w.heap.size + 1, 1, none⟩ = some (.slice V n c) := (b7.2 1 _ rfl).1
      have fa12_1 : w8.frozen? ⟨w.heap.size + 1, 1, none⟩ = false := (b7.2 1 _ rfl).2
      have ca12_2 : w8.cell? ⟨w.heap.size + 1, 2, none⟩ = some (.slice H m d) := (b7.2 2 _ rfl).1
      have fa12_2 : w8.frozen? ⟨w.heap.size + 1, 2, none⟩ = false := (b7.2 2 _ rfl).2
      have ca12_3 : w8.cell? ⟨w.heap.size + 1, 3, none⟩ = some (.int .i64 sm) := (b7.2 3 _ rfl).1
      have fa12_3 : w8.frozen? ⟨w.heap.size + 1, 3, none⟩ = false := (b7.2 3 _ rfl).2
      go_wp2_with fail
      clear ca11 fa11 ca12_0 fa12_0 ca12_1 fa12_1 ca12_2 fa12_2 ca12_3 fa12_3
      refine (sourceVersion_any (h.keeps kw) (h'.keeps kw) (hr.keeps kw) (hv.keeps kw) (hw.keeps kw) HH.out HB.out).mono ?_
      rintro e w13 ⟨rfl, k13⟩
      replace b4 := b4.keeps k13
      replace b7 := b7.keeps k13
      replace kw := Keeps.trans kw k13
      have lt14 := b7.lt
      have sz15 := kw.size
      clear k13
      obtain ⟨N, HN⟩ : ∃ N, Hid (fst (fvG ps l rs (lv, vs, ws, sm)) r = N) := ⟨_, rfl⟩
      have hNr : N ≤ r := by rw [← HN.out]; exact fst_le _ _
      cases q1
      · have HZ := hid (HE0.out.trans (svI_f HE1.out.symm))
        obtain rfl := HZ.out
        rw [svI_f HE1.out.symm]
        go_wp2_with fail
        go_ret2
        exact ⟨rfl, kw⟩
      have HZ := hid (HE0.out.trans (svI_t HE1.out.symm))
      rw [HN.out] at HZ
      obtain rfl := HZ.out
      have hNl : N < r := by rw [← HN.out]; exact exF_lt HE1.out.symm
      rw [svI_t HE1.out.symm, HN.out]
      have ge : (0 : Int) < (N : Int) + 1 := by omega
      go_wp2_with fail
      go_ret2
      exact ⟨rfl, kw⟩
set_option maxRecDepth 100000 in
set_option maxHeartbeats 3200000 in
theorem specFirstVersionOf_any {A A' R V H : Option Addr} {lo hi a c0 lo1 hi1 lo2 hi2 lo3 hi3 n q m d r c lo9 hi9 : Nat} {un : Bool} {ps vs ws : List Int} {l : List VV} {rs : List RL} {lv sm : Int} {w : World} (h : Ints w lo hi A a ps) (hz : Vars w lo9 hi9 A' q l) (ok : NamesOk l) (hr : Rels true un w lo3 hi3 R r rs) (hv : Ints w lo1 hi1 V n vs) (hw : Ints w lo2 hi2 H m ws) :
    Calls Try.prog 47 #[.agg #[.slice A a c0], .slice A' q q, .slice R r r, .agg #[.int .i64 lv, .slice V n c, .slice H m d, .int .i64 sm]] w fun e w' => e = .returned (.tuple #[.int .i64 (fvQ ps l rs (lv, vs, ws, sm)).1, .bool (fvQ ps l rs (lv, vs, ws, sm)).2]) ∧ Keeps w w' := by
  have hq := hz.le
  have h' : Sch w A' q q l := ⟨⟨_, _, hz⟩, ok, Nat.le_refl _, by unfold maxLen; omega⟩
  have hn := hr.le
  have HRL := hid hr.len
  obtain ⟨q0, q1, HQ⟩ : ∃ q0 q1, Hid (fvQ ps l rs (lv, vs, ws, sm) = (q0, q1)) := ⟨_, _, rfl⟩
  rw [HQ.out]
  go_enter Try.func47, Try.ntmps47
  have kw := keeps_refl w
  replace kw := Keeps.trans kw (keeps_alloc w (.cells #[.slice A a c0] 38))
  have b4 : B1 (w.alloc (.cells #[.slice A a c0] 38)) w.heap.size (.slice A a c0) := B1.new' (by simp)
  replace b4 := b4.keeps (keeps_alloc (w.alloc (.cells #[.slice A a c0] 38)) (.cells #[.int .i64 lv, .slice V n c, .slice H m d, .int .i64 sm] 84))
  replace kw := Keeps.trans kw (keeps_alloc (w.alloc (.cells #[.slice A a c0] 38)) (.cells #[.int .i64 lv, .slice V n c, .slice H m d, .int .i64 sm] 84))
  have b7 : Bl ((w.alloc (.cells #[.slice A a c0] 38)).alloc (.cells #[.int .i64 lv, .slice V n c, .slice H m d, .int .i64 sm] 84)) (w.heap.size + 1) [.int .i64 lv, .slice V n c, .slice H m d, .int .i64 sm] := Bl.new' (by simp) (by simp)
  obtain ⟨ca1, fa1⟩ := id b4
  have ca2_0 : ((w.alloc (.cells #[.slice A a c0] 38)).alloc (.cells #[.int .i64 lv, .slice V n c, .slice H m d, .int .i64 sm] 84)).cell? ⟨w.heap.size + 1, 0, none⟩ = some (.int .i64 lv) := (b7.2 0 _ rfl).1
  have fa2_0 : ((w.alloc (.cells #[.slice A a c0] 38)).alloc (.cells #[.int .i64 lv, .slice V n c, .slice H m d, .int .i64 sm] 84)).frozen? ⟨w.heap.size + 1, 0, none⟩ = false := (b7.2 0 _ rfl).2
  have ca2_1 : ((w.alloc (.cells #[.slice A a c0] 38)).alloc (.cells #[.int .i64 lv, .slice V n c, .slice H m d, .int .i64 sm] 84)).cell? ⟨w.heap.size + 1, 1, none⟩ = some (.slice V n c) := (b7.2 1 _ rfl).1
  have fa2_1 : ((w.alloc (.cells #[.slice A a c0] 38)).alloc (.cells #[.int .i64 lv, .slice V n c, .slice H m d, .int .i64 sm] 84)).frozen? ⟨w.heap.size + 1, 1, none⟩ = false := (b7.2 1 _ rfl).2
  have ca2_2 : ((w.alloc (.cells #[.slice A a c0] 38)).alloc (.cells #[.int .i64 lv, .slice V n c, .slice H m d, .int .i64 sm] 84)).cell? ⟨w.heap.size + 1, 2, none⟩ = some (.slice H m d) := (b7.2 2 _ rfl).1
  have fa2_2 : ((w.alloc (.cells #[.slice A a c0] 38)).alloc (.cells #[.int .i64 lv, .slice V n c, .slice H m d, .int .i64 sm] 84)).frozen? ⟨w.heap.size + 1, 2, none⟩ = false := (b7.2 2 _ rfl).2
  have ca2_3 : ((w.alloc (.cells #[.slice A a c0] 38)).alloc (.cells #[.int .i64 lv, .slice V n c, .slice H m d, .int .i64 sm] 84)).cell? ⟨w.heap.size + 1, 3, none⟩ = some (.int .i64 sm) := (b7.2 3 _ rfl).1
  have fa2_3 : ((w.alloc (.cells #[.slice A a c0] 38)).alloc (.cells #[.int .i64 lv, .slice V n c, .slice H m d, .int .i64 sm] 84)).frozen? ⟨w.heap.size + 1, 3, none⟩ = false := (b7.2 3 _ rfl).2
  go_wp2_with fail
  clear ca1 fa1 ca2_0 fa2_0 ca2_1 fa2_1 ca2_2 fa2_2 ca2_3 fa2_3
  obtain ⟨pHH, HH⟩ : ∃ pB, Hid (hisB ps l rs = pB) := ⟨_, rfl⟩
  refine (rlHistory_any (h.keeps kw) (h'.keeps kw) (hr.keeps kw)).mono ?_
  rintro e w3 ⟨rfl, k3⟩
  rw [HH.out]
  replace b4 := b4.keeps k3
  replace b7 := b7.keeps k3
  replace kw := Keeps.trans kw k3
  have lt4 := b7.lt
  have sz5 := kw.size
  clear k3
  cases pHH
  · obtain ⟨e0, e1⟩ : q0 = 0 ∧ q1 = false := by have := HQ.out.symm.trans (fvQ_no (by rw [HH.out]; rfl)); injection this with a b; exact ⟨a, b⟩
    subst e0 e1
    obtain ⟨ca6, fa6⟩ := id b4
    have ca7_0 : w3.cell? ⟨w.heap.size + 1, 0, none⟩ = some (.int .i64 lv) := (b7.2 0 _ rfl).1
    have fa7_0 : w3.frozen? ⟨w.heap.size + 1, 0, none⟩ = false := (b7.2 0 _ rfl).2
    have ca7_1 : w3.cell? ⟨w.heap.size + 1, 1, none⟩ = some (.slice V n c) := (b7.2 1 _ rfl).1
    have fa7_1 : w3.frozen? ⟨w.heap.size + 1, 1, none⟩ = false := (b7.2 1 _ rfl).2
    have ca7_2 : w3.cell? ⟨w.heap.size + 1, 2, none⟩ = some (.slice H m d) := (b7.2 2 _ rfl).1
    have fa7_2 : w3.frozen? ⟨w.heap.size + 1, 2, none⟩ = false := (b7.2 2 _ rfl).2
    have ca7_3 : w3.cell? ⟨w.heap.size + 1, 3, none⟩ = some (.int .i64 sm) := (b7.2 3 _ rfl).1
    have fa7_3 : w3.frozen? ⟨w.heap.size + 1, 3, none⟩ = false := (b7.2 3 _ rfl).2
    go_wp2_with fail
    clear ca6 fa6 ca7_0 fa7_0 ca7_1 fa7_1 ca7_2 fa7_2 ca7_3 fa7_3
    go_ret2
    exact ⟨rfl, kw⟩
  · skip
    obtain ⟨ca6, fa6⟩ := id b4
    have ca7_0 : w3.cell? ⟨w.heap.size + 1, 0, none⟩ = some (.int .i64 lv) := (b7.2 0 _ rfl).1
    have fa7_0 : w3.frozen? ⟨w.heap.size + 1, 0, none⟩ = false := (b7.2 0 _ rfl).2
    have ca7_1 : w3.cell? ⟨w.heap.size + 1, 1, none⟩ = some (.slice V n c) := (b7.2 1 _ rfl).1
    have fa7_1 : w3.frozen? ⟨w.heap.size + 1, 1, none⟩ = false := (b7.2 1 _ rfl).2
    have ca7_2 : w3.cell? ⟨w.heap.size + 1, 2, none⟩ = some (.slice H m d) := (b7.2 2 _ rfl).1
    have fa7_2 : w3.frozen? ⟨w.heap.size + 1, 2, none⟩ = false := (b7.2 2 _ rfl).2
    have ca7_3 : w3.cell? ⟨w.heap.size + 1, 3, none⟩ = some (.int .i64 sm) := (b7.2 3 _ rfl).1
    have fa7_3 : w3.frozen? ⟨w.heap.size + 1, 3, none⟩ = false := (b7.2 3 _ rfl).2
    go_wp2_with fail
    clear ca6 fa6 ca7_0 fa7_0 ca7_1 fa7_1 ca7_2 fa7_2 ca7_3 fa7_3
    have HGS := hid (hisB_parts HH.out)
    obtain ⟨pHB, HB⟩ : ∃ pB, Hid (tabB ps l (lv, vs, ws, sm) = pB) := ⟨_, rfl⟩
    refine (uGood_any (h.keeps kw) (h'.keeps kw) (hv.keeps kw) (hw.keeps kw) HGS.out.1 HGS.out.2.1).mono ?_
    rintro e w8 ⟨rfl, k8⟩
    rw [HB.out]
    replace b4 := b4.keeps k8
    replace b7 := b7.keeps k8
    replace kw := Keeps.trans kw k8
    have lt9 := b7.lt
    have sz10 := kw.size
    clear k8
    cases pHB
    · obtain ⟨e0, e1⟩ : q0 = 0 ∧ q1 = false := by have := HQ.out.symm.trans (fvQ_no (by rw [HH.out, HB.out]; rfl)); injection this with a b; exact ⟨a, b⟩
      subst e0 e1
      obtain ⟨ca11, fa11⟩ := id b4
      have ca12_0 : w8.cell? ⟨w.heap.size + 1, 0, none⟩ = some (.int .i64 lv) := (b7.2 0 _ rfl).1
      have fa12_0 : w8.frozen? ⟨w.heap.size + 1, 0, none⟩ = false := (b7.2 0 _ rfl).2
      have ca12_1 : w8.cell? ⟨w.heap.size + 1, 1, none⟩ = some (.slice V n c) := (b7.2 1 _ rfl).1
      have fa12_1 : w8.frozen? ⟨w.heap.size + 1, 1, none⟩ = false := (b7.2 1 _ rfl).2
      have ca12_2 : w8.cell? ⟨w.heap.size + 1, 2, none⟩ = some (.slice H m d) := (b7.2 2 _ rfl).1
      have fa12_2 : w8.frozen? ⟨w.heap.size + 1, 2, none⟩ = false := (b7.2 2 _ rfl).2
      have ca12_3 : w8.cell? ⟨w.heap.size + 1, 3, none⟩ = some (.int .i64 sm) := (b7.2 3 _ rfl).1
      have fa12_3 : w8.frozen? ⟨w.heap.size + 1, 3, none⟩ = false := (b7.2 3 _ rfl).2
      go_wp2_with fail
      clear ca11 fa11 ca12_0 fa12_0 ca12_1 fa12_1 ca12_2 fa12_2 ca12_3 fa12_3
      go_ret2
      exact ⟨rfl, kw⟩
    · skip
      obtain ⟨e0, e1⟩ : q0 = svI (fvG ps l rs (lv, vs, ws, sm)) r ∧ q1 = exF (fvG ps l rs (lv, vs, ws, sm)) r := by have := HQ.out.symm.trans (fvQ_yes HRL.out HH.out HB.out); injection this with a b; exact ⟨a, b⟩
      have HE0 := hid e0
      have HE1 := hid e1
      clear e0 e1
      obtain ⟨ca11, fa11⟩ := id b4
      have ca12_0 : w8.cell? ⟨w.heap.size + 1, 0, none⟩ = some (.int .i64 lv) := (b7.2 0 _ rfl).1
      have fa12_0 : w8.frozen? ⟨w.heap.size + 1, 0, none⟩ = false := (b7.2 0 _ rfl).2
      have ca12_1 : w8.cell? ⟨w.heap.size + 1, 1, none⟩ = some (.slice V n c) := (b7.2 1 _ rfl).1
      have fa12_1 : w8.frozen? ⟨w.heap.size + 1, 1, none⟩ = false := (b7.2 1 _ rfl).2
      have ca12_2 : w8.cell? ⟨w.heap.size + 1, 2, none⟩ = some (.slice H m d) := (b7.2 2 _ rfl).1
      have fa12_2 : w8.frozen? ⟨w.heap.size + 1, 2, none⟩ = false := (b7.2 2 _ rfl).2
      have ca12_3 : w8.cell? ⟨w.heap.size + 1, 3, none⟩ = some (.int .i64 sm) := (b7.2 3 _ rfl).1
      have fa12_3 : w8.frozen? ⟨w.heap.size + 1, 3, none⟩ = false := (b7.2 3 _ rfl).2
      go_wp2_with fail
      clear ca11 fa11 ca12_0 fa12_0 ca12_1 fa12_1 ca12_2 fa12_2 ca12_3 fa12_3
      refine (rlFirst_any (h.keeps kw) (h'.keeps kw) (hr.keeps kw) (hv.keeps kw) (hw.keeps kw) HH.out HB.out).mono ?_
      rintro e w13 ⟨rfl, k13⟩
      replace b4 := b4.keeps k13
      replace b7 := b7.keeps k13
      replace kw := Keeps.trans kw k13
      have lt14 := b7.lt
      have sz15 := kw.size
      clear k13
      obtain ⟨N, HN⟩ : ∃ N, Hid (fst (fvG ps l rs (lv, vs, ws, sm)) r = N) := ⟨_, rfl⟩
      have hNr : N ≤ r := by rw [← HN.out]; exact fst_le _ _
      cases q1
      · have HZ := hid (HE0.out.trans (svI_f HE1.out.symm))
        obtain rfl := HZ.out
        rw [ixF_f HE1.out.symm]
        go_wp2_with fail
        go_ret2
        exact ⟨rfl, kw⟩
      have HZ := hid (HE0.out.trans (svI_t HE1.out.symm))
      rw [HN.out] at HZ
      obtain rfl := HZ.out
      have hNl : N < r := by rw [← HN.out]; exact exF_lt HE1.out.symm
      rw [ixF_t HE1.out.symm, HN.out]
      have hi1 : (N : Int) < (r : Int) := by omega
      obtain ⟨b, off, v, P, np, cp, x1, x2, x3, x4, pl, rfl, _, _, e0, e1, e2, e3, e4, e5, ht, hx⟩ := (hr.keeps kw).at_ hNl
      obtain rfl : v = (N : Int) + 1 := by have := (HGS.out.2.2.2 N (by rw [HRL.out]; exact hNl)).1; rw [← hx.out] at this; exact this
      clear hx
      have ge : (0 : Int) ≤ (N : Int) := by omega
      go_wp2_with fail
      go_ret2
      exact ⟨rfl, kw⟩
end Go.Proofs.Ytklolfeijjnaoaa
