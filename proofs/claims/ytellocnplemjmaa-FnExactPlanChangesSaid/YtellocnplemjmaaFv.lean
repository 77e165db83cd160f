/- The first version of a table: of the program and of the reference. -/
import Derived.Test.YtellocnplemjmaaFow
import Derived.Test.YtellocnplemjmaaRls
namespace Go.Proofs.Ytellocnplemjmaa
open Go.RowKit Go.Sort
set_option linter.unusedVariables false
set_option linter.unusedSimpArgs false

structure TwoInts (w : World) (lo hi : Nat) (A : Option Addr) (n : Nat) (l : List Int) (B : Option Addr) (m : Nat) (l' : List Int) : Prop where
  a : Ints w lo hi A n l
  b : Ints w lo hi B m l'
theorem TwoInts.of {w : World} {lo hi n m : Nat} {A B : Option Addr} {l l' : List Int} (h : Ints w lo hi A n l ∧ Ints w lo hi B m l') : TwoInts w lo hi A n l B m l' := ⟨h.1, h.2⟩
theorem TwoInts.keeps {w w' : World} {lo hi n m : Nat} {A B : Option Addr} {l l' : List Int} (h : TwoInts w lo hi A n l B m l') (k : Keeps w w') : TwoInts w' lo hi A n l B m l' := ⟨h.a.keeps k, h.b.keeps k⟩
theorem enterF_of {P : Program} {f : FuncId} {fn : Func} {c : Code} (hf : P.funcs[f]? = some fn) (hname : (fn.name == "runtime.NumGoroutine") = false) (hb : fn.body = some c) (args : Array Value) (w : World) :
    (callFunc f args).run P w = .ok (.enter f args) w := by
  have h1 : fn.name ≠ "runtime.NumGoroutine" := by simpa using hname
  simp [callFunc, hf, h1, hb]
/-- The first number below n where g holds, or n. -/
def fst (g : Nat → Bool) : Nat → Nat
  | 0 => 0
  | k + 1 => if fst g k < k then fst g k else if g k then k else k + 1
theorem fst_no {g : Nat → Bool} {k : Nat} (h : fst g k = k) (h1 : g k = false) : fst g (k + 1) = k + 1 := by unfold fst; rw [h, if_neg (by omega), h1]; rfl
theorem fst_yes {g : Nat → Bool} {k n : Nat} (h : fst g k = k) (h1 : g k = true) (hn : k < n) : fst g n = k := by
  induction n with
  | zero => omega
  | succ n ih =>
    unfold fst
    rcases Nat.lt_or_ge k n with h2 | h2
    · rw [ih h2, if_pos h2]
    · obtain rfl : k = n := by omega
      rw [h, if_neg (by omega), if_pos h1]
def ixF (g : Nat → Bool) (n : Nat) : Int := if fst g n < n then (fst g n : Int) else -1
def exF (g : Nat → Bool) (n : Nat) : Bool := decide (fst g n < n)
theorem ixF_yes {g : Nat → Bool} {k n : Nat} (h : fst g k = k) (h1 : g k = true) (hn : k < n) : ixF g n = (k : Int) := by unfold ixF; rw [fst_yes h h1 hn, if_pos hn]
theorem ixF_no {g : Nat → Bool} {n : Nat} (h : fst g n = n) : ixF g n = -1 := by unfold ixF; rw [h, if_neg (by omega)]
theorem exF_yes {g : Nat → Bool} {k n : Nat} (h : fst g k = k) (h1 : g k = true) (hn : k < n) : exF g n = true := by unfold exF; rw [fst_yes h h1 hn]; exact decide_eq_true hn
theorem exF_no {g : Nat → Bool} {n : Nat} (h : fst g n = n) : exF g n = false := by unfold exF; rw [h]; exact decide_eq_false (by omega)
theorem ixF_t {g : Nat → Bool} {n : Nat} (h : exF g n = true) : ixF g n = (fst g n : Int) := by unfold exF at h; unfold ixF; rw [if_pos (of_decide_eq_true h)]
theorem ixF_f {g : Nat → Bool} {n : Nat} (h : exF g n = false) : ixF g n = -1 := by unfold exF at h; unfold ixF; rw [if_neg (of_decide_eq_false h)]
theorem exF_lt {g : Nat → Bool} {n : Nat} (h : exF g n = true) : fst g n < n := of_decide_eq_true h
theorem fst_le (g : Nat → Bool) : ∀ n, fst g n ≤ n
  | 0 => Nat.le_refl _
  | n + 1 => by
    have := fst_le g n
    unfold fst; split
    · omega
    · split <;> omega
/-- Whether t follows from a table of release i. -/
def fvG (ps : List Int) (l : List VV) (rs : List RL) (t : TT) (i : Nat) : Bool := exF (fun j => flB ps l t ((rs.getD i rl0).2.1.getD j t0)) (rs.getD i rl0).2.1.length
def svI (g : Nat → Bool) (n : Nat) : Int := if exF g n then (fst g n : Int) + 1 else 0
theorem svI_yes {g : Nat → Bool} {k n : Nat} (h : fst g k = k) (h1 : g k = true) (hn : k < n) : svI g n = (k : Int) + 1 := by unfold svI; rw [exF_yes h h1 hn, fst_yes h h1 hn]; rfl
theorem svI_no {g : Nat → Bool} {n : Nat} (h : fst g n = n) : svI g n = 0 := by unfold svI; rw [exF_no h]; rfl
theorem svI_t {g : Nat → Bool} {n : Nat} (h : exF g n = true) : svI g n = (fst g n : Int) + 1 := by unfold svI; rw [h]; rfl
theorem svI_f {g : Nat → Bool} {n : Nat} (h : exF g n = false) : svI g n = 0 := by unfold svI; rw [h]; rfl
def fvQ (ps : List Int) (l : List VV) (rs : List RL) (t : TT) : Int × Bool :=
  if hisB ps l rs && tabB ps l t then (svI (fvG ps l rs t) rs.length, exF (fvG ps l rs t) rs.length) else (0, false)
theorem fvQ_no {ps : List Int} {l : List VV} {rs : List RL} {t : TT} (h : (hisB ps l rs && tabB ps l t) = false) : fvQ ps l rs t = (0, false) := by unfold fvQ; rw [h]; rfl
theorem fvQ_yes {ps : List Int} {l : List VV} {rs : List RL} {t : TT} {n : Nat} (hl : rs.length = n) (h : hisB ps l rs = true) (h1 : tabB ps l t = true) : fvQ ps l rs t = (svI (fvG ps l rs t) n, exF (fvG ps l rs t) n) := by unfold fvQ; rw [h, h1, hl]; rfl

set_option maxRecDepth 100000 in
set_option maxHeartbeats 3200000 in
theorem indexFuncT_any {A : Option Addr} {lo hi n c : Nat} {K : FuncId} {caps : Array Value} {un : Bool} {ts : List TT} {G : Nat → Bool} {w : World} (h : Tabs true un w lo hi A n ts) (hK : ∀ (args : Array Value) (w : World), (callFunc K args).run Try.prog w = .ok (.enter K args) w)
    (hat : ∀ (k : Nat) (w' : World) (lv sm : Int) (V H : Option Addr) (nv cv nh ch : Nat) (vs hs : List Int), k < n → Keeps w w' → Ints w' lo hi V nv vs → Ints w' lo hi H nh hs → Hid ((lv, vs, hs, sm) = ts.getD k t0) → Calls Try.prog K (#[.agg #[.int .i64 lv, .slice V nv cv, .slice H nh ch, .int .i64 sm]] ++ caps) w' fun e w'' => e = .returned (.bool (G k)) ∧ Keeps w' w'') :
    Calls Try.prog 96 #[.slice A n c, .func (.func K) #[] caps] w fun e w' => e = .returned (.int .i64 (ixF G n)) ∧ Keeps w w' := by
  have HAT := hid hat
  clear hat
  have hn := h.le
  go_enter Try.func96, Try.ntmps96
  go_wp2_with fail
  go_loopw [8] (fun i wr => ∃ k : Nat, k ≤ n ∧ i = .int .i64 k ∧ Hid (fst G k = k) ∧ Keeps w wr) (fun i _ => n - (intOf i).toNat)
  case atStart => exact ⟨0, Nat.zero_le _, rfl, hid rfl, keeps_refl _⟩
  case round =>
    obtain ⟨k, hk, rfl, HK, kw⟩ := hrel
    by_cases hlt : k < n
    · have hi1 : (k : Int) < (n : Int) := by omega
      obtain ⟨b, off, lv, V, nv, cv, H, nh, ch, sm, vs, hs, rfl, _, _, c0, c1, c2, c3, gv, gh, hx⟩ := (h.keeps kw).at_ hlt
      go_wp2_with fail
      clear c0 c1 c2 c3
      refine (HAT.out k _ lv sm V H nv cv nh ch vs hs hlt kw gv gh hx).mono ?_
      rintro e w1 ⟨rfl, k1⟩
      replace kw := Keeps.trans kw k1
      obtain ⟨p, HP⟩ : ∃ p, Hid (G k = p) := ⟨_, rfl⟩
      rw [HP.out]
      cases p
      · have HN := hid (fst_no HK.out HP.out)
        go_wp2
        go_roundw
        case rel => exact ⟨k + 1, by omega, by go_num, HN, kw⟩
        case measure => simp [intOf]; omega
      · have HX := hid (ixF_yes HK.out HP.out hlt)
        go_wp2
        go_ret
        exact ⟨ret_int HX.out.symm, kw⟩
    · obtain rfl : n = k := by omega
      have HX := hid (ixF_no HK.out)
      go_wp2
      go_ret
      exact ⟨ret_int HX.out.symm, kw⟩
set_option maxRecDepth 100000 in
set_option maxHeartbeats 3200000 in
theorem containsFuncT_any {A : Option Addr} {lo hi n c : Nat} {K : FuncId} {caps : Array Value} {un : Bool} {ts : List TT} {G : Nat → Bool} {w : World} (h : Tabs true un w lo hi A n ts) (hK : ∀ (args : Array Value) (w : World), (callFunc K args).run Try.prog w = .ok (.enter K args) w)
    (hat : ∀ (k : Nat) (w' : World) (lv sm : Int) (V H : Option Addr) (nv cv nh ch : Nat) (vs hs : List Int), k < n → Keeps w w' → Ints w' lo hi V nv vs → Ints w' lo hi H nh hs → Hid ((lv, vs, hs, sm) = ts.getD k t0) → Calls Try.prog K (#[.agg #[.int .i64 lv, .slice V nv cv, .slice H nh ch, .int .i64 sm]] ++ caps) w' fun e w'' => e = .returned (.bool (G k)) ∧ Keeps w' w'') :
    Calls Try.prog 72 #[.slice A n c, .func (.func K) #[] caps] w fun e w' => e = .returned (.bool (exF G n)) ∧ Keeps w w' := by
  have HAT := hid hat
  have HKK := hid hK
  clear hat hK
  obtain ⟨p, HP⟩ : ∃ p, Hid (exF G n = p) := ⟨_, rfl⟩
  rw [HP.out]
  go_enter Try.func72, Try.ntmps72
  go_wp2_with fail
  cases p
  · refine (indexFuncT_any (c := c) h HKK.out HAT.out).mono ?_
    rintro e w1 ⟨rfl, k1⟩
    rw [ixF_f HP.out]
    go_wp2
    go_ret
    exact ⟨ret_bool rfl, k1⟩
  · refine (indexFuncT_any (c := c) h HKK.out HAT.out).mono ?_
    rintro e w1 ⟨rfl, k1⟩
    rw [ixF_t HP.out]
    have ge : (0 : Int) ≤ (fst G n : Int) := by omega
    go_wp2
    go_ret
    exact ⟨ret_bool rfl, k1⟩
end Go.Proofs.Ytellocnplemjmaa
