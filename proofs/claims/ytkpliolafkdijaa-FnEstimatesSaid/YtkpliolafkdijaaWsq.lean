/- wSquare of the reference. -/
import Derived.Test.YtkpliolafkdijaaSqr
import Derived.Deep.RegionHeld3
namespace Go.Proofs.Ytkpliolafkdijaa
open Go.RowKit
set_option linter.unusedVariables false
set_option linter.unusedSimpArgs false

/-- The sum plus the square of f - n, divided by d. -/
def wsqQ (a b x y n d : Int) : Int × Int × Bool :=
  if (mkF (x * 1 - n * y) (y * 1)).2.2 = true then
    (if (sqrQ x y n).2.2 = true then
      (if (mkF ((sqrQ x y n).1 * 1) ((sqrQ x y n).2.1 * d)).2.2 = true then mkF (a * (mkF ((sqrQ x y n).1 * 1) ((sqrQ x y n).2.1 * d)).2.1 + (mkF ((sqrQ x y n).1 * 1) ((sqrQ x y n).2.1 * d)).1 * b) (b * (mkF ((sqrQ x y n).1 * 1) ((sqrQ x y n).2.1 * d)).2.1) else (0, 0, false)) else (0, 0, false)) else (0, 0, false)

-- $1 slots, $2 block of the loaded box, $3 its fact, $4 $5 its numbers, $6 the second function, $7 its contract, $8 the equation of its result, $9 the result
set_option maxHeartbeats 1600000 in
theorem wSquare_any {a b x y n d : Int} {w : World} (ha : QB a b) (hb : QB x y) (hn : -1000000000 ≤ n ∧ n ≤ 1000000000) (hd : -1000000000 ≤ d ∧ d ≤ 1000000000) :
    Calls Try.prog 147 #[.agg #[.int .i64 a, .int .i64 b], .agg #[.int .i64 x, .int .i64 y], .int .i64 n, .int .i64 d] w fun e w' => e = .returned (.tuple #[.agg #[.int .i64 (wsqQ a b x y n d).1, .int .i64 (wsqQ a b x y n d).2.1], .bool (wsqQ a b x y n d).2.2]) ∧ Keeps w w' := by
  obtain ⟨r1, r2, r3, H1⟩ : ∃ r1 r2 r3, Hid (mkF (x * 1 - n * y) (y * 1) = (r1, r2, r3)) := ⟨_, _, _, rfl⟩
  have HI := hid (show QB n 1 from ⟨hn, by omega⟩)
  have HB := hid hb
  obtain ⟨W, hW⟩ : ∃ W, W = ((w.alloc (.cells #[.int .i64 a, .int .i64 b] 41)).alloc (.cells #[.int .i64 x, .int .i64 y] 41)).alloc (.cells #[.int .i64 0, .int .i64 0] 41) := ⟨_, rfl⟩
  have B4 : Bx W w.heap.size a b := by
    rw [hW]; exact ((Bx.new w a b 41).keeps (keeps_alloc _ _)).keeps (keeps_alloc _ _)
  have B5 : Bx W (w.heap.size + 1) x y := by
    rw [hW]; have := Bx.new (w.alloc (.cells #[.int .i64 a, .int .i64 b] 41)) x y 41; rw [show (w.alloc (.cells #[.int .i64 a, .int .i64 b] 41)).heap.size = w.heap.size + 1 by simp] at this; exact this.keeps (keeps_alloc _ _)
  have B8 : Bx W (w.heap.size + 1 + 1) 0 0 := by
    rw [hW]; have := Bx.new ((w.alloc (.cells #[.int .i64 a, .int .i64 b] 41)).alloc (.cells #[.int .i64 x, .int .i64 y] 41)) 0 0 41; simpa using this
  have KW : Keeps w W := by rw [hW]; exact ((Below.refl w.heap.size w).alloc (Nat.le_refl _) _).alloc (by simp) _ |>.alloc (by simp; omega) _
  go_enter Try.func147, Try.ntmps147
  go_wp2_with fail
  rw [← hW]
  clear hW
  obtain ⟨p1, p2, -, -⟩ := id B5
  have sW := (B5).lt
  obtain ⟨pa1, pa2, -, -⟩ := (B5).keeps (keeps_alloc W (.cells #[.int .i64 0, .int .i64 0] 41))
  go_cut [10, 11] (fun s10 s11 wx => ∃ g, s10 = .pointer (some ⟨g, 0, none⟩) ∧ s11 = .bool r3 ∧ Bx wx g r1 r2 ∧ Keeps W wx)
  case first =>
    go_region_held3 (fun w' => w'.cell? ⟨w.heap.size + 1, 0, none⟩ = some (.int .i64 x) ∧ w'.cell? ⟨w.heap.size + 1, 1, none⟩ = some (.int .i64 y)) (first | exact ⟨p1, p2⟩ | exact ⟨pa1, pa2⟩ | exact ⟨q1, q2⟩ | exact ⟨qa1, qa2⟩ | exact ⟨qb1, qb2⟩ | exact ⟨set2_far qb1 (by omega), set2_far qb2 (by omega)⟩ | go_keep)
      ((first | (go_at_call 142; refine (fInt_any).mono ?_; rintro e wA ⟨rfl, kA⟩; (first | (have qq := (B5).kd kA) | (have qq := (B5).ka kA) | (have qq := (B5).kad kA)); (have qa := qq.keeps (keeps_alloc wA (.cells #[.int .i64 0, .int .i64 0] 41))); have sA := qq.lt; obtain ⟨q1, q2, -, -⟩ := id qq; obtain ⟨qa1, qa2, -, -⟩ := qa; (first | (have zA := Bx.nkd kA) | (have zA := Bx.nk kA) | skip)) | (go_at_call 181; refine (fSub_any HB.out HI.out).mono ?_; rintro e wB ⟨rfl, kB⟩; rw [H1.out]; (first | (have qb := qq.keeps kB; obtain ⟨qb1, qb2, -, -⟩ := qb) | (have qb := qq.ka kB; obtain ⟨qb1, qb2, -, -⟩ := qb)); (first | (have zz := zA.keeps kB; obtain ⟨z1, z2, z3, z4⟩ := zz) | (have zz := Bx.nkd kB; obtain ⟨z1, z2, z3, z4⟩ := zz) | (have zz := Bx.nk kB; obtain ⟨z1, z2, z3, z4⟩ := zz) | skip))))
    all_goals (go_wp2_with fail; go_meet; first
      | exact ⟨_, rfl, rfl, Bx.new _ _ _ _, ((keeps_d kA).trans kB).trans (keeps_alloc wB _)⟩
      | exact ⟨_, rfl, rfl, Bx.set (x := 0) (y := 0) ⟨z1, z2, z3, z4⟩ _ _, Below.setCell (Below.setCell ((keeps_d kA).trans (alloc_keeps kB)) (keeps_d kA).size _) (keeps_d kA).size _⟩
      | exact ⟨_, rfl, rfl, Bx.set (x := 0) (y := 0) ⟨z1, z2, z3, z4⟩ _ _, Below.setCell (Below.setCell ((keeps_ad kA).trans kB) (Nat.le_refl _) _) (Nat.le_refl _) _⟩)
  case rest =>
    obtain ⟨g, rfl, rfl, B10, K10⟩ := hcut
    have B8' := B8.keeps K10
    have B4' := B4.keeps K10
    have K1 := hid (KW.trans K10)
    obtain ⟨c1, c2, f1, f2⟩ := id B8'
    obtain ⟨g1, g2, -, -⟩ := id B10
    clear B4 B5 B8 KW K10
    cases r3
    · go_wp2_with fail
      have HF := hid (show wsqQ a b x y n d = (0, 0, false) by unfold wsqQ; rw [if_neg (by rw [H1.out]; simp)])
      refine bodyPost_ret (v := .tuple #[.agg #[.int .i64 0, .int .i64 0], .bool false]) (by simp [results, Try.results147, go_sem, c1, c2]) rfl ⟨ret_fb (by rw [HF.out]) (by rw [HF.out]) (by rw [HF.out]), ?_⟩
      exact Below.setCell (Below.setCell K1.out (by simp; omega) _) (by simp; omega) _
    · have HQ := hid (show QB r1 r2 by have := mkF_qb (x * 1 - n * y) (y * 1); rwa [H1.out] at this)
      obtain ⟨s1, s2, s3, H2⟩ : ∃ s1 s2 s3, Hid (mkF (r1 * r1) (r2 * r2) = (s1, s2, s3)) := ⟨_, _, _, rfl⟩
      go_wp2_with fail
      refine (fMul_any HQ.out HQ.out).mono ?_
      rintro e w2 ⟨rfl, k2⟩
      rw [H2.out]
      have ka := keeps_alloc w2 (.cells #[.int .i64 s1, .int .i64 s2] 41)
      have C8 := (B8'.keeps k2).keeps ka
      have C4 := (B4'.keeps k2).keeps ka
      have C12 := Bx.new w2 s1 s2 41
      have K2 := hid ((K1.out.trans k2).trans ka)
      obtain ⟨d1, d2, e1, e2⟩ := id C8
      clear B8' B4' B10 K1 k2 ka c1 c2 f1 f2 g1 g2
      cases s3
      · go_wp2_with fail
        have HF := hid (show wsqQ a b x y n d = (0, 0, false) by unfold wsqQ; rw [if_pos (by rw [H1.out]), if_neg (by rw [sqrQ_yes H1.out, H2.out]; simp)])
        refine bodyPost_ret (v := .tuple #[.agg #[.int .i64 0, .int .i64 0], .bool false]) (by simp [results, Try.results147, go_sem, d1, d2]) rfl ⟨ret_fb (by rw [HF.out]) (by rw [HF.out]) (by rw [HF.out]), ?_⟩
        exact Below.setCell (Below.setCell K2.out (by simp; omega) _) (by simp; omega) _
      · have HS := hid (show QB s1 s2 by have := mkF_qb (r1 * r1) (r2 * r2); rwa [H2.out] at this)
        have HD := hid (show QB d 1 from ⟨hd, by omega⟩)
        obtain ⟨t1, t2, t3, H3⟩ : ∃ t1 t2 t3, Hid (mkF (s1 * 1) (s2 * d) = (t1, t2, t3)) := ⟨_, _, _, rfl⟩
        go_wp2_with fail
        clear d1 d2 e1 e2 HI HB
        clear sW p1 p2 pa1 pa2
        obtain ⟨G, hG⟩ : ∃ G, w2.heap.size = G := ⟨_, rfl⟩
        rw [hG] at C12
        rw [hG]
        clear hG
        generalize w2.alloc (.cells #[.int .i64 s1, .int .i64 s2] 41) = V at *
        obtain ⟨p1, p2, -, -⟩ := id C12
        have sW := (C12).lt
        obtain ⟨pa1, pa2, -, -⟩ := (C12).keeps (keeps_alloc V (.cells #[.int .i64 0, .int .i64 0] 41))
        go_cut [14, 15] (fun s10 s11 wx => ∃ g, s10 = .pointer (some ⟨g, 0, none⟩) ∧ s11 = .bool t3 ∧ Bx wx g t1 t2 ∧ Keeps V wx)
        case first =>
          go_region_held3 (fun w' => w'.cell? ⟨G, 0, none⟩ = some (.int .i64 s1) ∧ w'.cell? ⟨G, 1, none⟩ = some (.int .i64 s2)) (first | exact ⟨p1, p2⟩ | exact ⟨pa1, pa2⟩ | exact ⟨q1, q2⟩ | exact ⟨qa1, qa2⟩ | exact ⟨qb1, qb2⟩ | exact ⟨set2_far qb1 (by omega), set2_far qb2 (by omega)⟩ | go_keep)
            ((first | (go_at_call 142; refine (fInt_any).mono ?_; rintro e wA ⟨rfl, kA⟩; (first | (have qq := (C12).kd kA) | (have qq := (C12).ka kA) | (have qq := (C12).kad kA)); (have qa := qq.keeps (keeps_alloc wA (.cells #[.int .i64 0, .int .i64 0] 41))); have sA := qq.lt; obtain ⟨q1, q2, -, -⟩ := id qq; obtain ⟨qa1, qa2, -, -⟩ := qa; (first | (have zA := Bx.nkd kA) | (have zA := Bx.nk kA) | skip)) | (go_at_call 188; refine (fDiv_any HS.out HD.out).mono ?_; rintro e wB ⟨rfl, kB⟩; rw [H3.out]; (first | (have qb := qq.keeps kB; obtain ⟨qb1, qb2, -, -⟩ := qb) | (have qb := qq.ka kB; obtain ⟨qb1, qb2, -, -⟩ := qb)); (first | (have zz := zA.keeps kB; obtain ⟨z1, z2, z3, z4⟩ := zz) | (have zz := Bx.nkd kB; obtain ⟨z1, z2, z3, z4⟩ := zz) | (have zz := Bx.nk kB; obtain ⟨z1, z2, z3, z4⟩ := zz) | skip))))
          all_goals (go_wp2_with fail; go_meet; first
            | exact ⟨_, rfl, rfl, Bx.new _ _ _ _, ((keeps_d kA).trans kB).trans (keeps_alloc wB _)⟩
            | exact ⟨_, rfl, rfl, Bx.set (x := 0) (y := 0) ⟨z1, z2, z3, z4⟩ _ _, Below.setCell (Below.setCell ((keeps_d kA).trans (alloc_keeps kB)) (keeps_d kA).size _) (keeps_d kA).size _⟩
            | exact ⟨_, rfl, rfl, Bx.set (x := 0) (y := 0) ⟨z1, z2, z3, z4⟩ _ _, Below.setCell (Below.setCell ((keeps_ad kA).trans kB) (Nat.le_refl _) _) (Nat.le_refl _) _⟩)
        case rest =>
          obtain ⟨g', rfl, rfl, B14, K14⟩ := hcut
          have E8 := C8.keeps K14
          have E4 := C4.keeps K14
          have K3 := hid (K2.out.trans K14)
          obtain ⟨c1, c2, f1, f2⟩ := id E8
          obtain ⟨g1, g2, -, -⟩ := id B14
          obtain ⟨j1, j2, -, -⟩ := id E4
          clear C4 C8 C12 K2 K14
          cases t3
          · have HF := hid (show wsqQ a b x y n d = (0, 0, false) by unfold wsqQ; rw [if_pos (by rw [H1.out]), if_pos (by rw [sqrQ_yes H1.out, H2.out]), if_neg (by rw [sqrQ_yes H1.out, H2.out, H3.out]; simp)])
            go_wp2_with fail
            refine bodyPost_ret (v := .tuple #[.agg #[.int .i64 0, .int .i64 0], .bool false]) (by simp [results, Try.results147, go_sem, c1, c2]) rfl ⟨ret_fb (by rw [HF.out]) (by rw [HF.out]) (by rw [HF.out]), ?_⟩
            exact Below.setCell (Below.setCell K3.out (by simp; omega) _) (by simp; omega) _
          · have HT := hid (show QB t1 t2 by have := mkF_qb (s1 * 1) (s2 * d); rwa [H3.out] at this)
            obtain ⟨v1, v2, v3, H4⟩ : ∃ v1 v2 v3, Hid (mkF (a * t2 + t1 * b) (b * t2) = (v1, v2, v3)) := ⟨_, _, _, rfl⟩
            have HF := hid (show wsqQ a b x y n d = (v1, v2, v3) by unfold wsqQ; rw [if_pos (by rw [H1.out]), if_pos (by rw [sqrQ_yes H1.out, H2.out]), if_pos (by rw [sqrQ_yes H1.out, H2.out, H3.out]), sqrQ_yes H1.out, H2.out, H3.out]; exact H4.out)
            go_wp2_with fail
            refine (fAdd_any ha HT.out).mono ?_
            rintro e w9 ⟨rfl, k9⟩
            rw [H4.out]
            obtain ⟨d1, d2, e1, e2⟩ := E8.keeps k9
            have K9 := hid (K3.out.trans k9)
            clear c1 c2 f1 f2 k9 K3
            go_wp2_with fail
            refine bodyPost_ret (v := .tuple #[.agg #[.int .i64 v1, .int .i64 v2], .bool v3]) (by simp [results, Try.results147, go_sem, d1, d2]) rfl ⟨ret_fb (by rw [HF.out]) (by rw [HF.out]) (by rw [HF.out]), ?_⟩
            exact Below.setCell (Below.setCell K9.out (by simp; omega) _) (by simp; omega) _
end Go.Proofs.Ytkpliolafkdijaa
