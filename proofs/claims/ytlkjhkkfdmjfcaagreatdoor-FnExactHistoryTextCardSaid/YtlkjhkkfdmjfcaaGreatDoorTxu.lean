/- The texts of tables, of the program: a walk. -/
import Derived.Test.YtlkjhkkfdmjfcaaGreatDoorTxt
import Derived.Test.YtlkjhkkfdmjfcaaGreatDoorBl
namespace Go.Proofs.YtlkjhkkfdmjfcaaGreatDoor
open Go.RowKit Go.Sort
set_option linter.unusedVariables false
set_option linter.unusedSimpArgs false
theorem Fr.of_below' {B : Nat} {w w' : World} (k : Below B w w') : Fr B w'.heap.size w w' := ⟨k.os, k.tape, k.output, k.size, fun i hi ho => k.block i (by have := k.size; omega)⟩
theorem below_of {B : Nat} {a w w' : World} (h : Keeps a w) (k : Below B w w') (hB : a.heap.size ≤ B) : Keeps a w' := Below.trans h (k.mono hB)

set_option maxRecDepth 100000 in
set_option maxHeartbeats 25600000 in
theorem tableText_any {A V H : Option Addr} {lo hi q c lo2 hi2 nv cv lo3 hi3 nh ch : Nat} {lv sm : Int} {ps : List Int} {l : List VV} {vs ws : List Int} {w : World} (hs : Vars w lo hi A q l) (hv : Ints w lo2 hi2 V nv vs) (hw : Ints w lo3 hi3 H nh ws) (hg : geoB ps = true) (hS : schB l = true) (hT : tabB ps l ((lv, vs, ws, sm) : TT) = true) (ht : Tab10 w) :
    Calls Tryz.prog 71 #[.slice A q c, .agg #[.int .i64 lv, .slice V nv cv, .slice H nh ch, .int .i64 sm]] w fun e w' => e = .returned (.string (bs (tabT l ((lv, vs, ws, sm) : TT)))) ∧ Keeps w w' := by
  have hq := hs.le
  have hn := hv.le
  have hm := hw.le
  have HQL := hid (show l.length = q from Vars.len hs)
  have HVL := hid hv.1
  have HWL := hid hw.1
  have hp : vsB l.length vs = true ∧ whB l ws = true ∧ (-1 ≤ sm ∧ sm ≤ (l.length : Int) - 1) ∧ True := by have := tabB_parts hT; exact ⟨this.1, this.2.1, this.2.2.1, trivial⟩
  have hlv : 0 ≤ lv ∧ lv ≤ 30 := tab_bd hg hT
  have h16 := (schB_lv rfl hS).2
  have HS := hid hS
  have HB := hid hp.1
  have HVN := hid (show nv ≤ 6 by have := vsB_len hp.1; rw [hv.1] at this; omega)
  have HNW := hid (show nh = q by have := (whB_at hp.2.1 (k := 0) (by omega)).1; rw [hw.1] at this; rw [this, HQL.out])
  have HWB := hid (fun k (hk : k < nh) => (show 0 ≤ ws.getD k 0 ∧ ws.getD k 0 ≤ 255 by
    have h1 := whB_at hp.2.1 (k := k) (by rw [HQL.out, ← HNW.out]; exact hk)
    have h2 := (schB_lv rfl hS).1 k (by rw [HQL.out, ← HNW.out]; exact hk)
    have h3 := full_bd h2
    exact ⟨h1.2.1, by have := h1.2.2; omega⟩))
  have HTE := hid (show tabT l ((lv, vs, ws, sm) : TT) = hdT l ((lv, vs, ws, sm) : TT) ++ (lvT ((lv, vs, ws, sm) : TT) ++ (byT l ((lv, vs, ws, sm) : TT) ++ (wT l ws ws.length).1)) from rfl)
  have hsm := hp.2.2.1
  clear hp hT hS hg
  obtain ⟨b, off, rfl⟩ := vaddr hs (show 0 < q by have := HQL.out; omega)
  obtain ⟨nl, rfl⟩ : ∃ m : Nat, lv = m := ⟨lv.toNat, by omega⟩
  have hnl : nl ≤ 30 := by omega
  have HLV := hid (show lvT ((nl : Int), vs, ws, sm) = [32, 108, 101, 118, 101, 108, 32] ++ Lib.decDigits nl from rfl)
  clear hlv
  replace hsm : -1 ≤ sm ∧ sm < q := by have := HQL.out; omega
  have hsL := dec_len nl (by omega)
  rw [← bs_size] at hsL
  obtain ⟨sL, hsLe⟩ : ∃ z, bs (Lib.decDigits nl) = z := ⟨_, rfl⟩
  rw [hsLe] at hsL
  have HLC := hid (fun (W : World) (z : Tab10 W) => itoa_k (n := (nl : Int)) (by omega) z)
  rw [itoa_nat, hsLe] at HLC
  have HLE := hid hsLe
  clear hsLe
  by_cases hs0 : 0 ≤ sm
  · obtain ⟨j, rfl⟩ : ∃ m : Nat, sm = m := ⟨sm.toNat, by omega⟩
    have hj : j < q := by omega
    have hi0 : (j : Int) < (q : Int) := by omega
    have hs1 := nmT_len HS.out (show j < l.length by rw [HQL.out]; exact hj)
    rw [← bs_size] at hs1
    have HHD := hid (show ({ data := #[115, 117, 109, 32] } : ByteArray) ++ bs (nmT l j) = bs (hdT l ((nl : Int), vs, ws, (j : Int))) by
      have e : hdT l ((nl : Int), vs, ws, (j : Int)) = [115, 117, 109, 32] ++ nmT l j := if_pos (show (0 : Int) ≤ (j : Int) by omega)
      rw [e, show ({ data := #[115, 117, 109, 32] } : ByteArray) = bs [115, 117, 109, 32] from rfl, bs_app])
    have hcn := vname hs hj
    obtain ⟨sN, hsN⟩ : ∃ z, bs (nmT l j) = z := ⟨_, rfl⟩
    rw [hsN] at hs1 HHD hcn
    clear hsN hsm
    have hza : ¬ (9223372036854775807 < 4 + sN.size) := by omega
    have hzb : ¬ (9223372036854775807 < 7 + sL.size) := by omega
    have hzc : ¬ (9223372036854775807 < 4 + sN.size + (7 + sL.size)) := by omega
    by_cases hnv : 0 < nv
    · have HBY := hid (show byT l ((nl : Int), vs, ws, (j : Int)) = [32, 98, 121, 32] ++ joinC (nms l vs) from if_neg (show ¬ vs.length = 0 by rw [HVL.out]; omega))
      have hv1 : ((nv : Int) > 0) := by omega
      have hsB := joinC_nms HS.out HB.out (nms l vs).length
      rw [List.take_length, ← bs_size] at hsB
      obtain ⟨sB, hsBe⟩ : ∃ z, bs (joinC (nms l vs)) = z := ⟨_, rfl⟩
      rw [hsBe] at hsB
      have hzd : ¬ (9223372036854775807 < 4 + sB.size) := by omega
      have hze : ¬ (9223372036854775807 < 4 + sN.size + (7 + sL.size) + (4 + sB.size)) := by omega
      have HBA := hid (show (((({ data := #[115, 117, 109, 32] } : ByteArray) ++ sN) ++ (({ data := #[32, 108, 101, 118, 101, 108, 32] } : ByteArray) ++ sL)) ++ (({ data := #[32, 98, 121, 32] } : ByteArray) ++ sB)) = bs (hdT l ((nl : Int), vs, ws, (j : Int)) ++ (lvT ((nl : Int), vs, ws, (j : Int)) ++ byT l ((nl : Int), vs, ws, (j : Int)))) by
        rw [HHD.out, HLV.out, HBY.out, ← HLE.out, ← hsBe, show ({ data := #[32, 108, 101, 118, 101, 108, 32] } : ByteArray) = bs [32, 108, 101, 118, 101, 108, 32] from rfl, show ({ data := #[32, 98, 121, 32] } : ByteArray) = bs [32, 98, 121, 32] from rfl, bs_app, bs_app, bs_app, bs_app]
        simp only [List.append_assoc])
      have HZ2 := hid (show (((({ data := #[115, 117, 109, 32] } : ByteArray) ++ sN) ++ (({ data := #[32, 108, 101, 118, 101, 108, 32] } : ByteArray) ++ sL)) ++ (({ data := #[32, 98, 121, 32] } : ByteArray) ++ sB)).size ≤ 130 by
        have e : (((({ data := #[115, 117, 109, 32] } : ByteArray) ++ sN) ++ (({ data := #[32, 108, 101, 118, 101, 108, 32] } : ByteArray) ++ sL)) ++ (({ data := #[32, 98, 121, 32] } : ByteArray) ++ sB)).size = 4 + sN.size + (7 + sL.size) + (4 + sB.size) := by simp only [ByteArray.size_append]; first | rfl | (simp; done) | omega
        omega)
      have HTW := hid (show tabT l ((nl : Int), vs, ws, (j : Int)) = (hdT l ((nl : Int), vs, ws, (j : Int)) ++ (lvT ((nl : Int), vs, ws, (j : Int)) ++ byT l ((nl : Int), vs, ws, (j : Int)))) ++ (wT l ws nh).1 by rw [HTE.out, HWL.out]; simp only [List.append_assoc])
      clear HTE HHD HLV HBY
      go_enter Tryz.func71, Tryz.ntmps71
      have kw := keeps_refl w
      replace kw := Keeps.trans kw (keeps_alloc w (.cells #[.int .i64 (nl : Int), .slice V nv cv, .slice H nh ch, .int .i64 (j : Int)] 61))
      have b3 : Bl (w.alloc (.cells #[.int .i64 (nl : Int), .slice V nv cv, .slice H nh ch, .int .i64 (j : Int)] 61)) w.heap.size [.int .i64 (nl : Int), .slice V nv cv, .slice H nh ch, .int .i64 (j : Int)] := Bl.new' (by simp) (by simp)
      have ca1_0 : (w.alloc (.cells #[.int .i64 (nl : Int), .slice V nv cv, .slice H nh ch, .int .i64 (j : Int)] 61)).cell? ⟨w.heap.size, 0, none⟩ = some (.int .i64 (nl : Int)) := (b3.2 0 _ rfl).1
      have fa1_0 : (w.alloc (.cells #[.int .i64 (nl : Int), .slice V nv cv, .slice H nh ch, .int .i64 (j : Int)] 61)).frozen? ⟨w.heap.size, 0, none⟩ = false := (b3.2 0 _ rfl).2
      have ca1_1 : (w.alloc (.cells #[.int .i64 (nl : Int), .slice V nv cv, .slice H nh ch, .int .i64 (j : Int)] 61)).cell? ⟨w.heap.size, 1, none⟩ = some (.slice V nv cv) := (b3.2 1 _ rfl).1
      have fa1_1 : (w.alloc (.cells #[.int .i64 (nl : Int), .slice V nv cv, .slice H nh ch, .int .i64 (j : Int)] 61)).frozen? ⟨w.heap.size, 1, none⟩ = false := (b3.2 1 _ rfl).2
      have ca1_2 : (w.alloc (.cells #[.int .i64 (nl : Int), .slice V nv cv, .slice H nh ch, .int .i64 (j : Int)] 61)).cell? ⟨w.heap.size, 2, none⟩ = some (.slice H nh ch) := (b3.2 2 _ rfl).1
      have fa1_2 : (w.alloc (.cells #[.int .i64 (nl : Int), .slice V nv cv, .slice H nh ch, .int .i64 (j : Int)] 61)).frozen? ⟨w.heap.size, 2, none⟩ = false := (b3.2 2 _ rfl).2
      have ca1_3 : (w.alloc (.cells #[.int .i64 (nl : Int), .slice V nv cv, .slice H nh ch, .int .i64 (j : Int)] 61)).cell? ⟨w.heap.size, 3, none⟩ = some (.int .i64 (j : Int)) := (b3.2 3 _ rfl).1
      have fa1_3 : (w.alloc (.cells #[.int .i64 (nl : Int), .slice V nv cv, .slice H nh ch, .int .i64 (j : Int)] 61)).frozen? ⟨w.heap.size, 3, none⟩ = false := (b3.2 3 _ rfl).2
      have hcn := cell_keeps hcn kw
      go_wp2_with fail
      clear ca1_0 fa1_0 ca1_1 fa1_1 ca1_2 fa1_2 ca1_3 fa1_3
      refine (HLC.out _ (ht.keeps kw)).mono ?_
      rintro e w2 ⟨rfl, k2⟩
      replace b3 := b3.keeps k2
      replace kw := Keeps.trans kw k2
      have lt3 := b3.lt
      have sz4 := kw.size
      clear k2
      clear HLC
      have ca5_0 : w2.cell? ⟨w.heap.size, 0, none⟩ = some (.int .i64 (nl : Int)) := (b3.2 0 _ rfl).1
      have fa5_0 : w2.frozen? ⟨w.heap.size, 0, none⟩ = false := (b3.2 0 _ rfl).2
      have ca5_1 : w2.cell? ⟨w.heap.size, 1, none⟩ = some (.slice V nv cv) := (b3.2 1 _ rfl).1
      have fa5_1 : w2.frozen? ⟨w.heap.size, 1, none⟩ = false := (b3.2 1 _ rfl).2
      have ca5_2 : w2.cell? ⟨w.heap.size, 2, none⟩ = some (.slice H nh ch) := (b3.2 2 _ rfl).1
      have fa5_2 : w2.frozen? ⟨w.heap.size, 2, none⟩ = false := (b3.2 2 _ rfl).2
      have ca5_3 : w2.cell? ⟨w.heap.size, 3, none⟩ = some (.int .i64 (j : Int)) := (b3.2 3 _ rfl).1
      have fa5_3 : w2.frozen? ⟨w.heap.size, 3, none⟩ = false := (b3.2 3 _ rfl).2
      have s1 := kw.size
      have F0 : HasS w2 w2.heap.size (.slice none 0 0) ((nms l vs).take 0) := World.ownsRow_nil _ _ _ _
      go_wp2_with fail
      clear ca5_0 fa5_0 ca5_1 fa5_1 ca5_2 fa5_2 ca5_3 fa5_3
      go_loopw [6, 35] (fun pv i wr => ∃ k : Nat, k ≤ nv ∧ i = .int .i64 k ∧ HasS wr w2.heap.size pv ((nms l vs).take k) ∧ w2.heap.size ≤ wr.heap.size ∧ Bl wr w.heap.size [.int .i64 (nl : Int), .slice V nv cv, .slice H nh ch, .int .i64 (j : Int)] ∧ Keeps w wr) (fun _ i _ => nv - (intOf i).toNat)
      case atStart => exact ⟨0, Nat.zero_le _, rfl, F0, Nat.le_refl _, b3, kw⟩
      have lt3 : w.heap.size < w2.heap.size := b3.lt
      clear F0 b3 kw
      case round =>
        obtain ⟨k, hk, rfl, hown, hwv, b3, kw⟩ := hrel
        obtain ⟨wv, rfl⟩ : ∃ u : World, u = wr := ⟨_, rfl⟩
        by_cases hlt : k < nv
        · obtain ⟨b2, off2, x, rfl, _, _, hcv, hx⟩ := (hv.keeps kw).at_ hlt
          have hb := vsB_at HB.out (k := k) (by rw [HVL.out]; exact hlt)
          rw [← hx.out] at hb
          obtain ⟨j2, rfl⟩ : ∃ m : Nat, x = m := ⟨x.toNat, by omega⟩
          have hj2 : j2 < q := by have := HQL.out; omega
          have hcn2 := vname (hs.keeps kw) hj2
          have hi1 : (k : Int) < (nv : Int) := by omega
          have hi2 : (j2 : Int) < (q : Int) := by omega
          have hT := nms_take (l := l) (vs := vs) (k := k) (j := j2) (by rw [HVL.out]; exact hlt) hx.out
          have HT := hid hT
          have hkl : ((nms l vs).take k).length ≤ 67108864 := by rw [List.length_take]; omega
          clear hx hb hT
          go_wp2_with (at_builtin; refine append_str (nmT l j2) rfl hown hkl hwv _ _ rfl rfl rfl rfl ?_; intro v' w' hown' hb')
          rw [← HT.out] at hown'
          have H1 := hid hown'
          have B1 := hid (b3.fr (Fr.of_below' hb') (by omega))
          have H2 := hid (below_of kw hb' (by omega))
          have H3 := hid (Nat.le_trans hwv hb'.size)
          clear hown' hb' kw hown b3
          go_wp2
          go_roundw
          case rel => exact ⟨k + 1, hlt, by go_num, H1.out, H3.out, B1.out, H2.out⟩
          case measure => simp [intOf]; omega
        obtain rfl : nv = k := by omega
        rw [List.take_of_length_le (show (nms l vs).length ≤ nv by unfold nms; rw [List.length_map, HVL.out]; exact Nat.le_refl _)] at hown
        obtain ⟨A2, c2, rfl, hj⟩ := join_own hown hwv (by unfold nms; rw [List.length_map, HVL.out]; omega) (nms_len HS.out HB.out) (by omega)
        clear hown
        go_wp2_with fail
        refine (hj).mono ?_
        rintro e w6 ⟨rfl, k6⟩
        rw [hsBe]
        replace b3 := b3.keeps k6
        replace kw := Keeps.trans kw k6
        have lt7 := b3.lt
        have sz8 := kw.size
        clear k6
        clear hj
        have HSB := hid hsBe
        clear hsBe
        have ca9_0 : w6.cell? ⟨w.heap.size, 0, none⟩ = some (.int .i64 (nl : Int)) := (b3.2 0 _ rfl).1
        have fa9_0 : w6.frozen? ⟨w.heap.size, 0, none⟩ = false := (b3.2 0 _ rfl).2
        have ca9_1 : w6.cell? ⟨w.heap.size, 1, none⟩ = some (.slice V nv cv) := (b3.2 1 _ rfl).1
        have fa9_1 : w6.frozen? ⟨w.heap.size, 1, none⟩ = false := (b3.2 1 _ rfl).2
        have ca9_2 : w6.cell? ⟨w.heap.size, 2, none⟩ = some (.slice H nh ch) := (b3.2 2 _ rfl).1
        have fa9_2 : w6.frozen? ⟨w.heap.size, 2, none⟩ = false := (b3.2 2 _ rfl).2
        have ca9_3 : w6.cell? ⟨w.heap.size, 3, none⟩ = some (.int .i64 (j : Int)) := (b3.2 3 _ rfl).1
        have fa9_3 : w6.frozen? ⟨w.heap.size, 3, none⟩ = false := (b3.2 3 _ rfl).2
        go_wp2_with fail
        clear ca9_0 fa9_0 ca9_1 fa9_1 ca9_2 fa9_2 ca9_3 fa9_3
        clear hza hzb hzc hzd hze hsB hsL hs1 hcn HVN
        obtain ⟨base, hbase⟩ : ∃ z, hdT l ((nl : Int), vs, ws, (j : Int)) ++ (lvT ((nl : Int), vs, ws, (j : Int)) ++ byT l ((nl : Int), vs, ws, (j : Int))) = z := ⟨_, rfl⟩
        rw [hbase] at HBA HTW
        clear hbase
        obtain ⟨s0, hs0'⟩ : ∃ z, (((({ data := #[115, 117, 109, 32] } : ByteArray) ++ sN) ++ (({ data := #[32, 108, 101, 118, 101, 108, 32] } : ByteArray) ++ sL)) ++ (({ data := #[32, 98, 121, 32] } : ByteArray) ++ sB)) = z := ⟨_, rfl⟩
        rw [hs0'] at HBA HZ2
        have HS0 := hid hs0'
        clear hs0'
        go_loopw [5, 9, 56] (fun sv uv i wr => ∃ (k : Nat) (s u : ByteArray), sv = .string s ∧ uv = .string u ∧ i = .int .i64 k ∧ k ≤ nh ∧ Hid (s = bs (base ++ (wT l ws k).1)) ∧ Hid (u = bs (if (wT l ws k).2 = true then [32] else [32, 119, 104, 101, 114, 101, 32])) ∧ s.size ≤ 130 + 40 * k ∧ Keeps w wr) (fun _ _ i _ => nh - (intOf i).toNat)
        case atStart => exact ⟨0, _, _, rfl, rfl, rfl, Nat.zero_le _, hid (by rw [HS0.out, HBA.out]; simp [wT]), hid rfl, by rw [HS0.out]; have := HZ2.out; omega, kw⟩
        clear kw b3
        case round =>
          obtain ⟨k, s, u, rfl, rfl, rfl, hk, HE, HU, hsz, kw⟩ := hrel
          by_cases hlt : k < nh
          rotate_left
          · obtain rfl : k = nh := by omega
            have HX := hid (show s = bs (tabT l ((nl : Int), vs, ws, (j : Int))) by rw [HE.out, HTW.out])
            go_wp2
            go_ret
            exact ⟨ret_str HX.out, kw⟩
          obtain ⟨b2, off2, x, rfl, _, _, hcw, hx⟩ := (hw.keeps kw).at_ hlt
          have hb := HWB.out k hlt
          rw [← hx.out] at hb
          have hi1 : (k : Int) < (nh : Int) := by omega
          have hkq : k < q := by have := HNW.out; omega
          have hi2 : (k : Int) < (q : Int) := by omega
          have hnh : nh ≤ 6 := by have := HNW.out; have := HQL.out; omega
          by_cases hx0 : x = 0
          · subst hx0
            have HN := hid (wT_no (l := l) (k := k) hx.out.symm)
            clear hx hb
            go_wp2_with fail
            go_roundw
            case rel => exact ⟨k + 1, s, u, rfl, rfl, by go_num, hlt, hid (by rw [HN.out]; exact HE.out), hid (by rw [HN.out]; exact HU.out), by omega, kw⟩
            case measure => simp [intOf]; omega
          have t1 : (x != 0) = true := by simp [hx0]
          have HN := hid (wT_yes (l := l) (ws := ws) (k := k) (by rw [← hx.out]; exact hx0))
          rw [← hx.out] at HN
          have hcn2 := vname (hs.keeps kw) hkq
          have hs2 := nmT_len HS.out (show k < l.length by rw [HQL.out]; exact hkq)
          rw [← bs_size] at hs2
          have hs3 := setT_len x
          rw [← bs_size] at hs3
          have HUS := hid (show u.size ≤ 7 by rw [HU.out, bs_size]; split <;> simp)
          have hs4 := HUS.out
          have HR := hid (show s ++ (((u ++ bs (nmT l k)) ++ ({ data := #[61] } : ByteArray)) ++ bs (setT x)) = bs (base ++ (wT l ws (k + 1)).1) by
            rw [HE.out, HU.out, HN.out, show ({ data := #[61] } : ByteArray) = bs [61] from rfl, bs_app, bs_app, bs_app, bs_app]
            cases (wT l ws k).2 <;> simp)
          have HN2 := hid (show (wT l ws (k + 1)).2 = true by rw [HN.out])
          have HSE := hid (fun (W0 W : World) (_ : Keeps W0 W) => setText_any (s := x) (w := W) hb)
          obtain ⟨sN, hsN⟩ : ∃ z, bs (nmT l k) = z := ⟨_, rfl⟩
          obtain ⟨sT, hsT⟩ : ∃ z, bs (setT x) = z := ⟨_, rfl⟩
          rw [hsN] at hcn2 hs2 HR
          rw [hsT] at hs3 HR HSE
          have hzf : ¬ (9223372036854775807 < u.size + sN.size) := by omega
          have hzg : ¬ (9223372036854775807 < u.size + sN.size + 1) := by omega
          have hzh : ¬ (9223372036854775807 < u.size + sN.size + 1 + sT.size) := by omega
          have hzi : ¬ (9223372036854775807 < s.size + (u.size + sN.size + 1 + sT.size)) := by omega
          have HRS := hid (show (s ++ (((u ++ sN) ++ ({ data := #[61] } : ByteArray)) ++ sT)).size ≤ 130 + 40 * (k + 1) by
            have h1 := wT_len (ws := ws) HS.out (k + 1) (by rw [HQL.out]; omega)
            have h2 := congrArg ByteArray.size HBA.out
            rw [bs_size] at h2
            rw [HR.out, bs_size, List.length_append]
            have := HZ2.out
            omega)
          clear hsN hsT hx hx0 hs2 hs3 hs4 hsz HN HU
          have r_hcn2 := fun d os => cell_regrown hcn2 d os
          have cQ0 := hid (fun (dQ : Nat) (oQ : Array Obj) => HSE.out _ _ (below_regrown wr dQ oQ))
          go_wp2_with fail
          refine wp_region_quiet_below (by kernel_rfl) (by kernel_rfl) ?_
          iterate 14 (go_big_quiet_step ((first | with_reducible exact Calls.regrown_of (cQ0.out _ _))))
          refine wpQuiet_nil ?_
          intro _ hw'
          obtain ⟨⟨dq, osq⟩, hw''⟩ := hw'
          subst hw''
          clear r_hcn2 cQ0
          have kQ := below_regrown wr dq osq
          obtain ⟨wQ10, hwQ⟩ : ∃ u, u = grow (redrawn wr dq) osq := ⟨_, rfl⟩
          rw [← hwQ] at kQ
          rw [← hwQ]
          clear hwQ
          replace kw := Keeps.trans kw kQ
          have sz11 := kw.size
          clear kQ
          clear HSE hzf hzg hzh hzi hcn2 hcw
          go_wp2_with fail
          go_roundw
          case rel => exact ⟨k + 1, _, _, rfl, rfl, by go_num, hlt, HR, hid (by rw [HN2.out]; rfl), HRS.out, kw⟩
          case measure => simp [intOf]; omega
    · have HBY := hid (show byT l ((nl : Int), vs, ws, (j : Int)) = [] from if_pos (show vs.length = 0 by rw [HVL.out]; omega))
      have hv1 : ¬ ((nv : Int) > 0) := by omega
      have HBA := hid (show ((({ data := #[115, 117, 109, 32] } : ByteArray) ++ sN) ++ (({ data := #[32, 108, 101, 118, 101, 108, 32] } : ByteArray) ++ sL)) = bs (hdT l ((nl : Int), vs, ws, (j : Int)) ++ (lvT ((nl : Int), vs, ws, (j : Int)) ++ byT l ((nl : Int), vs, ws, (j : Int)))) by
        rw [HHD.out, HLV.out, HBY.out, ← HLE.out, show ({ data := #[32, 108, 101, 118, 101, 108, 32] } : ByteArray) = bs [32, 108, 101, 118, 101, 108, 32] from rfl, bs_app, bs_app]
        simp only [List.append_nil])
      have HZ2 := hid (show ((({ data := #[115, 117, 109, 32] } : ByteArray) ++ sN) ++ (({ data := #[32, 108, 101, 118, 101, 108, 32] } : ByteArray) ++ sL)).size ≤ 130 by
        have e : ((({ data := #[115, 117, 109, 32] } : ByteArray) ++ sN) ++ (({ data := #[32, 108, 101, 118, 101, 108, 32] } : ByteArray) ++ sL)).size = 4 + sN.size + (7 + sL.size) := by simp only [ByteArray.size_append]; first | rfl | (simp; done) | omega
        omega)
      have HTW := hid (show tabT l ((nl : Int), vs, ws, (j : Int)) = (hdT l ((nl : Int), vs, ws, (j : Int)) ++ (lvT ((nl : Int), vs, ws, (j : Int)) ++ byT l ((nl : Int), vs, ws, (j : Int)))) ++ (wT l ws nh).1 by rw [HTE.out, HWL.out]; simp only [List.append_assoc])
      clear HTE HHD HLV HBY
      go_enter Tryz.func71, Tryz.ntmps71
      have kw := keeps_refl w
      replace kw := Keeps.trans kw (keeps_alloc w (.cells #[.int .i64 (nl : Int), .slice V nv cv, .slice H nh ch, .int .i64 (j : Int)] 61))
      have b3 : Bl (w.alloc (.cells #[.int .i64 (nl : Int), .slice V nv cv, .slice H nh ch, .int .i64 (j : Int)] 61)) w.heap.size [.int .i64 (nl : Int), .slice V nv cv, .slice H nh ch, .int .i64 (j : Int)] := Bl.new' (by simp) (by simp)
      have ca1_0 : (w.alloc (.cells #[.int .i64 (nl : Int), .slice V nv cv, .slice H nh ch, .int .i64 (j : Int)] 61)).cell? ⟨w.heap.size, 0, none⟩ = some (.int .i64 (nl : Int)) := (b3.2 0 _ rfl).1
      have fa1_0 : (w.alloc (.cells #[.int .i64 (nl : Int), .slice V nv cv, .slice H nh ch, .int .i64 (j : Int)] 61)).frozen? ⟨w.heap.size, 0, none⟩ = false := (b3.2 0 _ rfl).2
      have ca1_1 : (w.alloc (.cells #[.int .i64 (nl : Int), .slice V nv cv, .slice H nh ch, .int .i64 (j : Int)] 61)).cell? ⟨w.heap.size, 1, none⟩ = some (.slice V nv cv) := (b3.2 1 _ rfl).1
      have fa1_1 : (w.alloc (.cells #[.int .i64 (nl : Int), .slice V nv cv, .slice H nh ch, .int .i64 (j : Int)] 61)).frozen? ⟨w.heap.size, 1, none⟩ = false := (b3.2 1 _ rfl).2
      have ca1_2 : (w.alloc (.cells #[.int .i64 (nl : Int), .slice V nv cv, .slice H nh ch, .int .i64 (j : Int)] 61)).cell? ⟨w.heap.size, 2, none⟩ = some (.slice H nh ch) := (b3.2 2 _ rfl).1
      have fa1_2 : (w.alloc (.cells #[.int .i64 (nl : Int), .slice V nv cv, .slice H nh ch, .int .i64 (j : Int)] 61)).frozen? ⟨w.heap.size, 2, none⟩ = false := (b3.2 2 _ rfl).2
      have ca1_3 : (w.alloc (.cells #[.int .i64 (nl : Int), .slice V nv cv, .slice H nh ch, .int .i64 (j : Int)] 61)).cell? ⟨w.heap.size, 3, none⟩ = some (.int .i64 (j : Int)) := (b3.2 3 _ rfl).1
      have fa1_3 : (w.alloc (.cells #[.int .i64 (nl : Int), .slice V nv cv, .slice H nh ch, .int .i64 (j : Int)] 61)).frozen? ⟨w.heap.size, 3, none⟩ = false := (b3.2 3 _ rfl).2
      have hcn := cell_keeps hcn kw
      go_wp2_with fail
      clear ca1_0 fa1_0 ca1_1 fa1_1 ca1_2 fa1_2 ca1_3 fa1_3
      refine (HLC.out _ (ht.keeps kw)).mono ?_
      rintro e w2 ⟨rfl, k2⟩
      replace b3 := b3.keeps k2
      replace kw := Keeps.trans kw k2
      have lt3 := b3.lt
      have sz4 := kw.size
      clear k2
      clear HLC
      have ca5_0 : w2.cell? ⟨w.heap.size, 0, none⟩ = some (.int .i64 (nl : Int)) := (b3.2 0 _ rfl).1
      have fa5_0 : w2.frozen? ⟨w.heap.size, 0, none⟩ = false := (b3.2 0 _ rfl).2
      have ca5_1 : w2.cell? ⟨w.heap.size, 1, none⟩ = some (.slice V nv cv) := (b3.2 1 _ rfl).1
      have fa5_1 : w2.frozen? ⟨w.heap.size, 1, none⟩ = false := (b3.2 1 _ rfl).2
      have ca5_2 : w2.cell? ⟨w.heap.size, 2, none⟩ = some (.slice H nh ch) := (b3.2 2 _ rfl).1
      have fa5_2 : w2.frozen? ⟨w.heap.size, 2, none⟩ = false := (b3.2 2 _ rfl).2
      have ca5_3 : w2.cell? ⟨w.heap.size, 3, none⟩ = some (.int .i64 (j : Int)) := (b3.2 3 _ rfl).1
      have fa5_3 : w2.frozen? ⟨w.heap.size, 3, none⟩ = false := (b3.2 3 _ rfl).2
      go_wp2_with fail
      clear ca5_0 fa5_0 ca5_1 fa5_1 ca5_2 fa5_2 ca5_3 fa5_3
      clear hza hzb hzc hsL hs1 hcn HVN
      obtain ⟨base, hbase⟩ : ∃ z, hdT l ((nl : Int), vs, ws, (j : Int)) ++ (lvT ((nl : Int), vs, ws, (j : Int)) ++ byT l ((nl : Int), vs, ws, (j : Int))) = z := ⟨_, rfl⟩
      rw [hbase] at HBA HTW
      clear hbase
      obtain ⟨s0, hs0'⟩ : ∃ z, ((({ data := #[115, 117, 109, 32] } : ByteArray) ++ sN) ++ (({ data := #[32, 108, 101, 118, 101, 108, 32] } : ByteArray) ++ sL)) = z := ⟨_, rfl⟩
      rw [hs0'] at HBA HZ2
      have HS0 := hid hs0'
      clear hs0'
      go_loopw [5, 9, 56] (fun sv uv i wr => ∃ (k : Nat) (s u : ByteArray), sv = .string s ∧ uv = .string u ∧ i = .int .i64 k ∧ k ≤ nh ∧ Hid (s = bs (base ++ (wT l ws k).1)) ∧ Hid (u = bs (if (wT l ws k).2 = true then [32] else [32, 119, 104, 101, 114, 101, 32])) ∧ s.size ≤ 130 + 40 * k ∧ Keeps w wr) (fun _ _ i _ => nh - (intOf i).toNat)
      case atStart => exact ⟨0, _, _, rfl, rfl, rfl, Nat.zero_le _, hid (by rw [HS0.out, HBA.out]; simp [wT]), hid rfl, by rw [HS0.out]; have := HZ2.out; omega, kw⟩
      clear kw b3
      case round =>
        obtain ⟨k, s, u, rfl, rfl, rfl, hk, HE, HU, hsz, kw⟩ := hrel
        by_cases hlt : k < nh
        rotate_left
        · obtain rfl : k = nh := by omega
          have HX := hid (show s = bs (tabT l ((nl : Int), vs, ws, (j : Int))) by rw [HE.out, HTW.out])
          go_wp2
          go_ret
          exact ⟨ret_str HX.out, kw⟩
        obtain ⟨b2, off2, x, rfl, _, _, hcw, hx⟩ := (hw.keeps kw).at_ hlt
        have hb := HWB.out k hlt
        rw [← hx.out] at hb
        have hi1 : (k : Int) < (nh : Int) := by omega
        have hkq : k < q := by have := HNW.out; omega
        have hi2 : (k : Int) < (q : Int) := by omega
        have hnh : nh ≤ 6 := by have := HNW.out; have := HQL.out; omega
        by_cases hx0 : x = 0
        · subst hx0
          have HN := hid (wT_no (l := l) (k := k) hx.out.symm)
          clear hx hb
          go_wp2_with fail
          go_roundw
          case rel => exact ⟨k + 1, s, u, rfl, rfl, by go_num, hlt, hid (by rw [HN.out]; exact HE.out), hid (by rw [HN.out]; exact HU.out), by omega, kw⟩
          case measure => simp [intOf]; omega
        have t1 : (x != 0) = true := by simp [hx0]
        have HN := hid (wT_yes (l := l) (ws := ws) (k := k) (by rw [← hx.out]; exact hx0))
        rw [← hx.out] at HN
        have hcn2 := vname (hs.keeps kw) hkq
        have hs2 := nmT_len HS.out (show k < l.length by rw [HQL.out]; exact hkq)
        rw [← bs_size] at hs2
        have hs3 := setT_len x
        rw [← bs_size] at hs3
        have HUS := hid (show u.size ≤ 7 by rw [HU.out, bs_size]; split <;> simp)
        have hs4 := HUS.out
        have HR := hid (show s ++ (((u ++ bs (nmT l k)) ++ ({ data := #[61] } : ByteArray)) ++ bs (setT x)) = bs (base ++ (wT l ws (k + 1)).1) by
          rw [HE.out, HU.out, HN.out, show ({ data := #[61] } : ByteArray) = bs [61] from rfl, bs_app, bs_app, bs_app, bs_app]
          cases (wT l ws k).2 <;> simp)
        have HN2 := hid (show (wT l ws (k + 1)).2 = true by rw [HN.out])
        have HSE := hid (fun (W0 W : World) (_ : Keeps W0 W) => setText_any (s := x) (w := W) hb)
        obtain ⟨sN, hsN⟩ : ∃ z, bs (nmT l k) = z := ⟨_, rfl⟩
        obtain ⟨sT, hsT⟩ : ∃ z, bs (setT x) = z := ⟨_, rfl⟩
        rw [hsN] at hcn2 hs2 HR
        rw [hsT] at hs3 HR HSE
        have hzf : ¬ (9223372036854775807 < u.size + sN.size) := by omega
        have hzg : ¬ (9223372036854775807 < u.size + sN.size + 1) := by omega
        have hzh : ¬ (9223372036854775807 < u.size + sN.size + 1 + sT.size) := by omega
        have hzi : ¬ (9223372036854775807 < s.size + (u.size + sN.size + 1 + sT.size)) := by omega
        have HRS := hid (show (s ++ (((u ++ sN) ++ ({ data := #[61] } : ByteArray)) ++ sT)).size ≤ 130 + 40 * (k + 1) by
          have h1 := wT_len (ws := ws) HS.out (k + 1) (by rw [HQL.out]; omega)
          have h2 := congrArg ByteArray.size HBA.out
          rw [bs_size] at h2
          rw [HR.out, bs_size, List.length_append]
          have := HZ2.out
          omega)
        clear hsN hsT hx hx0 hs2 hs3 hs4 hsz HN HU
        have r_hcn2 := fun d os => cell_regrown hcn2 d os
        have cQ0 := hid (fun (dQ : Nat) (oQ : Array Obj) => HSE.out _ _ (below_regrown wr dQ oQ))
        go_wp2_with fail
        refine wp_region_quiet_below (by kernel_rfl) (by kernel_rfl) ?_
        iterate 14 (go_big_quiet_step ((first | with_reducible exact Calls.regrown_of (cQ0.out _ _))))
        refine wpQuiet_nil ?_
        intro _ hw'
        obtain ⟨⟨dq, osq⟩, hw''⟩ := hw'
        subst hw''
        clear r_hcn2 cQ0
        have kQ := below_regrown wr dq osq
        obtain ⟨wQ6, hwQ⟩ : ∃ u, u = grow (redrawn wr dq) osq := ⟨_, rfl⟩
        rw [← hwQ] at kQ
        rw [← hwQ]
        clear hwQ
        replace kw := Keeps.trans kw kQ
        have sz7 := kw.size
        clear kQ
        clear HSE hzf hzg hzh hzi hcn2 hcw
        go_wp2_with fail
        go_roundw
        case rel => exact ⟨k + 1, _, _, rfl, rfl, by go_num, hlt, HR, hid (by rw [HN2.out]; rfl), HRS.out, kw⟩
        case measure => simp [intOf]; omega
  · have hsn : ¬ sm ≥ 0 := by omega
    have HHD := hid (show ({ data := #[99, 111, 117, 110, 116] } : ByteArray) = bs (hdT l ((nl : Int), vs, ws, sm)) by
      have e : hdT l ((nl : Int), vs, ws, sm) = [99, 111, 117, 110, 116] := if_neg (show ¬ (0 : Int) ≤ sm by omega)
      rw [e]; rfl)
    clear hsm
    have hzb : ¬ (9223372036854775807 < 7 + sL.size) := by omega
    have hzc : ¬ (9223372036854775807 < 5 + (7 + sL.size)) := by omega
    by_cases hnv : 0 < nv
    · have HBY := hid (show byT l ((nl : Int), vs, ws, sm) = [32, 98, 121, 32] ++ joinC (nms l vs) from if_neg (show ¬ vs.length = 0 by rw [HVL.out]; omega))
      have hv1 : ((nv : Int) > 0) := by omega
      have hsB := joinC_nms HS.out HB.out (nms l vs).length
      rw [List.take_length, ← bs_size] at hsB
      obtain ⟨sB, hsBe⟩ : ∃ z, bs (joinC (nms l vs)) = z := ⟨_, rfl⟩
      rw [hsBe] at hsB
      have hzd : ¬ (9223372036854775807 < 4 + sB.size) := by omega
      have hze : ¬ (9223372036854775807 < 5 + (7 + sL.size) + (4 + sB.size)) := by omega
      have HBA := hid (show ((({ data := #[99, 111, 117, 110, 116] } : ByteArray) ++ (({ data := #[32, 108, 101, 118, 101, 108, 32] } : ByteArray) ++ sL)) ++ (({ data := #[32, 98, 121, 32] } : ByteArray) ++ sB)) = bs (hdT l ((nl : Int), vs, ws, sm) ++ (lvT ((nl : Int), vs, ws, sm) ++ byT l ((nl : Int), vs, ws, sm))) by
        rw [HHD.out, HLV.out, HBY.out, ← HLE.out, ← hsBe, show ({ data := #[32, 108, 101, 118, 101, 108, 32] } : ByteArray) = bs [32, 108, 101, 118, 101, 108, 32] from rfl, show ({ data := #[32, 98, 121, 32] } : ByteArray) = bs [32, 98, 121, 32] from rfl, bs_app, bs_app, bs_app, bs_app]
        simp only [List.append_assoc])
      have HZ2 := hid (show ((({ data := #[99, 111, 117, 110, 116] } : ByteArray) ++ (({ data := #[32, 108, 101, 118, 101, 108, 32] } : ByteArray) ++ sL)) ++ (({ data := #[32, 98, 121, 32] } : ByteArray) ++ sB)).size ≤ 130 by
        have e : ((({ data := #[99, 111, 117, 110, 116] } : ByteArray) ++ (({ data := #[32, 108, 101, 118, 101, 108, 32] } : ByteArray) ++ sL)) ++ (({ data := #[32, 98, 121, 32] } : ByteArray) ++ sB)).size = 5 + (7 + sL.size) + (4 + sB.size) := by simp only [ByteArray.size_append]; first | rfl | (simp; done) | omega
        omega)
      have HTW := hid (show tabT l ((nl : Int), vs, ws, sm) = (hdT l ((nl : Int), vs, ws, sm) ++ (lvT ((nl : Int), vs, ws, sm) ++ byT l ((nl : Int), vs, ws, sm))) ++ (wT l ws nh).1 by rw [HTE.out, HWL.out]; simp only [List.append_assoc])
      clear HTE HHD HLV HBY
      go_enter Tryz.func71, Tryz.ntmps71
      have kw := keeps_refl w
      replace kw := Keeps.trans kw (keeps_alloc w (.cells #[.int .i64 (nl : Int), .slice V nv cv, .slice H nh ch, .int .i64 sm] 61))
      have b3 : Bl (w.alloc (.cells #[.int .i64 (nl : Int), .slice V nv cv, .slice H nh ch, .int .i64 sm] 61)) w.heap.size [.int .i64 (nl : Int), .slice V nv cv, .slice H nh ch, .int .i64 sm] := Bl.new' (by simp) (by simp)
      have ca1_0 : (w.alloc (.cells #[.int .i64 (nl : Int), .slice V nv cv, .slice H nh ch, .int .i64 sm] 61)).cell? ⟨w.heap.size, 0, none⟩ = some (.int .i64 (nl : Int)) := (b3.2 0 _ rfl).1
      have fa1_0 : (w.alloc (.cells #[.int .i64 (nl : Int), .slice V nv cv, .slice H nh ch, .int .i64 sm] 61)).frozen? ⟨w.heap.size, 0, none⟩ = false := (b3.2 0 _ rfl).2
      have ca1_1 : (w.alloc (.cells #[.int .i64 (nl : Int), .slice V nv cv, .slice H nh ch, .int .i64 sm] 61)).cell? ⟨w.heap.size, 1, none⟩ = some (.slice V nv cv) := (b3.2 1 _ rfl).1
      have fa1_1 : (w.alloc (.cells #[.int .i64 (nl : Int), .slice V nv cv, .slice H nh ch, .int .i64 sm] 61)).frozen? ⟨w.heap.size, 1, none⟩ = false := (b3.2 1 _ rfl).2
      have ca1_2 : (w.alloc (.cells #[.int .i64 (nl : Int), .slice V nv cv, .slice H nh ch, .int .i64 sm] 61)).cell? ⟨w.heap.size, 2, none⟩ = some (.slice H nh ch) := (b3.2 2 _ rfl).1
      have fa1_2 : (w.alloc (.cells #[.int .i64 (nl : Int), .slice V nv cv, .slice H nh ch, .int .i64 sm] 61)).frozen? ⟨w.heap.size, 2, none⟩ = false := (b3.2 2 _ rfl).2
      have ca1_3 : (w.alloc (.cells #[.int .i64 (nl : Int), .slice V nv cv, .slice H nh ch, .int .i64 sm] 61)).cell? ⟨w.heap.size, 3, none⟩ = some (.int .i64 sm) := (b3.2 3 _ rfl).1
      have fa1_3 : (w.alloc (.cells #[.int .i64 (nl : Int), .slice V nv cv, .slice H nh ch, .int .i64 sm] 61)).frozen? ⟨w.heap.size, 3, none⟩ = false := (b3.2 3 _ rfl).2
      go_wp2_with fail
      clear ca1_0 fa1_0 ca1_1 fa1_1 ca1_2 fa1_2 ca1_3 fa1_3
      refine (HLC.out _ (ht.keeps kw)).mono ?_
      rintro e w2 ⟨rfl, k2⟩
      replace b3 := b3.keeps k2
      replace kw := Keeps.trans kw k2
      have lt3 := b3.lt
      have sz4 := kw.size
      clear k2
      clear HLC
      have ca5_0 : w2.cell? ⟨w.heap.size, 0, none⟩ = some (.int .i64 (nl : Int)) := (b3.2 0 _ rfl).1
      have fa5_0 : w2.frozen? ⟨w.heap.size, 0, none⟩ = false := (b3.2 0 _ rfl).2
      have ca5_1 : w2.cell? ⟨w.heap.size, 1, none⟩ = some (.slice V nv cv) := (b3.2 1 _ rfl).1
      have fa5_1 : w2.frozen? ⟨w.heap.size, 1, none⟩ = false := (b3.2 1 _ rfl).2
      have ca5_2 : w2.cell? ⟨w.heap.size, 2, none⟩ = some (.slice H nh ch) := (b3.2 2 _ rfl).1
      have fa5_2 : w2.frozen? ⟨w.heap.size, 2, none⟩ = false := (b3.2 2 _ rfl).2
      have ca5_3 : w2.cell? ⟨w.heap.size, 3, none⟩ = some (.int .i64 sm) := (b3.2 3 _ rfl).1
      have fa5_3 : w2.frozen? ⟨w.heap.size, 3, none⟩ = false := (b3.2 3 _ rfl).2
      have s1 := kw.size
      have F0 : HasS w2 w2.heap.size (.slice none 0 0) ((nms l vs).take 0) := World.ownsRow_nil _ _ _ _
      go_wp2_with fail
      clear ca5_0 fa5_0 ca5_1 fa5_1 ca5_2 fa5_2 ca5_3 fa5_3
      go_loopw [6, 35] (fun pv i wr => ∃ k : Nat, k ≤ nv ∧ i = .int .i64 k ∧ HasS wr w2.heap.size pv ((nms l vs).take k) ∧ w2.heap.size ≤ wr.heap.size ∧ Bl wr w.heap.size [.int .i64 (nl : Int), .slice V nv cv, .slice H nh ch, .int .i64 sm] ∧ Keeps w wr) (fun _ i _ => nv - (intOf i).toNat)
      case atStart => exact ⟨0, Nat.zero_le _, rfl, F0, Nat.le_refl _, b3, kw⟩
      have lt3 : w.heap.size < w2.heap.size := b3.lt
      clear F0 b3 kw
      case round =>
        obtain ⟨k, hk, rfl, hown, hwv, b3, kw⟩ := hrel
        obtain ⟨wv, rfl⟩ : ∃ u : World, u = wr := ⟨_, rfl⟩
        by_cases hlt : k < nv
        · obtain ⟨b2, off2, x, rfl, _, _, hcv, hx⟩ := (hv.keeps kw).at_ hlt
          have hb := vsB_at HB.out (k := k) (by rw [HVL.out]; exact hlt)
          rw [← hx.out] at hb
          obtain ⟨j2, rfl⟩ : ∃ m : Nat, x = m := ⟨x.toNat, by omega⟩
          have hj2 : j2 < q := by have := HQL.out; omega
          have hcn2 := vname (hs.keeps kw) hj2
          have hi1 : (k : Int) < (nv : Int) := by omega
          have hi2 : (j2 : Int) < (q : Int) := by omega
          have hT := nms_take (l := l) (vs := vs) (k := k) (j := j2) (by rw [HVL.out]; exact hlt) hx.out
          have HT := hid hT
          have hkl : ((nms l vs).take k).length ≤ 67108864 := by rw [List.length_take]; omega
          clear hx hb hT
          go_wp2_with (at_builtin; refine append_str (nmT l j2) rfl hown hkl hwv _ _ rfl rfl rfl rfl ?_; intro v' w' hown' hb')
          rw [← HT.out] at hown'
          have H1 := hid hown'
          have B1 := hid (b3.fr (Fr.of_below' hb') (by omega))
          have H2 := hid (below_of kw hb' (by omega))
          have H3 := hid (Nat.le_trans hwv hb'.size)
          clear hown' hb' kw hown b3
          go_wp2
          go_roundw
          case rel => exact ⟨k + 1, hlt, by go_num, H1.out, H3.out, B1.out, H2.out⟩
          case measure => simp [intOf]; omega
        obtain rfl : nv = k := by omega
        rw [List.take_of_length_le (show (nms l vs).length ≤ nv by unfold nms; rw [List.length_map, HVL.out]; exact Nat.le_refl _)] at hown
        obtain ⟨A2, c2, rfl, hj⟩ := join_own hown hwv (by unfold nms; rw [List.length_map, HVL.out]; omega) (nms_len HS.out HB.out) (by omega)
        clear hown
        go_wp2_with fail
        refine (hj).mono ?_
        rintro e w6 ⟨rfl, k6⟩
        rw [hsBe]
        replace b3 := b3.keeps k6
        replace kw := Keeps.trans kw k6
        have lt7 := b3.lt
        have sz8 := kw.size
        clear k6
        clear hj
        have HSB := hid hsBe
        clear hsBe
        have ca9_0 : w6.cell? ⟨w.heap.size, 0, none⟩ = some (.int .i64 (nl : Int)) := (b3.2 0 _ rfl).1
        have fa9_0 : w6.frozen? ⟨w.heap.size, 0, none⟩ = false := (b3.2 0 _ rfl).2
        have ca9_1 : w6.cell? ⟨w.heap.size, 1, none⟩ = some (.slice V nv cv) := (b3.2 1 _ rfl).1
        have fa9_1 : w6.frozen? ⟨w.heap.size, 1, none⟩ = false := (b3.2 1 _ rfl).2
        have ca9_2 : w6.cell? ⟨w.heap.size, 2, none⟩ = some (.slice H nh ch) := (b3.2 2 _ rfl).1
        have fa9_2 : w6.frozen? ⟨w.heap.size, 2, none⟩ = false := (b3.2 2 _ rfl).2
        have ca9_3 : w6.cell? ⟨w.heap.size, 3, none⟩ = some (.int .i64 sm) := (b3.2 3 _ rfl).1
        have fa9_3 : w6.frozen? ⟨w.heap.size, 3, none⟩ = false := (b3.2 3 _ rfl).2
        go_wp2_with fail
        clear ca9_0 fa9_0 ca9_1 fa9_1 ca9_2 fa9_2 ca9_3 fa9_3
        clear hzb hzc hzd hze hsB hsL HVN
        obtain ⟨base, hbase⟩ : ∃ z, hdT l ((nl : Int), vs, ws, sm) ++ (lvT ((nl : Int), vs, ws, sm) ++ byT l ((nl : Int), vs, ws, sm)) = z := ⟨_, rfl⟩
        rw [hbase] at HBA HTW
        clear hbase
        obtain ⟨s0, hs0'⟩ : ∃ z, ((({ data := #[99, 111, 117, 110, 116] } : ByteArray) ++ (({ data := #[32, 108, 101, 118, 101, 108, 32] } : ByteArray) ++ sL)) ++ (({ data := #[32, 98, 121, 32] } : ByteArray) ++ sB)) = z := ⟨_, rfl⟩
        rw [hs0'] at HBA HZ2
        have HS0 := hid hs0'
        clear hs0'
        go_loopw [5, 9, 56] (fun sv uv i wr => ∃ (k : Nat) (s u : ByteArray), sv = .string s ∧ uv = .string u ∧ i = .int .i64 k ∧ k ≤ nh ∧ Hid (s = bs (base ++ (wT l ws k).1)) ∧ Hid (u = bs (if (wT l ws k).2 = true then [32] else [32, 119, 104, 101, 114, 101, 32])) ∧ s.size ≤ 130 + 40 * k ∧ Keeps w wr) (fun _ _ i _ => nh - (intOf i).toNat)
        case atStart => exact ⟨0, _, _, rfl, rfl, rfl, Nat.zero_le _, hid (by rw [HS0.out, HBA.out]; simp [wT]), hid rfl, by rw [HS0.out]; have := HZ2.out; omega, kw⟩
        clear kw b3
        case round =>
          obtain ⟨k, s, u, rfl, rfl, rfl, hk, HE, HU, hsz, kw⟩ := hrel
          by_cases hlt : k < nh
          rotate_left
          · obtain rfl : k = nh := by omega
            have HX := hid (show s = bs (tabT l ((nl : Int), vs, ws, sm)) by rw [HE.out, HTW.out])
            go_wp2
            go_ret
            exact ⟨ret_str HX.out, kw⟩
          obtain ⟨b2, off2, x, rfl, _, _, hcw, hx⟩ := (hw.keeps kw).at_ hlt
          have hb := HWB.out k hlt
          rw [← hx.out] at hb
          have hi1 : (k : Int) < (nh : Int) := by omega
          have hkq : k < q := by have := HNW.out; omega
          have hi2 : (k : Int) < (q : Int) := by omega
          have hnh : nh ≤ 6 := by have := HNW.out; have := HQL.out; omega
          by_cases hx0 : x = 0
          · subst hx0
            have HN := hid (wT_no (l := l) (k := k) hx.out.symm)
            clear hx hb
            go_wp2_with fail
            go_roundw
            case rel => exact ⟨k + 1, s, u, rfl, rfl, by go_num, hlt, hid (by rw [HN.out]; exact HE.out), hid (by rw [HN.out]; exact HU.out), by omega, kw⟩
            case measure => simp [intOf]; omega
          have t1 : (x != 0) = true := by simp [hx0]
          have HN := hid (wT_yes (l := l) (ws := ws) (k := k) (by rw [← hx.out]; exact hx0))
          rw [← hx.out] at HN
          have hcn2 := vname (hs.keeps kw) hkq
          have hs2 := nmT_len HS.out (show k < l.length by rw [HQL.out]; exact hkq)
          rw [← bs_size] at hs2
          have hs3 := setT_len x
          rw [← bs_size] at hs3
          have HUS := hid (show u.size ≤ 7 by rw [HU.out, bs_size]; split <;> simp)
          have hs4 := HUS.out
          have HR := hid (show s ++ (((u ++ bs (nmT l k)) ++ ({ data := #[61] } : ByteArray)) ++ bs (setT x)) = bs (base ++ (wT l ws (k + 1)).1) by
            rw [HE.out, HU.out, HN.out, show ({ data := #[61] } : ByteArray) = bs [61] from rfl, bs_app, bs_app, bs_app, bs_app]
            cases (wT l ws k).2 <;> simp)
          have HN2 := hid (show (wT l ws (k + 1)).2 = true by rw [HN.out])
          have HSE := hid (fun (W0 W : World) (_ : Keeps W0 W) => setText_any (s := x) (w := W) hb)
          obtain ⟨sN, hsN⟩ : ∃ z, bs (nmT l k) = z := ⟨_, rfl⟩
          obtain ⟨sT, hsT⟩ : ∃ z, bs (setT x) = z := ⟨_, rfl⟩
          rw [hsN] at hcn2 hs2 HR
          rw [hsT] at hs3 HR HSE
          have hzf : ¬ (9223372036854775807 < u.size + sN.size) := by omega
          have hzg : ¬ (9223372036854775807 < u.size + sN.size + 1) := by omega
          have hzh : ¬ (9223372036854775807 < u.size + sN.size + 1 + sT.size) := by omega
          have hzi : ¬ (9223372036854775807 < s.size + (u.size + sN.size + 1 + sT.size)) := by omega
          have HRS := hid (show (s ++ (((u ++ sN) ++ ({ data := #[61] } : ByteArray)) ++ sT)).size ≤ 130 + 40 * (k + 1) by
            have h1 := wT_len (ws := ws) HS.out (k + 1) (by rw [HQL.out]; omega)
            have h2 := congrArg ByteArray.size HBA.out
            rw [bs_size] at h2
            rw [HR.out, bs_size, List.length_append]
            have := HZ2.out
            omega)
          clear hsN hsT hx hx0 hs2 hs3 hs4 hsz HN HU
          have r_hcn2 := fun d os => cell_regrown hcn2 d os
          have cQ0 := hid (fun (dQ : Nat) (oQ : Array Obj) => HSE.out _ _ (below_regrown wr dQ oQ))
          go_wp2_with fail
          refine wp_region_quiet_below (by kernel_rfl) (by kernel_rfl) ?_
          iterate 14 (go_big_quiet_step ((first | with_reducible exact Calls.regrown_of (cQ0.out _ _))))
          refine wpQuiet_nil ?_
          intro _ hw'
          obtain ⟨⟨dq, osq⟩, hw''⟩ := hw'
          subst hw''
          clear r_hcn2 cQ0
          have kQ := below_regrown wr dq osq
          obtain ⟨wQ10, hwQ⟩ : ∃ u, u = grow (redrawn wr dq) osq := ⟨_, rfl⟩
          rw [← hwQ] at kQ
          rw [← hwQ]
          clear hwQ
          replace kw := Keeps.trans kw kQ
          have sz11 := kw.size
          clear kQ
          clear HSE hzf hzg hzh hzi hcn2 hcw
          go_wp2_with fail
          go_roundw
          case rel => exact ⟨k + 1, _, _, rfl, rfl, by go_num, hlt, HR, hid (by rw [HN2.out]; rfl), HRS.out, kw⟩
          case measure => simp [intOf]; omega
    · have HBY := hid (show byT l ((nl : Int), vs, ws, sm) = [] from if_pos (show vs.length = 0 by rw [HVL.out]; omega))
      have hv1 : ¬ ((nv : Int) > 0) := by omega
      have HBA := hid (show (({ data := #[99, 111, 117, 110, 116] } : ByteArray) ++ (({ data := #[32, 108, 101, 118, 101, 108, 32] } : ByteArray) ++ sL)) = bs (hdT l ((nl : Int), vs, ws, sm) ++ (lvT ((nl : Int), vs, ws, sm) ++ byT l ((nl : Int), vs, ws, sm))) by
        rw [HHD.out, HLV.out, HBY.out, ← HLE.out, show ({ data := #[32, 108, 101, 118, 101, 108, 32] } : ByteArray) = bs [32, 108, 101, 118, 101, 108, 32] from rfl, bs_app, bs_app]
        simp only [List.append_nil])
      have HZ2 := hid (show (({ data := #[99, 111, 117, 110, 116] } : ByteArray) ++ (({ data := #[32, 108, 101, 118, 101, 108, 32] } : ByteArray) ++ sL)).size ≤ 130 by
        have e : (({ data := #[99, 111, 117, 110, 116] } : ByteArray) ++ (({ data := #[32, 108, 101, 118, 101, 108, 32] } : ByteArray) ++ sL)).size = 5 + (7 + sL.size) := by simp only [ByteArray.size_append]; first | rfl | (simp; done) | omega
        omega)
      have HTW := hid (show tabT l ((nl : Int), vs, ws, sm) = (hdT l ((nl : Int), vs, ws, sm) ++ (lvT ((nl : Int), vs, ws, sm) ++ byT l ((nl : Int), vs, ws, sm))) ++ (wT l ws nh).1 by rw [HTE.out, HWL.out]; simp only [List.append_assoc])
      clear HTE HHD HLV HBY
      go_enter Tryz.func71, Tryz.ntmps71
      have kw := keeps_refl w
      replace kw := Keeps.trans kw (keeps_alloc w (.cells #[.int .i64 (nl : Int), .slice V nv cv, .slice H nh ch, .int .i64 sm] 61))
      have b3 : Bl (w.alloc (.cells #[.int .i64 (nl : Int), .slice V nv cv, .slice H nh ch, .int .i64 sm] 61)) w.heap.size [.int .i64 (nl : Int), .slice V nv cv, .slice H nh ch, .int .i64 sm] := Bl.new' (by simp) (by simp)
      have ca1_0 : (w.alloc (.cells #[.int .i64 (nl : Int), .slice V nv cv, .slice H nh ch, .int .i64 sm] 61)).cell? ⟨w.heap.size, 0, none⟩ = some (.int .i64 (nl : Int)) := (b3.2 0 _ rfl).1
      have fa1_0 : (w.alloc (.cells #[.int .i64 (nl : Int), .slice V nv cv, .slice H nh ch, .int .i64 sm] 61)).frozen? ⟨w.heap.size, 0, none⟩ = false := (b3.2 0 _ rfl).2
      have ca1_1 : (w.alloc (.cells #[.int .i64 (nl : Int), .slice V nv cv, .slice H nh ch, .int .i64 sm] 61)).cell? ⟨w.heap.size, 1, none⟩ = some (.slice V nv cv) := (b3.2 1 _ rfl).1
      have fa1_1 : (w.alloc (.cells #[.int .i64 (nl : Int), .slice V nv cv, .slice H nh ch, .int .i64 sm] 61)).frozen? ⟨w.heap.size, 1, none⟩ = false := (b3.2 1 _ rfl).2
      have ca1_2 : (w.alloc (.cells #[.int .i64 (nl : Int), .slice V nv cv, .slice H nh ch, .int .i64 sm] 61)).cell? ⟨w.heap.size, 2, none⟩ = some (.slice H nh ch) := (b3.2 2 _ rfl).1
      have fa1_2 : (w.alloc (.cells #[.int .i64 (nl : Int), .slice V nv cv, .slice H nh ch, .int .i64 sm] 61)).frozen? ⟨w.heap.size, 2, none⟩ = false := (b3.2 2 _ rfl).2
      have ca1_3 : (w.alloc (.cells #[.int .i64 (nl : Int), .slice V nv cv, .slice H nh ch, .int .i64 sm] 61)).cell? ⟨w.heap.size, 3, none⟩ = some (.int .i64 sm) := (b3.2 3 _ rfl).1
      have fa1_3 : (w.alloc (.cells #[.int .i64 (nl : Int), .slice V nv cv, .slice H nh ch, .int .i64 sm] 61)).frozen? ⟨w.heap.size, 3, none⟩ = false := (b3.2 3 _ rfl).2
      go_wp2_with fail
      clear ca1_0 fa1_0 ca1_1 fa1_1 ca1_2 fa1_2 ca1_3 fa1_3
      refine (HLC.out _ (ht.keeps kw)).mono ?_
      rintro e w2 ⟨rfl, k2⟩
      replace b3 := b3.keeps k2
      replace kw := Keeps.trans kw k2
      have lt3 := b3.lt
      have sz4 := kw.size
      clear k2
      clear HLC
      have ca5_0 : w2.cell? ⟨w.heap.size, 0, none⟩ = some (.int .i64 (nl : Int)) := (b3.2 0 _ rfl).1
      have fa5_0 : w2.frozen? ⟨w.heap.size, 0, none⟩ = false := (b3.2 0 _ rfl).2
      have ca5_1 : w2.cell? ⟨w.heap.size, 1, none⟩ = some (.slice V nv cv) := (b3.2 1 _ rfl).1
      have fa5_1 : w2.frozen? ⟨w.heap.size, 1, none⟩ = false := (b3.2 1 _ rfl).2
      have ca5_2 : w2.cell? ⟨w.heap.size, 2, none⟩ = some (.slice H nh ch) := (b3.2 2 _ rfl).1
      have fa5_2 : w2.frozen? ⟨w.heap.size, 2, none⟩ = false := (b3.2 2 _ rfl).2
      have ca5_3 : w2.cell? ⟨w.heap.size, 3, none⟩ = some (.int .i64 sm) := (b3.2 3 _ rfl).1
      have fa5_3 : w2.frozen? ⟨w.heap.size, 3, none⟩ = false := (b3.2 3 _ rfl).2
      go_wp2_with fail
      clear ca5_0 fa5_0 ca5_1 fa5_1 ca5_2 fa5_2 ca5_3 fa5_3
      clear hzb hzc hsL HVN
      obtain ⟨base, hbase⟩ : ∃ z, hdT l ((nl : Int), vs, ws, sm) ++ (lvT ((nl : Int), vs, ws, sm) ++ byT l ((nl : Int), vs, ws, sm)) = z := ⟨_, rfl⟩
      rw [hbase] at HBA HTW
      clear hbase
      obtain ⟨s0, hs0'⟩ : ∃ z, (({ data := #[99, 111, 117, 110, 116] } : ByteArray) ++ (({ data := #[32, 108, 101, 118, 101, 108, 32] } : ByteArray) ++ sL)) = z := ⟨_, rfl⟩
      rw [hs0'] at HBA HZ2
      have HS0 := hid hs0'
      clear hs0'
      go_loopw [5, 9, 56] (fun sv uv i wr => ∃ (k : Nat) (s u : ByteArray), sv = .string s ∧ uv = .string u ∧ i = .int .i64 k ∧ k ≤ nh ∧ Hid (s = bs (base ++ (wT l ws k).1)) ∧ Hid (u = bs (if (wT l ws k).2 = true then [32] else [32, 119, 104, 101, 114, 101, 32])) ∧ s.size ≤ 130 + 40 * k ∧ Keeps w wr) (fun _ _ i _ => nh - (intOf i).toNat)
      case atStart => exact ⟨0, _, _, rfl, rfl, rfl, Nat.zero_le _, hid (by rw [HS0.out, HBA.out]; simp [wT]), hid rfl, by rw [HS0.out]; have := HZ2.out; omega, kw⟩
      clear kw b3
      case round =>
        obtain ⟨k, s, u, rfl, rfl, rfl, hk, HE, HU, hsz, kw⟩ := hrel
        by_cases hlt : k < nh
        rotate_left
        · obtain rfl : k = nh := by omega
          have HX := hid (show s = bs (tabT l ((nl : Int), vs, ws, sm)) by rw [HE.out, HTW.out])
          go_wp2
          go_ret
          exact ⟨ret_str HX.out, kw⟩
        obtain ⟨b2, off2, x, rfl, _, _, hcw, hx⟩ := (hw.keeps kw).at_ hlt
        have hb := HWB.out k hlt
        rw [← hx.out] at hb
        have hi1 : (k : Int) < (nh : Int) := by omega
        have hkq : k < q := by have := HNW.out; omega
        have hi2 : (k : Int) < (q : Int) := by omega
        have hnh : nh ≤ 6 := by have := HNW.out; have := HQL.out; omega
        by_cases hx0 : x = 0
        · subst hx0
          have HN := hid (wT_no (l := l) (k := k) hx.out.symm)
          clear hx hb
          go_wp2_with fail
          go_roundw
          case rel => exact ⟨k + 1, s, u, rfl, rfl, by go_num, hlt, hid (by rw [HN.out]; exact HE.out), hid (by rw [HN.out]; exact HU.out), by omega, kw⟩
          case measure => simp [intOf]; omega
        have t1 : (x != 0) = true := by simp [hx0]
        have HN := hid (wT_yes (l := l) (ws := ws) (k := k) (by rw [← hx.out]; exact hx0))
        rw [← hx.out] at HN
        have hcn2 := vname (hs.keeps kw) hkq
        have hs2 := nmT_len HS.out (show k < l.length by rw [HQL.out]; exact hkq)
        rw [← bs_size] at hs2
        have hs3 := setT_len x
        rw [← bs_size] at hs3
        have HUS := hid (show u.size ≤ 7 by rw [HU.out, bs_size]; split <;> simp)
        have hs4 := HUS.out
        have HR := hid (show s ++ (((u ++ bs (nmT l k)) ++ ({ data := #[61] } : ByteArray)) ++ bs (setT x)) = bs (base ++ (wT l ws (k + 1)).1) by
          rw [HE.out, HU.out, HN.out, show ({ data := #[61] } : ByteArray) = bs [61] from rfl, bs_app, bs_app, bs_app, bs_app]
          cases (wT l ws k).2 <;> simp)
        have HN2 := hid (show (wT l ws (k + 1)).2 = true by rw [HN.out])
        have HSE := hid (fun (W0 W : World) (_ : Keeps W0 W) => setText_any (s := x) (w := W) hb)
        obtain ⟨sN, hsN⟩ : ∃ z, bs (nmT l k) = z := ⟨_, rfl⟩
        obtain ⟨sT, hsT⟩ : ∃ z, bs (setT x) = z := ⟨_, rfl⟩
        rw [hsN] at hcn2 hs2 HR
        rw [hsT] at hs3 HR HSE
        have hzf : ¬ (9223372036854775807 < u.size + sN.size) := by omega
        have hzg : ¬ (9223372036854775807 < u.size + sN.size + 1) := by omega
        have hzh : ¬ (9223372036854775807 < u.size + sN.size + 1 + sT.size) := by omega
        have hzi : ¬ (9223372036854775807 < s.size + (u.size + sN.size + 1 + sT.size)) := by omega
        have HRS := hid (show (s ++ (((u ++ sN) ++ ({ data := #[61] } : ByteArray)) ++ sT)).size ≤ 130 + 40 * (k + 1) by
          have h1 := wT_len (ws := ws) HS.out (k + 1) (by rw [HQL.out]; omega)
          have h2 := congrArg ByteArray.size HBA.out
          rw [bs_size] at h2
          rw [HR.out, bs_size, List.length_append]
          have := HZ2.out
          omega)
        clear hsN hsT hx hx0 hs2 hs3 hs4 hsz HN HU
        have r_hcn2 := fun d os => cell_regrown hcn2 d os
        have cQ0 := hid (fun (dQ : Nat) (oQ : Array Obj) => HSE.out _ _ (below_regrown wr dQ oQ))
        go_wp2_with fail
        refine wp_region_quiet_below (by kernel_rfl) (by kernel_rfl) ?_
        iterate 14 (go_big_quiet_step ((first | with_reducible exact Calls.regrown_of (cQ0.out _ _))))
        refine wpQuiet_nil ?_
        intro _ hw'
        obtain ⟨⟨dq, osq⟩, hw''⟩ := hw'
        subst hw''
        clear r_hcn2 cQ0
        have kQ := below_regrown wr dq osq
        obtain ⟨wQ6, hwQ⟩ : ∃ u, u = grow (redrawn wr dq) osq := ⟨_, rfl⟩
        rw [← hwQ] at kQ
        rw [← hwQ]
        clear hwQ
        replace kw := Keeps.trans kw kQ
        have sz7 := kw.size
        clear kQ
        clear HSE hzf hzg hzh hzi hcn2 hcw
        go_wp2_with fail
        go_roundw
        case rel => exact ⟨k + 1, _, _, rfl, rfl, by go_num, hlt, HR, hid (by rw [HN2.out]; rfl), HRS.out, kw⟩
        case measure => simp [intOf]; omega
end Go.Proofs.YtlkjhkkfdmjfcaaGreatDoor
