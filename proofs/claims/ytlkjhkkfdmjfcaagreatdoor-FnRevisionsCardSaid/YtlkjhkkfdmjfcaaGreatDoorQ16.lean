/- What the proof of the statement leans on, part 17: walks of functions and plain lemmas, with no condition. -/
import Derived.Deep.RegionHeld3
import Derived.Test.YtlkjhkkfdmjfcaaGreatDoorQ0
import Derived.Test.YtlkjhkkfdmjfcaaGreatDoorQ7
import Derived.Test.YtlkjhkkfdmjfcaaGreatDoorQ15
namespace Go.Proofs.YtlkjhkkfdmjfcaaGreatDoor
open Go.RowKit Go.Sort
set_option linter.unusedVariables false
set_option linter.unusedSimpArgs false
theorem Fr.of_below' {B : Nat} {w w' : World} (k : Below B w w') : Fr B w'.heap.size w w' := ⟨k.os, k.tape, k.output, k.size, fun i hi ho => k.block i (by have := k.size; omega)⟩
theorem below_of {B : Nat} {a w w' : World} (h : Keeps a w) (k : Below B w w') (hB : a.heap.size ≤ B) : Keeps a w' := Below.trans h (k.mono hB)
set_option maxRecDepth 100000 in
set_option maxHeartbeats 25600000 in
theorem tableText_any {A V H : Option Addr} {lo hi q c lo2 hi2 nv cv lo3 hi3 nh ch : Nat} {lv sm : Int} {ps : List Int} {l : List VV} {vs ws : List Int} {w : World} (hs : Vars w lo hi A q l) (hv : Ints w lo2 hi2 V nv vs) (hw : Ints w lo3 hi3 H nh ws) (hg : geoB ps = true) (hS : schB l = true) (hT : tabB ps l ((lv, vs, ws, sm) : TT) = true) (ht : Tab10 w) :
    Calls Tryz.prog 71 #[.slice A q c, .agg #[.int .i64 lv, .slice V nv cv, .slice H nh ch, .int .i64 sm]] w fun e w' => e = .returned (.string (bs (tabT l ((lv, vs, ws, sm) : TT)))) ∧ Keeps w w' := by
  have hq := hs.le
  have hn := hv.le
  have hm := hw.le
  have HQL := hid (show l.length = q from Vars.len hs)
  have HVL := hid hv.1
  have HWL := hid hw.1
  have hp : vsB l.length vs = true ∧ whB l ws = true ∧ (-1 ≤ sm ∧ sm ≤ (l.length : Int) - 1) ∧ True := by have := tabB_parts hT; exact ⟨this.1, this.2.1, this.2.2.1, trivial⟩
  have hlv : 0 ≤ lv ∧ lv ≤ 30 := tab_bd hg hT
  have h16 := (schB_lv rfl hS).2
  have HS := hid hS
  have HB := hid hp.1
  have HVN := hid (show nv ≤ 6 by have := vsB_len hp.1; rw [hv.1] at this; omega)
  have HNW := hid (show nh = q by have := (whB_at hp.2.1 (k := 0) (by omega)).1; rw [hw.1] at this; rw [this, HQL.out])
  have HWB := hid (fun k (hk : k < nh) => (show 0 ≤ ws.getD k 0 ∧ ws.getD k 0 ≤ 255 by
    have h1 := whB_at hp.2.1 (k := k) (by rw [HQL.out, ← HNW.out]; exact hk)
    have h2 := (schB_lv rfl hS).1 k (by rw [HQL.out, ← HNW.out]; exact hk)
    have h3 := full_bd h2
    exact ⟨h1.2.1, by have := h1.2.2; omega⟩))
  have HTE := hid (show tabT l ((lv, vs, ws, sm) : TT) = hdT l ((lv, vs, ws, sm) : TT) ++ (lvT ((lv, vs, ws, sm) : TT) ++ (byT l ((lv, vs, ws, sm) : TT) ++ (wT l ws ws.length).1)) from rfl)
  have hsm := hp.2.2.1
  clear hp hT hS hg
  obtain ⟨b, off, rfl⟩ := vaddr hs (show 0 < q by have := HQL.out; omega)
  obtain ⟨nl, rfl⟩ : ∃ m : Nat, lv = m := ⟨lv.toNat, by omega⟩
  have hnl : nl ≤ 30 := by omega
  have HLV := hid (show lvT ((nl : Int), vs, ws, sm) = [32, 108, 101, 118, 101, 108, 32] ++ Lib.decDigits nl from rfl)
  clear hlv
  replace hsm : -1 ≤ sm ∧ sm < q := by have := HQL.out; omega
  have hsL := dec_len nl (by omega)
  rw [← bs_size] at hsL
  obtain ⟨sL, hsLe⟩ : ∃ z, bs (Lib.decDigits nl) = z := ⟨_, rfl⟩
  rw [hsLe] at hsL
  have HLC := hid (fun (W : World) (z : Tab10 W) => itoa_k (n := (nl : Int)) (by omega) z)
  rw [itoa_nat, hsLe] at HLC
  have HLE := hid hsLe
  clear hsLe
  by_cases hs0 : 0 ≤ sm
  · obtain ⟨j, rfl⟩ : ∃ m : Nat, sm = m := ⟨sm.toNat, by omega⟩
    have hj : j < q := by omega
    have hi0 : (j : Int) < (q : Int) := by omega
    have hs1 := nmT_len HS.out (show j < l.length by rw [HQL.out]; exact hj)
    rw [← bs_size] at hs1
    have HHD := hid (show ({ data := #[115, 117, 109, 32] } : ByteArray) ++ bs (nmT l j) = bs (hdT l ((nl : Int), vs, ws, (j : Int))) by
      have e : hdT l ((nl : Int), vs, ws, (j : Int)) = [115, 117, 109, 32] ++ nmT l j := if_pos (show (0 : Int) ≤ (j : Int) by omega)
      rw [e, show ({ data := #[115, 117, 109, 32] } : ByteArray) = bs [115, 117, 109, 32] from rfl, bs_app])
    have hcn := vname hs hj
    obtain ⟨sN, hsN⟩ : ∃ z, bs (nmT l j) = z := ⟨_, rfl⟩
    rw [hsN] at hs1 HHD hcn
    clear hsN hsm
    have hza : ¬ (9223372036854775807 < 4 + sN.size) := by omega
    have hzb : ¬ (9223372036854775807 < 7 + sL.size) := by omega
    have hzc : ¬ (9223372036854775807 < 4 + sN.size + (7 + sL.size)) := by omega
    by_cases hnv : 0 < nv
    · have HBY := hid (show byT l ((nl : Int), vs, ws, (j : Int)) = [32, 98, 121, 32] ++ joinC (nms l vs) from if_neg (show ¬ vs.length = 0 by rw [HVL.out]; omega))
      have hv1 : ((nv : Int) > 0) := by omega
      have hsB := joinC_nms HS.out HB.out (nms l vs).length
      rw [List.take_length, ← bs_size] at hsB
      obtain ⟨sB, hsBe⟩ : ∃ z, bs (joinC (nms l vs)) = z := ⟨_, rfl⟩
      rw [hsBe] at hsB
      have hzd : ¬ (9223372036854775807 < 4 + sB.size) := by omega
      have hze : ¬ (9223372036854775807 < 4 + sN.size + (7 + sL.size) + (4 + sB.size)) := by omega
      have HBA := hid (show (((({ data := #[115, 117, 109, 32] } : ByteArray) ++ sN) ++ (({ data := #[32, 108, 101, 118, 101, 108, 32] } : ByteArray) ++ sL)) ++ (({ data := #[32, 98, 121, 32] } : ByteArray) ++ sB)) = bs (hdT l ((nl : Int), vs, ws, (j : Int)) ++ (lvT ((nl : Int), vs, ws, (j : Int)) ++ byT l ((nl : Int), vs, ws, (j : Int)))) by
        rw [HHD.out, HLV.out, HBY.out, ← HLE.out, ← hsBe, show ({ data := #[32, 108, 101, 118, 101, 108, 32] } : ByteArray) = bs [32, 108, 101, 118, 101, 108, 32] from rfl, show ({ data := #[32, 98, 121, 32] } : ByteArray) = bs [32, 98, 121, 32] from rfl, bs_app, bs_app, bs_app, bs_app]
        simp only [List.append_assoc])
      have HZ2 := hid (show (((({ data := #[115, 117, 109, 32] } : ByteArray) ++ sN) ++ (({ data := #[32, 108, 101, 118, 101, 108, 32] } : ByteArray) ++ sL)) ++ (({ data := #[32, 98, 121, 32] } : ByteArray) ++ sB)).size ≤ 130 by
        have e : (((({ data := #[115, 117, 109, 32] } : ByteArray) ++ sN) ++ (({ data := #[32, 108, 101, 118, 101, 108, 32] } : ByteArray) ++ sL)) ++ (({ data := #[32, 98, 121, 32] } : ByteArray) ++ sB)).size = 4 + sN.size + (7 + sL.size) + (4 + sB.size) := by simp only [ByteArray.size_append]; first | rfl | (simp; done) | omega
        omega)
      have HTW := hid (show tabT l ((nl : Int), vs, ws, (j : Int)) = (hdT l ((nl : Int), vs, ws, (j : Int)) ++ (lvT ((nl : Int), vs, ws, (j : Int)) ++ byT l ((nl : Int), vs, ws, (j : Int)))) ++ (wT l ws nh).1 by rw [HTE.out, HWL.out]; simp only [List.append_assoc])
      clear HTE HHD HLV HBY
      go_enter Tryz.func71, Tryz.ntmps71
      have kw := keeps_refl w
      replace kw := Keeps.trans kw (keeps_alloc w (.cells #[.int .i64 (nl : Int), .slice V nv cv, .slice H nh ch, .int .i64 (j : Int)] 61))
      have b3 : Bl (w.alloc (.cells #[.int .i64 (nl : Int), .slice V nv cv, .slice H nh ch, .int .i64 (j : Int)] 61)) w.heap.size [.int .i64 (nl : Int), .slice V nv cv, .slice H nh ch, .int .i64 (j : Int)] := Bl.new' (by simp) (by simp)
      have ca1_0 := (b3.2 0 _ rfl).1
      have ca1_1 := (b3.2 1 _ rfl).1
      have ca1_2 := (b3.2 2 _ rfl).1
      have ca1_3 := (b3.2 3 _ rfl).1
      have hcn := cell_keeps hcn kw
      go_wp2_with fail
      clear ca1_0 ca1_1 ca1_2 ca1_3
      refine (HLC.out _ (ht.keeps kw)).mono ?_
      rintro e w2 ⟨rfl, k2⟩
      replace b3 := b3.keeps k2
      replace kw := Keeps.trans kw k2
      have lt3 := b3.lt
      have sz4 := kw.size
      clear k2
      clear HLC
      have ca5_0 := (b3.2 0 _ rfl).1
      have ca5_1 := (b3.2 1 _ rfl).1
      have ca5_2 := (b3.2 2 _ rfl).1
      have ca5_3 := (b3.2 3 _ rfl).1
      have s1 := kw.size
      have F0 : HasS w2 w2.heap.size (.slice none 0 0) ((nms l vs).take 0) := World.ownsRow_nil _ _ _ _
      go_wp2_with fail
      clear ca5_0 ca5_1 ca5_2 ca5_3
      go_loopw [6, 35] (fun pv i wr => ∃ k : Nat, k ≤ nv ∧ i = .int .i64 k ∧ HasS wr w2.heap.size pv ((nms l vs).take k) ∧ w2.heap.size ≤ wr.heap.size ∧ Bl wr w.heap.size [.int .i64 (nl : Int), .slice V nv cv, .slice H nh ch, .int .i64 (j : Int)] ∧ Keeps w wr) (fun _ i _ => nv - (intOf i).toNat)
      case atStart => exact ⟨0, Nat.zero_le _, rfl, F0, Nat.le_refl _, b3, kw⟩
      have lt3 : w.heap.size < w2.heap.size := b3.lt
      clear F0 b3 kw
      case round =>
        obtain ⟨k, hk, rfl, hown, hwv, b3, kw⟩ := hrel
        obtain ⟨wv, rfl⟩ : ∃ u : World, u = wr := ⟨_, rfl⟩
        by_cases hlt : k < nv
        · obtain ⟨b2, off2, x, rfl, _, _, hcv, hx⟩ := (hv.keeps kw).at_ hlt
          have hb := vsB_at HB.out (k := k) (by rw [HVL.out]; exact hlt)
          rw [← hx.out] at hb
          obtain ⟨j2, rfl⟩ : ∃ m : Nat, x = m := ⟨x.toNat, by omega⟩
          have hj2 : j2 < q := by have := HQL.out; omega
          have hcn2 := vname (hs.keeps kw) hj2
          have hi1 : (k : Int) < (nv : Int) := by omega
          have hi2 : (j2 : Int) < (q : Int) := by omega
          have hT := nms_take (l := l) (vs := vs) (k := k) (j := j2) (by rw [HVL.out]; exact hlt) hx.out
          have HT := hid hT
          have hkl : ((nms l vs).take k).length ≤ 67108864 := by rw [List.length_take]; omega
          clear hx hb hT
          go_wp2_with (at_builtin; refine append_str (nmT l j2) rfl hown hkl hwv _ _ rfl rfl rfl rfl ?_; intro v' w' hown' hb')
          rw [← HT.out] at hown'
          have H1 := hid hown'
          have B1 := hid (b3.fr (Fr.of_below' hb') (by omega))
          have H2 := hid (below_of kw hb' (by omega))
          have H3 := hid (Nat.le_trans hwv hb'.size)
          clear hown' hb' kw hown b3
          go_wp2
          go_roundw
          case rel => exact ⟨k + 1, hlt, by go_num, H1.out, H3.out, B1.out, H2.out⟩
          case measure => simp [intOf]; omega
        obtain rfl : nv = k := by omega
        rw [List.take_of_length_le (show (nms l vs).length ≤ nv by unfold nms; rw [List.length_map, HVL.out]; exact Nat.le_refl _)] at hown
        obtain ⟨A2, c2, rfl, hj⟩ := join_own hown hwv (by unfold nms; rw [List.length_map, HVL.out]; omega) (nms_len HS.out HB.out) (by omega)
        clear hown
        go_wp2_with fail
        refine (hj).mono ?_
        rintro e w6 ⟨rfl, k6⟩
        rw [hsBe]
        replace b3 := b3.keeps k6
        replace kw := Keeps.trans kw k6
        have lt7 := b3.lt
        have sz8 := kw.size
        clear k6
        clear hj
        have HSB := hid hsBe
        clear hsBe
        have ca9_0 := (b3.2 0 _ rfl).1
        have ca9_1 := (b3.2 1 _ rfl).1
        have ca9_2 := (b3.2 2 _ rfl).1
        have ca9_3 := (b3.2 3 _ rfl).1
        go_wp2_with fail
        clear ca9_0 ca9_1 ca9_2 ca9_3
        clear hza hzb hzc hzd hze hsB hsL hs1 hcn HVN
        obtain ⟨base, hbase⟩ : ∃ z, hdT l ((nl : Int), vs, ws, (j : Int)) ++ (lvT ((nl : Int), vs, ws, (j : Int)) ++ byT l ((nl : Int), vs, ws, (j : Int))) = z := ⟨_, rfl⟩
        rw [hbase] at HBA HTW
        clear hbase
        obtain ⟨s0, hs0'⟩ : ∃ z, (((({ data := #[115, 117, 109, 32] } : ByteArray) ++ sN) ++ (({ data := #[32, 108, 101, 118, 101, 108, 32] } : ByteArray) ++ sL)) ++ (({ data := #[32, 98, 121, 32] } : ByteArray) ++ sB)) = z := ⟨_, rfl⟩
        rw [hs0'] at HBA HZ2
        have HS0 := hid hs0'
        clear hs0'
        go_loopw [5, 9, 56] (fun sv uv i wr => ∃ (k : Nat) (s u : ByteArray), sv = .string s ∧ uv = .string u ∧ i = .int .i64 k ∧ k ≤ nh ∧ Hid (s = bs (base ++ (wT l ws k).1)) ∧ Hid (u = bs (if (wT l ws k).2 = true then [32] else [32, 119, 104, 101, 114, 101, 32])) ∧ s.size ≤ 130 + 40 * k ∧ Keeps w wr) (fun _ _ i _ => nh - (intOf i).toNat)
        case atStart => exact ⟨0, _, _, rfl, rfl, rfl, Nat.zero_le _, hid (by rw [HS0.out, HBA.out]; simp [wT]), hid rfl, by rw [HS0.out]; have := HZ2.out; omega, kw⟩
        clear kw b3
        case round =>
          obtain ⟨k, s, u, rfl, rfl, rfl, hk, HE, HU, hsz, kw⟩ := hrel
          by_cases hlt : k < nh
          rotate_left
          · obtain rfl : k = nh := by omega
            have HX := hid (show s = bs (tabT l ((nl : Int), vs, ws, (j : Int))) by rw [HE.out, HTW.out])
            go_wp2
            go_ret
            exact ⟨ret_str HX.out, kw⟩
          obtain ⟨b2, off2, x, rfl, _, _, hcw, hx⟩ := (hw.keeps kw).at_ hlt
          have hb := HWB.out k hlt
          rw [← hx.out] at hb
          have hi1 : (k : Int) < (nh : Int) := by omega
          have hkq : k < q := by have := HNW.out; omega
          have hi2 : (k : Int) < (q : Int) := by omega
          have hnh : nh ≤ 6 := by have := HNW.out; have := HQL.out; omega
          by_cases hx0 : x = 0
          · subst hx0
            have HN := hid (wT_no (l := l) (k := k) hx.out.symm)
            clear hx hb
            go_wp2_with fail
            go_roundw
            case rel => exact ⟨k + 1, s, u, rfl, rfl, by go_num, hlt, hid (by rw [HN.out]; exact HE.out), hid (by rw [HN.out]; exact HU.out), by omega, kw⟩
            case measure => simp [intOf]; omega
          have t1 : (x != 0) = true := by simp [hx0]
          have HN := hid (wT_yes (l := l) (ws := ws) (k := k) (by rw [← hx.out]; exact hx0))
          rw [← hx.out] at HN
          have hcn2 := vname (hs.keeps kw) hkq
          have hs2 := nmT_len HS.out (show k < l.length by rw [HQL.out]; exact hkq)
          rw [← bs_size] at hs2
          have hs3 := setT_len x
          rw [← bs_size] at hs3
          have HUS := hid (show u.size ≤ 7 by rw [HU.out, bs_size]; split <;> simp)
          have hs4 := HUS.out
          have HR := hid (show s ++ (((u ++ bs (nmT l k)) ++ ({ data := #[61] } : ByteArray)) ++ bs (setT x)) = bs (base ++ (wT l ws (k + 1)).1) by
            rw [HE.out, HU.out, HN.out, show ({ data := #[61] } : ByteArray) = bs [61] from rfl, bs_app, bs_app, bs_app, bs_app]
            cases (wT l ws k).2 <;> simp)
          have HN2 := hid (show (wT l ws (k + 1)).2 = true by rw [HN.out])
          have HSE := hid (fun (W0 W : World) (_ : Keeps W0 W) => setText_any (s := x) (w := W) hb)
          obtain ⟨sN, hsN⟩ : ∃ z, bs (nmT l k) = z := ⟨_, rfl⟩
          obtain ⟨sT, hsT⟩ : ∃ z, bs (setT x) = z := ⟨_, rfl⟩
          rw [hsN] at hcn2 hs2 HR
          rw [hsT] at hs3 HR HSE
          have hzf : ¬ (9223372036854775807 < u.size + sN.size) := by omega
          have hzg : ¬ (9223372036854775807 < u.size + sN.size + 1) := by omega
          have hzh : ¬ (9223372036854775807 < u.size + sN.size + 1 + sT.size) := by omega
          have hzi : ¬ (9223372036854775807 < s.size + (u.size + sN.size + 1 + sT.size)) := by omega
          have HRS := hid (show (s ++ (((u ++ sN) ++ ({ data := #[61] } : ByteArray)) ++ sT)).size ≤ 130 + 40 * (k + 1) by
            have h1 := wT_len (ws := ws) HS.out (k + 1) (by rw [HQL.out]; omega)
            have h2 := congrArg ByteArray.size HBA.out
            rw [bs_size] at h2
            rw [HR.out, bs_size, List.length_append]
            have := HZ2.out
            omega)
          clear hsN hsT hx hx0 hs2 hs3 hs4 hsz HN HU
          have r_hcn2 := fun d os => cell_regrown hcn2 d os
          have cQ0 := hid (fun (dQ : Nat) (oQ : Array Obj) => HSE.out _ _ (below_regrown wr dQ oQ))
          go_wp2_with fail
          refine wp_region_quiet_below (by kernel_rfl) (by kernel_rfl) ?_
          iterate 14 (go_big_quiet_step ((first | with_reducible exact Calls.regrown_of (cQ0.out _ _))))
          refine wpQuiet_nil ?_
          intro _ hw'
          obtain ⟨⟨dq, osq⟩, hw''⟩ := hw'
          subst hw''
          clear r_hcn2 cQ0
          have kQ := below_regrown wr dq osq
          obtain ⟨wQ10, hwQ⟩ : ∃ u, u = grow (redrawn wr dq) osq := ⟨_, rfl⟩
          rw [← hwQ] at kQ
          rw [← hwQ]
          clear hwQ
          replace kw := Keeps.trans kw kQ
          have sz11 := kw.size
          clear kQ
          clear HSE hzf hzg hzh hzi hcn2 hcw
          go_wp2_with fail
          go_roundw
          case rel => exact ⟨k + 1, _, _, rfl, rfl, by go_num, hlt, HR, hid (by rw [HN2.out]; rfl), HRS.out, kw⟩
          case measure => simp [intOf]; omega
    · have HBY := hid (show byT l ((nl : Int), vs, ws, (j : Int)) = [] from if_pos (show vs.length = 0 by rw [HVL.out]; omega))
      have hv1 : ¬ ((nv : Int) > 0) := by omega
      have HBA := hid (show ((({ data := #[115, 117, 109, 32] } : ByteArray) ++ sN) ++ (({ data := #[32, 108, 101, 118, 101, 108, 32] } : ByteArray) ++ sL)) = bs (hdT l ((nl : Int), vs, ws, (j : Int)) ++ (lvT ((nl : Int), vs, ws, (j : Int)) ++ byT l ((nl : Int), vs, ws, (j : Int)))) by
        rw [HHD.out, HLV.out, HBY.out, ← HLE.out, show ({ data := #[32, 108, 101, 118, 101, 108, 32] } : ByteArray) = bs [32, 108, 101, 118, 101, 108, 32] from rfl, bs_app, bs_app]
        simp only [List.append_nil])
      have HZ2 := hid (show ((({ data := #[115, 117, 109, 32] } : ByteArray) ++ sN) ++ (({ data := #[32, 108, 101, 118, 101, 108, 32] } : ByteArray) ++ sL)).size ≤ 130 by
        have e : ((({ data := #[115, 117, 109, 32] } : ByteArray) ++ sN) ++ (({ data := #[32, 108, 101, 118, 101, 108, 32] } : ByteArray) ++ sL)).size = 4 + sN.size + (7 + sL.size) := by simp only [ByteArray.size_append]; first | rfl | (simp; done) | omega
        omega)
      have HTW := hid (show tabT l ((nl : Int), vs, ws, (j : Int)) = (hdT l ((nl : Int), vs, ws, (j : Int)) ++ (lvT ((nl : Int), vs, ws, (j : Int)) ++ byT l ((nl : Int), vs, ws, (j : Int)))) ++ (wT l ws nh).1 by rw [HTE.out, HWL.out]; simp only [List.append_assoc])
      clear HTE HHD HLV HBY
      go_enter Tryz.func71, Tryz.ntmps71
      have kw := keeps_refl w
      replace kw := Keeps.trans kw (keeps_alloc w (.cells #[.int .i64 (nl : Int), .slice V nv cv, .slice H nh ch, .int .i64 (j : Int)] 61))
      have b3 : Bl (w.alloc (.cells #[.int .i64 (nl : Int), .slice V nv cv, .slice H nh ch, .int .i64 (j : Int)] 61)) w.heap.size [.int .i64 (nl : Int), .slice V nv cv, .slice H nh ch, .int .i64 (j : Int)] := Bl.new' (by simp) (by simp)
      have ca1_0 := (b3.2 0 _ rfl).1
      have ca1_1 := (b3.2 1 _ rfl).1
      have ca1_2 := (b3.2 2 _ rfl).1
      have ca1_3 := (b3.2 3 _ rfl).1
      have hcn := cell_keeps hcn kw
      go_wp2_with fail
      clear ca1_0 ca1_1 ca1_2 ca1_3
      refine (HLC.out _ (ht.keeps kw)).mono ?_
      rintro e w2 ⟨rfl, k2⟩
      replace b3 := b3.keeps k2
      replace kw := Keeps.trans kw k2
      have lt3 := b3.lt
      have sz4 := kw.size
      clear k2
      clear HLC
      have ca5_0 := (b3.2 0 _ rfl).1
      have ca5_1 := (b3.2 1 _ rfl).1
      have ca5_2 := (b3.2 2 _ rfl).1
      have ca5_3 := (b3.2 3 _ rfl).1
      go_wp2_with fail
      clear ca5_0 ca5_1 ca5_2 ca5_3
      clear hza hzb hzc hsL hs1 hcn HVN
      obtain ⟨base, hbase⟩ : ∃ z, hdT l ((nl : Int), vs, ws, (j : Int)) ++ (lvT ((nl : Int), vs, ws, (j : Int)) ++ byT l ((nl : Int), vs, ws, (j : Int))) = z := ⟨_, rfl⟩
      rw [hbase] at HBA HTW
      clear hbase
      obtain ⟨s0, hs0'⟩ : ∃ z, ((({ data := #[115, 117, 109, 32] } : ByteArray) ++ sN) ++ (({ data := #[32, 108, 101, 118, 101, 108, 32] } : ByteArray) ++ sL)) = z := ⟨_, rfl⟩
      rw [hs0'] at HBA HZ2
      have HS0 := hid hs0'
      clear hs0'
      go_loopw [5, 9, 56] (fun sv uv i wr => ∃ (k : Nat) (s u : ByteArray), sv = .string s ∧ uv = .string u ∧ i = .int .i64 k ∧ k ≤ nh ∧ Hid (s = bs (base ++ (wT l ws k).1)) ∧ Hid (u = bs (if (wT l ws k).2 = true then [32] else [32, 119, 104, 101, 114, 101, 32])) ∧ s.size ≤ 130 + 40 * k ∧ Keeps w wr) (fun _ _ i _ => nh - (intOf i).toNat)
      case atStart => exact ⟨0, _, _, rfl, rfl, rfl, Nat.zero_le _, hid (by rw [HS0.out, HBA.out]; simp [wT]), hid rfl, by rw [HS0.out]; have := HZ2.out; omega, kw⟩
      clear kw b3
      case round =>
        obtain ⟨k, s, u, rfl, rfl, rfl, hk, HE, HU, hsz, kw⟩ := hrel
        by_cases hlt : k < nh
        rotate_left
        · obtain rfl : k = nh := by omega
          have HX := hid (show s = bs (tabT l ((nl : Int), vs, ws, (j : Int))) by rw [HE.out, HTW.out])
          go_wp2
          go_ret
          exact ⟨ret_str HX.out, kw⟩
        obtain ⟨b2, off2, x, rfl, _, _, hcw, hx⟩ := (hw.keeps kw).at_ hlt
        have hb := HWB.out k hlt
        rw [← hx.out] at hb
        have hi1 : (k : Int) < (nh : Int) := by omega
        have hkq : k < q := by have := HNW.out; omega
        have hi2 : (k : Int) < (q : Int) := by omega
        have hnh : nh ≤ 6 := by have := HNW.out; have := HQL.out; omega
        by_cases hx0 : x = 0
        · subst hx0
          have HN := hid (wT_no (l := l) (k := k) hx.out.symm)
          clear hx hb
          go_wp2_with fail
          go_roundw
          case rel => exact ⟨k + 1, s, u, rfl, rfl, by go_num, hlt, hid (by rw [HN.out]; exact HE.out), hid (by rw [HN.out]; exact HU.out), by omega, kw⟩
          case measure => simp [intOf]; omega
        have t1 : (x != 0) = true := by simp [hx0]
        have HN := hid (wT_yes (l := l) (ws := ws) (k := k) (by rw [← hx.out]; exact hx0))
        rw [← hx.out] at HN
        have hcn2 := vname (hs.keeps kw) hkq
        have hs2 := nmT_len HS.out (show k < l.length by rw [HQL.out]; exact hkq)
        rw [← bs_size] at hs2
        have hs3 := setT_len x
        rw [← bs_size] at hs3
        have HUS := hid (show u.size ≤ 7 by rw [HU.out, bs_size]; split <;> simp)
        have hs4 := HUS.out
        have HR := hid (show s ++ (((u ++ bs (nmT l k)) ++ ({ data := #[61] } : ByteArray)) ++ bs (setT x)) = bs (base ++ (wT l ws (k + 1)).1) by
          rw [HE.out, HU.out, HN.out, show ({ data := #[61] } : ByteArray) = bs [61] from rfl, bs_app, bs_app, bs_app, bs_app]
          cases (wT l ws k).2 <;> simp)
        have HN2 := hid (show (wT l ws (k + 1)).2 = true by rw [HN.out])
        have HSE := hid (fun (W0 W : World) (_ : Keeps W0 W) => setText_any (s := x) (w := W) hb)
        obtain ⟨sN, hsN⟩ : ∃ z, bs (nmT l k) = z := ⟨_, rfl⟩
        obtain ⟨sT, hsT⟩ : ∃ z, bs (setT x) = z := ⟨_, rfl⟩
        rw [hsN] at hcn2 hs2 HR
        rw [hsT] at hs3 HR HSE
        have hzf : ¬ (9223372036854775807 < u.size + sN.size) := by omega
        have hzg : ¬ (9223372036854775807 < u.size + sN.size + 1) := by omega
        have hzh : ¬ (9223372036854775807 < u.size + sN.size + 1 + sT.size) := by omega
        have hzi : ¬ (9223372036854775807 < s.size + (u.size + sN.size + 1 + sT.size)) := by omega
        have HRS := hid (show (s ++ (((u ++ sN) ++ ({ data := #[61] } : ByteArray)) ++ sT)).size ≤ 130 + 40 * (k + 1) by
          have h1 := wT_len (ws := ws) HS.out (k + 1) (by rw [HQL.out]; omega)
          have h2 := congrArg ByteArray.size HBA.out
          rw [bs_size] at h2
          rw [HR.out, bs_size, List.length_append]
          have := HZ2.out
          omega)
        clear hsN hsT hx hx0 hs2 hs3 hs4 hsz HN HU
        have r_hcn2 := fun d os => cell_regrown hcn2 d os
        have cQ0 := hid (fun (dQ : Nat) (oQ : Array Obj) => HSE.out _ _ (below_regrown wr dQ oQ))
        go_wp2_with fail
        refine wp_region_quiet_below (by kernel_rfl) (by kernel_rfl) ?_
        iterate 14 (go_big_quiet_step ((first | with_reducible exact Calls.regrown_of (cQ0.out _ _))))
        refine wpQuiet_nil ?_
        intro _ hw'
        obtain ⟨⟨dq, osq⟩, hw''⟩ := hw'
        subst hw''
        clear r_hcn2 cQ0
        have kQ := below_regrown wr dq osq
        obtain ⟨wQ6, hwQ⟩ : ∃ u, u = grow (redrawn wr dq) osq := ⟨_, rfl⟩
        rw [← hwQ] at kQ
        rw [← hwQ]
        clear hwQ
        replace kw := Keeps.trans kw kQ
        have sz7 := kw.size
        clear kQ
        clear HSE hzf hzg hzh hzi hcn2 hcw
        go_wp2_with fail
        go_roundw
        case rel => exact ⟨k + 1, _, _, rfl, rfl, by go_num, hlt, HR, hid (by rw [HN2.out]; rfl), HRS.out, kw⟩
        case measure => simp [intOf]; omega
  · have hsn : ¬ sm ≥ 0 := by omega
    have HHD := hid (show ({ data := #[99, 111, 117, 110, 116] } : ByteArray) = bs (hdT l ((nl : Int), vs, ws, sm)) by
      have e : hdT l ((nl : Int), vs, ws, sm) = [99, 111, 117, 110, 116] := if_neg (show ¬ (0 : Int) ≤ sm by omega)
      rw [e]; rfl)
    clear hsm
    have hzb : ¬ (9223372036854775807 < 7 + sL.size) := by omega
    have hzc : ¬ (9223372036854775807 < 5 + (7 + sL.size)) := by omega
    by_cases hnv : 0 < nv
    · have HBY := hid (show byT l ((nl : Int), vs, ws, sm) = [32, 98, 121, 32] ++ joinC (nms l vs) from if_neg (show ¬ vs.length = 0 by rw [HVL.out]; omega))
      have hv1 : ((nv : Int) > 0) := by omega
      have hsB := joinC_nms HS.out HB.out (nms l vs).length
      rw [List.take_length, ← bs_size] at hsB
      obtain ⟨sB, hsBe⟩ : ∃ z, bs (joinC (nms l vs)) = z := ⟨_, rfl⟩
      rw [hsBe] at hsB
      have hzd : ¬ (9223372036854775807 < 4 + sB.size) := by omega
      have hze : ¬ (9223372036854775807 < 5 + (7 + sL.size) + (4 + sB.size)) := by omega
      have HBA := hid (show ((({ data := #[99, 111, 117, 110, 116] } : ByteArray) ++ (({ data := #[32, 108, 101, 118, 101, 108, 32] } : ByteArray) ++ sL)) ++ (({ data := #[32, 98, 121, 32] } : ByteArray) ++ sB)) = bs (hdT l ((nl : Int), vs, ws, sm) ++ (lvT ((nl : Int), vs, ws, sm) ++ byT l ((nl : Int), vs, ws, sm))) by
        rw [HHD.out, HLV.out, HBY.out, ← HLE.out, ← hsBe, show ({ data := #[32, 108, 101, 118, 101, 108, 32] } : ByteArray) = bs [32, 108, 101, 118, 101, 108, 32] from rfl, show ({ data := #[32, 98, 121, 32] } : ByteArray) = bs [32, 98, 121, 32] from rfl, bs_app, bs_app, bs_app, bs_app]
        simp only [List.append_assoc])
      have HZ2 := hid (show ((({ data := #[99, 111, 117, 110, 116] } : ByteArray) ++ (({ data := #[32, 108, 101, 118, 101, 108, 32] } : ByteArray) ++ sL)) ++ (({ data := #[32, 98, 121, 32] } : ByteArray) ++ sB)).size ≤ 130 by
        have e : ((({ data := #[99, 111, 117, 110, 116] } : ByteArray) ++ (({ data := #[32, 108, 101, 118, 101, 108, 32] } : ByteArray) ++ sL)) ++ (({ data := #[32, 98, 121, 32] } : ByteArray) ++ sB)).size = 5 + (7 + sL.size) + (4 + sB.size) := by simp only [ByteArray.size_append]; first | rfl | (simp; done) | omega
        omega)
      have HTW := hid (show tabT l ((nl : Int), vs, ws, sm) = (hdT l ((nl : Int), vs, ws, sm) ++ (lvT ((nl : Int), vs, ws, sm) ++ byT l ((nl : Int), vs, ws, sm))) ++ (wT l ws nh).1 by rw [HTE.out, HWL.out]; simp only [List.append_assoc])
      clear HTE HHD HLV HBY
      go_enter Tryz.func71, Tryz.ntmps71
      have kw := keeps_refl w
      replace kw := Keeps.trans kw (keeps_alloc w (.cells #[.int .i64 (nl : Int), .slice V nv cv, .slice H nh ch, .int .i64 sm] 61))
      have b3 : Bl (w.alloc (.cells #[.int .i64 (nl : Int), .slice V nv cv, .slice H nh ch, .int .i64 sm] 61)) w.heap.size [.int .i64 (nl : Int), .slice V nv cv, .slice H nh ch, .int .i64 sm] := Bl.new' (by simp) (by simp)
      have ca1_0 := (b3.2 0 _ rfl).1
      have ca1_1 := (b3.2 1 _ rfl).1
      have ca1_2 := (b3.2 2 _ rfl).1
      have ca1_3 := (b3.2 3 _ rfl).1
      go_wp2_with fail
      clear ca1_0 ca1_1 ca1_2 ca1_3
      refine (HLC.out _ (ht.keeps kw)).mono ?_
      rintro e w2 ⟨rfl, k2⟩
      replace b3 := b3.keeps k2
      replace kw := Keeps.trans kw k2
      have lt3 := b3.lt
      have sz4 := kw.size
      clear k2
      clear HLC
      have ca5_0 := (b3.2 0 _ rfl).1
      have ca5_1 := (b3.2 1 _ rfl).1
      have ca5_2 := (b3.2 2 _ rfl).1
      have ca5_3 := (b3.2 3 _ rfl).1
      have s1 := kw.size
      have F0 : HasS w2 w2.heap.size (.slice none 0 0) ((nms l vs).take 0) := World.ownsRow_nil _ _ _ _
      go_wp2_with fail
      clear ca5_0 ca5_1 ca5_2 ca5_3
      go_loopw [6, 35] (fun pv i wr => ∃ k : Nat, k ≤ nv ∧ i = .int .i64 k ∧ HasS wr w2.heap.size pv ((nms l vs).take k) ∧ w2.heap.size ≤ wr.heap.size ∧ Bl wr w.heap.size [.int .i64 (nl : Int), .slice V nv cv, .slice H nh ch, .int .i64 sm] ∧ Keeps w wr) (fun _ i _ => nv - (intOf i).toNat)
      case atStart => exact ⟨0, Nat.zero_le _, rfl, F0, Nat.le_refl _, b3, kw⟩
      have lt3 : w.heap.size < w2.heap.size := b3.lt
      clear F0 b3 kw
      case round =>
        obtain ⟨k, hk, rfl, hown, hwv, b3, kw⟩ := hrel
        obtain ⟨wv, rfl⟩ : ∃ u : World, u = wr := ⟨_, rfl⟩
        by_cases hlt : k < nv
        · obtain ⟨b2, off2, x, rfl, _, _, hcv, hx⟩ := (hv.keeps kw).at_ hlt
          have hb := vsB_at HB.out (k := k) (by rw [HVL.out]; exact hlt)
          rw [← hx.out] at hb
          obtain ⟨j2, rfl⟩ : ∃ m : Nat, x = m := ⟨x.toNat, by omega⟩
          have hj2 : j2 < q := by have := HQL.out; omega
          have hcn2 := vname (hs.keeps kw) hj2
          have hi1 : (k : Int) < (nv : Int) := by omega
          have hi2 : (j2 : Int) < (q : Int) := by omega
          have hT := nms_take (l := l) (vs := vs) (k := k) (j := j2) (by rw [HVL.out]; exact hlt) hx.out
          have HT := hid hT
          have hkl : ((nms l vs).take k).length ≤ 67108864 := by rw [List.length_take]; omega
          clear hx hb hT
          go_wp2_with (at_builtin; refine append_str (nmT l j2) rfl hown hkl hwv _ _ rfl rfl rfl rfl ?_; intro v' w' hown' hb')
          rw [← HT.out] at hown'
          have H1 := hid hown'
          have B1 := hid (b3.fr (Fr.of_below' hb') (by omega))
          have H2 := hid (below_of kw hb' (by omega))
          have H3 := hid (Nat.le_trans hwv hb'.size)
          clear hown' hb' kw hown b3
          go_wp2
          go_roundw
          case rel => exact ⟨k + 1, hlt, by go_num, H1.out, H3.out, B1.out, H2.out⟩
          case measure => simp [intOf]; omega
        obtain rfl : nv = k := by omega
        rw [List.take_of_length_le (show (nms l vs).length ≤ nv by unfold nms; rw [List.length_map, HVL.out]; exact Nat.le_refl _)] at hown
        obtain ⟨A2, c2, rfl, hj⟩ := join_own hown hwv (by unfold nms; rw [List.length_map, HVL.out]; omega) (nms_len HS.out HB.out) (by omega)
        clear hown
        go_wp2_with fail
        refine (hj).mono ?_
        rintro e w6 ⟨rfl, k6⟩
        rw [hsBe]
        replace b3 := b3.keeps k6
        replace kw := Keeps.trans kw k6
        have lt7 := b3.lt
        have sz8 := kw.size
        clear k6
        clear hj
        have HSB := hid hsBe
        clear hsBe
        have ca9_0 := (b3.2 0 _ rfl).1
        have ca9_1 := (b3.2 1 _ rfl).1
        have ca9_2 := (b3.2 2 _ rfl).1
        have ca9_3 := (b3.2 3 _ rfl).1
        go_wp2_with fail
        clear ca9_0 ca9_1 ca9_2 ca9_3
        clear hzb hzc hzd hze hsB hsL HVN
        obtain ⟨base, hbase⟩ : ∃ z, hdT l ((nl : Int), vs, ws, sm) ++ (lvT ((nl : Int), vs, ws, sm) ++ byT l ((nl : Int), vs, ws, sm)) = z := ⟨_, rfl⟩
        rw [hbase] at HBA HTW
        clear hbase
        obtain ⟨s0, hs0'⟩ : ∃ z, ((({ data := #[99, 111, 117, 110, 116] } : ByteArray) ++ (({ data := #[32, 108, 101, 118, 101, 108, 32] } : ByteArray) ++ sL)) ++ (({ data := #[32, 98, 121, 32] } : ByteArray) ++ sB)) = z := ⟨_, rfl⟩
        rw [hs0'] at HBA HZ2
        have HS0 := hid hs0'
        clear hs0'
        go_loopw [5, 9, 56] (fun sv uv i wr => ∃ (k : Nat) (s u : ByteArray), sv = .string s ∧ uv = .string u ∧ i = .int .i64 k ∧ k ≤ nh ∧ Hid (s = bs (base ++ (wT l ws k).1)) ∧ Hid (u = bs (if (wT l ws k).2 = true then [32] else [32, 119, 104, 101, 114, 101, 32])) ∧ s.size ≤ 130 + 40 * k ∧ Keeps w wr) (fun _ _ i _ => nh - (intOf i).toNat)
        case atStart => exact ⟨0, _, _, rfl, rfl, rfl, Nat.zero_le _, hid (by rw [HS0.out, HBA.out]; simp [wT]), hid rfl, by rw [HS0.out]; have := HZ2.out; omega, kw⟩
        clear kw b3
        case round =>
          obtain ⟨k, s, u, rfl, rfl, rfl, hk, HE, HU, hsz, kw⟩ := hrel
          by_cases hlt : k < nh
          rotate_left
          · obtain rfl : k = nh := by omega
            have HX := hid (show s = bs (tabT l ((nl : Int), vs, ws, sm)) by rw [HE.out, HTW.out])
            go_wp2
            go_ret
            exact ⟨ret_str HX.out, kw⟩
          obtain ⟨b2, off2, x, rfl, _, _, hcw, hx⟩ := (hw.keeps kw).at_ hlt
          have hb := HWB.out k hlt
          rw [← hx.out] at hb
          have hi1 : (k : Int) < (nh : Int) := by omega
          have hkq : k < q := by have := HNW.out; omega
          have hi2 : (k : Int) < (q : Int) := by omega
          have hnh : nh ≤ 6 := by have := HNW.out; have := HQL.out; omega
          by_cases hx0 : x = 0
          · subst hx0
            have HN := hid (wT_no (l := l) (k := k) hx.out.symm)
            clear hx hb
            go_wp2_with fail
            go_roundw
            case rel => exact ⟨k + 1, s, u, rfl, rfl, by go_num, hlt, hid (by rw [HN.out]; exact HE.out), hid (by rw [HN.out]; exact HU.out), by omega, kw⟩
            case measure => simp [intOf]; omega
          have t1 : (x != 0) = true := by simp [hx0]
          have HN := hid (wT_yes (l := l) (ws := ws) (k := k) (by rw [← hx.out]; exact hx0))
          rw [← hx.out] at HN
          have hcn2 := vname (hs.keeps kw) hkq
          have hs2 := nmT_len HS.out (show k < l.length by rw [HQL.out]; exact hkq)
          rw [← bs_size] at hs2
          have hs3 := setT_len x
          rw [← bs_size] at hs3
          have HUS := hid (show u.size ≤ 7 by rw [HU.out, bs_size]; split <;> simp)
          have hs4 := HUS.out
          have HR := hid (show s ++ (((u ++ bs (nmT l k)) ++ ({ data := #[61] } : ByteArray)) ++ bs (setT x)) = bs (base ++ (wT l ws (k + 1)).1) by
            rw [HE.out, HU.out, HN.out, show ({ data := #[61] } : ByteArray) = bs [61] from rfl, bs_app, bs_app, bs_app, bs_app]
            cases (wT l ws k).2 <;> simp)
          have HN2 := hid (show (wT l ws (k + 1)).2 = true by rw [HN.out])
          have HSE := hid (fun (W0 W : World) (_ : Keeps W0 W) => setText_any (s := x) (w := W) hb)
          obtain ⟨sN, hsN⟩ : ∃ z, bs (nmT l k) = z := ⟨_, rfl⟩
          obtain ⟨sT, hsT⟩ : ∃ z, bs (setT x) = z := ⟨_, rfl⟩
          rw [hsN] at hcn2 hs2 HR
          rw [hsT] at hs3 HR HSE
          have hzf : ¬ (9223372036854775807 < u.size + sN.size) := by omega
          have hzg : ¬ (9223372036854775807 < u.size + sN.size + 1) := by omega
          have hzh : ¬ (9223372036854775807 < u.size + sN.size + 1 + sT.size) := by omega
          have hzi : ¬ (9223372036854775807 < s.size + (u.size + sN.size + 1 + sT.size)) := by omega
          have HRS := hid (show (s ++ (((u ++ sN) ++ ({ data := #[61] } : ByteArray)) ++ sT)).size ≤ 130 + 40 * (k + 1) by
            have h1 := wT_len (ws := ws) HS.out (k + 1) (by rw [HQL.out]; omega)
            have h2 := congrArg ByteArray.size HBA.out
            rw [bs_size] at h2
            rw [HR.out, bs_size, List.length_append]
            have := HZ2.out
            omega)
          clear hsN hsT hx hx0 hs2 hs3 hs4 hsz HN HU
          have r_hcn2 := fun d os => cell_regrown hcn2 d os
          have cQ0 := hid (fun (dQ : Nat) (oQ : Array Obj) => HSE.out _ _ (below_regrown wr dQ oQ))
          go_wp2_with fail
          refine wp_region_quiet_below (by kernel_rfl) (by kernel_rfl) ?_
          iterate 14 (go_big_quiet_step ((first | with_reducible exact Calls.regrown_of (cQ0.out _ _))))
          refine wpQuiet_nil ?_
          intro _ hw'
          obtain ⟨⟨dq, osq⟩, hw''⟩ := hw'
          subst hw''
          clear r_hcn2 cQ0
          have kQ := below_regrown wr dq osq
          obtain ⟨wQ10, hwQ⟩ : ∃ u, u = grow (redrawn wr dq) osq := ⟨_, rfl⟩
          rw [← hwQ] at kQ
          rw [← hwQ]
          clear hwQ
          replace kw := Keeps.trans kw kQ
          have sz11 := kw.size
          clear kQ
          clear HSE hzf hzg hzh hzi hcn2 hcw
          go_wp2_with fail
          go_roundw
          case rel => exact ⟨k + 1, _, _, rfl, rfl, by go_num, hlt, HR, hid (by rw [HN2.out]; rfl), HRS.out, kw⟩
          case measure => simp [intOf]; omega
    · have HBY := hid (show byT l ((nl : Int), vs, ws, sm) = [] from if_pos (show vs.length = 0 by rw [HVL.out]; omega))
      have hv1 : ¬ ((nv : Int) > 0) := by omega
      have HBA := hid (show (({ data := #[99, 111, 117, 110, 116] } : ByteArray) ++ (({ data := #[32, 108, 101, 118, 101, 108, 32] } : ByteArray) ++ sL)) = bs (hdT l ((nl : Int), vs, ws, sm) ++ (lvT ((nl : Int), vs, ws, sm) ++ byT l ((nl : Int), vs, ws, sm))) by
        rw [HHD.out, HLV.out, HBY.out, ← HLE.out, show ({ data := #[32, 108, 101, 118, 101, 108, 32] } : ByteArray) = bs [32, 108, 101, 118, 101, 108, 32] from rfl, bs_app, bs_app]
        simp only [List.append_nil])
      have HZ2 := hid (show (({ data := #[99, 111, 117, 110, 116] } : ByteArray) ++ (({ data := #[32, 108, 101, 118, 101, 108, 32] } : ByteArray) ++ sL)).size ≤ 130 by
        have e : (({ data := #[99, 111, 117, 110, 116] } : ByteArray) ++ (({ data := #[32, 108, 101, 118, 101, 108, 32] } : ByteArray) ++ sL)).size = 5 + (7 + sL.size) := by simp only [ByteArray.size_append]; first | rfl | (simp; done) | omega
        omega)
      have HTW := hid (show tabT l ((nl : Int), vs, ws, sm) = (hdT l ((nl : Int), vs, ws, sm) ++ (lvT ((nl : Int), vs, ws, sm) ++ byT l ((nl : Int), vs, ws, sm))) ++ (wT l ws nh).1 by rw [HTE.out, HWL.out]; simp only [List.append_assoc])
      clear HTE HHD HLV HBY
      go_enter Tryz.func71, Tryz.ntmps71
      have kw := keeps_refl w
      replace kw := Keeps.trans kw (keeps_alloc w (.cells #[.int .i64 (nl : Int), .slice V nv cv, .slice H nh ch, .int .i64 sm] 61))
      have b3 : Bl (w.alloc (.cells #[.int .i64 (nl : Int), .slice V nv cv, .slice H nh ch, .int .i64 sm] 61)) w.heap.size [.int .i64 (nl : Int), .slice V nv cv, .slice H nh ch, .int .i64 sm] := Bl.new' (by simp) (by simp)
      have ca1_0 := (b3.2 0 _ rfl).1
      have ca1_1 := (b3.2 1 _ rfl).1
      have ca1_2 := (b3.2 2 _ rfl).1
      have ca1_3 := (b3.2 3 _ rfl).1
      go_wp2_with fail
      clear ca1_0 ca1_1 ca1_2 ca1_3
      refine (HLC.out _ (ht.keeps kw)).mono ?_
      rintro e w2 ⟨rfl, k2⟩
      replace b3 := b3.keeps k2
      replace kw := Keeps.trans kw k2
      have lt3 := b3.lt
      have sz4 := kw.size
      clear k2
      clear HLC
      have ca5_0 := (b3.2 0 _ rfl).1
      have ca5_1 := (b3.2 1 _ rfl).1
      have ca5_2 := (b3.2 2 _ rfl).1
      have ca5_3 := (b3.2 3 _ rfl).1
      go_wp2_with fail
      clear ca5_0 ca5_1 ca5_2 ca5_3
      clear hzb hzc hsL HVN
      obtain ⟨base, hbase⟩ : ∃ z, hdT l ((nl : Int), vs, ws, sm) ++ (lvT ((nl : Int), vs, ws, sm) ++ byT l ((nl : Int), vs, ws, sm)) = z := ⟨_, rfl⟩
      rw [hbase] at HBA HTW
      clear hbase
      obtain ⟨s0, hs0'⟩ : ∃ z, (({ data := #[99, 111, 117, 110, 116] } : ByteArray) ++ (({ data := #[32, 108, 101, 118, 101, 108, 32] } : ByteArray) ++ sL)) = z := ⟨_, rfl⟩
      rw [hs0'] at HBA HZ2
      have HS0 := hid hs0'
      clear hs0'
      go_loopw [5, 9, 56] (fun sv uv i wr => ∃ (k : Nat) (s u : ByteArray), sv = .string s ∧ uv = .string u ∧ i = .int .i64 k ∧ k ≤ nh ∧ Hid (s = bs (base ++ (wT l ws k).1)) ∧ Hid (u = bs (if (wT l ws k).2 = true then [32] else [32, 119, 104, 101, 114, 101, 32])) ∧ s.size ≤ 130 + 40 * k ∧ Keeps w wr) (fun _ _ i _ => nh - (intOf i).toNat)
      case atStart => exact ⟨0, _, _, rfl, rfl, rfl, Nat.zero_le _, hid (by rw [HS0.out, HBA.out]; simp [wT]), hid rfl, by rw [HS0.out]; have := HZ2.out; omega, kw⟩
      clear kw b3
      case round =>
        obtain ⟨k, s, u, rfl, rfl, rfl, hk, HE, HU, hsz, kw⟩ := hrel
        by_cases hlt : k < nh
        rotate_left
        · obtain rfl : k = nh := by omega
          have HX := hid (show s = bs (tabT l ((nl : Int), vs, ws, sm)) by rw [HE.out, HTW.out])
          go_wp2
          go_ret
          exact ⟨ret_str HX.out, kw⟩
        obtain ⟨b2, off2, x, rfl, _, _, hcw, hx⟩ := (hw.keeps kw).at_ hlt
        have hb := HWB.out k hlt
        rw [← hx.out] at hb
        have hi1 : (k : Int) < (nh : Int) := by omega
        have hkq : k < q := by have := HNW.out; omega
        have hi2 : (k : Int) < (q : Int) := by omega
        have hnh : nh ≤ 6 := by have := HNW.out; have := HQL.out; omega
        by_cases hx0 : x = 0
        · subst hx0
          have HN := hid (wT_no (l := l) (k := k) hx.out.symm)
          clear hx hb
          go_wp2_with fail
          go_roundw
          case rel => exact ⟨k + 1, s, u, rfl, rfl, by go_num, hlt, hid (by rw [HN.out]; exact HE.out), hid (by rw [HN.out]; exact HU.out), by omega, kw⟩
          case measure => simp [intOf]; omega
        have t1 : (x != 0) = true := by simp [hx0]
        have HN := hid (wT_yes (l := l) (ws := ws) (k := k) (by rw [← hx.out]; exact hx0))
        rw [← hx.out] at HN
        have hcn2 := vname (hs.keeps kw) hkq
        have hs2 := nmT_len HS.out (show k < l.length by rw [HQL.out]; exact hkq)
        rw [← bs_size] at hs2
        have hs3 := setT_len x
        rw [← bs_size] at hs3
        have HUS := hid (show u.size ≤ 7 by rw [HU.out, bs_size]; split <;> simp)
        have hs4 := HUS.out
        have HR := hid (show s ++ (((u ++ bs (nmT l k)) ++ ({ data := #[61] } : ByteArray)) ++ bs (setT x)) = bs (base ++ (wT l ws (k + 1)).1) by
          rw [HE.out, HU.out, HN.out, show ({ data := #[61] } : ByteArray) = bs [61] from rfl, bs_app, bs_app, bs_app, bs_app]
          cases (wT l ws k).2 <;> simp)
        have HN2 := hid (show (wT l ws (k + 1)).2 = true by rw [HN.out])
        have HSE := hid (fun (W0 W : World) (_ : Keeps W0 W) => setText_any (s := x) (w := W) hb)
        obtain ⟨sN, hsN⟩ : ∃ z, bs (nmT l k) = z := ⟨_, rfl⟩
        obtain ⟨sT, hsT⟩ : ∃ z, bs (setT x) = z := ⟨_, rfl⟩
        rw [hsN] at hcn2 hs2 HR
        rw [hsT] at hs3 HR HSE
        have hzf : ¬ (9223372036854775807 < u.size + sN.size) := by omega
        have hzg : ¬ (9223372036854775807 < u.size + sN.size + 1) := by omega
        have hzh : ¬ (9223372036854775807 < u.size + sN.size + 1 + sT.size) := by omega
        have hzi : ¬ (9223372036854775807 < s.size + (u.size + sN.size + 1 + sT.size)) := by omega
        have HRS := hid (show (s ++ (((u ++ sN) ++ ({ data := #[61] } : ByteArray)) ++ sT)).size ≤ 130 + 40 * (k + 1) by
          have h1 := wT_len (ws := ws) HS.out (k + 1) (by rw [HQL.out]; omega)
          have h2 := congrArg ByteArray.size HBA.out
          rw [bs_size] at h2
          rw [HR.out, bs_size, List.length_append]
          have := HZ2.out
          omega)
        clear hsN hsT hx hx0 hs2 hs3 hs4 hsz HN HU
        have r_hcn2 := fun d os => cell_regrown hcn2 d os
        have cQ0 := hid (fun (dQ : Nat) (oQ : Array Obj) => HSE.out _ _ (below_regrown wr dQ oQ))
        go_wp2_with fail
        refine wp_region_quiet_below (by kernel_rfl) (by kernel_rfl) ?_
        iterate 14 (go_big_quiet_step ((first | with_reducible exact Calls.regrown_of (cQ0.out _ _))))
        refine wpQuiet_nil ?_
        intro _ hw'
        obtain ⟨⟨dq, osq⟩, hw''⟩ := hw'
        subst hw''
        clear r_hcn2 cQ0
        have kQ := below_regrown wr dq osq
        obtain ⟨wQ6, hwQ⟩ : ∃ u, u = grow (redrawn wr dq) osq := ⟨_, rfl⟩
        rw [← hwQ] at kQ
        rw [← hwQ]
        clear hwQ
        replace kw := Keeps.trans kw kQ
        have sz7 := kw.size
        clear kQ
        clear HSE hzf hzg hzh hzi hcn2 hcw
        go_wp2_with fail
        go_roundw
        case rel => exact ⟨k + 1, _, _, rfl, rfl, by go_num, hlt, HR, hid (by rw [HN2.out]; rfl), HRS.out, kw⟩
        case measure => simp [intOf]; omega
end Go.Proofs.YtlkjhkkfdmjfcaaGreatDoor
namespace Go.Proofs.YtlkjhkkfdmjfcaaGreatDoor
open Go.RowKit Go.Sort
set_option linter.unusedVariables false
set_option linter.unusedSimpArgs false
set_option maxRecDepth 100000 in
set_option maxHeartbeats 6400000 in
theorem planText_any {A' Q : Option Addr} {lo hi q c lo2 hi2 m cm : Nat} {un : Bool} {ps : List Int} {l : List VV} {ts : List TT} {w : World} (hs : Vars w lo hi A' q l) (htt : Tabs true un w lo2 hi2 Q m ts) (hg : geoB ps = true) (hS : schB l = true) (hP : plB ps l ts = true) (ht : Tab10 w) :
    Calls Tryz.prog 40 #[.slice A' q c, .slice Q m cm] w fun e w' => e = .returned (.string (bs (planTo l ts m))) ∧ Keeps w w' := by
  have hm := htt.le
  have HTL := hid htt.len
  have HG := hid hg
  have HS := hid hS
  have HP := hid hP
  have HB := hid (plB_at hP)
  clear hg hS hP
  go_enter Tryz.func40, Tryz.ntmps40
  have kw := keeps_refl w
  go_wp2_with fail
  go_loopw [5, 10] (fun sv i wr => ∃ (k : Nat) (s : ByteArray), sv = .string s ∧ i = .int .i64 k ∧ k ≤ m ∧ Hid (s = bs (planTo l ts k)) ∧ Keeps w wr) (fun _ i _ => m - (intOf i).toNat)
  case atStart => exact ⟨0, _, rfl, rfl, Nat.zero_le _, hid rfl, kw⟩
  clear kw
  case round =>
    obtain ⟨k, s, rfl, rfl, hk, HE, kw⟩ := hrel
    by_cases hlt : k < m
    rotate_left
    · obtain rfl : m = k := by omega
      go_wp2
      go_ret
      exact ⟨ret_str HE.out, kw⟩
    obtain ⟨b, off, lv, V, nv, cv, H, nh, ch, sm, vs, ws, rfl, _, _, hc0, hc1, hc2, hc3, hv, hh, hx⟩ := (htt.keeps kw).at_ hlt
    have htb := HB.out.2 k (by rw [HTL.out]; exact hlt)
    rw [← hx.out] at htb
    have HTB := hid htb
    have hi1 : (k : Int) < (m : Int) := by omega
    have hsz := planTo_len HG.out HS.out HP.out k (by rw [HTL.out]; omega)
    rw [← bs_size, ← HE.out] at hsz
    have hm20 := HB.out.1
    rw [HTL.out] at hm20
    have hs2 := tabT_len HG.out HS.out htb
    rw [← bs_size] at hs2
    have HR := hid (show s ++ (bs (tabT l (lv, vs, ws, sm)) ++ ({ data := #[10] } : ByteArray)) = bs (planTo l ts (k + 1)) by
      rw [HE.out, show ({ data := #[10] } : ByteArray) = bs [10] from rfl, bs_app, bs_app, hx.out]; rfl)
    obtain ⟨sT, hsT⟩ : ∃ z, bs (tabT l (lv, vs, ws, sm)) = z := ⟨_, rfl⟩
    rw [hsT] at hs2 HR
    have HST := hid hsT
    have hz1 : ¬ (9223372036854775807 < sT.size + 1) := by omega
    have hz2 : ¬ (9223372036854775807 < s.size + (sT.size + 1)) := by omega
    clear hsT hx htb hsz hs2 hm20
    replace hv := hv.keeps (keeps_alloc wr (.cells #[.int .i64 lv, .slice V nv cv, .slice H nh ch, .int .i64 sm] 61))
    replace hh := hh.keeps (keeps_alloc wr (.cells #[.int .i64 lv, .slice V nv cv, .slice H nh ch, .int .i64 sm] 61))
    replace kw := Keeps.trans kw (keeps_alloc wr (.cells #[.int .i64 lv, .slice V nv cv, .slice H nh ch, .int .i64 sm] 61))
    have b7 : Bl (wr.alloc (.cells #[.int .i64 lv, .slice V nv cv, .slice H nh ch, .int .i64 sm] 61)) wr.heap.size [.int .i64 lv, .slice V nv cv, .slice H nh ch, .int .i64 sm] := Bl.new' (by simp) (by simp)
    have ca1_0 := (b7.2 0 _ rfl).1
    have ca1_1 := (b7.2 1 _ rfl).1
    have ca1_2 := (b7.2 2 _ rfl).1
    have ca1_3 := (b7.2 3 _ rfl).1
    go_wp2_with fail
    clear ca1_0 ca1_1 ca1_2 ca1_3
    refine (tableText_any (hs.keeps kw) hv hh HG.out HS.out HTB.out (ht.keeps kw)).mono ?_
    rintro e w2 ⟨rfl, k2⟩
    rw [HST.out]
    replace b7 := b7.keeps k2
    replace hv := hv.keeps k2
    replace hh := hh.keeps k2
    replace kw := Keeps.trans kw k2
    have lt3 := b7.lt
    have sz4 := kw.size
    clear k2
    clear b7 hv hh hc0 hc1 hc2 hc3
    go_wp2_with fail
    go_roundw
    case rel => exact ⟨k + 1, _, rfl, by go_num, hlt, HR, kw⟩
    case measure => simp [intOf]; omega
set_option maxRecDepth 100000 in
set_option maxHeartbeats 6400000 in
theorem PlanText_yes {A A' Q : Option Addr} {lo hi a c0 q c lo2 hi2 m cm : Nat} {un : Bool} {ps : List Int} {l : List VV} {ts : List TT} {w : World} (h : Ints w lo hi A a ps) (h' : Sch w A' q c l) (htt : Tabs true un w lo2 hi2 Q m ts) (hg : geoB ps = true) (hS : schB l = true) (hP : plB ps l ts = true) :
    Calls Tryz.prog 30 #[.agg #[.slice A a c0], .slice A' q c, .slice Q m cm] w fun e w' => e = .returned (.tuple #[.string (bs (planTo l ts m)), .bool true]) ∧ Keeps w w' := by
  have hm := htt.le
  have HTL := hid htt.len
  have HG := hid hg
  have HS := hid hS
  have HP := hid hP
  have HB := hid (plB_at hP)
  clear hg hS hP
  obtain ⟨lo9, hi9, hs⟩ := h'.v
  go_enter Tryz.func30, Tryz.ntmps30
  have kw := keeps_refl w
  replace kw := Keeps.trans kw (keeps_alloc w (.cells #[.slice A a c0] 32))
  have b3 : B1 (w.alloc (.cells #[.slice A a c0] 32)) w.heap.size (.slice A a c0) := B1.new' (by simp)
  obtain ⟨ca1, fa1⟩ := id b3
  go_wp2_with fail
  clear ca1 fa1
  refine (nPlan_any (h.keeps kw) (h'.keeps kw) (htt.keeps kw) HG.out HS.out).mono ?_
  rintro e w2 ⟨rfl, k2⟩
  rw [HP.out]
  replace b3 := b3.keeps k2
  replace kw := Keeps.trans kw k2
  have lt3 := b3.lt
  have sz4 := kw.size
  clear k2
  clear b3
  go_wp2_with fail
  go_loopw [8, 18] (fun sv i wr => ∃ (k : Nat) (s : ByteArray), sv = .string s ∧ i = .int .i64 k ∧ k ≤ m ∧ Hid (s = bs (planTo l ts k)) ∧ Keeps w wr) (fun _ i _ => m - (intOf i).toNat)
  case atStart => exact ⟨0, _, rfl, rfl, Nat.zero_le _, hid rfl, kw⟩
  clear kw
  case round =>
    obtain ⟨k, s, rfl, rfl, hk, HE, kw⟩ := hrel
    by_cases hlt : k < m
    rotate_left
    · obtain rfl : m = k := by omega
      go_wp2
      go_ret2
      exact ⟨ret_sb HE.out, kw⟩
    obtain ⟨b, off, lv, V, nv, cv, H, nh, ch, sm, vs, ws, rfl, _, _, hc0, hc1, hc2, hc3, hv, hh, hx⟩ := (htt.keeps kw).at_ hlt
    have htb := HB.out.2 k (by rw [HTL.out]; exact hlt)
    rw [← hx.out] at htb
    have HTB := hid htb
    have hi1 : (k : Int) < (m : Int) := by omega
    have hsz := planTo_len HG.out HS.out HP.out k (by rw [HTL.out]; omega)
    rw [← bs_size, ← HE.out] at hsz
    have hm20 := HB.out.1
    rw [HTL.out] at hm20
    have hs2 := tabT_len HG.out HS.out htb
    rw [← bs_size] at hs2
    have HR := hid (show s ++ (bs (tabT l (lv, vs, ws, sm)) ++ ({ data := #[10] } : ByteArray)) = bs (planTo l ts (k + 1)) by
      rw [HE.out, show ({ data := #[10] } : ByteArray) = bs [10] from rfl, bs_app, bs_app, hx.out]; rfl)
    obtain ⟨sT, hsT⟩ : ∃ z, bs (tabT l (lv, vs, ws, sm)) = z := ⟨_, rfl⟩
    rw [hsT] at hs2 HR
    have HST := hid hsT
    have hz1 : ¬ (9223372036854775807 < sT.size + 1) := by omega
    have hz2 : ¬ (9223372036854775807 < s.size + (sT.size + 1)) := by omega
    clear hsT hx htb hsz hs2 hm20
    replace hv := hv.keeps (keeps_alloc wr (.cells #[.int .i64 lv, .slice V nv cv, .slice H nh ch, .int .i64 sm] 61))
    replace hh := hh.keeps (keeps_alloc wr (.cells #[.int .i64 lv, .slice V nv cv, .slice H nh ch, .int .i64 sm] 61))
    replace kw := Keeps.trans kw (keeps_alloc wr (.cells #[.int .i64 lv, .slice V nv cv, .slice H nh ch, .int .i64 sm] 61))
    have b7 : Bl (wr.alloc (.cells #[.int .i64 lv, .slice V nv cv, .slice H nh ch, .int .i64 sm] 61)) wr.heap.size [.int .i64 lv, .slice V nv cv, .slice H nh ch, .int .i64 sm] := Bl.new' (by simp) (by simp)
    have ca5_0 := (b7.2 0 _ rfl).1
    have ca5_1 := (b7.2 1 _ rfl).1
    have ca5_2 := (b7.2 2 _ rfl).1
    have ca5_3 := (b7.2 3 _ rfl).1
    go_wp2_with fail
    clear ca5_0 ca5_1 ca5_2 ca5_3
    refine (nTable_any (hs.keeps kw) hv hh HG.out HS.out HTB.out).mono ?_
    rintro e w6 ⟨rfl, k6⟩
    rw [HST.out]
    replace b7 := b7.keeps k6
    replace hv := hv.keeps k6
    replace hh := hh.keeps k6
    replace kw := Keeps.trans kw k6
    have lt7 := b7.lt
    have sz8 := kw.size
    clear k6
    clear b7 hv hh hc0 hc1 hc2 hc3
    go_wp2_with fail
    go_roundw
    case rel => exact ⟨k + 1, _, rfl, by go_num, hlt, HR, kw⟩
    case measure => simp [intOf]; omega
end Go.Proofs.YtlkjhkkfdmjfcaaGreatDoor
namespace Go.Proofs.YtlkjhkkfdmjfcaaGreatDoor
open Go.RowKit Go.Sort
set_option linter.unusedVariables false
set_option linter.unusedSimpArgs false
/-- What was written is there still, where the world has gone on above. -/
theorem isb_keeps {T e B b : Nat} {vs : List Value} {w w' : World} (h : Lib.IsBuilderF T e B b vs w) (k : Keeps w w') : Lib.IsBuilderF T e B b vs w' := by
  have key : ∀ p, Lib.BuilderAtF T e B b p vs w → Lib.BuilderAtF T e B b p vs w' := fun p hh => by
    obtain ⟨hB, v, hb, ho, hne⟩ := hh
    have lt : ∀ g o, w.heap[g]? = some o → w'.heap[g]? = some o := fun g o hg => by
      rw [k.block g (Array.getElem?_eq_some_iff.1 hg).1]; exact hg
    refine ⟨hB, v, lt _ _ hb, ⟨ho.1, ?_⟩, hne⟩
    rcases ho.2 with h3 | ⟨g, cap, cur, fz, hv, hb2, hg, rest⟩
    · exact .inl h3
    · exact .inr ⟨g, cap, cur, fz, hv, hb2, lt _ _ hg, rest⟩
  rcases h with h | h
  · exact .inl (key _ h)
  · exact .inr (key _ h)
theorem strCells_bs (d : List UInt8) : Lib.strCells (bs d) = Lib.byteCells d := by simp [Lib.strCells, Lib.byteCells, bs]
theorem byteCells_app (a b : List UInt8) : Lib.byteCells a ++ Lib.byteCells b = Lib.byteCells (a ++ b) := by simp [Lib.byteCells]
/-- A text of a release, piece by piece. -/
theorem relT_bs {l : List VV} {v a b c d : Int} {pl : List TT} {m : Nat} (hm : pl.length = m) :
    ((((((({ data := #[118, 101, 114, 115, 105, 111, 110, 32] } : ByteArray) ++ bs (Lib.itoa v)) ++ ({ data := #[32] } : ByteArray)) ++ bs (fracT a b)) ++ ({ data := #[32] } : ByteArray)) ++ bs (fracT c d)) ++ ({ data := #[10] } : ByteArray)) ++ bs (planTo l pl m) = bs (relT l (v, pl, a, b, c, d)) := by
  subst hm
  rw [show ({ data := #[118, 101, 114, 115, 105, 111, 110, 32] } : ByteArray) = bs [118, 101, 114, 115, 105, 111, 110, 32] from rfl, show ({ data := #[32] } : ByteArray) = bs [32] from rfl, show ({ data := #[10] } : ByteArray) = bs [10] from rfl]
  simp only [bs_app, relT, List.append_assoc]
theorem obj_cell {w : World} {g i : Nat} {vs : Array Value} {T : TypeId} {fz : Nat × Nat} {v : Value} (h : w.heap[g]? = some (.cells vs T fz)) (hv : vs[i]? = some v) : w.cell? ⟨g, i, none⟩ = some v := by
  simp [World.cell?, h, hv]
set_option maxRecDepth 100000 in
set_option maxHeartbeats 12800000 in
theorem specHistoryText_any {A A' R : Option Addr} {lo hi a c0 lo3 hi3 n q cq cr : Nat} {un : Bool} {ps : List Int} {l : List VV} {rs : List RL} {w : World} (h : Ints w lo hi A a ps) (h' : Sch w A' q cq l) (hr : Rels true un w lo3 hi3 R n rs) :
    Calls Tryz.prog 8 #[.agg #[.slice A a c0], .slice A' q cq, .slice R n cr] w fun e w' => e = .returned (.tuple #[.string (htQ ps l rs).1, .bool (htQ ps l rs).2]) ∧ Keeps w w' := by
  have hn := hr.le
  have HRL := hid hr.len
  obtain ⟨z0, z1, HZ⟩ : ∃ z0 z1, Hid (htQ ps l rs = (z0, z1)) := ⟨_, _, rfl⟩
  rw [HZ.out]
  obtain ⟨lo9, hi9, hs⟩ := h'.v
  go_enter Tryz.func8, Tryz.ntmps8
  have kw := keeps_refl w
  replace kw := Keeps.trans kw (keeps_alloc w (.cells #[.slice A a c0] 32))
  have b3 : B1 (w.alloc (.cells #[.slice A a c0] 32)) w.heap.size (.slice A a c0) := B1.new' (by simp)
  obtain ⟨ca1, fa1⟩ := id b3
  go_wp2_with fail
  clear ca1 fa1
  obtain ⟨pH1, H1⟩ : ∃ pB, Hid (hisB ps l rs = pB) := ⟨_, rfl⟩
  refine (rlHistory_any (h.keeps kw) (h'.keeps kw) (hr.keeps kw)).mono ?_
  rintro e w2 ⟨rfl, k2⟩
  rw [H1.out]
  replace b3 := b3.keeps k2
  replace kw := Keeps.trans kw k2
  have lt3 := b3.lt
  have sz4 := kw.size
  clear k2
  cases pH1
  · have HX := hid (HZ.out.symm.trans (htQ_no H1.out))
    obtain ⟨ca5, fa5⟩ := id b3
    go_wp2_with fail
    clear ca5 fa5
    go_ret2
    obtain ⟨e0, e1⟩ : z0 = bs [] ∧ z1 = false := by have := HX.out; injection this with a b; exact ⟨a, b⟩
    subst e0 e1
    exact ⟨rfl, kw⟩
  · skip
    have hp := hisB_parts H1.out
    have HG := hid hp.1
    have HS := hid hp.2.1
    have hn12 := hp.2.2.1
    rw [HRL.out] at hn12
    have HRB := hid (fun k (hk : k < n) => hp.2.2.2 k (by rw [HRL.out]; exact hk))
    obtain ⟨e0, e1⟩ : z0 = bs (hisT l rs rs.length) ∧ z1 = true := by have := HZ.out.symm.trans (htQ_yes H1.out); injection this with a b; exact ⟨a, b⟩
    subst e1
    have HE0 := hid e0
    rw [HRL.out] at HE0
    clear hp e0 HZ
    go_wp2_with fail
    go_loopw [8, 20] (fun sv i wr => ∃ (k : Nat) (s : ByteArray), sv = .string s ∧ i = .int .i64 k ∧ k ≤ n ∧ Hid (s = bs (hisT l rs k)) ∧ B1 wr w.heap.size (.slice A a c0) ∧ Keeps w wr) (fun _ i _ => n - (intOf i).toNat)
    case atStart => exact ⟨0, _, rfl, rfl, Nat.zero_le _, hid rfl, b3, kw⟩
    clear b3 kw
    case round =>
      obtain ⟨k, s, rfl, rfl, hk, HE, b3, kw⟩ := hrel
      by_cases hlt : k < n
      rotate_left
      · obtain rfl : n = k := by omega
        go_wp2
        go_ret2
        exact ⟨ret_sb (HE.out.trans HE0.out.symm), kw⟩
      obtain ⟨b, off, v, P, np, cp, x1, x2, x3, x4, pl, rfl, _, _, hc0, hc1, hc2, hc3, hc4, hc5, hpl, hx⟩ := (hr.keeps kw).at_ hlt
      have hrb := (HRB.out k hlt).2
      rw [← hx.out] at hrb
      have hi1 : (k : Int) < (n : Int) := by omega
      have HPL := hid hpl.len
      have hrl := relT_len HG.out HS.out hrb
      have hsz := hisT_len H1.out k (by rw [HRL.out]; omega)
      have HRR := hid (relT_bs (l := l) (v := v) (a := x1) (b := x2) (c := x3) (d := x4) HPL.out)
      have hrb2 := hrb
      unfold relB at hrb2
      simp only [Bool.and_eq_true] at hrb2
      have hvb := inB_true.1 hrb2.1.1
      have HPB := hid (show plB ps l pl = true from hrb2.1.2)
      have hls := hrb2.2
      unfold lossB at hls
      simp only [Bool.and_eq_true] at hls
      have HF1 := hid (show fracB x1 x2 = true from hls.1.1)
      have HF2 := hid (show fracB x3 x4 = true from hls.1.2)
      have hvb2 : 1 ≤ v ∧ v ≤ 999 := hvb
      have HXR := hid hx.out
      have hl1 := Lib.itoa_length_le v (by omega) (by omega)
      rw [← bs_size] at hl1
      have hl2 : (bs (fracT x1 x2)).size ≤ 43 := by rw [bs_size]; have := frac_n HF1.out; exact fracT_len (by omega) (by omega)
      have hl3 : (bs (fracT x3 x4)).size ≤ 43 := by rw [bs_size]; have := frac_n HF2.out; exact fracT_len (by omega) (by omega)
      have hl4 := planTo_len HG.out HS.out HPB.out np (by rw [HPL.out]; exact Nat.le_refl _)
      rw [← bs_size] at hl4
      have hnp : np ≤ 20 := by have := (plB_at HPB.out).1; rw [HPL.out] at this; exact this
      clear hrb hrb2 hls hvb hx
      rw [← bs_size, ← HE.out] at hsz
      obtain ⟨vn, rfl⟩ : ∃ m : Nat, v = m := ⟨v.toNat, by omega⟩
      have HC1 := hid (fun (W0 W : World) (_ : Keeps W0 W) => l1Num_any vn (by omega) W)
      rw [itoa_nat] at hl1 HRR
      have HC2 := hid (fun (W0 W : World) (_ : Keeps W0 W) => fText_any (w := W) HF1.out)
      have HC3 := hid (fun (W0 W : World) (_ : Keeps W0 W) => fText_any (w := W) HF2.out)
      obtain ⟨sV, hsV⟩ : ∃ z, bs (Lib.decDigits vn) = z := ⟨_, rfl⟩
      obtain ⟨sA, hsA⟩ : ∃ z, bs (fracT x1 x2) = z := ⟨_, rfl⟩
      obtain ⟨sC, hsC⟩ : ∃ z, bs (fracT x3 x4) = z := ⟨_, rfl⟩
      obtain ⟨sP, hsP⟩ : ∃ z, bs (planTo l pl np) = z := ⟨_, rfl⟩
      rw [hsV] at hl1 HC1 HRR
      rw [hsA] at hl2 HC2 HRR
      rw [hsC] at hl3 HC3 HRR
      rw [hsP] at hl4 HRR
      have HSP := hid hsP
      clear hsV hsA hsC hsP
      have hz0 : ¬ (9223372036854775807 < 8 + sV.size) := by omega
      have hz1 : ¬ (9223372036854775807 < 8 + sV.size + 1) := by omega
      have hz2 : ¬ (9223372036854775807 < 8 + sV.size + 1 + sA.size) := by omega
      have hz3 : ¬ (9223372036854775807 < 8 + sV.size + 1 + sA.size + 1) := by omega
      have hz4 : ¬ (9223372036854775807 < 8 + sV.size + 1 + sA.size + 1 + sC.size) := by omega
      have hz5 : ¬ (9223372036854775807 < 8 + sV.size + 1 + sA.size + 1 + sC.size + 1) := by omega
      have hz6 : ¬ (9223372036854775807 < 8 + sV.size + 1 + sA.size + 1 + sC.size + 1 + sP.size) := by omega
      have hz7 : ¬ (9223372036854775807 < s.size + (8 + sV.size + 1 + sA.size + 1 + sC.size + 1 + sP.size)) := by omega
      have HN := hid (show s ++ (((((((({ data := #[118, 101, 114, 115, 105, 111, 110, 32] } : ByteArray) ++ sV) ++ ({ data := #[32] } : ByteArray)) ++ sA) ++ ({ data := #[32] } : ByteArray)) ++ sC) ++ ({ data := #[10] } : ByteArray)) ++ sP) = bs (hisT l rs (k + 1)) by
        rw [HRR.out, HE.out, bs_app, HXR.out]; rfl)
      have lt8 := b3.lt
      replace b3 := b3.keeps (keeps_alloc wr (.cells #[.int .i64 (vn : Int), .slice P np cp, .int .i64 x1, .int .i64 x2, .int .i64 x3, .int .i64 x4] 50))
      replace hpl := hpl.keeps (keeps_alloc wr (.cells #[.int .i64 (vn : Int), .slice P np cp, .int .i64 x1, .int .i64 x2, .int .i64 x3, .int .i64 x4] 50))
      replace kw := Keeps.trans kw (keeps_alloc wr (.cells #[.int .i64 (vn : Int), .slice P np cp, .int .i64 x1, .int .i64 x2, .int .i64 x3, .int .i64 x4] 50))
      have b10 : Bl (wr.alloc (.cells #[.int .i64 (vn : Int), .slice P np cp, .int .i64 x1, .int .i64 x2, .int .i64 x3, .int .i64 x4] 50)) wr.heap.size [.int .i64 (vn : Int), .slice P np cp, .int .i64 x1, .int .i64 x2, .int .i64 x3, .int .i64 x4] := Bl.new' (by simp) (by simp)
      obtain ⟨ca5, fa5⟩ := id b3
      have ca6_0 := (b10.2 0 _ rfl).1
      have ca6_1 := (b10.2 1 _ rfl).1
      have ca6_2 := (b10.2 2 _ rfl).1
      have ca6_3 := (b10.2 3 _ rfl).1
      have ca6_4 := (b10.2 4 _ rfl).1
      have ca6_5 := (b10.2 5 _ rfl).1
      go_wp2_with fail
      clear ca5 fa5 ca6_0 ca6_1 ca6_2 ca6_3 ca6_4 ca6_5
      refine (PlanText_yes (h.keeps kw) (h'.keeps kw) hpl HG.out HS.out HPB.out).mono ?_
      rintro e w7 ⟨rfl, k7⟩
      rw [HSP.out]
      replace b3 := b3.keeps k7
      replace b10 := b10.keeps k7
      replace hpl := hpl.keeps k7
      replace kw := Keeps.trans kw k7
      have lt8 := b10.lt
      have sz9 := kw.size
      clear k7
      clear hc0 hc1 hc2 hc3 hc4 hc5 hl1 hl2 hl3 hl4 hrl hsz hpl
      have q0_b10 : w7.cell? ⟨wr.heap.size, 0, none⟩ = some (.int .i64 (vn : Int)) := (b10.2 0 _ rfl).1
      have rq0_b10 := fun d os => cell_regrown q0_b10 d os
      have q1_b10 : w7.cell? ⟨wr.heap.size, 1, none⟩ = some (.slice P np cp) := (b10.2 1 _ rfl).1
      have rq1_b10 := fun d os => cell_regrown q1_b10 d os
      have q2_b10 : w7.cell? ⟨wr.heap.size, 2, none⟩ = some (.int .i64 x1) := (b10.2 2 _ rfl).1
      have rq2_b10 := fun d os => cell_regrown q2_b10 d os
      have q3_b10 : w7.cell? ⟨wr.heap.size, 3, none⟩ = some (.int .i64 x2) := (b10.2 3 _ rfl).1
      have rq3_b10 := fun d os => cell_regrown q3_b10 d os
      have q4_b10 : w7.cell? ⟨wr.heap.size, 4, none⟩ = some (.int .i64 x3) := (b10.2 4 _ rfl).1
      have rq4_b10 := fun d os => cell_regrown q4_b10 d os
      have q5_b10 : w7.cell? ⟨wr.heap.size, 5, none⟩ = some (.int .i64 x4) := (b10.2 5 _ rfl).1
      have rq5_b10 := fun d os => cell_regrown q5_b10 d os
      have cQ0 := hid (fun (dQ : Nat) (oQ : Array Obj) => HC1.out _ _ (below_regrown w7 dQ oQ))
      have cQ1 := hid (fun (dQ : Nat) (oQ : Array Obj) => HC2.out _ _ (below_regrown w7 dQ oQ))
      have cQ2 := hid (fun (dQ : Nat) (oQ : Array Obj) => HC3.out _ _ (below_regrown w7 dQ oQ))
      go_wp2_with fail
      refine wp_region_quiet_below (by kernel_rfl) (by kernel_rfl) ?_
      iterate 22 (go_big_quiet_step ((first | with_reducible exact Calls.regrown_of (cQ0.out _ _) | with_reducible exact Calls.regrown_of (cQ1.out _ _) | with_reducible exact Calls.regrown_of (cQ2.out _ _))))
      refine wpQuiet_nil ?_
      intro _ hw'
      obtain ⟨⟨dq, osq⟩, hw''⟩ := hw'
      subst hw''
      clear q0_b10 rq0_b10 q1_b10 rq1_b10 q2_b10 rq2_b10 q3_b10 rq3_b10 q4_b10 rq4_b10 q5_b10 rq5_b10 cQ0 cQ1 cQ2
      have kQ := below_regrown w7 dq osq
      obtain ⟨wQ10, hwQ⟩ : ∃ u, u = grow (redrawn w7 dq) osq := ⟨_, rfl⟩
      rw [← hwQ] at kQ
      rw [← hwQ]
      clear hwQ
      replace b3 := b3.keeps kQ
      replace b10 := b10.keeps kQ
      replace kw := Keeps.trans kw kQ
      have lt11 := b10.lt
      have sz12 := kw.size
      clear kQ
      clear HC1 HC2 HC3 hz0 hz1 hz2 hz3 hz4 hz5 hz6 hz7 b10
      go_wp2_with fail
      go_roundw
      case rel => exact ⟨k + 1, _, rfl, by go_num, hlt, HN, b3, kw⟩
      case measure => simp [intOf]; omega
set_option maxRecDepth 100000 in
set_option maxHeartbeats 12800000 in
theorem implHistoryText_any {A A' R : Option Addr} {lo hi a c0 lo3 hi3 n q cq cr : Nat} {un : Bool} {ps : List Int} {l : List VV} {rs : List RL} {w : World} (h : Ints w lo hi A a ps) (h' : Sch w A' q cq l) (hr : Rels true un w lo3 hi3 R n rs) (ht : Tab10 w) :
    Calls Tryz.prog 12 #[.agg #[.slice A a c0], .slice A' q cq, .slice R n cr] w fun e w' => e = .returned (.tuple #[.string (htQ ps l rs).1, .bool (htQ ps l rs).2]) ∧ Keeps w w' := by
  have hn := hr.le
  have HRL := hid hr.len
  obtain ⟨z0, z1, HZ⟩ : ∃ z0 z1, Hid (htQ ps l rs = (z0, z1)) := ⟨_, _, rfl⟩
  rw [HZ.out]
  obtain ⟨lo9, hi9, hs⟩ := h'.v
  go_enter Tryz.func12, Tryz.ntmps12
  have kw := keeps_refl w
  replace kw := Keeps.trans kw (keeps_alloc w (.cells #[.slice A a c0] 32))
  have b3 : B1 (w.alloc (.cells #[.slice A a c0] 32)) w.heap.size (.slice A a c0) := B1.new' (by simp)
  obtain ⟨ca1, fa1⟩ := id b3
  go_wp2_with fail
  clear ca1 fa1
  obtain ⟨pH1, H1⟩ : ∃ pB, Hid (hisB ps l rs = pB) := ⟨_, rfl⟩
  refine (isHistory_any (h.keeps kw) (h'.keeps kw) (hr.keeps kw)).mono ?_
  rintro e w2 ⟨rfl, k2⟩
  rw [H1.out]
  replace b3 := b3.keeps k2
  replace kw := Keeps.trans kw k2
  have lt3 := b3.lt
  have sz4 := kw.size
  clear k2
  cases pH1
  · have HX := hid (HZ.out.symm.trans (htQ_no H1.out))
    obtain ⟨ca5, fa5⟩ := id b3
    go_wp2_with fail
    clear ca5 fa5
    go_ret2
    obtain ⟨e0, e1⟩ : z0 = bs [] ∧ z1 = false := by have := HX.out; injection this with a b; exact ⟨a, b⟩
    subst e0 e1
    exact ⟨rfl, kw⟩
  · skip
    have hp := hisB_parts H1.out
    have HG := hid hp.1
    have HS := hid hp.2.1
    have hn12 := hp.2.2.1
    rw [HRL.out] at hn12
    have HRB := hid (fun k (hk : k < n) => hp.2.2.2 k (by rw [HRL.out]; exact hk))
    obtain ⟨e0, e1⟩ : z0 = bs (hisT l rs rs.length) ∧ z1 = true := by have := HZ.out.symm.trans (htQ_yes H1.out); injection this with a b; exact ⟨a, b⟩
    subst e1
    have HE0 := hid e0
    rw [HRL.out] at HE0
    clear hp e0 HZ
    have lt9 := b3.lt
    have hB0 : Lib.IsBuilderF 87 5 w2.heap.size w2.heap.size (Lib.byteCells (hisT l rs 0)) (w2.alloc (.cells #[.pointer none, .slice none 0 0] 87)) := Lib.IsBuilderF.of (Lib.fresh_isBuilder 87 5 w2)
    obtain ⟨B, hB⟩ : ∃ z, w2.heap.size = z := ⟨_, rfl⟩
    rw [hB] at hB0
    have kw9 := Keeps.trans kw (keeps_alloc w2 (.cells #[.pointer none, .slice none 0 0] 87))
    have hB1 : w.heap.size < B := by omega
    have hB2 : B < (w2.alloc (.cells #[.pointer none, .slice none 0 0] 87)).heap.size := by simp; omega
    clear b3 kw
    go_wp2_with fail
    try rw [hB]
    go_loopw [18] (fun i wr => ∃ k : Nat, i = .int .i64 k ∧ k ≤ n ∧ Lib.IsBuilderF 87 5 B B (Lib.byteCells (hisT l rs k)) wr ∧ B < wr.heap.size ∧ Keeps w wr) (fun i _ => n - (intOf i).toNat)
    case atStart => exact ⟨0, rfl, Nat.zero_le _, hB0, hB2, kw9⟩
    clear hB0 kw9 hB2 hB
    case round =>
      obtain ⟨k, rfl, hk, hBk, hBw, kw⟩ := hrel
      by_cases hlt : k < n
      rotate_left
      · obtain rfl : n = k := by omega
        go_wp2_with fail
        refine (string_any hBk (by omega)).mono ?_
        rintro e w8 ⟨rfl, _, b8, _⟩
        have KW := hid (Below.trans kw (b8.mono (by omega)))
        clear hBk kw b8
        go_wp2_with fail
        go_ret2
        exact ⟨ret_sb HE0.out.symm, KW.out⟩
      obtain ⟨b, off, v, P, np, cp, x1, x2, x3, x4, pl, rfl, _, _, hc0, hc1, hc2, hc3, hc4, hc5, hpl, hx⟩ := (hr.keeps kw).at_ hlt
      have hrb := (HRB.out k hlt).2
      rw [← hx.out] at hrb
      have hi1 : (k : Int) < (n : Int) := by omega
      have HPL := hid hpl.len
      have hrl := relT_len HG.out HS.out hrb
      have hsz := hisT_len H1.out k (by rw [HRL.out]; omega)
      have HRR := hid (relT_bs (l := l) (v := v) (a := x1) (b := x2) (c := x3) (d := x4) HPL.out)
      have hrb2 := hrb
      unfold relB at hrb2
      simp only [Bool.and_eq_true] at hrb2
      have hvb := inB_true.1 hrb2.1.1
      have HPB := hid (show plB ps l pl = true from hrb2.1.2)
      have hls := hrb2.2
      unfold lossB at hls
      simp only [Bool.and_eq_true] at hls
      have HF1 := hid (show fracB x1 x2 = true from hls.1.1)
      have HF2 := hid (show fracB x3 x4 = true from hls.1.2)
      have hvb2 : 1 ≤ v ∧ v ≤ 999 := hvb
      have HXR := hid hx.out
      have hl1 := Lib.itoa_length_le v (by omega) (by omega)
      rw [← bs_size] at hl1
      have hl2 : (bs (fracT x1 x2)).size ≤ 43 := by rw [bs_size]; have := frac_n HF1.out; exact fracT_len (by omega) (by omega)
      have hl3 : (bs (fracT x3 x4)).size ≤ 43 := by rw [bs_size]; have := frac_n HF2.out; exact fracT_len (by omega) (by omega)
      have hl4 := planTo_len HG.out HS.out HPB.out np (by rw [HPL.out]; exact Nat.le_refl _)
      rw [← bs_size] at hl4
      have hnp : np ≤ 20 := by have := (plB_at HPB.out).1; rw [HPL.out] at this; exact this
      clear hrb hrb2 hls hvb hx
      have HC1 := hid (fun (W : World) (z : Tab10 W) => itoa_k (n := v) (by omega) z)
      have HC2 := hid (fun (W : World) (z : Tab10 W) => fracText_any (w := W) z HF1.out)
      have HC3 := hid (fun (W : World) (z : Tab10 W) => fracText_any (w := W) z HF2.out)
      obtain ⟨sV, hsV⟩ : ∃ z, bs (Lib.itoa v) = z := ⟨_, rfl⟩
      obtain ⟨sA, hsA⟩ : ∃ z, bs (fracT x1 x2) = z := ⟨_, rfl⟩
      obtain ⟨sC, hsC⟩ : ∃ z, bs (fracT x3 x4) = z := ⟨_, rfl⟩
      obtain ⟨sP, hsP⟩ : ∃ z, bs (planTo l pl np) = z := ⟨_, rfl⟩
      rw [hsV] at hl1 HC1 HRR
      rw [hsA] at hl2 HC2 HRR
      rw [hsC] at hl3 HC3 HRR
      rw [hsP] at hl4 HRR
      have HSP := hid hsP
      clear hsV hsA hsC hsP
      have hz0 : ¬ (9223372036854775807 < 8 + sV.size) := by omega
      have hz1 : ¬ (9223372036854775807 < 8 + sV.size + 1) := by omega
      have hz2 : ¬ (9223372036854775807 < 8 + sV.size + 1 + sA.size) := by omega
      have hz3 : ¬ (9223372036854775807 < 8 + sV.size + 1 + sA.size + 1) := by omega
      have hz4 : ¬ (9223372036854775807 < 8 + sV.size + 1 + sA.size + 1 + sC.size) := by omega
      have hz5 : ¬ (9223372036854775807 < 8 + sV.size + 1 + sA.size + 1 + sC.size + 1) := by omega
      have hz6 : ¬ (9223372036854775807 < 8 + sV.size + 1 + sA.size + 1 + sC.size + 1 + sP.size) := by omega
      have hBk2 := isb_keeps hBk (keeps_alloc wr (.cells #[.int .i64 v, .slice P np cp, .int .i64 x1, .int .i64 x2, .int .i64 x3, .int .i64 x4] 50))
      have HOB := hid (heap_alloc_new wr (.cells #[.int .i64 v, .slice P np cp, .int .i64 x1, .int .i64 x2, .int .i64 x3, .int .i64 x4] 50))
      have HXS := hid (show (((((((({ data := #[118, 101, 114, 115, 105, 111, 110, 32] } : ByteArray) ++ sV) ++ ({ data := #[32] } : ByteArray)) ++ sA) ++ ({ data := #[32] } : ByteArray)) ++ sC) ++ ({ data := #[10] } : ByteArray)) ++ sP).size = 8 + sV.size + 1 + sA.size + 1 + sC.size + 1 + sP.size by simp only [ByteArray.size_append]; first | rfl | (simp; done) | omega)
      replace hpl := hpl.keeps (keeps_alloc wr (.cells #[.int .i64 v, .slice P np cp, .int .i64 x1, .int .i64 x2, .int .i64 x3, .int .i64 x4] 50))
      replace kw := Keeps.trans kw (keeps_alloc wr (.cells #[.int .i64 v, .slice P np cp, .int .i64 x1, .int .i64 x2, .int .i64 x3, .int .i64 x4] 50))
      have b10 : Bl (wr.alloc (.cells #[.int .i64 v, .slice P np cp, .int .i64 x1, .int .i64 x2, .int .i64 x3, .int .i64 x4] 50)) wr.heap.size [.int .i64 v, .slice P np cp, .int .i64 x1, .int .i64 x2, .int .i64 x3, .int .i64 x4] := Bl.new' (by simp) (by simp)
      have ca5_0 := (b10.2 0 _ rfl).1
      have ca5_1 := (b10.2 1 _ rfl).1
      have ca5_2 := (b10.2 2 _ rfl).1
      have ca5_3 := (b10.2 3 _ rfl).1
      have ca5_4 := (b10.2 4 _ rfl).1
      have ca5_5 := (b10.2 5 _ rfl).1
      go_wp2_with fail
      have kS := hid (show ∀ w', Keeps (wr.alloc (.cells #[.int .i64 v, .slice P np cp, .int .i64 x1, .int .i64 x2, .int .i64 x3, .int .i64 x4] 50)) w' → (w'.cell? ⟨wr.heap.size, 0, none⟩ = some (.int .i64 v) ∧ w'.cell? ⟨wr.heap.size, 1, none⟩ = some (.slice P np cp) ∧ w'.cell? ⟨wr.heap.size, 2, none⟩ = some (.int .i64 x1) ∧ w'.cell? ⟨wr.heap.size, 3, none⟩ = some (.int .i64 x2) ∧ w'.cell? ⟨wr.heap.size, 4, none⟩ = some (.int .i64 x3) ∧ w'.cell? ⟨wr.heap.size, 5, none⟩ = some (.int .i64 x4)) from fun w' k => ⟨cell_keeps ca5_0 k, cell_keeps ca5_1 k, cell_keeps ca5_2 k, cell_keeps ca5_3 k, cell_keeps ca5_4 k, cell_keeps ca5_5 k⟩)
      clear ca5_0 ca5_1 ca5_2 ca5_3 ca5_4 ca5_5
      have HLB := hid (show (Lib.byteCells (hisT l rs k)).length + (((((((({ data := #[118, 101, 114, 115, 105, 111, 110, 32] } : ByteArray) ++ sV) ++ ({ data := #[32] } : ByteArray)) ++ sA) ++ ({ data := #[32] } : ByteArray)) ++ sC) ++ ({ data := #[10] } : ByteArray)) ++ sP).size ≤ 140737488355328 by rw [Lib.byteCells_length, HXS.out]; omega)
      have htK := ht.keeps kw
      have hsK := hs.keeps kw
      have hwr := hBw
      have hWs : wr.heap.size ≤ (wr.alloc (.cells #[.int .i64 v, .slice P np cp, .int .i64 x1, .int .i64 x2, .int .i64 x3, .int .i64 x4] 50)).heap.size := by simp
      clear hc0 hc1 hc2 hc3 hc4 hc5 hl1 hl2 hl3 hl4 hrl hsz b10 hBk
      have kW := keeps_d0 (wr.alloc (.cells #[.int .i64 v, .slice P np cp, .int .i64 x1, .int .i64 x2, .int .i64 x3, .int .i64 x4] 50))
      go_region_held3 (fun w' => w'.cell? ⟨wr.heap.size, 0, none⟩ = some (.int .i64 v) ∧ w'.cell? ⟨wr.heap.size, 1, none⟩ = some (.slice P np cp) ∧ w'.cell? ⟨wr.heap.size, 2, none⟩ = some (.int .i64 x1) ∧ w'.cell? ⟨wr.heap.size, 3, none⟩ = some (.int .i64 x2) ∧ w'.cell? ⟨wr.heap.size, 4, none⟩ = some (.int .i64 x3) ∧ w'.cell? ⟨wr.heap.size, 5, none⟩ = some (.int .i64 x4)) (first | with_reducible exact kS.out _ (keeps_d0 _) | with_reducible exact kS.out _ kW | with_reducible exact cZ.out | go_keep)
        ((first | (go_at_call 38; (with_reducible refine (HC1.out _ (htK.keeps kW)).mono ?_); rintro e wB ⟨rfl, kB⟩; replace kW : Keeps (wr.alloc (.cells #[.int .i64 v, .slice P np cp, .int .i64 x1, .int .i64 x2, .int .i64 x3, .int .i64 x4] 50)) wB := kW.trans kB; clear kB) | (go_at_call 39; (with_reducible refine (HC2.out _ (htK.keeps kW)).mono ?_); rintro e wB ⟨rfl, kB⟩; replace kW : Keeps (wr.alloc (.cells #[.int .i64 v, .slice P np cp, .int .i64 x1, .int .i64 x2, .int .i64 x3, .int .i64 x4] 50)) wB := kW.trans kB; clear kB) | (go_at_call 39; (with_reducible refine (HC3.out _ (htK.keeps kW)).mono ?_); rintro e wB ⟨rfl, kB⟩; replace kW : Keeps (wr.alloc (.cells #[.int .i64 v, .slice P np cp, .int .i64 x1, .int .i64 x2, .int .i64 x3, .int .i64 x4] 50)) wB := kW.trans kB; clear kB) | (go_at_call 40; refine (planText_any (hsK.keeps kW) (hpl.keeps kW) HG.out HS.out HPB.out (htK.keeps kW)).mono ?_; rintro e wB ⟨rfl, kB⟩; rw [HSP.out]; replace kW : Keeps (wr.alloc (.cells #[.int .i64 v, .slice P np cp, .int .i64 x1, .int .i64 x2, .int .i64 x3, .int .i64 x4] 50)) wB := kW.trans kB; clear kB) | (go_at_call 37; refine (write_any (isb_keeps hBk2 kW) HLB.out (by have := kW.size; omega)).mono ?_; rintro e wE ⟨rfl, hBE, bE, oE⟩; have HOE := hid (oE _ _ ((kW.block _ (by simp)).trans HOB.out) (by simp; omega) (by simp)); have cZ := hid (show wE.cell? ⟨wr.heap.size, 0, none⟩ = some (.int .i64 v) ∧ wE.cell? ⟨wr.heap.size, 1, none⟩ = some (.slice P np cp) ∧ wE.cell? ⟨wr.heap.size, 2, none⟩ = some (.int .i64 x1) ∧ wE.cell? ⟨wr.heap.size, 3, none⟩ = some (.int .i64 x2) ∧ wE.cell? ⟨wr.heap.size, 4, none⟩ = some (.int .i64 x3) ∧ wE.cell? ⟨wr.heap.size, 5, none⟩ = some (.int .i64 x4) from ⟨obj_cell HOE.out rfl, obj_cell HOE.out rfl, obj_cell HOE.out rfl, obj_cell HOE.out rfl, obj_cell HOE.out rfl, obj_cell HOE.out rfl⟩))))
      have hb9 : Lib.byteCells (hisT l rs k) ++ Lib.strCells (((((((({ data := #[118, 101, 114, 115, 105, 111, 110, 32] } : ByteArray) ++ sV) ++ ({ data := #[32] } : ByteArray)) ++ sA) ++ ({ data := #[32] } : ByteArray)) ++ sC) ++ ({ data := #[10] } : ByteArray)) ++ sP) = Lib.byteCells (hisT l rs (k + 1)) := by
        rw [HRR.out, strCells_bs, byteCells_app, HXR.out]; rfl
      rw [hb9] at hBE
      have H1_ := hid (show Lib.IsBuilderF 87 5 B B (Lib.byteCells (hisT l rs (k + 1))) wE from .inr hBE)
      have H2_ := hid (Below.trans (kw.trans kW) (bE.mono (by omega)))
      have H3_ := hid (show B < wE.heap.size by have := kW.size; have := bE.size; omega)
      clear hBE bE oE HOE cZ kW kw kS hBk2 hb9 HC1 HC2 HC3 htK hsK hpl hz0 hz1 hz2 hz3 hz4 hz5 hz6
      go_wp2_with fail
      go_roundw
      case rel => exact ⟨k + 1, by go_num, hlt, H1_.out, H3_.out, H2_.out⟩
      case measure => simp [intOf]; omega
end Go.Proofs.YtlkjhkkfdmjfcaaGreatDoor
namespace Go.Proofs.YtlkjhkkfdmjfcaaGreatDoor
open Go.ChangeShapes Go.WideShapes Go.ChangeAt Go.RowKit
set_option linter.unusedVariables false
set_option linter.unusedSimpArgs false
/-- A slice of bytes that came in. -/
def BytesArg (w : World) (A : Option Addr) (n : Nat) : Prop := Bytes w w.heap.size A n
section
variable {H : Type} {enc : TypeId × Value → H} {w : World} {held : Bool}
set_option maxRecDepth 100000 in
theorem open_arg_bytes {r : Reach} {b0 : Nat} {v : Value} {d : DataW H} {p : List MemPlace} (hv : Value.okWide Tryz.prog w r b0 42 v) (h : DataW.Trod enc Tryz.prog w 0 (fun _ => true) held 42 v d p) :
    ∃ A n c, v = .slice A n c ∧ BytesArg w A n := by
  obtain ⟨A, n, c, rfl⟩ := okWide_slice Tryz.underlying42 hv
  obtain ⟨fuel, h⟩ := h
  refine ⟨A, n, c, rfl, ?_⟩
  rcases open_ints Tryz.underlying42 Tryz.underlying5 (by kernel_rfl) h with ⟨hcs, _⟩ | ⟨a, l, c', zs, hcs, _, hl, hm, hz, _, hcell, hwz⟩
  · simp [Value.cells] at hcs
    obtain ⟨rfl, rfl, rfl⟩ := hcs
    exact ⟨by omega, Nat.le_refl _, fun h0 => absurd h0 (by omega)⟩
  · simp [Value.cells] at hcs
    obtain ⟨rfl, rfl, rfl⟩ := hcs
    have hzl : n ≤ zs.length := by simp at hz; omega
    refine ⟨by unfold maxLen at hm; omega, Nat.le_refl _, fun h0 => ?_⟩
    obtain ⟨b, off, spot⟩ := a
    have hc0 := hcell 0 (by omega)
    have hsp : spot = none := by simpa [Addr.add] using World.cell?_spot hc0
    subst hsp
    refine ⟨b, off, rfl, ?_, fun j hj => ?_⟩
    · rcases Nat.lt_or_ge b w.heap.size with h1 | h1
      · exact h1
      · simp [World.cell?, Addr.add, Array.getElem?_eq_none h1] at hc0
    · have := hcell j (by omega)
      rw [Addr.add_lit] at this
      have hmem : zs.getD j 0 ∈ zs := by
        have hj2 : j < zs.length := by omega
        simp only [List.getD, List.getElem?_eq_getElem hj2, Option.getD_some]
        exact List.getElem_mem hj2
      have hb := bounds_u8 (hwz _ hmem)
      exact ⟨_, hb.1, hb.2, this⟩
end
set_option maxHeartbeats 400000 in
theorem sameInts_true {A B : Option Addr} {lo hi lo' hi' n n' c c' : Nat} {xs : List Int} {w : World} (ha : Ints w lo hi A n xs) (hb : Ints w lo' hi' B n' xs) :
    Calls Tryz.prog 20 #[.slice A n c, .slice B n' c'] w fun e w' => e = .returned (.bool true) ∧ Quiet w w' := by
  obtain rfl : n = n' := ha.1.symm.trans hb.1
  have hn := ha.le
  have hl := ha.1
  have hbb : ((n : Int) != n) = false := by simp
  go_enter Tryz.func20, Tryz.ntmps20
  go_wp2_with fail
  go_loopw [13] (fun i wr => ∃ k : Nat, k ≤ n ∧ i = .int .i64 k ∧ Quiet w wr) (fun i _ => n - (intOf i).toNat)
  case atStart => exact ⟨0, Nat.zero_le _, rfl, Quiet.refl _⟩
  case round =>
    obtain ⟨k, hk, rfl, hq⟩ := hrel
    by_cases hlt : k < n
    · obtain ⟨b, off, x, rfl, _, _, hc, hx⟩ := (ha.quiet hq).at_ hlt
      obtain ⟨b', off', x', rfl, _, _, hc', hx'⟩ := (hb.quiet hq).at_ hlt
      obtain rfl : x = x' := hx.out.trans hx'.out.symm
      clear hx hx'
      have hi1 : (k : Int) < (n : Int) := by omega
      have hne : (x != x) = false := by simp
      go_wp2_with fail
      go_quiet (fail)
      go_wp2
      go_roundw
      case rel => exact ⟨k + 1, by omega, by go_num, hq.step _⟩
      case measure => simp [intOf]; omega
    · go_wp2
      go_ret
      exact ⟨rfl, hq⟩
def AnyBool (w : World) (e : Ending) (w' : World) : Prop := ∃ b, e = .returned (.bool b) ∧ w = w'
theorem big_any {A B : Option Addr} {n c n' c' : Nat} {w : World} (h1 : n ≤ 9223372036854775807) (h2 : n' ≤ 9223372036854775807) :
    Calls Tryz.prog 16 #[.slice A n c, .slice B n' c'] w (AnyBool w) := by
  by_cases h : 1048576 < n
  · have g : (1048576 : Int) < (n : Int) := by omega
    go_enter Tryz.func16, Tryz.ntmps16
    go_wp2
    go_ret
    exact ⟨_, rfl, rfl⟩
  · have g : ¬ (1048576 : Int) < (n : Int) := by omega
    have g2 : (n : Int) ≤ 1048576 := by omega
    go_enter Tryz.func16, Tryz.ntmps16
    go_wp2
    go_ret
    exact ⟨_, rfl, rfl⟩
end Go.Proofs.YtlkjhkkfdmjfcaaGreatDoor
