/- What the proof of the statement leans on, part 16: walks of functions and plain lemmas, with no condition. -/
import Derived.Test.YtlkjhkkfdmjfcaaGreatDoorQ14
namespace Go.Proofs.YtlkjhkkfdmjfcaaGreatDoor
open Go.RowKit Go.Sort
set_option linter.unusedVariables false
set_option linter.unusedSimpArgs false
theorem vname {w : World} {lo hi q b off j : Nat} {l : List VV} (h : Vars w lo hi (some ⟨b, off, none⟩) q l) (hj : j < q) : w.cell? ⟨b, off + j * 2, none⟩ = some (.string (bs (nmT l j))) := by
  obtain ⟨b', off', x, y, e, _, _, hc0, hc1, hx⟩ := Vars.at_ h hj
  injection e with e; injection e with e1 e2; subst e1 e2
  rw [hc0]
  have := congrArg (fun p : VV => p.1) hx.out
  rw [← nmT_bs, ← this]
theorem vaddr {w : World} {lo hi q : Nat} {A : Option Addr} {l : List VV} (h : Vars w lo hi A q l) (h0 : 0 < q) : ∃ b off, A = some ⟨b, off, none⟩ := by
  obtain ⟨b', off', x, y, e, _⟩ := Vars.at_ h h0
  exact ⟨b', off', e⟩
theorem nms_take {l : List VV} {vs : List Int} {k j : Nat} (hk : k < vs.length) (hj : (j : Int) = vs.getD k 0) : (nms l vs).take (k + 1) = (nms l vs).take k ++ [nmT l j] := by
  have e : vs.getD k 0 = vs[k] := by simp [List.getD, hk]
  have h1 : (nms l vs)[k]? = some (nmT l j) := by unfold nms; rw [List.getElem?_map, List.getElem?_eq_getElem hk, ← e, ← hj]; simp
  rw [List.take_add_one, h1]; rfl
theorem nms_ne {l : List VV} {vs : List Int} {k : Nat} (hk : k < vs.length) (h0 : 0 < k) : (nms l vs).take k ≠ [] := by
  intro h
  have := congrArg List.length h
  rw [List.length_take] at this
  unfold nms at this
  rw [List.length_map, List.length_nil] at this
  omega
theorem digs_take {s : Int} {m d : Nat} (hm : m < (lvI s 8).length) (hd : (d : Int) = (lvI s 8).getD m 0) : (digs s 8).take (m + 1) = (digs s 8).take m ++ [Lib.decDigits d] := by
  unfold lvI at hm hd
  rw [List.length_map] at hm
  have e : ((bitsTo s 8).map fun x : Nat => (x : Int)).getD m 0 = ((bitsTo s 8)[m] : Int) := by simp [List.getD, hm]
  rw [e] at hd
  have h1 : (digs s 8)[m]? = some (Lib.decDigits d) := by unfold digs; rw [List.getElem?_map, List.getElem?_eq_getElem hm]; simp; congr 1; omega
  rw [List.take_add_one, h1]; rfl
theorem digs_ne {s : Int} {m : Nat} (hm : m < (lvI s 8).length) (h0 : 0 < m) : (digs s 8).take m ≠ [] := by
  intro h
  have := congrArg List.length h
  unfold lvI at hm
  rw [List.length_map] at hm
  rw [List.length_take] at this
  unfold digs at this
  rw [List.length_map, List.length_nil] at this
  omega
theorem digs_full (s : Int) : (digs s 8).take (lvI s 8).length = digs s 8 := List.take_of_length_le (by unfold digs lvI; rw [List.length_map, List.length_map]; exact Nat.le_refl _)
theorem lvI_at {s : Int} {m : Nat} (hm : m < (lvI s 8).length) : ∃ d : Nat, (lvI s 8).getD m 0 = d ∧ d < 8 := by
  unfold lvI at hm ⊢
  rw [List.length_map] at hm
  refine ⟨(bitsTo s 8)[m], by simp [List.getD, hm], bitsTo_lt s 8 _ (List.getElem_mem hm)⟩
theorem joinC_dt (s : Int) (m : Nat) : (joinC ((digs s 8).take m)).length ≤ 16 := by
  have h1 := joinC_len (m := 1) (xs := (digs s 8).take m) (fun x hx => digs_small s (Nat.le_refl _) x (List.mem_of_mem_take hx))
  have h2 := digs_len s 8
  have h3 : ((digs s 8).take m).length ≤ 8 := by rw [List.length_take]; omega
  omega
set_option maxRecDepth 100000 in
set_option maxHeartbeats 6400000 in
theorem nNames_any {A V : Option Addr} {lo hi q c lo2 hi2 n d : Nat} {l : List VV} {vs : List Int} {w : World} (hs : Vars w lo hi A q l) (hv : Ints w lo2 hi2 V n vs) (hS : schB l = true) (hB : vsB l.length vs = true) :
    Calls Tryz.prog 99 #[.slice A q c, .slice V n d] w fun e w' => e = .returned (.string (bs (joinC (nms l vs)))) ∧ Keeps w w' := by
  have hq := hs.le
  have hn := hv.le
  have HQL := hid (show l.length = q from Vars.len hs)
  have HVL := hid hv.1
  have HS := hid hS
  have HB := hid hB
  have HAT := hid (fun k (hk : k < n) => vsB_at hB (k := k) (by rw [hv.1]; exact hk))
  clear hS hB
  go_enter Tryz.func99, Tryz.ntmps99
  have kw := keeps_refl w
  go_wp2_with fail
  go_loopw [5, 10] (fun sv i wr => ∃ (k : Nat) (s : ByteArray), sv = .string s ∧ i = .int .i64 k ∧ k ≤ n ∧ Hid (s = bs (joinC ((nms l vs).take k))) ∧ Keeps w wr) (fun _ i _ => n - (intOf i).toNat)
  case atStart => exact ⟨0, _, rfl, rfl, Nat.zero_le _, hid rfl, kw⟩
  clear kw
  case round =>
    obtain ⟨k, s, rfl, rfl, hk, HE, kw⟩ := hrel
    by_cases hlt : k < n
    · obtain ⟨b2, off2, x, rfl, _, _, hcv, hx⟩ := (hv.keeps kw).at_ hlt
      have hb := HAT.out k hlt
      rw [← hx.out] at hb
      obtain ⟨j, rfl⟩ : ∃ j : Nat, x = j := ⟨x.toNat, by omega⟩
      have hjl : j < l.length := by omega
      have hjq : j < q := by have := HQL.out; omega
      obtain ⟨b, off, rfl⟩ := vaddr hs (by omega)
      have hcn := vname (hs.keeps kw) hjq
      have hi1 : (k : Int) < (n : Int) := by omega
      have hi2 : (j : Int) < (q : Int) := by omega
      have hT := nms_take (l := l) (vs := vs) (k := k) (j := j) (by rw [HVL.out]; exact hlt) hx.out
      have hs1 := joinC_nms HS.out HB.out k
      rw [← bs_size, ← HE.out] at hs1
      have hs2 := nmT_len HS.out hjl
      rw [← bs_size] at hs2
      by_cases h0 : k = 0
      · have HR := hid (show s ++ bs (nmT l j) = bs (joinC ((nms l vs).take (k + 1))) by
          rw [HE.out, hT, h0, List.take_zero, List.nil_append, joinC_one, joinC_nil, bs_app, List.nil_append])
        have h0' : ¬ ((k : Int) > 0) := by omega
        obtain ⟨sN, hsN⟩ : ∃ z, bs (nmT l j) = z := ⟨_, rfl⟩
        rw [hsN] at hcn hs2 HR
        have hz1 : ¬ (9223372036854775807 < s.size + sN.size) := by omega
        clear hsN hT hx hs1 hs2 hb h0
        go_wp2_with fail
        go_roundw
        case rel => exact ⟨k + 1, _, rfl, by go_num, hlt, HR, kw⟩
        case measure => simp [intOf]; omega
      · have HR := hid (show (s ++ ({ data := #[44] } : ByteArray)) ++ bs (nmT l j) = bs (joinC ((nms l vs).take (k + 1))) by
          rw [HE.out, hT, joinC_snoc (nms_ne (by rw [HVL.out]; exact hlt) (by omega)), show ({ data := #[44] } : ByteArray) = bs [44] from rfl, bs_app, bs_app, List.append_assoc])
        have h0' : ((k : Int) > 0) := by omega
        obtain ⟨sN, hsN⟩ : ∃ z, bs (nmT l j) = z := ⟨_, rfl⟩
        rw [hsN] at hcn hs2 HR
        have hz1 : ¬ (9223372036854775807 < s.size + 1) := by omega
        have hz2 : ¬ (9223372036854775807 < s.size + 1 + sN.size) := by omega
        clear hsN hT hx hs1 hs2 hb h0
        go_wp2_with fail
        go_roundw
        case rel => exact ⟨k + 1, _, rfl, by go_num, hlt, HR, kw⟩
        case measure => simp [intOf]; omega
    · obtain rfl : k = n := by omega
      have HX := hid (show s = bs (joinC (nms l vs)) by rw [HE.out, List.take_of_length_le (by unfold nms; rw [List.length_map, HVL.out]; exact Nat.le_refl _)])
      go_wp2
      go_ret
      exact ⟨ret_str HX.out, kw⟩
set_option maxRecDepth 100000 in
set_option maxHeartbeats 25600000 in
theorem nTable_any {A V H : Option Addr} {lo hi q c lo2 hi2 nv cv lo3 hi3 nh ch : Nat} {lv sm : Int} {ps : List Int} {l : List VV} {vs ws : List Int} {w : World} (hs : Vars w lo hi A q l) (hv : Ints w lo2 hi2 V nv vs) (hw : Ints w lo3 hi3 H nh ws) (hg : geoB ps = true) (hS : schB l = true) (hT : tabB ps l ((lv, vs, ws, sm) : TT) = true) :
    Calls Tryz.prog 64 #[.slice A q c, .agg #[.int .i64 lv, .slice V nv cv, .slice H nh ch, .int .i64 sm]] w fun e w' => e = .returned (.string (bs (tabT l ((lv, vs, ws, sm) : TT)))) ∧ Keeps w w' := by
  have hq := hs.le
  have hn := hv.le
  have hm := hw.le
  have HQL := hid (show l.length = q from Vars.len hs)
  have HVL := hid hv.1
  have HWL := hid hw.1
  have hp : vsB l.length vs = true ∧ whB l ws = true ∧ (-1 ≤ sm ∧ sm ≤ (l.length : Int) - 1) ∧ True := by have := tabB_parts hT; exact ⟨this.1, this.2.1, this.2.2.1, trivial⟩
  have hlv : 0 ≤ lv ∧ lv ≤ 30 := tab_bd hg hT
  have h16 := (schB_lv rfl hS).2
  have HS := hid hS
  have HB := hid hp.1
  have HVN := hid (show nv ≤ 6 by have := vsB_len hp.1; rw [hv.1] at this; omega)
  have HNW := hid (show nh = q by have := (whB_at hp.2.1 (k := 0) (by omega)).1; rw [hw.1] at this; rw [this, HQL.out])
  have HWB := hid (fun k (hk : k < nh) => (show 0 ≤ ws.getD k 0 ∧ ws.getD k 0 ≤ 255 by
    have h1 := whB_at hp.2.1 (k := k) (by rw [HQL.out, ← HNW.out]; exact hk)
    have h2 := (schB_lv rfl hS).1 k (by rw [HQL.out, ← HNW.out]; exact hk)
    have h3 := full_bd h2
    exact ⟨h1.2.1, by have := h1.2.2; omega⟩))
  have HTE := hid (show tabT l ((lv, vs, ws, sm) : TT) = hdT l ((lv, vs, ws, sm) : TT) ++ (lvT ((lv, vs, ws, sm) : TT) ++ (byT l ((lv, vs, ws, sm) : TT) ++ (wT l ws ws.length).1)) from rfl)
  have hsm := hp.2.2.1
  clear hp hT hS hg
  obtain ⟨b, off, rfl⟩ := vaddr hs (show 0 < q by have := HQL.out; omega)
  obtain ⟨nl, rfl⟩ : ∃ m : Nat, lv = m := ⟨lv.toNat, by omega⟩
  have hnl : nl ≤ 30 := by omega
  have HLV := hid (show lvT ((nl : Int), vs, ws, sm) = [32, 108, 101, 118, 101, 108, 32] ++ Lib.decDigits nl from rfl)
  clear hlv
  replace hsm : -1 ≤ sm ∧ sm < q := by have := HQL.out; omega
  have hsL := dec_len nl (by omega)
  rw [← bs_size] at hsL
  obtain ⟨sL, hsLe⟩ : ∃ z, bs (Lib.decDigits nl) = z := ⟨_, rfl⟩
  rw [hsLe] at hsL
  have HLC := hid (fun (W : World) => l1Num_any nl (by omega) W)
  rw [hsLe] at HLC
  have HLE := hid hsLe
  clear hsLe
  by_cases hs0 : 0 ≤ sm
  · obtain ⟨j, rfl⟩ : ∃ m : Nat, sm = m := ⟨sm.toNat, by omega⟩
    have hj : j < q := by omega
    have hi0 : (j : Int) < (q : Int) := by omega
    have hs1 := nmT_len HS.out (show j < l.length by rw [HQL.out]; exact hj)
    rw [← bs_size] at hs1
    have HHD := hid (show ({ data := #[115, 117, 109, 32] } : ByteArray) ++ bs (nmT l j) = bs (hdT l ((nl : Int), vs, ws, (j : Int))) by
      have e : hdT l ((nl : Int), vs, ws, (j : Int)) = [115, 117, 109, 32] ++ nmT l j := if_pos (show (0 : Int) ≤ (j : Int) by omega)
      rw [e, show ({ data := #[115, 117, 109, 32] } : ByteArray) = bs [115, 117, 109, 32] from rfl, bs_app])
    have hcn := vname hs hj
    obtain ⟨sN, hsN⟩ : ∃ z, bs (nmT l j) = z := ⟨_, rfl⟩
    rw [hsN] at hs1 HHD hcn
    clear hsN hsm
    have hza : ¬ (9223372036854775807 < 4 + sN.size) := by omega
    have hzb : ¬ (9223372036854775807 < 7 + sL.size) := by omega
    have hzc : ¬ (9223372036854775807 < 4 + sN.size + (7 + sL.size)) := by omega
    by_cases hnv : 0 < nv
    · have HBY := hid (show byT l ((nl : Int), vs, ws, (j : Int)) = [32, 98, 121, 32] ++ joinC (nms l vs) from if_neg (show ¬ vs.length = 0 by rw [HVL.out]; omega))
      have hv1 : ((nv : Int) > 0) := by omega
      have hsB := joinC_nms HS.out HB.out (nms l vs).length
      rw [List.take_length, ← bs_size] at hsB
      obtain ⟨sB, hsBe⟩ : ∃ z, bs (joinC (nms l vs)) = z := ⟨_, rfl⟩
      rw [hsBe] at hsB
      have hzd : ¬ (9223372036854775807 < 4 + sB.size) := by omega
      have hze : ¬ (9223372036854775807 < 4 + sN.size + (7 + sL.size) + (4 + sB.size)) := by omega
      have HBA := hid (show (((({ data := #[115, 117, 109, 32] } : ByteArray) ++ sN) ++ (({ data := #[32, 108, 101, 118, 101, 108, 32] } : ByteArray) ++ sL)) ++ (({ data := #[32, 98, 121, 32] } : ByteArray) ++ sB)) = bs (hdT l ((nl : Int), vs, ws, (j : Int)) ++ (lvT ((nl : Int), vs, ws, (j : Int)) ++ byT l ((nl : Int), vs, ws, (j : Int)))) by
        rw [HHD.out, HLV.out, HBY.out, ← HLE.out, ← hsBe, show ({ data := #[32, 108, 101, 118, 101, 108, 32] } : ByteArray) = bs [32, 108, 101, 118, 101, 108, 32] from rfl, show ({ data := #[32, 98, 121, 32] } : ByteArray) = bs [32, 98, 121, 32] from rfl, bs_app, bs_app, bs_app, bs_app]
        simp only [List.append_assoc])
      have HZ2 := hid (show (((({ data := #[115, 117, 109, 32] } : ByteArray) ++ sN) ++ (({ data := #[32, 108, 101, 118, 101, 108, 32] } : ByteArray) ++ sL)) ++ (({ data := #[32, 98, 121, 32] } : ByteArray) ++ sB)).size ≤ 130 by
        have e : (((({ data := #[115, 117, 109, 32] } : ByteArray) ++ sN) ++ (({ data := #[32, 108, 101, 118, 101, 108, 32] } : ByteArray) ++ sL)) ++ (({ data := #[32, 98, 121, 32] } : ByteArray) ++ sB)).size = 4 + sN.size + (7 + sL.size) + (4 + sB.size) := by simp only [ByteArray.size_append]; first | rfl | (simp; done) | omega
        omega)
      have HTW := hid (show tabT l ((nl : Int), vs, ws, (j : Int)) = (hdT l ((nl : Int), vs, ws, (j : Int)) ++ (lvT ((nl : Int), vs, ws, (j : Int)) ++ byT l ((nl : Int), vs, ws, (j : Int)))) ++ (wT l ws nh).1 by rw [HTE.out, HWL.out]; simp only [List.append_assoc])
      clear HTE HHD HLV HBY
      go_enter Tryz.func64, Tryz.ntmps64
      have kw := keeps_refl w
      replace kw := Keeps.trans kw (keeps_alloc w (.cells #[.int .i64 (nl : Int), .slice V nv cv, .slice H nh ch, .int .i64 (j : Int)] 61))
      have b3 : Bl (w.alloc (.cells #[.int .i64 (nl : Int), .slice V nv cv, .slice H nh ch, .int .i64 (j : Int)] 61)) w.heap.size [.int .i64 (nl : Int), .slice V nv cv, .slice H nh ch, .int .i64 (j : Int)] := Bl.new' (by simp) (by simp)
      have ca1_0 := (b3.2 0 _ rfl).1
      have ca1_1 := (b3.2 1 _ rfl).1
      have ca1_2 := (b3.2 2 _ rfl).1
      have ca1_3 := (b3.2 3 _ rfl).1
      have hcn := cell_keeps hcn kw
      go_wp2_with fail
      clear ca1_0 ca1_1 ca1_2 ca1_3
      refine (HLC.out _).mono ?_
      rintro e w2 ⟨rfl, k2⟩
      replace b3 := b3.keeps k2
      replace kw := Keeps.trans kw k2
      have lt3 := b3.lt
      have sz4 := kw.size
      clear k2
      clear HLC
      have ca5_0 := (b3.2 0 _ rfl).1
      have ca5_1 := (b3.2 1 _ rfl).1
      have ca5_2 := (b3.2 2 _ rfl).1
      have ca5_3 := (b3.2 3 _ rfl).1
      go_wp2_with fail
      clear ca5_0 ca5_1 ca5_2 ca5_3
      refine (nNames_any (hs.keeps kw) (hv.keeps kw) HS.out HB.out).mono ?_
      rintro e w6 ⟨rfl, k6⟩
      rw [hsBe]
      replace b3 := b3.keeps k6
      replace kw := Keeps.trans kw k6
      have lt7 := b3.lt
      have sz8 := kw.size
      clear k6
      have HSB := hid hsBe
      clear hsBe
      have ca9_0 := (b3.2 0 _ rfl).1
      have ca9_1 := (b3.2 1 _ rfl).1
      have ca9_2 := (b3.2 2 _ rfl).1
      have ca9_3 := (b3.2 3 _ rfl).1
      go_wp2_with fail
      clear ca9_0 ca9_1 ca9_2 ca9_3
      clear hza hzb hzc hzd hze hsB hsL hs1 hcn HVN
      obtain ⟨base, hbase⟩ : ∃ z, hdT l ((nl : Int), vs, ws, (j : Int)) ++ (lvT ((nl : Int), vs, ws, (j : Int)) ++ byT l ((nl : Int), vs, ws, (j : Int))) = z := ⟨_, rfl⟩
      rw [hbase] at HBA HTW
      clear hbase
      obtain ⟨s0, hs0'⟩ : ∃ z, (((({ data := #[115, 117, 109, 32] } : ByteArray) ++ sN) ++ (({ data := #[32, 108, 101, 118, 101, 108, 32] } : ByteArray) ++ sL)) ++ (({ data := #[32, 98, 121, 32] } : ByteArray) ++ sB)) = z := ⟨_, rfl⟩
      rw [hs0'] at HBA HZ2
      have HS0 := hid hs0'
      clear hs0'
      go_loopw [5, 6, 41] (fun sv fv i wr => ∃ (k : Nat) (s : ByteArray) (f : Bool), sv = .string s ∧ fv = .bool f ∧ i = .int .i64 k ∧ k ≤ nh ∧ Hid (s = bs (base ++ (wT l ws k).1)) ∧ Hid (f = !(wT l ws k).2) ∧ s.size ≤ 130 + 40 * k ∧ Keeps w wr) (fun _ _ i _ => nh - (intOf i).toNat)
      case atStart => exact ⟨0, _, true, rfl, rfl, rfl, Nat.zero_le _, hid (by rw [HS0.out, HBA.out]; simp [wT]), hid rfl, by rw [HS0.out]; have := HZ2.out; omega, kw⟩
      clear kw b3
      case round =>
        obtain ⟨k, s, f, rfl, rfl, rfl, hk, HE, HF, hsz, kw⟩ := hrel
        by_cases hlt : k < nh
        rotate_left
        · obtain rfl : k = nh := by omega
          have HX := hid (show s = bs (tabT l ((nl : Int), vs, ws, (j : Int))) by rw [HE.out, HTW.out])
          go_wp2
          go_ret
          exact ⟨ret_str HX.out, kw⟩
        obtain ⟨b2, off2, x, rfl, _, _, hcw, hx⟩ := (hw.keeps kw).at_ hlt
        have hb := HWB.out k hlt
        rw [← hx.out] at hb
        have hi1 : (k : Int) < (nh : Int) := by omega
        have hkq : k < q := by have := HNW.out; omega
        have hi2 : (k : Int) < (q : Int) := by omega
        have hnh : nh ≤ 6 := by have := HNW.out; have := HQL.out; omega
        by_cases hx0 : x = 0
        · subst hx0
          have HN := hid (wT_no (l := l) (k := k) hx.out.symm)
          clear hx hb
          go_wp2_with fail
          go_roundw
          case rel => exact ⟨k + 1, s, f, rfl, rfl, by go_num, hlt, hid (by rw [HN.out]; exact HE.out), hid (by rw [HN.out]; exact HF.out), by omega, kw⟩
          case measure => simp [intOf]; omega
        have t1 : (x == 0) = false := by rw [beq_eq_false_iff_ne]; exact hx0
        have HN := hid (wT_yes (l := l) (ws := ws) (k := k) (by rw [← hx.out]; exact hx0))
        rw [← hx.out] at HN
        have hcn := vname (hs.keeps kw) hkq
        have hs2 := nmT_len HS.out (show k < l.length by rw [HQL.out]; exact hkq)
        rw [← bs_size] at hs2
        obtain ⟨sN, hsN⟩ : ∃ z, bs (nmT l k) = z := ⟨_, rfl⟩
        rw [hsN] at hcn hs2
        have HSN := hid hsN
        clear hsN hx hx0
        cases f
        rotate_left
        · obtain ⟨p2, hp2⟩ : ∃ z, (wT l ws k).2 = z := ⟨_, rfl⟩
          have HP := hid (show p2 = false by have := HF.out; rw [hp2] at this; cases p2 <;> first | rfl | cases this)
          have HPR := hid (show ((s ++ ({ data := #[32, 119, 104, 101, 114, 101] } : ByteArray)) ++ ((({ data := #[32] } : ByteArray) ++ sN) ++ ({ data := #[61] } : ByteArray))) = bs (base ++ ((wT l ws k).1 ++ ([32, 119, 104, 101, 114, 101] ++ ([32] ++ (nmT l k ++ [61]))))) by
            rw [HE.out, ← HSN.out, show ({ data := #[32, 119, 104, 101, 114, 101] } : ByteArray) = bs [32, 119, 104, 101, 114, 101] from rfl, show ({ data := #[32] } : ByteArray) = bs [32] from rfl, show ({ data := #[61] } : ByteArray) = bs [61] from rfl, bs_app, bs_app, bs_app, bs_app]
            simp only [List.append_assoc, List.nil_append])
          have HN2 := hid (show wT l ws (k + 1) = ((wT l ws k).1 ++ ([32, 119, 104, 101, 114, 101] ++ ([32] ++ (nmT l k ++ ([61] ++ setT x)))), true) by rw [HN.out, hp2, HP.out]; rfl)
          clear hp2 HN
          have hzf : ¬ (9223372036854775807 < 1 + sN.size) := by omega
          have hzg : ¬ (9223372036854775807 < 1 + sN.size + 1) := by omega
          have hzh : ¬ (9223372036854775807 < s.size + 6 + (1 + sN.size + 1)) := by omega
          have hzi : ¬ (9223372036854775807 < s.size + 6) := by omega
          have HSP := hid (show ((s ++ ({ data := #[32, 119, 104, 101, 114, 101] } : ByteArray)) ++ ((({ data := #[32] } : ByteArray) ++ sN) ++ ({ data := #[61] } : ByteArray))).size ≤ 148 + 40 * k by
            have e : ((s ++ ({ data := #[32, 119, 104, 101, 114, 101] } : ByteArray)) ++ ((({ data := #[32] } : ByteArray) ++ sN) ++ ({ data := #[61] } : ByteArray))).size = s.size + 6 + (1 + sN.size + 1) := by simp only [ByteArray.size_append]; first | rfl | (simp; done) | omega
            omega)
          go_wp2_with fail
          refine (eLevels_any hb).mono ?_
          rintro e w7 ⟨E, ce, rfl, hE, k7⟩
          replace kw := Keeps.trans kw k7
          clear k7 hzf hzg hzh hzi hcn hcw hsz
          obtain ⟨pv, hpv⟩ : ∃ z, ((s ++ ({ data := #[32, 119, 104, 101, 114, 101] } : ByteArray)) ++ ((({ data := #[32] } : ByteArray) ++ sN) ++ ({ data := #[61] } : ByteArray))) = z := ⟨_, rfl⟩
          rw [hpv] at HPR HSP
          have HPV := hid hpv
          clear hpv
          obtain ⟨ne, hne⟩ : ∃ z, (lvI x 8).length = z := ⟨_, rfl⟩
          rw [hne] at hE ⊢
          have HNE := hid hne
          have hne8 : ne ≤ 8 := by have := lvI_len x 8; omega
          clear hne
          go_wp2_with fail
          go_loopw [5, 63] (fun sv i wr => ∃ (m : Nat) (u : ByteArray), sv = .string u ∧ i = .int .i64 m ∧ m ≤ ne ∧ Hid (u = bs (base ++ ((wT l ws k).1 ++ ([32, 119, 104, 101, 114, 101] ++ ([32] ++ (nmT l k ++ ([61] ++ joinC ((digs x 8).take m)))))))) ∧ Keeps w7 wr) (fun _ i _ => ne - (intOf i).toNat)
          case atStart => exact ⟨0, _, rfl, rfl, Nat.zero_le _, hid (by rw [HPV.out, HPR.out]; simp [joinC_nil]), keeps_refl _⟩
          case round =>
            obtain ⟨m, u, rfl, rfl, hm9, HU, k9⟩ := hrel
            have HUS := hid (show u.size ≤ 170 + 40 * k by
              have h1 := congrArg ByteArray.size HPR.out
              rw [bs_size] at h1
              have h2 := joinC_dt x m
              have h3 := HSP.out
              rw [HU.out, bs_size]
              simp only [List.length_append] at h1 ⊢
              omega)
            have hus := HUS.out
            clear HUS
            by_cases hm7 : m < ne
            rotate_left
            · obtain rfl : m = ne := by omega
              have HR := hid (show u = bs (base ++ (wT l ws (k + 1)).1) by
                rw [HU.out, HN2.out, ← HNE.out, digs_full]; rfl)
              have HKW := hid (Keeps.trans kw k9)
              have HRS := hid (show u.size ≤ 130 + 40 * (k + 1) by
                have h1 := wT_len (ws := ws) HS.out (k + 1) (by rw [HQL.out]; omega)
                have h2 := congrArg ByteArray.size HBA.out
                rw [bs_size] at h2
                rw [HR.out, bs_size, List.length_append]
                have := HZ2.out
                omega)
              clear kw k9 hE HU hus
              go_wp2_with fail
              go_roundw
              case rel => exact ⟨k + 1, u, false, rfl, rfl, by go_num, hlt, HR, hid (by rw [HN2.out]; rfl), HRS.out, HKW.out⟩
              case measure => simp [intOf]; omega
            obtain ⟨b5, off5, y, e5, _, _, hcy, hy⟩ := (hE.keeps k9).at_ hm7
            subst e5
            obtain ⟨dd, hd1, hd2⟩ := lvI_at (s := x) (m := m) (by rw [HNE.out]; exact hm7)
            have hyd : y = (dd : Int) := hy.out.trans hd1
            subst hyd
            have hT := digs_take (s := x) (m := m) (d := dd) (by rw [HNE.out]; exact hm7) hd1.symm
            have hsD := dec_len dd (by omega)
            rw [← bs_size] at hsD
            have hi5 : (m : Int) < (ne : Int) := by omega
            have HLD := hid (fun (W : World) => l1Num_any dd (by omega) W)
            obtain ⟨sD, hsDe⟩ : ∃ z, bs (Lib.decDigits dd) = z := ⟨_, rfl⟩
            rw [hsDe] at hsD HLD
            by_cases hm0 : m = 0
            · have HR := hid (show u ++ sD = bs (base ++ ((wT l ws k).1 ++ ([32, 119, 104, 101, 114, 101] ++ ([32] ++ (nmT l k ++ ([61] ++ joinC ((digs x 8).take (m + 1)))))))) by
                have e1 : joinC ((digs x 8).take m) = [] := by rw [hm0]; rfl
                have e2 : joinC ((digs x 8).take (m + 1)) = Lib.decDigits dd := by rw [hT, hm0]; exact joinC_one _
                rw [HU.out, ← hsDe, e1, e2, bs_app]
                simp only [List.append_assoc, List.append_nil])
              have hm1 : ¬ ((m : Int) > 0) := by omega
              have hzj : ¬ (9223372036854775807 < u.size + sD.size) := by omega
              clear hy hd1 hT hsDe hm0 hE
              go_wp2_with fail
              refine (HLD.out _).mono ?_
              rintro e wg ⟨rfl, kg⟩
              replace k9 := Keeps.trans k9 kg
              clear kg hcy
              go_wp2_with fail
              go_roundw
              case rel => exact ⟨m + 1, _, rfl, by go_num, hm7, HR, k9⟩
              case measure => simp [intOf]; omega
            · have HR := hid (show (u ++ ({ data := #[44] } : ByteArray)) ++ sD = bs (base ++ ((wT l ws k).1 ++ ([32, 119, 104, 101, 114, 101] ++ ([32] ++ (nmT l k ++ ([61] ++ joinC ((digs x 8).take (m + 1)))))))) by
                rw [HU.out, ← hsDe, hT, joinC_snoc (digs_ne (by rw [HNE.out]; exact hm7) (by omega)), show ({ data := #[44] } : ByteArray) = bs [44] from rfl, bs_app, bs_app]
                simp only [List.append_assoc])
              have hm1 : ((m : Int) > 0) := by omega
              have hzj : ¬ (9223372036854775807 < u.size + 1) := by omega
              have hzk : ¬ (9223372036854775807 < u.size + 1 + sD.size) := by omega
              clear hy hd1 hT hsDe hm0 hE
              go_wp2_with fail
              refine (HLD.out _).mono ?_
              rintro e wg ⟨rfl, kg⟩
              replace k9 := Keeps.trans k9 kg
              clear kg hcy
              go_wp2_with fail
              go_roundw
              case rel => exact ⟨m + 1, _, rfl, by go_num, hm7, HR, k9⟩
              case measure => simp [intOf]; omega
        · obtain ⟨p2, hp2⟩ : ∃ z, (wT l ws k).2 = z := ⟨_, rfl⟩
          have HP := hid (show p2 = true by have := HF.out; rw [hp2] at this; cases p2 <;> first | rfl | cases this)
          have HPR := hid (show (s ++ ((({ data := #[32] } : ByteArray) ++ sN) ++ ({ data := #[61] } : ByteArray))) = bs (base ++ ((wT l ws k).1 ++ ([] ++ ([32] ++ (nmT l k ++ [61]))))) by
            rw [HE.out, ← HSN.out, show ({ data := #[32] } : ByteArray) = bs [32] from rfl, show ({ data := #[61] } : ByteArray) = bs [61] from rfl, bs_app, bs_app, bs_app]
            simp only [List.append_assoc, List.nil_append])
          have HN2 := hid (show wT l ws (k + 1) = ((wT l ws k).1 ++ ([] ++ ([32] ++ (nmT l k ++ ([61] ++ setT x)))), true) by rw [HN.out, hp2, HP.out]; rfl)
          clear hp2 HN
          have hzf : ¬ (9223372036854775807 < 1 + sN.size) := by omega
          have hzg : ¬ (9223372036854775807 < 1 + sN.size + 1) := by omega
          have hzh : ¬ (9223372036854775807 < s.size + (1 + sN.size + 1)) := by omega
          have HSP := hid (show (s ++ ((({ data := #[32] } : ByteArray) ++ sN) ++ ({ data := #[61] } : ByteArray))).size ≤ 148 + 40 * k by
            have e : (s ++ ((({ data := #[32] } : ByteArray) ++ sN) ++ ({ data := #[61] } : ByteArray))).size = s.size + (1 + sN.size + 1) := by simp only [ByteArray.size_append]; first | rfl | (simp; done) | omega
            omega)
          go_wp2_with fail
          refine (eLevels_any hb).mono ?_
          rintro e w7 ⟨E, ce, rfl, hE, k7⟩
          replace kw := Keeps.trans kw k7
          clear k7 hzf hzg hzh hcn hcw hsz
          obtain ⟨pv, hpv⟩ : ∃ z, (s ++ ((({ data := #[32] } : ByteArray) ++ sN) ++ ({ data := #[61] } : ByteArray))) = z := ⟨_, rfl⟩
          rw [hpv] at HPR HSP
          have HPV := hid hpv
          clear hpv
          obtain ⟨ne, hne⟩ : ∃ z, (lvI x 8).length = z := ⟨_, rfl⟩
          rw [hne] at hE ⊢
          have HNE := hid hne
          have hne8 : ne ≤ 8 := by have := lvI_len x 8; omega
          clear hne
          go_wp2_with fail
          go_loopw [5, 63] (fun sv i wr => ∃ (m : Nat) (u : ByteArray), sv = .string u ∧ i = .int .i64 m ∧ m ≤ ne ∧ Hid (u = bs (base ++ ((wT l ws k).1 ++ ([] ++ ([32] ++ (nmT l k ++ ([61] ++ joinC ((digs x 8).take m)))))))) ∧ Keeps w7 wr) (fun _ i _ => ne - (intOf i).toNat)
          case atStart => exact ⟨0, _, rfl, rfl, Nat.zero_le _, hid (by rw [HPV.out, HPR.out]; simp [joinC_nil]), keeps_refl _⟩
          case round =>
            obtain ⟨m, u, rfl, rfl, hm9, HU, k9⟩ := hrel
            have HUS := hid (show u.size ≤ 170 + 40 * k by
              have h1 := congrArg ByteArray.size HPR.out
              rw [bs_size] at h1
              have h2 := joinC_dt x m
              have h3 := HSP.out
              rw [HU.out, bs_size]
              simp only [List.length_append] at h1 ⊢
              omega)
            have hus := HUS.out
            clear HUS
            by_cases hm7 : m < ne
            rotate_left
            · obtain rfl : m = ne := by omega
              have HR := hid (show u = bs (base ++ (wT l ws (k + 1)).1) by
                rw [HU.out, HN2.out, ← HNE.out, digs_full]; rfl)
              have HKW := hid (Keeps.trans kw k9)
              have HRS := hid (show u.size ≤ 130 + 40 * (k + 1) by
                have h1 := wT_len (ws := ws) HS.out (k + 1) (by rw [HQL.out]; omega)
                have h2 := congrArg ByteArray.size HBA.out
                rw [bs_size] at h2
                rw [HR.out, bs_size, List.length_append]
                have := HZ2.out
                omega)
              clear kw k9 hE HU hus
              go_wp2_with fail
              go_roundw
              case rel => exact ⟨k + 1, u, false, rfl, rfl, by go_num, hlt, HR, hid (by rw [HN2.out]; rfl), HRS.out, HKW.out⟩
              case measure => simp [intOf]; omega
            obtain ⟨b5, off5, y, e5, _, _, hcy, hy⟩ := (hE.keeps k9).at_ hm7
            subst e5
            obtain ⟨dd, hd1, hd2⟩ := lvI_at (s := x) (m := m) (by rw [HNE.out]; exact hm7)
            have hyd : y = (dd : Int) := hy.out.trans hd1
            subst hyd
            have hT := digs_take (s := x) (m := m) (d := dd) (by rw [HNE.out]; exact hm7) hd1.symm
            have hsD := dec_len dd (by omega)
            rw [← bs_size] at hsD
            have hi5 : (m : Int) < (ne : Int) := by omega
            have HLD := hid (fun (W : World) => l1Num_any dd (by omega) W)
            obtain ⟨sD, hsDe⟩ : ∃ z, bs (Lib.decDigits dd) = z := ⟨_, rfl⟩
            rw [hsDe] at hsD HLD
            by_cases hm0 : m = 0
            · have HR := hid (show u ++ sD = bs (base ++ ((wT l ws k).1 ++ ([] ++ ([32] ++ (nmT l k ++ ([61] ++ joinC ((digs x 8).take (m + 1)))))))) by
                have e1 : joinC ((digs x 8).take m) = [] := by rw [hm0]; rfl
                have e2 : joinC ((digs x 8).take (m + 1)) = Lib.decDigits dd := by rw [hT, hm0]; exact joinC_one _
                rw [HU.out, ← hsDe, e1, e2, bs_app]
                simp only [List.append_assoc, List.append_nil])
              have hm1 : ¬ ((m : Int) > 0) := by omega
              have hzj : ¬ (9223372036854775807 < u.size + sD.size) := by omega
              clear hy hd1 hT hsDe hm0 hE
              go_wp2_with fail
              refine (HLD.out _).mono ?_
              rintro e wg ⟨rfl, kg⟩
              replace k9 := Keeps.trans k9 kg
              clear kg hcy
              go_wp2_with fail
              go_roundw
              case rel => exact ⟨m + 1, _, rfl, by go_num, hm7, HR, k9⟩
              case measure => simp [intOf]; omega
            · have HR := hid (show (u ++ ({ data := #[44] } : ByteArray)) ++ sD = bs (base ++ ((wT l ws k).1 ++ ([] ++ ([32] ++ (nmT l k ++ ([61] ++ joinC ((digs x 8).take (m + 1)))))))) by
                rw [HU.out, ← hsDe, hT, joinC_snoc (digs_ne (by rw [HNE.out]; exact hm7) (by omega)), show ({ data := #[44] } : ByteArray) = bs [44] from rfl, bs_app, bs_app]
                simp only [List.append_assoc])
              have hm1 : ((m : Int) > 0) := by omega
              have hzj : ¬ (9223372036854775807 < u.size + 1) := by omega
              have hzk : ¬ (9223372036854775807 < u.size + 1 + sD.size) := by omega
              clear hy hd1 hT hsDe hm0 hE
              go_wp2_with fail
              refine (HLD.out _).mono ?_
              rintro e wg ⟨rfl, kg⟩
              replace k9 := Keeps.trans k9 kg
              clear kg hcy
              go_wp2_with fail
              go_roundw
              case rel => exact ⟨m + 1, _, rfl, by go_num, hm7, HR, k9⟩
              case measure => simp [intOf]; omega
    · have HBY := hid (show byT l ((nl : Int), vs, ws, (j : Int)) = [] from if_pos (show vs.length = 0 by rw [HVL.out]; omega))
      have hv1 : ¬ ((nv : Int) > 0) := by omega
      have HBA := hid (show ((({ data := #[115, 117, 109, 32] } : ByteArray) ++ sN) ++ (({ data := #[32, 108, 101, 118, 101, 108, 32] } : ByteArray) ++ sL)) = bs (hdT l ((nl : Int), vs, ws, (j : Int)) ++ (lvT ((nl : Int), vs, ws, (j : Int)) ++ byT l ((nl : Int), vs, ws, (j : Int)))) by
        rw [HHD.out, HLV.out, HBY.out, ← HLE.out, show ({ data := #[32, 108, 101, 118, 101, 108, 32] } : ByteArray) = bs [32, 108, 101, 118, 101, 108, 32] from rfl, bs_app, bs_app]
        simp only [List.append_nil])
      have HZ2 := hid (show ((({ data := #[115, 117, 109, 32] } : ByteArray) ++ sN) ++ (({ data := #[32, 108, 101, 118, 101, 108, 32] } : ByteArray) ++ sL)).size ≤ 130 by
        have e : ((({ data := #[115, 117, 109, 32] } : ByteArray) ++ sN) ++ (({ data := #[32, 108, 101, 118, 101, 108, 32] } : ByteArray) ++ sL)).size = 4 + sN.size + (7 + sL.size) := by simp only [ByteArray.size_append]; first | rfl | (simp; done) | omega
        omega)
      have HTW := hid (show tabT l ((nl : Int), vs, ws, (j : Int)) = (hdT l ((nl : Int), vs, ws, (j : Int)) ++ (lvT ((nl : Int), vs, ws, (j : Int)) ++ byT l ((nl : Int), vs, ws, (j : Int)))) ++ (wT l ws nh).1 by rw [HTE.out, HWL.out]; simp only [List.append_assoc])
      clear HTE HHD HLV HBY
      go_enter Tryz.func64, Tryz.ntmps64
      have kw := keeps_refl w
      replace kw := Keeps.trans kw (keeps_alloc w (.cells #[.int .i64 (nl : Int), .slice V nv cv, .slice H nh ch, .int .i64 (j : Int)] 61))
      have b3 : Bl (w.alloc (.cells #[.int .i64 (nl : Int), .slice V nv cv, .slice H nh ch, .int .i64 (j : Int)] 61)) w.heap.size [.int .i64 (nl : Int), .slice V nv cv, .slice H nh ch, .int .i64 (j : Int)] := Bl.new' (by simp) (by simp)
      have ca1_0 := (b3.2 0 _ rfl).1
      have ca1_1 := (b3.2 1 _ rfl).1
      have ca1_2 := (b3.2 2 _ rfl).1
      have ca1_3 := (b3.2 3 _ rfl).1
      have hcn := cell_keeps hcn kw
      go_wp2_with fail
      clear ca1_0 ca1_1 ca1_2 ca1_3
      refine (HLC.out _).mono ?_
      rintro e w2 ⟨rfl, k2⟩
      replace b3 := b3.keeps k2
      replace kw := Keeps.trans kw k2
      have lt3 := b3.lt
      have sz4 := kw.size
      clear k2
      clear HLC
      have ca5_0 := (b3.2 0 _ rfl).1
      have ca5_1 := (b3.2 1 _ rfl).1
      have ca5_2 := (b3.2 2 _ rfl).1
      have ca5_3 := (b3.2 3 _ rfl).1
      go_wp2_with fail
      clear ca5_0 ca5_1 ca5_2 ca5_3
      clear hza hzb hzc hsL hs1 hcn HVN
      obtain ⟨base, hbase⟩ : ∃ z, hdT l ((nl : Int), vs, ws, (j : Int)) ++ (lvT ((nl : Int), vs, ws, (j : Int)) ++ byT l ((nl : Int), vs, ws, (j : Int))) = z := ⟨_, rfl⟩
      rw [hbase] at HBA HTW
      clear hbase
      obtain ⟨s0, hs0'⟩ : ∃ z, ((({ data := #[115, 117, 109, 32] } : ByteArray) ++ sN) ++ (({ data := #[32, 108, 101, 118, 101, 108, 32] } : ByteArray) ++ sL)) = z := ⟨_, rfl⟩
      rw [hs0'] at HBA HZ2
      have HS0 := hid hs0'
      clear hs0'
      go_loopw [5, 6, 41] (fun sv fv i wr => ∃ (k : Nat) (s : ByteArray) (f : Bool), sv = .string s ∧ fv = .bool f ∧ i = .int .i64 k ∧ k ≤ nh ∧ Hid (s = bs (base ++ (wT l ws k).1)) ∧ Hid (f = !(wT l ws k).2) ∧ s.size ≤ 130 + 40 * k ∧ Keeps w wr) (fun _ _ i _ => nh - (intOf i).toNat)
      case atStart => exact ⟨0, _, true, rfl, rfl, rfl, Nat.zero_le _, hid (by rw [HS0.out, HBA.out]; simp [wT]), hid rfl, by rw [HS0.out]; have := HZ2.out; omega, kw⟩
      clear kw b3
      case round =>
        obtain ⟨k, s, f, rfl, rfl, rfl, hk, HE, HF, hsz, kw⟩ := hrel
        by_cases hlt : k < nh
        rotate_left
        · obtain rfl : k = nh := by omega
          have HX := hid (show s = bs (tabT l ((nl : Int), vs, ws, (j : Int))) by rw [HE.out, HTW.out])
          go_wp2
          go_ret
          exact ⟨ret_str HX.out, kw⟩
        obtain ⟨b2, off2, x, rfl, _, _, hcw, hx⟩ := (hw.keeps kw).at_ hlt
        have hb := HWB.out k hlt
        rw [← hx.out] at hb
        have hi1 : (k : Int) < (nh : Int) := by omega
        have hkq : k < q := by have := HNW.out; omega
        have hi2 : (k : Int) < (q : Int) := by omega
        have hnh : nh ≤ 6 := by have := HNW.out; have := HQL.out; omega
        by_cases hx0 : x = 0
        · subst hx0
          have HN := hid (wT_no (l := l) (k := k) hx.out.symm)
          clear hx hb
          go_wp2_with fail
          go_roundw
          case rel => exact ⟨k + 1, s, f, rfl, rfl, by go_num, hlt, hid (by rw [HN.out]; exact HE.out), hid (by rw [HN.out]; exact HF.out), by omega, kw⟩
          case measure => simp [intOf]; omega
        have t1 : (x == 0) = false := by rw [beq_eq_false_iff_ne]; exact hx0
        have HN := hid (wT_yes (l := l) (ws := ws) (k := k) (by rw [← hx.out]; exact hx0))
        rw [← hx.out] at HN
        have hcn := vname (hs.keeps kw) hkq
        have hs2 := nmT_len HS.out (show k < l.length by rw [HQL.out]; exact hkq)
        rw [← bs_size] at hs2
        obtain ⟨sN, hsN⟩ : ∃ z, bs (nmT l k) = z := ⟨_, rfl⟩
        rw [hsN] at hcn hs2
        have HSN := hid hsN
        clear hsN hx hx0
        cases f
        rotate_left
        · obtain ⟨p2, hp2⟩ : ∃ z, (wT l ws k).2 = z := ⟨_, rfl⟩
          have HP := hid (show p2 = false by have := HF.out; rw [hp2] at this; cases p2 <;> first | rfl | cases this)
          have HPR := hid (show ((s ++ ({ data := #[32, 119, 104, 101, 114, 101] } : ByteArray)) ++ ((({ data := #[32] } : ByteArray) ++ sN) ++ ({ data := #[61] } : ByteArray))) = bs (base ++ ((wT l ws k).1 ++ ([32, 119, 104, 101, 114, 101] ++ ([32] ++ (nmT l k ++ [61]))))) by
            rw [HE.out, ← HSN.out, show ({ data := #[32, 119, 104, 101, 114, 101] } : ByteArray) = bs [32, 119, 104, 101, 114, 101] from rfl, show ({ data := #[32] } : ByteArray) = bs [32] from rfl, show ({ data := #[61] } : ByteArray) = bs [61] from rfl, bs_app, bs_app, bs_app, bs_app]
            simp only [List.append_assoc, List.nil_append])
          have HN2 := hid (show wT l ws (k + 1) = ((wT l ws k).1 ++ ([32, 119, 104, 101, 114, 101] ++ ([32] ++ (nmT l k ++ ([61] ++ setT x)))), true) by rw [HN.out, hp2, HP.out]; rfl)
          clear hp2 HN
          have hzf : ¬ (9223372036854775807 < 1 + sN.size) := by omega
          have hzg : ¬ (9223372036854775807 < 1 + sN.size + 1) := by omega
          have hzh : ¬ (9223372036854775807 < s.size + 6 + (1 + sN.size + 1)) := by omega
          have hzi : ¬ (9223372036854775807 < s.size + 6) := by omega
          have HSP := hid (show ((s ++ ({ data := #[32, 119, 104, 101, 114, 101] } : ByteArray)) ++ ((({ data := #[32] } : ByteArray) ++ sN) ++ ({ data := #[61] } : ByteArray))).size ≤ 148 + 40 * k by
            have e : ((s ++ ({ data := #[32, 119, 104, 101, 114, 101] } : ByteArray)) ++ ((({ data := #[32] } : ByteArray) ++ sN) ++ ({ data := #[61] } : ByteArray))).size = s.size + 6 + (1 + sN.size + 1) := by simp only [ByteArray.size_append]; first | rfl | (simp; done) | omega
            omega)
          go_wp2_with fail
          refine (eLevels_any hb).mono ?_
          rintro e w7 ⟨E, ce, rfl, hE, k7⟩
          replace kw := Keeps.trans kw k7
          clear k7 hzf hzg hzh hzi hcn hcw hsz
          obtain ⟨pv, hpv⟩ : ∃ z, ((s ++ ({ data := #[32, 119, 104, 101, 114, 101] } : ByteArray)) ++ ((({ data := #[32] } : ByteArray) ++ sN) ++ ({ data := #[61] } : ByteArray))) = z := ⟨_, rfl⟩
          rw [hpv] at HPR HSP
          have HPV := hid hpv
          clear hpv
          obtain ⟨ne, hne⟩ : ∃ z, (lvI x 8).length = z := ⟨_, rfl⟩
          rw [hne] at hE ⊢
          have HNE := hid hne
          have hne8 : ne ≤ 8 := by have := lvI_len x 8; omega
          clear hne
          go_wp2_with fail
          go_loopw [5, 63] (fun sv i wr => ∃ (m : Nat) (u : ByteArray), sv = .string u ∧ i = .int .i64 m ∧ m ≤ ne ∧ Hid (u = bs (base ++ ((wT l ws k).1 ++ ([32, 119, 104, 101, 114, 101] ++ ([32] ++ (nmT l k ++ ([61] ++ joinC ((digs x 8).take m)))))))) ∧ Keeps w7 wr) (fun _ i _ => ne - (intOf i).toNat)
          case atStart => exact ⟨0, _, rfl, rfl, Nat.zero_le _, hid (by rw [HPV.out, HPR.out]; simp [joinC_nil]), keeps_refl _⟩
          case round =>
            obtain ⟨m, u, rfl, rfl, hm9, HU, k9⟩ := hrel
            have HUS := hid (show u.size ≤ 170 + 40 * k by
              have h1 := congrArg ByteArray.size HPR.out
              rw [bs_size] at h1
              have h2 := joinC_dt x m
              have h3 := HSP.out
              rw [HU.out, bs_size]
              simp only [List.length_append] at h1 ⊢
              omega)
            have hus := HUS.out
            clear HUS
            by_cases hm7 : m < ne
            rotate_left
            · obtain rfl : m = ne := by omega
              have HR := hid (show u = bs (base ++ (wT l ws (k + 1)).1) by
                rw [HU.out, HN2.out, ← HNE.out, digs_full]; rfl)
              have HKW := hid (Keeps.trans kw k9)
              have HRS := hid (show u.size ≤ 130 + 40 * (k + 1) by
                have h1 := wT_len (ws := ws) HS.out (k + 1) (by rw [HQL.out]; omega)
                have h2 := congrArg ByteArray.size HBA.out
                rw [bs_size] at h2
                rw [HR.out, bs_size, List.length_append]
                have := HZ2.out
                omega)
              clear kw k9 hE HU hus
              go_wp2_with fail
              go_roundw
              case rel => exact ⟨k + 1, u, false, rfl, rfl, by go_num, hlt, HR, hid (by rw [HN2.out]; rfl), HRS.out, HKW.out⟩
              case measure => simp [intOf]; omega
            obtain ⟨b5, off5, y, e5, _, _, hcy, hy⟩ := (hE.keeps k9).at_ hm7
            subst e5
            obtain ⟨dd, hd1, hd2⟩ := lvI_at (s := x) (m := m) (by rw [HNE.out]; exact hm7)
            have hyd : y = (dd : Int) := hy.out.trans hd1
            subst hyd
            have hT := digs_take (s := x) (m := m) (d := dd) (by rw [HNE.out]; exact hm7) hd1.symm
            have hsD := dec_len dd (by omega)
            rw [← bs_size] at hsD
            have hi5 : (m : Int) < (ne : Int) := by omega
            have HLD := hid (fun (W : World) => l1Num_any dd (by omega) W)
            obtain ⟨sD, hsDe⟩ : ∃ z, bs (Lib.decDigits dd) = z := ⟨_, rfl⟩
            rw [hsDe] at hsD HLD
            by_cases hm0 : m = 0
            · have HR := hid (show u ++ sD = bs (base ++ ((wT l ws k).1 ++ ([32, 119, 104, 101, 114, 101] ++ ([32] ++ (nmT l k ++ ([61] ++ joinC ((digs x 8).take (m + 1)))))))) by
                have e1 : joinC ((digs x 8).take m) = [] := by rw [hm0]; rfl
                have e2 : joinC ((digs x 8).take (m + 1)) = Lib.decDigits dd := by rw [hT, hm0]; exact joinC_one _
                rw [HU.out, ← hsDe, e1, e2, bs_app]
                simp only [List.append_assoc, List.append_nil])
              have hm1 : ¬ ((m : Int) > 0) := by omega
              have hzj : ¬ (9223372036854775807 < u.size + sD.size) := by omega
              clear hy hd1 hT hsDe hm0 hE
              go_wp2_with fail
              refine (HLD.out _).mono ?_
              rintro e wg ⟨rfl, kg⟩
              replace k9 := Keeps.trans k9 kg
              clear kg hcy
              go_wp2_with fail
              go_roundw
              case rel => exact ⟨m + 1, _, rfl, by go_num, hm7, HR, k9⟩
              case measure => simp [intOf]; omega
            · have HR := hid (show (u ++ ({ data := #[44] } : ByteArray)) ++ sD = bs (base ++ ((wT l ws k).1 ++ ([32, 119, 104, 101, 114, 101] ++ ([32] ++ (nmT l k ++ ([61] ++ joinC ((digs x 8).take (m + 1)))))))) by
                rw [HU.out, ← hsDe, hT, joinC_snoc (digs_ne (by rw [HNE.out]; exact hm7) (by omega)), show ({ data := #[44] } : ByteArray) = bs [44] from rfl, bs_app, bs_app]
                simp only [List.append_assoc])
              have hm1 : ((m : Int) > 0) := by omega
              have hzj : ¬ (9223372036854775807 < u.size + 1) := by omega
              have hzk : ¬ (9223372036854775807 < u.size + 1 + sD.size) := by omega
              clear hy hd1 hT hsDe hm0 hE
              go_wp2_with fail
              refine (HLD.out _).mono ?_
              rintro e wg ⟨rfl, kg⟩
              replace k9 := Keeps.trans k9 kg
              clear kg hcy
              go_wp2_with fail
              go_roundw
              case rel => exact ⟨m + 1, _, rfl, by go_num, hm7, HR, k9⟩
              case measure => simp [intOf]; omega
        · obtain ⟨p2, hp2⟩ : ∃ z, (wT l ws k).2 = z := ⟨_, rfl⟩
          have HP := hid (show p2 = true by have := HF.out; rw [hp2] at this; cases p2 <;> first | rfl | cases this)
          have HPR := hid (show (s ++ ((({ data := #[32] } : ByteArray) ++ sN) ++ ({ data := #[61] } : ByteArray))) = bs (base ++ ((wT l ws k).1 ++ ([] ++ ([32] ++ (nmT l k ++ [61]))))) by
            rw [HE.out, ← HSN.out, show ({ data := #[32] } : ByteArray) = bs [32] from rfl, show ({ data := #[61] } : ByteArray) = bs [61] from rfl, bs_app, bs_app, bs_app]
            simp only [List.append_assoc, List.nil_append])
          have HN2 := hid (show wT l ws (k + 1) = ((wT l ws k).1 ++ ([] ++ ([32] ++ (nmT l k ++ ([61] ++ setT x)))), true) by rw [HN.out, hp2, HP.out]; rfl)
          clear hp2 HN
          have hzf : ¬ (9223372036854775807 < 1 + sN.size) := by omega
          have hzg : ¬ (9223372036854775807 < 1 + sN.size + 1) := by omega
          have hzh : ¬ (9223372036854775807 < s.size + (1 + sN.size + 1)) := by omega
          have HSP := hid (show (s ++ ((({ data := #[32] } : ByteArray) ++ sN) ++ ({ data := #[61] } : ByteArray))).size ≤ 148 + 40 * k by
            have e : (s ++ ((({ data := #[32] } : ByteArray) ++ sN) ++ ({ data := #[61] } : ByteArray))).size = s.size + (1 + sN.size + 1) := by simp only [ByteArray.size_append]; first | rfl | (simp; done) | omega
            omega)
          go_wp2_with fail
          refine (eLevels_any hb).mono ?_
          rintro e w7 ⟨E, ce, rfl, hE, k7⟩
          replace kw := Keeps.trans kw k7
          clear k7 hzf hzg hzh hcn hcw hsz
          obtain ⟨pv, hpv⟩ : ∃ z, (s ++ ((({ data := #[32] } : ByteArray) ++ sN) ++ ({ data := #[61] } : ByteArray))) = z := ⟨_, rfl⟩
          rw [hpv] at HPR HSP
          have HPV := hid hpv
          clear hpv
          obtain ⟨ne, hne⟩ : ∃ z, (lvI x 8).length = z := ⟨_, rfl⟩
          rw [hne] at hE ⊢
          have HNE := hid hne
          have hne8 : ne ≤ 8 := by have := lvI_len x 8; omega
          clear hne
          go_wp2_with fail
          go_loopw [5, 63] (fun sv i wr => ∃ (m : Nat) (u : ByteArray), sv = .string u ∧ i = .int .i64 m ∧ m ≤ ne ∧ Hid (u = bs (base ++ ((wT l ws k).1 ++ ([] ++ ([32] ++ (nmT l k ++ ([61] ++ joinC ((digs x 8).take m)))))))) ∧ Keeps w7 wr) (fun _ i _ => ne - (intOf i).toNat)
          case atStart => exact ⟨0, _, rfl, rfl, Nat.zero_le _, hid (by rw [HPV.out, HPR.out]; simp [joinC_nil]), keeps_refl _⟩
          case round =>
            obtain ⟨m, u, rfl, rfl, hm9, HU, k9⟩ := hrel
            have HUS := hid (show u.size ≤ 170 + 40 * k by
              have h1 := congrArg ByteArray.size HPR.out
              rw [bs_size] at h1
              have h2 := joinC_dt x m
              have h3 := HSP.out
              rw [HU.out, bs_size]
              simp only [List.length_append] at h1 ⊢
              omega)
            have hus := HUS.out
            clear HUS
            by_cases hm7 : m < ne
            rotate_left
            · obtain rfl : m = ne := by omega
              have HR := hid (show u = bs (base ++ (wT l ws (k + 1)).1) by
                rw [HU.out, HN2.out, ← HNE.out, digs_full]; rfl)
              have HKW := hid (Keeps.trans kw k9)
              have HRS := hid (show u.size ≤ 130 + 40 * (k + 1) by
                have h1 := wT_len (ws := ws) HS.out (k + 1) (by rw [HQL.out]; omega)
                have h2 := congrArg ByteArray.size HBA.out
                rw [bs_size] at h2
                rw [HR.out, bs_size, List.length_append]
                have := HZ2.out
                omega)
              clear kw k9 hE HU hus
              go_wp2_with fail
              go_roundw
              case rel => exact ⟨k + 1, u, false, rfl, rfl, by go_num, hlt, HR, hid (by rw [HN2.out]; rfl), HRS.out, HKW.out⟩
              case measure => simp [intOf]; omega
            obtain ⟨b5, off5, y, e5, _, _, hcy, hy⟩ := (hE.keeps k9).at_ hm7
            subst e5
            obtain ⟨dd, hd1, hd2⟩ := lvI_at (s := x) (m := m) (by rw [HNE.out]; exact hm7)
            have hyd : y = (dd : Int) := hy.out.trans hd1
            subst hyd
            have hT := digs_take (s := x) (m := m) (d := dd) (by rw [HNE.out]; exact hm7) hd1.symm
            have hsD := dec_len dd (by omega)
            rw [← bs_size] at hsD
            have hi5 : (m : Int) < (ne : Int) := by omega
            have HLD := hid (fun (W : World) => l1Num_any dd (by omega) W)
            obtain ⟨sD, hsDe⟩ : ∃ z, bs (Lib.decDigits dd) = z := ⟨_, rfl⟩
            rw [hsDe] at hsD HLD
            by_cases hm0 : m = 0
            · have HR := hid (show u ++ sD = bs (base ++ ((wT l ws k).1 ++ ([] ++ ([32] ++ (nmT l k ++ ([61] ++ joinC ((digs x 8).take (m + 1)))))))) by
                have e1 : joinC ((digs x 8).take m) = [] := by rw [hm0]; rfl
                have e2 : joinC ((digs x 8).take (m + 1)) = Lib.decDigits dd := by rw [hT, hm0]; exact joinC_one _
                rw [HU.out, ← hsDe, e1, e2, bs_app]
                simp only [List.append_assoc, List.append_nil])
              have hm1 : ¬ ((m : Int) > 0) := by omega
              have hzj : ¬ (9223372036854775807 < u.size + sD.size) := by omega
              clear hy hd1 hT hsDe hm0 hE
              go_wp2_with fail
              refine (HLD.out _).mono ?_
              rintro e wg ⟨rfl, kg⟩
              replace k9 := Keeps.trans k9 kg
              clear kg hcy
              go_wp2_with fail
              go_roundw
              case rel => exact ⟨m + 1, _, rfl, by go_num, hm7, HR, k9⟩
              case measure => simp [intOf]; omega
            · have HR := hid (show (u ++ ({ data := #[44] } : ByteArray)) ++ sD = bs (base ++ ((wT l ws k).1 ++ ([] ++ ([32] ++ (nmT l k ++ ([61] ++ joinC ((digs x 8).take (m + 1)))))))) by
                rw [HU.out, ← hsDe, hT, joinC_snoc (digs_ne (by rw [HNE.out]; exact hm7) (by omega)), show ({ data := #[44] } : ByteArray) = bs [44] from rfl, bs_app, bs_app]
                simp only [List.append_assoc])
              have hm1 : ((m : Int) > 0) := by omega
              have hzj : ¬ (9223372036854775807 < u.size + 1) := by omega
              have hzk : ¬ (9223372036854775807 < u.size + 1 + sD.size) := by omega
              clear hy hd1 hT hsDe hm0 hE
              go_wp2_with fail
              refine (HLD.out _).mono ?_
              rintro e wg ⟨rfl, kg⟩
              replace k9 := Keeps.trans k9 kg
              clear kg hcy
              go_wp2_with fail
              go_roundw
              case rel => exact ⟨m + 1, _, rfl, by go_num, hm7, HR, k9⟩
              case measure => simp [intOf]; omega
  · have hsn : ¬ sm ≥ 0 := by omega
    have HHD := hid (show ({ data := #[99, 111, 117, 110, 116] } : ByteArray) = bs (hdT l ((nl : Int), vs, ws, sm)) by
      have e : hdT l ((nl : Int), vs, ws, sm) = [99, 111, 117, 110, 116] := if_neg (show ¬ (0 : Int) ≤ sm by omega)
      rw [e]; rfl)
    clear hsm
    have hzb : ¬ (9223372036854775807 < 7 + sL.size) := by omega
    have hzc : ¬ (9223372036854775807 < 5 + (7 + sL.size)) := by omega
    by_cases hnv : 0 < nv
    · have HBY := hid (show byT l ((nl : Int), vs, ws, sm) = [32, 98, 121, 32] ++ joinC (nms l vs) from if_neg (show ¬ vs.length = 0 by rw [HVL.out]; omega))
      have hv1 : ((nv : Int) > 0) := by omega
      have hsB := joinC_nms HS.out HB.out (nms l vs).length
      rw [List.take_length, ← bs_size] at hsB
      obtain ⟨sB, hsBe⟩ : ∃ z, bs (joinC (nms l vs)) = z := ⟨_, rfl⟩
      rw [hsBe] at hsB
      have hzd : ¬ (9223372036854775807 < 4 + sB.size) := by omega
      have hze : ¬ (9223372036854775807 < 5 + (7 + sL.size) + (4 + sB.size)) := by omega
      have HBA := hid (show ((({ data := #[99, 111, 117, 110, 116] } : ByteArray) ++ (({ data := #[32, 108, 101, 118, 101, 108, 32] } : ByteArray) ++ sL)) ++ (({ data := #[32, 98, 121, 32] } : ByteArray) ++ sB)) = bs (hdT l ((nl : Int), vs, ws, sm) ++ (lvT ((nl : Int), vs, ws, sm) ++ byT l ((nl : Int), vs, ws, sm))) by
        rw [HHD.out, HLV.out, HBY.out, ← HLE.out, ← hsBe, show ({ data := #[32, 108, 101, 118, 101, 108, 32] } : ByteArray) = bs [32, 108, 101, 118, 101, 108, 32] from rfl, show ({ data := #[32, 98, 121, 32] } : ByteArray) = bs [32, 98, 121, 32] from rfl, bs_app, bs_app, bs_app, bs_app]
        simp only [List.append_assoc])
      have HZ2 := hid (show ((({ data := #[99, 111, 117, 110, 116] } : ByteArray) ++ (({ data := #[32, 108, 101, 118, 101, 108, 32] } : ByteArray) ++ sL)) ++ (({ data := #[32, 98, 121, 32] } : ByteArray) ++ sB)).size ≤ 130 by
        have e : ((({ data := #[99, 111, 117, 110, 116] } : ByteArray) ++ (({ data := #[32, 108, 101, 118, 101, 108, 32] } : ByteArray) ++ sL)) ++ (({ data := #[32, 98, 121, 32] } : ByteArray) ++ sB)).size = 5 + (7 + sL.size) + (4 + sB.size) := by simp only [ByteArray.size_append]; first | rfl | (simp; done) | omega
        omega)
      have HTW := hid (show tabT l ((nl : Int), vs, ws, sm) = (hdT l ((nl : Int), vs, ws, sm) ++ (lvT ((nl : Int), vs, ws, sm) ++ byT l ((nl : Int), vs, ws, sm))) ++ (wT l ws nh).1 by rw [HTE.out, HWL.out]; simp only [List.append_assoc])
      clear HTE HHD HLV HBY
      go_enter Tryz.func64, Tryz.ntmps64
      have kw := keeps_refl w
      replace kw := Keeps.trans kw (keeps_alloc w (.cells #[.int .i64 (nl : Int), .slice V nv cv, .slice H nh ch, .int .i64 sm] 61))
      have b3 : Bl (w.alloc (.cells #[.int .i64 (nl : Int), .slice V nv cv, .slice H nh ch, .int .i64 sm] 61)) w.heap.size [.int .i64 (nl : Int), .slice V nv cv, .slice H nh ch, .int .i64 sm] := Bl.new' (by simp) (by simp)
      have ca1_0 := (b3.2 0 _ rfl).1
      have ca1_1 := (b3.2 1 _ rfl).1
      have ca1_2 := (b3.2 2 _ rfl).1
      have ca1_3 := (b3.2 3 _ rfl).1
      go_wp2_with fail
      clear ca1_0 ca1_1 ca1_2 ca1_3
      refine (HLC.out _).mono ?_
      rintro e w2 ⟨rfl, k2⟩
      replace b3 := b3.keeps k2
      replace kw := Keeps.trans kw k2
      have lt3 := b3.lt
      have sz4 := kw.size
      clear k2
      clear HLC
      have ca5_0 := (b3.2 0 _ rfl).1
      have ca5_1 := (b3.2 1 _ rfl).1
      have ca5_2 := (b3.2 2 _ rfl).1
      have ca5_3 := (b3.2 3 _ rfl).1
      go_wp2_with fail
      clear ca5_0 ca5_1 ca5_2 ca5_3
      refine (nNames_any (hs.keeps kw) (hv.keeps kw) HS.out HB.out).mono ?_
      rintro e w6 ⟨rfl, k6⟩
      rw [hsBe]
      replace b3 := b3.keeps k6
      replace kw := Keeps.trans kw k6
      have lt7 := b3.lt
      have sz8 := kw.size
      clear k6
      have HSB := hid hsBe
      clear hsBe
      have ca9_0 := (b3.2 0 _ rfl).1
      have ca9_1 := (b3.2 1 _ rfl).1
      have ca9_2 := (b3.2 2 _ rfl).1
      have ca9_3 := (b3.2 3 _ rfl).1
      go_wp2_with fail
      clear ca9_0 ca9_1 ca9_2 ca9_3
      clear hzb hzc hzd hze hsB hsL HVN
      obtain ⟨base, hbase⟩ : ∃ z, hdT l ((nl : Int), vs, ws, sm) ++ (lvT ((nl : Int), vs, ws, sm) ++ byT l ((nl : Int), vs, ws, sm)) = z := ⟨_, rfl⟩
      rw [hbase] at HBA HTW
      clear hbase
      obtain ⟨s0, hs0'⟩ : ∃ z, ((({ data := #[99, 111, 117, 110, 116] } : ByteArray) ++ (({ data := #[32, 108, 101, 118, 101, 108, 32] } : ByteArray) ++ sL)) ++ (({ data := #[32, 98, 121, 32] } : ByteArray) ++ sB)) = z := ⟨_, rfl⟩
      rw [hs0'] at HBA HZ2
      have HS0 := hid hs0'
      clear hs0'
      go_loopw [5, 6, 41] (fun sv fv i wr => ∃ (k : Nat) (s : ByteArray) (f : Bool), sv = .string s ∧ fv = .bool f ∧ i = .int .i64 k ∧ k ≤ nh ∧ Hid (s = bs (base ++ (wT l ws k).1)) ∧ Hid (f = !(wT l ws k).2) ∧ s.size ≤ 130 + 40 * k ∧ Keeps w wr) (fun _ _ i _ => nh - (intOf i).toNat)
      case atStart => exact ⟨0, _, true, rfl, rfl, rfl, Nat.zero_le _, hid (by rw [HS0.out, HBA.out]; simp [wT]), hid rfl, by rw [HS0.out]; have := HZ2.out; omega, kw⟩
      clear kw b3
      case round =>
        obtain ⟨k, s, f, rfl, rfl, rfl, hk, HE, HF, hsz, kw⟩ := hrel
        by_cases hlt : k < nh
        rotate_left
        · obtain rfl : k = nh := by omega
          have HX := hid (show s = bs (tabT l ((nl : Int), vs, ws, sm)) by rw [HE.out, HTW.out])
          go_wp2
          go_ret
          exact ⟨ret_str HX.out, kw⟩
        obtain ⟨b2, off2, x, rfl, _, _, hcw, hx⟩ := (hw.keeps kw).at_ hlt
        have hb := HWB.out k hlt
        rw [← hx.out] at hb
        have hi1 : (k : Int) < (nh : Int) := by omega
        have hkq : k < q := by have := HNW.out; omega
        have hi2 : (k : Int) < (q : Int) := by omega
        have hnh : nh ≤ 6 := by have := HNW.out; have := HQL.out; omega
        by_cases hx0 : x = 0
        · subst hx0
          have HN := hid (wT_no (l := l) (k := k) hx.out.symm)
          clear hx hb
          go_wp2_with fail
          go_roundw
          case rel => exact ⟨k + 1, s, f, rfl, rfl, by go_num, hlt, hid (by rw [HN.out]; exact HE.out), hid (by rw [HN.out]; exact HF.out), by omega, kw⟩
          case measure => simp [intOf]; omega
        have t1 : (x == 0) = false := by rw [beq_eq_false_iff_ne]; exact hx0
        have HN := hid (wT_yes (l := l) (ws := ws) (k := k) (by rw [← hx.out]; exact hx0))
        rw [← hx.out] at HN
        have hcn := vname (hs.keeps kw) hkq
        have hs2 := nmT_len HS.out (show k < l.length by rw [HQL.out]; exact hkq)
        rw [← bs_size] at hs2
        obtain ⟨sN, hsN⟩ : ∃ z, bs (nmT l k) = z := ⟨_, rfl⟩
        rw [hsN] at hcn hs2
        have HSN := hid hsN
        clear hsN hx hx0
        cases f
        rotate_left
        · obtain ⟨p2, hp2⟩ : ∃ z, (wT l ws k).2 = z := ⟨_, rfl⟩
          have HP := hid (show p2 = false by have := HF.out; rw [hp2] at this; cases p2 <;> first | rfl | cases this)
          have HPR := hid (show ((s ++ ({ data := #[32, 119, 104, 101, 114, 101] } : ByteArray)) ++ ((({ data := #[32] } : ByteArray) ++ sN) ++ ({ data := #[61] } : ByteArray))) = bs (base ++ ((wT l ws k).1 ++ ([32, 119, 104, 101, 114, 101] ++ ([32] ++ (nmT l k ++ [61]))))) by
            rw [HE.out, ← HSN.out, show ({ data := #[32, 119, 104, 101, 114, 101] } : ByteArray) = bs [32, 119, 104, 101, 114, 101] from rfl, show ({ data := #[32] } : ByteArray) = bs [32] from rfl, show ({ data := #[61] } : ByteArray) = bs [61] from rfl, bs_app, bs_app, bs_app, bs_app]
            simp only [List.append_assoc, List.nil_append])
          have HN2 := hid (show wT l ws (k + 1) = ((wT l ws k).1 ++ ([32, 119, 104, 101, 114, 101] ++ ([32] ++ (nmT l k ++ ([61] ++ setT x)))), true) by rw [HN.out, hp2, HP.out]; rfl)
          clear hp2 HN
          have hzf : ¬ (9223372036854775807 < 1 + sN.size) := by omega
          have hzg : ¬ (9223372036854775807 < 1 + sN.size + 1) := by omega
          have hzh : ¬ (9223372036854775807 < s.size + 6 + (1 + sN.size + 1)) := by omega
          have hzi : ¬ (9223372036854775807 < s.size + 6) := by omega
          have HSP := hid (show ((s ++ ({ data := #[32, 119, 104, 101, 114, 101] } : ByteArray)) ++ ((({ data := #[32] } : ByteArray) ++ sN) ++ ({ data := #[61] } : ByteArray))).size ≤ 148 + 40 * k by
            have e : ((s ++ ({ data := #[32, 119, 104, 101, 114, 101] } : ByteArray)) ++ ((({ data := #[32] } : ByteArray) ++ sN) ++ ({ data := #[61] } : ByteArray))).size = s.size + 6 + (1 + sN.size + 1) := by simp only [ByteArray.size_append]; first | rfl | (simp; done) | omega
            omega)
          go_wp2_with fail
          refine (eLevels_any hb).mono ?_
          rintro e w7 ⟨E, ce, rfl, hE, k7⟩
          replace kw := Keeps.trans kw k7
          clear k7 hzf hzg hzh hzi hcn hcw hsz
          obtain ⟨pv, hpv⟩ : ∃ z, ((s ++ ({ data := #[32, 119, 104, 101, 114, 101] } : ByteArray)) ++ ((({ data := #[32] } : ByteArray) ++ sN) ++ ({ data := #[61] } : ByteArray))) = z := ⟨_, rfl⟩
          rw [hpv] at HPR HSP
          have HPV := hid hpv
          clear hpv
          obtain ⟨ne, hne⟩ : ∃ z, (lvI x 8).length = z := ⟨_, rfl⟩
          rw [hne] at hE ⊢
          have HNE := hid hne
          have hne8 : ne ≤ 8 := by have := lvI_len x 8; omega
          clear hne
          go_wp2_with fail
          go_loopw [5, 63] (fun sv i wr => ∃ (m : Nat) (u : ByteArray), sv = .string u ∧ i = .int .i64 m ∧ m ≤ ne ∧ Hid (u = bs (base ++ ((wT l ws k).1 ++ ([32, 119, 104, 101, 114, 101] ++ ([32] ++ (nmT l k ++ ([61] ++ joinC ((digs x 8).take m)))))))) ∧ Keeps w7 wr) (fun _ i _ => ne - (intOf i).toNat)
          case atStart => exact ⟨0, _, rfl, rfl, Nat.zero_le _, hid (by rw [HPV.out, HPR.out]; simp [joinC_nil]), keeps_refl _⟩
          case round =>
            obtain ⟨m, u, rfl, rfl, hm9, HU, k9⟩ := hrel
            have HUS := hid (show u.size ≤ 170 + 40 * k by
              have h1 := congrArg ByteArray.size HPR.out
              rw [bs_size] at h1
              have h2 := joinC_dt x m
              have h3 := HSP.out
              rw [HU.out, bs_size]
              simp only [List.length_append] at h1 ⊢
              omega)
            have hus := HUS.out
            clear HUS
            by_cases hm7 : m < ne
            rotate_left
            · obtain rfl : m = ne := by omega
              have HR := hid (show u = bs (base ++ (wT l ws (k + 1)).1) by
                rw [HU.out, HN2.out, ← HNE.out, digs_full]; rfl)
              have HKW := hid (Keeps.trans kw k9)
              have HRS := hid (show u.size ≤ 130 + 40 * (k + 1) by
                have h1 := wT_len (ws := ws) HS.out (k + 1) (by rw [HQL.out]; omega)
                have h2 := congrArg ByteArray.size HBA.out
                rw [bs_size] at h2
                rw [HR.out, bs_size, List.length_append]
                have := HZ2.out
                omega)
              clear kw k9 hE HU hus
              go_wp2_with fail
              go_roundw
              case rel => exact ⟨k + 1, u, false, rfl, rfl, by go_num, hlt, HR, hid (by rw [HN2.out]; rfl), HRS.out, HKW.out⟩
              case measure => simp [intOf]; omega
            obtain ⟨b5, off5, y, e5, _, _, hcy, hy⟩ := (hE.keeps k9).at_ hm7
            subst e5
            obtain ⟨dd, hd1, hd2⟩ := lvI_at (s := x) (m := m) (by rw [HNE.out]; exact hm7)
            have hyd : y = (dd : Int) := hy.out.trans hd1
            subst hyd
            have hT := digs_take (s := x) (m := m) (d := dd) (by rw [HNE.out]; exact hm7) hd1.symm
            have hsD := dec_len dd (by omega)
            rw [← bs_size] at hsD
            have hi5 : (m : Int) < (ne : Int) := by omega
            have HLD := hid (fun (W : World) => l1Num_any dd (by omega) W)
            obtain ⟨sD, hsDe⟩ : ∃ z, bs (Lib.decDigits dd) = z := ⟨_, rfl⟩
            rw [hsDe] at hsD HLD
            by_cases hm0 : m = 0
            · have HR := hid (show u ++ sD = bs (base ++ ((wT l ws k).1 ++ ([32, 119, 104, 101, 114, 101] ++ ([32] ++ (nmT l k ++ ([61] ++ joinC ((digs x 8).take (m + 1)))))))) by
                have e1 : joinC ((digs x 8).take m) = [] := by rw [hm0]; rfl
                have e2 : joinC ((digs x 8).take (m + 1)) = Lib.decDigits dd := by rw [hT, hm0]; exact joinC_one _
                rw [HU.out, ← hsDe, e1, e2, bs_app]
                simp only [List.append_assoc, List.append_nil])
              have hm1 : ¬ ((m : Int) > 0) := by omega
              have hzj : ¬ (9223372036854775807 < u.size + sD.size) := by omega
              clear hy hd1 hT hsDe hm0 hE
              go_wp2_with fail
              refine (HLD.out _).mono ?_
              rintro e wg ⟨rfl, kg⟩
              replace k9 := Keeps.trans k9 kg
              clear kg hcy
              go_wp2_with fail
              go_roundw
              case rel => exact ⟨m + 1, _, rfl, by go_num, hm7, HR, k9⟩
              case measure => simp [intOf]; omega
            · have HR := hid (show (u ++ ({ data := #[44] } : ByteArray)) ++ sD = bs (base ++ ((wT l ws k).1 ++ ([32, 119, 104, 101, 114, 101] ++ ([32] ++ (nmT l k ++ ([61] ++ joinC ((digs x 8).take (m + 1)))))))) by
                rw [HU.out, ← hsDe, hT, joinC_snoc (digs_ne (by rw [HNE.out]; exact hm7) (by omega)), show ({ data := #[44] } : ByteArray) = bs [44] from rfl, bs_app, bs_app]
                simp only [List.append_assoc])
              have hm1 : ((m : Int) > 0) := by omega
              have hzj : ¬ (9223372036854775807 < u.size + 1) := by omega
              have hzk : ¬ (9223372036854775807 < u.size + 1 + sD.size) := by omega
              clear hy hd1 hT hsDe hm0 hE
              go_wp2_with fail
              refine (HLD.out _).mono ?_
              rintro e wg ⟨rfl, kg⟩
              replace k9 := Keeps.trans k9 kg
              clear kg hcy
              go_wp2_with fail
              go_roundw
              case rel => exact ⟨m + 1, _, rfl, by go_num, hm7, HR, k9⟩
              case measure => simp [intOf]; omega
        · obtain ⟨p2, hp2⟩ : ∃ z, (wT l ws k).2 = z := ⟨_, rfl⟩
          have HP := hid (show p2 = true by have := HF.out; rw [hp2] at this; cases p2 <;> first | rfl | cases this)
          have HPR := hid (show (s ++ ((({ data := #[32] } : ByteArray) ++ sN) ++ ({ data := #[61] } : ByteArray))) = bs (base ++ ((wT l ws k).1 ++ ([] ++ ([32] ++ (nmT l k ++ [61]))))) by
            rw [HE.out, ← HSN.out, show ({ data := #[32] } : ByteArray) = bs [32] from rfl, show ({ data := #[61] } : ByteArray) = bs [61] from rfl, bs_app, bs_app, bs_app]
            simp only [List.append_assoc, List.nil_append])
          have HN2 := hid (show wT l ws (k + 1) = ((wT l ws k).1 ++ ([] ++ ([32] ++ (nmT l k ++ ([61] ++ setT x)))), true) by rw [HN.out, hp2, HP.out]; rfl)
          clear hp2 HN
          have hzf : ¬ (9223372036854775807 < 1 + sN.size) := by omega
          have hzg : ¬ (9223372036854775807 < 1 + sN.size + 1) := by omega
          have hzh : ¬ (9223372036854775807 < s.size + (1 + sN.size + 1)) := by omega
          have HSP := hid (show (s ++ ((({ data := #[32] } : ByteArray) ++ sN) ++ ({ data := #[61] } : ByteArray))).size ≤ 148 + 40 * k by
            have e : (s ++ ((({ data := #[32] } : ByteArray) ++ sN) ++ ({ data := #[61] } : ByteArray))).size = s.size + (1 + sN.size + 1) := by simp only [ByteArray.size_append]; first | rfl | (simp; done) | omega
            omega)
          go_wp2_with fail
          refine (eLevels_any hb).mono ?_
          rintro e w7 ⟨E, ce, rfl, hE, k7⟩
          replace kw := Keeps.trans kw k7
          clear k7 hzf hzg hzh hcn hcw hsz
          obtain ⟨pv, hpv⟩ : ∃ z, (s ++ ((({ data := #[32] } : ByteArray) ++ sN) ++ ({ data := #[61] } : ByteArray))) = z := ⟨_, rfl⟩
          rw [hpv] at HPR HSP
          have HPV := hid hpv
          clear hpv
          obtain ⟨ne, hne⟩ : ∃ z, (lvI x 8).length = z := ⟨_, rfl⟩
          rw [hne] at hE ⊢
          have HNE := hid hne
          have hne8 : ne ≤ 8 := by have := lvI_len x 8; omega
          clear hne
          go_wp2_with fail
          go_loopw [5, 63] (fun sv i wr => ∃ (m : Nat) (u : ByteArray), sv = .string u ∧ i = .int .i64 m ∧ m ≤ ne ∧ Hid (u = bs (base ++ ((wT l ws k).1 ++ ([] ++ ([32] ++ (nmT l k ++ ([61] ++ joinC ((digs x 8).take m)))))))) ∧ Keeps w7 wr) (fun _ i _ => ne - (intOf i).toNat)
          case atStart => exact ⟨0, _, rfl, rfl, Nat.zero_le _, hid (by rw [HPV.out, HPR.out]; simp [joinC_nil]), keeps_refl _⟩
          case round =>
            obtain ⟨m, u, rfl, rfl, hm9, HU, k9⟩ := hrel
            have HUS := hid (show u.size ≤ 170 + 40 * k by
              have h1 := congrArg ByteArray.size HPR.out
              rw [bs_size] at h1
              have h2 := joinC_dt x m
              have h3 := HSP.out
              rw [HU.out, bs_size]
              simp only [List.length_append] at h1 ⊢
              omega)
            have hus := HUS.out
            clear HUS
            by_cases hm7 : m < ne
            rotate_left
            · obtain rfl : m = ne := by omega
              have HR := hid (show u = bs (base ++ (wT l ws (k + 1)).1) by
                rw [HU.out, HN2.out, ← HNE.out, digs_full]; rfl)
              have HKW := hid (Keeps.trans kw k9)
              have HRS := hid (show u.size ≤ 130 + 40 * (k + 1) by
                have h1 := wT_len (ws := ws) HS.out (k + 1) (by rw [HQL.out]; omega)
                have h2 := congrArg ByteArray.size HBA.out
                rw [bs_size] at h2
                rw [HR.out, bs_size, List.length_append]
                have := HZ2.out
                omega)
              clear kw k9 hE HU hus
              go_wp2_with fail
              go_roundw
              case rel => exact ⟨k + 1, u, false, rfl, rfl, by go_num, hlt, HR, hid (by rw [HN2.out]; rfl), HRS.out, HKW.out⟩
              case measure => simp [intOf]; omega
            obtain ⟨b5, off5, y, e5, _, _, hcy, hy⟩ := (hE.keeps k9).at_ hm7
            subst e5
            obtain ⟨dd, hd1, hd2⟩ := lvI_at (s := x) (m := m) (by rw [HNE.out]; exact hm7)
            have hyd : y = (dd : Int) := hy.out.trans hd1
            subst hyd
            have hT := digs_take (s := x) (m := m) (d := dd) (by rw [HNE.out]; exact hm7) hd1.symm
            have hsD := dec_len dd (by omega)
            rw [← bs_size] at hsD
            have hi5 : (m : Int) < (ne : Int) := by omega
            have HLD := hid (fun (W : World) => l1Num_any dd (by omega) W)
            obtain ⟨sD, hsDe⟩ : ∃ z, bs (Lib.decDigits dd) = z := ⟨_, rfl⟩
            rw [hsDe] at hsD HLD
            by_cases hm0 : m = 0
            · have HR := hid (show u ++ sD = bs (base ++ ((wT l ws k).1 ++ ([] ++ ([32] ++ (nmT l k ++ ([61] ++ joinC ((digs x 8).take (m + 1)))))))) by
                have e1 : joinC ((digs x 8).take m) = [] := by rw [hm0]; rfl
                have e2 : joinC ((digs x 8).take (m + 1)) = Lib.decDigits dd := by rw [hT, hm0]; exact joinC_one _
                rw [HU.out, ← hsDe, e1, e2, bs_app]
                simp only [List.append_assoc, List.append_nil])
              have hm1 : ¬ ((m : Int) > 0) := by omega
              have hzj : ¬ (9223372036854775807 < u.size + sD.size) := by omega
              clear hy hd1 hT hsDe hm0 hE
              go_wp2_with fail
              refine (HLD.out _).mono ?_
              rintro e wg ⟨rfl, kg⟩
              replace k9 := Keeps.trans k9 kg
              clear kg hcy
              go_wp2_with fail
              go_roundw
              case rel => exact ⟨m + 1, _, rfl, by go_num, hm7, HR, k9⟩
              case measure => simp [intOf]; omega
            · have HR := hid (show (u ++ ({ data := #[44] } : ByteArray)) ++ sD = bs (base ++ ((wT l ws k).1 ++ ([] ++ ([32] ++ (nmT l k ++ ([61] ++ joinC ((digs x 8).take (m + 1)))))))) by
                rw [HU.out, ← hsDe, hT, joinC_snoc (digs_ne (by rw [HNE.out]; exact hm7) (by omega)), show ({ data := #[44] } : ByteArray) = bs [44] from rfl, bs_app, bs_app]
                simp only [List.append_assoc])
              have hm1 : ((m : Int) > 0) := by omega
              have hzj : ¬ (9223372036854775807 < u.size + 1) := by omega
              have hzk : ¬ (9223372036854775807 < u.size + 1 + sD.size) := by omega
              clear hy hd1 hT hsDe hm0 hE
              go_wp2_with fail
              refine (HLD.out _).mono ?_
              rintro e wg ⟨rfl, kg⟩
              replace k9 := Keeps.trans k9 kg
              clear kg hcy
              go_wp2_with fail
              go_roundw
              case rel => exact ⟨m + 1, _, rfl, by go_num, hm7, HR, k9⟩
              case measure => simp [intOf]; omega
    · have HBY := hid (show byT l ((nl : Int), vs, ws, sm) = [] from if_pos (show vs.length = 0 by rw [HVL.out]; omega))
      have hv1 : ¬ ((nv : Int) > 0) := by omega
      have HBA := hid (show (({ data := #[99, 111, 117, 110, 116] } : ByteArray) ++ (({ data := #[32, 108, 101, 118, 101, 108, 32] } : ByteArray) ++ sL)) = bs (hdT l ((nl : Int), vs, ws, sm) ++ (lvT ((nl : Int), vs, ws, sm) ++ byT l ((nl : Int), vs, ws, sm))) by
        rw [HHD.out, HLV.out, HBY.out, ← HLE.out, show ({ data := #[32, 108, 101, 118, 101, 108, 32] } : ByteArray) = bs [32, 108, 101, 118, 101, 108, 32] from rfl, bs_app, bs_app]
        simp only [List.append_nil])
      have HZ2 := hid (show (({ data := #[99, 111, 117, 110, 116] } : ByteArray) ++ (({ data := #[32, 108, 101, 118, 101, 108, 32] } : ByteArray) ++ sL)).size ≤ 130 by
        have e : (({ data := #[99, 111, 117, 110, 116] } : ByteArray) ++ (({ data := #[32, 108, 101, 118, 101, 108, 32] } : ByteArray) ++ sL)).size = 5 + (7 + sL.size) := by simp only [ByteArray.size_append]; first | rfl | (simp; done) | omega
        omega)
      have HTW := hid (show tabT l ((nl : Int), vs, ws, sm) = (hdT l ((nl : Int), vs, ws, sm) ++ (lvT ((nl : Int), vs, ws, sm) ++ byT l ((nl : Int), vs, ws, sm))) ++ (wT l ws nh).1 by rw [HTE.out, HWL.out]; simp only [List.append_assoc])
      clear HTE HHD HLV HBY
      go_enter Tryz.func64, Tryz.ntmps64
      have kw := keeps_refl w
      replace kw := Keeps.trans kw (keeps_alloc w (.cells #[.int .i64 (nl : Int), .slice V nv cv, .slice H nh ch, .int .i64 sm] 61))
      have b3 : Bl (w.alloc (.cells #[.int .i64 (nl : Int), .slice V nv cv, .slice H nh ch, .int .i64 sm] 61)) w.heap.size [.int .i64 (nl : Int), .slice V nv cv, .slice H nh ch, .int .i64 sm] := Bl.new' (by simp) (by simp)
      have ca1_0 := (b3.2 0 _ rfl).1
      have ca1_1 := (b3.2 1 _ rfl).1
      have ca1_2 := (b3.2 2 _ rfl).1
      have ca1_3 := (b3.2 3 _ rfl).1
      go_wp2_with fail
      clear ca1_0 ca1_1 ca1_2 ca1_3
      refine (HLC.out _).mono ?_
      rintro e w2 ⟨rfl, k2⟩
      replace b3 := b3.keeps k2
      replace kw := Keeps.trans kw k2
      have lt3 := b3.lt
      have sz4 := kw.size
      clear k2
      clear HLC
      have ca5_0 := (b3.2 0 _ rfl).1
      have ca5_1 := (b3.2 1 _ rfl).1
      have ca5_2 := (b3.2 2 _ rfl).1
      have ca5_3 := (b3.2 3 _ rfl).1
      go_wp2_with fail
      clear ca5_0 ca5_1 ca5_2 ca5_3
      clear hzb hzc hsL HVN
      obtain ⟨base, hbase⟩ : ∃ z, hdT l ((nl : Int), vs, ws, sm) ++ (lvT ((nl : Int), vs, ws, sm) ++ byT l ((nl : Int), vs, ws, sm)) = z := ⟨_, rfl⟩
      rw [hbase] at HBA HTW
      clear hbase
      obtain ⟨s0, hs0'⟩ : ∃ z, (({ data := #[99, 111, 117, 110, 116] } : ByteArray) ++ (({ data := #[32, 108, 101, 118, 101, 108, 32] } : ByteArray) ++ sL)) = z := ⟨_, rfl⟩
      rw [hs0'] at HBA HZ2
      have HS0 := hid hs0'
      clear hs0'
      go_loopw [5, 6, 41] (fun sv fv i wr => ∃ (k : Nat) (s : ByteArray) (f : Bool), sv = .string s ∧ fv = .bool f ∧ i = .int .i64 k ∧ k ≤ nh ∧ Hid (s = bs (base ++ (wT l ws k).1)) ∧ Hid (f = !(wT l ws k).2) ∧ s.size ≤ 130 + 40 * k ∧ Keeps w wr) (fun _ _ i _ => nh - (intOf i).toNat)
      case atStart => exact ⟨0, _, true, rfl, rfl, rfl, Nat.zero_le _, hid (by rw [HS0.out, HBA.out]; simp [wT]), hid rfl, by rw [HS0.out]; have := HZ2.out; omega, kw⟩
      clear kw b3
      case round =>
        obtain ⟨k, s, f, rfl, rfl, rfl, hk, HE, HF, hsz, kw⟩ := hrel
        by_cases hlt : k < nh
        rotate_left
        · obtain rfl : k = nh := by omega
          have HX := hid (show s = bs (tabT l ((nl : Int), vs, ws, sm)) by rw [HE.out, HTW.out])
          go_wp2
          go_ret
          exact ⟨ret_str HX.out, kw⟩
        obtain ⟨b2, off2, x, rfl, _, _, hcw, hx⟩ := (hw.keeps kw).at_ hlt
        have hb := HWB.out k hlt
        rw [← hx.out] at hb
        have hi1 : (k : Int) < (nh : Int) := by omega
        have hkq : k < q := by have := HNW.out; omega
        have hi2 : (k : Int) < (q : Int) := by omega
        have hnh : nh ≤ 6 := by have := HNW.out; have := HQL.out; omega
        by_cases hx0 : x = 0
        · subst hx0
          have HN := hid (wT_no (l := l) (k := k) hx.out.symm)
          clear hx hb
          go_wp2_with fail
          go_roundw
          case rel => exact ⟨k + 1, s, f, rfl, rfl, by go_num, hlt, hid (by rw [HN.out]; exact HE.out), hid (by rw [HN.out]; exact HF.out), by omega, kw⟩
          case measure => simp [intOf]; omega
        have t1 : (x == 0) = false := by rw [beq_eq_false_iff_ne]; exact hx0
        have HN := hid (wT_yes (l := l) (ws := ws) (k := k) (by rw [← hx.out]; exact hx0))
        rw [← hx.out] at HN
        have hcn := vname (hs.keeps kw) hkq
        have hs2 := nmT_len HS.out (show k < l.length by rw [HQL.out]; exact hkq)
        rw [← bs_size] at hs2
        obtain ⟨sN, hsN⟩ : ∃ z, bs (nmT l k) = z := ⟨_, rfl⟩
        rw [hsN] at hcn hs2
        have HSN := hid hsN
        clear hsN hx hx0
        cases f
        rotate_left
        · obtain ⟨p2, hp2⟩ : ∃ z, (wT l ws k).2 = z := ⟨_, rfl⟩
          have HP := hid (show p2 = false by have := HF.out; rw [hp2] at this; cases p2 <;> first | rfl | cases this)
          have HPR := hid (show ((s ++ ({ data := #[32, 119, 104, 101, 114, 101] } : ByteArray)) ++ ((({ data := #[32] } : ByteArray) ++ sN) ++ ({ data := #[61] } : ByteArray))) = bs (base ++ ((wT l ws k).1 ++ ([32, 119, 104, 101, 114, 101] ++ ([32] ++ (nmT l k ++ [61]))))) by
            rw [HE.out, ← HSN.out, show ({ data := #[32, 119, 104, 101, 114, 101] } : ByteArray) = bs [32, 119, 104, 101, 114, 101] from rfl, show ({ data := #[32] } : ByteArray) = bs [32] from rfl, show ({ data := #[61] } : ByteArray) = bs [61] from rfl, bs_app, bs_app, bs_app, bs_app]
            simp only [List.append_assoc, List.nil_append])
          have HN2 := hid (show wT l ws (k + 1) = ((wT l ws k).1 ++ ([32, 119, 104, 101, 114, 101] ++ ([32] ++ (nmT l k ++ ([61] ++ setT x)))), true) by rw [HN.out, hp2, HP.out]; rfl)
          clear hp2 HN
          have hzf : ¬ (9223372036854775807 < 1 + sN.size) := by omega
          have hzg : ¬ (9223372036854775807 < 1 + sN.size + 1) := by omega
          have hzh : ¬ (9223372036854775807 < s.size + 6 + (1 + sN.size + 1)) := by omega
          have hzi : ¬ (9223372036854775807 < s.size + 6) := by omega
          have HSP := hid (show ((s ++ ({ data := #[32, 119, 104, 101, 114, 101] } : ByteArray)) ++ ((({ data := #[32] } : ByteArray) ++ sN) ++ ({ data := #[61] } : ByteArray))).size ≤ 148 + 40 * k by
            have e : ((s ++ ({ data := #[32, 119, 104, 101, 114, 101] } : ByteArray)) ++ ((({ data := #[32] } : ByteArray) ++ sN) ++ ({ data := #[61] } : ByteArray))).size = s.size + 6 + (1 + sN.size + 1) := by simp only [ByteArray.size_append]; first | rfl | (simp; done) | omega
            omega)
          go_wp2_with fail
          refine (eLevels_any hb).mono ?_
          rintro e w7 ⟨E, ce, rfl, hE, k7⟩
          replace kw := Keeps.trans kw k7
          clear k7 hzf hzg hzh hzi hcn hcw hsz
          obtain ⟨pv, hpv⟩ : ∃ z, ((s ++ ({ data := #[32, 119, 104, 101, 114, 101] } : ByteArray)) ++ ((({ data := #[32] } : ByteArray) ++ sN) ++ ({ data := #[61] } : ByteArray))) = z := ⟨_, rfl⟩
          rw [hpv] at HPR HSP
          have HPV := hid hpv
          clear hpv
          obtain ⟨ne, hne⟩ : ∃ z, (lvI x 8).length = z := ⟨_, rfl⟩
          rw [hne] at hE ⊢
          have HNE := hid hne
          have hne8 : ne ≤ 8 := by have := lvI_len x 8; omega
          clear hne
          go_wp2_with fail
          go_loopw [5, 63] (fun sv i wr => ∃ (m : Nat) (u : ByteArray), sv = .string u ∧ i = .int .i64 m ∧ m ≤ ne ∧ Hid (u = bs (base ++ ((wT l ws k).1 ++ ([32, 119, 104, 101, 114, 101] ++ ([32] ++ (nmT l k ++ ([61] ++ joinC ((digs x 8).take m)))))))) ∧ Keeps w7 wr) (fun _ i _ => ne - (intOf i).toNat)
          case atStart => exact ⟨0, _, rfl, rfl, Nat.zero_le _, hid (by rw [HPV.out, HPR.out]; simp [joinC_nil]), keeps_refl _⟩
          case round =>
            obtain ⟨m, u, rfl, rfl, hm9, HU, k9⟩ := hrel
            have HUS := hid (show u.size ≤ 170 + 40 * k by
              have h1 := congrArg ByteArray.size HPR.out
              rw [bs_size] at h1
              have h2 := joinC_dt x m
              have h3 := HSP.out
              rw [HU.out, bs_size]
              simp only [List.length_append] at h1 ⊢
              omega)
            have hus := HUS.out
            clear HUS
            by_cases hm7 : m < ne
            rotate_left
            · obtain rfl : m = ne := by omega
              have HR := hid (show u = bs (base ++ (wT l ws (k + 1)).1) by
                rw [HU.out, HN2.out, ← HNE.out, digs_full]; rfl)
              have HKW := hid (Keeps.trans kw k9)
              have HRS := hid (show u.size ≤ 130 + 40 * (k + 1) by
                have h1 := wT_len (ws := ws) HS.out (k + 1) (by rw [HQL.out]; omega)
                have h2 := congrArg ByteArray.size HBA.out
                rw [bs_size] at h2
                rw [HR.out, bs_size, List.length_append]
                have := HZ2.out
                omega)
              clear kw k9 hE HU hus
              go_wp2_with fail
              go_roundw
              case rel => exact ⟨k + 1, u, false, rfl, rfl, by go_num, hlt, HR, hid (by rw [HN2.out]; rfl), HRS.out, HKW.out⟩
              case measure => simp [intOf]; omega
            obtain ⟨b5, off5, y, e5, _, _, hcy, hy⟩ := (hE.keeps k9).at_ hm7
            subst e5
            obtain ⟨dd, hd1, hd2⟩ := lvI_at (s := x) (m := m) (by rw [HNE.out]; exact hm7)
            have hyd : y = (dd : Int) := hy.out.trans hd1
            subst hyd
            have hT := digs_take (s := x) (m := m) (d := dd) (by rw [HNE.out]; exact hm7) hd1.symm
            have hsD := dec_len dd (by omega)
            rw [← bs_size] at hsD
            have hi5 : (m : Int) < (ne : Int) := by omega
            have HLD := hid (fun (W : World) => l1Num_any dd (by omega) W)
            obtain ⟨sD, hsDe⟩ : ∃ z, bs (Lib.decDigits dd) = z := ⟨_, rfl⟩
            rw [hsDe] at hsD HLD
            by_cases hm0 : m = 0
            · have HR := hid (show u ++ sD = bs (base ++ ((wT l ws k).1 ++ ([32, 119, 104, 101, 114, 101] ++ ([32] ++ (nmT l k ++ ([61] ++ joinC ((digs x 8).take (m + 1)))))))) by
                have e1 : joinC ((digs x 8).take m) = [] := by rw [hm0]; rfl
                have e2 : joinC ((digs x 8).take (m + 1)) = Lib.decDigits dd := by rw [hT, hm0]; exact joinC_one _
                rw [HU.out, ← hsDe, e1, e2, bs_app]
                simp only [List.append_assoc, List.append_nil])
              have hm1 : ¬ ((m : Int) > 0) := by omega
              have hzj : ¬ (9223372036854775807 < u.size + sD.size) := by omega
              clear hy hd1 hT hsDe hm0 hE
              go_wp2_with fail
              refine (HLD.out _).mono ?_
              rintro e wg ⟨rfl, kg⟩
              replace k9 := Keeps.trans k9 kg
              clear kg hcy
              go_wp2_with fail
              go_roundw
              case rel => exact ⟨m + 1, _, rfl, by go_num, hm7, HR, k9⟩
              case measure => simp [intOf]; omega
            · have HR := hid (show (u ++ ({ data := #[44] } : ByteArray)) ++ sD = bs (base ++ ((wT l ws k).1 ++ ([32, 119, 104, 101, 114, 101] ++ ([32] ++ (nmT l k ++ ([61] ++ joinC ((digs x 8).take (m + 1)))))))) by
                rw [HU.out, ← hsDe, hT, joinC_snoc (digs_ne (by rw [HNE.out]; exact hm7) (by omega)), show ({ data := #[44] } : ByteArray) = bs [44] from rfl, bs_app, bs_app]
                simp only [List.append_assoc])
              have hm1 : ((m : Int) > 0) := by omega
              have hzj : ¬ (9223372036854775807 < u.size + 1) := by omega
              have hzk : ¬ (9223372036854775807 < u.size + 1 + sD.size) := by omega
              clear hy hd1 hT hsDe hm0 hE
              go_wp2_with fail
              refine (HLD.out _).mono ?_
              rintro e wg ⟨rfl, kg⟩
              replace k9 := Keeps.trans k9 kg
              clear kg hcy
              go_wp2_with fail
              go_roundw
              case rel => exact ⟨m + 1, _, rfl, by go_num, hm7, HR, k9⟩
              case measure => simp [intOf]; omega
        · obtain ⟨p2, hp2⟩ : ∃ z, (wT l ws k).2 = z := ⟨_, rfl⟩
          have HP := hid (show p2 = true by have := HF.out; rw [hp2] at this; cases p2 <;> first | rfl | cases this)
          have HPR := hid (show (s ++ ((({ data := #[32] } : ByteArray) ++ sN) ++ ({ data := #[61] } : ByteArray))) = bs (base ++ ((wT l ws k).1 ++ ([] ++ ([32] ++ (nmT l k ++ [61]))))) by
            rw [HE.out, ← HSN.out, show ({ data := #[32] } : ByteArray) = bs [32] from rfl, show ({ data := #[61] } : ByteArray) = bs [61] from rfl, bs_app, bs_app, bs_app]
            simp only [List.append_assoc, List.nil_append])
          have HN2 := hid (show wT l ws (k + 1) = ((wT l ws k).1 ++ ([] ++ ([32] ++ (nmT l k ++ ([61] ++ setT x)))), true) by rw [HN.out, hp2, HP.out]; rfl)
          clear hp2 HN
          have hzf : ¬ (9223372036854775807 < 1 + sN.size) := by omega
          have hzg : ¬ (9223372036854775807 < 1 + sN.size + 1) := by omega
          have hzh : ¬ (9223372036854775807 < s.size + (1 + sN.size + 1)) := by omega
          have HSP := hid (show (s ++ ((({ data := #[32] } : ByteArray) ++ sN) ++ ({ data := #[61] } : ByteArray))).size ≤ 148 + 40 * k by
            have e : (s ++ ((({ data := #[32] } : ByteArray) ++ sN) ++ ({ data := #[61] } : ByteArray))).size = s.size + (1 + sN.size + 1) := by simp only [ByteArray.size_append]; first | rfl | (simp; done) | omega
            omega)
          go_wp2_with fail
          refine (eLevels_any hb).mono ?_
          rintro e w7 ⟨E, ce, rfl, hE, k7⟩
          replace kw := Keeps.trans kw k7
          clear k7 hzf hzg hzh hcn hcw hsz
          obtain ⟨pv, hpv⟩ : ∃ z, (s ++ ((({ data := #[32] } : ByteArray) ++ sN) ++ ({ data := #[61] } : ByteArray))) = z := ⟨_, rfl⟩
          rw [hpv] at HPR HSP
          have HPV := hid hpv
          clear hpv
          obtain ⟨ne, hne⟩ : ∃ z, (lvI x 8).length = z := ⟨_, rfl⟩
          rw [hne] at hE ⊢
          have HNE := hid hne
          have hne8 : ne ≤ 8 := by have := lvI_len x 8; omega
          clear hne
          go_wp2_with fail
          go_loopw [5, 63] (fun sv i wr => ∃ (m : Nat) (u : ByteArray), sv = .string u ∧ i = .int .i64 m ∧ m ≤ ne ∧ Hid (u = bs (base ++ ((wT l ws k).1 ++ ([] ++ ([32] ++ (nmT l k ++ ([61] ++ joinC ((digs x 8).take m)))))))) ∧ Keeps w7 wr) (fun _ i _ => ne - (intOf i).toNat)
          case atStart => exact ⟨0, _, rfl, rfl, Nat.zero_le _, hid (by rw [HPV.out, HPR.out]; simp [joinC_nil]), keeps_refl _⟩
          case round =>
            obtain ⟨m, u, rfl, rfl, hm9, HU, k9⟩ := hrel
            have HUS := hid (show u.size ≤ 170 + 40 * k by
              have h1 := congrArg ByteArray.size HPR.out
              rw [bs_size] at h1
              have h2 := joinC_dt x m
              have h3 := HSP.out
              rw [HU.out, bs_size]
              simp only [List.length_append] at h1 ⊢
              omega)
            have hus := HUS.out
            clear HUS
            by_cases hm7 : m < ne
            rotate_left
            · obtain rfl : m = ne := by omega
              have HR := hid (show u = bs (base ++ (wT l ws (k + 1)).1) by
                rw [HU.out, HN2.out, ← HNE.out, digs_full]; rfl)
              have HKW := hid (Keeps.trans kw k9)
              have HRS := hid (show u.size ≤ 130 + 40 * (k + 1) by
                have h1 := wT_len (ws := ws) HS.out (k + 1) (by rw [HQL.out]; omega)
                have h2 := congrArg ByteArray.size HBA.out
                rw [bs_size] at h2
                rw [HR.out, bs_size, List.length_append]
                have := HZ2.out
                omega)
              clear kw k9 hE HU hus
              go_wp2_with fail
              go_roundw
              case rel => exact ⟨k + 1, u, false, rfl, rfl, by go_num, hlt, HR, hid (by rw [HN2.out]; rfl), HRS.out, HKW.out⟩
              case measure => simp [intOf]; omega
            obtain ⟨b5, off5, y, e5, _, _, hcy, hy⟩ := (hE.keeps k9).at_ hm7
            subst e5
            obtain ⟨dd, hd1, hd2⟩ := lvI_at (s := x) (m := m) (by rw [HNE.out]; exact hm7)
            have hyd : y = (dd : Int) := hy.out.trans hd1
            subst hyd
            have hT := digs_take (s := x) (m := m) (d := dd) (by rw [HNE.out]; exact hm7) hd1.symm
            have hsD := dec_len dd (by omega)
            rw [← bs_size] at hsD
            have hi5 : (m : Int) < (ne : Int) := by omega
            have HLD := hid (fun (W : World) => l1Num_any dd (by omega) W)
            obtain ⟨sD, hsDe⟩ : ∃ z, bs (Lib.decDigits dd) = z := ⟨_, rfl⟩
            rw [hsDe] at hsD HLD
            by_cases hm0 : m = 0
            · have HR := hid (show u ++ sD = bs (base ++ ((wT l ws k).1 ++ ([] ++ ([32] ++ (nmT l k ++ ([61] ++ joinC ((digs x 8).take (m + 1)))))))) by
                have e1 : joinC ((digs x 8).take m) = [] := by rw [hm0]; rfl
                have e2 : joinC ((digs x 8).take (m + 1)) = Lib.decDigits dd := by rw [hT, hm0]; exact joinC_one _
                rw [HU.out, ← hsDe, e1, e2, bs_app]
                simp only [List.append_assoc, List.append_nil])
              have hm1 : ¬ ((m : Int) > 0) := by omega
              have hzj : ¬ (9223372036854775807 < u.size + sD.size) := by omega
              clear hy hd1 hT hsDe hm0 hE
              go_wp2_with fail
              refine (HLD.out _).mono ?_
              rintro e wg ⟨rfl, kg⟩
              replace k9 := Keeps.trans k9 kg
              clear kg hcy
              go_wp2_with fail
              go_roundw
              case rel => exact ⟨m + 1, _, rfl, by go_num, hm7, HR, k9⟩
              case measure => simp [intOf]; omega
            · have HR := hid (show (u ++ ({ data := #[44] } : ByteArray)) ++ sD = bs (base ++ ((wT l ws k).1 ++ ([] ++ ([32] ++ (nmT l k ++ ([61] ++ joinC ((digs x 8).take (m + 1)))))))) by
                rw [HU.out, ← hsDe, hT, joinC_snoc (digs_ne (by rw [HNE.out]; exact hm7) (by omega)), show ({ data := #[44] } : ByteArray) = bs [44] from rfl, bs_app, bs_app]
                simp only [List.append_assoc])
              have hm1 : ((m : Int) > 0) := by omega
              have hzj : ¬ (9223372036854775807 < u.size + 1) := by omega
              have hzk : ¬ (9223372036854775807 < u.size + 1 + sD.size) := by omega
              clear hy hd1 hT hsDe hm0 hE
              go_wp2_with fail
              refine (HLD.out _).mono ?_
              rintro e wg ⟨rfl, kg⟩
              replace k9 := Keeps.trans k9 kg
              clear kg hcy
              go_wp2_with fail
              go_roundw
              case rel => exact ⟨m + 1, _, rfl, by go_num, hm7, HR, k9⟩
              case measure => simp [intOf]; omega
end Go.Proofs.YtlkjhkkfdmjfcaaGreatDoor
