/-
  The walk of plaitlaw12's TraceShifts.
-/
import Derived.Test.YtodmkcolamppmaaTd1
import Derived.Test.YtodmkcolamppmaaTb1
import Derived.Test.YtodmkcolamppmaaShM
import Derived.Test.YtodmkcolamppmaaSpread2
namespace Go.Proofs.Ytodmkcolamppmaa
open Go.RowKit Go.Proofs.PlaitSep Go.Proofs.PlaitPure

theorem encF_num {l : List (List Int)} {X : List Int} (h : encF l = (X, 0)) : ∀ s ∈ l, ∀ x ∈ s, 0 ≤ x ∧ x ≤ 2147483647 := by
  unfold encF at h
  split at h
  · rename_i ha
    rw [List.all_eq_true] at ha
    intro s hs x hx
    have h1 := ha s hs
    rw [List.all_eq_true] at h1
    exact okN_iff.1 (h1 x hx)
  · cases h
set_option maxRecDepth 100000 in
set_option maxHeartbeats 4000000 in
theorem traceShifts_any (A0 : Option Addr) (n0 cap0 : Nat) (z0 : List (List Int)) (A1 : Option Addr) (n1 cap1 : Nat) (z1 : List (List Int)) (A2 : Option Addr) (n2 cap2 : Nat) (z2 : List (List Int)) (w : World) (w0 : Rd2 w A0 n0 z0) (w1 : Rd2 w A1 n1 z1) (w2 : Rd2 w A2 n2 z2) :
    Calls Try.prog 8 #[.slice A0 n0 cap0, .slice A1 n1 cap1, .slice A2 n2 cap2] w fun e w' => e = .returned (.bool true) ∧ Below w.heap.size w w' := by
  have HC0 := Lib.hid w0
  have HM0 := Lib.hid w1
  have HL0 := Lib.hid w2
  obtain ⟨lb, hlb⟩ : ∃ lb, lightB z0 z2 = lb := ⟨_, rfl⟩
  have hlight := fun V (h : Rd2 V A0 n0 z0) (h' : Rd2 V A2 n2 z2) => light_any A0 A2 n0 cap0 n2 cap2 z0 z2 V h h'
  rw [hlb] at hlight
  obtain ⟨lc, hlc⟩ : ∃ lc, lightB z1 [] = lc := ⟨_, rfl⟩
  have hlight2 := fun V (h : Rd2 V A1 n1 z1) => light_any A1 none n1 cap1 0 0 z1 [] V h (Rd2.none V)
  rw [hlc] at hlight2
  have HLI := Lib.hid hlight
  have HLB := Lib.hid hlb
  have HLI2 := Lib.hid hlight2
  have HLC := Lib.hid hlc
  clear w0 w1 w2 hlight hlb hlight2 hlc
  go_enter Try.func8, Try.ntmps8
  go_wp2_with fail
  refine (known_any w).mono ?_
  rintro e w3 ⟨rfl, hb⟩
  have HW3 := Lib.hid hb
  have HC3 := Lib.hid (HC0.out.grow hb)
  have HM3 := Lib.hid (HM0.out.grow hb)
  have HL3 := Lib.hid (HL0.out.grow hb)
  clear hb
  go_wp2_with fail
  refine (HLI.out _ HC3.out HL3.out).mono ?_
  rintro e w4 ⟨rfl, rfl⟩
  cases lb with
  | false =>
    go_wp2
    go_ret
    exact ⟨rfl, HW3.out⟩
  | true =>
  go_wp2_with fail
  refine (HLI2.out _ HM3.out).mono ?_
  rintro e w4 ⟨rfl, rfl⟩
  cases lc with
  | false =>
    go_wp2
    go_ret
    exact ⟨rfl, HW3.out⟩
  | true =>
  obtain ⟨hl1, hl2⟩ := light_both HLB.out
  have hl3 := (light_both HLC.out).1
  have hz0 := HC3.out.len
  have hz1 := HM3.out.len
  have hz2 := HL3.out.len
  rw [hz0] at hl1
  rw [hz2] at hl2
  rw [hz1] at hl3
  have HS1 := Lib.hid hl1
  have HS2 := Lib.hid hl2
  have HS3 := Lib.hid hl3
  have hn0 : n0 ≤ 1000 := by omega
  have hn1 : n1 ≤ 1000 := by omega
  have hn2 : n2 ≤ 1000 := by omega
  have HE2 := Lib.hid (show ∀ j, j < n2 → (gl z2 j).length ≤ 1000 from fun j hj => by have := len_sum (l := z2) (j := j) (by omega); omega)
  obtain ⟨X, kx, hX⟩ : ∃ X k, encF z2 = (X, k) := ⟨_, _, rfl⟩
  have HX := Lib.hid hX
  clear hl1 hl2 hl3 hz0 hz1 hz2 hX
  go_wp2_with fail
  refine (steps_any A2 n2 cap2 z2 w3 HL3.out (by omega) (fun j hj => Nat.le_trans (HE2.out j hj) (by omega))).mono ?_
  rintro e w4 ⟨A4, c4, rfl, hb, hr, _, _⟩
  have HW4 := Lib.hid (btr HW3.out hb)
  have HC4 := Lib.hid (HC3.out.grow hb)
  have HM4 := Lib.hid (HM3.out.grow hb)
  have HL4 := Lib.hid (HL3.out.grow hb)
  have HT4 := Lib.hid hr
  clear hb hr
  go_wp2_with fail
  refine (encode_any A4 n2 c4 z2 w4 HT4.out (by have := HS2.out; omega)).mono ?_
  intro e w5 hp
  obtain ⟨A5, n5, c5, rfl, hb, hr, hc5, hm5⟩ := encU X kx HX.out hp
  have HW5 := Lib.hid (btr HW4.out hb)
  have HC5 := Lib.hid (HC4.out.grow hb)
  have HM5 := Lib.hid (HM4.out.grow hb)
  have HL5 := Lib.hid (HL4.out.grow hb)
  have HX5 := Lib.hid hr
  clear hb hr hp
  by_cases hkx : kx = 0
  · subst hkx
    have hxb : IsBytes X := by
      have := encF_yes (l := z2) (by rw [HX.out])
      rw [HX.out] at this
      rw [show X = encB z2 from this]
      exact encB_bytes _
    have hnum := encF_num HX.out
    have HNUM := Lib.hid hnum
    have hdec : decF X = (z2, 0) := by
      have := dec_enc (l := z2) (by rw [HX.out]) (by have := HS2.out; have := HL5.out.len; omega) (fun s hs => by have := mem_sum hs; have := HS2.out; omega)
      rwa [HX.out] at this
    have hn5 : n5 ≤ 10000 := by
      have h1 := decF_size (b := X) (by rw [hdec])
      rw [hdec, HX5.out.len] at h1
      simp only at h1
      have := HS2.out
      have := HL5.out.len
      omega
    obtain ⟨ck, hck⟩ : ∃ ck, (chkF z0 X).2 = ck := ⟨_, rfl⟩
    have HCK := Lib.hid hck
    have HDEC := Lib.hid hdec
    have HXB := Lib.hid hxb
    have HFL := Lib.hid (show z0.flatten.length ≤ 1000 by rw [flatten_len]; have := HS1.out; omega)
    clear hxb hnum hdec hck
    go_wp2_with fail
    refine (check_any A0 n0 cap0 z0 A5 n5 c5 X w5 HC5.out HX5.out HXB.out (by omega) (by omega) hc5 hm5 (Nat.le_trans HFL.out (by omega))).mono ?_
    rw [HCK.out]
    rintro e w6 ⟨rfl, hb⟩
    have HW6 := Lib.hid (btr HW5.out hb)
    have HC6 := Lib.hid (HC5.out.grow hb)
    have HM6 := Lib.hid (HM5.out.grow hb)
    have HL6 := Lib.hid (HL5.out.grow hb)
    clear hb
    have HST6 := Lib.hid (St.start w6)
    go_wp2
    go_loopw [10, 11] (fun v10 v11 wr => ∃ (i : Nat) (oa : Option Nat) (oc : Nat) (W : Rws), i ≤ n2 ∧ v11 = .int .i64 i ∧ v10 = .slice (oa.map fun b => ⟨b, 0, none⟩) i oc ∧ Hid (W.length = i) ∧
      Hid (St w6.heap.size w6 wr (star (rwsHP 51 oa oc W) emp)) ∧ Hid ((W.map fun x => x.2.2) = (z2.take i).map fun s => s.map (shN n0 n1))) (fun _ v11 _ => n2 - (intOf v11).toNat)
    case atStart => exact ⟨0, none, 0, [], Nat.zero_le _, rfl, rfl, (rfl : ([] : Rws).length = 0), (by rw [rwsHP_nil, star_emp]; exact HST6.out : St w6.heap.size w6 w6 (star (rwsHP 51 none 0 []) emp)), (rfl : (([] : Rws).map fun x => x.2.2) = (z2.take 0).map fun s => s.map (shN n0 n1))⟩
    case round =>
      obtain ⟨i, oa, oc, W, hi, rfl, rfl, HWL, H6, HWM⟩ := hrel
      by_cases hin : i < n2
      · obtain ⟨ab, ao, hA, hc⟩ := HL6.out.cells (by omega)
        subst hA
        obtain ⟨Aj, cj, d0, hrj⟩ := hc i hin
        have hsm := HE2.out i hin
        have hil : i < z2.length := by rw [HL6.out.len]; exact hin
        have htk := take_gl z2 i hil
        have hnm := fun t (ht : t < (gl z2 i).length) => HNUM.out (gl z2 i) (by rw [gl_eq z2 i hil]; exact List.getElem_mem _) (gi (gl z2 i) t) (by rw [gi_eq _ t ht]; exact List.getElem_mem ht)
        obtain ⟨s, hs⟩ : ∃ s, gl z2 i = s := ⟨_, rfl⟩
        obtain ⟨ln, hln⟩ : ∃ ln, s.length = ln := ⟨_, rfl⟩
        rw [hs, hln] at d0 hrj hsm hnm
        rw [hs] at htk
        have HD0 := Lib.hid (show ∀ V, Below w6.heap.size w6 V → V.cell? ⟨ab, ao + i, none⟩ = some (.slice Aj ln cj) from fun V hV => (hV.cell (World.block_lt_of_cell? w6 _ d0)).trans d0)
        have HRJ := Lib.hid hrj
        have HLN := Lib.hid hln
        have HTK := Lib.hid htk
        have HNM := Lib.hid hnm
        have H9 := Lib.hid (show St w6.heap.size w6 wr (star (sli 3 none 0 []) (rwsHP 51 oa oc W)) from ⟨H6.out.below, H6.out.base, (H6.out.conseq (star_emp _)).sat.sl_nil _ _⟩)
        have i0 : (0 : Int) ≤ (i : Int) := by omega
        have i1 : (i : Int) < (n2 : Int) := by omega
        clear hc d0 hrj hs hln htk hnm hil
        go_wp2
        go_loopw [12, 13] (fun v12 v13 wr => ∃ (j : Nat) (xa : Option Nat) (xc : Nat) (xs : List Int), j ≤ ln ∧ v13 = .int .i64 j ∧ v12 = .slice (xa.map fun b => ⟨b, 0, none⟩) j xc ∧ Hid (xs.length = j) ∧ Hid (xs = (s.take j).map (shN n0 n1)) ∧
          Hid (St w6.heap.size w6 wr (star (sli 3 xa xc xs) (rwsHP 51 oa oc W)))) (fun _ v13 _ => ln - (intOf v13).toNat)
        case atStart => exact ⟨0, none, 0, [], Nat.zero_le _, rfl, rfl, (rfl : ([] : List Int).length = 0), (rfl : [] = (s.take 0).map (shN n0 n1)), H9.out⟩
        case round =>
          obtain ⟨j, xa, xc, xs, hj, rfl, rfl, HXL, HXS, H13⟩ := hrel
          have d1 := HD0.out _ H13.out.below
          by_cases hjn : j < ln
          · obtain ⟨bx, ox, hA, hcx⟩ := (HRJ.out.grow H13.out.below).cells (by omega)
            subst hA
            have d2 := hcx j hjn
            obtain ⟨x0, x1⟩ := HNM.out j hjn
            have htk := take_gi s j (by rw [HLN.out]; exact hjn)
            obtain ⟨x, hx⟩ : ∃ x, gi s j = x := ⟨_, rfl⟩
            rw [hx] at d2 x0 x1 htk
            have HTJ := Lib.hid htk
            have j0 : (0 : Int) ≤ (j : Int) := by omega
            have j1 : (j : Int) < (ln : Int) := by omega
            clear hcx hx htk
            by_cases hge : (n0 : Int) ≤ x
            · have e1 : decide ((n0 : Int) ≤ x) = true := by simpa using hge
              have HNN := Lib.hid (show shN n0 n1 x = x + (n1 : Int) by unfold shN; rw [if_pos hge])
              clear hge
              go_wp2_with (at_builtin; refine wpList_append_int rfl _ _ 51 3 rfl Try.underlying51 Try.infoInt H13.out j HXL.out rfl (x + (n1 : Int)) rfl (by omega) ?_; intro b' cc7 w7 h7; have H7 := Lib.hid h7; clear h7)
              go_roundw
              case rel => exact ⟨j + 1, some b', cc7, xs ++ [x + (n1 : Int)], by omega, by go_num, rfl, (by rw [List.length_append, HXL.out]; rfl : (xs ++ [x + (n1 : Int)]).length = j + 1), (by rw [HTJ.out, List.map_append, List.map_cons, List.map_nil, HNN.out, HXS.out] : xs ++ [x + (n1 : Int)] = (s.take (j + 1)).map (shN n0 n1)), H7.out⟩
              case measure => simp [intOf]; omega
            · have e1 : decide ((n0 : Int) ≤ x) = false := by simpa using hge
              have HNN := Lib.hid (show shN n0 n1 x = x by unfold shN; rw [if_neg hge])
              clear hge
              go_wp2_with (at_builtin; refine wpList_append_int rfl _ _ 51 3 rfl Try.underlying51 Try.infoInt H13.out j HXL.out rfl x rfl (by omega) ?_; intro b' cc7 w7 h7; have H7 := Lib.hid h7; clear h7)
              go_roundw
              case rel => exact ⟨j + 1, some b', cc7, xs ++ [x], by omega, by go_num, rfl, (by rw [List.length_append, HXL.out]; rfl : (xs ++ [x]).length = j + 1), (by rw [HTJ.out, List.map_append, List.map_cons, List.map_nil, HNN.out, HXS.out] : xs ++ [x] = (s.take (j + 1)).map (shN n0 n1)), H7.out⟩
              case measure => simp [intOf]; omega
          · obtain rfl : j = ln := by omega
            have HC := Lib.hid (show xs = s.map (shN n0 n1) by have := HXS.out; rwa [List.take_of_length_le (by rw [HLN.out]; exact Nat.le_refl _)] at this)
            have h14 := rws_focus (H13.out.conseq (show _ = star (rwsHP 51 oa oc W) (sli 3 xa xc xs) by ac_rfl)) HWL.out
            have H14 := Lib.hid h14
            clear h14
            go_wp2_with (at_builtin; refine wpList_append1 rfl _ _ 22 51 (.slice none 0 0) 24 rfl Try.underlying22 Try.infoRow rfl H14.out rfl (.slice (xa.map fun b => ⟨b, 0, none⟩) j xc) rfl rfl (by omega) (by simp only [maxLen]; omega) ?_; intro b' c' w8 h8; have H8 := Lib.hid h8; clear h8)
            have h15 := rws_push (F := emp) (ka := xa) (kc := xc) (l := xs) HWL.out (by rw [HXL.out]; exact H8.out.conseq (by rw [star_emp]; ac_rfl))
            have H15 := Lib.hid h15
            clear h15
            go_wp2
            go_roundw
            case rel =>
              refine ⟨i + 1, some b', c', W ++ [(xa, xc, xs)], by omega, by go_num, rfl, (by rw [List.length_append, HWL.out]; rfl : (W ++ [(xa, xc, xs)]).length = i + 1), H15.out, (?_ : ((W ++ [(xa, xc, xs)]).map fun x => x.2.2) = (z2.take (i + 1)).map fun s => s.map (shN n0 n1))⟩
              rw [List.map_append, List.map_cons, List.map_nil, HC.out, HTK.out, List.map_append, HWM.out]
              rfl
            case measure => simp [intOf]; omega
      · obtain rfl : i = n2 := by omega
        have hWM := HWM.out
        rw [List.take_of_length_le (by rw [HL6.out.len]; exact Nat.le_refl _)] at hWM
        obtain ⟨mv, hmv⟩ : ∃ mv, (z2.map fun s => s.map (shN n0 n1)) = mv := ⟨_, rfl⟩
        rw [hmv] at hWM
        have hz2 := HL6.out.len
        have hmvl : mv.length = i := by rw [← hmv, List.length_map]; exact hz2
        have hmvs : mv.map List.length = z2.map List.length := by rw [← hmv, List.map_map]; exact List.map_congr_left fun s _ => by simp
        have hsm := HS2.out
        have hrd := rws_rd H6.out (fun x hx => by
          have hm : x.2.2 ∈ mv := by rw [← hWM]; exact List.mem_map.2 ⟨x, hx, rfl⟩
          have := mem_sum hm
          rw [hmvs] at this
          omega) (by rw [HWL.out]; omega)
        rw [HWL.out, hWM] at hrd
        have HMV := Lib.hid hmv
        have HME := Lib.hid (show ∀ j, j < i → (gl mv j).length ≤ 1000 from fun j hj => by have := len_sum (l := mv) (j := j) (by omega); rw [hmvs] at this; omega)
        have HMS := Lib.hid (show i + (mv.map List.length).sum ≤ 1000 by rw [hmvs]; exact hsm)
        have HML := Lib.hid hmvl
        have hbel := H6.out.below
        have HW7 := Lib.hid (btr HW6.out hbel)
        have HC7 := Lib.hid (HC6.out.grow hbel)
        have HM7 := Lib.hid (HM6.out.grow hbel)
        have HV7 := Lib.hid hrd
        obtain ⟨Y, ky, hY⟩ : ∃ Y k, encF mv = (Y, k) := ⟨_, _, rfl⟩
        have HY := Lib.hid hY
        clear hWM hmv hz2 hmvl hmvs hsm hrd hbel hY
        go_wp2_with fail
        refine (steps_any (oa.map fun b => ⟨b, 0, none⟩) i oc mv wr HV7.out (by omega) (fun j hj => Nat.le_trans (HME.out j hj) (by omega))).mono ?_
        rintro e w8 ⟨A8, c8, rfl, hb, hr, _, _⟩
        have HW8 := Lib.hid (btr HW7.out hb)
        have HC8 := Lib.hid (HC7.out.grow hb)
        have HM8 := Lib.hid (HM7.out.grow hb)
        have HT8 := Lib.hid hr
        clear hb hr
        go_wp2_with fail
        refine (encode_any A8 i c8 mv w8 HT8.out (by have := HMS.out; omega)).mono ?_
        intro e w9 hp
        obtain ⟨A9, n9, c9, rfl, hb, hr, hc9, hm9⟩ := encU Y ky HY.out hp
        have HW9 := Lib.hid (btr HW8.out hb)
        have HC9 := Lib.hid (HC8.out.grow hb)
        have HM9 := Lib.hid (HM8.out.grow hb)
        have HY9 := Lib.hid hr
        clear hb hr hp
        go_wp2_with fail
        refine (copyLists_own A0 n0 cap0 z0 w9 HC9.out (by omega) (fun j hj => by have h1 := len_sum (l := z0) (j := j) (by rw [HC9.out.len]; exact hj); have := HS1.out; omega)).mono ?_
        rintro e w10 ⟨ua, uc, U, rfl, h10, hU, hUL⟩
        have H10 := Lib.hid h10
        have HU := Lib.hid hU
        have HUL := Lib.hid hUL
        have HUS := Lib.hid (show ∀ x ∈ U, x.2.2.length ≤ 140737488355328 from fun x hx => by
          have hm : x.2.2 ∈ z0 := by rw [← hU]; exact List.mem_map.2 ⟨x, hx, rfl⟩
          have := mem_sum hm
          have := HS1.out
          omega)
        clear h10 hU hUL
        by_cases hky : ky = 0
        · subst hky
          go_wp2_with (at_builtin; refine wpList_append_rows rfl _ _ 22 51 rfl Try.underlying22 Try.infoRow H10.out HUL.out HUS.out rfl A1 n1 cap1 z1 HM9.out rfl (by omega) ?_; intro A11 c11 w11 hb11 hr11; have HW11 := Lib.hid (btr HW9.out hb11); have HY11 := Lib.hid (HY9.out.grow hb11); have HG11 := Lib.hid hr11; clear hb11 hr11)
          rw [HU.out] at HG11
          have hyb : IsBytes Y := by
            have := encF_yes (l := mv) (by rw [HY.out])
            rw [HY.out] at this
            rw [show Y = encB mv from this]
            exact encB_bytes _
          have hdecy : decF Y = (mv, 0) := by
            have := dec_enc (l := mv) (by rw [HY.out]) (by have := HMS.out; have := HML.out; omega) (fun s hs => by have := mem_sum hs; have := HMS.out; omega)
            rwa [HY.out] at this
          have hn9 : n9 ≤ 10000 := by
            have h1 := decF_size (b := Y) (by rw [hdecy])
            rw [hdecy, HY11.out.len] at h1
            simp only at h1
            have := HMS.out
            have := HML.out
            omega
          have hchk : (chkF (z0 ++ z1) Y).2 = ck := by
            have h1 := derGo_shift z0 z1 z2 []
            rw [HC9.out.len, HM9.out.len, HMV.out] at h1
            rw [← HCK.out]
            unfold chkF
            rw [hdecy, HDEC.out]
            simp only [ne_eq, not_true_eq_false, if_false, h1]
            cases derGo z0 [] z2 with
            | none => rfl
            | some D => simp only; split <;> rfl
          have HCK2 := Lib.hid hchk
          have HYB := Lib.hid hyb
          have HFL2 := Lib.hid (show (z0 ++ z1).flatten.length ≤ 2000 by
            rw [List.flatten_append, List.length_append, flatten_len, flatten_len]
            have := HS1.out
            have := HS3.out
            omega)
          have e1 : (ck == ck) = true := by simp
          clear hyb hdecy hchk
          go_wp2_with fail
          refine (check_any A11 (n0 + n1) c11 (z0 ++ z1) A9 n9 c9 Y w11 HG11.out HY11.out HYB.out (by omega) (by omega) hc9 hm9 (Nat.le_trans HFL2.out (by omega))).mono ?_
          rw [HCK2.out]
          rintro e w12 ⟨rfl, hb⟩
          have HW12 := Lib.hid (btr HW11.out hb)
          clear hb
          go_wp2
          go_ret
          exact ⟨rfl, HW12.out⟩
        · have e2 : (ky != 0) = true := by simpa using hky
          go_wp2_with (at_builtin; refine wpList_append_rows rfl _ _ 22 51 rfl Try.underlying22 Try.infoRow H10.out HUL.out HUS.out rfl A1 n1 cap1 z1 HM9.out rfl (by omega) ?_; intro A11 c11 w11 hb11 hr11; have HW11 := Lib.hid (btr HW9.out hb11); have HY11 := Lib.hid (HY9.out.grow hb11); have HG11 := Lib.hid hr11; clear hb11 hr11)
          go_ret
          exact ⟨rfl, HW11.out⟩
  · have e2 : (kx != 0) = true := by simpa using hkx
    go_wp2
    go_ret
    exact ⟨rfl, HW5.out⟩
end Go.Proofs.Ytodmkcolamppmaa
