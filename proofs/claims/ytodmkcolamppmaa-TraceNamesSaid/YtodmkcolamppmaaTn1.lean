/-
  The walk of plaitlaw12's TraceNames.
-/
import Derived.Test.YtodmkcolamppmaaTd1
import Derived.Test.YtodmkcolamppmaaTb1
import Derived.Test.YtodmkcolamppmaaNmP
import Derived.Test.YtodmkcolamppmaaVars
namespace Go.Proofs.Ytodmkcolamppmaa
open Go.RowKit Go.Proofs.PlaitSep Go.Proofs.PlaitPure

def bitT (turn v : Int) : Bool := bits BinOp.and IntKind.i64 (turn / 2 ^ (v.toNat - 1)) 1 == 1
/-- A literal's other name. -/
def nmB (turn x : Int) : Bool := !(decide (x < 0) == bitT turn (max x (-x)))
def nmF (turn add x : Int) : Int := if nmB turn x then -(max x (-x) + add) else max x (-x) + add
theorem nmF_renames (turn add : Int) (h0 : 0 ≤ add) (h1 : add < 1000) : Renames (nmF turn add) fun x => x ≠ 0 ∧ -60 ≤ x ∧ x ≤ 60 := by
  have hm : ∀ x : Int, max (-x) (- -x) = max x (-x) := fun x => by omega
  have hb : ∀ x : Int, x ≠ 0 → nmB turn (-x) = !nmB turn x := fun x hx => by
    unfold nmB
    rw [hm]
    have : decide (-x < 0) = !decide (x < 0) := by
      by_cases h : x < 0
      · simp [h]; omega
      · simp [h]; omega
    rw [this]
    cases decide (x < 0) <;> cases bitT turn (max x (-x)) <;> rfl
  refine ⟨fun x hx => ?_, fun x hx => by omega, fun x y hx hy h => ?_, fun x hx => okLit_iff.2 (by omega), fun x hx => okLit_iff.2 ?_⟩
  · unfold nmF
    rw [hm, hb x hx.1]
    cases nmB turn x <;> simp
  · unfold nmF at h
    have h2 : max x (-x) = max y (-y) := by split at h <;> split at h <;> omega
    have h3 : nmB turn x = nmB turn y := by
      cases hx2 : nmB turn x <;> cases hy2 : nmB turn y <;> simp only [hx2, hy2, if_true] at h ⊢ <;> simp at h <;> omega
    unfold nmB at h3
    rw [h2] at h3
    have h4 : decide (x < 0) = decide (y < 0) := by
      revert h3
      cases decide (x < 0) <;> cases decide (y < 0) <;> cases bitT turn (max y (-y)) <;> simp
    have h5 : x < 0 ↔ y < 0 := by simpa using h4
    omega
  · unfold nmF
    split <;> omega
set_option maxRecDepth 100000 in
set_option maxHeartbeats 4000000 in
theorem traceNames_any (A0 : Option Addr) (n0 cap0 : Nat) (z0 : List (List Int)) (A2 : Option Addr) (n2 cap2 : Nat) (z2 : List (List Int)) (turn add0 : Int) (w : World) (w0 : Rd2 w A0 n0 z0) (w2 : Rd2 w A2 n2 z2) (_wt : (Lit.int .i64 turn).wf = true) (_wa : (Lit.int .i64 add0).wf = true) :
    Calls Try.prog 9 #[.slice A0 n0 cap0, .slice A2 n2 cap2, .int .i64 turn, .int .i64 add0] w fun e w' => e = .returned (.bool true) ∧ Below w.heap.size w w' := by
  have HC0 := Lib.hid w0
  have HL0 := Lib.hid w2
  obtain ⟨lb, hlb⟩ : ∃ lb, lightB z0 z2 = lb := ⟨_, rfl⟩
  have hlight := fun V (h : Rd2 V A0 n0 z0) (h' : Rd2 V A2 n2 z2) => light_any A0 A2 n0 cap0 n2 cap2 z0 z2 V h h'
  rw [hlb] at hlight
  have HLI := Lib.hid hlight
  have HLB := Lib.hid hlb
  obtain ⟨add, hadd⟩ : ∃ add, placeF add0 1000 = add := ⟨_, rfl⟩
  have hrg := placeF_range (k := add0) (n := 1000) (by decide)
  rw [hadd] at hrg
  obtain ⟨ha0, ha1⟩ := hrg
  have HADD := Lib.hid hadd
  clear w0 w2 hlight hlb hadd
  go_enter Try.func9, Try.ntmps9
  go_wp2_with fail
  refine (known_any w).mono ?_
  rintro e w3 ⟨rfl, hb⟩
  have HW3 := Lib.hid hb
  have HC3 := Lib.hid (HC0.out.grow hb)
  have HL3 := Lib.hid (HL0.out.grow hb)
  clear hb
  go_wp2_with fail
  refine (place_any add0 1000 w3 (by decide) (by decide)).mono ?_
  rw [HADD.out]
  rintro e w4 ⟨rfl, rfl⟩
  go_wp2_with fail
  refine (HLI.out _ HC3.out HL3.out).mono ?_
  rintro e w4 ⟨rfl, rfl⟩
  cases lb with
  | false =>
    go_wp2
    go_ret
    exact ⟨rfl, HW3.out⟩
  | true =>
  obtain ⟨hl1, hl2⟩ := light_both HLB.out
  have hz0 := HC3.out.len
  have hz2 := HL3.out.len
  rw [hz0] at hl1
  rw [hz2] at hl2
  have HS1 := Lib.hid hl1
  have HS2 := Lib.hid hl2
  have hn0 : n0 ≤ 1000 := by omega
  have hn2 : n2 ≤ 1000 := by omega
  have HE0 := Lib.hid (show ∀ j, j < n0 → (gl z0 j).length ≤ 1000 from fun j hj => by have := len_sum (l := z0) (j := j) (by omega); omega)
  have HE2 := Lib.hid (show ∀ j, j < n2 → (gl z2 j).length ≤ 1000 from fun j hj => by have := len_sum (l := z2) (j := j) (by omega); omega)
  have HFL := Lib.hid (show z0.flatten.length ≤ 1000 by rw [flatten_len]; omega)
  clear hl1 hl2 hz0 hz2
  go_wp2_with fail
  refine (vars_any A0 n0 cap0 z0 60 w3 HC3.out (by decide) (by decide)).mono ?_
  rintro e w4 ⟨v, rfl, hd, hv0, hvv⟩
  have HW4 := Lib.hid (btr HW3.out (hd.below _))
  have HC4 := Lib.hid (HC3.out.grow (hd.below _))
  have HL4 := Lib.hid (HL3.out.grow (hd.below _))
  have HVV := Lib.hid hvv
  clear hd hvv
  by_cases hv60 : 60 < v
  · have e1 : decide (60 < v) = true := by simpa using hv60
    go_wp2
    go_ret
    exact ⟨rfl, HW4.out⟩
  have e1 : decide (60 < v) = false := by simpa using hv60
  have HIN := Lib.hid (show ∀ c ∈ z0, InV 60 c from fun c hc => (HVV.out (by omega) c hc).mono (by omega))
  have HST4 := Lib.hid (St.start w4)
  obtain ⟨ρ, hρ⟩ : ∃ ρ, nmF turn add = ρ := ⟨_, rfl⟩
  have HRHO := Lib.hid hρ
  clear hρ hv60
  go_wp2
  go_loopw [9, 10] (fun v9 v10 wr => ∃ (i : Nat) (oa : Option Nat) (oc : Nat) (W : Rws), i ≤ n0 ∧ v10 = .int .i64 i ∧ v9 = .slice (oa.map fun b => ⟨b, 0, none⟩) i oc ∧ Hid (W.length = i) ∧
    Hid (St w4.heap.size w4 wr (star (rwsHP 51 oa oc W) emp)) ∧ Hid ((W.map fun x => x.2.2) = (z0.take i).map fun s => s.map ρ) ∧ Hid (∀ c ∈ z0.take i, AllL (fun x => x ≠ 0 ∧ -60 ≤ x ∧ x ≤ 60) c)) (fun _ v10 _ => n0 - (intOf v10).toNat)
  case atStart => exact ⟨0, none, 0, [], Nat.zero_le _, rfl, rfl, (rfl : ([] : Rws).length = 0), (by rw [rwsHP_nil, star_emp]; exact HST4.out : St w4.heap.size w4 w4 (star (rwsHP 51 none 0 []) emp)), (rfl : (([] : Rws).map fun x => x.2.2) = (z0.take 0).map fun s => s.map ρ), (fun c hc => (by rw [List.take_zero] at hc; cases hc) : ∀ c ∈ z0.take 0, AllL (fun x => x ≠ 0 ∧ -60 ≤ x ∧ x ≤ 60) c)⟩
  case round =>
    obtain ⟨i, oa, oc, W, hi, rfl, rfl, HWL, H6, HWM, HAL⟩ := hrel
    by_cases hin : i < n0
    · obtain ⟨ab, ao, hA, hc⟩ := HC4.out.cells (by omega)
      subst hA
      obtain ⟨Aj, cj, d0, hrj⟩ := hc i hin
      have hsm := HE0.out i hin
      have hil : i < z0.length := by rw [HC4.out.len]; exact hin
      have htk := take_gl z0 i hil
      have hnm := HIN.out (gl z0 i) (by rw [gl_eq z0 i hil]; exact List.getElem_mem _)
      obtain ⟨s, hs⟩ : ∃ s, gl z0 i = s := ⟨_, rfl⟩
      obtain ⟨ln, hln⟩ : ∃ ln, s.length = ln := ⟨_, rfl⟩
      rw [hs, hln] at d0 hrj hsm
      rw [hs] at htk hnm
      have HD0 := Lib.hid (show ∀ V, Below w4.heap.size w4 V → V.cell? ⟨ab, ao + i, none⟩ = some (.slice Aj ln cj) from fun V hV => (hV.cell (World.block_lt_of_cell? w4 _ d0)).trans d0)
      have HRJ := Lib.hid hrj
      have HLN := Lib.hid hln
      have HTK := Lib.hid htk
      have HNM := Lib.hid hnm
      have H9 := Lib.hid (show St w4.heap.size w4 wr (star (sli 3 none 0 []) (rwsHP 51 oa oc W)) from ⟨H6.out.below, H6.out.base, (H6.out.conseq (star_emp _)).sat.sl_nil _ _⟩)
      have i0 : (0 : Int) ≤ (i : Int) := by omega
      have i1 : (i : Int) < (n0 : Int) := by omega
      clear hc d0 hrj hs hln htk hnm hil
      go_wp2
      go_loopw [11, 12] (fun v11 v12 wr => ∃ (j : Nat) (xa : Option Nat) (xc : Nat) (xs : List Int), j ≤ ln ∧ v12 = .int .i64 j ∧ v11 = .slice (xa.map fun b => ⟨b, 0, none⟩) j xc ∧ Hid (xs.length = j) ∧ Hid (xs = (s.take j).map ρ) ∧
        Hid (St w4.heap.size w4 wr (star (sli 3 xa xc xs) (rwsHP 51 oa oc W))) ∧ Hid (AllL (fun x => x ≠ 0 ∧ -60 ≤ x ∧ x ≤ 60) (s.take j))) (fun _ v12 _ => ln - (intOf v12).toNat)
      case atStart => exact ⟨0, none, 0, [], Nat.zero_le _, rfl, rfl, (rfl : ([] : List Int).length = 0), (rfl : [] = (s.take 0).map ρ), H9.out, (fun x hx => (by rw [List.take_zero] at hx; cases hx) : AllL (fun x => x ≠ 0 ∧ -60 ≤ x ∧ x ≤ 60) (s.take 0))⟩
      case round =>
        obtain ⟨j, xa, xc, xs, hj, rfl, rfl, HXL, HXS, H13, HAJ⟩ := hrel
        have d1 := HD0.out _ H13.out.below
        by_cases hjn : j < ln
        · obtain ⟨bx, ox, hA, hcx⟩ := (HRJ.out.grow H13.out.below).cells (by omega)
          subst hA
          have d2 := hcx j hjn
          obtain ⟨x0, x1⟩ := HNM.out (gi s j) (by rw [gi_eq _ j (by rw [HLN.out]; exact hjn)]; exact List.getElem_mem _)
          have htk := take_gi s j (by rw [HLN.out]; exact hjn)
          obtain ⟨x, hx⟩ : ∃ x, gi s j = x := ⟨_, rfl⟩
          rw [hx] at d2 x0 x1 htk
          have HTJ := Lib.hid htk
          have j0 : (0 : Int) ≤ (j : Int) := by omega
          have j1 : (j : Int) < (ln : Int) := by omega
          clear hcx hx htk
          by_cases hx0 : x = 0
          · subst hx0
            have HB := Lib.hid (btr HW4.out H13.out.below)
            go_wp2
            go_ret
            exact ⟨rfl, HB.out⟩
          · have ex : (x == 0) = false := by simpa using hx0
            obtain ⟨av, hav⟩ : ∃ av, max x (-x) = av := ⟨_, rfl⟩
            have hif : (if x < -x then -x else x) = av := by split <;> omega
            obtain ⟨tb, htb⟩ : ∃ tb, (!decide (x < 0) == (bits BinOp.and IntKind.i64 (turn / 2 ^ (av.toNat - 1)) 1 == 1)) = tb := ⟨_, rfl⟩
            have hnb : nmB turn x = tb := by unfold nmB bitT; rw [hav]; exact htb
            have hrx : ρ x = if tb then -(av + add) else av + add := by rw [← HRHO.out]; unfold nmF; rw [hnb, hav]
            have hav1 : 1 ≤ av := by omega
            have hav2 : av ≤ 60 := by omega
            have HAX := Lib.hid (show AllL (fun x => x ≠ 0 ∧ -60 ≤ x ∧ x ≤ 60) (s.take (j + 1)) by
              rw [HTJ.out]
              intro z hz
              rcases List.mem_append.1 hz with hz | hz
              · exact HAJ.out z hz
              · rw [List.mem_singleton.1 hz]; exact ⟨hx0, x0, x1⟩)
            clear hnb
            cases tb with
            | true =>
              have HRX := Lib.hid (show ρ x = -(av + add) from hrx)
              clear hrx
              go_wp2_with (at_builtin; refine wpList_append_int rfl _ _ 51 3 rfl Try.underlying51 Try.infoInt H13.out j HXL.out rfl (-(av + add)) rfl (by omega) ?_; intro b' cc7 w7 h7; have H7 := Lib.hid h7; clear h7)
              go_roundw
              case rel => exact ⟨j + 1, some b', cc7, xs ++ [-(av + add)], by omega, by go_num, rfl, (by rw [List.length_append, HXL.out]; rfl : (xs ++ [-(av + add)]).length = j + 1), (by rw [HTJ.out, List.map_append, List.map_cons, List.map_nil, HRX.out, HXS.out] : xs ++ [-(av + add)] = (s.take (j + 1)).map ρ), H7.out, HAX.out⟩
              case measure => simp [intOf]; omega
            | false =>
              have HRX := Lib.hid (show ρ x = av + add from hrx)
              clear hrx
              go_wp2_with (at_builtin; refine wpList_append_int rfl _ _ 51 3 rfl Try.underlying51 Try.infoInt H13.out j HXL.out rfl (av + add) rfl (by omega) ?_; intro b' cc7 w7 h7; have H7 := Lib.hid h7; clear h7)
              go_roundw
              case rel => exact ⟨j + 1, some b', cc7, xs ++ [av + add], by omega, by go_num, rfl, (by rw [List.length_append, HXL.out]; rfl : (xs ++ [av + add]).length = j + 1), (by rw [HTJ.out, List.map_append, List.map_cons, List.map_nil, HRX.out, HXS.out] : xs ++ [av + add] = (s.take (j + 1)).map ρ), H7.out, HAX.out⟩
              case measure => simp [intOf]; omega
        · obtain rfl : j = ln := by omega
          have HC := Lib.hid (show xs = s.map ρ by have := HXS.out; rwa [List.take_of_length_le (by rw [HLN.out]; exact Nat.le_refl _)] at this)
          have HAS := Lib.hid (show AllL (fun x => x ≠ 0 ∧ -60 ≤ x ∧ x ≤ 60) s by have := HAJ.out; rwa [List.take_of_length_le (by rw [HLN.out]; exact Nat.le_refl _)] at this)
          have h14 := rws_focus (H13.out.conseq (show _ = star (rwsHP 51 oa oc W) (sli 3 xa xc xs) by ac_rfl)) HWL.out
          have H14 := Lib.hid h14
          clear h14
          go_wp2_with (at_builtin; refine wpList_append1 rfl _ _ 22 51 (.slice none 0 0) 24 rfl Try.underlying22 Try.infoRow rfl H14.out rfl (.slice (xa.map fun b => ⟨b, 0, none⟩) j xc) rfl rfl (by omega) (by simp only [maxLen]; omega) ?_; intro b' c' w8 h8; have H8 := Lib.hid h8; clear h8)
          have h15 := rws_push (F := emp) (ka := xa) (kc := xc) (l := xs) HWL.out (by rw [HXL.out]; exact H8.out.conseq (by rw [star_emp]; ac_rfl))
          have H15 := Lib.hid h15
          clear h15
          go_wp2
          go_roundw
          case rel =>
            refine ⟨i + 1, some b', c', W ++ [(xa, xc, xs)], by omega, by go_num, rfl, (by rw [List.length_append, HWL.out]; rfl : (W ++ [(xa, xc, xs)]).length = i + 1), H15.out, (?_ : ((W ++ [(xa, xc, xs)]).map fun x => x.2.2) = (z0.take (i + 1)).map fun s => s.map ρ), (?_ : ∀ c ∈ z0.take (i + 1), AllL (fun x => x ≠ 0 ∧ -60 ≤ x ∧ x ≤ 60) c)⟩
            · rw [List.map_append, List.map_cons, List.map_nil, HC.out, HTK.out, List.map_append, HWM.out]
              rfl
            · intro c hc
              rw [HTK.out] at hc
              rcases List.mem_append.1 hc with hc | hc
              · exact HAL.out c hc
              · rw [List.mem_singleton.1 hc]; exact HAS.out
          case measure => simp [intOf]; omega
    · obtain rfl : i = n0 := by omega
      have hWM := HWM.out
      have hal := HAL.out
      rw [List.take_of_length_le (by rw [HC4.out.len]; exact Nat.le_refl _)] at hWM hal
      obtain ⟨mv, hmv⟩ : ∃ mv, (z0.map fun s => s.map ρ) = mv := ⟨_, rfl⟩
      rw [hmv] at hWM
      have hz0 := HC4.out.len
      have hmvl : mv.length = i := by rw [← hmv, List.length_map]; exact hz0
      have hmvs : mv.map List.length = z0.map List.length := by rw [← hmv, List.map_map]; exact List.map_congr_left fun s _ => by simp
      have hsm := HS1.out
      have hrd := rws_rd H6.out (fun x hx => by
        have hm : x.2.2 ∈ mv := by rw [← hWM]; exact List.mem_map.2 ⟨x, hx, rfl⟩
        have := mem_sum hm
        rw [hmvs] at this
        omega) (by rw [HWL.out]; omega)
      rw [HWL.out, hWM] at hrd
      have HRN := Lib.hid (show ∀ b, (chkF z0 b).2 = (chkF mv b).2 from fun b => by
        rw [← hmv, ← HRHO.out]
        exact chkF_named (nmF_renames turn add ha0 ha1) hal b)
      have HMS := Lib.hid (show mv.flatten.length ≤ 1000 by rw [flatten_len, hmvs]; omega)
      have hbel := H6.out.below
      have HW7 := Lib.hid (btr HW4.out hbel)
      have HC7 := Lib.hid (HC4.out.grow hbel)
      have HL7 := Lib.hid (HL4.out.grow hbel)
      have HV7 := Lib.hid hrd
      obtain ⟨X, kx, hX⟩ : ∃ X k, encF z2 = (X, k) := ⟨_, _, rfl⟩
      have HX := Lib.hid hX
      clear hWM hal hmv hz0 hmvl hmvs hsm hrd hbel hX
      go_wp2_with fail
      refine (steps_any A2 n2 cap2 z2 wr HL7.out (by omega) (fun j hj => Nat.le_trans (HE2.out j hj) (by omega))).mono ?_
      rintro e w8 ⟨A8, c8, rfl, hb, hr, _, _⟩
      have HW8 := Lib.hid (btr HW7.out hb)
      have HC8 := Lib.hid (HC7.out.grow hb)
      have HV8 := Lib.hid (HV7.out.grow hb)
      have HL8 := Lib.hid (HL7.out.grow hb)
      have HT8 := Lib.hid hr
      clear hb hr
      by_cases hkx : kx = 0
      · subst hkx
        have hxb : IsBytes X := by
          have := encF_yes (l := z2) (by rw [HX.out])
          rw [HX.out] at this
          rw [show X = encB z2 from this]
          exact encB_bytes _
        have HXB := Lib.hid hxb
        clear hxb
        go_wp2_with fail
        refine (encode_any A8 n2 c8 z2 w8 HT8.out (by have := HS2.out; omega)).mono ?_
        intro e w9 hp
        obtain ⟨A9, n9, c9, rfl, hb, hr, hc9, hm9⟩ := encU X 0 HX.out hp
        have HW9 := Lib.hid (btr HW8.out hb)
        have HC9 := Lib.hid (HC8.out.grow hb)
        have HV9 := Lib.hid (HV8.out.grow hb)
        have HL9 := Lib.hid (HL8.out.grow hb)
        have HX9 := Lib.hid hr
        have hn9 : n9 ≤ 10000 := by
          have hdec : decF X = (z2, 0) := by
            have := dec_enc (l := z2) (by rw [HX.out]) (by have := HS2.out; have := HL9.out.len; omega) (fun s hs => by have := mem_sum hs; have := HS2.out; omega)
            rwa [HX.out] at this
          have h1 := decF_size (b := X) (by rw [hdec])
          rw [hdec, hr.len] at h1
          simp only at h1
          have := HS2.out
          have := HL9.out.len
          omega
        clear hb hr hp
        obtain ⟨ck, hck⟩ : ∃ ck, (chkF z0 X).2 = ck := ⟨_, rfl⟩
        have HCK := Lib.hid hck
        have HCK2 := Lib.hid (show (chkF mv X).2 = ck by rw [← HRN.out]; exact hck)
        have e1 : (ck == ck) = true := by simp
        clear hck
        go_wp2_with fail
        refine (check_any A0 i cap0 z0 A9 n9 c9 X w9 HC9.out HX9.out HXB.out (by omega) (by omega) hc9 hm9 (Nat.le_trans HFL.out (by omega))).mono ?_
        rw [HCK.out]
        rintro e w10 ⟨rfl, hb⟩
        have HW10 := Lib.hid (btr HW9.out hb)
        have HV10 := Lib.hid (HV9.out.grow hb)
        have HX10 := Lib.hid (HX9.out.grow hb)
        clear hb
        go_wp2_with fail
        refine (check_any (oa.map fun b => ⟨b, 0, none⟩) i oc mv A9 n9 c9 X w10 HV10.out HX10.out HXB.out (by omega) (by omega) hc9 hm9 (Nat.le_trans HMS.out (by omega))).mono ?_
        rw [HCK2.out]
        rintro e w11 ⟨rfl, hb⟩
        have HW11 := Lib.hid (btr HW10.out hb)
        clear hb
        go_wp2
        go_ret
        exact ⟨rfl, HW11.out⟩
      · have e2 : (kx != 0) = true := by simpa using hkx
        go_wp2_with fail
        refine (encode_any A8 n2 c8 z2 w8 HT8.out (by have := HS2.out; omega)).mono ?_
        intro e w9 hp
        obtain ⟨A9, n9, c9, rfl, hb, hr, hc9, hm9⟩ := encU X kx HX.out hp
        have HW9 := Lib.hid (btr HW8.out hb)
        clear hb hr hp
        go_wp2
        go_ret
        exact ⟨rfl, HW9.out⟩
end Go.Proofs.Ytodmkcolamppmaa
