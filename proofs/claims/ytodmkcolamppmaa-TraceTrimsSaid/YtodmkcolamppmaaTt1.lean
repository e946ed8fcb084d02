/-
  The walk of plaitlaw12's TraceTrims.
-/
import Derived.Test.YtodmkcolamppmaaTrP
import Derived.Test.YtodmkcolamppmaaTc1
namespace Go.Proofs.Ytodmkcolamppmaa
open Go.RowKit Go.Proofs.PlaitSep Go.Proofs.PlaitPure

theorem trimmed_all {G l : List (List Int)} {X : List Int} (hX : encF l = (X, 0)) (hl : l.length + (l.map List.length).sum ≤ 1000) (hG : G.length ≤ 1000) (hc : (chkF G X).2 = 0) :
    ∃ T B, trimF G X = (B, 0) ∧ trimF G B = (B, 0) ∧ decF B = (T, 0) ∧ (chkF G B).2 = 0 ∧ IsBytes B ∧ B.length ≤ 10000 ∧ T.length + (T.map List.length).sum ≤ 1000 ∧ ValidL G.length T ∧ Trimmed G.length l T := by
  have hdec : decF X = (l, 0) := by
    have := dec_enc (l := l) (by rw [hX]) (by omega) (fun s hs => by have := mem_sum hs; omega)
    rwa [hX] at this
  obtain ⟨_, h1, D, hd, hD0, hDe⟩ := chkF_ok hc
  rw [hdec] at h1 hd
  simp only at h1 hd
  have hlen := derGo_length hd
  simp only [List.length_nil, Nat.zero_add] at hlen
  have hl0 : 0 < l.length := by omega
  have hok := trimL_ok hc (by rw [hdec]; simp only; omega)
  rw [h1] at hok
  obtain ⟨E, hE, hE0, hEe⟩ := trim_derives hd hl0 hDe
  have hT := trim_named (derGo_valid hd) hl0
  have hsum := (trimGo_sum G.length (needF G.length l) l 0 (Go.Proofs.PlaitSep.zeros l.length) [])
  simp only [List.length_nil, List.map_nil, List.sum_nil, Nat.zero_add] at hsum
  obtain ⟨T, hTe⟩ : ∃ T, trimL G.length l = T := ⟨_, rfl⟩
  have hsum2 : T.length ≤ l.length ∧ (T.map List.length).sum ≤ (l.map List.length).sum := by rw [← hTe]; exact hsum
  rw [hTe] at hok hE hT
  obtain ⟨B, hB⟩ : ∃ B, (encF T).1 = B := ⟨_, rfl⟩
  have hB2 : encF T = (B, 0) := by rw [← hB, ← hok]
  have hdB : decF B = (T, 0) := by
    have := dec_enc (l := T) (by rw [hB2]) (by omega) (fun s hs => by have := mem_sum hs; omega)
    rwa [hB2] at this
  have hcB := chkF_of hdB hE hE0 hEe
  have hBb : IsBytes B := by
    have := encF_yes hok
    rw [hB] at this
    rw [this]
    exact encB_bytes _
  refine ⟨T, B, ?_, ?_, hdB, by rw [hcB], hBb, ?_, by omega, derGo_valid hE, hT⟩
  · unfold trimF
    rw [if_neg (by rw [hc]; simp), h1, hTe, hB2]
  · unfold trimF
    rw [hcB]
    simp only [ne_eq, not_true_eq_false, if_false]
    rw [trimL_full (derGo_valid hE) hT.pos hT.named, hB2]
  · have := decF_size (b := B) (by rw [hdB])
    rw [hdB] at this
    simp only at this
    omega
theorem trimP {w w' : World} {G : List (List Int)} {b B : List Int} {e : Ending} (hr : trimF G b = (B, 0)) (h : TrimPost w (trimF G b) e w') : EncU w B 0 e w' := trimU B 0 hr (fun h => absurd rfl h) h
set_option maxRecDepth 100000 in
set_option maxHeartbeats 4000000 in
theorem traceTrims_any (A0 : Option Addr) (n0 cap0 : Nat) (z0 : List (List Int)) (A2 : Option Addr) (n2 cap2 : Nat) (z2 : List (List Int)) (w : World) (w0 : Rd2 w A0 n0 z0) (w2 : Rd2 w A2 n2 z2) :
    Calls Try.prog 7 #[.slice A0 n0 cap0, .slice A2 n2 cap2] w fun e w' => e = .returned (.bool true) ∧ Below w.heap.size w w' := by
  have HC0 := Lib.hid w0
  have HL0 := Lib.hid w2
  obtain ⟨lb, hlb⟩ : ∃ lb, lightB z0 z2 = lb := ⟨_, rfl⟩
  have hlight := fun V (h : Rd2 V A0 n0 z0) (h' : Rd2 V A2 n2 z2) => light_any A0 A2 n0 cap0 n2 cap2 z0 z2 V h h'
  rw [hlb] at hlight
  have HLI := Lib.hid hlight
  have HLB := Lib.hid hlb
  clear w0 w2 hlight hlb
  go_enter Try.func7, Try.ntmps7
  go_wp2_with fail
  refine (known_any w).mono ?_
  rintro e w3 ⟨rfl, hb⟩
  have HW3 := Lib.hid hb
  have HC3 := Lib.hid (HC0.out.grow hb)
  have HL3 := Lib.hid (HL0.out.grow hb)
  clear hb
  go_wp2_with fail
  refine (HLI.out _ HC3.out HL3.out).mono ?_
  rintro e w4 ⟨rfl, rfl⟩
  cases lb with
  | false =>
    go_wp2
    go_ret
    exact ⟨rfl, HW3.out⟩
  | true =>
  obtain ⟨hl1, hl2⟩ := light_both HLB.out
  have hz0 := HC3.out.len
  have hz2 := HL3.out.len
  rw [hz0] at hl1
  rw [hz2] at hl2
  have HS1 := Lib.hid hl1
  have HS2 := Lib.hid hl2
  have hn0 : n0 ≤ 1000 := by omega
  have hn2 : n2 ≤ 1000 := by omega
  have HE2 := Lib.hid (show ∀ j, j < n2 → (gl z2 j).length ≤ 1000 from fun j hj => by have := len_sum (l := z2) (j := j) (by omega); omega)
  have HFL := Lib.hid (show z0.flatten.length ≤ 1000 by rw [flatten_len]; omega)
  obtain ⟨X, kx, hX⟩ : ∃ X k, encF z2 = (X, k) := ⟨_, _, rfl⟩
  have HX := Lib.hid hX
  clear hl1 hl2 hz0 hz2 hX
  go_wp2_with fail
  refine (steps_any A2 n2 cap2 z2 w3 HL3.out (by omega) (fun j hj => Nat.le_trans (HE2.out j hj) (by omega))).mono ?_
  rintro e w4 ⟨A4, c4, rfl, hb, hr, _, _⟩
  have HW4 := Lib.hid (btr HW3.out hb)
  have HC4 := Lib.hid (HC3.out.grow hb)
  have HL4 := Lib.hid (HL3.out.grow hb)
  have HT4 := Lib.hid hr
  clear hb hr
  go_wp2_with fail
  refine (encode_any A4 n2 c4 z2 w4 HT4.out (by have := HS2.out; omega)).mono ?_
  intro e w5 hp
  obtain ⟨A5, n5, c5, rfl, hb, hr, hc5, hm5⟩ := encU X kx HX.out hp
  have HW5 := Lib.hid (btr HW4.out hb)
  have HC5 := Lib.hid (HC4.out.grow hb)
  have HL5 := Lib.hid (HL4.out.grow hb)
  have HX5 := Lib.hid hr
  clear hb hr hp
  by_cases hkx : kx = 0
  · subst hkx
    have hxb : IsBytes X := by
      have := encF_yes (l := z2) (by rw [HX.out])
      rw [HX.out] at this
      rw [show X = encB z2 from this]
      exact encB_bytes _
    have hn5 : n5 ≤ 10000 := by
      have hdec : decF X = (z2, 0) := by
        have := dec_enc (l := z2) (by rw [HX.out]) (by have := HS2.out; have := HL5.out.len; omega) (fun s hs => by have := mem_sum hs; have := HS2.out; omega)
        rwa [HX.out] at this
      have h1 := decF_size (b := X) (by rw [hdec])
      rw [hdec, HX5.out.len] at h1
      simp only at h1
      have := HS2.out
      have := HL5.out.len
      omega
    obtain ⟨ck, hck⟩ : ∃ ck, (chkF z0 X).2 = ck := ⟨_, rfl⟩
    have HCK := Lib.hid hck
    have HXB := Lib.hid hxb
    clear hxb hck
    go_wp2_with fail
    refine (check_any A0 n0 cap0 z0 A5 n5 c5 X w5 HC5.out HX5.out HXB.out (by omega) (by omega) hc5 hm5 (Nat.le_trans HFL.out (by omega))).mono ?_
    rw [HCK.out]
    rintro e w6 ⟨rfl, hb⟩
    have HW6 := Lib.hid (btr HW5.out hb)
    have HC6 := Lib.hid (HC5.out.grow hb)
    have HL6 := Lib.hid (HL5.out.grow hb)
    have HX6 := Lib.hid (HX5.out.grow hb)
    clear hb
    by_cases hck0 : ck = 0
    · subst hck0
      obtain ⟨T, B, hT1, hT2, hT3, hT4, hT5, hT6, hT7, hT8, hT9⟩ := trimmed_all (G := z0) (l := z2) HX.out (by have := HS2.out; have := HL6.out.len; omega) (by rw [HC6.out.len]; exact hn0) HCK.out
      rw [HC6.out.len] at hT8 hT9
      obtain ⟨nT, hnT⟩ : ∃ nT, T.length = nT := ⟨_, rfl⟩
      have hTl : nT ≤ n2 := by have := hT9.len; rw [hnT, HL6.out.len] at this; exact this
      have hTp : 0 < nT := by have := hT9.pos; omega
      have HT1 := Lib.hid hT1
      have HT2 := Lib.hid hT2
      have HT3 := Lib.hid hT3
      have HT4' := Lib.hid hT4
      have HT5 := Lib.hid hT5
      have HT6 := Lib.hid hT6
      have HT7 := Lib.hid hT7
      have HVAL := Lib.hid hT8
      have HT9 := Lib.hid hT9
      have HNT := Lib.hid hnT
      clear hT1 hT2 hT3 hT4 hT5 hT6 hT7 hT8 hT9 hnT
      go_wp2_with fail
      refine (trim_any A0 n0 cap0 z0 A5 n5 c5 X w6 HC6.out HX6.out HXB.out (by omega) (by omega) hc5 hm5 (Nat.le_trans HFL.out (by omega))).mono ?_
      intro e w7 hp
      obtain ⟨A7, n7, c7, rfl, hb, hr, hc7, hm7⟩ := trimP HT1.out hp
      have HW7 := Lib.hid (btr HW6.out hb)
      have HC7 := Lib.hid (HC6.out.grow hb)
      have HL7 := Lib.hid (HL6.out.grow hb)
      have HB7 := Lib.hid hr
      have hn7 : n7 ≤ 10000 := by rw [← hr.len]; exact HT6.out
      clear hb hr hp
      go_wp2_with fail
      refine (trim_any A0 n0 cap0 z0 A7 n7 c7 B w7 HC7.out HB7.out HT5.out (by omega) (by omega) hc7 hm7 (Nat.le_trans HFL.out (by omega))).mono ?_
      intro e w8 hp
      obtain ⟨A8, n8, c8, rfl, hb, hr, hc8, hm8⟩ := trimP HT2.out hp
      have HW8 := Lib.hid (btr HW7.out hb)
      have HC8 := Lib.hid (HC7.out.grow hb)
      have HL8 := Lib.hid (HL7.out.grow hb)
      have HB8 := Lib.hid (HB7.out.grow hb)
      have HU8 := Lib.hid hr
      clear hb hr hp
      go_wp2_with fail
      refine (decode_any A7 n7 c7 B w8 HB8.out HT5.out (by omega) hc7 hm7).mono ?_
      intro e w9 hp
      obtain ⟨A9, n9, c9, rfl, hb, hr⟩ := decU T 0 HT3.out hp
      obtain rfl : n9 = nT := by rw [← hr.len]; exact HNT.out
      have HW9 := Lib.hid (btr HW8.out hb)
      have HC9 := Lib.hid (HC8.out.grow hb)
      have HL9 := Lib.hid (HL8.out.grow hb)
      have HB9 := Lib.hid (HB8.out.grow hb)
      have HU9 := Lib.hid (HU8.out.grow hb)
      have HM9 := Lib.hid hr
      clear hb hr hp
      go_wp2_with fail
      refine (check_any A0 n0 cap0 z0 A7 n7 c7 B w9 HC9.out HB9.out HT5.out (by omega) (by omega) hc7 hm7 (Nat.le_trans HFL.out (by omega))).mono ?_
      rw [HT4'.out]
      rintro e w10 ⟨rfl, hb⟩
      have HW10 := Lib.hid (btr HW9.out hb)
      have HL10 := Lib.hid (HL9.out.grow hb)
      have HB10 := Lib.hid (HB9.out.grow hb)
      have HU10 := Lib.hid (HU9.out.grow hb)
      have HM10 := Lib.hid (HM9.out.grow hb)
      clear hb
      go_wp2_with fail
      refine (bytes_any A7 A8 n7 c7 n8 c8 B B w10 HB10.out HU10.out).mono ?_
      rintro e w11 ⟨rfl, hD⟩
      rw [eqB_iff.2 rfl]
      have HW11 := Lib.hid (btr HW10.out (hD.below _))
      have HM11 := Lib.hid (HM10.out.grow (hD.below _))
      have HST11 := Lib.hid (St.start w11)
      clear hD
      have hd : decide (n2 < n9) = false := by simp; omega
      go_wp2_with (refine wpList_make rfl _ _ 55 4 (.bool false) 1 rfl Try.underlying55 Try.infoBool rfl n9 _ rfl rfl rfl (by omega) (by unfold maxLen; omega) (by omega) HST11.out ?_; intro nb w12 h2; have H2 := Lib.hid h2; clear h2)
      have hst12 : St w11.heap.size w11 w12 (star (sl (some nb) n9 n9 4 1 (bls (List.replicate n9 false))) emp) := by
        rw [← bls_replicate]
        exact H2.out
      have H12 := Lib.hid hst12
      have HU0 := Lib.hid (show (List.replicate n9 false).length = n9 by simp)
      clear hst12 H2
      go_loopw [14] (fun v12 wr => ∃ (i : Nat) (U : List Bool), i ≤ n9 ∧ v12 = .int .i64 i ∧ Hid (U.length = n9) ∧ Hid (St w11.heap.size w11 wr (star (sl (some nb) n9 n9 4 1 (bls U)) emp)) ∧ Hid (∀ k, k < i → ∀ x ∈ gl T k, (n0 : Int) ≤ x → gb U (x - n0).toNat = true)) (fun v12 _ => n9 - (intOf v12).toNat)
      case atStart => exact ⟨0, List.replicate n9 false, Nat.zero_le _, rfl, HU0.out, H12.out, (fun k hk => absurd hk (Nat.not_lt_zero _) : ∀ k, k < 0 → ∀ x ∈ gl T k, (n0 : Int) ≤ x → gb (List.replicate n9 false) (x - n0).toNat = true)⟩
      case round =>
        obtain ⟨i, U, hi, rfl, HUL, H, HMK⟩ := hrel
        by_cases hin : i < n9
        · obtain ⟨ab, ao, hA, hc⟩ := HM11.out.cells (by omega)
          subst hA
          obtain ⟨Aj, cj, d0, hrj⟩ := hc i hin
          have hvx := HVAL.out i (by rw [HNT.out]; exact hin)
          have hsm : (gl T i).length ≤ 1000 := by have := len_sum (l := T) (j := i) (by rw [HNT.out]; exact hin); have := HT7.out; omega
          have HMK1 := Lib.hid (show ∀ xs, gl T i = xs → ∀ U', (∀ k, k < i → ∀ x ∈ gl T k, (n0 : Int) ≤ x → gb U' (x - n0).toNat = true) → (∀ x ∈ xs, (n0 : Int) ≤ x → gb U' (x - n0).toNat = true) → ∀ k, k < i + 1 → ∀ x ∈ gl T k, (n0 : Int) ≤ x → gb U' (x - n0).toNat = true from fun xs hxs U' h1 h2 k hk x hx hn => by
            by_cases e : k = i
            · subst e; rw [hxs] at hx; exact h2 x hx hn
            · exact h1 k (by omega) x hx hn)
          obtain ⟨xs, hxs⟩ : ∃ xs, gl T i = xs := ⟨_, rfl⟩
          have HXS := Lib.hid hxs
          obtain ⟨ln, hln⟩ : ∃ ln, xs.length = ln := ⟨_, rfl⟩
          rw [hxs, hln] at d0 hrj hsm hvx
          have HD0 := Lib.hid (show ∀ V, Below w11.heap.size w11 V → V.cell? ⟨ab, ao + i, none⟩ = some (.slice Aj ln cj) from fun V hV => (hV.cell (World.block_lt_of_cell? w11 _ d0)).trans d0)
          have HRJ := Lib.hid hrj
          have HVX := Lib.hid hvx
          have HLN := Lib.hid hln
          have k0 : (0 : Int) ≤ (i : Int) := by omega
          have k1 : (i : Int) < (n9 : Int) := by omega
          clear hc d0 hrj hvx hxs hln
          go_wp2
          go_loopw [15] (fun v13 wr => ∃ (t : Nat) (M : List Bool), t ≤ ln ∧ v13 = .int .i64 t ∧ Hid (M.length = n9) ∧ Hid (St w11.heap.size w11 wr (star (sl (some nb) n9 n9 4 1 (bls M)) emp)) ∧ Hid (∀ k, k < i → ∀ x ∈ gl T k, (n0 : Int) ≤ x → gb M (x - n0).toNat = true) ∧ Hid (∀ x ∈ xs.take t, (n0 : Int) ≤ x → gb M (x - n0).toNat = true)) (fun v13 _ => ln - (intOf v13).toNat)
          case atStart => exact ⟨0, U, Nat.zero_le _, rfl, HUL.out, H.out, HMK.out, (fun x hx => (by rw [List.take_zero] at hx; cases hx) : ∀ x ∈ xs.take 0, (n0 : Int) ≤ x → gb U (x - n0).toNat = true)⟩
          case round =>
            obtain ⟨t, M, ht, rfl, HML, H3, HMA, HMB⟩ := hrel
            have d1 := HD0.out _ H3.out.below
            by_cases htn : t < ln
            · obtain ⟨bx, ox, hA, hcx⟩ := (HRJ.out.grow H3.out.below).cells (by omega)
              subst hA
              have d2 := hcx t htn
              obtain ⟨x0, x1⟩ := HVX.out t htn
              have htk := take_gi xs t (by rw [HLN.out]; exact htn)
              obtain ⟨x, hx⟩ : ∃ x, gi xs t = x := ⟨_, rfl⟩
              rw [hx] at d2 x0 x1 htk
              have HTK := Lib.hid htk
              have t0 : (0 : Int) ≤ (t : Int) := by omega
              have t1 : (t : Int) < (ln : Int) := by omega
              clear hcx htk hx
              by_cases hge : (n0 : Int) ≤ x
              · obtain ⟨y, hy⟩ : ∃ y : Nat, x - (n0 : Int) = (y : Int) := ⟨(x - n0).toNat, by omega⟩
                have hyi : y < n9 := by omega
                have y0 : (0 : Int) ≤ (y : Int) := by omega
                have y1 : (y : Int) < (n9 : Int) := by omega
                have hys : ∀ j, gb M j = true → gb (M.set y true) j = true := fun j hj => gb_set.2 (.inr hj)
                have HYS := Lib.hid hys
                have HYY := Lib.hid (show gb (M.set y true) (x - n0).toNat = true by rw [hy]; exact gb_set.2 (.inl ⟨by simp, by rw [HML.out]; exact hyi⟩))
                have HYI := Lib.hid hyi
                clear hge hys
                go_wp2_with (refine wpList_store_sl rfl 4 _ _ rfl Try.sizeBool H3.out y (.bool true) rfl rfl rfl (by rw [bls_length, HML.out]; exact HYI.out) ?_; intro w4 h4; have h5 := h4.conseq (show _ = star (sl (some nb) n9 n9 4 1 (bls (M.set y true))) emp by rw [bls_set]); have H5 := Lib.hid h5; clear h4 h5)
                go_roundw
                case rel =>
                  refine ⟨t + 1, M.set y true, by omega, by go_num, (by rw [List.length_set]; exact HML.out : (M.set y true).length = n9), H5.out, (fun k hk x hx hn => HYS.out _ (HMA.out k hk x hx hn) : ∀ k, k < i → ∀ x ∈ gl T k, (n0 : Int) ≤ x → gb (M.set y true) (x - n0).toNat = true), (?_ : ∀ z ∈ xs.take (t + 1), (n0 : Int) ≤ z → gb (M.set y true) (z - n0).toNat = true)⟩
                  intro z hz hn
                  rw [HTK.out] at hz
                  rcases List.mem_append.1 hz with hz | hz
                  · exact HYS.out _ (HMB.out z hz hn)
                  · rw [List.mem_singleton.1 hz]; exact HYY.out
                case measure => simp [intOf]; omega
              · obtain ⟨u, hu⟩ : ∃ u, x - (n0 : Int) = u := ⟨_, rfl⟩
                have e1 : decide ((0 : Int) ≤ u) = false := by simp; omega
                have HGE := Lib.hid hge
                clear hge
                go_wp2
                go_roundw
                case rel =>
                  refine ⟨t + 1, M, by omega, by go_num, HML.out, H3.out, HMA.out, (?_ : ∀ z ∈ xs.take (t + 1), (n0 : Int) ≤ z → gb M (z - n0).toNat = true)⟩
                  intro z hz hn
                  rw [HTK.out] at hz
                  rcases List.mem_append.1 hz with hz | hz
                  · exact HMB.out z hz hn
                  · rw [List.mem_singleton.1 hz] at hn; exact absurd hn HGE.out
                case measure => simp [intOf]; omega
            · obtain rfl : t = ln := by omega
              have hmb := HMB.out
              rw [List.take_of_length_le (by rw [HLN.out]; exact Nat.le_refl _)] at hmb
              have HFIN := Lib.hid (HMK1.out xs HXS.out M HMA.out hmb)
              clear hmb
              go_wp2
              go_roundw
              case rel => exact ⟨i + 1, M, by omega, by go_num, HML.out, H3.out, HFIN.out⟩
              case measure => simp [intOf]; omega
        · obtain rfl : i = n9 := by omega
          have HALL := Lib.hid (show ∀ j, j + 1 < i → gb U j = true from fun j hj => by
            obtain ⟨k, h1, _, h3⟩ := HT9.out.named j (by rw [HNT.out]; exact hj)
            have := HMK.out k (by rw [← HNT.out]; exact h1) _ h3 (by omega)
            rwa [show ((n0 : Int) + j - n0).toNat = j by omega] at this)
          clear HMK
          go_wp2
          go_loopw [17] (fun v15 wr => ∃ (j : Nat), j ≤ i ∧ v15 = .int .i64 j ∧ Hid (St w11.heap.size w11 wr (star (sl (some nb) i i 4 1 (bls U)) emp))) (fun v15 _ => i - (intOf v15).toNat)
          case atStart => exact ⟨0, Nat.zero_le _, rfl, H.out⟩
          case round =>
            obtain ⟨j, hj, rfl, H9⟩ := hrel
            by_cases hjn : j + 1 < i
            · have e1 : decide (((j : Int) + 1) < (i : Int)) = true := by simp; omega
              have d3 : _ = some (Value.bool (gb U j)) := (H9.out.sl_cell j (by rw [bls_length, HUL.out]; omega)).trans (bls_get (by rw [HUL.out]; omega))
              rw [HALL.out j hjn] at d3
              have j0 : (0 : Int) ≤ (j : Int) := by omega
              have j1 : (j : Int) < (i : Int) := by omega
              have HJN := Lib.hid hjn
              go_wp2
              go_roundw
              case rel => exact ⟨j + 1, by have := HJN.out; omega, by go_num, H9.out⟩
              case measure => have := HJN.out; simp [intOf]; omega
            · have e1 : decide (((j : Int) + 1) < (i : Int)) = false := by simp; omega
              have HB := Lib.hid (btr HW11.out H9.out.below)
              go_wp2
              go_ret
              exact ⟨rfl, HB.out⟩
    · have e2 : (ck != 0) = true := by simpa using hck0
      go_wp2
      go_ret
      exact ⟨rfl, HW6.out⟩
  · have e2 : (kx != 0) = true := by simpa using hkx
    go_wp2
    go_ret
    exact ⟨rfl, HW5.out⟩
end Go.Proofs.Ytodmkcolamppmaa
