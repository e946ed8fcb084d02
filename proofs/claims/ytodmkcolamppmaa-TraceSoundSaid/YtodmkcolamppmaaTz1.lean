/-
  The walk of plaitlaw12's TraceSound.
-/
import Derived.Test.YtodmkcolamppmaaTrue
import Derived.Test.YtodmkcolamppmaaVars
import Derived.Test.YtodmkcolamppmaaTd1
import Derived.Test.YtodmkcolamppmaaTb1
namespace Go.Proofs.Ytodmkcolamppmaa
open Go.RowKit Go.Proofs.PlaitSep Go.Proofs.PlaitPure

theorem canF_no {G : List (List Int)} {b : List Int} {v : Nat} (h : (chkF G b).2 = 0) : canF G v = false := by
  obtain ⟨_, _, D, hd, h0, he⟩ := chkF_ok h
  unfold canF
  rw [List.any_eq_false]
  intro n _
  rw [derived_none hd h0 he]
  exact Bool.false_ne_true
theorem entF_yes {G l D : List (List Int)} {v : Nat} (h : derGo G [] l = some D) : ∀ d ∈ D, entF G d v = true := by
  intro d hd
  unfold entF
  rw [List.all_eq_true]
  intro n _
  cases hg : allT (asg n) G with
  | false => rfl
  | true => rw [derived_true hg h d hd]; rfl
theorem derived_few {G l D : List (List Int)} (hG : ∀ c ∈ G, Few c) (h : derGo G [] l = some D) : ∀ d ∈ D, Few d := by
  intro d hd x hx
  have := derGo_lits (fun d hd => by cases hd) h d hd x hx
  obtain ⟨c, hc, hxc⟩ := List.mem_flatten.1 this
  exact hG c hc x hxc
set_option maxRecDepth 100000 in
set_option maxHeartbeats 4000000 in
theorem traceSound_any (A0 : Option Addr) (n0 cap0 : Nat) (z0 : List (List Int)) (A1 : Option Addr) (n1 cap1 : Nat) (z1 : List (List Int)) (A2 : Option Addr) (n2 cap2 : Nat) (z2 : List Int) (w : World) (w0 : Rd2 w A0 n0 z0) (w1 : Rd2 w A1 n1 z1) (w2 : RdB w A2 n2 z2 ∧ IsBytes z2 ∧ n2 ≤ cap2 ∧ cap2 ≤ 9223372036854775807) :
    Calls Try.prog 6 #[.slice A0 n0 cap0, .slice A1 n1 cap1, .slice A2 n2 cap2] w fun e w' => e = .returned (.bool true) ∧ Below w.heap.size w w' := by
  obtain ⟨w2, hby, hcap, hcm⟩ := w2
  have HC0 := Lib.hid w0
  have HL0 := Lib.hid w1
  have HB0 := Lib.hid w2
  have HBY := Lib.hid hby
  have hs2 := w2.small
  obtain ⟨lb, hlb⟩ : ∃ lb, lightB z0 z1 = lb := ⟨_, rfl⟩
  have hlight := fun V (h : Rd2 V A0 n0 z0) (h' : Rd2 V A1 n1 z1) => light_any A0 A1 n0 cap0 n1 cap1 z0 z1 V h h'
  rw [hlb] at hlight
  have HLI := Lib.hid hlight
  have HLB := Lib.hid hlb
  clear w0 w1 w2 hby hlight hlb
  go_enter Try.func6, Try.ntmps6
  go_wp2_with fail
  refine (known_any w).mono ?_
  rintro e w2 ⟨rfl, hb⟩
  have HW2 := Lib.hid hb
  have HC2 := Lib.hid (HC0.out.grow hb)
  have HL2 := Lib.hid (HL0.out.grow hb)
  have HB2 := Lib.hid (HB0.out.grow hb)
  clear hb
  go_wp2_with fail
  refine (vars_any A0 n0 cap0 z0 9 w2 HC2.out (by decide) (by decide)).mono ?_
  rintro e w3 ⟨v, rfl, hd, hv0, hvv⟩
  have HW3 := Lib.hid (btr HW2.out (hd.below _))
  have HC3 := Lib.hid (HC2.out.grow (hd.below _))
  have HL3 := Lib.hid (HL2.out.grow (hd.below _))
  have HB3 := Lib.hid (HB2.out.grow (hd.below _))
  have HVV := Lib.hid hvv
  clear hd hvv
  go_wp2_with fail
  refine (HLI.out _ HC3.out HL3.out).mono ?_
  rintro e w4 ⟨rfl, rfl⟩
  cases lb with
  | false =>
    go_wp2
    go_ret
    exact ⟨rfl, HW3.out⟩
  | true =>
  by_cases hlen : 6000 < n2
  · have hd : decide ((6000 : Int) < (n2 : Int)) = true := by simp; omega
    go_wp2
    go_ret
    exact ⟨rfl, HW3.out⟩
  have hd : decide ((6000 : Int) < (n2 : Int)) = false := by simp; omega
  by_cases hv9 : 9 < v
  · have e1 : decide (9 < v) = true := by simpa using hv9
    go_wp2
    go_ret
    exact ⟨rfl, HW3.out⟩
  have e1 : decide (9 < v) = false := by simpa using hv9
  obtain ⟨vn, rfl⟩ : ∃ vn : Nat, v = (vn : Int) := ⟨v.toNat, by omega⟩
  have hvn : vn ≤ 9 := by omega
  obtain ⟨hl1, hl2⟩ := light_both HLB.out
  have hz0 := HC3.out.len
  have hz1 := HL3.out.len
  rw [hz0] at hl1
  rw [hz1] at hl2
  have hn0 : n0 ≤ 1000 := by omega
  have hn1 : n1 ≤ 1000 := by omega
  have HE0 := Lib.hid (show ∀ j, j < n0 → (gl z0 j).length ≤ 1000 from fun j hj => by have := len_sum (l := z0) (j := j) (by omega); omega)
  have HE1 := Lib.hid (show ∀ j, j < n1 → (gl z1 j).length ≤ 1000 from fun j hj => by have := len_sum (l := z1) (j := j) (by omega); omega)
  have HFL := Lib.hid (show z0.flatten.length ≤ 1000 by rw [flatten_len]; omega)
  have HIN := Lib.hid (show ∀ c ∈ z0, InV 60 c from fun c hc => (HVV.out (by omega) c hc).mono (by omega))
  clear hl1 hl2 hz0 hz1
  go_wp2
  go_loopw [8] (fun v8 wr => ∃ (i : Nat), i ≤ n0 ∧ v8 = .int .i64 i ∧ Hid (w3 = wr) ∧ Hid (∀ c ∈ z0.take i, Few c)) (fun v8 _ => n0 - (intOf v8).toNat)
  case atStart => exact ⟨0, Nat.zero_le _, rfl, (rfl : w3 = w3), (fun c hc => (by rw [List.take_zero] at hc; cases hc) : ∀ c ∈ z0.take 0, Few c)⟩
  case round =>
    obtain ⟨i, hi, rfl, HEQ, HFW⟩ := hrel
    obtain rfl := HEQ.out
    clear HEQ
    by_cases hin : i < n0
    · obtain ⟨ab, ao, hA, hc⟩ := HC3.out.cells (by omega)
      subst hA
      obtain ⟨Aj, cj, d0, hrj⟩ := hc i hin
      have hsm := HE0.out i hin
      have hil : i < z0.length := by rw [HC3.out.len]; exact hin
      have htk := take_gl z0 i hil
      have hnm := HIN.out (gl z0 i) (by rw [gl_eq z0 i hil]; exact List.getElem_mem _)
      obtain ⟨s, hs⟩ : ∃ s, gl z0 i = s := ⟨_, rfl⟩
      obtain ⟨ln, hln⟩ : ∃ ln, s.length = ln := ⟨_, rfl⟩
      rw [hs, hln] at d0 hrj
      rw [hs] at htk hnm
      have HH := Lib.hid (has_any Aj ln cj s 0 w3 hrj)
      obtain ⟨hb, hhb⟩ : ∃ hb, hasB s 0 = hb := ⟨_, rfl⟩
      rw [hhb] at HH
      have HHB := Lib.hid hhb
      have HTK := Lib.hid htk
      have HNM := Lib.hid hnm
      have i0 : (0 : Int) ≤ (i : Int) := by omega
      have i1 : (i : Int) < (n0 : Int) := by omega
      clear hc hrj hs hln htk hnm hhb hil
      go_wp2_with fail
      refine HH.out.mono ?_
      rintro e w5 ⟨rfl, rfl⟩
      cases hb with
      | true =>
        go_wp2
        go_ret
        exact ⟨rfl, HW3.out⟩
      | false =>
        have HF2 := Lib.hid (show ∀ c ∈ z0.take (i + 1), Few c from fun c hc => by
          rw [HTK.out] at hc
          rcases List.mem_append.1 hc with hc | hc
          · exact HFW.out c hc
          · rw [List.mem_singleton.1 hc]
            intro x hx
            have := HNM.out x hx
            refine ⟨fun e => ?_, this.1, this.2⟩
            have hq := HHB.out
            rw [hasB_iff.2 (e ▸ hx)] at hq
            cases hq)
        go_wp2
        go_roundw
        case rel => exact ⟨i + 1, by omega, by go_num, True.intro, HF2.out⟩
        case measure => simp [intOf]; omega
    · obtain rfl : i = n0 := by omega
      have hfw := HFW.out
      rw [List.take_of_length_le (by rw [HC3.out.len]; exact Nat.le_refl _)] at hfw
      have HFEW := Lib.hid hfw
      obtain ⟨ck, hck⟩ : ∃ ck, (chkF z0 z2).2 = ck := ⟨_, rfl⟩
      have HCK := Lib.hid hck
      obtain ⟨M, k, hs, hn⟩ : ∃ (M : List (List Int)) (k : Int), (∀ D, derGo z0 [] z1 = some D → M = D ∧ k = 0) ∧ (derGo z0 [] z1 = none → M = [] ∧ k = 121) := by
        cases derGo z0 [] z1 with
        | none => exact ⟨[], 121, ⟨fun D h => (by cases h), fun _ => ⟨rfl, rfl⟩⟩⟩
        | some D => exact ⟨D, 0, ⟨fun D' h => (by cases h; exact ⟨rfl, rfl⟩), fun h => (by cases h)⟩⟩
      have HS := Lib.hid hs
      have HN := Lib.hid hn
      clear hfw hck hs hn
      go_wp2_with fail
      refine (check_any A0 i cap0 z0 A2 n2 cap2 z2 w3 HC3.out HB3.out HBY.out (by omega) (by omega) hcap hcm (Nat.le_trans HFL.out (by omega))).mono ?_
      rw [HCK.out]
      rintro e w5 ⟨rfl, hb⟩
      have HW5 := Lib.hid (btr HW3.out hb)
      have HC5 := Lib.hid (HC3.out.grow hb)
      have HL5 := Lib.hid (HL3.out.grow hb)
      clear hb
      by_cases hck0 : ck = 0
      · subst hck0
        have HCAN := Lib.hid (canF_no (v := vn) HCK.out)
        have HCC := Lib.hid (can_any A0 i cap0 z0 vn w5 HC5.out HFEW.out (by omega))
        rw [HCAN.out] at HCC
        go_wp2_with fail
        refine HCC.out.mono ?_
        rintro e w6 ⟨rfl, hd⟩
        have HW6 := Lib.hid (btr HW5.out (hd.below _))
        have HC6 := Lib.hid (HC5.out.grow (hd.below _))
        have HL6 := Lib.hid (HL5.out.grow (hd.below _))
        clear hd
        go_wp2_with fail
        refine (steps_any A1 n1 cap1 z1 w6 HL6.out (by omega) (fun j hj => Nat.le_trans (HE1.out j hj) (by omega))).mono ?_
        rintro e w7 ⟨A7, c7, rfl, hb, hr, hcp, _⟩
        have HW7 := Lib.hid (btr HW6.out hb)
        have HC7 := Lib.hid (HC6.out.grow hb)
        have HT7 := Lib.hid hr
        have HP7 := Lib.hid hcp
        clear hb hr hcp
        cases hder : derGo z0 [] z1 with
        | none =>
          obtain ⟨rfl, rfl⟩ := HN.out hder
          go_wp2_with fail
          refine (Derive_any A0 i cap0 z0 A7 n1 c7 z1 w7 HC7.out HT7.out HP7.out (by omega) (by omega) (Nat.le_trans HFL.out (by omega)) (fun j hj => Nat.le_trans (HE1.out j hj) (by omega))).mono ?_
          intro e w8 hp
          obtain ⟨A8, n8, c8, rfl, hb, hr, _⟩ := dervU [] 121 (fun D h => by rw [hder] at h; cases h) (fun _ => ⟨rfl, rfl⟩) hp
          obtain rfl : n8 = 0 := hr.len.symm
          have HW8 := Lib.hid (btr HW7.out hb)
          clear hb hr hp hder
          go_wp2
          go_ret
          exact ⟨rfl, HW8.out⟩
        | some D =>
          obtain ⟨hMD, hk0⟩ := HS.out D hder
          subst hMD hk0
          have hlen := derGo_len hder
          have HDER := Lib.hid hder
          have HENT := Lib.hid (entF_yes (v := vn) hder)
          have HDF := Lib.hid (derived_few HFEW.out hder)
          clear hder
          go_wp2_with fail
          refine (Derive_any A0 i cap0 z0 A7 n1 c7 z1 w7 HC7.out HT7.out HP7.out (by omega) (by omega) (Nat.le_trans HFL.out (by omega)) (fun j hj => Nat.le_trans (HE1.out j hj) (by omega))).mono ?_
          intro e w8 hp
          obtain ⟨A8, n8, c8, rfl, hb, hr, _⟩ := dervU M 0 (fun D h => by rw [HDER.out] at h; cases h; exact ⟨rfl, rfl⟩) (fun h => by rw [HDER.out] at h; cases h) hp
          obtain rfl : n8 = n1 := by
            have h1 := hr.len
            have h2 := HL6.out.len
            simp at hlen
            omega
          have HW8 := Lib.hid (btr HW7.out hb)
          have HC8 := Lib.hid (HC7.out.grow hb)
          have HM8 := Lib.hid hr
          have HD8 := Lib.hid (Drawn.refl w8)
          have en : (n8 != n8) = false := by simp
          clear hb hr hp hlen
          go_wp2
          go_loopw [11] (fun v11 wr => ∃ (j : Nat), j ≤ n8 ∧ v11 = .int .i64 j ∧ Hid (Drawn w8 wr)) (fun v11 _ => n8 - (intOf v11).toNat)
          case atStart => exact ⟨0, Nat.zero_le _, rfl, HD8.out⟩
          case round =>
            obtain ⟨j, hj, rfl, HD⟩ := hrel
            by_cases hjn : j < n8
            · obtain ⟨xb, xo, hA, hc⟩ := (HM8.out.heap HD.out.heap).cells (by omega)
              subst hA
              obtain ⟨Aj, cj, d0, hrj⟩ := hc j hjn
              have hjl : j < M.length := by rw [HM8.out.len]; exact hjn
              have hmem : gl M j ∈ M := by rw [gl_eq M j hjl]; exact List.getElem_mem _
              have HCE := Lib.hid (entails_any A0 i cap0 z0 Aj (gl M j).length cj (gl M j) vn wr (HC8.out.heap HD.out.heap) hrj HFEW.out (HDF.out _ hmem) (by omega))
              rw [HENT.out _ hmem] at HCE
              obtain ⟨ln, hln⟩ : ∃ ln, (gl M j).length = ln := ⟨_, rfl⟩
              rw [hln] at d0 HCE
              have j0 : (0 : Int) ≤ (j : Int) := by omega
              have j1 : (j : Int) < (n8 : Int) := by omega
              clear hc hrj hjl hmem hln
              go_wp2_with fail
              refine HCE.out.mono ?_
              rintro e w9 ⟨rfl, hd⟩
              have HD9 := Lib.hid (HD.out.trans hd)
              clear hd HCE
              go_wp2
              go_roundw
              case rel => exact ⟨j + 1, by omega, by go_num, HD9.out⟩
              case measure => simp [intOf]; omega
            · obtain rfl : j = n8 := by omega
              have HB9 := Lib.hid (btr HW8.out (HD.out.below _))
              go_wp2
              go_ret
              exact ⟨rfl, HB9.out⟩
      · have e2 : (ck == 0) = false := by simpa using hck0
        have HW6 := HW5
        have HC6 := HC5
        have HL6 := HL5
        go_wp2_with fail
        refine (steps_any A1 n1 cap1 z1 w5 HL6.out (by omega) (fun j hj => Nat.le_trans (HE1.out j hj) (by omega))).mono ?_
        rintro e w7 ⟨A7, c7, rfl, hb, hr, hcp, _⟩
        have HW7 := Lib.hid (btr HW5.out hb)
        have HC7 := Lib.hid (HC6.out.grow hb)
        have HT7 := Lib.hid hr
        have HP7 := Lib.hid hcp
        clear hb hr hcp
        cases hder : derGo z0 [] z1 with
        | none =>
          obtain ⟨rfl, rfl⟩ := HN.out hder
          go_wp2_with fail
          refine (Derive_any A0 i cap0 z0 A7 n1 c7 z1 w7 HC7.out HT7.out HP7.out (by omega) (by omega) (Nat.le_trans HFL.out (by omega)) (fun j hj => Nat.le_trans (HE1.out j hj) (by omega))).mono ?_
          intro e w8 hp
          obtain ⟨A8, n8, c8, rfl, hb, hr, _⟩ := dervU [] 121 (fun D h => by rw [hder] at h; cases h) (fun _ => ⟨rfl, rfl⟩) hp
          obtain rfl : n8 = 0 := hr.len.symm
          have HW8 := Lib.hid (btr HW7.out hb)
          clear hb hr hp hder
          go_wp2
          go_ret
          exact ⟨rfl, HW8.out⟩
        | some D =>
          obtain ⟨hMD, hk0⟩ := HS.out D hder
          subst hMD hk0
          have hlen := derGo_len hder
          have HDER := Lib.hid hder
          have HENT := Lib.hid (entF_yes (v := vn) hder)
          have HDF := Lib.hid (derived_few HFEW.out hder)
          clear hder
          go_wp2_with fail
          refine (Derive_any A0 i cap0 z0 A7 n1 c7 z1 w7 HC7.out HT7.out HP7.out (by omega) (by omega) (Nat.le_trans HFL.out (by omega)) (fun j hj => Nat.le_trans (HE1.out j hj) (by omega))).mono ?_
          intro e w8 hp
          obtain ⟨A8, n8, c8, rfl, hb, hr, _⟩ := dervU M 0 (fun D h => by rw [HDER.out] at h; cases h; exact ⟨rfl, rfl⟩) (fun h => by rw [HDER.out] at h; cases h) hp
          obtain rfl : n8 = n1 := by
            have h1 := hr.len
            have h2 := HL6.out.len
            simp at hlen
            omega
          have HW8 := Lib.hid (btr HW7.out hb)
          have HC8 := Lib.hid (HC7.out.grow hb)
          have HM8 := Lib.hid hr
          have HD8 := Lib.hid (Drawn.refl w8)
          have en : (n8 != n8) = false := by simp
          clear hb hr hp hlen
          go_wp2
          go_loopw [11] (fun v11 wr => ∃ (j : Nat), j ≤ n8 ∧ v11 = .int .i64 j ∧ Hid (Drawn w8 wr)) (fun v11 _ => n8 - (intOf v11).toNat)
          case atStart => exact ⟨0, Nat.zero_le _, rfl, HD8.out⟩
          case round =>
            obtain ⟨j, hj, rfl, HD⟩ := hrel
            by_cases hjn : j < n8
            · obtain ⟨xb, xo, hA, hc⟩ := (HM8.out.heap HD.out.heap).cells (by omega)
              subst hA
              obtain ⟨Aj, cj, d0, hrj⟩ := hc j hjn
              have hjl : j < M.length := by rw [HM8.out.len]; exact hjn
              have hmem : gl M j ∈ M := by rw [gl_eq M j hjl]; exact List.getElem_mem _
              have HCE := Lib.hid (entails_any A0 i cap0 z0 Aj (gl M j).length cj (gl M j) vn wr (HC8.out.heap HD.out.heap) hrj HFEW.out (HDF.out _ hmem) (by omega))
              rw [HENT.out _ hmem] at HCE
              obtain ⟨ln, hln⟩ : ∃ ln, (gl M j).length = ln := ⟨_, rfl⟩
              rw [hln] at d0 HCE
              have j0 : (0 : Int) ≤ (j : Int) := by omega
              have j1 : (j : Int) < (n8 : Int) := by omega
              clear hc hrj hjl hmem hln
              go_wp2_with fail
              refine HCE.out.mono ?_
              rintro e w9 ⟨rfl, hd⟩
              have HD9 := Lib.hid (HD.out.trans hd)
              clear hd HCE
              go_wp2
              go_roundw
              case rel => exact ⟨j + 1, by omega, by go_num, HD9.out⟩
              case measure => simp [intOf]; omega
            · obtain rfl : j = n8 := by omega
              have HB9 := Lib.hid (btr HW8.out (HD.out.below _))
              go_wp2
              go_ret
              exact ⟨rfl, HB9.out⟩
end Go.Proofs.Ytodmkcolamppmaa
