/-
  The walk of plaitlaw12's TraceBytes.
-/
import Derived.Test.YtodmkcolamppmaaKnown
import Derived.Test.YtodmkcolamppmaaByte3
import Derived.Test.YtodmkcolamppmaaByte5
namespace Go.Proofs.Ytodmkcolamppmaa
open Go.RowKit Go.Proofs.PlaitSep Go.Proofs.PlaitPure

theorem Rd2.none (w : World) : Rd2 w none 0 [] := ⟨rfl, Nat.zero_le _, fun h => absurd h (Nat.lt_irrefl 0)⟩
theorem encF_no {l : List (List Int)} (h : (encF l).2 ≠ 0) : (encF l).1 = [] := by
  unfold encF at h ⊢
  split at h
  · exact absurd rfl h
  · rename_i h2; rw [if_neg h2]
theorem encF_yes {l : List (List Int)} (h : (encF l).2 = 0) : (encF l).1 = encB l := by
  unfold encF at h ⊢
  split at h
  · rename_i h2; rw [if_pos h2]
  · cases h
/-- What Encode hands back, in one form. -/
def EncU (w : World) (X : List Int) (k : Int) (e : Ending) (w' : World) : Prop :=
  ∃ A n c, e = .returned (.tuple #[.slice A n c, .int .i64 k]) ∧ Below w.heap.size w w' ∧ RdB w' A n X ∧ n ≤ c ∧ c ≤ 9223372036854775807
theorem encU {w w' : World} {l : List (List Int)} {e : Ending} (X : List Int) (k : Int) (hl : encF l = (X, k)) (h : EncPost w l e w') : EncU w X k e w' := by
  obtain ⟨hb, hok, hbad⟩ := h
  by_cases h0 : (encF l).2 = 0
  · obtain ⟨A, c, he, hr, hc, hm⟩ := hok h0
    have h1 := encF_yes h0
    rw [hl] at h0 h1
    simp only at h0 h1
    subst h0 h1
    exact ⟨A, _, c, he, hb, hr, hc, hm⟩
  · have h1 := encF_no h0
    have he := hbad h0
    rw [hl] at h1 he
    simp only at h1 he
    subst h1
    exact ⟨none, 0, 0, he, hb, RdB.none, Nat.le_refl _, by decide⟩
/-- What Decode hands back, in one form. -/
def DecU (w : World) (M : List (List Int)) (k : Int) (e : Ending) (w' : World) : Prop :=
  ∃ A n c, e = .returned (.tuple #[.slice A n c, .int .i64 k]) ∧ Below w.heap.size w w' ∧ Rd2 w' A n M
theorem decU {w w' : World} {b : List Int} {e : Ending} (M : List (List Int)) (k : Int) (hl : decF b = (M, k)) (h : DecPost w b e w') : DecU w M k e w' := by
  obtain ⟨hb, hok, hbad⟩ := h
  rcases decF_err b with h0 | ⟨h0, h1⟩
  · obtain ⟨A, c, he, hr, _⟩ := hok h0
    rw [hl] at h0 he hr
    simp only at h0 he hr
    subst h0
    exact ⟨A, _, c, he, hb, hr⟩
  · have he := hbad (by rw [h0]; decide)
    rw [hl] at h0 h1
    simp only at h0 h1
    subst h0 h1
    exact ⟨none, 0, 0, he, hb, Rd2.none _⟩
theorem decF_small {b : List Int} {M : List (List Int)} {k : Int} (hl : decF b = (M, k)) (hb : b.length ≤ 6000) : 8 + 4 * M.length + 4 * (M.map List.length).sum ≤ 6008 := by
  rcases decF_err b with h0 | ⟨_, h1⟩
  · have := decF_size h0
    rw [hl] at this
    simp only at this
    omega
  · rw [hl] at h1
    simp only at h1
    subst h1
    simp
theorem light_len {xss : List (List Int)} (h : lightB [] xss = true) : xss.length + (xss.map List.length).sum ≤ 1000 := by
  unfold lightB at h
  simp only [Bool.and_eq_true, decide_eq_true_eq] at h
  have := sizeF_sum h.1.1.2
  omega
set_option maxRecDepth 100000 in
set_option maxHeartbeats 4000000 in
theorem traceBytes_any (A0 : Option Addr) (n0 cap0 : Nat) (z0 : List (List Int)) (A1 : Option Addr) (n1 cap1 : Nat) (z1 : List Int) (w : World) (w0 : Rd2 w A0 n0 z0) (w1 : RdB w A1 n1 z1 ∧ IsBytes z1 ∧ n1 ≤ cap1 ∧ cap1 ≤ 9223372036854775807) :
    Calls Try.prog 3 #[.slice A0 n0 cap0, .slice A1 n1 cap1] w fun e w' => e = .returned (.bool true) ∧ Below w.heap.size w w' := by
  obtain ⟨w1, hby, hcap, hcm⟩ := w1
  have HC0 := Lib.hid w0
  have HB0 := Lib.hid w1
  have HBY := Lib.hid hby
  have hs1 := w1.small
  obtain ⟨lb, hlb⟩ : ∃ lb, lightB [] z0 = lb := ⟨_, rfl⟩
  have hlight := fun V (h : Rd2 V A0 n0 z0) => light_any none A0 0 0 n0 cap0 [] z0 V (Rd2.none V) h
  rw [hlb] at hlight
  have HLI := Lib.hid hlight
  have HLB := Lib.hid hlb
  clear w0 w1 hby hlight hlb
  go_enter Try.func3, Try.ntmps3
  go_wp2_with fail
  refine (known_any w).mono ?_
  rintro e w2 ⟨rfl, hb⟩
  have HW2 := Lib.hid hb
  have HC2 := Lib.hid (HC0.out.grow hb)
  have HB2 := Lib.hid (HB0.out.grow hb)
  clear hb
  go_wp2_with fail
  refine (HLI.out _ HC2.out).mono ?_
  rintro e w3 ⟨rfl, rfl⟩
  cases lb with
  | false =>
    go_wp2
    go_ret
    exact ⟨rfl, HW2.out⟩
  | true =>
  by_cases hlen : 6000 < n1
  · have hd : decide ((6000 : Int) < (n1 : Int)) = true := by simp; omega
    go_wp2
    go_ret
    exact ⟨rfl, HW2.out⟩
  have hd : decide ((6000 : Int) < (n1 : Int)) = false := by simp; omega
  have hll := light_len HLB.out
  have hzl := HC2.out.len
  have hbl := HB2.out.len
  rw [hzl] at hll
  obtain ⟨X, kx, hX⟩ : ∃ X k, encF z0 = (X, k) := ⟨_, _, rfl⟩
  obtain ⟨M, kd, hM⟩ : ∃ M k, decF z1 = (M, k) := ⟨_, _, rfl⟩
  have hms := decF_small hM (by omega)
  have HX := Lib.hid hX
  have HM := Lib.hid hM
  have HMS := Lib.hid hms
  have HLL := Lib.hid hll
  have HZL := Lib.hid hzl
  have hn0 : n0 ≤ 1000 := by omega
  have heach : ∀ j, j < n0 → (gl z0 j).length ≤ 1000000 := fun j hj => by have := len_sum (l := z0) (j := j) (by omega); omega
  have HEA := Lib.hid heach
  have e0 : (kx != kx) = false := by simp
  have e1 : (kd != kd) = false := by simp
  clear hX hM hms hll hzl hbl heach
  go_wp2_with fail
  refine (steps_any A0 n0 cap0 z0 w2 HC2.out (by omega) HEA.out).mono ?_
  rintro e w3 ⟨A3, c3, rfl, hb, hr, _, _⟩
  have HW3 := Lib.hid (btr HW2.out hb)
  have HC3 := Lib.hid (HC2.out.grow hb)
  have HB3 := Lib.hid (HB2.out.grow hb)
  have HS3 := Lib.hid hr
  clear hb hr
  go_wp2_with fail
  refine (encode_any A3 n0 c3 z0 w3 HS3.out (by have := HLL.out; omega)).mono ?_
  intro e w4 hp
  obtain ⟨A4, n4, c4, rfl, hb, hr, hc4, hm4⟩ := encU X kx HX.out hp
  have HW4 := Lib.hid (btr HW3.out hb)
  have HC4 := Lib.hid (HC3.out.grow hb)
  have HB4 := Lib.hid (HB3.out.grow hb)
  have HS4 := Lib.hid (HS3.out.grow hb)
  have HX4 := Lib.hid hr
  clear hb hr hp
  go_wp2_with fail
  refine (rencode_any A0 n0 cap0 z0 w4 HC4.out (by have := HLL.out; omega)).mono ?_
  intro e w5 hp
  obtain ⟨A5, n5, c5, rfl, hb, hr, hc5, hm5⟩ := encU X kx HX.out hp
  have HW5 := Lib.hid (btr HW4.out hb)
  have HC5 := Lib.hid (HC4.out.grow hb)
  have HB5 := Lib.hid (HB4.out.grow hb)
  have HS5 := Lib.hid (HS4.out.grow hb)
  have HX5 := Lib.hid (HX4.out.grow hb)
  have HY5 := Lib.hid hr
  clear hb hr hp
  go_wp2_with fail
  refine (copyBytes_any A1 n1 cap1 z1 w5 HB5.out (by omega)).mono ?_
  rintro e w6 ⟨ka, kc, rfl, k6⟩
  unfold slv
  obtain ⟨A6, hA6⟩ : ∃ A : Option Addr, (ka.map fun b => ⟨b, 0, none⟩) = A := ⟨_, rfl⟩
  rw [hA6]
  have hb := k6.below
  have hk6 : St w5.heap.size w5 w6 (star (slb 5 ka kc z1) emp) := k6.conseq (star_emp _).symm
  have hr := St.rdB hk6 (by have := HB5.out.len; omega)
  rw [hA6, HB5.out.len] at hr
  have hkc := slb_facts hk6
  rw [HB5.out.len] at hkc
  have HW6 := Lib.hid (btr HW5.out hb)
  have HC6 := Lib.hid (HC5.out.grow hb)
  have HB6 := Lib.hid (HB5.out.grow hb)
  have HS6 := Lib.hid (HS5.out.grow hb)
  have HX6 := Lib.hid (HX5.out.grow hb)
  have HY6 := Lib.hid (HY5.out.grow hb)
  have HZ6 := Lib.hid hr
  have hkc1 := hkc.1
  have hkc2 : kc ≤ 9223372036854775807 := by have := hkc.2; unfold maxLen at this; omega
  clear hb hr k6 hk6 hA6 hkc
  go_wp2_with fail
  refine (decode_any A6 n1 kc z1 w6 HZ6.out HBY.out (by omega) hkc1 hkc2).mono ?_
  intro e w7 hp
  obtain ⟨A7, n7, c7, rfl, hb, hr⟩ := decU M kd HM.out hp
  have HW7 := Lib.hid (btr HW6.out hb)
  have HC7 := Lib.hid (HC6.out.grow hb)
  have HB7 := Lib.hid (HB6.out.grow hb)
  have HS7 := Lib.hid (HS6.out.grow hb)
  have HX7 := Lib.hid (HX6.out.grow hb)
  have HY7 := Lib.hid (HY6.out.grow hb)
  have HZ7 := Lib.hid (HZ6.out.grow hb)
  have HL7 := Lib.hid hr
  clear hb hr hp
  go_wp2_with fail
  refine (rdecode_any A1 n1 cap1 z1 w7 HB7.out HBY.out (by omega) hcap hcm).mono ?_
  intro e w8 hp
  obtain ⟨A8, n8, c8, rfl, hb, hr⟩ := decU M kd HM.out hp
  have HW8 := Lib.hid (btr HW7.out hb)
  have HC8 := Lib.hid (HC7.out.grow hb)
  have HB8 := Lib.hid (HB7.out.grow hb)
  have HS8 := Lib.hid (HS7.out.grow hb)
  have HX8 := Lib.hid (HX7.out.grow hb)
  have HY8 := Lib.hid (HY7.out.grow hb)
  have HZ8 := Lib.hid (HZ7.out.grow hb)
  have HL8 := Lib.hid (HL7.out.grow hb)
  have HM8 := Lib.hid hr
  clear hb hr hp
  have hn7 : n7 ≤ 6000 := by have := HMS.out; have := HL8.out.len; omega
  go_wp2_with fail
  refine (bytes_any A4 A5 n4 c4 n5 c5 X X w8 HX8.out HY8.out).mono ?_
  rintro e w9 ⟨rfl, hD⟩
  rw [eqB_iff.2 rfl]
  have hb := hD.below w8.heap.size
  have HW9 := Lib.hid (btr HW8.out hb)
  have HC9 := Lib.hid (HC8.out.grow hb)
  have HB9 := Lib.hid (HB8.out.grow hb)
  have HS9 := Lib.hid (HS8.out.grow hb)
  have HX9 := Lib.hid (HX8.out.grow hb)
  have HZ9 := Lib.hid (HZ8.out.grow hb)
  have HL9 := Lib.hid (HL8.out.grow hb)
  have HM9 := Lib.hid (HM8.out.grow hb)
  clear hb hD
  go_wp2_with fail
  refine (lists_of A7 n7 c7 M w9 HL9.out (by omega)).mono ?_
  rintro e w10 ⟨A10, c10, rfl, hb, hr⟩
  have HW10 := Lib.hid (btr HW9.out hb)
  have HC10 := Lib.hid (HC9.out.grow hb)
  have HB10 := Lib.hid (HB9.out.grow hb)
  have HS10 := Lib.hid (HS9.out.grow hb)
  have HX10 := Lib.hid (HX9.out.grow hb)
  have HZ10 := Lib.hid (HZ9.out.grow hb)
  have HL10 := Lib.hid (HL9.out.grow hb)
  have HM10 := Lib.hid (HM9.out.grow hb)
  have HN10 := Lib.hid hr
  clear hb hr
  go_wp2_with fail
  refine (lists_any A10 A8 n7 c10 n8 c8 M M w10 HN10.out HM10.out).mono ?_
  rintro e w11 ⟨rfl, hD⟩
  rw [eqL_iff.2 rfl]
  have hb := hD.below w10.heap.size
  have HW11 := Lib.hid (btr HW10.out hb)
  have HC11 := Lib.hid (HC10.out.grow hb)
  have HB11 := Lib.hid (HB10.out.grow hb)
  have HS11 := Lib.hid (HS10.out.grow hb)
  have HX11 := Lib.hid (HX10.out.grow hb)
  have HZ11 := Lib.hid (HZ10.out.grow hb)
  have HL11 := Lib.hid (HL10.out.grow hb)
  clear hb hD
  go_wp2_with fail
  refine (bytes_any A6 A1 n1 kc n1 cap1 z1 z1 w11 HZ11.out HB11.out).mono ?_
  rintro e w12 ⟨rfl, hD⟩
  rw [eqB_iff.2 rfl]
  have hb := hD.below w11.heap.size
  have HW12 := Lib.hid (btr HW11.out hb)
  have HC12 := Lib.hid (HC11.out.grow hb)
  have HB12 := Lib.hid (HB11.out.grow hb)
  have HS12 := Lib.hid (HS11.out.grow hb)
  have HX12 := Lib.hid (HX11.out.grow hb)
  have HL12 := Lib.hid (HL11.out.grow hb)
  clear hb hD
  go_wp2_with fail
  refine (lists_of A3 n0 c3 z0 w12 HS12.out (by omega)).mono ?_
  rintro e w13 ⟨A13, c13, rfl, hb, hr⟩
  have HW13 := Lib.hid (btr HW12.out hb)
  have HC13 := Lib.hid (HC12.out.grow hb)
  have HB13 := Lib.hid (HB12.out.grow hb)
  have HX13 := Lib.hid (HX12.out.grow hb)
  have HL13 := Lib.hid (HL12.out.grow hb)
  have HN13 := Lib.hid hr
  clear hb hr
  go_wp2_with fail
  refine (lists_any A13 A0 n0 c13 n0 cap0 z0 z0 w13 HN13.out HC13.out).mono ?_
  rintro e w14 ⟨rfl, hD⟩
  rw [eqL_iff.2 rfl]
  have hb := hD.below w13.heap.size
  have HW14 := Lib.hid (btr HW13.out hb)
  have HC14 := Lib.hid (HC13.out.grow hb)
  have HB14 := Lib.hid (HB13.out.grow hb)
  have HX14 := Lib.hid (HX13.out.grow hb)
  have HL14 := Lib.hid (HL13.out.grow hb)
  clear hb hD
  by_cases hkx : kx = 0
  · subst hkx
    have hdec : decF X = (z0, 0) := by
      have := dec_enc (l := z0) (by rw [HX.out]) (by have := HZL.out; omega) (fun s hs => by have := mem_sum hs; have := HLL.out; omega)
      rwa [HX.out] at this
    have hxb : IsBytes X := by
      have := encF_yes (l := z0) (by rw [HX.out])
      rw [HX.out] at this
      rw [show X = encB z0 from this]
      exact encB_bytes _
    have hn4 : n4 ≤ 1000000 := by
      have h1 := decF_size (b := X) (by rw [hdec])
      rw [hdec, HX14.out.len] at h1
      simp only at h1
      have := HLL.out
      have := HZL.out
      omega
    have HDEC := Lib.hid hdec
    have HXB := Lib.hid hxb
    clear hdec hxb
    go_wp2_with fail
    refine (decode_any A4 n4 c4 X w14 HX14.out HXB.out hn4 hc4 hm4).mono ?_
    intro e w15 hp
    obtain ⟨A15, n15, c15, rfl, hb, hr⟩ := decU z0 0 HDEC.out hp
    have hn15 : n15 = n0 := by rw [← hr.len]; exact HZL.out
    subst hn15
    have HW15 := Lib.hid (btr HW14.out hb)
    have HC15 := Lib.hid (HC14.out.grow hb)
    have HB15 := Lib.hid (HB14.out.grow hb)
    have HL15 := Lib.hid (HL14.out.grow hb)
    have HN15 := Lib.hid hr
    clear hb hr hp
    go_wp2_with fail
    refine (lists_of A15 n15 c15 z0 w15 HN15.out (by omega)).mono ?_
    rintro e w16 ⟨A16, c16, rfl, hb, hr⟩
    have HW16 := Lib.hid (btr HW15.out hb)
    have HC16 := Lib.hid (HC15.out.grow hb)
    have HB16 := Lib.hid (HB15.out.grow hb)
    have HL16 := Lib.hid (HL15.out.grow hb)
    have HN16 := Lib.hid hr
    clear hb hr
    go_wp2_with fail
    refine (lists_any A16 A0 n15 c16 n15 cap0 z0 z0 w16 HN16.out HC16.out).mono ?_
    rintro e w17 ⟨rfl, hD⟩
    rw [eqL_iff.2 rfl]
    have hb := hD.below w16.heap.size
    have HW17 := Lib.hid (btr HW16.out hb)
    have HB17 := Lib.hid (HB16.out.grow hb)
    have HL17 := Lib.hid (HL16.out.grow hb)
    clear hb hD
    by_cases hkd : kd = 0
    · subst hkd
      go_wp2_with fail
      refine (encode_any A7 n7 c7 M w17 HL17.out (by have := HMS.out; have := HL17.out.len; omega)).mono ?_
      intro e w20 hp
      obtain ⟨A20, n20, c20, rfl, hb, hr, _, _⟩ := encU z1 0 (by have := enc_dec HBY.out (by rw [HM.out]); rwa [HM.out] at this) hp
      have HW20 := Lib.hid (btr HW17.out hb)
      have HB20 := Lib.hid (HB17.out.grow hb)
      have HO20 := Lib.hid hr
      clear hb hr hp
      go_wp2_with fail
      refine (bytes_any A20 A1 n20 c20 n1 cap1 z1 z1 w20 HO20.out HB20.out).mono ?_
      rintro e w21 ⟨rfl, hD⟩
      rw [eqB_iff.2 rfl]
      have HW21 := Lib.hid (btr HW20.out (hD.below _))
      clear hD
      go_wp2
      go_ret
      exact ⟨rfl, HW21.out⟩
    · have e2 : (kd == 0) = false := by simpa using hkd
      go_wp2
      go_ret
      exact ⟨rfl, HW17.out⟩
  · have e2 : (kx == 0) = false := by simpa using hkx
    by_cases hkd : kd = 0
    · subst hkd
      go_wp2_with fail
      refine (encode_any A7 n7 c7 M w14 HL14.out (by have := HMS.out; have := HL14.out.len; omega)).mono ?_
      intro e w20 hp
      obtain ⟨A20, n20, c20, rfl, hb, hr, _, _⟩ := encU z1 0 (by have := enc_dec HBY.out (by rw [HM.out]); rwa [HM.out] at this) hp
      have HW20 := Lib.hid (btr HW14.out hb)
      have HB20 := Lib.hid (HB14.out.grow hb)
      have HO20 := Lib.hid hr
      clear hb hr hp
      go_wp2_with fail
      refine (bytes_any A20 A1 n20 c20 n1 cap1 z1 z1 w20 HO20.out HB20.out).mono ?_
      rintro e w21 ⟨rfl, hD⟩
      rw [eqB_iff.2 rfl]
      have HW21 := Lib.hid (btr HW20.out (hD.below _))
      clear hD
      go_wp2
      go_ret
      exact ⟨rfl, HW21.out⟩
    · have e2 : (kd == 0) = false := by simpa using hkd
      go_wp2
      go_ret
      exact ⟨rfl, HW14.out⟩
end Go.Proofs.Ytodmkcolamppmaa

