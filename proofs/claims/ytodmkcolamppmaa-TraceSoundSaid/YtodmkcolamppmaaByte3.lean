/-
  The contract of plaitref12's Encode.
-/
import Derived.Test.YtodmkcolamppmaaByte2
namespace Go.Proofs.Ytodmkcolamppmaa
open Go.RowKit Go.Proofs.PlaitSep Go.Proofs.PlaitPure

theorem St.newBytes {B : Nat} {w0 w : World} {F : HP} (h : St B w0 w F) (vs : Array Value) (xs : List Int) (t : TypeId) (hv : vs.toList = byts xs) (hx : xs.length ≤ 1000000) : St B w0 (w.alloc (.cells vs t)) (star (slb t (some w.heap.size) xs.length xs) F) := by
  have h1 := h.pt_new vs t
  rw [hv] at h1
  exact ⟨h1.below, h1.base, h1.sat.pt_sl (xs := byts xs) (n := xs.length) (c := xs.length) (sz := 1) (by simp) (Nat.le_refl _) (by unfold maxLen; omega) (by simp) (by rw [Nat.mul_one, List.take_of_length_le (by simp)])⟩
set_option maxRecDepth 100000 in
set_option maxHeartbeats 4000000 in
theorem rencode_any (A : Option Addr) (n cap : Nat) (l : List (List Int)) (w : World) (hr : Rd2 w A n l) (hsum : 8 + 4 * n + 4 * (l.map List.length).sum ≤ 4194304) :
    Calls Try.prog 14 #[.slice A n cap] w (EncPost w l) := by
  have HR := Lib.hid hr
  have HSUM := Lib.hid hsum
  have hnb : n ≤ 1048576 := by omega
  have heach : ∀ j, j < n → (gl l j).length ≤ 1048576 := fun j hj => by
    have h1 := sumN_succ l (j := j) (by have := hr.len; omega)
    have h2 := sumN_le l (j + 1)
    omega
  have HE := Lib.hid heach
  have hst0 : St w.heap.size w w emp := St.start w
  have h0 := St.newBytes hst0 #[.int .u8 80, .int .u8 76, .int .u8 84, .int .u8 49] [80, 76, 84, 49] 5 rfl (by decide)
  have H0 := Lib.hid (show St w.heap.size w (w.alloc (.cells #[.int .u8 80, .int .u8 76, .int .u8 84, .int .u8 49] 5)) (star (slb 5 (some w.heap.size) 4 (putF 1347179569)) emp) from h0)
  clear hr hsum heach hst0 h0
  go_enter Try.func14, Try.ntmps14
  go_wp2_with fail
  refine (rput_to (some w.heap.size) 4 4 _ n rfl H0.out (by omega) (by omega) (by omega)).mono ?_
  rintro e w2 ⟨a2, c2, rfl, h2⟩
  have H2 := Lib.hid h2
  have hB : Below w.heap.size w w2 := h2.below
  have HB := Lib.hid hB
  clear h2 hB
  go_wp2
  go_loop [5, 6] (fun v5 v6 => ∃ j : Nat, j ≤ n ∧ v6 = .int .i64 j ∧ (∃ s : Nat, v5 = .int .i64 s ∧ Hid (s = 8 + 4 * n + 4 * sumN l j)) ∧ Hid (∀ i, i < j → ∀ t, t < (gl l i).length → okN (gi (gl l i) t) = true)) (fun _ v6 => n - (intOf v6).toNat)
  case atStart => exact ⟨0, Nat.zero_le _, rfl, ⟨8 + 4 * n, by go_num, (rfl : 8 + 4 * n = 8 + 4 * n + 4 * sumN l 0)⟩, (fun i hi => absurd hi (Nat.not_lt_zero i) : ∀ i, i < 0 → _)⟩
  case round =>
    obtain ⟨j, hj, rfl, ⟨s, rfl, HS⟩, HOK⟩ := hrel
    have hsb : s ≤ 4194304 := by
      have := HS.out
      have := sumN_le l j
      have := HSUM.out
      omega
    by_cases hjn : j < n
    · obtain ⟨ab, ao, hA, hc⟩ := (HR.out.grow HB.out).cells (by omega)
      subst hA
      obtain ⟨Aj, cj, d1, hrj⟩ := hc j hjn
      have hsm := HE.out j hjn
      obtain ⟨xs, hxs⟩ : ∃ xs, gl l j = xs := ⟨_, rfl⟩
      obtain ⟨ln, hln⟩ : ∃ ln, xs.length = ln := ⟨_, rfl⟩
      rw [hxs, hln] at d1 hrj
      rw [hxs, hln] at hsm
      have hsn := sumN_succ l (j := j) (by have := HR.out.len; omega)
      rw [hxs, hln] at hsn
      have HSN := Lib.hid hsn
      have HXS := Lib.hid hxs
      have HLN := Lib.hid hln
      have HRJ := Lib.hid hrj
      have hj0 : (0 : Int) ≤ (j : Int) := by omega
      have hj1 : (j : Int) < (n : Int) := by omega
      clear hc hxs hln hsn hrj
      go_wp2
      go_loop [7] (fun v7 => ∃ t : Nat, t ≤ ln ∧ v7 = .int .i64 t ∧ Hid (∀ i, i < t → okN (gi xs i) = true)) (fun v7 => ln - (intOf v7).toNat)
      case atStart => exact ⟨0, Nat.zero_le _, rfl, (fun i hi => absurd hi (Nat.not_lt_zero i) : ∀ i, i < 0 → _)⟩
      case round =>
        obtain ⟨t, ht, rfl, HT⟩ := hrel
        by_cases htn : t < ln
        · obtain ⟨bx, ox, hAj, hcx⟩ := HRJ.out.cells (by omega)
          subst hAj
          have d2 := hcx t htn
          obtain ⟨x, hx⟩ : ∃ x, gi xs t = x := ⟨_, rfl⟩
          rw [hx] at d2
          have HX := Lib.hid hx
          have t0 : (0 : Int) ≤ (t : Int) := by omega
          have t1 : (t : Int) < (ln : Int) := by omega
          clear hcx hx
          by_cases h0 : x < 0
          · have e0 : decide (x < 0) = true := by simpa using h0
            have hbad := encF_bad (l := l) (j := j) (t := t) (by have := HR.out.len; omega) (by rw [HXS.out, HLN.out]; exact htn) (by rw [HXS.out, HX.out]; simp [okN]; omega)
            have HBAD := Lib.hid hbad
            clear hbad
            go_wp2
            go_ret2
            exact ⟨HB.out, fun h => (by rw [HBAD.out] at h; cases h), fun _ => by rw [HBAD.out]; rfl⟩
          · have e0 : decide (x < 0) = false := by simpa using h0
            by_cases h1 : 2147483647 < x
            · have e1 : decide (2147483647 < x) = true := by simpa using h1
              have hbad := encF_bad (l := l) (j := j) (t := t) (by have := HR.out.len; omega) (by rw [HXS.out, HLN.out]; exact htn) (by rw [HXS.out, HX.out]; simp [okN]; omega)
              have HBAD := Lib.hid hbad
              clear hbad
              go_wp2
              go_ret2
              exact ⟨HB.out, fun h => (by rw [HBAD.out] at h; cases h), fun _ => by rw [HBAD.out]; rfl⟩
            · have e1 : decide (2147483647 < x) = false := by simpa using h1
              have hok : okN x = true := okN_iff.2 (by omega)
              have HOKX := Lib.hid hok
              clear hok h0 h1
              go_wp2
              go_round
              case rel =>
                refine ⟨t + 1, by omega, by go_num, (fun i hi => ?_ : ∀ i, i < t + 1 → okN (gi xs i) = true)⟩
                by_cases e : i = t
                · rw [e, HX.out]; exact HOKX.out
                · exact HT.out i (by omega)
              case measure => simp [intOf]; omega
        · obtain rfl : t = ln := by omega
          go_wp2
          go_round
          case rel =>
            refine ⟨j + 1, by omega, by go_num, ⟨s + 4 * t, by simp, (by rw [HSN.out]; have := HS.out; omega : s + 4 * t = 8 + 4 * n + 4 * sumN l (j + 1))⟩, (fun i hi => ?_ : ∀ i, i < j + 1 → ∀ u, u < (gl l i).length → okN (gi (gl l i) u) = true)⟩
            by_cases e : i = j
            · rw [e, HXS.out]
              intro u hu
              exact HT.out u (by rw [← HLN.out]; exact hu)
            · exact HOK.out i (by omega)
          case measure => simp [intOf]; omega
    · obtain rfl : j = n := by omega
      have hlen := HR.out.len
      have hgood := encF_good (l := l) (fun i hi t ht => HOK.out i (by omega) t ht)
      have hs : s = (encB l).length := by
        rw [encB_length, hlen]
        have := HS.out
        rw [sumN_all l (by omega)] at this
        exact this
      have HGOOD := Lib.hid hgood
      have HSE := Lib.hid hs
      have HLEN := Lib.hid hlen
      have hds : decide (4194304 < (s : Int)) = false := by simp; omega
      clear hlen hgood hs HOK HS
      go_wp2
      go_loopw [4, 8] (fun v4 v8 wt => ∃ (i : Nat) (a' : Option Nat) (c' : Nat) (cl : Nat), i ≤ j ∧ v8 = .int .i64 i ∧ v4 = .slice (a'.map fun b => ⟨b, 0, none⟩) cl c' ∧ Hid (cl = 8 + 4 * i + 4 * sumN l i) ∧ Hid (St w.heap.size w wt (star (slb 5 a' c' (putF 1347179569 ++ putF j ++ (l.take i).flatMap stepB)) emp))) (fun _ v8 _ => j - (intOf v8).toNat)
      case atStart => exact ⟨0, a2, c2, 8, Nat.zero_le _, rfl, rfl, rfl, (by rw [List.take_zero, List.flatMap_nil, List.append_nil]; exact H2.out : St w.heap.size w w2 (star (slb 5 a2 c2 (putF 1347179569 ++ putF j ++ (l.take 0).flatMap stepB)) emp))⟩
      case round =>
        obtain ⟨i, a', c', cl, hi, rfl, rfl, HCL, HST⟩ := hrel
        by_cases hij : i < j
        · obtain ⟨ab, ao, hA, hc⟩ := HR.out.cells (by omega)
          subst hA
          obtain ⟨Aj, cj, d0, hrj⟩ := hc i hij
          have hlt0 := World.block_lt_of_cell? w _ d0
          have hsm := HE.out i hij
          obtain ⟨xs, hxs⟩ : ∃ xs, gl l i = xs := ⟨_, rfl⟩
          obtain ⟨ln, hln⟩ : ∃ ln, xs.length = ln := ⟨_, rfl⟩
          rw [hxs, hln] at d0 hrj
          rw [hxs, hln] at hsm
          have HD := Lib.hid (show ∀ V : World, Below w.heap.size w V → V.cell? ⟨ab, ao + i, none⟩ = some (.slice Aj ln cj) from fun V hb => (hb.cell hlt0).trans d0)
          have hsn := sumN_succ l (j := i) (by rw [HLEN.out]; exact hij)
          rw [hxs, hln] at hsn
          have hle := sumN_le l (i + 1)
          have htk : (l.take (i + 1)).flatMap stepB = (l.take i).flatMap stepB ++ stepB xs := by
            rw [take_gl l i (by rw [HLEN.out]; exact hij), hxs, List.flatMap_append]
            simp
          have hclb : cl + 4 + 4 * ln ≤ 4194304 := by
            have := HCL.out
            have := HSUM.out
            omega
          have hok : ∀ t, t < ln → okN (gi xs t) = true := fun t ht => by
            have h1 := HGOOD.out
            unfold encF at h1
            split at h1
            · rename_i ha
              rw [List.all_eq_true] at ha
              have h2 := ha (gl l i) (by rw [gl_eq l i (by rw [HLEN.out]; exact hij)]; exact List.getElem_mem _)
              rw [List.all_eq_true, hxs] at h2
              exact h2 _ (by rw [gi_eq _ t (by omega)]; exact List.getElem_mem _)
            · cases h1
          have hlc : (putF 1347179569 ++ putF j ++ (l.take i).flatMap stepB).length = cl := by
            rw [List.length_append, List.length_append, flat_step_length, putF_length, putF_length, List.length_take, HLEN.out]
            have := HCL.out
            unfold sumN at this
            omega
          have HSN := Lib.hid hsn
          have HTK := Lib.hid htk
          have HLC := Lib.hid hlc
          have HOK := Lib.hid hok
          have HLN := Lib.hid hln
          have hj0 : (0 : Int) ≤ (i : Int) := by omega
          have hj1 : (i : Int) < (j : Int) := by omega
          have HRJ := Lib.hid hrj
          have d1 := HD.out _ HST.out.below
          clear hc hxs hln hsn hle htk hok hlc hrj d0
          go_wp2_with fail
          refine (rput_to a' c' cl _ ln HLC.out HST.out (by omega) (by omega) (by omega)).mono ?_
          rintro e w7 ⟨a7, c7, rfl, h7⟩
          have H7b := Lib.hid h7
          clear h7 d1
          go_wp2
          obtain ⟨cur0, hcur0⟩ : ∃ cur0, putF 1347179569 ++ putF j ++ (l.take i).flatMap stepB ++ putF ln = cur0 := ⟨_, rfl⟩
          have hcl0 : cur0.length = cl + 4 := by rw [← hcur0, List.length_append, HLC.out, putF_length]
          rw [hcur0] at H7b
          have HCUR := Lib.hid hcur0
          have HCL0 := Lib.hid hcl0
          clear hcur0 hcl0
          go_loopw [4, 9] (fun v4 v9 wq => ∃ (t : Nat) (a' : Option Nat) (c' : Nat), t ≤ ln ∧ v9 = .int .i64 t ∧ v4 = .slice (a'.map fun b => ⟨b, 0, none⟩) (cl + 4 + 4 * t) c' ∧ Hid (St w.heap.size w wq (star (slb 5 a' c' (cur0 ++ (xs.take t).flatMap putF)) emp))) (fun _ v9 _ => ln - (intOf v9).toNat)
          case atStart => exact ⟨0, a7, c7, Nat.zero_le _, rfl, rfl, (by rw [List.take_zero, List.flatMap_nil, List.append_nil]; exact H7b.out : St w.heap.size w w7 (star (slb 5 a7 c7 (cur0 ++ (xs.take 0).flatMap putF)) emp))⟩
          case round =>
            obtain ⟨t, a8, c8, ht, rfl, rfl, HQ⟩ := hrel
            have d1 := HD.out _ HQ.out.below
            by_cases htn : t < ln
            · obtain ⟨bx, ox, hAj, hcx⟩ := (HRJ.out.grow HQ.out.below).cells (by omega)
              subst hAj
              have d2 := hcx t htn
              obtain ⟨x, hx⟩ : ∃ x, gi xs t = x := ⟨_, rfl⟩
              rw [hx] at d2
              have hxok := HOK.out t htn
              rw [hx] at hxok
              obtain ⟨x0, x1⟩ := okN_iff.1 hxok
              have htk2 : (xs.take (t + 1)).flatMap putF = (xs.take t).flatMap putF ++ putF x := by
                rw [take_gi xs t (by rw [HLN.out]; exact htn), hx, List.flatMap_append]
                simp
              have HTK2 := Lib.hid htk2
              have hlq : (cur0 ++ (xs.take t).flatMap putF).length = cl + 4 + 4 * t := by
                rw [List.length_append, HCL0.out, flat_put_length, List.length_take, HLN.out]
                omega
              have HLQ := Lib.hid hlq
              have t0 : (0 : Int) ≤ (t : Int) := by omega
              have t1 : (t : Int) < (ln : Int) := by omega
              clear hcx hx hxok htk2 hlq
              go_wp2_with fail
              refine (rput_to a8 c8 (cl + 4 + 4 * t) _ x HLQ.out HQ.out (by omega) (by omega) (by omega)).mono ?_
              rintro e w9 ⟨a9, c9, rfl, h9⟩
              have H9 := Lib.hid h9
              clear h9
              go_wp2
              go_roundw
              case rel =>
                refine ⟨t + 1, a9, c9, by omega, by go_num, by rw [show cl + 4 + 4 * (t + 1) = cl + 4 + 4 * t + 4 by omega], (?_ : St w.heap.size w w9 (star (slb 5 a9 c9 (cur0 ++ (xs.take (t + 1)).flatMap putF)) emp))⟩
                rw [HTK2.out, ← List.append_assoc]
                exact H9.out
              case measure => simp [intOf]; omega
            · obtain rfl : t = ln := by omega
              go_wp2
              go_roundw
              case rel =>
                refine ⟨i + 1, a8, c8, cl + 4 + 4 * t, by omega, by go_num, rfl, (by rw [HSN.out]; have := HCL.out; omega : cl + 4 + 4 * t = 8 + 4 * (i + 1) + 4 * sumN l (i + 1)), (?_ : St w.heap.size w wr (star (slb 5 a8 c8 (putF 1347179569 ++ putF j ++ (l.take (i + 1)).flatMap stepB)) emp))⟩
                rw [HTK.out]
                have := HQ.out
                rw [List.take_of_length_le (by rw [HLN.out]; omega), ← HCUR.out] at this
                unfold stepB
                rw [HLN.out]
                simp only [List.append_assoc] at this ⊢
                exact this
              case measure => simp [intOf]; omega
        · obtain rfl : i = j := by omega
          have hfin := HST.out
          rw [List.take_of_length_le (by rw [HLEN.out]; omega), ← HLEN.out, ← encB_head] at hfin
          have hcl : cl = (encB l).length := by
            rw [← HSE.out]
            have := HCL.out
            rw [sumN_all l (by rw [HLEN.out]; omega)] at this
            have h2 := encB_length l
            rw [← HSE.out, HLEN.out] at h2
            omega
          obtain ⟨f1, f2⟩ := slb_facts hfin
          have hrd := St.rdB hfin (by have := HSE.out; omega)
          have HFIN := Lib.hid hfin
          have HCLE := Lib.hid hcl
          have HRD := Lib.hid hrd
          clear hfin hcl hrd
          go_wp2
          go_ret2
          exact ⟨HFIN.out.below, fun _ => ⟨a'.map fun b => ⟨b, 0, none⟩, c', (by rw [← HCLE.out]; rfl), HRD.out, f1, f2⟩, fun h => absurd (by rw [HGOOD.out]) h⟩
end Go.Proofs.Ytodmkcolamppmaa
