/-
  StoreStays: the walk of the law.
-/
import Derived.Test.YtmljcbdlkeooiaaLaw8
namespace Go.Proofs.Ytmljcbdlkeooiaa
open Go.RowKit Go.Proofs.PlaitSep Go.Proofs.PlaitPure

set_option maxRecDepth 100000 in
set_option maxHeartbeats 4000000 in
theorem storeStays_any (A0 : Option Addr) (n0 cap0 : Nat) (z0 : List (List Int)) (A1 : Option Addr) (n1 cap1 : Nat) (z1 : List Int) (A2 : Option Addr) (n2 cap2 : Nat) (z2 : List Int) (w : World) (w0 : Rd2 w A0 n0 z0) (w1 : Rd w A1 n1 z1) (w2 : Rd w A2 n2 z2) :
    Calls Try.prog 8 #[.slice A0 n0 cap0, .slice A1 n1 cap1, .slice A2 n2 cap2] w fun e w' => e = .returned (.bool true) ∧ Below w.heap.size w w' := by
  have hs0 := w0.small
  have HR0 := Lib.hid w0
  have hs1 := w1.small
  have HR1 := Lib.hid w1
  have hs2 := w2.small
  have HR2 := Lib.hid w2
  clear w0 w1 w2
  obtain ⟨s0, hz0⟩ : ∃ s, sizeF z0 500 = s := ⟨_, rfl⟩
  have hsize0 := fun w0 (h : Rd2 w0 A0 n0 z0) => size_any A0 n0 cap0 z0 500 w0 h (by omega) (by omega)
  rw [hz0] at hsize0
  have HSZ0 := Lib.hid hsize0
  have HZ0 := Lib.hid hz0
  clear hsize0 hz0
  go_enter Try.func8, Try.ntmps8
  go_wp2_with fail
  refine (known_any w).mono ?_
  rintro e w1 ⟨rfl, hb1⟩
  have HB1 := Lib.hid hb1
  have HQ0 := Lib.hid (HR0.out.grow hb1)
  have HQ1 := Lib.hid (HR1.out.grow hb1)
  have HQ2 := Lib.hid (HR2.out.grow hb1)
  clear hb1
  by_cases ht0 : 500 < s0
  · have hd : decide (500 < s0) = true := by simp; omega
    go_wp2_with fail
    refine (HSZ0.out _ HQ0.out).mono ?_
    rintro e w2 ⟨rfl, rfl⟩
    go_wp2
    go_ret
    exact ⟨rfl, HB1.out⟩
  have hd0 : decide (500 < s0) = false := by simp; omega
  by_cases ht1 : 40 < n1
  · have hd : decide (40 < (n1 : Int)) = true := by simp; omega
    go_wp2_with fail
    refine (HSZ0.out _ HQ0.out).mono ?_
    rintro e w2 ⟨rfl, rfl⟩
    go_wp2
    go_ret
    exact ⟨rfl, HB1.out⟩
  have hd1 : decide (40 < (n1 : Int)) = false := by simp; omega
  by_cases ht2 : 40 < n2
  · have hd : decide (40 < (n2 : Int)) = true := by simp; omega
    go_wp2_with fail
    refine (HSZ0.out _ HQ0.out).mono ?_
    rintro e w2 ⟨rfl, rfl⟩
    go_wp2
    go_ret
    exact ⟨rfl, HB1.out⟩
  have hd2 : decide (40 < (n2 : Int)) = false := by simp; omega
  by_cases ht3 : 100 < n0
  · have hd : decide (100 < (n0 : Int)) = true := by simp; omega
    go_wp2_with fail
    refine (HSZ0.out _ HQ0.out).mono ?_
    rintro e w2 ⟨rfl, rfl⟩
    go_wp2
    go_ret
    exact ⟨rfl, HB1.out⟩
  have hd3 : decide (100 < (n0 : Int)) = false := by simp; omega
  go_wp2_with fail
  refine (HSZ0.out _ HQ0.out).mono ?_
  rintro e w2 ⟨rfl, rfl⟩
  go_wp2_with fail
  have HE := Lib.hid (show ∀ j, j < n0 → (gl z0 j).length ≤ 1000000 from fun j hj => by
    have := sizeF_each (xss := z0) (most := 500) (by rw [HZ0.out]; omega) j (by rw [HR0.out.len]; exact hj)
    omega)
  refine (made_law A0 n0 cap0 z0 w1 HQ0.out (by omega) HE.out).mono ?_
  rintro e w3 ⟨p, L, S, a, c, W, rfl, h3, hC, _, hS, hCn, hWs⟩
  obtain ⟨k, hk⟩ : ∃ k, W.length = k := ⟨_, rfl⟩
  rw [hk] at hCn ⊢
  have hkn : k ≤ n0 := by rw [HR0.out.len] at hCn; exact hCn
  have H3 := Lib.hid h3
  have HC := Lib.hid hC
  have HS := Lib.hid hS
  have HK := Lib.hid hk
  have HWS := Lib.hid hWs
  clear h3 hC hS hCn hWs hk HE
  unfold slv
  go_wp2_with fail
  refine (follow_law A1 n1 cap1 z1 S.C (fun w' hh => HQ1.out.grow hh.below) (by omega) H3.out HS.out rfl).mono ?_
  rintro e w4 ⟨o1, q1, oa, oc, L4, S4, rfl, h4, hS4, hC4, hsp1, ht1, hob1⟩
  obtain ⟨ol1, hol1⟩ : ∃ ol1, o1.length = ol1 := ⟨_, rfl⟩
  have hr1 : Rd w4 (oa.map fun b => ⟨b, 0, none⟩) ol1 o1 := by
    have := St.rd (h4.st.conseq (show _ = star (sli 3 oa oc o1) (star (storeHP p L4 S4) (rowsHP a c W)) by ac_rfl)) (by omega)
    rwa [hol1] at this
  have HSPO := Lib.hid (show ∀ V F, St w1.heap.size w1 V (star (sli 3 oa oc o1) F) → Calls Try.prog 16 #[slv oa ol1 oc] V fun e w' => e = .returned (.tuple #[]) ∧ ∃ ys, ys.length = o1.length ∧ St w1.heap.size w1 w' (star (sli 3 oa oc ys) F) from fun V F hV => by
    rw [← hol1]
    exact spoil_any oa oc o1 _ w1 V F hV (by omega))
  rw [hol1] at hob1 ⊢
  have H4 := Lib.hid h4
  have HS4 := Lib.hid hS4
  have HC4 := Lib.hid hC4
  have HSP1 := Lib.hid hsp1
  have HT1 := Lib.hid ht1
  have HOL1 := Lib.hid hol1
  have HR1' := Lib.hid hr1
  clear h4 hS4 hC4 hsp1 ht1 hol1 hr1
  unfold slv
  go_wp2_with fail
  refine (copyInts_any _ ol1 oc o1 w4 HR1'.out (by omega)).mono ?_
  rintro e w5 ⟨wa, wc, rfl, k5⟩
  have h5 := (H4.out.st.nest k5).conseq (show _ = star (sli 3 oa oc o1) (star (star (storeHP p L4 S4) (sli 3 wa wc o1)) (rowsHP a c W)) by ac_rfl)
  have H5 := Lib.hid h5
  clear k5 h5
  unfold slv
  go_wp2_with fail
  have hspo := HSPO.out w5 _ H5.out
  unfold slv at hspo
  refine hspo.mono ?_
  rintro e w6 ⟨rfl, ys, _, h6⟩
  have H6 := Lib.hid (show StoreAt w1.heap.size w1 w6 p L4 S4 (star (sli 3 wa wc o1) (rowsHP a c W)) from ⟨(h6.conseq (show _ = star (star (storeHP p L4 S4) (star (sli 3 wa wc o1) (rowsHP a c W))) (sli 3 oa oc ys) by ac_rfl)).drop, H4.out.ws⟩)
  clear h6 hspo
  go_wp2_with fail
  refine (follow_law A2 n2 cap2 z2 S.C (fun w' hh => HQ2.out.grow hh.below) (by omega) H6.out HS4.out HC4.out).mono ?_
  rintro e w7 ⟨o3, q3, ob, obc, L5, S5, rfl, h7, hS5, hC5, _, _, _⟩
  have H7 := Lib.hid (show StoreAt w1.heap.size w1 w7 p L5 S5 (star (sli 3 wa wc o1) (rowsHP a c W)) from ⟨(h7.st.conseq (show _ = star (star (storeHP p L5 S5) (star (sli 3 wa wc o1) (rowsHP a c W))) (sli 3 ob obc o3) by ac_rfl)).drop, h7.ws⟩)
  have HS5 := Lib.hid hS5
  have HC5 := Lib.hid hC5
  clear h7 hS5 hC5
  unfold slv
  go_wp2_with fail
  refine (follow_law A1 n1 cap1 z1 S.C (fun w' hh => HQ1.out.grow hh.below) (by omega) H7.out HS5.out HC5.out).mono ?_
  rintro e w8 ⟨o2, q2, oe, oec, L8, S8, rfl, h8, hS8, hC8, hsp2, ht2, hob2⟩
  obtain ⟨ol2, hol2⟩ : ∃ ol2, o2.length = ol2 := ⟨_, rfl⟩
  rw [hol2] at hob2 ⊢
  have hlaw := stays_law HS.out.cok HT1.out ht2 HSP1.out.range hsp2.range
  have hlen : S8.cls.length = k := by rw [← S8.C_length, hC8, ← HC.out, List.length_map]; exact HK.out
  have hlc := fun V F (hV : StoreAt w1.heap.size w1 V p L8 S8 F) => Len_any hV
  rw [hlen] at hlc
  have r1 : Rd w8 (wa.map fun b => ⟨b, 0, none⟩) ol1 o1 := by
    have := St.rd (h8.st.conseq (show _ = star (sli 3 wa wc o1) (star (storeHP p L8 S8) (star (sli 3 oe oec o2) (rowsHP a c W))) by ac_rfl)) (by rw [HOL1.out]; omega)
    rwa [HOL1.out] at this
  have r2 : Rd w8 (oe.map fun b => ⟨b, 0, none⟩) ol2 o2 := by
    have := St.rd (h8.st.conseq (show _ = star (sli 3 oe oec o2) (star (storeHP p L8 S8) (star (sli 3 wa wc o1) (rowsHP a c W))) by ac_rfl)) (by omega)
    rwa [hol2] at this
  obtain ⟨s1, hs1, hsl1⟩ := set_lits HSP1.out.lits
  obtain ⟨s2, hs2, hsl2⟩ := set_lits hsp2.lits
  have HEQ := Lib.hid (show q1 < 0 → eqB s1 s2 = true from fun hq => set_alike hs1 hs2 HSP1.out.lits hsp2.lits (hlaw.2 hq).2.1 (hlaw.2 hq).2.2)
  rw [HOL1.out] at hsl1
  rw [hol2] at hsl2
  have HLAW := Lib.hid (show decide (0 ≤ q1) = decide (0 ≤ q2) ∧ (q1 < 0 → q2 = q1) from ⟨hlaw.1, fun h => (hlaw.2 h).1⟩)
  have H8 := Lib.hid h8
  have HS8 := Lib.hid hS8
  have HC8 := Lib.hid hC8
  have HLN := Lib.hid hlen
  have HLC := Lib.hid hlc
  have HS1' := Lib.hid hs1
  have HS2' := Lib.hid hs2
  have R1 := Lib.hid r1
  have R2 := Lib.hid r2
  clear h8 hS8 hC8 hsp2 ht2 hol2 hlaw hlen hlc r1 r2 hs1 hs2
  unfold slv
  by_cases hq : q1 < 0
  · have hqq := HLAW.out.2 hq
    subst hqq
    have e1 : decide (0 ≤ q2) = false := by simpa using hq
    have e2 : decide (q2 < 0) = true := by simpa using hq
    have he := HEQ.out hq
    have HEE := Lib.hid he
    clear he HEQ HLAW
    go_wp2_with fail
    refine (HLC.out _ _ H8.out).mono ?_
    rintro e w9 ⟨rfl, rfl⟩
    go_wp2_with fail
    refine (set_any _ ol1 wc o1 w8 R1.out (by omega)).mono ?_
    rintro e w9 ⟨hgood, _⟩
    obtain ⟨xa, xc, rfl, k9⟩ := hgood _ HS1'.out
    have HK9 := Lib.hid k9
    have R2' := Lib.hid (R2.out.grow k9.below)
    clear k9 hgood
    unfold slv
    go_wp2_with fail
    refine (set_any _ ol2 oec o2 w9 R2'.out (by omega)).mono ?_
    rintro e w10 ⟨hgood, _⟩
    obtain ⟨ya, yc, rfl, k10⟩ := hgood _ HS2'.out
    have h10 := (H8.out.st.nest HK9.out).nest k10
    have rx := St.rd (h10.conseq (show _ = star (sli 3 xa xc s1) (star (sli 3 ya yc s2) (star (storeHP p L8 S8) (star (sli 3 oe oec o2) (star (sli 3 wa wc o1) (rowsHP a c W))))) by ac_rfl)) (by omega)
    have ry := St.rd (h10.conseq (show _ = star (sli 3 ya yc s2) (star (sli 3 xa xc s1) (star (storeHP p L8 S8) (star (sli 3 oe oec o2) (star (sli 3 wa wc o1) (rowsHP a c W))))) by ac_rfl)) (by omega)
    have h11 := (h10.conseq (show _ = star (star (storeHP p L8 S8) (rowsHP a c W)) (star (sli 3 xa xc s1) (star (sli 3 ya yc s2) (star (sli 3 oe oec o2) (sli 3 wa wc o1)))) by ac_rfl)).drop
    have H11 := Lib.hid (show StoreAt w1.heap.size w1 w10 p L8 S8 (rowsHP a c W) from ⟨h11, H8.out.ws⟩)
    have hii := ints_any _ _ s1.length xc s2.length yc s1 s2 w10 rx ry
    rw [HEE.out] at hii
    have HII := Lib.hid hii
    clear h10 rx ry hii k10 hgood h11
    unfold slv
    go_wp2_with fail
    refine HII.out.mono ?_
    rintro e w11 ⟨rfl, hD⟩
    have H12 := Lib.hid (H11.out.drawn hD)
    clear hD
    obtain ⟨Aa, hAa⟩ : ∃ Aa : Option Addr, a.map (fun b => (⟨b, 0, none⟩ : Addr)) = Aa := ⟨_, rfl⟩
    rw [hAa]
    have HAA := Lib.hid hAa
    clear hAa
    go_wp2
    go_loopw [18] (fun v18 wr => ∃ i : Nat, i ≤ k ∧ v18 = .int .i64 i ∧ Hid (StoreAt w1.heap.size w1 wr p L8 S8 (rowsHP a c W))) (fun v18 _ => k - (intOf v18).toNat)
    case atStart => exact ⟨0, Nat.zero_le _, rfl, H12.out⟩
    case round =>
      obtain ⟨i, hi, rfl, HST⟩ := hrel
      by_cases hik : i < k
      · have hi0 : (0 : Int) ≤ (i : Int) := by omega
        have hi1 : (i : Int) < (k : Int) := by omega
        go_wp2_with fail
        refine (Clause_in i _ HST.out HS8.out (by rw [HLN.out]; exact hik) rfl i rfl).mono ?_
        rintro e w13 ⟨ca, cc, rfl, h13⟩
        obtain ⟨cl, hcl⟩ : ∃ cl, (S8.cl i).lits = cl := ⟨_, rfl⟩
        rw [hcl] at h13 ⊢
        have hat := S8.C_at (i := i) (by rw [HLN.out]; exact hik)
        rw [hcl, HC8.out] at hat
        have hg : gl S.C i = cl := by simp [gl, List.getD_eq_getElem?_getD, hat]
        have hcr := cok_room HS.out.cok (List.mem_of_getElem? hat)
        have hrall : Rd2 w13 Aa k S.C := by
          have := rows_rd (h13.st.conseq (show _ = star (rowsHP a c W) (star (storeHP p L8 S8) (sli 3 ca cc cl)) by ac_rfl)) HWS.out (by rw [HK.out]; omega)
          rwa [HC.out, HK.out, HAA.out] at this
        obtain ⟨ab, ao, hAa, hc⟩ := hrall.cells (by omega)
        obtain ⟨Aj, cj, d1, hrj⟩ := hc i hik
        have rc := St.rd (h13.st.conseq (show _ = star (sli 3 ca cc cl) (star (storeHP p L8 S8) (rowsHP a c W)) by ac_rfl)) (by omega)
        rw [hg] at d1 hrj
        obtain ⟨cn, hcn⟩ : ∃ cn, cl.length = cn := ⟨_, rfl⟩
        rw [hcn] at d1 hrj rc ⊢
        have hii := ints_any _ Aj cn cc cn cj cl cl w13 rc hrj
        rw [show eqB cl cl = true by simp [eqB]] at hii
        have HII := Lib.hid hii
        have H14 := Lib.hid (show StoreAt w1.heap.size w1 w13 p L8 S8 (rowsHP a c W) from ⟨(h13.st.conseq (show _ = star (star (storeHP p L8 S8) (rowsHP a c W)) (sli 3 ca cc cl) by ac_rfl)).drop, h13.ws⟩)
        clear h13 hcl hat hg hrall hc hrj rc hii hcn
        subst hAa
        unfold slv
        go_wp2_with fail
        refine HII.out.mono ?_
        rintro e w14 ⟨rfl, hD⟩
        have H15 := Lib.hid (H14.out.drawn hD)
        clear hD
        go_wp2
        go_roundw
        case rel => exact ⟨i + 1, by omega, by go_num, H15.out⟩
        case measure => simp [intOf]; omega
      · have HFIN := Lib.hid (HB1.out.trans (HST.out.st.below.mono HB1.out.size))
        go_wp2
        go_ret
        exact ⟨rfl, HFIN.out⟩
  · have hqq : decide (0 ≤ q2) = true := by rw [← HLAW.out.1]; simpa using hq
    have e1 : decide (0 ≤ q1) = true := by simpa using hq
    have e2 : decide (q1 < 0) = false := by simpa using hq
    clear HEQ HLAW
    go_wp2_with fail
    refine (HLC.out _ _ H8.out).mono ?_
    rintro e w9 ⟨rfl, rfl⟩
    go_wp2_with fail
    refine (set_any _ ol1 wc o1 w8 R1.out (by omega)).mono ?_
    rintro e w9 ⟨hgood, _⟩
    obtain ⟨xa, xc, rfl, k9⟩ := hgood _ HS1'.out
    have HK9 := Lib.hid k9
    have R2' := Lib.hid (R2.out.grow k9.below)
    clear k9 hgood
    unfold slv
    go_wp2_with fail
    refine (set_any _ ol2 oec o2 w9 R2'.out (by omega)).mono ?_
    rintro e w11 ⟨hgood, _⟩
    obtain ⟨ya, yc, rfl, k10⟩ := hgood _ HS2'.out
    have h10 := (H8.out.st.nest HK9.out).nest k10
    have h11 := (h10.conseq (show _ = star (star (storeHP p L8 S8) (rowsHP a c W)) (star (sli 3 xa xc s1) (star (sli 3 ya yc s2) (star (sli 3 oe oec o2) (sli 3 wa wc o1)))) by ac_rfl)).drop
    have H12 := Lib.hid (show StoreAt w1.heap.size w1 w11 p L8 S8 (rowsHP a c W) from ⟨h11, H8.out.ws⟩)
    clear h10 k10 hgood h11
    unfold slv
    obtain ⟨Aa, hAa⟩ : ∃ Aa : Option Addr, a.map (fun b => (⟨b, 0, none⟩ : Addr)) = Aa := ⟨_, rfl⟩
    rw [hAa]
    have HAA := Lib.hid hAa
    clear hAa
    go_wp2
    go_loopw [18] (fun v18 wr => ∃ i : Nat, i ≤ k ∧ v18 = .int .i64 i ∧ Hid (StoreAt w1.heap.size w1 wr p L8 S8 (rowsHP a c W))) (fun v18 _ => k - (intOf v18).toNat)
    case atStart => exact ⟨0, Nat.zero_le _, rfl, H12.out⟩
    case round =>
      obtain ⟨i, hi, rfl, HST⟩ := hrel
      by_cases hik : i < k
      · have hi0 : (0 : Int) ≤ (i : Int) := by omega
        have hi1 : (i : Int) < (k : Int) := by omega
        go_wp2_with fail
        refine (Clause_in i _ HST.out HS8.out (by rw [HLN.out]; exact hik) rfl i rfl).mono ?_
        rintro e w13 ⟨ca, cc, rfl, h13⟩
        obtain ⟨cl, hcl⟩ : ∃ cl, (S8.cl i).lits = cl := ⟨_, rfl⟩
        rw [hcl] at h13 ⊢
        have hat := S8.C_at (i := i) (by rw [HLN.out]; exact hik)
        rw [hcl, HC8.out] at hat
        have hg : gl S.C i = cl := by simp [gl, List.getD_eq_getElem?_getD, hat]
        have hcr := cok_room HS.out.cok (List.mem_of_getElem? hat)
        have hrall : Rd2 w13 Aa k S.C := by
          have := rows_rd (h13.st.conseq (show _ = star (rowsHP a c W) (star (storeHP p L8 S8) (sli 3 ca cc cl)) by ac_rfl)) HWS.out (by rw [HK.out]; omega)
          rwa [HC.out, HK.out, HAA.out] at this
        obtain ⟨ab, ao, hAa, hc⟩ := hrall.cells (by omega)
        obtain ⟨Aj, cj, d1, hrj⟩ := hc i hik
        have rc := St.rd (h13.st.conseq (show _ = star (sli 3 ca cc cl) (star (storeHP p L8 S8) (rowsHP a c W)) by ac_rfl)) (by omega)
        rw [hg] at d1 hrj
        obtain ⟨cn, hcn⟩ : ∃ cn, cl.length = cn := ⟨_, rfl⟩
        rw [hcn] at d1 hrj rc ⊢
        have hii := ints_any _ Aj cn cc cn cj cl cl w13 rc hrj
        rw [show eqB cl cl = true by simp [eqB]] at hii
        have HII := Lib.hid hii
        have H14 := Lib.hid (show StoreAt w1.heap.size w1 w13 p L8 S8 (rowsHP a c W) from ⟨(h13.st.conseq (show _ = star (star (storeHP p L8 S8) (rowsHP a c W)) (sli 3 ca cc cl) by ac_rfl)).drop, h13.ws⟩)
        clear h13 hcl hat hg hrall hc hrj rc hii hcn
        subst hAa
        unfold slv
        go_wp2_with fail
        refine HII.out.mono ?_
        rintro e w14 ⟨rfl, hD⟩
        have H15 := Lib.hid (H14.out.drawn hD)
        clear hD
        go_wp2
        go_roundw
        case rel => exact ⟨i + 1, by omega, by go_num, H15.out⟩
        case measure => simp [intOf]; omega
      · have HFIN := Lib.hid (HB1.out.trans (HST.out.st.below.mono HB1.out.size))
        go_wp2
        go_ret
        exact ⟨rfl, HFIN.out⟩
end Go.Proofs.Ytmljcbdlkeooiaa
