/-
  StoreMore: the walk of the law.
-/
import Derived.Test.YtmljcbdlkeooiaaLaw8
namespace Go.Proofs.Ytmljcbdlkeooiaa
open Go.RowKit Go.Proofs.PlaitSep Go.Proofs.PlaitPure

/-- A store, and more clauses. -/
def addsS (S : SM) (xss : List (List Int)) : SM := xss.foldl (fun S xs => (addF S xs).1) S
theorem addsS_snoc {S : SM} {xss : List (List Int)} {j : Nat} (h : j < xss.length) : addsS S (xss.take (j + 1)) = (addF (addsS S (xss.take j)) (gl xss j)).1 := by
  unfold addsS
  rw [List.take_add_one, List.foldl_append]
  simp [gl, List.getD_eq_getElem?_getD, h]
theorem addsS_inv {S : SM} (h : S.Inv) : ∀ xss : List (List Int), (addsS S xss).Inv := by
  intro xss
  unfold addsS
  induction xss generalizing S with
  | nil => exact h
  | cons x l ih => exact ih (h.add x)
theorem addsS_mem {S : SM} : ∀ (xss : List (List Int)) (c : List Int), c ∈ S.C → c ∈ (addsS S xss).C := by
  intro xss
  unfold addsS
  induction xss generalizing S with
  | nil => intro c h; exact h
  | cons x l ih =>
    intro c h
    refine ih c ?_
    rw [addF_C]
    split
    · exact List.mem_append_left _ h
    · exact h
set_option maxRecDepth 100000 in
set_option maxHeartbeats 4000000 in
theorem storeMore_any (A0 : Option Addr) (n0 cap0 : Nat) (z0 : List (List Int)) (A1 : Option Addr) (n1 cap1 : Nat) (z1 : List (List Int)) (A2 : Option Addr) (n2 cap2 : Nat) (z2 : List Int) (A3 : Option Addr) (n3 cap3 : Nat) (z3 : List Int) (w : World) (w0 : Rd2 w A0 n0 z0) (w1 : Rd2 w A1 n1 z1) (w2 : Rd w A2 n2 z2) (w3 : Rd w A3 n3 z3) :
    Calls Try.prog 6 #[.slice A0 n0 cap0, .slice A1 n1 cap1, .slice A2 n2 cap2, .slice A3 n3 cap3] w fun e w' => e = .returned (.bool true) ∧ Below w.heap.size w w' := by
  have hs0 := w0.small
  have HR0 := Lib.hid w0
  have hs1 := w1.small
  have HR1 := Lib.hid w1
  have hs2 := w2.small
  have HR2 := Lib.hid w2
  have hs3 := w3.small
  have HR3 := Lib.hid w3
  clear w0 w1 w2 w3
  obtain ⟨s0, hz0⟩ : ∃ s, sizeF z0 500 = s := ⟨_, rfl⟩
  have hsize0 := fun w0 (h : Rd2 w0 A0 n0 z0) => size_any A0 n0 cap0 z0 500 w0 h (by omega) (by omega)
  rw [hz0] at hsize0
  have HSZ0 := Lib.hid hsize0
  have HZ0 := Lib.hid hz0
  clear hsize0 hz0
  obtain ⟨s1, hz1⟩ : ∃ s, sizeF z1 500 = s := ⟨_, rfl⟩
  have hsize1 := fun w0 (h : Rd2 w0 A1 n1 z1) => size_any A1 n1 cap1 z1 500 w0 h (by omega) (by omega)
  rw [hz1] at hsize1
  have HSZ1 := Lib.hid hsize1
  have HZ1 := Lib.hid hz1
  clear hsize1 hz1
  go_enter Try.func6, Try.ntmps6
  go_wp2_with fail
  refine (known_any w).mono ?_
  rintro e w1 ⟨rfl, hb1⟩
  have HB1 := Lib.hid hb1
  have HQ0 := Lib.hid (HR0.out.grow hb1)
  have HQ1 := Lib.hid (HR1.out.grow hb1)
  have HQ2 := Lib.hid (HR2.out.grow hb1)
  have HQ3 := Lib.hid (HR3.out.grow hb1)
  clear hb1
  by_cases ht0 : 500 < s0
  · have hd : decide (500 < s0) = true := by simp; omega
    go_wp2_with fail
    refine (HSZ0.out _ HQ0.out).mono ?_
    rintro e w2 ⟨rfl, rfl⟩
    go_wp2
    go_ret
    exact ⟨rfl, HB1.out⟩
  have hd0 : decide (500 < s0) = false := by simp; omega
  by_cases ht1 : 500 < s1
  · have hd : decide (500 < s1) = true := by simp; omega
    go_wp2_with fail
    refine (HSZ0.out _ HQ0.out).mono ?_
    rintro e w2 ⟨rfl, rfl⟩
    go_wp2_with fail
    refine (HSZ1.out _ HQ1.out).mono ?_
    rintro e w2 ⟨rfl, rfl⟩
    go_wp2
    go_ret
    exact ⟨rfl, HB1.out⟩
  have hd1 : decide (500 < s1) = false := by simp; omega
  by_cases ht2 : 40 < n2
  · have hd : decide (40 < (n2 : Int)) = true := by simp; omega
    go_wp2_with fail
    refine (HSZ0.out _ HQ0.out).mono ?_
    rintro e w2 ⟨rfl, rfl⟩
    go_wp2_with fail
    refine (HSZ1.out _ HQ1.out).mono ?_
    rintro e w2 ⟨rfl, rfl⟩
    go_wp2
    go_ret
    exact ⟨rfl, HB1.out⟩
  have hd2 : decide (40 < (n2 : Int)) = false := by simp; omega
  by_cases ht3 : 40 < n3
  · have hd : decide (40 < (n3 : Int)) = true := by simp; omega
    go_wp2_with fail
    refine (HSZ0.out _ HQ0.out).mono ?_
    rintro e w2 ⟨rfl, rfl⟩
    go_wp2_with fail
    refine (HSZ1.out _ HQ1.out).mono ?_
    rintro e w2 ⟨rfl, rfl⟩
    go_wp2
    go_ret
    exact ⟨rfl, HB1.out⟩
  have hd3 : decide (40 < (n3 : Int)) = false := by simp; omega
  by_cases ht4 : 100 < n0
  · have hd : decide (100 < (n0 : Int)) = true := by simp; omega
    go_wp2_with fail
    refine (HSZ0.out _ HQ0.out).mono ?_
    rintro e w2 ⟨rfl, rfl⟩
    go_wp2_with fail
    refine (HSZ1.out _ HQ1.out).mono ?_
    rintro e w2 ⟨rfl, rfl⟩
    go_wp2
    go_ret
    exact ⟨rfl, HB1.out⟩
  have hd4 : decide (100 < (n0 : Int)) = false := by simp; omega
  by_cases ht5 : 100 < n1
  · have hd : decide (100 < (n1 : Int)) = true := by simp; omega
    go_wp2_with fail
    refine (HSZ0.out _ HQ0.out).mono ?_
    rintro e w2 ⟨rfl, rfl⟩
    go_wp2_with fail
    refine (HSZ1.out _ HQ1.out).mono ?_
    rintro e w2 ⟨rfl, rfl⟩
    go_wp2
    go_ret
    exact ⟨rfl, HB1.out⟩
  have hd5 : decide (100 < (n1 : Int)) = false := by simp; omega
  go_wp2_with fail
  refine (HSZ0.out _ HQ0.out).mono ?_
  rintro e w2 ⟨rfl, rfl⟩
  go_wp2_with fail
  refine (HSZ1.out _ HQ1.out).mono ?_
  rintro e w2 ⟨rfl, rfl⟩
  go_wp2_with fail
  have HE := Lib.hid (show ∀ j, j < n0 → (gl z0 j).length ≤ 1000000 from fun j hj => by
    have := sizeF_each (xss := z0) (most := 500) (by rw [HZ0.out]; omega) j (by rw [HR0.out.len]; exact hj)
    omega)
  have HE1 := Lib.hid (show ∀ j, j < n1 → (gl z1 j).length ≤ 1000000 from fun j hj => by
    have := sizeF_each (xss := z1) (most := 500) (by rw [HZ1.out]; omega) j (by rw [HR1.out.len]; exact hj)
    omega)
  refine (made_law A0 n0 cap0 z0 w1 HQ0.out (by omega) HE.out).mono ?_
  rintro e w3 ⟨p, L, S, a, c, W, rfl, h3, hC, _, hS, hCn, hWs⟩
  obtain ⟨k, hk⟩ : ∃ k, W.length = k := ⟨_, rfl⟩
  rw [hk] at hCn ⊢
  have H3 := Lib.hid h3
  have HS := Lib.hid hS
  clear h3 hC hS hCn hWs hk HE
  unfold slv
  go_wp2_with fail
  refine (follow_law A2 n2 cap2 z2 S.C (fun w' hh => HQ2.out.grow hh.below) (by omega) H3.out HS.out rfl).mono ?_
  rintro e w4 ⟨o1, q1, oa, oc, L4, S4, rfl, h4, hS4, hC4, hsp1, ht1, hob1⟩
  obtain ⟨ol1, hol1⟩ : ∃ ol1, o1.length = ol1 := ⟨_, rfl⟩
  rw [hol1] at hob1 ⊢
  by_cases hq : q1 = -1
  · subst hq
    have hcl := told_closed ht1 rfl
    obtain ⟨Ao, hAo⟩ : ∃ Ao : Option Addr, oa.map (fun b => (⟨b, 0, none⟩ : Addr)) = Ao := ⟨_, rfl⟩
    have H4 := Lib.hid h4
    have HS4 := Lib.hid hS4
    have HC4 := Lib.hid hC4
    have HT1 := Lib.hid ht1
    have HOL1 := Lib.hid hol1
    have HAO := Lib.hid hAo
    unfold slv
    rw [hAo]
    clear h4 hS4 hC4 hsp1 ht1 hol1 hcl hAo
    go_wp2
    go_loopw [13] (fun v13 wr => ∃ (j : Nat) (L' : SLay), j ≤ n1 ∧ v13 = .int .i64 j ∧ Hid (StoreAt w1.heap.size w1 wr p L' (addsS S4 (z1.take j)) (star (sli 3 oa oc o1) (rowsHP a c W)))) (fun v13 _ => n1 - (intOf v13).toNat)
    case atStart => exact ⟨0, L4, Nat.zero_le _, rfl, (H4.out : StoreAt w1.heap.size w1 w4 p L4 (addsS S4 []) (star (sli 3 oa oc o1) (rowsHP a c W)))⟩
    case round =>
      obtain ⟨j, L', hj, rfl, HST⟩ := hrel
      by_cases hjn : j < n1
      · obtain ⟨ab, ao, rfl, hc⟩ := (HQ1.out.grow HST.out.st.below).cells (by omega)
        obtain ⟨Aj, cj, d1, hrj⟩ := hc j hjn
        clear hc
        have hadd := Add_any Aj _ cj (gl z1 j) HST.out (addsS_inv HS4.out _) hrj (HE1.out j hjn)
        rw [show (addF (addsS S4 (z1.take j)) (gl z1 j)) = ((addsS S4 (z1.take (j + 1))), (addF (addsS S4 (z1.take j)) (gl z1 j)).2) by rw [addsS_snoc (by have := HQ1.out.len; omega)]] at hadd
        have HADD := Lib.hid hadd
        obtain ⟨ln, hln⟩ : ∃ ln, (gl z1 j).length = ln := ⟨_, rfl⟩
        rw [hln] at d1 hadd
        have HADD := Lib.hid hadd
        have hj0 : (0 : Int) ≤ (j : Int) := by omega
        have hj1 : (j : Int) < (n1 : Int) := by omega
        clear hadd hrj hln
        go_wp2_with fail
        refine (HADD.out).mono ?_
        rintro e w5 ⟨rfl, L5, h5⟩
        have H5 := Lib.hid h5
        clear h5
        go_wp2
        go_roundw
        case rel => exact ⟨j + 1, L5, by omega, by go_num, H5.out⟩
        case measure => simp [intOf]; omega
      · obtain rfl : j = n1 := by omega
        have ht := HQ1.out.len
        have hst := HST.out
        rw [List.take_of_length_le (by omega)] at hst
        obtain ⟨S6, hS6⟩ : ∃ S6, addsS S4 z1 = S6 := ⟨_, rfl⟩
        have hi6 := addsS_inv HS4.out z1
        have hm6 : ∀ c, c ∈ S.C → c ∈ S6.C := fun c hc => hS6 ▸ addsS_mem z1 c (by rw [HC4.out]; exact hc)
        rw [hS6] at hst hi6
        have H6 := Lib.hid hst
        have HI6 := Lib.hid hi6
        have HM6 := Lib.hid hm6
        clear ht hst hi6 hm6 hS6 HST
        have H0 := Lib.hid (show St w1.heap.size w1 wr (star (sli 3 none 0 []) (star (storeHP p L' S6) (star (sli 3 oa oc o1) (rowsHP a c W)))) from ⟨H6.out.st.below, H6.out.st.base, H6.out.st.sat.sl_nil _ _⟩)
        have HR2' := Lib.hid (HQ2.out.grow H6.out.st.below)
        have hl2 := HQ2.out.len
        have hl3 := HQ3.out.len
        have HL2 := Lib.hid hl2
        have HL3 := Lib.hid hl3
        clear hl2 hl3
        go_wp2_with (first
          | (at_builtin; have hm2 := hm; refine wpList_append_rd rfl _ _ 27 3 rfl Try.underlying27 Try.infoInt H7.out n2 HL2.out A3 n3 cap3 z3 HR3'.out rfl rfl (by omega) ?_; intro a8 c8 w8 h8; have H8 := Lib.hid h8; clear h8)
          | (at_builtin; refine wpList_append_rd rfl _ _ 27 3 rfl Try.underlying27 Try.infoInt H0.out 0 rfl A2 n2 cap2 z2 HR2'.out rfl rfl (by omega) ?_; intro a7 c7 w7 h7; have H7 := Lib.hid h7; have HR3' := Lib.hid (HQ3.out.grow h7.below); clear h7; have hm : True := trivial))
        have h9 : StoreAt w1.heap.size w1 w8 p L' S6 (star (sli 3 a8 c8 (z2 ++ z3)) (star (sli 3 oa oc o1) (rowsHP a c W))) := ⟨H8.out.conseq (by rw [List.nil_append]; ac_rfl), H6.out.ws⟩
        have H9 := Lib.hid h9
        have HRT := Lib.hid (show ∀ w', St w1.heap.size w1 w' (star (sli 3 a8 c8 (z2 ++ z3)) (star (sli 3 oa oc o1) (rowsHP a c W))) → Rd w' (a8.map fun b => ⟨b, 0, none⟩) (n2 + n3) (z2 ++ z3) from fun w' hh => by
          have := St.rd hh (by rw [List.length_append, HL2.out, HL3.out]; omega)
          rwa [List.length_append, HL2.out, HL3.out] at this)
        clear h9 hm
        refine (follow_law _ (n2 + n3) c8 (z2 ++ z3) S6.C HRT.out (by omega) H9.out HI6.out rfl).mono ?_
        rintro e w10 ⟨o2, q2, ob, obc, L10, S10, rfl, h10, hS10, hC10, hsp2, htd2, hob2⟩
        obtain ⟨ol2, hol2⟩ : ∃ ol2, o2.length = ol2 := ⟨_, rfl⟩
        rw [hol2] at hob2 ⊢
        have hsub : q2 = -1 → ∀ x ∈ o1, x ∈ o2 := fun hq => (HT1.out.less (told_closed htd2 hq) HI6.out.cok HM6.out (fun x hx => List.mem_append_left _ hx)).2
        have hrange := hsp2.range
        have hlt : 0 ≤ q2 → q2 < S10.cls.length := fun h0 => by
          obtain ⟨cl, hcl, _⟩ := hsp2.bad h0
          have := (List.getElem?_eq_some_iff.1 hcl).1
          rw [← hC10, S10.C_length] at this
          omega
        have r1 : Rd w10 Ao ol1 o1 := by
          have := St.rd (h10.st.conseq (show _ = star (sli 3 oa oc o1) (star (storeHP p L10 S10) (star (sli 3 ob obc o2) (star (sli 3 a8 c8 (z2 ++ z3)) (rowsHP a c W)))) by ac_rfl)) (by rw [HOL1.out]; omega)
          rwa [HOL1.out, HAO.out] at this
        have r2 : Rd w10 (ob.map fun b => ⟨b, 0, none⟩) ol2 o2 := by
          have := St.rd (h10.st.conseq (show _ = star (sli 3 ob obc o2) (star (storeHP p L10 S10) (star (sli 3 oa oc o1) (star (sli 3 a8 c8 (z2 ++ z3)) (rowsHP a c W)))) by ac_rfl)) (by omega)
          rwa [hol2] at this
        obtain ⟨sl, hsl⟩ : ∃ sl, S10.cls.length = sl := ⟨_, rfl⟩
        have hlc := Len_any h10
        rw [hsl] at hlc hlt
        have HLC := Lib.hid hlc
        have HFIN := Lib.hid (HB1.out.trans (h10.st.below.mono HB1.out.size))
        have HSUB := Lib.hid hsub
        have R1 := Lib.hid r1
        have R2 := Lib.hid r2
        clear h10 hS10 hC10 hsp2 htd2 hol2 hsub r1 r2 hsl hlc HRT
        unfold slv
        by_cases hq1 : q2 = -1
        · subst hq1
          have HSB := Lib.hid (HSUB.out rfl)
          clear hlt HSUB
          go_wp2
          go_loop [16] (fun v16 => ∃ i : Nat, i ≤ ol1 ∧ v16 = .int .i64 i) (fun v16 => ol1 - (intOf v16).toNat)
          case atStart => exact ⟨0, Nat.zero_le _, rfl⟩
          case round =>
            obtain ⟨i, hi, rfl⟩ := hrel
            by_cases hil : i < ol1
            · obtain ⟨b, o, rfl, hc⟩ := R1.out.cells (by omega)
              have d1 := hc i hil
              have hin : gi o1 i ∈ o2 := HSB.out _ (getL_mem (by rw [HOL1.out]; exact hil))
              obtain ⟨x, hx⟩ : ∃ x, gi o1 i = x := ⟨_, rfl⟩
              rw [hx] at d1 hin
              have hh := has_any _ ol2 obc o2 x w10 R2.out
              rw [hasB_iff.2 hin] at hh
              have HH := Lib.hid hh
              have hi0 : (0 : Int) ≤ (i : Int) := by omega
              have hi1 : (i : Int) < (ol1 : Int) := by omega
              clear hc hin hx hh
              go_wp2_with fail
              refine HH.out.mono ?_
              rintro e w11 ⟨rfl, rfl⟩
              go_wp2
              go_round
              case rel => exact ⟨i + 1, by omega, by go_num⟩
              case measure => simp [intOf]; omega
            · go_wp2
              go_ret
              exact ⟨rfl, HFIN.out⟩
        · have e1 : (q2 == -1) = false := by simpa using hq1
          by_cases hq2 : q2 = -2
          · subst hq2
            clear hlt hq1
            go_wp2
            go_loop [16] (fun v16 => v16 = .int .i64 0) (fun _ => 0)
            case atStart => rfl
            case round =>
              obtain rfl := hrel
              by_cases h0 : 0 < ol1
              all_goals
                go_wp2
                go_ret
                exact ⟨rfl, HFIN.out⟩
          · have h0 : 0 ≤ q2 := by omega
            have e2 : (q2 == -2) = false := by simpa using hq2
            have e3 : decide (0 ≤ q2) = true := by simpa using h0
            have e4 : decide (q2 < (sl : Int)) = true := by have := hlt h0; simp; omega
            clear hlt hq1 hq2
            go_wp2
            go_loop [16] (fun v16 => v16 = .int .i64 0) (fun _ => 0)
            case atStart => rfl
            case round =>
              obtain rfl := hrel
              by_cases h0 : 0 < ol1
              all_goals
                go_wp2_with fail
                refine HLC.out.mono ?_
                rintro e w11 ⟨rfl, rfl⟩
                go_wp2
                go_ret
                exact ⟨rfl, HFIN.out⟩
  · have e1 : (q1 != -1) = true := by simpa using hq
    have HFIN := Lib.hid (HB1.out.trans (h4.st.below.mono HB1.out.size))
    clear hq h4 hS4 hC4 hsp1 ht1 hol1
    unfold slv
    go_wp2
    go_ret
    exact ⟨rfl, HFIN.out⟩
end Go.Proofs.Ytmljcbdlkeooiaa
