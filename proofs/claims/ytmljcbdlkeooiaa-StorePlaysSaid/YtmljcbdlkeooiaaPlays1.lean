/-
  StorePlays: the walk of the law.
-/
import Derived.Test.YtmljcbdlkeooiaaLaw8
import Derived.Deep.RegionHeld3
import Derived.Deep.DrawnRows
namespace Go.Proofs.Ytmljcbdlkeooiaa
open Go.RowKit Go.Proofs.PlaitSep Go.Proofs.PlaitPure
attribute [local go_sem ↓] Go.wp_at_zero Go.wp_at_succ

theorem onceE_cases (xs : List Int) : onceE xs = 0 ∨ onceE xs = 110 ∨ onceE xs = 112 := by
  unfold onceE
  split
  · split
    · exact .inr (.inr rfl)
    · exact .inl rfl
  · exact .inr (.inl rfl)
section
variable {B : Nat} {w0 w : World} {p : Nat} {L : SLay} {S : SM}
/-- The four calls that a round closes with. -/
theorem close_len {Fr : HP} {k : Int} (hk : (S.cls.length : Int) = k) : ∀ V, StoreAt B w0 V p L S Fr → Calls Try.prog 17 #[.pointer (some ⟨p, 0, none⟩)] V fun e w' => e = .returned (.int .i64 k) ∧ V = w' := fun V h => by
  rw [← hk]
  exact Len_any h
theorem close_words {Fr : HP} {k : Int} (hk : (S.words.length : Int) = k) : ∀ V, StoreAt B w0 V p L S Fr → Calls Try.prog 18 #[.pointer (some ⟨p, 0, none⟩)] V fun e w' => e = .returned (.int .i64 k) ∧ V = w' := fun V h => by
  rw [← hk]
  exact Words_any h
theorem close_Has {Fr : HP} {A : Option Addr} {n c : Nat} {xs : List Int} {b : Bool} (hS : S.Inv) (hr : ∀ V, Below w0.heap.size w0 V → Rd V A n xs) (hB : B = w0.heap.size) (hn : n ≤ 1000000) (hb : hasF S xs = b) :
    ∀ V, StoreAt B w0 V p L S Fr → Calls Try.prog 19 #[.pointer (some ⟨p, 0, none⟩), .slice A n c] V fun e w' => e = .returned (.bool b) ∧ StoreAt B w0 w' p L S Fr := fun V h => by
  subst hB hb
  exact Has_any A n c xs h hS (hr V h.st.below) hn
theorem close_has {a : Option Nat} {c k : Nat} {W : Rows} {A : Option Addr} {n c' : Nat} {xs : List Int} {b : Bool} (hr : ∀ V, Below w0.heap.size w0 V → Rd V A n xs) (hB : B = w0.heap.size) (hn : n ≤ 1000000) (hC : W.map (fun x => x.2.2) = S.C) (hk : W.length = k) (hk2 : k ≤ 1000000) (hl : ∀ x ∈ W, x.2.2.length ≤ 1000000) (hb : hasL S.C xs = b) :
    ∀ V, StoreAt B w0 V p L S (rowsHP a c W) → Calls Try.prog 20 #[.slice (a.map fun b => ⟨b, 0, none⟩) k c, .slice A n c'] V fun e w' => e = .returned (.bool b) ∧ StoreAt B w0 w' p L S (rowsHP a c W) := fun V h => by
  subst hB hb hk
  have h1 := rows_rd (h.st.conseq (star_comm _ _)) (fun x hx => by have := hl x hx; omega) (by omega)
  rw [hC] at h1
  have hgl : ∀ j, j < W.length → (gl S.C j).length ≤ 1000000 := fun j hj => by
    have hj2 : j < S.C.length := by rw [← hC, List.length_map]; exact hj
    have hm : gl S.C j ∈ W.map fun x => x.2.2 := by rw [hC, gl_eq _ _ hj2]; exact List.getElem_mem hj2
    obtain ⟨x, hx, e⟩ := List.mem_map.1 hm
    rw [← e]
    exact hl x hx
  refine (hasL_any _ A W.length c n c' S.C xs V h1 (hr V h.st.below) hk2 hn hgl).mono ?_
  rintro e w' ⟨rfl, hb⟩
  exact ⟨rfl, ⟨h.st.grow hb, h.ws⟩⟩
end
set_option maxRecDepth 100000 in
set_option maxHeartbeats 4000000 in
theorem storePlays_any (z0 : Int) (A1 : Option Addr) (n1 cap1 : Nat) (z1 : List (List Int)) (w : World) (w1 : Rd2 w A1 n1 z1) :
    Calls Try.prog 3 #[.int .i64 z0, .slice A1 n1 cap1] w fun e w' => e = .returned (.bool true) ∧ Below w.heap.size w w' := by
  have hs1 := w1.small
  have HR1 := Lib.hid w1
  clear w1
  obtain ⟨s0, hz0⟩ : ∃ s, sizeF z1 1500 = s := ⟨_, rfl⟩
  have hsize0 := fun w0 (h : Rd2 w0 A1 n1 z1) => size_any A1 n1 cap1 z1 1500 w0 h (by omega) (by omega)
  rw [hz0] at hsize0
  have HSZ0 := Lib.hid hsize0
  have HZ0 := Lib.hid hz0
  clear hsize0 hz0
  go_enter Try.func3, Try.ntmps3
  go_wp2_with fail
  refine (known_any w).mono ?_
  rintro e w1 ⟨rfl, hb1⟩
  have HB1 := Lib.hid hb1
  have HQ1 := Lib.hid (HR1.out.grow hb1)
  clear hb1
  by_cases ht0 : 1500 < s0
  · have hd : decide (1500 < s0) = true := by simp; omega
    go_wp2_with fail
    refine (HSZ0.out _ HQ1.out).mono ?_
    rintro e w2 ⟨rfl, rfl⟩
    go_wp2
    go_ret
    exact ⟨rfl, HB1.out⟩
  have hd0 : decide (1500 < s0) = false := by simp; omega
  by_cases ht1 : 200 < n1
  · have hd : decide (200 < (n1 : Int)) = true := by simp; omega
    go_wp2_with fail
    refine (HSZ0.out _ HQ1.out).mono ?_
    rintro e w2 ⟨rfl, rfl⟩
    go_wp2
    go_ret
    exact ⟨rfl, HB1.out⟩
  have hd1 : decide (200 < (n1 : Int)) = false := by simp; omega
  go_wp2_with fail
  refine (HSZ0.out _ HQ1.out).mono ?_
  rintro e w2 ⟨rfl, rfl⟩
  have HE := Lib.hid (show ∀ j, j < n1 → (gl z1 j).length ≤ 1000000 from fun j hj => by
    have := sizeF_each (xss := z1) (most := 1500) (by rw [HZ0.out]; omega) j (by rw [HR1.out.len]; exact hj)
    omega)
  go_wp2_with fail
  refine (New_any z0 w1).mono ?_
  rintro e w3 ⟨p, L0, rfl, h0⟩
  have hi0 := SM.new_inv z0
  have H0 := Lib.hid h0
  have HI0 := Lib.hid hi0
  clear h0 hi0
  go_wp2
  obtain ⟨room, hroom⟩ : ∃ room : Nat, min (max z0 1) 262144 = (room : Int) := ⟨(min (max z0 1) 262144).toNat, by omega⟩
  have hmost : (SM.new z0).most = room := by unfold SM.new; simp only; omega
  have hrb : room ≤ 262144 := by omega
  have HMOST := Lib.hid hmost
  rw [hroom]
  clear hroom hmost
  go_loopw [7, 8, 9] (fun v7 v8 v9 wr => ∃ (j : Nat) (L : SLay) (S : SM) (a : Option Nat) (c k ww : Nat) (W : Rows), j ≤ n1 ∧ k ≤ j ∧ ww ≤ room ∧ v9 = .int .i64 j ∧ v8 = .int .i64 ww ∧ v7 = .slice (a.map fun b => ⟨b, 0, none⟩) k c ∧ Hid (StoreAt w1.heap.size w1 wr p L S (rowsHP a c W)) ∧ Hid S.Inv ∧ Hid (S.most = room) ∧ Hid (W.map (fun x => x.2.2) = S.C) ∧ Hid (W.length = k) ∧ Hid (S.words.length = ww)) (fun _ _ v9 _ => n1 - (intOf v9).toNat)
  case atStart => exact ⟨0, L0, SM.new z0, none, 0, 0, 0, [], Nat.zero_le _, Nat.le_refl _, Nat.zero_le _, rfl, rfl, rfl, (by rw [rowsHP_nil]; exact H0.out : StoreAt w1.heap.size w1 w3 p L0 (SM.new z0) (rowsHP none 0 [])), HI0.out, HMOST.out, (rfl : _ = (SM.new z0).C), (rfl : ([] : Rows).length = 0), (rfl : (SM.new z0).words.length = 0)⟩
  case round =>
    obtain ⟨j, L, S, a, c, k, ww, W, hj, hkj, hww, rfl, rfl, rfl, HST, HI, HM, HC, HWL, HWW⟩ := hrel
    by_cases hjn : j < n1
    · obtain ⟨ab, ao, hA1, hc⟩ := HQ1.out.cells (by omega)
      subst hA1
      obtain ⟨Aj, cj, d0, hrj0⟩ := hc j hjn
      have hlt0 := World.block_lt_of_cell? w1 _ d0
      have hsm := HE.out j hjn
      obtain ⟨xs, hxs⟩ : ∃ xs, gl z1 j = xs := ⟨_, rfl⟩
      obtain ⟨ln, hln⟩ : ∃ ln, xs.length = ln := ⟨_, rfl⟩
      rw [hxs, hln] at d0 hrj0
      rw [hxs, hln] at hsm
      have HRJ := Lib.hid (show ∀ V, Below w1.heap.size w1 V → Rd V Aj ln xs from fun V hV => hrj0.grow hV)
      have HD := Lib.hid (show ∀ V : World, Below w1.heap.size w1 V → V.cell? ⟨ab, ao + j, none⟩ = some (.slice Aj ln cj) from fun V hb => (hb.cell hlt0).trans d0)
      have HLN := Lib.hid hln
      have hj0 : (0 : Int) ≤ (j : Int) := by omega
      have hj1 : (j : Int) < (n1 : Int) := by omega
      clear hc d0 hrj0 hlt0 hxs hln
      have d1 := HD.out _ HST.out.st.below
      go_wp2_with fail
      refine (copyInts_any Aj ln cj xs wr (HRJ.out _ HST.out.st.below) (by omega)).mono ?_
      rintro e w4 ⟨ia, ic, rfl, k4⟩
      have H4 := Lib.hid (show StoreAt w1.heap.size w1 w4 p L S (star (sli 3 ia ic xs) (rowsHP a c W)) from ⟨(HST.out.st.nest k4).conseq (by ac_rfl), HST.out.ws⟩)
      clear k4 d1
      unfold slv
      have hri : Rd w4 (ia.map fun b => ⟨b, 0, none⟩) ln xs := by
        have := St.rd (H4.out.st.conseq (show _ = star (sli 3 ia ic xs) (star (storeHP p L S) (rowsHP a c W)) by ac_rfl)) (by rw [HLN.out]; omega)
        rwa [HLN.out] at this
      have hadd := Add_any _ ln ic xs H4.out HI.out hri hsm
      have HADD := Lib.hid hadd
      clear hri hadd
      go_wp2_with fail
      rcases onceE_cases xs with h0 | h110 | h112
      · obtain ⟨cl, hcl⟩ : ∃ cl, (onceL xs).length = cl := ⟨_, rfl⟩
        have hclb : cl ≤ ln := by
          have := onceL_length xs
          rw [hcl, HLN.out] at this
          exact this
        have HX := Lib.hid h0
        have HCL := Lib.hid hcl
        by_cases hrm : room < ww + cl + 2
        · have he : addF S xs = (S, 0, 111) := by unfold addF; rw [if_neg (by simpa using h0), if_pos (by rw [HM.out, HWW.out, hcl]; omega)]
          have HADD2 := Lib.hid (he ▸ HADD.out)
          have hrd : decide ((room : Int) < (ww : Int) + (cl : Int) + 2) = true := by simp; omega
          clear he h0 hcl HADD
          refine HADD2.out.mono ?_
          rintro e w5 ⟨rfl, L5, h5⟩
          have H5 := Lib.hid h5
          have d1 := HD.out _ h5.st.below
          clear h5
          go_wp2_with fail
          refine (kept_any Aj ln cj xs w5 (HRJ.out _ H5.out.st.below) hsm).mono ?_
          rintro e w6 ⟨hgood, _⟩
          obtain ⟨ka, kc, rfl, k6⟩ := hgood HX.out
          have H6 := Lib.hid (show StoreAt w1.heap.size w1 w6 p L5 S (star (sli 3 ia ic xs) (rowsHP a c W)) from ⟨(H5.out.st.nest k6).dropl, H5.out.ws⟩)
          rw [HCL.out]
          unfold slv
          clear k6 hgood d1
          have d1 := HD.out _ H6.out.st.below
          have hri : Rd w6 (ia.map fun b => ⟨b, 0, none⟩) ln xs := by
            have := St.rd (H6.out.st.conseq (show _ = star (sli 3 ia ic xs) (star (storeHP p L5 S) (rowsHP a c W)) by ac_rfl)) (by rw [HLN.out]; omega)
            rwa [HLN.out] at this
          have hii := ints_any _ Aj ln ic ln cj xs xs w6 hri (HRJ.out _ H6.out.st.below)
          rw [show eqB xs xs = true by simp [eqB]] at hii
          have HII := Lib.hid hii
          clear hri hii
          go_wp2_with fail
          refine HII.out.mono ?_
          rintro e w7 ⟨rfl, hD⟩
          have H7 := Lib.hid (H6.out.drawn hD)
          have hsp := spoil_any ia ic xs w1.heap.size w1 w7 (star (storeHP p L5 S) (rowsHP a c W)) (H7.out.st.conseq (by ac_rfl)) (by rw [HLN.out]; omega)
          rw [HLN.out] at hsp
          unfold slv at hsp
          have HSP := Lib.hid hsp
          clear hD d1 hsp
          go_wp2_with fail
          refine HSP.out.mono ?_
          rintro e w8 ⟨rfl, ys, _, h8⟩
          have H8 := Lib.hid (show StoreAt w1.heap.size w1 w8 p L5 S (rowsHP a c W) from ⟨(h8.conseq (show _ = star (star (storeHP p L5 S) (rowsHP a c W)) (sli 3 ia ic ys) by ac_rfl)).drop, H7.out.ws⟩)
          clear h8
          have hst8 := H8.out
          have d8 := HD.out _ hst8.st.below
          have HK2 := Lib.hid (show (S.cls.length : Int) = (k : Int) by rw [← S.C_length, ← HC.out, List.length_map, HWL.out])
          have HWI2 := Lib.hid (show (S.words.length : Int) = (ww : Int) by rw [HWW.out])
          have HWW2 := HWW
          have HI2 := HI
          have HCC2 := HC
          have HWL2 := HWL
          have HM2 := HM
          have HWS2 := Lib.hid (show ∀ x ∈ W, x.2.2.length ≤ 1000000 from fun x hx => by
            have := cok_room HI.out.cok (by rw [← HC.out]; exact List.mem_map.2 ⟨x, hx, rfl⟩)
            omega)
          go_wp2
          have HBOOL := Lib.hid (hasF_hasL HI2.out xs)
          obtain ⟨hb, hhb⟩ : ∃ hb, hasL S.C xs = hb := ⟨_, rfl⟩
          have HLENC := Lib.hid (close_len (B := w1.heap.size) (w0 := w1) (p := p) (L := L5) (S := S) (Fr := rowsHP a c W) HK2.out)
          have HWRDC := Lib.hid (close_words (B := w1.heap.size) (w0 := w1) (p := p) (L := L5) (S := S) (Fr := rowsHP a c W) HWI2.out)
          have HHAS := Lib.hid (close_Has (B := w1.heap.size) (w0 := w1) (p := p) (L := L5) (S := S) (Fr := rowsHP a c W) (c := cj) HI2.out HRJ.out rfl hsm (HBOOL.out.trans hhb))
          have HhasL := Lib.hid (close_has (B := w1.heap.size) (w0 := w1) (p := p) (L := L5) (S := S) (a := a) (c := c) (W := W) (c' := cj) HRJ.out rfl hsm HCC2.out HWL2.out (by omega) HWS2.out hhb)
          have HKEEP := Lib.hid (show ∀ V, StoreAt w1.heap.size w1 V p L5 S (rowsHP a c W) → V.cell? ⟨ab, ao + j, none⟩ = some (.slice Aj ln cj) ∧ StoreAt w1.heap.size w1 V p L5 S (rowsHP a c W) from fun V hV => ⟨HD.out V hV.st.below, hV⟩)
          clear hhb
          go_region_held3 (fun V => V.cell? ⟨ab, ao + j, none⟩ = some (.slice Aj ln cj) ∧ StoreAt w1.heap.size w1 V p L5 S (rowsHP a c W))
            (first | exact HKEEP.out _ (by first | assumption | exact And.right (by assumption)) | exact HKEEP.out _ (StoreAt.drawn (by first | assumption | exact And.right (by assumption)) ⟨1, rfl⟩))
            (first
              | (go_at_call 17; refine (HLENC.out _ (by first | assumption | exact And.right (by assumption))).mono ?_; rintro e w' ⟨rfl, rfl⟩)
              | (go_at_call 18; refine (HWRDC.out _ (by first | assumption | exact And.right (by assumption))).mono ?_; rintro e w' ⟨rfl, rfl⟩)
              | (go_at_call 19; refine (HHAS.out _ (by first | assumption | exact And.right (by assumption))).mono ?_; rintro e w' ⟨rfl, hst'⟩)
              | (go_at_call 20; refine (HhasL.out _ (by first | assumption | exact And.right (by assumption))).mono ?_; rintro e w' ⟨rfl, hst'⟩))
          all_goals
            have HFN := Lib.hid hst'
            go_wp2
            go_roundw
            case rel => exact ⟨j + 1, L5, S, a, c, k, ww, W, by omega, by omega, by omega, by go_num, rfl, rfl, HFN.out, HI2.out, HM2.out, HCC2.out, HWL2.out, HWW2.out⟩
            case measure => simp [intOf]; omega
        · have hk3 : S.cls.length = k := by rw [← S.C_length, ← HC.out, List.length_map]; exact HWL.out
          have he : addF S xs = (S.addS (onceL xs), k, 0) := by unfold addF; rw [if_neg (by simpa using h0), if_neg (by rw [HM.out, HWW.out, hcl]; omega), hk3]
          have hi2 : (S.addS (onceL xs)).Inv := by have := HI.out.add xs; rwa [he] at this
          have hm2 : (S.addS (onceL xs)).most = room := by have := addF_most S xs; rw [he] at this; exact this.trans HM.out
          have hc2 := addS_C S (onceL xs)
          have hww2 : (S.addS (onceL xs)).words.length = ww + cl + 2 := by
            rw [words_wsum, hc2]
            have := HWW.out
            rw [words_wsum] at this
            simp only [wsum, List.map_append, List.sum_append, List.map_cons, List.map_nil, List.sum_cons, List.sum_nil] at this ⊢
            omega
          obtain ⟨S2, hS2⟩ : ∃ S2, S.addS (onceL xs) = S2 := ⟨_, rfl⟩
          rw [hS2] at he hi2 hm2 hc2 hww2
          have HADD2 := Lib.hid (he ▸ HADD.out)
          have HI2 := Lib.hid hi2
          have HM2 := Lib.hid hm2
          have HC2' := Lib.hid hc2
          have HWW2 := Lib.hid hww2
          have HK3 := Lib.hid hk3
          have hrd : decide ((room : Int) < (ww : Int) + (cl : Int) + 2) = false := by simp; omega
          clear he h0 hcl HADD hi2 hm2 hc2 hww2 hk3 hS2
          refine HADD2.out.mono ?_
          rintro e w5 ⟨rfl, L5, h5⟩
          have H5 := Lib.hid h5
          have d1 := HD.out _ h5.st.below
          clear h5
          go_wp2_with fail
          refine (kept_any Aj ln cj xs w5 (HRJ.out _ H5.out.st.below) hsm).mono ?_
          rintro e w6 ⟨hgood, _⟩
          obtain ⟨ka, kc, rfl, k6⟩ := hgood HX.out
          have H6 := Lib.hid (show StoreAt w1.heap.size w1 w6 p L5 S2 (star (sli 3 ia ic xs) (star (sli 3 ka kc (onceL xs)) (rowsHP a c W))) from ⟨(H5.out.st.nest k6).conseq (by ac_rfl), H5.out.ws⟩)
          rw [HCL.out]
          unfold slv
          clear k6 hgood d1
          have d1 := HD.out _ H6.out.st.below
          have hri : Rd w6 (ia.map fun b => ⟨b, 0, none⟩) ln xs := by
            have := St.rd (H6.out.st.conseq (show _ = star (sli 3 ia ic xs) (star (storeHP p L5 S2) (star (sli 3 ka kc (onceL xs)) (rowsHP a c W))) by ac_rfl)) (by rw [HLN.out]; omega)
            rwa [HLN.out] at this
          have hii := ints_any _ Aj ln ic ln cj xs xs w6 hri (HRJ.out _ H6.out.st.below)
          rw [show eqB xs xs = true by simp [eqB]] at hii
          have HII := Lib.hid hii
          clear hri hii
          go_wp2_with fail
          refine HII.out.mono ?_
          rintro e w7 ⟨rfl, hD⟩
          have H7 := Lib.hid (H6.out.drawn hD)
          have hsp := spoil_any ia ic xs w1.heap.size w1 w7 (star (storeHP p L5 S2) (star (sli 3 ka kc (onceL xs)) (rowsHP a c W))) (H7.out.st.conseq (by ac_rfl)) (by rw [HLN.out]; omega)
          rw [HLN.out] at hsp
          unfold slv at hsp
          have HSP := Lib.hid hsp
          clear hD d1 hsp
          go_wp2_with fail
          refine HSP.out.mono ?_
          rintro e w8 ⟨rfl, ys, _, h8⟩
          have H8 := Lib.hid (show StoreAt w1.heap.size w1 w8 p L5 S2 (star (sli 3 ka kc (onceL xs)) (rowsHP a c W)) from ⟨(h8.conseq (show _ = star (star (storeHP p L5 S2) (star (sli 3 ka kc (onceL xs)) (rowsHP a c W))) (sli 3 ia ic ys) by ac_rfl)).drop, H7.out.ws⟩)
          clear h8
          have HFO := Lib.hid (rows_focus H8.out HWL.out)
          go_wp2_with (at_builtin; refine wpList_append1 rfl _ _ 22 27 (.slice none 0 0) 24 rfl Try.underlying22 Try.infoInts rfl HFO.out rfl (.slice (ka.map fun b => ⟨b, 0, none⟩) cl kc) rfl rfl (by omega) (by simp only [maxLen]; omega) ?_; intro b' c' w9 h9; have HP9 := Lib.hid h9; clear h9)
          have H9 := Lib.hid (rows_push (ka := ka) (kc := kc) (l := onceL xs) HWL.out H8.out.ws (by rw [HCL.out]; exact HP9.out))
          have d9 := HD.out _ H9.out.st.below
          have hst9 := H9.out
          have HK2 := Lib.hid (show (S2.cls.length : Int) = (k : Int) + 1 by rw [← S2.C_length, HC2'.out, List.length_append, S.C_length, HK3.out]; simp)
          have HWI2 := Lib.hid (show (S2.words.length : Int) = (ww : Int) + (cl : Int) + 2 by rw [HWW2.out]; simp)
          have HCC2 := Lib.hid (show (W ++ [(ka, kc, onceL xs)]).map (fun x => x.2.2) = S2.C by rw [HC2'.out, List.map_append, HC.out]; rfl)
          have HWL2 := Lib.hid (show (W ++ [(ka, kc, onceL xs)]).length = k + 1 by rw [List.length_append, HWL.out]; rfl)
          have HWS2 := Lib.hid (show ∀ x ∈ W ++ [(ka, kc, onceL xs)], x.2.2.length ≤ 1000000 from fun x hx => by
            have := cok_room HI2.out.cok (by rw [← HCC2.out]; exact List.mem_map.2 ⟨x, hx, rfl⟩)
            omega)
          clear HP9
          go_wp2
          have HBOOL := Lib.hid (hasF_hasL HI2.out xs)
          obtain ⟨hb, hhb⟩ : ∃ hb, hasL S2.C xs = hb := ⟨_, rfl⟩
          have HLENC := Lib.hid (close_len (B := w1.heap.size) (w0 := w1) (p := p) (L := L5) (S := S2) (Fr := rowsHP (some b') c' (W ++ [(ka, kc, onceL xs)])) HK2.out)
          have HWRDC := Lib.hid (close_words (B := w1.heap.size) (w0 := w1) (p := p) (L := L5) (S := S2) (Fr := rowsHP (some b') c' (W ++ [(ka, kc, onceL xs)])) HWI2.out)
          have HHAS := Lib.hid (close_Has (B := w1.heap.size) (w0 := w1) (p := p) (L := L5) (S := S2) (Fr := rowsHP (some b') c' (W ++ [(ka, kc, onceL xs)])) (c := cj) HI2.out HRJ.out rfl hsm (HBOOL.out.trans hhb))
          have HhasL := Lib.hid (close_has (B := w1.heap.size) (w0 := w1) (p := p) (L := L5) (S := S2) (a := (some b')) (c := c') (W := (W ++ [(ka, kc, onceL xs)])) (c' := cj) HRJ.out rfl hsm HCC2.out HWL2.out (by omega) HWS2.out hhb)
          have HKEEP := Lib.hid (show ∀ V, StoreAt w1.heap.size w1 V p L5 S2 (rowsHP (some b') c' (W ++ [(ka, kc, onceL xs)])) → V.cell? ⟨ab, ao + j, none⟩ = some (.slice Aj ln cj) ∧ StoreAt w1.heap.size w1 V p L5 S2 (rowsHP (some b') c' (W ++ [(ka, kc, onceL xs)])) from fun V hV => ⟨HD.out V hV.st.below, hV⟩)
          clear hhb
          go_region_held3 (fun V => V.cell? ⟨ab, ao + j, none⟩ = some (.slice Aj ln cj) ∧ StoreAt w1.heap.size w1 V p L5 S2 (rowsHP (some b') c' (W ++ [(ka, kc, onceL xs)])))
            (first | exact HKEEP.out _ (by first | assumption | exact And.right (by assumption)) | exact HKEEP.out _ (StoreAt.drawn (by first | assumption | exact And.right (by assumption)) ⟨1, rfl⟩))
            (first
              | (go_at_call 17; refine (HLENC.out _ (by first | assumption | exact And.right (by assumption))).mono ?_; rintro e w' ⟨rfl, rfl⟩)
              | (go_at_call 18; refine (HWRDC.out _ (by first | assumption | exact And.right (by assumption))).mono ?_; rintro e w' ⟨rfl, rfl⟩)
              | (go_at_call 19; refine (HHAS.out _ (by first | assumption | exact And.right (by assumption))).mono ?_; rintro e w' ⟨rfl, hst'⟩)
              | (go_at_call 20; refine (HhasL.out _ (by first | assumption | exact And.right (by assumption))).mono ?_; rintro e w' ⟨rfl, hst'⟩))
          all_goals
            have HFN := Lib.hid hst'
            go_wp2
            go_roundw
            case rel => exact ⟨j + 1, L5, S2, (some b'), c', (k + 1), (ww + cl + 2), (W ++ [(ka, kc, onceL xs)]), by omega, by omega, by omega, by go_num, (by go_num), rfl, HFN.out, HI2.out, HM2.out, HCC2.out, HWL2.out, HWW2.out⟩
            case measure => simp [intOf]; omega
      · have he : addF S xs = (S, 0, 110) := by unfold addF; rw [h110, if_pos (by decide)]
        have HADD2 := Lib.hid (he ▸ HADD.out)
        have HX := Lib.hid h110
        clear he h110 HADD
        refine HADD2.out.mono ?_
        rintro e w5 ⟨rfl, L5, h5⟩
        have H5 := Lib.hid h5
        have d1 := HD.out _ h5.st.below
        clear h5
        go_wp2_with fail
        refine (kept_any Aj ln cj xs w5 (HRJ.out _ H5.out.st.below) hsm).mono ?_
        rintro e w6 ⟨_, hbad⟩
        obtain ⟨rfl, k6⟩ := hbad (by rw [HX.out]; decide)
        rw [HX.out]
        have H6 := Lib.hid (show StoreAt w1.heap.size w1 w6 p L5 S (star (sli 3 ia ic xs) (rowsHP a c W)) from ⟨(H5.out.st.nest k6).conseq (emp_star _), H5.out.ws⟩)
        clear k6 hbad d1
        have d1 := HD.out _ H6.out.st.below
        have hri : Rd w6 (ia.map fun b => ⟨b, 0, none⟩) ln xs := by
          have := St.rd (H6.out.st.conseq (show _ = star (sli 3 ia ic xs) (star (storeHP p L5 S) (rowsHP a c W)) by ac_rfl)) (by rw [HLN.out]; omega)
          rwa [HLN.out] at this
        have hii := ints_any _ Aj ln ic ln cj xs xs w6 hri (HRJ.out _ H6.out.st.below)
        rw [show eqB xs xs = true by simp [eqB]] at hii
        have HII := Lib.hid hii
        clear hri hii
        go_wp2_with fail
        refine HII.out.mono ?_
        rintro e w7 ⟨rfl, hD⟩
        have H7 := Lib.hid (H6.out.drawn hD)
        have hsp := spoil_any ia ic xs w1.heap.size w1 w7 (star (storeHP p L5 S) (rowsHP a c W)) (H7.out.st.conseq (by ac_rfl)) (by rw [HLN.out]; omega)
        rw [HLN.out] at hsp
        unfold slv at hsp
        have HSP := Lib.hid hsp
        clear hD d1 hsp
        go_wp2_with fail
        refine HSP.out.mono ?_
        rintro e w8 ⟨rfl, ys, _, h8⟩
        have H8 := Lib.hid (show StoreAt w1.heap.size w1 w8 p L5 S (rowsHP a c W) from ⟨(h8.conseq (show _ = star (star (storeHP p L5 S) (rowsHP a c W)) (sli 3 ia ic ys) by ac_rfl)).drop, H7.out.ws⟩)
        have hst8 := H8.out
        have d8 := HD.out _ hst8.st.below
        have HK2 := Lib.hid (show (S.cls.length : Int) = (k : Int) by rw [← S.C_length, ← HC.out, List.length_map, HWL.out])
        have HWI2 := Lib.hid (show (S.words.length : Int) = (ww : Int) by rw [HWW.out])
        have HWW2 := HWW
        have HI2 := HI
        have HCC2 := HC
        have HWL2 := HWL
        have HM2 := HM
        have HWS2 := Lib.hid (show ∀ x ∈ W, x.2.2.length ≤ 1000000 from fun x hx => by
          have := cok_room HI.out.cok (by rw [← HC.out]; exact List.mem_map.2 ⟨x, hx, rfl⟩)
          omega)
        clear h8
        go_wp2
        have HBOOL := Lib.hid (hasF_hasL HI2.out xs)
        obtain ⟨hb, hhb⟩ : ∃ hb, hasL S.C xs = hb := ⟨_, rfl⟩
        have HLENC := Lib.hid (close_len (B := w1.heap.size) (w0 := w1) (p := p) (L := L5) (S := S) (Fr := rowsHP a c W) HK2.out)
        have HWRDC := Lib.hid (close_words (B := w1.heap.size) (w0 := w1) (p := p) (L := L5) (S := S) (Fr := rowsHP a c W) HWI2.out)
        have HHAS := Lib.hid (close_Has (B := w1.heap.size) (w0 := w1) (p := p) (L := L5) (S := S) (Fr := rowsHP a c W) (c := cj) HI2.out HRJ.out rfl hsm (HBOOL.out.trans hhb))
        have HhasL := Lib.hid (close_has (B := w1.heap.size) (w0 := w1) (p := p) (L := L5) (S := S) (a := a) (c := c) (W := W) (c' := cj) HRJ.out rfl hsm HCC2.out HWL2.out (by omega) HWS2.out hhb)
        have HKEEP := Lib.hid (show ∀ V, StoreAt w1.heap.size w1 V p L5 S (rowsHP a c W) → V.cell? ⟨ab, ao + j, none⟩ = some (.slice Aj ln cj) ∧ StoreAt w1.heap.size w1 V p L5 S (rowsHP a c W) from fun V hV => ⟨HD.out V hV.st.below, hV⟩)
        clear hhb
        go_region_held3 (fun V => V.cell? ⟨ab, ao + j, none⟩ = some (.slice Aj ln cj) ∧ StoreAt w1.heap.size w1 V p L5 S (rowsHP a c W))
          (first | exact HKEEP.out _ (by first | assumption | exact And.right (by assumption)) | exact HKEEP.out _ (StoreAt.drawn (by first | assumption | exact And.right (by assumption)) ⟨1, rfl⟩))
          (first
            | (go_at_call 17; refine (HLENC.out _ (by first | assumption | exact And.right (by assumption))).mono ?_; rintro e w' ⟨rfl, rfl⟩)
            | (go_at_call 18; refine (HWRDC.out _ (by first | assumption | exact And.right (by assumption))).mono ?_; rintro e w' ⟨rfl, rfl⟩)
            | (go_at_call 19; refine (HHAS.out _ (by first | assumption | exact And.right (by assumption))).mono ?_; rintro e w' ⟨rfl, hst'⟩)
            | (go_at_call 20; refine (HhasL.out _ (by first | assumption | exact And.right (by assumption))).mono ?_; rintro e w' ⟨rfl, hst'⟩))
        all_goals
          have HFN := Lib.hid hst'
          go_wp2
          go_roundw
          case rel => exact ⟨j + 1, L5, S, a, c, k, ww, W, by omega, by omega, by omega, by go_num, rfl, rfl, HFN.out, HI2.out, HM2.out, HCC2.out, HWL2.out, HWW2.out⟩
          case measure => simp [intOf]; omega
      · have he : addF S xs = (S, 0, 112) := by unfold addF; rw [h112, if_pos (by decide)]
        have HADD2 := Lib.hid (he ▸ HADD.out)
        have HX := Lib.hid h112
        clear he h112 HADD
        refine HADD2.out.mono ?_
        rintro e w5 ⟨rfl, L5, h5⟩
        have H5 := Lib.hid h5
        have d1 := HD.out _ h5.st.below
        clear h5
        go_wp2_with fail
        refine (kept_any Aj ln cj xs w5 (HRJ.out _ H5.out.st.below) hsm).mono ?_
        rintro e w6 ⟨_, hbad⟩
        obtain ⟨rfl, k6⟩ := hbad (by rw [HX.out]; decide)
        rw [HX.out]
        have H6 := Lib.hid (show StoreAt w1.heap.size w1 w6 p L5 S (star (sli 3 ia ic xs) (rowsHP a c W)) from ⟨(H5.out.st.nest k6).conseq (emp_star _), H5.out.ws⟩)
        clear k6 hbad d1
        have d1 := HD.out _ H6.out.st.below
        have hri : Rd w6 (ia.map fun b => ⟨b, 0, none⟩) ln xs := by
          have := St.rd (H6.out.st.conseq (show _ = star (sli 3 ia ic xs) (star (storeHP p L5 S) (rowsHP a c W)) by ac_rfl)) (by rw [HLN.out]; omega)
          rwa [HLN.out] at this
        have hii := ints_any _ Aj ln ic ln cj xs xs w6 hri (HRJ.out _ H6.out.st.below)
        rw [show eqB xs xs = true by simp [eqB]] at hii
        have HII := Lib.hid hii
        clear hri hii
        go_wp2_with fail
        refine HII.out.mono ?_
        rintro e w7 ⟨rfl, hD⟩
        have H7 := Lib.hid (H6.out.drawn hD)
        have hsp := spoil_any ia ic xs w1.heap.size w1 w7 (star (storeHP p L5 S) (rowsHP a c W)) (H7.out.st.conseq (by ac_rfl)) (by rw [HLN.out]; omega)
        rw [HLN.out] at hsp
        unfold slv at hsp
        have HSP := Lib.hid hsp
        clear hD d1 hsp
        go_wp2_with fail
        refine HSP.out.mono ?_
        rintro e w8 ⟨rfl, ys, _, h8⟩
        have H8 := Lib.hid (show StoreAt w1.heap.size w1 w8 p L5 S (rowsHP a c W) from ⟨(h8.conseq (show _ = star (star (storeHP p L5 S) (rowsHP a c W)) (sli 3 ia ic ys) by ac_rfl)).drop, H7.out.ws⟩)
        have hst8 := H8.out
        have d8 := HD.out _ hst8.st.below
        have HK2 := Lib.hid (show (S.cls.length : Int) = (k : Int) by rw [← S.C_length, ← HC.out, List.length_map, HWL.out])
        have HWI2 := Lib.hid (show (S.words.length : Int) = (ww : Int) by rw [HWW.out])
        have HWW2 := HWW
        have HI2 := HI
        have HCC2 := HC
        have HWL2 := HWL
        have HM2 := HM
        have HWS2 := Lib.hid (show ∀ x ∈ W, x.2.2.length ≤ 1000000 from fun x hx => by
          have := cok_room HI.out.cok (by rw [← HC.out]; exact List.mem_map.2 ⟨x, hx, rfl⟩)
          omega)
        clear h8
        go_wp2
        have HBOOL := Lib.hid (hasF_hasL HI2.out xs)
        obtain ⟨hb, hhb⟩ : ∃ hb, hasL S.C xs = hb := ⟨_, rfl⟩
        have HLENC := Lib.hid (close_len (B := w1.heap.size) (w0 := w1) (p := p) (L := L5) (S := S) (Fr := rowsHP a c W) HK2.out)
        have HWRDC := Lib.hid (close_words (B := w1.heap.size) (w0 := w1) (p := p) (L := L5) (S := S) (Fr := rowsHP a c W) HWI2.out)
        have HHAS := Lib.hid (close_Has (B := w1.heap.size) (w0 := w1) (p := p) (L := L5) (S := S) (Fr := rowsHP a c W) (c := cj) HI2.out HRJ.out rfl hsm (HBOOL.out.trans hhb))
        have HhasL := Lib.hid (close_has (B := w1.heap.size) (w0 := w1) (p := p) (L := L5) (S := S) (a := a) (c := c) (W := W) (c' := cj) HRJ.out rfl hsm HCC2.out HWL2.out (by omega) HWS2.out hhb)
        have HKEEP := Lib.hid (show ∀ V, StoreAt w1.heap.size w1 V p L5 S (rowsHP a c W) → V.cell? ⟨ab, ao + j, none⟩ = some (.slice Aj ln cj) ∧ StoreAt w1.heap.size w1 V p L5 S (rowsHP a c W) from fun V hV => ⟨HD.out V hV.st.below, hV⟩)
        clear hhb
        go_region_held3 (fun V => V.cell? ⟨ab, ao + j, none⟩ = some (.slice Aj ln cj) ∧ StoreAt w1.heap.size w1 V p L5 S (rowsHP a c W))
          (first | exact HKEEP.out _ (by first | assumption | exact And.right (by assumption)) | exact HKEEP.out _ (StoreAt.drawn (by first | assumption | exact And.right (by assumption)) ⟨1, rfl⟩))
          (first
            | (go_at_call 17; refine (HLENC.out _ (by first | assumption | exact And.right (by assumption))).mono ?_; rintro e w' ⟨rfl, rfl⟩)
            | (go_at_call 18; refine (HWRDC.out _ (by first | assumption | exact And.right (by assumption))).mono ?_; rintro e w' ⟨rfl, rfl⟩)
            | (go_at_call 19; refine (HHAS.out _ (by first | assumption | exact And.right (by assumption))).mono ?_; rintro e w' ⟨rfl, hst'⟩)
            | (go_at_call 20; refine (HhasL.out _ (by first | assumption | exact And.right (by assumption))).mono ?_; rintro e w' ⟨rfl, hst'⟩))
        all_goals
          have HFN := Lib.hid hst'
          go_wp2
          go_roundw
          case rel => exact ⟨j + 1, L5, S, a, c, k, ww, W, by omega, by omega, by omega, by go_num, rfl, rfl, HFN.out, HI2.out, HM2.out, HCC2.out, HWL2.out, HWW2.out⟩
          case measure => simp [intOf]; omega
    · obtain rfl : j = n1 := by omega
      obtain ⟨Aa, hAa⟩ : ∃ Aa : Option Addr, a.map (fun b => (⟨b, 0, none⟩ : Addr)) = Aa := ⟨_, rfl⟩
      rw [hAa]
      have HAA := Lib.hid hAa
      have HLN := Lib.hid (show S.cls.length = k by rw [← S.C_length, ← HC.out, List.length_map]; exact HWL.out)
      have HWS := Lib.hid (show ∀ x ∈ W, x.2.2.length ≤ 140737488355328 from fun x hx => by
        have := cok_room HI.out.cok (by rw [← HC.out]; exact List.mem_map.2 ⟨x, hx, rfl⟩)
        omega)
      clear hAa
      go_wp2
      go_loopw [15] (fun v15 wt => ∃ i : Nat, i ≤ k ∧ v15 = .int .i64 i ∧ Hid (StoreAt w1.heap.size w1 wt p L S (rowsHP a c W))) (fun v15 _ => k - (intOf v15).toNat)
      case atStart => exact ⟨0, Nat.zero_le _, rfl, HST.out⟩
      case round =>
        obtain ⟨i, hi, rfl, HT⟩ := hrel
        by_cases hik : i < k
        · have hi0 : (0 : Int) ≤ (i : Int) := by omega
          have hi1 : (i : Int) < (k : Int) := by omega
          go_wp2_with fail
          refine (Clause_in i _ HT.out HI.out (by rw [HLN.out]; exact hik) rfl i rfl).mono ?_
          rintro e w13 ⟨ca, cc, rfl, h13⟩
          obtain ⟨cl, hcl⟩ : ∃ cl, (S.cl i).lits = cl := ⟨_, rfl⟩
          rw [hcl] at h13 ⊢
          have hat := S.C_at (i := i) (by rw [HLN.out]; exact hik)
          rw [hcl] at hat
          have hg : gl S.C i = cl := by simp [gl, List.getD_eq_getElem?_getD, hat]
          have hcr := cok_room HI.out.cok (List.mem_of_getElem? hat)
          have hrall : Rd2 w13 Aa k S.C := by
            have := rows_rd (h13.st.conseq (show _ = star (rowsHP a c W) (star (storeHP p L S) (sli 3 ca cc cl)) by ac_rfl)) HWS.out (by rw [HWL.out]; omega)
            rwa [HC.out, HWL.out, HAA.out] at this
          obtain ⟨ab, ao, hAa, hc⟩ := hrall.cells (by omega)
          obtain ⟨Aj, cj, d1, hrj⟩ := hc i hik
          have rc := St.rd (h13.st.conseq (show _ = star (sli 3 ca cc cl) (star (storeHP p L S) (rowsHP a c W)) by ac_rfl)) (by omega)
          rw [hg] at d1 hrj
          have hspo := fun V (hV : Drawn w13 V) => spoil_any ca cc cl w1.heap.size w1 V (star (storeHP p L S) (rowsHP a c W)) ((h13.drawn hV).st.conseq (by ac_rfl)) (by omega)
          obtain ⟨cn, hcn⟩ : ∃ cn, cl.length = cn := ⟨_, rfl⟩
          rw [hcn] at d1 hrj rc hspo ⊢
          have hii := ints_any _ Aj cn cc cn cj cl cl w13 rc hrj
          rw [show eqB cl cl = true by simp [eqB]] at hii
          unfold slv at hspo
          have HII := Lib.hid hii
          have HSPO := Lib.hid hspo
          have HWSV := Lib.hid h13.ws
          clear h13 hcl hat hg hrall hc hrj rc hii hcn hspo
          subst hAa
          unfold slv
          go_wp2_with fail
          refine HII.out.mono ?_
          rintro e w14 ⟨rfl, hD⟩
          go_wp2_with fail
          refine (HSPO.out _ hD).mono ?_
          rintro e w15 ⟨rfl, ys, _, h15⟩
          have H15 := Lib.hid (show StoreAt w1.heap.size w1 w15 p L S (rowsHP a c W) from ⟨(h15.conseq (show _ = star (star (storeHP p L S) (rowsHP a c W)) (sli 3 ca cc ys) by ac_rfl)).drop, HWSV.out⟩)
          clear hD h15
          go_wp2
          go_roundw
          case rel => exact ⟨i + 1, by omega, by go_num, H15.out⟩
          case measure => simp [intOf]; omega
        · have HFIN := Lib.hid (HB1.out.trans (HT.out.st.below.mono HB1.out.size))
          go_wp2_with fail
          refine (Clause_out HT.out HI.out k (by rw [HLN.out]; omega)).mono ?_
          rintro e w16 ⟨rfl, rfl⟩
          go_wp2_with fail
          refine (Clause_out HT.out HI.out (-1) (by omega)).mono ?_
          rintro e w17 ⟨rfl, rfl⟩
          go_wp2
          go_ret
          exact ⟨rfl, HFIN.out⟩
end Go.Proofs.Ytmljcbdlkeooiaa
