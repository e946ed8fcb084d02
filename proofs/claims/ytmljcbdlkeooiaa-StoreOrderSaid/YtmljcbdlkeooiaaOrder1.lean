/-
  StoreOrder: the walk of the law.
-/
import Derived.Test.YtmljcbdlkeooiaaLaw8
import Derived.Deep.Slices
namespace Go.Proofs.Ytmljcbdlkeooiaa
open Go.RowKit Go.Proofs.PlaitSep Go.Proofs.PlaitPure

/-- Where the rows of a slice that came in lie. -/
theorem rd2_choose {w : World} {A : Option Addr} {n : Nat} {xss : List (List Int)} (h : Rd2 w A n xss) :
    ∃ f : Nat → Option Addr × Nat, ∀ j, j < n → Rd w (f j).1 (gl xss j).length (gl xss j) ∧ ∀ b o, A = some ⟨b, o, none⟩ → w.cell? ⟨b, o + j, none⟩ = some (.slice (f j).1 (gl xss j).length (f j).2) := by
  refine Go.Deep.choose_lt (p := fun j (y : Option Addr × Nat) => Rd w y.1 (gl xss j).length (gl xss j) ∧ ∀ b o, A = some ⟨b, o, none⟩ → w.cell? ⟨b, o + j, none⟩ = some (.slice y.1 (gl xss j).length y.2)) fun j hj => ?_
  obtain ⟨b, o, rfl, hc⟩ := h.cells (by omega)
  obtain ⟨Aj, cj, h1, h2⟩ := hc j hj
  refine ⟨(Aj, cj), h2, fun b' o' e => ?_⟩
  obtain ⟨rfl, rfl⟩ : b = b' ∧ o = o' := by simpa using e
  exact h1
def backV (f : Nat → Option Addr × Nat) (xss : List (List Int)) (n j : Nat) : List Value := (List.range j).map fun k => .slice (f (n - 1 - k)).1 (gl xss (n - 1 - k)).length (f (n - 1 - k)).2
theorem backV_succ (f : Nat → Option Addr × Nat) (xss : List (List Int)) (n j i : Nat) (h : n - 1 - j = i) : backV f xss n (j + 1) = backV f xss n j ++ [.slice (f i).1 (gl xss i).length (f i).2] := by
  unfold backV
  rw [List.range_succ, List.map_append]
  simp [h]
theorem back_rd {B : Nat} {w w0 w' : World} {A : Option Addr} {n : Nat} {xss : List (List Int)} {f : Nat → Option Addr × Nat} {ba : Option Nat} {bc : Nat} {G : HP} (h : Rd2 w A n xss)
    (hf : ∀ j, j < n → Rd w (f j).1 (gl xss j).length (gl xss j)) (hb : Below w.heap.size w w') (hst : St B w0 w' (star (sl ba n bc 27 1 (backV f xss n n)) G)) : Rd2 w' (ba.map fun b => ⟨b, 0, none⟩) n xss.reverse := by
  refine ⟨by rw [List.length_reverse, h.len], h.small, fun hn => ?_⟩
  obtain ⟨_, _, _, hnone, _⟩ := hst.sat.sl_facts
  cases ba with
  | none => have := (hnone rfl).1; omega
  | some b =>
    refine ⟨b, 0, rfl, fun j hj => ?_⟩
    have hg : gl xss.reverse j = gl xss (n - 1 - j) := by
      have := h.len
      rw [gl_eq _ _ (by rw [List.length_reverse]; omega), gl_eq _ _ (by omega), List.getElem_reverse]
      congr 1
      omega
    have hr := hf (n - 1 - j) (by omega)
    refine ⟨(f (n - 1 - j)).1, (f (n - 1 - j)).2, ?_, ?_⟩
    · rw [Nat.zero_add, St.sl_cell (h := hst) j (by simp [backV]; exact hj), hg]
      simp [backV, hj]
    · rw [hg]
      exact hr.grow hb
theorem rev_take {l : List Int} {j i : Nat} (h : l.length = i + 1 + j) : l.reverse.take (j + 1) = l.reverse.take j ++ [gi l i] := by
  rw [List.take_succ_eq_append_getElem (by rw [List.length_reverse]; omega), List.getElem_reverse, gi_eq l i (by omega)]
  congr 3
  omega
set_option maxRecDepth 100000 in
set_option maxHeartbeats 4000000 in
theorem storeOrder_any (A0 : Option Addr) (n0 cap0 : Nat) (z0 : List (List Int)) (A1 : Option Addr) (n1 cap1 : Nat) (z1 : List Int) (w : World) (w0 : Rd2 w A0 n0 z0) (w1 : Rd w A1 n1 z1) :
    Calls Try.prog 5 #[.slice A0 n0 cap0, .slice A1 n1 cap1] w fun e w' => e = .returned (.bool true) ∧ Below w.heap.size w w' := by
  have hs0 := w0.small
  have HR0 := Lib.hid w0
  have hs1 := w1.small
  have HR1 := Lib.hid w1
  clear w0 w1
  obtain ⟨s0, hz0⟩ : ∃ s, sizeF z0 800 = s := ⟨_, rfl⟩
  have hsize0 := fun w0 (h : Rd2 w0 A0 n0 z0) => size_any A0 n0 cap0 z0 800 w0 h (by omega) (by omega)
  rw [hz0] at hsize0
  have HSZ0 := Lib.hid hsize0
  have HZ0 := Lib.hid hz0
  clear hsize0 hz0
  go_enter Try.func5, Try.ntmps5
  go_wp2_with fail
  refine (known_any w).mono ?_
  rintro e w1 ⟨rfl, hb1⟩
  have HB1 := Lib.hid hb1
  have HQ0 := Lib.hid (HR0.out.grow hb1)
  have HQ1 := Lib.hid (HR1.out.grow hb1)
  clear hb1
  by_cases ht0 : 800 < s0
  · have hd : decide (800 < s0) = true := by simp; omega
    go_wp2_with fail
    refine (HSZ0.out _ HQ0.out).mono ?_
    rintro e w2 ⟨rfl, rfl⟩
    go_wp2
    go_ret
    exact ⟨rfl, HB1.out⟩
  have hd0 : decide (800 < s0) = false := by simp; omega
  by_cases ht1 : 150 < n0
  · have hd : decide (150 < (n0 : Int)) = true := by simp; omega
    go_wp2_with fail
    refine (HSZ0.out _ HQ0.out).mono ?_
    rintro e w2 ⟨rfl, rfl⟩
    go_wp2
    go_ret
    exact ⟨rfl, HB1.out⟩
  have hd1 : decide (150 < (n0 : Int)) = false := by simp; omega
  by_cases ht2 : 60 < n1
  · have hd : decide (60 < (n1 : Int)) = true := by simp; omega
    go_wp2_with fail
    refine (HSZ0.out _ HQ0.out).mono ?_
    rintro e w2 ⟨rfl, rfl⟩
    go_wp2
    go_ret
    exact ⟨rfl, HB1.out⟩
  have hd2 : decide (60 < (n1 : Int)) = false := by simp; omega
  go_wp2_with fail
  refine (HSZ0.out _ HQ0.out).mono ?_
  rintro e w2 ⟨rfl, rfl⟩
  go_wp2_with fail
  have hsum := sizeGo_sum z0 (z0.length : Int) (show sizeGo 800 z0.length z0 ≤ 800 by have := HZ0.out; unfold sizeF at this; omega)
  have hwords : (z0.map List.length).sum + 2 * z0.length ≤ 262144 := by
    have := HZ0.out
    unfold sizeF at this
    have := HR0.out.len
    omega
  have HWD := Lib.hid hwords
  clear hsum hwords
  have HE := Lib.hid (show ∀ j, j < n0 → (gl z0 j).length ≤ 1000000 from fun j hj => by
    have := sizeF_each (xss := z0) (most := 800) (by rw [HZ0.out]; omega) j (by rw [HR0.out.len]; exact hj)
    omega)
  refine (made_law A0 n0 cap0 z0 w1 HQ0.out (by omega) HE.out).mono ?_
  rintro e w3 ⟨p, L, S, a, c, W, rfl, h3, hC, hSS, hS, hCn, hWs⟩
  obtain ⟨k, hk⟩ : ∃ k, W.length = k := ⟨_, rfl⟩
  rw [hk]
  obtain ⟨G, hG⟩ : ∃ G, star (storeHP p L S) (rowsHP a c W) = G := ⟨_, rfl⟩
  obtain ⟨f, hf⟩ := rd2_choose HQ0.out
  have HG := Lib.hid hG
  have HF := Lib.hid hf
  have HS := Lib.hid hS
  have HSS := Lib.hid hSS
  have HWL := Lib.hid h3.ws
  have HST3 := Lib.hid (show St w1.heap.size w1 w3 G from hG ▸ h3.st)
  clear h3 hC hSS hS hCn hWs hk hG hf
  unfold slv
  go_wp2
  go_loopw [7, 8] (fun v7 v8 wr => ∃ (j : Nat) (ba : Option Nat) (bc : Nat), j ≤ n0 ∧ v7 = .slice (ba.map fun b => ⟨b, 0, none⟩) j bc ∧ v8 = .int .i64 ((n0 : Int) - 1 - j) ∧ Hid (St w1.heap.size w1 wr (star (sl ba j bc 27 1 (backV f z0 n0 j)) G))) (fun _ v8 _ => (intOf v8 + 1).toNat)
  case atStart => exact ⟨0, none, 0, Nat.zero_le _, rfl, by simp, (⟨HST3.out.below, HST3.out.base, HST3.out.sat.sl_nil _ _⟩ : St w1.heap.size w1 w3 (star (sl none 0 0 27 1 []) G))⟩
  case round =>
    obtain ⟨j, ba, bc, hj, rfl, rfl, HB⟩ := hrel
    by_cases hjn : j < n0
    · obtain ⟨i, hi⟩ : ∃ i : Nat, (n0 : Int) - 1 - j = i := ⟨n0 - 1 - j, by omega⟩
      rw [hi]
      have hin : i < n0 := by omega
      have hin2 : (i : Int) < (n0 : Int) := by omega
      have hi0 : (0 : Int) ≤ (i : Int) := by omega
      obtain ⟨ab, ao, rfl, _⟩ := HQ0.out.cells (by omega)
      have d0 := (HF.out i hin).2 ab ao rfl
      have d1 := (HB.out.below.cell (World.block_lt_of_cell? _ _ d0)).trans d0
      have hsucc := backV_succ f z0 n0 j i (by omega)
      have HI := Lib.hid hi
      have HSU := Lib.hid hsucc
      obtain ⟨ln, hln⟩ : ∃ ln, (gl z0 i).length = ln := ⟨_, rfl⟩
      rw [hln] at d1
      have HLN := Lib.hid hln
      clear d0 hi hsucc hln
      go_wp2_with (at_builtin; refine wpList_append1 rfl _ _ 22 27 (.slice none 0 0) 24 rfl Try.underlying22 Try.infoInts rfl HB.out rfl (.slice (f i).1 ln (f i).2) rfl rfl (by omega) (by simp only [maxLen]; omega) ?_; intro b' c' w4 h4; have H4 := Lib.hid h4; clear h4)
      go_roundw
      case rel =>
        refine ⟨j + 1, some b', c', by omega, rfl, by rw [show (n0 : Int) - 1 - ((j + 1 : Nat) : Int) = (i : Int) - 1 by have := HI.out; omega], (?_ : St w1.heap.size w1 w4 (star (sl (some b') (j + 1) c' 27 1 (backV f z0 n0 (j + 1))) G))⟩
        rw [HSU.out, HLN.out]
        exact H4.out
      case measure => simp [intOf]
    · obtain rfl : j = n0 := by omega
      go_wp2
      go_loopw [9, 10] (fun v9 v10 ws => ∃ (t : Nat) (ta : Option Nat) (tc : Nat), t ≤ n1 ∧ v9 = .slice (ta.map fun b => ⟨b, 0, none⟩) t tc ∧ v10 = .int .i64 ((n1 : Int) - 1 - t) ∧ Hid (St w1.heap.size w1 ws (star (sli 3 ta tc (z1.reverse.take t)) (star (sl ba j bc 27 1 (backV f z0 j j)) G)))) (fun _ v10 _ => (intOf v10 + 1).toNat)
      case atStart => exact ⟨0, none, 0, Nat.zero_le _, rfl, by simp, (⟨HB.out.below, HB.out.base, HB.out.sat.sl_nil _ _⟩ : St w1.heap.size w1 wr (star (sli 3 none 0 []) (star (sl ba j bc 27 1 (backV f z0 j j)) G)))⟩
      case round =>
        obtain ⟨t, ta, tc, ht, rfl, rfl, HT⟩ := hrel
        by_cases htn : t < n1
        · obtain ⟨i, hi⟩ : ∃ i : Nat, (n1 : Int) - 1 - t = i := ⟨n1 - 1 - t, by omega⟩
          rw [hi]
          have hin : i < n1 := by omega
          have hin2 : (i : Int) < (n1 : Int) := by omega
          have hi0 : (0 : Int) ≤ (i : Int) := by omega
          obtain ⟨ab, ao, rfl, hc⟩ := HQ1.out.cells (by omega)
          have d0 := hc i hin
          have d1 := (HT.out.below.cell (World.block_lt_of_cell? _ _ d0)).trans d0
          have hlen := HQ1.out.len
          have hsucc := rev_take (l := z1) (j := t) (i := i) (by omega)
          have htl : (z1.reverse.take t).length = t := by rw [List.length_take, List.length_reverse]; omega
          have HI := Lib.hid hi
          have HSU := Lib.hid hsucc
          have HTL := Lib.hid htl
          clear d0 hi hsucc hc hlen htl
          go_wp2_with (at_builtin; refine wpList_append_int rfl _ _ 27 3 rfl Try.underlying27 Try.infoInt HT.out t HTL.out rfl (gi z1 i) rfl (by omega) ?_; intro b' c' w4 h4; have H4 := Lib.hid h4; clear h4)
          go_roundw
          case rel =>
            refine ⟨t + 1, some b', c', by omega, rfl, by rw [show (n1 : Int) - 1 - ((t + 1 : Nat) : Int) = (i : Int) - 1 by have := HI.out; omega], (?_ : St w1.heap.size w1 w4 (star (sli 3 (some b') c' (z1.reverse.take (t + 1))) (star (sl ba j bc 27 1 (backV f z0 j j)) G)))⟩
            rw [HSU.out]
            exact H4.out
          case measure => simp [intOf]
        · obtain rfl : t = n1 := by omega
          have hlen1 := HQ1.out.len
          have htk : z1.reverse.take t = z1.reverse := by rw [List.take_of_length_le]; rw [List.length_reverse]; omega
          have HT2 := Lib.hid (htk ▸ HT.out)
          have HBR := Lib.hid (back_rd HQ0.out (fun j hj => (HF.out j hj).1) HT2.out.below (HT2.out.conseq (show _ = star (sl ba j bc 27 1 (backV f z0 j j)) (star (sli 3 ta tc z1.reverse) G) by ac_rfl)))
          have HE2 := Lib.hid (show ∀ i, i < j → (gl z0.reverse i).length ≤ 1000000 from fun i hi => by
            have hl := HQ0.out.len
            rw [gl_eq _ _ (by rw [List.length_reverse]; omega), List.getElem_reverse, ← gl_eq z0 _ (by omega)]
            exact HE.out _ (by omega))
          clear htk hlen1 HT
          go_wp2_with fail
          refine (made_law _ j bc z0.reverse _ HBR.out (by omega) HE2.out).mono ?_
          rintro e w5 ⟨p2, L2, S2, a2, c2, W2, rfl, h4, hC2, hSS2, hS2, _, _⟩
          obtain ⟨k2, hk2⟩ : ∃ k2, W2.length = k2 := ⟨_, rfl⟩
          rw [hk2]
          obtain ⟨F0, hF0⟩ : ∃ F0, star (rowsHP a c W) (star (rowsHP a2 c2 W2) (sl ba j bc 27 1 (backV f z0 j j))) = F0 := ⟨_, rfl⟩
          have h5 := HT2.out.nest h4.st
          have h6 : StoreAt w1.heap.size w1 w5 p L S (star (star (sli 3 ta tc z1.reverse) (storeHP p2 L2 S2)) F0) := ⟨h5.conseq (by rw [← hF0, ← HG.out]; ac_rfl), HWL.out⟩
          have H6 := Lib.hid h6
          have HWL2 := Lib.hid h4.ws
          have HS2 := Lib.hid hS2
          have hcs : ∀ c, c ∈ S2.C ↔ c ∈ S.C := by
            rw [← hSS2, ← HSS.out]
            exact madeS_back HWD.out
          have HCS := Lib.hid hcs
          clear h4 hC2 hSS2 hS2 hk2 hF0 h5 h6 hcs
          unfold slv
          go_wp2_with fail
          refine (follow_law A1 t cap1 z1 S.C (fun w' hh => HQ1.out.grow hh.below) (by omega) H6.out HS.out rfl).mono ?_
          rintro e w6 ⟨o1, q1, oa, oc, L3, S3, rfl, h7, _, _, hsp1, ht1, hob1⟩
          have h8 : StoreAt w1.heap.size w1 w6 p2 L2 S2 (star (sli 3 ta tc z1.reverse) (star (star (storeHP p L3 S3) (sli 3 oa oc o1)) F0)) := ⟨h7.st.conseq (by ac_rfl), HWL2.out⟩
          have H8 := Lib.hid h8
          have HSP1 := Lib.hid hsp1
          have HT1 := Lib.hid ht1
          clear h7 h8 hsp1 ht1
          obtain ⟨ol1, hol1⟩ : ∃ ol1, o1.length = ol1 := ⟨_, rfl⟩
          rw [hol1] at hob1 ⊢
          have HOL1 := Lib.hid hol1
          clear hol1
          unfold slv
          go_wp2_with fail
          have HRT := Lib.hid (show ∀ w', St w1.heap.size w1 w' (star (sli 3 ta tc z1.reverse) (star (star (storeHP p L3 S3) (sli 3 oa oc o1)) F0)) → Rd w' (ta.map fun b => ⟨b, 0, none⟩) t z1.reverse from fun w' hh => by
            have hl := HQ1.out.len
            have := St.rd hh (by rw [List.length_reverse]; omega)
            rwa [List.length_reverse, hl] at this)
          refine (follow_law _ t tc z1.reverse S2.C HRT.out (by omega) H8.out HS2.out rfl).mono ?_
          rintro e w7 ⟨o2, q2, ob, obc, L4, S4, rfl, h9, _, _, hsp2, ht2, hob2⟩
          obtain ⟨ol2, hol2⟩ : ∃ ol2, o2.length = ol2 := ⟨_, rfl⟩
          rw [hol2] at hob2 ⊢
          have HOL2 := Lib.hid hol2
          have hord := order_law HS.out.cok HS2.out.cok HT1.out ht2 HCS.out (fun x => by simp)
          have H9 := Lib.hid h9
          have HSP2 := Lib.hid hsp2
          have HORD := Lib.hid hord
          clear h9 hsp2 ht2 hol2 hord HRT
          unfold slv
          by_cases hq : q1 = -1
          · obtain ⟨hq2, hsub1, hsub2⟩ := HORD.out.2 hq
            subst hq
            subst hq2
            obtain ⟨s1, hs1, hsl1⟩ := set_lits HSP1.out.lits
            obtain ⟨s2, hs2, hsl2⟩ := set_lits HSP2.out.lits
            have heq := set_alike hs1 hs2 HSP1.out.lits HSP2.out.lits hsub1 hsub2
            have r1 : Rd w7 (oa.map fun b => ⟨b, 0, none⟩) ol1 o1 := by
              have := St.rd (H9.out.st.conseq (show _ = star (sli 3 oa oc o1) (star (storeHP p2 L4 S4) (star (sli 3 ob obc o2) (star (sli 3 ta tc z1.reverse) (star (storeHP p L3 S3) F0)))) by ac_rfl)) (by rw [HOL1.out]; omega)
              rwa [HOL1.out] at this
            have r2 : Rd w7 (ob.map fun b => ⟨b, 0, none⟩) ol2 o2 := by
              have := St.rd (H9.out.st.conseq (show _ = star (sli 3 ob obc o2) (star (storeHP p2 L4 S4) (star (sli 3 oa oc o1) (star (sli 3 ta tc z1.reverse) (star (storeHP p L3 S3) F0)))) by ac_rfl)) (by rw [HOL2.out]; omega)
              rwa [HOL2.out] at this
            rw [HOL1.out] at hsl1
            rw [HOL2.out] at hsl2
            have HS1' := Lib.hid hs1
            have HS2' := Lib.hid hs2
            have HEQ := Lib.hid heq
            have R1 := Lib.hid r1
            have R2 := Lib.hid r2
            clear hs1 hs2 heq r1 r2 hsub1 hsub2
            go_wp2_with fail
            refine (set_any _ ol1 oc o1 w7 R1.out (by omega)).mono ?_
            rintro e w8 ⟨hgood, _⟩
            obtain ⟨xa, xc, rfl, k8⟩ := hgood _ HS1'.out
            have HK8 := Lib.hid k8
            have R2' := Lib.hid (R2.out.grow k8.below)
            clear k8 hgood
            unfold slv
            go_wp2_with fail
            refine (set_any _ ol2 obc o2 w8 R2'.out (by omega)).mono ?_
            rintro e w9 ⟨hgood, _⟩
            obtain ⟨ya, yc, rfl, k9⟩ := hgood _ HS2'.out
            have h10 := (H9.out.st.nest HK8.out).nest k9
            have rx := St.rd (h10.conseq (show _ = star (sli 3 xa xc s1) (star (sli 3 ya yc s2) (star (storeHP p2 L4 S4) (star (sli 3 ob obc o2) (star (sli 3 ta tc z1.reverse) (star (star (storeHP p L3 S3) (sli 3 oa oc o1)) F0))))) by ac_rfl)) (by omega)
            have ry := St.rd (h10.conseq (show _ = star (sli 3 ya yc s2) (star (sli 3 xa xc s1) (star (storeHP p2 L4 S4) (star (sli 3 ob obc o2) (star (sli 3 ta tc z1.reverse) (star (star (storeHP p L3 S3) (sli 3 oa oc o1)) F0))))) by ac_rfl)) (by omega)
            have HFIN := Lib.hid (HB1.out.trans (h10.below.mono HB1.out.size))
            have hii := ints_any _ _ s1.length xc s2.length yc s1 s2 w9 rx ry
            rw [HEQ.out] at hii
            have HII := Lib.hid hii
            clear h10 rx ry hii k9 hgood
            unfold slv
            go_wp2_with fail
            refine HII.out.mono ?_
            rintro e w10 ⟨rfl, hD⟩
            have HD := Lib.hid (HFIN.out.trans (hD.below _))
            clear hD
            go_wp2
            go_ret
            exact ⟨rfl, HD.out⟩
          · have hq2 := HORD.out.1 hq
            have e1 : (q1 != -1) = true := by simpa using hq
            have e2 : (q2 != -1) = true := by simpa using hq2
            have HFIN := Lib.hid (HB1.out.trans (H9.out.st.below.mono HB1.out.size))
            clear hq hq2
            go_wp2
            go_ret
            exact ⟨rfl, HFIN.out⟩
end Go.Proofs.Ytmljcbdlkeooiaa
