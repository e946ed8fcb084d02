/-
  StoreChain: the walk of the law.
-/
import Derived.Test.YtmljcbdlkeooiaaLaw9
namespace Go.Proofs.Ytmljcbdlkeooiaa
open Go.RowKit Go.Proofs.PlaitSep Go.Proofs.PlaitPure

theorem placeF_range (k n : Int) (h : 0 < n) : 0 ≤ placeF k n ∧ placeF k n < n := by
  have h1 := Int.tmod_lt_of_pos k h
  have h2 : -n < k.tmod n := by
    have := Int.neg_tmod k n
    have := Int.tmod_lt_of_pos (-k) h
    omega
  unfold placeF
  split <;> omega
/-- A store that holds a chain's clauses so far. -/
structure ChainS (S : SM) (I : List Nat) : Prop where
  inv : S.Inv
  most : S.most = 262144
  C : S.C = chainC I
theorem ChainS.add {S : SM} {I : List Nat} (h : ChainS S I) (hl : I.length ≤ 10000) {i : Nat} (h1 : 1 ≤ i) (h2 : i ≤ 60000) : ∃ S', addF S [-(i : Int), (i : Int) + 1] = (S', S.cls.length, 0) ∧ ChainS S' (I ++ [i]) := by
  obtain ⟨e1, e2⟩ := link_once (i := (i : Int)) (by omega) (by omega)
  have hw : S.words.length = 4 * I.length := by rw [words_wsum, h.C, chainC_words]
  have he : addF S [-(i : Int), (i : Int) + 1] = (S.addS [-(i : Int), (i : Int) + 1], S.cls.length, 0) := by
    unfold addF
    rw [if_neg (by rw [e1]; simp), if_neg (by rw [e2, h.most, hw]; simp; omega), e2]
  refine ⟨_, he, ?_, ?_, ?_⟩
  · have := h.inv.add [-(i : Int), (i : Int) + 1]
    rwa [he] at this
  · have := addF_most S [-(i : Int), (i : Int) + 1]
    rw [he] at this
    exact this.trans h.most
  · rw [addS_C, h.C]
    unfold chainC
    rw [List.map_append]
    rfl
section
variable {B : Nat} {w0 w : World} {p : Nat} {L : SLay} {S : SM} {F : HP}
theorem follow_box (vs : Array Value) (xs : List Int) (C : List (List Int)) (h : StoreAt B w0 w p L S F) (hS : S.Inv) (hC : S.C = C) (hv : vs.toList = ints xs) (hx : xs.length ≤ 1000000) (c : Nat) :
    Calls Try.prog 23 #[.pointer (some ⟨p, 0, none⟩), .slice (some ⟨w.heap.size, 0, none⟩) xs.length c] (w.alloc (.cells vs 3)) (Followed B w0 p F C xs) := by
  have hb := h.box vs xs hv hx
  refine (follow_law (some ⟨w.heap.size, 0, none⟩) xs.length c xs C (fun w' hh => St.rd (a := some w.heap.size) hh (by omega)) hx hb hS hC).mono ?_
  rintro e w' ⟨out, q, oa, oc, L', S', rfl, h1, h2⟩
  exact ⟨out, q, oa, oc, L', S', rfl, ⟨(h1.st.conseq (show _ = star (star (storeHP p L' S') (star (sli 3 oa oc out) F)) (sli 3 (some w.heap.size) xs.length xs) by ac_rfl)).drop, h1.ws⟩, h2⟩
end
set_option maxRecDepth 100000 in
set_option maxHeartbeats 4000000 in
theorem storeChain_any (z0 : Int) (z1 : Int) (w : World)  :
    Calls Try.prog 7 #[.int .i64 z0, .int .i64 z1] w fun e w' => e = .returned (.bool true) ∧ Below w.heap.size w w' := by
  go_enter Try.func7, Try.ntmps7
  go_wp2_with fail
  refine (known_any w).mono ?_
  rintro e w1 ⟨rfl, hb1⟩
  have HB1 := Lib.hid hb1
  clear hb1
  have hp0 := placeF_range z0 2000 (by omega)
  have hp1 := placeF_range z1 50 (by omega)
  obtain ⟨M, hM⟩ : ∃ M : Nat, placeF z0 2000 = M := ⟨(placeF z0 2000).toNat, by omega⟩
  obtain ⟨T, hT⟩ : ∃ T : Nat, placeF z1 50 = T := ⟨(placeF z1 50).toNat, by omega⟩
  rw [hM] at hp0
  rw [hT] at hp1
  have hpl0 := place_any z0 2000 w1 (by omega) (by omega)
  have hpl1 := place_any z1 50 w1 (by omega) (by omega)
  rw [hM] at hpl0
  rw [hT] at hpl1
  have HPL0 := Lib.hid hpl0
  have HPL1 := Lib.hid hpl1
  clear hpl0 hpl1 hM hT
  go_wp2_with fail
  refine HPL0.out.mono ?_
  rintro e w2 ⟨rfl, rfl⟩
  obtain ⟨hM0, hM1⟩ := hp0
  obtain ⟨hT0, hT1⟩ := hp1
  go_wp2_with fail
  refine HPL1.out.mono ?_
  rintro e w2 ⟨rfl, rfl⟩
  go_wp2_with fail
  refine (New_any 262144 w1).mono ?_
  rintro e w3 ⟨p, L0, rfl, h0⟩
  have hch0 : ChainS (SM.new 262144) [] := ⟨SM.new_inv _, rfl, rfl⟩
  have H0 := Lib.hid h0
  have HC0 := Lib.hid hch0
  clear h0 hch0
  obtain ⟨N, hN⟩ : ∃ N : Nat, 2 + (M : Int) = N := ⟨2 + M, by omega⟩
  obtain ⟨st, hst⟩ : ∃ st : Nat, 1 + (T : Int) = st := ⟨1 + T, by omega⟩
  go_wp2
  have hN2 : 2 ≤ N := by omega
  have hN3 : N ≤ 2001 := by omega
  have hst1 : 1 ≤ st := by omega
  have hst2 : st ≤ 50 := by omega
  clear hN hst hM0 hM1 hT0 hT1
  go_loopw [6] (fun v6 wr => ∃ (fr : Nat) (L : SLay) (S : SM) (I : List Nat), fr ≤ st ∧ v6 = .int .i64 fr ∧ Hid (StoreAt w1.heap.size w1 wr p L S emp) ∧ Hid (ChainS S I) ∧ Hid (ChainDone N st fr 0 I)) (fun v6 _ => st - (intOf v6).toNat)
  case atStart => exact ⟨0, L0, SM.new 262144, [], Nat.zero_le _, rfl, H0.out, HC0.out, ChainDone.start N st⟩
  case round =>
    obtain ⟨fr, L1, S1, I1, hfr, rfl, HST, HCH, HDN⟩ := hrel
    by_cases hfs : fr < st
    · have hmod : (1 + fr - 1) % st = fr := by rw [Nat.add_sub_cancel_left]; exact Nat.mod_eq_of_lt hfs
      have HMOD := Lib.hid hmod
      have HDN1 := Lib.hid (show ChainDone N st fr (1 + fr) I1 from ⟨HDN.out.nodup, fun i => by
        rw [HDN.out.mem]
        constructor
        · rintro ⟨a, b, c⟩; exact ⟨a, b, by omega⟩
        · rintro ⟨a, b, c | ⟨c, d⟩⟩
          · exact ⟨a, b, .inl c⟩
          · have := Nat.mod_le (i - 1) st
            omega⟩)
      have hf2 : (fr : Int) < (st : Int) := by omega
      clear hmod
      obtain ⟨c1, hc1⟩ : ∃ c1 : Nat, 1 + (fr : Int) = c1 := ⟨1 + fr, by omega⟩
      have hc1n : 1 + fr = c1 := by omega
      rw [hc1n] at HMOD HDN1
      go_wp2
      have hc2 : 1 ≤ c1 := by omega
      have hc3 : c1 ≤ N + st := by omega
      clear hc1 hc1n
      go_loopw [7] (fun v7 ws => ∃ (cur : Nat) (L : SLay) (S : SM) (I : List Nat), 1 ≤ cur ∧ cur ≤ N + st ∧ v7 = .int .i64 cur ∧ Hid ((cur - 1) % st = fr) ∧ Hid (StoreAt w1.heap.size w1 ws p L S emp) ∧ Hid (ChainS S I) ∧ Hid (ChainDone N st fr cur I)) (fun v7 _ => N - (intOf v7).toNat)
      case atStart => exact ⟨c1, L1, S1, I1, hc2, hc3, rfl, HMOD.out, HST.out, HCH.out, HDN1.out⟩
      case round =>
        obtain ⟨cur, L2, S2, I2, h1, h2, rfl, HM, HST2, HCH2, HDN2⟩ := hrel
        by_cases hcN : cur < N
        · have hcN2 : (cur : Int) < (N : Int) := by omega
          have hcnt := HDN2.out.count
          obtain ⟨S3, he, hch3⟩ := HCH2.out.add (by omega) (i := cur) h1 (by omega)
          have hdn3 := HDN2.out.next (by omega) HM.out h1 hcN
          have HE := Lib.hid he
          have HCH3 := Lib.hid hch3
          have HDN3 := Lib.hid hdn3
          have hm3 : (cur + st - 1) % st = fr := by
            have := HM.out
            rw [show cur + st - 1 = (cur - 1) + st by omega, Nat.add_mod_right]
            exact this
          have HM3 := Lib.hid hm3
          clear he hch3 hdn3 hcnt hm3
          have hwr : IntKind.i64.wrap (-(cur : Int)) = -(cur : Int) := IntWalk.i64_in _ (by omega)
          go_wp2_with fail
          refine (Add_to _ 2 2 [-(cur : Int), (cur : Int) + 1] (StoreAt.alloc HST2.out _) HCH2.out.inv (Rd.newTwo _ _ _ _) (by omega) HE.out).mono ?_
          rintro e w5 ⟨rfl, L3, h5⟩
          have H5 := Lib.hid h5
          clear h5
          go_wp2
          go_roundw
          case rel => exact ⟨cur + st, L3, S3, I2 ++ [cur], by omega, by omega, by go_num, HM3.out, H5.out, HCH3.out, HDN3.out⟩
          case measure => simp [intOf]; omega
        · have hdn3 := HDN2.out.turn (by omega)
          have HDN3 := Lib.hid hdn3
          clear hdn3
          go_wp2
          go_roundw
          case rel => exact ⟨fr + 1, L2, S2, I2, by omega, by go_num, HST2.out, HCH2.out, HDN3.out⟩
          case measure => simp [intOf]; omega
    · obtain rfl : fr = st := by omega
      have hall := HDN.out.all (by omega) (by omega)
      have hch : IsChain S1.C N := by
        have := chainC_is HDN.out (by omega) (by omega)
        rw [HCH.out.C]
        exact this
      have hwd : S1.words.length = 4 * (N - 1) := by rw [words_wsum, HCH.out.C, chainC_words, hall.1]
      have HCHN := Lib.hid hch
      have HWD := Lib.hid hwd
      have HS := Lib.hid HCH.out.inv
      clear hall hch hwd HDN
      go_wp2_with fail
      refine (follow_box #[.int .i64 1] [1] S1.C HST.out HS.out rfl rfl (by decide) 1).mono ?_
      rintro e w5 ⟨o1, q1, oa, oc, L5, S5, rfl, h5, hS5, hC5, hsp1, ht1, hob1⟩
      obtain ⟨hq1, hl1, hg1⟩ := chain_up HCHN.out (by omega) HS.out.cok ht1 hsp1
      have hl1' : o1.length = N := by omega
      subst hq1
      rw [hl1'] at hg1 hob1 ⊢
      have H5 := Lib.hid h5
      have HS5 := Lib.hid hS5
      have HC5 := Lib.hid hC5
      have HG1 := Lib.hid hg1
      have HL1 := Lib.hid hl1'
      clear h5 hS5 hC5 hsp1 ht1 hl1 hl1' hg1
      have hwr : IntKind.i64.wrap (-(N : Int)) = -(N : Int) := IntWalk.i64_in _ (by omega)
      unfold slv
      go_wp2_with fail
      refine (follow_box #[.int .i64 (-(N : Int))] [-(N : Int)] S1.C H5.out HS5.out HC5.out rfl (by simp) 1).mono ?_
      rintro e w6 ⟨o2, q2, ob, obc, L6, S6, rfl, h6, hS6, hC6, hsp2, ht2, hob2⟩
      obtain ⟨hq2, hl2, hg2⟩ := chain_down HCHN.out (by omega) (by omega) HS.out.cok ht2 hsp2
      have hl2' : o2.length = N := by omega
      subst hq2
      rw [hl2'] at hg2 hob2 ⊢
      have r1 : Rd w6 (oa.map fun b => ⟨b, 0, none⟩) N o1 := by
        have := St.rd (h6.st.conseq (show _ = star (sli 3 oa oc o1) (star (storeHP p L6 S6) (star (sli 3 ob obc o2) emp)) by ac_rfl)) (by rw [HL1.out]; omega)
        rwa [HL1.out] at this
      have r2 : Rd w6 (ob.map fun b => ⟨b, 0, none⟩) N o2 := by
        have := St.rd (h6.st.conseq (show _ = star (sli 3 ob obc o2) (star (storeHP p L6 S6) (star (sli 3 oa oc o1) emp)) by ac_rfl)) (by rw [hl2']; omega)
        rwa [hl2'] at this
      obtain ⟨Ao, hAo⟩ : ∃ Ao : Option Addr, oa.map (fun b => (⟨b, 0, none⟩ : Addr)) = Ao := ⟨_, rfl⟩
      obtain ⟨Ab, hAb⟩ : ∃ Ab : Option Addr, ob.map (fun b => (⟨b, 0, none⟩ : Addr)) = Ab := ⟨_, rfl⟩
      unfold slv
      rw [hAo] at r1 ⊢
      rw [hAb] at r2 ⊢
      have H6 := Lib.hid h6
      have HS6 := Lib.hid hS6
      have HC6 := Lib.hid hC6
      have HG2 := Lib.hid hg2
      have R1 := Lib.hid r1
      have R2 := Lib.hid r2
      clear h6 hS6 hC6 hsp2 ht2 hl2 hl2' hg2 r1 r2 hAo hAb
      go_wp2
      go_loop [14] (fun v14 => ∃ i : Nat, i ≤ N ∧ v14 = .int .i64 i) (fun v14 => N - (intOf v14).toNat)
      case atStart => exact ⟨0, Nat.zero_le _, rfl⟩
      case round =>
        obtain ⟨i, hi, rfl⟩ := hrel
        by_cases hiN : i < N
        · obtain ⟨b1, x1, rfl, hc1⟩ := R1.out.cells (by omega)
          obtain ⟨b2, x2, rfl, hc2⟩ := R2.out.cells (by omega)
          have d1 := hc1 i hiN
          have d2 := hc2 i hiN
          rw [HG1.out i hiN] at d1
          rw [HG2.out i hiN] at d2
          have hi0 : (0 : Int) ≤ (i : Int) := by omega
          have hi1 : (i : Int) < (N : Int) := by omega
          clear hc1 hc2
          go_wp2
          go_round
          case rel => exact ⟨i + 1, by omega, by go_num⟩
          case measure => simp [intOf]; omega
        · clear hi
          go_wp2_with fail
          refine (follow_box #[.int .i64 1, .int .i64 (-(N : Int))] [1, -(N : Int)] S1.C H6.out HS6.out HC6.out rfl (by simp) 2).mono ?_
          rintro e w7 ⟨o3, q3, oe, oec, L7, S7, rfl, h7, hS7, hC7, hsp3, ht3, hob3⟩
          have hq3 := chain_both HCHN.out (by omega) HS.out.cok ht3
          subst hq3
          have hw7 : (S7.words.length : Int) = 4 * ((N : Int) - 1) := by
            have : S7.words.length = 4 * (N - 1) := by rw [words_wsum, hC7, ← words_wsum]; exact HWD.out
            omega
          have hwa := Words_any h7
          rw [hw7] at hwa
          have HWA := Lib.hid hwa
          have HFIN := Lib.hid (HB1.out.trans (h7.st.below.mono HB1.out.size))
          clear h7 hS7 hC7 hsp3 ht3 hw7 hwa
          unfold slv
          go_wp2_with fail
          refine HWA.out.mono ?_
          rintro e w8 ⟨rfl, rfl⟩
          go_wp2
          go_ret
          exact ⟨rfl, HFIN.out⟩
end Go.Proofs.Ytmljcbdlkeooiaa
