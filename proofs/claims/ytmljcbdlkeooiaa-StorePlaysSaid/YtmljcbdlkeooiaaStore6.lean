/-
  The contracts of a run's begin and of the store's Follow.
-/
import Derived.Test.YtmljcbdlkeooiaaStore5
import Derived.Test.YtmljcbdlkeooiaaStoreM5
namespace Go.Proofs.Ytmljcbdlkeooiaa
open Go.RowKit Go.Proofs.PlaitSep Go.Proofs.PlaitPure

section
variable {B : Nat} {w0 w : World} {r p : Nat} {RL : RLay} {L : SLay} {R : RM} {S : SM} {F : HP}
set_option maxRecDepth 100000 in
set_option maxHeartbeats 4000000 in
theorem begin_any (fuel : Nat) (res : SM × RM × Option Nat) (h : RunAt B w0 w r p RL L R S F) (hS : S.Inv) (hR : R.Inv) (hf : beginF fuel S R = some res) :
    Calls Try.prog 36 #[.pointer (some ⟨r, 0, none⟩)] w (FollowPost B w0 r p F res) := by
  have HF := Lib.hid hf
  clear hf
  have c0 := h.tpt.pt_cell 0
  have s4 := h.store.tpt.pt_cell 4
  obtain ⟨n, hn⟩ : ∃ n, S.short.length = n := ⟨_, rfl⟩
  simp only [runCells, storeCells, slv, hn] at c0 s4
  have hnl : S.shortN.length = n := by rw [← hn, S.short_eq]; simp
  have hnb : n ≤ 262144 := by
    rw [← hnl]
    have h1 : S.shortN.length ≤ (List.range S.cls.length).length := List.length_filter_le _ _
    have := hS.refs
    rw [List.length_range] at h1
    omega
  have HN := Lib.hid hn
  have HNL := Lib.hid hnl
  have HS := Lib.hid hS
  obtain ⟨sa, hsa⟩ : ∃ sa : Option Addr, L.sv.map (fun b => (⟨b, 0, none⟩ : Addr)) = sa := ⟨_, rfl⟩
  have HSA := Lib.hid hsa
  rw [hsa] at s4
  have H := Lib.hid h
  have HR := Lib.hid hR
  clear hn hnl hsa h hS hR
  obtain ⟨BS, hBS⟩ : ∃ BS, beginScan S R S.shortN = BS := ⟨_, rfl⟩
  have HBS := Lib.hid hBS
  clear hBS
  go_enter Try.func36, Try.ntmps36
  go_wp2
  go_loopw [14] (fun v wr => ∃ (j : Nat) (R1 : RM) (RL1 : RLay), j ≤ n ∧ v = .int .i64 j ∧ Hid (R1.Inv) ∧ Hid (RunAt B w0 wr r p RL1 L R1 S F) ∧ Hid (beginScan S R1 (S.shortN.drop j) = BS)) (fun v _ => n - (intOf v).toNat)
  case atStart => exact ⟨0, R, RL, Nat.zero_le _, rfl, HR.out, H.out, HBS.out⟩
  case round =>
    obtain ⟨j, R1, RL1, hj, rfl, HR1, H1, HB1⟩ := hrel
    by_cases hjn : j < n
    · obtain ⟨ref, href⟩ : ∃ ref, S.shortN.getD j 0 = ref := ⟨_, rfl⟩
      have hxd : S.shortN.drop j = ref :: S.shortN.drop (j + 1) := by
        rw [List.drop_eq_getElem_cons (by have := HNL.out; omega), ← href]
        simp [List.getD_eq_getElem?_getD, show j < S.shortN.length by have := HNL.out; omega]
      have hmem : ref ∈ S.shortN := by
        have : ref ∈ S.shortN.drop j := by rw [hxd]; simp
        exact List.mem_of_mem_drop this
      obtain ⟨hrlt, hrs⟩ := SM.shortN_mem.1 hmem
      obtain ⟨sb, hsb⟩ : ∃ sb, L.sv = some sb := by
        obtain ⟨_, _, _, hnone, _⟩ := H1.out.store.tshort.sat.sl_facts
        cases e : L.sv with
        | none => have := (hnone e).1; have := HN.out; omega
        | some b => exact ⟨b, rfl⟩
      obtain rfl : sa = some ⟨sb, 0, none⟩ := by rw [← HSA.out, hsb]; rfl
      have hts := H1.out.store.tshort
      rw [hsb] at hts
      have d1 : wr.cell? ⟨sb, j, none⟩ = some (.int .i64 (ref : Nat)) := by
        rw [St.sl_cell (h := hts) j (by rw [ints_length, HN.out]; exact hjn), ints_get _ _ (by rw [HN.out]; exact hjn), S.short_eq]
        congr 2
        rw [← href]
        unfold gi
        simp [List.getD_eq_getElem?_getD, show j < S.shortN.length by have := HNL.out; omega]
      have e0 := H1.out.tpt.pt_cell 0
      simp only [runCells] at e0
      have hcl := fun (w' : World) (hd : Drawn wr w') => clause_any ref (H1.out.drawn hd).store hrlt (Nat.le_trans HS.out.words HS.out.most)
      have hsc := HB1.out
      rw [hxd, beginScan] at hsc
      have hwa := fun (w' : World) (hd : Drawn wr w') (wb : Nat) (hb : L.wv = some wb) => (H1.out.drawn hd).store.word_at hrlt hb rfl rfl rfl
      obtain ⟨bg, hbg⟩ : ∃ bg, S.begin ref = bg := ⟨_, rfl⟩
      have hok := HS.out.cl ref hrlt
      have hbl := S.begin_le hrlt
      have hwb : S.words.length ≤ 262144 := Nat.le_trans HS.out.words HS.out.most
      obtain ⟨lits, hlits⟩ : ∃ lits, (S.cl ref).lits = lits := ⟨_, rfl⟩
      simp only [hbg, hlits] at hcl hwa hsc hbl hrs
      have hokl := hok.lits
      rw [hlits] at hokl
      have hrb : ref ≤ 262144 := by have := HS.out.refs; omega
      cases lits with
      | nil =>
        simp only [List.length_nil] at hcl hwa hbl
        have HCL := Lib.hid (hcl wr (Drawn.refl _))
        have HSC := Lib.hid hsc
        clear hxd hmem hrlt hrs hts hcl hsc hwa hbg hok hlits hokl href
        go_wp2_with (go_at_call 33; refine (HCL.out).mono ?_; rintro e w1 ⟨⟨wb, hwb2, rfl⟩, hD⟩)
        go_ret
        have h9 := HF.out
        unfold beginF at h9
        rw [HBS.out, ← HSC.out] at h9
        simp only [Option.some.injEq] at h9
        rw [← h9]
        exact ⟨rfl, RL1, L, H1.out.drawn hD⟩
      | cons x tl =>
        obtain rfl : tl = [] := List.eq_nil_of_length_eq_zero (by simp only [List.length_cons] at hrs; omega)
        simp only [List.length_cons, List.length_nil, Nat.zero_add] at hcl hwa hbl
        have hx := hokl x (by simp)
        obtain ⟨hx1, hx2, hx3⟩ := litB_iff.1 hx
        have HCL := Lib.hid (hcl wr (Drawn.refl _))
        have HSC := Lib.hid hsc
        have HWA := Lib.hid hwa
        have HX := Lib.hid hx
        obtain ⟨v, hv⟩ : ∃ v, R1.is x = v := ⟨_, rfl⟩
        have his := fun (w' : World) (hd : Drawn wr w') => is_any x (H1.out.drawn hd) HR1.out.ok hx2 hx3
        simp only [hv] at his
        have HIS := Lib.hid his
        have HV := Lib.hid hv
        clear hxd hmem hrlt hrs hts hcl hsc hwa hbg hok hlits hokl href hx1 hx his hv
        by_cases hv0 : v < 0
        · go_wp2_with (first
            | (go_at_call 33; refine (HCL.out).mono ?_; rintro e w1 ⟨⟨wb, hwb2, rfl⟩, hD⟩; have hww := (HWA.out _ hD _ hwb2).2.2 0 (by omega); have g1 : w1.cell? ⟨wb, bg + 2, none⟩ = some (.int .i64 x) := hww; clear hww hwb2)
            | (go_at_call 38; refine (HIS.out _ hD).mono ?_; rintro e w2 ⟨rfl, rfl⟩))
          go_ret
          have h9 := HF.out
          unfold beginF at h9
          have h10 := HSC.out
          rw [HV.out, if_pos hv0] at h10
          rw [HBS.out, ← h10] at h9
          simp only [Option.some.injEq] at h9
          rw [← h9]
          exact ⟨rfl, RL1, L, H1.out.drawn hD⟩
        · by_cases hv1 : v = 0
          · subst hv1
            have hroom := HR1.out.room
            have hset := fun (w' : World) (hd : Drawn wr w') => set_run_any x (H1.out.drawn hd) HR1.out.ok hx2 hx3 (by omega)
            have HST := Lib.hid hset
            have h10 := HSC.out; simp only at h10
            rw [HV.out, if_neg (by omega), if_pos rfl] at h10
            have H10 := Lib.hid h10
            clear hroom hset h10
            go_wp2_with (first
              | (go_at_call 33; refine (HCL.out).mono ?_; rintro e w1 ⟨⟨wb, hwb2, rfl⟩, hD⟩; have hww := (HWA.out _ hD _ hwb2).2.2 0 (by omega); have g1 : w1.cell? ⟨wb, bg + 2, none⟩ = some (.int .i64 x) := hww; clear hww hwb2)
              | (go_at_call 38; refine (HIS.out _ hD).mono ?_; rintro e w2 ⟨rfl, rfl⟩)
              | (go_at_call 39; refine (HST.out _ hD).mono ?_; rintro e w3 ⟨rfl, RL2, h3⟩; have H3 := Lib.hid h3; clear h3))
            go_roundw
            case rel =>
              exact ⟨j + 1, R1.set x, RL2, by omega, by go_num, HR1.out.set HX.out HV.out, H3.out, H10.out⟩
            case measure => simp [intOf]; omega
          · have h10 := HSC.out; simp only at h10
            rw [HV.out, if_neg (by omega), if_neg (by omega)] at h10
            have H10 := Lib.hid h10
            clear h10
            have hv2 : ¬ (v < 0) := hv0
            go_wp2_with (first
              | (go_at_call 33; refine (HCL.out).mono ?_; rintro e w1 ⟨⟨wb, hwb2, rfl⟩, hD⟩; have hww := (HWA.out _ hD _ hwb2).2.2 0 (by omega); have g1 : w1.cell? ⟨wb, bg + 2, none⟩ = some (.int .i64 x) := hww; clear hww hwb2)
              | (go_at_call 38; refine (HIS.out _ hD).mono ?_; rintro e w2 ⟨rfl, rfl⟩))
            go_roundw
            case rel =>
              exact ⟨j + 1, R1, RL1, by omega, by go_num, HR1.out, H1.out.drawn hD, H10.out⟩
            case measure => simp [intOf]; omega
    · obtain rfl : j = n := by omega
      have hdn : S.shortN.drop j = [] := List.drop_of_length_le (by have := HNL.out; omega)
      have h10 := HB1.out
      rw [hdn, beginScan] at h10
      have h9 := HF.out
      unfold beginF at h9
      rw [HBS.out, ← h10] at h9
      have hfo := follow_any fuel res H1.out HS.out HR1.out h9
      have HFO := Lib.hid hfo
      clear hdn h10 h9 hfo
      go_wp2_with (go_at_call 40; refine (HFO.out).mono ?_; rintro e w1 ⟨rfl, RL2, L2, h3⟩)
      go_ret
      exact ⟨rfl, RL2, L2, h3⟩
end
end Go.Proofs.Ytmljcbdlkeooiaa
