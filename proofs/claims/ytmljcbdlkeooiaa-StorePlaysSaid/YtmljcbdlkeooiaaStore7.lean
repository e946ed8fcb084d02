/-
  The contract of the store's Follow.
-/
import Derived.Test.YtmljcbdlkeooiaaStore6
import Derived.Test.YtmljcbdlkeooiaaRead3
namespace Go.Proofs.Ytmljcbdlkeooiaa
open Go.RowKit Go.Proofs.PlaitSep Go.Proofs.PlaitPure

/-- What Follow hands back. -/
def FollowAllPost (B : Nat) (w0 : World) (p : Nat) (F : HP) (res : SM × RM × Int) (e : Ending) (w' : World) : Prop :=
  ∃ oa oc L', e = .returned (.tuple #[slv oa res.2.1.out.length oc, .int .i64 res.2.2]) ∧ StoreAt B w0 w' p L' res.1 (star (sli 3 oa oc res.2.1.out) F)
section
variable {B : Nat} {w0 w : World} {r p : Nat} {RL : RLay} {L : SLay} {R : RM} {S : SM} {F : HP}
theorem RunAt.done (h : RunAt B w0 w r p RL L R S F) : StoreAt B w0 w p L S (star (sli 3 RL.oa RL.oc R.out) F) :=
  ⟨(h.st.conseq (show _ = star (star (storeHP p L S) (star (sli 3 RL.oa RL.oc R.out) F)) (star (pt r 64 (runCells p RL R)) (sli 3 (some RL.vb) RL.vc R.value)) by unfold runHP; ac_rfl)).drop, h.ws⟩
theorem RunAt.post (h : RunAt B w0 w r p RL L R S F) {res : SM × RM × Int} {n : Int} (e : res = (S, R, n)) : FollowAllPost B w0 p F res (.returned (.tuple #[slv RL.oa R.out.length RL.oc, .int .i64 n])) w := by
  subst e
  exact ⟨RL.oa, RL.oc, L, rfl, h.done⟩
theorem RunAt.made {vb : Nat} (h : StoreAt B w0 w p L S (star (sl (some vb) nVals nVals 3 1 (List.replicate nVals (.int .i64 0))) F)) (t : TypeId) (ht : t = 64) :
    RunAt B w0 (w.alloc (.cells #[.pointer (some ⟨p, 0, none⟩), .slice none 0 0, .slice (some ⟨vb, 0, none⟩) nVals nVals, .int .i64 0] t)) w.heap.size p ⟨none, 0, vb, nVals⟩ L RM.start S F := by
  subst ht
  refine ⟨(h.st.pt_new _ _).conseq ?_, h.ws⟩
  unfold runHP sli
  rw [replicate_ints]
  have e1 : runCells p ⟨none, 0, vb, nVals⟩ RM.start = #[.pointer (some ⟨p, 0, none⟩), .slice none 0 0, .slice (some ⟨vb, 0, none⟩) nVals nVals, .int .i64 0].toList := by
    simp only [runCells, RM.start, slv, zeros_length]; rfl
  have e2 : sl none RM.start.out.length 0 3 1 (ints RM.start.out) = emp := sli_nil _
  have e3 : RM.start.value = zeros nVals := rfl
  rw [e1, e2, e3, zeros_length]
  simp only [emp_star]
  ac_rfl
theorem begin_inv (fuel : Nat) (S : SM) (R : RM) (res : SM × RM × Option Nat) (hS : S.Inv) (hR : R.Inv) (h : beginF fuel S R = some res) : res.1.Inv ∧ res.2.1.Inv := by
  unfold beginF at h
  have h1 := beginScan_inv hS S.shortN R (fun i hi => (SM.shortN_mem.1 hi).1) hR
  split at h
  · rename_i R' b e
    rw [e] at h1
    simp only [Option.some.injEq] at h
    rw [← h]
    exact ⟨hS, h1⟩
  · rename_i R' e
    rw [e] at h1
    exact followF_inv fuel S R' res hS h1 h
theorem RunAt.rest (h : RunAt B w0 w r p RL L R S F) : St B w0 w F := (h.st.conseq (show _ = star F (star (runHP r p RL R) (storeHP p L S)) by ac_rfl)).drop
set_option maxRecDepth 100000 in
set_option maxHeartbeats 4000000 in
theorem Follow_any (fuel : Nat) (res : SM × RM × Int) (A : Option Addr) (n c : Nat) (lits : List Int) (hrd : ∀ w', St B w0 w' F → Rd w' A n lits) (hnb : n ≤ 1000000) (h : StoreAt B w0 w p L S F) (hS : S.Inv) (hf : followAll fuel S lits = some res) :
    Calls Try.prog 23 #[.pointer (some ⟨p, 0, none⟩), .slice A n c] w (FollowAllPost B w0 p F res) := by
  have H := Lib.hid h
  have HS := Lib.hid hS
  have HRD := Lib.hid hrd
  clear h hS hrd
  unfold followAll at hf
  cases hb : beginF fuel S RM.start with
  | none => rw [hb] at hf; cases hf
  | some res1 =>
  obtain ⟨S1, R1, b1⟩ := res1
  rw [hb] at hf
  have HB := Lib.hid hb
  cases b1 with
  | some b =>
    replace hf : some (S1, R1, (b : Int)) = some res := hf
    have HF := Lib.hid hf
    clear hf hb
    have hb0 : (0 : Int) ≤ (b : Int) := by omega
    go_enter Try.func23, Try.ntmps23
    go_wp2_with (first
      | (refine wpList_make rfl _ _ 27 3 (.int .i64 0) 8 rfl Try.underlying27 Try.infoInt rfl nVals 65537 rfl rfl rfl (by decide) (by decide) (by decide) H.out.st ?_; intro vb w1 h1; have h2 := RunAt.made (L := L) (S := S) (F := F) ⟨h1.conseq (by ac_rfl), H.out.ws⟩ 64 rfl)
      | (go_at_call 36; refine (begin_any fuel _ h2 HS.out RM.start_inv HB.out).mono ?_; rintro e w2 ⟨rfl, RL2, L2, h3⟩; have H3 := Lib.hid h3; clear h1 h2 h3; have c1 : w2.cell? _ = some (slv RL2.oa R1.out.length RL2.oc) := H3.out.tpt.pt_cell 1))
    go_ret2
    have h9 := HF.out
    simp only [Option.some.injEq] at h9
    exact H3.out.post h9.symm
  | none =>
    replace hf : litsF fuel S1 R1 lits = some res := hf
    have hi1 := begin_inv fuel S RM.start _ HS.out RM.start_inv hb
    have HF := Lib.hid hf
    have HI1 := Lib.hid hi1
    clear hf hb hi1
    go_enter Try.func23, Try.ntmps23
    go_wp2_with (first
      | (refine wpList_make rfl _ _ 27 3 (.int .i64 0) 8 rfl Try.underlying27 Try.infoInt rfl nVals 65537 rfl rfl rfl (by decide) (by decide) (by decide) H.out.st ?_; intro vb w1 h1; have h2 := RunAt.made (L := L) (S := S) (F := F) ⟨h1.conseq (by ac_rfl), H.out.ws⟩ 64 rfl)
      | (go_at_call 36; refine (begin_any fuel _ h2 HS.out RM.start_inv HB.out).mono ?_; rintro e w2 ⟨rfl, RL2, L2, h3⟩; have H3 := Lib.hid h3; clear h1 h2 h3; have c1 : w2.cell? _ = some (slv RL2.oa R1.out.length RL2.oc) := H3.out.tpt.pt_cell 1))
    clear c1
    go_loopw [26] (fun v wr => ∃ (j : Nat) (S2 : SM) (R2 : RM) (RL2 : RLay) (L2 : SLay), j ≤ n ∧ v = .int .i64 j ∧ Hid (S2.Inv) ∧ Hid (R2.Inv) ∧ Hid (RunAt B w0 wr w1.heap.size p RL2 L2 R2 S2 F) ∧ Hid (litsF fuel S2 R2 (lits.drop j) = some res)) (fun v _ => n - (intOf v).toNat)
    case atStart => exact ⟨0, S1, R1, RL2, L2, Nat.zero_le _, rfl, HI1.out.1, HI1.out.2, H3.out, HF.out⟩
    case round =>
      obtain ⟨j, S2, R2, RL3, L3, hj, rfl, HS2, HR2, H4, HL⟩ := hrel
      by_cases hjn : j < n
      · obtain ⟨ab, ao, rfl, hc⟩ := (HRD.out wr H4.out.rest).cells (by omega)
        have d1 := hc j hjn
        clear hc
        obtain ⟨x, hx⟩ : ∃ x, gi lits j = x := ⟨_, rfl⟩
        rw [hx] at d1
        have hlen := (HRD.out wr H4.out.rest).len
        have hdr : lits.drop j = x :: lits.drop (j + 1) := by
          rw [List.drop_eq_getElem_cons (by omega), ← hx]
          simp [gi, List.getD_eq_getElem?_getD, show j < lits.length by omega]
        have hL := HL.out
        rw [hdr, litsF] at hL
        have hlt := lit_any x wr
        obtain ⟨lb, hlb⟩ : ∃ lb, litB x = lb := ⟨_, rfl⟩
        rw [hlb] at hlt
        have HLT := Lib.hid hlt
        have HLB := Lib.hid hlb
        have c1 : wr.cell? _ = some (slv RL3.oa R2.out.length RL3.oc) := H4.out.tpt.pt_cell 1
        clear hx hlen hdr hlt hlb
        cases lb with
        | false =>
          rw [if_pos (Or.inl HLB.out)] at hL
          have HLL := Lib.hid hL
          clear hL
          go_wp2_with (go_at_call 37; refine (HLT.out).mono ?_; rintro e w2 ⟨rfl, rfl⟩)
          go_ret2
          have h9 := HLL.out
          simp only [Option.some.injEq] at h9
          exact H4.out.post h9.symm
        | true =>
        obtain ⟨_, hx2, hx3⟩ := litB_iff.1 HLB.out
        obtain ⟨v, hv⟩ : ∃ v, R2.is x = v := ⟨_, rfl⟩
        have his := is_any x H4.out HR2.out.ok hx2 hx3
        rw [hv] at his hL
        have HIS := Lib.hid his
        have HV := Lib.hid hv
        clear his hv
        by_cases hv0 : v < 0
        · rw [if_pos (Or.inr hv0)] at hL
          have HLL := Lib.hid hL
          clear hL
          go_wp2_with (first | (go_at_call 37; refine (HLT.out).mono ?_; rintro e w2 ⟨rfl, rfl⟩) | (go_at_call 38; refine (HIS.out).mono ?_; rintro e w2 ⟨rfl, rfl⟩))
          go_ret2
          have h9 := HLL.out
          simp only [Option.some.injEq] at h9
          exact H4.out.post h9.symm
        · rw [if_neg (by rw [HLB.out]; simp; omega)] at hL
          by_cases hv1 : 0 < v
          · rw [if_pos hv1] at hL
            have HLL := Lib.hid hL
            clear hL c1
            go_wp2_with (first | (go_at_call 37; refine (HLT.out).mono ?_; rintro e w2 ⟨rfl, rfl⟩) | (go_at_call 38; refine (HIS.out).mono ?_; rintro e w2 ⟨rfl, rfl⟩))
            go_roundw
            case rel => exact ⟨j + 1, S2, R2, RL3, L3, by omega, by go_num, HS2.out, HR2.out, H4.out, HLL.out⟩
            case measure => simp [intOf]; omega
          · obtain rfl : v = 0 := by omega
            rw [if_neg hv1] at hL
            have hroom := HR2.out.room
            have hset := set_run_any x H4.out HR2.out.ok hx2 hx3 (by omega)
            have HST := Lib.hid hset
            have hinv := HR2.out.set HLB.out HV.out
            have HINV := Lib.hid hinv
            cases hfo : followF fuel S2 (R2.set x) with
            | none => rw [hfo] at hL; cases hL
            | some res3 =>
              obtain ⟨S3, R3, b3⟩ := res3
              rw [hfo] at hL
              have hi3 := followF_inv fuel S2 (R2.set x) _ HS2.out HINV.out hfo
              have HI3 := Lib.hid hi3
              have HFO := Lib.hid hfo
              clear hroom hset hinv hfo hi3 c1
              cases b3 with
              | some b =>
                replace hL : some (S3, R3, (b : Int)) = some res := hL
                have HLL := Lib.hid hL
                clear hL
                have hb0 : (0 : Int) ≤ (b : Int) := by omega
                go_wp2_with (first
                  | (go_at_call 37; refine (HLT.out).mono ?_; rintro e w2 ⟨rfl, rfl⟩) | (go_at_call 38; refine (HIS.out).mono ?_; rintro e w2 ⟨rfl, rfl⟩)
                  | (go_at_call 39; refine (HST.out).mono ?_; rintro e w3 ⟨rfl, RL4, h5⟩; have H5 := Lib.hid h5; clear h5)
                  | (go_at_call 40; refine (follow_any fuel _ H5.out HS2.out HINV.out HFO.out).mono ?_; rintro e w4 ⟨rfl, RL5, L5, h6⟩; have H6 := Lib.hid h6; have c1 : w4.cell? _ = some (slv RL5.oa R3.out.length RL5.oc) := H6.out.tpt.pt_cell 1; clear h6))
                go_ret2
                have h9 := HLL.out
                simp only [Option.some.injEq] at h9
                exact H6.out.post h9.symm
              | none =>
                replace hL : litsF fuel S3 R3 (lits.drop (j + 1)) = some res := hL
                have HLL := Lib.hid hL
                clear hL
                go_wp2_with (first
                  | (go_at_call 37; refine (HLT.out).mono ?_; rintro e w2 ⟨rfl, rfl⟩) | (go_at_call 38; refine (HIS.out).mono ?_; rintro e w2 ⟨rfl, rfl⟩)
                  | (go_at_call 39; refine (HST.out).mono ?_; rintro e w3 ⟨rfl, RL4, h5⟩; have H5 := Lib.hid h5; clear h5)
                  | (go_at_call 40; refine (follow_any fuel _ H5.out HS2.out HINV.out HFO.out).mono ?_; rintro e w4 ⟨rfl, RL5, L5, h6⟩; have H6 := Lib.hid h6; clear h6))
                go_roundw
                case rel => exact ⟨j + 1, S3, R3, RL5, L5, by omega, by go_num, HI3.out.1, HI3.out.2, H6.out, HLL.out⟩
                case measure => simp [intOf]; omega
      · obtain rfl : j = n := by omega
        have hlen := (HRD.out wr H4.out.rest).len
        have hL := HL.out
        rw [List.drop_of_length_le (by omega), litsF] at hL
        have HLL := Lib.hid hL
        have c1 : wr.cell? _ = some (slv RL3.oa R2.out.length RL3.oc) := H4.out.tpt.pt_cell 1
        clear hlen hL
        go_wp2
        go_ret2
        have h9 := HLL.out
        simp only [Option.some.injEq] at h9
        exact H4.out.post h9.symm
end
end Go.Proofs.Ytmljcbdlkeooiaa
