/-
  The contracts of slices.Equal and of the store's Has.
-/
import Derived.Test.YtmljcbdlkeooiaaSort2
namespace Go.Proofs.Ytmljcbdlkeooiaa
open Go.RowKit Go.Proofs.PlaitSep Go.Proofs.PlaitPure

set_option maxHeartbeats 400000 in
theorem equal_any (A A' : Option Addr) (n cap m cap' : Nat) (xs ys : List Int) (w : World) (hr : Rd w A n xs) (hr' : Rd w A' m ys) :
    Calls Try.prog 34 #[.slice A n cap, .slice A' m cap'] w fun e w' => e = .returned (.bool (eqB xs ys)) ∧ Drawn w w' := by
  have hs := hr.small
  have hs' := hr'.small
  by_cases hnm : n = m
  · subst hnm
    go_enter Try.func34, Try.ntmps34
    go_wp2
    go_loopw [13] (fun i wr => ∃ k : Nat, k ≤ n ∧ i = .int .i64 k ∧ xs.take k = ys.take k ∧ Drawn w wr) (fun i _ => n - (intOf i).toNat)
    case atStart => exact ⟨0, Nat.zero_le _, rfl, by simp, Drawn.refl w⟩
    case round =>
      obtain ⟨k, hk, rfl, hx, hD⟩ := hrel
      by_cases hlt : k < n
      · obtain ⟨b, o, rfl, hc⟩ := (hr.drawn hD).cells (by omega)
        obtain ⟨b', o', rfl, hc'⟩ := (hr'.drawn hD).cells (by omega)
        have hck := hc k hlt
        have hck' := hc' k hlt
        have h0 : (0 : Int) ≤ (k : Int) := by omega
        have h1 : (k : Int) < (n : Int) := by omega
        have HX := Lib.hid hx
        clear hc hc' hx
        cases hd : gi xs k != gi ys k
        all_goals
          go_wp2
          go_quiet (fail)
          go_wp2
        · go_roundw
          case rel => exact ⟨k + 1, by omega, by go_num, by rw [take_gi xs k (by have := hr.len; omega), take_gi ys k (by have := hr'.len; omega), HX.out, (by simpa using hd : gi xs k = gi ys k)], hD.step _⟩
          case measure => simp [intOf]; omega
        · go_ret
          exact ⟨ret_bool (eqB_ne (k := k) (by have := hr.len; omega) (by rw [hr.len, hr'.len]) (by simpa using hd)).symm, hD.step _⟩
      · have HX := Lib.hid hx
        clear hx
        go_wp2
        go_ret
        refine ⟨ret_bool (eqB_yes (by rw [hr.len, hr'.len]) ?_).symm, hD⟩
        have := HX.out
        rw [hr.len, show n = k by omega]
        exact this
  · have hd : ((n : Int) != (m : Int)) = true := by simp; omega
    go_enter Try.func34, Try.ntmps34
    go_wp2
    go_ret
    exact ⟨ret_bool (eqB_len (by rw [hr.len, hr'.len]; exact hnm)).symm, Drawn.refl w⟩
def wantF (xs : List Int) : List Int := Lib.compact (sorted xs)
def hasF (S : SM) (xs : List Int) : Bool := S.cls.any fun c => eqB (sorted c.lits) (wantF xs)
theorem hasF_yes {S : SM} {xs : List Int} {i : Nat} (hi : i < S.cls.length) (h : eqB (sorted (S.cl i).lits) (wantF xs) = true) : hasF S xs = true := by
  unfold hasF
  rw [List.any_eq_true]
  rw [S.cl_eq hi] at h
  exact ⟨_, List.getElem_mem hi, h⟩
theorem hasF_no {S : SM} {xs : List Int} (h : ∀ i, i < S.cls.length → eqB (sorted (S.cl i).lits) (wantF xs) = false) : hasF S xs = false := by
  cases e : hasF S xs with
  | false => rfl
  | true =>
    unfold hasF at e
    rw [List.any_eq_true] at e
    obtain ⟨c, hc, hh⟩ := e
    obtain ⟨i, hi, rfl⟩ := List.getElem_of_mem hc
    have := h i hi
    rw [S.cl_eq hi, hh] at this
    cases this
theorem wantF_length (xs : List Int) : (wantF xs).length ≤ xs.length := by
  have := Lib.compact_length_le (sorted xs)
  rw [sorted_length] at this
  exact this
section
variable {B : Nat} {w0 w : World} {p : Nat} {L : SLay} {S : SM} {F : HP}
set_option maxRecDepth 100000 in
set_option maxHeartbeats 1000000 in
theorem Has_any (A : Option Addr) (n c : Nat) (xs : List Int) (h : StoreAt B w0 w p L S F) (hS : S.Inv) (hr : Rd w A n xs) (hn : n ≤ 1000000) :
    Calls Try.prog 19 #[.pointer (some ⟨p, 0, none⟩), .slice A n c] w fun e w' => e = .returned (.bool (hasF S xs)) ∧ StoreAt B w0 w' p L S F := by
  have hsx : (sorted xs).length ≤ 1000000 := by rw [sorted_length, hr.len]; exact hn
  have hwx := wantF_length xs
  have hso := sorted_any A n c xs w hr hn
  have HSO := Lib.hid hso
  have hwl : (wantF xs).length ≤ 1000000 := by rw [hr.len] at hwx; omega
  obtain ⟨wl, hwle⟩ : ∃ wl, (wantF xs).length = wl := ⟨_, rfl⟩
  rw [hwle] at hwl
  have HWL := Lib.hid hwle
  obtain ⟨k, hk⟩ : ∃ k, S.cls.length = k := ⟨_, rfl⟩
  have HK := Lib.hid hk
  have hkb : k ≤ 262144 := by rw [← hk]; exact hS.refs
  have H := Lib.hid h
  have HS := Lib.hid hS
  have HSX := Lib.hid hsx
  clear h hS hr hwx hso hwle hsx hk
  go_enter Try.func19, Try.ntmps19
  go_wp2_with (first
    | (go_at_call 32; refine (values_any A n c w).mono ?_; rintro e w1 ⟨rfl, rfl⟩)
    | (go_at_call 31; refine (HSO.out).mono ?_; rintro e w2 ⟨a, c', rfl, h2⟩)
    | (go_at_call 30; refine (Compact_any a c' (sorted xs) (h2.conseq (star_emp _).symm) HSX.out).mono ?_; rintro e w3 ⟨rfl, h3⟩; have h4 : StoreAt B w0 w3 p L S (star (sli 3 a c' (wantF xs)) F) := ⟨(H.out.st.nest (h3.conseq (star_emp _))).conseq (by ac_rfl), H.out.ws⟩; have H4 := Lib.hid h4; have c2 : w3.cell? ⟨p, 2, none⟩ = some (.slice (L.bv.map fun b => ⟨b, 0, none⟩) k L.bc) := (h4.tpt.pt_cell 2).trans (congrArg (fun (z : Nat) => some (Value.slice (L.bv.map fun b => ⟨b, 0, none⟩) z L.bc)) HK.out); clear h2 h3 h4; rw [show (Lib.compact (sorted xs)).length = wl from HWL.out]; unfold slv))
  clear c2
  go_loopw [17] (fun v wr => ∃ (j : Nat), j ≤ k ∧ v = .int .i64 j ∧ Hid (∀ i, i < j → eqB (sorted (S.cl i).lits) (wantF xs) = false) ∧ Hid (StoreAt B w0 wr p L S (star (sli 3 a c' (wantF xs)) F))) (fun v _ => k - (intOf v).toNat)
  case atStart => exact ⟨0, Nat.zero_le _, rfl, (fun i hi => absurd hi (Nat.not_lt_zero i) : ∀ i, i < 0 → _), H4.out⟩
  case round =>
    obtain ⟨j, hj, rfl, HNO, H1⟩ := hrel
    by_cases hjk : j < k
    · have hjc : j < S.cls.length := by rw [HK.out]; exact hjk
      have hw : S.words.length ≤ 262144 := Nat.le_trans HS.out.words HS.out.most
      have hcl := clause_any j H1.out hjc hw
      obtain ⟨bg, hbg⟩ : ∃ bg, S.begin j = bg := ⟨_, rfl⟩
      obtain ⟨lits, hli⟩ : ∃ lits, (S.cl j).lits = lits := ⟨_, rfl⟩
      obtain ⟨ln, hln⟩ : ∃ ln, lits.length = ln := ⟨_, rfl⟩
      have hle := S.begin_le hjc
      rw [hbg, hli, hln] at hcl hle
      have hlnb : ln ≤ 1000000 := by omega
      have hrd : ∀ (w' : World), Drawn wr w' → ∀ wb, L.wv = some wb → Rd w' (some ⟨wb, bg + 2, none⟩) ln lits := fun w' hd wb hwb => ⟨hln, by omega, fun _ => ⟨wb, bg + 2, rfl, fun i hi => by
        have := ((H1.out.drawn hd).word_at hjc hwb hbg hli hln).2.2 i hi
        rw [show bg + (2 + i) = bg + 2 + i by omega] at this
        exact this⟩⟩
      have hnx : eqB (sorted lits) (wantF xs) = false → ∀ i, i < j + 1 → eqB (sorted (S.cl i).lits) (wantF xs) = false := by
        intro he i hi
        by_cases e : i = j
        · subst e; rw [hli]; exact he
        · exact HNO.out i (by omega)
      obtain ⟨eqv, heq⟩ : ∃ eqv, eqB (sorted lits) (wantF xs) = eqv := ⟨_, rfl⟩
      have HEQ := Lib.hid heq
      have HNX := Lib.hid hnx
      have HCL := Lib.hid hcl
      have HRD := Lib.hid hrd
      have HLN := Lib.hid hln
      have HLI := Lib.hid hli
      clear hcl hrd hbg hln hli hjc hw heq hnx
      by_cases hz : ln = 0
      · subst hz
        by_cases hlw : 0 = wl
        · subst hlw
          cases eqv with
          | true =>
            go_wp2_with (first
            | (go_at_call 33; refine (HCL.out).mono ?_; rintro e w4 ⟨⟨wb, hwb, rfl⟩, hD⟩; have h5 := H1.out.drawn hD; have H5 := Lib.hid h5; clear h5; have hr5 : Rd w4 (some ⟨wb, bg, none⟩) 0 lits := ⟨HLN.out, by omega, fun h => absurd h (by omega)⟩; have HR5 := Lib.hid hr5; clear hr5)
            | (go_at_call 32; refine (values_any (some ⟨wb, bg, none⟩) 0 0 w4).mono ?_; rintro e w5 ⟨rfl, rfl⟩)
            | (go_at_call 31; refine (sorted_any (some ⟨wb, bg, none⟩) 0 0 lits w4 HR5.out (by omega)).mono ?_; rintro e w6 ⟨a2, c2, rfl, h6⟩; have h7 : StoreAt B w0 w6 p L S (star (sli 3 a2 c2 (sorted lits)) (star (sli 3 a c' (wantF xs)) F)) := ⟨(H5.out.st.nest h6).conseq (by ac_rfl), H5.out.ws⟩; have H7 := Lib.hid h7; have r1 : Rd w6 (a2.map fun b => ⟨b, 0, none⟩) (sorted lits).length (sorted lits) := St.rd (h7.st.conseq (show _ = star (sli 3 a2 c2 (sorted lits)) (star (storeHP p L S) (star (sli 3 a c' (wantF xs)) F)) by ac_rfl)) (by rw [sorted_length]; have := HLN.out; omega); have r2 : Rd w6 (a.map fun b => ⟨b, 0, none⟩) 0 (wantF xs) := HWL.out ▸ St.rd (h7.st.conseq (show _ = star (sli 3 a c' (wantF xs)) (star (storeHP p L S) (star (sli 3 a2 c2 (sorted lits)) F)) by ac_rfl)) (by have := HWL.out; omega); have R1 := Lib.hid r1; have R2 := Lib.hid r2; clear h6 h7 r1 r2; unfold slv)
            | (go_at_call 34; refine (equal_any _ _ _ c2 _ c' (sorted lits) (wantF xs) w6 R1.out R2.out).mono ?_; rintro e w7 ⟨rfl, hD7⟩; rw [HEQ.out]))
            go_ret
            refine ⟨ret_bool (hasF_yes (i := j) (by rw [HK.out]; exact hjk) (by rw [HLI.out]; exact HEQ.out)).symm, ?_⟩
            exact (H7.out.drawn hD7).dropG.dropG
          | false =>
            go_wp2_with (first
            | (go_at_call 33; refine (HCL.out).mono ?_; rintro e w4 ⟨⟨wb, hwb, rfl⟩, hD⟩; have h5 := H1.out.drawn hD; have H5 := Lib.hid h5; clear h5; have hr5 : Rd w4 (some ⟨wb, bg, none⟩) 0 lits := ⟨HLN.out, by omega, fun h => absurd h (by omega)⟩; have HR5 := Lib.hid hr5; clear hr5)
            | (go_at_call 32; refine (values_any (some ⟨wb, bg, none⟩) 0 0 w4).mono ?_; rintro e w5 ⟨rfl, rfl⟩)
            | (go_at_call 31; refine (sorted_any (some ⟨wb, bg, none⟩) 0 0 lits w4 HR5.out (by omega)).mono ?_; rintro e w6 ⟨a2, c2, rfl, h6⟩; have h7 : StoreAt B w0 w6 p L S (star (sli 3 a2 c2 (sorted lits)) (star (sli 3 a c' (wantF xs)) F)) := ⟨(H5.out.st.nest h6).conseq (by ac_rfl), H5.out.ws⟩; have H7 := Lib.hid h7; have r1 : Rd w6 (a2.map fun b => ⟨b, 0, none⟩) (sorted lits).length (sorted lits) := St.rd (h7.st.conseq (show _ = star (sli 3 a2 c2 (sorted lits)) (star (storeHP p L S) (star (sli 3 a c' (wantF xs)) F)) by ac_rfl)) (by rw [sorted_length]; have := HLN.out; omega); have r2 : Rd w6 (a.map fun b => ⟨b, 0, none⟩) 0 (wantF xs) := HWL.out ▸ St.rd (h7.st.conseq (show _ = star (sli 3 a c' (wantF xs)) (star (storeHP p L S) (star (sli 3 a2 c2 (sorted lits)) F)) by ac_rfl)) (by have := HWL.out; omega); have R1 := Lib.hid r1; have R2 := Lib.hid r2; clear h6 h7 r1 r2; unfold slv)
            | (go_at_call 34; refine (equal_any _ _ _ c2 _ c' (sorted lits) (wantF xs) w6 R1.out R2.out).mono ?_; rintro e w7 ⟨rfl, hD7⟩; rw [HEQ.out]))
            go_roundw
            case rel => exact ⟨j + 1, by omega, by go_num, HNX.out HEQ.out, (H7.out.drawn hD7).dropG⟩
            case measure => simp [intOf]; omega
        · have hlw' : ((0 : Int) == (wl : Int)) = false := by simp; omega
          have hef : eqB (sorted lits) (wantF xs) = false := eqB_len (by rw [sorted_length, HLN.out, HWL.out]; exact hlw)
          have HEF := Lib.hid hef
          clear hef
          go_wp2_with (first
            | (go_at_call 33; refine (HCL.out).mono ?_; rintro e w4 ⟨⟨wb, hwb, rfl⟩, hD⟩; have h5 := H1.out.drawn hD; have H5 := Lib.hid h5; clear h5; have hr5 : Rd w4 (some ⟨wb, bg, none⟩) 0 lits := ⟨HLN.out, by omega, fun h => absurd h (by omega)⟩; have HR5 := Lib.hid hr5; clear hr5))
          go_roundw
          case rel => exact ⟨j + 1, by omega, by go_num, HNX.out HEF.out, H5.out⟩
          case measure => simp [intOf]; omega
      · clear H
        by_cases hlw : ln = wl
        · subst hlw
          cases eqv with
          | true =>
            go_wp2_with (first
            | (go_at_call 33; refine (HCL.out).mono ?_; rintro e w4 ⟨⟨wb, hwb, rfl⟩, hD⟩; have h5 := H1.out.drawn hD; have H5 := Lib.hid h5; clear h5; have hr5 := HRD.out _ hD _ hwb; have HR5 := Lib.hid hr5; clear hr5)
            | (go_at_call 32; refine (values_any (some ⟨wb, bg + 2, none⟩) ln ln w4).mono ?_; rintro e w5 ⟨rfl, rfl⟩)
            | (go_at_call 31; refine (sorted_any (some ⟨wb, bg + 2, none⟩) ln ln lits w4 HR5.out (by omega)).mono ?_; rintro e w6 ⟨a2, c2, rfl, h6⟩; have h7 : StoreAt B w0 w6 p L S (star (sli 3 a2 c2 (sorted lits)) (star (sli 3 a c' (wantF xs)) F)) := ⟨(H5.out.st.nest h6).conseq (by ac_rfl), H5.out.ws⟩; have H7 := Lib.hid h7; have r1 : Rd w6 (a2.map fun b => ⟨b, 0, none⟩) (sorted lits).length (sorted lits) := St.rd (h7.st.conseq (show _ = star (sli 3 a2 c2 (sorted lits)) (star (storeHP p L S) (star (sli 3 a c' (wantF xs)) F)) by ac_rfl)) (by rw [sorted_length]; have := HLN.out; omega); have r2 : Rd w6 (a.map fun b => ⟨b, 0, none⟩) ln (wantF xs) := HWL.out ▸ St.rd (h7.st.conseq (show _ = star (sli 3 a c' (wantF xs)) (star (storeHP p L S) (star (sli 3 a2 c2 (sorted lits)) F)) by ac_rfl)) (by have := HWL.out; omega); have R1 := Lib.hid r1; have R2 := Lib.hid r2; clear h6 h7 r1 r2; unfold slv)
            | (go_at_call 34; refine (equal_any _ _ _ c2 _ c' (sorted lits) (wantF xs) w6 R1.out R2.out).mono ?_; rintro e w7 ⟨rfl, hD7⟩; rw [HEQ.out]))
            go_ret
            refine ⟨ret_bool (hasF_yes (i := j) (by rw [HK.out]; exact hjk) (by rw [HLI.out]; exact HEQ.out)).symm, ?_⟩
            exact (H7.out.drawn hD7).dropG.dropG
          | false =>
            go_wp2_with (first
            | (go_at_call 33; refine (HCL.out).mono ?_; rintro e w4 ⟨⟨wb, hwb, rfl⟩, hD⟩; have h5 := H1.out.drawn hD; have H5 := Lib.hid h5; clear h5; have hr5 := HRD.out _ hD _ hwb; have HR5 := Lib.hid hr5; clear hr5)
            | (go_at_call 32; refine (values_any (some ⟨wb, bg + 2, none⟩) ln ln w4).mono ?_; rintro e w5 ⟨rfl, rfl⟩)
            | (go_at_call 31; refine (sorted_any (some ⟨wb, bg + 2, none⟩) ln ln lits w4 HR5.out (by omega)).mono ?_; rintro e w6 ⟨a2, c2, rfl, h6⟩; have h7 : StoreAt B w0 w6 p L S (star (sli 3 a2 c2 (sorted lits)) (star (sli 3 a c' (wantF xs)) F)) := ⟨(H5.out.st.nest h6).conseq (by ac_rfl), H5.out.ws⟩; have H7 := Lib.hid h7; have r1 : Rd w6 (a2.map fun b => ⟨b, 0, none⟩) (sorted lits).length (sorted lits) := St.rd (h7.st.conseq (show _ = star (sli 3 a2 c2 (sorted lits)) (star (storeHP p L S) (star (sli 3 a c' (wantF xs)) F)) by ac_rfl)) (by rw [sorted_length]; have := HLN.out; omega); have r2 : Rd w6 (a.map fun b => ⟨b, 0, none⟩) ln (wantF xs) := HWL.out ▸ St.rd (h7.st.conseq (show _ = star (sli 3 a c' (wantF xs)) (star (storeHP p L S) (star (sli 3 a2 c2 (sorted lits)) F)) by ac_rfl)) (by have := HWL.out; omega); have R1 := Lib.hid r1; have R2 := Lib.hid r2; clear h6 h7 r1 r2; unfold slv)
            | (go_at_call 34; refine (equal_any _ _ _ c2 _ c' (sorted lits) (wantF xs) w6 R1.out R2.out).mono ?_; rintro e w7 ⟨rfl, hD7⟩; rw [HEQ.out]))
            go_roundw
            case rel => exact ⟨j + 1, by omega, by go_num, HNX.out HEQ.out, (H7.out.drawn hD7).dropG⟩
            case measure => simp [intOf]; omega
        · have hlw' : ((ln : Int) == (wl : Int)) = false := by simp; omega
          have hef : eqB (sorted lits) (wantF xs) = false := eqB_len (by rw [sorted_length, HLN.out, HWL.out]; exact hlw)
          have HEF := Lib.hid hef
          clear hef
          go_wp2_with (first
            | (go_at_call 33; refine (HCL.out).mono ?_; rintro e w4 ⟨⟨wb, hwb, rfl⟩, hD⟩; have h5 := H1.out.drawn hD; have H5 := Lib.hid h5; clear h5; have hr5 := HRD.out _ hD _ hwb; have HR5 := Lib.hid hr5; clear hr5))
          go_roundw
          case rel => exact ⟨j + 1, by omega, by go_num, HNX.out HEF.out, H5.out⟩
          case measure => simp [intOf]; omega
    · obtain rfl : j = k := by omega
      go_wp2
      go_ret
      exact ⟨ret_bool (hasF_no (fun i hi => HNO.out i (by rw [← HK.out]; exact hi))).symm, H1.out.dropG⟩
end
end Go.Proofs.Ytmljcbdlkeooiaa
