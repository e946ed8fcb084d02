/-
  The contract of trace's step.
-/
import Derived.Test.YtodmkcolamppmaaDer4
namespace Go.Proofs.Ytodmkcolamppmaa
open Go.RowKit Go.Proofs.PlaitSep Go.Proofs.PlaitPure

theorem clauseF_len {G D : List (List Int)} {q : Int} {c : List Int} (hG : ∀ g ∈ G, g.length ≤ 1000000) (hD : ∀ d ∈ D, d.length ≤ 1000000) (h : clauseF G D q = some c) : c.length ≤ 1000000 := by
  unfold clauseF at h
  split at h
  · cases h
  · split at h
    · have := setF_len h
      have := hG (gl G q.toNat) (by rw [gl_eq G _ (by omega)]; exact List.getElem_mem _)
      omega
    · cases h
      exact hD _ (by rw [gl_eq D _ (by omega)]; exact List.getElem_mem _)
theorem resF_len {c d e : List Int} (h : resF c d = some e) : e.length ≤ c.length + d.length := by
  unfold resF at h
  split at h
  · have h1 := setF_len h
    unfold resA at h1
    rw [List.length_append] at h1
    rename_i x _
    have h2 := List.length_filter_le (fun y => y != x) c
    have h3 := List.length_filter_le (fun y => y != -x) d
    omega
  · cases h
theorem Rd.from1 {w : World} {b o n : Nat} {xs : List Int} (h : Rd w (some ⟨b, o, none⟩) n xs) : Rd w (some ⟨b, o + 1, none⟩) (n - 1) (xs.drop 1) := by
  have hl := h.len
  refine ⟨by rw [List.length_drop]; omega, by have := h.small; omega, fun hp => ⟨b, o + 1, rfl, fun j hj => ?_⟩⟩
  obtain ⟨b', o', e, hc⟩ := h.cells (by omega)
  obtain ⟨rfl, rfl⟩ : b = b' ∧ o = o' := by simpa using e
  have := hc (j + 1) (by omega)
  rw [show o + 1 + j = o + (j + 1) by omega, this]
  simp [gi, List.getD_eq_getElem?_getD]
set_option maxRecDepth 100000 in
set_option maxHeartbeats 4000000 in
theorem step_any (p : Nat) (AG : Option Addr) (nG cG : Nat) (AD : Option Addr) (nD cD : Nat) (G D : List (List Int)) (AS : Option Addr) (nS cS : Nat) (s : List Int) (w : World) (h : DerAt w p AG nG cG AD nD cD G D) (hG : nG ≤ 1000000) (hD : nD ≤ 1000000) (hGs : ∀ g ∈ G, g.length ≤ 1000000)
    (hDs : ∀ d ∈ D, d.length ≤ 1000000) (hset : ∀ d ∈ D, IsSet d) (hs : Rd w AS nS s) (hn : nS ≤ 100000) (hcap : nS ≤ cS) :
    Calls Try.prog 47 #[.pointer (some ⟨p, 0, none⟩), .agg #[.slice AS nS cS]] w (ClPost w (stepF G D s)) := by
  have HCL := Lib.hid (show ∀ V q, Below w.heap.size w V → Calls Try.prog 48 #[.pointer (some ⟨p, 0, none⟩), .int .i64 q] V (ClPost V (clauseF G D q)) from fun V q hV => clause_any p AG nG cG AD nD cD G D q V (h.grow hV) hG hD hGs)
  have HLEN := Lib.hid (show ∀ q c, clauseF G D q = some c → c.length ≤ 1000000 ∧ IsSet c from fun q c hc => ⟨clauseF_len hGs hDs hc, clauseF_set hset hc⟩)
  have HS := Lib.hid hs
  have hsl := hs.len
  have HSL := Lib.hid hsl
  have hb0 : Below w.heap.size w (w.alloc (.cells #[.slice AS nS cS] 57)) := (Below.refl _ _).alloc (Nat.le_refl _) _
  have HB0 := Lib.hid hb0
  have HST0 := Lib.hid ((St.start w).pt_new #[.slice AS nS cS] 57)
  clear h hGs hDs hset hs hsl hb0
  by_cases hn0 : nS = 0
  · subst hn0
    have hnil : s = [] := List.eq_nil_of_length_eq_zero HSL.out
    have hnone : stepF G D s = none := by rw [hnil, stepF]
    have HN := Lib.hid hnone
    clear hnil hnone
    go_enter Try.func47, Try.ntmps47
    go_wp2
    go_ret2
    exact clPost_none HB0.out HN.out
  obtain ⟨q, r, hqr⟩ : ∃ q r, s = q :: r := by
    match s, HSL.out with
    | q :: r, _ => exact ⟨q, r, rfl⟩
    | [], hl => simp at hl; omega
  have hstep : stepF G D s = match clauseF G D q with
      | none => none
      | some c => foldR G D c r := by rw [hqr]; rfl
  have HSTEP := Lib.hid hstep
  obtain ⟨bs, os, hA, hcell⟩ := HS.out.cells (by omega)
  subst hA
  have hd0 : w.cell? ⟨bs, os, none⟩ = some (.int .i64 q) := by
    have := hcell 0 (by omega)
    rw [Nat.add_zero] at this
    rw [this, hqr]
    rfl
  have hlt0 := World.block_lt_of_cell? w _ hd0
  have HD0 := Lib.hid (show ∀ V : World, Below w.heap.size w V → V.cell? ⟨bs, os, none⟩ = some (.int .i64 q) from fun V hb => (hb.cell hlt0).trans hd0)
  have hrlen : r.length = nS - 1 := by have := HSL.out; rw [hqr] at this; simp at this; omega
  have HRL := Lib.hid hrlen
  have hrd1 : ∀ V, Below w.heap.size w V → Rd V (some ⟨bs, os + 1, none⟩) (nS - 1) r := fun V hV => by
    have := Rd.from1 (HS.out.grow hV)
    rwa [hqr] at this
  have HRD1 := Lib.hid hrd1
  have n0 : (0 : Int) < (nS : Int) := by omega
  have e0 : ((nS : Int) == 0) = false := by simp; omega
  have d1 := HD0.out _ HB0.out
  clear hqr hstep hcell hd0 hlt0 hrlen hrd1
  go_enter Try.func47, Try.ntmps47
  go_wp2_with fail
  refine (HCL.out _ q HB0.out).mono ?_
  rintro e w2 ⟨hb2, hgood, hbad⟩
  have HB2 := Lib.hid (HB0.out.trans (hb2.mono (by simp)))
  have HST2 := Lib.hid (HST0.out.grow hb2)
  have HGOOD := Lib.hid hgood
  have HBAD := Lib.hid hbad
  have d2 : w2.cell? ⟨w.heap.size, 0, none⟩ = some (.slice (some ⟨bs, os, none⟩) nS cS) := by
    rw [St.pt_cell HST2.out 0]
    rfl
  clear hb2 hgood hbad d1
  cases hc : clauseF G D q with
  | none =>
    have he := HBAD.out hc
    subst he
    have HN := Lib.hid (show stepF G D s = none by rw [HSTEP.out, hc])
    clear hc
    go_wp2
    go_ret2
    exact clPost_none HB2.out HN.out
  | some c =>
    obtain ⟨A1, k1, rfl, hrd⟩ := HGOOD.out c hc
    obtain ⟨hclen, hcset⟩ := HLEN.out q c hc
    have HF := Lib.hid (show stepF G D s = foldR G D c r by rw [HSTEP.out, hc])
    have HRDC := Lib.hid hrd
    have HCS := Lib.hid hcset
    obtain ⟨cl, hcl⟩ : ∃ cl, c.length = cl := ⟨_, rfl⟩
    rw [hcl] at hclen ⊢
    have HCLN := Lib.hid hcl
    clear hc hrd hcset hcl HGOOD HBAD HSTEP
    by_cases hn1 : nS = 1
    · subst hn1
      have hr0 : r = [] := List.eq_nil_of_length_eq_zero (by rw [HRL.out])
      have hf : stepF G D s = some c := by rw [HF.out, hr0, foldR]
      have HF2 := Lib.hid hf
      clear hr0 hf
      go_wp2
      go_ret2
      refine ⟨HB2.out, fun c' hc' => ?_, fun hc' => (by rw [HF2.out] at hc'; cases hc')⟩
      rw [HF2.out] at hc'
      cases hc'
      exact ⟨A1, k1, by rw [HCLN.out]; rfl, HRDC.out⟩
    · have e1 : ((nS : Int) == 1) = false := by simp; omega
      have hmm := @run_makeMap Try.prog
      have hlt2 := World.block_lt_of_cell? w2 _ d2
      have HCELL := Lib.hid (show ∀ V, Below w2.heap.size w2 V → V.cell? ⟨w.heap.size, 0, none⟩ = some (.slice (some ⟨bs, os, none⟩) nS cS) from fun V hV => (hV.cell hlt2).trans d2)
      have HBV := Lib.hid (show ∀ V, Below w2.heap.size w2 V → Below w.heap.size w V from fun V hV => HB2.out.trans (hV.mono HST2.out.base))
      clear hlt2 HD0
      go_wp2
      go_loopw [41] (fun v41 wr => ∃ j : Nat, j ≤ cl ∧ v41 = .int .i64 j ∧ Hid (St w2.heap.size w2 wr (star (ms Try.prog 3 3 w2.heap.size j (c.take j)) emp))) (fun v41 _ => cl - (intOf v41).toNat)
      case atStart => exact ⟨0, Nat.zero_le _, rfl, (St.ms_new (St.start w2) : St w2.heap.size w2 _ (star (ms Try.prog 3 3 w2.heap.size 0 (c.take 0)) emp))⟩
      case round =>
        obtain ⟨j, hj, rfl, H⟩ := hrel
        by_cases hjn : j < cl
        · obtain ⟨bc, oc, hA, hcell⟩ := (HRDC.out.grow H.out.below).cells (by rw [HCLN.out]; omega)
          subst hA
          have d1 := hcell j (by rw [HCLN.out]; exact hjn)
          obtain ⟨x, hx⟩ : ∃ x, gi c j = x := ⟨_, rfl⟩
          rw [hx] at d1
          have hxok : okLit x = true := by rw [← hx, gi_eq c j (by rw [HCLN.out]; exact hjn)]; exact HCS.out.lits _ (List.getElem_mem _)
          have hwf := wf_lit hxok
          have htk : c.take (j + 1) = c.take j ++ [x] := by rw [take_gi c j (by rw [HCLN.out]; exact hjn), hx]
          have HTK := Lib.hid htk
          have j0 : (0 : Int) ≤ (j : Int) := by omega
          have j1 : (j : Int) < (cl : Int) := by omega
          clear hcell hx hxok htk
          go_wp2_with (refine wpList_ms_put rfl _ _ _ rfl H.out Try.keyedInt Try.underlying76 Try.underlying3 Try.underlying3 (by unfold maxLen; omega) x rfl rfl rfl hwf ?_; intro w3 h3 hg3; have H3 := Lib.hid h3; clear h3 hg3)
          go_roundw
          case rel => exact ⟨j + 1, by omega, by go_num, (by rw [HTK.out]; exact H3.out : St w2.heap.size w2 _ (star (ms Try.prog 3 3 w2.heap.size (j + 1) (c.take (j + 1))) emp))⟩
          case measure => simp [intOf]; omega
        · obtain rfl : j = cl := by omega
          have hms : St w2.heap.size w2 wr (star (ms Try.prog 3 3 w2.heap.size j c) emp) := by
            have := H.out
            rwa [List.take_of_length_le (by rw [HCLN.out]; exact Nat.le_refl _)] at this
          have d3 := HCELL.out wr H.out.below
          have HMS := Lib.hid hms
          have n1 : (1 : Int) ≤ (nS : Int) := by omega
          have n2 : (nS : Int) ≤ (cS : Int) := by omega
          have hM : ∃ M, nS = M + 1 := ⟨nS - 1, by omega⟩
          clear hms H
          go_wp2
          go_loopw [52] (fun v52 wr => ∃ i : Nat, i ≤ nS - 1 ∧ v52 = .int .i64 i ∧ ∃ (m : Nat) (cur : List Int), m ≤ (i + 1) * 1000000 ∧ cur.length ≤ (i + 1) * 1000000 ∧ Hid (St w2.heap.size w2 wr (star (ms Try.prog 3 3 w2.heap.size m cur) emp)) ∧
            Hid (IsSet cur) ∧ Hid (stepF G D s = foldR G D cur (r.drop i))) (fun v52 _ => (nS - 1) - (intOf v52).toNat)
          case atStart => exact ⟨0, Nat.zero_le _, rfl, j, c, by omega, by rw [HCLN.out]; omega, HMS.out, HCS.out, (HF.out : stepF G D s = foldR G D c (r.drop 0))⟩
          case round =>
            obtain ⟨i, hi, rfl, m, cur, hm, hcur, H, HC, HFR⟩ := hrel
            by_cases hin : i < nS - 1
            · obtain ⟨b9, o9, hA, hcell⟩ := (HRD1.out _ (HBV.out _ H.out.below)).cells (by omega)
              obtain ⟨rfl, rfl⟩ : bs = b9 ∧ os + 1 = o9 := by simpa using hA
              have d1 := hcell i hin
              have hil : i < r.length := by rw [HRL.out]; exact hin
              have hdrop : r.drop i = gi r i :: r.drop (i + 1) := by rw [List.drop_eq_getElem_cons hil, gi_eq r i hil]
              obtain ⟨x, hx⟩ : ∃ x, gi r i = x := ⟨_, rfl⟩
              rw [hx] at d1 hdrop
              have hfr : stepF G D s = foldR G D cur (x :: r.drop (i + 1)) := by rw [HFR.out, hdrop]
              have HFR2 := Lib.hid hfr
              have i0 : (0 : Int) ≤ (i : Int) := by omega
              have i1 : (i : Int) < ((nS - 1 : Nat) : Int) := by omega
              clear hA hcell hx hil hdrop hfr HFR
              go_wp2_with fail
              refine (HCL.out _ x (HBV.out _ H.out.below)).mono ?_
              rintro e w3 ⟨hb3, hgood, hbad⟩
              have HST3 := Lib.hid (H.out.grow hb3)
              have HGOOD := Lib.hid hgood
              have HBAD := Lib.hid hbad
              clear hb3 hgood hbad d1
              cases hcx : clauseF G D x with
              | none =>
                have he := HBAD.out hcx
                subst he
                have HN := Lib.hid (show stepF G D s = none by rw [HFR2.out, foldR, hcx])
                clear hcx
                go_wp2
                go_ret2
                exact clPost_none (HBV.out _ HST3.out.below) HN.out
              | some d =>
                obtain ⟨A3, k3, rfl, hrd⟩ := HGOOD.out d hcx
                obtain ⟨hdlen, hdset⟩ := HLEN.out x d hcx
                have hf : stepF G D s = match resF cur d with
                  | none => none
                  | some c' => foldR G D c' (r.drop (i + 1)) := by rw [HFR2.out, foldR, hcx]; rfl
                have HF3 := Lib.hid hf
                have HRD3 := Lib.hid hrd
                have HDS := Lib.hid hdset
                obtain ⟨dl, hdl⟩ : ∃ dl, d.length = dl := ⟨_, rfl⟩
                have HDL := Lib.hid hdl
                rw [hdl] at hdlen ⊢
                clear hcx hrd hdset hf hdl HGOOD HBAD
                have hmm2 : (i + 1) * 1000000 ≤ 100000000000 := by omega
                go_wp2_with fail
                refine (tresolve_any HST3.out A3 dl k3 d (by have := HRD3.out; rwa [HDL.out] at this) HDS.out.lits (by omega) hdlen).mono ?_
                rintro e w4 ⟨hgood, hbad⟩
                have HGOOD := Lib.hid hgood
                have HBAD := Lib.hid hbad
                clear hgood hbad
                by_cases hone : (pivD cur d).length = 1
                · obtain ⟨l, hl⟩ : ∃ l, pivD cur d = [l] := by
                    match hp : pivD cur d, hone with
                    | [l], _ => exact ⟨l, rfl⟩
                  obtain ⟨rfl, _, t, ht, hmem⟩ := HGOOD.out l hl
                  obtain ⟨e, he1, he2, he3⟩ := resF_pivD HC.out HDS.out hl
                  have hst4 : St w2.heap.size w2 w4 (star (ms Try.prog 3 3 w2.heap.size (m + d.length) e) emp) := by
                    rw [ms_congr (s := e) (t := t) fun z => by rw [he3, hmem]]
                    exact ht
                  have H4 := Lib.hid hst4
                  have helen := resF_len he1
                  have hnew : stepF G D s = foldR G D e (r.drop (i + 1)) := by rw [HF3.out, he1]
                  have HNEW := Lib.hid hnew
                  have HE2 := Lib.hid he2
                  have hdl2 := HDL.out
                  clear hl ht hmem he1 he2 he3 hst4 hnew hone HGOOD HBAD
                  go_wp2
                  go_roundw
                  case rel => exact ⟨i + 1, by omega, by go_num, m + d.length, e, by omega, by omega, H4.out, HE2.out, HNEW.out⟩
                  case measure => simp [intOf]; omega
                · obtain ⟨rfl, h4⟩ := HBAD.out hone
                  have H4 := Lib.hid h4
                  have hno := resF_pivD_not HDS.out hone
                  have HN := Lib.hid (show stepF G D s = none by rw [HF3.out, hno])
                  clear h4 hno hone
                  go_wp2
                  go_ret2
                  exact clPost_none (HBV.out _ H4.out.below) HN.out
            · obtain rfl : i = nS - 1 := by omega
              have hfin : stepF G D s = some cur := by
                have := HFR.out
                rwa [List.drop_of_length_le (by rw [HRL.out]; exact Nat.le_refl _), foldR] at this
              have HFIN := Lib.hid hfin
              clear hfin HFR
              go_wp2_with fail
              refine (keys_any _ _).mono ?_
              rintro e w3 ⟨rfl, rfl⟩
              go_wp2_with fail
              refine (sortedKeys_any H.out HC.out (fun z => Iff.rfl) (by omega)).mono ?_
              rintro e w4 ⟨A4, k4, rfl, hb4, hrd⟩
              have HB4 := Lib.hid hb4
              have HRD4 := Lib.hid hrd
              clear hb4 hrd
              go_wp2
              go_ret2
              refine ⟨(HBV.out _ H.out.below).trans (HB4.out.mono (HBV.out _ H.out.below).size), fun c' hc' => ?_, fun hc' => (by rw [HFIN.out] at hc'; cases hc')⟩
              rw [HFIN.out] at hc'
              cases hc'
              exact ⟨A4, k4, rfl, HRD4.out⟩
end Go.Proofs.Ytodmkcolamppmaa
