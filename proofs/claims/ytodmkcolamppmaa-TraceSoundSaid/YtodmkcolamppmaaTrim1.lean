/-
  The contract of trace's Trim.
-/
import Derived.Test.YtodmkcolamppmaaTrimM
import Derived.Test.YtodmkcolamppmaaByte2
import Derived.BigRegion
namespace Go.Proofs.Ytodmkcolamppmaa
open Go.RowKit Go.Proofs.PlaitSep Go.Proofs.PlaitPure

def bls (N : List Bool) : List Value := N.map Value.bool
theorem bls_length (N : List Bool) : (bls N).length = N.length := by simp [bls]
theorem bls_get {N : List Bool} {i : Nat} (h : i < N.length) : (bls N)[i]? = some (.bool (gb N i)) := by simp [bls, gb_eq h, h]
theorem bls_set (N : List Bool) (i : Nat) (v : Bool) : bls (N.set i v) = (bls N).set i (.bool v) := by simp [bls, List.map_set]
theorem bls_replicate (n : Nat) : List.replicate n (Value.bool false) = bls (List.replicate n false) := by simp [bls]
theorem Try.infoBool : (Try.prog.info? 4).map (fun i => (i.zero, i.size, i.bytes)) = some (some (.bool false), 1, 1) := by kernel_rfl
theorem Try.sizeBool : (Try.prog.info? 4).map (·.size) = some 1 := by kernel_rfl
theorem Try.sizeI : (Try.prog.info? 3).map (·.size) = some 1 := by kernel_rfl
/-- What Trim hands back. -/
def TrimPost (w : World) (r : List Int × Int) (e : Ending) (w' : World) : Prop :=
  Below w.heap.size w w' ∧ (r.2 = 0 → ∃ A c, e = .returned (.tuple #[.slice A r.1.length c, .int .i64 0]) ∧ RdB w' A r.1.length r.1 ∧ r.1.length ≤ c ∧ c ≤ 9223372036854775807) ∧
    (r.2 ≠ 0 → e = .returned (.tuple #[.slice none 0 0, .int .i64 r.2]))
set_option maxRecDepth 100000 in
set_option maxHeartbeats 4000000 in
theorem trim_any (AG : Option Addr) (nG cG : Nat) (G : List (List Int)) (AB : Option Addr) (nB cB : Nat) (b : List Int) (w : World) (hG : Rd2 w AG nG G) (hB : RdB w AB nB b) (hby : IsBytes b) (hnG : nG ≤ 1000000) (hnB : nB ≤ 400000) (hcB : nB ≤ cB) (hcm : cB ≤ 9223372036854775807)
    (hsum : G.flatten.length ≤ 1000000) :
    Calls Try.prog 24 #[.slice AG nG cG, .slice AB nB cB] w (TrimPost w (trimF G b)) := by
  have HD := Lib.hid (checked_any AG nG cG G AB nB cB b w hG hB hby hnG hnB hcB hcm hsum)
  have hBl := hB.len
  have hGl := hG.len
  have HGL := Lib.hid hGl
  have HBL := Lib.hid hBl
  clear hG hB hby hsum hGl hBl
  go_enter Try.func24, Try.ntmps24
  go_wp2_with fail
  refine HD.out.mono ?_
  rintro e w1 ⟨hb, hgood, hbad⟩
  have HB := Lib.hid hb
  by_cases hk0 : (chkF G b).2 = 0
  · obtain ⟨AL, cL, rfl, hrd, _⟩ := hgood hk0
    obtain ⟨hd0, hl1, D, hder, hDn, _⟩ := chkF_ok hk0
    have htr : trimF G b = encF (trimL nG (chkF G b).1) := by unfold trimF; rw [if_neg (by simpa using hk0), HGL.out]
    have hval := derGo_valid hder
    have hlen := derGo_len hder
    have hsz := decF_size hd0
    rw [HBL.out] at hsz
    rw [HGL.out, ← hl1] at hval
    rw [← hl1] at hlen hsz
    obtain ⟨l, hl⟩ : ∃ l, (chkF G b).1 = l := ⟨_, rfl⟩
    rw [hl] at hrd htr hval hlen hsz ⊢
    obtain ⟨m, hm⟩ : ∃ m : Nat, l.length = m + 1 := ⟨l.length - 1, by simp at hlen; omega⟩
    obtain ⟨nL, hnL⟩ : ∃ nL, nL = l.length := ⟨_, rfl⟩
    rw [← hnL] at hrd hsz ⊢
    have HR := Lib.hid hrd
    have HTR := Lib.hid htr
    have HVAL := Lib.hid hval
    have hsl : 8 + 4 * nL + 4 * (l.map List.length).sum ≤ 400000 := by omega
    have HSL := Lib.hid hsl
    have hnLm : nL = m + 1 := by omega
    have hnl : nL ≤ 100000 := by omega
    have HNL := Lib.hid hnL.symm
    have HST1 := Lib.hid (St.start w1)
    have htI : (nL : Int) - 1 = (m : Int) := by omega
    have HNM := Lib.hid hnLm
    have m0 : (0 : Int) ≤ (m : Int) := by omega
    have m1 : (m : Int) < (nL : Int) := by omega
    clear hb hgood hbad hk0 hrd hd0 hl1 hder hDn htr hval hlen hsz hl hm hnL hnLm hsl HD HBL
    go_wp2_with (first
      | (refine wpList_make rfl _ _ 55 4 (.bool false) 1 rfl Try.underlying55 Try.infoBool rfl nL _ rfl rfl rfl (by omega) (by unfold maxLen; omega) (by omega) HST1.out ?_; intro nb w2 h2; have H2 := Lib.hid h2; clear h2)
      | (refine wpList_store_sl rfl 4 _ _ rfl Try.sizeBool H2.out m (.bool true) rfl rfl rfl (by simp; omega) ?_; intro w3 h3; have H3 := Lib.hid h3; clear h3))
    have hN0 : ((List.replicate nL false).set m true).length = nL := by simp
    have hst3 : St w1.heap.size w1 w3 (star (sl (some nb) nL nL 4 1 (bls ((List.replicate nL false).set m true))) emp) := by
      rw [bls_set, ← bls_replicate]
      exact H3.out
    have hnd : needGo nG l nL ((List.replicate nL false).set m true) = needF nG l := by
      unfold needF
      rw [HNL.out, show nL - 1 = m by have := HNM.out; omega]
    have HS3 := Lib.hid hst3
    have HN0 := Lib.hid hN0
    have HND := Lib.hid hnd
    clear hst3 hN0 hnd H2 H3
    go_loopw [10] (fun v10 wr => ∃ (k : Nat) (z : Int) (N : List Bool), k ≤ nL ∧ v10 = .int .i64 z ∧ z = (k : Int) - 1 ∧ Hid (N.length = nL) ∧ Hid (St w1.heap.size w1 wr (star (sl (some nb) nL nL 4 1 (bls N)) emp)) ∧ Hid (needGo nG l k N = needF nG l)) (fun v10 _ => (intOf v10 + 1).toNat)
    case atStart => exact ⟨nL, m, (List.replicate nL false).set m true, Nat.le_refl _, rfl, htI.symm, HN0.out, HS3.out, HND.out⟩
    case round =>
      obtain ⟨k, z, N, hk, rfl, hz, HNLEN, H, HNG⟩ := hrel
      by_cases hk0 : k = 0
      · subst hk0
        obtain rfl : z = -1 := by omega
        have hnf : N = needF nG l := HNG.out
        have HTL := Lib.hid (show trimGo nG N 0 (zeros nL) [] l = trimL nG l by unfold trimL; rw [← hnf, HNL.out])
        clear hnf HNG hz hk
        go_wp2_with (refine wpList_make rfl _ _ 51 3 (.int .i64 0) 8 rfl Try.underlying51 Try.infoInt rfl nL _ rfl rfl rfl (by omega) (by unfold maxLen; omega) (by omega) H.out ?_; intro ob w4 h4; have h5 := h4.conseq (show _ = star (sl (some ob) nL nL 3 1 (ints (zeros nL))) (star (sl (some nb) nL nL 4 1 (bls N)) (rwsHP 57 none 0 [])) by rw [rwsHP_nil, replicate_ints]); have H5 := Lib.hid h5; clear h4 h5)
        go_loopw [13, 76] (fun v13 v76 wr => ∃ (i o : Nat) (now : List Int) (oa : Option Nat) (oc : Nat) (W : Rws), i ≤ nL ∧ o ≤ i ∧ v76 = .int .i64 i ∧ v13 = .slice (oa.map fun b => ⟨b, 0, none⟩) o oc ∧ Hid (W.length = o) ∧ Hid (now.length = nL) ∧
          Hid (St w1.heap.size w1 wr (star (sl (some ob) nL nL 3 1 (ints now)) (star (sl (some nb) nL nL 4 1 (bls N)) (rwsHP 57 oa oc W)))) ∧ Hid (trimGo nG N i now (W.map fun x => x.2.2) (l.drop i) = trimL nG l)) (fun _ v76 _ => nL - (intOf v76).toNat)
        case atStart => exact ⟨0, 0, zeros nL, none, 0, [], Nat.zero_le _, Nat.le_refl _, rfl, rfl, (rfl : ([] : Rws).length = 0), zeros_length nL, H5.out, (HTL.out : trimGo nG N 0 (zeros nL) (([] : Rws).map fun x => x.2.2) (l.drop 0) = trimL nG l)⟩
        case round =>
          obtain ⟨i, o, now, oa, oc, W, hi, ho, rfl, rfl, HWL, HNW, H6, HTG⟩ := hrel
          by_cases hin : i < nL
          · obtain ⟨ab, ao, hA, hc⟩ := HR.out.cells (by omega)
            subst hA
            obtain ⟨Aj, cj, d0, hrj⟩ := hc i hin
            have d1 := (H6.out.below.cell (World.block_lt_of_cell? w1 _ d0)).trans d0
            have hvx := HVAL.out i (by rw [HNL.out]; exact hin)
            have hil : i < l.length := by rw [HNL.out]; exact hin
            have htg := HTG.out
            rw [List.drop_eq_getElem_cons hil, ← gl_eq l i hil] at htg
            have hsm : (gl l i).length ≤ 100000 := by have := len_sum (l := l) (j := i) hil; have := HSL.out; omega
            obtain ⟨s, hs⟩ : ∃ s, gl l i = s := ⟨_, rfl⟩
            obtain ⟨ln, hln⟩ : ∃ ln, s.length = ln := ⟨_, rfl⟩
            rw [hs, hln] at d1 hrj hsm hvx
            rw [hs] at htg
            have HRJ := Lib.hid hrj
            have HVX := Lib.hid hvx
            have HTG2 := Lib.hid htg
            have HLN := Lib.hid hln
            have H7 := Lib.hid (H6.out.pt_new #[.slice Aj ln cj] 57)
            obtain ⟨g, hg⟩ : ∃ g, gb N i = g := ⟨_, rfl⟩
            have d3 : (wr.alloc (.cells #[.slice Aj ln cj] 57)).cell? ⟨nb, i, none⟩ = some (.bool g) := by
              have h8 : St w1.heap.size w1 (wr.alloc (.cells #[.slice Aj ln cj] 57)) (star (sl (some nb) nL nL 4 1 (bls N)) (star (sl (some ob) nL nL 3 1 (ints now)) (star (pt wr.heap.size 57 [.slice Aj ln cj]) (rwsHP 57 oa oc W)))) := H7.out.conseq (by ac_rfl)
              rw [h8.sl_cell i (by rw [bls_length, HNLEN.out]; exact hin), bls_get (by rw [HNLEN.out]; exact hin), hg]
            have HG := Lib.hid hg
            have i0 : (0 : Int) ≤ (i : Int) := by omega
            have i1 : (i : Int) < (nL : Int) := by omega
            clear hc d0 hrj hvx hil htg hs hln hg HTG
            cases g with
            | false =>
              have htr2 := HTG2.out
              rw [trimGo, HG.out] at htr2
              simp only [Bool.false_eq_true, if_false] at htr2
              have HT3 := Lib.hid htr2
              have H8 := Lib.hid H7.out.dropl
              clear htr2
              go_wp2
              go_roundw
              case rel => exact ⟨i + 1, o, now, oa, oc, W, by omega, by omega, by go_num, rfl, HWL.out, HNW.out, H8.out, HT3.out⟩
              case measure => simp [intOf]; omega
            | true =>
              obtain ⟨now2, hn2⟩ : ∃ x, now.set i ((nG : Int) + (o : Int)) = x := ⟨_, rfl⟩
              have htr2 := HTG2.out
              rw [trimGo, HG.out] at htr2
              simp only [if_true, List.length_map, HWL.out, hn2] at htr2
              have HT3 := Lib.hid htr2
              have HN2 := Lib.hid hn2
              have HNW2 := Lib.hid (show now2.length = nL by rw [← hn2, List.length_set]; exact HNW.out)
              have HI := Lib.hid hin
              have h9 : St w1.heap.size w1 (wr.alloc (.cells #[.slice Aj ln cj] 57)) (star (sl (some ob) nL nL 3 1 (ints now)) (star (pt wr.heap.size 57 [.slice Aj ln cj]) (star (sl (some nb) nL nL 4 1 (bls N)) (rwsHP 57 oa oc W)))) := H7.out.conseq (by ac_rfl)
              have H9 := Lib.hid h9
              clear htr2 hn2 h9
              go_wp2_with (refine wpList_store_sl rfl 3 _ _ rfl Try.sizeI H9.out i (.int .i64 ((nG : Int) + (o : Int))) rfl rfl rfl (by rw [ints_length, HNW.out]; exact HI.out) ?_; intro w5 h5; have h10 := h5.conseq (show _ = star (pt wr.heap.size 57 [.slice Aj ln cj]) (star (sl (some ob) nL nL 3 1 (ints now2)) (star (sl (some nb) nL nL 4 1 (bls N)) (rwsHP 57 oa oc W))) by rw [ints_set, HN2.out]; ac_rfl); have d5 : w5.cell? ⟨wr.heap.size, 0, none⟩ = some (.slice Aj ln cj) := h10.pt_cell 0; have H10 := Lib.hid h10; clear h5 h10)
              refine (clone_any Aj ln cj s w5 (HRJ.out.grow H10.out.below) (by omega)).mono ?_
              rintro e w6 ⟨ka, kc, rfl, k6⟩
              have h11 := (H10.out.dropl.nest k6).conseq (show _ = star (sl ka ln kc 3 1 (ints s)) (star (sl (some ob) nL nL 3 1 (ints now2)) (star (sl (some nb) nL nL 4 1 (bls N)) (rwsHP 57 oa oc W))) by unfold sli; rw [HLN.out])
              obtain ⟨AK, hAK⟩ : ∃ AK : Option Addr, (ka.map fun b => ⟨b, 0, none⟩) = AK := ⟨_, rfl⟩
              rw [show slv ka s.length kc = .slice AK ln kc by rw [HLN.out, ← hAK]; rfl]
              have h12 := h11.pt_new #[.slice AK ln kc] 57
              have H12 := Lib.hid h12
              have HAK := Lib.hid hAK
              clear k6 h11 h12 hAK d5
              go_wp2
              obtain ⟨w7, hw7⟩ : ∃ w7, w6.alloc (.cells #[.slice AK ln kc] 57) = w7 := ⟨_, rfl⟩
              obtain ⟨tb, htb⟩ : ∃ tb, w6.heap.size = tb := ⟨_, rfl⟩
              rw [hw7, htb] at H12
              rw [hw7, htb]
              clear hw7 htb
              go_loopw [100] (fun v100 wr => ∃ (j : Nat) (cur : List Int), j ≤ ln ∧ v100 = .int .i64 j ∧ Hid (cur = (s.take j).map (newNum nG now2) ++ s.drop j) ∧
                Hid (St w1.heap.size w1 wr (star (pt tb 57 [.slice AK ln kc]) (star (sl ka ln kc 3 1 (ints cur)) (star (sl (some ob) nL nL 3 1 (ints now2)) (star (sl (some nb) nL nL 4 1 (bls N)) (rwsHP 57 oa oc W))))))) (fun v100 _ => ln - (intOf v100).toNat)
              case atStart => exact ⟨0, s, Nat.zero_le _, rfl, (rfl : s = (s.take 0).map (newNum nG now2) ++ s.drop 0), H12.out⟩
              case round =>
                obtain ⟨j, cur, hj, rfl, HCUR, H13⟩ := hrel
                have d6 : wr.cell? ⟨tb, 0, none⟩ = some (.slice AK ln kc) := H13.out.pt_cell 0
                by_cases hjn : j < ln
                · obtain ⟨kb, hkb⟩ : ∃ kb, ka = some kb := by
                    cases ka with
                    | some kb => exact ⟨kb, rfl⟩
                    | none => have := (H13.out.dropl.sat.sl_facts.2.2.2.1 rfl).1; omega
                  have hak := HAK.out
                  rw [hkb] at hak
                  simp only [Option.map_some] at hak
                  subst hak hkb
                  obtain ⟨x0, x1⟩ := HVX.out j hjn
                  have hjs : j < s.length := by rw [HLN.out]; exact hjn
                  have hcl : cur.length = ln := by rw [HCUR.out, newNum_len (by omega), HLN.out]
                  have hcx : gi cur j = gi s j := by rw [HCUR.out, newNum_at hjs]
                  have h14 : St w1.heap.size w1 wr (star (sl (some kb) ln kc 3 1 (ints cur)) (star (pt tb 57 [.slice (some ⟨kb, 0, none⟩) ln kc]) (star (sl (some ob) nL nL 3 1 (ints now2)) (star (sl (some nb) nL nL 4 1 (bls N)) (rwsHP 57 oa oc W))))) := H13.out.conseq (by ac_rfl)
                  have d7 : wr.cell? ⟨kb, j, none⟩ = some (.int .i64 (gi s j)) := by rw [h14.sl_cell j (by rw [ints_length, hcl]; exact hjn), ints_get cur j (by rw [hcl]; exact hjn), hcx]
                  have H14 := Lib.hid h14
                  obtain ⟨x, hx⟩ : ∃ x, gi s j = x := ⟨_, rfl⟩
                  rw [hx] at d7 x0 x1
                  have HX := Lib.hid hx
                  have HJS := Lib.hid hjs
                  have HCL := Lib.hid hcl
                  have j0 : (0 : Int) ≤ (j : Int) := by omega
                  have j1 : (j : Int) < (ln : Int) := by omega
                  clear hjs hcl hcx h14 hx
                  by_cases hge : (nG : Int) ≤ x
                  · have e1 : decide ((nG : Int) ≤ x) = true := by simpa using hge
                    obtain ⟨y, hy⟩ : ∃ y : Nat, x - (nG : Int) = (y : Int) := ⟨(x - nG).toNat, by omega⟩
                    have hyi : y < nL := by omega
                    have y0 : (0 : Int) ≤ (y : Int) := by omega
                    have y1 : (y : Int) < (nL : Int) := by omega
                    have hwr : IntKind.i64.wrap (x - (nG : Int)) = (y : Int) := by rw [hy]; exact IntWalk.i64_in _ (by omega)
                    have h15 : St w1.heap.size w1 wr (star (sl (some ob) nL nL 3 1 (ints now2)) (star (sl (some kb) ln kc 3 1 (ints cur)) (star (pt tb 57 [.slice (some ⟨kb, 0, none⟩) ln kc]) (star (sl (some nb) nL nL 4 1 (bls N)) (rwsHP 57 oa oc W))))) := H13.out.conseq (by ac_rfl)
                    have d8 : wr.cell? ⟨ob, y, none⟩ = some (.int .i64 (gi now2 y)) := by rw [h15.sl_cell y (by rw [ints_length, HNW2.out]; exact hyi), ints_get now2 y (by rw [HNW2.out]; exact hyi)]
                    obtain ⟨v, hv⟩ : ∃ v, gi now2 y = v := ⟨_, rfl⟩
                    rw [hv] at d8
                    have hnn : newNum nG now2 (gi s j) = v := by unfold newNum; rw [HX.out, if_pos hge, hy, Int.toNat_natCast, hv]
                    have hcur2 := newNum_take (n := nG) (now := now2) HJS.out
                    rw [hnn, ← HCUR.out] at hcur2
                    have HCUR2 := Lib.hid hcur2.symm
                    have hfr : wr.frozen? ⟨kb, j, none⟩ = false := H14.out.sl_free j
                    have H16 := Lib.hid (H14.out.sl_set j (.int .i64 v) (by rw [ints_length, HCL.out]; exact hjn))
                    clear h15 hv hnn hcur2 hge hyi
                    go_wp2
                    go_region
                    go_wp2
                    go_roundw
                    case rel =>
                      refine ⟨j + 1, cur.set j v, by omega, by go_num, HCUR2.out, ?_⟩
                      have h17 := H16.out.conseq (show _ = star (pt tb 57 [.slice (some ⟨kb, 0, none⟩) ln kc]) (star (sl (some kb) ln kc 3 1 (ints (cur.set j v))) (star (sl (some ob) nL nL 3 1 (ints now2)) (star (sl (some nb) nL nL 4 1 (bls N)) (rwsHP 57 oa oc W)))) by rw [← ints_set]; ac_rfl)
                      exact h17.drew
                    case measure => simp [intOf]; omega
                  · have e1 : decide ((nG : Int) ≤ x) = false := by simpa using hge
                    have hcur2 := newNum_keep (n := nG) (now := now2) HJS.out (by rw [HX.out]; exact hge)
                    rw [← HCUR.out] at hcur2
                    have HCUR2 := Lib.hid hcur2
                    clear hge hcur2
                    go_wp2
                    go_roundw
                    case rel => exact ⟨j + 1, cur, by omega, by go_num, HCUR2.out, H13.out⟩
                    case measure => simp [intOf]; omega
                · obtain rfl : j = ln := by omega
                  have hcur := HCUR.out
                  rw [List.take_of_length_le (by rw [HLN.out]; exact Nat.le_refl _), List.drop_of_length_le (by rw [HLN.out]; exact Nat.le_refl _), List.append_nil] at hcur
                  have hcl : cur.length = j := by rw [hcur, List.length_map, HLN.out]
                  have HC := Lib.hid hcur
                  have HCL := Lib.hid hcl
                  have h14 : St w1.heap.size w1 wr (star (rwsHP 57 oa oc W) (star (sli 3 ka kc cur) (star (sl (some ob) nL nL 3 1 (ints now2)) (sl (some nb) nL nL 4 1 (bls N))))) := H13.out.dropl.conseq (by unfold sli; rw [hcl]; ac_rfl)
                  have H14 := Lib.hid (rws_focus h14 HWL.out)
                  clear hcur hcl h14
                  go_wp2_with (at_builtin; refine wpList_append1 rfl _ _ 26 57 (.agg #[.slice none 0 0]) 24 rfl Try.underlying26 Try.infoStep rfl H14.out rfl (.slice AK j kc) rfl rfl (by omega) (by simp only [maxLen]; omega) ?_; intro b' c' w8 h8; have H8 := Lib.hid h8; clear h8)
                  have h15 := rws_push (F := star (sl (some ob) nL nL 3 1 (ints now2)) (sl (some nb) nL nL 4 1 (bls N))) (ka := ka) (kc := kc) (l := cur) HWL.out (by rw [HCL.out, HAK.out]; exact H8.out.conseq (by ac_rfl))
                  have H15 := Lib.hid (h15.conseq (show _ = star (sl (some ob) nL nL 3 1 (ints now2)) (star (sl (some nb) nL nL 4 1 (bls N)) (rwsHP 57 (some b') c' (W ++ [(ka, kc, cur)]))) by ac_rfl))
                  clear h15
                  go_wp2
                  go_roundw
                  case rel =>
                    refine ⟨i + 1, o + 1, now2, some b', c', W ++ [(ka, kc, cur)], by omega, by omega, by go_num, rfl, (by rw [List.length_append, HWL.out]; rfl : (W ++ [(ka, kc, cur)]).length = o + 1), HNW2.out, H15.out, (?_ : trimGo nG N (i + 1) now2 ((W ++ [(ka, kc, cur)]).map fun x => x.2.2) (l.drop (i + 1)) = trimL nG l)⟩
                    rw [List.map_append, List.map_cons, List.map_nil, HC.out]
                    exact HT3.out
                  case measure => simp [intOf]; omega
          · obtain rfl : i = nL := by omega
            have hfin := HTG.out
            rw [List.drop_of_length_le (by rw [HNL.out]; exact Nat.le_refl _), trimGo] at hfin
            have hts := trimGo_sum nG N l 0 (zeros i) []
            rw [HTL.out, ← hfin, HNL.out, List.length_map, HWL.out] at hts
            simp only [List.length_nil, List.map_nil, List.sum_nil, Nat.zero_add] at hts
            have hsl := HSL.out
            have hrw : St w1.heap.size w1 wr (star (rwsHP 57 oa oc W) (star (sl (some ob) i i 3 1 (ints now)) (sl (some nb) i i 4 1 (bls N)))) := H6.out.conseq (by ac_rfl)
            have hrd := rws_rd hrw (fun x hx => by
              have := mem_sum (l := W.map fun x => x.2.2) (List.mem_map.2 ⟨x, hx, rfl⟩)
              omega) (by rw [HWL.out]; omega)
            rw [HWL.out] at hrd
            have HEN := Lib.hid (encode_any (oa.map fun b => ⟨b, 0, none⟩) o oc (W.map fun x => x.2.2) wr hrd (by omega))
            have HT := Lib.hid (show trimF G b = encF (W.map fun x => x.2.2) by rw [HTR.out, hfin])
            have HBW := Lib.hid (HB.out.trans (H6.out.below.mono HB.out.size))
            clear hfin hts hsl hrw hrd HTG
            go_wp2_with fail
            refine HEN.out.mono ?_
            rintro e w9 ⟨hb9, hg9, hbad9⟩
            have HB9 := Lib.hid (HBW.out.trans (hb9.mono HBW.out.size))
            by_cases he : (encF (W.map fun x => x.2.2)).2 = 0
            · obtain ⟨A9, c9, rfl, hr9, hc9, hm9⟩ := hg9 he
              have hx : trimF G b = (encB (W.map fun x => x.2.2), 0) := by
                rw [HT.out]
                have h2 := he
                unfold encF at h2 ⊢
                split at h2
                · rename_i h3; rw [if_pos h3]
                · cases h2
              have HX := Lib.hid hx
              have HR9 := Lib.hid hr9
              obtain ⟨bl, hbl⟩ : ∃ bl, (encB (W.map fun x => x.2.2)).length = bl := ⟨_, rfl⟩
              rw [hbl] at hc9
              rw [hbl]
              have HBLN := Lib.hid hbl
              clear hb9 hg9 hbad9 he hx hr9 hbl
              go_wp2
              go_ret2
              refine ⟨HB9.out, fun _ => ?_, fun h => absurd (by rw [HX.out]) h⟩
              rw [HX.out]
              exact ⟨A9, c9, by rw [HBLN.out]; rfl, HR9.out, by rw [HBLN.out]; exact hc9, hm9⟩
            · have h9 := hbad9 he
              obtain ⟨kk, hkk⟩ : ∃ kk, (encF (W.map fun x => x.2.2)).2 = kk := ⟨_, rfl⟩
              rw [hkk] at h9 he
              subst h9
              have HKK := Lib.hid (show (trimF G b).2 = kk by rw [HT.out, hkk])
              have HE := Lib.hid he
              clear hb9 hg9 hbad9 hkk he
              go_wp2
              go_ret2
              exact ⟨HB9.out, fun h => absurd (HKK.out.symm.trans h) HE.out, fun _ => by rw [HKK.out]; rfl⟩
      · obtain ⟨i, rfl⟩ : ∃ i, k = i + 1 := ⟨k - 1, by omega⟩
        obtain rfl : z = (i : Int) := by omega
        obtain ⟨ab, ao, hA, hc⟩ := HR.out.cells (by omega)
        subst hA
        obtain ⟨Aj, cj, d0, hrj⟩ := hc i (by omega)
        have d1 := (H.out.below.cell (World.block_lt_of_cell? w1 _ d0)).trans d0
        have hvx := HVAL.out i (by rw [HNL.out]; omega)
        have hng := HNG.out
        rw [needGo] at hng
        have hsm : (gl l i).length ≤ 100000 := by have := len_sum (l := l) (j := i) (by rw [HNL.out]; omega); have := HSL.out; omega
        obtain ⟨xs, hxs⟩ : ∃ xs, gl l i = xs := ⟨_, rfl⟩
        obtain ⟨ln, hln⟩ : ∃ ln, xs.length = ln := ⟨_, rfl⟩
        rw [hxs, hln] at d1 hrj hsm hvx
        rw [hxs] at hng
        have HRJ := Lib.hid hrj
        have HVX := Lib.hid hvx
        have HNG2 := Lib.hid hng
        have HLN := Lib.hid hln
        have k0 : (0 : Int) ≤ (i : Int) := by omega
        have k1 : (i : Int) < (nL : Int) := by omega
        have hi1 : i < nL := by omega
        clear hc d0 hrj hvx hng hxs hln hz HNG hk0
        go_wp2
        go_loopw [52] (fun v52 wr => ∃ (t : Nat) (M : List Bool), t ≤ ln ∧ v52 = .int .i64 t ∧ Hid (M.length = nL) ∧ Hid (St w1.heap.size w1 wr (star (sl (some nb) nL nL 4 1 (bls M)) emp)) ∧ Hid (markRow nG i M (xs.drop t) = markRow nG i N xs)) (fun v52 _ => ln - (intOf v52).toNat)
        case atStart => exact ⟨0, N, Nat.zero_le _, rfl, HNLEN.out, H.out, (rfl : markRow nG i N (xs.drop 0) = markRow nG i N xs)⟩
        case round =>
          obtain ⟨t, M, ht, rfl, HML, H2, HMK⟩ := hrel
          by_cases htn : t < ln
          · obtain ⟨bx, ox, hA, hcx⟩ := (HRJ.out.grow H2.out.below).cells (by omega)
            subst hA
            have d2 := hcx t htn
            obtain ⟨x0, x1⟩ := HVX.out t htn
            have hmk := HMK.out
            rw [List.drop_eq_getElem_cons (by rw [HLN.out]; exact htn), ← gi_eq xs t (by rw [HLN.out]; exact htn)] at hmk
            obtain ⟨x, hx⟩ : ∃ x, gi xs t = x := ⟨_, rfl⟩
            rw [hx] at d2 x0 x1 hmk
            have hmk2 : markRow nG i (mark1 nG i M x) (xs.drop (t + 1)) = markRow nG i N xs := hmk
            have HMK2 := Lib.hid hmk2
            have d3 : _ = some (Value.bool (gb M i)) := (H2.out.sl_cell i (by rw [bls_length, HML.out]; exact hi1)).trans (bls_get (by rw [HML.out]; exact hi1))
            obtain ⟨g, hg⟩ : ∃ g, gb M i = g := ⟨_, rfl⟩
            rw [hg] at d3
            have HG := Lib.hid hg
            have t0 : (0 : Int) ≤ (t : Int) := by omega
            have t1 : (t : Int) < (ln : Int) := by omega
            clear hcx hmk hmk2 hx hg HMK
            cases g with
            | false =>
              have hm1 : mark1 nG i M x = M := by unfold mark1; rw [HG.out]; rfl
              have HM1 := Lib.hid (hm1 ▸ HMK2.out)
              clear hm1
              go_wp2
              go_roundw
              case rel => exact ⟨t + 1, M, by omega, by go_num, HML.out, H2.out, HM1.out⟩
              case measure => simp [intOf]; omega
            | true =>
              by_cases hge : (nG : Int) ≤ x
              · have e1 : decide ((nG : Int) ≤ x) = true := by simpa using hge
                obtain ⟨y, hy⟩ : ∃ y : Nat, x - (nG : Int) = (y : Int) := ⟨(x - nG).toNat, by omega⟩
                have hyi : y < nL := by omega
                have y0 : (0 : Int) ≤ (y : Int) := by omega
                have y1 : (y : Int) < (nL : Int) := by omega
                have hm1 : mark1 nG i M x = M.set y true := by
                  unfold mark1
                  rw [HG.out, e1, hy, Int.toNat_natCast]
                  rfl
                have HM1 := Lib.hid (hm1 ▸ HMK2.out)
                have HY := Lib.hid hyi
                clear hm1 hge hyi
                go_wp2_with (refine wpList_store_sl rfl 4 _ _ rfl Try.sizeBool H2.out y (.bool true) rfl rfl rfl (by rw [bls_length, HML.out]; exact HY.out) ?_; intro w4 h4; have h5 := h4.conseq (show _ = star (sl (some nb) nL nL 4 1 (bls (M.set y true))) emp by rw [bls_set]); have H5 := Lib.hid h5; clear h4 h5)
                go_roundw
                case rel => exact ⟨t + 1, M.set y true, by omega, by go_num, (by rw [List.length_set]; exact HML.out : (M.set y true).length = nL), H5.out, HM1.out⟩
                case measure => simp [intOf]; omega
              · have e1 : decide ((nG : Int) ≤ x) = false := by simpa using hge
                have hm1 : mark1 nG i M x = M := by unfold mark1; rw [HG.out, e1]; rfl
                have HM1 := Lib.hid (hm1 ▸ HMK2.out)
                clear hm1 hge
                go_wp2
                go_roundw
                case rel => exact ⟨t + 1, M, by omega, by go_num, HML.out, H2.out, HM1.out⟩
                case measure => simp [intOf]; omega
          · obtain rfl : t = ln := by omega
            have hfin := HMK.out
            rw [List.drop_of_length_le (by rw [HLN.out]; exact Nat.le_refl _)] at hfin
            have hfin2 : M = markRow nG i N xs := hfin
            have hng3 := HNG2.out
            rw [← hfin2] at hng3
            have HNG3 := Lib.hid hng3
            clear hfin hfin2 hng3
            go_wp2
            go_roundw
            case rel => exact ⟨i, (i : Int) - 1, M, by omega, by go_num, rfl, HML.out, H2.out, HNG3.out⟩
            case measure => simp [intOf] <;> omega
  · have he := hbad hk0
    obtain ⟨kk, hkk⟩ : ∃ kk, (chkF G b).2 = kk := ⟨_, rfl⟩
    rw [hkk] at he hk0
    subst he
    have HKK := Lib.hid (show trimF G b = ([], kk) by unfold trimF; rw [hkk, if_pos hk0])
    have e0 : (kk != 0) = true := by simpa using hk0
    have HE := Lib.hid hk0
    clear hb hgood hbad hkk hk0 HD
    go_wp2
    go_ret2
    exact ⟨HB.out, fun h => absurd (by rw [HKK.out] at h; exact h) HE.out, fun _ => by rw [HKK.out]; rfl⟩
end Go.Proofs.Ytodmkcolamppmaa
