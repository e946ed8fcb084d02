/-
  The contract of plaitref12's Trim.
-/
import Derived.Test.YtodmkcolamppmaaTrim1
import Derived.Test.YtodmkcolamppmaaRChk
import Derived.Test.YtodmkcolamppmaaTb1
namespace Go.Proofs.Ytodmkcolamppmaa
open Go.RowKit Go.Proofs.PlaitSep Go.Proofs.PlaitPure

theorem markRow_false {n : Int} {i : Nat} : ∀ {s : List Int} {N : List Bool}, gb N i = false → markRow n i N s = N
  | [], _, _ => rfl
  | x :: r, N, h => by
    have h1 : mark1 n i N x = N := by unfold mark1; rw [h]; rfl
    show markRow n i (mark1 n i N x) r = N
    rw [h1]
    exact markRow_false h
theorem newNum_set {n : Int} {now : List Int} {i : Nat} {v x : Int} (h : x < n + i) : newNum n (now.set i v) x = newNum n now x := by
  unfold newNum
  split
  · have : i ≠ (x - n).toNat := by omega
    simp [gi, List.getD_eq_getElem?_getD, List.getElem?_set_ne this]
  · rfl
/-- What plaitref12's Trim hands back: the same bytes; with 0 where Encode fails. -/
def RTrimPost (w : World) (G : List (List Int)) (b : List Int) (e : Ending) (w' : World) : Prop :=
  ((chkF G b).2 ≠ 0 → EncU w [] (chkF G b).2 e w') ∧ ((chkF G b).2 = 0 → EncU w (encF (trimL G.length (chkF G b).1)).1 0 e w')
set_option maxRecDepth 100000 in
set_option maxHeartbeats 4000000 in
theorem rtrim_any (AG : Option Addr) (nG cG : Nat) (G : List (List Int)) (AB : Option Addr) (nB cB : Nat) (b : List Int) (w : World) (hG : Rd2 w AG nG G) (hB : RdB w AB nB b) (hby : IsBytes b) (hnG : nG ≤ 100000) (hnB : nB ≤ 400000) (hcB : nB ≤ cB) (hcm : cB ≤ 9223372036854775807)
    (hsum : G.flatten.length ≤ 100000) :
    Calls Try.prog 25 #[.slice AG nG cG, .slice AB nB cB] w (RTrimPost w G b) := by
  have HD := Lib.hid (rcheck_any AG nG cG G AB nB cB b w hG hB hby hnG hnB hcB hcm hsum)
  have hBl := hB.len
  have hGl := hG.len
  have HGL := Lib.hid hGl
  have HBL := Lib.hid hBl
  have HBR := Lib.hid hB
  have HBY := Lib.hid hby
  clear hG hB hby hsum hGl hBl
  obtain ⟨kk, hkk⟩ : ∃ kk, (chkF G b).2 = kk := ⟨_, rfl⟩
  have HKK := Lib.hid hkk
  have hd1 := HD.out
  rw [hkk] at hd1
  have HD2 := Lib.hid hd1
  clear hd1 hkk HD
  go_enter Try.func25, Try.ntmps25
  go_wp2_with fail
  refine HD2.out.mono ?_
  rintro e w0 ⟨rfl, hb⟩
  have HB0 := Lib.hid hb
  have HBR0 := Lib.hid (HBR.out.grow hb)
  clear hb
  by_cases hk0 : kk = 0
  · subst hk0
    obtain ⟨hd0, hl1, D, hder, hDn, _⟩ := chkF_ok HKK.out
    have hval := derGo_valid hder
    have hlen := derGo_len hder
    have hsz := decF_size hd0
    rw [HBL.out] at hsz
    rw [HGL.out, ← hl1] at hval
    rw [← hl1] at hlen hsz
    obtain ⟨l, hl⟩ : ∃ l, (chkF G b).1 = l := ⟨_, rfl⟩
    have hdec : decF b = (l, 0) := by
      have : decF b = ((decF b).1, (decF b).2) := rfl
      rw [this, hd0, ← hl1, hl]
    have HTR := Lib.hid (show ∀ e w', EncU w (encF (trimL nG l)).1 0 e w' → RTrimPost w G b e w' from fun e w' h => ⟨fun h0 => absurd HKK.out h0, fun _ => by rw [HGL.out, hl]; exact h⟩)
    rw [hl] at hval hlen hsz
    have HDEC := Lib.hid hdec
    have HVAL := Lib.hid hval
    obtain ⟨m, hm⟩ : ∃ m : Nat, l.length = m + 1 := ⟨l.length - 1, by simp at hlen; omega⟩
    have HM := Lib.hid hm
    have HSZ := Lib.hid hsz
    clear hd0 hl1 hder hDn hval hlen hsz hl hdec hm
    go_wp2_with fail
    refine (rdecode_any AB nB cB b w0 HBR0.out HBY.out (by omega) hcB hcm).mono ?_
    intro e w1 hp
    obtain ⟨AL, nL, cL, rfl, hb1, hrd⟩ := decU l 0 HDEC.out hp
    have HB := Lib.hid (btr HB0.out hb1)
    have hnL := hrd.len
    have HNL := Lib.hid hnL
    have HR := Lib.hid hrd
    have hsl : 8 + 4 * nL + 4 * (l.map List.length).sum ≤ 400000 := by have := HSZ.out; omega
    have HSL := Lib.hid hsl
    have hnLm : nL = m + 1 := by have := HM.out; omega
    have hnl : nL ≤ 100000 := by omega
    have HST1 := Lib.hid (St.start w1)
    have htI : (nL : Int) - 1 = (m : Int) := by omega
    have HNM := Lib.hid hnLm
    have m0 : (0 : Int) ≤ (m : Int) := by omega
    have m1 : (m : Int) < (nL : Int) := by omega
    clear hp hb1 hrd hnL hsl hnLm
    go_wp2_with (first
      | (refine wpList_make rfl _ _ 55 4 (.bool false) 1 rfl Try.underlying55 Try.infoBool rfl nL _ rfl rfl rfl (by omega) (by unfold maxLen; omega) (by omega) HST1.out ?_; intro nb w2 h2; have H2 := Lib.hid h2; clear h2)
      | (refine wpList_store_sl rfl 4 _ _ rfl Try.sizeBool H2.out m (.bool true) rfl rfl rfl (by simp; omega) ?_; intro w3 h3; have H3 := Lib.hid h3; clear h3))
    have hN0 : ((List.replicate nL false).set m true).length = nL := by simp
    have hst3 : St w1.heap.size w1 w3 (star (sl (some nb) nL nL 4 1 (bls ((List.replicate nL false).set m true))) emp) := by
      rw [bls_set, ← bls_replicate]
      exact H3.out
    have hnd : needGo nG l nL ((List.replicate nL false).set m true) = needF nG l := by
      unfold needF
      rw [HNL.out, show nL - 1 = m by have := HNM.out; omega]
    have HS3 := Lib.hid hst3
    have HN0 := Lib.hid hN0
    have HND := Lib.hid hnd
    clear hst3 hN0 hnd H2 H3
    go_loopw [11] (fun v11 wr => ∃ (k : Nat) (z : Int) (N : List Bool), k ≤ nL ∧ v11 = .int .i64 z ∧ z = (k : Int) - 1 ∧ Hid (N.length = nL) ∧ Hid (St w1.heap.size w1 wr (star (sl (some nb) nL nL 4 1 (bls N)) emp)) ∧ Hid (needGo nG l k N = needF nG l)) (fun v11 _ => (intOf v11 + 1).toNat)
    case atStart => exact ⟨nL, m, (List.replicate nL false).set m true, Nat.le_refl _, rfl, htI.symm, HN0.out, HS3.out, HND.out⟩
    case round =>
      obtain ⟨k, z, N, hk, rfl, hz, HNLEN, H, HNG⟩ := hrel
      by_cases hk0 : k = 0
      · subst hk0
        obtain rfl : z = -1 := by omega
        have hnf : N = needF nG l := HNG.out
        have HTL := Lib.hid (show trimGo nG N 0 (zeros nL) [] l = trimL nG l by unfold trimL; rw [← hnf, HNL.out])
        clear hnf HNG hz hk
        go_wp2_with (refine wpList_make rfl _ _ 51 3 (.int .i64 0) 8 rfl Try.underlying51 Try.infoInt rfl nL _ rfl rfl rfl (by omega) (by unfold maxLen; omega) (by omega) H.out ?_; intro ob w4 h4; have h5 := h4.conseq (show _ = star (sl (some ob) nL nL 3 1 (ints (zeros nL))) (star (sl (some nb) nL nL 4 1 (bls N)) (rwsHP 51 none 0 [])) by rw [rwsHP_nil, replicate_ints]); have H5 := Lib.hid h5; clear h4 h5)
        go_loopw [14, 15] (fun v14 v15 wr => ∃ (i o : Nat) (now : List Int) (oa : Option Nat) (oc : Nat) (W : Rws), i ≤ nL ∧ o ≤ i ∧ v15 = .int .i64 i ∧ v14 = .slice (oa.map fun b => ⟨b, 0, none⟩) o oc ∧ Hid (W.length = o) ∧ Hid (now.length = nL) ∧
          Hid (St w1.heap.size w1 wr (star (sl (some ob) nL nL 3 1 (ints now)) (star (sl (some nb) nL nL 4 1 (bls N)) (rwsHP 51 oa oc W)))) ∧ Hid (trimGo nG N i now (W.map fun x => x.2.2) (l.drop i) = trimL nG l)) (fun _ v15 _ => nL - (intOf v15).toNat)
        case atStart => exact ⟨0, 0, zeros nL, none, 0, [], Nat.zero_le _, Nat.le_refl _, rfl, rfl, (rfl : ([] : Rws).length = 0), zeros_length nL, H5.out, (HTL.out : trimGo nG N 0 (zeros nL) (([] : Rws).map fun x => x.2.2) (l.drop 0) = trimL nG l)⟩
        case round =>
          obtain ⟨i, o, now, oa, oc, W, hi, ho, rfl, rfl, HWL, HNW, H6, HTG⟩ := hrel
          by_cases hin : i < nL
          · obtain ⟨ab, ao, hA, hc⟩ := HR.out.cells (by omega)
            subst hA
            obtain ⟨Aj, cj, d0, hrj⟩ := hc i hin
            have hvx := HVAL.out i (by rw [HNL.out]; exact hin)
            have hil : i < l.length := by rw [HNL.out]; exact hin
            have htg := HTG.out
            rw [List.drop_eq_getElem_cons hil, ← gl_eq l i hil] at htg
            have hsm : (gl l i).length ≤ 100000 := by have := len_sum (l := l) (j := i) hil; have := HSL.out; omega
            obtain ⟨s, hs⟩ : ∃ s, gl l i = s := ⟨_, rfl⟩
            obtain ⟨ln, hln⟩ : ∃ ln, s.length = ln := ⟨_, rfl⟩
            rw [hs, hln] at d0 hrj hsm hvx
            rw [hs] at htg
            have HD0 := Lib.hid (show ∀ V, Below w1.heap.size w1 V → V.cell? ⟨ab, ao + i, none⟩ = some (.slice Aj ln cj) from fun V hV => (hV.cell (World.block_lt_of_cell? w1 _ d0)).trans d0)
            have HRJ := Lib.hid hrj
            have HVX := Lib.hid hvx
            have HTG2 := Lib.hid htg
            have HLN := Lib.hid hln
            obtain ⟨g, hg⟩ : ∃ g, gb N i = g := ⟨_, rfl⟩
            have h8 : St w1.heap.size w1 wr (star (sl (some nb) nL nL 4 1 (bls N)) (star (sl (some ob) nL nL 3 1 (ints now)) (rwsHP 51 oa oc W))) := H6.out.conseq (by ac_rfl)
            have d3 : wr.cell? ⟨nb, i, none⟩ = some (.bool g) := by rw [h8.sl_cell i (by rw [bls_length, HNLEN.out]; exact hin), bls_get (by rw [HNLEN.out]; exact hin), hg]
            have HG := Lib.hid hg
            have i0 : (0 : Int) ≤ (i : Int) := by omega
            have i1 : (i : Int) < (nL : Int) := by omega
            clear hc d0 hrj hvx hil htg hs hln hg HTG h8
            cases g with
            | false =>
              have htr2 := HTG2.out
              rw [trimGo, HG.out] at htr2
              simp only [Bool.false_eq_true, if_false] at htr2
              have HT3 := Lib.hid htr2
              clear htr2
              go_wp2
              go_roundw
              case rel => exact ⟨i + 1, o, now, oa, oc, W, by omega, by omega, by go_num, rfl, HWL.out, HNW.out, H6.out, HT3.out⟩
              case measure => simp [intOf]; omega
            | true =>
              obtain ⟨now2, hn2⟩ : ∃ x, now.set i ((nG : Int) + (o : Int)) = x := ⟨_, rfl⟩
              have htr2 := HTG2.out
              rw [trimGo, HG.out] at htr2
              simp only [if_true, List.length_map, HWL.out, hn2] at htr2
              have HT3 := Lib.hid htr2
              have HN2 := Lib.hid hn2
              have HNW2 := Lib.hid (show now2.length = nL by rw [← hn2, List.length_set]; exact HNW.out)
              have HI := Lib.hid hin
              have H9 := Lib.hid (show St w1.heap.size w1 wr (star (sli 3 none 0 []) (star (sl (some ob) nL nL 3 1 (ints now)) (star (sl (some nb) nL nL 4 1 (bls N)) (rwsHP 51 oa oc W)))) from ⟨H6.out.below, H6.out.base, H6.out.sat.sl_nil _ _⟩)
              clear htr2 hn2
              go_wp2
              go_loopw [16, 17] (fun v16 v17 wr => ∃ (j : Nat) (xa : Option Nat) (xc : Nat) (xs : List Int), j ≤ ln ∧ v17 = .int .i64 j ∧ v16 = .slice (xa.map fun b => ⟨b, 0, none⟩) j xc ∧ Hid (xs.length = j) ∧ Hid (xs = (s.take j).map (newNum nG now2)) ∧
                Hid (St w1.heap.size w1 wr (star (sli 3 xa xc xs) (star (sl (some ob) nL nL 3 1 (ints now)) (star (sl (some nb) nL nL 4 1 (bls N)) (rwsHP 51 oa oc W)))))) (fun _ v17 _ => ln - (intOf v17).toNat)
              case atStart => exact ⟨0, none, 0, [], Nat.zero_le _, rfl, rfl, (rfl : ([] : List Int).length = 0), (rfl : [] = (s.take 0).map (newNum nG now2)), H9.out⟩
              case round =>
                obtain ⟨j, xa, xc, xs, hj, rfl, rfl, HXL, HXS, H13⟩ := hrel
                have d1 := HD0.out _ H13.out.below
                by_cases hjn : j < ln
                · obtain ⟨bx, ox, hA, hcx⟩ := (HRJ.out.grow H13.out.below).cells (by omega)
                  subst hA
                  have d2 := hcx j hjn
                  obtain ⟨x0, x1⟩ := HVX.out j hjn
                  have htk := take_gi s j (by rw [HLN.out]; exact hjn)
                  obtain ⟨x, hx⟩ : ∃ x, gi s j = x := ⟨_, rfl⟩
                  rw [hx] at d2 x0 x1 htk
                  have HTK := Lib.hid htk
                  have hns := newNum_set (n := nG) (now := now) (i := i) (v := (nG : Int) + (o : Int)) x1
                  rw [HN2.out] at hns
                  have HNS := Lib.hid hns
                  have j0 : (0 : Int) ≤ (j : Int) := by omega
                  have j1 : (j : Int) < (ln : Int) := by omega
                  clear hcx hx htk hns
                  by_cases hge : (nG : Int) ≤ x
                  · have e1 : decide ((nG : Int) ≤ x) = true := by simpa using hge
                    obtain ⟨y, hy⟩ : ∃ y : Nat, x - (nG : Int) = (y : Int) := ⟨(x - nG).toNat, by omega⟩
                    have hyi : y < nL := by omega
                    have y0 : (0 : Int) ≤ (y : Int) := by omega
                    have y1 : (y : Int) < (nL : Int) := by omega
                    have h15 : St w1.heap.size w1 wr (star (sl (some ob) nL nL 3 1 (ints now)) (star (sli 3 xa xc xs) (star (sl (some nb) nL nL 4 1 (bls N)) (rwsHP 51 oa oc W)))) := H13.out.conseq (by ac_rfl)
                    have d8 : wr.cell? ⟨ob, y, none⟩ = some (.int .i64 (gi now y)) := by rw [h15.sl_cell y (by rw [ints_length, HNW.out]; exact hyi), ints_get now y (by rw [HNW.out]; exact hyi)]
                    obtain ⟨v, hv⟩ : ∃ v, gi now y = v := ⟨_, rfl⟩
                    rw [hv] at d8
                    have HNN := Lib.hid (show newNum nG now2 x = v by rw [HNS.out]; unfold newNum; rw [if_pos hge, hy, Int.toNat_natCast, hv])
                    clear h15 hv hge hyi
                    go_wp2_with (at_builtin; refine wpList_append_int rfl _ _ 51 3 rfl Try.underlying51 Try.infoInt H13.out j HXL.out rfl v rfl (by omega) ?_; intro b' cc7 w7 h7; have H7 := Lib.hid h7; clear h7)
                    go_roundw
                    case rel => exact ⟨j + 1, some b', cc7, xs ++ [v], by omega, by go_num, rfl, (by rw [List.length_append, HXL.out]; rfl : (xs ++ [v]).length = j + 1), (by rw [HTK.out, List.map_append, List.map_cons, List.map_nil, HNN.out, HXS.out] : xs ++ [v] = (s.take (j + 1)).map (newNum nG now2)), H7.out⟩
                    case measure => simp [intOf]; omega
                  · have e1 : decide ((nG : Int) ≤ x) = false := by simpa using hge
                    have HNN := Lib.hid (show newNum nG now2 x = x by unfold newNum; rw [if_neg hge])
                    clear hge
                    go_wp2_with (at_builtin; refine wpList_append_int rfl _ _ 51 3 rfl Try.underlying51 Try.infoInt H13.out j HXL.out rfl x rfl (by omega) ?_; intro b' cc7 w7 h7; have H7 := Lib.hid h7; clear h7)
                    go_roundw
                    case rel => exact ⟨j + 1, some b', cc7, xs ++ [x], by omega, by go_num, rfl, (by rw [List.length_append, HXL.out]; rfl : (xs ++ [x]).length = j + 1), (by rw [HTK.out, List.map_append, List.map_cons, List.map_nil, HNN.out, HXS.out] : xs ++ [x] = (s.take (j + 1)).map (newNum nG now2)), H7.out⟩
                    case measure => simp [intOf]; omega
                · obtain rfl : j = ln := by omega
                  have HC := Lib.hid (show xs = s.map (newNum nG now2) by have := HXS.out; rwa [List.take_of_length_le (by rw [HLN.out]; exact Nat.le_refl _)] at this)
                  have h14 : St w1.heap.size w1 wr (star (sl (some ob) nL nL 3 1 (ints now)) (star (rwsHP 51 oa oc W) (star (sli 3 xa xc xs) (sl (some nb) nL nL 4 1 (bls N))))) := H13.out.conseq (by ac_rfl)
                  have H14 := Lib.hid h14
                  clear h14
                  go_wp2_with (first
                    | (refine wpList_store_sl rfl 3 _ _ rfl Try.sizeI H14.out i (.int .i64 ((nG : Int) + (o : Int))) rfl rfl rfl (by rw [ints_length, HNW.out]; exact HI.out) ?_; intro w5 h5; have h10 := rws_focus (h5.conseq (show _ = star (rwsHP 51 oa oc W) (star (sl (some ob) nL nL 3 1 (ints now2)) (star (sli 3 xa xc xs) (sl (some nb) nL nL 4 1 (bls N)))) by rw [ints_set, HN2.out]; ac_rfl)) HWL.out; have H10 := Lib.hid h10; clear h5 h10)
                    | (at_builtin; refine wpList_append1 rfl _ _ 22 51 (.slice none 0 0) 24 rfl Try.underlying22 Try.infoRow rfl H10.out rfl (.slice (xa.map fun b => ⟨b, 0, none⟩) j xc) rfl rfl (by omega) (by simp only [maxLen]; omega) ?_; intro b' c' w8 h8; have H8 := Lib.hid h8; clear h8))
                  have h15 := rws_push (F := star (sl (some ob) nL nL 3 1 (ints now2)) (sl (some nb) nL nL 4 1 (bls N))) (ka := xa) (kc := xc) (l := xs) HWL.out (by rw [HXL.out]; exact H8.out.conseq (by ac_rfl))
                  have H15 := Lib.hid (h15.conseq (show _ = star (sl (some ob) nL nL 3 1 (ints now2)) (star (sl (some nb) nL nL 4 1 (bls N)) (rwsHP 51 (some b') c' (W ++ [(xa, xc, xs)]))) by ac_rfl))
                  clear h15
                  go_wp2
                  go_roundw
                  case rel =>
                    refine ⟨i + 1, o + 1, now2, some b', c', W ++ [(xa, xc, xs)], by omega, by omega, by go_num, rfl, (by rw [List.length_append, HWL.out]; rfl : (W ++ [(xa, xc, xs)]).length = o + 1), HNW2.out, H15.out, (?_ : trimGo nG N (i + 1) now2 ((W ++ [(xa, xc, xs)]).map fun x => x.2.2) (l.drop (i + 1)) = trimL nG l)⟩
                    rw [List.map_append, List.map_cons, List.map_nil, HC.out]
                    exact HT3.out
                  case measure => simp [intOf]; omega
          · obtain rfl : i = nL := by omega
            have hfin := HTG.out
            rw [List.drop_of_length_le (by rw [HNL.out]; exact Nat.le_refl _), trimGo] at hfin
            have hts := trimGo_sum nG N l 0 (zeros i) []
            rw [HTL.out, ← hfin, HNL.out, List.length_map, HWL.out] at hts
            simp only [List.length_nil, List.map_nil, List.sum_nil, Nat.zero_add] at hts
            have hsl := HSL.out
            have hrw : St w1.heap.size w1 wr (star (rwsHP 51 oa oc W) (star (sl (some ob) i i 3 1 (ints now)) (sl (some nb) i i 4 1 (bls N)))) := H6.out.conseq (by ac_rfl)
            have hrd := rws_rd hrw (fun x hx => by
              have := mem_sum (l := W.map fun x => x.2.2) (List.mem_map.2 ⟨x, hx, rfl⟩)
              omega) (by rw [HWL.out]; omega)
            rw [HWL.out] at hrd
            have HEN := Lib.hid (rencode_any (oa.map fun b => ⟨b, 0, none⟩) o oc (W.map fun x => x.2.2) wr hrd (by omega))
            have HFIN := Lib.hid hfin
            have HBW := Lib.hid (btr HB.out H6.out.below)
            clear hfin hts hsl hrw hrd HTG
            go_wp2_with fail
            refine HEN.out.mono ?_
            intro e w9 hp
            obtain ⟨A9, n9, c9, rfl, hb9, hr9, hc9, hm9⟩ := encU (encF (W.map fun x => x.2.2)).1 (encF (W.map fun x => x.2.2)).2 rfl hp
            have HP9 := Lib.hid (show EncU w (encF (trimL nG l)).1 0 (.returned (.tuple #[.slice A9 n9 c9, .int .i64 0])) w9 from ⟨A9, n9, c9, rfl, btr HBW.out hb9, by rw [← HFIN.out]; exact hr9, hc9, hm9⟩)
            clear hp hb9 hr9
            go_wp2
            go_ret2
            exact HTR.out _ _ HP9.out
      · obtain ⟨i, rfl⟩ : ∃ i, k = i + 1 := ⟨k - 1, by omega⟩
        obtain rfl : z = (i : Int) := by omega
        obtain ⟨ab, ao, hA, hc⟩ := HR.out.cells (by omega)
        subst hA
        obtain ⟨Aj, cj, d0, hrj⟩ := hc i (by omega)
        have hvx := HVAL.out i (by rw [HNL.out]; omega)
        have hng := HNG.out
        rw [needGo] at hng
        have hsm : (gl l i).length ≤ 100000 := by have := len_sum (l := l) (j := i) (by rw [HNL.out]; omega); have := HSL.out; omega
        obtain ⟨xs, hxs⟩ : ∃ xs, gl l i = xs := ⟨_, rfl⟩
        obtain ⟨ln, hln⟩ : ∃ ln, xs.length = ln := ⟨_, rfl⟩
        rw [hxs, hln] at d0 hrj hsm hvx
        rw [hxs] at hng
        have HD0 := Lib.hid (show ∀ V, Below w1.heap.size w1 V → V.cell? ⟨ab, ao + i, none⟩ = some (.slice Aj ln cj) from fun V hV => (hV.cell (World.block_lt_of_cell? w1 _ d0)).trans d0)
        have HRJ := Lib.hid hrj
        have HVX := Lib.hid hvx
        have HNG2 := Lib.hid hng
        have HLN := Lib.hid hln
        have k0 : (0 : Int) ≤ (i : Int) := by omega
        have k1 : (i : Int) < (nL : Int) := by omega
        have hi1 : i < nL := by omega
        clear hc d0 hrj hvx hng hxs hln hz HNG hk0
        go_wp2
        go_loopw [12] (fun v12 wr => ∃ (t : Nat) (M : List Bool), t ≤ ln ∧ v12 = .int .i64 t ∧ Hid (M.length = nL) ∧ Hid (St w1.heap.size w1 wr (star (sl (some nb) nL nL 4 1 (bls M)) emp)) ∧ Hid (markRow nG i M (xs.drop t) = markRow nG i N xs)) (fun v12 _ => ln - (intOf v12).toNat)
        case atStart => exact ⟨0, N, Nat.zero_le _, rfl, HNLEN.out, H.out, (rfl : markRow nG i N (xs.drop 0) = markRow nG i N xs)⟩
        case round =>
          obtain ⟨t, M, ht, rfl, HML, H2, HMK⟩ := hrel
          have d1 := HD0.out _ H2.out.below
          have d3 : _ = some (Value.bool (gb M i)) := (H2.out.sl_cell i (by rw [bls_length, HML.out]; exact hi1)).trans (bls_get (by rw [HML.out]; exact hi1))
          obtain ⟨g, hg⟩ : ∃ g, gb M i = g := ⟨_, rfl⟩
          rw [hg] at d3
          have HG := Lib.hid hg
          clear hg
          cases g with
          | false =>
            have hfin2 : M = markRow nG i N xs := by rw [← HMK.out, markRow_false HG.out]
            have HNG3 := Lib.hid (show needGo nG l i M = needF nG l by rw [hfin2]; exact HNG2.out)
            clear hfin2
            go_wp2
            go_roundw
            case rel => exact ⟨i, (i : Int) - 1, M, by omega, by go_num, rfl, HML.out, H2.out, HNG3.out⟩
            case measure => simp [intOf] <;> omega
          | true =>
            by_cases htn : t < ln
            · obtain ⟨bx, ox, hA, hcx⟩ := (HRJ.out.grow H2.out.below).cells (by omega)
              subst hA
              have d2 := hcx t htn
              obtain ⟨x0, x1⟩ := HVX.out t htn
              have hmk := HMK.out
              rw [List.drop_eq_getElem_cons (by rw [HLN.out]; exact htn), ← gi_eq xs t (by rw [HLN.out]; exact htn)] at hmk
              obtain ⟨x, hx⟩ : ∃ x, gi xs t = x := ⟨_, rfl⟩
              rw [hx] at d2 x0 x1 hmk
              have hmk2 : markRow nG i (mark1 nG i M x) (xs.drop (t + 1)) = markRow nG i N xs := hmk
              have HMK2 := Lib.hid hmk2
              have t0 : (0 : Int) ≤ (t : Int) := by omega
              have t1 : (t : Int) < (ln : Int) := by omega
              clear hcx hmk hmk2 hx HMK
              by_cases hge : (nG : Int) ≤ x
              · have e1 : decide ((nG : Int) ≤ x) = true := by simpa using hge
                obtain ⟨y, hy⟩ : ∃ y : Nat, x - (nG : Int) = (y : Int) := ⟨(x - nG).toNat, by omega⟩
                have hyi : y < nL := by omega
                have y0 : (0 : Int) ≤ (y : Int) := by omega
                have y1 : (y : Int) < (nL : Int) := by omega
                have hm1 : mark1 nG i M x = M.set y true := by
                  unfold mark1
                  rw [HG.out, e1, hy, Int.toNat_natCast]
                  rfl
                have HM1 := Lib.hid (hm1 ▸ HMK2.out)
                have HY := Lib.hid hyi
                clear hm1 hge hyi
                go_wp2_with (refine wpList_store_sl rfl 4 _ _ rfl Try.sizeBool H2.out y (.bool true) rfl rfl rfl (by rw [bls_length, HML.out]; exact HY.out) ?_; intro w4 h4; have h5 := h4.conseq (show _ = star (sl (some nb) nL nL 4 1 (bls (M.set y true))) emp by rw [bls_set]); have H5 := Lib.hid h5; clear h4 h5)
                go_roundw
                case rel => exact ⟨t + 1, M.set y true, by omega, by go_num, (by rw [List.length_set]; exact HML.out : (M.set y true).length = nL), H5.out, HM1.out⟩
                case measure => simp [intOf]; omega
              · have e1 : decide ((nG : Int) ≤ x) = false := by simpa using hge
                have hm1 : mark1 nG i M x = M := by unfold mark1; rw [HG.out, e1]; rfl
                have HM1 := Lib.hid (hm1 ▸ HMK2.out)
                clear hm1 hge
                go_wp2
                go_roundw
                case rel => exact ⟨t + 1, M, by omega, by go_num, HML.out, H2.out, HM1.out⟩
                case measure => simp [intOf]; omega
            · obtain rfl : t = ln := by omega
              have hfin := HMK.out
              rw [List.drop_of_length_le (by rw [HLN.out]; exact Nat.le_refl _)] at hfin
              have hfin2 : M = markRow nG i N xs := hfin
              have HNG3 := Lib.hid (show needGo nG l i M = needF nG l by rw [hfin2]; exact HNG2.out)
              clear hfin hfin2
              go_wp2
              go_roundw
              case rel => exact ⟨i, (i : Int) - 1, M, by omega, by go_num, rfl, HML.out, H2.out, HNG3.out⟩
              case measure => simp [intOf] <;> omega
  · have e0 : (kk != 0) = true := by simpa using hk0
    have HK0 := Lib.hid hk0
    clear hk0
    go_wp2
    go_ret2
    exact ⟨fun _ => ⟨Option.none, 0, 0, by rw [HKK.out]; rfl, HB0.out, RdB.none, Nat.le_refl _, by decide⟩, fun h => absurd (HKK.out.symm.trans h) HK0.out⟩
end Go.Proofs.Ytodmkcolamppmaa
