/-
  The contract of plaitref12's Check.
-/
import Derived.Test.YtodmkcolamppmaaRDer2
import Derived.Test.YtodmkcolamppmaaByte5
namespace Go.Proofs.Ytodmkcolamppmaa
open Go.RowKit Go.Proofs.PlaitSep Go.Proofs.PlaitPure

set_option maxRecDepth 100000 in
set_option maxHeartbeats 4000000 in
theorem rcheck_any (AG : Option Addr) (nG cG : Nat) (G : List (List Int)) (AB : Option Addr) (nB cB : Nat) (b : List Int) (w : World) (hG : Rd2 w AG nG G) (hB : RdB w AB nB b) (hby : IsBytes b) (hnG : nG ≤ 100000) (hnB : nB ≤ 400000) (hcB : nB ≤ cB) (hcm : cB ≤ 9223372036854775807)
    (hsum : G.flatten.length ≤ 100000) :
    Calls Try.prog 27 #[.slice AG nG cG, .slice AB nB cB] w fun e w' => e = .returned (.int .i64 (chkF G b).2) ∧ Below w.heap.size w w' := by
  have HG := Lib.hid hG
  have HB := Lib.hid hB
  have HBY := Lib.hid hby
  have HSUM := Lib.hid hsum
  clear hG hB hby hsum
  go_enter Try.func27, Try.ntmps27
  go_wp2_with fail
  refine (rdecode_any AB nB cB b w HB.out HBY.out (by omega) hcB hcm).mono ?_
  rintro e w1 ⟨hb1, hgood, hbad⟩
  rcases decF_err b with h0 | ⟨h0, _⟩
  · obtain ⟨AL, cL, rfl, hrd, _⟩ := hgood h0
    have hsz := decF_size h0
    rw [HB.out.len] at hsz
    obtain ⟨l, hl⟩ : ∃ l, (decF b).1 = l := ⟨_, rfl⟩
    have hchk : chkF G b = match derGo G [] l with
      | none => ([], 121)
      | some D => if D.length = 0 ∨ 0 < (gl D (D.length - 1)).length then ([], 122) else (l, 0) := by
      unfold chkF
      rw [if_neg (by simpa using h0), hl]
      rfl
    rw [hl] at hrd hsz ⊢
    have hls : ∀ j, j < l.length → (gl l j).length ≤ 100000 := fun j hj => by have := len_sum hj; omega
    obtain ⟨nL, hnL⟩ : ∃ nL, l.length = nL := ⟨_, rfl⟩
    rw [hnL] at hrd hls hsz ⊢
    have hnl : nL ≤ 100000 := by omega
    have HD := Lib.hid (rDerive_any AG nG cG G AL nL cL l w1 (HG.out.grow hb1) hrd hnG hnl HSUM.out hls)
    have HCHK := Lib.hid hchk
    have HB1 := Lib.hid hb1
    have HNL := Lib.hid hnL
    clear hb1 hgood hbad h0 hrd hsz hl hchk hls hnL
    go_wp2_with fail
    refine HD.out.mono ?_
    rintro e w2 ⟨hb2, hgood, hbad⟩
    have HB2 := Lib.hid (btr HB1.out hb2)
    have HGOOD := Lib.hid hgood
    have HBAD := Lib.hid hbad
    clear hb2 hgood hbad HD
    cases hd : derGo G [] l with
    | none =>
      have he := HBAD.out hd
      subst he
      have HN := Lib.hid (show chkF G b = ([], 121) by rw [HCHK.out, hd])
      clear hd
      go_wp2
      go_ret
      exact ⟨by rw [HN.out]; rfl, HB2.out⟩
    | some D =>
      obtain ⟨AA, c, rfl, hrd, _⟩ := HGOOD.out D hd
      have HC2 := Lib.hid (show chkF G b = if D.length = 0 ∨ 0 < (gl D (D.length - 1)).length then ([], 122) else (l, 0) by rw [HCHK.out, hd])
      have hlen := derGo_len hd
      obtain ⟨n, hn⟩ : ∃ n, D.length = n := ⟨_, rfl⟩
      have hnn : n ≤ 100000 := by have := HNL.out; simp at hlen; omega
      rw [hn] at hrd ⊢
      have HR2 := Lib.hid hrd
      have HN := Lib.hid hn
      clear hd hlen hrd hn HGOOD HBAD HCHK
      by_cases hn0 : n = 0
      · subst hn0
        have HK := Lib.hid (show chkF G b = ([], 122) by rw [HC2.out, if_pos (.inl HN.out)])
        go_wp2
        go_ret
        exact ⟨by rw [HK.out]; rfl, HB2.out⟩
      · have e0 : ((n : Int) == 0) = false := by simp; omega
        obtain ⟨t, ht⟩ : ∃ t : Nat, n = t + 1 := ⟨n - 1, by omega⟩
        have htI : (n : Int) - 1 = (t : Int) := by omega
        obtain ⟨ab, ao, hA, hcell⟩ := HR2.out.cells (by omega)
        subst hA
        obtain ⟨Aj, cj, d1, _⟩ := hcell t (by omega)
        obtain ⟨ln, hln⟩ : ∃ ln, (gl D t).length = ln := ⟨_, rfl⟩
        rw [hln] at d1
        have hk : chkF G b = if 0 < ln then ([], 122) else (l, 0) := by
          rw [HC2.out, HN.out, show n - 1 = t by omega, hln]
          simp [hn0]
        have HK := Lib.hid hk
        have t0 : (0 : Int) ≤ (t : Int) := by omega
        have t1 : (t : Int) < (n : Int) := by omega
        clear hcell hln hk
        by_cases hl0 : 0 < ln
        · have e1 : decide ((0 : Int) < (ln : Int)) = true := by simp; omega
          have HK2 := Lib.hid (show chkF G b = ([], 122) by rw [HK.out, if_pos hl0])
          go_wp2
          go_ret
          exact ⟨by rw [HK2.out]; rfl, HB2.out⟩
        · have e1 : decide ((0 : Int) < (ln : Int)) = false := by simp; omega
          have HK2 := Lib.hid (show chkF G b = (l, 0) by rw [HK.out, if_neg hl0])
          go_wp2
          go_ret
          exact ⟨by rw [HK2.out]; rfl, HB2.out⟩
  · have he := hbad (by rw [h0]; decide)
    subst he
    have HN := Lib.hid (show chkF G b = ([], 120) by unfold chkF; rw [if_pos (by rw [h0]; decide), h0])
    have HB1 := Lib.hid hb1
    clear hgood hbad h0 hb1
    go_wp2
    go_ret
    exact ⟨by rw [HN.out]; rfl, HB1.out⟩
end Go.Proofs.Ytodmkcolamppmaa
