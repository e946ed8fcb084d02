/-
  The contracts of trace's checked and Check.
-/
import Derived.Test.YtodmkcolamppmaaDer7
import Derived.Test.YtodmkcolamppmaaByte4
namespace Go.Proofs.PlaitPure
/-- A trace's verdict. -/
def chkF (G : List (List Int)) (b : List Int) : List (List Int) × Int :=
  if (decF b).2 ≠ 0 then ([], (decF b).2) else match derGo G [] (decF b).1 with
    | none => ([], 121)
    | some D => if D.length = 0 ∨ 0 < (gl D (D.length - 1)).length then ([], 122) else ((decF b).1, 0)
theorem mem_sum {l : List (List Int)} {x : List Int} (h : x ∈ l) : x.length ≤ (l.map List.length).sum := by
  induction l with
  | nil => cases h
  | cons y r ih =>
    rw [List.map_cons, List.sum_cons]
    rcases List.mem_cons.1 h with rfl | h3
    · omega
    · have := ih h3; omega
theorem len_sum {l : List (List Int)} {j : Nat} (h : j < l.length) : (gl l j).length ≤ (l.map List.length).sum := by
  rw [gl_eq l j h]
  exact mem_sum (List.getElem_mem h)
end Go.Proofs.PlaitPure
namespace Go.Proofs.Ytodmkcolamppmaa
open Go.RowKit Go.Proofs.PlaitSep Go.Proofs.PlaitPure

/-- What checked hands back. -/
def ChkPost (w : World) (r : List (List Int) × Int) (e : Ending) (w' : World) : Prop :=
  Below w.heap.size w w' ∧ (r.2 = 0 → ∃ A c, e = .returned (.tuple #[.slice A r.1.length c, .int .i64 0]) ∧ Rd2 w' A r.1.length r.1 ∧ Caps w' A r.1.length) ∧
    (r.2 ≠ 0 → e = .returned (.tuple #[.slice none 0 0, .int .i64 r.2]))
theorem chkPost_bad {w w' : World} {r : List (List Int) × Int} {k : Int} (hb : Below w.heap.size w w') (h : r = ([], k)) (hk : k ≠ 0) : ChkPost w r (.returned (.tuple #[.slice none 0 0, .int .i64 k])) w' := by
  subst h
  exact ⟨hb, fun h => absurd h hk, fun _ => rfl⟩
set_option maxRecDepth 100000 in
set_option maxHeartbeats 4000000 in
theorem checked_any (AG : Option Addr) (nG cG : Nat) (G : List (List Int)) (AB : Option Addr) (nB cB : Nat) (b : List Int) (w : World) (hG : Rd2 w AG nG G) (hB : RdB w AB nB b) (hby : IsBytes b) (hnG : nG ≤ 1000000) (hnB : nB ≤ 400000) (hcB : nB ≤ cB) (hcm : cB ≤ 9223372036854775807)
    (hsum : G.flatten.length ≤ 1000000) :
    Calls Try.prog 44 #[.slice AG nG cG, .slice AB nB cB] w (ChkPost w (chkF G b)) := by
  have HG := Lib.hid hG
  have HB := Lib.hid hB
  have HBY := Lib.hid hby
  have HSUM := Lib.hid hsum
  clear hG hB hby hsum
  go_enter Try.func44, Try.ntmps44
  go_wp2_with fail
  refine (decode_any AB nB cB b w HB.out HBY.out (by omega) hcB hcm).mono ?_
  rintro e w1 ⟨hb1, hgood, hbad⟩
  rcases decF_err b with h0 | ⟨h0, _⟩
  · obtain ⟨AL, cL, rfl, hrd, hcap⟩ := hgood h0
    have hsz := decF_size h0
    rw [HB.out.len] at hsz
    obtain ⟨l, hl⟩ : ∃ l, (decF b).1 = l := ⟨_, rfl⟩
    have hchk : chkF G b = match derGo G [] l with
      | none => ([], 121)
      | some D => if D.length = 0 ∨ 0 < (gl D (D.length - 1)).length then ([], 122) else (l, 0) := by
      unfold chkF
      rw [if_neg (by simpa using h0), hl]
    rw [hl] at hrd hcap hsz ⊢
    have hls : ∀ j, j < l.length → (gl l j).length ≤ 100000 := fun j hj => by have := len_sum hj; omega
    obtain ⟨nL, hnL⟩ : ∃ nL, l.length = nL := ⟨_, rfl⟩
    rw [hnL] at hrd hcap hls hsz ⊢
    have hnl : nL ≤ 100000 := by omega
    have HD := Lib.hid (derive_any AG nG cG G AL nL cL l w1 (HG.out.grow hb1) hrd hcap hnG (by omega) HSUM.out hls)
    have HRD := Lib.hid hrd
    have HCAP := Lib.hid hcap
    have HCHK := Lib.hid hchk
    have HB1 := Lib.hid hb1
    have HNL := Lib.hid hnL
    clear hb1 hgood hbad h0 hrd hcap hsz hl hchk hls hnL
    go_wp2_with fail
    refine HD.out.mono ?_
    rintro e w2 ⟨hb2, hgood, hbad⟩
    have HB2 := Lib.hid (HB1.out.trans (hb2.mono HB1.out.size))
    have HRD2 := Lib.hid (HRD.out.grow hb2)
    have HCAP2 := Lib.hid (HCAP.out.grow HRD.out hb2)
    have HGOOD := Lib.hid hgood
    have HBAD := Lib.hid hbad
    clear hb2 hgood hbad HD
    cases hd : derGo G [] l with
    | none =>
      have he := HBAD.out hd
      subst he
      have HN := Lib.hid (show chkF G b = ([], 121) by rw [HCHK.out, hd])
      clear hd
      go_wp2
      go_ret2
      exact chkPost_bad HB2.out HN.out (by decide)
    | some D =>
      obtain ⟨a, c, V, rfl, hst, hrv, _⟩ := HGOOD.out D hd
      have HC2 := Lib.hid (show chkF G b = if D.length = 0 ∨ 0 < (gl D (D.length - 1)).length then ([], 122) else (l, 0) by rw [HCHK.out, hd])
      have hlen := derGo_len hd
      obtain ⟨n, hn⟩ : ∃ n, D.length = n := ⟨_, rfl⟩
      have hnn : n ≤ 1000000 := by have := HNL.out; simp at hlen; omega
      have hrd := hrv.rd2 hst (by have := HRD.out.small; omega)
      have HR := Lib.hid hrd
      rw [hn]
      obtain ⟨AA, hAA⟩ : ∃ AA : Option Addr, (a.map fun b => ⟨b, 0, none⟩) = AA := ⟨_, rfl⟩
      rw [hAA]
      have HR2 := Lib.hid (show Rd2 w2 AA n D by rw [← hn, ← hAA]; exact HR.out)
      have HN := Lib.hid hn
      clear hd hst hrv hlen hrd hn hAA HR HGOOD HBAD HCHK
      by_cases hn0 : n = 0
      · subst hn0
        have hk : chkF G b = ([], 122) := by rw [HC2.out, if_pos (.inl HN.out)]
        have HK := Lib.hid hk
        clear hk
        go_wp2
        go_ret2
        exact chkPost_bad HB2.out HK.out (by decide)
      · have e0 : ((n : Int) == 0) = false := by simp; omega
        obtain ⟨t, ht⟩ : ∃ t : Nat, n = t + 1 := ⟨n - 1, by omega⟩
        have hwr : IntKind.i64.wrap ((n : Int) - 1) = (t : Int) := by rw [show (n : Int) - 1 = (t : Int) by omega]; exact IntWalk.i64_in _ (by omega)
        have htI : (n : Int) - 1 = (t : Int) := by omega
        obtain ⟨ab, ao, hA, hcell⟩ := HR2.out.cells (by omega)
        subst hA
        obtain ⟨Aj, cj, d1, _⟩ := hcell t (by omega)
        obtain ⟨ln, hln⟩ : ∃ ln, (gl D t).length = ln := ⟨_, rfl⟩
        rw [hln] at d1
        have hk : chkF G b = if 0 < ln then ([], 122) else (l, 0) := by
          rw [HC2.out, HN.out, show n - 1 = t by omega, hln]
          simp [hn0]
        have HK := Lib.hid hk
        have t0 : (0 : Int) ≤ (t : Int) := by omega
        have t1 : (t : Int) < (n : Int) := by omega
        clear hcell hln hk
        by_cases hl0 : 0 < ln
        · have e1 : decide ((0 : Int) < (ln : Int)) = true := by simp; omega
          have HK2 := Lib.hid (show chkF G b = ([], 122) by rw [HK.out, if_pos hl0])
          go_wp2
          go_ret2
          exact chkPost_bad HB2.out HK2.out (by decide)
        · have e1 : decide ((0 : Int) < (ln : Int)) = false := by simp; omega
          have HK2 := Lib.hid (show chkF G b = (l, 0) by rw [HK.out, if_neg hl0])
          go_wp2
          go_ret2
          refine ⟨HB2.out, fun _ => ?_, fun h => absurd (by rw [HK2.out]) h⟩
          rw [HK2.out]
          exact ⟨AL, cL, by rw [HNL.out]; rfl, by rw [HNL.out]; exact HRD2.out, by rw [HNL.out]; exact HCAP2.out⟩
  · have he := hbad (by rw [h0]; decide)
    subst he
    have HN := Lib.hid (show chkF G b = ([], 120) by unfold chkF; rw [if_pos (by rw [h0]; decide), h0])
    have HB1 := Lib.hid hb1
    clear hgood hbad h0 hb1
    go_wp2
    go_ret2
    exact chkPost_bad HB1.out HN.out (by decide)
theorem chkF_err (G : List (List Int)) (b : List Int) : (chkF G b).2 = 0 ∨ (chkF G b).2 = 120 ∨ (chkF G b).2 = 121 ∨ (chkF G b).2 = 122 := by
  unfold chkF
  split
  · rcases decF_err b with h | ⟨h, _⟩
    · exact .inl h
    · exact .inr (.inl h)
  · split
    · exact .inr (.inr (.inl rfl))
    · split
      · exact .inr (.inr (.inr rfl))
      · exact .inl rfl
set_option maxRecDepth 100000 in
set_option maxHeartbeats 2000000 in
theorem check_any (AG : Option Addr) (nG cG : Nat) (G : List (List Int)) (AB : Option Addr) (nB cB : Nat) (b : List Int) (w : World) (hG : Rd2 w AG nG G) (hB : RdB w AB nB b) (hby : IsBytes b) (hnG : nG ≤ 1000000) (hnB : nB ≤ 400000) (hcB : nB ≤ cB) (hcm : cB ≤ 9223372036854775807)
    (hsum : G.flatten.length ≤ 1000000) :
    Calls Try.prog 26 #[.slice AG nG cG, .slice AB nB cB] w fun e w' => e = .returned (.int .i64 (chkF G b).2) ∧ Below w.heap.size w w' := by
  have HD := Lib.hid (checked_any AG nG cG G AB nB cB b w hG hB hby hnG hnB hcB hcm hsum)
  clear hG hB hby hsum
  go_enter Try.func26, Try.ntmps26
  go_wp2_with fail
  refine HD.out.mono ?_
  rintro e w1 ⟨hb, hgood, hbad⟩
  have HB := Lib.hid hb
  obtain ⟨A, n, c, k, rfl, hk⟩ : ∃ A n c k, e = .returned (.tuple #[.slice A n c, .int .i64 k]) ∧ (chkF G b).2 = k := by
    by_cases h : (chkF G b).2 = 0
    · obtain ⟨A, c, he, _⟩ := hgood h
      exact ⟨A, _, c, 0, he, h⟩
    · exact ⟨none, 0, 0, _, hbad h, rfl⟩
  have HK := Lib.hid hk
  clear hb hgood hbad hk HD
  go_wp2
  go_ret
  exact ⟨by rw [HK.out]; rfl, HB.out⟩
end Go.Proofs.Ytodmkcolamppmaa
