/-
  The contract of trace's clause.
-/
import Derived.Test.YtodmkcolamppmaaDer3
namespace Go.Proofs.Ytodmkcolamppmaa
open Go.RowKit Go.Proofs.PlaitSep Go.Proofs.PlaitPure

/-- The deriver at p: the given clauses and those derived. -/
structure DerAt (V : World) (p : Nat) (AG : Option Addr) (nG cG : Nat) (AD : Option Addr) (nD cD : Nat) (G D : List (List Int)) : Prop where
  c0 : V.cell? ⟨p, 0, none⟩ = some (.slice AG nG cG)
  c1 : V.cell? ⟨p, 1, none⟩ = some (.slice AD nD cD)
  rg : Rd2 V AG nG G
  rd : Rd2 V AD nD D
theorem DerAt.grow {V V' : World} {p : Nat} {AG : Option Addr} {nG cG : Nat} {AD : Option Addr} {nD cD : Nat} {G D : List (List Int)} (h : DerAt V p AG nG cG AD nD cD G D) (hb : Below V.heap.size V V') : DerAt V' p AG nG cG AD nD cD G D :=
  ⟨(hb.cell (World.block_lt_of_cell? V _ h.c0)).trans h.c0, (hb.cell (World.block_lt_of_cell? V _ h.c1)).trans h.c1, h.rg.grow hb, h.rd.grow hb⟩
/-- A clause, or none: what is handed back. -/
def ClPost (w : World) (r : Option (List Int)) (e : Ending) (w' : World) : Prop :=
  Below w.heap.size w w' ∧ (∀ c, r = some c → ∃ A k, e = .returned (.tuple #[.slice A c.length k, .bool true]) ∧ Rd w' A c.length c) ∧
    (r = none → e = .returned (.tuple #[.slice none 0 0, .bool false]))
theorem clPost_none {w w' : World} {r : Option (List Int)} (hb : Below w.heap.size w w') (h : r = none) : ClPost w r (.returned (.tuple #[.slice none 0 0, .bool false])) w' :=
  ⟨hb, fun c hc => (by rw [h] at hc; cases hc), fun _ => rfl⟩
theorem drewN_below (w : World) (n : Nat) : Below w.heap.size w (w.drewN n) := ⟨rfl, rfl, rfl, Nat.le_refl _, fun _ _ => rfl⟩
set_option maxRecDepth 100000 in
set_option maxHeartbeats 2000000 in
theorem clause_any (p : Nat) (AG : Option Addr) (nG cG : Nat) (AD : Option Addr) (nD cD : Nat) (G D : List (List Int)) (q : Int) (w : World) (h : DerAt w p AG nG cG AD nD cD G D) (hG : nG ≤ 1000000) (hD : nD ≤ 1000000) (hGs : ∀ g ∈ G, g.length ≤ 1000000) :
    Calls Try.prog 48 #[.pointer (some ⟨p, 0, none⟩), .int .i64 q] w (ClPost w (clauseF G D q)) := by
  have c0 := h.c0
  have c1 := h.c1
  have H := Lib.hid h
  have HGS := Lib.hid hGs
  have hlG := h.rg.len
  have hlD := h.rd.len
  have HLG := Lib.hid hlG
  have HLD := Lib.hid hlD
  clear h hGs hlG hlD
  by_cases h0 : q < 0
  · have e0 : decide (q < 0) = true := by simpa using h0
    have hn : clauseF G D q = none := by unfold clauseF; rw [if_pos (.inl h0)]
    have HN := Lib.hid hn
    clear hn
    go_enter Try.func48, Try.ntmps48
    go_wp2
    go_quiet (fail)
    go_wp2
    go_ret2
    exact clPost_none (drewN_below _ _) HN.out
  · have e0 : decide (q < 0) = false := by simpa using h0
    by_cases h1 : (nG : Int) + nD ≤ q
    · have e1 : decide ((nG : Int) + (nD : Int) ≤ q) = true := by simpa using h1
      have hn : clauseF G D q = none := by unfold clauseF; rw [if_pos (.inr (by rw [HLG.out, HLD.out]; exact h1))]
      have HN := Lib.hid hn
      clear hn
      go_enter Try.func48, Try.ntmps48
      go_wp2
      go_quiet (fail)
      go_wp2
      go_ret2
      exact clPost_none (drewN_below _ _) HN.out
    · have e1 : decide ((nG : Int) + (nD : Int) ≤ q) = false := by simpa using h1
      obtain ⟨Q, rfl⟩ : ∃ Q : Nat, q = Q := ⟨q.toNat, by omega⟩
      by_cases h2 : Q < nG
      · have e2 : decide ((Q : Int) < (nG : Int)) = true := by simp; omega
        have hc : clauseF G D Q = setF (gl G Q) := by
          unfold clauseF
          rw [if_neg (by rw [HLG.out, HLD.out]; omega), if_pos (by rw [HLG.out]; omega), Int.toNat_natCast]
        obtain ⟨bg, og, hA, hcell⟩ := H.out.rg.cells (by omega)
        subst hA
        obtain ⟨Aj, cj, d1, hrj⟩ := hcell Q h2
        have hsm : (gl G Q).length ≤ 1000000 := HGS.out _ (by rw [gl_eq G Q (by rw [HLG.out]; exact h2)]; exact List.getElem_mem _)
        obtain ⟨xs, hxs⟩ : ∃ xs, gl G Q = xs := ⟨_, rfl⟩
        obtain ⟨ln, hln⟩ : ∃ ln, xs.length = ln := ⟨_, rfl⟩
        rw [hxs, hln] at d1 hrj hsm
        rw [hxs] at hc
        have HC := Lib.hid hc
        have HRJ := Lib.hid hrj
        have q0 : (0 : Int) ≤ (Q : Int) := by omega
        have q1 : (Q : Int) < (nG : Int) := by omega
        clear hcell hxs hln hc hrj
        go_enter Try.func48, Try.ntmps48
        go_wp2
        go_quiet (fail)
        go_wp2_with fail
        refine (tset_any Aj ln cj xs (w.drewN nq) (HRJ.out.drawn ⟨nq, rfl⟩) hsm).mono ?_
        rintro e w2 ⟨hb, hgood, hbad⟩
        have HB := Lib.hid ((drewN_below w nq).trans hb)
        have HGOOD := Lib.hid hgood
        have HBAD := Lib.hid hbad
        clear hb hgood hbad
        cases hs : setF xs with
        | none =>
          have he := HBAD.out hs
          subst he
          have HS := Lib.hid hs
          clear hs
          go_wp2
          go_ret2
          exact clPost_none HB.out (HC.out.trans HS.out)
        | some s =>
          obtain ⟨A, k, rfl, hrd⟩ := HGOOD.out s hs
          have HRD := Lib.hid hrd
          have HS := Lib.hid hs
          clear hs hrd
          go_wp2
          go_ret2
          refine ⟨HB.out, fun c hc => ?_, fun hc => (by rw [HC.out, HS.out] at hc; cases hc)⟩
          rw [HC.out, HS.out] at hc
          cases hc
          exact ⟨A, k, rfl, HRD.out⟩
      · have e2 : decide ((Q : Int) < (nG : Int)) = false := by simp; omega
        have hc : clauseF G D Q = some (gl D (Q - nG)) := by
          unfold clauseF
          rw [if_neg (by rw [HLG.out, HLD.out]; omega), if_neg (by rw [HLG.out]; omega), HLG.out]
          congr 2
          omega
        obtain ⟨t, ht⟩ : ∃ t : Nat, (Q : Int) - (nG : Int) = t := ⟨Q - nG, by omega⟩
        have htn : t < nD := by omega
        obtain ⟨bg, og, hA, hcell⟩ := H.out.rd.cells (by omega)
        subst hA
        obtain ⟨Aj, cj, d1, hrj⟩ := hcell t htn
        rw [show Q - nG = t by omega] at hc
        obtain ⟨xs, hxs⟩ : ∃ xs, gl D t = xs := ⟨_, rfl⟩
        obtain ⟨ln, hln⟩ : ∃ ln, xs.length = ln := ⟨_, rfl⟩
        rw [hxs, hln] at d1 hrj
        rw [hxs] at hc
        have HC := Lib.hid hc
        have HLN := Lib.hid hln
        have HRJ := Lib.hid hrj
        have q0 : (0 : Int) ≤ (t : Int) := by omega
        have q1 : (t : Int) < (nD : Int) := by omega
        have hwr : IntKind.i64.wrap ((Q : Int) - (nG : Int)) = (t : Int) := by rw [ht]; exact IntWalk.i64_in _ (by omega)
        clear hcell hxs hln hc hrj
        go_enter Try.func48, Try.ntmps48
        go_wp2
        go_quiet (fail)
        revert nq
        intro nqa
        go_wp2
        go_quiet (fail)
        go_wp2
        go_ret2
        refine ⟨(drewN_below w nqa).trans (drewN_below (w.drewN nqa) nq), fun c hc => ?_, fun hc => (by rw [HC.out] at hc; cases hc)⟩
        rw [HC.out] at hc
        cases hc
        exact ⟨Aj, cj, by rw [HLN.out]; rfl, by rw [HLN.out]; exact HRJ.out.heap rfl⟩
end Go.Proofs.Ytodmkcolamppmaa
