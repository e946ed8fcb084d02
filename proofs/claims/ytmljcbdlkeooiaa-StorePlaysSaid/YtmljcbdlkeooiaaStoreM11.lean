/-
  Following ends; what is true of two answers. No program and no memory in sight.
-/
import Derived.Test.YtmljcbdlkeooiaaStoreM10
namespace Go.Proofs.PlaitPure
theorem scanStep_next (l : Int) (S : SM) (R : RM) (kept : List Nat) (ref : Nat) (rest : List Nat) : (scanStep l S R kept ref rest).2.2.next = R.next := by
  have hf := lookF_found S R ref l kept rest
  unfold scanStep
  obtain ⟨k, hkk⟩ : ∃ k, lookF S R ref l = k := ⟨_, rfl⟩
  rw [hkk] at hf ⊢
  cases hf <;> rfl
theorem scanF_next (l : Int) : ∀ (rest : List Nat) (S : SM) (R : RM) (kept : List Nat), (scanF l S R kept rest).R.next = R.next
  | [], _, _, _ => rfl
  | ref :: rest, S, R, kept => by
    rw [scanF_cons]
    split
    · exact scanStep_next l S R kept ref rest
    · rw [scanF_next l rest]; exact scanStep_next l S R kept ref rest
theorem followF_some : ∀ (fuel : Nat) (S : SM) (R : RM), S.Inv → R.Inv → 65537 < fuel + R.next → ∃ res, followF fuel S R = some res
  | 0, S, R, hS, hR, hf => by have := hR.room; have := hR.next; omega
  | n + 1, S, R, hS, hR, hf => by
    rw [followF]
    split
    · rename_i hn
      split
      · rename_i hi
        have hsc := scanF_inv _ _ _ _ _ (scan_start hS hR hn hi)
        have hnx := scanF_next R.lit (S.getW (idx R.lit)) S R []
        simp only
        split
        · exact ⟨_, rfl⟩
        · refine followF_some n _ _ hsc.1 (hsc.2.1.step hsc.2.2) ?_
          show 65537 < n + ((scanF R.lit S R [] (S.getW (idx R.lit))).R.next + 1)
          rw [hnx]; omega
      · refine followF_some n _ _ hS (hR.step hn) ?_
        show 65537 < n + (R.next + 1)
        omega
    · exact ⟨_, rfl⟩
theorem litsF_some (fuel : Nat) (hf : 65537 < fuel) : ∀ (l : List Int) (S : SM) (R : RM), S.Inv → R.Inv → ∃ res, litsF fuel S R l = some res
  | [], S, R, hS, hR => ⟨_, rfl⟩
  | x :: rest, S, R, hS, hR => by
    rw [litsF]
    split
    · exact ⟨_, rfl⟩
    · rename_i hg
      have hl : litB x = true := by
        cases hl : litB x with
        | true => rfl
        | false => exact absurd (.inl hl) hg
      split
      · exact litsF_some fuel hf rest S R hS hR
      · rename_i hp
        have h0 : R.is x = 0 := by
          have : ¬ R.is x < 0 := fun h => hg (.inr h)
          omega
        obtain ⟨r, hr⟩ := followF_some fuel S (R.set x) hS (hR.set hl h0) (by omega)
        have hi := followF_inv fuel S (R.set x) r hS (hR.set hl h0) hr
        obtain ⟨S', R', b⟩ := r
        rw [hr]
        cases b with
        | some b => exact ⟨_, rfl⟩
        | none => exact litsF_some fuel hf rest S' R' hi.1 hi.2
def fuelN : Nat := 65538
theorem followAll_some (S : SM) (T : List Int) (hS : S.Inv) : ∃ res, followAll fuelN S T = some res := by
  unfold followAll beginF
  have hb := beginScan_inv hS S.shortN RM.start (fun i hi => (SM.shortN_mem.1 hi).1) RM.start_inv
  obtain ⟨sc, hsc⟩ : ∃ sc, beginScan S RM.start S.shortN = sc := ⟨_, rfl⟩
  rw [hsc] at hb ⊢
  obtain ⟨R0, b0⟩ := sc
  cases b0 with
  | some b => exact ⟨_, rfl⟩
  | none =>
    obtain ⟨r, hr⟩ := followF_some fuelN S R0 hS hb (by unfold fuelN; omega)
    have hi := followF_inv fuelN S R0 r hS hb hr
    simp only
    rw [hr]
    obtain ⟨S', R', b⟩ := r
    cases b with
    | some b => exact ⟨_, rfl⟩
    | none => exact litsF_some fuelN (by unfold fuelN; omega) T S' R' hi.1 hi.2
/-- What follows is true under every assignment that makes the clauses and the literals true. -/
theorem Just.closed {C : List (List Int)} {T out : List Int} (h : Just C T out) {M : List Int} (hT : ∀ x ∈ T, x ∈ M)
    (hC : ∀ c ∈ C, ∀ x ∈ c, (∀ y ∈ c, y ≠ x → -y ∈ M) → x ∈ M) : ∀ x ∈ out, x ∈ M := by
  induction h with
  | nil => intro x hx; cases hx
  | snoc h hx ih =>
    intro y hy
    rcases List.mem_append.1 hy with hy | hy
    · exact ih y hy
    · rw [List.mem_singleton.1 hy]
      rcases hx with hx | ⟨c, hc, hxc, hall⟩
      · exact hT _ hx
      · exact hC c hc _ hxc fun z hz hne => ih _ (hall z hz hne)
def COk (C : List (List Int)) : Prop := ∀ c ∈ C, c.Nodup ∧ (∀ x ∈ c, litB x = true) ∧ ∀ x ∈ c, -x ∉ c
theorem SM.Inv.cok {S : SM} (h : S.Inv) : COk S.C := by
  intro c hc
  unfold SM.C at hc
  rw [List.mem_map] at hc
  obtain ⟨cl, hcl, rfl⟩ := hc
  obtain ⟨i, hi, rfl⟩ := List.getElem_of_mem hcl
  rw [← S.cl_eq hi]
  have := h.cl i hi
  exact ⟨this.nodup, this.lits, this.apart⟩
def Full (C : List (List Int)) (out : List Int) : Prop := ∀ c ∈ C, (∃ y ∈ c, y ∈ out) ∨ ∃ i j, i < c.length ∧ j < c.length ∧ i ≠ j ∧ -gi c i ∉ out ∧ -gi c j ∉ out
def Parts (out : List Int) : Prop := (∀ x ∈ out, litB x = true) ∧ out.Nodup ∧ ∀ x ∈ out, -x ∉ out
/-- All that follows from P, and no more. -/
structure ClosedAt (C : List (List Int)) (P O : List Int) : Prop where
  parts : Parts O
  just : Just C P O
  sub : ∀ x ∈ P, x ∈ O
  full : Full C O
/-- Where all but one literal of a clause are false, that one is there. -/
theorem Full.closed {C : List (List Int)} {out : List Int} (hC : COk C) (hp : Parts out) (h : Full C out) : ∀ c ∈ C, ∀ x ∈ c, (∀ y ∈ c, y ≠ x → -y ∈ out) → x ∈ out := by
  intro c hc x hx hall
  rcases h c hc with ⟨y, hy, ho⟩ | ⟨i, j, hi, hj, hne, h1, h2⟩
  · by_cases e : y = x
    · rw [← e]; exact ho
    · exact absurd (hall y hy e) (hp.2.2 y ho)
  · by_cases e1 : gi c i = x
    · by_cases e2 : gi c j = x
      · exact absurd (gi_inj (hC c hc).1 hi hj (e1.trans e2.symm)) hne
      · exact absurd (hall _ (getL_mem hj) e2) h2
    · exact absurd (hall _ (getL_mem hi) e1) h1
/-- A clause of which all is false is not among those of a closed set. -/
theorem Full.noFalse {C : List (List Int)} {out out' : List Int} {b : Nat} (hp : Parts out') (h : Full C out') (hs : ∀ x ∈ out, x ∈ out') : ¬ allFalse C out b := by
  rintro ⟨c, hc, hall⟩
  rcases h c (List.mem_of_getElem? hc) with ⟨y, hy, ho⟩ | ⟨i, j, hi, hj, hne, h1, h2⟩
  · exact hp.2.2 y ho (hs _ (hall y hy))
  · exact h1 (hs _ (hall _ (getL_mem hi)))
theorem ClosedAt.incl {C C' : List (List Int)} {P P' O O' : List Int} (hC : COk C') (hj : Just C P O) (hc : ClosedAt C' P' O') (hs : ∀ c ∈ C, c ∈ C') (hP : ∀ x ∈ P, x ∈ O') : ∀ x ∈ O, x ∈ O' :=
  hj.closed hP fun c hcc x hx hall => hc.full.closed hC hc.parts c (hs c hcc) x hx hall
/-- How Follow ended. -/
inductive Told (C : List (List Int)) (T out : List Int) : Int → Prop
  | all (h : ClosedAt C T out) : Told C T out (-1)
  | two (pre : List Int) (x : Int) (post : List Int) (e : T = pre ++ x :: post) (h : ClosedAt C pre out) (hx : litB x = false ∨ -x ∈ out) : Told C T out (-2)
  | begin (b : Nat) (hp : Parts out) (h : Just C [] out) (hb : allFalse C out b) : Told C T out b
  | bad (pre : List Int) (x : Int) (post O : List Int) (b : Nat) (e : T = pre ++ x :: post) (h : ClosedAt C pre O) (hl : litB x = true) (hx : -x ∉ O) (hp : Parts out) (hj : Just C (pre ++ [x]) out) (hb : allFalse C out b) : Told C T out b
theorem RunOk.closedAt {P : List Int} {S : SM} {R : RM} (h : RunOk P S R) (hn : R.next = R.out.length) (hs : ShortOk S.C R.out) (hP : ∀ x ∈ P, x ∈ R.out) : ClosedAt S.C P R.out :=
  ⟨h.rInv.parts, h.just, hP, full_of h.sInv hs (h.full hn)⟩
theorem ShortOk.mono {C : List (List Int)} {out out' : List Int} (h : ShortOk C out) (hs : ∀ x ∈ out, x ∈ out') : ShortOk C out' := fun c hc hl => by
  obtain ⟨x, h1, h2⟩ := h c hc hl
  exact ⟨x, h1, hs x h2⟩
theorem RunOk.mono {P P' : List Int} {S : SM} {R : RM} (h : RunOk P S R) (hs : ∀ x ∈ P, x ∈ P') : RunOk P' S R := ⟨h.sInv, h.rInv, h.w, h.just.mono hs⟩
theorem litsF_told (fuel : Nat) : ∀ (l P : List Int) (S : SM) (R : RM) (res : SM × RM × Int), RunOk P S R → R.next = R.out.length → ShortOk S.C R.out → (∀ x ∈ P, x ∈ R.out) → litsF fuel S R l = some res → Told S.C (P ++ l) res.2.1.out res.2.2
  | [], P, S, R, res, h, hn, hs, hP, e => by
    rw [litsF] at e
    simp only [Option.some.injEq] at e
    subst e
    rw [List.append_nil]
    exact .all (h.closedAt hn hs hP)
  | x :: rest, P, S, R, res, h, hn, hs, hP, e => by
    rw [litsF] at e
    split at e
    · rename_i hbad
      simp only [Option.some.injEq] at e
      subst e
      refine .two P x rest rfl (h.closedAt hn hs hP) ?_
      rcases hbad with hb | hb
      · exact .inl hb
      · cases hl : litB x with
        | false => exact .inl rfl
        | true => exact .inr ((h.rInv.isNeg hl).1 hb)
    · rename_i hgood
      have hl : litB x = true := by
        cases hl : litB x with
        | true => rfl
        | false => exact absurd (.inl hl) hgood
      have hnn : ¬ R.is x < 0 := fun hh => hgood (.inr hh)
      have hassoc : P ++ x :: rest = (P ++ [x]) ++ rest := by simp
      split at e
      · rename_i hpos
        rw [hassoc]
        refine litsF_told fuel rest (P ++ [x]) S R res (h.mono fun y hy => by simp [hy]) hn hs (fun y hy => ?_) e
        rcases List.mem_append.1 hy with hy | hy
        · exact hP y hy
        · rw [List.mem_singleton.1 hy]; exact (h.rInv.isPos hl).1 hpos
      · rename_i hpos
        have h0 : R.is x = 0 := by omega
        have hrun : RunOk (P ++ [x]) S (R.set x) := by
          refine ⟨h.sInv, h.rInv.set hl h0, ?_, .snoc (h.just.mono fun y hy => by simp [hy]) (.inl (by simp))⟩
          show WOk S (R.out ++ [x]) ((R.out ++ [x]).take R.next)
          rw [List.take_append_of_le_length (by omega)]
          exact h.w.mono fun y hy => by simp [hy]
        split at e
        · cases e
        · rename_i S' R' b hf
          have hfo := followF_ok (P ++ [x]) fuel S (R.set x) _ hrun hf
          have hfi := followF_inv fuel S (R.set x) _ hrun.sInv hrun.rInv hf
          simp only [Option.some.injEq] at e
          subst e
          obtain ⟨h1, h2, h3⟩ := hfo.bad b rfl
          exact .bad P x rest R.out b rfl (h.closedAt hn hs hP) hl (fun hh => hnn ((h.rInv.isNeg hl).2 hh)) (RM.Inv.parts hfi.2) h3 h2
        · rename_i S' R' hf
          have hfo := followF_ok (P ++ [x]) fuel S (R.set x) _ hrun hf
          obtain ⟨h1, h2⟩ := hfo.done rfl
          have hC : S'.C = S.C := hfo.C
          have hx2 : ∀ y ∈ R.out ++ [x], y ∈ R'.out := hfo.out
          rw [hassoc, ← hC]
          refine litsF_told fuel rest (P ++ [x]) S' R' res h1 h2 (hC ▸ hs.mono fun y hy => hx2 y (by simp [hy])) (fun y hy => ?_) e
          rcases List.mem_append.1 hy with hy | hy
          · exact hx2 y (by simp [hP y hy])
          · exact hx2 y (by simp [List.mem_singleton.1 hy])
end Go.Proofs.PlaitPure
