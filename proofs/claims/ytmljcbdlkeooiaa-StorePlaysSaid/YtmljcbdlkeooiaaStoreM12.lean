/-
  Two answers of Follow beside one another. No program and no memory in sight.
-/
import Derived.Test.YtmljcbdlkeooiaaStoreM11
namespace Go.Proofs.PlaitPure
theorem followAll_told {fuel : Nat} {S : SM} {T : List Int} {res : SM × RM × Int} (hS : S.Inv) (h : followAll fuel S T = some res) : Told S.C T res.2.1.out res.2.2 := by
  have hb := beginScan_ok hS S.shortN RM.start (fun i hi => SM.shortN_mem.1 hi) RM.start_inv .nil
  unfold followAll beginF at h
  obtain ⟨sc, hsc⟩ : ∃ sc, beginScan S RM.start S.shortN = sc := ⟨_, rfl⟩
  rw [hsc] at hb h
  obtain ⟨R0, b0⟩ := sc
  cases b0 with
  | some b =>
    simp only [Option.some.injEq] at h
    subst h
    obtain ⟨h1, h2⟩ := hb.bad b rfl
    exact .begin b hb.inv.parts hb.just h2
  | none =>
    simp only at h
    have hnx : R0.next = 0 := hb.next
    have hrun : RunOk [] S R0 := by
      refine ⟨hS, hb.inv, ?_, hb.just⟩
      rw [hnx]
      intro i hi a c hp hD
      cases hD
    have hshort : ShortOk S.C R0.out := by
      intro c hc hl
      unfold SM.C at hc
      rw [List.mem_map] at hc
      obtain ⟨cl, hcl, rfl⟩ := hc
      obtain ⟨i, hi, rfl⟩ := List.getElem_of_mem hcl
      rw [← S.cl_eq hi] at hl ⊢
      exact hb.done rfl i (SM.shortN_mem.2 ⟨hi, hl⟩)
    obtain ⟨fr, hfr⟩ : ∃ fr, followF fuel S R0 = fr := ⟨_, rfl⟩
    rw [hfr] at h
    cases fr with
    | none => cases h
    | some r3 =>
      have hfo := followF_ok [] fuel S R0 r3 hrun hfr
      have hfi := followF_inv fuel S R0 r3 hS hb.inv hfr
      obtain ⟨S', R', b1⟩ := r3
      have hC : S'.C = S.C := hfo.C
      cases b1 with
      | some b =>
        simp only [Option.some.injEq] at h
        subst h
        obtain ⟨h1, h2, h3⟩ := hfo.bad b rfl
        exact .begin b (RM.Inv.parts (R := R') hfi.2) h3 h2
      | none =>
        simp only at h
        obtain ⟨h1, h2⟩ := hfo.done rfl
        have := litsF_told fuel T [] S' R' res h1 h2 (hC ▸ hshort.mono hfo.out) (fun x hx => by cases hx) h
        rw [hC] at this
        exact this
/-- Where all that is set follows without a conflict, less does too. -/
theorem Told.less {C C' : List (List Int)} {T T' out out' : List Int} {m : Int} (h : Told C T out m) (hc : ClosedAt C' T' out') (hC' : COk C') (hs : ∀ c ∈ C, c ∈ C') (ht : ∀ x ∈ T, x ∈ T') : m = -1 ∧ ∀ x ∈ out, x ∈ out' := by
  have incl : ∀ P : List Int, (∀ x ∈ P, x ∈ T) → ∀ o, Just C P o → ∀ x ∈ o, x ∈ out' := fun P hP o hj => ClosedAt.incl hC' hj hc hs fun x hx => hc.sub x (ht x (hP x hx))
  have nofalse : ∀ (o : List Int) (b : Nat), (∀ x ∈ o, x ∈ out') → ¬ allFalse C o b := by
    rintro o b ho ⟨c, hcb, hall⟩
    have hmem := hs c (List.mem_of_getElem? hcb)
    rcases hc.full c hmem with ⟨y, hy, h1⟩ | ⟨i, j, hi, hj, hne, h1, h2⟩
    · exact hc.parts.2.2 y h1 (ho _ (hall y hy))
    · exact h1 (ho _ (hall _ (getL_mem hi)))
  cases h with
  | all h => exact ⟨rfl, incl T (fun x hx => hx) _ h.just⟩
  | two pre x post e h hx =>
    exfalso
    have hxo : x ∈ out' := hc.sub x (ht x (by rw [e]; simp))
    rcases hx with hx | hx
    · rw [hc.parts.1 x hxo] at hx; cases hx
    · exact hc.parts.2.2 x hxo (incl pre (fun y hy => by rw [e]; simp [hy]) _ h.just _ hx)
  | begin b hp h hb => exact absurd hb (nofalse _ b (incl [] (fun x hx => by cases hx) _ h))
  | bad pre x post O b e h hl hx hp hj hb =>
    refine absurd hb (nofalse _ b (incl (pre ++ [x]) (fun y hy => ?_) _ hj))
    rw [e]
    rcases List.mem_append.1 hy with hy | hy
    · simp [hy]
    · simp [List.mem_singleton.1 hy]
theorem prefix_cases {α : Type} {p p' q q' : List α} {x x' : α} (h : p ++ x :: q = p' ++ x' :: q') : (p = p' ∧ x = x') ∨ (∃ r, p' = p ++ x :: r) ∨ (∃ r, p = p' ++ x' :: r) := by
  induction p generalizing p' with
  | nil =>
    cases p' with
    | nil => simp at h; exact .inl ⟨rfl, h.1⟩
    | cons a p' => simp at h; exact .inr (.inl ⟨p', by rw [h.1]; rfl⟩)
  | cons a p ih =>
    cases p' with
    | nil => simp at h; exact .inr (.inr ⟨p, by rw [h.1]; rfl⟩)
    | cons b p' =>
      simp at h
      obtain ⟨rfl, h⟩ := h
      rcases ih h with ⟨rfl, rfl⟩ | ⟨r, rfl⟩ | ⟨r, rfl⟩
      · exact .inl ⟨rfl, rfl⟩
      · exact .inr (.inl ⟨r, rfl⟩)
      · exact .inr (.inr ⟨r, rfl⟩)
theorem ClosedAt.noFalse {C : List (List Int)} {P P' O out : List Int} {b : Nat} (hC : COk C) (hc : ClosedAt C P O) (hj : Just C P' out) (hP : ∀ x ∈ P', x ∈ O) : ¬ allFalse C out b :=
  hc.full.noFalse hc.parts (ClosedAt.incl hC hj hc (fun _ h => h) hP)
/-- Of one set of clauses and one list of literals the same is told. -/
theorem Told.again {C : List (List Int)} {T out out' : List Int} {m n : Int} (h : Told C T out m) (h' : Told C T out' n) (hC : COk C) (hm : m < 0) : n = m ∧ ∀ x ∈ out', x ∈ out := by
  cases h with
  | begin b hp h hb => omega
  | bad pre x post O b e h hl hx hp hj hb => omega
  | all h =>
    have := h'.less h hC (fun _ h => h) (fun _ h => h)
    exact this
  | two pre x post e h hx =>
    cases h' with
    | all h2 =>
      have := (Told.two pre x post e h hx : Told C T out (-2)).less h2 hC (fun _ h => h) (fun _ h => h)
      exact absurd this.1 (by decide)
    | begin b hp h2 hb => exact absurd hb (h.noFalse hC h2 (fun x hx => by cases hx))
    | bad pre2 x2 post2 O2 b e2 h2 hl2 hx2 hp2 hj2 hb2 =>
      exfalso
      rw [e] at e2
      rcases prefix_cases e2 with ⟨rfl, rfl⟩ | ⟨r, rfl⟩ | ⟨r, rfl⟩
      · rcases hx with hx | hx
        · rw [hl2] at hx; cases hx
        · exact hx2 (ClosedAt.incl hC h.just h2 (fun _ h => h) h2.sub _ hx)
      · have hxo : x ∈ O2 := h2.sub x (by simp)
        rcases hx with hx | hx
        · rw [h2.parts.1 x hxo] at hx; cases hx
        · exact h2.parts.2.2 x hxo (ClosedAt.incl hC h.just h2 (fun _ h => h) (fun y hy => h2.sub y (by simp [hy])) _ hx)
      · refine h.noFalse hC hj2 (fun y hy => h.sub y ?_) hb2
        rcases List.mem_append.1 hy with hy | hy
        · simp [hy]
        · simp [List.mem_singleton.1 hy]
    | two pre2 x2 post2 e2 h2 hx2 =>
      refine ⟨rfl, ?_⟩
      rw [e] at e2
      rcases prefix_cases e2 with ⟨rfl, rfl⟩ | ⟨r, rfl⟩ | ⟨r, rfl⟩
      · exact ClosedAt.incl hC h2.just h (fun _ h => h) h.sub
      · exfalso
        have hxo : x ∈ out' := h2.sub x (by simp)
        rcases hx with hx | hx
        · rw [h2.parts.1 x hxo] at hx; cases hx
        · exact h2.parts.2.2 x hxo (ClosedAt.incl hC h.just h2 (fun _ h => h) (fun y hy => h2.sub y (by simp [hy])) _ hx)
      · exfalso
        have hxo : x2 ∈ out := h.sub x2 (by simp)
        rcases hx2 with hx2 | hx2
        · rw [h.parts.1 x2 hxo] at hx2; cases hx2
        · exact h.parts.2.2 x2 hxo (ClosedAt.incl hC h2.just h (fun _ h => h) (fun y hy => h.sub y (by simp [hy])) _ hx2)
end Go.Proofs.PlaitPure
