/-
  What following tells: the scan, following, begin, the literals. No program and no memory in sight.
-/
import Derived.Test.YtmljcbdlkeooiaaStoreM8
namespace Go.Proofs.PlaitPure
/-- What a scan hands back. -/
structure ScanEnd (T : List Int) (l : Int) (S : SM) (R : RM) (sc : Scan) : Prop where
  C : sc.S.C = S.C
  done : sc.bad = none → ScanOk T l sc.S sc.R sc.kept []
  bad : ∀ b, sc.bad = some b → b < S.cls.length ∧ allFalse S.C sc.R.out b ∧ Just S.C T sc.R.out
  out : ∀ x ∈ R.out, x ∈ sc.R.out
theorem scanStep_out (l : Int) (S : SM) (R : RM) (kept : List Nat) (ref : Nat) (rest : List Nat) : ∀ x ∈ R.out, x ∈ (scanStep l S R kept ref rest).2.2.out := by
  intro x hx
  have hf := lookF_found S R ref l kept rest
  unfold scanStep
  obtain ⟨k, hkk⟩ : ∃ k, lookF S R ref l = k := ⟨_, rfl⟩
  rw [hkk] at hf ⊢
  cases hf with
  | sat _ => exact hx
  | moved _ _ _ _ => exact hx
  | bad _ _ => exact hx
  | unit _ _ => show x ∈ R.out ++ [_]; simp [hx]
theorem scanStep_len {l : Int} {S : SM} {R : RM} {kept rest : List Nat} {ref : Nat} (h : (scanStep l S R kept ref rest).2.1.C = S.C) : (scanStep l S R kept ref rest).2.1.cls.length = S.cls.length := by
  rw [← SM.C_length, h, SM.C_length]
theorem scanF_ok (T : List Int) (l : Int) : ∀ (rest : List Nat) (S : SM) (R : RM) (kept : List Nat), ScanOk T l S R kept rest → ScanEnd T l S R (scanF l S R kept rest)
  | [], S, R, kept, h => ⟨rfl, fun _ => h, (fun b e => by cases e), fun x hx => hx⟩
  | ref :: rest, S, R, kept, h => by
    rw [scanF_cons]
    cases hb : (lookF S R ref l).bad with
    | true =>
      obtain ⟨h1, h2, h3, h4⟩ := h.bad hb
      rw [if_pos rfl]
      refine ⟨h2, (fun e => by cases e), fun b e => ?_, scanStep_out l S R kept ref rest⟩
      simp only [Option.some.injEq] at e
      subst e
      rw [show (⟨_, some ref, _, _⟩ : Scan).R = R from h3]
      exact ⟨h1, h4, h.just⟩
    | false =>
      rw [if_neg (by simp)]
      obtain ⟨h1, h2⟩ := h.step hb
      have ih := scanF_ok T l rest _ _ _ h1
      refine ⟨ih.C.trans h2, ih.done, fun b e => ?_, fun x hx => ih.out x (scanStep_out l S R kept ref rest x hx)⟩
      obtain ⟨a1, a2, a3⟩ := ih.bad b e
      rw [h2] at a2 a3
      exact ⟨by rw [scanStep_len h2] at a1; exact a1, a2, a3⟩
/-- What holds of a run between two literals. -/
structure RunOk (T : List Int) (S : SM) (R : RM) : Prop where
  sInv : S.Inv
  rInv : R.Inv
  w : WOk S R.out (R.out.take R.next)
  just : Just S.C T R.out
theorem take_next {out : List Int} {n : Nat} (h : n < out.length) : out.take (n + 1) = out.take n ++ [gi out n] := by
  rw [List.take_add_one]
  simp [gi, List.getD_eq_getElem?_getD, h]
theorem RunOk.start {T : List Int} {S : SM} {R : RM} (h : RunOk T S R) (hn : R.next < R.out.length) (hi : idx R.lit < S.watches.length) : ScanOk T R.lit S R [] (S.getW (idx R.lit)) :=
  ⟨scan_start h.sInv h.rInv hn hi, h.w, (fun r hr => by cases hr), h.just, by unfold RM.lit; omega⟩
theorem ScanOk.finish {T : List Int} {l : Int} {S : SM} {R : RM} {kept : List Nat} (h : ScanOk T l S R kept []) : RunOk T S R.step := by
  refine ⟨h.inv.sInv, h.inv.rInv.step h.inv.next, ?_, h.just⟩
  intro i hi a b hp hD
  have hD' : -a ∈ R.out.take (R.next + 1) := hD
  rw [take_next h.inv.next, List.mem_append] at hD'
  rcases hD' with hD' | hD'
  · exact h.w i hi a b hp hD'
  · rw [List.mem_singleton, h.at_] at hD'
    have hal : a = l := by omega
    subst hal
    have hm : i ∈ S.getW (idx a) := (h.inv.sInv.watch _ _).2 ⟨hi, hp.watches⟩
    rw [h.inv.w, List.append_nil] at hm
    exact h.k i hm b hp
/-- What following hands back. -/
structure FollowEnd (T : List Int) (S : SM) (R : RM) (res : SM × RM × Option Nat) : Prop where
  C : res.1.C = S.C
  out : ∀ x ∈ R.out, x ∈ res.2.1.out
  done : res.2.2 = none → RunOk T res.1 res.2.1 ∧ res.2.1.next = res.2.1.out.length
  bad : ∀ b, res.2.2 = some b → b < S.cls.length ∧ allFalse S.C res.2.1.out b ∧ Just S.C T res.2.1.out
theorem followF_ok (T : List Int) : ∀ (fuel : Nat) (S : SM) (R : RM) (res : SM × RM × Option Nat), RunOk T S R → followF fuel S R = some res → FollowEnd T S R res
  | 0, S, R, res, h, e => by rw [followF] at e; cases e
  | n + 1, S, R, res, h, e => by
    rw [followF] at e
    split at e
    · rename_i hn
      split at e
      · rename_i hi
        have hsc := scanF_ok T R.lit _ S R [] (h.start hn hi)
        simp only at e
        split at e
        · rename_i b hb
          simp only [Option.some.injEq] at e
          subst e
          refine ⟨hsc.C, hsc.out, (fun x => by cases x), fun b' e' => ?_⟩
          simp only [Option.some.injEq] at e'
          subst e'
          exact hsc.bad b hb
        · rename_i hb
          have hfin := (hsc.done hb).finish
          have ih := followF_ok T n _ _ res hfin e
          have hl : (scanF R.lit S R [] (S.getW (idx R.lit))).S.cls.length = S.cls.length := by rw [← SM.C_length, hsc.C, SM.C_length]
          refine ⟨ih.C.trans hsc.C, fun x hx => ih.out x (hsc.out x hx), ih.done, fun b e' => ?_⟩
          have := ih.bad b e'
          rw [hl, hsc.C] at this
          exact this
      · rename_i hi
        have hst : RunOk T S R.step := by
          refine ⟨h.sInv, h.rInv.step hn, ?_, h.just⟩
          intro i hic a b hp hD
          have hD' : -a ∈ R.out.take (R.next + 1) := hD
          rw [take_next hn, List.mem_append] at hD'
          rcases hD' with hD' | hD'
          · exact h.w i hic a b hp hD'
          · rw [List.mem_singleton] at hD'
            have hm : i ∈ S.getW (idx a) := (h.sInv.watch _ _).2 ⟨hic, hp.watches⟩
            have hlt := SM.getW_lt hm
            have : R.lit = a := by unfold RM.lit; omega
            rw [this] at hi
            exact absurd hlt hi
        have f := followF_ok T n S R.step res hst e
        exact ⟨f.C, f.out, f.done, f.bad⟩
    · rename_i hn
      simp only [Option.some.injEq] at e
      subst e
      exact ⟨rfl, fun x hx => hx, fun _ => ⟨h, by have := h.rInv.next; simp only; omega⟩, fun b e' => by cases e'⟩
end Go.Proofs.PlaitPure
