/-
  What Follow tells, whole. No program and no memory in sight.
-/
import Derived.Test.YtmljcbdlkeooiaaStoreM9
namespace Go.Proofs.PlaitPure
/-- The clauses of one literal are true, and none is empty. -/
def ShortOk (C : List (List Int)) (out : List Int) : Prop := ∀ c ∈ C, c.length < 2 → ∃ x, c = [x] ∧ x ∈ out
structure BeginEnd (S : SM) (R : RM) (l : List Nat) (res : RM × Option Nat) : Prop where
  inv : res.1.Inv
  next : res.1.next = R.next
  just : Just S.C [] res.1.out
  out : ∀ x ∈ R.out, x ∈ res.1.out
  done : res.2 = none → ∀ i ∈ l, ∃ x, (S.cl i).lits = [x] ∧ x ∈ res.1.out
  bad : ∀ b, res.2 = some b → b < S.cls.length ∧ allFalse S.C res.1.out b
theorem beginScan_ok {S : SM} (hS : S.Inv) : ∀ (l : List Nat) (R : RM), (∀ i ∈ l, i < S.cls.length ∧ (S.cl i).lits.length < 2) → R.Inv → Just S.C [] R.out → BeginEnd S R l (beginScan S R l)
  | [], R, _, h, j => ⟨h, rfl, j, fun x hx => hx, (fun _ i hi => by cases hi), (fun b e => by cases e)⟩
  | ref :: rest, R, hl, h, j => by
    obtain ⟨hr, hs⟩ := hl ref (by simp)
    have hok := hS.cl ref hr
    have hrest : ∀ i ∈ rest, i < S.cls.length ∧ (S.cl i).lits.length < 2 := fun i hi => hl i (by simp [hi])
    rw [beginScan]
    split
    · rename_i e
      refine ⟨h, rfl, j, fun x hx => hx, (fun e => by cases e), fun b e' => ?_⟩
      simp only [Option.some.injEq] at e'
      subst e'
      exact ⟨hr, _, S.C_at hr, fun y hy => by rw [e] at hy; cases hy⟩
    · rename_i x tl e
      have htl : tl = [] := List.eq_nil_of_length_eq_zero (by rw [e, List.length_cons] at hs; omega)
      subst htl
      have hx : litB x = true := hok.lits x (by rw [e]; simp)
      split
      · rename_i hneg
        refine ⟨h, rfl, j, fun x hx => hx, (fun e => by cases e), fun b e' => ?_⟩
        simp only [Option.some.injEq] at e'
        subst e'
        refine ⟨hr, _, S.C_at hr, fun y hy => ?_⟩
        rw [e, List.mem_singleton] at hy
        subst hy
        exact (h.isNeg hx).1 hneg
      · split
        · rename_i h0
          have ih := beginScan_ok hS rest (R.set x) hrest (h.set hx h0) (.snoc j (.inr ⟨_, S.C_mem hr, by rw [e]; simp, fun y hy hne => by rw [e, List.mem_singleton] at hy; exact absurd hy hne⟩))
          refine ⟨ih.inv, ih.next, ih.just, fun y hy => ih.out y (by show y ∈ R.out ++ [x]; simp [hy]), fun hn i hi => ?_, ih.bad⟩
          rcases List.mem_cons.1 hi with rfl | hi
          · exact ⟨x, e, ih.out x (by show x ∈ R.out ++ [x]; simp)⟩
          · exact ih.done hn i hi
        · rename_i hneg h0
          have ih := beginScan_ok hS rest R hrest h j
          refine ⟨ih.inv, ih.next, ih.just, ih.out, fun hn i hi => ?_, ih.bad⟩
          rcases List.mem_cons.1 hi with rfl | hi
          · exact ⟨x, e, ih.out x ((h.isPos hx).1 (by omega))⟩
          · exact ih.done hn i hi
/-- What the whole hands back, of a run over the literals T, of which l are to come. -/
structure LitsEnd (T l : List Int) (S : SM) (R : RM) (res : SM × RM × Int) : Prop where
  C : res.1.C = S.C
  sInv : res.1.Inv
  rInv : res.2.1.Inv
  out : ∀ x ∈ R.out, x ∈ res.2.1.out
  just : Just S.C T res.2.1.out
  range : -2 ≤ res.2.2
  bad : 0 ≤ res.2.2 → allFalse S.C res.2.1.out res.2.2.toNat
  full : res.2.2 < 0 → WOk res.1 res.2.1.out res.2.1.out
  all : res.2.2 = -1 → ∀ x ∈ l, x ∈ res.2.1.out
  two : res.2.2 = -2 → ∃ pre x post, l = pre ++ x :: post ∧ (∀ y ∈ pre, y ∈ res.2.1.out) ∧ (litB x = false ∨ -x ∈ res.2.1.out)
theorem RunOk.full {T : List Int} {S : SM} {R : RM} (h : RunOk T S R) (hn : R.next = R.out.length) : WOk S R.out R.out := by
  have := h.w
  rwa [hn, List.take_length] at this
theorem litsF_ok (fuel : Nat) (T : List Int) : ∀ (l : List Int) (S : SM) (R : RM) (res : SM × RM × Int), RunOk T S R → R.next = R.out.length → (∀ x ∈ l, x ∈ T) → litsF fuel S R l = some res → LitsEnd T l S R res
  | [], S, R, res, h, hn, _, e => by
    rw [litsF] at e
    simp only [Option.some.injEq] at e
    subst e
    exact ⟨rfl, h.sInv, h.rInv, fun x hx => hx, h.just, by simp, fun h => absurd h (by simp), fun _ => h.full hn, (fun _ x hx => by cases hx), fun h => absurd h (by simp)⟩
  | x :: rest, S, R, res, h, hn, ht, e => by
    rw [litsF] at e
    split at e
    · rename_i hbad
      simp only [Option.some.injEq] at e
      subst e
      refine ⟨rfl, h.sInv, h.rInv, fun x hx => hx, h.just, by simp, fun h => absurd h (by simp), fun _ => h.full hn, fun h => absurd h (by simp), fun _ => ⟨[], x, rest, rfl, (fun y hy => by cases hy), ?_⟩⟩
      rcases hbad with hb | hb
      · exact .inl hb
      · cases hl : litB x with
        | false => exact .inl rfl
        | true => exact .inr ((h.rInv.isNeg hl).1 hb)
    · rename_i hgood
      have hl : litB x = true := by
        cases hl : litB x with
        | true => rfl
        | false => exact absurd (.inl hl) hgood
      have hnn : ¬ R.is x < 0 := fun hh => hgood (.inr hh)
      split at e
      · rename_i hpos
        have ih := litsF_ok fuel T rest S R res h hn (fun y hy => ht y (by simp [hy])) e
        have hxo : x ∈ res.2.1.out := ih.out x ((h.rInv.isPos hl).1 hpos)
        refine ⟨ih.C, ih.sInv, ih.rInv, ih.out, ih.just, ih.range, ih.bad, ih.full, fun hh y hy => ?_, fun hh => ?_⟩
        · rcases List.mem_cons.1 hy with rfl | hy
          · exact hxo
          · exact ih.all hh y hy
        · obtain ⟨pre, z, post, e1, e2, e3⟩ := ih.two hh
          refine ⟨x :: pre, z, post, by rw [e1]; rfl, fun y hy => ?_, e3⟩
          rcases List.mem_cons.1 hy with rfl | hy
          · exact hxo
          · exact e2 y hy
      · rename_i hpos
        have h0 : R.is x = 0 := by omega
        have hrun : RunOk T S (R.set x) := by
          refine ⟨h.sInv, h.rInv.set hl h0, ?_, .snoc h.just (.inl (ht x (by simp)))⟩
          show WOk S (R.out ++ [x]) ((R.out ++ [x]).take R.next)
          rw [List.take_append_of_le_length (by omega)]
          exact h.w.mono fun y hy => by simp [hy]
        split at e
        · cases e
        · rename_i S' R' b hf
          have hfo := followF_ok T fuel S (R.set x) _ hrun hf
          have hfi := followF_inv fuel S (R.set x) _ hrun.sInv hrun.rInv hf
          simp only [Option.some.injEq] at e
          subst e
          obtain ⟨h1, h2, h3⟩ := hfo.bad b rfl
          have hx2 : ∀ y ∈ R.out, y ∈ R'.out := fun y hy => hfo.out y (by show y ∈ R.out ++ [x]; simp [hy])
          exact ⟨hfo.C, hfi.1, hfi.2, hx2, h3, by simp only; omega, fun _ => by simpa using h2, fun hh => absurd hh (by simp only; omega), fun hh => absurd hh (by simp only; omega), fun hh => absurd hh (by simp only; omega)⟩
        · rename_i S' R' hf
          have hfo := followF_ok T fuel S (R.set x) _ hrun hf
          obtain ⟨h1, h2⟩ := hfo.done rfl
          have ih := litsF_ok fuel T rest S' R' res h1 h2 (fun y hy => ht y (by simp [hy])) e
          have hC : S'.C = S.C := hfo.C
          have hx2 : ∀ y ∈ R.out ++ [x], y ∈ R'.out := hfo.out
          have hxo : x ∈ res.2.1.out := ih.out x (hx2 x (by simp))
          refine ⟨ih.C.trans hC, ih.sInv, ih.rInv, fun y hy => ih.out y (hx2 y (by simp [hy])), hC ▸ ih.just, ih.range, fun hh => hC ▸ ih.bad hh, ih.full, fun hh y hy => ?_, fun hh => ?_⟩
          · rcases List.mem_cons.1 hy with rfl | hy
            · exact hxo
            · exact ih.all hh y hy
          · obtain ⟨pre, z, post, e1, e2, e3⟩ := ih.two hh
            refine ⟨x :: pre, z, post, by rw [e1]; rfl, fun y hy => ?_, e3⟩
            rcases List.mem_cons.1 hy with rfl | hy
            · exact hxo
            · exact e2 y hy
/-- What Follow tells. -/
structure FollowSpec (C : List (List Int)) (T out : List Int) (n : Int) : Prop where
  lits : ∀ x ∈ out, litB x = true
  nodup : out.Nodup
  apart : ∀ x ∈ out, -x ∉ out
  just : Just C T out
  range : -2 ≤ n
  bad : 0 ≤ n → allFalse C out n.toNat
  full : n < 0 → ∀ c ∈ C, (∃ y ∈ c, y ∈ out) ∨ ∃ i j, i < c.length ∧ j < c.length ∧ i ≠ j ∧ -gi c i ∉ out ∧ -gi c j ∉ out
  all : n = -1 → ∀ x ∈ T, x ∈ out
  two : n = -2 → ∃ pre x post, T = pre ++ x :: post ∧ (∀ y ∈ pre, y ∈ out) ∧ (litB x = false ∨ -x ∈ out)
theorem full_of {S : SM} {out : List Int} (hS : S.Inv) (hsh : ShortOk S.C out) (hw : WOk S out out) : ∀ c ∈ S.C, (∃ y ∈ c, y ∈ out) ∨ ∃ i j, i < c.length ∧ j < c.length ∧ i ≠ j ∧ -gi c i ∉ out ∧ -gi c j ∉ out := by
  intro c hc
  by_cases h2 : c.length < 2
  · obtain ⟨x, rfl, hx⟩ := hsh c hc h2
    exact .inl ⟨x, by simp, hx⟩
  · unfold SM.C at hc
    rw [List.mem_map] at hc
    obtain ⟨cl, hcl, rfl⟩ := hc
    obtain ⟨i, hi, rfl⟩ := List.getElem_of_mem hcl
    rw [← S.cl_eq hi] at h2 ⊢
    have hok := hS.cl i hi
    have hp := hok.p (by omega)
    have hq := hok.q (by omega)
    by_cases ha : -gi (S.cl i).lits (S.cl i).p ∈ out
    · exact .inl ⟨_, getL_mem hq, hw i hi _ _ ⟨by omega, .inl ⟨rfl, rfl⟩⟩ ha⟩
    · by_cases hb : -gi (S.cl i).lits (S.cl i).q ∈ out
      · exact .inl ⟨_, getL_mem hp, hw i hi _ _ ⟨by omega, .inr ⟨rfl, rfl⟩⟩ hb⟩
      · exact .inr ⟨_, _, hp, hq, hok.pq (by omega), ha, hb⟩
theorem RM.Inv.parts {R : RM} (h : R.Inv) : (∀ x ∈ R.out, litB x = true) ∧ R.out.Nodup ∧ ∀ x ∈ R.out, -x ∉ R.out := ⟨h.lits, h.nodup, fun _ hx => h.apart hx⟩
theorem followAll_spec {fuel : Nat} {S : SM} {T : List Int} {res : SM × RM × Int} (hS : S.Inv) (h : followAll fuel S T = some res) : res.1.Inv ∧ res.1.C = S.C ∧ FollowSpec S.C T res.2.1.out res.2.2 := by
  have hb := beginScan_ok hS S.shortN RM.start (fun i hi => SM.shortN_mem.1 hi) RM.start_inv .nil
  unfold followAll beginF at h
  obtain ⟨sc, hsc⟩ : ∃ sc, beginScan S RM.start S.shortN = sc := ⟨_, rfl⟩
  rw [hsc] at hb h
  obtain ⟨R0, b0⟩ := sc
  cases b0 with
  | some b =>
    simp only [Option.some.injEq] at h
    subst h
    obtain ⟨h1, h2⟩ := hb.bad b rfl
    obtain ⟨p1, p2, p3⟩ := hb.inv.parts
    exact ⟨hS, rfl, p1, p2, p3, hb.just.mono (fun x hx => by cases hx), by simp only; omega, fun _ => by simpa using h2, fun hh => absurd hh (by simp only; omega), fun hh => absurd hh (by simp only; omega), fun hh => absurd hh (by simp only; omega)⟩
  | none =>
    simp only at h
    have hnx : R0.next = 0 := hb.next
    have hrun : RunOk T S R0 := by
      refine ⟨hS, hb.inv, ?_, hb.just.mono (fun x hx => by cases hx)⟩
      rw [hnx]
      intro i hi a c hp hD
      cases hD
    have hshort : ∀ out, (∀ x ∈ R0.out, x ∈ out) → ShortOk S.C out := by
      intro out ho c hc hl
      unfold SM.C at hc
      rw [List.mem_map] at hc
      obtain ⟨cl, hcl, rfl⟩ := hc
      obtain ⟨i, hi, rfl⟩ := List.getElem_of_mem hcl
      rw [← S.cl_eq hi] at hl ⊢
      obtain ⟨x, h1, h2⟩ := hb.done rfl i (SM.shortN_mem.2 ⟨hi, hl⟩)
      exact ⟨x, h1, ho x h2⟩
    obtain ⟨fr, hfr⟩ : ∃ fr, followF fuel S R0 = fr := ⟨_, rfl⟩
    rw [hfr] at h
    cases fr with
    | none => cases h
    | some r3 =>
      have hfo := followF_ok T fuel S R0 r3 hrun hfr
      have hfi := followF_inv fuel S R0 r3 hS hb.inv hfr
      obtain ⟨S', R', b1⟩ := r3
      have hC : S'.C = S.C := hfo.C
      cases b1 with
      | some b =>
        simp only [Option.some.injEq] at h
        subst h
        obtain ⟨h1, h2, h3⟩ := hfo.bad b rfl
        obtain ⟨p1, p2, p3⟩ := RM.Inv.parts (R := R') hfi.2
        exact ⟨hfi.1, hC, p1, p2, p3, h3, by simp only; omega, fun _ => by simpa using h2, fun hh => absurd hh (by simp only; omega), fun hh => absurd hh (by simp only; omega), fun hh => absurd hh (by simp only; omega)⟩
      | none =>
        simp only at h
        obtain ⟨h1, h2⟩ := hfo.done rfl
        have hle := litsF_ok fuel T T S' R' res h1 h2 (fun x hx => hx) h
        obtain ⟨p1, p2, p3⟩ := hle.rInv.parts
        refine ⟨hle.sInv, hle.C.trans hC, p1, p2, p3, hC ▸ hle.just, hle.range, fun hh => hC ▸ hle.bad hh, fun hh => ?_, hle.all, hle.two⟩
        have hf := full_of hle.sInv (S := res.1) (by rw [hle.C, hC]; exact hshort _ fun x hx => hle.out x (hfo.out x hx)) (hle.full hh)
        rw [hle.C, hC] at hf
        exact hf
end Go.Proofs.PlaitPure
