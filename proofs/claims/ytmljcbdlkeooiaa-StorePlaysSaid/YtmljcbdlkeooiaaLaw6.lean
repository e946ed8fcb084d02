/-
  Plain facts of what Follow tells, as the law StoreFollow asks for them. No program and no memory in sight.
-/
import Derived.Test.YtmljcbdlkeooiaaLaw5
namespace Go.Proofs.Ytmljcbdlkeooiaa
open Go.RowKit Go.Proofs.PlaitSep Go.Proofs.PlaitPure

theorem leftGo_eq (set : List Int) : ∀ (c : List Int) (n : Nat), leftGo set c n = if c.any (hasB set) then (true, 0) else (false, n + (c.filter fun y => !hasB set (-y)).length)
  | [], n => by simp [leftGo]
  | y :: r, n => by
    rw [leftGo]
    cases h1 : hasB set y with
    | true => rw [if_pos rfl, if_pos (by simp [h1])]
    | false =>
      rw [if_neg (by simp)]
      have hany : (y :: r).any (hasB set) = r.any (hasB set) := by simp [h1]
      rw [hany]
      cases h2 : hasB set (-y) with
      | true =>
        rw [if_pos rfl, leftGo_eq set r n, List.filter_cons, h2]
        simp
      | false =>
        rw [if_neg (by simp), leftGo_eq set r (n + 1), List.filter_cons, h2]
        simp only [Bool.not_false, if_true, List.length_cons]
        congr 2
        omega
theorem leftF_eq (c set : List Int) : leftF c set = if c.any (hasB set) then (true, 0) else (false, (c.filter fun y => !hasB set (-y)).length) := by
  unfold leftF
  rw [leftGo_eq]
  simp
theorem filter_one {c : List Int} {f : Int → Bool} {y : Int} (hn : c.Nodup) (hy : y ∈ c) (hf : f y = true) (ho : ∀ z ∈ c, f z = true → z = y) : (c.filter f).length = 1 := by
  have h1 : ∀ z ∈ c.filter f, z = y := fun z hz => ho z (List.mem_filter.1 hz).1 (List.mem_filter.1 hz).2
  have h2 : (c.filter f).Nodup := hn.filter f
  have h3 : y ∈ c.filter f := List.mem_filter.2 ⟨hy, hf⟩
  match hc : c.filter f, h1, h2, h3 with
  | [], _, _, h3 => cases h3
  | [a], _, _, _ => rfl
  | a :: b :: r, h1, h2, _ =>
    have e1 := h1 a (by simp)
    have e2 := h1 b (by simp)
    simp [e1, e2] at h2
theorem hasB_false {xs : List Int} {x : Int} : hasB xs x = false ↔ x ∉ xs := by
  rw [← hasB_iff]; simp
theorem leftF_one {c set : List Int} {y : Int} (hn : c.Nodup) (hy : y ∈ c) (hall : ∀ z ∈ c, z ≠ y → -z ∈ set) (hapart : ∀ z ∈ set, -z ∉ set) (h1 : y ∉ set) (h2 : -y ∉ set) : leftF c set = (false, 1) := by
  rw [leftF_eq, if_neg, filter_one hn hy]
  · simpa using hasB_false.2 h2
  · intro z hz hf
    apply Classical.byContradiction
    intro hne
    have := hall z hz hne
    simp [hasB_iff.2 this] at hf
  · intro h
    rw [List.any_eq_true] at h
    obtain ⟨z, hz, hb⟩ := h
    have hz2 := hasB_iff.1 hb
    by_cases e : z = y
    · subst e; exact h1 hz2
    · exact hapart z hz2 (hall z hz e)
theorem leftF_none {c set : List Int} (hall : ∀ z ∈ c, -z ∈ set) (hapart : ∀ z ∈ set, -z ∉ set) : leftF c set = (false, 0) := by
  rw [leftF_eq, if_neg]
  · have : (c.filter fun y => !hasB set (-y)) = [] := by
      rw [List.filter_eq_nil_iff]
      intro z hz
      simp [hasB_iff.2 (hall z hz)]
    rw [this]; rfl
  · intro h
    rw [List.any_eq_true] at h
    obtain ⟨z, hz, hb⟩ := h
    exact hapart z (hasB_iff.1 hb) (hall z hz)
theorem filter_two : ∀ {c : List Int} {f : Int → Bool} {i j : Nat}, i < j → j < c.length → f (gi c i) = true → f (gi c j) = true → 2 ≤ (c.filter f).length
  | [], _, _, _, _, hj, _, _ => by simp at hj
  | x :: r, f, 0, 0, h, _, _, _ => by omega
  | x :: r, f, i, 0, h, _, _, _ => by omega
  | x :: r, f, 0, j + 1, _, hj, h1, h2 => by
    have h1' : f x = true := by simpa [gi] using h1
    have h2' : f (gi r j) = true := by simpa [gi] using h2
    rw [List.filter_cons, if_pos h1', List.length_cons]
    have : gi r j ∈ r.filter f := List.mem_filter.2 ⟨getL_mem (by simpa using hj), h2'⟩
    have := List.length_pos_of_mem this
    omega
  | x :: r, f, i + 1, j + 1, h, hj, h1, h2 => by
    have := filter_two (c := r) (f := f) (i := i) (j := j) (by omega) (by simpa using hj) (by simpa [gi] using h1) (by simpa [gi] using h2)
    rw [List.filter_cons]
    split
    · simp; omega
    · exact this
theorem leftF_full {C : List (List Int)} {out c : List Int} (h : Full C out) (hc : c ∈ C) : leftF c out = (true, 0) ∨ ∃ m, leftF c out = (false, m) ∧ 2 ≤ m := by
  rw [leftF_eq]
  by_cases hany : c.any (hasB out) = true
  · rw [if_pos hany]; exact .inl rfl
  · rw [if_neg hany]
    refine .inr ⟨_, rfl, ?_⟩
    rcases h c hc with ⟨y, hy, ho⟩ | ⟨i, j, hi, hj, hne, h1, h2⟩
    · exact absurd (List.any_eq_true.2 ⟨y, hy, hasB_iff.2 ho⟩) hany
    · rcases Nat.lt_or_gt_of_ne hne with hlt | hlt
      · exact filter_two hlt hj (by simpa using hasB_false.2 h1) (by simpa using hasB_false.2 h2)
      · exact filter_two hlt hi (by simpa using hasB_false.2 h2) (by simpa using hasB_false.2 h1)
theorem just_at {C : List (List Int)} {T out : List Int} (h : Just C T out) : ∀ i, i < out.length → gi out i ∈ T ∨ unitIn C (out.take i) (gi out i) := by
  induction h with
  | nil => intro i hi; simp at hi
  | @snoc out x h hx ih =>
    intro i hi
    rw [List.length_append] at hi
    by_cases e : i < out.length
    · have hg : gi (out ++ [x]) i = gi out i := by simp [gi, List.getD_eq_getElem?_getD, List.getElem?_append_left e]
      rw [hg, List.take_append_of_le_length (by omega)]
      exact ih i e
    · obtain rfl : i = out.length := by simp at hi; omega
      have hg : gi (out ++ [x]) out.length = x := by simp [gi, List.getD_eq_getElem?_getD]
      rw [hg, List.take_append_of_le_length (Nat.le_refl _), List.take_length]
      exact hx
/-- Is this clause, under those literals, the reason of one? -/
def whyB (C : List (List Int)) (pre : List Int) (y : Int) (k : Nat) : Bool := !(leftF (gl C k) pre).1 && (leftF (gl C k) pre).2 == 1 && hasB (gl C k) y
structure OutAt (C : List (List Int)) (T out : List Int) (i : Nat) : Prop where
  lit : litB (gi out i) = true
  once : hasB (out.take i) (gi out i) = false
  apart : hasB (out.take i) (-gi out i) = false
  why : hasB T (gi out i) = true ∨ ∃ k, k < C.length ∧ whyB C (out.take i) (gi out i) k = true
theorem outAt_of {C : List (List Int)} {T out : List Int} {n : Int} (h : FollowSpec C T out n) (hC : COk C) {i : Nat} (hi : i < out.length) : OutAt C T out i := by
  have hm : gi out i ∈ out := getL_mem hi
  have hpre : ∀ z ∈ out.take i, z ∈ out := fun z hz => List.mem_of_mem_take hz
  have hn1 : gi out i ∉ out.take i := by
    intro hin
    obtain ⟨j, hj, he⟩ := mem_gi hin
    rw [List.length_take] at hj
    have he2 : gi out j = gi out i := by
      rw [← he]; simp [gi, List.getD_eq_getElem?_getD, show j < i by omega]
    have := gi_inj h.nodup (by omega) hi he2
    omega
  have hn2 : -gi out i ∉ out.take i := fun hin => h.apart _ hm (hpre _ hin)
  refine ⟨h.lits _ hm, hasB_false.2 hn1, hasB_false.2 hn2, ?_⟩
  rcases just_at h.just i hi with ht | ⟨c, hc, hy, hall⟩
  · exact .inl (hasB_iff.2 ht)
  · right
    obtain ⟨k, hk, rfl⟩ := List.getElem_of_mem hc
    refine ⟨k, hk, ?_⟩
    have hg : gl C k = C[k] := gl_eq C k hk
    obtain ⟨a1, a2, a3⟩ := hC _ hc
    unfold whyB
    rw [hg, leftF_one a1 hy hall (fun z hz hz2 => h.apart z (hpre _ hz) (hpre _ hz2)) hn1 hn2, hasB_iff.2 hy]
    rfl
theorem quietW {P : Program} {f : FuncId} {args : Array Value} {w : World} {n : Nat} {v : Value} (c : ∀ k, Calls P f args (w.drewN k) fun e w' => e = .returned v ∧ w.drewN k = w') :
    Calls P f args (w.drewN n) fun e w'' => e = .returned v ∧ ∃ m, w'' = w.drewN m := (c n).mono fun _ _ h => ⟨h.1, n, h.2.symm⟩
theorem rd_take {w : World} {A : Option Addr} {n : Nat} {xs : List Int} (h : Rd w A n xs) {i : Nat} (hi : i ≤ n) : Rd w A i (xs.take i) := by
  refine ⟨by rw [List.length_take, h.len]; omega, by have := h.small; omega, fun hp => ?_⟩
  obtain ⟨b, o, e, hc⟩ := h.cells (by omega)
  refine ⟨b, o, e, fun j hj => ?_⟩
  rw [hc j (by omega)]
  simp [gi, List.getD_eq_getElem?_getD, hj]
end Go.Proofs.Ytmljcbdlkeooiaa
