/-
  A chain of implications, followed from either end. No program and no memory in sight.
-/
import Derived.Test.YtmljcbdlkeooiaaLaw8
namespace Go.Proofs.Ytmljcbdlkeooiaa
open Go.Proofs.PlaitPure

def IsChain (C : List (List Int)) (n : Int) : Prop := ∀ c, c ∈ C ↔ ∃ i : Int, 1 ≤ i ∧ i < n ∧ c = [-i, i + 1]
theorem mem_take_gi {l : List Int} {i : Nat} {z : Int} (h : z ∈ l.take i) : ∃ j, j < i ∧ j < l.length ∧ gi l j = z := by
  obtain ⟨j, hj, he⟩ := mem_gi h
  rw [List.length_take] at hj
  refine ⟨j, by omega, by omega, ?_⟩
  rw [← he]
  simp [gi, List.getD_eq_getElem?_getD, show j < i by omega]
theorem up_just {C : List (List Int)} {n : Int} (h : IsChain C n) (hn : 2 ≤ n) {out : List Int} (hj : Just C [1] out) (hd : out.Nodup) : ∀ i : Nat, i < out.length → gi out i = (i : Int) + 1 ∧ (i : Int) < n := by
  intro i
  induction i using Nat.strongRecOn with
  | ind i ih =>
    intro hi
    have hpre : ∀ z ∈ out.take i, ∃ j : Nat, j < i ∧ z = (j : Int) + 1 := fun z hz => by
      obtain ⟨j, h1, h2, h3⟩ := mem_take_gi hz
      exact ⟨j, h1, by rw [← h3, (ih j h1 h2).1]⟩
    rcases just_at hj i hi with h1 | ⟨c, hc, hx, hall⟩
    · have h1 : gi out i = 1 := by simpa using h1
      by_cases e : i = 0
      · subst e; exact ⟨by simpa using h1, by omega⟩
      · exfalso
        have h0 := (ih 0 (by omega) (by omega)).1
        have := gi_inj hd (i := 0) (j := i) (by omega) hi (by rw [h0, h1]; rfl)
        omega
    · obtain ⟨t, ht1, ht2, rfl⟩ := (h c).1 hc
      have hx2 : gi out i = -t ∨ gi out i = t + 1 := by simpa using hx
      rcases hx2 with hx2 | hx2
      · exfalso
        obtain ⟨j, _, hj2⟩ := hpre _ (hall (t + 1) (by simp) (by omega))
        omega
      · obtain ⟨j, hj1, hj2⟩ := hpre _ (hall (-t) (by simp) (by omega))
        by_cases e : j + 1 = i
        · omega
        · exfalso
          have h0 := (ih (j + 1) (by omega) (by omega)).1
          have := gi_inj hd (i := j + 1) (j := i) (by omega) hi (by rw [h0, hx2]; omega)
          omega
theorem down_just {C : List (List Int)} {n : Int} (h : IsChain C n) (hn : 2 ≤ n) {out : List Int} (hj : Just C [-n] out) (hd : out.Nodup) : ∀ i : Nat, i < out.length → gi out i = (i : Int) - n ∧ (i : Int) < n := by
  intro i
  induction i using Nat.strongRecOn with
  | ind i ih =>
    intro hi
    have hpre : ∀ z ∈ out.take i, ∃ j : Nat, j < i ∧ z = (j : Int) - n ∧ (j : Int) < n := fun z hz => by
      obtain ⟨j, h1, h2, h3⟩ := mem_take_gi hz
      exact ⟨j, h1, by rw [← h3, (ih j h1 h2).1], (ih j h1 h2).2⟩
    rcases just_at hj i hi with h1 | ⟨c, hc, hx, hall⟩
    · have h1 : gi out i = -n := by simpa using h1
      by_cases e : i = 0
      · subst e; exact ⟨by rw [h1]; simp, by omega⟩
      · exfalso
        have h0 := (ih 0 (by omega) (by omega)).1
        have := gi_inj hd (i := 0) (j := i) (by omega) hi (by rw [h0, h1]; simp)
        omega
    · obtain ⟨t, ht1, ht2, rfl⟩ := (h c).1 hc
      have hx2 : gi out i = -t ∨ gi out i = t + 1 := by simpa using hx
      rcases hx2 with hx2 | hx2
      · obtain ⟨j, hj1, hj2, hj3⟩ := hpre _ (hall (t + 1) (by simp) (by omega))
        by_cases e : j + 1 = i
        · omega
        · exfalso
          have h0 := (ih (j + 1) (by omega) (by omega)).1
          have := gi_inj hd (i := j + 1) (j := i) (by omega) hi (by rw [h0, hx2]; omega)
          omega
      · exfalso
        obtain ⟨j, hj1, hj2, hj3⟩ := hpre _ (hall (-t) (by simp) (by omega))
        omega
theorem chain_up {C : List (List Int)} {n : Int} (h : IsChain C n) (hn : 2 ≤ n) (hC : COk C) {out : List Int} {q : Int} (ht : PlaitPure.Told C [1] out q) (hs : FollowSpec C [1] out q) :
    q = -1 ∧ (out.length : Int) = n ∧ ∀ i : Nat, i < out.length → gi out i = (i : Int) + 1 := by
  have hg := up_just h hn hs.just hs.nodup
  have hpos : ∀ z ∈ out, 0 < z := fun z hz => by
    obtain ⟨i, hi, he⟩ := mem_gi hz
    have := (hg i hi).1
    omega
  have hr := hs.range
  have hq : q = -1 := by
    by_cases h0 : 0 ≤ q
    · exfalso
      obtain ⟨c, hc, hall⟩ := hs.bad h0
      obtain ⟨t, ht1, ht2, rfl⟩ := (h c).1 (List.mem_of_getElem? hc)
      have := hpos _ (hall (t + 1) (by simp))
      omega
    · by_cases h2 : q = -2
      · exfalso
        obtain ⟨pre, x, post, e, _, hx⟩ := hs.two h2
        cases pre with
        | nil =>
          simp at e
          obtain ⟨rfl, _⟩ := e
          rcases hx with hx | hx
          · exact absurd hx (by decide)
          · have := hpos _ hx; omega
        | cons a r => simp at e
      · omega
  have hcl := told_closed ht hq
  have h1 : (1 : Int) ∈ out := hcl.sub 1 (by simp)
  have hlen : 0 < out.length := List.length_pos_of_mem h1
  have hle : (out.length : Int) ≤ n := by have := (hg (out.length - 1) (by omega)).2; omega
  refine ⟨hq, ?_, fun i hi => (hg i hi).1⟩
  apply Classical.byContradiction
  intro hne
  have hin := hcl.full.closed hC hcl.parts [-(out.length : Int), (out.length : Int) + 1] ((h _).2 ⟨_, by omega, by omega, rfl⟩) ((out.length : Int) + 1) (by simp) (fun y hy hne => by
    have hy2 : y = -(out.length : Int) ∨ y = (out.length : Int) + 1 := by simpa using hy
    rcases hy2 with rfl | rfl
    · have := (hg (out.length - 1) (by omega)).1
      rw [show -(-(out.length : Int)) = gi out (out.length - 1) by omega]
      exact getL_mem (by omega)
    · exact absurd rfl hne)
  obtain ⟨i, hi, he⟩ := mem_gi hin
  have := (hg i hi).1
  omega
theorem chain_down {C : List (List Int)} {n : Int} (h : IsChain C n) (hn : 2 ≤ n) (hn' : n ≤ 65536) (hC : COk C) {out : List Int} {q : Int} (ht : PlaitPure.Told C [-n] out q) (hs : FollowSpec C [-n] out q) :
    q = -1 ∧ (out.length : Int) = n ∧ ∀ i : Nat, i < out.length → gi out i = (i : Int) - n := by
  have hg := down_just h hn hs.just hs.nodup
  have hneg : ∀ z ∈ out, z < 0 := fun z hz => by
    obtain ⟨i, hi, he⟩ := mem_gi hz
    have := hg i hi
    omega
  have hr := hs.range
  have hq : q = -1 := by
    by_cases h0 : 0 ≤ q
    · exfalso
      obtain ⟨c, hc, hall⟩ := hs.bad h0
      obtain ⟨t, ht1, ht2, rfl⟩ := (h c).1 (List.mem_of_getElem? hc)
      have := hneg _ (hall (-t) (by simp))
      omega
    · by_cases h2 : q = -2
      · exfalso
        obtain ⟨pre, x, post, e, _, hx⟩ := hs.two h2
        cases pre with
        | nil =>
          simp at e
          obtain ⟨rfl, _⟩ := e
          rcases hx with hx | hx
          · rw [litB_iff.2 ⟨by omega, by omega, by omega⟩] at hx; cases hx
          · have := hneg _ hx; omega
        | cons a r => simp at e
      · omega
  have hcl := told_closed ht hq
  have h1 : -n ∈ out := hcl.sub (-n) (by simp)
  have hlen : 0 < out.length := List.length_pos_of_mem h1
  have hle : (out.length : Int) ≤ n := by have := (hg (out.length - 1) (by omega)).2; omega
  refine ⟨hq, ?_, fun i hi => (hg i hi).1⟩
  apply Classical.byContradiction
  intro hne
  have hin := hcl.full.closed hC hcl.parts [-(n - (out.length : Int)), (n - (out.length : Int)) + 1] ((h _).2 ⟨_, by omega, by omega, rfl⟩) (-(n - (out.length : Int))) (by simp) (fun y hy hne => by
    have hy2 : y = -(n - (out.length : Int)) ∨ y = (n - (out.length : Int)) + 1 := by simpa using hy
    rcases hy2 with rfl | rfl
    · exact absurd rfl hne
    · have := (hg (out.length - 1) (by omega)).1
      rw [show -((n - (out.length : Int)) + 1) = gi out (out.length - 1) by omega]
      exact getL_mem (by omega))
  obtain ⟨i, hi, he⟩ := mem_gi hin
  have := (hg i hi).1
  omega
theorem closed_up {C : List (List Int)} {n : Int} (h : IsChain C n) (hC : COk C) {P O : List Int} (hc : ClosedAt C P O) (h1 : (1 : Int) ∈ O) : ∀ i : Nat, (i : Int) < n → ((i : Int) + 1) ∈ O
  | 0, _ => by simpa using h1
  | i + 1, hi => by
    have ih := closed_up h hC hc h1 i (by omega)
    have := hc.full.closed hC hc.parts [-((i : Int) + 1), ((i : Int) + 1) + 1] ((h _).2 ⟨_, by omega, by omega, rfl⟩) (((i : Int) + 1) + 1) (by simp) (fun y hy hne => by
      have hy2 : y = -((i : Int) + 1) ∨ y = ((i : Int) + 1) + 1 := by simpa using hy
      rcases hy2 with rfl | rfl
      · rw [Int.neg_neg]; exact ih
      · exact absurd rfl hne)
    simpa using this
theorem chain_both {C : List (List Int)} {n : Int} (h : IsChain C n) (hn : 2 ≤ n) (hC : COk C) {out : List Int} {q : Int} (ht : PlaitPure.Told C [1, -n] out q) : q = -2 := by
  have top : ∀ {P O : List Int}, ClosedAt C P O → (1 : Int) ∈ O → n ∈ O := fun hc h1 => by
    have := closed_up h hC hc h1 (n - 1).toNat (by omega)
    rwa [show (((n - 1).toNat : Nat) : Int) + 1 = n by omega] at this
  cases ht with
  | all hc => exact absurd (hc.sub (-n) (by simp)) (hc.parts.2.2 n (top hc (hc.sub 1 (by simp))))
  | two pre x post e hc hx => rfl
  | begin b hp hj hb =>
    exfalso
    have hnil : out = [] := by
      apply Classical.byContradiction
      intro hne
      rcases just_at hj 0 (List.length_pos_iff.2 hne) with h1 | ⟨c, hc, hx, hall⟩
      · cases h1
      · obtain ⟨t, ht1, ht2, rfl⟩ := (h c).1 hc
        by_cases e : gi out 0 = -t
        · have := hall (t + 1) (by simp) (by omega); simp at this
        · have := hall (-t) (by simp) (by omega); simp at this
    subst hnil
    obtain ⟨c, hc, hall⟩ := hb
    obtain ⟨t, ht1, ht2, rfl⟩ := (h c).1 (List.mem_of_getElem? hc)
    have := hall (-t) (by simp)
    cases this
  | bad pre x post O b e hc hl hx hp hj hb =>
    exfalso
    match pre, e with
    | [], e =>
      simp at e
      obtain ⟨rfl, _⟩ := e
      obtain ⟨c, hc', hall⟩ := hb
      obtain ⟨t, ht1, ht2, rfl⟩ := (h c).1 (List.mem_of_getElem? hc')
      obtain ⟨i, hi, he⟩ := mem_gi (hall (t + 1) (by simp))
      have := (up_just h hn hj hp.2.1 i hi).1
      omega
    | [a], e =>
      simp at e
      obtain ⟨rfl, rfl, _⟩ := e
      exact hx (by rw [Int.neg_neg]; exact top hc (hc.sub 1 (by simp)))
    | a :: b' :: r, e => simp at e
/-- Which of a chain's clauses are there. -/
structure ChainDone (N st fr cur : Nat) (I : List Nat) : Prop where
  nodup : I.Nodup
  mem : ∀ i, i ∈ I ↔ 1 ≤ i ∧ i < N ∧ ((i - 1) % st < fr ∨ ((i - 1) % st = fr ∧ i < cur))
theorem ChainDone.start (N st : Nat) : ChainDone N st 0 0 [] := ⟨List.nodup_nil, fun i => by simp⟩
theorem ChainDone.next {N st fr cur : Nat} {I : List Nat} (h : ChainDone N st fr cur I) (hst : 0 < st) (hc : (cur - 1) % st = fr) (h1 : 1 ≤ cur) (hN : cur < N) : ChainDone N st fr (cur + st) (I ++ [cur]) := by
  have hni : cur ∉ I := fun hin => by
    have := (h.mem cur).1 hin
    omega
  refine ⟨?_, fun i => ?_⟩
  · rw [List.nodup_append]
    refine ⟨h.nodup, by simp, fun a ha b hb => ?_⟩
    rw [List.mem_singleton.1 hb]
    intro e
    exact hni (e ▸ ha)
  · rw [List.mem_append, List.mem_singleton, h.mem]
    constructor
    · rintro (⟨a, b, c⟩ | rfl)
      · exact ⟨a, b, by omega⟩
      · exact ⟨h1, hN, by omega⟩
    · rintro ⟨a, b, c | ⟨c, d⟩⟩
      · exact .inl ⟨a, b, .inl c⟩
      · by_cases e : i < cur
        · exact .inl ⟨a, b, .inr ⟨c, e⟩⟩
        · right
          have e1 := Nat.div_add_mod (i - 1) st
          have e2 := Nat.div_add_mod (cur - 1) st
          have h3 : st * ((i - 1) / st) < st * ((cur - 1) / st + 1) := by rw [Nat.mul_add]; omega
          have h4 : st * ((cur - 1) / st) < st * ((i - 1) / st + 1) := by rw [Nat.mul_add]; omega
          have h5 := Nat.lt_of_mul_lt_mul_left h3
          have h6 := Nat.lt_of_mul_lt_mul_left h4
          have h7 : (i - 1) / st = (cur - 1) / st := by omega
          rw [h7] at e1
          omega
theorem ChainDone.turn {N st fr cur : Nat} {I : List Nat} (h : ChainDone N st fr cur I) (hN : N ≤ cur) : ChainDone N st (fr + 1) 0 I := by
  refine ⟨h.nodup, fun i => ?_⟩
  rw [h.mem]
  constructor
  · rintro ⟨a, b, c⟩; exact ⟨a, b, by omega⟩
  · rintro ⟨a, b, c⟩; exact ⟨a, b, by omega⟩
theorem ChainDone.count {N st fr cur : Nat} {I : List Nat} (h : ChainDone N st fr cur I) : I.length ≤ N := nodup_bound N I h.nodup fun x hx => by have := (h.mem x).1 hx; omega
theorem nodup_sub : ∀ {l m : List Nat}, l.Nodup → (∀ x ∈ l, x ∈ m) → l.length ≤ m.length
  | [], _, _, _ => Nat.zero_le _
  | a :: r, m, hn, hs => by
    obtain ⟨h1, h2⟩ := List.nodup_cons.1 hn
    have ha : a ∈ m := hs a (by simp)
    have := nodup_sub (l := r) (m := m.erase a) h2 fun x hx => (List.mem_erase_of_ne (fun e : x = a => h1 (by rw [← e]; exact hx))).2 (hs x (by simp [hx]))
    rw [List.length_erase_of_mem ha] at this
    have := List.length_pos_of_mem ha
    simp only [List.length_cons]
    omega
theorem ChainDone.all {N st cur : Nat} {I : List Nat} (h : ChainDone N st st cur I) (hst : 0 < st) (hN : 1 ≤ N) : I.length = N - 1 ∧ ∀ i, i ∈ I ↔ 1 ≤ i ∧ i < N := by
  have hm : ∀ i, i ∈ I ↔ 1 ≤ i ∧ i < N := fun i => by
    rw [h.mem]
    have := Nat.mod_lt (i - 1) hst
    constructor
    · rintro ⟨a, b, _⟩; exact ⟨a, b⟩
    · rintro ⟨a, b⟩; exact ⟨a, b, .inl this⟩
  refine ⟨?_, hm⟩
  have h1 := nodup_sub (l := I) (m := (List.range (N - 1)).map (· + 1)) h.nodup fun x hx => by
    have := (hm x).1 hx
    exact List.mem_map.2 ⟨x - 1, by simp; omega, by omega⟩
  have h2 := nodup_sub (l := (List.range (N - 1)).map (· + 1)) (m := I) (by
    rw [List.nodup_iff_pairwise_ne, List.pairwise_map]
    exact (List.nodup_iff_pairwise_ne.1 List.nodup_range).imp fun h e => h (by omega)) fun x hx => by
    obtain ⟨y, hy, rfl⟩ := List.mem_map.1 hx
    have := List.mem_range.1 hy
    exact (hm _).2 ⟨by omega, by omega⟩
  simp at h1 h2
  omega
def chainC (I : List Nat) : List (List Int) := I.map fun (i : Nat) => [-(i : Int), (i : Int) + 1]
theorem chainC_is {N st cur : Nat} {I : List Nat} (h : ChainDone N st st cur I) (hst : 0 < st) (hN : 1 ≤ N) : IsChain (chainC I) N := by
  intro c
  unfold chainC
  rw [List.mem_map]
  constructor
  · rintro ⟨i, hi, rfl⟩
    have := ((h.all hst hN).2 i).1 hi
    exact ⟨i, by omega, by omega, rfl⟩
  · rintro ⟨i, h1, h2, rfl⟩
    refine ⟨i.toNat, ((h.all hst hN).2 _).2 ⟨by omega, by omega⟩, ?_⟩
    rw [Int.toNat_of_nonneg (by omega)]
theorem chainC_words (I : List Nat) : wsum (chainC I) = 4 * I.length := by
  unfold wsum chainC
  induction I with
  | nil => rfl
  | cons a r ih => simp only [List.map_cons, List.sum_cons, List.length_cons, ih, List.length_nil]; omega
theorem link_once {i : Int} (h1 : 1 ≤ i) (h2 : i ≤ 60000) : onceE [-i, i + 1] = 0 ∧ onceL [-i, i + 1] = [-i, i + 1] := by
  have a1 : litB (-i) = true := litB_iff.2 ⟨by omega, by omega, by omega⟩
  have a2 : litB (i + 1) = true := litB_iff.2 ⟨by omega, by omega, by omega⟩
  constructor
  · have hb : bothB [-i, i + 1] = false := by
      unfold bothB
      rw [List.any_eq_false]
      intro x hx
      have hx2 : x = -i ∨ x = i + 1 := by simpa using hx
      simp only [decide_eq_true_eq, List.mem_cons, List.not_mem_nil, or_false]
      rcases hx2 with rfl | rfl <;> omega
    unfold onceE
    rw [if_pos (by simp [a1, a2]), hb]
    rfl
  · have hne : ¬ (i + 1 = -i) := by omega
    simp [onceL, onceOut, hne]
end Go.Proofs.Ytmljcbdlkeooiaa
