/-
  What Has tells is what the law's has tells. No program and no memory in sight.
-/
import Derived.Test.YtmljcbdlkeooiaaLaw4
import Derived.Test.YtmljcbdlkeooiaaStoreM13
namespace Go.Proofs.Ytmljcbdlkeooiaa
open Go.Proofs.PlaitPure

theorem compact_rises {zs : List Int} (hz : zs.Pairwise (· ≤ ·)) : ∀ m, m ≤ zs.length → Rises (Lib.compactUpTo zs.toArray m) ∧ ∀ z, z ∈ Lib.compactUpTo zs.toArray m ↔ z ∈ zs.take m
  | 0, _ => ⟨List.Pairwise.nil, fun z => by simp [Lib.compactUpTo]⟩
  | m + 1, hm => by
    obtain ⟨h1, h2⟩ := compact_rises hz m (by omega)
    have hle := List.pairwise_iff_getElem.1 hz
    have hget : ∀ i (hi : i < zs.length), zs.toArray[i]! = zs[i] := fun i hi => by simp [hi]
    have ht : zs.take (m + 1) = zs.take m ++ [zs[m]] := List.take_succ_eq_append_getElem (by omega)
    rw [Lib.compactUpTo_succ, ht, hget m (by omega)]
    cases hk : Lib.keeps zs.toArray m with
    | true =>
      rw [if_pos rfl]
      refine ⟨?_, fun z => by rw [List.mem_append, List.mem_append, h2 z]⟩
      unfold Rises
      rw [List.pairwise_append]
      refine ⟨h1, by simp, fun a ha b hb => ?_⟩
      rw [List.mem_singleton.1 hb]
      obtain ⟨i, hi, rfl⟩ := List.getElem_of_mem ((h2 a).1 ha)
      have him : i < m := by rw [List.length_take] at hi; omega
      rw [List.getElem_take]
      have hne : zs[m] ≠ zs[m - 1] := by
        intro e
        have := Lib.keeps_neg (d := zs.toArray) (m := m) (by omega) (by rw [hget m (by omega), hget (m - 1) (by omega)]; exact e)
        rw [this] at hk; cases hk
      have e1 : zs[m - 1] ≤ zs[m] := hle (m - 1) m (by omega) (by omega) (by omega)
      have e2 : zs[i] ≤ zs[m - 1] := by
        by_cases e : i = m - 1
        · subst e; exact Int.le_refl _
        · exact hle i (m - 1) (by omega) (by omega) (by omega)
      omega
    | false =>
      rw [if_neg (by simp), List.append_nil]
      refine ⟨h1, fun z => ?_⟩
      rw [h2 z, List.mem_append, List.mem_singleton]
      constructor
      · exact .inl
      · rintro (h | rfl)
        · exact h
        · have h0 : 0 < m := by
            rcases Nat.eq_zero_or_pos m with e | e
            · subst e; rw [Lib.keeps_lt_one _ 0 (by omega)] at hk; cases hk
            · exact e
          have e : zs[m] = zs[m - 1] := by
            apply Classical.byContradiction
            intro hne
            have := Lib.keeps_pos (d := zs.toArray) (m := m) (by rw [hget m (by omega), hget (m - 1) (by omega)]; exact hne)
            rw [this] at hk; cases hk
          rw [e]
          exact List.mem_iff_getElem.2 ⟨m - 1, by rw [List.length_take]; omega, by rw [List.getElem_take]⟩
theorem sorted_le (xs : List Int) : (sorted xs).Pairwise (· ≤ ·) := by
  have := List.pairwise_mergeSort (le := fun x y : Int => decide (x ≤ y)) (fun a b c h1 h2 => by simp at *; omega) (fun a b => by simp; omega) xs
  exact this.imp (by simp)
theorem sorted_mem (xs : List Int) (z : Int) : z ∈ sorted xs ↔ z ∈ xs := by unfold sorted; exact List.mem_mergeSort
theorem wantF_spec (xs : List Int) : Rises (wantF xs) ∧ ∀ z, z ∈ wantF xs ↔ z ∈ xs := by
  obtain ⟨h1, h2⟩ := compact_rises (sorted_le xs) (sorted xs).length (Nat.le_refl _)
  refine ⟨h1, fun z => ?_⟩
  have : z ∈ wantF xs ↔ z ∈ (sorted xs).take (sorted xs).length := h2 z
  rw [this, List.take_length, sorted_mem]
theorem sorted_rises {xs : List Int} (h : xs.Nodup) : Rises (sorted xs) := by
  have h1 := sorted_le xs
  have h2 : (sorted xs).Nodup := (List.mergeSort_perm xs _).nodup_iff.2 h
  have h3 := List.pairwise_and_iff.2 ⟨h1, h2⟩
  exact h3.imp fun ⟨a, b⟩ => by omega
theorem hasF_hasL {S : SM} (hS : S.Inv) (xs : List Int) : hasF S xs = hasL S.C xs := by
  have hck := hS.cok
  obtain ⟨w1, w2⟩ := wantF_spec xs
  have key : ∀ c ∈ S.C, ∃ s, setF c = some s ∧ s = sorted c := by
    intro c hc
    obtain ⟨a1, a2, _⟩ := hck c hc
    obtain ⟨s, h1, h2, h3⟩ := setF_some (fun x hx => litB_ok (a2 x hx))
    exact ⟨s, h1, Rises.ext h2 (sorted_rises a1) fun z => by rw [h3, sorted_mem]⟩
  have hF : hasF S xs = S.C.any fun c => eqB (sorted c) (wantF xs) := by unfold hasF SM.C; rw [List.any_map]; rfl
  rw [hF]
  unfold hasL
  by_cases hok : ∀ x ∈ xs, okLit x = true
  · obtain ⟨s, h1, h2, h3⟩ := setF_some hok
    have hs : s = wantF xs := Rises.ext h2 w1 fun z => by rw [h3, w2]
    rw [h1]
    simp only
    rw [Bool.eq_iff_iff, List.any_eq_true, List.any_eq_true]
    constructor
    · rintro ⟨c, hc, he⟩
      obtain ⟨t, k1, k2⟩ := key c hc
      refine ⟨c, hc, ?_⟩
      rw [k1, k2, hs, eqB_iff]
      exact (eqB_iff.1 he).symm
    · rintro ⟨c, hc, he⟩
      obtain ⟨t, k1, k2⟩ := key c hc
      refine ⟨c, hc, ?_⟩
      rw [k1, k2, hs] at he
      rw [eqB_iff]
      exact (eqB_iff.1 he).symm
  · have hex : ∃ x ∈ xs, okLit x = false := by
      apply Classical.byContradiction
      intro hne
      exact hok fun x hx => by
        cases e : okLit x with
        | true => rfl
        | false => exact absurd ⟨x, hx, e⟩ hne
    rw [show setF xs = none from setGo_none xs [] hex]
    simp only
    rw [List.any_eq_false]
    intro c hc he
    obtain ⟨x, hx, hb⟩ := hex
    have hm : x ∈ sorted c := by rw [eqB_iff.1 he, w2]; exact hx
    have := litB_ok ((hck c hc).2.1 x ((sorted_mem c x).1 hm))
    rw [this] at hb
    cases hb
end Go.Proofs.Ytmljcbdlkeooiaa
