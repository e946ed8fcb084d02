/-
  Sets as lists that rise. No program and no memory in sight.
-/
import Derived.Test.YtodmkcolamppmaaSort2
namespace Go.Proofs.PlaitPure
def Rises (l : List Int) : Prop := l.Pairwise (· < ·)
theorem Rises.ext : ∀ {a b : List Int}, Rises a → Rises b → (∀ x, x ∈ a ↔ x ∈ b) → a = b
  | [], [], _, _, _ => rfl
  | [], y :: b, _, _, h => absurd ((h y).2 (by simp)) (by simp)
  | x :: a, [], _, _, h => absurd ((h x).1 (by simp)) (by simp)
  | x :: a, y :: b, ha, hb, h => by
    obtain ⟨ha1, ha2⟩ := List.pairwise_cons.1 ha
    obtain ⟨hb1, hb2⟩ := List.pairwise_cons.1 hb
    have hxy : x = y := by
      rcases List.mem_cons.1 ((h x).1 (by simp)) with e | e
      · exact e
      · rcases List.mem_cons.1 ((h y).2 (by simp)) with e' | e'
        · exact e'.symm
        · have := hb1 x e
          have := ha1 y e'
          omega
    subst hxy
    congr 1
    refine Rises.ext ha2 hb2 fun z => ?_
    constructor
    · intro hz
      rcases List.mem_cons.1 ((h z).1 (by simp [hz])) with e | e
      · have := ha1 z hz; omega
      · exact e
    · intro hz
      rcases List.mem_cons.1 ((h z).2 (by simp [hz])) with e | e
      · have := hb1 z hz; omega
      · exact e
theorem ins_mem (x z : Int) : ∀ out : List Int, z ∈ ins x out ↔ z = x ∨ z ∈ out
  | [] => by simp [ins]
  | y :: r => by
    have := ins_mem x z r
    unfold ins
    split
    · simp only [List.mem_cons, this]
      constructor
      · rintro (h | h | h) <;> simp [h]
      · rintro (h | h | h) <;> simp [h]
    · split
      · rename_i e; subst e; simp
      · simp
theorem ins_rises (x : Int) : ∀ out : List Int, Rises out → Rises (ins x out)
  | [], _ => by simp [ins, Rises]
  | y :: r, h => by
    obtain ⟨h1, h2⟩ := List.pairwise_cons.1 h
    unfold ins
    split
    · rename_i hlt
      refine List.pairwise_cons.2 ⟨fun z hz => ?_, ins_rises x r h2⟩
      rcases (ins_mem x z r).1 hz with rfl | hz
      · exact hlt
      · exact h1 z hz
    · split
      · exact h
      · rename_i h3 h4
        refine List.pairwise_cons.2 ⟨fun z hz => ?_, h⟩
        rcases List.mem_cons.1 hz with rfl | hz
        · omega
        · have := h1 z hz; omega
theorem setGo_some : ∀ (xs out : List Int), (∀ x ∈ xs, okLit x = true) → Rises out → ∃ s, setGo out xs = some s ∧ Rises s ∧ ∀ z, z ∈ s ↔ z ∈ out ∨ z ∈ xs
  | [], out, _, h => ⟨out, rfl, h, fun z => by simp⟩
  | x :: r, out, hx, h => by
    obtain ⟨s, h1, h2, h3⟩ := setGo_some r (ins x out) (fun y hy => hx y (by simp [hy])) (ins_rises x out h)
    refine ⟨s, by rw [setGo, if_pos (hx x (by simp))]; exact h1, h2, fun z => ?_⟩
    rw [h3, ins_mem]
    simp only [List.mem_cons]
    constructor
    · rintro ((h | h) | h) <;> simp [h]
    · rintro (h | h | h) <;> simp [h]
theorem setGo_none : ∀ (xs out : List Int), (∃ x ∈ xs, okLit x = false) → setGo out xs = none
  | [], out, h => by obtain ⟨x, hx, _⟩ := h; cases hx
  | y :: r, out, h => by
    rw [setGo]
    split
    · rename_i hy
      obtain ⟨x, hx, hb⟩ := h
      rcases List.mem_cons.1 hx with rfl | hx
      · rw [hy] at hb; cases hb
      · exact setGo_none r _ ⟨x, hx, hb⟩
    · rfl
theorem setF_some {xs : List Int} (h : ∀ x ∈ xs, okLit x = true) : ∃ s, setF xs = some s ∧ Rises s ∧ ∀ z, z ∈ s ↔ z ∈ xs := by
  obtain ⟨s, h1, h2, h3⟩ := setGo_some xs [] h List.Pairwise.nil
  exact ⟨s, h1, h2, fun z => by rw [h3]; simp⟩
end Go.Proofs.PlaitPure
namespace Go.Proofs.Ytodmkcolamppmaa
open Go.Proofs.PlaitPure
def wantF (xs : List Int) : List Int := Lib.compact (sorted xs)
theorem compact_rises {zs : List Int} (hz : zs.Pairwise (· ≤ ·)) : ∀ m, m ≤ zs.length → Rises (Lib.compactUpTo zs.toArray m) ∧ ∀ z, z ∈ Lib.compactUpTo zs.toArray m ↔ z ∈ zs.take m
  | 0, _ => ⟨List.Pairwise.nil, fun z => by simp [Lib.compactUpTo]⟩
  | m + 1, hm => by
    obtain ⟨h1, h2⟩ := compact_rises hz m (by omega)
    have hle := List.pairwise_iff_getElem.1 hz
    have hget : ∀ i (hi : i < zs.length), zs.toArray[i]! = zs[i] := fun i hi => by simp [hi]
    have ht : zs.take (m + 1) = zs.take m ++ [zs[m]] := List.take_succ_eq_append_getElem (by omega)
    rw [Lib.compactUpTo_succ, ht, hget m (by omega)]
    cases hk : Lib.keeps zs.toArray m with
    | true =>
      rw [if_pos rfl]
      refine ⟨?_, fun z => by rw [List.mem_append, List.mem_append, h2 z]⟩
      unfold Rises
      rw [List.pairwise_append]
      refine ⟨h1, by simp, fun a ha b hb => ?_⟩
      rw [List.mem_singleton.1 hb]
      obtain ⟨i, hi, rfl⟩ := List.getElem_of_mem ((h2 a).1 ha)
      have him : i < m := by rw [List.length_take] at hi; omega
      rw [List.getElem_take]
      have hne : zs[m] ≠ zs[m - 1] := by
        intro e
        have := Lib.keeps_neg (d := zs.toArray) (m := m) (by omega) (by rw [hget m (by omega), hget (m - 1) (by omega)]; exact e)
        rw [this] at hk; cases hk
      have e1 : zs[m - 1] ≤ zs[m] := hle (m - 1) m (by omega) (by omega) (by omega)
      have e2 : zs[i] ≤ zs[m - 1] := by
        by_cases e : i = m - 1
        · subst e; exact Int.le_refl _
        · exact hle i (m - 1) (by omega) (by omega) (by omega)
      omega
    | false =>
      rw [if_neg (by simp), List.append_nil]
      refine ⟨h1, fun z => ?_⟩
      rw [h2 z, List.mem_append, List.mem_singleton]
      constructor
      · exact .inl
      · rintro (h | rfl)
        · exact h
        · have h0 : 0 < m := by
            rcases Nat.eq_zero_or_pos m with e | e
            · subst e; rw [Lib.keeps_lt_one _ 0 (by omega)] at hk; cases hk
            · exact e
          have e : zs[m] = zs[m - 1] := by
            apply Classical.byContradiction
            intro hne
            have := Lib.keeps_pos (d := zs.toArray) (m := m) (by rw [hget m (by omega), hget (m - 1) (by omega)]; exact hne)
            rw [this] at hk; cases hk
          rw [e]
          exact List.mem_iff_getElem.2 ⟨m - 1, by rw [List.length_take]; omega, by rw [List.getElem_take]⟩
theorem sorted_le (xs : List Int) : (sorted xs).Pairwise (· ≤ ·) := by
  have := List.pairwise_mergeSort (le := fun x y : Int => decide (x ≤ y)) (fun a b c h1 h2 => by simp at *; omega) (fun a b => by simp; omega) xs
  exact this.imp (by simp)
theorem sorted_mem (xs : List Int) (z : Int) : z ∈ sorted xs ↔ z ∈ xs := by unfold sorted; exact List.mem_mergeSort
theorem wantF_spec (xs : List Int) : Rises (wantF xs) ∧ ∀ z, z ∈ wantF xs ↔ z ∈ xs := by
  obtain ⟨h1, h2⟩ := compact_rises (sorted_le xs) (sorted xs).length (Nat.le_refl _)
  refine ⟨h1, fun z => ?_⟩
  have : z ∈ wantF xs ↔ z ∈ (sorted xs).take (sorted xs).length := h2 z
  rw [this, List.take_length, sorted_mem]
theorem sorted_rises {xs : List Int} (h : xs.Nodup) : Rises (sorted xs) := by
  have h1 := sorted_le xs
  have h2 : (sorted xs).Nodup := (List.mergeSort_perm xs _).nodup_iff.2 h
  have h3 := List.pairwise_and_iff.2 ⟨h1, h2⟩
  exact h3.imp fun ⟨a, b⟩ => by omega
end Go.Proofs.Ytodmkcolamppmaa
