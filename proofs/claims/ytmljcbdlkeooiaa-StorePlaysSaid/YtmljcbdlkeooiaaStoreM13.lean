/-
  Sets as lists that rise. No program and no memory in sight.
-/
import Derived.Test.YtmljcbdlkeooiaaStoreM12
namespace Go.Proofs.PlaitPure
def Rises (l : List Int) : Prop := l.Pairwise (· < ·)
theorem Rises.ext : ∀ {a b : List Int}, Rises a → Rises b → (∀ x, x ∈ a ↔ x ∈ b) → a = b
  | [], [], _, _, _ => rfl
  | [], y :: b, _, _, h => absurd ((h y).2 (by simp)) (by simp)
  | x :: a, [], _, _, h => absurd ((h x).1 (by simp)) (by simp)
  | x :: a, y :: b, ha, hb, h => by
    obtain ⟨ha1, ha2⟩ := List.pairwise_cons.1 ha
    obtain ⟨hb1, hb2⟩ := List.pairwise_cons.1 hb
    have hxy : x = y := by
      rcases List.mem_cons.1 ((h x).1 (by simp)) with e | e
      · exact e
      · rcases List.mem_cons.1 ((h y).2 (by simp)) with e' | e'
        · exact e'.symm
        · have := hb1 x e
          have := ha1 y e'
          omega
    subst hxy
    congr 1
    refine Rises.ext ha2 hb2 fun z => ?_
    constructor
    · intro hz
      rcases List.mem_cons.1 ((h z).1 (by simp [hz])) with e | e
      · have := ha1 z hz; omega
      · exact e
    · intro hz
      rcases List.mem_cons.1 ((h z).2 (by simp [hz])) with e | e
      · have := hb1 z hz; omega
      · exact e
theorem ins_mem (x z : Int) : ∀ out : List Int, z ∈ ins x out ↔ z = x ∨ z ∈ out
  | [] => by simp [ins]
  | y :: r => by
    have := ins_mem x z r
    unfold ins
    split
    · simp only [List.mem_cons, this]
      constructor
      · rintro (h | h | h) <;> simp [h]
      · rintro (h | h | h) <;> simp [h]
    · split
      · rename_i e; subst e; simp
      · simp
theorem ins_rises (x : Int) : ∀ out : List Int, Rises out → Rises (ins x out)
  | [], _ => by simp [ins, Rises]
  | y :: r, h => by
    obtain ⟨h1, h2⟩ := List.pairwise_cons.1 h
    unfold ins
    split
    · rename_i hlt
      refine List.pairwise_cons.2 ⟨fun z hz => ?_, ins_rises x r h2⟩
      rcases (ins_mem x z r).1 hz with rfl | hz
      · exact hlt
      · exact h1 z hz
    · split
      · exact h
      · rename_i h3 h4
        refine List.pairwise_cons.2 ⟨fun z hz => ?_, h⟩
        rcases List.mem_cons.1 hz with rfl | hz
        · omega
        · have := h1 z hz; omega
theorem setGo_some : ∀ (xs out : List Int), (∀ x ∈ xs, okLit x = true) → Rises out → ∃ s, setGo out xs = some s ∧ Rises s ∧ ∀ z, z ∈ s ↔ z ∈ out ∨ z ∈ xs
  | [], out, _, h => ⟨out, rfl, h, fun z => by simp⟩
  | x :: r, out, hx, h => by
    obtain ⟨s, h1, h2, h3⟩ := setGo_some r (ins x out) (fun y hy => hx y (by simp [hy])) (ins_rises x out h)
    refine ⟨s, by rw [setGo, if_pos (hx x (by simp))]; exact h1, h2, fun z => ?_⟩
    rw [h3, ins_mem]
    simp only [List.mem_cons]
    constructor
    · rintro ((h | h) | h) <;> simp [h]
    · rintro (h | h | h) <;> simp [h]
theorem setGo_none : ∀ (xs out : List Int), (∃ x ∈ xs, okLit x = false) → setGo out xs = none
  | [], out, h => by obtain ⟨x, hx, _⟩ := h; cases hx
  | y :: r, out, h => by
    rw [setGo]
    split
    · rename_i hy
      obtain ⟨x, hx, hb⟩ := h
      rcases List.mem_cons.1 hx with rfl | hx
      · rw [hy] at hb; cases hb
      · exact setGo_none r _ ⟨x, hx, hb⟩
    · rfl
theorem litB_ok {x : Int} (h : litB x = true) : okLit x = true := by
  rw [litB_iff] at h
  simp [okLit]
  omega
theorem setF_some {xs : List Int} (h : ∀ x ∈ xs, okLit x = true) : ∃ s, setF xs = some s ∧ Rises s ∧ ∀ z, z ∈ s ↔ z ∈ xs := by
  obtain ⟨s, h1, h2, h3⟩ := setGo_some xs [] h List.Pairwise.nil
  exact ⟨s, h1, h2, fun z => by rw [h3]; simp⟩
end Go.Proofs.PlaitPure
