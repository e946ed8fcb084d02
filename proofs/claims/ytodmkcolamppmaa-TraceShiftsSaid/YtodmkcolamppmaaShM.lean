/-
  Shifting a trace past more given clauses: no program and no memory in sight.
-/
import Derived.Test.YtodmkcolamppmaaTrimM
namespace Go.Proofs.PlaitPure
def shN (n m : Nat) (x : Int) : Int := if (n : Int) ≤ x then x + m else x
theorem gl_append_left' {G M : List (List Int)} {j : Nat} (h : j < G.length) : gl (G ++ M) j = gl G j := by simp [gl, List.getD_eq_getElem?_getD, List.getElem?_append_left h]
theorem clauseF_shift (G M D : List (List Int)) (p : Int) : clauseF (G ++ M) D (shN G.length M.length p) = clauseF G D p := by
  unfold shN
  by_cases hg : (G.length : Int) ≤ p
  · rw [if_pos hg]
    unfold clauseF
    rw [List.length_append]
    by_cases hb : (G.length : Int) + D.length ≤ p
    · rw [if_pos (.inr (by omega)), if_pos (.inr hb)]
    · rw [if_neg (by omega), if_neg (by omega), if_neg (by omega), if_neg (by omega)]
      congr 2
      omega
  · rw [if_neg hg]
    unfold clauseF
    rw [List.length_append]
    by_cases h0 : p < 0
    · rw [if_pos (.inl h0), if_pos (.inl h0)]
    · rw [if_neg (by omega), if_pos (by omega), if_neg (by omega), if_pos (by omega), gl_append_left' (by omega)]
theorem foldR_shift (G M D : List (List Int)) : ∀ (r c : List Int), foldR (G ++ M) D c (r.map (shN G.length M.length)) = foldR G D c r
  | [], _ => rfl
  | p :: r, c => by
    rw [List.map_cons, foldR, foldR, clauseF_shift]
    cases clauseF G D p with
    | none => rfl
    | some d =>
      simp only
      cases resF c d with
      | none => rfl
      | some e => exact foldR_shift G M D r e
theorem stepF_shift (G M D : List (List Int)) (s : List Int) : stepF (G ++ M) D (s.map (shN G.length M.length)) = stepF G D s := by
  match s with
  | [] => rfl
  | p :: r =>
    rw [List.map_cons, stepF, stepF, clauseF_shift]
    cases clauseF G D p with
    | none => rfl
    | some c => exact foldR_shift G M D r c
theorem derGo_shift (G M : List (List Int)) : ∀ (l D : List (List Int)), derGo (G ++ M) D (l.map fun s => s.map (shN G.length M.length)) = derGo G D l
  | [], _ => rfl
  | s :: r, D => by
    rw [List.map_cons, derGo, derGo, stepF_shift]
    cases stepF G D s with
    | none => rfl
    | some c => exact derGo_shift G M r (D ++ [c])
end Go.Proofs.PlaitPure
