/-
  Trim, as a plain function: which steps are needed, what they are called then.
-/
import Derived.Test.YtodmkcolamppmaaChk
import Derived.Test.YtodmkcolamppmaaRead3
namespace Go.Proofs.PlaitPure
open Go.Proofs.PlaitSep (zeros)
def gb (N : List Bool) (i : Nat) : Bool := N.getD i false
theorem gb_eq {N : List Bool} {i : Nat} (h : i < N.length) : gb N i = N[i] := by simp [gb, List.getD_eq_getElem?_getD, h]
def mark1 (n : Int) (i : Nat) (N : List Bool) (x : Int) : List Bool := if gb N i && decide (n ≤ x) then N.set (x - n).toNat true else N
def markRow (n : Int) (i : Nat) (N : List Bool) (s : List Int) : List Bool := s.foldl (mark1 n i) N
def needGo (n : Int) (l : List (List Int)) : Nat → List Bool → List Bool
  | 0, N => N
  | i + 1, N => needGo n l i (markRow n i N (gl l i))
def needF (n : Int) (l : List (List Int)) : List Bool := needGo n l l.length ((List.replicate l.length false).set (l.length - 1) true)
def newNum (n : Int) (now : List Int) (x : Int) : Int := if n ≤ x then gi now (x - n).toNat else x
def trimGo (n : Int) (N : List Bool) : Nat → List Int → List (List Int) → List (List Int) → List (List Int)
  | _, _, out, [] => out
  | i, now, out, s :: r => if gb N i then trimGo n N (i + 1) (now.set i (n + out.length)) (out ++ [s.map (newNum n (now.set i (n + out.length)))]) r else trimGo n N (i + 1) now out r
def trimL (n : Int) (l : List (List Int)) : List (List Int) := trimGo n (needF n l) 0 (zeros l.length) [] l
def trimF (G : List (List Int)) (b : List Int) : List Int × Int := if (chkF G b).2 ≠ 0 then ([], (chkF G b).2) else encF (trimL G.length (chkF G b).1)
theorem mark1_length (n : Int) (i : Nat) (N : List Bool) (x : Int) : (mark1 n i N x).length = N.length := by unfold mark1; split <;> simp
theorem markRow_length (n : Int) (i : Nat) (s : List Int) : ∀ N : List Bool, (markRow n i N s).length = N.length := by
  induction s with
  | nil => intro N; rfl
  | cons x r ih => intro N; show (markRow n i (mark1 n i N x) r).length = _; rw [ih, mark1_length]
/-- Each step names what is there. -/
def ValidL (n : Nat) (l : List (List Int)) : Prop := ∀ i, i < l.length → ∀ t, t < (gl l i).length → 0 ≤ gi (gl l i) t ∧ gi (gl l i) t < (n : Int) + i
theorem clauseF_num {G D : List (List Int)} {p : Int} {c : List Int} (h : clauseF G D p = some c) : 0 ≤ p ∧ p < (G.length : Int) + D.length := by
  unfold clauseF at h
  split at h
  · cases h
  · rename_i h1; omega
theorem foldR_num {G D : List (List Int)} : ∀ {r c e : List Int}, foldR G D c r = some e → ∀ x ∈ r, 0 ≤ x ∧ x < (G.length : Int) + D.length
  | [], _, _, _ => fun x hx => by cases hx
  | p :: r, c, e, h => by
    unfold foldR at h
    split at h
    · cases h
    · rename_i h1
      split at h
      · cases h
      · intro x hx
        rcases List.mem_cons.1 hx with rfl | hx
        · exact clauseF_num h1
        · exact foldR_num h x hx
theorem stepF_num {G D : List (List Int)} {s c : List Int} (h : stepF G D s = some c) : ∀ x ∈ s, 0 ≤ x ∧ x < (G.length : Int) + D.length := by
  match s, h with
  | p :: r, h =>
    rw [stepF] at h
    split at h
    · cases h
    · rename_i h1
      intro x hx
      rcases List.mem_cons.1 hx with rfl | hx
      · exact clauseF_num h1
      · exact foldR_num h x hx
theorem derGo_num {G : List (List Int)} : ∀ {l D E : List (List Int)}, derGo G D l = some E → ∀ i, i < l.length → ∀ x ∈ gl l i, 0 ≤ x ∧ x < (G.length : Int) + D.length + i
  | [], _, _, _ => fun i hi => absurd hi (Nat.not_lt_zero i)
  | s :: r, D, E, h => by
    unfold derGo at h
    split at h
    · cases h
    · rename_i c h1
      intro i hi x hx
      cases i with
      | zero =>
        have := stepF_num h1 x (by simpa [gl] using hx)
        omega
      | succ i =>
        have := derGo_num h i (by simpa using hi) x (by simpa [gl] using hx)
        rw [List.length_append, List.length_singleton] at this
        omega
theorem derGo_valid {G l E : List (List Int)} (h : derGo G [] l = some E) : ValidL G.length l := by
  intro i hi t ht
  have := derGo_num h i hi (gi (gl l i) t) (by rw [gi_eq _ t ht]; exact List.getElem_mem ht)
  simpa using this
theorem chkF_ok {G : List (List Int)} {b : List Int} (h : (chkF G b).2 = 0) : (decF b).2 = 0 ∧ (chkF G b).1 = (decF b).1 ∧ ∃ D, derGo G [] (decF b).1 = some D ∧ D.length ≠ 0 ∧ gl D (D.length - 1) = [] := by
  unfold chkF at h ⊢
  split at h
  · rename_i h1; exact absurd h h1
  · rename_i h1
    rw [if_neg h1]
    cases hd : derGo G [] (decF b).1 with
    | none => rw [hd] at h; cases h
    | some D =>
      rw [hd] at h
      simp only at h ⊢
      split at h
      · cases h
      · rename_i h2
        rw [if_neg h2]
        refine ⟨by simpa using h1, rfl, D, rfl, fun e => h2 (.inl e), ?_⟩
        apply List.eq_nil_of_length_eq_zero
        apply Nat.le_zero.1
        apply Nat.le_of_not_lt
        exact fun e => h2 (.inr e)
theorem trimGo_sum (n : Int) (N : List Bool) : ∀ (l : List (List Int)) (i : Nat) (now : List Int) (out : List (List Int)),
    (trimGo n N i now out l).length ≤ out.length + l.length ∧ ((trimGo n N i now out l).map List.length).sum ≤ (out.map List.length).sum + (l.map List.length).sum := by
  intro l
  induction l with
  | nil => intro i now out; simp [trimGo]
  | cons s r ih =>
    intro i now out
    unfold trimGo
    split
    · have := ih (i + 1) (now.set i (n + out.length)) (out ++ [s.map (newNum n (now.set i (n + out.length)))])
      simp at this ⊢
      omega
    · have := ih (i + 1) now out
      simp at this ⊢
      omega
theorem newNum_take {n : Int} {now s : List Int} {j : Nat} (h : j < s.length) : (s.take (j + 1)).map (newNum n now) ++ s.drop (j + 1) = ((s.take j).map (newNum n now) ++ s.drop j).set j (newNum n now (gi s j)) := by
  have h1 : s.take (j + 1) = s.take j ++ [gi s j] := take_gi s j h
  have h2 : s.drop j = gi s j :: s.drop (j + 1) := by rw [List.drop_eq_getElem_cons h, gi_eq s j h]
  rw [h1, h2, List.map_append]
  have hl : ((s.take j).map (newNum n now)).length = j := by rw [List.length_map, List.length_take]; omega
  simp only [List.set_append, hl, Nat.lt_irrefl, if_false, Nat.sub_self, List.set_cons_zero, List.map_cons, List.map_nil, List.append_assoc, List.singleton_append]
theorem newNum_keep {n : Int} {now s : List Int} {j : Nat} (h : j < s.length) (hx : ¬ n ≤ gi s j) : (s.take j).map (newNum n now) ++ s.drop j = (s.take (j + 1)).map (newNum n now) ++ s.drop (j + 1) := by
  have h1 : s.take (j + 1) = s.take j ++ [gi s j] := take_gi s j h
  have h2 : s.drop j = gi s j :: s.drop (j + 1) := by rw [List.drop_eq_getElem_cons h, gi_eq s j h]
  have h3 : newNum n now (gi s j) = gi s j := by unfold newNum; rw [if_neg hx]
  rw [h1, h2, List.map_append, List.map_cons, List.map_nil, h3, List.append_assoc, List.singleton_append]
theorem newNum_at {n : Int} {now s : List Int} {j : Nat} (h : j < s.length) : gi ((s.take j).map (newNum n now) ++ s.drop j) j = gi s j := by
  have hl : ((s.take j).map (newNum n now)).length = j := by rw [List.length_map, List.length_take]; omega
  simp [gi, List.getD_eq_getElem?_getD, h, Nat.le_of_lt h]
theorem newNum_len {n : Int} {now s : List Int} {j : Nat} (h : j ≤ s.length) : ((s.take j).map (newNum n now) ++ s.drop j).length = s.length := by
  rw [List.length_append, List.length_map, List.length_take, List.length_drop]
  omega
end Go.Proofs.PlaitPure
