/-
  What the store's once hands back, as a plain law. No program in sight.
-/
import Derived.Test.YtmljcbdlkeooiaaStoreM5
import Derived.Test.YtmljcbdlkeooiaaMap
namespace Go.Proofs.PlaitPure
open Go.Proofs.PlaitSep (upd)
def onceOut (out : List Int) : List Int → List Int
  | [] => out
  | x :: r => onceOut (if x ∈ out then out else out ++ [x]) r
def onceL (xs : List Int) : List Int := onceOut [] xs
def bothB (xs : List Int) : Bool := xs.any fun x => decide (-x ∈ xs)
def onceE (xs : List Int) : Int := if xs.all litB then if bothB xs then 112 else 0 else 110
theorem onceOut_snoc (x : Int) : ∀ (xs out : List Int), onceOut out (xs ++ [x]) = if x ∈ onceOut out xs then onceOut out xs else onceOut out xs ++ [x]
  | [], _ => rfl
  | _ :: r, _ => onceOut_snoc x r _
theorem onceOut_mem (u : Int) : ∀ (xs out : List Int), u ∈ onceOut out xs ↔ u ∈ out ∨ u ∈ xs
  | [], out => by simp [onceOut]
  | y :: r, out => by
    rw [onceOut, onceOut_mem u r]
    split <;> simp
    · rename_i h
      constructor
      · rintro (h1 | h1) <;> simp [h1]
      · rintro (h1 | rfl | h1) <;> simp [*]
    · constructor
      · rintro ((h1 | h1) | h1) <;> simp [h1]
      · rintro (h1 | h1 | h1) <;> simp [h1]
theorem onceOut_nodup : ∀ (xs out : List Int), out.Nodup → (onceOut out xs).Nodup
  | [], out, h => h
  | y :: r, out, h => by
    rw [onceOut]
    refine onceOut_nodup r _ ?_
    split
    · exact h
    · rename_i hn
      rw [List.nodup_append]
      refine ⟨h, by simp, ?_⟩
      intro a ha b hb e
      simp only [List.mem_singleton] at hb
      subst hb e
      exact hn ha
theorem onceL_mem {u : Int} {xs : List Int} : u ∈ onceL xs ↔ u ∈ xs := by
  unfold onceL
  rw [onceOut_mem]; simp
theorem onceL_nodup (xs : List Int) : (onceL xs).Nodup := onceOut_nodup xs [] List.nodup_nil
theorem onceOut_length : ∀ (xs out : List Int), (onceOut out xs).length ≤ out.length + xs.length
  | [], out => Nat.le_refl _
  | y :: r, out => by
    rw [onceOut]
    have := onceOut_length r (if y ∈ out then out else out ++ [y])
    refine Nat.le_trans this ?_
    split <;> simp <;> omega
/-- Behind j numbers. -/
structure OnceAt (xs : List Int) (j : Nat) (out : List Int) (f : Int → Int) (both : Bool) : Prop where
  out : onceOut [] (xs.take j) = out
  f : ∀ u, f u = if u ∈ xs.take j then 1 else 0
  both : both = bothB (xs.take j)
  lits : ∀ x ∈ xs.take j, litB x = true
theorem OnceAt.start (xs : List Int) : OnceAt xs 0 [] (fun _ => 0) false := ⟨rfl, fun u => by simp, rfl, by simp⟩
theorem take_gi1 {xs : List Int} {j : Nat} (h : j < xs.length) : xs.take (j + 1) = xs.take j ++ [gi xs j] := by
  rw [List.take_add_one]
  simp [gi, List.getD_eq_getElem?_getD, h]
theorem bothB_snoc (xs : List Int) (x : Int) : bothB (xs ++ [x]) = (bothB xs || decide (-x ∈ xs ++ [x])) := by
  rw [Bool.eq_iff_iff]
  unfold bothB
  simp only [List.any_eq_true, decide_eq_true_eq, Bool.or_eq_true, List.mem_append, List.mem_singleton]
  constructor
  · rintro ⟨y, hy | rfl, hn | hn⟩
    · exact .inl ⟨y, hy, hn⟩
    · right; left; rw [← hn, Int.neg_neg]; exact hy
    · exact .inr (.inl hn)
    · exact .inr (.inr hn)
  · rintro (⟨y, hy, hn⟩ | hn | hn)
    · exact ⟨y, .inl hy, .inl hn⟩
    · exact ⟨x, .inr rfl, .inl hn⟩
    · exact ⟨x, .inr rfl, .inr hn⟩
theorem OnceAt.step {xs : List Int} {j : Nat} {out : List Int} {f : Int → Int} {both : Bool} (h : OnceAt xs j out f both) {x : Int} (hj : j < xs.length) (hx : gi xs j = x) (hl : litB x = true) :
    OnceAt xs (j + 1) (if f x = 0 then out ++ [x] else out) (upd f x 1) (both || decide (0 < upd f x 1 (-x))) := by
  have ht := take_gi1 hj
  rw [hx] at ht
  have hf : ∀ u, upd f x 1 u = if u ∈ xs.take (j + 1) then 1 else 0 := by
    intro u
    unfold upd
    rw [ht, h.f u]
    by_cases hu : u = x
    · subst hu; simp
    · simp [hu]
  refine ⟨?_, hf, ?_, ?_⟩
  · rw [ht, onceOut_snoc, h.out]
    have hm : x ∈ out ↔ x ∈ xs.take j := by rw [← h.out, onceOut_mem]; simp
    rw [h.f x]
    by_cases hxx : x ∈ xs.take j
    · rw [if_pos hxx, if_pos (hm.2 hxx), if_neg (by omega)]
    · rw [if_neg hxx, if_neg (fun e => hxx (hm.1 e)), if_pos rfl]
  · rw [ht, bothB_snoc, h.both, hf, ht]
    congr 1
    split <;> simp [*]
  · intro y hy
    rw [ht] at hy
    rcases List.mem_append.1 hy with h1 | h1
    · exact h.lits y h1
    · simp only [List.mem_singleton] at h1; subst h1; exact hl
theorem OnceAt.bad {xs : List Int} {j : Nat} {x : Int} (hj : j < xs.length) (hx : gi xs j = x) (hl : litB x = false) : onceE xs = 110 := by
  unfold onceE
  rw [if_neg]
  intro ha
  rw [List.all_eq_true] at ha
  have := ha x (by rw [← hx]; unfold gi; rw [List.getD_eq_getElem?_getD]; simp [hj])
  rw [hl] at this
  cases this
theorem OnceAt.done {xs : List Int} {j : Nat} {out : List Int} {f : Int → Int} {both : Bool} (h : OnceAt xs j out f both) (hj : j = xs.length) : out = onceL xs ∧ onceE xs = if both then 112 else 0 := by
  subst hj
  have e := List.take_length (l := xs)
  refine ⟨by rw [← h.out, e]; rfl, ?_⟩
  unfold onceE
  rw [if_pos, h.both, e]
  rw [List.all_eq_true]
  intro x hx
  exact h.lits x (by rw [e]; exact hx)
end Go.Proofs.PlaitPure
