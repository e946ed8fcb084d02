/-
  Plain facts for StoreOrder, StoreMore, StoreStays, StoreChain. No program and no memory in sight.
-/
import Derived.Test.YtmljcbdlkeooiaaLaw7
namespace Go.Proofs.Ytmljcbdlkeooiaa
open Go.Proofs.PlaitPure

theorem told_closed {C : List (List Int)} {T out : List Int} {q : Int} (h : PlaitPure.Told C T out q) (hq : q = -1) : ClosedAt C T out := by
  cases h with
  | all h => exact h
  | two pre x post e h hx => omega
  | begin b hp h hb => omega
  | bad pre x post O b e h hl hx hp hj hb => omega
/-- The words that clauses take. -/
def wsum (C : List (List Int)) : Nat := (C.map fun c => c.length + 2).sum
theorem words_wsum (S : SM) : S.words.length = wsum S.C := by
  unfold SM.words wsum SM.C
  induction S.cls with
  | nil => rfl
  | cons c l ih => simp only [List.flatMap_cons, List.length_append, Cl.words_length, List.map_cons, List.sum_cons, ih]
theorem onceOut_length : ∀ (xs out : List Int), (onceOut out xs).length ≤ out.length + xs.length
  | [], out => by simp [onceOut]
  | x :: r, out => by
    unfold onceOut
    split
    · have := onceOut_length r out; simp only [List.length_cons]; omega
    · have := onceOut_length r (out ++ [x]); simp only [List.length_cons, List.length_append, List.length_nil] at this ⊢; omega
theorem onceL_length (xs : List Int) : (onceL xs).length ≤ xs.length := by
  have := onceOut_length xs []
  simpa [onceL] using this
theorem addF_most (S : SM) (xs : List Int) : (addF S xs).1.most = S.most := by
  unfold addF
  split
  · rfl
  · split
    · rfl
    · unfold SM.addS
      split <;> rfl
theorem addF_room {S : SM} {xs : List Int} (h : S.words.length + xs.length + 2 ≤ S.most) (he : onceE xs = 0) : (addF S xs).2.2 = 0 := by
  unfold addF
  rw [if_neg (by simpa using he), if_neg]
  have := onceL_length xs
  omega
theorem addF_ne {S : SM} {xs : List Int} (he : onceE xs ≠ 0) : (addF S xs).2.2 ≠ 0 := by
  unfold addF
  rw [if_pos he]
  exact he
/-- All adds of small clauses: what the store holds afterwards. -/
theorem adds_C : ∀ (xss : List (List Int)) (S : SM), S.words.length + ((xss.map List.length).sum + 2 * xss.length) ≤ S.most →
    (xss.foldl (fun S xs => (addF S xs).1) S).C = S.C ++ (xss.filter fun x => decide (onceE x = 0)).map onceL
  | [], S, _ => by simp
  | x :: r, S, h => by
    rw [List.foldl_cons]
    simp only [List.map_cons, List.sum_cons, List.length_cons] at h
    have hw : (addF S x).1.words.length ≤ S.words.length + x.length + 2 := by
      rw [words_wsum, words_wsum, addF_C]
      split
      · have := onceL_length x
        simp [wsum]; omega
      · omega
    rw [adds_C r _ (by rw [addF_most]; omega), addF_C, List.filter_cons]
    by_cases he : onceE x = 0
    · rw [if_pos (addF_room (by omega) he), if_pos (by simpa using he)]
      simp
    · rw [if_neg (addF_ne he), if_neg (by simpa using he)]
theorem madeS_C {xss : List (List Int)} (h : (xss.map List.length).sum + 2 * xss.length ≤ 262144) : (madeS xss).C = (xss.filter fun x => decide (onceE x = 0)).map onceL := by
  unfold madeS
  rw [adds_C xss _ (by simp [SM.new, SM.words]; omega)]
  simp [SM.new, SM.C]
theorem madeS_back {xss : List (List Int)} (h : (xss.map List.length).sum + 2 * xss.length ≤ 262144) (c : List Int) : c ∈ (madeS xss.reverse).C ↔ c ∈ (madeS xss).C := by
  rw [madeS_C h, madeS_C (by rw [List.map_reverse, List.sum_reverse, List.length_reverse]; exact h)]
  simp
theorem set_alike {a b s t : List Int} (ha : setF a = some s) (hb : setF b = some t) (hla : ∀ x ∈ a, litB x = true) (hlb : ∀ x ∈ b, litB x = true) (h1 : ∀ x ∈ a, x ∈ b) (h2 : ∀ x ∈ b, x ∈ a) : eqB s t = true := by
  obtain ⟨s', e1, e2, e3⟩ := setF_some (fun x hx => litB_ok (hla x hx))
  obtain ⟨t', f1, f2, f3⟩ := setF_some (fun x hx => litB_ok (hlb x hx))
  rw [ha] at e1
  rw [hb] at f1
  cases e1
  cases f1
  rw [eqB_iff]
  exact Rises.ext e2 f2 fun x => by rw [e3, f3]; exact ⟨h1 x, h2 x⟩
theorem set_lits {a : List Int} (h : ∀ x ∈ a, litB x = true) : ∃ s, setF a = some s ∧ s.length ≤ a.length := by
  obtain ⟨s, h1, _, _⟩ := setF_some (fun x hx => litB_ok (h x hx))
  have := setGo_length a [] s h1
  exact ⟨s, h1, by simpa using this⟩
/-- One order of clauses and literals, and the other. -/
theorem order_law {C C' : List (List Int)} {T T' a b : List Int} {m n : Int} (hC : COk C) (hC' : COk C') (h : PlaitPure.Told C T a m) (h' : PlaitPure.Told C' T' b n) (hc : ∀ c, c ∈ C' ↔ c ∈ C) (ht : ∀ x, x ∈ T' ↔ x ∈ T) :
    (m ≠ -1 → n ≠ -1) ∧ (m = -1 → n = -1 ∧ (∀ x ∈ a, x ∈ b) ∧ ∀ x ∈ b, x ∈ a) := by
  refine ⟨fun hm hn => hm (h.less (told_closed h' hn) hC' (fun c hx => (hc c).2 hx) (fun x hx => (ht x).2 hx)).1, fun hm => ?_⟩
  obtain ⟨h1, h2⟩ := h'.less (told_closed h hm) hC (fun c hx => (hc c).1 hx) (fun x hx => (ht x).1 hx)
  exact ⟨h1, (h.less (told_closed h' h1) hC' (fun c hx => (hc c).2 hx) (fun x hx => (ht x).2 hx)).2, h2⟩
theorem stays_law {C : List (List Int)} {T a b : List Int} {m n : Int} (hC : COk C) (h : PlaitPure.Told C T a m) (h' : PlaitPure.Told C T b n) (ra : -2 ≤ m) (rb : -2 ≤ n) : (decide (0 ≤ m) = decide (0 ≤ n)) ∧ (m < 0 → n = m ∧ (∀ x ∈ a, x ∈ b) ∧ ∀ x ∈ b, x ∈ a) := by
  constructor
  · by_cases hm : m < 0
    · have := (h.again h' hC hm).1
      rw [this]
    · by_cases hn : n < 0
      · have := (h'.again h hC hn).1
        omega
      · rw [Bool.eq_iff_iff]; simp; omega
  · intro hm
    obtain ⟨h1, h2⟩ := h.again h' hC hm
    obtain ⟨_, h3⟩ := h'.again h hC (by omega)
    exact ⟨h1, h3, h2⟩
end Go.Proofs.Ytmljcbdlkeooiaa
