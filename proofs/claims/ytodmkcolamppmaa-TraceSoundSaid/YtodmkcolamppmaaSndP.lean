/-
  What is derived is true wherever the given clauses are, as plain lists.
-/
import Derived.Test.YtodmkcolamppmaaTrimM
namespace Go.Proofs.PlaitPure
/-- Is a literal true, given which variables are? -/
def litT (f : Nat → Bool) (x : Int) : Bool := f x.natAbs == decide (0 < x)
def clT (f : Nat → Bool) (c : List Int) : Bool := c.any (litT f)
def allT (f : Nat → Bool) (G : List (List Int)) : Bool := G.all (clT f)
theorem litT_neg {f : Nat → Bool} {x : Int} (h : x ≠ 0) : litT f (-x) = !litT f x := by
  unfold litT
  rw [Int.natAbs_neg]
  have : decide (0 < -x) = !decide (0 < x) := by
    by_cases h1 : 0 < x
    · simp [h1]; omega
    · simp [h1]; omega
  rw [this]
  cases f x.natAbs <;> cases decide (0 < x) <;> rfl
theorem clT_iff {f : Nat → Bool} {c : List Int} : clT f c = true ↔ ∃ x ∈ c, litT f x = true := by simp [clT]
theorem clT_congr {f : Nat → Bool} {c d : List Int} (h : ∀ x, x ∈ c ↔ x ∈ d) : clT f c = clT f d := by
  rw [Bool.eq_iff_iff, clT_iff, clT_iff]
  constructor
  · rintro ⟨x, h1, h2⟩; exact ⟨x, (h x).1 h1, h2⟩
  · rintro ⟨x, h1, h2⟩; exact ⟨x, (h x).2 h1, h2⟩
theorem resF_true {f : Nat → Bool} {c d e : List Int} (hc : IsSet c) (h : resF c d = some e) (h1 : clT f c = true) (h2 : clT f d = true) : clT f e = true := by
  unfold resF at h
  split at h
  · rename_i x hp
    have hx : x ∈ piv c d := by rw [hp]; simp
    have hx0 : x ≠ 0 := (okLit_iff.1 (hc.lits x (List.mem_filter.1 hx).1)).1
    obtain ⟨_, hm⟩ := setF_spec h
    rw [clT_iff] at h1 h2 ⊢
    obtain ⟨y, y1, y2⟩ := h1
    obtain ⟨z, z1, z2⟩ := h2
    by_cases hy : y = x
    · have hz : z ≠ -x := by
        rintro rfl
        rw [litT_neg hx0, ← hy, y2] at z2
        cases z2
      exact ⟨z, (hm z).2 (resA_mem.2 (.inr ⟨z1, hz⟩)), z2⟩
    · exact ⟨y, (hm y).2 (resA_mem.2 (.inl ⟨y1, hy⟩)), y2⟩
  · cases h
theorem clauseF_true {f : Nat → Bool} {G D : List (List Int)} {p : Int} {c : List Int} (hG : allT f G = true) (hD : allT f D = true) (h : clauseF G D p = some c) : clT f c = true := by
  unfold allT at hG hD
  rw [List.all_eq_true] at hG hD
  unfold clauseF at h
  split at h
  · cases h
  · split at h
    · rw [clT_congr (setF_spec h).2, gl_eq G _ (by omega)]
      exact hG _ (List.getElem_mem _)
    · cases h
      rw [gl_eq D _ (by omega)]
      exact hD _ (List.getElem_mem _)
theorem foldR_true {f : Nat → Bool} {G D : List (List Int)} (hG : allT f G = true) (hD : allT f D = true) (hs : ∀ d ∈ D, IsSet d) : ∀ {r c e : List Int}, IsSet c → clT f c = true → foldR G D c r = some e → clT f e = true
  | [], c, e, _, hc, h => by cases h; exact hc
  | p :: r, c, e, hi, hc, h => by
    unfold foldR at h
    split at h
    · cases h
    · rename_i d h1
      split at h
      · cases h
      · rename_i c' h2
        exact foldR_true hG hD hs (resF_set h2) (resF_true hi h2 hc (clauseF_true hG hD h1)) h
theorem stepF_true {f : Nat → Bool} {G D : List (List Int)} {s c : List Int} (hG : allT f G = true) (hD : allT f D = true) (hs : ∀ d ∈ D, IsSet d) (h : stepF G D s = some c) : clT f c = true := by
  match s, h with
  | p :: r, h =>
    rw [stepF] at h
    split at h
    · cases h
    · rename_i d h1
      exact foldR_true hG hD hs (clauseF_set hs h1) (clauseF_true hG hD h1) h
theorem derGo_true {f : Nat → Bool} {G : List (List Int)} (hG : allT f G = true) : ∀ {l D E : List (List Int)}, allT f D = true → (∀ d ∈ D, IsSet d) → derGo G D l = some E → allT f E = true
  | [], D, E, hD, _, h => by cases h; exact hD
  | s :: r, D, E, hD, hs, h => by
    unfold derGo at h
    split at h
    · cases h
    · rename_i c h1
      have hc := stepF_true hG hD hs h1
      refine derGo_true hG (by unfold allT at hD ⊢; rw [List.all_append, hD]; simp [hc]) (fun d hd => ?_) h
      rcases List.mem_append.1 hd with hd | hd
      · exact hs d hd
      · rw [List.mem_singleton.1 hd]; exact stepF_set hs h1
/-- What follows from clauses that are all true is true; nothing left follows from none such. -/
theorem derived_true {f : Nat → Bool} {G l D : List (List Int)} (hG : allT f G = true) (h : derGo G [] l = some D) : ∀ d ∈ D, clT f d = true := by
  have := derGo_true hG (D := []) rfl (fun d hd => by cases hd) h
  unfold allT at this
  rw [List.all_eq_true] at this
  exact this
theorem derived_none {f : Nat → Bool} {G l D : List (List Int)} (h : derGo G [] l = some D) (h0 : D.length ≠ 0) (he : gl D (D.length - 1) = []) : allT f G = false := by
  cases hG : allT f G with
  | false => rfl
  | true =>
    have := derived_true hG h (gl D (D.length - 1)) (by rw [gl_eq D _ (by omega)]; exact List.getElem_mem _)
    rw [he] at this
    cases this
theorem derGo_lits {G : List (List Int)} : ∀ {l D E : List (List Int)}, (∀ d ∈ D, Lits G d) → derGo G D l = some E → ∀ d ∈ E, Lits G d
  | [], D, E, hD, h => by cases h; exact hD
  | s :: r, D, E, hD, h => by
    unfold derGo at h
    split at h
    · cases h
    · rename_i c h1
      refine derGo_lits (fun d hd => ?_) h
      rcases List.mem_append.1 hd with hd | hd
      · exact hD d hd
      · rw [List.mem_singleton.1 hd]; exact stepF_lits hD h1
end Go.Proofs.PlaitPure
