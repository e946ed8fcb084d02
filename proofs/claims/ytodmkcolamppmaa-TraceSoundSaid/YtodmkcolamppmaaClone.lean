/-
  slices.Clone upon what is read; what is read of slices of slices.
-/
import Derived.Test.YtodmkcolamppmaaSort2
namespace Go.Proofs.Ytodmkcolamppmaa
open Go.RowKit Go.Proofs.PlaitSep Go.Proofs.PlaitPure

theorem clone_any (A : Option Addr) (n c : Nat) (xs : List Int) (w : World) (hr : Rd w A n xs) (hn : n ≤ 1000000) :
    Calls Try.prog 41 #[.slice A n c] w fun e w' => ∃ a c', e = .returned (slv a xs.length c') ∧ St w.heap.size w w' (sli 3 a c' xs) := by
  have hl := hr.len
  cases A with
  | none =>
    have hn0 : n = 0 := by
      apply Classical.byContradiction
      intro h
      obtain ⟨b, o, e, _⟩ := hr.cells (by omega)
      cases e
    subst hn0
    obtain rfl : xs = [] := List.eq_nil_of_length_eq_zero hl
    refine (Try.slices_Clone_int_nil 0 c w).mono ?_
    rintro e w' ⟨rfl, rfl⟩
    refine ⟨none, 0, rfl, ?_⟩
    have := (St.start w').sat.sl_nil (e := 3) (sz := 1)
    rw [star_emp] at this
    exact ⟨Below.refl _ _, Nat.le_refl _, this⟩
  | some a =>
    by_cases hn0 : n = 0
    · subst hn0
      obtain rfl : xs = [] := List.eq_nil_of_length_eq_zero hl
      refine (Try.slices_Clone_int_zero a c w).mono ?_
      rintro e w' ⟨v, rfl, ho, _, hb⟩
      obtain ⟨a', c', rfl, hst⟩ := St.ofRow hb (Nat.le_refl _) ho
      exact ⟨a', c', rfl, hst⟩
    · obtain ⟨b, o, e, hc⟩ := hr.cells (by omega)
      cases e
      refine (Try.slices_Clone_int b o n c xs w (by omega) (by omega) (fun j hj => hc j (by omega))).mono ?_
      rintro e w' ⟨v, rfl, ho, _, hb⟩
      obtain ⟨a', c', rfl, hst⟩ := St.ofRow hb (Nat.le_refl _) ho
      rw [List.take_of_length_le (by omega)] at hst
      refine ⟨a', c', by rw [hl], ?_⟩
      unfold sli
      rw [hl]
      exact hst
end Go.Proofs.Ytodmkcolamppmaa
