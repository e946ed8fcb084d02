/-
  slices.Sort and slices.Compact upon what is owned; slices.Values, Collect, Sorted; slices.Equal.
-/
import Derived.Test.YtodmkcolamppmaaShelf
import Derived.Test.YtodmkcolamppmaaIter2
import Derived.Test.YtodmkcolamppmaaHelp
import Derived.Test.YtodmkcolamppmaaMap
import Derived.Test.YtodmkcolamppmaaRead3
import Derived.Lib.Hide
import Derived.Lib.RowBridge
import Derived.CallsIn
namespace Go.Proofs.Ytodmkcolamppmaa
open Go.RowKit Go.Proofs.PlaitSep Go.Proofs.PlaitPure

section
variable {B : Nat} {w0 w : World} {F : HP}
theorem St.sl_sets {b n c : Nat} {e : TypeId} : ∀ (vs : List Value) (o : Nat) (xs : List Value) (w : World), St B w0 w (star (sl (some b) n c e 1 xs) F) → o + vs.length ≤ xs.length →
    St B w0 (w.setCells b o vs) (star (sl (some b) n c e 1 (xs.take o ++ vs ++ xs.drop (o + vs.length))) F)
  | [], o, xs, w, h, hl => by simpa [World.setCells] using h
  | v :: r, o, xs, w, h, hl => by
    simp only [List.length_cons] at hl
    have h1 := St.sl_set (h := h) o v (by omega)
    have h2 := St.sl_sets r (o + 1) _ _ h1 (by rw [List.length_set]; omega)
    have e1 : (xs.set o v).take (o + 1) ++ r ++ (xs.set o v).drop (o + 1 + r.length) = xs.take o ++ (v :: r) ++ xs.drop (o + (r.length + 1)) := by
      rw [List.take_set, List.take_add_one, List.drop_set_of_lt (by omega)]
      have ho : o < xs.length := by omega
      rw [List.getElem?_eq_getElem ho]
      simp only [Option.toList_some]
      rw [List.set_append_right _ _ (by simp; omega), List.length_take, Nat.min_eq_left (by omega), Nat.sub_self]
      simp only [List.set_cons_zero, List.append_assoc, List.cons_append, List.nil_append]
      congr 4
      omega
    rw [e1] at h2
    exact h2
theorem below_grow (w : World) (os : Array Obj) : Below w.heap.size w (Sort.grow w os) :=
  ⟨rfl, rfl, rfl, by simp [Sort.grow], fun k hk => by simp [Sort.grow, Array.getElem?_append, hk]⟩
theorem sl_holds {b c : Nat} {xs : List Int} (h : St B w0 w (star (sli 3 (some b) c xs) F)) : Sort.Holds (Value.int .i64) w b 0 xs.toArray := by
  intro j hj
  simp only [List.size_toArray] at hj
  refine ⟨?_, St.sl_free (h := h) _⟩
  rw [Nat.zero_add, St.sl_cell (h := h) j (by rw [ints_length]; exact hj), ints_get _ _ hj, gi_eq xs j hj]
  simp [hj]
def sorted (xs : List Int) : List Int := xs.mergeSort fun x y => decide (x ≤ y)
theorem sorted_length (xs : List Int) : (sorted xs).length = xs.length := by unfold sorted; simp
theorem Sort_any (a : Option Nat) (c : Nat) (xs : List Int) (h : St B w0 w (star (sli 3 a c xs) F)) (hn : xs.length ≤ 1000000) :
    Calls Try.prog 54 #[slv a xs.length c] w fun e w' => e = .returned (.tuple #[]) ∧ St B w0 w' (star (sli 3 a c (sorted xs)) F) := by
  cases a with
  | none =>
    obtain ⟨_, _, _, hnone, _⟩ := h.sat.sl_facts
    obtain ⟨h0, rfl⟩ := hnone rfl
    have : xs = [] := List.eq_nil_of_length_eq_zero h0
    subst this
    refine (Try.slices_Sort_int_none none 0 w).mono ?_
    rintro e w' ⟨rfl, rfl⟩
    have e0 : sorted [] = [] := List.eq_nil_of_length_eq_zero (sorted_length [])
    rw [e0]
    exact ⟨rfl, h⟩
  | some b =>
    have hb := (h.sat.sl_facts.2.2.2.2 b rfl)
    obtain ⟨cur, _, _, _, _, _, hp⟩ := h.sat.sl_pt
    have hlt : b < w.heap.size := (Array.getElem?_eq_some_iff.1 (Sat.one hp).1).1
    refine (Try.slices_Sort_int b 0 c xs w (sl_holds h) hlt (by omega)).mono ?_
    rintro e w' ⟨rfl, n, os, rfl⟩
    refine ⟨rfl, ?_⟩
    have e1 := Lib.putRow_eq_setCells (Value.int .i64) w b 0 xs.toArray (sorted xs) n (sl_holds h) (by rw [sorted_length]; simp)
    have h1 := St.sl_sets ((sorted xs).map (Value.int .i64)) 0 _ _ (h.drewN n) (by rw [List.length_map, sorted_length, ints_length]; omega)
    have h2 : St B w0 ((w.drewN n).setCells b 0 ((sorted xs).map (Value.int .i64))) (star (sli 3 (some b) c (sorted xs)) F) := by
      unfold sli
      rw [sorted_length]
      have e2 : (ints xs).take 0 ++ (sorted xs).map (Value.int .i64) ++ (ints xs).drop (0 + ((sorted xs).map (Value.int .i64)).length) = ints (sorted xs) := by
        rw [List.drop_of_length_le (by simp [sorted_length])]
        simp [ints]
      rw [e2] at h1
      exact h1
    rw [← e1] at h2
    exact h2.grow (below_grow _ _)
theorem Compact_any (a : Option Nat) (c : Nat) (xs : List Int) (h : St B w0 w (star (sli 3 a c xs) F)) (hn : xs.length ≤ 1000000) :
    Calls Try.prog 56 #[slv a xs.length c] w fun e w' => e = .returned (slv a (Lib.compact xs).length c) ∧ St B w0 w' (star (sli 3 a c (Lib.compact xs)) F) := by
  obtain ⟨_, hnc, _, hnone, _⟩ := h.sat.sl_facts
  cases a with
  | none =>
    obtain ⟨h0, rfl⟩ := hnone rfl
    have : xs = [] := List.eq_nil_of_length_eq_zero h0
    subst this
    refine (Try.slices_Compact_int_empty none 0 w).mono ?_
    rintro e w' ⟨rfl, rfl⟩
    exact ⟨rfl, h⟩
  | some b =>
    refine (Try.slices_Compact_int b 0 c xs w (sl_holds h) (by omega) hnc).mono ?_
    rintro e w' ⟨rfl, q, rfl⟩
    refine ⟨rfl, ?_⟩
    have hle := Lib.compact_length_le xs
    obtain ⟨ys, hys⟩ : ∃ ys, Lib.compact xs ++ List.replicate (xs.length - (Lib.compact xs).length) 0 = ys := ⟨_, rfl⟩
    have hyl : ys.length = xs.length := by rw [← hys]; simp; omega
    rw [hys]
    have e1 := Lib.putRow_eq_setCells (Value.int .i64) w b 0 xs.toArray ys q (sl_holds h) (by rw [hyl]; simp)
    have h1 := St.sl_sets (ys.map (Value.int .i64)) 0 _ _ (h.drewN q) (by rw [List.length_map, hyl, ints_length]; omega)
    have e2 : (ints xs).take 0 ++ ys.map (Value.int .i64) ++ (ints xs).drop (0 + (ys.map (Value.int .i64)).length) = ints ys := by
      rw [List.drop_of_length_le (by simp [hyl])]
      simp [ints]
    rw [e2] at h1
    rw [e1]
    have h2 := St.sl_cut (h := h1) (Lib.compact xs).length c (by omega) (by omega) (Nat.le_refl _)
    have e3 : (ints ys).take ((Lib.compact xs).length * 1) = ints (Lib.compact xs) := by
      rw [← hys, Nat.mul_one]
      simp [ints]
    rw [e3] at h2
    exact h2
end
end Go.Proofs.Ytodmkcolamppmaa
