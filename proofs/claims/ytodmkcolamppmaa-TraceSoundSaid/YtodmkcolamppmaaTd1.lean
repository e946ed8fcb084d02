/-
  The walk of plaitlaw12's TraceDerives.
-/
import Derived.Test.YtodmkcolamppmaaRDer2
namespace Go.Proofs.Ytodmkcolamppmaa
open Go.RowKit Go.Proofs.PlaitSep Go.Proofs.PlaitPure

theorem light_both {xss yss : List (List Int)} (h : lightB xss yss = true) : xss.length + (xss.map List.length).sum ≤ 1000 ∧ yss.length + (yss.map List.length).sum ≤ 1000 := by
  unfold lightB at h
  simp only [Bool.and_eq_true, decide_eq_true_eq] at h
  have h1 := sizeF_sum h.1.1.1
  have h2 := sizeF_sum h.1.1.2
  omega
theorem flatten_len (G : List (List Int)) : G.flatten.length = (G.map List.length).sum := by
  induction G with
  | nil => rfl
  | cons x r ih => rw [List.flatten_cons, List.length_append, ih, List.map_cons, List.sum_cons]
/-- What Derive hands back, in one form. -/
def DervU (w : World) (M : List (List Int)) (k : Int) (e : Ending) (w' : World) : Prop :=
  ∃ A n c, e = .returned (.tuple #[.slice A n c, .int .i64 k]) ∧ Below w.heap.size w w' ∧ Rd2 w' A n M ∧ n ≤ c
theorem dervU {w w' : World} {r : Option (List (List Int))} {e : Ending} (M : List (List Int)) (k : Int) (hs : ∀ D, r = some D → M = D ∧ k = 0) (hn : r = none → M = [] ∧ k = 121) (h : DervPost w r e w') : DervU w M k e w' := by
  obtain ⟨hb, hok, hbad⟩ := h
  cases r with
  | none =>
    obtain ⟨rfl, rfl⟩ := hn rfl
    exact ⟨Option.none, 0, 0, hbad rfl, hb, ⟨rfl, Nat.zero_le _, fun h => absurd h (Nat.lt_irrefl 0)⟩, Nat.le_refl _⟩
  | some D =>
    obtain ⟨rfl, rfl⟩ := hs D rfl
    obtain ⟨A, c, he, hr, hc⟩ := hok _ rfl
    exact ⟨A, _, c, he, hb, hr, hc⟩
set_option maxRecDepth 100000 in
set_option maxHeartbeats 4000000 in
theorem traceDerives_any (A0 : Option Addr) (n0 cap0 : Nat) (z0 : List (List Int)) (A1 : Option Addr) (n1 cap1 : Nat) (z1 : List (List Int)) (w : World) (w0 : Rd2 w A0 n0 z0) (w1 : Rd2 w A1 n1 z1) :
    Calls Try.prog 4 #[.slice A0 n0 cap0, .slice A1 n1 cap1] w fun e w' => e = .returned (.bool true) ∧ Below w.heap.size w w' := by
  have HC0 := Lib.hid w0
  have HL0 := Lib.hid w1
  obtain ⟨lb, hlb⟩ : ∃ lb, lightB z0 z1 = lb := ⟨_, rfl⟩
  have hlight := fun V (h : Rd2 V A0 n0 z0) (h' : Rd2 V A1 n1 z1) => light_any A0 A1 n0 cap0 n1 cap1 z0 z1 V h h'
  rw [hlb] at hlight
  have HLI := Lib.hid hlight
  have HLB := Lib.hid hlb
  clear w0 w1 hlight hlb
  go_enter Try.func4, Try.ntmps4
  go_wp2_with fail
  refine (known_any w).mono ?_
  rintro e w2 ⟨rfl, hb⟩
  have HW2 := Lib.hid hb
  have HC2 := Lib.hid (HC0.out.grow hb)
  have HL2 := Lib.hid (HL0.out.grow hb)
  clear hb
  go_wp2_with fail
  refine (HLI.out _ HC2.out HL2.out).mono ?_
  rintro e w3 ⟨rfl, rfl⟩
  cases lb with
  | false =>
    go_wp2
    go_ret
    exact ⟨rfl, HW2.out⟩
  | true =>
  obtain ⟨hl1, hl2⟩ := light_both HLB.out
  have hz0 := HC2.out.len
  have hz1 := HL2.out.len
  rw [hz0] at hl1
  rw [hz1] at hl2
  have hn0 : n0 ≤ 1000 := by omega
  have hn1 : n1 ≤ 1000 := by omega
  have HE0 := Lib.hid (show ∀ j, j < n0 → (gl z0 j).length ≤ 1000000 from fun j hj => by have := len_sum (l := z0) (j := j) (by omega); omega)
  have HE1 := Lib.hid (show ∀ j, j < n1 → (gl z1 j).length ≤ 1000 from fun j hj => by have := len_sum (l := z1) (j := j) (by omega); omega)
  have HFL := Lib.hid (show z0.flatten.length ≤ 1000 by rw [flatten_len]; omega)
  obtain ⟨M, k, hs, hn⟩ : ∃ (M : List (List Int)) (k : Int), (∀ D, derGo z0 [] z1 = some D → M = D ∧ k = 0) ∧ (derGo z0 [] z1 = none → M = [] ∧ k = 121) := by
    cases derGo z0 [] z1 with
    | none => exact ⟨[], 121, ⟨fun D h => (by cases h), fun _ => ⟨rfl, rfl⟩⟩⟩
    | some D => exact ⟨D, 0, ⟨fun D' h => (by cases h; exact ⟨rfl, rfl⟩), fun h => (by cases h)⟩⟩
  have HS := Lib.hid hs
  have HN := Lib.hid hn
  have e0 : (k == k) = true := by simp
  clear hl1 hl2 hz0 hz1 hs hn
  go_wp2_with fail
  refine (copyLists_any A0 n0 cap0 z0 w2 HC2.out (by omega) HE0.out).mono ?_
  rintro e w3 ⟨A3, c3, rfl, hb, hr, _, _⟩
  have HW3 := Lib.hid (btr HW2.out hb)
  have HC3 := Lib.hid (HC2.out.grow hb)
  have HL3 := Lib.hid (HL2.out.grow hb)
  have HS3 := Lib.hid hr
  clear hb hr
  go_wp2_with fail
  refine (steps_any A1 n1 cap1 z1 w3 HL3.out (by omega) (fun j hj => Nat.le_trans (HE1.out j hj) (by omega))).mono ?_
  rintro e w4 ⟨A4, c4, rfl, hb, hr, hcap, _⟩
  have HW4 := Lib.hid (btr HW3.out hb)
  have HC4 := Lib.hid (HC3.out.grow hb)
  have HL4 := Lib.hid (HL3.out.grow hb)
  have HS4 := Lib.hid (HS3.out.grow hb)
  have HT4 := Lib.hid hr
  have HP4 := Lib.hid hcap
  clear hb hr hcap
  go_wp2_with fail
  refine (Derive_any A3 n0 c3 z0 A4 n1 c4 z1 w4 HS4.out HT4.out HP4.out (by omega) (by omega) (Nat.le_trans HFL.out (by omega)) (fun j hj => Nat.le_trans (HE1.out j hj) (by omega))).mono ?_
  intro e w5 hp
  obtain ⟨A5, n5, c5, rfl, hb, hr, _⟩ := dervU M k HS.out HN.out hp
  have HW5 := Lib.hid (btr HW4.out hb)
  have HC5 := Lib.hid (HC4.out.grow hb)
  have HL5 := Lib.hid (HL4.out.grow hb)
  have HS5 := Lib.hid (HS4.out.grow hb)
  have HX5 := Lib.hid hr
  clear hb hr hp
  go_wp2_with fail
  refine (rDerive_any A0 n0 cap0 z0 A1 n1 cap1 z1 w5 HC5.out HL5.out (by omega) (by omega) (Nat.le_trans HFL.out (by omega)) (fun j hj => Nat.le_trans (HE1.out j hj) (by omega))).mono ?_
  intro e w6 hp
  obtain ⟨A6, n6, c6, rfl, hb, hr, _⟩ := dervU M k HS.out HN.out hp
  have HW6 := Lib.hid (btr HW5.out hb)
  have HC6 := Lib.hid (HC5.out.grow hb)
  have HS6 := Lib.hid (HS5.out.grow hb)
  have HX6 := Lib.hid (HX5.out.grow hb)
  have HY6 := Lib.hid hr
  clear hb hr hp
  go_wp2_with fail
  refine (lists_any A5 A6 n5 c5 n6 c6 M M w6 HX6.out HY6.out).mono ?_
  rintro e w7 ⟨rfl, hD⟩
  rw [eqL_iff.2 rfl]
  have HW7 := Lib.hid (btr HW6.out (hD.below _))
  have HC7 := Lib.hid (HC6.out.grow (hD.below _))
  have HS7 := Lib.hid (HS6.out.grow (hD.below _))
  clear hD
  go_wp2_with fail
  refine (lists_any A3 A0 n0 c3 n0 cap0 z0 z0 w7 HS7.out HC7.out).mono ?_
  rintro e w8 ⟨rfl, hD⟩
  rw [eqL_iff.2 rfl]
  have HW8 := Lib.hid (btr HW7.out (hD.below _))
  clear hD
  go_wp2
  go_ret
  exact ⟨rfl, HW8.out⟩
end Go.Proofs.Ytodmkcolamppmaa
