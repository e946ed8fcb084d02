/-
  The contracts of trace's set and of slices.Sorted over maps.Keys.
-/
import Derived.Test.YtodmkcolamppmaaMset
import Derived.Test.YtodmkcolamppmaaClone
import Derived.Test.YtodmkcolamppmaaHelp3
import Derived.CallsIn
namespace Go.Proofs.Ytodmkcolamppmaa
open Go.RowKit Go.Shelf Go.Proofs.PlaitSep Go.Proofs.PlaitPure

theorem wantF_setF {xs : List Int} (h : ∀ x ∈ xs, okLit x = true) : setF xs = some (wantF xs) := by
  obtain ⟨s, h1, h2, h3⟩ := setF_some h
  obtain ⟨w1, w2⟩ := wantF_spec xs
  rw [h1, Rises.ext h2 w1 fun z => by rw [h3, w2]]
/-- What trace's set hands back. -/
def TsetPost (w : World) (xs : List Int) (e : Ending) (w' : World) : Prop :=
  Below w.heap.size w w' ∧ (∀ s, setF xs = some s → ∃ A c, e = .returned (.tuple #[.slice A s.length c, .bool true]) ∧ Rd w' A s.length s) ∧
    (setF xs = none → e = .returned (.tuple #[.slice none 0 0, .bool false]))
set_option maxHeartbeats 1000000 in
theorem tset_any (A : Option Addr) (n c : Nat) (xs : List Int) (w : World) (hr : Rd w A n xs) (hn : n ≤ 1000000) :
    Calls Try.prog 52 #[.slice A n c] w (TsetPost w xs) := by
  have HR := Lib.hid hr
  clear hr
  go_enter Try.func52, Try.ntmps52
  go_wp2
  go_loop [8] (fun v8 => ∃ k : Nat, k ≤ n ∧ v8 = .int .i64 k ∧ Hid (∀ i, i < k → okLit (gi xs i) = true)) (fun v8 => n - (intOf v8).toNat)
  case atStart => exact ⟨0, Nat.zero_le _, rfl, (fun i hi => absurd hi (Nat.not_lt_zero i) : ∀ i, i < 0 → _)⟩
  case round =>
    obtain ⟨k, hk, rfl, HOK⟩ := hrel
    by_cases hkn : k < n
    · obtain ⟨b, o, hA, hc⟩ := HR.out.cells (by omega)
      subst hA
      have d1 := hc k hkn
      obtain ⟨x, hx⟩ : ∃ x, gi xs k = x := ⟨_, rfl⟩
      rw [hx] at d1
      have hmem : x ∈ xs := by rw [← hx, gi_eq xs k (by have := HR.out.len; omega)]; exact List.getElem_mem _
      have k0 : (0 : Int) ≤ (k : Int) := by omega
      have k1 : (k : Int) < (n : Int) := by omega
      have HX := Lib.hid hx
      have hbad : okLit x = false → setF xs = none := fun h => setGo_none xs [] ⟨x, hmem, h⟩
      have HBAD := Lib.hid hbad
      clear hc hx hmem hbad
      by_cases h0 : x = 0
      · have e0 : (x == 0) = true := by simpa using h0
        have hs := HBAD.out (by rw [h0]; decide)
        have HS := Lib.hid hs
        clear hs h0
        go_wp2
        go_ret2
        exact ⟨Below.refl _ _, fun s h => (by rw [HS.out] at h; cases h), fun _ => rfl⟩
      · have e0 : (x == 0) = false := by simpa using h0
        by_cases h1 : x < -2147483647
        · have e1 : decide (x < -2147483647) = true := by simpa using h1
          have hs := HBAD.out (by simp [okLit]; omega)
          have HS := Lib.hid hs
          clear hs h0
          go_wp2
          go_ret2
          exact ⟨Below.refl _ _, fun s h => (by rw [HS.out] at h; cases h), fun _ => rfl⟩
        · have e1 : decide (x < -2147483647) = false := by simpa using h1
          by_cases h2 : 2147483647 < x
          · have e2 : decide (2147483647 < x) = true := by simpa using h2
            have hs := HBAD.out (by simp [okLit]; omega)
            have HS := Lib.hid hs
            clear hs h0
            go_wp2
            go_ret2
            exact ⟨Below.refl _ _, fun s h => (by rw [HS.out] at h; cases h), fun _ => rfl⟩
          · have e2 : decide (2147483647 < x) = false := by simpa using h2
            have hok : okLit x = true := okLit_iff.2 ⟨h0, by omega, by omega⟩
            have HOKX := Lib.hid hok
            clear hok h0
            go_wp2
            go_round
            case rel =>
              refine ⟨k + 1, by omega, by go_num, (fun i hi => ?_ : ∀ i, i < k + 1 → okLit (gi xs i) = true)⟩
              by_cases e : i = k
              · rw [e, HX.out]; exact HOKX.out
              · exact HOK.out i (by omega)
            case measure => simp [intOf]; omega
    · obtain rfl : k = n := by omega
      have hall : ∀ x ∈ xs, okLit x = true := fun x hx => by
        obtain ⟨i, hi, rfl⟩ := List.getElem_of_mem hx
        have := HOK.out i (by have := HR.out.len; omega)
        rwa [gi_eq xs i hi] at this
      have hs := wantF_setF hall
      have HS := Lib.hid hs
      have hl := HR.out.len
      have hwl : (wantF xs).length ≤ xs.length := setF_len hs
      have HL := Lib.hid hl
      have HWL := Lib.hid hwl
      clear hall hs hl hwl HOK
      go_wp2_with fail
      refine (values_any A k c _).mono ?_
      rintro e w2 ⟨rfl, rfl⟩
      go_wp2_with fail
      refine (sorted_any A k c xs _ HR.out hn).mono ?_
      rintro e w3 ⟨sa, sc, rfl, h3⟩
      have H3 := Lib.hid (h3.conseq (star_emp _).symm)
      clear h3
      unfold slv
      go_wp2_with fail
      refine (Compact_any sa sc (sorted xs) H3.out (by rw [sorted_length, HL.out]; omega)).mono ?_
      rintro e w4 ⟨rfl, h4⟩
      have hrd := St.rd (xs := wantF xs) h4 (by have := HWL.out; have := HL.out; omega)
      have HRD := Lib.hid hrd
      have HB4 := Lib.hid h4.below
      clear hrd h4
      unfold slv
      go_wp2
      go_ret2
      refine ⟨HB4.out, fun s h => ?_, fun h => (by rw [HS.out] at h; cases h)⟩
      rw [HS.out] at h
      cases h
      exact ⟨_, sc, rfl, HRD.out⟩
end Go.Proofs.Ytodmkcolamppmaa
