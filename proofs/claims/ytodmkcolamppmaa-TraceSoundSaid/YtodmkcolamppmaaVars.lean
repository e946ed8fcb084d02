/-
  The contract of plaitref12's Vars.
-/
import Derived.Test.YtodmkcolamppmaaHelp
namespace Go.Proofs.Ytodmkcolamppmaa
open Go.RowKit Go.Proofs.PlaitSep Go.Proofs.PlaitPure

def InV (v : Int) (c : List Int) : Prop := ∀ x ∈ c, -v ≤ x ∧ x ≤ v
theorem InV.mono {v u : Int} {c : List Int} (h : InV v c) (hv : v ≤ u) : InV u c := fun x hx => by have := h x hx; omega
theorem InV.snoc {v x : Int} {c : List Int} (h : InV v c) : InV (max (max v x) (-x)) (c ++ [x]) := fun y hy => by
  rcases List.mem_append.1 hy with hy | hy
  · have := h y hy; omega
  · rw [List.mem_singleton.1 hy]; omega
theorem max3 (v x : Int) : (if (if v < x then x else v) < -x then -x else if v < x then x else v) = max (max v x) (-x) := by
  by_cases h : v < x
  · simp only [h, if_true]; split <;> omega
  · simp only [h, if_false]; split <;> omega
set_option maxRecDepth 100000 in
set_option maxHeartbeats 2000000 in
theorem vars_any (A : Option Addr) (n cap : Nat) (xss : List (List Int)) (most : Int) (w : World) (hr : Rd2 w A n xss) (hm : 0 ≤ most) (hm2 : most ≤ 100000) :
    Calls Try.prog 28 #[.slice A n cap, .int .i64 most] w fun e w' => ∃ v, e = .returned (.int .i64 v) ∧ Drawn w w' ∧ 0 ≤ v ∧ (v ≤ most → ∀ c ∈ xss, InV v c) := by
  have HR := Lib.hid hr
  have hsm := hr.small
  clear hr
  go_enter Try.func28, Try.ntmps28
  go_wp2
  go_loopw [5, 6] (fun v5 v6 wr => ∃ (i : Nat) (v : Int), i ≤ n ∧ v6 = .int .i64 i ∧ v5 = .int .i64 v ∧ Hid (0 ≤ v ∧ v ≤ most) ∧ Hid (Drawn w wr) ∧ Hid (∀ c ∈ xss.take i, InV v c)) (fun _ v6 _ => n - (intOf v6).toNat)
  case atStart => exact ⟨0, 0, Nat.zero_le _, rfl, rfl, (⟨Int.le_refl _, hm⟩ : (0 : Int) ≤ 0 ∧ (0 : Int) ≤ most), Drawn.refl w, (fun c hc => (by rw [List.take_zero] at hc; cases hc) : ∀ c ∈ xss.take 0, InV 0 c)⟩
  case round =>
    obtain ⟨i, v, hi, rfl, rfl, HV, HD, HI⟩ := hrel
    by_cases hin : i < n
    · obtain ⟨ab, ao, hA, hc⟩ := HR.out.cells (by omega)
      subst hA
      obtain ⟨Aj, cj, d0, hrj⟩ := hc i hin
      have htk : xss.take (i + 1) = xss.take i ++ [gl xss i] := take_gl xss i (by rw [HR.out.len]; exact hin)
      obtain ⟨xs, hxs⟩ : ∃ xs, gl xss i = xs := ⟨_, rfl⟩
      obtain ⟨ln, hln⟩ : ∃ ln, xs.length = ln := ⟨_, rfl⟩
      rw [hxs, hln] at d0 hrj
      rw [hxs] at htk
      have hls := hrj.small
      have HTK := Lib.hid htk
      have HRJ := Lib.hid hrj
      have HLN := Lib.hid hln
      have HD0 := Lib.hid (show ∀ V, Drawn w V → V.cell? ⟨ab, ao + i, none⟩ = some (.slice Aj ln cj) from fun V hV => by rw [← d0]; unfold World.cell?; rw [hV.heap])
      have d1 := HD0.out _ HD.out
      have i0 : (0 : Int) ≤ (i : Int) := by omega
      have i1 : (i : Int) < (n : Int) := by omega
      clear hc d0 htk hrj hxs hln
      go_wp2
      go_loopw [5, 7] (fun v5 v7 wr => ∃ (k : Nat) (v : Int), k ≤ ln ∧ v7 = .int .i64 k ∧ v5 = .int .i64 v ∧ Hid (0 ≤ v ∧ v ≤ most) ∧ Hid (Drawn w wr) ∧ Hid (∀ c ∈ xss.take i, InV v c) ∧ Hid (InV v (xs.take k))) (fun _ v7 _ => ln - (intOf v7).toNat)
      case atStart => exact ⟨0, v, Nat.zero_le _, rfl, rfl, HV.out, HD.out, HI.out, (fun x hx => (by rw [List.take_zero] at hx; cases hx) : InV v (xs.take 0))⟩
      case round =>
        obtain ⟨k, v, hk, rfl, rfl, HV2, HD2, HI2, HK2⟩ := hrel
        have d1 := HD0.out _ HD2.out
        by_cases hkn : k < ln
        · obtain ⟨bx, ox, hA, hcx⟩ := (HRJ.out.drawn HD2.out).cells (by omega)
          subst hA
          have d2 := hcx k hkn
          have htk := take_gi xs k (by rw [HLN.out]; exact hkn)
          obtain ⟨x, hx⟩ : ∃ x, gi xs k = x := ⟨_, rfl⟩
          rw [hx] at d2 htk
          have HTJ := Lib.hid htk
          have k0 : (0 : Int) ≤ (k : Int) := by omega
          have k1 : (k : Int) < (ln : Int) := by omega
          clear hcx htk hx
          have hv2 := HV2.out
          by_cases h1 : most < x
          · have e1 : decide (most < x) = true := by simpa using h1
            go_wp2
            go_ret
            exact ⟨most + 1, rfl, HD2.out, by omega, fun h => by omega⟩
          · have e1 : decide (most < x) = false := by simpa using h1
            by_cases h2 : x < -most
            · have e2 : decide (x < -most) = true := by simpa using h2
              go_wp2
              go_ret
              exact ⟨most + 1, rfl, HD2.out, by omega, fun h => by omega⟩
            · have e2 : decide (x < -most) = false := by simp; omega
              have HM := Lib.hid (show 0 ≤ max (max v x) (-x) ∧ max (max v x) (-x) ≤ most by omega)
              clear hv2
              go_wp2
              go_roundw
              case rel =>
                refine ⟨k + 1, max (max v x) (-x), by omega, by go_num, (by rw [max3]), HM.out, HD2.out, (fun c hc => (HI2.out c hc).mono (by omega) : ∀ c ∈ xss.take i, InV (max (max v x) (-x)) c), (?_ : InV (max (max v x) (-x)) (xs.take (k + 1)))⟩
                rw [HTJ.out]
                exact HK2.out.snoc
              case measure => simp [intOf]; omega
        · obtain rfl : k = ln := by omega
          have hk2 := HK2.out
          rw [List.take_of_length_le (by rw [HLN.out]; exact Nat.le_refl _)] at hk2
          have HK3 := Lib.hid hk2
          have HD3 := Lib.hid HD2.out
          clear hk2
          go_wp2
          go_roundw
          case rel =>
            refine ⟨i + 1, v, by omega, by go_num, rfl, HV2.out, HD3.out, (?_ : ∀ c ∈ xss.take (i + 1), InV v c)⟩
            intro c hc
            rw [HTK.out] at hc
            rcases List.mem_append.1 hc with hc | hc
            · exact HI2.out c hc
            · rw [List.mem_singleton.1 hc]; exact HK3.out
          case measure => simp [intOf]; omega
    · obtain rfl : i = n := by omega
      have hi2 := HI.out
      rw [List.take_of_length_le (by rw [HR.out.len]; exact Nat.le_refl _)] at hi2
      have HI2 := Lib.hid hi2
      clear hi2
      go_wp2
      go_ret
      exact ⟨v, rfl, HD.out, HV.out.1, fun _ => HI2.out⟩
end Go.Proofs.Ytodmkcolamppmaa
