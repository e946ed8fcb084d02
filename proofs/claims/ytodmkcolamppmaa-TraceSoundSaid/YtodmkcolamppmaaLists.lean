/-
  The contract of plaitlaw12's lists.
-/
import Derived.Test.YtodmkcolamppmaaDer7
import Derived.Test.YtodmkcolamppmaaHelp3
namespace Go.Proofs.Ytodmkcolamppmaa
open Go.RowKit Go.Proofs.PlaitSep Go.Proofs.PlaitPure

set_option maxRecDepth 100000 in
set_option maxHeartbeats 2000000 in
theorem lists_of (A : Option Addr) (n cap : Nat) (xss : List (List Int)) (w : World) (hr : Rd2 w A n xss) (hn : n ≤ 1000000) :
    Calls Try.prog 20 #[.slice A n cap] w fun e w' => ∃ A' c, e = .returned (.slice A' n c) ∧ Below w.heap.size w w' ∧ Rd2 w' A' n xss := by
  have HR := Lib.hid hr
  clear hr
  go_enter Try.func20, Try.ntmps20
  go_wp2
  go_loopw [3, 4] (fun v3 v4 wr => ∃ (j : Nat) (a : Option Nat) (c : Nat) (V : List Value), j ≤ n ∧ v4 = .int .i64 j ∧ v3 = .slice (a.map fun b => ⟨b, 0, none⟩) j c ∧ Hid (St w.heap.size w wr (star (sl a j c 51 1 V) emp)) ∧ Hid (RowsV wr V (xss.take j)) ∧ Hid (NoI wr a)) (fun _ v4 _ => n - (intOf v4).toNat)
  case atStart => exact ⟨0, none, 0, [], Nat.zero_le _, rfl, rfl, (by rw [sl_none, star_emp]; exact St.start w : St w.heap.size w w (star (sl none 0 0 51 1 []) emp)), (RowsV.nil w : RowsV w [] (xss.take 0)), (fun b hb => (by cases hb) : NoI w none)⟩
  case round =>
    obtain ⟨j, a, c, V, hj, rfl, rfl, HST, HRV, HNI⟩ := hrel
    by_cases hjn : j < n
    · obtain ⟨ab, ao, hA, hc⟩ := (HR.out.grow HST.out.below).cells (by omega)
      subst hA
      obtain ⟨Aj, cj, d1, hrj⟩ := hc j hjn
      have htk : xss.take (j + 1) = xss.take j ++ [gl xss j] := take_gl xss j (by have := HR.out.len; omega)
      obtain ⟨xs, hxs⟩ : ∃ xs, gl xss j = xs := ⟨_, rfl⟩
      obtain ⟨ln, hln⟩ : ∃ ln, xs.length = ln := ⟨_, rfl⟩
      rw [hxs] at htk hrj
      rw [hxs, hln] at d1
      have HTK := Lib.hid htk
      have HRJ := Lib.hid hrj
      have HLN := Lib.hid hln
      have j0 : (0 : Int) ≤ (j : Int) := by omega
      have j1 : (j : Int) < (n : Int) := by omega
      clear hc hrj hxs hln htk
      go_wp2_with (at_builtin; refine wpList_append1k rfl _ _ 22 51 (.slice none 0 0) 24 rfl Try.underlying22 Try.infoRow rfl HST.out rfl (.slice Aj ln cj) rfl rfl (by omega) (by simp only [maxLen]; omega) ?_; intro b' c' w3 h3 hk3 hq3; have H3 := Lib.hid h3; have HK3 := Lib.hid hk3; have HQ3 := Lib.hid hq3; clear h3 hk3 hq3)
      have hni3 : NoI w3 (some b') := fun b0 e => by
        cases e
        exact fun i u hu => HQ3.out (fun u => ∀ x, u ≠ .int .i64 x) HRV.out.noint (by simp) (by simp [Value.cells]) (fun b0 i u e hu => HNI.out b0 e i u hu) i u hu
      have hrv3 : RowsV w3 (V ++ [.slice Aj ln cj]) (xss.take (j + 1)) := by
        rw [HTK.out]
        exact (HRV.out.keepO HNI.out HK3.out).snoc (HRJ.out.keepO HNI.out HK3.out) cj ln HLN.out
      have HNI3 := Lib.hid hni3
      have HRV3 := Lib.hid hrv3
      clear hni3 hrv3
      go_wp2
      go_roundw
      case rel => exact ⟨j + 1, some b', c', V ++ [Value.slice Aj ln cj], by omega, by go_num, rfl, H3.out, HRV3.out, HNI3.out⟩
      case measure => simp [intOf]; omega
    · obtain rfl : j = n := by omega
      have hrv := HRV.out
      rw [List.take_of_length_le (by rw [HR.out.len]; exact Nat.le_refl _)] at hrv
      have hrd := hrv.rd2 HST.out (by omega)
      have HRD := Lib.hid hrd
      clear hrv hrd
      go_wp2
      go_ret
      exact ⟨_, c, rfl, HST.out.below, HRD.out⟩
end Go.Proofs.Ytodmkcolamppmaa
