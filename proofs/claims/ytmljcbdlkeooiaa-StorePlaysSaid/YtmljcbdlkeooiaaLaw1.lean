/-
  The contracts of plaitlaw11's left and kept.
-/
import Derived.Test.YtmljcbdlkeooiaaStore11
import Derived.Test.YtmljcbdlkeooiaaStoreM12
namespace Go.Proofs.Ytmljcbdlkeooiaa
open Go.RowKit Go.Proofs.PlaitSep Go.Proofs.PlaitPure

def leftGo (set : List Int) : List Int → Nat → Bool × Nat
  | [], n => (false, n)
  | y :: r, n => if hasB set y then (true, 0) else if hasB set (-y) then leftGo set r n else leftGo set r (n + 1)
def leftF (c set : List Int) : Bool × Nat := leftGo set c 0
set_option maxHeartbeats 800000 in
theorem left_any (A A' : Option Addr) (n cap m cap' : Nat) (c set : List Int) (w : World) (hr : Rd w A n c) (hr' : Rd w A' m set) (hl : ∀ y ∈ c, litB y = true) (hn : n ≤ 1000000) :
    Calls Try.prog 25 #[.slice A n cap, .slice A' m cap'] w fun e w' => e = .returned (.tuple #[.bool (leftF c set).1, .int .i64 (leftF c set).2]) ∧ w = w' := by
  have HR := Lib.hid hr
  have HR' := Lib.hid hr'
  have HL := Lib.hid hl
  clear hr hr' hl
  go_enter Try.func25, Try.ntmps25
  go_wp2
  go_loop [6, 7] (fun v6 v7 => ∃ k cnt : Nat, k ≤ n ∧ cnt ≤ k ∧ v7 = .int .i64 k ∧ v6 = .int .i64 cnt ∧ Hid (leftGo set (c.drop k) cnt = leftF c set)) (fun _ v7 => n - (intOf v7).toNat)
  case atStart => exact ⟨0, 0, Nat.zero_le _, Nat.le_refl _, rfl, rfl, rfl⟩
  case round =>
    obtain ⟨k, cnt, hk, hck, rfl, rfl, HG⟩ := hrel
    by_cases hkn : k < n
    · obtain ⟨b, o, rfl, hc⟩ := HR.out.cells (by omega)
      have d1 := hc k hkn
      clear hc
      obtain ⟨y, hy⟩ : ∃ y, gi c k = y := ⟨_, rfl⟩
      rw [hy] at d1
      have hlen := HR.out.len
      have hdr : c.drop k = y :: c.drop (k + 1) := by
        rw [List.drop_eq_getElem_cons (by omega), ← hy]
        simp [gi, List.getD_eq_getElem?_getD, show k < c.length by omega]
      have hyl := litB_iff.1 (HL.out y (by rw [← hy]; exact getL_mem (by omega)))
      obtain ⟨hy1, hy2, hy3⟩ := hyl
      have hg := HG.out
      rw [hdr, leftGo] at hg
      obtain ⟨b1, hb1⟩ : ∃ b1, hasB set y = b1 := ⟨_, rfl⟩
      obtain ⟨b2, hb2⟩ : ∃ b2, hasB set (-y) = b2 := ⟨_, rfl⟩
      have h1 := has_any A' m cap' set y w HR'.out
      have h2 := has_any A' m cap' set (-y) w HR'.out
      rw [hb1] at h1 hg
      rw [hb2] at h2 hg
      have H1 := Lib.hid h1
      have H2 := Lib.hid h2
      clear hy hlen hdr hy1 hb1 hb2 h1 h2 HG
      cases b1 with
      | true =>
        rw [if_pos rfl] at hg
        have HG := Lib.hid hg
        clear hg
        go_wp2_with (go_at_call 24; refine (H1.out).mono ?_; rintro e w' ⟨rfl, rfl⟩)
        go_ret2
        rw [← HG.out]
        exact ⟨rfl, rfl⟩
      | false =>
        rw [if_neg (by simp)] at hg
        cases b2 with
        | true =>
          rw [if_pos rfl] at hg
          have HG := Lib.hid hg
          clear hg
          go_wp2_with (first
            | (go_at_call 24; have hm2 := hm; refine (H2.out).mono ?_; rintro e w' ⟨rfl, rfl⟩)
            | (go_at_call 24; refine (H1.out).mono ?_; rintro e w' ⟨rfl, rfl⟩; have hm : True := trivial))
          go_round
          case rel => exact ⟨k + 1, cnt, by omega, by omega, by go_num, rfl, HG.out⟩
          case measure => simp [intOf]; omega
        | false =>
          rw [if_neg (by simp)] at hg
          have HG := Lib.hid hg
          clear hg
          go_wp2_with (first
            | (go_at_call 24; have hm2 := hm; refine (H2.out).mono ?_; rintro e w' ⟨rfl, rfl⟩)
            | (go_at_call 24; refine (H1.out).mono ?_; rintro e w' ⟨rfl, rfl⟩; have hm : True := trivial))
          go_round
          case rel => exact ⟨k + 1, cnt + 1, by omega, by omega, by go_num, by go_num, HG.out⟩
          case measure => simp [intOf]; omega
    · obtain rfl : k = n := by omega
      have hg := HG.out
      rw [List.drop_of_length_le (by have := HR.out.len; omega), leftGo] at hg
      have HG2 := Lib.hid hg
      clear hg HG
      go_wp2
      go_ret2
      rw [← HG2.out]
      exact ⟨rfl, rfl⟩
end Go.Proofs.Ytmljcbdlkeooiaa
