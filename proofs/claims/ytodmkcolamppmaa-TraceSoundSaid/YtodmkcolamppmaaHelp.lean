/-
  The contracts of plaithelp's and plaitref12's functions that read lists.
-/
import Derived.Test.YtodmkcolamppmaaRead
import Derived.Test.YtodmkcolamppmaaRows
import Derived.WalkSpells
import Derived.WalkLawsBesides
import Derived.Deep.LoopGhost
import Derived.Deep.QuietTactic
import Derived.BigQuiet
import Derived.Lib.Hide
namespace Go.Proofs.Ytodmkcolamppmaa
open Go.RowKit Go.Proofs.PlaitSep Go.Proofs.PlaitPure

theorem ret_bool {a b : Bool} (h : a = b) : Ending.returned (.bool a) = .returned (.bool b) := by rw [h]
theorem ret_int {k : IntKind} {a b : Int} (h : a = b) : Ending.returned (.int k a) = .returned (.int k b) := by rw [h]

set_option maxHeartbeats 400000 in
theorem has_any (A : Option Addr) (n cap : Nat) (xs : List Int) (x : Int) (w : World) (hr : Rd w A n xs) :
    Calls Try.prog 29 #[.slice A n cap, .int .i64 x] w fun e w' => e = .returned (.bool (hasB xs x)) ∧ w = w' := by
  have hs := hr.small
  go_enter Try.func29, Try.ntmps29
  go_wp2
  go_loop [5] (fun i => ∃ k : Nat, k ≤ n ∧ i = .int .i64 k ∧ hasB (xs.take k) x = false) (fun i => n - (intOf i).toNat)
  case atStart => exact ⟨0, Nat.zero_le _, rfl, by simp [hasB]⟩
  case round =>
    obtain ⟨k, hk, rfl, hx⟩ := hrel
    have hl := hr.len
    by_cases hlt : k < n
    · obtain ⟨b, o, rfl, hc⟩ := hr.cells (by omega)
      have hck := hc k hlt
      have HS := Lib.hid (hasB_take_succ (x := x) (show k < xs.length by omega))
      have HX := Lib.hid hx
      clear hc hx hl
      cases hd : gi xs k == x
      all_goals go_wp2
      · go_round
        case rel => exact ⟨k + 1, by omega, by go_num, by rw [HS.out, HX.out, hd]; rfl⟩
        case measure => simp [intOf]; omega
      · go_ret
        exact ⟨ret_bool (hasB_of_take (k := k + 1) (by rw [HS.out, hd]; simp)).symm, rfl⟩
    · have HX := Lib.hid hx
      clear hx hl
      go_wp2
      go_ret
      refine ⟨ret_bool ?_, rfl⟩
      rw [← HX.out, List.take_of_length_le (by have := hr.len; omega)]

set_option maxHeartbeats 400000 in
theorem ints_any (A A' : Option Addr) (n cap m cap' : Nat) (xs ys : List Int) (w : World) (hr : Rd w A n xs) (hr' : Rd w A' m ys) :
    Calls Try.prog 33 #[.slice A n cap, .slice A' m cap'] w fun e w' => e = .returned (.bool (eqB xs ys)) ∧ Drawn w w' := by
  have hs := hr.small
  have hs' := hr'.small
  by_cases hnm : n = m
  · subst hnm
    go_enter Try.func33, Try.ntmps33
    go_wp2
    go_loopw [5] (fun i wr => ∃ k : Nat, k ≤ n ∧ i = .int .i64 k ∧ xs.take k = ys.take k ∧ Drawn w wr) (fun i _ => n - (intOf i).toNat)
    case atStart => exact ⟨0, Nat.zero_le _, rfl, by simp, Drawn.refl w⟩
    case round =>
      obtain ⟨k, hk, rfl, hx, hD⟩ := hrel
      by_cases hlt : k < n
      · obtain ⟨b, o, rfl, hc⟩ := (hr.drawn hD).cells (by omega)
        obtain ⟨b', o', rfl, hc'⟩ := (hr'.drawn hD).cells (by omega)
        have hck := hc k hlt
        have hck' := hc' k hlt
        have h0 : (0 : Int) ≤ (k : Int) := by omega
        have h1 : (k : Int) < (n : Int) := by omega
        have HX := Lib.hid hx
        clear hc hc' hx
        cases hd : gi xs k != gi ys k
        all_goals
          go_wp2
          go_quiet (fail)
          go_wp2
        · go_roundw
          case rel => exact ⟨k + 1, by omega, by go_num, by rw [take_gi xs k (by have := hr.len; omega), take_gi ys k (by have := hr'.len; omega), HX.out, (by simpa using hd : gi xs k = gi ys k)], hD.step _⟩
          case measure => simp [intOf]; omega
        · go_ret
          exact ⟨ret_bool (eqB_ne (k := k) (by have := hr.len; omega) (by rw [hr.len, hr'.len]) (by simpa using hd)).symm, hD.step _⟩
      · have HX := Lib.hid hx
        clear hx
        go_wp2
        go_ret
        refine ⟨ret_bool (eqB_yes (by rw [hr.len, hr'.len]) ?_).symm, hD⟩
        have := HX.out
        rw [hr.len, show n = k by omega]
        exact this
  · have hd : ((n : Int) != (m : Int)) = true := by simp; omega
    go_enter Try.func33, Try.ntmps33
    go_wp2
    go_ret
    exact ⟨ret_bool (eqB_len (by rw [hr.len, hr'.len]; exact hnm)).symm, Drawn.refl w⟩

theorem Try.infoInt : (Try.prog.info? 3).map (fun i => (i.zero, i.size, i.bytes)) = some (some (.int .i64 0), 1, 8) := by kernel_rfl

set_option maxHeartbeats 400000 in
theorem size_any (A : Option Addr) (n cap : Nat) (xss : List (List Int)) (most : Int) (w : World) (hr : Rd2 w A n xss) (hm : 0 ≤ most) (hm' : most ≤ 100000) :
    Calls Try.prog 34 #[.slice A n cap, .int .i64 most] w fun e w' => e = .returned (.int .i64 (sizeF xss most)) ∧ w = w' := by
  have hs := hr.small
  go_enter Try.func34, Try.ntmps34
  go_wp2
  go_loop [5, 6] (fun q i => ∃ (k : Nat) (s : Int), k ≤ n ∧ i = .int .i64 k ∧ q = .int .i64 s ∧ 0 ≤ s ∧ s ≤ 281474976710656 ∧ Hid (sizeGo most s (xss.drop k) = sizeF xss most)) (fun _ i => n - (intOf i).toNat)
  case atStart => exact ⟨0, n, Nat.zero_le _, rfl, rfl, by omega, by omega, (by unfold sizeF; rw [hr.len]; rfl : sizeGo most n (xss.drop 0) = sizeF xss most)⟩
  case round =>
    obtain ⟨k, s, hk, rfl, rfl, h0, h1, HX⟩ := hrel
    by_cases hlt : k < n
    · by_cases hsm : s ≤ most
      · obtain ⟨b, o, rfl, hc⟩ := hr.cells (by omega)
        obtain ⟨Aj, cj, hcj, hrj⟩ := hc k hlt
        have hsj := hrj.small
        have HS := Lib.hid (sizeGo_step (most := most) (n := s) (xss := xss) (k := k) (by have := hr.len; omega) hsm)
        clear hc
        have hd1 : decide ((k : Int) < (n : Int)) = true := by simp; omega
        have hd2 : decide (s ≤ most) = true := by simp; omega
        go_wp2
        go_round
        case rel => exact ⟨k + 1, _, by omega, by go_num, rfl, by omega, by omega, (by rw [← HS.out]; exact HX.out : sizeGo most _ _ = _)⟩
        case measure => simp [intOf]; omega
      · have hd1 : decide ((k : Int) < (n : Int)) = true := by simp; omega
        have hd2 : decide (s ≤ most) = false := by simp; omega
        go_wp2
        go_ret
        exact ⟨ret_int (by rw [← HX.out, sizeGo_stop (by omega)]), rfl⟩
    · have hd1 : decide ((k : Int) < (n : Int)) = false := by simp; omega
      go_wp2
      go_ret
      exact ⟨ret_int (by rw [← HX.out, sizeGo_end (by have := hr.len; omega)]), rfl⟩

set_option maxHeartbeats 400000 in
theorem copyInts_any (A : Option Addr) (n cap : Nat) (xs : List Int) (w : World) (hr : Rd w A n xs) (hn : n * 8 ≤ 140737488355328) :
    Calls Try.prog 35 #[.slice A n cap] w fun e w' => ∃ a c, e = .returned (slv a n c) ∧ St w.heap.size w w' (sli 3 a c xs) := by
  have hst0 : St w.heap.size w w (star (sli 3 none 0 []) emp) := ⟨(St.start w).below, (St.start w).base, (St.start w).sat.sl_nil _ _⟩
  have hl := Lib.hid hr.len
  go_enter Try.func35, Try.ntmps35
  go_wp2_with (at_builtin; refine wpList_append_rd rfl _ _ 51 3 rfl Try.underlying51 Try.infoInt hst0 0 rfl A n cap xs hr rfl rfl (by omega) ?_; intro a' c' w' h2)
  go_ret
  exact ⟨a', c', by simp [slv], by simpa [star_emp] using h2⟩

set_option maxHeartbeats 400000 in
theorem place_any (k n : Int) (w : World) (hn : 0 < n) (hn' : n ≤ 100000) :
    Calls Try.prog 32 #[.int .i64 k, .int .i64 n] w fun e w' => e = .returned (.int .i64 (placeF k n)) ∧ w = w' := by
  have h1 := Int.tmod_lt_of_pos k hn
  have h2 : -n < k.tmod n := by
    have := Int.neg_tmod k n
    have := Int.tmod_lt_of_pos (-k) hn
    omega
  by_cases h3 : k.tmod n < 0
  all_goals
    have HP := Lib.hid (show placeF k n = if k.tmod n < 0 then k.tmod n + n else k.tmod n from rfl)
    go_enter Try.func32, Try.ntmps32
    go_wp2
    go_ret
    exact ⟨ret_int (by rw [HP.out]; split <;> omega), rfl⟩
end Go.Proofs.Ytodmkcolamppmaa
