/-
  The contract of plaitref12.Set: a clause as a set that rises.
-/
import Derived.Test.YtodmkcolamppmaaHelp
namespace Go.Proofs.Ytodmkcolamppmaa
open Go.RowKit Go.Proofs.PlaitSep Go.Proofs.PlaitPure

/-- What Set hands back. -/
def SetPost (H : Nat) (w : World) (xs : List Int) (e : Ending) (w' : World) : Prop :=
  (∀ s, setF xs = some s → ∃ a c, e = .returned (.tuple #[slv a s.length c, .bool true]) ∧ St H w w' (sli 3 a c s)) ∧
  (setF xs = none → e = .returned (.tuple #[.slice none 0 0, .bool false]) ∧ St H w w' emp)

set_option maxRecDepth 100000 in
set_option maxHeartbeats 1000000 in
theorem set_any (A : Option Addr) (n cap : Nat) (xs : List Int) (w : World) (hr : Rd w A n xs) (hn : n ≤ 1000000) :
    Calls Try.prog 42 #[.slice A n cap] w (SetPost w.heap.size w xs) := by
  have hl := Lib.hid hr.len
  go_enter Try.func42, Try.ntmps42
  go_wp2
  go_loopw [4, 5] (fun v i wr => ∃ (k : Nat) (out : List Int) (a : Option Nat) (c : Nat), k ≤ n ∧ out.length ≤ k ∧ i = .int .i64 k ∧ v = slv a out.length c ∧ Hid (setGo out (xs.drop k) = setF xs) ∧ St w.heap.size w wr (star (sli 3 a c out) emp)) (fun _ i _ => n - (intOf i).toNat)
  case atStart => exact ⟨0, [], none, 0, Nat.zero_le _, Nat.le_refl _, rfl, rfl, rfl, ⟨(St.start w).below, (St.start w).base, (St.start w).sat.sl_nil _ _⟩⟩
  case round =>
    obtain ⟨k, out, a, c, hk, ho, rfl, rfl, HX, hst⟩ := hrel
    obtain ⟨wo, rfl⟩ : ∃ wo : World, wo = wr := ⟨_, rfl⟩
    by_cases hlt : k < n
    · obtain ⟨b, o, rfl, hc⟩ := (hr.grow hst.below).cells (by omega)
      have hck := hc k hlt
      have hrw := hr.grow hst.below
      clear hc
      obtain ⟨x, hx⟩ : ∃ x, gi xs k = x := ⟨_, rfl⟩
      have HXX := Lib.hid hx
      rw [hx] at hck
      clear hx
      obtain ⟨L, hL⟩ : ∃ L, out.length = L := ⟨_, rfl⟩
      have HL := Lib.hid hL
      rw [hL] at ho ⊢
      clear hL
      cases hok : okLit x
      · have HB := Lib.hid (setGo_bad (out := out) (xs := xs) (k := k) (by have := hl.out; omega) (by rw [HXX.out]; exact hok))
        have hfin : SetPost w.heap.size w xs (.returned (.tuple #[.slice none 0 0, .bool false])) wo := by
          refine ⟨fun s hs => ?_, fun _ => ⟨rfl, hst.dropl⟩⟩
          rw [← HX.out, HB.out] at hs
          cases hs
        have HF := Lib.hid hfin
        have hok' : x = 0 ∨ 2147483647 < x ∨ x < -2147483647 := by simp [okLit] at hok; omega
        clear hok hfin
        unfold slv
        by_cases h1 : x = 0
        · have hd1 : (x == 0) = true := by simpa using h1
          clear hok' h1
          go_wp2
          go_ret2
          exact HF.out
        · have hd1 : (x == 0) = false := by simpa using h1
          by_cases h2 : 2147483647 < x
          · have hd2 : decide (2147483647 < x) = true := by simpa using h2
            clear hok' h1
            go_wp2
            go_ret2
            exact HF.out
          · have hd2 : decide (2147483647 < x) = false := by simpa using h2
            have hd3 : decide (x < -2147483647) = true := by simp; omega
            clear hok' h1
            go_wp2
            go_ret2
            exact HF.out
      · have HS := Lib.hid (setGo_ok (out := out) (xs := xs) (k := k) (by have := hl.out; omega) (by rw [HXX.out]; exact hok))
        have hok' : x ≠ 0 ∧ -2147483647 ≤ x ∧ x ≤ 2147483647 := by simpa [okLit] using hok
        obtain ⟨h1, h2, h3⟩ := hok'
        have hd1 : (x == 0) = false := by simpa using h1
        have hd2 : decide (2147483647 < x) = false := by simp; omega
        have hd3 : decide (x < -2147483647) = false := by simp; omega
        obtain ⟨_, hLc, _, hnone, _⟩ := hst.sat.sl_facts
        have HN := Lib.hid hnone
        clear h1 hnone hok
        unfold slv
        go_wp2
        go_loopw [6] (fun q w2 => ∃ j : Nat, j ≤ L ∧ q = .int .i64 j ∧ Hid (∀ i, i < j → gi out i < x) ∧ Drawn wo w2) (fun q _ => L - (intOf q).toNat)
        case atStart => exact ⟨0, Nat.zero_le _, rfl, (fun i hi => by omega : ∀ i, i < 0 → gi out i < x), Drawn.refl _⟩
        case round =>
          obtain ⟨j, hj, rfl, HA, hD⟩ := hrel
          have hst2 := hst.drawn hD
          have hck2 : wr.cell? ⟨b, o + k, none⟩ = some (.int .i64 x) := by rw [← hck]; simp [World.cell?, hD.heap]
          by_cases hjl : j < L
          · have hd4 : decide ((j : Int) < (L : Int)) = true := by simp; omega
            have h0 : (0 : Int) ≤ (j : Int) := by omega
            have h0' : (j : Int) < (L : Int) := by omega
            have hk0 : (0 : Int) ≤ (k : Int) := by omega
            have hk0' : (k : Int) < (n : Int) := by omega
            cases a with
            | none => have := (HN.out rfl).1; have := HL.out; omega
            | some ba =>
            have hcj : wr.cell? ⟨ba, j, none⟩ = some (.int .i64 (gi out j)) := by
              rw [St.sl_cell (h := hst2) j (by have := HL.out; simp; omega), ints_get _ _ (by have := HL.out; omega)]
            cases hy : decide (gi out j < x)
            · have hy' : x ≤ gi out j := by simpa using hy
              cases he : gi out j == x
              · go_wp2
                go_quiet (fail)
                go_wp2
                go_quiet (fail)
                go_wp2_with (at_builtin; refine wpList_append_int rfl _ _ 51 3 rfl Try.underlying51 Try.infoInt (hst2.drewN _) L HL.out rfl 0 rfl (by omega) ?_; intro b' c' w' h2)
                have HI := Lib.hid (show ins x out = out.take j ++ x :: out.drop j from ins_at (by have := HL.out; omega) HA.out (fun h => by have h9 : gi out j ≠ x := (by simpa using he); omega))
                have hst4 : St w.heap.size w w' (star (sli 3 (some b') c' (out.take L ++ 0 :: out.drop L)) emp) := by
                  have := shift_start out 0
                  rw [HL.out] at this
                  rw [← this]; exact h2
                clear h2
                go_loopw [7] (fun q w2 => ∃ (jj : Nat) (z : Int), j ≤ jj ∧ jj ≤ L ∧ q = .int .i64 jj ∧ St w.heap.size w w2 (star (sli 3 (some b') c' (out.take jj ++ z :: out.drop jj)) emp)) (fun q _ => (intOf q).toNat - j)
                case atStart => exact ⟨L, 0, by omega, Nat.le_refl _, rfl, hst4⟩
                case round =>
                  obtain ⟨jj, z, hj1, hj2, rfl, hst5⟩ := hrel
                  have hlen : (out.take jj ++ z :: out.drop jj).length = L + 1 := by have := HL.out; simp; omega
                  have HLEN := Lib.hid hlen
                  clear hlen
                  by_cases hjj : j < jj
                  · obtain ⟨i, rfl⟩ : ∃ i, jj = i + 1 := ⟨jj - 1, by omega⟩
                    have hr1 : wr.cell? ⟨b', i, none⟩ = some (.int .i64 (gi out i)) := by
                      rw [St.sl_cell (h := hst5) i (by rw [ints_length]; have := HLEN.out; omega), ints_get _ _ (by have := HLEN.out; omega)]
                      have := shift_read (out := out) (j := i + 1) z (by omega) (by have := HL.out; omega)
                      simp only [Nat.add_sub_cancel] at this
                      rw [this]
                    have hr2 : wr.cell? ⟨b', i + 1, none⟩ = some (.int .i64 (gi (out.take (i + 1) ++ z :: out.drop (i + 1)) (i + 1))) := by
                      rw [St.sl_cell (h := hst5) (i + 1) (by rw [ints_length]; have := HLEN.out; omega), ints_get _ _ (by have := HLEN.out; omega)]
                    have hf2 : wr.frozen? ⟨b', i + 1, none⟩ = false := St.sl_free (h := hst5) (i + 1)
                    go_wp2
                    go_roundw
                    case rel =>
                      refine ⟨i, gi out i, by omega, by omega, by go_num, ?_⟩
                      have h6 := St.sl_set hst5 (i + 1) (.int .i64 (gi out i)) (by rw [ints_length]; have := HLEN.out; omega)
                      have h7 := shift_step (out := out) (j := i + 1) z (by omega) (by have := HL.out; omega)
                      simp only [Nat.add_sub_cancel] at h7
                      rw [ints_set, h7] at h6
                      rw [show sli 3 (some b') c' (out.take i ++ gi out i :: out.drop i) = sl (some b') (out.take (i + 1) ++ z :: out.drop (i + 1)).length c' 3 1 (ints (out.take i ++ gi out i :: out.drop i)) from by unfold sli; rw [HLEN.out]; congr 1; have := HL.out; simp; omega]
                      exact h6
                    case measure => simp [intOf]; omega
                  · obtain rfl : j = jj := by omega
                    have hr1 : wr.cell? ⟨b, o + k, none⟩ = some (.int .i64 x) := by rw [(hr.grow hst5.below).cell hlt, HXX.out]
                    have hr2 : wr.cell? ⟨b', j, none⟩ = some (.int .i64 (gi (out.take j ++ z :: out.drop j) j)) := by
                      rw [St.sl_cell (h := hst5) j (by rw [ints_length]; have := HLEN.out; omega), ints_get _ _ (by have := HLEN.out; omega)]
                    have hf2 : wr.frozen? ⟨b', j, none⟩ = false := St.sl_free (h := hst5) j
                    go_wp2
                    go_roundw
                    case rel =>
                      have hi : (ins x out).length = L + 1 := by rw [HI.out]; have := HL.out; simp; omega
                      refine ⟨k + 1, ins x out, some b', c', by omega, by omega, by go_num, by rw [hi]; rfl, ?_, ?_⟩
                      · have := HS.out
                        rw [HXX.out] at this
                        exact (this.symm.trans HX.out : _ = _)
                      · have h6 := St.sl_set hst5 j (.int .i64 x) (by rw [ints_length]; have := HLEN.out; omega)
                        rw [ints_set, shift_end z x (by have := HL.out; omega), ← HI.out] at h6
                        rw [show sli 3 (some b') c' (ins x out) = sl (some b') (out.take j ++ z :: out.drop j).length c' 3 1 (ints (ins x out)) from by unfold sli; rw [HLEN.out, hi]]
                        exact h6
                    case measure => simp [intOf]; omega
              · have HT := Lib.hid (ins_there (x := x) (out := out) (j := j) (by have := HL.out; omega) HA.out (by simpa using he))
                go_wp2
                go_quiet (fail)
                go_wp2
                go_quiet (fail)
                go_wp2
                go_roundw
                case rel =>
                  refine ⟨k + 1, out, some ba, c, by omega, by have := HL.out; omega, by go_num, by rw [HL.out], ?_, hst2.drewN _⟩
                  have := HS.out
                  rw [HXX.out, HT.out] at this
                  exact (this.symm.trans HX.out : _ = _)
                case measure => simp [intOf]; omega
            · go_wp2
              go_quiet (fail)
              go_wp2
              go_roundw
              case rel => exact ⟨j + 1, by omega, by go_num, (fun i hi => by
                rcases Nat.lt_succ_iff_lt_or_eq.1 hi with h | h
                · exact HA.out i h
                · subst h; simpa using hy : ∀ i, i < j + 1 → gi out i < x), hD.step _⟩
              case measure => simp [intOf]; omega
          · obtain rfl : j = L := by omega
            have hd4 : decide ((j : Int) < (j : Int)) = false := by simp
            go_wp2
            go_quiet (fail)
            go_wp2
            go_quiet (fail)
            go_wp2_with (at_builtin; refine wpList_append_int rfl _ _ 51 3 rfl Try.underlying51 Try.infoInt (hst2.drewN _) j HL.out rfl 0 rfl (by omega) ?_; intro b' c' w' h2)
            have HI := Lib.hid (show ins x out = out.take j ++ x :: out.drop j from ins_at (by have := HL.out; omega) HA.out (fun h => by have := HL.out; omega))
            have hst4 : St w.heap.size w w' (star (sli 3 (some b') c' (out.take j ++ 0 :: out.drop j)) emp) := by
              have := shift_start out 0
              rw [HL.out] at this
              rw [← this]; exact h2
            clear h2
            go_loopw [7] (fun q w2 => ∃ (jj : Nat) (z : Int), j ≤ jj ∧ jj ≤ j ∧ q = .int .i64 jj ∧ St w.heap.size w w2 (star (sli 3 (some b') c' (out.take jj ++ z :: out.drop jj)) emp)) (fun q _ => (intOf q).toNat - j)
            case atStart => exact ⟨j, 0, Nat.le_refl _, Nat.le_refl _, rfl, hst4⟩
            case round =>
              obtain ⟨jj, z, hj1, hj2, rfl, hst5⟩ := hrel
              have hlen : (out.take jj ++ z :: out.drop jj).length = j + 1 := by have := HL.out; simp; omega
              have HLEN := Lib.hid hlen
              clear hlen
              by_cases hjj : j < jj
              · exact absurd hjj (by omega)
              · obtain rfl : j = jj := by omega
                have hr1 : wr.cell? ⟨b, o + k, none⟩ = some (.int .i64 x) := by rw [(hr.grow hst5.below).cell hlt, HXX.out]
                have hr2 : wr.cell? ⟨b', j, none⟩ = some (.int .i64 (gi (out.take j ++ z :: out.drop j) j)) := by
                  rw [St.sl_cell (h := hst5) j (by rw [ints_length]; have := HLEN.out; omega), ints_get _ _ (by have := HLEN.out; omega)]
                have hf2 : wr.frozen? ⟨b', j, none⟩ = false := St.sl_free (h := hst5) j
                go_wp2
                go_roundw
                case rel =>
                  have hi : (ins x out).length = j + 1 := by rw [HI.out]; have := HL.out; simp; omega
                  refine ⟨k + 1, ins x out, some b', c', by omega, by omega, by go_num, by rw [hi]; rfl, ?_, ?_⟩
                  · have := HS.out
                    rw [HXX.out] at this
                    exact (this.symm.trans HX.out : _ = _)
                  · have h6 := St.sl_set hst5 j (.int .i64 x) (by rw [ints_length]; have := HLEN.out; omega)
                    rw [ints_set, shift_end z x (by have := HL.out; omega), ← HI.out] at h6
                    rw [show sli 3 (some b') c' (ins x out) = sl (some b') (out.take j ++ z :: out.drop j).length c' 3 1 (ints (ins x out)) from by unfold sli; rw [HLEN.out, hi]]
                    exact h6
                case measure => simp [intOf]; omega
    · have hd1 : decide ((k : Int) < (n : Int)) = false := by simp; omega
      go_wp2
      go_ret2
      refine ⟨fun s hs => ?_, fun hs => ?_⟩
      · rw [← HX.out, setGo_end (by have := hl.out; omega)] at hs
        obtain rfl : out = s := by simpa using hs
        exact ⟨a, c, rfl, by simpa [star_emp] using hst⟩
      · rw [← HX.out, setGo_end (by have := hl.out; omega)] at hs
        cases hs
end Go.Proofs.Ytodmkcolamppmaa
