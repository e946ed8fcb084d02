/-
  The contracts of the store's small functions.
-/
import Derived.Test.YtmljcbdlkeooiaaStoreRep
import Derived.Deep.RegionHeld3
namespace Go.Proofs.Ytmljcbdlkeooiaa
open Go.RowKit Go.Proofs.PlaitSep Go.Proofs.PlaitPure

theorem ret_slice {a : Option Addr} {n n' c c' : Nat} (h : n = n') (h' : c = c') : Ending.returned (.slice a n c) = .returned (.slice a n' c') := by rw [h, h']
set_option maxHeartbeats 400000 in
theorem lit_any (l : Int) (w : World) :
    Calls Try.prog 37 #[.int .i64 l] w fun e w' => e = .returned (.bool (litB l)) ∧ w = w' := by
  cases hb : litB l
  all_goals
    have HB := Lib.hid hb
    clear hb
    by_cases h1 : l = 0
    · have hd1 : (l != 0) = false := by simpa using h1
      have H1 := Lib.hid h1
      clear h1
      go_enter Try.func37, Try.ntmps37
      go_wp2
      go_ret
      first | exact ⟨rfl, rfl⟩ | (have := litB_iff.1 HB.out; have := H1.out; omega)
    · have hd1 : (l != 0) = true := by simpa using h1
      have H1 := Lib.hid h1
      clear h1
      by_cases h2 : -65536 ≤ l
      · have hd2 : decide (-65536 ≤ l) = true := by simpa using h2
        by_cases h3 : l ≤ 65536
        · have hd3 : decide (l ≤ 65536) = true := by simpa using h3
          go_enter Try.func37, Try.ntmps37
          go_wp2
          go_ret
          first | exact ⟨rfl, rfl⟩ | (have := litB_iff.2 ⟨H1.out, h2, h3⟩; rw [HB.out] at this; cases this)
        · have hd3 : decide (l ≤ 65536) = false := by simpa using h3
          go_enter Try.func37, Try.ntmps37
          go_wp2
          go_ret
          first | exact ⟨rfl, rfl⟩ | (have := litB_iff.1 HB.out; omega)
      · have hd2 : decide (-65536 ≤ l) = false := by simpa using h2
        go_enter Try.func37, Try.ntmps37
        go_wp2
        go_ret
        first | exact ⟨rfl, rfl⟩ | (have := litB_iff.1 HB.out; omega)

theorem or_one (m : Nat) : m ||| 1 = if m % 2 = 0 then m + 1 else m := by
  have h1 : (m ||| 1) / 2 = m / 2 := by rw [Nat.or_div_two]; simp
  have h2 : (m ||| 1) % 2 = 1 := by rw [Nat.or_mod_two_eq_one]; simp
  split <;> omega
theorem bits_or_one (m : Nat) (h : m < 18446744073709551616) : bits .or .u64 (m : Int) 1 = ((if m % 2 = 0 then m + 1 else m : Nat) : Int) := by
  have := u64_or_nat m 1 h (by omega)
  rw [or_one] at this
  exact this
set_option maxHeartbeats 400000 in
theorem index_any (l : Int) (w : World) (h1 : -65536 ≤ l) (h2 : l ≤ 65536) :
    Calls Try.prog 41 #[.int .i64 l] w fun e w' => e = .returned (.int .u64 (idx l : Nat)) ∧ w = w' := by
  by_cases h3 : l < 0
  · go_enter Try.func41, Try.ntmps41
    go_wp2
    go_ret
    refine ⟨ret_int ?_, rfl⟩
    rw [show (-l * 2 : Int) = ((2 * (-l).toNat : Nat) : Int) from by omega, bits_or_one _ (by omega), if_pos (by omega), idx, if_pos h3]
  · go_enter Try.func41, Try.ntmps41
    go_wp2
    go_ret
    refine ⟨ret_int ?_, rfl⟩
    rw [idx, if_neg (by omega)]
    omega
section
variable {B : Nat} {w0 w : World} {p : Nat} {L : SLay} {S : SM} {F : HP}
set_option maxHeartbeats 400000 in
theorem clause_any (ref : Nat) (h : StoreAt B w0 w p L S F) (hr : ref < S.cls.length) (hw : S.words.length ≤ 262144) :
    Calls Try.prog 33 #[.pointer (some ⟨p, 0, none⟩), .int .i64 ref] w fun e w' =>
      (∃ wb, L.wv = some wb ∧ e = .returned (.slice (some ⟨wb, S.begin ref, none⟩) ((S.cl ref).lits.length + 2) ((S.cl ref).lits.length + 2))) ∧ Drawn w w' := by
  have hbl := S.begin_le hr
  obtain ⟨_, hwc, _, hwn, _⟩ := (h.twords).sat.sl_facts
  obtain ⟨_, _, _, hbn, _⟩ := (h.tbegins).sat.sl_facts
  obtain ⟨wb, hwb⟩ : ∃ wb, L.wv = some wb := by
    cases e : L.wv with
    | none => have := (hwn e).1; omega
    | some wb => exact ⟨wb, rfl⟩
  obtain ⟨bb, hbb⟩ : ∃ bb, L.bv = some bb := by
    cases e : L.bv with
    | none => have := (hbn e).1; rw [S.begins_length] at this; omega
    | some bb => exact ⟨bb, rfl⟩
  have hlen := S.cls_length_le
  have c1 := h.tpt.pt_cell 1
  have c2 := h.tpt.pt_cell 2
  simp only [storeCells, slv, hwb, hbb, Option.map_some] at c1 c2
  obtain ⟨n, hn⟩ : ∃ n, S.cls.length = n := ⟨_, rfl⟩
  obtain ⟨bg, hbg⟩ : ∃ bg, S.begin ref = bg := ⟨_, rfl⟩
  obtain ⟨k, hk⟩ : ∃ k, (S.cl ref).lits.length = k := ⟨_, rfl⟩
  obtain ⟨m, hm⟩ : ∃ m, S.words.length = m := ⟨_, rfl⟩
  have e1 : w.cell? ⟨bb, ref, none⟩ = some (.int .i64 (bg : Nat)) := by
    have hh := h.tbegins
    rw [hbb] at hh
    rw [St.sl_cell (h := hh) ref (by rw [ints_length, S.begins_length]; exact hr), ints_get _ _ (by rw [S.begins_length]; exact hr), S.begins_at hr, hbg]
  have e2 : ref + 1 < n → w.cell? ⟨bb, ref + 1, none⟩ = some (.int .i64 (bg + k + 2 : Nat)) := by
    intro hr2
    have hh := h.tbegins
    rw [hbb] at hh
    rw [St.sl_cell (h := hh) (ref + 1) (by rw [ints_length, S.begins_length]; omega), ints_get _ _ (by rw [S.begins_length]; omega), S.begins_at (by omega), S.begin_succ hr, hbg, hk]
    rfl
  have hlast : ref + 1 = n → bg + k + 2 = m := by
    intro e
    have h1 := S.begin_succ hr
    rw [S.begin_all (by omega), hm, hbg, hk] at h1
    omega
  rw [hbg, hk]
  rw [hn] at c2 hr hlen
  rw [hm] at c1 hw hbl hwc hlen
  rw [hbg, hk] at hbl
  have HWB := Lib.hid hwb
  have HL := Lib.hid hlast
  clear hbg hk hn hm hwb hbb hwn hbn hlast h
  by_cases hr2 : ref + 1 < n
  · have e2' := e2 hr2
    have hi1 : ((ref : Int) + 1 < (n : Int)) := by omega
    have hr1 : (ref : Int) < (n : Int) := by omega
    have hr0 : (0 : Int) ≤ (ref : Int) := by omega
    clear e2
    go_enter Try.func33, Try.ntmps33
    go_wp2
    go_quiet (fail)
    go_wp2
    go_ret
    exact ⟨⟨wb, HWB.out, ret_slice (by omega) (by omega)⟩, _, rfl⟩
  · have hi1 : ¬ ((ref : Int) + 1 < (n : Int)) := by omega
    have hr1 : (ref : Int) < (n : Int) := by omega
    have hr0 : (0 : Int) ≤ (ref : Int) := by omega
    have hbm : (bg : Int) ≤ (m : Int) := by omega
    have hbm' : bg ≠ m := by omega
    clear e2
    go_enter Try.func33, Try.ntmps33
    go_wp2
    go_quiet (fail)
    go_wp2
    have := HL.out (by omega)
    go_ret
    exact ⟨⟨wb, HWB.out, ret_slice (by omega) (by omega)⟩, _, rfl⟩
end
end Go.Proofs.Ytmljcbdlkeooiaa
