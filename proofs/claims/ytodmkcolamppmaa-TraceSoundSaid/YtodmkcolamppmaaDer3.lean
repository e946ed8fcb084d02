/-
  The contract of trace's resolve.
-/
import Derived.Test.YtodmkcolamppmaaDer2
namespace Go.Proofs.Ytodmkcolamppmaa
open Go.RowKit Go.Proofs.PlaitSep Go.Proofs.PlaitPure

/-- What has been found among the first literals: how many, and the last one's opposite. -/
def foundN (s d : List Int) (j : Nat) : Nat := (pivD s (d.take j)).length
def lastX (s d : List Int) (j : Nat) : Int := match (pivD s (d.take j)).getLast? with
  | none => 0
  | some l => -l
theorem pivD_snoc (s d : List Int) (x : Int) : pivD s (d ++ [x]) = if hasB s (-x) then pivD s d ++ [x] else pivD s d := by
  unfold pivD
  rw [List.filter_append]
  cases h : hasB s (-x) <;> simp [h]
theorem foundN_succ {s d : List Int} {j : Nat} (h : j < d.length) : foundN s d (j + 1) = if hasB s (-gi d j) then foundN s d j + 1 else foundN s d j := by
  unfold foundN
  rw [take_gi d j h, pivD_snoc]
  split <;> simp
theorem lastX_succ {s d : List Int} {j : Nat} (h : j < d.length) : lastX s d (j + 1) = if hasB s (-gi d j) then -gi d j else lastX s d j := by
  unfold lastX
  rw [take_gi d j h, pivD_snoc]
  by_cases hb : hasB s (-gi d j) = true
  · rw [if_pos hb, if_pos hb, List.getLast?_concat]
  · rw [if_neg hb, if_neg hb]
theorem foundN_le (s d : List Int) (j : Nat) : foundN s d j ≤ j := by
  unfold foundN pivD
  have := List.length_filter_le (fun l => hasB s (-l)) (d.take j)
  rw [List.length_take] at this
  omega
theorem wf_lit {x : Int} (h : okLit x = true) : (Lit.int .i64 x).wf = true := by
  rw [okLit_iff] at h
  simp [Lit.wf, IntKind.min, IntKind.max, IntKind.bits, IntKind.signed]
  omega
theorem ms_more {B : Nat} {w0 w : World} {F : HP} {b n n' : Nat} {s : List Int} (h : St B w0 w (star (ms Try.prog 3 3 b n s) F)) (hn : n ≤ n') : St B w0 w (star (ms Try.prog 3 3 b n' s) F) := by
  refine ⟨h.below, h.base, ?_⟩
  obtain ⟨hp, ⟨h1, h2, d, rfl, ⟨es, clock, p, F', hs, ha⟩, q⟩, c⟩ := h.sat
  exact ⟨_, ⟨h1, h2, d, rfl, ⟨es, clock, p, F', by omega, ha⟩, q⟩, c⟩
theorem grown_trans {w w1 w2 : World} {r : Option Nat} (h : w.grownBy w1 r) (k : w1.grownBy w2 r) : w.grownBy w2 r :=
  ⟨k.os.trans h.os, k.tape.trans h.tape, k.output.trans h.output, Nat.le_trans h.size k.size, fun i hi hne => (k.block i (Nat.lt_of_lt_of_le hi h.size) hne).trans (h.block i hi hne)⟩
/-- What resolve hands back: the marks that are left, where there is just one literal to resolve by. -/
def ResPost (B : Nat) (w0 w : World) (b n : Nat) (s d : List Int) (F : HP) (e : Ending) (w' : World) : Prop :=
  (∀ l, pivD s d = [l] → e = .returned (.bool true) ∧ w.grownBy w' (some b) ∧ ∃ t, St B w0 w' (star (ms Try.prog 3 3 b (n + d.length) t) F) ∧ ∀ z, z ∈ t ↔ (z ∈ s ∧ z ≠ -l) ∨ (z ∈ d ∧ z ≠ l)) ∧
  ((pivD s d).length ≠ 1 → e = .returned (.bool false) ∧ St B w0 w' F)
set_option maxRecDepth 100000 in
set_option maxHeartbeats 2000000 in
theorem tresolve_any {B : Nat} {w0 w : World} {F : HP} {b n : Nat} {s : List Int} (h : St B w0 w (star (ms Try.prog 3 3 b n s) F)) (A : Option Addr) (m c : Nat) (d : List Int)
    (hrd : Rd w A m d) (hok : ∀ x ∈ d, okLit x = true) (hn : n + m ≤ 1000000000000) (hm : m ≤ 1000000) :
    Calls Try.prog 49 #[.map (some b), .slice A m c] w (ResPost B w0 w b n s d F) := by
  have H := Lib.hid h
  have HOK := Lib.hid hok
  have hlen := hrd.len
  have HLEN := Lib.hid hlen
  have HR := Lib.hid hrd
  clear h hrd hok hlen
  go_enter Try.func49, Try.ntmps49
  go_wp2
  go_loop [5, 6, 13] (fun v5 v6 v13 => ∃ j : Nat, j ≤ m ∧ v13 = .int .i64 j ∧ (∃ q : Nat, q ≤ j ∧ v5 = .int .i64 q ∧ Hid (foundN s d j = q)) ∧ ∃ x : Int, v6 = .int .i64 x ∧ Hid (lastX s d j = x)) (fun _ _ v13 => m - (intOf v13).toNat)
  case atStart => exact ⟨0, Nat.zero_le _, rfl, ⟨0, Nat.le_refl _, rfl, (rfl : foundN s d 0 = 0)⟩, 0, rfl, (rfl : lastX s d 0 = 0)⟩
  case round =>
    obtain ⟨j, hj, rfl, ⟨q, hq, rfl, HQ⟩, x, rfl, HX⟩ := hrel
    by_cases hjm : j < m
    · obtain ⟨bd, od, hA, hc⟩ := HR.out.cells (by omega)
      subst hA
      have d1 := hc j hjm
      obtain ⟨l, hl⟩ : ∃ l, gi d j = l := ⟨_, rfl⟩
      rw [hl] at d1
      have hlok : okLit l = true := by rw [← hl, gi_eq d j (by rw [HLEN.out]; exact hjm)]; exact HOK.out _ (List.getElem_mem _)
      have hwf := wf_lit (okLit_neg hlok)
      obtain ⟨_, l1, l2⟩ := okLit_iff.1 hlok
      have hlook := St.ms_look H.out Try.keyedInt Try.underlying76 Try.underlying3 Try.underlying3 Try.zeroInt (-l) hwf
      have hfs := foundN_succ (s := s) (d := d) (j := j) (by rw [HLEN.out]; exact hjm)
      have hls := lastX_succ (s := s) (d := d) (j := j) (by rw [HLEN.out]; exact hjm)
      rw [hl] at hfs hls
      have hwr : IntKind.i64.wrap (-l) = -l := IntWalk.i64_in _ (by omega)
      have j0 : (0 : Int) ≤ (j : Int) := by omega
      have j1 : (j : Int) < (m : Int) := by omega
      have HFS := Lib.hid hfs
      have HLS := Lib.hid hls
      cases hb : hasB s (-l) with
      | true =>
        rw [if_pos (hasB_iff.1 hb)] at hlook
        have HB := Lib.hid hb
        clear hc hl hlok hwf hfs hls hb
        go_wp2
        go_round
        case rel => exact ⟨j + 1, by omega, by go_num, ⟨q + 1, by omega, by go_num, (by rw [HFS.out, HB.out, HQ.out]; rfl : foundN s d (j + 1) = q + 1)⟩, -l, rfl, (by rw [HLS.out, HB.out]; rfl : lastX s d (j + 1) = -l)⟩
        case measure => simp [intOf]; omega
      | false =>
        rw [if_neg (fun h => by rw [hasB_iff.2 h] at hb; cases hb)] at hlook
        have HB := Lib.hid hb
        clear hc hl hlok hwf hfs hls hb
        go_wp2
        go_round
        case rel => exact ⟨j + 1, by omega, by go_num, ⟨q, by omega, rfl, (by rw [HFS.out, HB.out]; exact HQ.out : foundN s d (j + 1) = q)⟩, x, rfl, (by rw [HLS.out, HB.out]; exact HX.out : lastX s d (j + 1) = x)⟩
        case measure => simp [intOf]; omega
    · obtain rfl : j = m := by omega
      have htk : d.take j = d := List.take_of_length_le (by rw [HLEN.out]; exact Nat.le_refl _)
      have hpl : (pivD s d).length = q := by have := HQ.out; unfold foundN at this; rwa [htk] at this
      have HPL := Lib.hid hpl
      by_cases hq1 : q = 1
      · subst hq1
        have hone : ∃ l, pivD s d = [l] ∧ x = -l := by
          match hp : pivD s d, hpl with
          | [l], _ =>
            refine ⟨l, rfl, ?_⟩
            have := HX.out
            unfold lastX at this
            rw [htk, hp] at this
            exact this.symm
        obtain ⟨l, hp, hxl⟩ := hone
        subst hxl
        have hlm : l ∈ d := (List.mem_filter.1 (show l ∈ pivD s d by rw [hp]; simp)).1
        have hlok := HOK.out l hlm
        have hwf := wf_lit (okLit_neg hlok)
        obtain ⟨_, l1, l2⟩ := okLit_iff.1 hlok
        have HP := Lib.hid hp
        have hwr : IntKind.i64.wrap (- -l) = l := by rw [Int.neg_neg]; exact IntWalk.i64_in _ (by omega)
        clear htk hpl hp hlm hlok
        go_wp2_with (refine wpList_ms_del rfl _ _ rfl H.out Try.keyedInt Try.underlying76 Try.underlying3 (-l) rfl rfl hwf ?_; intro w2 h2 hg2; have H2 := Lib.hid h2; have HG2 := Lib.hid hg2; clear h2 hg2)
        go_loopw [33] (fun v33 wr => ∃ i : Nat, i ≤ j ∧ v33 = .int .i64 i ∧ ∃ t : List Int, Hid (w.grownBy wr (some b)) ∧ Hid (St B w0 wr (star (ms Try.prog 3 3 b (n + i) t) F)) ∧ Hid (∀ z, z ∈ t ↔ (z ∈ s ∧ z ≠ -l) ∨ (z ∈ d.take i ∧ z ≠ l))) (fun v33 _ => j - (intOf v33).toNat)
        case atStart => exact ⟨0, Nat.zero_le _, rfl, s.filter (fun z => z != -l), HG2.out, H2.out, (fun z => by simp [List.mem_filter] : ∀ z, z ∈ s.filter (fun z => z != -l) ↔ (z ∈ s ∧ z ≠ -l) ∨ (z ∈ d.take 0 ∧ z ≠ l))⟩
        case round =>
          obtain ⟨i, hi, rfl, t, HG, HST, HT⟩ := hrel
          by_cases hij : i < j
          · obtain ⟨bd, od, hA, hc⟩ := (rd_grown HR.out H.out HG.out).cells (by omega)
            subst hA
            have d1 := hc i hij
            obtain ⟨y, hy⟩ : ∃ y, gi d i = y := ⟨_, rfl⟩
            rw [hy] at d1
            have hyok : okLit y = true := by rw [← hy, gi_eq d i (by rw [HLEN.out]; exact hij)]; exact HOK.out _ (List.getElem_mem _)
            have hwfy := wf_lit hyok
            have htk2 : d.take (i + 1) = d.take i ++ [y] := by rw [take_gi d i (by rw [HLEN.out]; exact hij), hy]
            have HTK := Lib.hid htk2
            have i0 : (0 : Int) ≤ (i : Int) := by omega
            have i1 : (i : Int) < (j : Int) := by omega
            clear hc hy hyok htk2
            by_cases hyl : y = l
            · have e0 : (y != l) = false := by simpa using hyl
              go_wp2
              go_roundw
              case rel =>
                refine ⟨i + 1, by omega, by go_num, t, HG.out, (?_ : St B w0 wr (star (ms Try.prog 3 3 b (n + (i + 1)) t) F)), (fun z => ?_ : ∀ z, z ∈ t ↔ (z ∈ s ∧ z ≠ -l) ∨ (z ∈ d.take (i + 1) ∧ z ≠ l))⟩
                · exact ms_more HST.out (by omega)
                · rw [HT.out, HTK.out, List.mem_append, List.mem_singleton]
                  constructor
                  · rintro (h | ⟨h1, h2⟩)
                    · exact .inl h
                    · exact .inr ⟨.inl h1, h2⟩
                  · rintro (h | ⟨h1 | h1, h2⟩)
                    · exact .inl h
                    · exact .inr ⟨h1, h2⟩
                    · exact absurd (h1.trans hyl) h2
              case measure => simp [intOf]; omega
            · have e0 : (y != l) = true := by simpa using hyl
              have HYL := Lib.hid hyl
              clear hyl
              go_wp2_with (refine wpList_ms_put rfl _ _ _ rfl HST.out Try.keyedInt Try.underlying76 Try.underlying3 Try.underlying3 (by unfold maxLen; omega) y rfl rfl rfl hwfy ?_; intro w3 h3 hg3; have H3 := Lib.hid h3; have HG3 := Lib.hid (grown_trans HG.out hg3); clear h3 hg3)
              go_roundw
              case rel =>
                refine ⟨i + 1, by omega, by go_num, t ++ [y], HG3.out, H3.out, (fun z => ?_ : ∀ z, z ∈ t ++ [y] ↔ (z ∈ s ∧ z ≠ -l) ∨ (z ∈ d.take (i + 1) ∧ z ≠ l))⟩
                rw [HTK.out, List.mem_append, List.mem_append, List.mem_singleton, HT.out]
                constructor
                · rintro ((h | ⟨h1, h2⟩) | h)
                  · exact .inl h
                  · exact .inr ⟨.inl h1, h2⟩
                  · exact .inr ⟨.inr h, by rw [h]; exact HYL.out⟩
                · rintro (h | ⟨h1 | h1, h2⟩)
                  · exact .inl (.inl h)
                  · exact .inl (.inr ⟨h1, h2⟩)
                  · exact .inr h1
              case measure => simp [intOf]; omega
          · obtain rfl : i = j := by omega
            have htk : d.take i = d := List.take_of_length_le (by rw [HLEN.out]; exact Nat.le_refl _)
            have HTK := Lib.hid htk
            clear htk
            go_wp2
            go_ret
            refine ⟨fun l' hl' => ⟨rfl, HG.out, t, ?_, ?_⟩, fun h => absurd (by rw [HP.out]; rfl) h⟩
            · rw [HLEN.out]; exact HST.out
            · rw [HP.out] at hl'
              cases hl'
              intro z
              rw [HT.out, HTK.out]
      · have e0 : ((q : Int) != 1) = true := by simp; omega
        clear htk hpl
        go_wp2
        go_ret
        exact ⟨fun l hl => (by have := HPL.out; rw [hl] at this; exact absurd this.symm hq1), fun _ => ⟨rfl, H.out.dropl⟩⟩
end Go.Proofs.Ytodmkcolamppmaa
