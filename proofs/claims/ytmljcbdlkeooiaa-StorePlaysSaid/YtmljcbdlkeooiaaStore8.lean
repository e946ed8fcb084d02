/-
  The contract of the store's once.
-/
import Derived.Test.YtmljcbdlkeooiaaStore7
import Derived.Test.YtmljcbdlkeooiaaStoreM6
namespace Go.Proofs.Ytmljcbdlkeooiaa
open Go.RowKit Go.Maps Go.Proofs.PlaitSep Go.Proofs.PlaitPure

theorem Try.keyInt : Keyed Try.prog 3 := int_keyed Try.underlying3
theorem Try.zeroInt (w : World) : (zeroValue 3).run Try.prog w = .ok (.int .i64 0) w := by kernel_rfl
theorem lit_wf {x : Int} (h : litB x = true) : (Lit.int .i64 x).wf = true := by
  rw [litB_iff] at h
  have e1 : IntKind.i64.min = -9223372036854775808 := by decide
  have e2 : IntKind.i64.max = 9223372036854775807 := by decide
  simp only [Lit.wf, e1, e2, Bool.and_eq_true, decide_eq_true_eq]
  omega
def OncePost (w : World) (xs : List Int) (e : Ending) (w' : World) : Prop :=
  (onceE xs = 0 → ∃ oa oc, e = .returned (.tuple #[slv oa (onceL xs).length oc, .int .i64 0]) ∧ St w.heap.size w w' (sli 3 oa oc (onceL xs))) ∧
  (onceE xs ≠ 0 → e = .returned (.tuple #[.slice none 0 0, .int .i64 (onceE xs)]) ∧ St w.heap.size w w' emp)

set_option maxRecDepth 100000 in
set_option maxHeartbeats 2000000 in
theorem once_any (A : Option Addr) (n c : Nat) (xs : List Int) (w : World) (hr : Rd w A n xs) (hn : n ≤ 1000000) :
    Calls Try.prog 28 #[.slice A n c] w (OncePost w xs) := by
  have hmm := @run_makeMap Try.prog
  have HR := Lib.hid hr
  have HN := Lib.hid hn
  clear hr
  go_enter Try.func28, Try.ntmps28
  go_wp2
  go_loopw [5, 6, 12] (fun v5 v6 v12 wr => ∃ (j : Nat) (out : List Int) (f : Int → Int) (both : Bool) (oa : Option Nat) (oc : Nat), j ≤ n ∧ v12 = .int .i64 j ∧ v5 = slv oa out.length oc ∧ v6 = .bool both ∧ out.length ≤ j ∧ Hid (OnceAt xs j out f both) ∧
      Hid (St w.heap.size w wr (star (mp Try.prog 3 3 w.heap.size j f) (sli 3 oa oc out)))) (fun _ _ v12 _ => n - (intOf v12).toNat)
  case atStart =>
    refine ⟨0, [], fun _ => 0, false, none, 0, Nat.zero_le _, rfl, rfl, rfl, Nat.le_refl _, OnceAt.start xs, ?_⟩
    rw [sli_nil]
    exact St.mp_new (St.start w)
  case round =>
    obtain ⟨j, out, f, both, oa, oc, hj, rfl, rfl, rfl, hol, HO, HST⟩ := hrel
    by_cases hjn : j < n
    · obtain ⟨ab, ao, rfl, hc⟩ := (HR.out.grow HST.out.below).cells (by omega)
      have d1 := hc j hjn
      clear hc
      obtain ⟨x, hx⟩ : ∃ x, gi xs j = x := ⟨_, rfl⟩
      rw [hx] at d1
      have hjx : j < xs.length := by have := HR.out.len; omega
      have hlt := lit_any x wr
      obtain ⟨lb, hlb⟩ : ∃ lb, litB x = lb := ⟨_, rfl⟩
      rw [hlb] at hlt
      have HLT := Lib.hid hlt
      have HLB := Lib.hid hlb
      have HX := Lib.hid hx
      have HJX := Lib.hid hjx
      clear hx hlt hlb hjx
      cases lb with
      | false =>
        go_wp2_with (go_at_call 37; refine (HLT.out).mono ?_; rintro e w2 ⟨rfl, rfl⟩)
        go_ret2
        have he := OnceAt.bad HJX.out HX.out HLB.out
        refine ⟨fun h => absurd (he.symm.trans h) (by decide), fun _ => ⟨by rw [he]; rfl, ?_⟩⟩
        exact ⟨HST.out.below, HST.out.base, Sat.emp _ _⟩
      | true =>
        obtain ⟨hx1, hx2, hx3⟩ := litB_iff.1 HLB.out
        have hstep := HO.out.step HJX.out HX.out HLB.out
        have hl1 := St.mp_look HST.out Try.keyInt Try.underlying68 Try.underlying3 Try.underlying3 Try.zeroInt x (lit_wf HLB.out)
        obtain ⟨fx, hfx⟩ : ∃ fx, f x = fx := ⟨_, rfl⟩
        rw [hfx] at hl1 hstep
        have HSTEP := Lib.hid hstep
        have hst := HST.out
        have hst2 : St w.heap.size w wr (star (sli 3 oa oc out) (mp Try.prog 3 3 w.heap.size j f)) := hst.conseq (star_comm _ _)
        have HST2 := Lib.hid hst2
        have HFX := Lib.hid hfx
        clear hx1 hstep hfx hst hst2
        obtain ⟨ol, hol2⟩ : ∃ ol, out.length = ol := ⟨_, rfl⟩
        rw [hol2] at hol ⊢
        have HOL := Lib.hid hol2
        clear hol2
        unfold slv
        by_cases h0 : fx = 0
        · subst h0
          have hstep0 := HSTEP.out
          rw [if_pos rfl] at hstep0
          have HSTEP0 := Lib.hid hstep0
          clear hstep0 HSTEP
          cases both
          · go_wp2_with (first | (go_at_call 37; refine (HLT.out).mono ?_; rintro e w2 ⟨rfl, rfl⟩) | (at_builtin; refine wpList_append_int rfl _ _ 27 3 rfl Try.underlying27 Try.infoInt HST2.out ol HOL.out rfl x rfl (by omega) ?_; intro b' c' w1 h4; have h5 := h4.conseq (star_comm _ _); clear h4) | (at_mapUpdate; refine wpList_map_put rfl _ _ _ rfl h5 Try.keyInt Try.underlying68 Try.underlying3 Try.underlying3 (by simp only [maxLen]; omega) x 1 rfl rfl rfl (lit_wf HLB.out) (by decide) ?_; intro w3 h3; have hl2 := St.mp_look h3 Try.keyInt Try.underlying68 Try.underlying3 Try.underlying3 Try.zeroInt (-x) (lit_wf (litB_neg HLB.out)); have H3 := Lib.hid h3; clear h3))
            go_roundw
            case rel =>
              have hs := HSTEP0.out
              rw [Bool.false_or] at hs
              refine ⟨j + 1, out ++ [x], upd f x 1, _, some b', c', by omega, by go_num, ?_, rfl, by rw [List.length_append, HOL.out]; simp; omega, hs, H3.out⟩
              rw [List.length_append, HOL.out]; rfl
            case measure => simp [intOf]; omega
          · go_wp2_with (first | (go_at_call 37; refine (HLT.out).mono ?_; rintro e w2 ⟨rfl, rfl⟩) | (at_builtin; refine wpList_append_int rfl _ _ 27 3 rfl Try.underlying27 Try.infoInt HST2.out ol HOL.out rfl x rfl (by omega) ?_; intro b' c' w1 h4; have h5 := h4.conseq (star_comm _ _); clear h4) | (at_mapUpdate; refine wpList_map_put rfl _ _ _ rfl h5 Try.keyInt Try.underlying68 Try.underlying3 Try.underlying3 (by simp only [maxLen]; omega) x 1 rfl rfl rfl (lit_wf HLB.out) (by decide) ?_; intro w3 h3; have hl2 := St.mp_look h3 Try.keyInt Try.underlying68 Try.underlying3 Try.underlying3 Try.zeroInt (-x) (lit_wf (litB_neg HLB.out)); have H3 := Lib.hid h3; clear h3))
            go_roundw
            case rel =>
              have hs := HSTEP0.out
              rw [Bool.true_or] at hs
              refine ⟨j + 1, out ++ [x], upd f x 1, _, some b', c', by omega, by go_num, ?_, rfl, by rw [List.length_append, HOL.out]; simp; omega, hs, H3.out⟩
              rw [List.length_append, HOL.out]; rfl
            case measure => simp [intOf]; omega
        · have h0' : (fx == 0) = false := by simpa using h0
          have hstep0 := HSTEP.out
          rw [if_neg h0] at hstep0
          have HSTEP0 := Lib.hid hstep0
          clear hstep0 HSTEP
          cases both
          · go_wp2_with (first | (go_at_call 37; refine (HLT.out).mono ?_; rintro e w2 ⟨rfl, rfl⟩) | (at_mapUpdate; refine wpList_map_put rfl _ _ _ rfl HST.out Try.keyInt Try.underlying68 Try.underlying3 Try.underlying3 (by simp only [maxLen]; omega) x 1 rfl rfl rfl (lit_wf HLB.out) (by decide) ?_; intro w3 h3; have hl2 := St.mp_look h3 Try.keyInt Try.underlying68 Try.underlying3 Try.underlying3 Try.zeroInt (-x) (lit_wf (litB_neg HLB.out)); have H3 := Lib.hid h3; clear h3))
            go_roundw
            case rel =>
              have hs := HSTEP0.out
              rw [Bool.false_or] at hs
              refine ⟨j + 1, out, upd f x 1, _, oa, oc, by omega, by go_num, ?_, rfl, by rw [HOL.out]; omega, hs, H3.out⟩
              rw [HOL.out]
            case measure => simp [intOf]; omega
          · go_wp2_with (first | (go_at_call 37; refine (HLT.out).mono ?_; rintro e w2 ⟨rfl, rfl⟩) | (at_mapUpdate; refine wpList_map_put rfl _ _ _ rfl HST.out Try.keyInt Try.underlying68 Try.underlying3 Try.underlying3 (by simp only [maxLen]; omega) x 1 rfl rfl rfl (lit_wf HLB.out) (by decide) ?_; intro w3 h3; have hl2 := St.mp_look h3 Try.keyInt Try.underlying68 Try.underlying3 Try.underlying3 Try.zeroInt (-x) (lit_wf (litB_neg HLB.out)); have H3 := Lib.hid h3; clear h3))
            go_roundw
            case rel =>
              have hs := HSTEP0.out
              rw [Bool.true_or] at hs
              refine ⟨j + 1, out, upd f x 1, _, oa, oc, by omega, by go_num, ?_, rfl, by rw [HOL.out]; omega, hs, H3.out⟩
              rw [HOL.out]
            case measure => simp [intOf]; omega
    · obtain rfl : j = n := by omega
      have hd := HO.out.done (by have := HR.out.len; omega)
      have HD := Lib.hid hd
      clear hd
      have hs : St w.heap.size w wr (sli 3 oa oc out) := HST.out.dropl
      have HS := Lib.hid hs
      clear hs
      cases both
      · go_wp2
        go_ret2
        obtain ⟨rfl, he⟩ := HD.out
        rw [if_neg (by decide)] at he
        exact ⟨fun _ => ⟨oa, oc, rfl, HS.out⟩, fun h => absurd he h⟩
      · go_wp2
        go_ret2
        obtain ⟨rfl, he⟩ := HD.out
        rw [if_pos trivial] at he
        exact ⟨fun h => absurd (he.symm.trans h) (by decide), fun _ => ⟨by rw [he]; rfl, ⟨HS.out.below, HS.out.base, Sat.emp _ _⟩⟩⟩
end Go.Proofs.Ytmljcbdlkeooiaa
