/-
  The contract of plaitlaw11's kept.
-/
import Derived.Test.YtmljcbdlkeooiaaLaw1
namespace Go.Proofs.Ytmljcbdlkeooiaa
open Go.RowKit Go.Proofs.PlaitSep Go.Proofs.PlaitPure

theorem hasB_iff {xs : List Int} {x : Int} : hasB xs x = true ↔ x ∈ xs := by
  unfold hasB; simp
theorem onceE_both {xs : List Int} {x : Int} (ha : ∀ y ∈ xs, litB y = true) (hx : x ∈ onceL xs) (hn : -x ∈ onceL xs) : onceE xs = 112 := by
  unfold onceE
  rw [if_pos (by rw [List.all_eq_true]; exact ha), if_pos]
  unfold bothB
  rw [List.any_eq_true]
  exact ⟨x, onceL_mem.1 hx, by simpa using onceL_mem.1 hn⟩
theorem onceE_none {xs : List Int} (ha : ∀ y ∈ xs, litB y = true) (h : ∀ x ∈ onceL xs, -x ∉ onceL xs) : onceE xs = 0 := by
  unfold onceE
  rw [if_pos (by rw [List.all_eq_true]; exact ha), if_neg]
  unfold bothB
  rw [List.any_eq_true]
  rintro ⟨x, hx, hn⟩
  exact h x (onceL_mem.2 hx) (onceL_mem.2 (by simpa using hn))
set_option maxRecDepth 100000 in
set_option maxHeartbeats 1000000 in
theorem kept_any (A : Option Addr) (n cap : Nat) (xs : List Int) (w : World) (hr : Rd w A n xs) (hn : n ≤ 1000000) :
    Calls Try.prog 14 #[.slice A n cap] w (OncePost w xs) := by
  have HR := Lib.hid hr
  clear hr
  go_enter Try.func14, Try.ntmps14
  go_wp2
  go_loopw [4, 5] (fun v4 v5 wr => ∃ (j : Nat) (out : List Int) (oa : Option Nat) (oc : Nat), j ≤ n ∧ out.length ≤ j ∧ v5 = .int .i64 j ∧ v4 = slv oa out.length oc ∧ Hid (onceOut [] (xs.take j) = out) ∧ Hid (∀ x ∈ xs.take j, litB x = true) ∧
      Hid (St w.heap.size w wr (star (sli 3 oa oc out) emp))) (fun _ v5 _ => n - (intOf v5).toNat)
  case atStart => exact ⟨0, [], none, 0, Nat.zero_le _, Nat.le_refl _, rfl, rfl, rfl, (by simp : ∀ x ∈ xs.take 0, litB x = true), ⟨(St.start w).below, (St.start w).base, (St.start w).sat.sl_nil _ _⟩⟩
  case round =>
    obtain ⟨j, out, oa, oc, hj, hol, rfl, rfl, HO, HL, HST⟩ := hrel
    obtain ⟨ol, hol2⟩ : ∃ ol, out.length = ol := ⟨_, rfl⟩
    have HOL := Lib.hid hol2
    rw [hol2] at hol ⊢
    clear hol2
    by_cases hjn : j < n
    · obtain ⟨ab, ao, rfl, hc⟩ := (HR.out.grow HST.out.below).cells (by omega)
      have d1 := hc j hjn
      clear hc
      obtain ⟨x, hx⟩ : ∃ x, gi xs j = x := ⟨_, rfl⟩
      rw [hx] at d1
      have hjx : j < xs.length := by have := HR.out.len; omega
      have HX := Lib.hid hx
      have HJX := Lib.hid hjx
      clear hx hjx
      cases hlb : litB x with
      | false =>
        have he := OnceAt.bad HJX.out HX.out hlb
        have hfin : OncePost w xs (.returned (.tuple #[.slice none 0 0, .int .i64 110])) wr := ⟨fun h => absurd (he.symm.trans h) (by decide), fun _ => ⟨by rw [he], HST.out.below, HST.out.base, Sat.emp _ _⟩⟩
        have HF := Lib.hid hfin
        clear hfin he
        unfold slv
        by_cases h1 : x = 0
        · have hd1 : (x == 0) = true := by simpa using h1
          clear hlb h1
          go_wp2
          go_ret2
          exact HF.out
        · have hd1 : (x == 0) = false := by simpa using h1
          by_cases h2 : 65536 < x
          · have hd2 : decide (65536 < x) = true := by simpa using h2
            clear hlb h1
            go_wp2
            go_ret2
            exact HF.out
          · have hd2 : decide (65536 < x) = false := by simpa using h2
            have hd3 : decide (x < -65536) = true := by simp [litB] at hlb; simp; omega
            clear hlb h1
            go_wp2
            go_ret2
            exact HF.out
      | true =>
        obtain ⟨h1, h2, h3⟩ := litB_iff.1 hlb
        have hd1 : (x == 0) = false := by simpa using h1
        have hd2 : decide (65536 < x) = false := by simp; omega
        have hd3 : decide (x < -65536) = false := by simp; omega
        have HLB := Lib.hid hlb
        have ht : xs.take (j + 1) = xs.take j ++ [x] := by rw [take_gi1 HJX.out, HX.out]
        have hall : ∀ y ∈ xs.take (j + 1), litB y = true := by
          intro y hy
          rw [ht] at hy
          rcases List.mem_append.1 hy with hy | hy
          · exact HL.out y hy
          · rw [List.mem_singleton.1 hy]; exact HLB.out
        have hrd := St.rd HST.out (by rw [HOL.out]; omega)
        have hha := has_any _ _ oc out x wr hrd
        obtain ⟨bb, hbb⟩ : ∃ bb, hasB out x = bb := ⟨_, rfl⟩
        rw [hbb, HOL.out] at hha
        have hout : onceOut [] (xs.take (j + 1)) = if x ∈ out then out else out ++ [x] := by rw [ht, onceOut_snoc, HO.out]
        have HHA := Lib.hid hha
        have HBB := Lib.hid hbb
        have HALL := Lib.hid hall
        have HOUT := Lib.hid hout
        clear hlb h1 ht hall hrd hha hbb hout
        unfold slv
        cases bb with
        | true =>
          go_wp2_with (go_at_call 24; refine (HHA.out).mono ?_; rintro e w' ⟨rfl, rfl⟩)
          go_roundw
          case rel =>
            refine ⟨j + 1, out, oa, oc, by omega, by rw [HOL.out]; omega, by go_num, by rw [HOL.out], ?_, HALL.out, HST.out⟩
            exact (HOUT.out.trans (if_pos (hasB_iff.1 HBB.out)) : onceOut [] (xs.take (j + 1)) = out)
          case measure => simp [intOf]; omega
        | false =>
          go_wp2_with (first
            | (go_at_call 24; refine (HHA.out).mono ?_; rintro e w' ⟨rfl, rfl⟩)
            | (at_builtin; refine wpList_append_int rfl _ _ 27 3 rfl Try.underlying27 Try.infoInt HST.out ol HOL.out rfl x rfl (by omega) ?_; intro b' c' w1 h4; have H4 := Lib.hid h4; clear h4))
          go_roundw
          case rel =>
            refine ⟨j + 1, out ++ [x], some b', c', by omega, by rw [List.length_append, HOL.out]; simp; omega, by go_num, by rw [List.length_append, HOL.out]; rfl, ?_, HALL.out, H4.out⟩
            exact (HOUT.out.trans (if_neg (fun e => by have := hasB_iff.2 e; rw [HBB.out] at this; cases this)) : onceOut [] (xs.take (j + 1)) = out ++ [x])
          case measure => simp [intOf]; omega
    · obtain rfl : j = n := by omega
      have hlen := HR.out.len
      have hoo : out = onceL xs := by rw [← HO.out, ← hlen, List.take_length]; rfl
      have hall : ∀ x ∈ xs, litB x = true := by
        have := HL.out
        rwa [← hlen, List.take_length] at this
      have HOO := Lib.hid hoo
      have HALL := Lib.hid hall
      clear hlen hoo hall
      obtain ⟨A2, hA2⟩ : ∃ A2 : Option Addr, oa.map (fun b => (⟨b, 0, none⟩ : Addr)) = A2 := ⟨_, rfl⟩
      have hrd : Rd wr A2 ol out := by
        have := St.rd HST.out (by rw [HOL.out]; omega)
        rwa [hA2, HOL.out] at this
      have HRD := Lib.hid hrd
      have HA2 := Lib.hid hA2
      unfold slv
      rw [hA2]
      clear hA2 hrd
      go_wp2
      go_loop [6] (fun v6 => ∃ i : Nat, i ≤ ol ∧ v6 = .int .i64 i ∧ Hid (∀ k, k < i → -gi out k ∉ out)) (fun v6 => ol - (intOf v6).toNat)
      case atStart => exact ⟨0, Nat.zero_le _, rfl, (fun k hk => absurd hk (Nat.not_lt_zero k) : ∀ k, k < 0 → _)⟩
      case round =>
        obtain ⟨i, hi, rfl, HN⟩ := hrel
        by_cases hil : i < ol
        · have hcells := HRD.out.cells (by omega)
          obtain ⟨b', o', rfl, hc⟩ := hcells
          have d1 := hc i hil
          clear hc
          obtain ⟨y, hy⟩ : ∃ y, gi out i = y := ⟨_, rfl⟩
          rw [hy] at d1
          have hyo : y ∈ out := by rw [← hy]; exact getL_mem (by rw [HOL.out]; exact hil)
          have hyl := litB_iff.1 (HALL.out y (onceL_mem.1 (HOO.out ▸ hyo)))
          obtain ⟨_, hy2, hy3⟩ := hyl
          have hha := has_any _ _ oc out (-y) wr HRD.out
          obtain ⟨bb, hbb⟩ : ∃ bb, hasB out (-y) = bb := ⟨_, rfl⟩
          rw [hbb] at hha
          have HHA := Lib.hid hha
          have HBB := Lib.hid hbb
          have HY := Lib.hid hy
          have HYO := Lib.hid hyo
          clear hy hyo hha hbb
          cases bb with
          | true =>
            go_wp2_with (go_at_call 24; refine (HHA.out).mono ?_; rintro e w' ⟨rfl, rfl⟩)
            go_ret2
            have he := onceE_both HALL.out (HOO.out ▸ HYO.out) (HOO.out ▸ hasB_iff.1 HBB.out)
            exact ⟨fun h => absurd (he.symm.trans h) (by decide), fun _ => ⟨by rw [he]; rfl, HST.out.below, HST.out.base, Sat.emp _ _⟩⟩
          | false =>
            go_wp2_with (go_at_call 24; refine (HHA.out).mono ?_; rintro e w' ⟨rfl, rfl⟩)
            go_round
            case rel =>
              refine ⟨i + 1, by omega, by go_num, (fun k hk => ?_ : ∀ k, k < i + 1 → _)⟩
              by_cases e : k = i
              · rw [e, HY.out]
                intro hm
                have := hasB_iff.2 hm
                rw [HBB.out] at this
                cases this
              · exact HN.out k (by omega)
            case measure => simp [intOf]; omega
        · obtain rfl : i = ol := by omega
          go_wp2
          go_ret2
          have he : onceE xs = 0 := onceE_none HALL.out (by
            rw [← HOO.out]
            intro x hx hm
            obtain ⟨k, hk, rfl⟩ := mem_gi hx
            exact HN.out k (by rw [← HOL.out]; exact hk) hm)
          refine ⟨fun _ => ⟨oa, oc, ?_, ?_⟩, fun h => absurd he h⟩
          · rw [← HOO.out, HOL.out, ← HA2.out]; rfl
          · rw [← HOO.out]; exact HST.out.conseq (star_emp _)
end Go.Proofs.Ytmljcbdlkeooiaa
