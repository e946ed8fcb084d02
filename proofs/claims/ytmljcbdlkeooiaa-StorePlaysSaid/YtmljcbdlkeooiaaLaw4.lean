/-
  The contract of plaitlaw11's has.
-/
import Derived.Test.YtmljcbdlkeooiaaLaw3
import Derived.Test.YtmljcbdlkeooiaaSet
namespace Go.Proofs.Ytmljcbdlkeooiaa
open Go.RowKit Go.Proofs.PlaitSep Go.Proofs.PlaitPure

/-- Is a clause with just these literals among those? -/
def hasL (xss : List (List Int)) (c : List Int) : Bool := match setF c with
  | none => false
  | some x => xss.any fun y => eqB x ((setF y).getD [])
/-- Owned rows are read. -/
theorem rows_rd {B : Nat} {w0 w : World} {a : Option Nat} {c : Nat} {W : Rows} {F : HP} (h : St B w0 w (star (rowsHP a c W) F)) (hl : ∀ x ∈ W, x.2.2.length ≤ 140737488355328) (hn : W.length ≤ 140737488355328) :
    Rd2 w (a.map fun b => ⟨b, 0, none⟩) W.length (W.map fun x => x.2.2) := by
  have h1 : St B w0 w (star (sl a W.length c 27 1 (rowV W)) (star (stars (rowH W)) F)) := h.conseq (by unfold rowsHP; ac_rfl)
  refine ⟨by simp, hn, fun hp => ?_⟩
  obtain ⟨_, _, _, hnone, _⟩ := h1.sat.sl_facts
  cases a with
  | none => have := (hnone rfl).1; omega
  | some b =>
    refine ⟨b, 0, rfl, fun j hj => ?_⟩
    obtain ⟨x, hx⟩ : ∃ x, W[j]? = some x := ⟨W[j], by simp [hj]⟩
    have hg : gl (W.map fun x => x.2.2) j = x.2.2 := by simp [gl, List.getD_eq_getElem?_getD, hx]
    refine ⟨x.1.map fun b => ⟨b, 0, none⟩, x.2.1, ?_, ?_⟩
    · rw [Nat.zero_add, St.sl_cell (h := h1) j (by rw [rowV_length]; exact hj), hg]
      simp [rowV, hx, slv]
    · rw [hg]
      have hr : (rowH W)[j]? = some (sli 3 x.1 x.2.1 x.2.2) := by simp [rowH, hx]
      have h2 : St B w0 w (star (sli 3 x.1 x.2.1 x.2.2) (star (sl (some b) W.length c 27 1 (rowV W)) (star (stars ((rowH W).eraseIdx j)) F))) := h1.conseq (by rw [(stars_set_split hr emp).1]; ac_rfl)
      exact St.rd h2 (hl x (List.mem_of_getElem? hx))
theorem hasL_yes {xss : List (List Int)} {c x : List Int} {j : Nat} (hx : setF c = some x) (hj : j < xss.length) (h : eqB x ((setF (gl xss j)).getD []) = true) : hasL xss c = true := by
  unfold hasL
  rw [hx]
  simp only
  rw [List.any_eq_true]
  exact ⟨gl xss j, by simp [gl, List.getD_eq_getElem?_getD, hj], h⟩
theorem hasL_no {xss : List (List Int)} {c x : List Int} (hx : setF c = some x) (h : ∀ j, j < xss.length → eqB x ((setF (gl xss j)).getD []) = false) : hasL xss c = false := by
  cases e : hasL xss c with
  | false => rfl
  | true =>
    unfold hasL at e
    rw [hx] at e
    simp only at e
    rw [List.any_eq_true] at e
    obtain ⟨y, hy, hh⟩ := e
    obtain ⟨i, hi, rfl⟩ := List.getElem_of_mem hy
    have := h i hi
    rw [show gl xss i = xss[i] by simp [gl, List.getD_eq_getElem?_getD, hi], hh] at this
    cases this
theorem ins_length (x : Int) : ∀ out : List Int, (ins x out).length ≤ out.length + 1
  | [] => by simp [ins]
  | y :: r => by
    have := ins_length x r
    unfold ins
    split
    · simp; omega
    · split <;> simp
theorem setGo_length : ∀ (xs out s : List Int), setGo out xs = some s → s.length ≤ out.length + xs.length
  | [], out, s, h => by
    simp only [setGo, Option.some.injEq] at h
    subst h
    simp
  | x :: r, out, s, h => by
    rw [setGo] at h
    split at h
    · have h1 := setGo_length r _ s h
      have h2 := ins_length x out
      simp only [List.length_cons]
      omega
    · cases h
set_option maxRecDepth 100000 in
set_option maxHeartbeats 2000000 in
theorem hasL_any (A A' : Option Addr) (n cap m cap' : Nat) (xss : List (List Int)) (c : List Int) (w : World) (hr : Rd2 w A n xss) (hr' : Rd w A' m c) (hn : n ≤ 1000000) (hm : m ≤ 1000000) (hs : ∀ j, j < n → (gl xss j).length ≤ 1000000) :
    Calls Try.prog 20 #[.slice A n cap, .slice A' m cap'] w fun e w' => e = .returned (.bool (hasL xss c)) ∧ Below w.heap.size w w' := by
  have hsx := set_any A' m cap' c w hr' hm
  have HSX := Lib.hid hsx
  have HR := Lib.hid hr
  have HS := Lib.hid hs
  have hml := hr'.len
  have HML := Lib.hid hml
  clear hsx hr hr' hs hml
  cases hx : setF c with
  | none =>
    have HX := Lib.hid hx
    clear hx
    go_enter Try.func20, Try.ntmps20
    go_wp2_with (go_at_call 26; refine (HSX.out).mono ?_; rintro e w1 ⟨_, hbad⟩; obtain ⟨rfl, k1⟩ := hbad HX.out)
    go_loopw [7] (fun v wr => v = .int .i64 0 ∧ wr = w1) (fun _ _ => 0)
    case atStart => exact ⟨rfl, rfl⟩
    case round =>
      obtain ⟨rfl, rfl⟩ := hrel
      go_wp2
      go_ret
      refine ⟨ret_bool ?_, k1.below⟩
      unfold hasL
      rw [HX.out]
  | some x =>
    have HX := Lib.hid hx
    have hxl := setGo_length c [] x hx
    have HXL := Lib.hid (show x.length ≤ 1000000 by have := HML.out; simp at hxl; omega)
    clear hx hxl
    go_enter Try.func20, Try.ntmps20
    go_wp2_with (go_at_call 26; refine (HSX.out).mono ?_; rintro e w1 ⟨hgood, _⟩; obtain ⟨xa, xc, rfl, k1⟩ := hgood _ HX.out; have K1 := Lib.hid k1; clear k1 hgood; unfold slv)
    go_loopw [7] (fun v wr => ∃ j : Nat, j ≤ n ∧ v = .int .i64 j ∧ Hid (∀ i, i < j → eqB x ((setF (gl xss i)).getD []) = false) ∧ Hid (St w.heap.size w wr (star (sli 3 xa xc x) emp))) (fun v _ => n - (intOf v).toNat)
    case atStart => exact ⟨0, Nat.zero_le _, rfl, (fun i hi => absurd hi (Nat.not_lt_zero i) : ∀ i, i < 0 → _), K1.out.conseq (star_emp _).symm⟩
    case round =>
      obtain ⟨j, hj, rfl, HNO, HST⟩ := hrel
      by_cases hjn : j < n
      · obtain ⟨ab, ao, rfl, hc⟩ := (HR.out.grow HST.out.below).cells (by omega)
        obtain ⟨Aj, cj, d1, hrj⟩ := hc j hjn
        clear hc
        obtain ⟨ys, hys⟩ : ∃ ys, gl xss j = ys := ⟨_, rfl⟩
        have hsm := HS.out j hjn
        rw [hys] at d1 hrj hsm
        obtain ⟨ln, hln⟩ : ∃ ln, ys.length = ln := ⟨_, rfl⟩
        rw [hln] at d1 hrj hsm
        have hsy := set_any Aj ln cj ys wr hrj hsm
        have HSY := Lib.hid hsy
        have HYS := Lib.hid hys
        have HLN := Lib.hid hln
        have hnx : eqB x ((setF ys).getD []) = false → ∀ i, i < j + 1 → eqB x ((setF (gl xss i)).getD []) = false := by
          intro he i hi
          by_cases e : i = j
          · rw [e, hys]; exact he
          · exact HNO.out i (by omega)
        have HNX := Lib.hid hnx
        obtain ⟨eqv, heq⟩ : ∃ eqv, eqB x ((setF ys).getD []) = eqv := ⟨_, rfl⟩
        have HEQ2 := Lib.hid heq
        clear hrj hsy hys hln hnx
        cases hset : setF ys with
        | none =>
          have HSET := Lib.hid hset
          have HEQ := Lib.hid (show eqB x [] = eqv by rw [← heq, hset]; rfl)
          clear hset heq
          cases eqv with
          | true =>
            go_wp2_with (first
              | (go_at_call 26; refine (HSY.out).mono ?_; rintro e w2 ⟨_, hbad⟩; obtain ⟨rfl, k2⟩ := hbad HSET.out; have h2 : St w.heap.size w w2 (star (sli 3 xa xc x) emp) := (HST.out.nest k2).conseq (by rw [emp_star]); have ry : Rd w2 none 0 [] := ⟨rfl, by omega, fun h => absurd h (by omega)⟩; have rx : Rd w2 (xa.map fun b => ⟨b, 0, none⟩) x.length x := St.rd h2 (by have := HXL.out; omega); have H2 := Lib.hid h2; have RX := Lib.hid rx; have RY := Lib.hid ry; clear hbad k2 h2 rx ry)
              | (go_at_call 15; refine (ints_any _ _ _ _ _ _ _ _ _ RX.out RY.out).mono ?_; rintro e w7 ⟨rfl, hD7⟩; rw [HEQ.out]))
            go_ret
            refine ⟨ret_bool (hasL_yes HX.out (by have := HR.out.len; omega) (HYS.out ▸ HEQ2.out)).symm, ?_⟩
            exact (H2.out.drawn hD7).below
          | false =>
            go_wp2_with (first
              | (go_at_call 26; refine (HSY.out).mono ?_; rintro e w2 ⟨_, hbad⟩; obtain ⟨rfl, k2⟩ := hbad HSET.out; have h2 : St w.heap.size w w2 (star (sli 3 xa xc x) emp) := (HST.out.nest k2).conseq (by rw [emp_star]); have ry : Rd w2 none 0 [] := ⟨rfl, by omega, fun h => absurd h (by omega)⟩; have rx : Rd w2 (xa.map fun b => ⟨b, 0, none⟩) x.length x := St.rd h2 (by have := HXL.out; omega); have H2 := Lib.hid h2; have RX := Lib.hid rx; have RY := Lib.hid ry; clear hbad k2 h2 rx ry)
              | (go_at_call 15; refine (ints_any _ _ _ _ _ _ _ _ _ RX.out RY.out).mono ?_; rintro e w7 ⟨rfl, hD7⟩; rw [HEQ.out]))
            go_roundw
            case rel => exact ⟨j + 1, by omega, by go_num, HNX.out HEQ2.out, H2.out.drawn hD7⟩
            case measure => simp [intOf]; omega

        | some y =>
          have HSET := Lib.hid hset
          have HEQ := Lib.hid (show eqB x y = eqv by rw [← heq, hset]; rfl)
          have hyl := setGo_length ys [] y hset
          have HYL := Lib.hid (show y.length ≤ 1000000 by have := HLN.out; simp at hyl; omega)
          clear hset heq hyl
          cases eqv with
          | true =>
            go_wp2_with (first
              | (go_at_call 26; refine (HSY.out).mono ?_; rintro e w2 ⟨hgood, _⟩; obtain ⟨ya, yc, rfl, k2⟩ := hgood _ HSET.out; have h2 : St w.heap.size w w2 (star (sli 3 xa xc x) (sli 3 ya yc y)) := (HST.out.nest k2).conseq (by rw [star_emp]; ac_rfl); have ry : Rd w2 (ya.map fun b => ⟨b, 0, none⟩) y.length y := St.rd (h2.conseq (star_comm _ _)) (by have := HYL.out; omega); have rx : Rd w2 (xa.map fun b => ⟨b, 0, none⟩) x.length x := St.rd h2 (by have := HXL.out; omega); have H2 := Lib.hid (show St w.heap.size w w2 (star (sli 3 xa xc x) emp) from (h2.drop).conseq (star_emp _).symm); have RX := Lib.hid rx; have RY := Lib.hid ry; clear hgood k2 h2 rx ry; unfold slv)
              | (go_at_call 15; refine (ints_any _ _ _ _ _ _ _ _ _ RX.out RY.out).mono ?_; rintro e w7 ⟨rfl, hD7⟩; rw [HEQ.out]))
            go_ret
            refine ⟨ret_bool (hasL_yes HX.out (by have := HR.out.len; omega) (HYS.out ▸ HEQ2.out)).symm, ?_⟩
            exact (H2.out.drawn hD7).below
          | false =>
            go_wp2_with (first
              | (go_at_call 26; refine (HSY.out).mono ?_; rintro e w2 ⟨hgood, _⟩; obtain ⟨ya, yc, rfl, k2⟩ := hgood _ HSET.out; have h2 : St w.heap.size w w2 (star (sli 3 xa xc x) (sli 3 ya yc y)) := (HST.out.nest k2).conseq (by rw [star_emp]; ac_rfl); have ry : Rd w2 (ya.map fun b => ⟨b, 0, none⟩) y.length y := St.rd (h2.conseq (star_comm _ _)) (by have := HYL.out; omega); have rx : Rd w2 (xa.map fun b => ⟨b, 0, none⟩) x.length x := St.rd h2 (by have := HXL.out; omega); have H2 := Lib.hid (show St w.heap.size w w2 (star (sli 3 xa xc x) emp) from (h2.drop).conseq (star_emp _).symm); have RX := Lib.hid rx; have RY := Lib.hid ry; clear hgood k2 h2 rx ry; unfold slv)
              | (go_at_call 15; refine (ints_any _ _ _ _ _ _ _ _ _ RX.out RY.out).mono ?_; rintro e w7 ⟨rfl, hD7⟩; rw [HEQ.out]))
            go_roundw
            case rel => exact ⟨j + 1, by omega, by go_num, HNX.out HEQ2.out, H2.out.drawn hD7⟩
            case measure => simp [intOf]; omega

      · obtain rfl : j = n := by omega
        go_wp2
        go_ret
        exact ⟨ret_bool (hasL_no HX.out (fun i hi => HNO.out i (by rw [← HR.out.len]; exact hi))).symm, HST.out.below⟩
end Go.Proofs.Ytmljcbdlkeooiaa
