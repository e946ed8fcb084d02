/-
  The contracts of plaithelp's functions on bytes and lists, and of plaitlaw12's light, steps and lists.
-/
import Derived.Test.YtodmkcolamppmaaRws
namespace Go.Proofs.Ytodmkcolamppmaa
open Go.RowKit Go.Proofs.PlaitSep Go.Proofs.PlaitPure

theorem RdB.drawn {w w' : World} {A : Option Addr} {n : Nat} {xs : List Int} (h : RdB w A n xs) (d : Drawn w w') : RdB w' A n xs := h.heap d.heap
set_option maxHeartbeats 400000 in
theorem bytes_any (A A' : Option Addr) (n cap m cap' : Nat) (xs ys : List Int) (w : World) (hr : RdB w A n xs) (hr' : RdB w A' m ys) :
    Calls Try.prog 18 #[.slice A n cap, .slice A' m cap'] w fun e w' => e = .returned (.bool (eqB xs ys)) ∧ Drawn w w' := by
  have hs := hr.small
  have hs' := hr'.small
  by_cases hnm : n = m
  · subst hnm
    go_enter Try.func18, Try.ntmps18
    go_wp2
    go_loopw [5] (fun i wr => ∃ k : Nat, k ≤ n ∧ i = .int .i64 k ∧ xs.take k = ys.take k ∧ Drawn w wr) (fun i _ => n - (intOf i).toNat)
    case atStart => exact ⟨0, Nat.zero_le _, rfl, by simp, Drawn.refl w⟩
    case round =>
      obtain ⟨k, hk, rfl, hx, hD⟩ := hrel
      by_cases hlt : k < n
      · obtain ⟨b, o, rfl, hc⟩ := (RdB.drawn hr hD).cells (by omega)
        obtain ⟨b', o', rfl, hc'⟩ := (RdB.drawn hr' hD).cells (by omega)
        have hck := hc k hlt
        have hck' := hc' k hlt
        have h0 : (0 : Int) ≤ (k : Int) := by omega
        have h1 : (k : Int) < (n : Int) := by omega
        have HX := Lib.hid hx
        clear hc hc' hx
        cases hd : gi xs k != gi ys k
        all_goals
          go_wp2
          go_quiet (fail)
          go_wp2
        · go_roundw
          case rel => exact ⟨k + 1, by omega, by go_num, by rw [take_gi xs k (by have := hr.len; omega), take_gi ys k (by have := hr'.len; omega), HX.out, (by simpa using hd : gi xs k = gi ys k)], hD.step _⟩
          case measure => simp [intOf]; omega
        · go_ret
          exact ⟨ret_bool (eqB_ne (k := k) (by have := hr.len; omega) (by rw [hr.len, hr'.len]) (by simpa using hd)).symm, hD.step _⟩
      · have HX := Lib.hid hx
        clear hx
        go_wp2
        go_ret
        refine ⟨ret_bool (eqB_yes (by rw [hr.len, hr'.len]) ?_).symm, hD⟩
        have := HX.out
        rw [hr.len, show n = k by omega]
        exact this
  · have hd : ((n : Int) != (m : Int)) = true := by simp; omega
    go_enter Try.func18, Try.ntmps18
    go_wp2
    go_ret
    exact ⟨ret_bool (eqB_len (by rw [hr.len, hr'.len]; exact hnm)).symm, Drawn.refl w⟩
/-- Are they the same lists? -/
def eqL (xss yss : List (List Int)) : Bool := decide (xss = yss)
theorem eqL_iff {xss yss : List (List Int)} : eqL xss yss = true ↔ xss = yss := by unfold eqL; simp
theorem eqL_no {xss yss : List (List Int)} (h : xss ≠ yss) : eqL xss yss = false := by unfold eqL; simpa using h
set_option maxHeartbeats 800000 in
theorem lists_any (A A' : Option Addr) (n cap m cap' : Nat) (xss yss : List (List Int)) (w : World) (hr : Rd2 w A n xss) (hr' : Rd2 w A' m yss) :
    Calls Try.prog 19 #[.slice A n cap, .slice A' m cap'] w fun e w' => e = .returned (.bool (eqL xss yss)) ∧ Drawn w w' := by
  have hs := hr.small
  have hs' := hr'.small
  have HR := Lib.hid hr
  have HR' := Lib.hid hr'
  by_cases hnm : n = m
  · subst hnm
    clear hr hr'
    go_enter Try.func19, Try.ntmps19
    go_wp2
    go_loopw [5] (fun i wr => ∃ k : Nat, k ≤ n ∧ i = .int .i64 k ∧ Hid (xss.take k = yss.take k) ∧ Drawn w wr) (fun i _ => n - (intOf i).toNat)
    case atStart => exact ⟨0, Nat.zero_le _, rfl, (rfl : xss.take 0 = yss.take 0), Drawn.refl w⟩
    case round =>
      obtain ⟨k, hk, rfl, HX, hD⟩ := hrel
      by_cases hlt : k < n
      · obtain ⟨b, o, rfl, hc⟩ := (HR.out.heap hD.heap).cells (by omega)
        obtain ⟨b', o', rfl, hc'⟩ := (HR'.out.heap hD.heap).cells (by omega)
        obtain ⟨Aj, cj, hck, hrj⟩ := hc k hlt
        obtain ⟨Aj', cj', hck', hrj'⟩ := hc' k hlt
        have h0 : (0 : Int) ≤ (k : Int) := by omega
        have h1 : (k : Int) < (n : Int) := by omega
        obtain ⟨x, hx⟩ : ∃ x, gl xss k = x := ⟨_, rfl⟩
        obtain ⟨y, hy⟩ : ∃ y, gl yss k = y := ⟨_, rfl⟩
        obtain ⟨ln, hln⟩ : ∃ ln, x.length = ln := ⟨_, rfl⟩
        obtain ⟨ln', hln'⟩ : ∃ ln', y.length = ln' := ⟨_, rfl⟩
        rw [hx, hln] at hck hrj
        rw [hy, hln'] at hck' hrj'
        have hcall : ∀ V, Drawn wr V → Calls Try.prog 33 #[.slice Aj ln cj, .slice Aj' ln' cj'] V fun e w' => e = .returned (.bool (eqB x y)) ∧ Drawn V w' := fun V hV => ints_any Aj Aj' ln cj ln' cj' x y V (hrj.drawn hV) (hrj'.drawn hV)
        obtain ⟨bb, hbb⟩ : ∃ bb, eqB x y = bb := ⟨_, rfl⟩
        rw [hbb] at hcall
        have HC := Lib.hid hcall
        have HBB := Lib.hid hbb
        have HXX := Lib.hid hx
        have HYY := Lib.hid hy
        clear hc hc' hrj hrj' hx hy hln hln' hcall hbb
        have hq : ∀ k, Calls Try.prog 33 #[.slice Aj ln cj, .slice Aj' ln' cj'] (wr.drewN k) fun e w'' => e = .returned (.bool bb) ∧ ∃ m, w'' = wr.drewN m := fun k => (HC.out _ ⟨k, rfl⟩).mono fun _ _ h => ⟨h.1, by obtain ⟨j, e⟩ := h.2; exact ⟨k + j, by rw [e, World.drewN_drewN]⟩⟩
        have HQ := Lib.hid hq
        clear hq
        cases bb
        all_goals
          go_wp2
          go_quiet ((go_at_call 33; exact quietW HQ.out))
          go_wp2
        · go_ret
          refine ⟨ret_bool (eqL_no ?_).symm, hD.step _⟩
          intro e
          have : eqB x y = true := eqB_iff.2 (by rw [← HXX.out, ← HYY.out, e])
          rw [HBB.out] at this
          cases this
        · go_roundw
          case rel =>
            refine ⟨k + 1, by omega, by go_num, (?_ : xss.take (k + 1) = yss.take (k + 1)), hD.step _⟩
            rw [take_gl xss k (by have := HR.out.len; omega), take_gl yss k (by have := HR'.out.len; omega), HX.out, HXX.out, HYY.out, eqB_iff.1 HBB.out]
          case measure => simp [intOf]; omega
      · go_wp2
        go_ret
        refine ⟨ret_bool (eqL_iff.2 ?_).symm, hD⟩
        have := HX.out
        rwa [List.take_of_length_le (by have := HR.out.len; omega), List.take_of_length_le (by have := HR'.out.len; omega)] at this
  · have hd : ((n : Int) != (m : Int)) = true := by simp; omega
    go_enter Try.func19, Try.ntmps19
    go_wp2
    go_ret
    refine ⟨ret_bool (eqL_no fun e => hnm ?_).symm, Drawn.refl w⟩
    rw [← hr.len, ← hr'.len, e]
set_option maxHeartbeats 400000 in
theorem copyBytes_any (A : Option Addr) (n cap : Nat) (xs : List Int) (w : World) (hr : RdB w A n xs) (hn : n ≤ 1000000) :
    Calls Try.prog 15 #[.slice A n cap] w fun e w' => ∃ a c, e = .returned (slv a n c) ∧ St w.heap.size w w' (slb 5 a c xs) := by
  have hst0 : St w.heap.size w w (star (slb 5 none 0 []) emp) := ⟨(St.start w).below, (St.start w).base, (St.start w).sat.sl_nil _ _⟩
  have hl := Lib.hid hr.len
  go_enter Try.func15, Try.ntmps15
  go_wp2_with (at_builtin; refine wpList_append_rdB rfl _ _ 23 5 rfl Try.underlying23 Try.infoByte hst0 0 rfl A n cap xs hr rfl rfl (by omega) ?_; intro a' c' w' h2)
  go_ret
  exact ⟨a', c', by simp [slv], by simpa [star_emp] using h2⟩
end Go.Proofs.Ytodmkcolamppmaa
