/-
  The contracts of plaitref12's True, All, Can and Entails.
-/
import Derived.Test.YtodmkcolamppmaaHelp
import Derived.Test.YtodmkcolamppmaaSndP
namespace Go.Proofs.Ytodmkcolamppmaa
open Go.RowKit Go.Proofs.PlaitSep Go.Proofs.PlaitPure

/-- The n-th assignment. -/
def asg (n : Int) (v : Nat) : Bool := bits BinOp.and IntKind.i64 (n / 2 ^ (v - 1)) 1 == 1
/-- Literals of few variables. -/
def Few (c : List Int) : Prop := ∀ x ∈ c, x ≠ 0 ∧ -60 ≤ x ∧ x ≤ 60
theorem clT_take_succ {f : Nat → Bool} {c : List Int} {k : Nat} (h : k < c.length) : clT f (c.take (k + 1)) = (clT f (c.take k) || litT f (gi c k)) := by
  rw [take_gi c k h]; simp [clT]
theorem clT_of_take {f : Nat → Bool} {c : List Int} {k : Nat} (h : clT f (c.take k) = true) : clT f c = true := by
  rw [clT_iff] at h ⊢
  obtain ⟨x, hx, h2⟩ := h
  exact ⟨x, List.mem_of_mem_take hx, h2⟩
set_option maxRecDepth 100000 in
set_option maxHeartbeats 2000000 in
theorem true_any (A : Option Addr) (n cap : Nat) (c : List Int) (nn : Int) (w : World) (hr : Rd w A n c) (hf : Few c) (_h0 : 0 ≤ nn) (_h1 : nn ≤ 1000000) :
    Calls Try.prog 46 #[.slice A n cap, .int .i64 nn] w fun e w' => e = .returned (.bool (clT (asg nn) c)) ∧ Drawn w w' := by
  have hs := hr.small
  have HR := Lib.hid hr
  have HF := Lib.hid hf
  clear hr hf
  go_enter Try.func46, Try.ntmps46
  go_wp2
  go_loopw [5] (fun i wr => ∃ k : Nat, k ≤ n ∧ i = .int .i64 k ∧ Hid (clT (asg nn) (c.take k) = false) ∧ Hid (Drawn w wr)) (fun i _ => n - (intOf i).toNat)
  case atStart => exact ⟨0, Nat.zero_le _, rfl, (rfl : clT (asg nn) (c.take 0) = false), Drawn.refl w⟩
  case round =>
    obtain ⟨k, hk, rfl, HX, HD⟩ := hrel
    by_cases hkn : k < n
    · obtain ⟨bx, ox, hA, hcx⟩ := (HR.out.drawn HD.out).cells (by omega)
      subst hA
      have d2 := hcx k hkn
      have hkl : k < c.length := by rw [HR.out.len]; exact hkn
      obtain ⟨x0, x1, x2⟩ := HF.out (gi c k) (by rw [gi_eq c k hkl]; exact List.getElem_mem _)
      have hts := clT_take_succ (f := asg nn) hkl
      rw [HX.out, Bool.false_or] at hts
      obtain ⟨x, hx⟩ : ∃ x, gi c k = x := ⟨_, rfl⟩
      rw [hx] at d2 x0 x1 x2 hts
      have HTS := Lib.hid hts
      have k0 : (0 : Int) ≤ (k : Int) := by omega
      have k1 : (k : Int) < (n : Int) := by omega
      obtain ⟨av, hav⟩ : ∃ av, max x (-x) = av := ⟨_, rfl⟩
      have hav1 : 1 ≤ av := by omega
      have hav2 : av ≤ 60 := by omega
      obtain ⟨tb, htb⟩ : ∃ tb, ((bits BinOp.and IntKind.i64 (nn / 2 ^ (av.toNat - 1)) 1 == 1) == decide (0 < x)) = tb := ⟨_, rfl⟩
      have HTB := Lib.hid (show clT (asg nn) (c.take (k + 1)) = tb by
        rw [HTS.out]
        unfold litT asg
        rw [show x.natAbs = av.toNat by omega]
        exact htb)
      clear hcx hx hkl hts
      go_wp2_with fail
      go_quiet (fail)
      go_wp2_with fail
      go_quiet (fail)
      cases tb with
      | true =>
        go_wp2
        go_ret
        exact ⟨ret_bool (clT_of_take HTB.out).symm, (HD.out.step _).step _⟩
      | false =>
        go_wp2
        go_roundw
        case rel => exact ⟨k + 1, by omega, by go_num, HTB.out, HD.out.step _⟩
        case measure => simp [intOf]; omega
    · obtain rfl : k = n := by omega
      have hx := HX.out
      rw [List.take_of_length_le (by rw [HR.out.len]; exact Nat.le_refl _)] at hx
      have HX2 := Lib.hid hx
      clear hx
      go_wp2
      go_ret
      exact ⟨ret_bool HX2.out.symm, HD.out⟩
theorem allT_take_succ {f : Nat → Bool} {G : List (List Int)} {k : Nat} (h : k < G.length) : allT f (G.take (k + 1)) = (allT f (G.take k) && clT f (gl G k)) := by
  rw [take_gl G k h]; simp [allT]
theorem allT_of_take {f : Nat → Bool} {G : List (List Int)} {k : Nat} (h : allT f (G.take k) = false) : allT f G = false := by
  cases e : allT f G with
  | false => rfl
  | true =>
    unfold allT at h e
    rw [List.all_eq_true] at e
    rw [← h]
    symm
    rw [List.all_eq_true]
    exact fun x hx => e x (List.mem_of_mem_take hx)
set_option maxRecDepth 100000 in
set_option maxHeartbeats 2000000 in
theorem all_any (A : Option Addr) (n cap : Nat) (G : List (List Int)) (nn : Int) (w : World) (hr : Rd2 w A n G) (hf : ∀ c ∈ G, Few c) (h0 : 0 ≤ nn) (h1 : nn ≤ 1000000) :
    Calls Try.prog 45 #[.slice A n cap, .int .i64 nn] w fun e w' => e = .returned (.bool (allT (asg nn) G)) ∧ Drawn w w' := by
  have hs := hr.small
  have HR := Lib.hid hr
  have HF := Lib.hid hf
  clear hr hf
  go_enter Try.func45, Try.ntmps45
  go_wp2
  go_loopw [5] (fun i wr => ∃ k : Nat, k ≤ n ∧ i = .int .i64 k ∧ Hid (allT (asg nn) (G.take k) = true) ∧ Hid (Drawn w wr)) (fun i _ => n - (intOf i).toNat)
  case atStart => exact ⟨0, Nat.zero_le _, rfl, (rfl : allT (asg nn) (G.take 0) = true), Drawn.refl w⟩
  case round =>
    obtain ⟨k, hk, rfl, HX, HD⟩ := hrel
    by_cases hkn : k < n
    · obtain ⟨bx, ox, hA, hcx⟩ := (HR.out.heap HD.out.heap).cells (by omega)
      subst hA
      obtain ⟨Aj, cj, d2, hrj⟩ := hcx k hkn
      have hkl : k < G.length := by rw [HR.out.len]; exact hkn
      have hfew := HF.out (gl G k) (by rw [gl_eq G k hkl]; exact List.getElem_mem _)
      have hts := allT_take_succ (f := asg nn) hkl
      rw [HX.out, Bool.true_and] at hts
      have HC := Lib.hid (true_any Aj (gl G k).length cj (gl G k) nn wr hrj hfew h0 h1)
      obtain ⟨tb, htb⟩ : ∃ tb, clT (asg nn) (gl G k) = tb := ⟨_, rfl⟩
      rw [htb] at hts HC
      obtain ⟨ln, hln⟩ : ∃ ln, (gl G k).length = ln := ⟨_, rfl⟩
      rw [hln] at d2 HC
      have HTS := Lib.hid hts
      have k0 : (0 : Int) ≤ (k : Int) := by omega
      have k1 : (k : Int) < (n : Int) := by omega
      clear hcx hrj hkl hfew hts htb hln
      go_wp2_with fail
      refine HC.out.mono ?_
      rintro e w2 ⟨rfl, hd⟩
      have HD2 := Lib.hid (HD.out.trans hd)
      clear hd
      cases tb with
      | true =>
        go_wp2
        go_roundw
        case rel => exact ⟨k + 1, by omega, by go_num, HTS.out, HD2.out⟩
        case measure => simp [intOf]; omega
      | false =>
        go_wp2
        go_ret
        exact ⟨ret_bool (allT_of_take HTS.out).symm, HD2.out⟩
    · obtain rfl : k = n := by omega
      have hx := HX.out
      rw [List.take_of_length_le (by rw [HR.out.len]; exact Nat.le_refl _)] at hx
      have HX2 := Lib.hid hx
      clear hx
      go_wp2
      go_ret
      exact ⟨ret_bool HX2.out.symm, HD.out⟩
/-- Is there an assignment of so many variables? -/
def canF (G : List (List Int)) (v : Nat) : Bool := (List.range (2 ^ v)).any fun n => allT (asg n) G
/-- Is the clause true under each one that makes all true? -/
def entF (G : List (List Int)) (c : List Int) (v : Nat) : Bool := (List.range (2 ^ v)).all fun n => !(allT (asg n) G && !clT (asg n) c)
set_option maxRecDepth 100000 in
set_option maxHeartbeats 2000000 in
theorem can_any (A : Option Addr) (n cap : Nat) (G : List (List Int)) (v : Nat) (w : World) (hr : Rd2 w A n G) (hf : ∀ c ∈ G, Few c) (hv : v ≤ 12) :
    Calls Try.prog 30 #[.slice A n cap, .int .i64 (v : Int)] w fun e w' => e = .returned (.bool (canF G v)) ∧ Drawn w w' := by
  have hs := hr.small
  have HR := Lib.hid hr
  have HF := Lib.hid hf
  clear hr hf
  have hp : (2 : Nat) ^ v ≤ 2 ^ 12 := Nat.pow_le_pow_right (by decide) hv
  obtain ⟨P, hP⟩ : ∃ P, (2 : Nat) ^ v = P := ⟨_, rfl⟩
  have hP2 : (2 : Int) ^ v = (P : Int) := by rw [← hP]; simp
  rw [hP] at hp
  have HP := Lib.hid hP
  have hp' : P ≤ 4096 := by simpa using hp
  clear hp hP
  go_enter Try.func30, Try.ntmps30
  go_wp2
  go_loopw [5] (fun i wr => ∃ k : Nat, k ≤ P ∧ i = .int .i64 k ∧ Hid (∀ m, m < k → allT (asg (m : Nat)) G = false) ∧ Hid (Drawn w wr)) (fun i _ => P - (intOf i).toNat)
  case atStart => exact ⟨0, Nat.zero_le _, rfl, (fun m hm => absurd hm (Nat.not_lt_zero _) : ∀ m, m < 0 → allT (asg (m : Nat)) G = false), Drawn.refl w⟩
  case round =>
    obtain ⟨k, hk, rfl, HX, HD⟩ := hrel
    by_cases hkn : k < P
    · have HC := Lib.hid (all_any A n cap G k wr (HR.out.heap HD.out.heap) HF.out (by omega) (by omega))
      obtain ⟨tb, htb⟩ : ∃ tb, allT (asg (k : Nat)) G = tb := ⟨_, rfl⟩
      rw [htb] at HC
      have HTB := Lib.hid htb
      have k1 : (k : Int) < (P : Int) := by omega
      have HKN := Lib.hid hkn
      clear htb
      go_wp2_with fail
      refine HC.out.mono ?_
      rintro e w2 ⟨rfl, hd⟩
      have HD2 := Lib.hid (HD.out.trans hd)
      clear hd HC
      cases tb with
      | false =>
        have HX2 := Lib.hid (show ∀ m, m < k + 1 → allT (asg (m : Nat)) G = false from fun m hm => by
          by_cases e : m = k
          · subst e; exact HTB.out
          · exact HX.out m (by omega))
        go_wp2
        go_roundw
        case rel => exact ⟨k + 1, by omega, by go_num, HX2.out, HD2.out⟩
        case measure => simp [intOf]; omega
      | true =>
        go_wp2
        go_ret
        refine ⟨ret_bool ?_, HD2.out⟩
        symm
        unfold canF
        rw [List.any_eq_true]
        exact ⟨k, by rw [List.mem_range, HP.out]; exact HKN.out, HTB.out⟩
    · obtain rfl : k = P := by omega
      go_wp2
      go_ret
      refine ⟨ret_bool ?_, HD.out⟩
      symm
      unfold canF
      rw [List.any_eq_false]
      intro m hm
      rw [List.mem_range, HP.out] at hm
      rw [HX.out m hm]
      exact Bool.false_ne_true
set_option maxRecDepth 100000 in
set_option maxHeartbeats 2000000 in
theorem entails_any (A : Option Addr) (n cap : Nat) (G : List (List Int)) (A1 : Option Addr) (n1 cap1 : Nat) (c : List Int) (v : Nat) (w : World) (hr : Rd2 w A n G) (hr1 : Rd w A1 n1 c) (hf : ∀ c ∈ G, Few c) (hf1 : Few c) (hv : v ≤ 12) :
    Calls Try.prog 31 #[.slice A n cap, .slice A1 n1 cap1, .int .i64 (v : Int)] w fun e w' => e = .returned (.bool (entF G c v)) ∧ Drawn w w' := by
  have hs := hr.small
  have HR := Lib.hid hr
  have HR1 := Lib.hid hr1
  have HF := Lib.hid hf
  have HF1 := Lib.hid hf1
  clear hr hf hr1 hf1
  have hp : (2 : Nat) ^ v ≤ 2 ^ 12 := Nat.pow_le_pow_right (by decide) hv
  obtain ⟨P, hP⟩ : ∃ P, (2 : Nat) ^ v = P := ⟨_, rfl⟩
  have hP2 : (2 : Int) ^ v = (P : Int) := by rw [← hP]; simp
  rw [hP] at hp
  have HP := Lib.hid hP
  have hp' : P ≤ 4096 := by simpa using hp
  clear hp hP
  go_enter Try.func31, Try.ntmps31
  go_wp2
  go_loopw [7] (fun i wr => ∃ k : Nat, k ≤ P ∧ i = .int .i64 k ∧ Hid (∀ m, m < k → (allT (asg (m : Nat)) G && !clT (asg (m : Nat)) c) = false) ∧ Hid (Drawn w wr)) (fun i _ => P - (intOf i).toNat)
  case atStart => exact ⟨0, Nat.zero_le _, rfl, (fun m hm => absurd hm (Nat.not_lt_zero _) : ∀ m, m < 0 → (allT (asg (m : Nat)) G && !clT (asg (m : Nat)) c) = false), Drawn.refl w⟩
  case round =>
    obtain ⟨k, hk, rfl, HX, HD⟩ := hrel
    by_cases hkn : k < P
    · have HC := Lib.hid (all_any A n cap G k wr (HR.out.heap HD.out.heap) HF.out (by omega) (by omega))
      obtain ⟨ta, hta⟩ : ∃ tb, allT (asg (k : Nat)) G = tb := ⟨_, rfl⟩
      rw [hta] at HC
      have k1 : (k : Int) < (P : Int) := by omega
      have HKN := Lib.hid hkn
      have HTA := Lib.hid hta
      clear hta
      go_wp2_with fail
      refine HC.out.mono ?_
      rintro e w2 ⟨rfl, hd⟩
      have HD2 := Lib.hid (HD.out.trans hd)
      clear hd HC
      cases ta with
      | false =>
        have HX2 := Lib.hid (show ∀ m, m < k + 1 → (allT (asg (m : Nat)) G && !clT (asg (m : Nat)) c) = false from fun m hm => by
          by_cases e : m = k
          · subst e; rw [HTA.out]; rfl
          · exact HX.out m (by omega))
        go_wp2
        go_roundw
        case rel => exact ⟨k + 1, by omega, by go_num, HX2.out, HD2.out⟩
        case measure => simp [intOf]; omega
      | true =>
        have HC2 := Lib.hid (true_any A1 n1 cap1 c k w2 (HR1.out.drawn HD2.out) HF1.out (by omega) (by omega))
        obtain ⟨tb, htb⟩ : ∃ tb, clT (asg (k : Nat)) c = tb := ⟨_, rfl⟩
        rw [htb] at HC2
        have HTB := Lib.hid htb
        clear htb
        go_wp2_with fail
        refine HC2.out.mono ?_
        rintro e w3 ⟨rfl, hd⟩
        have HD3 := Lib.hid (HD2.out.trans hd)
        clear hd HC2
        cases tb with
        | true =>
          have HX2 := Lib.hid (show ∀ m, m < k + 1 → (allT (asg (m : Nat)) G && !clT (asg (m : Nat)) c) = false from fun m hm => by
            by_cases e : m = k
            · subst e; rw [HTB.out, HTA.out]; rfl
            · exact HX.out m (by omega))
          go_wp2
          go_roundw
          case rel => exact ⟨k + 1, by omega, by go_num, HX2.out, HD3.out⟩
          case measure => simp [intOf]; omega
        | false =>
          go_wp2
          go_ret
          refine ⟨ret_bool ?_, HD3.out⟩
          symm
          unfold entF
          rw [List.all_eq_false]
          exact ⟨k, by rw [List.mem_range, HP.out]; exact HKN.out, by rw [HTB.out, HTA.out]; exact Bool.false_ne_true⟩
    · obtain rfl : k = P := by omega
      go_wp2
      go_ret
      refine ⟨ret_bool ?_, HD.out⟩
      symm
      unfold entF
      rw [List.all_eq_true]
      intro m hm
      rw [List.mem_range, HP.out] at hm
      rw [HX.out m hm]
      rfl
end Go.Proofs.Ytodmkcolamppmaa
