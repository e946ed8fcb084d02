/-
  The walk of plaitlaw12's TraceChecks.
-/
import Derived.Test.YtodmkcolamppmaaRTrim
import Derived.Test.YtodmkcolamppmaaTd1
namespace Go.Proofs.Ytodmkcolamppmaa
open Go.RowKit Go.Proofs.PlaitSep Go.Proofs.PlaitPure

theorem gi_ok {now : List Int} (h : ∀ y ∈ now, okN y = true) (k : Nat) : okN (gi now k) = true := by
  by_cases hk : k < now.length
  · rw [gi_eq now k hk]; exact h _ (List.getElem_mem hk)
  · simp [gi, List.getD_eq_getElem?_getD, List.getElem?_eq_none (Nat.le_of_not_lt hk), okN]
theorem trimGo_ok (n : Nat) (N : List Bool) : ∀ (l : List (List Int)) (i : Nat) (now : List Int) (out : List (List Int)), (∀ y ∈ now, okN y = true) → (∀ s ∈ out, ∀ x ∈ s, okN x = true) → (∀ s ∈ l, ∀ x ∈ s, 0 ≤ x) → n + out.length + l.length ≤ 2147483647 →
    ∀ s ∈ trimGo n N i now out l, ∀ x ∈ s, okN x = true := by
  intro l
  induction l with
  | nil => intro i now out _ ho _ _; exact ho
  | cons s r ih =>
    intro i now out hn ho hl hb
    simp only [List.length_cons] at hb
    unfold trimGo
    split
    · have hn2 : ∀ y ∈ now.set i ((n : Int) + (out.length : Int)), okN y = true := by
        intro y hy
        rcases List.mem_or_eq_of_mem_set hy with h | rfl
        · exact hn y h
        · rw [okN_iff]; omega
      refine ih _ _ _ hn2 (fun t ht x hx => ?_) (fun t ht => hl t (by simp [ht])) (by simp; omega)
      rcases List.mem_append.1 ht with ht | ht
      · exact ho t ht x hx
      · rw [List.mem_singleton.1 ht] at hx
        obtain ⟨y, hy, rfl⟩ := List.mem_map.1 hx
        unfold newNum
        split
        · exact gi_ok hn2 _
        · have := hl s (by simp) y hy
          rw [okN_iff]; omega
    · exact ih _ _ _ hn ho (fun t ht => hl t (by simp [ht])) (by omega)
theorem trimL_ok {G : List (List Int)} {b : List Int} (h : (chkF G b).2 = 0) (hG : G.length + (decF b).1.length ≤ 2147483647) : (encF (trimL G.length (chkF G b).1)).2 = 0 := by
  obtain ⟨_, h1, D, hd, _⟩ := chkF_ok h
  have hv := derGo_valid hd
  rw [← h1] at hv hG
  have key := trimGo_ok G.length (needF G.length (chkF G b).1) (chkF G b).1 0 (Go.Proofs.PlaitSep.zeros (chkF G b).1.length) [] (fun y hy => by rw [List.eq_of_mem_replicate hy]; rfl) (fun s hs => by cases hs) (fun s hs x hx => by
    obtain ⟨i, hi, rfl⟩ := List.getElem_of_mem hs
    obtain ⟨t, ht, rfl⟩ := List.getElem_of_mem hx
    have := (hv i hi t (by rw [gl_eq _ i hi]; exact ht)).1
    rwa [gl_eq _ i hi, gi_eq _ t ht] at this) (by simp; omega)
  unfold encF
  rw [if_pos]
  rw [List.all_eq_true]
  intro s hs
  rw [List.all_eq_true]
  exact key s hs
theorem trimU {w w' : World} {r : List Int × Int} {e : Ending} (X : List Int) (k : Int) (hr : r = (X, k)) (hx : k ≠ 0 → X = []) (h : TrimPost w r e w') : EncU w X k e w' := by
  subst hr
  obtain ⟨hb, hok, hbad⟩ := h
  by_cases h0 : k = 0
  · subst h0
    obtain ⟨A, c, he, h1, h2, h3⟩ := hok rfl
    exact ⟨A, _, c, he, hb, h1, h2, h3⟩
  · rw [hx h0]
    exact ⟨Option.none, 0, 0, hbad h0, hb, RdB.none, Nat.le_refl _, by decide⟩
theorem trim_both {G : List (List Int)} {b : List Int} (hG : G.length + (decF b).1.length ≤ 2147483647) : ∃ X k, trimF G b = (X, k) ∧ (k ≠ 0 → X = []) ∧ ∀ w e w', RTrimPost w G b e w' → EncU w X k e w' := by
  by_cases h : (chkF G b).2 = 0
  · have h2 := trimL_ok h hG
    refine ⟨(encF (trimL G.length (chkF G b).1)).1, 0, ?_, fun h => absurd rfl h, fun w e w' hp => hp.2 h⟩
    unfold trimF
    rw [if_neg (by simpa using h), ← h2]
  · refine ⟨[], (chkF G b).2, ?_, fun _ => rfl, fun w e w' hp => hp.1 h⟩
    unfold trimF
    rw [if_pos h]
set_option maxRecDepth 100000 in
set_option maxHeartbeats 4000000 in
theorem traceChecks_any (A0 : Option Addr) (n0 cap0 : Nat) (z0 : List (List Int)) (A1 : Option Addr) (n1 cap1 : Nat) (z1 : List Int) (w : World) (w0 : Rd2 w A0 n0 z0) (w1 : RdB w A1 n1 z1 ∧ IsBytes z1 ∧ n1 ≤ cap1 ∧ cap1 ≤ 9223372036854775807) :
    Calls Try.prog 5 #[.slice A0 n0 cap0, .slice A1 n1 cap1] w fun e w' => e = .returned (.bool true) ∧ Below w.heap.size w w' := by
  obtain ⟨w1, hby, hcap, hcm⟩ := w1
  have HC0 := Lib.hid w0
  have HB0 := Lib.hid w1
  have HBY := Lib.hid hby
  have hs1 := w1.small
  obtain ⟨lb, hlb⟩ : ∃ lb, lightB z0 [] = lb := ⟨_, rfl⟩
  have hlight := fun V (h : Rd2 V A0 n0 z0) => light_any A0 none n0 cap0 0 0 z0 [] V h (Rd2.none V)
  rw [hlb] at hlight
  have HLI := Lib.hid hlight
  have HLB := Lib.hid hlb
  clear w0 w1 hby hlight hlb
  go_enter Try.func5, Try.ntmps5
  go_wp2_with fail
  refine (known_any w).mono ?_
  rintro e w2 ⟨rfl, hb⟩
  have HW2 := Lib.hid hb
  have HC2 := Lib.hid (HC0.out.grow hb)
  have HB2 := Lib.hid (HB0.out.grow hb)
  clear hb
  go_wp2_with fail
  refine (HLI.out _ HC2.out).mono ?_
  rintro e w3 ⟨rfl, rfl⟩
  cases lb with
  | false =>
    go_wp2
    go_ret
    exact ⟨rfl, HW2.out⟩
  | true =>
  by_cases hlen : 6000 < n1
  · have hd : decide ((6000 : Int) < (n1 : Int)) = true := by simp; omega
    go_wp2
    go_ret
    exact ⟨rfl, HW2.out⟩
  have hd : decide ((6000 : Int) < (n1 : Int)) = false := by simp; omega
  have hll := (light_both HLB.out).1
  have hzl := HC2.out.len
  have hbl := HB2.out.len
  have hms := decF_small (b := z1) (M := (decF z1).1) (k := (decF z1).2) (by simp) (by omega)
  have HFL := Lib.hid (show z0.flatten.length ≤ 1000 by rw [flatten_len]; omega)
  have hn0 : n0 ≤ 1000 := by omega
  obtain ⟨X, k, hX, hk, hR⟩ := trim_both (G := z0) (b := z1) (by omega)
  have HX := Lib.hid hX
  have HK := Lib.hid hk
  have HR := Lib.hid hR
  obtain ⟨ck, hck⟩ : ∃ ck, (chkF z0 z1).2 = ck := ⟨_, rfl⟩
  have HCK := Lib.hid hck
  have e0 : (k == k) = true := by simp
  have e1 : (ck == ck) = true := by simp
  clear hll hzl hbl hms hX hk hR hck
  go_wp2_with fail
  refine (copyBytes_any A1 n1 cap1 z1 w2 HB2.out (by omega)).mono ?_
  rintro e w6 ⟨ka, kc, rfl, k6⟩
  unfold slv
  obtain ⟨A6, hA6⟩ : ∃ A : Option Addr, (ka.map fun b => ⟨b, 0, none⟩) = A := ⟨_, rfl⟩
  rw [hA6]
  have hb := k6.below
  have hk6 : St w2.heap.size w2 w6 (star (slb 5 ka kc z1) emp) := k6.conseq (star_emp _).symm
  have hr := St.rdB hk6 (by have := HB2.out.len; omega)
  rw [hA6, HB2.out.len] at hr
  have hkc := slb_facts hk6
  rw [HB2.out.len] at hkc
  have HW6 := Lib.hid (btr HW2.out hb)
  have HC6 := Lib.hid (HC2.out.grow hb)
  have HB6 := Lib.hid (HB2.out.grow hb)
  have HZ6 := Lib.hid hr
  have hkc1 := hkc.1
  have hkc2 : kc ≤ 9223372036854775807 := by have := hkc.2; unfold maxLen at this; omega
  clear hb hr k6 hk6 hA6 hkc
  go_wp2_with fail
  refine (trim_any A0 n0 cap0 z0 A6 n1 kc z1 w6 HC6.out HZ6.out HBY.out (by omega) (by omega) hkc1 hkc2 (Nat.le_trans HFL.out (by omega))).mono ?_
  intro e w7 hp
  obtain ⟨A7, n7, c7, rfl, hb, hr, _, _⟩ := trimU X k HX.out HK.out hp
  have HW7 := Lib.hid (btr HW6.out hb)
  have HC7 := Lib.hid (HC6.out.grow hb)
  have HB7 := Lib.hid (HB6.out.grow hb)
  have HZ7 := Lib.hid (HZ6.out.grow hb)
  have HX7 := Lib.hid hr
  clear hb hr hp
  go_wp2_with fail
  refine (rtrim_any A0 n0 cap0 z0 A1 n1 cap1 z1 w7 HC7.out HB7.out HBY.out (by omega) (by omega) hcap hcm (Nat.le_trans HFL.out (by omega))).mono ?_
  intro e w8 hp
  obtain ⟨A8, n8, c8, rfl, hb, hr, _, _⟩ := HR.out _ _ _ hp
  have HW8 := Lib.hid (btr HW7.out hb)
  have HC8 := Lib.hid (HC7.out.grow hb)
  have HB8 := Lib.hid (HB7.out.grow hb)
  have HZ8 := Lib.hid (HZ7.out.grow hb)
  have HX8 := Lib.hid (HX7.out.grow hb)
  have HY8 := Lib.hid hr
  clear hb hr hp
  go_wp2_with fail
  refine (check_any A0 n0 cap0 z0 A6 n1 kc z1 w8 HC8.out HZ8.out HBY.out (by omega) (by omega) hkc1 hkc2 (Nat.le_trans HFL.out (by omega))).mono ?_
  rw [HCK.out]
  rintro e w9 ⟨rfl, hb⟩
  have HW9 := Lib.hid (btr HW8.out hb)
  have HC9 := Lib.hid (HC8.out.grow hb)
  have HB9 := Lib.hid (HB8.out.grow hb)
  have HZ9 := Lib.hid (HZ8.out.grow hb)
  have HX9 := Lib.hid (HX8.out.grow hb)
  have HY9 := Lib.hid (HY8.out.grow hb)
  clear hb
  go_wp2_with fail
  refine (rcheck_any A0 n0 cap0 z0 A1 n1 cap1 z1 w9 HC9.out HB9.out HBY.out (by omega) (by omega) hcap hcm (Nat.le_trans HFL.out (by omega))).mono ?_
  rw [HCK.out]
  rintro e w10 ⟨rfl, hb⟩
  have HW10 := Lib.hid (btr HW9.out hb)
  have HB10 := Lib.hid (HB9.out.grow hb)
  have HZ10 := Lib.hid (HZ9.out.grow hb)
  have HX10 := Lib.hid (HX9.out.grow hb)
  have HY10 := Lib.hid (HY9.out.grow hb)
  clear hb
  go_wp2_with fail
  refine (bytes_any A7 A8 n7 c7 n8 c8 X X w10 HX10.out HY10.out).mono ?_
  rintro e w11 ⟨rfl, hD⟩
  rw [eqB_iff.2 rfl]
  have HW11 := Lib.hid (btr HW10.out (hD.below _))
  have HB11 := Lib.hid (HB10.out.grow (hD.below _))
  have HZ11 := Lib.hid (HZ10.out.grow (hD.below _))
  clear hD
  go_wp2_with fail
  refine (bytes_any A6 A1 n1 kc n1 cap1 z1 z1 w11 HZ11.out HB11.out).mono ?_
  rintro e w12 ⟨rfl, hD⟩
  rw [eqB_iff.2 rfl]
  have HW12 := Lib.hid (btr HW11.out (hD.below _))
  clear hD
  go_wp2
  go_ret
  exact ⟨rfl, HW12.out⟩
end Go.Proofs.Ytodmkcolamppmaa
