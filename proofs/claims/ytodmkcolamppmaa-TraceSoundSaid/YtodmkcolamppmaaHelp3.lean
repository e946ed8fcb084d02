/-
  The contracts of plaithelp's CopyLists and of plaitlaw12's steps, lists and light.
-/
import Derived.Test.YtodmkcolamppmaaHelp2
namespace Go.Proofs.Ytodmkcolamppmaa
open Go.RowKit Go.Proofs.PlaitSep Go.Proofs.PlaitPure

/-- What a function that makes lists hands back: n lists that read as xss; nothing else has turned. -/
def ListsPost (w : World) (n : Nat) (xss : List (List Int)) (e : Ending) (w' : World) : Prop :=
  ∃ A c, e = .returned (.slice A n c) ∧ Below w.heap.size w w' ∧ Rd2 w' A n xss ∧ Caps w' A n ∧ n ≤ c
def lightB (c l : List (List Int)) : Bool := decide (sizeF c 1000 ≤ 1000) && decide (sizeF l 1000 ≤ 1000) && decide (c.length ≤ 200) && decide (l.length ≤ 200)
set_option maxRecDepth 100000 in
set_option maxHeartbeats 2000000 in
theorem copyLists_own (A : Option Addr) (n cap : Nat) (xss : List (List Int)) (w : World) (hr : Rd2 w A n xss) (hn : n ≤ 1000000) (hs : ∀ j, j < n → (gl xss j).length ≤ 1000000) :
    Calls Try.prog 21 #[.slice A n cap] w fun e w' => ∃ (a : Option Nat) (c : Nat) (W : Rws), e = .returned (.slice (a.map fun b => ⟨b, 0, none⟩) n c) ∧ St w.heap.size w w' (star (rwsHP 51 a c W) emp) ∧ W.map (fun x => x.2.2) = xss ∧ W.length = n := by
  have HR := Lib.hid hr
  have HS := Lib.hid hs
  clear hr hs
  go_enter Try.func21, Try.ntmps21
  go_wp2
  go_loopw [3, 4] (fun v3 v4 wr => ∃ (j : Nat) (a : Option Nat) (c : Nat) (W : Rws), j ≤ n ∧ v4 = .int .i64 j ∧ v3 = .slice (a.map fun b => ⟨b, 0, none⟩) j c ∧ Hid (St w.heap.size w wr (star (rwsHP 51 a c W) emp)) ∧ Hid (W.map (fun x => x.2.2) = xss.take j) ∧ Hid (W.length = j)) (fun _ v4 _ => n - (intOf v4).toNat)
  case atStart => exact ⟨0, none, 0, [], Nat.zero_le _, rfl, rfl, (by rw [rwsHP_nil, star_emp]; exact St.start w : St w.heap.size w w (star (rwsHP 51 none 0 []) emp)), (rfl : ([] : Rws).map (fun x => x.2.2) = xss.take 0), (rfl : ([] : Rws).length = 0)⟩
  case round =>
    obtain ⟨j, a, c, W, hj, rfl, rfl, HST, HC, HL⟩ := hrel
    by_cases hjn : j < n
    · obtain ⟨ab, ao, hA, hc⟩ := (HR.out.grow HST.out.below).cells (by omega)
      subst hA
      obtain ⟨Aj, cj, d1, hrj⟩ := hc j hjn
      have hsm := HS.out j hjn
      obtain ⟨xs, hxs⟩ : ∃ xs, gl xss j = xs := ⟨_, rfl⟩
      obtain ⟨ln, hln⟩ : ∃ ln, xs.length = ln := ⟨_, rfl⟩
      rw [hxs, hln] at d1 hrj
      rw [hxs, hln] at hsm
      have htk : xss.take (j + 1) = xss.take j ++ [xs] := by rw [take_gl xss j (by have := HR.out.len; omega), hxs]
      have HTK := Lib.hid htk
      have HRJ := Lib.hid hrj
      have HLN := Lib.hid hln
      have hj0 : (0 : Int) ≤ (j : Int) := by omega
      have hj1 : (j : Int) < (n : Int) := by omega
      clear hc hrj hxs hln htk
      go_wp2_with fail
      refine (copyInts_any Aj ln cj xs wr HRJ.out (by omega)).mono ?_
      rintro e w3 ⟨ka, kc, rfl, k3⟩
      have h3 := rws_focus ((HST.out.nest k3).conseq (show _ = star (rwsHP 51 a c W) (sli 3 ka kc xs) by rw [star_emp]; ac_rfl)) HL.out
      have H3 := Lib.hid h3
      clear k3 h3
      unfold slv
      go_wp2_with (at_builtin; refine wpList_append1 rfl _ _ 22 51 (.slice none 0 0) 24 rfl Try.underlying22 Try.infoRow rfl H3.out rfl (.slice (ka.map fun b => ⟨b, 0, none⟩) ln kc) rfl rfl (by omega) (by simp only [maxLen]; omega) ?_; intro b' c' w4 h4; have H4 := Lib.hid h4; clear h4)
      have h5 := rws_push (F := emp) (ka := ka) (kc := kc) (l := xs) HL.out (by rw [HLN.out]; exact H4.out.conseq (by rw [star_emp]; ac_rfl))
      have H5 := Lib.hid h5
      clear h5
      go_wp2
      go_roundw
      case rel =>
        refine ⟨j + 1, some b', c', W ++ [(ka, kc, xs)], by omega, by go_num, rfl, H5.out, (?_ : (W ++ [(ka, kc, xs)]).map (fun x => x.2.2) = xss.take (j + 1)), (?_ : (W ++ [(ka, kc, xs)]).length = j + 1)⟩
        · rw [HTK.out, List.map_append, HC.out]; rfl
        · rw [List.length_append, HL.out]; rfl
      case measure => simp [intOf]; omega
    · obtain rfl : j = n := by omega
      have hlen := HR.out.len
      have htk := HC.out
      rw [List.take_of_length_le (by omega)] at htk
      have HTK := Lib.hid htk
      clear hlen htk
      go_wp2
      go_ret
      exact ⟨a, c, W, rfl, HST.out, HTK.out, HL.out⟩
theorem copyLists_any (A : Option Addr) (n cap : Nat) (xss : List (List Int)) (w : World) (hr : Rd2 w A n xss) (hn : n ≤ 1000000) (hs : ∀ j, j < n → (gl xss j).length ≤ 1000000) :
    Calls Try.prog 21 #[.slice A n cap] w (ListsPost w n xss) := by
  refine (copyLists_own A n cap xss w hr hn hs).mono ?_
  rintro e w' ⟨a, c, W, rfl, hst, rfl, rfl⟩
  have hrd := rws_rd hst (fun x hx => by
    obtain ⟨i, hi, e⟩ := List.getElem_of_mem (List.mem_map.2 ⟨x, hx, rfl⟩ : x.2.2 ∈ W.map fun x => x.2.2)
    have := hs i (by simpa using hi)
    rw [gl_eq _ _ hi, e] at this
    omega) (by omega)
  exact ⟨_, c, rfl, hst.below, hrd, rws_caps hst rfl, (rws_focus hst rfl).sat.sl_facts.2.1⟩
set_option maxRecDepth 100000 in
set_option maxHeartbeats 2000000 in
theorem steps_any (A : Option Addr) (n cap : Nat) (xss : List (List Int)) (w : World) (hr : Rd2 w A n xss) (hn : n ≤ 1000000) (hs : ∀ j, j < n → (gl xss j).length ≤ 1000000) :
    Calls Try.prog 12 #[.slice A n cap] w (ListsPost w n xss) := by
  have HR := Lib.hid hr
  have HS := Lib.hid hs
  clear hr hs
  go_enter Try.func12, Try.ntmps12
  go_wp2
  go_loopw [3, 4] (fun v3 v4 wr => ∃ (j : Nat) (a : Option Nat) (c : Nat) (W : Rws), j ≤ n ∧ v4 = .int .i64 j ∧ v3 = .slice (a.map fun b => ⟨b, 0, none⟩) j c ∧ Hid (St w.heap.size w wr (star (rwsHP 57 a c W) emp)) ∧ Hid (W.map (fun x => x.2.2) = xss.take j) ∧ Hid (W.length = j)) (fun _ v4 _ => n - (intOf v4).toNat)
  case atStart => exact ⟨0, none, 0, [], Nat.zero_le _, rfl, rfl, (by rw [rwsHP_nil, star_emp]; exact St.start w : St w.heap.size w w (star (rwsHP 57 none 0 []) emp)), (rfl : ([] : Rws).map (fun x => x.2.2) = xss.take 0), (rfl : ([] : Rws).length = 0)⟩
  case round =>
    obtain ⟨j, a, c, W, hj, rfl, rfl, HST, HC, HL⟩ := hrel
    by_cases hjn : j < n
    · obtain ⟨ab, ao, hA, hc⟩ := (HR.out.grow HST.out.below).cells (by omega)
      subst hA
      obtain ⟨Aj, cj, d1, hrj⟩ := hc j hjn
      have hsm := HS.out j hjn
      obtain ⟨xs, hxs⟩ : ∃ xs, gl xss j = xs := ⟨_, rfl⟩
      obtain ⟨ln, hln⟩ : ∃ ln, xs.length = ln := ⟨_, rfl⟩
      rw [hxs, hln] at d1 hrj
      rw [hxs, hln] at hsm
      have htk : xss.take (j + 1) = xss.take j ++ [xs] := by rw [take_gl xss j (by have := HR.out.len; omega), hxs]
      have HTK := Lib.hid htk
      have HRJ := Lib.hid hrj
      have HLN := Lib.hid hln
      have hj0 : (0 : Int) ≤ (j : Int) := by omega
      have hj1 : (j : Int) < (n : Int) := by omega
      clear hc hrj hxs hln htk
      go_wp2_with fail
      refine (copyInts_any Aj ln cj xs wr HRJ.out (by omega)).mono ?_
      rintro e w3 ⟨ka, kc, rfl, k3⟩
      have h3 := rws_focus ((HST.out.nest k3).conseq (show _ = star (rwsHP 57 a c W) (sli 3 ka kc xs) by rw [star_emp]; ac_rfl)) HL.out
      have H3 := Lib.hid h3
      clear k3 h3
      unfold slv
      go_wp2_with (at_builtin; refine wpList_append1 rfl _ _ 26 57 (.agg #[.slice none 0 0]) 24 rfl Try.underlying26 Try.infoStep rfl H3.out rfl (.slice (ka.map fun b => ⟨b, 0, none⟩) ln kc) rfl rfl (by omega) (by simp only [maxLen]; omega) ?_; intro b' c' w4 h4; have H4 := Lib.hid h4; clear h4)
      have h5 := rws_push (F := emp) (ka := ka) (kc := kc) (l := xs) HL.out (by rw [HLN.out]; exact H4.out.conseq (by rw [star_emp]; ac_rfl))
      have H5 := Lib.hid h5
      clear h5
      go_wp2
      go_roundw
      case rel =>
        refine ⟨j + 1, some b', c', W ++ [(ka, kc, xs)], by omega, by go_num, rfl, H5.out, (?_ : (W ++ [(ka, kc, xs)]).map (fun x => x.2.2) = xss.take (j + 1)), (?_ : (W ++ [(ka, kc, xs)]).length = j + 1)⟩
        · rw [HTK.out, List.map_append, HC.out]; rfl
        · rw [List.length_append, HL.out]; rfl
      case measure => simp [intOf]; omega
    · obtain rfl : j = n := by omega
      have hlen := HR.out.len
      have htk := HC.out
      rw [List.take_of_length_le (by omega)] at htk
      have hrd := rws_rd HST.out (fun x hx => by
        have hm : x.2.2 ∈ xss := by rw [← htk]; exact List.mem_map.2 ⟨x, hx, rfl⟩
        obtain ⟨i, hi, e⟩ := List.getElem_of_mem hm
        have := HS.out i (by omega)
        rw [gl_eq _ _ hi, e] at this
        omega) (by rw [HL.out]; omega)
      rw [HL.out, htk] at hrd
      have HRD := Lib.hid hrd
      have hnc := (rws_focus HST.out HL.out).sat.sl_facts.2.1
      clear hlen htk hrd
      go_wp2
      go_ret
      exact ⟨_, c, rfl, HST.out.below, HRD.out, rws_caps HST.out HL.out, hnc⟩
set_option maxHeartbeats 400000 in
theorem light_any (A A' : Option Addr) (n cap m cap' : Nat) (xss yss : List (List Int)) (w : World) (hr : Rd2 w A n xss) (hr' : Rd2 w A' m yss) :
    Calls Try.prog 11 #[.slice A n cap, .slice A' m cap'] w fun e w' => e = .returned (.bool (lightB xss yss)) ∧ w = w' := by
  have hs := hr.small
  have hs' := hr'.small
  obtain ⟨s, hz⟩ : ∃ s, sizeF xss 1000 = s := ⟨_, rfl⟩
  obtain ⟨t, hz'⟩ : ∃ t, sizeF yss 1000 = t := ⟨_, rfl⟩
  have h1 := size_any A n cap xss 1000 w hr (by omega) (by omega)
  have h2 := size_any A' m cap' yss 1000 w hr' (by omega) (by omega)
  have hL : lightB xss yss = (decide (s ≤ 1000) && decide (t ≤ 1000) && decide (n ≤ 200) && decide (m ≤ 200)) := by unfold lightB; rw [hz, hz', hr.len, hr'.len]
  rw [hz] at h1
  rw [hz'] at h2
  have H1 := Lib.hid h1
  have H2 := Lib.hid h2
  have HL := Lib.hid hL
  clear h1 h2 hL hz hz' hr hr'
  by_cases a1 : s ≤ 1000
  · have e1 : decide (s ≤ 1000) = true := by simpa using a1
    by_cases a2 : t ≤ 1000
    · have e2 : decide (t ≤ 1000) = true := by simpa using a2
      by_cases a3 : n ≤ 200
      · have e3 : decide ((n : Int) ≤ 200) = true := by simp; omega
        by_cases a4 : m ≤ 200
        · have e4 : decide ((m : Int) ≤ 200) = true := by simp; omega
          go_enter Try.func11, Try.ntmps11
          go_wp2_with fail
          refine H1.out.mono ?_
          rintro e w2 ⟨rfl, rfl⟩
          go_wp2_with fail
          refine H2.out.mono ?_
          rintro e w2 ⟨rfl, rfl⟩
          go_wp2
          go_ret
          exact ⟨ret_bool (by rw [HL.out]; simp [a1, a2, a3, a4]), rfl⟩
        · have e4 : decide ((m : Int) ≤ 200) = false := by simp; omega
          go_enter Try.func11, Try.ntmps11
          go_wp2_with fail
          refine H1.out.mono ?_
          rintro e w2 ⟨rfl, rfl⟩
          go_wp2_with fail
          refine H2.out.mono ?_
          rintro e w2 ⟨rfl, rfl⟩
          go_wp2
          go_ret
          exact ⟨ret_bool (by rw [HL.out]; simp [a4]), rfl⟩
      · have e3 : decide ((n : Int) ≤ 200) = false := by simp; omega
        go_enter Try.func11, Try.ntmps11
        go_wp2_with fail
        refine H1.out.mono ?_
        rintro e w2 ⟨rfl, rfl⟩
        go_wp2_with fail
        refine H2.out.mono ?_
        rintro e w2 ⟨rfl, rfl⟩
        go_wp2
        go_ret
        exact ⟨ret_bool (by rw [HL.out]; simp [a3]), rfl⟩
    · have e2 : decide (t ≤ 1000) = false := by simpa using a2
      go_enter Try.func11, Try.ntmps11
      go_wp2_with fail
      refine H1.out.mono ?_
      rintro e w2 ⟨rfl, rfl⟩
      go_wp2_with fail
      refine H2.out.mono ?_
      rintro e w2 ⟨rfl, rfl⟩
      go_wp2
      go_ret
      exact ⟨ret_bool (by rw [HL.out]; simp [e2]), rfl⟩
  · have e1 : decide (s ≤ 1000) = false := by simpa using a1
    go_enter Try.func11, Try.ntmps11
    go_wp2_with fail
    refine H1.out.mono ?_
    rintro e w2 ⟨rfl, rfl⟩
    go_wp2
    go_ret
    exact ⟨ret_bool (by rw [HL.out]; simp [e1]), rfl⟩
end Go.Proofs.Ytodmkcolamppmaa
