/-
  The contract of trace's Derive.
-/
import Derived.Test.YtodmkcolamppmaaDer6
import Derived.Test.YtodmkcolamppmaaClone
namespace Go.Proofs.PlaitSep
open Go Go.RowKit Go.Proofs.PlaitPure
theorem RowsV.set {w : World} {V : List Value} {D : List (List Int)} {A : Option Addr} {j : Nat} (h : RowsV w V D) (hj : j < D.length) (hr : Rd w A (gl D j).length (gl D j)) (c n : Nat) (hn : (gl D j).length = n) : RowsV w (V.set j (.slice A n c)) D := by
  subst hn
  refine ⟨by simp [h.1], fun i hi => ?_⟩
  by_cases e : i = j
  · subst e
    exact ⟨A, c, by rw [List.getElem?_set_self (by rw [h.1]; exact hj)], hr⟩
  · obtain ⟨A2, c2, h1, h2⟩ := h.2 i hi
    exact ⟨A2, c2, by rw [List.getElem?_set_ne (Ne.symm e)]; exact h1, h2⟩
theorem NoI.set {w : World} {b i : Nat} {u v : Value} (h : NoI w (some b)) (hc : w.cell? ⟨b, i, none⟩ = some u) (hv : ∀ x, v ≠ .int .i64 x) : NoI (w.setCell ⟨b, i, none⟩ v) (some b) := by
  intro b0 e k y hy
  cases e
  by_cases hk : k = i
  · subst hk
    rw [World.cell?_setCell_same w _ _ hc] at hy
    cases hy
    exact hv
  · have hne : (⟨b, i, none⟩ : Addr) ≠ ⟨b, k, none⟩ := by intro e; cases e; exact hk rfl
    rw [World.cell?_setCell_other (h := hne)] at hy
    exact h b rfl k y hy
end Go.Proofs.PlaitSep
namespace Go.Proofs.Ytodmkcolamppmaa
open Go.RowKit Go.Proofs.PlaitSep Go.Proofs.PlaitPure

/-- What Derive hands back. -/
def DervPost (w : World) (r : Option (List (List Int))) (e : Ending) (w' : World) : Prop :=
  Below w.heap.size w w' ∧ (∀ D, r = some D → ∃ A c, e = .returned (.tuple #[.slice A D.length c, .int .i64 0]) ∧ Rd2 w' A D.length D ∧ D.length ≤ c) ∧
    (r = none → e = .returned (.tuple #[.slice none 0 0, .int .i64 121]))
theorem derGo_len {G : List (List Int)} : ∀ {l D E : List (List Int)}, derGo G D l = some E → E.length = D.length + l.length
  | [], D, E, h => by cases h; simp
  | s :: r, D, E, h => by
    unfold derGo at h
    split at h
    · cases h
    · have := derGo_len h
      simp at this ⊢
      omega
theorem derGo_good {G : List (List Int)} : ∀ {l D E : List (List Int)}, GoodD G D → derGo G D l = some E → GoodD G E
  | [], D, E, hD, h => by cases h; exact hD
  | s :: r, D, E, hD, h => by
    unfold derGo at h
    split at h
    · cases h
    · rename_i h1; exact derGo_good (hD.snoc h1) h
theorem goodD_nil (G : List (List Int)) : GoodD G [] := fun d hd => by cases hd
set_option maxRecDepth 100000 in
set_option maxHeartbeats 4000000 in
theorem Derive_any (AG : Option Addr) (nG cG : Nat) (G : List (List Int)) (AL : Option Addr) (nL cL : Nat) (l : List (List Int)) (w : World) (hG : Rd2 w AG nG G) (hL : Rd2 w AL nL l) (hcap : Caps w AL nL) (hnG : nG ≤ 1000000) (hnL : nL ≤ 1000000)
    (hsum : G.flatten.length ≤ 1000000) (hLs : ∀ j, j < nL → (gl l j).length ≤ 100000) :
    Calls Try.prog 22 #[.slice AG nG cG, .slice AL nL cL] w (DervPost w (derGo G [] l)) := by
  have HD := Lib.hid (derive_any AG nG cG G AL nL cL l w hG hL hcap hnG hnL hsum hLs)
  have HLL := Lib.hid hL.len
  have HSUM := Lib.hid hsum
  clear hG hL hcap hsum hLs
  go_enter Try.func22, Try.ntmps22
  go_wp2_with fail
  refine HD.out.mono ?_
  rintro e w1 ⟨hb, hgood, hbad⟩
  obtain ⟨a, c, V, D, kk, hkk, rfl, hst, hrv, hni, hspec⟩ : ∃ (a : Option Nat) (c : Nat) (V : List Value) (D : List (List Int)) (kk : Int), True ∧ e = .returned (.tuple #[.slice (a.map fun b => ⟨b, 0, none⟩) D.length c, .int .i64 kk]) ∧
      St w.heap.size w w1 (star (sl a D.length c 51 1 V) emp) ∧ RowsV w1 V D ∧ NoI w1 a ∧ ((derGo G [] l = some D ∧ kk = 0) ∨ (derGo G [] l = none ∧ D = [] ∧ kk = 121 ∧ a = none ∧ c = 0)) := by
    cases hd : derGo G [] l with
    | none =>
      refine ⟨none, 0, [], [], 121, trivial, hbad hd, ?_, RowsV.nil _, fun b e => (by cases e), .inr ⟨rfl, rfl, rfl, rfl, rfl⟩⟩
      have : (star (sl none ([] : List (List Int)).length 0 51 1 []) emp) = emp := by rw [List.length_nil, sl_none, star_emp]
      rw [this]
      exact ⟨hb, hb.size, Sat.emp _ _⟩
    | some D =>
      obtain ⟨a, c, V, he, h1, h2, h3⟩ := hgood D hd
      exact ⟨a, c, V, D, 0, trivial, he, h1, h2, h3, .inl ⟨rfl, rfl⟩⟩
  have hDn : D.length ≤ 1000000 := by
    rcases hspec with ⟨h, _⟩ | ⟨_, rfl, _⟩
    · have := derGo_len h
      have := HLL.out
      simp at *
      omega
    · simp
  have hDl : ∀ d ∈ D, d.length ≤ 1000000 := by
    rcases hspec with ⟨h, _⟩ | ⟨_, rfl, _⟩
    · exact fun d hd => Nat.le_trans ((derGo_good (goodD_nil G) h).len d hd) HSUM.out
    · exact fun d hd => by cases hd
  obtain ⟨n, hn⟩ : ∃ n, D.length = n := ⟨_, rfl⟩
  obtain ⟨AA, hAA⟩ : ∃ AA : Option Addr, (a.map fun b => ⟨b, 0, none⟩) = AA := ⟨_, rfl⟩
  rw [hn] at hst hDn ⊢
  rw [hAA]
  have HAA := Lib.hid hAA
  have HN := Lib.hid hn
  have HST := Lib.hid hst
  have HRV := Lib.hid hrv
  have HNI := Lib.hid hni
  have HSP := Lib.hid hspec
  have HDL := Lib.hid hDl
  clear hb hgood hbad hkk hn hAA hst hrv hni hspec hDl HD
  go_wp2
  go_loopw [17] (fun v17 wr => ∃ (i : Nat) (V : List Value), i ≤ n ∧ v17 = .int .i64 i ∧ Hid (St w.heap.size w wr (star (sl a n c 51 1 V) emp)) ∧ Hid (RowsV wr V D) ∧ Hid (NoI wr a)) (fun v17 _ => n - (intOf v17).toNat)
  case atStart => exact ⟨0, V, Nat.zero_le _, rfl, HST.out, HRV.out, HNI.out⟩
  case round =>
    obtain ⟨i, V, hi, rfl, HST, HRV, HNI⟩ := hrel
    by_cases hin : i < n
    · obtain ⟨b, hab⟩ : ∃ b, a = some b := by
        cases a with
        | some b => exact ⟨b, rfl⟩
        | none => have := (HST.out.sat.sl_facts.2.2.2.1 rfl).1; omega
      have haa := HAA.out
      rw [hab] at haa
      simp only [Option.map_some] at haa
      subst haa hab
      have hiD : i < D.length := by rw [HN.out]; exact hin
      obtain ⟨Ai, ci, hv, hr⟩ := HRV.out.2 i hiD
      have hVi : i < V.length := by rw [HRV.out.1]; exact hiD
      have d1 : wr.cell? ⟨b, i, none⟩ = some (.slice Ai (gl D i).length ci) := (HST.out.sl_cell i hVi).trans hv
      obtain ⟨xs, hxs⟩ : ∃ xs, gl D i = xs := ⟨_, rfl⟩
      obtain ⟨ln, hln⟩ : ∃ ln, xs.length = ln := ⟨_, rfl⟩
      have hsm : xs.length ≤ 1000000 := by rw [← hxs, gl_eq D i hiD]; exact HDL.out _ (List.getElem_mem _)
      rw [hxs, hln] at d1 hr
      rw [hln] at hsm
      have HXS := Lib.hid hxs
      have HLN := Lib.hid hln
      have HR := Lib.hid hr
      have HVI := Lib.hid hVi
      have i0 : (0 : Int) ≤ (i : Int) := by omega
      have i1 : (i : Int) < (n : Int) := by omega
      clear hv hr hVi hxs hln
      go_wp2_with fail
      refine (clone_any Ai ln ci xs wr HR.out hsm).mono ?_
      rintro e w3 ⟨ka, kc, rfl, k3⟩
      have hrd : Rd w3 (ka.map fun b => ⟨b, 0, none⟩) xs.length xs := St.rd (k3.conseq (star_emp _).symm) (by rw [HLN.out]; omega)
      have hst3 := HST.out.grow k3.below
      have hni3 := HNI.out.grow HST.out.sl_lt k3.below
      have hrv3 := HRV.out.grow k3.below
      have d3 : w3.cell? ⟨b, i, none⟩ = some (.slice Ai ln ci) := (k3.below.cell (World.block_lt_of_cell? wr _ d1)).trans d1
      have hrd4 := hrd.keepO (w' := w3.setCell ⟨b, i, none⟩ (.slice (ka.map fun b => ⟨b, 0, none⟩) ln kc)) hni3 fun k _ hk => setCell_others k fun e => hk (by rw [e])
      have hrv4 := (hrv3.keepO (w' := w3.setCell ⟨b, i, none⟩ (.slice (ka.map fun b => ⟨b, 0, none⟩) ln kc)) hni3 fun k _ hk => setCell_others k fun e => hk (by rw [e])).set hiD (by rw [HXS.out]; exact hrd4) kc ln (by rw [HXS.out]; exact HLN.out)
      have hni4 := hni3.set (v := .slice (ka.map fun b => ⟨b, 0, none⟩) ln kc) d3 (by simp)
      have HS3 := Lib.hid hst3
      have HRV4 := Lib.hid hrv4
      have HNI4 := Lib.hid hni4
      rw [show slv ka xs.length kc = .slice (ka.map fun b => ⟨b, 0, none⟩) ln kc by rw [HLN.out]; rfl]
      clear k3 hrd hst3 hni3 hrv3 hrd4 hrv4 hni4 hiD d1
      go_wp2_with (refine wpList_store_slk rfl 51 _ _ rfl Try.sizeRow HS3.out i (.slice (ka.map fun b => ⟨b, 0, none⟩) ln kc) rfl rfl rfl HVI.out ?_; intro w4 h4 hw4; have H4 := Lib.hid h4; subst hw4; clear h4)
      go_roundw
      case rel =>
        exact ⟨i + 1, V.set i (.slice (ka.map fun b => ⟨b, 0, none⟩) ln kc), by omega, by go_num, H4.out, HRV4.out, HNI4.out⟩
      case measure => simp [intOf]; omega
    · obtain rfl : i = n := by omega
      have hrd := HRV.out.rd2 HST.out (by omega)
      rw [HAA.out] at hrd
      have hnc := HST.out.sat.sl_facts.2.1
      have HRD := Lib.hid hrd
      clear hrd
      go_wp2
      go_ret2
      refine ⟨HST.out.below, fun E hE => ?_, fun hE => ?_⟩
      · rcases HSP.out with ⟨h, rfl⟩ | ⟨h, _⟩
        · rw [h] at hE
          cases hE
          exact ⟨_, c, by rw [HN.out]; rfl, by rw [HN.out]; exact HRD.out, by rw [HN.out]; exact hnc⟩
        · rw [h] at hE; cases hE
      · rcases HSP.out with ⟨h, rfl⟩ | ⟨_, rfl, rfl, rfl, rfl⟩
        · rw [h] at hE; cases hE
        · rw [← HN.out, ← HAA.out]; rfl
end Go.Proofs.Ytodmkcolamppmaa
