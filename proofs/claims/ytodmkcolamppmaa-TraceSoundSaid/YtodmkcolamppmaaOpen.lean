/-
  A row's arguments, opened: slices of whole numbers, and slices of these. General: no program in sight.
-/
import Derived.Test.YtodmkcolamppmaaRead
import Derived.ProofKit
import Derived.OpenShut
import Derived.ShutString
import Derived.ChangeOld
import Derived.Below
import Derived.SizedLaws
import Derived.Deep.Matrix
namespace Go.Proofs.PlaitSep
open Go Go.RowKit Go.ChangeShapes Go.WideShapes Go.ChangeAt Go.Deep Go.Proofs.PlaitPure
theorem weightsAll_in {H : Type} {P : Program} {e : TypeId} : ∀ {ds : List (DataW H)} {d : DataW H}, d ∈ ds → ∀ n ∈ d.weights P e, n ∈ DataW.weightsAll P e ds
  | x :: r, d, hd, n, hn => by
    simp only [DataW.weightsAll, List.mem_append]
    rcases List.mem_cons.1 hd with rfl | h
    · exact Or.inl hn
    · exact Or.inr (weightsAll_in h n hn)
theorem inner_sized {H : Type} {P : Program} {ts : List TypeId} {ds : List (DataW H)} (h : (DataW.weightsEach P ts ds).all (· ≤ reachBytes) = true) {j : Nat} {t e q : TypeId} {elems spare e' sp' : List (DataW H)}
    (ht : ts[j]? = some t) (hd : ds[j]? = some (.slice elems spare)) (hu : P.underlying t = some (.slice e)) (hu2 : P.underlying e = some (.slice q)) (hx : DataW.slice e' sp' ∈ elems) : (e'.length + sp'.length) * P.bytesOf q ≤ reachBytes := by
  refine of_decide_eq_true (List.all_eq_true.1 h _ (DataW.weights_mem_each ht hd _ ?_))
  simp only [DataW.weights, hu, List.mem_cons, List.mem_append]
  exact Or.inr (Or.inl (weightsAll_in hx _ (by simp [DataW.weights, hu2])))
theorem spot_none {w : World} {a : Addr} {v : Value} (h : w.cell? a = some v) : a = ⟨a.block, a.off, none⟩ := by
  unfold World.cell? at h
  cases a with
  | mk b o s =>
    cases s with
    | none => rfl
    | some x =>
      simp only at h
      split at h
      · simp at h
      · cases h
theorem add_spot (b o j : Nat) : (⟨b, o, none⟩ : Addr).add j = ⟨b, o + j, none⟩ := by
  unfold Addr.add
  split <;> simp_all
theorem getD_gi (l : List Int) (j : Nat) : l.getD j 0 = gi l j := rfl
section
variable {H : Type} {enc : TypeId × Value → H} {P : Program} {W : World} {base : Nat} {a : Option Addr} {len cap : Nat} {d : DataW H} {ps : List MemPlace} {ts : List TypeId} {ds : List (DataW H)} {j : Nat}
/-- A slice of whole numbers that came in. -/
theorem open_row {t e : TypeId} (hsz : (DataW.weightsEach P ts ds).all (· ≤ reachBytes) = true) (ht : ts[j]? = some t) (hd : ds[j]? = some d) (hu : P.underlying t = some (.slice e)) (he : P.underlying e = some (.int .i64)) (hc : P.cellsOf e = 1) (hB : P.bytesOf e = 8)
    (h : DataW.Trod enc P W base (fun _ => true) true t (.slice a len cap) d ps) : ∃ xs, Rd W a len xs ∧ ∀ x ∈ xs, (Lit.int .i64 x).wf = true := by
  obtain ⟨fuel, hf⟩ := h
  rcases open_ints hu he hc hf with ⟨hcs, _⟩ | ⟨x, l, c, zs, hcs, _, hl, _, hz, hx, hcell, hwf⟩
  · simp [Value.cells] at hcs
    obtain ⟨rfl, rfl, rfl⟩ := hcs
    exact ⟨[], ⟨rfl, Nat.zero_le _, fun h => absurd h (by omega)⟩, by simp⟩
  · simp [Value.cells] at hcs
    obtain ⟨rfl, rfl, rfl⟩ := hcs
    obtain ⟨hx, _⟩ := Prod.mk.inj hx
    subst hx
    have z := sized_slice hsz ht hd hu
    rw [hB] at z
    have hz' : zs.length = cap := by simpa using hz
    have h1 : (lits (H := H) .i64 (zs.take len)).length + (lits (H := H) .i64 (zs.drop len)).length = zs.length := by
      simp [lits]; omega
    rw [h1] at z
    have hr : reachBytes = 140737488351232 := rfl
    refine ⟨zs.take len, ⟨by simp; omega, by omega, fun hp => ?_⟩, fun n hn => hwf n (List.mem_of_mem_take hn)⟩
    have h0 := hcell 0 (by omega)
    have hs : x = ⟨x.block, x.off, none⟩ := spot_none (by simpa [Addr.add] using h0)
    refine ⟨x.block, x.off, by rw [← hs], fun j hj => ?_⟩
    have := hcell j (by omega)
    rw [hs, add_spot] at this
    rw [this]
    simp [gi, List.getD_eq_getElem?_getD, hj]
/-- A slice of slices of whole numbers that came in. -/
theorem open_rows {t e q : TypeId} (hsz : (DataW.weightsEach P ts ds).all (· ≤ reachBytes) = true) (ht : ts[j]? = some t) (hd : ds[j]? = some d) (hu : P.underlying t = some (.slice e)) (he : P.underlying e = some (.slice q)) (hq : P.underlying q = some (.int .i64)) (ce : P.cellsOf e = 1) (cq : P.cellsOf q = 1) (hB : P.bytesOf e = 24) (hBq : P.bytesOf q = 8)
    (h : DataW.Trod enc P W base (fun _ => true) true t (.slice a len cap) d ps) : ∃ xss, Rd2 W a len xss ∧ ∀ xs ∈ xss, ∀ x ∈ xs, (Lit.int .i64 x).wf = true := by
  obtain ⟨fuel, hf⟩ := h
  rcases open_int_rows hu he hq ce cq hf with ⟨hcs, _⟩ | ⟨x, l, c, A, L, C, Z, hcs, _, hl, _, hx, hcell⟩
  · simp [Value.cells] at hcs
    obtain ⟨rfl, rfl, rfl⟩ := hcs
    exact ⟨[], ⟨rfl, Nat.zero_le _, fun h => absurd h (by omega)⟩, by simp⟩
  · simp [Value.cells] at hcs
    obtain ⟨rfl, rfl, rfl⟩ := hcs
    obtain ⟨hx, _⟩ := Prod.mk.inj hx
    subst hx
    have z := sized_slice hsz ht hd hu
    rw [hB] at z
    simp only [List.length_map, List.length_range] at z
    have hr : reachBytes = 140737488351232 := rfl
    obtain ⟨xss, hxss⟩ : ∃ xss, xss = (List.range len).map fun r => (Z r).take (L r) := ⟨_, rfl⟩
    have hlen : xss.length = len := by rw [hxss]; simp
    have hg : ∀ r, r < len → gl xss r = (Z r).take (L r) := fun r hr => by
      simp [gl, List.getD_eq_getElem?_getD, hxss, hr]
    refine ⟨xss, ⟨hlen, by omega, fun hp => ?_⟩, fun xs hxs n hn => ?_⟩
    · have h0 := (hcell 0 (by omega)).1
      have hs : x = ⟨x.block, x.off, none⟩ := spot_none (by simpa [Addr.add] using h0)
      refine ⟨x.block, x.off, by rw [← hs], fun r hr' => ?_⟩
      obtain ⟨c1, c2, c3, c4, c5, c6, c7⟩ := hcell r (by omega)
      rw [hs, add_spot] at c1
      have hLr : ((Z r).take (L r)).length = L r := by rw [List.length_take]; omega
      rw [hg r hr', hLr]
      refine ⟨A r, C r, c1, hLr, ?_, fun hp' => ?_⟩
      · cases hA : A r with
        | none => have := c6 hA; omega
        | some a' =>
          have hin : DataW.slice (lits (H := H) .i64 ((Z r).take (L r))) (lits (H := H) .i64 ((Z r).drop (L r))) ∈ (List.range len).map fun r => intRow (H := H) .i64 (A r) (L r) (Z r) :=
            List.mem_map.2 ⟨r, by simpa using hr', by simp [intRow, hA]⟩
          have z2 := inner_sized hsz ht hd hu he hin
          rw [hBq] at z2
          have h1 : (lits (H := H) .i64 ((Z r).take (L r))).length + (lits (H := H) .i64 ((Z r).drop (L r))).length = (Z r).length := by
            simp [lits]; omega
          rw [h1] at z2
          omega
      · cases hA : A r with
        | none => have := c6 hA; omega
        | some a' =>
          have hc' := (c7 a' hA).2
          have h00 := hc' 0 (by omega)
          have hs' : a' = ⟨a'.block, a'.off, none⟩ := spot_none (by simpa [Addr.add] using h00)
          refine ⟨a'.block, a'.off, by rw [← hs'], fun j hj => ?_⟩
          have := hc' j (by omega)
          rw [hs', add_spot] at this
          rw [this]
          simp [gi, List.getD_eq_getElem?_getD, hj]
    · rw [hxss] at hxs
      obtain ⟨r, hr', rfl⟩ := List.mem_map.1 hxs
      have hr2 : r < len := by simpa using hr'
      exact (hcell r (by omega)).2.2.2.2.1 n (List.mem_of_mem_take hn)
end
end Go.Proofs.PlaitSep
