/-
  A row's argument, opened: a slice of bytes. General: no program in sight. (Turned from Open.)
-/
import Derived.Test.YtodmkcolamppmaaOpen
import Derived.Test.YtodmkcolamppmaaBytes
import Derived.Test.YtodmkcolamppmaaByteM
namespace Go.Proofs.PlaitSep
open Go Go.RowKit Go.ChangeShapes Go.WideShapes Go.ChangeAt Go.Deep Go.Proofs.PlaitPure
variable {H : Type} {enc : TypeId × Value → H} {P : Program} {W : World} {base : Nat} {a : Option Addr} {len cap : Nat} {d : DataW H} {ps : List MemPlace} {ts : List TypeId} {ds : List (DataW H)} {j : Nat}
/-- A slice of bytes that came in. -/
theorem open_bytes {t e : TypeId} (hsz : (DataW.weightsEach P ts ds).all (· ≤ reachBytes) = true) (ht : ts[j]? = some t) (hd : ds[j]? = some d) (hu : P.underlying t = some (.slice e)) (he : P.underlying e = some (.int .u8)) (hc : P.cellsOf e = 1) (hB : P.bytesOf e = 1)
    (h : DataW.Trod enc P W base (fun _ => true) true t (.slice a len cap) d ps) : ∃ xs, RdB W a len xs ∧ IsBytes xs ∧ len ≤ cap ∧ cap ≤ 9223372036854775807 := by
  obtain ⟨fuel, hf⟩ := h
  rcases open_ints hu he hc hf with ⟨hcs, _⟩ | ⟨x, l, c, zs, hcs, _, hl, hm, hz, hx, hcell, hwf⟩
  · simp [Value.cells] at hcs
    obtain ⟨rfl, rfl, rfl⟩ := hcs
    exact ⟨[], ⟨rfl, Nat.zero_le _, fun h => absurd h (by omega)⟩, fun x hx => (by cases hx), Nat.le_refl _, by decide⟩
  · simp [Value.cells] at hcs
    obtain ⟨rfl, rfl, rfl⟩ := hcs
    obtain ⟨hx, _⟩ := Prod.mk.inj hx
    subst hx
    have z := sized_slice hsz ht hd hu
    rw [hB] at z
    have hz' : zs.length = cap := by simpa using hz
    have h1 : (lits (H := H) .u8 (zs.take len)).length + (lits (H := H) .u8 (zs.drop len)).length = zs.length := by
      simp [lits]; omega
    rw [h1] at z
    have hr : reachBytes = 140737488351232 := rfl
    refine ⟨zs.take len, ⟨by simp; omega, by omega, fun hp => ?_⟩, fun n hn => ?_, hl, by unfold maxLen at hm; omega⟩
    · have h0 := hcell 0 (by omega)
      have hs : x = ⟨x.block, x.off, none⟩ := spot_none (by simpa [Addr.add] using h0)
      refine ⟨x.block, x.off, by rw [← hs], fun j hj => ?_⟩
      have := hcell j (by omega)
      rw [hs, add_spot] at this
      rw [this]
      simp [gi, List.getD_eq_getElem?_getD, hj]
    · have := hwf n (List.mem_of_mem_take hn)
      simp [Lit.wf, IntKind.min, IntKind.max, IntKind.bits, IntKind.signed] at this
      omega
end Go.Proofs.PlaitSep
