/-
  The contract of slices.Sorted over maps.Keys.
-/
import Derived.Test.YtodmkcolamppmaaDer1
namespace Go.Proofs.Ytodmkcolamppmaa
open Go.RowKit Go.Shelf Go.Proofs.PlaitSep Go.Proofs.PlaitPure

theorem Try.keyedInt : Go.Maps.Keyed Try.prog 3 := Go.Maps.int_keyed Try.underlying3
theorem Try.zeroInt (w : World) : (zeroValue 3).run Try.prog w = .ok (.int .i64 0) w := by kernel_rfl
theorem Try.sortsIn (m : Nat) : AnyZI.SortsIn Try.prog Try.sortedA_ren Fence.wide m :=
  ⟨fun blk off cap ss W hH hblk hsz => callsIn_wide.2 (Try.slices_Sort_int blk off cap ss W hH hblk hsz), fun p cap W => callsIn_wide.2 (Try.slices_Sort_int_none p cap W)⟩
theorem keys_any (b : Option Nat) (w : World) :
    Calls Try.prog 51 #[.map b] w fun e w' => e = .returned (.func (.func 55) #[] #[.pointer (some ⟨w.heap.size, 0, none⟩)]) ∧ w' = w.alloc (.cells #[.map b] 76) :=
  (callsIn_wide (n := 5)).1 (AnyZI.keys_in Try.keysA Fence.wide 5 trivial rfl b w)
theorem sortedKeys_any {B : Nat} {w0 w : World} {F : HP} {b n : Nat} {s e : List Int} (h : St B w0 w (star (ms Try.prog 3 3 b n s) F)) (he : IsSet e) (hm : ∀ z, z ∈ e ↔ z ∈ s) (hl : e.length ≤ 1000000000000) :
    Calls Try.prog 50 #[.func (.func 55) #[] #[.pointer (some ⟨w.heap.size, 0, none⟩)]] (w.alloc (.cells #[.map (some b)] 76)) fun r w' => ∃ A c, r = .returned (.slice A e.length c) ∧ Below w.heap.size w w' ∧ Rd w' A e.length e := by
  obtain ⟨D, hown, hmk, _⟩ := h.sat.ms_own
  have hperm : e.Perm (intKeys D) := by
    have hc : CollectedI D (fun _ => false) e := ⟨he.nodup, fun x => by rw [hmk.has x]; simp [hm]⟩
    exact hc.perm hown Try.keyedInt Try.underlying3 (fun _ => rfl)
  have hsize : Maps.size D = e.length := by
    obtain ⟨es, clock, _, _, _, rfl⟩ := hown
    have := hperm.length_eq
    rw [this]
    simp [intKeys, Maps.size_eq]
  have hbl := hown.lt
  have hseq : SeqGives Fence.wide 2 Try.prog 55 #[.pointer (some ⟨w.heap.size, 0, none⟩)] encZ (fun ss => ss.Perm (intKeys D)) (Maps.size D) (w.alloc (.cells #[.map (some b)] 76)) :=
    AnyZI.keys_gives (ρ := Try.keysA_ren) { Try.keysA with } Fence.wide _ trivial rfl (by omega) w.heap.size b n D _ (by simp) (by simp) (by
      obtain ⟨es, clock, hb, Ft, hs, hD⟩ := hown
      exact ⟨es, clock, (Below.heap_alloc _ _ b hbl).trans hb, Ft, hs, hD⟩)
  have cS := AnyZI.sorted_in Try.sortedA Fence.wide 5 trivial trivial trivial trivial rfl (by omega) (Try.sortsIn _) (enters_of Try.func54 (by kernel_rfl) rfl) 55 #[.pointer (some ⟨w.heap.size, 0, none⟩)] trivial (enters_of Try.func55 (by kernel_rfl) rfl) _ _ (by rw [hsize]; unfold maxLen; omega) (by rw [hsize]; omega) _ hseq
  change CallsIn _ _ Try.prog 50 _ _ _ at cS
  refine ((callsIn_wide (n := 5)).1 cS).mono ?_
  rintro r w' ⟨v, ss, rfl, hS, hrow, _, hb⟩
  have hpe : ss.Perm e := hS.trans hperm.symm
  have hsorted : ss.mergeSort (fun x y => decide (x ≤ y)) = e := by
    have h1 : Rises (sorted ss) := sorted_rises (hpe.nodup_iff.2 he.nodup)
    exact Rises.ext h1 he.rises fun z => (sorted_mem ss z).trans hpe.mem_iff
  rw [hsorted, hpe.length_eq] at hrow
  have hbb : Below w.heap.size w w' := ((Below.refl _ w).alloc (Nat.le_refl _) _).trans (hb.mono (by simp))
  obtain ⟨a, c, rfl, hst⟩ := St.ofRow hb (Nat.le_refl _) hrow
  refine ⟨a.map fun b => ⟨b, 0, none⟩, c, rfl, hbb, ?_⟩
  have h2 : St _ _ w' (star (sli 3 a c e) emp) := hst.conseq (star_emp _).symm
  exact St.rd h2 (by omega)
end Go.Proofs.Ytodmkcolamppmaa
