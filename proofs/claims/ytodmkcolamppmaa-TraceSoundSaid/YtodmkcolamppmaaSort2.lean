/-
  slices.Values, Collect, Sorted and Equal upon what is read.
-/
import Derived.Test.YtodmkcolamppmaaSort
namespace Go.Proofs.Ytodmkcolamppmaa
open Go.RowKit Go.Proofs.PlaitSep Go.Proofs.PlaitPure

theorem Sat.ofOne {B : Nat} {w : World} {b : Nat} {o : Obj} (h : w.heap[b]? = some o) (hb : B ≤ b) : Sat B w (PlaitSep.one b o) :=
  ⟨_, rfl, fun c o' hc => by
    by_cases e : c = b
    · subst e; simp at hc; subst hc; exact ⟨hb, h⟩
    · simp [e] at hc⟩
theorem St.ofRow {B n : Nat} {w w' : World} {e : TypeId} {v : Value} {vs : List Value} (hb : Below B w w') (hB : B ≤ w.heap.size) (ho : w'.ownsRow B e 1 v n vs) : ∃ a c, v = slv a n c ∧ St B w w' (sl a n c e 1 vs) := by
  obtain ⟨hl, ⟨rfl, rfl⟩ | ⟨g, cap, cur, rfl, hg, hh, h1, h2, h3, h4⟩⟩ := ho
  · refine ⟨none, 0, rfl, hb, Nat.le_trans hB hb.size, ?_⟩
    exact ⟨fun _ => none, ⟨by simpa using hl, rfl, rfl, rfl⟩, fun _ _ h => by cases h⟩
  · refine ⟨some g, cap, rfl, hb, Nat.le_trans hB hb.size, ?_⟩
    have hs : Sat B w' (star (pt g e cur.toList) emp) := by
      rw [star_emp]
      exact Sat.ofOne (by simpa using hh) hg
    have := hs.pt_sl (xs := vs) (n := n) (c := cap) (sz := 1) (by simpa using hl) h1 h2 (by simp; omega) (by simpa using h4)
    rw [star_emp] at this
    exact this
set_option maxHeartbeats 400000 in
theorem values_any (A : Option Addr) (n c : Nat) (w : World) :
    Calls Try.prog 57 #[.slice A n c] w fun e w' => e = .returned (.func (.func 61) #[] #[.pointer (some ⟨w.heap.size, 0, none⟩)]) ∧ w' = w.alloc (.cells #[.slice A n c] 51) := by
  go_enter Try.func57, Try.ntmps57
  go_wp2
  go_ret
  exact ⟨rfl, rfl⟩
theorem IntsAt.ofRd {A : Option Addr} {n c : Nat} {xs : List Int} {w w' : World} (h : Rd w A n xs) (hb : Below w.heap.size w w') (N : Nat) (hN : w.heap.size ≤ N) : IntsAt N w' (.slice A n c) xs := by
  by_cases hn : n = 0
  · subst hn
    exact .inl ⟨A, c, rfl, List.eq_nil_of_length_eq_zero h.len⟩
  · obtain ⟨b, o, rfl, hc⟩ := h.cells (by omega)
    refine .inr ⟨b, o, c, by rw [h.len], ?_, fun j hj => ?_⟩
    · have := World.block_lt_of_cell? w _ (hc 0 (by omega))
      simp only at this
      omega
    · have hj' : j < n := by have := h.len; omega
      have hlt := World.block_lt_of_cell? w _ (hc j hj')
      rw [hb.cell hlt, hc j hj']
      simp [gi, List.getD_eq_getElem?_getD]
/-- The iterator in the world behind slices.Values. -/
def ItAt (w w1 : World) (A : Option Addr) (n c : Nat) : Prop := w1 = w.alloc (.cells #[.slice A n c] 51)
set_option maxHeartbeats 400000 in
theorem collect_any (A : Option Addr) (n c : Nat) (xs : List Int) (w : World) (hr : Rd w A n xs) (hn : n ≤ 1000000) :
    Calls Try.prog 53 #[.func (.func 61) #[] #[.pointer (some ⟨w.heap.size, 0, none⟩)]] (w.alloc (.cells #[.slice A n c] 51)) fun e w' => ∃ a c', e = .returned (slv a xs.length c') ∧ St w.heap.size w w' (sli 3 a c' xs) := by
  obtain ⟨w1, hw1⟩ : ∃ w1, w.alloc (.cells #[.slice A n c] 51) = w1 := ⟨_, rfl⟩
  have hb : Below w.heap.size w w1 := by rw [← hw1]; exact (Below.refl _ w).alloc (Nat.le_refl _) _
  have hs : w1.heap.size = w.heap.size + 1 := by rw [← hw1]; simp
  have hc : w1.cell? ⟨w.heap.size, 0, none⟩ = some (.slice A n c) := by rw [← hw1, cell_of_row _ _ _ _ _ _ (heap_alloc_new w _)]; rfl
  have happ := (callsIn_wide (n := 3)).1 (append_in Fence.wide 3 trivial trivial rfl (by omega) w.heap.size (.slice A n c) xs (by have := hr.len; omega) w1 (by omega) hc (IntsAt.ofRd hr hb _ (by omega)))
  have HA := Lib.hid happ
  have HB := Lib.hid hb
  rw [hw1]
  clear happ hr hc hb
  go_enter Try.func53, Try.ntmps53
  go_wp2_with (go_at_call 58; refine (HA.out).mono ?_; rintro e w2 ⟨v, rfl, ho, hb2⟩)
  go_ret
  have hb3 : Below w.heap.size w w2 := HB.out.trans (hb2.mono (by omega))
  have ho2 : w2.ownsRow w.heap.size 3 1 v xs.length (xs.map (Value.int .i64)) := by
    refine ⟨ho.1, ?_⟩
    rcases ho.2 with h | ⟨g, cap, cur, e, hg, rest⟩
    · exact .inl h
    · exact .inr ⟨g, cap, cur, e, by omega, rest⟩
  obtain ⟨a, c', rfl, hst⟩ := St.ofRow hb3 (Nat.le_refl _) ho2
  exact ⟨a, c', rfl, hst⟩
set_option maxHeartbeats 400000 in
theorem sorted_any (A : Option Addr) (n c : Nat) (xs : List Int) (w : World) (hr : Rd w A n xs) (hn : n ≤ 1000000) :
    Calls Try.prog 50 #[.func (.func 61) #[] #[.pointer (some ⟨w.heap.size, 0, none⟩)]] (w.alloc (.cells #[.slice A n c] 51)) fun e w' => ∃ a c', e = .returned (slv a (sorted xs).length c') ∧ St w.heap.size w w' (sli 3 a c' (sorted xs)) := by
  have hc := collect_any A n c xs w hr hn
  have HC := Lib.hid hc
  have hl : xs.length ≤ 1000000 := by have := hr.len; omega
  obtain ⟨w1, hw1⟩ : ∃ w1, w.alloc (.cells #[.slice A n c] 51) = w1 := ⟨_, rfl⟩
  rw [hw1] at HC ⊢
  clear hc hr hw1
  go_enter Try.func50, Try.ntmps50
  go_wp2_with (first
    | (go_at_call 53; refine (HC.out).mono ?_; rintro e w2 ⟨a, c', rfl, h2⟩)
    | (go_at_call 54; refine (Sort_any a c' xs (h2.conseq (star_emp _).symm) hl).mono ?_; rintro e w3 ⟨rfl, h3⟩))
  go_ret
  refine ⟨a, c', ?_, h3.conseq (star_emp _)⟩
  rw [sorted_length]; rfl
end Go.Proofs.Ytodmkcolamppmaa
