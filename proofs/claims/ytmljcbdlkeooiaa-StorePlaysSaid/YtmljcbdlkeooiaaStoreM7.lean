/-
  Adding a clause, as plain lists. No program and no memory in sight.
-/
import Derived.Test.YtmljcbdlkeooiaaStoreM6
namespace Go.Proofs.PlaitPure
def SM.addC (S : SM) (l : List Int) : SM := { S with cls := S.cls ++ [⟨0, 1, l⟩] }
def SM.addS (S : SM) (l : List Int) : SM := if l.length < 2 then S.addC l else ((S.addC l).watch (gi l 0) S.cls.length).watch (gi l 1) S.cls.length
def addF (S : SM) (xs : List Int) : SM × Nat × Int :=
  if onceE xs ≠ 0 then (S, 0, onceE xs) else if S.most < S.words.length + 2 + (onceL xs).length then (S, 0, 111) else (S.addS (onceL xs), S.cls.length, 0)
theorem SM.addC_words (S : SM) (l : List Int) : (S.addC l).words = S.words ++ 0 :: 1 :: l := by
  unfold SM.addC SM.words
  simp [Cl.words]
theorem SM.addC_length (S : SM) (l : List Int) : (S.addC l).cls.length = S.cls.length + 1 := by simp [SM.addC]
theorem SM.addC_cl (S : SM) (l : List Int) (i : Nat) : (S.addC l).cl i = if i = S.cls.length then ⟨0, 1, l⟩ else S.cl i := by
  unfold SM.cl SM.addC
  simp only [List.getD_eq_getElem?_getD, List.getElem?_append]
  split
  · rename_i h
    rw [if_neg (by omega)]
  · rename_i h
    split
    · rename_i e; subst e; simp
    · rename_i e
      rw [List.getElem?_eq_none (l := [(⟨0, 1, l⟩ : Cl)]) (by simp; omega), List.getElem?_eq_none (l := S.cls) (by omega)]
theorem SM.addC_begins (S : SM) (l : List Int) : (S.addC l).begins = S.begins ++ [(S.words.length : Int)] := by
  unfold SM.begins
  rw [S.addC_length, List.range_succ, List.map_append]
  congr 1
  · refine List.map_congr_left fun i hi => ?_
    rw [List.mem_range] at hi
    unfold SM.begin SM.addC
    rw [List.take_append_of_le_length (by omega)]
  · unfold SM.begin SM.addC SM.words
    simp
theorem SM.addC_short (S : SM) (l : List Int) : (S.addC l).short = S.short ++ if l.length < 2 then [(S.cls.length : Int)] else [] := by
  rw [SM.short_eq, SM.short_eq]
  unfold SM.shortN
  rw [S.addC_length, List.range_succ, List.filter_append, List.map_append]
  have e : ∀ i, (S.addC l).isShort i = decide (((S.addC l).cl i).lits.length < 2) := fun _ => rfl
  congr 1
  · congr 1
    refine List.filter_congr fun i hi => ?_
    rw [List.mem_range] at hi
    rw [e, S.addC_cl, if_neg (by omega)]
    rfl
  · simp only [List.filter_cons, List.filter_nil, e, S.addC_cl, if_true]
    split
    · rename_i h
      rw [if_pos (by simpa using h)]; rfl
    · rename_i h
      rw [if_neg (by simpa using h)]; rfl
theorem SM.watch_words (S : SM) (x : Int) (r : Nat) : (S.watch x r).words = S.words := rfl
theorem onceE_zero {xs : List Int} (h : onceE xs = 0) : (∀ x ∈ xs, litB x = true) ∧ ∀ x ∈ xs, -x ∉ xs := by
  unfold onceE at h
  split at h
  · rename_i ha
    split at h
    · cases h
    · rename_i hb
      rw [List.all_eq_true] at ha
      refine ⟨ha, fun x hx hn => hb ?_⟩
      unfold bothB
      rw [List.any_eq_true]
      exact ⟨x, hx, by simpa using hn⟩
  · cases h
theorem addC_cl_ok {xs : List Int} (h : onceE xs = 0) : (⟨0, 1, onceL xs⟩ : Cl).ok := by
  obtain ⟨h1, h2⟩ := onceE_zero h
  refine ⟨fun x hx => h1 x (onceL_mem.1 hx), onceL_nodup xs, fun x hx hn => h2 x (onceL_mem.1 hx) (onceL_mem.1 hn), fun h => ?_, fun h => ?_, fun h => by simp⟩
  · simp only at h ⊢; omega
  · simp only at h ⊢; omega
theorem getW_addC (S : SM) (l : List Int) (i : Nat) : (S.addC l).getW i = S.getW i := rfl
theorem cl_watch (S : SM) (x : Int) (r i : Nat) : (S.watch x r).cl i = S.cl i := rfl
theorem topOf_le {i : Nat} (h : i ≤ 131073) : topOf i ≤ 131074 := by unfold topOf; split <;> omega
theorem SM.Inv.addS {S : SM} (h : S.Inv) {xs : List Int} (hx : onceE xs = 0) (hr : S.words.length + 2 + (onceL xs).length ≤ S.most) : (S.addS (onceL xs)).Inv := by
  have hok := addC_cl_ok hx
  obtain ⟨l, hl⟩ : ∃ l, onceL xs = l := ⟨_, rfl⟩
  rw [hl] at hok hr ⊢
  have hnew : ∀ i, S.cls.length ∉ S.getW i := fun i hm => by have := ((h.watch i _).1 hm).1; omega
  unfold SM.addS
  split
  · rename_i hs
    refine ⟨h.most, ?_, ?_, h.wlen, ?_, h.nodup⟩
    · rw [S.addC_words]
      simp only [List.length_append, List.length_cons]
      show _ ≤ S.most
      omega
    · intro i hi
      rw [S.addC_cl]
      split
      · exact hok
      · rw [S.addC_length] at hi
        exact h.cl i (by omega)
    · intro i r
      rw [getW_addC, h.watch i r, S.addC_length, S.addC_cl]
      constructor
      · rintro ⟨h1, h2⟩
        exact ⟨by omega, by rw [if_neg (by omega)]; exact h2⟩
      · rintro ⟨h1, h2⟩
        split at h2
        · have := h2.1
          simp only at this
          omega
        · exact ⟨by omega, h2⟩
  · rename_i hs
    have hl0 : litB (gi l 0) = true := hok.lits _ (getL_mem (l := l) (i := 0) (by omega))
    have hl1 : litB (gi l 1) = true := hok.lits _ (getL_mem (by simp only; omega))
    have hi0 := litB_iff.1 hl0
    have hi1 := litB_iff.1 hl1
    have hne : idx (gi l 0) ≠ idx (gi l 1) := fun e => by
      have := gi_inj hok.nodup (i := 0) (j := 1) (by simp only; omega) (by simp only; omega) (idx_inj e)
      omega
    have hget : ∀ i, (((S.addC l).watch (gi l 0) S.cls.length).watch (gi l 1) S.cls.length).getW i = (S.getW i ++ if i = idx (gi l 0) ∨ i = idx (gi l 1) then [S.cls.length] else []) := by
      intro i
      rw [SM.getW_watch, SM.getW_watch, getW_addC]
      by_cases e1 : i = idx (gi l 1)
      · rw [if_pos e1, if_neg (by rw [e1]; exact fun e => hne e.symm), if_pos (.inr e1)]
      · rw [if_neg e1]
        by_cases e0 : i = idx (gi l 0)
        · rw [if_pos e0, if_pos (.inl e0)]
        · rw [if_neg e0, if_neg (by simp [e0, e1])]; simp
    refine ⟨h.most, ?_, ?_, ?_, ?_, ?_⟩
    · rw [SM.watch_words, SM.watch_words, S.addC_words]
      simp only [List.length_append, List.length_cons]
      show _ ≤ S.most
      omega
    · intro i hi
      rw [cl_watch, cl_watch, S.addC_cl]
      split
      · exact hok
      · have : i < (S.addC l).cls.length := hi
        rw [S.addC_length] at this
        exact h.cl i (by omega)
    · rw [SM.watch_length, SM.watch_length]
      have := topOf_le (idx_le hi0.2.1 hi0.2.2)
      have := topOf_le (idx_le hi1.2.1 hi1.2.2)
      have : (S.addC l).watches.length ≤ 131074 := h.wlen
      omega
    · intro i r
      rw [hget, cl_watch, cl_watch, S.addC_cl]
      show _ ↔ r < (S.addC l).cls.length ∧ _
      rw [S.addC_length, List.mem_append, h.watch i r]
      by_cases hrr : r = S.cls.length
      · subst hrr
        rw [if_pos rfl]
        unfold Cl.watches
        simp only
        constructor
        · rintro (h1 | h1)
          · omega
          · split at h1
            · rename_i hh
              refine ⟨by omega, by omega, ?_⟩
              rcases hh with rfl | rfl <;> simp
            · cases h1
        · rintro ⟨_, _, h2⟩
          right
          rw [if_pos (by rcases h2 with h2 | h2 <;> simp [h2])]
          simp
      · rw [if_neg hrr]
        constructor
        · rintro (h1 | h1)
          · exact ⟨by omega, h1.2⟩
          · split at h1
            · simp only [List.mem_singleton] at h1; omega
            · cases h1
        · rintro ⟨h1, h2⟩
          exact .inl ⟨by omega, h2⟩
    · intro i
      rw [hget]
      split
      · rw [List.nodup_append]
        refine ⟨h.nodup i, by simp, ?_⟩
        intro a ha b hb e
        simp only [List.mem_singleton] at hb
        subst hb e
        exact hnew i ha
      · simpa using h.nodup i
theorem SM.Inv.add {S : SM} (h : S.Inv) (xs : List Int) : (addF S xs).1.Inv := by
  unfold addF
  split
  · exact h
  · rename_i h1
    split
    · exact h
    · rename_i h2
      exact h.addS (by simpa using h1) (by omega)
end Go.Proofs.PlaitPure
