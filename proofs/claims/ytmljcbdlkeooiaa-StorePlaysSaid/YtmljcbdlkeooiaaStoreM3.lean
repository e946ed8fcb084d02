/-
  What holds of a store goes on holding while it follows. No program and no memory in sight.
-/
import Derived.Test.YtmljcbdlkeooiaaStoreM2
namespace Go.Proofs.PlaitPure

theorem idx_inj {a b : Int} (h : idx a = idx b) : a = b := by
  unfold idx at h
  split at h <;> split at h <;> omega
theorem SM.getW_watch (S : SM) (x : Int) (ref j : Nat) : (S.watch x ref).getW j = if j = idx x then S.getW j ++ [ref] else S.getW j := by
  have hp : ∀ k, (padW S.watches (topOf (idx x))).getD k [] = S.watches.getD k [] := by
    intro k
    unfold padW
    simp only [List.getD_eq_getElem?_getD, List.getElem?_append]
    split
    · rfl
    · rename_i h
      rw [List.getElem?_replicate, List.getElem?_eq_none (by omega)]
      split <;> rfl
  have hl : idx x < (padW S.watches (topOf (idx x))).length := by
    rw [padW_length]
    have := lt_topOf (idx x)
    omega
  unfold SM.getW SM.watch watchW
  simp only
  rw [List.getD_eq_getElem?_getD, List.getElem?_set]
  by_cases h : idx x = j
  · subst h
    rw [if_pos rfl, if_pos hl, if_pos rfl, hp]
    rfl
  · rw [if_neg h, if_neg (fun e => h e.symm), ← List.getD_eq_getElem?_getD, hp]
theorem SM.watch_length (S : SM) (x : Int) (ref : Nat) : (S.watch x ref).watches.length = max S.watches.length (topOf (idx x)) := by
  unfold SM.watch watchW
  rw [List.length_set, padW_length]
theorem SM.getW_setW (S : SM) (i j : Nat) (l : List Nat) : (S.setW i l).getW j = if i = j ∧ i < S.watches.length then l else S.getW j := by
  unfold SM.getW SM.setW
  simp only [List.getD_eq_getElem?_getD, List.getElem?_set]
  by_cases h : i = j
  · subst h
    by_cases h2 : i < S.watches.length
    · simp [h2]
    · simp [h2]
  · simp [h]
theorem SM.getW_lt {S : SM} {i ref : Nat} (h : ref ∈ S.getW i) : i < S.watches.length := by
  unfold SM.getW at h
  rw [List.getD_eq_getElem?_getD] at h
  cases hh : S.watches[i]? with
  | none => rw [hh] at h; simp at h
  | some x => exact (List.getElem?_eq_some_iff.1 hh).1
theorem SM.put_words_length (S : SM) {ref : Nat} (c : Cl) (hc : c.lits.length = (S.cl ref).lits.length) : (S.put ref c).words.length = S.words.length := by
  unfold SM.words SM.put
  exact flat_set_length hc

theorem SM.Inv.refs {S : SM} (h : S.Inv) : S.cls.length ≤ 262144 := by
  have := S.cls_length_le
  have := h.words
  have := h.most
  omega
theorem SM.Inv.short {S : SM} (h : S.Inv) (x : List Nat) (hx : x ∈ S.watches) : x.length ≤ 262144 := by
  obtain ⟨i, hi, rfl⟩ := List.getElem_of_mem hx
  have e : S.getW i = S.watches[i] := by unfold SM.getW; simp [hi]
  have := nodup_bound S.cls.length (S.getW i) (h.nodup i) (fun r hr => ((h.watch i r).1 hr).1)
  rw [e] at this
  have := h.refs
  omega
theorem getL_mem {l : List Int} {i : Nat} (h : i < l.length) : gi l i ∈ l := by rw [gi_eq l i h]; exact List.getElem_mem h
theorem gi_inj {l : List Int} (hn : l.Nodup) {i j : Nat} (hi : i < l.length) (hj : j < l.length) (h : gi l i = gi l j) : i = j := by
  rw [gi_eq l i hi, gi_eq l j hj] at h
  have hp := List.pairwise_iff_getElem.1 hn
  rcases Nat.lt_trichotomy i j with hlt | he | hgt
  · exact absurd h (hp i j hi hj hlt)
  · exact he
  · exact absurd h.symm (hp j i hj hi hgt)

/-- One clause is watched by another literal. -/
theorem SM.Inv.move {S : SM} (h : S.Inv) {ref : Nat} (hr : ref < S.cls.length) {l x : Int} {kept rest : List Nat} (hW : S.getW (idx l) = kept ++ ref :: rest) {c : Cl} (hl : c.lits = (S.cl ref).lits) (hc : c.ok)
    (hx : litB x = true) (hxl : x ≠ l) (hnew : ∀ j, c.watches j ↔ (j ≠ idx l ∧ (S.cl ref).watches j) ∨ j = idx x) (hold : ¬ (S.cl ref).watches (idx x)) :
    (((S.put ref c).watch x ref).setW (idx l) (kept ++ rest)).Inv := by
  have hlen : c.lits.length = (S.cl ref).lits.length := by rw [hl]
  have hil : idx l < S.watches.length := SM.getW_lt (ref := ref) (by rw [hW]; simp)
  have hne : idx x ≠ idx l := fun e => hxl (idx_inj e)
  have hb := litB_iff.1 hx
  have hixb := idx_le hb.2.1 hb.2.2
  have htop : topOf (idx x) ≤ 131074 := by unfold topOf idx; split <;> split <;> omega
  have hg : ∀ j, (((S.put ref c).watch x ref).setW (idx l) (kept ++ rest)).getW j = if j = idx l then kept ++ rest else if j = idx x then S.getW j ++ [ref] else S.getW j := by
    intro j
    rw [SM.getW_setW, SM.watch_length, SM.getW_watch]
    by_cases h1 : j = idx l
    · rw [if_pos h1, if_pos ⟨h1.symm, by show idx l < max S.watches.length _; omega⟩]
    · rw [if_neg h1, if_neg (fun e => h1 e.1.symm)]
      rfl
  have hnd := h.nodup (idx l)
  rw [hW] at hnd
  have hnd' : (kept ++ rest).Nodup ∧ ref ∉ kept ++ rest := by
    have hp : (kept ++ ref :: rest).Perm (ref :: (kept ++ rest)) := List.perm_middle
    have := hp.nodup_iff.1 hnd
    rw [List.nodup_cons] at this
    exact ⟨this.2, this.1⟩
  refine ⟨h.most, ?_, ?_, ?_, ?_, ?_⟩
  · show (S.put ref c).words.length ≤ S.most
    rw [S.put_words_length c hlen]; exact h.words
  · intro i hi
    have hi' : i < S.cls.length := by
      have : i < (S.put ref c).cls.length := hi
      rwa [S.put_length] at this
    show ((S.put ref c).cl i).ok
    rw [S.put_cl c hr i]
    split
    · exact hc
    · exact h.cl i hi'
  · show (((S.put ref c).watch x ref).watches.set _ _).length ≤ _
    rw [List.length_set, SM.watch_length]
    have := h.wlen
    show max S.watches.length _ ≤ _
    omega
  · intro j ref'
    rw [hg]
    have hcl : (((S.put ref c).watch x ref).setW (idx l) (kept ++ rest)).cl ref' = if ref' = ref then c else S.cl ref' := S.put_cl c hr ref'
    have hlen' : (((S.put ref c).watch x ref).setW (idx l) (kept ++ rest)).cls.length = S.cls.length := S.put_length ref c
    rw [hcl, hlen']
    have old := h.watch j ref'
    by_cases he : ref' = ref
    · subst he
      rw [if_pos rfl, hnew j]
      by_cases h1 : j = idx l
      · rw [if_pos h1]
        constructor
        · intro hm; exact absurd hm hnd'.2
        · rintro ⟨_, ⟨h2, _⟩ | h2⟩
          · exact absurd h1 h2
          · exact absurd (h2.symm.trans h1) hne
      · rw [if_neg h1]
        by_cases h2 : j = idx x
        · rw [if_pos h2]
          simp [hr, h2]
        · rw [if_neg h2, old]
          constructor
          · rintro ⟨a, b⟩; exact ⟨a, .inl ⟨h1, b⟩⟩
          · rintro ⟨a, ⟨_, b⟩ | b⟩
            · exact ⟨a, b⟩
            · exact absurd b h2
    · rw [if_neg he]
      by_cases h1 : j = idx l
      · rw [if_pos h1]
        subst h1
        rw [hW] at old
        rw [← old]
        simp [he]
      · rw [if_neg h1]
        by_cases h2 : j = idx x
        · rw [if_pos h2, ← old]
          simp [he]
        · rw [if_neg h2, old]
  · intro j
    rw [hg]
    split
    · exact hnd'.1
    · split
      · rename_i h2
        rw [List.nodup_append]
        refine ⟨h.nodup j, by simp, ?_⟩
        intro a ha b hb' e
        rw [List.mem_singleton.1 hb'] at e
        subst e
        rw [h2] at ha
        exact hold ((h.watch _ _).1 ha).2
      · exact h.nodup j

/-- A clause that watches a literal is one that may be looked at. -/
structure Looks (S : SM) (ref : Nat) (l : Int) : Prop where
  isRef : ref < S.cls.length
  two : 2 ≤ (S.cl ref).lits.length
  ok : (S.cl ref).ok
  mine : if mineP S ref l then gi (S.cl ref).lits (S.cl ref).p = l else gi (S.cl ref).lits (S.cl ref).q = l
theorem SM.Inv.looks {S : SM} (h : S.Inv) {ref : Nat} {l : Int} (hm : ref ∈ S.getW (idx l)) : Looks S ref l := by
  obtain ⟨h1, h2, h3⟩ := (h.watch _ _).1 hm
  refine ⟨h1, h2, h.cl ref h1, ?_⟩
  unfold mineP
  by_cases he : gi (S.cl ref).lits (S.cl ref).p = l
  · rw [if_pos (by simpa using he)]; exact he
  · rw [if_neg (by simpa using he)]
    rcases h3 with h3 | h3
    · exact absurd (idx_inj h3) he
    · exact idx_inj h3
theorem fits_ne {R : RM} {lits : List Int} {q i : Nat} (h : fits R lits q i = true) : i ≠ q ∧ 0 ≤ R.is (gi lits i) := by
  unfold fits at h
  simpa using h
theorem findNew_some {R : RM} {lits : List Int} {q i : Nat} (h : findNew R lits q = some i) : i < lits.length ∧ fits R lits q i = true := by
  unfold findNew at h
  have h1 := List.mem_of_find?_eq_some h
  have h2 := List.find?_some h
  exact ⟨by simpa using h1, h2⟩
theorem findNew_none {R : RM} {lits : List Int} {q : Nat} (h : findNew R lits q = none) : ∀ i, i < lits.length → fits R lits q i = false := by
  unfold findNew at h
  rw [List.find?_eq_none] at h
  intro i hi
  have := h i (by simpa using hi)
  simpa using this

/-- What a look finds. -/
inductive Found (S : SM) (R : RM) (ref : Nat) (l : Int) (kept rest : List Nat) : Look → Prop
  | sat (h : 0 < R.is (gi (S.cl ref).lits (otherOf S ref l))) : Found S R ref l kept rest ⟨false, false, S, R⟩
  | moved (i : Nat) (hi : i < (S.cl ref).lits.length) (hf : fits R (S.cl ref).lits (otherOf S ref l) i = true) (h : ¬ 0 < R.is (gi (S.cl ref).lits (otherOf S ref l))) :
      Found S R ref l kept rest ⟨true, false, (moveTo S ref l i).watch (gi (S.cl ref).lits i) ref, R⟩
  | bad (hn : ∀ i, i < (S.cl ref).lits.length → fits R (S.cl ref).lits (otherOf S ref l) i = false) (h : R.is (gi (S.cl ref).lits (otherOf S ref l)) < 0) : Found S R ref l kept rest ⟨false, true, S, R⟩
  | unit (hn : ∀ i, i < (S.cl ref).lits.length → fits R (S.cl ref).lits (otherOf S ref l) i = false) (h : R.is (gi (S.cl ref).lits (otherOf S ref l)) = 0) :
      Found S R ref l kept rest ⟨false, false, S, R.set (gi (S.cl ref).lits (otherOf S ref l))⟩
theorem lookF_found (S : SM) (R : RM) (ref : Nat) (l : Int) (kept rest : List Nat) : Found S R ref l kept rest (lookF S R ref l) := by
  unfold lookF
  simp only
  split
  · exact .sat ‹_›
  · split
    · rename_i i hi
      have := findNew_some hi
      exact .moved i this.1 this.2 ‹_›
    · rename_i hn
      split
      · exact .bad (findNew_none hn) ‹_›
      · exact .unit (findNew_none hn) (by omega)

/-- The store behind a look: the list of watches without the clause, if it is watched by another literal. -/
theorem SM.Inv.look {S : SM} {R : RM} (h : S.Inv) {ref : Nat} {l : Int} {kept rest : List Nat} (hW : S.getW (idx l) = kept ++ ref :: rest) (hl : R.is l < 0) {i : Nat} (hi : i < (S.cl ref).lits.length) (hf : fits R (S.cl ref).lits (otherOf S ref l) i = true) :
    (((moveTo S ref l i).watch (gi (S.cl ref).lits i) ref).setW (idx l) (kept ++ rest)).Inv := by
  have hk := h.looks (ref := ref) (l := l) (by rw [hW]; simp)
  obtain ⟨hiq, hi0⟩ := fits_ne hf
  have hx : litB (gi (S.cl ref).lits i) = true := hk.ok.lits _ (getL_mem hi)
  have hxl : gi (S.cl ref).lits i ≠ l := fun e => by rw [e] at hi0; omega
  have hp := hk.ok.p hk.two
  have hq := hk.ok.q hk.two
  have hpq := hk.ok.pq hk.two
  have hmine := hk.mine
  unfold otherOf at hiq
  unfold moveTo
  cases hm : mineP S ref l
  · rw [hm] at hiq hmine
    simp only [Bool.false_eq_true, if_false] at hiq hmine ⊢
    have hiq' : i ≠ (S.cl ref).q := fun e => hxl (by rw [e]; exact hmine)
    refine SM.Inv.move h hk.isRef hW (c := (S.cl ref).setQ i) rfl ⟨hk.ok.lits, hk.ok.nodup, hk.ok.apart, hk.ok.p, fun _ => hi, fun _ => fun e => hiq e.symm⟩ hx hxl ?_ ?_
    · intro j
      unfold Cl.watches Cl.setQ
      simp only
      constructor
      · rintro ⟨a, b | b⟩
        · refine .inl ⟨fun e => ?_, a, .inl b⟩
          rw [e] at b
          have := idx_inj b
          rw [← hmine] at this
          exact hpq (gi_inj hk.ok.nodup hp hq this)
        · exact .inr b.symm
      · rintro (⟨a, b, c | c⟩ | a)
        · exact ⟨b, .inl c⟩
        · rw [hmine] at c; exact absurd c.symm a
        · exact ⟨hk.two, .inr a.symm⟩
    · rintro ⟨_, b | b⟩
      · exact hiq (gi_inj hk.ok.nodup hp hi (idx_inj b)).symm
      · exact hiq' (gi_inj hk.ok.nodup hq hi (idx_inj b)).symm
  · rw [hm] at hiq hmine
    simp only [if_true] at hiq hmine ⊢
    have hiq' : i ≠ (S.cl ref).p := fun e => hxl (by rw [e]; exact hmine)
    refine SM.Inv.move h hk.isRef hW (c := (S.cl ref).setP i) rfl ⟨hk.ok.lits, hk.ok.nodup, hk.ok.apart, fun _ => hi, hk.ok.q, fun _ => hiq⟩ hx hxl ?_ ?_
    · intro j
      unfold Cl.watches Cl.setP
      simp only
      constructor
      · rintro ⟨a, b | b⟩
        · exact .inr b.symm
        · refine .inl ⟨fun e => ?_, a, .inr b⟩
          rw [e] at b
          have := idx_inj b
          rw [← hmine] at this
          exact hpq (gi_inj hk.ok.nodup hq hp this).symm
      · rintro (⟨a, b, c | c⟩ | a)
        · rw [hmine] at c; exact absurd c.symm a
        · exact ⟨b, .inr c⟩
        · exact ⟨hk.two, .inl a.symm⟩
    · rintro ⟨_, b | b⟩
      · exact hiq' (gi_inj hk.ok.nodup hp hi (idx_inj b)).symm
      · exact hiq (gi_inj hk.ok.nodup hq hi (idx_inj b)).symm
end Go.Proofs.PlaitPure
