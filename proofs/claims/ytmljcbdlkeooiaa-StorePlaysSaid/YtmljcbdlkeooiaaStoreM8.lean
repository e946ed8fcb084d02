/-
  What following tells: each literal has its reason, and nothing is missed. No program and no memory in sight.
-/
import Derived.Test.YtmljcbdlkeooiaaStoreM7
namespace Go.Proofs.PlaitPure
def SM.C (S : SM) : List (List Int) := S.cls.map Cl.lits
theorem SM.C_length (S : SM) : S.C.length = S.cls.length := by simp [SM.C]
theorem SM.C_at (S : SM) {i : Nat} (h : i < S.cls.length) : S.C[i]? = some (S.cl i).lits := by simp [SM.C, S.cl_eq h, h]
theorem SM.C_mem (S : SM) {i : Nat} (h : i < S.cls.length) : (S.cl i).lits ∈ S.C := List.mem_of_getElem? (S.C_at h)
/-- The literals that are watched. -/
def Cl.pair (c : Cl) (a b : Int) : Prop := 2 ≤ c.lits.length ∧ ((gi c.lits c.p = a ∧ gi c.lits c.q = b) ∨ (gi c.lits c.q = a ∧ gi c.lits c.p = b))
theorem Cl.pair.watches {c : Cl} {a b : Int} (h : c.pair a b) : c.watches (idx a) := by
  obtain ⟨h2, ⟨rfl, _⟩ | ⟨rfl, _⟩⟩ := h
  · exact ⟨h2, .inl rfl⟩
  · exact ⟨h2, .inr rfl⟩
theorem Looks.other {S : SM} {ref : Nat} {l b : Int} (h : Looks S ref l) (hp : (S.cl ref).pair l b) : b = gi (S.cl ref).lits (otherOf S ref l) := by
  have hpq := h.ok.pq h.two
  unfold otherOf mineP
  obtain ⟨_, ⟨h1, h2⟩ | ⟨h1, h2⟩⟩ := hp
  · rw [if_pos (by simpa using h1)]; exact h2.symm
  · by_cases he : gi (S.cl ref).lits (S.cl ref).p = l
    · exact absurd (gi_inj h.ok.nodup (h.ok.p h.two) (h.ok.q h.two) (he.trans h1.symm)) hpq
    · rw [if_neg (by simpa using he)]; exact h2.symm
theorem Looks.otherLt {S : SM} {ref : Nat} {l : Int} (h : Looks S ref l) : otherOf S ref l < (S.cl ref).lits.length := by
  unfold otherOf
  split
  · exact h.ok.q h.two
  · exact h.ok.p h.two
theorem Looks.mem {S : SM} {ref : Nat} {l : Int} (h : Looks S ref l) : (S.cl ref).pair l (gi (S.cl ref).lits (otherOf S ref l)) := by
  refine ⟨h.two, ?_⟩
  have hm := h.mine
  unfold otherOf
  split at hm
  · rename_i e; rw [if_pos e]; exact .inl ⟨hm, rfl⟩
  · rename_i e; rw [if_neg e]; exact .inr ⟨hm, rfl⟩
theorem moveTo_cl {S : SM} {ref : Nat} {l : Int} (h : ref < S.cls.length) (i j : Nat) : (moveTo S ref l i).cl j = if j = ref then (if mineP S ref l then (S.cl ref).setP i else (S.cl ref).setQ i) else S.cl j := by
  unfold moveTo
  split
  · rw [S.put_cl _ h]
  · rw [S.put_cl _ h]
theorem moveTo_C {S : SM} {ref : Nat} {l : Int} (h : ref < S.cls.length) (i : Nat) : (moveTo S ref l i).C = S.C := by
  have key : ∀ c : Cl, c.lits = (S.cl ref).lits → (S.put ref c).C = S.C := by
    intro c hc
    unfold SM.C SM.put
    simp only [List.map_set, hc]
    refine List.ext_getElem? fun k => ?_
    rw [List.getElem?_set]
    split
    · rename_i e; subst e
      have := S.C_at h
      unfold SM.C at this
      rw [this]
      simp [h]
    · rfl
  unfold moveTo
  split
  · exact key _ rfl
  · exact key _ rfl
theorem moveTo_pair {S : SM} {ref : Nat} {l a b : Int} (h : ref < S.cls.length) {i : Nat} (hp : ((moveTo S ref l i).cl ref).pair a b) :
    (a = gi (S.cl ref).lits i ∧ b = gi (S.cl ref).lits (otherOf S ref l)) ∨ (a = gi (S.cl ref).lits (otherOf S ref l) ∧ b = gi (S.cl ref).lits i) := by
  rw [moveTo_cl h, if_pos rfl] at hp
  unfold otherOf
  split at hp
  · rename_i e
    rw [if_pos e]
    obtain ⟨_, ⟨rfl, rfl⟩ | ⟨rfl, rfl⟩⟩ := hp
    · exact .inl ⟨rfl, rfl⟩
    · exact .inr ⟨rfl, rfl⟩
  · rename_i e
    rw [if_neg e]
    obtain ⟨_, ⟨rfl, rfl⟩ | ⟨rfl, rfl⟩⟩ := hp
    · exact .inr ⟨rfl, rfl⟩
    · exact .inl ⟨rfl, rfl⟩
theorem RM.Inv.isNeg {R : RM} (h : R.Inv) {y : Int} (hl : litB y = true) : R.is y < 0 ↔ -y ∈ R.out := by
  rw [← h.neg hl]
  have := (RM.is_range h.ok y).1
  omega
theorem RM.Inv.isPos {R : RM} (h : R.Inv) {y : Int} (hl : litB y = true) : 0 < R.is y ↔ y ∈ R.out := by
  rw [← h.pos y hl]
  have := (RM.is_range h.ok y).2
  omega
/-- x is the last one left of a clause. -/
def unitIn (C : List (List Int)) (set : List Int) (x : Int) : Prop := ∃ c ∈ C, x ∈ c ∧ ∀ y ∈ c, y ≠ x → -y ∈ set
/-- Each literal has its reason in those ahead of it. -/
inductive Just (C : List (List Int)) (T : List Int) : List Int → Prop
  | nil : Just C T []
  | snoc {out : List Int} {x : Int} (h : Just C T out) (hx : x ∈ T ∨ unitIn C out x) : Just C T (out ++ [x])
theorem Just.mono {C : List (List Int)} {T T' out : List Int} (h : Just C T out) (ht : ∀ x ∈ T, x ∈ T') : Just C T' out := by
  induction h with
  | nil => exact .nil
  | snoc _ hx ih => exact .snoc ih (hx.imp (ht _) id)
/-- Of a watched literal that is false, and of which the clauses were gone through, the other one is true. -/
def WOk (S : SM) (out D : List Int) : Prop := ∀ i, i < S.cls.length → ∀ a b, (S.cl i).pair a b → -a ∈ D → b ∈ out
structure ScanOk (T : List Int) (l : Int) (S : SM) (R : RM) (kept rest : List Nat) : Prop where
  inv : ScanInv l S R kept rest
  w : WOk S R.out (R.out.take R.next)
  k : ∀ r ∈ kept, ∀ b, (S.cl r).pair l b → b ∈ R.out
  just : Just S.C T R.out
  at_ : gi R.out R.next = -l
/-- All of it is false. -/
def allFalse (C : List (List Int)) (out : List Int) (b : Nat) : Prop := ∃ c, C[b]? = some c ∧ ∀ y ∈ c, -y ∈ out
theorem WOk.mono {S : SM} {out out' D : List Int} (h : WOk S out D) (hs : ∀ x ∈ out, x ∈ out') : WOk S out' D := fun i hi a b hp hD => hs _ (h i hi a b hp hD)
theorem mem_gi {l : List Int} {y : Int} (h : y ∈ l) : ∃ i, i < l.length ∧ gi l i = y := by
  obtain ⟨i, hi, rfl⟩ := List.getElem_of_mem h
  exact ⟨i, hi, gi_eq l i hi⟩
theorem fits_false {R : RM} {lits : List Int} {q i : Nat} (h : fits R lits q i = false) : i = q ∨ R.is (gi lits i) < 0 := by
  unfold fits at h
  simp only [Bool.and_eq_false_iff, bne_eq_false_iff_eq, decide_eq_false_iff_not] at h
  rcases h with h | h
  · exact .inl h
  · exact .inr (by omega)
theorem ScanOk.bad {T : List Int} {l : Int} {S : SM} {R : RM} {kept rest : List Nat} {ref : Nat} (h : ScanOk T l S R kept (ref :: rest)) (hb : (lookF S R ref l).bad = true) :
    ref < S.cls.length ∧ (scanStep l S R kept ref rest).2.1.C = S.C ∧ (scanStep l S R kept ref rest).2.2 = R ∧ allFalse S.C R.out ref := by
  have hk := h.inv.sInv.looks (ref := ref) (l := l) (by rw [h.inv.w]; simp)
  have hf := lookF_found S R ref l kept rest
  unfold scanStep
  obtain ⟨k, hkk⟩ : ∃ k, lookF S R ref l = k := ⟨_, rfl⟩
  rw [hkk] at hf hb ⊢
  cases hf with
  | sat h1 => cases hb
  | moved i hi hfi h1 => cases hb
  | unit hn h1 => cases hb
  | bad hn h1 =>
    refine ⟨hk.isRef, rfl, rfl, _, S.C_at hk.isRef, fun y hy => ?_⟩
    obtain ⟨i, hi, rfl⟩ := mem_gi hy
    have hlit := hk.ok.lits _ hy
    rw [← h.inv.rInv.isNeg hlit]
    rcases fits_false (hn i hi) with e | e
    · rw [e]; exact h1
    · exact e
theorem ScanOk.step {T : List Int} {l : Int} {S : SM} {R : RM} {kept rest : List Nat} {ref : Nat} (h : ScanOk T l S R kept (ref :: rest)) (hb : (lookF S R ref l).bad = false) :
    ScanOk T l (scanStep l S R kept ref rest).2.1 (scanStep l S R kept ref rest).2.2 (scanStep l S R kept ref rest).1 rest ∧ (scanStep l S R kept ref rest).2.1.C = S.C := by
  have hinv := h.inv.step
  have hk := h.inv.sInv.looks (ref := ref) (l := l) (by rw [h.inv.w]; simp)
  have hf := lookF_found S R ref l kept rest
  unfold scanStep at hinv ⊢
  obtain ⟨k, hkk⟩ : ∃ k, lookF S R ref l = k := ⟨_, rfl⟩
  rw [hkk] at hf hinv hb ⊢
  have hlf : -l ∈ R.out := (h.inv.rInv.isNeg h.inv.lit).1 h.inv.neg
  have hnl : l ∉ R.out := fun e => by have := h.inv.rInv.apart e; exact this hlf
  have hqlt := hk.otherLt
  have hkept : ∀ r ∈ kept, r ≠ ref := by
    intro r hr e
    subst e
    have := h.inv.sInv.nodup (idx l)
    rw [h.inv.w, List.nodup_append] at this
    exact this.2.2 r hr r (by simp) rfl
  cases hf with
  | sat h1 =>
    refine ⟨⟨hinv, h.w, fun r hr b hp => ?_, h.just, h.at_⟩, rfl⟩
    rcases List.mem_append.1 hr with h2 | h2
    · exact h.k r h2 b hp
    · rw [List.mem_singleton.1 h2] at hp
      have e : b = gi (S.cl ref).lits (otherOf S ref l) := hk.other hp
      rw [e]
      exact (h.inv.rInv.isPos (hk.ok.lits _ (getL_mem hqlt))).1 h1
  | bad hn h1 => cases hb
  | moved i hi hfi h1 =>
    have hfn := fits_ne hfi
    have hclen : (moveTo S ref l i).cls.length = S.cls.length := by unfold moveTo; split <;> exact S.put_length _ _
    refine ⟨⟨hinv, ?_, ?_, ?_, h.at_⟩, ?_⟩
    · intro j hj a b hp hD
      have hj' : j < S.cls.length := by
        have : j < (moveTo S ref l i).cls.length := hj
        rwa [hclen] at this
      have hp' : ((moveTo S ref l i).cl j).pair a b := hp
      by_cases e : j = ref
      · subst e
        have hmem : -a ∈ R.out := List.mem_of_mem_take hD
        rcases moveTo_pair hk.isRef hp' with ⟨rfl, rfl⟩ | ⟨rfl, rfl⟩
        · have := (h.inv.rInv.isNeg (hk.ok.lits _ (getL_mem hi))).2 hmem
          omega
        · have hp2 := hk.mem
          have : (S.cl j).pair (gi (S.cl j).lits (otherOf S j l)) l := ⟨hp2.1, hp2.2.symm.imp And.symm And.symm⟩
          exact absurd (h.w j hj' _ _ this hD) hnl
      · rw [moveTo_cl hk.isRef, if_neg e] at hp'
        exact h.w j hj' a b hp' hD
    · intro r hr b hp
      have hp' : ((moveTo S ref l i).cl r).pair l b := hp
      rw [moveTo_cl hk.isRef, if_neg (hkept r hr)] at hp'
      exact h.k r hr b hp'
    · have e : ((moveTo S ref l i).watch (gi (S.cl ref).lits i) ref).C = S.C := moveTo_C hk.isRef i
      show Just ((moveTo S ref l i).watch (gi (S.cl ref).lits i) ref).C T R.out
      rw [e]
      exact h.just
    · exact moveTo_C hk.isRef i
  | unit hn h1 =>
    have hxl := hk.ok.lits _ (getL_mem hqlt)
    have hnx := h.inv.next
    have hout : (R.set (gi (S.cl ref).lits (otherOf S ref l))).out = R.out ++ [gi (S.cl ref).lits (otherOf S ref l)] := rfl
    refine ⟨⟨hinv, ?_, ?_, ?_, ?_⟩, rfl⟩
    · show WOk S (R.out ++ [_]) ((R.out ++ [_]).take R.next)
      rw [List.take_append_of_le_length (by omega)]
      exact h.w.mono fun x hx => by simp [hx]
    · intro r hr b hp
      rw [hout]
      rcases List.mem_append.1 hr with h2 | h2
      · have := h.k r h2 b hp
        simp [this]
      · rw [List.mem_singleton.1 h2] at hp
        have e : b = gi (S.cl ref).lits (otherOf S ref l) := hk.other hp
        simp [e]
    · show Just S.C T (R.out ++ [_])
      refine .snoc h.just (.inr ⟨_, S.C_mem hk.isRef, getL_mem hqlt, fun y hy hne => ?_⟩)
      obtain ⟨i, hi, rfl⟩ := mem_gi hy
      rw [← h.inv.rInv.isNeg (hk.ok.lits _ hy)]
      rcases fits_false (hn i hi) with e | e
      · exact absurd (by rw [e]) hne
      · exact e
    · show gi (R.out ++ [_]) R.next = -l
      rw [← h.at_]
      unfold gi
      simp only [List.getD_eq_getElem?_getD]
      rw [List.getElem?_append_left (by omega)]
end Go.Proofs.PlaitPure
