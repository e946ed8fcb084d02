/-
  Looking at a clause, following: as plain lists. No program and no memory in sight.
-/
import Derived.Test.YtmljcbdlkeooiaaStoreM
namespace Go.Proofs.PlaitPure
def Cl.setP (c : Cl) (i : Nat) : Cl := ⟨i, c.q, c.lits⟩
def Cl.setQ (c : Cl) (i : Nat) : Cl := ⟨c.p, i, c.lits⟩
/-- A clause is watched otherwise. -/
def SM.put (S : SM) (ref : Nat) (c : Cl) : SM := { S with cls := S.cls.set ref c }
theorem SM.put_length (S : SM) (ref : Nat) (c : Cl) : (S.put ref c).cls.length = S.cls.length := by simp [SM.put]
theorem SM.put_cl (S : SM) {ref : Nat} (c : Cl) (h : ref < S.cls.length) (i : Nat) : (S.put ref c).cl i = if i = ref then c else S.cl i := by
  unfold SM.cl SM.put
  simp only [List.getD_eq_getElem?_getD, List.getElem?_set]
  split
  · rename_i e; subst e; simp
  · rename_i e; rw [if_neg (fun x => e x.symm)]
theorem flat_set_length {l : List Cl} {ref : Nat} {c : Cl} (hc : c.lits.length = (l.getD ref default).lits.length) : ((l.set ref c).flatMap Cl.words).length = (l.flatMap Cl.words).length := by
  induction l generalizing ref with
  | nil => simp
  | cons d l ih =>
    cases ref with
    | zero =>
      simp at hc
      simp only [List.set_cons_zero, List.flatMap_cons, List.length_append, Cl.words_length, hc]
    | succ ref =>
      simp only [List.set_cons_succ, List.flatMap_cons, List.length_append]
      rw [ih (by simpa using hc)]
theorem SM.put_begin (S : SM) {ref : Nat} (c : Cl) (hc : c.lits.length = (S.cl ref).lits.length) (i : Nat) : (S.put ref c).begin i = S.begin i := by
  unfold SM.begin SM.put
  simp only [List.take_set]
  by_cases h : ref < i
  · refine flat_set_length ?_
    rw [hc]
    unfold SM.cl
    simp only [List.getD_eq_getElem?_getD, List.getElem?_take, if_pos h]
  · rw [List.set_eq_of_length_le (by simp; omega)]
theorem SM.put_begins (S : SM) {ref : Nat} (c : Cl) (hc : c.lits.length = (S.cl ref).lits.length) : (S.put ref c).begins = S.begins := by
  unfold SM.begins
  rw [S.put_length]
  simp only [S.put_begin c hc]
theorem SM.put_short (S : SM) {ref : Nat} (c : Cl) (h : ref < S.cls.length) (hc : c.lits.length = (S.cl ref).lits.length) : (S.put ref c).short = S.short := by
  unfold SM.short
  rw [S.put_length]
  have : (S.put ref c).isShort = S.isShort := by
    funext i
    have := S.put_cl c h i
    unfold SM.isShort
    unfold SM.cl at this hc
    rw [this]
    split
    · rename_i e; subst e; rw [hc]
    · rfl
  rw [this]
theorem SM.put_words (S : SM) {ref : Nat} (c : Cl) (h : ref < S.cls.length) : (S.put ref c).words = (S.cls.take ref).flatMap Cl.words ++ (c.words ++ (S.cls.drop (ref + 1)).flatMap Cl.words) := by
  unfold SM.words SM.put
  rw [List.set_eq_take_append_cons_drop, if_pos h, List.flatMap_append, List.flatMap_cons]
theorem SM.words_split (S : SM) {ref : Nat} (h : ref < S.cls.length) : S.words = (S.cls.take ref).flatMap Cl.words ++ ((S.cl ref).words ++ (S.cls.drop (ref + 1)).flatMap Cl.words) := by
  unfold SM.words
  conv => lhs; rw [← List.take_append_drop ref S.cls]
  rw [List.flatMap_append, List.drop_eq_getElem_cons h, List.flatMap_cons, S.cl_eq h]
theorem SM.put_p (S : SM) {ref : Nat} (h : ref < S.cls.length) (i : Nat) : (S.put ref ((S.cl ref).setP i)).words = S.words.set (S.begin ref) (i : Int) := by
  rw [S.put_words _ h, S.words_split h, List.set_append, if_neg (by unfold SM.begin; omega)]
  have : S.begin ref - ((S.cls.take ref).flatMap Cl.words).length = 0 := by unfold SM.begin; omega
  rw [this]
  rfl
theorem SM.put_q (S : SM) {ref : Nat} (h : ref < S.cls.length) (i : Nat) : (S.put ref ((S.cl ref).setQ i)).words = S.words.set (S.begin ref + 1) (i : Int) := by
  rw [S.put_words _ h, S.words_split h, List.set_append, if_neg (by unfold SM.begin; omega)]
  have : S.begin ref + 1 - ((S.cls.take ref).flatMap Cl.words).length = 1 := by unfold SM.begin; omega
  rw [this]
  rfl

/-- Looking at a clause of which the watched literal l has become false. -/
def mineP (S : SM) (ref : Nat) (l : Int) : Bool := gi (S.cl ref).lits (S.cl ref).p == l
def otherOf (S : SM) (ref : Nat) (l : Int) : Nat := if mineP S ref l then (S.cl ref).q else (S.cl ref).p
def moveTo (S : SM) (ref : Nat) (l : Int) (i : Nat) : SM := if mineP S ref l then S.put ref ((S.cl ref).setP i) else S.put ref ((S.cl ref).setQ i)
def fits (R : RM) (lits : List Int) (q i : Nat) : Bool := (i != q) && decide (0 ≤ R.is (gi lits i))
def findNew (R : RM) (lits : List Int) (q : Nat) : Option Nat := (List.range lits.length).find? (fits R lits q)
structure Look where
  moved : Bool
  bad : Bool
  S : SM
  R : RM
def lookF (S : SM) (R : RM) (ref : Nat) (l : Int) : Look :=
  let q := otherOf S ref l
  let lits := (S.cl ref).lits
  let first := gi lits q
  if 0 < R.is first then ⟨false, false, S, R⟩
  else match findNew R lits q with
    | some i => ⟨true, false, (moveTo S ref l i).watch (gi lits i) ref, R⟩
    | none => if R.is first < 0 then ⟨false, true, S, R⟩ else ⟨false, false, S, R.set first⟩
theorem find_range {n k : Nat} {f : Nat → Bool} (hk : k < n) (h : ∀ i, i < k → f i = false) (hf : f k = true) : (List.range n).find? f = some k := by
  rw [List.find?_eq_some_iff_getElem]
  refine ⟨hf, k, by simpa using hk, by simp, fun j hj => ?_⟩
  simp [h j hj]
theorem find_range_none {n : Nat} {f : Nat → Bool} (h : ∀ i, i < n → f i = false) : (List.range n).find? f = none := by
  rw [List.find?_eq_none]
  intro x hx
  simp [h x (by simpa using hx)]

/-! ### Following -/
def SM.setW (S : SM) (i : Nat) (l : List Nat) : SM := { S with watches := S.watches.set i l }
def SM.getW (S : SM) (i : Nat) : List Nat := S.watches.getD i []
structure Scan where
  kept : List Nat
  bad : Option Nat
  S : SM
  R : RM
/-- Going through the clauses that watch a literal that has become false: those that were kept, and those to come. -/
def scanF (l : Int) : SM → RM → List Nat → List Nat → Scan
  | S, R, kept, [] => ⟨kept, none, S, R⟩
  | S, R, kept, ref :: rest =>
    let k := lookF S R ref l
    let kept' := if k.moved then kept else kept ++ [ref]
    let S' := k.S.setW (idx l) (kept' ++ rest)
    if k.bad then ⟨kept' ++ rest, some ref, S', k.R⟩ else scanF l S' k.R kept' rest
def RM.lit (R : RM) : Int := - gi R.out R.next
def RM.step (R : RM) : RM := { R with next := R.next + 1 }
def followF : Nat → SM → RM → Option (SM × RM × Option Nat)
  | 0, _, _ => none
  | n + 1, S, R =>
    if R.next < R.out.length then
      if idx R.lit < S.watches.length then
        let sc := scanF R.lit S R [] (S.getW (idx R.lit))
        match sc.bad with
        | some b => some (sc.S, sc.R, some b)
        | none => followF n sc.S sc.R.step
      else followF n S R.step
    else some (S, R, none)

/-! ### What holds of a store and of a run -/
/-- A clause as a store keeps it. -/
structure Cl.ok (c : Cl) : Prop where
  lits : ∀ x ∈ c.lits, litB x = true
  nodup : c.lits.Nodup
  apart : ∀ x ∈ c.lits, -x ∉ c.lits
  p : 2 ≤ c.lits.length → c.p < c.lits.length
  q : 2 ≤ c.lits.length → c.q < c.lits.length
  pq : 2 ≤ c.lits.length → c.p ≠ c.q
/-- Does a clause watch the literals of a number? -/
def Cl.watches (c : Cl) (i : Nat) : Prop := 2 ≤ c.lits.length ∧ (idx (gi c.lits c.p) = i ∨ idx (gi c.lits c.q) = i)
structure SM.Inv (S : SM) : Prop where
  most : S.most ≤ 262144
  words : S.words.length ≤ S.most
  cl : ∀ i, i < S.cls.length → (S.cl i).ok
  wlen : S.watches.length ≤ 131074
  watch : ∀ i ref, ref ∈ S.getW i ↔ ref < S.cls.length ∧ (S.cl ref).watches i
  nodup : ∀ i, (S.getW i).Nodup
structure RM.Inv (R : RM) : Prop where
  ok : R.ok
  lits : ∀ x ∈ R.out, litB x = true
  pos : ∀ l, litB l = true → (R.is l = 1 ↔ l ∈ R.out)
  next : R.next ≤ R.out.length
  nodup : R.out.Nodup
theorem RM.is_neg (R : RM) {l : Int} (h : l ≠ 0) : R.is (-l) = - R.is l := by
  unfold RM.is
  by_cases h1 : l < 0
  · rw [if_pos h1, if_neg (by omega)]; simp
  · rw [if_neg h1, if_pos (by omega)]; simp
theorem litB_neg {l : Int} (h : litB l = true) : litB (-l) = true := by
  rw [litB_iff] at h ⊢; omega
theorem RM.is_range {R : RM} (h : R.ok) (l : Int) : -1 ≤ R.is l ∧ R.is l ≤ 1 := by
  unfold RM.is
  split
  · have := h.val (-l).toNat; omega
  · exact h.val l.toNat
theorem RM.Inv.neg {R : RM} (h : R.Inv) {l : Int} (hl : litB l = true) : R.is l = -1 ↔ -l ∈ R.out := by
  rw [← h.pos (-l) (litB_neg hl), R.is_neg (litB_iff.1 hl).1]
  omega
theorem RM.Inv.zero {R : RM} (h : R.Inv) {l : Int} (hl : litB l = true) : R.is l = 0 ↔ l ∉ R.out ∧ -l ∉ R.out := by
  rw [← h.pos l hl, ← h.neg hl]
  have := R.is_range h.ok l
  omega
theorem RM.Inv.apart {R : RM} (h : R.Inv) {l : Int} (hl : l ∈ R.out) : -l ∉ R.out := by
  have h1 := h.lits l hl
  intro h2
  have := (h.pos l h1).2 hl
  have := (h.neg h1).2 h2
  omega
/-- There is room for one literal more. -/
theorem nodup_bound : ∀ (n : Nat) (l : List Nat), l.Nodup → (∀ x ∈ l, x < n) → l.length ≤ n
  | 0, l, _, hb => by
    cases l with
    | nil => simp
    | cons x r => have := hb x (by simp); omega
  | n + 1, l, h, hb => by
    by_cases hm : n ∈ l
    · have h1 := nodup_bound n (l.erase n) (h.erase n) (fun x hx => by
        have := (h.mem_erase_iff).1 hx
        have := hb x this.2
        omega)
      rw [List.length_erase_of_mem hm] at h1
      omega
    · have h1 := nodup_bound n l h (fun x hx => by
        have := hb x hx
        have : x ≠ n := fun e => hm (e ▸ hx)
        omega)
      omega
theorem RM.Inv.vars {R : RM} (h : R.Inv) : (R.out.map Int.natAbs).Nodup := by
  have key : ∀ l : List Int, l.Nodup → (∀ x ∈ l, -x ∉ l) → (∀ x ∈ l, x ≠ 0) → (l.map Int.natAbs).Nodup := by
    intro l
    induction l with
    | nil => intros; simp
    | cons a r ih =>
      intro hn ha h0
      rw [List.map_cons, List.nodup_cons]
      rw [List.nodup_cons] at hn
      refine ⟨fun hm => ?_, ih hn.2 (fun x hx hx' => ha x (by simp [hx]) (by simp [hx'])) (fun x hx => h0 x (by simp [hx]))⟩
      obtain ⟨b, hb, he⟩ := List.mem_map.1 hm
      rcases Int.natAbs_eq_natAbs_iff.1 he with e | e
      · exact hn.1 (e ▸ hb)
      · exact ha a (by simp) (by rw [← e]; simp [hb])
  exact key _ h.nodup (fun x hx => h.apart hx) (fun x hx => (litB_iff.1 (h.lits x hx)).1)
theorem RM.Inv.room {R : RM} (h : R.Inv) : R.out.length ≤ 65537 := by
  have := nodup_bound 65537 _ h.vars (fun x hx => by
    obtain ⟨b, hb, rfl⟩ := List.mem_map.1 hx
    have := litB_iff.1 (h.lits b hb)
    omega)
  simpa using this
theorem gi_set_eq {xs : List Int} {k : Nat} {v : Int} (h : k < xs.length) : gi (xs.set k v) k = v := by simp [gi, List.getD_eq_getElem?_getD, h]
theorem gi_set_ne {xs : List Int} {k i : Nat} {v : Int} (h : k ≠ i) : gi (xs.set k v) i = gi xs i := by simp [gi, List.getD_eq_getElem?_getD, h]
theorem RM.set_is {R : RM} (ho : R.ok) {l : Int} (hl : litB l = true) (x : Int) (hx : litB x = true) : (R.set l).is x = if x = l then 1 else if x = -l then -1 else R.is x := by
  have h1 := litB_iff.1 hl
  have h2 := litB_iff.1 hx
  have hlen := ho.len
  unfold RM.is RM.set
  simp only
  by_cases hl0 : l < 0
  · rw [if_pos hl0]
    by_cases hx0 : x < 0
    · rw [if_pos hx0, if_pos hx0]
      by_cases he : x = l
      · subst he
        rw [if_pos rfl, gi_set_eq (by omega)]
        rfl
      · rw [if_neg he, if_neg (by omega), gi_set_ne (by omega)]
    · rw [if_neg hx0, if_neg hx0]
      by_cases he : x = -l
      · rw [if_neg (by omega), if_pos he, he, gi_set_eq (by omega)]
      · rw [if_neg (by omega), if_neg he, gi_set_ne (by omega)]
  · rw [if_neg hl0]
    by_cases hx0 : x < 0
    · rw [if_pos hx0, if_pos hx0]
      by_cases he : x = -l
      · rw [if_neg (by omega), if_pos he, he]
        rw [show (- -l).toNat = l.toNat from by simp, gi_set_eq (by omega)]
      · rw [if_neg (by omega), if_neg he, gi_set_ne (by omega)]
    · rw [if_neg hx0, if_neg hx0]
      by_cases he : x = l
      · subst he
        rw [if_pos rfl, gi_set_eq (by omega)]
      · rw [if_neg he, if_neg (by omega), gi_set_ne (by omega)]
/-- A literal without a value is set. -/
theorem RM.Inv.set {R : RM} (h : R.Inv) {l : Int} (hl : litB l = true) (h0 : R.is l = 0) : (R.set l).Inv := by
  have hz := (h.zero hl).1 h0
  have hr := h.room
  have hout : (R.set l).out = R.out ++ [l] := rfl
  refine ⟨R.set_ok h.ok l (by omega), ?_, ?_, ?_, ?_⟩
  · intro x hx
    rw [hout] at hx
    rcases List.mem_append.1 hx with hx | hx
    · exact h.lits x hx
    · rw [List.mem_singleton.1 hx]; exact hl
  · intro x hx
    have := (litB_iff.1 hl).1
    rw [RM.set_is h.ok hl x hx, hout, List.mem_append, List.mem_singleton]
    by_cases he : x = l
    · simp [he]
    · rw [if_neg he]
      by_cases he' : x = -l
      · rw [if_pos he']
        constructor
        · intro e; omega
        · rintro (e | e)
          · rw [he'] at e; exact absurd e hz.2
          · exact absurd e he
      · rw [if_neg he', h.pos x hx]
        constructor
        · exact fun e => .inl e
        · rintro (e | e)
          · exact e
          · exact absurd e he
  · rw [hout]
    have := h.next
    show R.next ≤ _
    simp; omega
  · rw [hout]
    rw [List.nodup_append]
    refine ⟨h.nodup, by simp, ?_⟩
    intro a ha b hb e
    rw [List.mem_singleton.1 hb] at e
    exact hz.1 (e ▸ ha)
end Go.Proofs.PlaitPure
