/-
  A trace of clauses whose variables are named otherwise: the same verdict, as plain lists.
-/
import Derived.Test.YtodmkcolamppmaaTrimM
namespace Go.Proofs.PlaitPure
/-- Two clauses, one of which is the other one renamed. -/
structure Named (ρ : Int → Int) (c d : List Int) : Prop where
  left : IsSet c
  right : IsSet d
  to : ∀ x ∈ c, ρ x ∈ d
  from_ : ∀ y ∈ d, ∃ x ∈ c, ρ x = y
/-- A renaming of the literals that satisfy L. -/
structure Renames (ρ : Int → Int) (L : Int → Prop) : Prop where
  neg : ∀ x, L x → ρ (-x) = -ρ x
  Lneg : ∀ x, L x → L (-x)
  inj : ∀ x y, L x → L y → ρ x = ρ y → x = y
  ok : ∀ x, L x → okLit x = true
  ok2 : ∀ x, L x → okLit (ρ x) = true
def AllL (L : Int → Prop) (c : List Int) : Prop := ∀ x ∈ c, L x
variable {ρ : Int → Int} {L : Int → Prop}
theorem setF_named (h : Renames ρ L) {xs : List Int} (hx : AllL L xs) : ∃ c d, setF xs = some c ∧ setF (xs.map ρ) = some d ∧ Named ρ c d ∧ AllL L c := by
  obtain ⟨c, c1, c2, c3⟩ := setF_some (xs := xs) fun x hm => h.ok x (hx x hm)
  obtain ⟨d, d1, d2, d3⟩ := setF_some (xs := xs.map ρ) fun y hy => by
    obtain ⟨x, hm, rfl⟩ := List.mem_map.1 hy
    exact h.ok2 x (hx x hm)
  refine ⟨c, d, c1, d1, ⟨(setF_spec c1).1, (setF_spec d1).1, fun x hm => (d3 _).2 (List.mem_map.2 ⟨x, (c3 x).1 hm, rfl⟩), fun y hy => ?_⟩, fun x hm => hx x ((c3 x).1 hm)⟩
  obtain ⟨x, hm, rfl⟩ := List.mem_map.1 ((d3 y).1 hy)
  exact ⟨x, (c3 x).2 hm, rfl⟩
theorem named_mem (h : Renames ρ L) {c d : List Int} (hn : Named ρ c d) (hc : AllL L c) {x : Int} (hx : L x) : x ∈ c ↔ ρ x ∈ d := by
  refine ⟨hn.to x, fun hy => ?_⟩
  obtain ⟨z, hz, e⟩ := hn.from_ _ hy
  rw [← h.inj z x (hc z hz) hx e]
  exact hz
theorem piv_named (h : Renames ρ L) {c d c' d' : List Int} (hc : Named ρ c c') (hd : Named ρ d d') (lc : AllL L c) (ld : AllL L d) {x : Int} : piv c d = [x] → piv c' d' = [ρ x] := by
  intro hp
  have hx : x ∈ piv c d := by rw [hp]; simp
  obtain ⟨h1, h2⟩ := List.mem_filter.1 hx
  rw [hasB_iff] at h2
  refine one_of (hc.right.nodup.filter _) (List.mem_filter.2 ⟨hc.to x h1, hasB_iff.2 (by rw [← h.neg x (lc x h1)]; exact hd.to _ h2)⟩) fun z hz => ?_
  obtain ⟨z1, z2⟩ := List.mem_filter.1 hz
  rw [hasB_iff] at z2
  obtain ⟨u, hu, rfl⟩ := hc.from_ z z1
  rw [← h.neg u (lc u hu)] at z2
  have : u ∈ piv c d := List.mem_filter.2 ⟨hu, hasB_iff.2 ((named_mem h hd ld (h.Lneg u (lc u hu))).2 z2)⟩
  rw [hp, List.mem_singleton] at this
  rw [this]
theorem piv_named' (h : Renames ρ L) {c d c' d' : List Int} (hc : Named ρ c c') (hd : Named ρ d d') (lc : AllL L c) (ld : AllL L d) {y : Int} (hp : piv c' d' = [y]) : ∃ x, piv c d = [x] := by
  have hy : y ∈ piv c' d' := by rw [hp]; simp
  obtain ⟨h1, h2⟩ := List.mem_filter.1 hy
  rw [hasB_iff] at h2
  obtain ⟨x, hx, rfl⟩ := hc.from_ y h1
  have lx := lc x hx
  refine ⟨x, one_of (hc.left.nodup.filter _) (List.mem_filter.2 ⟨hx, hasB_iff.2 ((named_mem h hd ld (h.Lneg x lx)).2 (by rw [h.neg x lx]; exact h2))⟩) fun z hz => ?_⟩
  obtain ⟨z1, z2⟩ := List.mem_filter.1 hz
  rw [hasB_iff] at z2
  have : ρ z ∈ piv c' d' := List.mem_filter.2 ⟨hc.to z z1, hasB_iff.2 (by rw [← h.neg z (lc z z1)]; exact hd.to _ z2)⟩
  rw [hp, List.mem_singleton] at this
  exact h.inj z x (lc z z1) lx this
/-- Both fail, or both give clauses of which one is the other one renamed. -/
def BothO (ρ : Int → Int) (L : Int → Prop) : Option (List Int) → Option (List Int) → Prop
  | none, none => True
  | some c, some d => Named ρ c d ∧ AllL L c
  | _, _ => False
theorem resF_named (h : Renames ρ L) {c d c' d' : List Int} (hc : Named ρ c c') (hd : Named ρ d d') (lc : AllL L c) (ld : AllL L d) : BothO ρ L (resF c d) (resF c' d') := by
  by_cases hp : ∃ x, piv c d = [x]
  · obtain ⟨x, hp⟩ := hp
    have hp2 := piv_named h hc hd lc ld hp
    obtain ⟨e, e1, e2, e3⟩ := resF_one hc.left hd.left hp
    obtain ⟨e', e1', e2', e3'⟩ := resF_one hc.right hd.right hp2
    rw [e1, e1']
    have hx : x ∈ piv c d := by rw [hp]; simp
    have lx := lc x (List.mem_filter.1 hx).1
    have le : AllL L e := fun z hz => by
      rcases (e3 z).1 hz with h1 | h1
      · exact lc z h1.1
      · exact ld z h1.1
    refine ⟨⟨e2, e2', fun z hz => (e3' _).2 ?_, fun y hy => ?_⟩, le⟩
    · rcases (e3 z).1 hz with ⟨h1, h2⟩ | ⟨h1, h2⟩
      · exact .inl ⟨hc.to z h1, fun he => h2 (h.inj z x (lc z h1) lx he)⟩
      · refine .inr ⟨hd.to z h1, fun he => h2 ?_⟩
        rw [← h.neg x lx] at he
        exact h.inj z (-x) (ld z h1) (h.Lneg x lx) he
    · rcases (e3' y).1 hy with ⟨h1, h2⟩ | ⟨h1, h2⟩
      · obtain ⟨z, hz, rfl⟩ := hc.from_ y h1
        exact ⟨z, (e3 z).2 (.inl ⟨hz, fun he => h2 (by rw [he])⟩), rfl⟩
      · obtain ⟨z, hz, rfl⟩ := hd.from_ y h1
        exact ⟨z, (e3 z).2 (.inr ⟨hz, fun he => h2 (by rw [he, h.neg x lx])⟩), rfl⟩
  · have h1 : resF c d = none := by
      unfold resF
      split
      · rename_i x e; exact absurd ⟨x, e⟩ hp
      · rfl
    have h2 : resF c' d' = none := by
      unfold resF
      split
      · rename_i y e; exact absurd (piv_named' h hc hd lc ld e) hp
      · rfl
    rw [h1, h2]
    trivial
/-- Lists of clauses, each renamed. -/
inductive Nameds (ρ : Int → Int) (L : Int → Prop) : List (List Int) → List (List Int) → Prop
  | nil : Nameds ρ L [] []
  | snoc {D E : List (List Int)} {c d : List Int} : Nameds ρ L D E → Named ρ c d → AllL L c → Nameds ρ L (D ++ [c]) (E ++ [d])
theorem Nameds.length {D E : List (List Int)} (h : Nameds ρ L D E) : D.length = E.length := by
  induction h with
  | nil => rfl
  | snoc _ _ _ ih => simp [ih]
theorem Nameds.get {D E : List (List Int)} (h : Nameds ρ L D E) : ∀ i, i < D.length → Named ρ (gl D i) (gl E i) ∧ AllL L (gl D i) := by
  induction h with
  | nil => intro i hi; exact absurd hi (Nat.not_lt_zero _)
  | @snoc D E c d h1 h2 h3 ih =>
    intro i hi
    have hl := h1.length
    by_cases e : i < D.length
    · rw [show gl (D ++ [c]) i = gl D i by simp [gl, List.getD_eq_getElem?_getD, List.getElem?_append_left e], show gl (E ++ [d]) i = gl E i by simp [gl, List.getD_eq_getElem?_getD, List.getElem?_append_left (hl ▸ e)]]
      exact ih i e
    · have he : i = D.length := by simp at hi; omega
      subst he
      rw [show gl (D ++ [c]) D.length = c by simp [gl], show gl (E ++ [d]) D.length = d by rw [hl]; simp [gl]]
      exact ⟨h2, h3⟩
variable {G : List (List Int)}
theorem clauseF_named (h : Renames ρ L) (hG : ∀ g ∈ G, AllL L g) {D E : List (List Int)} (hD : Nameds ρ L D E) (p : Int) : BothO ρ L (clauseF G D p) (clauseF (G.map fun g => g.map ρ) E p) := by
  unfold clauseF
  rw [List.length_map, ← hD.length]
  by_cases h1 : p < 0 ∨ (G.length : Int) + D.length ≤ p
  · rw [if_pos h1, if_pos h1]; trivial
  · rw [if_neg h1, if_neg h1]
    by_cases h2 : p < G.length
    · rw [if_pos h2, if_pos h2]
      have hi : p.toNat < G.length := by omega
      have e : gl (G.map fun g => g.map ρ) p.toNat = (gl G p.toNat).map ρ := by rw [gl_eq _ _ (by simpa using hi), gl_eq _ _ hi]; simp
      rw [e]
      obtain ⟨c, d, c1, d1, hn, hl⟩ := setF_named h (hG (gl G p.toNat) (by rw [gl_eq _ _ hi]; exact List.getElem_mem hi))
      rw [c1, d1]
      exact ⟨hn, hl⟩
    · rw [if_neg h2, if_neg h2]
      exact hD.get _ (by omega)
theorem foldR_named (h : Renames ρ L) (hG : ∀ g ∈ G, AllL L g) {D E : List (List Int)} (hD : Nameds ρ L D E) : ∀ (r c c' : List Int), Named ρ c c' → AllL L c → BothO ρ L (foldR G D c r) (foldR (G.map fun g => g.map ρ) E c' r)
  | [], c, c', hc, lc => ⟨hc, lc⟩
  | p :: r, c, c', hc, lc => by
    have h1 := clauseF_named h hG hD p
    rw [foldR, foldR]
    generalize clauseF G D p = o at h1 ⊢
    generalize clauseF (G.map fun g => g.map ρ) E p = o' at h1 ⊢
    match o, o', h1 with
    | none, none, _ => trivial
    | some d, some d', ⟨hd, ld⟩ =>
      have h2 := resF_named h hc hd lc ld
      simp only
      generalize resF c d = q at h2 ⊢
      generalize resF c' d' = q' at h2 ⊢
      match q, q', h2 with
      | none, none, _ => trivial
      | some e, some e', ⟨he, le⟩ => exact foldR_named h hG hD r e e' he le
theorem stepF_named (h : Renames ρ L) (hG : ∀ g ∈ G, AllL L g) {D E : List (List Int)} (hD : Nameds ρ L D E) (s : List Int) : BothO ρ L (stepF G D s) (stepF (G.map fun g => g.map ρ) E s) := by
  match s with
  | [] => trivial
  | p :: r =>
    have h1 := clauseF_named h hG hD p
    rw [stepF, stepF]
    generalize clauseF G D p = o at h1 ⊢
    generalize clauseF (G.map fun g => g.map ρ) E p = o' at h1 ⊢
    match o, o', h1 with
    | none, none, _ => trivial
    | some d, some d', ⟨hd, ld⟩ => exact foldR_named h hG hD r d d' hd ld
theorem derGo_named (h : Renames ρ L) (hG : ∀ g ∈ G, AllL L g) : ∀ (l D E : List (List Int)), Nameds ρ L D E →
    (derGo G D l = none ∧ derGo (G.map fun g => g.map ρ) E l = none) ∨ ∃ D' E', derGo G D l = some D' ∧ derGo (G.map fun g => g.map ρ) E l = some E' ∧ Nameds ρ L D' E'
  | [], D, E, hD => .inr ⟨D, E, rfl, rfl, hD⟩
  | s :: r, D, E, hD => by
    have h1 := stepF_named h hG hD s
    rw [derGo, derGo]
    generalize stepF G D s = o at h1 ⊢
    generalize stepF (G.map fun g => g.map ρ) E s = o' at h1 ⊢
    match o, o', h1 with
    | none, none, _ => exact .inl ⟨rfl, rfl⟩
    | some d, some d', ⟨hd, ld⟩ => exact derGo_named h hG r _ _ (.snoc hD hd ld)
theorem chkF_named (h : Renames ρ L) (hG : ∀ g ∈ G, AllL L g) (b : List Int) : (chkF G b).2 = (chkF (G.map fun g => g.map ρ) b).2 := by
  unfold chkF
  by_cases h0 : (decF b).2 ≠ 0
  · rw [if_pos h0, if_pos h0]
  · rw [if_neg h0, if_neg h0]
    rcases derGo_named h hG (decF b).1 [] [] .nil with ⟨h1, h2⟩ | ⟨D, E, h1, h2, h3⟩
    · rw [h1, h2]
    · rw [h1, h2]
      simp only
      rw [← h3.length]
      by_cases hz : D.length = 0
      · rw [if_pos (.inl hz), if_pos (.inl hz)]
      · obtain ⟨hn, _⟩ := h3.get (D.length - 1) (by omega)
        have : (gl D (D.length - 1)).length = 0 ↔ (gl E (D.length - 1)).length = 0 := by
          rw [List.length_eq_zero_iff, List.length_eq_zero_iff]
          constructor
          · intro e
            apply List.eq_nil_iff_forall_not_mem.2
            intro y hy
            obtain ⟨x, hx, _⟩ := hn.from_ y hy
            rw [e] at hx; cases hx
          · intro e
            apply List.eq_nil_iff_forall_not_mem.2
            intro x hx
            have := hn.to x hx
            rw [e] at this; cases this
        by_cases hg : 0 < (gl D (D.length - 1)).length
        · rw [if_pos (.inr hg), if_pos (.inr (by omega))]
        · rw [if_neg (by omega), if_neg (by omega)]
end Go.Proofs.PlaitPure
