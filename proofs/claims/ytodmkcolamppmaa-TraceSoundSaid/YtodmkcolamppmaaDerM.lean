/-
  Resolutions: what the document derives. No program and no memory in sight.
-/
import Derived.Test.YtodmkcolamppmaaRise
namespace Go.Proofs.PlaitPure
/-- A clause by its number. -/
def clauseF (G D : List (List Int)) (p : Int) : Option (List Int) :=
  if p < 0 ∨ (G.length : Int) + D.length ≤ p then none else if p < G.length then setF (gl G p.toNat) else some (gl D (p - G.length).toNat)
def piv (c d : List Int) : List Int := c.filter fun x => hasB d (-x)
def resA (c d : List Int) (x : Int) : List Int := (c.filter fun y => y != x) ++ d.filter fun y => y != -x
def resF (c d : List Int) : Option (List Int) := match piv c d with
  | [x] => setF (resA c d x)
  | _ => none
def foldR (G D : List (List Int)) : List Int → List Int → Option (List Int)
  | c, [] => some c
  | c, p :: r => match clauseF G D p with
    | none => none
    | some d => match resF c d with
      | none => none
      | some c' => foldR G D c' r
def stepF (G D : List (List Int)) : List Int → Option (List Int)
  | [] => none
  | p :: r => match clauseF G D p with
    | none => none
    | some c => foldR G D c r
def derGo (G : List (List Int)) : List (List Int) → List (List Int) → Option (List (List Int))
  | D, [] => some D
  | D, s :: r => match stepF G D s with
    | none => none
    | some c => derGo G (D ++ [c]) r
def derF (G l : List (List Int)) : List (List Int) × Int := match derGo G [] l with
  | none => ([], 121)
  | some D => (D, 0)
/-- A clause as it is kept: a set that rises, of literals. -/
structure IsSet (c : List Int) : Prop where
  rises : Rises c
  lits : ∀ x ∈ c, okLit x = true
theorem IsSet.nodup {c : List Int} (h : IsSet c) : c.Nodup := by
  rw [List.nodup_iff_pairwise_ne]
  exact h.rises.imp fun {a b} hab => by omega
theorem okLit_iff {x : Int} : okLit x = true ↔ x ≠ 0 ∧ -2147483647 ≤ x ∧ x ≤ 2147483647 := by simp [okLit]
theorem setF_all {xs s : List Int} (h : setF xs = some s) : ∀ x ∈ xs, okLit x = true := by
  intro x hx
  cases e : okLit x with
  | true => rfl
  | false =>
    have := setGo_none xs [] ⟨x, hx, e⟩
    rw [show setF xs = setGo [] xs from rfl, this] at h
    cases h
theorem setF_spec {xs s : List Int} (h : setF xs = some s) : IsSet s ∧ ∀ z, z ∈ s ↔ z ∈ xs := by
  obtain ⟨s', h1, h2, h3⟩ := setF_some (setF_all h)
  rw [h] at h1
  cases h1
  exact ⟨⟨h2, fun x hx => setF_all h x ((h3 x).1 hx)⟩, h3⟩
theorem setF_len {xs s : List Int} (h : setF xs = some s) : s.length ≤ xs.length := by
  have key : ∀ (xs out s : List Int), setGo out xs = some s → s.length ≤ out.length + xs.length := by
    intro xs
    induction xs with
    | nil => intro out s h; simp only [setGo, Option.some.injEq] at h; subst h; simp
    | cons x r ih =>
      intro out s h
      rw [setGo] at h
      split at h
      · have h1 := ih _ s h
        have h2 := ins_length x out
        simp only [List.length_cons]
        omega
      · cases h
  have := key xs [] s h
  simpa using this
theorem okLit_neg {x : Int} (h : okLit x = true) : okLit (-x) = true := by rw [okLit_iff] at *; omega
theorem resA_ok {c d : List Int} {x : Int} (hc : IsSet c) (hd : IsSet d) : ∀ z ∈ resA c d x, okLit z = true := by
  intro z hz
  unfold resA at hz
  rcases List.mem_append.1 hz with h | h
  · exact hc.lits z (List.mem_filter.1 h).1
  · exact hd.lits z (List.mem_filter.1 h).1
theorem resA_mem {c d : List Int} {x z : Int} : z ∈ resA c d x ↔ (z ∈ c ∧ z ≠ x) ∨ (z ∈ d ∧ z ≠ -x) := by unfold resA; simp [List.mem_filter]
theorem resF_one {c d : List Int} {x : Int} (hc : IsSet c) (hd : IsSet d) (h : piv c d = [x]) : ∃ e, resF c d = some e ∧ IsSet e ∧ ∀ z, z ∈ e ↔ (z ∈ c ∧ z ≠ x) ∨ (z ∈ d ∧ z ≠ -x) := by
  obtain ⟨e, h1, h2, h3⟩ := setF_some (resA_ok (x := x) hc hd)
  refine ⟨e, by unfold resF; rw [h]; exact h1, (setF_spec h1).1, fun z => ?_⟩
  rw [h3, resA_mem]
theorem resF_set {c d e : List Int} (h : resF c d = some e) : IsSet e := by
  unfold resF at h
  split at h
  · exact (setF_spec h).1
  · cases h
theorem resF_not {c d : List Int} (h : (piv c d).length ≠ 1) : resF c d = none := by
  unfold resF
  split
  · rename_i e; rw [e] at h; exact absurd rfl h
  · rfl
theorem clauseF_set {G D : List (List Int)} {p : Int} {c : List Int} (hD : ∀ d ∈ D, IsSet d) (h : clauseF G D p = some c) : IsSet c := by
  unfold clauseF at h
  split at h
  · cases h
  · split at h
    · exact (setF_spec h).1
    · cases h
      rename_i h1 h2
      rw [gl_eq D _ (by omega)]
      exact hD _ (List.getElem_mem _)
theorem foldR_set {G D : List (List Int)} : ∀ {r c e : List Int}, IsSet c → foldR G D c r = some e → IsSet e
  | [], c, e, hc, h => by cases h; exact hc
  | p :: r, c, e, hc, h => by
    unfold foldR at h
    split at h
    · cases h
    · split at h
      · cases h
      · rename_i h2; exact foldR_set (resF_set h2) h
theorem stepF_set {G D : List (List Int)} {s c : List Int} (hD : ∀ d ∈ D, IsSet d) (h : stepF G D s = some c) : IsSet c := by
  match s, h with
  | p :: r, h =>
    rw [stepF] at h
    split at h
    · cases h
    · rename_i h1; exact foldR_set (clauseF_set hD h1) h
theorem derGo_set {G : List (List Int)} : ∀ {l D E : List (List Int)}, (∀ d ∈ D, IsSet d) → derGo G D l = some E → ∀ d ∈ E, IsSet d
  | [], D, E, hD, h => by cases h; exact hD
  | s :: r, D, E, hD, h => by
    unfold derGo at h
    split at h
    · cases h
    · rename_i c h1
      refine derGo_set (fun d hd => ?_) h
      rcases List.mem_append.1 hd with hd | hd
      · exact hD d hd
      · rw [List.mem_singleton.1 hd]; exact stepF_set hD h1
/-- The other side's count: the literals of d whose opposite is in c. -/
def pivD (c d : List Int) : List Int := d.filter fun l => hasB c (-l)
theorem one_of {α : Type} {l : List α} {x : α} (hn : l.Nodup) (hx : x ∈ l) (ho : ∀ z ∈ l, z = x) : l = [x] := by
  match l, hn, hx, ho with
  | [a], _, _, ho => rw [ho a (by simp)]
  | a :: b :: r, hn, _, ho =>
    have e1 := ho a (by simp)
    have e2 := ho b (by simp)
    simp [e1, e2] at hn
theorem piv_of_pivD {c d : List Int} (hc : c.Nodup) {l : Int} (h : pivD c d = [l]) : piv c d = [-l] := by
  have hl : l ∈ pivD c d := by rw [h]; simp
  obtain ⟨h1, h2⟩ := List.mem_filter.1 hl
  refine one_of (hc.filter _) (List.mem_filter.2 ⟨hasB_iff.1 h2, hasB_iff.2 (by rw [Int.neg_neg]; exact h1)⟩) fun z hz => ?_
  obtain ⟨z1, z2⟩ := List.mem_filter.1 hz
  have : -z ∈ pivD c d := List.mem_filter.2 ⟨hasB_iff.1 z2, hasB_iff.2 (by rw [Int.neg_neg]; exact z1)⟩
  rw [h, List.mem_singleton] at this
  omega
theorem pivD_of_piv {c d : List Int} (hd : d.Nodup) {x : Int} (h : piv c d = [x]) : pivD c d = [-x] := by
  have hl : x ∈ piv c d := by rw [h]; simp
  obtain ⟨h1, h2⟩ := List.mem_filter.1 hl
  refine one_of (hd.filter _) (List.mem_filter.2 ⟨hasB_iff.1 h2, hasB_iff.2 (by rw [Int.neg_neg]; exact h1)⟩) fun z hz => ?_
  obtain ⟨z1, z2⟩ := List.mem_filter.1 hz
  have : -z ∈ piv c d := List.mem_filter.2 ⟨hasB_iff.1 z2, hasB_iff.2 (by rw [Int.neg_neg]; exact z1)⟩
  rw [h, List.mem_singleton] at this
  omega
theorem resF_pivD {c d : List Int} (hc : IsSet c) (hd : IsSet d) {l : Int} (h : pivD c d = [l]) : ∃ e, resF c d = some e ∧ IsSet e ∧ ∀ z, z ∈ e ↔ (z ∈ c ∧ z ≠ -l) ∨ (z ∈ d ∧ z ≠ l) := by
  obtain ⟨e, h1, h2, h3⟩ := resF_one hc hd (piv_of_pivD hc.nodup h)
  refine ⟨e, h1, h2, fun z => ?_⟩
  rw [h3, Int.neg_neg]
theorem resF_pivD_not {c d : List Int} (hd : IsSet d) (h : (pivD c d).length ≠ 1) : resF c d = none := by
  refine resF_not fun h1 => h ?_
  match hp : piv c d, h1 with
  | [x], _ => rw [pivD_of_piv hd.nodup hp]; rfl
/-- Its literals are those of the document. -/
def Lits (G : List (List Int)) (d : List Int) : Prop := ∀ x ∈ d, x ∈ G.flatten
theorem nodup_len {d L : List Int} (hn : d.Nodup) (h : ∀ x ∈ d, x ∈ L) : d.length ≤ L.length := by
  induction d generalizing L with
  | nil => simp
  | cons x r ih =>
    rw [List.nodup_cons] at hn
    have hx := h x (by simp)
    have := ih (L := L.erase x) hn.2 fun y hy => (List.mem_erase_of_ne (fun (e : y = x) => hn.1 (e ▸ hy))).2 (h y (by simp [hy]))
    rw [List.length_erase_of_mem hx] at this
    have := List.length_pos_of_mem hx
    simp only [List.length_cons]
    omega
theorem clauseF_lits {G D : List (List Int)} {p : Int} {c : List Int} (hD : ∀ d ∈ D, Lits G d) (h : clauseF G D p = some c) : Lits G c := by
  unfold clauseF at h
  split at h
  · cases h
  · split at h
    · intro x hx
      rw [(setF_spec h).2] at hx
      rw [gl_eq G _ (by omega)] at hx
      exact List.mem_flatten.2 ⟨_, List.getElem_mem _, hx⟩
    · cases h
      rename_i h1 h2
      rw [gl_eq D _ (by omega)]
      exact hD _ (List.getElem_mem _)
theorem resF_lits {G : List (List Int)} {c d e : List Int} (hc : Lits G c) (hd : Lits G d) (h : resF c d = some e) : Lits G e := by
  unfold resF at h
  split at h
  · intro x hx
    rw [(setF_spec h).2] at hx
    unfold resA at hx
    rcases List.mem_append.1 hx with hx | hx
    · exact hc x (List.mem_filter.1 hx).1
    · exact hd x (List.mem_filter.1 hx).1
  · cases h
theorem foldR_lits {G D : List (List Int)} (hD : ∀ d ∈ D, Lits G d) : ∀ {r c e : List Int}, Lits G c → foldR G D c r = some e → Lits G e
  | [], c, e, hc, h => by cases h; exact hc
  | p :: r, c, e, hc, h => by
    unfold foldR at h
    split at h
    · cases h
    · split at h
      · cases h
      · rename_i h1 _ _ h2; exact foldR_lits hD (resF_lits hc (clauseF_lits hD h1) h2) h
theorem stepF_lits {G D : List (List Int)} {s c : List Int} (hD : ∀ d ∈ D, Lits G d) (h : stepF G D s = some c) : Lits G c := by
  match s, h with
  | p :: r, h =>
    rw [stepF] at h
    split at h
    · cases h
    · rename_i h1; exact foldR_lits hD (clauseF_lits hD h1) h
/-- What has been derived: sets, of the document's literals. -/
def GoodD (G D : List (List Int)) : Prop := ∀ d ∈ D, IsSet d ∧ Lits G d
theorem GoodD.snoc {G D : List (List Int)} {s c : List Int} (h : GoodD G D) (hs : stepF G D s = some c) : GoodD G (D ++ [c]) := by
  intro d hd
  rcases List.mem_append.1 hd with hd | hd
  · exact h d hd
  · rw [List.mem_singleton.1 hd]
    exact ⟨stepF_set (fun d hd => (h d hd).1) hs, stepF_lits (fun d hd => (h d hd).2) hs⟩
theorem GoodD.len {G D : List (List Int)} (h : GoodD G D) : ∀ d ∈ D, d.length ≤ G.flatten.length := fun d hd => nodup_len (h d hd).1.nodup (h d hd).2
end Go.Proofs.PlaitPure
