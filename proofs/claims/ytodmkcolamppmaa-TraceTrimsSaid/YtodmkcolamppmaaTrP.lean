/-
  A trimmed trace, as plain lists: it is accepted, each step but the last one is named, and trimming it again changes nothing.
-/
import Derived.Test.YtodmkcolamppmaaTrimM
namespace Go.Proofs.PlaitPure
open Go.Proofs.PlaitSep (zeros)
/-- How many marks stand ahead of a place. -/
def rk : List Bool → Nat → Nat
  | _, 0 => 0
  | N, j + 1 => rk N j + if gb N j then 1 else 0
theorem rk_mono (N : List Bool) : ∀ {i j : Nat}, i ≤ j → rk N i ≤ rk N j
  | i, 0, h => by
    have : i = 0 := by omega
    subst this
    exact Nat.le_refl _
  | i, j + 1, h => by
    by_cases e : i = j + 1
    · subst e; exact Nat.le_refl _
    · have := rk_mono N (i := i) (j := j) (by omega)
      show _ ≤ rk N j + _
      omega
theorem rk_lt {N : List Bool} {i j : Nat} (h : i < j) (hi : gb N i = true) : rk N i < rk N j := by
  have := rk_mono N (i := i + 1) (j := j) h
  have h2 : rk N (i + 1) = rk N i + 1 := by simp [rk, hi]
  omega
theorem rk_le (N : List Bool) : ∀ i, rk N i ≤ i
  | 0 => Nat.le_refl _
  | i + 1 => by
    have := rk_le N i
    simp only [rk]
    split <;> omega
theorem rk_all {N : List Bool} {m : Nat} (h : ∀ j, j < m → gb N j = true) : ∀ i, i ≤ m → rk N i = i
  | 0, _ => rfl
  | i + 1, hi => by simp [rk, h i (by omega), rk_all h i (by omega)]
/-- What is marked. -/
def sel {α : Type} (N : List Bool) : Nat → List α → List α
  | _, [] => []
  | i, c :: r => if gb N i then c :: sel N (i + 1) r else sel N (i + 1) r
theorem sel_snoc {α : Type} (N : List Bool) : ∀ (l : List α) (i : Nat) (c : α), sel N i (l ++ [c]) = sel N i l ++ if gb N (i + l.length) then [c] else []
  | [], i, c => by simp [sel]
  | d :: r, i, c => by
    rw [List.cons_append, sel, sel, sel_snoc N r (i + 1) c]
    rw [show i + (d :: r).length = i + 1 + r.length by simp; omega]
    split <;> simp
theorem sel_len {α : Type} (N : List Bool) : ∀ (l : List α) (i : Nat), rk N i + (sel N i l).length = rk N (i + l.length)
  | [], i => by simp [sel]
  | d :: r, i => by
    have := sel_len N r (i + 1)
    rw [show i + (d :: r).length = i + 1 + r.length by simp; omega, ← this]
    simp only [sel, rk]
    split <;> simp <;> omega
theorem sel_get {α : Type} (N : List Bool) : ∀ (l : List α) (i j : Nat), j < l.length → gb N (i + j) = true → (sel N i l)[rk N (i + j) - rk N i]? = l[j]?
  | [], i, j, h, _ => by simp at h
  | d :: r, i, 0, _, hj => by
    simp only [Nat.add_zero] at hj
    simp [sel, hj]
  | d :: r, i, j + 1, h, hj => by
    have e : i + (j + 1) = i + 1 + j := by omega
    rw [e] at hj ⊢
    have ih := sel_get N r (i + 1) j (by simpa using h) hj
    have hm := rk_mono N (i := i + 1) (j := i + 1 + j) (by omega)
    rw [List.getElem?_cons_succ, ← ih]
    simp only [sel, rk] at hm ⊢
    split
    · rename_i hi
      simp only [hi, if_true] at hm
      rw [show rk N (i + 1 + j) - rk N i = (rk N (i + 1 + j) - (rk N i + 1)) + 1 by omega, List.getElem?_cons_succ]
    · simp
theorem sel_all {α : Type} {N : List Bool} : ∀ (l : List α) (i : Nat), (∀ j, i ≤ j → j < i + l.length → gb N j = true) → sel N i l = l
  | [], i, _ => rfl
  | d :: r, i, h => by
    rw [sel, if_pos (h i (Nat.le_refl _) (by simp)), sel_all r (i + 1) fun j h1 h2 => h j (by omega) (by simp; omega)]
/-- A number, as it is called behind trimming. -/
def ren (n : Nat) (N : List Bool) (x : Int) : Int := if (n : Int) ≤ x then n + rk N (x - n).toNat else x
/-- A step names, of the derived ones, only what is marked, ahead of it. -/
def RefOk (n : Nat) (N : List Bool) (i : Nat) (s : List Int) : Prop := ∀ x ∈ s, 0 ≤ x ∧ x < (n : Int) + i ∧ ((n : Int) ≤ x → gb N (x - n).toNat = true)
def RefsOk (n : Nat) (N : List Bool) (l : List (List Int)) : Prop := ∀ i, i < l.length → gb N i = true → RefOk n N i (gl l i)
theorem gi_set_ne {l : List Int} {i j : Nat} {v : Int} (h : i ≠ j) : gi (l.set i v) j = gi l j := by simp [gi, List.getD_eq_getElem?_getD, List.getElem?_set_ne h]
theorem gi_set_eq {l : List Int} {i : Nat} {v : Int} (h : i < l.length) : gi (l.set i v) i = v := by simp [gi, List.getD_eq_getElem?_getD, h]
theorem trimGo_sel (n : Nat) (N : List Bool) : ∀ (r : List (List Int)) (i : Nat) (now : List Int) (out : List (List Int)), i + r.length ≤ now.length → out.length = rk N i → (∀ j, j < i → gb N j = true → gi now j = n + rk N j) →
    (∀ j, j < r.length → gb N (i + j) = true → RefOk n N (i + j) (gl r j)) → trimGo n N i now out r = out ++ (sel N i r).map fun s => s.map (ren n N)
  | [], i, now, out, _, _, _, _ => by simp [trimGo, sel]
  | s :: r, i, now, out, hl, ho, hn, hr => by
    simp only [List.length_cons] at hl
    have hr2 : ∀ j, j < r.length → gb N (i + 1 + j) = true → RefOk n N (i + 1 + j) (gl r j) := fun j h1 h2 => by
      have := hr (j + 1) (by simpa using h1) (by rw [← h2]; congr 1; omega)
      rw [show i + (j + 1) = i + 1 + j by omega] at this
      simpa [gl] using this
    unfold trimGo
    rw [sel]
    split
    · rename_i hi
      have h0 := hr 0 (by simp) hi
      have hnow : ∀ j, j < i + 1 → gb N j = true → gi (now.set i (n + out.length)) j = n + rk N j := by
        intro j hj hgj
        by_cases e : j = i
        · subst e; rw [gi_set_eq (by omega), ho]
        · rw [gi_set_ne (fun h => e h.symm)]; exact hn j (by omega) hgj
      have hrow : s.map (newNum n (now.set i (n + out.length))) = s.map (ren n N) := by
        refine List.map_congr_left fun x hx => ?_
        obtain ⟨a, b, c⟩ := h0 x (by simpa [gl] using hx)
        unfold newNum ren
        split
        · rename_i hge
          exact hnow _ (by omega) (c hge)
        · rfl
      rw [trimGo_sel n N r (i + 1) _ _ (by simp; omega) (by simp [ho, rk, hi]) hnow hr2, hrow]
      simp
    · rename_i hi
      rw [trimGo_sel n N r (i + 1) now out (by omega) (by simp [ho, rk, hi]) (fun j hj hgj => hn j (by
        by_cases e : j = i
        · subst e; exact absurd hgj hi
        · omega) hgj) hr2]
theorem trimL_sel {n : Nat} {l : List (List Int)} (h : RefsOk n (needF n l) l) : trimL n l = (sel (needF n l) 0 l).map fun s => s.map (ren n (needF n l)) := by
  unfold trimL
  rw [trimGo_sel n (needF n l) l 0 (zeros l.length) [] (by simp [zeros]) rfl (fun j hj => absurd hj (Nat.not_lt_zero _)) (fun j h1 h2 => by rw [Nat.zero_add] at h2 ⊢; exact h j h1 h2)]
  simp
/-! ### What is marked -/
theorem gb_set {N : List Bool} {i j : Nat} : gb (N.set i true) j = true ↔ (j = i ∧ i < N.length) ∨ gb N j = true := by
  by_cases h : i < N.length
  · by_cases e : j = i
    · subst e; simp [gb, List.getD_eq_getElem?_getD, h]
    · have : gb (N.set i true) j = gb N j := by simp [gb, List.getD_eq_getElem?_getD, List.getElem?_set_ne (fun h => e h.symm)]
      rw [this]; simp [e]
  · rw [List.set_eq_of_length_le (by omega)]; simp [h]
theorem mark1_get {n : Nat} {i : Nat} {N : List Bool} {x : Int} {j : Nat} : gb (mark1 n i N x) j = true ↔ gb N j = true ∨ (gb N i = true ∧ (n : Int) ≤ x ∧ j = (x - n).toNat ∧ j < N.length) := by
  unfold mark1
  by_cases h : gb N i = true
  · by_cases hx : (n : Int) ≤ x
    · rw [if_pos (by simp [h, hx]), gb_set]
      constructor
      · rintro (⟨rfl, h2⟩ | h2)
        · exact .inr ⟨h, hx, rfl, h2⟩
        · exact .inl h2
      · rintro (h2 | ⟨_, _, rfl, h2⟩)
        · exact .inr h2
        · exact .inl ⟨rfl, h2⟩
    · rw [if_neg (by simp [hx])]; simp [hx]
  · rw [if_neg (by simp [h])]; simp [h]
theorem markRow_get {n : Nat} {i : Nat} : ∀ {s : List Int} {N : List Bool} {j : Nat}, (∀ x ∈ s, (n : Int) ≤ x → (x - n).toNat < i) → i < N.length → (gb (markRow n i N s) j = true ↔ gb N j = true ∨ (gb N i = true ∧ ∃ x ∈ s, (n : Int) ≤ x ∧ j = (x - n).toNat))
  | [], N, j, _, _ => by simp [markRow]
  | x :: r, N, j, hs, hi => by
    show gb (markRow n i (mark1 n i N x) r) j = true ↔ _
    have hi1 : gb (mark1 n i N x) i = gb N i := by
      rw [Bool.eq_iff_iff, mark1_get]
      constructor
      · rintro (h | ⟨_, h2, h3, _⟩)
        · exact h
        · have := hs x (by simp) h2; omega
      · exact .inl
    rw [markRow_get (fun y hy => hs y (by simp [hy])) (by rw [mark1_length]; exact hi), hi1, mark1_get]
    constructor
    · rintro ((h | ⟨h1, h2, h3, h4⟩) | ⟨h1, y, hy, h2⟩)
      · exact .inl h
      · exact .inr ⟨h1, x, by simp, h2, h3⟩
      · exact .inr ⟨h1, y, by simp [hy], h2⟩
    · rintro (h | ⟨h1, y, hy, h2, h3⟩)
      · exact .inl (.inl h)
      · rcases List.mem_cons.1 hy with rfl | hy
        · exact .inl (.inr ⟨h1, h2, h3, by have := hs y (by simp) h2; omega⟩)
        · exact .inr ⟨h1, y, hy, h2, h3⟩
/-- What holds of the marks when the steps from i on have been gone through. -/
structure Mk (n : Nat) (l : List (List Int)) (i : Nat) (N : List Bool) : Prop where
  len : N.length = l.length
  last : gb N (l.length - 1) = true
  closed : ∀ k, i ≤ k → k < l.length → gb N k = true → ∀ x ∈ gl l k, (n : Int) ≤ x → gb N (x - n).toNat = true
  least : ∀ j, j < l.length → gb N j = true → j ≠ l.length - 1 → ∃ k, i ≤ k ∧ k < l.length ∧ j < k ∧ gb N k = true ∧ (n : Int) + j ∈ gl l k
theorem valid_mem {n : Nat} {l : List (List Int)} (h : ValidL n l) {i : Nat} (hi : i < l.length) {x : Int} (hx : x ∈ gl l i) : 0 ≤ x ∧ x < (n : Int) + i := by
  obtain ⟨t, ht, rfl⟩ := List.getElem_of_mem hx
  have := h i hi t ht
  rwa [gi_eq _ t ht] at this
theorem needGo_mk {n : Nat} {l : List (List Int)} (hv : ValidL n l) : ∀ (i : Nat) (N : List Bool), i ≤ l.length → Mk n l i N → Mk n l 0 (needGo n l i N)
  | 0, N, _, h => h
  | i + 1, N, hi, h => by
    rw [needGo]
    refine needGo_mk hv i _ (by omega) ?_
    have hs : ∀ x ∈ gl l i, (n : Int) ≤ x → (x - n).toNat < i := fun x hx hn => by have := valid_mem hv (by omega) hx; omega
    have hg := fun j => markRow_get (n := n) (i := i) (s := gl l i) (N := N) (j := j) hs (by rw [h.len]; omega)
    have hge : ∀ k, i ≤ k → (gb (markRow n i N (gl l i)) k = true ↔ gb N k = true) := fun k hk => by
      rw [hg]
      constructor
      · rintro (h1 | ⟨_, x, hx, h1, h2⟩)
        · exact h1
        · have := hs x hx h1; omega
      · exact .inl
    refine ⟨by rw [markRow_length]; exact h.len, (hg _).2 (.inl h.last), fun k hk hkl hgk x hx hn => ?_, fun j hj hgj hne => ?_⟩
    · rw [hge k hk] at hgk
      rw [hg]
      by_cases e : k = i
      · subst e
        exact .inr ⟨hgk, x, hx, hn, rfl⟩
      · exact .inl (h.closed k (by omega) hkl hgk x hx hn)
    · rw [hg] at hgj
      rcases hgj with h1 | ⟨h1, x, hx, h2, h3⟩
      · obtain ⟨k, k1, k2, k3, k4, k5⟩ := h.least j hj h1 hne
        exact ⟨k, by omega, k2, k3, (hge k (by omega)).2 k4, k5⟩
      · have := hs x hx h2
        exact ⟨i, Nat.le_refl _, by omega, by omega, (hge i (Nat.le_refl _)).2 h1, by rw [show (n : Int) + j = x by omega]; exact hx⟩
theorem needF_mk {n : Nat} {l : List (List Int)} (hv : ValidL n l) (hl : 0 < l.length) : Mk n l 0 (needF n l) := by
  unfold needF
  refine needGo_mk hv _ _ (Nat.le_refl _) ⟨by simp, gb_set.2 (.inl ⟨rfl, by simp; omega⟩), fun k h1 h2 => by omega, fun j hj hg hne => ?_⟩
  rw [gb_set] at hg
  rcases hg with h | h
  · exact absurd h.1 hne
  · simp [gb, List.getD_eq_getElem?_getD, hj] at h
theorem Mk.refs {n : Nat} {l : List (List Int)} {N : List Bool} (h : Mk n l 0 N) (hv : ValidL n l) : RefsOk n N l := fun i hi hg x hx => by
  have := valid_mem hv hi hx
  exact ⟨this.1, this.2, fun hn => h.closed i (Nat.zero_le _) hi hg x hx hn⟩
/-! ### It derives the same clauses -/
theorem gl_get (l : List (List Int)) (i : Nat) : gl l i = (l[i]?).getD [] := by simp [gl, List.getD_eq_getElem?_getD]
theorem gl_sel {N : List Bool} {D : List (List Int)} {j : Nat} (h : j < D.length) (hj : gb N j = true) : gl (sel N 0 D) (rk N j) = gl D j := by
  have := sel_get N D 0 j h (by rw [Nat.zero_add]; exact hj)
  simp only [Nat.zero_add, rk, Nat.sub_zero] at this
  rw [gl_get, gl_get, this]
theorem sel_length {N : List Bool} {α : Type} (D : List α) : (sel N 0 D).length = rk N D.length := by
  have := sel_len N D 0
  simp only [rk, Nat.zero_add] at this
  exact this
theorem clauseF_sel {G D : List (List Int)} {N : List Bool} {x : Int} (h0 : 0 ≤ x) (h1 : x < (G.length : Int) + D.length) (h2 : (G.length : Int) ≤ x → gb N (x - G.length).toNat = true) : clauseF G (sel N 0 D) (ren G.length N x) = clauseF G D x := by
  unfold clauseF ren
  rw [if_neg (show ¬ (x < 0 ∨ (G.length : Int) + D.length ≤ x) by omega), sel_length]
  by_cases hx : (G.length : Int) ≤ x
  · have hm := h2 hx
    obtain ⟨j, rfl⟩ : ∃ j : Nat, x = (G.length : Int) + j := ⟨(x - G.length).toNat, by omega⟩
    rw [show ((G.length : Int) + j - G.length).toNat = j by omega] at hm ⊢
    have := rk_lt (show j < D.length by omega) hm
    rw [if_pos hx, if_neg (by omega), if_neg (by omega), if_neg (by omega), show ((G.length : Int) + (rk N j : Nat) - G.length).toNat = rk N j by omega, gl_sel (by omega) hm]
  · rw [if_neg hx, if_neg (by omega), if_pos (by omega), if_pos (by omega)]
theorem foldR_sel {G D : List (List Int)} {N : List Bool} : ∀ (r c : List Int), (∀ x ∈ r, 0 ≤ x ∧ x < (G.length : Int) + D.length ∧ ((G.length : Int) ≤ x → gb N (x - G.length).toNat = true)) → foldR G (sel N 0 D) c (r.map (ren G.length N)) = foldR G D c r
  | [], _, _ => rfl
  | p :: r, c, h => by
    obtain ⟨h0, h1, h2⟩ := h p (by simp)
    rw [List.map_cons, foldR, foldR, clauseF_sel h0 h1 h2]
    cases clauseF G D p with
    | none => rfl
    | some d =>
      simp only
      cases resF c d with
      | none => rfl
      | some e => exact foldR_sel r e fun x hx => h x (by simp [hx])
theorem stepF_sel {G D : List (List Int)} {N : List Bool} {s : List Int} (h : RefOk G.length N D.length s) : stepF G (sel N 0 D) (s.map (ren G.length N)) = stepF G D s := by
  match s, h with
  | [], _ => rfl
  | p :: r, h =>
    obtain ⟨h0, h1, h2⟩ := h p (by simp)
    rw [List.map_cons, stepF, stepF, clauseF_sel h0 h1 h2]
    cases clauseF G D p with
    | none => rfl
    | some c => exact foldR_sel r c fun x hx => h x (by simp [hx])
theorem derGo_sel {G : List (List Int)} {N : List Bool} : ∀ (r D E : List (List Int)), derGo G D r = some E → (∀ j, j < r.length → gb N (D.length + j) = true → RefOk G.length N (D.length + j) (gl r j)) →
    derGo G (sel N 0 D) ((sel N D.length r).map fun s => s.map (ren G.length N)) = some (sel N 0 E)
  | [], D, E, h, _ => by cases h; rfl
  | s :: r, D, E, h, hr => by
    rw [derGo] at h
    cases hs : stepF G D s with
    | none => rw [hs] at h; cases h
    | some c =>
      rw [hs] at h
      have ih := derGo_sel r (D ++ [c]) E h fun j h1 h2 => by
        rw [List.length_append, List.length_singleton] at h2 ⊢
        have := hr (j + 1) (by simpa using h1) (by rw [← h2]; congr 1; omega)
        rw [show D.length + (j + 1) = D.length + 1 + j by omega] at this
        simpa [gl] using this
      rw [List.length_append, List.length_singleton, sel_snoc, Nat.zero_add] at ih
      rw [sel]
      by_cases hg : gb N D.length = true
      · rw [if_pos hg, List.map_cons, derGo, stepF_sel (by simpa [gl] using hr 0 (by simp) hg), hs]
        rw [if_pos hg] at ih
        exact ih
      · rw [if_neg hg]
        rw [if_neg hg, List.append_nil] at ih
        exact ih
theorem derGo_length {G : List (List Int)} : ∀ {l D E : List (List Int)}, derGo G D l = some E → E.length = D.length + l.length
  | [], D, E, h => by cases h; simp
  | s :: r, D, E, h => by
    rw [derGo] at h
    split at h
    · cases h
    · rw [derGo_length h]; simp; omega
/-- What a trimmed trace is. -/
structure Trimmed (n : Nat) (l T : List (List Int)) : Prop where
  len : T.length ≤ l.length
  pos : 0 < T.length
  named : ∀ j, j + 1 < T.length → ∃ k, k < T.length ∧ j < k ∧ (n : Int) + j ∈ gl T k
theorem trim_named {n : Nat} {l : List (List Int)} (hv : ValidL n l) (hl : 0 < l.length) : Trimmed n l (trimL n l) := by
  have hm := needF_mk hv hl
  obtain ⟨N, hN⟩ : ∃ N, needF n l = N := ⟨_, rfl⟩
  have he := trimL_sel (n := n) (l := l) (by exact (needF_mk hv hl).refs hv)
  rw [hN] at hm he
  have hlen : (trimL n l).length = rk N l.length := by rw [he, List.length_map, sel_length]
  have hlast : rk N l.length = rk N (l.length - 1) + 1 := by
    have : rk N (l.length - 1 + 1) = rk N (l.length - 1) + 1 := by simp [rk, hm.last]
    rwa [Nat.sub_add_cancel hl] at this
  refine ⟨by rw [hlen]; exact rk_le N _, by omega, fun j hj => ?_⟩
  rw [hlen] at hj ⊢
  obtain ⟨i, hi, hgi, rfl⟩ : ∃ i, i < l.length ∧ gb N i = true ∧ rk N i = j := by
    have key : ∀ m j, j < rk N m → ∃ i, i < m ∧ gb N i = true ∧ rk N i = j := by
      intro m
      induction m with
      | zero => intro j h; exact absurd h (Nat.not_lt_zero _)
      | succ m ih =>
        intro j h
        by_cases e : j < rk N m
        · obtain ⟨i, a, b, c⟩ := ih j e; exact ⟨i, by omega, b, c⟩
        · simp only [rk] at h
          split at h
          · rename_i hg; exact ⟨m, by omega, hg, by omega⟩
          · omega
    exact key _ j (by omega)
  have hne : i ≠ l.length - 1 := fun e => by rw [e] at hj; omega
  obtain ⟨k, _, hk, hik, hgk, hmem⟩ := hm.least i hi hgi hne
  refine ⟨rk N k, by have := rk_lt hk hgk; omega, rk_lt hik hgi, ?_⟩
  have hsel := sel_get N l 0 k hk (by rw [Nat.zero_add]; exact hgk)
  simp only [Nat.zero_add, rk, Nat.sub_zero] at hsel
  rw [he, gl_get, List.getElem?_map, hsel]
  have hlk : l[k]? = some (gl l k) := by rw [gl_eq l k hk]; exact List.getElem?_eq_getElem hk
  rw [hlk]
  simp only [Option.map_some, Option.getD_some]
  refine List.mem_map.2 ⟨_, hmem, ?_⟩
  unfold ren
  rw [if_pos (by omega)]
  congr 2
  congr 1
  omega
theorem needF_full {n : Nat} {T : List (List Int)} (hv : ValidL n T) (hp : 0 < T.length) (h : ∀ j, j + 1 < T.length → ∃ k, k < T.length ∧ j < k ∧ (n : Int) + j ∈ gl T k) : ∀ j, j < T.length → gb (needF n T) j = true := by
  have hm := needF_mk hv hp
  have key : ∀ d j, T.length - 1 - j = d → j < T.length → gb (needF n T) j = true := by
    intro d
    induction d using Nat.strongRecOn with
    | ind d ih =>
      intro j hd hj
      by_cases e : j + 1 < T.length
      · obtain ⟨k, h1, h2, h3⟩ := h j e
        have := hm.closed k (Nat.zero_le _) h1 (ih _ (by omega) k rfl h1) _ h3 (by omega)
        rwa [show ((n : Int) + j - n).toNat = j by omega] at this
      · have : j = T.length - 1 := by omega
        rw [this]; exact hm.last
  exact fun j hj => key _ j rfl hj
theorem trimL_full {n : Nat} {T : List (List Int)} (hv : ValidL n T) (hp : 0 < T.length) (h : ∀ j, j + 1 < T.length → ∃ k, k < T.length ∧ j < k ∧ (n : Int) + j ∈ gl T k) : trimL n T = T := by
  have hf := needF_full hv hp h
  rw [trimL_sel ((needF_mk hv hp).refs hv), sel_all T 0 fun j _ hj => hf j (by omega)]
  refine List.ext_getElem? fun i => ?_
  rw [List.getElem?_map]
  by_cases hi : i < T.length
  · rw [List.getElem?_eq_getElem hi, Option.map_some]
    congr 1
    have hmem : ∀ x ∈ T[i], 0 ≤ x ∧ x < (n : Int) + i := fun x hx => valid_mem hv hi (by rwa [gl_eq T i hi])
    rw [show T[i] = T[i].map id by simp]
    rw [List.map_map]
    refine List.map_congr_left fun x hx => ?_
    have := hmem x hx
    simp only [Function.comp, id, ren]
    split
    · rw [rk_all hf _ (by omega)]; omega
    · rfl
  · rw [List.getElem?_eq_none (by omega)]; rfl
/-- A trimmed trace ends in nothing left as well. -/
theorem trim_derives {G l D : List (List Int)} (h : derGo G [] l = some D) (hl : 0 < l.length) (he : gl D (D.length - 1) = []) :
    ∃ E, derGo G [] (trimL G.length l) = some E ∧ E.length ≠ 0 ∧ gl E (E.length - 1) = [] := by
  have hv := derGo_valid h
  have hm := needF_mk hv hl
  have hr := hm.refs hv
  have hd := derGo_length h
  simp only [List.length_nil, Nat.zero_add] at hd
  have h1 := derGo_sel (N := needF G.length l) l [] D h fun j h1 h2 => by
    simp only [List.length_nil, Nat.zero_add] at h2 ⊢
    exact hr j h1 h2
  rw [trimL_sel hr]
  refine ⟨_, h1, ?_, ?_⟩
  · rw [sel_length, hd]
    have := rk_lt (show l.length - 1 < l.length by omega) hm.last
    omega
  · have hlast : rk (needF G.length l) l.length = rk (needF G.length l) (l.length - 1) + 1 := by
      have : rk (needF G.length l) (l.length - 1 + 1) = rk (needF G.length l) (l.length - 1) + 1 := by simp [rk, hm.last]
      rwa [Nat.sub_add_cancel hl] at this
    rw [sel_length, hd, hlast, Nat.add_sub_cancel, gl_sel (by omega) hm.last]
    rwa [hd] at he
theorem chkF_of {G l D : List (List Int)} {b : List Int} (h : decF b = (l, 0)) (hd : derGo G [] l = some D) (h0 : D.length ≠ 0) (he : gl D (D.length - 1) = []) : chkF G b = (l, 0) := by
  unfold chkF
  rw [h]
  simp only [ne_eq, not_true_eq_false, if_false, hd]
  rw [if_neg]
  rintro (h1 | h1)
  · exact h0 h1
  · rw [he] at h1; exact absurd h1 (Nat.lt_irrefl 0)
end Go.Proofs.PlaitPure
