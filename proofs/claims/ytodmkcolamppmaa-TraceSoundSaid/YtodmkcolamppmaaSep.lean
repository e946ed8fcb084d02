/-
  A small separation logic over the model's heap: which blocks a call owns, and what they hold. General: no program in sight.
-/
import Derived.WalkKit
namespace Go.Proofs.PlaitSep
open Go Go.RowKit

/-- A part of a heap. -/
abbrev Hp := Nat → Option Obj
/-- What may be said of a part of a heap. -/
def HP := Hp → Prop
def Hp.apart (h k : Hp) : Prop := ∀ b, h b = none ∨ k b = none
def Hp.join (h k : Hp) : Hp := fun b => match h b with | some o => some o | none => k b
theorem Hp.join_comm {h k : Hp} (d : h.apart k) : h.join k = k.join h := by
  funext b
  unfold Hp.join
  rcases d b with e | e <;> rw [e]
  · cases k b <;> rfl
  · cases h b <;> rfl
theorem Hp.join_assoc (h k l : Hp) : (h.join k).join l = h.join (k.join l) := by
  funext b
  unfold Hp.join
  cases h b <;> rfl
theorem Hp.apart_comm {h k : Hp} (d : h.apart k) : k.apart h := fun b => (d b).symm
theorem Hp.apart_join_left {h k l : Hp} (d : (h.join k).apart l) : h.apart l ∧ k.apart l := by
  refine ⟨fun b => ?_, fun b => ?_⟩ <;> have e := d b <;> unfold Hp.join at e <;> cases hh : h b <;> simp_all
theorem Hp.apart_join_right {h k l : Hp} (d : h.apart (k.join l)) : h.apart k ∧ h.apart l := by
  refine ⟨fun b => ?_, fun b => ?_⟩ <;> have e := d b <;> unfold Hp.join at e <;> cases hh : k b <;> simp_all
theorem Hp.apart_join_mk {h k l : Hp} (a : h.apart l) (c : k.apart l) : (h.join k).apart l := by
  intro b
  unfold Hp.join
  rcases a b with e | e <;> rcases c b with f | f <;> simp_all

def emp : HP := fun h => h = fun _ => none
def star (P Q : HP) : HP := fun h => ∃ h1 h2, Hp.apart h1 h2 ∧ h = Hp.join h1 h2 ∧ P h1 ∧ Q h2
theorem star_comm (P Q : HP) : star P Q = star Q P := by
  funext h
  apply propext
  constructor <;> rintro ⟨h1, h2, d, rfl, p, q⟩ <;> exact ⟨h2, h1, Hp.apart_comm d, Hp.join_comm d, q, p⟩
theorem star_assoc (P Q R : HP) : star (star P Q) R = star P (star Q R) := by
  funext h
  apply propext
  constructor
  · rintro ⟨h12, h3, d, rfl, ⟨h1, h2, d', rfl, p, q⟩, r⟩
    have e := Hp.apart_join_left d
    exact ⟨h1, Hp.join h2 h3, Hp.apart_comm (Hp.apart_join_mk (Hp.apart_comm d') (Hp.apart_comm e.1)), Hp.join_assoc .., p, h2, h3, e.2, rfl, q, r⟩
  · rintro ⟨h1, h23, d, rfl, p, ⟨h2, h3, d', rfl, q, r⟩⟩
    have e := Hp.apart_join_right d
    exact ⟨Hp.join h1 h2, h3, Hp.apart_join_mk e.2 d', (Hp.join_assoc ..).symm, ⟨h1, h2, e.1, rfl, p, q⟩, r⟩
theorem star_emp (P : HP) : star P emp = P := by
  funext h
  apply propext
  constructor
  · rintro ⟨h1, h2, _, rfl, p, rfl⟩
    have : Hp.join h1 (fun _ => none) = h1 := by funext b; unfold Hp.join; cases h1 b <;> rfl
    rw [this]; exact p
  · intro p
    refine ⟨h, fun _ => none, fun b => .inr rfl, ?_, p, rfl⟩
    funext b; unfold Hp.join; cases h b <;> rfl
theorem emp_star (P : HP) : star emp P = P := by rw [star_comm, star_emp]
instance : Std.Commutative star := ⟨star_comm⟩
instance : Std.Associative star := ⟨star_assoc⟩
/-- All of a list, apart from one another. -/
def stars : List HP → HP
  | [] => emp
  | P :: L => star P (stars L)
theorem stars_nil : stars [] = emp := rfl
theorem stars_cons (P : HP) (L : List HP) : stars (P :: L) = star P (stars L) := rfl
theorem stars_one (P : HP) : stars [P] = P := star_emp P
theorem stars_append (L M : List HP) : stars (L ++ M) = star (stars L) (stars M) := by
  induction L with
  | nil => simp [stars, emp_star]
  | cons P L ih => simp [stars, ih, star_assoc]
theorem stars_perm {L M : List HP} (h : L.Perm M) : stars L = stars M := by
  induction h with
  | nil => rfl
  | cons x _ ih => simp only [stars, ih]
  | swap x y l => simp only [stars]; ac_rfl
  | trans _ _ ih1 ih2 => exact ih1.trans ih2
theorem stars_set_split {L : List HP} {k : Nat} {P : HP} (h : L[k]? = some P) (Q : HP) : stars L = star P (stars (L.eraseIdx k)) ∧ stars (L.set k Q) = star Q (stars (L.eraseIdx k)) := by
  induction L generalizing k with
  | nil => simp at h
  | cons R L ih =>
    cases k with
    | zero => simp at h; subst h; exact ⟨rfl, rfl⟩
    | succ k =>
      have e := ih (k := k) (by simpa using h)
      simp only [List.set_cons_succ, List.eraseIdx_cons_succ, stars, e.1, e.2]
      exact ⟨by ac_rfl, by ac_rfl⟩

/-- The world holds it, in blocks from B on. -/
def Sat (B : Nat) (w : World) (P : HP) : Prop := ∃ h : Hp, P h ∧ ∀ b o, h b = some o → B ≤ b ∧ w.heap[b]? = some o
theorem Sat.heap {B : Nat} {w w' : World} {P : HP} (h : Sat B w P) (e : w'.heap = w.heap) : Sat B w' P := by
  obtain ⟨k, p, c⟩ := h
  exact ⟨k, p, fun b o x => by rw [e]; exact c b o x⟩
theorem Sat.left {B : Nat} {w : World} {P Q : HP} (h : Sat B w (star P Q)) : Sat B w P := by
  obtain ⟨k, ⟨h1, h2, d, rfl, p, q⟩, c⟩ := h
  exact ⟨h1, p, fun b o x => c b o (by unfold Hp.join; rw [x])⟩
theorem Sat.right {B : Nat} {w : World} {P Q : HP} (h : Sat B w (star P Q)) : Sat B w Q := (star_comm P Q ▸ h).left
theorem Sat.emp (B : Nat) (w : World) : Sat B w emp := ⟨fun _ => none, rfl, fun _ _ h => by cases h⟩
theorem Sat.lt {B : Nat} {w : World} {P : HP} (h : Sat B w P) : ∃ k : Hp, P k ∧ ∀ b o, k b = some o → B ≤ b ∧ b < w.heap.size ∧ w.heap[b]? = some o := by
  obtain ⟨k, p, c⟩ := h
  refine ⟨k, p, fun b o x => ⟨(c b o x).1, ?_, (c b o x).2⟩⟩
  exact (Array.getElem?_eq_some_iff.1 (c b o x).2).1
/-- What is owned lives on where nothing but one block that is not among it has been written. -/
theorem Sat.kept {B : Nat} {w w' : World} {P : HP} (h : Sat B w P) (hk : ∀ b, b < w.heap.size → w'.heap[b]? = w.heap[b]?) : Sat B w' P := by
  obtain ⟨k, p, c⟩ := h.lt
  exact ⟨k, p, fun b o x => ⟨(c b o x).1, by rw [hk b (c b o x).2.1]; exact (c b o x).2.2⟩⟩

/-! ### One block -/
def one (b : Nat) (o : Obj) : HP := fun h => h = fun c => if c = b then some o else none
/-- A block of cells, whole. -/
def pt (b : Nat) (e : TypeId) (xs : List Value) : HP := one b (.cells xs.toArray e (0, 0))
/-- What a slice value that begins at a row's head owns: its cells and what lies behind them, up to its capacity at least. -/
def sl (a : Option Nat) (n c : Nat) (e : TypeId) (sz : Nat) (xs : List Value) : HP := fun h =>
  xs.length = n * sz ∧ match a with
  | none => n = 0 ∧ c = 0 ∧ emp h
  | some b => n ≤ c ∧ c ≤ maxLen ∧ ∃ cur : List Value, c * sz ≤ cur.length ∧ cur.take (n * sz) = xs ∧ pt b e cur h
/-- The value that owns it. -/
def slv (a : Option Nat) (n c : Nat) : Value := .slice (a.map fun b => ⟨b, 0, none⟩) n c

theorem Sat.one {B : Nat} {w : World} {b : Nat} {o : Obj} {F : HP} (h : Sat B w (star (one b o) F)) : w.heap[b]? = some o ∧ B ≤ b := by
  obtain ⟨k, ⟨h1, h2, d, rfl, rfl, q⟩, c⟩ := h
  have := c b o (by unfold Hp.join; simp)
  exact ⟨this.2, this.1⟩
/-- One block is written anew. -/
theorem Sat.put {B : Nat} {w w' : World} {b : Nat} {o o' : Obj} {F : HP} (h : Sat B w (star (PlaitSep.one b o) F)) (h1 : w'.heap[b]? = some o') (h2 : ∀ c, c ≠ b → c < w.heap.size → w'.heap[c]? = w.heap[c]?) : Sat B w' (star (PlaitSep.one b o') F) := by
  obtain ⟨k, ⟨k1, k2, d, rfl, rfl, q⟩, c⟩ := h.lt
  have hB := (Sat.one h).2
  refine ⟨Hp.join (fun c => if c = b then some o' else none) k2, ⟨_, k2, ?_, rfl, rfl, q⟩, ?_⟩
  · intro x
    have := d x
    by_cases e : x = b
    · subst e; simp at this; exact .inr this
    · left; simp [e]
  · intro x u hx
    unfold Hp.join at hx
    by_cases e : x = b
    · subst e
      simp at hx
      subst hx
      exact ⟨hB, h1⟩
    · simp [e] at hx
      have := c x u (by unfold Hp.join; simp [e]; exact hx)
      exact ⟨this.1, by rw [h2 x e this.2.1]; exact this.2.2⟩
theorem Sat.new {B : Nat} {w : World} {F : HP} (h : Sat B w F) (hB : B ≤ w.heap.size) (o : Obj) : Sat B (w.alloc o) (star (PlaitSep.one w.heap.size o) F) := by
  obtain ⟨k, p, c⟩ := h.lt
  refine ⟨Hp.join (fun c => if c = w.heap.size then some o else none) k, ⟨_, k, ?_, rfl, rfl, p⟩, ?_⟩
  · intro x
    by_cases e : x = w.heap.size
    · right
      cases hx : k x with
      | none => rfl
      | some u => have := (c x u hx).2.1; omega
    · left; simp [e]
  · intro x u hx
    unfold Hp.join at hx
    by_cases e : x = w.heap.size
    · subst e
      simp at hx
      subst hx
      exact ⟨hB, heap_alloc_new w _⟩
    · simp [e] at hx
      have := c x u hx
      exact ⟨this.1, by rw [heap_alloc_old w _ this.2.1]; exact this.2.2⟩
theorem Sat.alloc {B : Nat} {w : World} {F : HP} (h : Sat B w F) (o : Obj) : Sat B (w.alloc o) F := h.kept fun _ hb => heap_alloc_old w o hb

/-! ### Cells -/
theorem Sat.pt_cell {B : Nat} {w : World} {b : Nat} {e : TypeId} {xs : List Value} {F : HP} (h : Sat B w (star (pt b e xs) F)) (i : Nat) : w.cell? ⟨b, i, none⟩ = xs[i]? := by
  rw [cell_of_row w b i _ _ _ (Sat.one h).1]; simp
theorem Sat.pt_free {B : Nat} {w : World} {b : Nat} {e : TypeId} {xs : List Value} {F : HP} (h : Sat B w (star (pt b e xs) F)) (i : Nat) : w.frozen? ⟨b, i, none⟩ = false := by
  simp [World.frozen?, (Sat.one h).1]
theorem heap_setCell_same (w : World) (b i : Nat) (v : Value) (cur : Array Value) (e : TypeId) (fr : Nat × Nat) (h : w.heap[b]? = some (.cells cur e fr)) : (w.setCell ⟨b, i, none⟩ v).heap[b]? = some (.cells (cur.setIfInBounds i v) e fr) := by
  simp [World.setCell, Array.getElem?_modify, h]
theorem Sat.pt_set {B : Nat} {w : World} {b : Nat} {e : TypeId} {xs : List Value} {F : HP} (h : Sat B w (star (pt b e xs) F)) (i : Nat) (v : Value) : Sat B (w.setCell ⟨b, i, none⟩ v) (star (pt b e (xs.set i v)) F) := by
  refine Sat.put h ?_ fun c hc _ => Below.heap_setCell w _ v c hc
  rw [heap_setCell_same w b i v _ _ _ (Sat.one h).1]
  simp
theorem Sat.pt_new {B : Nat} {w : World} {F : HP} (h : Sat B w F) (hB : B ≤ w.heap.size) (cs : Array Value) (e : TypeId) : Sat B (w.alloc (.cells cs e)) (star (pt w.heap.size e cs.toList) F) := by
  simpa [pt] using h.new hB (.cells cs e)

theorem sl_open {a : Option Nat} {n c : Nat} {e : TypeId} {sz : Nat} {xs : List Value} {h : Hp} (hs : sl a n c e sz xs h) (hn : 0 < n) : ∃ b, a = some b := by
  cases a with
  | none => have := hs.2.1; omega
  | some b => exact ⟨b, rfl⟩
theorem sl_len {a : Option Nat} {n c : Nat} {e : TypeId} {sz : Nat} {xs : List Value} {h : Hp} (hs : sl a n c e sz xs h) : xs.length = n * sz := hs.1
theorem Sat.sl_facts {B : Nat} {w : World} {a : Option Nat} {n c : Nat} {e : TypeId} {sz : Nat} {xs : List Value} {F : HP} (h : Sat B w (star (sl a n c e sz xs) F)) :
    xs.length = n * sz ∧ n ≤ c ∧ c ≤ maxLen ∧ (a = none → n = 0 ∧ c = 0) ∧ (∀ b, a = some b → B ≤ b ∧ b < w.heap.size) := by
  obtain ⟨k, p, cc⟩ := h.lt
  obtain ⟨h1, h2, d, rfl, s, q⟩ := p
  cases a with
  | none => obtain ⟨x, y, z, _⟩ := s; refine ⟨x, by omega, by subst z; exact Nat.zero_le _, fun _ => ⟨y, z⟩, (fun b hb => by cases hb)⟩
  | some b =>
    obtain ⟨x, y, z, cur, _, _, pp⟩ := s
    refine ⟨x, y, z, (fun hh => by cases hh), fun b' hb => ?_⟩
    obtain rfl : b = b' := by simpa using hb
    have := cc b (.cells cur.toArray e (0, 0)) (by unfold Hp.join; rw [show h1 = _ from pp]; simp)
    exact ⟨this.1, this.2.1⟩
/-- Out of what a slice owns: its block, whole. -/
theorem Sat.sl_pt {B : Nat} {w : World} {b : Nat} {n c : Nat} {e : TypeId} {sz : Nat} {xs : List Value} {F : HP} (h : Sat B w (star (sl (some b) n c e sz xs) F)) :
    ∃ cur : List Value, xs.length = n * sz ∧ n ≤ c ∧ c ≤ maxLen ∧ c * sz ≤ cur.length ∧ cur.take (n * sz) = xs ∧ Sat B w (star (pt b e cur) F) := by
  obtain ⟨k, ⟨h1, h2, d, rfl, ⟨x, y, z, cur, hc, ht, pp⟩, q⟩, cc⟩ := h
  exact ⟨cur, x, y, z, hc, ht, _, ⟨h1, h2, d, rfl, pp, q⟩, cc⟩
theorem Sat.pt_sl {B : Nat} {w : World} {b : Nat} {n c : Nat} {e : TypeId} {sz : Nat} {xs cur : List Value} {F : HP} (h : Sat B w (star (pt b e cur) F)) (hx : xs.length = n * sz) (hn : n ≤ c) (hc : c ≤ maxLen) (hcur : c * sz ≤ cur.length) (ht : cur.take (n * sz) = xs) :
    Sat B w (star (sl (some b) n c e sz xs) F) := by
  obtain ⟨k, ⟨h1, h2, d, rfl, pp, q⟩, cc⟩ := h
  exact ⟨_, ⟨h1, h2, d, rfl, ⟨hx, hn, hc, cur, hcur, ht, pp⟩, q⟩, cc⟩
theorem Sat.sl_cell {B : Nat} {w : World} {b : Nat} {n c : Nat} {e : TypeId} {sz : Nat} {xs : List Value} {F : HP} (h : Sat B w (star (sl (some b) n c e sz xs) F)) (i : Nat) (hi : i < xs.length) : w.cell? ⟨b, i, none⟩ = xs[i]? := by
  obtain ⟨cur, hx, _, _, _, ht, hp⟩ := h.sl_pt
  rw [hp.pt_cell, ← ht, List.getElem?_take, if_pos (by omega)]
theorem Sat.sl_free {B : Nat} {w : World} {b : Nat} {n c : Nat} {e : TypeId} {sz : Nat} {xs : List Value} {F : HP} (h : Sat B w (star (sl (some b) n c e sz xs) F)) (i : Nat) : w.frozen? ⟨b, i, none⟩ = false := by
  obtain ⟨cur, hx, _, _, _, ht, hp⟩ := h.sl_pt
  exact hp.pt_free i
theorem Sat.sl_set {B : Nat} {w : World} {b : Nat} {n c : Nat} {e : TypeId} {sz : Nat} {xs : List Value} {F : HP} (h : Sat B w (star (sl (some b) n c e sz xs) F)) (i : Nat) (v : Value) (_hi : i < xs.length) :
    Sat B (w.setCell ⟨b, i, none⟩ v) (star (sl (some b) n c e sz (xs.set i v)) F) := by
  obtain ⟨cur, hx, hn, hc, hcur, ht, hp⟩ := h.sl_pt
  refine (hp.pt_set i v).pt_sl (by simpa using hx) hn hc (by simpa using hcur) ?_
  rw [List.take_set, ht]
/-- Cut shorter. -/
theorem Sat.sl_cut {B : Nat} {w : World} {a : Option Nat} {n c : Nat} {e : TypeId} {sz : Nat} {xs : List Value} {F : HP} (h : Sat B w (star (sl a n c e sz xs) F)) (m d : Nat) (hm : m ≤ d) (hmn : m ≤ n) (hd : d ≤ c) :
    Sat B w (star (sl a m d e sz (xs.take (m * sz))) F) := by
  cases a with
  | none =>
    obtain ⟨k, ⟨h1, h2, dd, rfl, ⟨x, y, z, u⟩, q⟩, cc⟩ := h
    refine ⟨_, ⟨h1, h2, dd, rfl, ⟨?_, by omega, by omega, u⟩, q⟩, cc⟩
    have : m = 0 := by omega
    subst this
    simp
  | some b =>
    obtain ⟨cur, hx, hn, hc, hcur, ht, hp⟩ := h.sl_pt
    have hms : m * sz ≤ n * sz := Nat.mul_le_mul_right _ hmn
    refine hp.pt_sl ?_ hm (by omega) (Nat.le_trans (Nat.mul_le_mul_right _ hd) hcur) ?_
    · rw [List.length_take, hx]; omega
    · rw [← ht, List.take_take, Nat.min_eq_left hms]
theorem Sat.sl_nil {B : Nat} {w : World} {F : HP} (h : Sat B w F) (e : TypeId) (sz : Nat) : Sat B w (star (sl none 0 0 e sz []) F) := by
  obtain ⟨k, p, c⟩ := h
  refine ⟨k, ⟨fun _ => none, k, fun _ => .inl rfl, ?_, ⟨by simp, rfl, rfl, rfl⟩, p⟩, c⟩
  funext b
  simp [Hp.join]
/-- Two blocks that are owned apart are two. -/
theorem Sat.pt_sl_ne {B : Nat} {w : World} {p b n c : Nat} {e e' : TypeId} {sz : Nat} {xs ys : List Value} {F : HP} (h : Sat B w (star (pt p e ys) (star (sl (some b) n c e' sz xs) F))) : p ≠ b := by
  obtain ⟨k, ⟨h1, h2, d, rfl, q1, h3, h4, d', rfl, ⟨x, y, z, cur, hc, ht, pp⟩, q⟩, cc⟩ := h
  intro e
  subst e
  have hh1 : h1 = _ := q1
  have hh3 : h3 = _ := pp
  have := d p
  subst hh1 hh3
  simp [Hp.join] at this
end Go.Proofs.PlaitSep
