/-
  The store, as plain lists: its clauses in one arena, and which clauses watch a literal. No program and no memory in sight.
-/
import Derived.Test.YtmljcbdlkeooiaaPure
namespace Go.Proofs.PlaitPure

/-- A clause: the places, among its literals, of the two that are watched, and its literals. -/
structure Cl where
  p : Nat
  q : Nat
  lits : List Int
  deriving DecidableEq, Inhabited
def Cl.words (c : Cl) : List Int := (c.p : Int) :: (c.q : Int) :: c.lits
theorem Cl.words_length (c : Cl) : c.words.length = c.lits.length + 2 := rfl
structure SM where
  most : Nat
  cls : List Cl
  watches : List (List Nat)
  deriving DecidableEq, Inhabited
def SM.words (S : SM) : List Int := S.cls.flatMap Cl.words
/-- Where a clause begins in the arena. -/
def SM.begin (S : SM) (i : Nat) : Nat := ((S.cls.take i).flatMap Cl.words).length
def SM.begins (S : SM) : List Int := (List.range S.cls.length).map fun (i : Nat) => (S.begin i : Int)
def SM.isShort (S : SM) (i : Nat) : Bool := decide ((S.cls.getD i default).lits.length < 2)
def SM.short (S : SM) : List Int := ((List.range S.cls.length).filter S.isShort).map fun (i : Nat) => (i : Int)
def SM.cl (S : SM) (i : Nat) : Cl := S.cls.getD i default
theorem SM.cl_eq (S : SM) {i : Nat} (h : i < S.cls.length) : S.cl i = S.cls[i] := by simp [SM.cl, h]
theorem SM.begin_succ (S : SM) {i : Nat} (h : i < S.cls.length) : S.begin (i + 1) = S.begin i + ((S.cl i).lits.length + 2) := by
  unfold SM.begin
  rw [List.take_succ_eq_append_getElem h, List.flatMap_append, List.length_append, S.cl_eq h]
  simp [Cl.words_length]
theorem SM.begin_all (S : SM) {i : Nat} (h : S.cls.length ≤ i) : S.begin i = S.words.length := by
  unfold SM.begin SM.words
  rw [List.take_of_length_le h]
theorem SM.begin_zero (S : SM) : S.begin 0 = 0 := by simp [SM.begin]
theorem SM.begin_le (S : SM) {i : Nat} (h : i < S.cls.length) : S.begin i + ((S.cl i).lits.length + 2) ≤ S.words.length := by
  rw [← S.begin_succ h]
  unfold SM.begin SM.words
  have : (S.cls.flatMap Cl.words).length = ((S.cls.take (i + 1)).flatMap Cl.words).length + ((S.cls.drop (i + 1)).flatMap Cl.words).length := by
    rw [← List.length_append, ← List.flatMap_append, List.take_append_drop]
  omega
theorem SM.cls_length_le (S : SM) : S.cls.length ≤ S.words.length := by
  unfold SM.words
  induction S.cls with
  | nil => simp
  | cons c l ih =>
    rw [List.flatMap_cons, List.length_append, Cl.words_length, List.length_cons]
    omega
theorem SM.begins_length (S : SM) : S.begins.length = S.cls.length := by simp [SM.begins]
theorem SM.begins_at (S : SM) {i : Nat} (h : i < S.cls.length) : gi S.begins i = S.begin i := by
  simp [gi, SM.begins, List.getD_eq_getElem?_getD, h]
/-- A word of a clause. -/
theorem SM.words_at (S : SM) {i j : Nat} (h : i < S.cls.length) (hj : j < (S.cl i).lits.length + 2) : gi S.words (S.begin i + j) = gi (S.cl i).words j := by
  have e : S.words = (S.cls.take i).flatMap Cl.words ++ ((S.cl i).words ++ (S.cls.drop (i + 1)).flatMap Cl.words) := by
    unfold SM.words
    conv => lhs; rw [← List.take_append_drop i S.cls]
    rw [List.flatMap_append, List.drop_eq_getElem_cons h, List.flatMap_cons, S.cl_eq h]
  unfold gi
  simp only [List.getD_eq_getElem?_getD]
  rw [e, List.getElem?_append_right (by unfold SM.begin; omega)]
  have : S.begin i + j - ((S.cls.take i).flatMap Cl.words).length = j := by unfold SM.begin; omega
  rw [this, List.getElem?_append_left (by rw [Cl.words_length]; omega)]

/-- A literal as an unsigned number. -/
def idx (l : Int) : Nat := if l < 0 then 2 * (-l).toNat + 1 else 2 * l.toNat
def litB (l : Int) : Bool := decide (l ≠ 0 ∧ -65536 ≤ l ∧ l ≤ 65536)
theorem litB_iff {l : Int} : litB l = true ↔ l ≠ 0 ∧ -65536 ≤ l ∧ l ≤ 65536 := by simp [litB]
theorem idx_le {l : Int} (h : -65536 ≤ l) (h' : l ≤ 65536) : idx l ≤ 131073 := by unfold idx; split <;> omega
/-- What is true, in the order in which it came, the values by variables, and the next one to be looked at. -/
structure RM where
  out : List Int
  value : List Int
  next : Nat
  deriving DecidableEq, Inhabited
/-- A literal's value: 1, -1, or 0. -/
def RM.is (R : RM) (l : Int) : Int := if l < 0 then - gi R.value (-l).toNat else gi R.value l.toNat
def RM.set (R : RM) (l : Int) : RM := { R with out := R.out ++ [l], value := if l < 0 then R.value.set (-l).toNat (-1) else R.value.set l.toNat 1 }
/-- Values are values. -/
structure RM.ok (R : RM) : Prop where
  len : R.value.length = 65537
  val : ∀ i, -1 ≤ gi R.value i ∧ gi R.value i ≤ 1
  out : R.out.length ≤ 1000000
theorem RM.set_ok {R : RM} (ho : R.ok) (l : Int) (hn : R.out.length + 1 ≤ 1000000) : (R.set l).ok := by
  have hset : ∀ (xs : List Int) (k : Nat) (v : Int), (-1 ≤ v ∧ v ≤ 1) → (∀ i, -1 ≤ gi xs i ∧ gi xs i ≤ 1) → ∀ i, -1 ≤ gi (xs.set k v) i ∧ gi (xs.set k v) i ≤ 1 := by
    intro xs k v hv ha i
    unfold gi
    simp only [List.getD_eq_getElem?_getD, List.getElem?_set]
    split
    · split
      · simpa using hv
      · simp
    · have := ha i
      unfold gi at this
      simpa [List.getD_eq_getElem?_getD] using this
  refine ⟨?_, ?_, by simpa [RM.set] using hn⟩
  · unfold RM.set
    simp only
    split <;> simp [ho.len]
  · intro i
    unfold RM.set
    simp only
    split
    · exact hset _ _ _ (by omega) ho.val i
    · exact hset _ _ _ (by omega) ho.val i

/-- How many lists of watches there must be for a literal and its opposite. -/
def topOf (i : Nat) : Nat := if i % 2 = 0 then i + 2 else i + 1
def padW (W : List (List Nat)) (n : Nat) : List (List Nat) := W ++ List.replicate (n - W.length) []
def watchW (W : List (List Nat)) (i ref : Nat) : List (List Nat) := (padW W (topOf i)).set i ((padW W (topOf i)).getD i [] ++ [ref])
def SM.watch (S : SM) (l : Int) (ref : Nat) : SM := { S with watches := watchW S.watches (idx l) ref }
theorem padW_length (W : List (List Nat)) (n : Nat) : (padW W n).length = max W.length n := by simp [padW]; omega
theorem lt_topOf (i : Nat) : i < topOf i := by unfold topOf; split <;> omega
end Go.Proofs.PlaitPure
