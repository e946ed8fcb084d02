/-
  Traces as bytes: what is written, what is read. No program and no memory in sight.
-/
import Derived.Test.YtodmkcolamppmaaPure
namespace Go.Proofs.PlaitPure

def IsBytes (b : List Int) : Prop := ∀ x ∈ b, 0 ≤ x ∧ x ≤ 255
theorem IsBytes.append {a b : List Int} (h : IsBytes a) (k : IsBytes b) : IsBytes (a ++ b) := fun x hx => (List.mem_append.1 hx).elim (h x) (k x)
theorem IsBytes.drop {b : List Int} (h : IsBytes b) (n : Nat) : IsBytes (b.drop n) := fun x hx => h x (List.mem_of_mem_drop hx)
theorem IsBytes.tail {a : Int} {b : List Int} (h : IsBytes (a :: b)) : IsBytes b := fun x hx => h x (by simp [hx])
def okN (n : Int) : Bool := decide (0 ≤ n ∧ n ≤ 2147483647)
theorem okN_iff {n : Int} : okN n = true ↔ 0 ≤ n ∧ n ≤ 2147483647 := by simp [okN]
/-- A number's four bytes. -/
def putF (n : Int) : List Int := [n / 16777216 % 256, n / 65536 % 256, n / 256 % 256, n % 256]
theorem putF_length (n : Int) : (putF n).length = 4 := rfl
theorem putF_bytes (n : Int) : IsBytes (putF n) := by
  intro x hx
  simp only [putF, List.mem_cons, List.not_mem_nil, or_false] at hx
  omega
/-- The number that four bytes are. -/
def numF (a b c d : Int) : Int := a * 16777216 + b * 65536 + c * 256 + d
theorem numF_put {n : Int} (h0 : 0 ≤ n) (h1 : n ≤ 4294967295) : numF (n / 16777216 % 256) (n / 65536 % 256) (n / 256 % 256) (n % 256) = n := by unfold numF; omega
theorem put_numF {a b c d : Int} (ha : 0 ≤ a ∧ a ≤ 255) (hb : 0 ≤ b ∧ b ≤ 255) (hc : 0 ≤ c ∧ c ≤ 255) (hd : 0 ≤ d ∧ d ≤ 255) : putF (numF a b c d) = [a, b, c, d] := by
  unfold putF numF
  congr 1
  · omega
  · congr 1
    · omega
    · congr 1
      · omega
      · congr 1
        omega
def stepB (s : List Int) : List Int := putF s.length ++ s.flatMap putF
/-- All steps' bytes. -/
def encB (l : List (List Int)) : List Int := putF 1347179569 ++ (putF l.length ++ l.flatMap stepB)
def encF (l : List (List Int)) : List Int × Int := if l.all (fun s => s.all okN) then (encB l, 0) else ([], 120)
theorem flat_put_length (s : List Int) : (s.flatMap putF).length = 4 * s.length := by
  induction s with
  | nil => rfl
  | cons a r ih => rw [List.flatMap_cons, List.length_append, ih, putF_length, List.length_cons]; omega
theorem flat_put_bytes (s : List Int) : IsBytes (s.flatMap putF) := by
  intro x hx
  obtain ⟨y, _, h⟩ := List.mem_flatMap.1 hx
  exact putF_bytes y x h
theorem stepB_length (s : List Int) : (stepB s).length = 4 + 4 * s.length := by rw [stepB, List.length_append, flat_put_length, putF_length]
theorem stepB_bytes (s : List Int) : IsBytes (stepB s) := (putF_bytes _).append (flat_put_bytes s)
theorem flat_step_length (l : List (List Int)) : (l.flatMap stepB).length = 4 * l.length + 4 * (l.map List.length).sum := by
  induction l with
  | nil => rfl
  | cons a r ih => rw [List.flatMap_cons, List.length_append, ih, stepB_length, List.length_cons, List.map_cons, List.sum_cons]; omega
theorem flat_step_bytes (l : List (List Int)) : IsBytes (l.flatMap stepB) := by
  intro x hx
  obtain ⟨y, _, h⟩ := List.mem_flatMap.1 hx
  exact stepB_bytes y x h
theorem encB_length (l : List (List Int)) : (encB l).length = 8 + 4 * l.length + 4 * (l.map List.length).sum := by
  rw [encB, List.length_append, List.length_append, flat_step_length, putF_length, putF_length]; omega
theorem encB_bytes (l : List (List Int)) : IsBytes (encB l) := (putF_bytes _).append ((putF_bytes _).append (flat_step_bytes l))

/-- The next number; none: it isn't there, or too great. -/
def takeF : List Int → Option (Int × List Int)
  | a :: b :: c :: d :: r => if a ≤ 127 then some (numF a b c d, r) else none
  | _ => none
def readN : Nat → List Int → Option (List Int × List Int)
  | 0, b => some ([], b)
  | k + 1, b => match takeF b with
    | none => none
    | some (x, r) => match readN k r with
      | none => none
      | some (l, r') => some (x :: l, r')
def rowN (b : List Int) : Option (List Int × List Int) := match takeF b with
  | none => none
  | some (n, r) => readN n.toNat r
def rowsN : Nat → List Int → Option (List (List Int) × List Int)
  | 0, b => some ([], b)
  | k + 1, b => match rowN b with
    | none => none
    | some (x, r) => match rowsN k r with
      | none => none
      | some (l, r') => some (x :: l, r')
def decF (b : List Int) : List (List Int) × Int := match takeF b with
  | none => ([], 120)
  | some (h, r) => match takeF r with
    | none => ([], 120)
    | some (n, r2) => if h ≠ 1347179569 then ([], 120) else match rowsN n.toNat r2 with
      | some (l, []) => (l, 0)
      | _ => ([], 120)
theorem takeF_length {b : List Int} {n : Int} {r : List Int} (h : takeF b = some (n, r)) : b.length = r.length + 4 := by
  unfold takeF at h
  split at h
  · split at h
    · cases h; simp
    · cases h
  · cases h
theorem takeF_form {b : List Int} {n : Int} {r : List Int} (hb : IsBytes b) (h : takeF b = some (n, r)) : b = putF n ++ r ∧ okN n = true ∧ IsBytes r := by
  unfold takeF at h
  split at h
  · rename_i a b c d r'
    split at h
    · rename_i ha
      cases h
      have h1 := hb a (by simp)
      have h2 := hb b (by simp)
      have h3 := hb c (by simp)
      have h4 := hb d (by simp)
      refine ⟨by rw [put_numF h1 h2 h3 h4]; rfl, okN_iff.2 ?_, fun x hx => hb x (by simp [hx])⟩
      unfold numF
      omega
    · cases h
  · cases h
theorem takeF_put {n : Int} (h : okN n = true) (r : List Int) : takeF (putF n ++ r) = some (n, r) := by
  obtain ⟨h0, h1⟩ := okN_iff.1 h
  show (if n / 16777216 % 256 ≤ 127 then _ else _) = _
  rw [if_pos (by omega), numF_put h0 (by omega)]
  rfl
theorem readN_length : ∀ (k : Nat) (b l r : List Int), readN k b = some (l, r) → b.length = r.length + 4 * k ∧ l.length = k
  | 0, b, l, r, h => by cases h; simp
  | k + 1, b, l, r, h => by
    unfold readN at h
    split at h
    · cases h
    · rename_i x r1 h1
      split at h
      · cases h
      · rename_i l' r' h2
        cases h
        have e1 := takeF_length h1
        obtain ⟨e2, e3⟩ := readN_length k r1 l' r h2
        exact ⟨by omega, by simp [e3]⟩
theorem rowN_length {b l r : List Int} (h : rowN b = some (l, r)) : b.length = r.length + 4 + 4 * l.length := by
  unfold rowN at h
  split at h
  · cases h
  · rename_i n r1 h1
    have e1 := takeF_length h1
    obtain ⟨e2, e3⟩ := readN_length _ _ _ _ h
    omega
theorem rowsN_length : ∀ (k : Nat) (b : List Int) (l : List (List Int)) (r : List Int), rowsN k b = some (l, r) → b.length = r.length + 4 * k + 4 * (l.map List.length).sum ∧ l.length = k
  | 0, b, l, r, h => by cases h; simp
  | k + 1, b, l, r, h => by
    unfold rowsN at h
    split at h
    · cases h
    · rename_i x r1 h1
      split at h
      · cases h
      · rename_i l' r' h2
        cases h
        have e1 := rowN_length h1
        obtain ⟨e2, e3⟩ := rowsN_length k r1 l' r h2
        simp only [List.map_cons, List.sum_cons, List.length_cons]
        omega
theorem readN_form : ∀ (k : Nat) (b l r : List Int), IsBytes b → readN k b = some (l, r) → b = l.flatMap putF ++ r ∧ l.all okN = true ∧ IsBytes r
  | 0, b, l, r, hb, h => by cases h; exact ⟨rfl, rfl, hb⟩
  | k + 1, b, l, r, hb, h => by
    unfold readN at h
    split at h
    · cases h
    · rename_i x r1 h1
      split at h
      · cases h
      · rename_i l' r' h2
        cases h
        obtain ⟨e1, e2, e3⟩ := takeF_form hb h1
        obtain ⟨f1, f2, f3⟩ := readN_form k r1 l' r e3 h2
        exact ⟨by rw [e1, f1]; simp, by simp only [List.all_cons, e2, f2, Bool.and_self], f3⟩
theorem rowN_form {b l r : List Int} (hb : IsBytes b) (h : rowN b = some (l, r)) : b = stepB l ++ r ∧ l.all okN = true ∧ IsBytes r := by
  unfold rowN at h
  split at h
  · cases h
  · rename_i n r1 h1
    obtain ⟨e1, e2, e3⟩ := takeF_form hb h1
    obtain ⟨f1, f2, f3⟩ := readN_form _ _ _ _ e3 h
    have hl := (readN_length _ _ _ _ h).2
    have hn : (l.length : Int) = n := by have := okN_iff.1 e2; omega
    refine ⟨?_, f2, f3⟩
    rw [e1, f1, stepB, hn, List.append_assoc]
theorem rowsN_form : ∀ (k : Nat) (b : List Int) (l : List (List Int)) (r : List Int), IsBytes b → rowsN k b = some (l, r) → b = l.flatMap stepB ++ r ∧ (l.all fun s => s.all okN) = true ∧ IsBytes r
  | 0, b, l, r, hb, h => by cases h; exact ⟨rfl, rfl, hb⟩
  | k + 1, b, l, r, hb, h => by
    unfold rowsN at h
    split at h
    · cases h
    · rename_i x r1 h1
      split at h
      · cases h
      · rename_i l' r' h2
        cases h
        obtain ⟨e1, e2, e3⟩ := rowN_form hb h1
        obtain ⟨f1, f2, f3⟩ := rowsN_form k r1 l' r e3 h2
        exact ⟨by rw [e1, f1]; simp, by simp only [List.all_cons, e2, f2, Bool.and_self], f3⟩
theorem readN_put : ∀ (l r : List Int), l.all okN = true → readN l.length (l.flatMap putF ++ r) = some (l, r)
  | [], r, _ => rfl
  | x :: l, r, h => by
    simp only [List.all_cons, Bool.and_eq_true] at h
    rw [List.flatMap_cons, List.append_assoc, List.length_cons]
    unfold readN
    rw [takeF_put h.1]
    simp only
    rw [readN_put l r h.2]
theorem rowN_put {l : List Int} (r : List Int) (h : l.all okN = true) (hl : l.length ≤ 2147483647) : rowN (stepB l ++ r) = some (l, r) := by
  unfold rowN stepB
  rw [List.append_assoc, takeF_put (okN_iff.2 ⟨by omega, by omega⟩)]
  simp only [Int.toNat_natCast]
  exact readN_put l r h
theorem rowsN_put : ∀ (l : List (List Int)) (r : List Int), (l.all fun s => s.all okN) = true → (∀ s ∈ l, s.length ≤ 2147483647) → rowsN l.length (l.flatMap stepB ++ r) = some (l, r)
  | [], r, _, _ => rfl
  | x :: l, r, h, hs => by
    simp only [List.all_cons, Bool.and_eq_true] at h
    rw [List.flatMap_cons, List.append_assoc, List.length_cons]
    unfold rowsN
    rw [rowN_put _ h.1 (hs x (by simp))]
    simp only
    rw [rowsN_put l r h.2 (fun s hs' => hs s (by simp [hs']))]
/-- What is written is read again. -/
theorem dec_enc {l : List (List Int)} (h : (encF l).2 = 0) (hl : l.length ≤ 2147483647) (hs : ∀ s ∈ l, s.length ≤ 2147483647) : decF (encF l).1 = (l, 0) := by
  unfold encF at h ⊢
  split at h
  · rename_i ha
    rw [if_pos ha]
    show decF (encB l) = _
    unfold decF encB
    rw [takeF_put (by decide)]
    simp only
    rw [takeF_put (okN_iff.2 ⟨by omega, by omega⟩)]
    simp only
    rw [if_neg (by simp), Int.toNat_natCast]
    have := rowsN_put l [] ha hs
    rw [List.append_nil] at this
    rw [this]
  · cases h
/-- What is read is written again. -/
theorem enc_dec {b : List Int} (hb : IsBytes b) (h : (decF b).2 = 0) : encF (decF b).1 = (b, 0) := by
  unfold decF at h ⊢
  split at h
  · cases h
  · rename_i m r h1
    try rw [h1]
    try simp only at h ⊢
    split at h
    · cases h
    · rename_i n r2 h2
      try rw [h2]
      try simp only at h ⊢
      split at h
      · cases h
      · rename_i hm
        try rw [if_neg hm]
        split at h
        · rename_i l h3
          try rw [h3]
          try simp only
          obtain ⟨e1, e2, e3⟩ := takeF_form hb h1
          obtain ⟨f1, f2, f3⟩ := takeF_form e3 h2
          obtain ⟨g1, g2, g3⟩ := rowsN_form _ _ _ _ f3 h3
          have hl := (rowsN_length _ _ _ _ h3).2
          have hn : (l.length : Int) = n := by have := okN_iff.1 f2; omega
          have hm' : m = 1347179569 := by simpa using hm
          unfold encF
          rw [if_pos g2]
          show (encB l, _) = _
          rw [encB, hn, ← hm', e1, f1, g1, List.append_nil]
        · cases h
theorem decF_err (b : List Int) : (decF b).2 = 0 ∨ (decF b).2 = 120 ∧ (decF b).1 = [] := by
  unfold decF
  split
  · exact .inr ⟨rfl, rfl⟩
  · split
    · exact .inr ⟨rfl, rfl⟩
    · split
      · exact .inr ⟨rfl, rfl⟩
      · split
        · exact .inl rfl
        · exact .inr ⟨rfl, rfl⟩
/-- How much may have been read. -/
theorem decF_size {b : List Int} (h : (decF b).2 = 0) : b.length = 8 + 4 * (decF b).1.length + 4 * ((decF b).1.map List.length).sum := by
  unfold decF at h ⊢
  split at h
  · cases h
  · rename_i m r h1
    try rw [h1]
    try simp only at h ⊢
    split at h
    · cases h
    · rename_i n r2 h2
      try rw [h2]
      try simp only at h ⊢
      split at h
      · cases h
      · rename_i hm
        try rw [if_neg hm]
        split at h
        · rename_i l h3
          try rw [h3]
          try simp only
          have e1 := takeF_length h1
          have e2 := takeF_length h2
          obtain ⟨e3, e4⟩ := rowsN_length _ _ _ _ h3
          simp at e3
          omega
        · cases h
end Go.Proofs.PlaitPure
