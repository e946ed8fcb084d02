/-
  Plain lists of numbers, as the laws and the program go through them. No program and no memory in sight.
-/
namespace Go.Proofs.PlaitPure
/-- An element, 0 beyond the end. (A name, so that no rewriting looks into it.) -/
def gi (xs : List Int) (k : Nat) : Int := xs.getD k 0
theorem gi_eq (xs : List Int) (k : Nat) (h : k < xs.length) : gi xs k = xs[k] := by simp [gi, h]
theorem gi_map_eq (xs : List Int) (k : Nat) (h : k < xs.length) : xs[k]? = some (gi xs k) := by simp [gi, h]
/-- A list, [] beyond the end. -/
def gl (xss : List (List Int)) (k : Nat) : List Int := xss.getD k []
theorem gl_eq (xss : List (List Int)) (k : Nat) (h : k < xss.length) : gl xss k = xss[k] := by simp [gl, h]
theorem take_gi (xs : List Int) (k : Nat) (h : k < xs.length) : xs.take (k + 1) = xs.take k ++ [gi xs k] := by
  rw [List.take_succ_eq_append_getElem h, gi_eq xs k h]
theorem take_gl (xss : List (List Int)) (k : Nat) (h : k < xss.length) : xss.take (k + 1) = xss.take k ++ [gl xss k] := by
  rw [List.take_succ_eq_append_getElem h, gl_eq xss k h]

/-- Is a number in a list? -/
def hasB (xs : List Int) (x : Int) : Bool := xs.contains x
theorem hasB_take_succ {xs : List Int} {x : Int} {k : Nat} (h : k < xs.length) : hasB (xs.take (k + 1)) x = (hasB (xs.take k) x || gi xs k == x) := by
  rw [take_gi xs k h]
  unfold hasB
  rw [Bool.eq_iff_iff]
  simp only [List.contains_iff_mem, List.mem_append, List.mem_singleton, Bool.or_eq_true, beq_iff_eq]
  constructor
  · rintro (h | h); exact .inl h; exact .inr h.symm
  · rintro (h | h); exact .inl h; exact .inr h.symm
theorem hasB_all {xs : List Int} {x : Int} : hasB (xs.take xs.length) x = hasB xs x := by rw [List.take_length]
theorem hasB_iff {xs : List Int} {x : Int} : hasB xs x = true ↔ x ∈ xs := by unfold hasB; simp
theorem hasB_of_take {xs : List Int} {x : Int} {k : Nat} (h : hasB (xs.take k) x = true) : hasB xs x = true :=
  hasB_iff.2 (List.mem_of_mem_take (hasB_iff.1 h))

/-- The same lists? -/
def eqB (xs ys : List Int) : Bool := decide (xs = ys)
theorem eqB_len {xs ys : List Int} (h : xs.length ≠ ys.length) : eqB xs ys = false := by
  unfold eqB; simp; intro e; exact h (by rw [e])
theorem eqB_ne {xs ys : List Int} {k : Nat} (_hk : k < xs.length) (_hl : xs.length = ys.length) (h : gi xs k ≠ gi ys k) : eqB xs ys = false := by
  unfold eqB; simp; intro e; exact h (by rw [e])
theorem eqB_yes {xs ys : List Int} (hl : xs.length = ys.length) (h : xs.take xs.length = ys.take xs.length) : eqB xs ys = true := by
  unfold eqB
  rw [List.take_length, hl, List.take_length] at h
  simpa using h
theorem eqB_iff {xs ys : List Int} : eqB xs ys = true ↔ xs = ys := by unfold eqB; simp

/-- How many numbers lists have, with one for each list, counted to a bound. -/
def sizeGo (most : Int) : Int → List (List Int) → Int
  | n, [] => n
  | n, l :: r => if n ≤ most then sizeGo most (n + l.length) r else n
def sizeF (xss : List (List Int)) (most : Int) : Int := sizeGo most xss.length xss
theorem sizeGo_sum {most : Int} : ∀ (xss : List (List Int)) (n : Int), sizeGo most n xss ≤ most → sizeGo most n xss = n + (xss.map List.length).sum
  | [], n, _ => by simp [sizeGo]
  | l :: r, n, h => by
    unfold sizeGo at h ⊢
    split at h
    · rename_i hn
      rw [if_pos hn, sizeGo_sum r _ h]
      simp; omega
    · omega
theorem sizeF_sum {xss : List (List Int)} {most : Int} (h : sizeF xss most ≤ most) : (xss.length : Int) + (xss.map List.length).sum ≤ most := by
  have := sizeGo_sum xss _ h
  unfold sizeF at h
  omega
theorem drop_gl (xss : List (List Int)) (k : Nat) (h : k < xss.length) : xss.drop k = gl xss k :: xss.drop (k + 1) := by
  rw [gl_eq xss k h]; exact List.drop_eq_getElem_cons h
theorem drop_gi (xs : List Int) (k : Nat) (h : k < xs.length) : xs.drop k = gi xs k :: xs.drop (k + 1) := by
  rw [gi_eq xs k h]; exact List.drop_eq_getElem_cons h
theorem sizeGo_step {most n : Int} {xss : List (List Int)} {k : Nat} (h : k < xss.length) (hn : n ≤ most) : sizeGo most n (xss.drop k) = sizeGo most (n + (gl xss k).length) (xss.drop (k + 1)) := by
  rw [drop_gl xss k h, sizeGo, if_pos hn]
theorem sizeGo_stop {most n : Int} {xss : List (List Int)} {k : Nat} (hn : ¬ n ≤ most) : sizeGo most n (xss.drop k) = n := by
  cases xss.drop k with
  | nil => rfl
  | cons l r => rw [sizeGo, if_neg hn]
theorem sizeGo_end {most n : Int} {xss : List (List Int)} {k : Nat} (h : xss.length ≤ k) : sizeGo most n (xss.drop k) = n := by
  rw [List.drop_eq_nil_of_le h]; rfl

/-- A number from 0 to n - 1 out of any number. -/
def placeF (k n : Int) : Int := if k.tmod n < 0 then k.tmod n + n else k.tmod n
theorem placeF_range {k n : Int} (h : 0 < n) : 0 ≤ placeF k n ∧ placeF k n < n := by
  unfold placeF
  have h1 := Int.tmod_lt_of_pos k h
  have h2 : -n < k.tmod n := by
    have := Int.neg_tmod k n
    have := Int.tmod_lt_of_pos (-k) h
    omega
  split <;> omega

/-- A clause as a set that rises. -/
def ins (x : Int) : List Int → List Int
  | [] => [x]
  | y :: r => if y < x then y :: ins x r else if y = x then y :: r else x :: y :: r
def okLit (x : Int) : Bool := decide (x ≠ 0 ∧ -2147483647 ≤ x ∧ x ≤ 2147483647)
def setGo : List Int → List Int → Option (List Int)
  | out, [] => some out
  | out, x :: r => if okLit x then setGo (ins x out) r else none
def setF (xs : List Int) : Option (List Int) := setGo [] xs
theorem ins_at {x : Int} : ∀ {out : List Int} {j : Nat}, j ≤ out.length → (∀ i, i < j → gi out i < x) → (j < out.length → x < gi out j) → ins x out = out.take j ++ x :: out.drop j
  | [], j, hj, _, _ => by
    have : j = 0 := by simpa using hj
    subst this
    rfl
  | y :: r, 0, _, _, h => by
    have h0 : x < y := h (by simp)
    unfold ins
    rw [if_neg (by omega), if_neg (by omega)]
    rfl
  | y :: r, j + 1, hj, ha, h => by
    have h0 : y < x := ha 0 (by omega)
    unfold ins
    rw [if_pos h0, ins_at (out := r) (j := j) (by simpa using hj) (fun i hi => ha (i + 1) (by omega)) (fun hi => h (by simpa using hi))]
    rfl
theorem ins_there {x : Int} : ∀ {out : List Int} {j : Nat}, j < out.length → (∀ i, i < j → gi out i < x) → gi out j = x → ins x out = out
  | [], j, hj, _, _ => by simp at hj
  | y :: r, 0, _, _, h => by
    have h0 : y = x := h
    unfold ins
    rw [if_neg (by omega), if_pos h0]
  | y :: r, j + 1, hj, ha, h => by
    have h0 : y < x := ha 0 (by omega)
    unfold ins
    rw [if_pos h0, ins_there (out := r) (j := j) (by simpa using hj) (fun i hi => ha (i + 1) (by omega)) h]
theorem ins_length (x : Int) : ∀ out : List Int, (ins x out).length ≤ out.length + 1
  | [] => by simp [ins]
  | y :: r => by
    have := ins_length x r
    unfold ins
    split
    · simp; omega
    · split <;> simp
theorem setGo_ok {out xs : List Int} {k : Nat} (h : k < xs.length) (hx : okLit (gi xs k) = true) : setGo out (xs.drop k) = setGo (ins (gi xs k) out) (xs.drop (k + 1)) := by
  rw [drop_gi xs k h, setGo, if_pos hx]
theorem setGo_bad {out xs : List Int} {k : Nat} (h : k < xs.length) (hx : okLit (gi xs k) = false) : setGo out (xs.drop k) = none := by
  rw [drop_gi xs k h, setGo, if_neg (by simp [hx])]
theorem setGo_end {out xs : List Int} {k : Nat} (h : xs.length ≤ k) : setGo out (xs.drop k) = some out := by
  rw [List.drop_eq_nil_of_le h]; rfl
theorem shift_start (out : List Int) (z : Int) : out ++ [z] = out.take out.length ++ z :: out.drop out.length := by simp
theorem shift_step {out : List Int} {j : Nat} (z : Int) (h0 : 0 < j) (h : j ≤ out.length) : (out.take j ++ z :: out.drop j).set j (gi out (j - 1)) = out.take (j - 1) ++ gi out (j - 1) :: out.drop (j - 1) := by
  obtain ⟨i, rfl⟩ : ∃ i, j = i + 1 := ⟨j - 1, by omega⟩
  simp only [Nat.add_sub_cancel]
  rw [take_gi out i (by omega), drop_gi out i (by omega)]
  rw [List.set_append, if_neg (by simp; omega)]
  simp only [List.append_assoc, List.singleton_append]
  congr 2
  have : i + 1 - (out.take i ++ [gi out i]).length = 0 := by simp; omega
  rw [this]
  rfl
theorem shift_read {out : List Int} {j : Nat} (z : Int) (h0 : 0 < j) (h : j ≤ out.length) : gi (out.take j ++ z :: out.drop j) (j - 1) = gi out (j - 1) := by
  unfold gi
  simp only [List.getD_eq_getElem?_getD]
  rw [List.getElem?_append_left (by simp; omega), List.getElem?_take, if_pos (by omega)]
theorem shift_end {out : List Int} {j : Nat} (z x : Int) (h : j ≤ out.length) : (out.take j ++ z :: out.drop j).set j x = out.take j ++ x :: out.drop j := by
  rw [List.set_append, if_neg (by simp; omega)]
  have : j - (out.take j).length = 0 := by simp; omega
  rw [this]
  rfl
end Go.Proofs.PlaitPure
