/-
  The clauses of one literal, and the whole of following: as plain lists. No program and no memory in sight.
-/
import Derived.Test.YtmljcbdlkeooiaaStoreM4
namespace Go.Proofs.PlaitPure
def SM.shortN (S : SM) : List Nat := (List.range S.cls.length).filter S.isShort
theorem SM.short_eq (S : SM) : S.short = S.shortN.map fun (i : Nat) => (i : Int) := rfl
theorem SM.shortN_mem {S : SM} {i : Nat} : i ∈ S.shortN ↔ i < S.cls.length ∧ (S.cl i).lits.length < 2 := by
  unfold SM.shortN SM.isShort SM.cl
  simp
/-- Setting the clauses of one literal. -/
def beginScan (S : SM) : RM → List Nat → RM × Option Nat
  | R, [] => (R, none)
  | R, ref :: rest =>
    match (S.cl ref).lits with
    | [] => (R, some ref)
    | x :: _ => if R.is x < 0 then (R, some ref) else if R.is x = 0 then beginScan S (R.set x) rest else beginScan S R rest
def beginF (fuel : Nat) (S : SM) (R : RM) : Option (SM × RM × Option Nat) :=
  match beginScan S R S.shortN with
  | (R', some b) => some (S, R', some b)
  | (R', none) => followF fuel S R'
/-- A run's beginning. -/
def nVals : Nat := 65537
def zeros (n : Nat) : List Int := List.replicate n 0
theorem zeros_length (n : Nat) : (zeros n).length = n := by simp [zeros]
theorem zeros_gi (n i : Nat) : gi (zeros n) i = 0 := by
  unfold gi zeros
  rw [List.getD_eq_getElem?_getD, List.getElem?_replicate]
  split <;> rfl
def RM.start : RM := ⟨[], zeros nVals, 0⟩
/-- Setting literals one behind the other. -/
def litsF (fuel : Nat) : SM → RM → List Int → Option (SM × RM × Int)
  | S, R, [] => some (S, R, -1)
  | S, R, l :: rest =>
    if litB l = false ∨ R.is l < 0 then some (S, R, -2)
    else if 0 < R.is l then litsF fuel S R rest
    else match followF fuel S (R.set l) with
      | none => none
      | some (S', R', some b) => some (S', R', (b : Int))
      | some (S', R', none) => litsF fuel S' R' rest
def followAll (fuel : Nat) (S : SM) (lits : List Int) : Option (SM × RM × Int) :=
  match beginF fuel S RM.start with
  | none => none
  | some (S', R', some b) => some (S', R', (b : Int))
  | some (S', R', none) => litsF fuel S' R' lits
theorem RM.start_is (l : Int) : RM.start.is l = 0 := by
  unfold RM.is RM.start
  simp only [zeros_gi]
  split <;> rfl
theorem RM.start_inv : RM.start.Inv := by
  have h0 : RM.start.out = [] := rfl
  refine ⟨⟨zeros_length _, fun i => ?_, Nat.zero_le _⟩, (fun x hx => by rw [h0] at hx; cases hx), fun l _ => ?_, Nat.le_refl _, by rw [h0]; exact List.nodup_nil⟩
  · show -1 ≤ gi (zeros nVals) i ∧ gi (zeros nVals) i ≤ 1
    rw [zeros_gi]; omega
  · rw [RM.start_is, h0]
    constructor
    · intro h; omega
    · intro h; cases h
/-- Following keeps what holds. -/
theorem scanF_inv (l : Int) : ∀ (rest : List Nat) (S : SM) (R : RM) (kept : List Nat), ScanInv l S R kept rest → (scanF l S R kept rest).S.Inv ∧ (scanF l S R kept rest).R.Inv ∧ (scanF l S R kept rest).R.next < (scanF l S R kept rest).R.out.length
  | [], S, R, kept, h => ⟨h.sInv, h.rInv, h.next⟩
  | ref :: rest, S, R, kept, h => by
    have hs := h.step
    rw [scanF_cons]
    split
    · exact ⟨hs.sInv, hs.rInv, hs.next⟩
    · exact scanF_inv l rest _ _ _ hs
theorem scan_start {S : SM} {R : RM} (hS : S.Inv) (hR : R.Inv) (hn : R.next < R.out.length) (hi : idx R.lit < S.watches.length) : ScanInv R.lit S R [] (S.getW (idx R.lit)) := by
  have hm : gi R.out R.next ∈ R.out := getL_mem hn
  have hb := hR.lits _ hm
  refine ⟨hS, hR, ?_, litB_neg hb, by simp, hi, hn⟩
  have := (hR.neg (litB_neg hb)).2 (by simpa using hm)
  unfold RM.lit
  omega
theorem followF_inv : ∀ (fuel : Nat) (S : SM) (R : RM) (res : SM × RM × Option Nat), S.Inv → R.Inv → followF fuel S R = some res → res.1.Inv ∧ res.2.1.Inv
  | 0, S, R, res, _, _, h => by rw [followF] at h; cases h
  | n + 1, S, R, res, hS, hR, h => by
    rw [followF] at h
    split at h
    · rename_i hn
      split at h
      · rename_i hi
        have hsc := scanF_inv _ _ _ _ _ (scan_start hS hR hn hi)
        simp only at h
        split at h
        · simp only [Option.some.injEq] at h
          rw [← h]
          exact ⟨hsc.1, hsc.2.1⟩
        · exact followF_inv n _ _ res hsc.1 (hsc.2.1.step hsc.2.2) h
      · exact followF_inv n _ _ res hS (hR.step hn) h
    · simp only [Option.some.injEq] at h
      rw [← h]
      exact ⟨hS, hR⟩
theorem beginScan_inv {S : SM} (hS : S.Inv) : ∀ (l : List Nat) (R : RM), (∀ i ∈ l, i < S.cls.length) → R.Inv → (beginScan S R l).1.Inv
  | [], R, _, h => h
  | ref :: rest, R, hl, h => by
    rw [beginScan]
    split
    · exact h
    · rename_i x _ hx
      have hb : litB x = true := (hS.cl ref (hl ref (by simp))).lits x (by rw [hx]; simp)
      split
      · exact h
      · split
        · exact beginScan_inv hS rest _ (fun i hi => hl i (by simp [hi])) (h.set hb ‹_›)
        · exact beginScan_inv hS rest _ (fun i hi => hl i (by simp [hi])) h
end Go.Proofs.PlaitPure
