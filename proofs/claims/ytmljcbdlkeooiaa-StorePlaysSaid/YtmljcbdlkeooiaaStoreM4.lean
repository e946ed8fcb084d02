/-
  A store's scan and its memory: what one step does. No program and no memory in sight.
-/
import Derived.Test.YtmljcbdlkeooiaaStoreM3
namespace Go.Proofs.PlaitPure

theorem SM.setW_setW (S : SM) (i : Nat) (a b : List Nat) : (S.setW i a).setW i b = S.setW i b := by unfold SM.setW; simp
theorem SM.setW_getW (S : SM) {i : Nat} (h : i < S.watches.length) : S.setW i (S.getW i) = S := by
  unfold SM.setW SM.getW
  simp [h]
theorem SM.setW_same {S : SM} {i : Nat} {v : List Nat} (h : i < S.watches.length) (e : S.getW i = v) : S.setW i v = S := by rw [← e]; exact S.setW_getW h
theorem SM.put_setW (S : SM) (r : Nat) (c : Cl) (i : Nat) (v : List Nat) : (S.setW i v).put r c = (S.put r c).setW i v := rfl
theorem SM.cl_setW (S : SM) (i : Nat) (v : List Nat) (r : Nat) : (S.setW i v).cl r = S.cl r := rfl
theorem SM.watch_setW (S : SM) (x : Int) (ref i : Nat) (v : List Nat) (hi : i < S.watches.length) (hne : idx x ≠ i) : (S.setW i v).watch x ref = (S.watch x ref).setW i v := by
  unfold SM.watch SM.setW
  simp only
  congr 1
  have hp : padW (S.watches.set i v) (topOf (idx x)) = (padW S.watches (topOf (idx x))).set i v := by
    unfold padW
    rw [List.length_set, List.set_append, if_pos hi]
  unfold watchW
  rw [hp, List.set_comm _ _ hne.symm]
  congr 2
  simp only [List.getD_eq_getElem?_getD, List.getElem?_set_ne hne.symm]
theorem lookF_setW (S : SM) (R : RM) (ref : Nat) (l : Int) (v : List Nat) (hi : idx l < S.watches.length) (hl : R.is l < 0) :
    lookF (S.setW (idx l) v) R ref l = ⟨(lookF S R ref l).moved, (lookF S R ref l).bad, (lookF S R ref l).S.setW (idx l) v, (lookF S R ref l).R⟩ := by
  have e1 : otherOf (S.setW (idx l) v) ref l = otherOf S ref l := rfl
  have e2 : (S.setW (idx l) v).cl ref = S.cl ref := rfl
  have e3 : ∀ i, moveTo (S.setW (idx l) v) ref l i = (moveTo S ref l i).setW (idx l) v := by
    intro i
    unfold moveTo
    have : mineP (S.setW (idx l) v) ref l = mineP S ref l := rfl
    rw [this]
    split <;> rfl
  have e4 : ∀ i, (moveTo S ref l i).watches = S.watches := by intro i; unfold moveTo; split <;> rfl
  unfold lookF
  simp only [e1, e2]
  split
  · rfl
  · split
    · rename_i i hf
      have h1 := fits_ne (findNew_some hf).2
      have hne : idx (gi (S.cl ref).lits i) ≠ idx l := fun e => by have := idx_inj e; rw [this] at h1; omega
      rw [e3, SM.watch_setW _ _ _ _ _ (by rw [e4]; exact hi) hne]
    · split <;> rfl

/-- What holds while the clauses that watch l are gone through. -/
structure ScanInv (l : Int) (S : SM) (R : RM) (kept rest : List Nat) : Prop where
  sInv : S.Inv
  rInv : R.Inv
  neg : R.is l < 0
  lit : litB l = true
  w : S.getW (idx l) = kept ++ rest
  lt : idx l < S.watches.length
  next : R.next < R.out.length
/-- One clause of a scan. -/
def scanStep (l : Int) (S : SM) (R : RM) (kept : List Nat) (ref : Nat) (rest : List Nat) : List Nat × SM × RM :=
  let k := lookF S R ref l
  let kept' := if k.moved then kept else kept ++ [ref]
  (kept', k.S.setW (idx l) (kept' ++ rest), k.R)
theorem ScanInv.step {l : Int} {S : SM} {R : RM} {kept rest : List Nat} {ref : Nat} (h : ScanInv l S R kept (ref :: rest)) :
    ScanInv l (scanStep l S R kept ref rest).2.1 (scanStep l S R kept ref rest).2.2 (scanStep l S R kept ref rest).1 rest := by
  have hk := h.sInv.looks (ref := ref) (l := l) (by rw [h.w]; simp)
  have hlt := h.lt
  unfold scanStep
  obtain ⟨k, hkk⟩ : ∃ k, lookF S R ref l = k := ⟨_, rfl⟩
  have hf := lookF_found S R ref l kept rest
  rw [hkk] at hf ⊢
  have hsame : S.setW (idx l) (kept ++ [ref] ++ rest) = S := SM.setW_same hlt (by rw [h.w]; simp)
  have hq : otherOf S ref l < (S.cl ref).lits.length := by
    unfold otherOf
    split
    · exact hk.ok.q hk.two
    · exact hk.ok.p hk.two
  cases hf with
  | sat h1 =>
    simp only [Bool.false_eq_true, if_false]
    rw [hsame]
    exact ⟨h.sInv, h.rInv, h.neg, h.lit, by rw [h.w]; simp, hlt, h.next⟩
  | moved i hi hfi h1 =>
    simp only [if_true]
    have hinv := h.sInv.look (kept := kept) (rest := rest) h.w h.neg hi hfi
    have h2 := fits_ne hfi
    have hne : idx (gi (S.cl ref).lits i) ≠ idx l := fun e => by have := idx_inj e; rw [this] at h2; have := h.neg; omega
    have hlen : idx l < ((moveTo S ref l i).watch (gi (S.cl ref).lits i) ref).watches.length := by
      rw [SM.watch_length]
      have : (moveTo S ref l i).watches = S.watches := by unfold moveTo; split <;> rfl
      rw [this]
      omega
    refine ⟨hinv, h.rInv, h.neg, h.lit, ?_, ?_, h.next⟩
    · rw [SM.getW_setW, if_pos ⟨rfl, hlen⟩]
    · show idx l < (((moveTo S ref l i).watch (gi (S.cl ref).lits i) ref).watches.set _ _).length
      rw [List.length_set]; exact hlen
  | bad hn h1 =>
    simp only [Bool.false_eq_true, if_false]
    rw [hsame]
    exact ⟨h.sInv, h.rInv, h.neg, h.lit, by rw [h.w]; simp, hlt, h.next⟩
  | unit hn h1 =>
    simp only [Bool.false_eq_true, if_false]
    rw [hsame]
    have hx : litB (gi (S.cl ref).lits (otherOf S ref l)) = true := hk.ok.lits _ (getL_mem hq)
    refine ⟨h.sInv, h.rInv.set hx h1, ?_, h.lit, by rw [h.w]; simp, hlt, by have := h.next; simp [RM.set]; omega⟩
    rw [RM.set_is h.rInv.ok hx l h.lit]
    have hneg := h.neg
    split
    · rename_i e; rw [← e] at h1; omega
    · split
      · omega
      · exact hneg
theorem scanF_cons (l : Int) (S : SM) (R : RM) (kept : List Nat) (ref : Nat) (rest : List Nat) :
    scanF l S R kept (ref :: rest) = if (lookF S R ref l).bad then ⟨(scanStep l S R kept ref rest).1 ++ rest, some ref, (scanStep l S R kept ref rest).2.1, (scanStep l S R kept ref rest).2.2⟩
      else scanF l (scanStep l S R kept ref rest).2.1 (scanStep l S R kept ref rest).2.2 (scanStep l S R kept ref rest).1 rest := by
  rw [scanF]
  rfl
theorem RM.Inv.step {R : RM} (h : R.Inv) (hn : R.next < R.out.length) : R.step.Inv := ⟨⟨h.ok.len, h.ok.val, h.ok.out⟩, h.lits, h.pos, hn, h.nodup⟩
end Go.Proofs.PlaitPure
