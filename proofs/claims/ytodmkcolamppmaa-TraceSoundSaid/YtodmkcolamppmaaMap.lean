/-
  A map of whole numbers that is owned. General: no program in sight.
-/
import Derived.Test.YtodmkcolamppmaaRead2
import Derived.Maps.OwnOps
import Derived.Maps.Views
namespace Go.Proofs.PlaitSep
open Go Go.RowKit Go.Maps
open Go.WideElems (Fit rd rg pl rd_val elemAt)
/-- The datum's number at a key, 0 where there is none. -/
def At (D : DataW Unit) (f : Int → Int) : Prop := ∀ x : Int, D.atKey (.int .i64 x) (.lit (.int .i64 0)) = .lit (.int .i64 (f x))
/-- One place set. -/
def upd (f : Int → Int) (y z : Int) : Int → Int := fun u => if u = y then z else f u
/-- Block b is a map that reads as f. -/
def mp (P : Program) (k e : TypeId) (b n : Nat) (f : Int → Int) : HP := fun h =>
  ∃ es clock, one b (.map es clock) h ∧ Fit P k (plainElem (H := Unit) P e) es clock ∧ es.size ≤ n ∧ At (.map ((es.toList.map (rg P k (plainElem (H := Unit) P e))).foldr DataW.insert [])) f
section
variable {P : Program} {k e t : TypeId} {B b n : Nat} {w w' w0 : World} {f : Int → Int} {F : HP}
theorem Sat.mp_own (h : Sat B w (star (mp P k e b n f) F)) : ∃ D, w.ownsMap P k (plainElem (H := Unit) P e) b n D ∧ At D f ∧ B ≤ b := by
  obtain ⟨hp, ⟨h1, h2, d, rfl, ⟨es, clock, p, F', hs, ha⟩, q⟩, c⟩ := h
  have h3 : Sat B w (star (PlaitSep.one b (.map es clock)) F) := ⟨_, ⟨h1, h2, d, rfl, p, q⟩, c⟩
  exact ⟨_, ⟨es, clock, (Sat.one h3).1, F', hs, rfl⟩, ha, (Sat.one h3).2⟩
theorem Sat.mp_put (h : Sat B w (star (mp P k e b n f) F)) (hg : w.grownBy w' (some b)) {m : Nat} {D : DataW Unit} {g : Int → Int} (ho : w'.ownsMap P k (plainElem (H := Unit) P e) b m D) (ha : At D g) : Sat B w' (star (mp P k e b m g) F) := by
  obtain ⟨hp, ⟨h1, h2, d, rfl, ⟨es, clock, p, F', hs, ha'⟩, q⟩, c⟩ := h
  have h3 : Sat B w (star (PlaitSep.one b (.map es clock)) F) := ⟨_, ⟨h1, h2, d, rfl, p, q⟩, c⟩
  obtain ⟨es', clock', hb', F2, hs', rfl⟩ := ho
  have h4 := Sat.put h3 hb' fun i hi hlt => hg.block i hlt (by simpa using hi)
  obtain ⟨hp, ⟨h1, h2, d, rfl, p, q⟩, c⟩ := h4
  exact ⟨_, ⟨h1, h2, d, rfl, ⟨es', clock', p, F2, hs', ha⟩, q⟩, c⟩
theorem St.mp_new (h : St B w0 w F) : St B w0 (w.alloc (.map #[] 0)) (star (mp P k e w.heap.size 0 fun _ => 0) F) := by
  refine ⟨h.below.alloc h.base _, by have := h.base; simp; omega, ?_⟩
  have h1 := h.sat.new h.base (.map #[] 0)
  obtain ⟨hp, ⟨h1, h2, d, rfl, p, q⟩, c⟩ := h1
  obtain ⟨es, clock, hb, F', hs, hD⟩ := World.ownsMap_made w P k (plainElem (H := Unit) P e)
  rw [heap_alloc_new] at hb
  simp only [Option.some.injEq, Obj.map.injEq] at hb
  obtain ⟨rfl, rfl⟩ := hb
  exact ⟨_, ⟨h1, h2, d, rfl, ⟨_, _, p, F', hs, fun x => rfl⟩, q⟩, c⟩
theorem St.mp_look (h : St B w0 w (star (mp P k e b n f) F)) (K : Keyed P k) (ht : P.underlying t = some (.map k e)) (hk : P.underlying k = some (.int .i64)) (he : P.underlying e = some (.int .i64)) (hz : ∀ w, (zeroValue e).run P w = .ok (.int .i64 0) w)
    (x : Int) (hx : (Lit.int .i64 x).wf = true) : (Instr.lookup t (.map (some b)) (.int .i64 x) false).run P w = .ok (.int .i64 (f x)) w := by
  obtain ⟨D, ho, ha, _⟩ := h.sat.mp_own
  obtain ⟨c, hrun, hat, _⟩ := ho.lookup_int K ht he (hz w) (keyOf_int_mk hk hx)
  rw [ha x] at hat
  simp only [DataW.lit.injEq, Lit.int.injEq, true_and] at hat
  rw [hrun, hat]
/-- m[x] = v. -/
theorem wpList_map_put {ops : Array Oper} {rest : List Oper} {o : Oper} {a : Act} {Q : Exit → Act → World → Prop} (hg : o.guard = none) (m x v : Operand) (hop : o.op = Op.mapUpdate t m x v)
    (h : St B w0 w (star (mp P k e b n f) F)) (K : Keyed P k) (ht : P.underlying t = some (.map k e)) (hk : P.underlying k = some (.int .i64)) (he : P.underlying e = some (.int .i64)) (hn : n < maxLen)
    (y z : Int) (hm : a.eval m = .map (some b)) (hx : a.eval x = .int .i64 y) (hv : a.eval v = .int .i64 z) (hy : (Lit.int .i64 y).wf = true) (hzw : (Lit.int .i64 z).wf = true)
    (hK : ∀ w', St B w0 w' (star (mp P k e b (n + 1) (upd f y z)) F) → wpList P ops Q rest (a.put o.dst undef) w') :
    wpList P ops Q (o :: rest) a w := by
  obtain ⟨D, ho, ha, hB⟩ := h.sat.mp_own
  refine wpList_mapUpdate_own w hg m x v t hop k e K ht _ b n D hm ho hn _ _ (.int .i64 y) hx hv (keyOf_int_mk hk hy) (.lit (.int .i64 z)) [] (plainElem_int he hzw) ?_
  intro w' h1 h2
  refine hK w' ⟨h.below.trans ⟨h2.os, h2.tape, h2.output, h2.size, fun i hi => h2.block i (Nat.lt_of_lt_of_le hi h.base) (by simp; omega)⟩, Nat.le_trans h.base h2.size, h.sat.mp_put h2 h1 ?_⟩
  intro u
  by_cases hu : u = y
  · subst hu
    rw [show upd f u z u = z from if_pos rfl]
    obtain ⟨es, clock, _, _, _, rfl⟩ := ho
    exact Maps.atKey_put_same ⟨_, rfl⟩ (by trivial) _ _
  · rw [show upd f y z u = f u from if_neg hu, Maps.atKey_put_other (by simpa using hu), ha u]
end
end Go.Proofs.PlaitSep
