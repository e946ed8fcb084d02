/-
  A map of whole numbers that is a set of marks. General: no program in sight.
-/
import Derived.Test.YtodmkcolamppmaaMap
import Derived.Maps.OwnSet
import Derived.Lib.SlKeysI
import Derived.Test.YtodmkcolamppmaaDerM
namespace Go.Proofs.PlaitSep
open Go Go.RowKit Go.Maps Go.Proofs.PlaitPure
open Go.WideElems (Fit rd rg pl rd_val elemAt)
/-- The datum marks just these. -/
structure Marks (D : DataW Unit) (s : List Int) : Prop where
  has : ∀ x : Int, Maps.has D (.int .i64 x) = decide (x ∈ s)
  val : ∀ x : Int, D.atKey (.int .i64 x) (.lit (.int .i64 0)) = .lit (.int .i64 (if x ∈ s then 1 else 0))
theorem Marks.congr {D : DataW Unit} {s t : List Int} (h : Marks D s) (e : ∀ x, x ∈ s ↔ x ∈ t) : Marks D t :=
  ⟨fun x => by rw [h.has, decide_eq_decide]; exact e x, fun x => by rw [h.val]; simp only [e x]⟩
/-- Block b is a map that marks s. -/
def ms (P : Program) (k e : TypeId) (b n : Nat) (s : List Int) : HP := fun h =>
  ∃ es clock, one b (.map es clock) h ∧ Fit P k (plainElem (H := Unit) P e) es clock ∧ es.size ≤ n ∧ Marks (.map ((es.toList.map (rg P k (plainElem (H := Unit) P e))).foldr DataW.insert [])) s
theorem ms_congr {P : Program} {k e : TypeId} {b n : Nat} {s t : List Int} (h : ∀ x, x ∈ s ↔ x ∈ t) : ms P k e b n s = ms P k e b n t := by
  funext hp
  apply propext
  constructor
  · rintro ⟨es, clock, h1, h2, h3, h4⟩; exact ⟨es, clock, h1, h2, h3, h4.congr h⟩
  · rintro ⟨es, clock, h1, h2, h3, h4⟩; exact ⟨es, clock, h1, h2, h3, h4.congr fun x => (h x).symm⟩
section
variable {P : Program} {k e t : TypeId} {B b n : Nat} {w w' w0 : World} {s : List Int} {F : HP}
theorem Sat.ms_own (h : Sat B w (star (ms P k e b n s) F)) : ∃ D, w.ownsMap P k (plainElem (H := Unit) P e) b n D ∧ Marks D s ∧ B ≤ b := by
  obtain ⟨hp, ⟨h1, h2, d, rfl, ⟨es, clock, p, F', hs, ha⟩, q⟩, c⟩ := h
  have h3 : Sat B w (star (PlaitSep.one b (.map es clock)) F) := ⟨_, ⟨h1, h2, d, rfl, p, q⟩, c⟩
  exact ⟨_, ⟨es, clock, (Sat.one h3).1, F', hs, rfl⟩, ha, (Sat.one h3).2⟩
theorem Sat.ms_put (h : Sat B w (star (ms P k e b n s) F)) (hg : w.grownBy w' (some b)) {m : Nat} {D : DataW Unit} {g : List Int} (ho : w'.ownsMap P k (plainElem (H := Unit) P e) b m D) (ha : Marks D g) : Sat B w' (star (ms P k e b m g) F) := by
  obtain ⟨hp, ⟨h1, h2, d, rfl, ⟨es, clock, p, F', hs, ha'⟩, q⟩, c⟩ := h
  have h3 : Sat B w (star (PlaitSep.one b (.map es clock)) F) := ⟨_, ⟨h1, h2, d, rfl, p, q⟩, c⟩
  obtain ⟨es', clock', hb', F2, hs', rfl⟩ := ho
  have h4 := Sat.put h3 hb' fun i hi hlt => hg.block i hlt (by simpa using hi)
  obtain ⟨hp, ⟨h1, h2, d, rfl, p, q⟩, c⟩ := h4
  exact ⟨_, ⟨h1, h2, d, rfl, ⟨es', clock', p, F2, hs', ha⟩, q⟩, c⟩
theorem St.ms_new (h : St B w0 w F) : St B w0 (w.alloc (.map #[] 0)) (star (ms P k e w.heap.size 0 []) F) := by
  refine ⟨h.below.alloc h.base _, by have := h.base; simp; omega, ?_⟩
  have h1 := h.sat.new h.base (.map #[] 0)
  obtain ⟨hp, ⟨h1, h2, d, rfl, p, q⟩, c⟩ := h1
  obtain ⟨es, clock, hb, F', hs, hD⟩ := World.ownsMap_made w P k (plainElem (H := Unit) P e)
  rw [heap_alloc_new] at hb
  simp only [Option.some.injEq, Obj.map.injEq] at hb
  obtain ⟨rfl, rfl⟩ := hb
  exact ⟨_, ⟨h1, h2, d, rfl, ⟨_, _, p, F', hs, ⟨fun x => rfl, fun x => rfl⟩⟩, q⟩, c⟩
theorem St.ms_look (h : St B w0 w (star (ms P k e b n s) F)) (K : Keyed P k) (ht : P.underlying t = some (.map k e)) (hk : P.underlying k = some (.int .i64)) (he : P.underlying e = some (.int .i64)) (hz : ∀ w, (zeroValue e).run P w = .ok (.int .i64 0) w)
    (x : Int) (hx : (Lit.int .i64 x).wf = true) : (Instr.lookup t (.map (some b)) (.int .i64 x) false).run P w = .ok (.int .i64 (if x ∈ s then 1 else 0)) w := by
  obtain ⟨D, ho, ha, _⟩ := h.sat.ms_own
  obtain ⟨c, hrun, hat, _⟩ := ho.lookup_int K ht he (hz w) (keyOf_int_mk hk hx)
  rw [ha.val x] at hat
  simp only [DataW.lit.injEq, Lit.int.injEq, true_and] at hat
  rw [hrun, hat]
/-- m[x] = 1. -/
theorem wpList_ms_put {ops : Array Oper} {rest : List Oper} {o : Oper} {a : Act} {Q : Exit → Act → World → Prop} (hg : o.guard = none) (m x v : Operand) (hop : o.op = Op.mapUpdate t m x v)
    (h : St B w0 w (star (ms P k e b n s) F)) (K : Keyed P k) (ht : P.underlying t = some (.map k e)) (hk : P.underlying k = some (.int .i64)) (he : P.underlying e = some (.int .i64)) (hn : n < maxLen)
    (y : Int) (hm : a.eval m = .map (some b)) (hx : a.eval x = .int .i64 y) (hv : a.eval v = .int .i64 1) (hy : (Lit.int .i64 y).wf = true)
    (hK : ∀ w', St B w0 w' (star (ms P k e b (n + 1) (s ++ [y])) F) → w.grownBy w' (some b) → wpList P ops Q rest (a.put o.dst undef) w') :
    wpList P ops Q (o :: rest) a w := by
  obtain ⟨D, ho, ha, hB⟩ := h.sat.ms_own
  refine wpList_mapUpdate_own w hg m x v t hop k e K ht _ b n D hm ho hn _ _ (.int .i64 y) hx hv (keyOf_int_mk hk hy) (.lit (.int .i64 1)) [] (plainElem_int he (by decide)) ?_
  intro w' h1 h2
  refine hK w' ⟨h.below.trans ⟨h2.os, h2.tape, h2.output, h2.size, fun i hi => h2.block i (Nat.lt_of_lt_of_le hi h.base) (by simp; omega)⟩, Nat.le_trans h.base h2.size, h.sat.ms_put h2 h1 ?_⟩ h2
  have hmap : Maps.IsMap D := by obtain ⟨es, clock, _, _, _, rfl⟩ := ho; exact ⟨_, rfl⟩
  constructor
  · intro u
    by_cases hu : u = y
    · subst hu
      rw [Maps.has_put_same hmap (by trivial)]
      simp
    · rw [Maps.has_put_other (by simpa using hu), ha.has u]
      simp [hu]
  · intro u
    by_cases hu : u = y
    · subst hu
      rw [Maps.atKey_put_same hmap (by trivial)]
      simp
    · rw [Maps.atKey_put_other (by simpa using hu), ha.val u]
      simp [hu]
/-- delete(m, x). -/
theorem wpList_ms_del {ops : Array Oper} {rest : List Oper} {o : Oper} {a : Act} {Q : Exit → Act → World → Prop} (hg : o.guard = none) (m x : Operand) (hop : o.op = Op.call { callee := Callee.builtin Builtin.delete, args := #[m, x], argTypes := #[t, k] })
    (h : St B w0 w (star (ms P k e b n s) F)) (K : Keyed P k) (ht : P.underlying t = some (.map k e)) (hk : P.underlying k = some (.int .i64))
    (y : Int) (hm : a.eval m = .map (some b)) (hx : a.eval x = .int .i64 y) (hy : (Lit.int .i64 y).wf = true)
    (hK : ∀ w', St B w0 w' (star (ms P k e b n (s.filter fun z => z != y)) F) → w.grownBy w' (some b) → wpList P ops Q rest (a.put o.dst (.tuple #[])) w') :
    wpList P ops Q (o :: rest) a w := by
  obtain ⟨D, ho, ha, hB⟩ := h.sat.ms_own
  refine wpList_delete_own w hg m x t k hop e K ht _ b n D hm ho _ (.int .i64 y) hx (keyOf_int_mk hk hy) ?_
  intro w' h1 h2
  have hg2 : w.grownBy w' (some b) := h2.grown
  refine hK w' ⟨h.below.trans ⟨hg2.os, hg2.tape, hg2.output, hg2.size, fun i hi => hg2.block i (Nat.lt_of_lt_of_le hi h.base) (by simp; omega)⟩, Nat.le_trans h.base hg2.size, h.sat.ms_put hg2 h1 ?_⟩ hg2
  constructor
  · intro u
    by_cases hu : u = y
    · subst hu
      rw [Maps.has_del_same]
      simp
    · rw [Maps.has_del_other (by simpa using hu), ha.has u]
      simp [hu]
  · intro u
    by_cases hu : u = y
    · subst hu
      rw [Maps.atKey_del_same]
      simp
    · rw [Maps.atKey_del_other (by simpa using hu), ha.val u]
      simp [hu]
theorem St.ms_obj (h : St B w0 w (star (ms P k e b n s) F)) : ∃ es clock, w.heap[b]? = some (.map es clock) := by
  obtain ⟨D, ⟨es, clock, hb, _⟩, _⟩ := h.sat.ms_own
  exact ⟨es, clock, hb⟩
/-- Numbers that are read lie in no map. -/
theorem rd_grown {A : Option Addr} {m : Nat} {d : List Int} (hr : Rd w A m d) (h : St B w0 w (star (ms P k e b n s) F)) (hg : w.grownBy w' (some b)) : Rd w' A m d := by
  obtain ⟨es, clock, hb⟩ := h.ms_obj
  refine ⟨hr.len, hr.small, fun hp => ?_⟩
  obtain ⟨bd, od, e, hc⟩ := hr.cells hp
  refine ⟨bd, od, e, fun j hj => ?_⟩
  have hne : bd ≠ b := fun e => by
    have h0 := hc 0 hp
    subst e
    simp [World.cell?, hb] at h0
  rw [← hc j hj]
  unfold World.cell?
  rw [hg.block bd (World.block_lt_of_cell? w _ (hc 0 hp)) (by simpa using hne)]
end
end Go.Proofs.PlaitSep
