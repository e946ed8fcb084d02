/-
  Slices of bytes: read, appended to. General: no program in sight. (Turned from Read by program: the kind u8 for i64.)
-/
import Derived.Test.YtodmkcolamppmaaRead
namespace Go.Proofs.PlaitSep
open Go Go.RowKit Go.Proofs.PlaitPure

/-- A slice value with the address A and n elements reads as the integers xs. -/
structure RdB (w : World) (A : Option Addr) (n : Nat) (xs : List Int) : Prop where
  len : xs.length = n
  small : n ≤ 140737488355328
  cells : 0 < n → ∃ b o, A = some ⟨b, o, none⟩ ∧ ∀ j, j < n → w.cell? ⟨b, o + j, none⟩ = some (.int .u8 (gi xs j))
theorem RdB.grow {w w' : World} {A : Option Addr} {n : Nat} {xs : List Int} (h : RdB w A n xs) (hb : Below w.heap.size w w') : RdB w' A n xs := by
  refine ⟨h.len, h.small, fun hn => ?_⟩
  obtain ⟨b, o, e, hc⟩ := h.cells hn
  refine ⟨b, o, e, fun j hj => ?_⟩
  have := World.block_lt_of_cell? w _ (hc j hj)
  rw [← hc j hj]
  exact hb.cell this
theorem RdB.heap {w w' : World} {A : Option Addr} {n : Nat} {xs : List Int} (h : RdB w A n xs) (e : w'.heap = w.heap) : RdB w' A n xs :=
  ⟨h.len, h.small, fun hn => by
    obtain ⟨b, o, ee, hc⟩ := h.cells hn
    exact ⟨b, o, ee, fun j hj => by rw [← hc j hj]; simp [World.cell?, e]⟩⟩
theorem RdB.cell {w : World} {b o n : Nat} {xs : List Int} (h : RdB w (some ⟨b, o, none⟩) n xs) {k : Nat} (hk : k < n) : w.cell? ⟨b, o + k, none⟩ = some (.int .u8 (gi xs k)) := by
  obtain ⟨b', o', e, hc⟩ := h.cells (by omega)
  obtain ⟨rfl, rfl⟩ : b = b' ∧ o = o' := by simpa using e
  exact hc k hk
def byts (xs : List Int) : List Value := xs.map (Value.int .u8)
@[simp] theorem byts_length (xs : List Int) : (byts xs).length = xs.length := by simp [byts]
theorem byts_get (xs : List Int) (i : Nat) (h : i < xs.length) : (byts xs)[i]? = some (.int .u8 (gi xs i)) := by
  simp [byts, gi, List.getElem?_map, List.getElem?_eq_getElem h]
theorem byts_append (xs ys : List Int) : byts (xs ++ ys) = byts xs ++ byts ys := by simp [byts]
theorem byts_set (xs : List Int) (i : Nat) (x : Int) : (byts xs).set i (.int .u8 x) = byts (xs.set i x) := by simp [byts, List.map_set]
/-- A slice of whole numbers that is owned. -/
def slb (t : TypeId) (a : Option Nat) (c : Nat) (xs : List Int) : HP := sl a xs.length c t 1 (byts xs)
theorem St.rdB {B : Nat} {w0 w : World} {t : TypeId} {a : Option Nat} {c : Nat} {xs : List Int} {F : HP} (h : St B w0 w (star (slb t a c xs) F)) (hs : xs.length ≤ 140737488355328) : RdB w (a.map fun b => ⟨b, 0, none⟩) xs.length xs := by
  refine ⟨rfl, hs, fun hn => ?_⟩
  obtain ⟨_, _, _, hnone, hsome⟩ := h.sat.sl_facts
  cases a with
  | none => have := hnone rfl; omega
  | some b =>
    refine ⟨b, 0, rfl, fun j hj => ?_⟩
    rw [Nat.zero_add, St.sl_cell (h : St B w0 w (star (sl (some b) _ _ _ _ _) F)) j (by simpa using hj), byts_get _ _ hj]
theorem RdB.news {w : World} {A : Addr} {n : Nat} {xs : List Int} (h : RdB w (some A) n xs) (hn : 0 < n) : ∀ j u, (byts xs)[j]? = some u → w.cell? (A.add j) = some u := by
  intro j u hj
  obtain ⟨b, o, e, hc⟩ := h.cells hn
  have hlt : j < xs.length := by have := (List.getElem?_eq_some_iff.1 hj).1; simpa using this
  obtain rfl : A = ⟨b, o, none⟩ := by simpa using e
  have hadd : (⟨b, o, none⟩ : Addr).add j = ⟨b, o + j, none⟩ := by unfold Addr.add; split <;> simp_all
  rw [hadd, hc j (by have := h.len; omega)]
  rw [byts_get xs j hlt] at hj
  exact hj
theorem byts_oneCell (xs : List Int) : ∀ u ∈ byts xs, u.oneCell' = true := by
  intro u hu
  simp only [byts, List.mem_map] at hu
  obtain ⟨x, _, rfl⟩ := hu
  rfl
section
variable {P : Program}
/-- append(v, l...) onto what is owned. -/
theorem run_append_rdB (w0 w : World) (B : Nat) (t ty e : TypeId) (ht : P.underlying t = some (.slice e)) (hinfo : (P.info? e).map (fun i => (i.zero, i.size, i.bytes)) = some (some (.int .u8 0), 1, 1))
    (a : Option Nat) (c : Nat) (xs : List Int) (F : HP) (hst : St B w0 w (star (slb e a c xs) F)) (A : Option Addr) (m d : Nat) (ys : List Int) (hr : RdB w A m ys) (hbytes : (xs.length + m) * 1 ≤ 140737488355328) :
    ∃ a' c' w', (Builtin.append_ #[t, t] ty #[slv a xs.length c, .slice A m d]).run P w = .ok (slv a' (xs ++ ys).length c') w' ∧ St B w0 w' (star (slb e a' c' (xs ++ ys)) F) := by
  obtain ⟨i, hi, hzz⟩ := Option.map_eq_some_iff.1 hinfo
  simp only [Prod.mk.injEq] at hzz
  obtain ⟨hz0, hz1, hz2⟩ := hzz
  by_cases hm : m = 0
  · subst hm
    obtain rfl : ys = [] := List.eq_nil_of_length_eq_zero hr.len
    refine ⟨a, c, w, ?_, by simpa using hst⟩
    obtain ⟨_, hnc, hcm, hnone, hsome⟩ := hst.sat.sl_facts
    cases a with
    | none =>
      obtain ⟨h1, rfl⟩ := hnone rfl
      cases A <;> simp [slv, h1, Builtin.append_, run_underlying ht, sizeOf, typeInfo, hi, Builtin.lenOf, Builtin.firstCells, loadCells, loadCellsFrom]
    | some b => cases A <;> simp [slv, hnc, Builtin.append_, run_underlying ht, sizeOf, typeInfo, hi, Builtin.lenOf, Builtin.firstCells, loadCells, loadCellsFrom, storeCells]
  · obtain ⟨b, o, rfl, hc⟩ := hr.cells (by omega)
    have hl := hr.len
    obtain ⟨b', c', w', h1, h2⟩ := run_append_sl (P := P) w0 w B t ty e i (.int .u8 0) 1 1 ht hi hz0 hz1 hz2 rfl (by omega) a xs.length c (byts xs) F hst ⟨b, o, none⟩ m d (byts ys) (by simpa using hl) (hr.news (by omega)) (byts_oneCell ys) (by simp only [maxLen]; omega) hbytes (by omega)
    refine ⟨some b', c', w', ?_, ?_⟩
    · rw [h1]; simp [hl]
    · rw [show slb e (some b') c' (xs ++ ys) = sl (some b') (xs.length + m) c' e 1 (byts xs ++ byts ys) from by unfold slb; rw [byts_append]; simp [hl]]
      exact h2
variable {ops : Array Oper} {rest : List Oper} {o : Oper} {a : Act} {Q : Exit → Act → World → Prop}
theorem wpList_append_rdB {w : World} (hgd : o.guard = none) (s x : Operand) (t e : TypeId)
    (ho : o.op = .call { callee := .builtin .append, args := #[s, x], argTypes := #[t, t] })
    (ht : P.underlying t = some (.slice e)) (hinfo : (P.info? e).map (fun i => (i.zero, i.size, i.bytes)) = some (some (.int .u8 0), 1, 1))
    {B : Nat} {w0 : World} {v : Option Nat} {c : Nat} {xs : List Int} {F : HP} (hst : St B w0 w (star (slb e v c xs) F)) (n : Nat) (hn : xs.length = n) (A : Option Addr) (m d : Nat) (ys : List Int) (hr : RdB w A m ys)
    (hs : a.eval s = .slice (v.map fun b => ⟨b, 0, none⟩) n c) (hx : a.eval x = .slice A m d) (hbytes : (n + m) * 1 ≤ 140737488355328)
    (h : ∀ a' c' w', St B w0 w' (star (slb e a' c' (xs ++ ys)) F) → wpList P ops Q rest (a.put o.dst (.slice (a'.map fun b => ⟨b, 0, none⟩) (n + m) c')) w') :
    wpList P ops Q (o :: rest) a w := by
  subst hn
  refine wpList_plain hgd fun K hK => ?_
  obtain ⟨a', c', w', hrun, h2⟩ := run_append_rdB (P := P) w0 w B t o.type e ht hinfo v c xs F hst A m d ys hr hbytes
  unfold Oper.wp execOp
  simp only [slv] at hrun
  simp only [ho, resolve, invoke, builtin, Sem.run_bind, Sem.run_pure, Result.andThen_ok, List.map_toArray, List.map_cons, List.map_nil, hs, hx, hrun]
  have := h a' c' w' h2
  rw [show xs.length + m = (xs ++ ys).length from by rw [List.length_append, hr.len]] at this
  exact hK _ _ this
/-- append(v, x): one number. -/
theorem wpList_append_byte {w : World} (hgd : o.guard = none) (s x : Operand) (t e : TypeId)
    (ho : o.op = .call { callee := .builtin .append, args := #[s, x], argTypes := #[t, t] })
    (ht : P.underlying t = some (.slice e)) (hinfo : (P.info? e).map (fun i => (i.zero, i.size, i.bytes)) = some (some (.int .u8 0), 1, 1))
    {B : Nat} {w0 : World} {v : Option Nat} {c : Nat} {xs : List Int} {F : HP} (hst : St B w0 w (star (slb e v c xs) F)) (n : Nat) (hn : xs.length = n)
    (hs : a.eval s = .slice (v.map fun b => ⟨b, 0, none⟩) n c) (y : Int) (hx : a.eval x = .slice (some ⟨w.heap.size, 0, none⟩) 1 1) (hb : (n + 1) * 1 ≤ 140737488355328)
    (h : ∀ b' c' w', St B w0 w' (star (slb e (some b') c' (xs ++ [y])) F) → wpList P ops Q rest (a.put o.dst (.slice (some ⟨b', 0, none⟩) (n + 1) c')) w') :
    wpList P ops Q (o :: rest) a (w.alloc (.cells #[.int .u8 y] e)) := by
  subst hn
  refine wpList_append1 hgd s x t e (.int .u8 0) 1 ho ht hinfo rfl hst hs (.int .u8 y) hx rfl hb (by simp only [maxLen]; omega) ?_
  intro b' c' w' h2
  exact h b' c' w' (by unfold slb; rw [byts_append]; simpa [byts] using h2)
end
section
variable {P : Program}
/-- append(v, x) at a step of a region that draws its order. -/
theorem step_append_byte {w : World} {ops : Array Oper} {o : Oper} {a : Act} {K : Act → World → Prop} {Q : Exit → Act → World → Prop} {E : Prop} (hgd : o.guard = none) (s x : Operand) (t e : TypeId)
    (ho : o.op = .call { callee := .builtin .append, args := #[s, x], argTypes := #[t, t] })
    (ht : P.underlying t = some (.slice e)) (hinfo : (P.info? e).map (fun i => (i.zero, i.size, i.bytes)) = some (some (.int .u8 0), 1, 1))
    {B : Nat} {w0 : World} {v : Option Nat} {c : Nat} {xs : List Int} {F : HP} (hst : St B w0 w (star (slb e v c xs) F)) (n : Nat) (hn : xs.length = n)
    (hs : a.eval s = .slice (v.map fun b => ⟨b, 0, none⟩) n c) (ad : Addr) (y : Int) (hx : a.eval x = .slice (some ad) 1 1) (hc : w.cell? ad = some (.int .u8 y)) (hb : (n + 1) * 1 ≤ 140737488355328)
    (h : ∀ b' c' w', St B w0 w' (star (slb e (some b') c' (xs ++ [y])) F) → K (a.put o.dst (.slice (some ⟨b', 0, none⟩) (n + 1) c')) w') :
    if Region.wanted o (yielded ops a.tmps) = true then Oper.wp P o a w K Q else E := by
  subst hn
  have hw : Region.wanted o (yielded ops a.tmps) = true := by simp [Region.wanted, hgd]
  rw [if_pos hw]
  obtain ⟨i, hi, hzz⟩ := Option.map_eq_some_iff.1 hinfo
  simp only [Prod.mk.injEq] at hzz
  obtain ⟨hz0, hz1, hz2⟩ := hzz
  obtain ⟨b', c', w', hr, h2⟩ := run_append_sl (P := P) w0 w B t o.type e i (.int .u8 0) 1 1 ht hi hz0 hz1 hz2 rfl (by omega) v xs.length c (byts xs) F hst ad 1 1 [.int .u8 y] rfl
    (fun j u hj => by
      match j, hj with
      | 0, hj => simp at hj; subst hj; simpa [Addr.add] using hc) (by simp [Value.oneCell']) (by simp only [maxLen]; omega) hb (by omega)
  unfold Oper.wp execOp
  simp only [slv] at hr
  simp only [ho, resolve, invoke, builtin, Sem.run_bind, Sem.run_pure, Result.andThen_ok, List.map_toArray, List.map_cons, List.map_nil, hs, hx, hr]
  exact h b' c' w' (by unfold slb; rw [byts_append]; simpa [byts] using h2)
end
end Go.Proofs.PlaitSep
