/-
  Slices that are read. General: no program in sight.
-/
import Derived.Test.YtodmkcolamppmaaSepOps
import Derived.Test.YtodmkcolamppmaaPure
namespace Go.Proofs.PlaitSep
open Go Go.RowKit Go.Proofs.PlaitPure

/-- A slice value with the address A and n elements reads as the integers xs. -/
structure Rd (w : World) (A : Option Addr) (n : Nat) (xs : List Int) : Prop where
  len : xs.length = n
  small : n ≤ 140737488355328
  cells : 0 < n → ∃ b o, A = some ⟨b, o, none⟩ ∧ ∀ j, j < n → w.cell? ⟨b, o + j, none⟩ = some (.int .i64 (gi xs j))
theorem Rd.grow {w w' : World} {A : Option Addr} {n : Nat} {xs : List Int} (h : Rd w A n xs) (hb : Below w.heap.size w w') : Rd w' A n xs := by
  refine ⟨h.len, h.small, fun hn => ?_⟩
  obtain ⟨b, o, e, hc⟩ := h.cells hn
  refine ⟨b, o, e, fun j hj => ?_⟩
  have := World.block_lt_of_cell? w _ (hc j hj)
  rw [← hc j hj]
  exact hb.cell this
theorem Rd.heap {w w' : World} {A : Option Addr} {n : Nat} {xs : List Int} (h : Rd w A n xs) (e : w'.heap = w.heap) : Rd w' A n xs :=
  ⟨h.len, h.small, fun hn => by
    obtain ⟨b, o, ee, hc⟩ := h.cells hn
    exact ⟨b, o, ee, fun j hj => by rw [← hc j hj]; simp [World.cell?, e]⟩⟩
theorem Rd.cell {w : World} {b o n : Nat} {xs : List Int} (h : Rd w (some ⟨b, o, none⟩) n xs) {k : Nat} (hk : k < n) : w.cell? ⟨b, o + k, none⟩ = some (.int .i64 (gi xs k)) := by
  obtain ⟨b', o', e, hc⟩ := h.cells (by omega)
  obtain ⟨rfl, rfl⟩ : b = b' ∧ o = o' := by simpa using e
  exact hc k hk
def ints (xs : List Int) : List Value := xs.map (Value.int .i64)
@[simp] theorem ints_length (xs : List Int) : (ints xs).length = xs.length := by simp [ints]
theorem ints_get (xs : List Int) (i : Nat) (h : i < xs.length) : (ints xs)[i]? = some (.int .i64 (gi xs i)) := by
  simp [ints, gi, List.getElem?_map, List.getElem?_eq_getElem h]
theorem ints_append (xs ys : List Int) : ints (xs ++ ys) = ints xs ++ ints ys := by simp [ints]
theorem ints_set (xs : List Int) (i : Nat) (x : Int) : (ints xs).set i (.int .i64 x) = ints (xs.set i x) := by simp [ints, List.map_set]
/-- A slice of whole numbers that is owned. -/
def sli (t : TypeId) (a : Option Nat) (c : Nat) (xs : List Int) : HP := sl a xs.length c t 1 (ints xs)
theorem St.rd {B : Nat} {w0 w : World} {t : TypeId} {a : Option Nat} {c : Nat} {xs : List Int} {F : HP} (h : St B w0 w (star (sli t a c xs) F)) (hs : xs.length ≤ 140737488355328) : Rd w (a.map fun b => ⟨b, 0, none⟩) xs.length xs := by
  refine ⟨rfl, hs, fun hn => ?_⟩
  obtain ⟨_, _, _, hnone, hsome⟩ := h.sat.sl_facts
  cases a with
  | none => have := hnone rfl; omega
  | some b =>
    refine ⟨b, 0, rfl, fun j hj => ?_⟩
    rw [Nat.zero_add, St.sl_cell (h : St B w0 w (star (sl (some b) _ _ _ _ _) F)) j (by simpa using hj), ints_get _ _ hj]
theorem Rd.news {w : World} {A : Addr} {n : Nat} {xs : List Int} (h : Rd w (some A) n xs) (hn : 0 < n) : ∀ j u, (ints xs)[j]? = some u → w.cell? (A.add j) = some u := by
  intro j u hj
  obtain ⟨b, o, e, hc⟩ := h.cells hn
  have hlt : j < xs.length := by have := (List.getElem?_eq_some_iff.1 hj).1; simpa using this
  obtain rfl : A = ⟨b, o, none⟩ := by simpa using e
  have hadd : (⟨b, o, none⟩ : Addr).add j = ⟨b, o + j, none⟩ := by unfold Addr.add; split <;> simp_all
  rw [hadd, hc j (by have := h.len; omega)]
  rw [ints_get xs j hlt] at hj
  exact hj
theorem ints_oneCell (xs : List Int) : ∀ u ∈ ints xs, u.oneCell' = true := by
  intro u hu
  simp only [ints, List.mem_map] at hu
  obtain ⟨x, _, rfl⟩ := hu
  rfl
section
variable {P : Program}
/-- append(v, l...) onto what is owned. -/
theorem run_append_rd (w0 w : World) (B : Nat) (t ty e : TypeId) (ht : P.underlying t = some (.slice e)) (hinfo : (P.info? e).map (fun i => (i.zero, i.size, i.bytes)) = some (some (.int .i64 0), 1, 8))
    (a : Option Nat) (c : Nat) (xs : List Int) (F : HP) (hst : St B w0 w (star (sli e a c xs) F)) (A : Option Addr) (m d : Nat) (ys : List Int) (hr : Rd w A m ys) (hbytes : (xs.length + m) * 8 ≤ 140737488355328) :
    ∃ a' c' w', (Builtin.append_ #[t, t] ty #[slv a xs.length c, .slice A m d]).run P w = .ok (slv a' (xs ++ ys).length c') w' ∧ St B w0 w' (star (sli e a' c' (xs ++ ys)) F) := by
  obtain ⟨i, hi, hzz⟩ := Option.map_eq_some_iff.1 hinfo
  simp only [Prod.mk.injEq] at hzz
  obtain ⟨hz0, hz1, hz2⟩ := hzz
  by_cases hm : m = 0
  · subst hm
    obtain rfl : ys = [] := List.eq_nil_of_length_eq_zero hr.len
    refine ⟨a, c, w, ?_, by simpa using hst⟩
    obtain ⟨_, hnc, hcm, hnone, hsome⟩ := hst.sat.sl_facts
    cases a with
    | none =>
      obtain ⟨h1, rfl⟩ := hnone rfl
      cases A <;> simp [slv, h1, Builtin.append_, run_underlying ht, sizeOf, typeInfo, hi, Builtin.lenOf, Builtin.firstCells, loadCells, loadCellsFrom]
    | some b => cases A <;> simp [slv, hnc, Builtin.append_, run_underlying ht, sizeOf, typeInfo, hi, Builtin.lenOf, Builtin.firstCells, loadCells, loadCellsFrom, storeCells]
  · obtain ⟨b, o, rfl, hc⟩ := hr.cells (by omega)
    have hl := hr.len
    obtain ⟨b', c', w', h1, h2⟩ := run_append_sl (P := P) w0 w B t ty e i (.int .i64 0) 1 8 ht hi hz0 hz1 hz2 rfl (by omega) a xs.length c (ints xs) F hst ⟨b, o, none⟩ m d (ints ys) (by simpa using hl) (hr.news (by omega)) (ints_oneCell ys) (by simp only [maxLen]; omega) hbytes (by omega)
    refine ⟨some b', c', w', ?_, ?_⟩
    · rw [h1]; simp [hl]
    · rw [show sli e (some b') c' (xs ++ ys) = sl (some b') (xs.length + m) c' e 1 (ints xs ++ ints ys) from by unfold sli; rw [ints_append]; simp [hl]]
      exact h2
variable {ops : Array Oper} {rest : List Oper} {o : Oper} {a : Act} {Q : Exit → Act → World → Prop}
theorem wpList_append_rd {w : World} (hgd : o.guard = none) (s x : Operand) (t e : TypeId)
    (ho : o.op = .call { callee := .builtin .append, args := #[s, x], argTypes := #[t, t] })
    (ht : P.underlying t = some (.slice e)) (hinfo : (P.info? e).map (fun i => (i.zero, i.size, i.bytes)) = some (some (.int .i64 0), 1, 8))
    {B : Nat} {w0 : World} {v : Option Nat} {c : Nat} {xs : List Int} {F : HP} (hst : St B w0 w (star (sli e v c xs) F)) (n : Nat) (hn : xs.length = n) (A : Option Addr) (m d : Nat) (ys : List Int) (hr : Rd w A m ys)
    (hs : a.eval s = .slice (v.map fun b => ⟨b, 0, none⟩) n c) (hx : a.eval x = .slice A m d) (hbytes : (n + m) * 8 ≤ 140737488355328)
    (h : ∀ a' c' w', St B w0 w' (star (sli e a' c' (xs ++ ys)) F) → wpList P ops Q rest (a.put o.dst (.slice (a'.map fun b => ⟨b, 0, none⟩) (n + m) c')) w') :
    wpList P ops Q (o :: rest) a w := by
  subst hn
  refine wpList_plain hgd fun K hK => ?_
  obtain ⟨a', c', w', hrun, h2⟩ := run_append_rd (P := P) w0 w B t o.type e ht hinfo v c xs F hst A m d ys hr hbytes
  unfold Oper.wp execOp
  simp only [slv] at hrun
  simp only [ho, resolve, invoke, builtin, Sem.run_bind, Sem.run_pure, Result.andThen_ok, List.map_toArray, List.map_cons, List.map_nil, hs, hx, hrun]
  have := h a' c' w' h2
  rw [show xs.length + m = (xs ++ ys).length from by rw [List.length_append, hr.len]] at this
  exact hK _ _ this
/-- append(v, x): one number. -/
theorem wpList_append_int {w : World} (hgd : o.guard = none) (s x : Operand) (t e : TypeId)
    (ho : o.op = .call { callee := .builtin .append, args := #[s, x], argTypes := #[t, t] })
    (ht : P.underlying t = some (.slice e)) (hinfo : (P.info? e).map (fun i => (i.zero, i.size, i.bytes)) = some (some (.int .i64 0), 1, 8))
    {B : Nat} {w0 : World} {v : Option Nat} {c : Nat} {xs : List Int} {F : HP} (hst : St B w0 w (star (sli e v c xs) F)) (n : Nat) (hn : xs.length = n)
    (hs : a.eval s = .slice (v.map fun b => ⟨b, 0, none⟩) n c) (y : Int) (hx : a.eval x = .slice (some ⟨w.heap.size, 0, none⟩) 1 1) (hb : (n + 1) * 8 ≤ 140737488355328)
    (h : ∀ b' c' w', St B w0 w' (star (sli e (some b') c' (xs ++ [y])) F) → wpList P ops Q rest (a.put o.dst (.slice (some ⟨b', 0, none⟩) (n + 1) c')) w') :
    wpList P ops Q (o :: rest) a (w.alloc (.cells #[.int .i64 y] e)) := by
  subst hn
  refine wpList_append1 hgd s x t e (.int .i64 0) 8 ho ht hinfo rfl hst hs (.int .i64 y) hx rfl hb (by simp only [maxLen]; omega) ?_
  intro b' c' w' h2
  exact h b' c' w' (by unfold sli; rw [ints_append]; simpa [ints] using h2)
end
section
variable {P : Program}
/-- append(v, x) at a step of a region that draws its order. -/
theorem step_append_int {w : World} {ops : Array Oper} {o : Oper} {a : Act} {K : Act → World → Prop} {Q : Exit → Act → World → Prop} {E : Prop} (hgd : o.guard = none) (s x : Operand) (t e : TypeId)
    (ho : o.op = .call { callee := .builtin .append, args := #[s, x], argTypes := #[t, t] })
    (ht : P.underlying t = some (.slice e)) (hinfo : (P.info? e).map (fun i => (i.zero, i.size, i.bytes)) = some (some (.int .i64 0), 1, 8))
    {B : Nat} {w0 : World} {v : Option Nat} {c : Nat} {xs : List Int} {F : HP} (hst : St B w0 w (star (sli e v c xs) F)) (n : Nat) (hn : xs.length = n)
    (hs : a.eval s = .slice (v.map fun b => ⟨b, 0, none⟩) n c) (ad : Addr) (y : Int) (hx : a.eval x = .slice (some ad) 1 1) (hc : w.cell? ad = some (.int .i64 y)) (hb : (n + 1) * 8 ≤ 140737488355328)
    (h : ∀ b' c' w', St B w0 w' (star (sli e (some b') c' (xs ++ [y])) F) → K (a.put o.dst (.slice (some ⟨b', 0, none⟩) (n + 1) c')) w') :
    if Region.wanted o (yielded ops a.tmps) = true then Oper.wp P o a w K Q else E := by
  subst hn
  have hw : Region.wanted o (yielded ops a.tmps) = true := by simp [Region.wanted, hgd]
  rw [if_pos hw]
  obtain ⟨i, hi, hzz⟩ := Option.map_eq_some_iff.1 hinfo
  simp only [Prod.mk.injEq] at hzz
  obtain ⟨hz0, hz1, hz2⟩ := hzz
  obtain ⟨b', c', w', hr, h2⟩ := run_append_sl (P := P) w0 w B t o.type e i (.int .i64 0) 1 8 ht hi hz0 hz1 hz2 rfl (by omega) v xs.length c (ints xs) F hst ad 1 1 [.int .i64 y] rfl
    (fun j u hj => by
      match j, hj with
      | 0, hj => simp at hj; subst hj; simpa [Addr.add] using hc) (by simp [Value.oneCell']) (by simp only [maxLen]; omega) hb (by omega)
  unfold Oper.wp execOp
  simp only [slv] at hr
  simp only [ho, resolve, invoke, builtin, Sem.run_bind, Sem.run_pure, Result.andThen_ok, List.map_toArray, List.map_cons, List.map_nil, hs, hx, hr]
  exact h b' c' w' (by unfold sli; rw [ints_append]; simpa [ints] using h2)
end
/-- The world is the old one, some orders having been drawn. -/
def Drawn (w w' : World) : Prop := ∃ n, w' = w.drewN n
theorem Drawn.refl (w : World) : Drawn w w := ⟨0, rfl⟩
theorem Drawn.step {w w' : World} (h : Drawn w w') (n : Nat) : Drawn w (w'.drewN n) := by
  obtain ⟨m, rfl⟩ := h
  exact ⟨m + n, World.drewN_drewN ..⟩
theorem Drawn.trans {w w1 w2 : World} (h : Drawn w w1) (k : Drawn w1 w2) : Drawn w w2 := by
  obtain ⟨n, rfl⟩ := k
  exact h.step n
theorem Drawn.heap {w w' : World} (h : Drawn w w') : w'.heap = w.heap := by obtain ⟨n, rfl⟩ := h; rfl
theorem Drawn.below {w w' : World} (h : Drawn w w') (B : Nat) : Below B w w' := by obtain ⟨n, rfl⟩ := h; exact ⟨rfl, rfl, rfl, Nat.le_refl _, fun _ _ => rfl⟩
theorem St.drawn {B : Nat} {w0 w w' : World} {P : HP} (h : St B w0 w P) (d : Drawn w w') : St B w0 w' P := by obtain ⟨n, rfl⟩ := d; exact h.drewN n
theorem Rd.drawn {w w' : World} {A : Option Addr} {n : Nat} {xs : List Int} (h : Rd w A n xs) (d : Drawn w w') : Rd w' A n xs := h.heap d.heap
/-- The same for a slice of such slices. -/
structure Rd2 (w : World) (A : Option Addr) (n : Nat) (xss : List (List Int)) : Prop where
  len : xss.length = n
  small : n ≤ 140737488355328
  cells : 0 < n → ∃ b o, A = some ⟨b, o, none⟩ ∧ ∀ j, j < n → ∃ Aj cj, w.cell? ⟨b, o + j, none⟩ = some (.slice Aj (gl xss j).length cj) ∧ Rd w Aj (gl xss j).length (gl xss j)
theorem Rd2.grow {w w' : World} {A : Option Addr} {n : Nat} {xss : List (List Int)} (h : Rd2 w A n xss) (hb : Below w.heap.size w w') : Rd2 w' A n xss := by
  refine ⟨h.len, h.small, fun hn => ?_⟩
  obtain ⟨b, o, e, hc⟩ := h.cells hn
  refine ⟨b, o, e, fun j hj => ?_⟩
  obtain ⟨Aj, cj, hcj, hr⟩ := hc j hj
  have := World.block_lt_of_cell? w _ hcj
  exact ⟨Aj, cj, by rw [← hcj]; exact hb.cell this, hr.grow hb⟩
theorem Rd2.heap {w w' : World} {A : Option Addr} {n : Nat} {xss : List (List Int)} (h : Rd2 w A n xss) (e : w'.heap = w.heap) : Rd2 w' A n xss :=
  ⟨h.len, h.small, fun hn => by
    obtain ⟨b, o, ee, hc⟩ := h.cells hn
    refine ⟨b, o, ee, fun j hj => ?_⟩
    obtain ⟨Aj, cj, hcj, hr⟩ := hc j hj
    exact ⟨Aj, cj, by rw [← hcj]; simp [World.cell?, e], hr.heap e⟩⟩
end Go.Proofs.PlaitSep
