/-
  The separation logic at the machine's operations: a store, an append, a new block. General: no program in sight.
-/
import Derived.Test.YtodmkcolamppmaaSep
import Derived.Maps.AppendAt
import Derived.Deep.Draws
namespace Go.Proofs.PlaitSep
open Go Go.RowKit

/-- Since w0 nothing below B has turned; the rest of what is owned is P. -/
structure St (B : Nat) (w0 w : World) (P : HP) : Prop where
  below : Below B w0 w
  base : B ≤ w.heap.size
  sat : Sat B w P
theorem St.conseq {B : Nat} {w0 w : World} {P Q : HP} (h : St B w0 w P) (e : P = Q) : St B w0 w Q := e ▸ h
theorem St.drop {B : Nat} {w0 w : World} {P Q : HP} (h : St B w0 w (star P Q)) : St B w0 w P := ⟨h.below, h.base, h.sat.left⟩
theorem St.dropl {B : Nat} {w0 w : World} {P Q : HP} (h : St B w0 w (star P Q)) : St B w0 w Q := ⟨h.below, h.base, h.sat.right⟩
theorem St.drew {B : Nat} {w0 w : World} {P : HP} (h : St B w0 w P) : St B w0 w.drew P := ⟨h.below.drew, h.base, h.sat.heap rfl⟩
theorem St.drewN {B : Nat} {w0 w : World} {P : HP} (h : St B w0 w P) (n : Nat) : St B w0 (w.drewN n) P := ⟨⟨h.below.os, h.below.tape, h.below.output, h.below.size, h.below.block⟩, h.base, h.sat.heap rfl⟩
theorem St.alloc {B : Nat} {w0 w : World} {P : HP} (h : St B w0 w P) (o : Obj) : St B w0 (w.alloc o) P :=
  ⟨h.below.alloc h.base o, by have := h.base; simp; omega, h.sat.alloc o⟩
theorem St.pt_new {B : Nat} {w0 w : World} {P : HP} (h : St B w0 w P) (cs : Array Value) (e : TypeId) : St B w0 (w.alloc (.cells cs e)) (star (pt w.heap.size e cs.toList) P) :=
  ⟨h.below.alloc h.base _, by have := h.base; simp; omega, h.sat.pt_new h.base cs e⟩
theorem St.pt_base {B : Nat} {w0 w : World} {b : Nat} {e : TypeId} {xs : List Value} {F : HP} (h : St B w0 w (star (pt b e xs) F)) : B ≤ b := (Sat.one h.sat).2
theorem St.pt_set {B : Nat} {w0 w : World} {b : Nat} {e : TypeId} {xs : List Value} {F : HP} (h : St B w0 w (star (pt b e xs) F)) (i : Nat) (v : Value) : St B w0 (w.setCell ⟨b, i, none⟩ v) (star (pt b e (xs.set i v)) F) :=
  ⟨h.below.setCell h.pt_base v, by have := h.base; simpa [World.setCell] using this, h.sat.pt_set i v⟩
theorem St.sl_base {B : Nat} {w0 w : World} {b n c : Nat} {e : TypeId} {sz : Nat} {xs : List Value} {F : HP} (h : St B w0 w (star (sl (some b) n c e sz xs) F)) : B ≤ b := (h.sat.sl_facts.2.2.2.2 b rfl).1
theorem St.sl_set {B : Nat} {w0 w : World} {b n c : Nat} {e : TypeId} {sz : Nat} {xs : List Value} {F : HP} (h : St B w0 w (star (sl (some b) n c e sz xs) F)) (i : Nat) (v : Value) (hi : i < xs.length) : St B w0 (w.setCell ⟨b, i, none⟩ v) (star (sl (some b) n c e sz (xs.set i v)) F) :=
  ⟨h.below.setCell h.sl_base v, by have := h.base; simpa [World.setCell] using this, h.sat.sl_set i v hi⟩
/-- A world that is as another one, but for the count of draws and for new blocks. -/
theorem St.grow {B : Nat} {w0 w w' : World} {P : HP} (h : St B w0 w P) (hb : Below w.heap.size w w') : St B w0 w' P :=
  ⟨h.below.trans ⟨hb.os, hb.tape, hb.output, hb.size, fun k hk => hb.block k (Nat.lt_of_lt_of_le hk h.base)⟩, Nat.le_trans h.base hb.size, h.sat.kept fun b hb' => hb.block b hb'⟩
theorem St.pt_cell {B : Nat} {w0 w : World} {b : Nat} {e : TypeId} {xs : List Value} {F : HP} (h : St B w0 w (star (pt b e xs) F)) (i : Nat) : w.cell? ⟨b, i, none⟩ = xs[i]? := h.sat.pt_cell i
theorem St.pt_free {B : Nat} {w0 w : World} {b : Nat} {e : TypeId} {xs : List Value} {F : HP} (h : St B w0 w (star (pt b e xs) F)) (i : Nat) : w.frozen? ⟨b, i, none⟩ = false := h.sat.pt_free i
theorem St.sl_cell {B : Nat} {w0 w : World} {b n c : Nat} {e : TypeId} {sz : Nat} {xs : List Value} {F : HP} (h : St B w0 w (star (sl (some b) n c e sz xs) F)) (i : Nat) (hi : i < xs.length) : w.cell? ⟨b, i, none⟩ = xs[i]? := h.sat.sl_cell i hi
theorem St.sl_free {B : Nat} {w0 w : World} {b n c : Nat} {e : TypeId} {sz : Nat} {xs : List Value} {F : HP} (h : St B w0 w (star (sl (some b) n c e sz xs) F)) (i : Nat) : w.frozen? ⟨b, i, none⟩ = false := h.sat.sl_free i

/-- A call of its own: it begins with nothing. -/
theorem St.start (w : World) : St w.heap.size w w emp := ⟨Below.refl _ _, Nat.le_refl _, Sat.emp _ _⟩
/-- What a call of its own made is laid beside what was there. -/
theorem St.nest {B : Nat} {w0 w w' : World} {P F : HP} (h : St B w0 w F) (k : St w.heap.size w w' P) : St B w0 w' (star P F) := by
  refine ⟨h.below.trans ⟨k.below.os, k.below.tape, k.below.output, k.below.size, fun i hi => k.below.block i (Nat.lt_of_lt_of_le hi h.base)⟩, Nat.le_trans h.base k.below.size, ?_⟩
  obtain ⟨h1, p, c1⟩ := k.sat
  obtain ⟨h2, q, c2⟩ := h.sat.lt
  refine ⟨Hp.join h1 h2, ⟨h1, h2, ?_, rfl, p, q⟩, ?_⟩
  · intro b
    cases e1 : h1 b with
    | none => exact .inl rfl
    | some o =>
      right
      cases e2 : h2 b with
      | none => rfl
      | some o' => have := (c1 b o e1).1; have := (c2 b o' e2).2.1; omega
  · intro b o hb
    unfold Hp.join at hb
    cases e1 : h1 b with
    | none =>
      rw [e1] at hb
      have := c2 b o hb
      exact ⟨this.1, by rw [k.below.block b this.2.1]; exact this.2.2⟩
    | some o' =>
      rw [e1] at hb
      have := c1 b o' e1
      simp at hb
      subst hb
      exact ⟨Nat.le_trans h.base this.1, this.2⟩
section
variable {P : Program}
/-- append onto what is owned. -/
theorem run_append_sl (w0 w : World) (B : Nat) (t ty e : TypeId) (i : TypeInfo) (z : Value) (size bytes : Nat) (ht : P.underlying t = some (.slice e)) (hi : P.info? e = some i) (hz : i.zero = some z)
    (hsize : i.size = size) (hby : i.bytes = bytes) (hzs : z.cells.size = size) (hsz : 0 < size)
    (a : Option Nat) (n c : Nat) (xs : List Value) (F : HP) (hst : St B w0 w (star (sl a n c e size xs) F))
    (ad : Addr) (m d : Nat) (news : List Value) (hl : news.length = m * size) (hnews : ∀ j u, news[j]? = some u → w.cell? (ad.add j) = some u) (h1 : ∀ u ∈ news, u.oneCell' = true)
    (h63 : n + m ≤ maxLen) (hbytes : (n + m) * bytes ≤ 140737488355328) (hm : 0 < m) :
    ∃ b' c' w', (Builtin.append_ #[t, t] ty #[slv a n c, .slice (some ad) m d]).run P w = .ok (slv (some b') (n + m) c') w' ∧ St B w0 w' (star (sl (some b') (n + m) c' e size (xs ++ news)) F) := by
  subst hsize
  subst hby
  have hsmall : n + m ≤ 9223372036854775807 := by simp only [maxLen] at h63; omega
  obtain ⟨hx, hnc, hcm, hnone, hsome⟩ := hst.sat.sl_facts
  have hlen : (xs ++ news).length = (n + m) * i.size := by rw [List.length_append, hx, hl, Nat.add_mul]
  have grown : ∀ (old : Nat), old < n + m →
      St B w0 (w.drew.alloc (.cells (xs.toArray ++ news.toArray ++ Builtin.zeroCells z.cells (grownCap w (n + m) old e - (n + m))) e)) (star (sl (some w.heap.size) (n + m) (grownCap w (n + m) old e) e i.size (xs ++ news)) F) := by
    intro old ho
    have hge := grownCap_ge w (n + m) old e
    have hcm : grownCap w (n + m) old e ≤ maxLen := grownCap_le_maxLen w (n + m) old e h63
    have hd := hst.dropl.drew.pt_new (xs.toArray ++ news.toArray ++ Builtin.zeroCells z.cells (grownCap w (n + m) old e - (n + m))) e
    refine ⟨hd.below, hd.base, hd.sat.pt_sl hlen hge hcm ?_ ?_⟩
    · simp only [Array.toList_append, List.length_append, Array.length_toList, size_zeroCells, hzs, hl, hx]
      rw [← Nat.add_mul, ← Nat.add_mul]
      exact Nat.mul_le_mul_right _ (by omega)
    · simp only [Array.toList_append]
      rw [← hlen]
      exact List.take_left
  cases a with
  | none =>
    obtain ⟨rfl, rfl⟩ := hnone rfl
    have hx0 : xs = [] := List.eq_nil_of_length_eq_zero (by simpa using hx)
    subst hx0
    have hr := run_append_nil (P := P) w t ty e i z ht hi hz ad m d news hl hnews hm (by omega) (by have hb := hbytes; simp only [Nat.zero_add] at hb; omega)
    have hgr := grown 0 (by omega)
    simp only [Nat.zero_add, List.nil_append, Array.empty_append] at hgr ⊢
    exact ⟨_, _, _, hr, hgr⟩
  | some b =>
    obtain ⟨cur, _, _, _, hcur, htake, hp⟩ := hst.sat.sl_pt
    by_cases hroom : n + m ≤ c
    · have hfit : n * i.size + news.length ≤ cur.toArray.size := by
        rw [hl, ← Nat.add_mul, List.size_toArray]
        exact Nat.le_trans (Nat.mul_le_mul_right _ hroom) hcur
      have hr := run_append_room (P := P) w t ty e i ht hi b n c cur.toArray (Sat.one hp).1 ad m d news hl hnews h1 hroom hfit
      refine ⟨_, _, _, hr, ⟨?_, ?_, ?_⟩⟩
      · exact hst.below.trans ⟨rfl, rfl, rfl, by simp, fun k hk => setRow_other w b k _ (fun e => by have := hst.sl_base; omega)⟩
      · simpa using hst.base
      · refine Sat.pt_sl (cur := (cur.toArray.toList.take (n * i.size) ++ news ++ cur.toArray.toList.drop (n * i.size + news.length))) (Sat.put hp (setRow_heap w b _ _ e _ (Sat.one hp).1) fun k hk _ => setRow_other w b k _ hk) hlen hroom hcm ?_ ?_
        · have := hcur
          simp only [List.length_append, List.length_take, List.length_drop]
          simp only [List.size_toArray] at hfit
          omega
        · simp only [htake]
          rw [← hlen]
          exact List.take_left
    · have holds : ∀ j u, xs[j]? = some u → w.cell? ((⟨b, 0, none⟩ : Addr).add j) = some u := by
        intro j u hj
        have hadd : (⟨b, 0, none⟩ : Addr).add j = ⟨b, j, none⟩ := by unfold Addr.add; split <;> simp_all
        rw [hadd, hst.sl_cell j (List.getElem?_eq_some_iff.1 hj).1]
        exact hj
      have hr := run_append_grow (P := P) w t ty e i z ht hi hz ⟨b, 0, none⟩ n c xs hx holds ad m d news hl hnews (by omega) (by omega) (growslice_fits (by omega) hbytes)
      exact ⟨_, _, _, hr, grown c (by omega)⟩
variable {ops : Array Oper} {rest : List Oper} {o : Oper} {a : Act} {Q : Exit → Act → World → Prop}
/-- append(v, x) at the operation: one element, in a block of its own that was just made. -/
theorem wpList_append1 {w : World} (hgd : o.guard = none) (s x : Operand) (t e : TypeId) (z : Value) (bytes : Nat)
    (ho : o.op = .call { callee := .builtin .append, args := #[s, x], argTypes := #[t, t] })
    (ht : P.underlying t = some (.slice e)) (hinfo : (P.info? e).map (fun i => (i.zero, i.size, i.bytes)) = some (some z, 1, bytes)) (hzs : z.cells.size = 1)
    {B : Nat} {w0 : World} {v : Option Nat} {n c : Nat} {xs : List Value} {F : HP} (hst : St B w0 w (star (sl v n c e 1 xs) F))
    (hs : a.eval s = .slice (v.map fun b => ⟨b, 0, none⟩) n c) (y : Value) (hx : a.eval x = .slice (some ⟨w.heap.size, 0, none⟩) 1 1) (h1 : y.oneCell' = true) (hb : (n + 1) * bytes ≤ 140737488355328) (hn : n + 1 ≤ maxLen)
    (h : ∀ b' c' w', St B w0 w' (star (sl (some b') (n + 1) c' e 1 (xs ++ [y])) F) → wpList P ops Q rest (a.put o.dst (.slice (some ⟨b', 0, none⟩) (n + 1) c')) w') :
    wpList P ops Q (o :: rest) a (w.alloc (.cells #[y] e)) := by
  obtain ⟨i, hi, hzz⟩ := Option.map_eq_some_iff.1 hinfo
  simp only [Prod.mk.injEq] at hzz
  obtain ⟨hz0, hz1, hz2⟩ := hzz
  refine wpList_plain hgd fun K hK => ?_
  obtain ⟨b', c', w', hr, h2⟩ := run_append_sl (P := P) w0 (w.alloc (.cells #[y] e)) B t o.type e i z 1 bytes ht hi hz0 hz1 hz2 hzs (by omega) v n c xs F (hst.alloc _) ⟨w.heap.size, 0, none⟩ 1 1 [y] rfl (cell_one_new _ _ _) (by simpa using h1) hn hb (by omega)
  unfold Oper.wp execOp
  simp only [slv] at hr
  simp only [ho, resolve, invoke, builtin, Sem.run_bind, Sem.run_pure, Result.andThen_ok, List.map_toArray, List.map_cons, List.map_nil, hs, hx, hr]
  exact hK _ _ (h b' c' w' h2)

theorem run_storeAt1 {w : World} (t : TypeId) (b i : Nat) (v : Value) (hsz : (P.info? t).map (·.size) = some 1) (h1 : v.oneCell' = true) (hc : ∃ u, w.cell? ⟨b, i, none⟩ = some u) (hf : w.frozen? ⟨b, i, none⟩ = false) :
    (Instr.storeAt t (.pointer (some ⟨b, i, none⟩)) v).run P w = .ok () (w.setCell ⟨b, i, none⟩ v) := by
  obtain ⟨inf, hi, hs⟩ := Option.map_eq_some_iff.1 hsz
  obtain ⟨u, hu⟩ := hc
  cases v <;> first | (simp [Value.oneCell'] at h1; done) | simp [Instr.storeAt, Instr.sureAddr, storeVar, sizeOf, typeInfo, hi, hs, Value.cells, storeCells, store, Addr.add, Sem.run, hu, hf]
/-- A store into a block that is owned whole. -/
theorem wpList_store_pt {w : World} (hgd : o.guard = none) (t : TypeId) (x y : Operand) (ho : o.op = .store t x y) (hsz : (P.info? t).map (·.size) = some 1)
    {B : Nat} {w0 : World} {b : Nat} {e : TypeId} {xs : List Value} {F : HP} (hst : St B w0 w (star (pt b e xs) F)) (i : Nat) (v : Value) (hx : a.eval x = .pointer (some ⟨b, i, none⟩)) (hy : a.eval y = v) (h1 : v.oneCell' = true) (hi : i < xs.length)
    (h : ∀ w', St B w0 w' (star (pt b e (xs.set i v)) F) → wpList P ops Q rest (a.put o.dst undef) w') :
    wpList P ops Q (o :: rest) a w := by
  refine wpList_plain hgd fun K hK => ?_
  have hr := run_storeAt1 (P := P) (w := w) t b i v hsz h1 ⟨xs[i], by rw [hst.pt_cell i]; simp [hi]⟩ (hst.pt_free i)
  unfold Oper.wp execOp
  simp only [ho, hx, hy, Sem.run_bind, Sem.run_pure, hr, Result.andThen_ok]
  exact hK _ _ (h _ (hst.pt_set i v))
/-- A store into a slice that is owned. -/
theorem wpList_store_sl {w : World} (hgd : o.guard = none) (t : TypeId) (x y : Operand) (ho : o.op = .store t x y) (hsz : (P.info? t).map (·.size) = some 1)
    {B : Nat} {w0 : World} {b n c : Nat} {e : TypeId} {sz : Nat} {xs : List Value} {F : HP} (hst : St B w0 w (star (sl (some b) n c e sz xs) F)) (i : Nat) (v : Value) (hx : a.eval x = .pointer (some ⟨b, i, none⟩)) (hy : a.eval y = v) (h1 : v.oneCell' = true) (hi : i < xs.length)
    (h : ∀ w', St B w0 w' (star (sl (some b) n c e sz (xs.set i v)) F) → wpList P ops Q rest (a.put o.dst undef) w') :
    wpList P ops Q (o :: rest) a w := by
  refine wpList_plain hgd fun K hK => ?_
  have hr := run_storeAt1 (P := P) (w := w) t b i v hsz h1 ⟨xs[i], by rw [hst.sl_cell i hi]; simp [hi]⟩ (hst.sl_free i)
  unfold Oper.wp execOp
  simp only [ho, hx, hy, Sem.run_bind, Sem.run_pure, hr, Result.andThen_ok]
  exact hK _ _ (h _ (hst.sl_set i v hi))
end
end Go.Proofs.PlaitSep
