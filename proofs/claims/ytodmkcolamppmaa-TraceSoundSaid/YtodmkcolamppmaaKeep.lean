/-
  append onto what is owned: what else lies there stays. General: no program in sight. (Turned from SepOps.)
-/
import Derived.Test.YtodmkcolamppmaaRead
namespace Go.Proofs.PlaitSep
open Go Go.RowKit Go.Proofs.PlaitPure
theorem zeroCells_q {z : Array Value} {n : Nat} {q : Value → Prop} (h : ∀ u ∈ z, q u) : ∀ u ∈ Builtin.zeroCells z n, q u := by
  intro u hu
  unfold Builtin.zeroCells at hu
  obtain ⟨i, hi, rfl⟩ := Array.mem_map.1 hu
  rw [Array.mem_range] at hi
  have hz : 0 < z.size := by
    apply Nat.pos_of_ne_zero
    intro e
    rw [e] at hi
    omega
  have hlt := Nat.mod_lt i hz
  rw [getElem!_pos z _ hlt]
  exact h _ (Array.getElem_mem hlt)
theorem alloc_q {w : World} {cs : Array Value} {e : TypeId} {q : Value → Prop} (h : ∀ u ∈ cs, q u) : ∀ i v, (w.alloc (.cells cs e)).cell? ⟨w.heap.size, i, none⟩ = some v → q v := by
  intro i v hv
  unfold World.cell? at hv
  rw [heap_alloc_new] at hv
  simp only [Option.isSome_none, Bool.false_eq_true, if_false] at hv
  obtain ⟨hi, rfl⟩ := Array.getElem?_eq_some_iff.1 hv
  exact h _ (Array.getElem_mem hi)
section
variable {P : Program}
/-- append onto what is owned. -/
theorem run_append_slk (w0 w : World) (B : Nat) (t ty e : TypeId) (i : TypeInfo) (z : Value) (size bytes : Nat) (ht : P.underlying t = some (.slice e)) (hi : P.info? e = some i) (hz : i.zero = some z)
    (hsize : i.size = size) (hby : i.bytes = bytes) (hzs : z.cells.size = size) (hsz : 0 < size)
    (a : Option Nat) (n c : Nat) (xs : List Value) (F : HP) (hst : St B w0 w (star (sl a n c e size xs) F))
    (ad : Addr) (m d : Nat) (news : List Value) (hl : news.length = m * size) (hnews : ∀ j u, news[j]? = some u → w.cell? (ad.add j) = some u) (h1 : ∀ u ∈ news, u.oneCell' = true)
    (h63 : n + m ≤ maxLen) (hbytes : (n + m) * bytes ≤ 140737488355328) (hm : 0 < m) :
    ∃ b' c' w', (Builtin.append_ #[t, t] ty #[slv a n c, .slice (some ad) m d]).run P w = .ok (slv (some b') (n + m) c') w' ∧ St B w0 w' (star (sl (some b') (n + m) c' e size (xs ++ news)) F) ∧ (∀ k, k < w.heap.size → a ≠ some k → w'.heap[k]? = w.heap[k]?) ∧
      (∀ q : Value → Prop, (∀ u ∈ xs, q u) → (∀ u ∈ news, q u) → (∀ u ∈ z.cells, q u) → (∀ b i v, a = some b → w.cell? ⟨b, i, none⟩ = some v → q v) → ∀ i v, w'.cell? ⟨b', i, none⟩ = some v → q v) := by
  subst hsize
  subst hby
  have hsmall : n + m ≤ 9223372036854775807 := by simp only [maxLen] at h63; omega
  obtain ⟨hx, hnc, hcm, hnone, hsome⟩ := hst.sat.sl_facts
  have hlen : (xs ++ news).length = (n + m) * i.size := by rw [List.length_append, hx, hl, Nat.add_mul]
  have grown : ∀ (old : Nat), old < n + m →
      St B w0 (w.drew.alloc (.cells (xs.toArray ++ news.toArray ++ Builtin.zeroCells z.cells (grownCap w (n + m) old e - (n + m))) e)) (star (sl (some w.heap.size) (n + m) (grownCap w (n + m) old e) e i.size (xs ++ news)) F) := by
    intro old ho
    have hge := grownCap_ge w (n + m) old e
    have hcm : grownCap w (n + m) old e ≤ maxLen := grownCap_le_maxLen w (n + m) old e h63
    have hd := hst.dropl.drew.pt_new (xs.toArray ++ news.toArray ++ Builtin.zeroCells z.cells (grownCap w (n + m) old e - (n + m))) e
    refine ⟨hd.below, hd.base, hd.sat.pt_sl hlen hge hcm ?_ ?_⟩
    · simp only [Array.toList_append, List.length_append, Array.length_toList, size_zeroCells, hzs, hl, hx]
      rw [← Nat.add_mul, ← Nat.add_mul]
      exact Nat.mul_le_mul_right _ (by omega)
    · simp only [Array.toList_append]
      rw [← hlen]
      exact List.take_left
  cases a with
  | none =>
    obtain ⟨rfl, rfl⟩ := hnone rfl
    have hx0 : xs = [] := List.eq_nil_of_length_eq_zero (by simpa using hx)
    subst hx0
    have hr := run_append_nil (P := P) w t ty e i z ht hi hz ad m d news hl hnews hm (by omega) (by have hb := hbytes; simp only [Nat.zero_add] at hb; omega)
    have hgr := grown 0 (by omega)
    simp only [Nat.zero_add, List.nil_append, Array.empty_append] at hgr ⊢
    refine ⟨_, _, _, hr, hgr, fun k hk _ => heap_alloc_old _ _ hk, fun q _ hq1 hq2 _ => alloc_q (w := w.drew) fun u hu => ?_⟩
    rcases Array.mem_append.1 hu with hu | hu
    · exact hq1 u (by simpa using hu)
    · exact zeroCells_q (fun u hu => hq2 u hu) u hu
  | some b =>
    obtain ⟨cur, _, _, _, hcur, htake, hp⟩ := hst.sat.sl_pt
    by_cases hroom : n + m ≤ c
    · have hfit : n * i.size + news.length ≤ cur.toArray.size := by
        rw [hl, ← Nat.add_mul, List.size_toArray]
        exact Nat.le_trans (Nat.mul_le_mul_right _ hroom) hcur
      have hr := run_append_room (P := P) w t ty e i ht hi b n c cur.toArray (Sat.one hp).1 ad m d news hl hnews h1 hroom hfit
      refine ⟨_, _, _, hr, ⟨?_, ?_, ?_⟩, fun k _ hne => setRow_other w b k _ (fun e => hne (by rw [e])), fun q _ hq1 _ hq3 i v hv => ?_⟩
      · exact hst.below.trans ⟨rfl, rfl, rfl, by simp, fun k hk => setRow_other w b k _ (fun e => by have := hst.sl_base; omega)⟩
      · simpa using hst.base
      · refine Sat.pt_sl (cur := (cur.toArray.toList.take (n * i.size) ++ news ++ cur.toArray.toList.drop (n * i.size + news.length))) (Sat.put hp (setRow_heap w b _ _ e _ (Sat.one hp).1) fun k hk _ => setRow_other w b k _ hk) hlen hroom hcm ?_ ?_
        · have := hcur
          simp only [List.length_append, List.length_take, List.length_drop]
          simp only [List.size_toArray] at hfit
          omega
        · simp only [htake]
          rw [← hlen]
          exact List.take_left
      · have hb0 := (Sat.one hp).1
        have hcur3 : ∀ u ∈ cur, q u := fun u hu => by
          obtain ⟨j, hj, rfl⟩ := List.getElem_of_mem hu
          refine hq3 b j _ rfl ?_
          unfold World.cell?
          rw [hb0]
          simp [hj]
        unfold World.cell? at hv
        rw [setRow_heap w b _ _ e _ hb0] at hv
        simp only [Option.isSome_none, Bool.false_eq_true, if_false, List.getElem?_toArray] at hv
        have hm := List.mem_of_getElem? hv
        rcases List.mem_append.1 hm with hm | hm
        · rcases List.mem_append.1 hm with hm | hm
          · exact hcur3 v (by simpa using List.mem_of_mem_take hm)
          · exact hq1 v hm
        · exact hcur3 v (by simpa using List.mem_of_mem_drop hm)
    · have holds : ∀ j u, xs[j]? = some u → w.cell? ((⟨b, 0, none⟩ : Addr).add j) = some u := by
        intro j u hj
        have hadd : (⟨b, 0, none⟩ : Addr).add j = ⟨b, j, none⟩ := by unfold Addr.add; split <;> simp_all
        rw [hadd, hst.sl_cell j (List.getElem?_eq_some_iff.1 hj).1]
        exact hj
      have hr := run_append_grow (P := P) w t ty e i z ht hi hz ⟨b, 0, none⟩ n c xs hx holds ad m d news hl hnews (by omega) (by omega) (growslice_fits (by omega) hbytes)
      refine ⟨_, _, _, hr, grown c (by omega), fun k hk _ => heap_alloc_old _ _ hk, fun q hq0 hq1 hq2 _ => alloc_q (w := w.drew) fun u hu => ?_⟩
      rcases Array.mem_append.1 hu with hu | hu
      · rcases Array.mem_append.1 hu with hu | hu
        · exact hq0 u (by simpa using hu)
        · exact hq1 u (by simpa using hu)
      · exact zeroCells_q (fun u hu => hq2 u hu) u hu
variable {ops : Array Oper} {rest : List Oper} {o : Oper} {a : Act} {Q : Exit → Act → World → Prop}
/-- append(v, x) at the operation: one element, in a block of its own that was just made. -/
theorem wpList_append1k {w : World} (hgd : o.guard = none) (s x : Operand) (t e : TypeId) (z : Value) (bytes : Nat)
    (ho : o.op = .call { callee := .builtin .append, args := #[s, x], argTypes := #[t, t] })
    (ht : P.underlying t = some (.slice e)) (hinfo : (P.info? e).map (fun i => (i.zero, i.size, i.bytes)) = some (some z, 1, bytes)) (hzs : z.cells.size = 1)
    {B : Nat} {w0 : World} {v : Option Nat} {n c : Nat} {xs : List Value} {F : HP} (hst : St B w0 w (star (sl v n c e 1 xs) F))
    (hs : a.eval s = .slice (v.map fun b => ⟨b, 0, none⟩) n c) (y : Value) (hx : a.eval x = .slice (some ⟨w.heap.size, 0, none⟩) 1 1) (h1 : y.oneCell' = true) (hb : (n + 1) * bytes ≤ 140737488355328) (hn : n + 1 ≤ maxLen)
    (h : ∀ b' c' w', St B w0 w' (star (sl (some b') (n + 1) c' e 1 (xs ++ [y])) F) → (∀ k, k < w.heap.size → v ≠ some k → w'.heap[k]? = w.heap[k]?) →
      (∀ q : Value → Prop, (∀ u ∈ xs, q u) → q y → (∀ u ∈ z.cells, q u) → (∀ b i u, v = some b → w.cell? ⟨b, i, none⟩ = some u → q u) → ∀ i u, w'.cell? ⟨b', i, none⟩ = some u → q u) → wpList P ops Q rest (a.put o.dst (.slice (some ⟨b', 0, none⟩) (n + 1) c')) w') :
    wpList P ops Q (o :: rest) a (w.alloc (.cells #[y] e)) := by
  obtain ⟨i, hi, hzz⟩ := Option.map_eq_some_iff.1 hinfo
  simp only [Prod.mk.injEq] at hzz
  obtain ⟨hz0, hz1, hz2⟩ := hzz
  refine wpList_plain hgd fun K hK => ?_
  obtain ⟨b', c', w', hr, h2, h3, h4⟩ := run_append_slk (P := P) w0 (w.alloc (.cells #[y] e)) B t o.type e i z 1 bytes ht hi hz0 hz1 hz2 hzs (by omega) v n c xs F (hst.alloc _) ⟨w.heap.size, 0, none⟩ 1 1 [y] rfl (cell_one_new _ _ _) (by simpa using h1) hn hb (by omega)
  unfold Oper.wp execOp
  simp only [slv] at hr
  simp only [ho, resolve, invoke, builtin, Sem.run_bind, Sem.run_pure, Result.andThen_ok, List.map_toArray, List.map_cons, List.map_nil, hs, hx, hr]
  refine hK _ _ (h b' c' w' h2 (fun k hk hne => (h3 k (by simp; omega) hne).trans (heap_alloc_old _ _ hk)) fun q q0 q1 q2 q3 => h4 q q0 (by simpa using q1) q2 fun b i u hb hu => ?_)
  subst hb
  refine q3 b i u rfl ?_
  obtain ⟨cur, _, _, _, _, _, hp⟩ := hst.sat.sl_pt
  rw [← hu]
  unfold World.cell?
  rw [heap_alloc_old _ _ (Array.getElem?_eq_some_iff.1 (Sat.one hp).1).1]

end
/-- What is read stays where its block stays. -/
theorem Rd.keep {w w' : World} {A : Option Addr} {n : Nat} {xs : List Int} (h : Rd w A n xs) (hk : ∀ b o, A = some ⟨b, o, none⟩ → 0 < n → w'.heap[b]? = w.heap[b]?) : Rd w' A n xs := by
  refine ⟨h.len, h.small, fun hp => ?_⟩
  obtain ⟨b, o, e, hc⟩ := h.cells hp
  refine ⟨b, o, e, fun j hj => ?_⟩
  rw [← hc j hj]
  unfold World.cell?
  rw [hk b o e hp]
/-- No cell of the block is a number. -/
def NoInt (w : World) (b : Nat) : Prop := ∀ i v, w.cell? ⟨b, i, none⟩ = some v → ∀ x, v ≠ .int .i64 x
/-- A block whose cells are no numbers is none that is read. -/
theorem Rd.ne {w : World} {A : Option Addr} {n : Nat} {xs : List Int} {b : Nat} (h : Rd w A n xs) (hb : NoInt w b) : ∀ b' o, A = some ⟨b', o, none⟩ → 0 < n → b' ≠ b := by
  intro b' o e hp hbb
  subst hbb
  obtain ⟨b2, o2, e2, hc⟩ := h.cells hp
  rw [e] at e2
  obtain ⟨rfl, rfl⟩ : b' = b2 ∧ o = o2 := by simpa using e2
  exact hb _ _ (hc 0 hp) _ rfl
theorem Rd.lt {w : World} {A : Option Addr} {n : Nat} {xs : List Int} (h : Rd w A n xs) : ∀ b o, A = some ⟨b, o, none⟩ → 0 < n → b < w.heap.size := by
  intro b o e hp
  obtain ⟨b2, o2, e2, hc⟩ := h.cells hp
  rw [e] at e2
  obtain ⟨rfl, rfl⟩ : b = b2 ∧ o = o2 := by simpa using e2
  exact World.block_lt_of_cell? w _ (hc 0 hp)
end Go.Proofs.PlaitSep
