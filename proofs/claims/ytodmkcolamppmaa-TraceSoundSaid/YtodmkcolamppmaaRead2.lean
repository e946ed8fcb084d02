/-
  append within what is owned: the elements behind a shorter slice's end are written over. General: no program in sight.
-/
import Derived.Test.YtodmkcolamppmaaRead
namespace Go.Proofs.PlaitSep
open Go Go.RowKit Go.Proofs.PlaitPure
section
variable {P : Program}
theorem run_append_in (w0 w : World) (B : Nat) (t ty e : TypeId) (ht : P.underlying t = some (.slice e)) (hinfo : (P.info? e).map (fun i => (i.zero, i.size, i.bytes)) = some (some (.int .i64 0), 1, 8))
    (b c : Nat) (xs : List Int) (F : HP) (hst : St B w0 w (star (sli e (some b) c xs) F)) (m cap : Nat) (A : Option Addr) (r d : Nat) (ys : List Int) (hr : Rd w A r ys) (hm : m + r ≤ cap) (hcap : cap ≤ xs.length) :
    ∃ w', (Builtin.append_ #[t, t] ty #[.slice (some ⟨b, 0, none⟩) m cap, .slice A r d]).run P w = .ok (.slice (some ⟨b, 0, none⟩) (m + r) cap) w' ∧ St B w0 w' (star (sli e (some b) c (xs.take m ++ ys ++ xs.drop (m + r))) F) := by
  obtain ⟨i, hi, hzz⟩ := Option.map_eq_some_iff.1 hinfo
  simp only [Prod.mk.injEq] at hzz
  obtain ⟨hz0, hz1, hz2⟩ := hzz
  by_cases hr0 : r = 0
  · subst hr0
    obtain rfl : ys = [] := List.eq_nil_of_length_eq_zero hr.len
    refine ⟨w, ?_, by simpa using hst⟩
    have hmc : m ≤ cap := by omega
    cases A <;> simp [hmc, Builtin.append_, run_underlying ht, sizeOf, typeInfo, hi, Builtin.lenOf, Builtin.firstCells, loadCells, loadCellsFrom, storeCells]
  · obtain ⟨ab, ao, rfl, hc⟩ := hr.cells (by omega)
    have hl := hr.len
    obtain ⟨cur, hx, hn, hcm, hcur, ht', hp⟩ := hst.sat.sl_pt
    rw [Nat.mul_one] at hcur ht'
    have hcur2 : cur = ints xs ++ cur.drop xs.length := by
      conv => lhs; rw [← List.take_append_drop xs.length cur]
      rw [ht']
    obtain ⟨tl, htl⟩ : ∃ tl, cur.drop xs.length = tl := ⟨_, rfl⟩
    rw [htl] at hcur2
    have htk : cur.take m = ints (xs.take m) := by
      rw [hcur2, List.take_append_of_le_length (by simp; omega)]
      simp [ints, List.map_take]
    have hdr : cur.drop (m + r) = ints (xs.drop (m + r)) ++ tl := by
      rw [hcur2, List.drop_append_of_le_length (by simp; omega)]
      simp [ints, List.map_drop]
    have hlen : (xs.take m ++ ys ++ xs.drop (m + r)).length = xs.length := by simp; omega
    have hrun := run_append_room (P := P) w t ty e i ht hi b m cap cur.toArray (Sat.one hp).1 ⟨ab, ao, none⟩ r d (ints ys) (by simp [hl, hz1]) (hr.news (by omega)) (ints_oneCell ys) hm
      (by rw [hz1, List.size_toArray]; simp only [ints_length]; omega)
    have hnew : (cur.toArray.toList.take (m * i.size) ++ ints ys ++ cur.toArray.toList.drop (m * i.size + (ints ys).length)) = ints (xs.take m ++ ys ++ xs.drop (m + r)) ++ tl := by
      rw [hz1, Nat.mul_one, ints_length, hl]
      show cur.take m ++ ints ys ++ cur.drop (m + r) = _
      rw [htk, hdr, ints_append, ints_append]
      simp [List.append_assoc]
    rw [hnew] at hrun
    refine ⟨_, hrun, ?_, ?_, ?_⟩
    · exact hst.below.trans ⟨rfl, rfl, rfl, by simp, fun k hk => setRow_other w b k _ (fun e => by have := hst.sl_base; omega)⟩
    · simpa using hst.base
    · have hput : Sat B (w.setRow b (ints (xs.take m ++ ys ++ xs.drop (m + r)) ++ tl).toArray) (star (pt b e (ints (xs.take m ++ ys ++ xs.drop (m + r)) ++ tl)) F) :=
        Sat.put hp (setRow_heap w b _ _ e _ (Sat.one hp).1) fun k hk _ => setRow_other w b k _ hk
      unfold sli
      rw [hlen]
      refine Sat.pt_sl hput (by rw [ints_length, hlen, Nat.mul_one]) hn hcm ?_ ?_
      · have h1 : cur.length = xs.length + tl.length := by conv => lhs; rw [hcur2]; simp
        rw [Nat.mul_one, List.length_append, ints_length, hlen]
        omega
      · rw [Nat.mul_one]
        conv => lhs; rw [show xs.length = (ints (xs.take m ++ ys ++ xs.drop (m + r))).length from by rw [ints_length, hlen]]
        exact List.take_left
variable {ops : Array Oper} {rest : List Oper} {o : Oper} {a : Act} {Q : Exit → Act → World → Prop}
theorem wpList_append_in {w : World} (hgd : o.guard = none) (s x : Operand) (t e : TypeId)
    (ho : o.op = .call { callee := .builtin .append, args := #[s, x], argTypes := #[t, t] })
    (ht : P.underlying t = some (.slice e)) (hinfo : (P.info? e).map (fun i => (i.zero, i.size, i.bytes)) = some (some (.int .i64 0), 1, 8))
    {B : Nat} {w0 : World} {b c : Nat} {xs : List Int} {F : HP} (hst : St B w0 w (star (sli e (some b) c xs) F)) (m cap : Nat) (A : Option Addr) (r d : Nat) (ys : List Int) (hr : Rd w A r ys) (hm : m + r ≤ cap) (hcap : cap ≤ xs.length)
    (hs : a.eval s = .slice (some ⟨b, 0, none⟩) m cap) (hx : a.eval x = .slice A r d)
    (h : ∀ w', St B w0 w' (star (sli e (some b) c (xs.take m ++ ys ++ xs.drop (m + r))) F) → wpList P ops Q rest (a.put o.dst (.slice (some ⟨b, 0, none⟩) (m + r) cap)) w') :
    wpList P ops Q (o :: rest) a w := by
  refine wpList_plain hgd fun K hK => ?_
  obtain ⟨w', hrun, h2⟩ := run_append_in (P := P) w0 w B t o.type e ht hinfo b c xs F hst m cap A r d ys hr hm hcap
  unfold Oper.wp execOp
  simp only [ho, resolve, invoke, builtin, Sem.run_bind, Sem.run_pure, Result.andThen_ok, List.map_toArray, List.map_cons, List.map_nil, hs, hx, hrun]
  exact hK _ _ (h w' h2)
theorem Rd.newBox (w : World) (y : Int) (e : TypeId) : Rd (w.alloc (.cells #[.int .i64 y] e)) (some ⟨w.heap.size, 0, none⟩) 1 [y] :=
  ⟨rfl, by omega, fun _ => ⟨w.heap.size, 0, rfl, fun j hj => by
    obtain rfl : j = 0 := by omega
    rw [cell_of_row _ _ _ _ _ _ (heap_alloc_new w _)]
    rfl⟩⟩
end
end Go.Proofs.PlaitSep
