/-
  append(rows, more...) onto rows that are owned, the others lying where they were handed in.
-/
import Derived.Test.YtodmkcolamppmaaSpread
import Derived.Test.YtodmkcolamppmaaDer6
namespace Go.Proofs.Ytodmkcolamppmaa
open Go.RowKit Go.Proofs.PlaitSep Go.Proofs.PlaitPure
theorem gl_app_left {G M : List (List Int)} {j : Nat} (h : j < G.length) : gl (G ++ M) j = gl G j := by simp [gl, List.getD_eq_getElem?_getD, List.getElem?_append_left h]
theorem gl_app_right {G M : List (List Int)} {j : Nat} (h : G.length ≤ j) : gl (G ++ M) j = gl M (j - G.length) := by simp [gl, List.getD_eq_getElem?_getD, List.getElem?_append_right h]
section
variable {P : Program} {ops : Array Oper} {rest : List Oper} {o : Oper} {a : Act} {Q : Exit → Act → World → Prop}
theorem wpList_append_rows {w : World} (hgd : o.guard = none) (s x : Operand) (t e : TypeId)
    (ho : o.op = .call { callee := .builtin .append, args := #[s, x], argTypes := #[t, t] })
    (ht : P.underlying t = some (.slice e)) (hinfo : (P.info? e).map (fun i => (i.zero, i.size, i.bytes)) = some (some (.slice none 0 0), 1, 24))
    {w0 : World} {v : Option Nat} {n c : Nat} {W : Rws} (hst : St w0.heap.size w0 w (star (rwsHP e v c W) emp)) (hn : W.length = n) (hW : ∀ x ∈ W, x.2.2.length ≤ 140737488355328)
    (hs : a.eval s = .slice (v.map fun b => ⟨b, 0, none⟩) n c) (A : Option Addr) (m d : Nat) (zz : List (List Int)) (hr : Rd2 w0 A m zz) (hx : a.eval x = .slice A m d) (hb : n + m ≤ 1000000)
    (h : ∀ A' c' w', Below w0.heap.size w0 w' → Rd2 w' A' (n + m) ((W.map fun x => x.2.2) ++ zz) → wpList P ops Q rest (a.put o.dst (.slice A' (n + m) c')) w') :
    wpList P ops Q (o :: rest) a w := by
  by_cases hm : m = 0
  · subst hm
    obtain rfl : zz = [] := List.eq_nil_of_length_eq_zero hr.len
    have hrd := rws_rd hst hW (by omega)
    rw [hn] at hrd
    obtain ⟨i, hi, hzz⟩ := Option.map_eq_some_iff.1 hinfo
    refine wpList_plain hgd fun K hK => ?_
    unfold Oper.wp execOp
    obtain ⟨_, hnc, hcm, hnone, hsome⟩ := (rws_focus hst hn).sat.sl_facts
    have hrun : (Builtin.append_ #[t, t] o.type #[.slice (v.map fun b => ⟨b, 0, none⟩) n c, .slice A 0 d]).run P w = .ok (.slice (v.map fun b => ⟨b, 0, none⟩) n c) w := by
      cases v with
      | none =>
        obtain ⟨rfl, rfl⟩ := hnone rfl
        cases A <;> simp [Builtin.append_, run_underlying ht, sizeOf, typeInfo, hi, Builtin.lenOf, Builtin.firstCells, loadCells, loadCellsFrom]
      | some b => cases A <;> simp [hnc, Builtin.append_, run_underlying ht, sizeOf, typeInfo, hi, Builtin.lenOf, Builtin.firstCells, loadCells, loadCellsFrom, storeCells]
    simp only [ho, resolve, invoke, builtin, Sem.run_bind, Sem.run_pure, Result.andThen_ok, List.map_toArray, List.map_cons, List.map_nil, hs, hx, hrun]
    exact hK _ _ (h _ c w hst.below (by simpa using hrd))
  · obtain ⟨f, hf⟩ := rd2_choose hr
    obtain ⟨b, ob, hA, _⟩ := hr.cells (by omega)
    subst hA
    have hget : ∀ j, j < m → ((List.range m).map fun j => Value.slice (f j).1 (gl zz j).length (f j).2)[j]? = some (.slice (f j).1 (gl zz j).length (f j).2) := fun j hj => by simp [hj]
    refine wpList_append_spread hgd s x t e (.slice none 0 0) 24 ho ht hinfo rfl (rws_focus hst hn) hs ⟨b, ob, none⟩ m d ((List.range m).map fun j => .slice (f j).1 (gl zz j).length (f j).2) hx (by simp) (fun j u hj => ?_) (fun u hu => ?_) (by omega) (by simp only [maxLen]; omega) (by omega) ?_
    · have hjm : j < m := by
        have := (List.getElem?_eq_some_iff.1 hj).1
        simpa using this
      rw [hget j hjm, Option.some.injEq] at hj
      subst hj
      have hadd : (⟨b, ob, none⟩ : Addr).add j = ⟨b, ob + j, none⟩ := by unfold Addr.add; split <;> simp_all
      have h1 := (hf j hjm).2 b ob rfl
      rw [hadd, hst.below.cell (World.block_lt_of_cell? w0 _ h1), h1]
    · obtain ⟨j, _, rfl⟩ := List.mem_map.1 hu
      rfl
    · intro b' c' w' h2 _ _
      refine h (some ⟨b', 0, none⟩) c' w' h2.below ⟨by rw [List.length_append, List.length_map, hn, hr.len], by omega, fun hp => ⟨b', 0, rfl, fun j hj => ?_⟩⟩
      rw [Nat.zero_add, St.sl_cell (h := h2) j (by rw [List.length_append, rwV_length]; simp; omega)]
      by_cases hjn : j < n
      · obtain ⟨x, hx⟩ : ∃ x, W[j]? = some x := ⟨W[j], by simp [hn, hjn]⟩
        have hg : gl ((W.map fun x => x.2.2) ++ zz) j = x.2.2 := by rw [gl_app_left (by simp; omega)]; simp [gl, List.getD_eq_getElem?_getD, hx]
        refine ⟨x.1.map fun b => ⟨b, 0, none⟩, x.2.1, ?_, ?_⟩
        · rw [List.getElem?_append_left (by rw [rwV_length]; omega), hg]
          simp [rwV, hx, slv]
        · rw [hg]
          have hr3 : (rwH W)[j]? = some (sli 3 x.1 x.2.1 x.2.2) := by simp [rwH, hx]
          exact St.rd (h2.conseq (by rw [(stars_set_split hr3 emp).1]; ac_rfl) : St w0.heap.size w0 w' (star (sli 3 x.1 x.2.1 x.2.2) (star (sl (some b') (n + m) c' e 1 _) (star (stars ((rwH W).eraseIdx j)) emp)))) (hW x (List.mem_of_getElem? hx))
      · have hg : gl ((W.map fun x => x.2.2) ++ zz) j = gl zz (j - n) := by rw [gl_app_right (by simp; omega)]; simp [hn]
        have hjm : j - n < m := by omega
        refine ⟨(f (j - n)).1, (f (j - n)).2, ?_, ?_⟩
        · rw [List.getElem?_append_right (by rw [rwV_length]; omega), rwV_length, hn, hget _ hjm, hg]
        · rw [hg]
          exact (hf _ hjm).1.grow h2.below
end
end Go.Proofs.Ytodmkcolamppmaa
