/-
  append(v, xs...) onto what is owned: what else lies there stays. General: no program in sight.
-/
import Derived.Test.YtodmkcolamppmaaKeep
namespace Go.Proofs.PlaitSep
open Go Go.RowKit Go.Proofs.PlaitPure
section
variable {P : Program} {ops : Array Oper} {rest : List Oper} {o : Oper} {a : Act} {Q : Exit → Act → World → Prop}
/-- append(v, xs...): the elements of a slice that lies elsewhere. -/
theorem wpList_append_spread {w : World} (hgd : o.guard = none) (s x : Operand) (t e : TypeId) (z : Value) (bytes : Nat)
    (ho : o.op = .call { callee := .builtin .append, args := #[s, x], argTypes := #[t, t] })
    (ht : P.underlying t = some (.slice e)) (hinfo : (P.info? e).map (fun i => (i.zero, i.size, i.bytes)) = some (some z, 1, bytes)) (hzs : z.cells.size = 1)
    {B : Nat} {w0 : World} {v : Option Nat} {n c : Nat} {xs : List Value} {F : HP} (hst : St B w0 w (star (sl v n c e 1 xs) F))
    (hs : a.eval s = .slice (v.map fun b => ⟨b, 0, none⟩) n c) (ad : Addr) (m d : Nat) (news : List Value) (hx : a.eval x = .slice (some ad) m d) (hl : news.length = m) (hnews : ∀ j u, news[j]? = some u → w.cell? (ad.add j) = some u)
    (h1 : ∀ u ∈ news, u.oneCell' = true) (hb : (n + m) * bytes ≤ 140737488355328) (hn : n + m ≤ maxLen) (hm : 0 < m)
    (h : ∀ b' c' w', St B w0 w' (star (sl (some b') (n + m) c' e 1 (xs ++ news)) F) → (∀ k, k < w.heap.size → v ≠ some k → w'.heap[k]? = w.heap[k]?) →
      (∀ q : Value → Prop, (∀ u ∈ xs, q u) → (∀ u ∈ news, q u) → (∀ u ∈ z.cells, q u) → (∀ b i u, v = some b → w.cell? ⟨b, i, none⟩ = some u → q u) → ∀ i u, w'.cell? ⟨b', i, none⟩ = some u → q u) →
      wpList P ops Q rest (a.put o.dst (.slice (some ⟨b', 0, none⟩) (n + m) c')) w') :
    wpList P ops Q (o :: rest) a w := by
  obtain ⟨i, hi, hzz⟩ := Option.map_eq_some_iff.1 hinfo
  simp only [Prod.mk.injEq] at hzz
  obtain ⟨hz0, hz1, hz2⟩ := hzz
  refine wpList_plain hgd fun K hK => ?_
  obtain ⟨b', c', w', hr, h2, h3, h4⟩ := run_append_slk (P := P) w0 w B t o.type e i z 1 bytes ht hi hz0 hz1 hz2 hzs (by omega) v n c xs F hst ad m d news (by omega) hnews h1 hn hb hm
  unfold Oper.wp execOp
  simp only [slv] at hr
  simp only [ho, resolve, invoke, builtin, Sem.run_bind, Sem.run_pure, Result.andThen_ok, List.map_toArray, List.map_cons, List.map_nil, hs, hx, hr]
  exact hK _ _ (h b' c' w' h2 h3 h4)
end
end Go.Proofs.PlaitSep
