/-
  Parts of the proof, joined by program: Read3.
-/
import Derived.Test.YthbbmdnfkkffjaaGreatZ17
import Derived.Deep.OwnRows
namespace Go.Proofs.PlaitSep
open Go Go.RowKit Go.Proofs.PlaitPure
def zeros (n:Nat):List Int:=List.replicate n 0
theorem St.sl_cut {B:Nat} {w0 w:World} {a:Option Nat} {n c:Nat} {e:TypeId} {sz:Nat} {xs:List Value} {F:HP} (h:St B w0 w (star (sl a n c e sz xs) F)) (m d:Nat) (hm:m≤d) (hmn:m≤n) (hd:d≤c) :
  St B w0 w (star (sl a m d e sz (xs.take (m*sz))) F):=⟨h.below,h.base,h.sat.sl_cut m d hm hmn hd⟩
theorem madeCells_replicate (z:Value) (n:Nat):(madeCells #[z] n).toList=List.replicate n z:=by
 refine List.ext_getElem (by simp[madeCells]) fun i h1 h2=>?_
 simp[madeCells,Nat.mod_one]
theorem St.made {B:Nat} {w0 w:World} {F:HP} (h:St B w0 w F) (z:Value) (n:Nat) (e:TypeId) (hn:n≤maxLen) :
  St B w0 (w.alloc (.cells (madeCells #[z] n) e)) (star (sl (some w.heap.size) n n e 1 (List.replicate n z)) F):=by
 have h1:=h.pt_new (madeCells #[z] n) e
 rw[madeCells_replicate] at h1
 exact⟨h1.below,h1.base,h1.sat.pt_sl (by simp) (Nat.le_refl _) hn (by simp) (by simp)⟩
section
variable {P:Program} {ops:Array Oper} {rest:List Oper} {o:Oper} {a:Act} {Q:Exit→Act→World→Prop}
theorem wpList_make {w:World} (hgd:o.guard=none) (l c:Operand) (t e:TypeId) (z:Value) (bytes:Nat) (ho:o.op=.makeSlice t l c)
  (ht:P.underlying t=some (.slice e)) (hinfo:(P.info? e).map (fun i=>(i.zero,i.size,i.bytes))=some (some z,1,bytes)) (hz1:z.cells=#[z]) (n:Nat) (M:Int) (hM:M=(n:Int))
  (hl:a.eval l=.int .i64 M) (hc:a.eval c=.int .i64 M) (hb:bytes*n≤281474976710656) (hn:n≤maxLen) (h63:n≤9223372036854775807)
  {B:Nat} {w0:World} {F:HP} (hst:St B w0 w F)
  (h:∀ b w',St B w0 w' (star (sl (some b) n n e 1 (List.replicate n z)) F)→wpList P ops Q rest (a.put o.dst (.slice (some ⟨b,0,none⟩) n n)) w') :
  wpList P ops Q (o :: rest) a w:=by
 subst hM
 refine wpList_plain hgd fun K hK=>?_
 have hr:=run_make_row' (P:=P) t e z bytes ht hinfo hz1 .i64 .i64 n hb h63 w
 unfold Oper.wp execOp
 simp only[ho,hl,hc,Sem.run_bind,Sem.run_pure,hr,Result.andThen_ok]
 exact hK _ _ (h _ _ (hst.made z n e hn))
end
end Go.Proofs.PlaitSep
