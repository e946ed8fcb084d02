/-
  A row's argument that is a slice of whole numbers, opened.
-/
import Derived.Test.YthbbmdnfkkffjaaGreatY44
import Derived.Test.YthbbmdnfkkffjaaGreatY01
set_option maxHeartbeats 8000000
set_option maxRecDepth 100000
namespace Go.Proofs.YthbbmdnfkkffjaaGreat
open Go Go.RowKit Go.ChangeShapes Go.WideShapes Go.ChangeAt Go.Deep Go.Proofs.aC Go.Proofs.aA
open Go.Proofs.au hiding SM
section
variable {H:Type} {enc:TypeId×Value→H} {P:Program} {W:World} {base:Nat} {a:Option Addr} {len cap:Nat} {d:DataW H} {ps:List MemPlace} {ts:List TypeId} {ds:List (DataW H)} {j:Nat}
theorem open_row2 {t e:TypeId} (hsz:(DataW.weightsEach P ts ds).all (·≤reachBytes)=true) (ht:ts[j]?=some t) (hd:ds[j]?=some d) (hu:P.underlying t=some (.slice e)) (he:P.underlying e=some (.int .i64)) (hc:P.cellsOf e=1) (hB:P.bytesOf e=8)
  (h:DataW.Trod enc P W base (fun _=>true) true t (.slice a len cap) d ps):∃ xs,Rd W a len xs∧∀ x∈xs,(Lit.int .i64 x).wf=true:=by
 obtain⟨fuel,hf⟩:=h;rcases open_ints hu he hc hf with ⟨hcs,_⟩ | ⟨x,l,c,zs,hcs,_,hl,_,hz,hx,hcell,hwf⟩
 ·simp[Value.cells] at hcs;obtain⟨rfl,rfl,rfl⟩:=hcs;exact⟨[],⟨rfl,Nat.zero_le _,fun h=>absurd h (by omega)⟩,by simp⟩
 ·simp[Value.cells] at hcs;obtain⟨rfl,rfl,rfl⟩:=hcs;obtain⟨hx,_⟩:=Prod.mk.inj hx;subst hx;have z:=sized_slice hsz ht hd hu;rw[hB] at z;have hz':zs.length=cap:=by simpa using hz
  have h1:(lits (H:=H) .i64 (zs.take len)).length+(lits (H:=H) .i64 (zs.drop len)).length=zs.length:=by
   simp[lits];omega
  rw[h1] at z;have hr:reachBytes=140737488351232:=rfl;refine⟨zs.take len,⟨by simp;omega,by omega,fun hp=>?_⟩,fun n hn=>hwf n (List.mem_of_mem_take hn)⟩;have h0:=hcell 0 (by omega);have hs:x=⟨x.block,x.off,none⟩:=Ka (by simpa [Addr.add] using h0);refine⟨x.block,x.off,by rw[←hs],fun j hj=>?_⟩;have:=hcell j (by omega);rw[hs,PN] at this;rw[this];simp[gi,List.getD_eq_getElem?_getD,hj]
end
end Go.Proofs.YthbbmdnfkkffjaaGreat
