/-
  How long a slice of steps that came in is, as its data say it; what the bound of an upto row gives.
-/
import Derived.Test.YthbbmdnfkkffjaaGreatY44
import Derived.Test.YthbbmdnfkkffjaaGreatRows
import Derived.Deep.CondSized
import Derived.Test.YthbbmdnfkkffjaaGreatY01
set_option maxHeartbeats 8000000
set_option maxRecDepth 100000
namespace Go.Proofs.YthbbmdnfkkffjaaGreat
open Go Go.RowKit Go.ChangeShapes Go.WideShapes Go.ChangeAt Go.Deep Go.Proofs.aC Go.Proofs.aA
open Go.Proofs.au hiding SM
section
variable {H:Type} {enc:TypeId×Value→H} {P:Program} {W:World} {base:Nat} {a:Option Addr} {len cap:Nat} {d:DataW H} {ps:List MemPlace}
theorem open_steps_d {t e:TypeId} {f0 f1:Field} (hu:P.underlying t=some (.slice e)) (he:P.underlying e=some (.struct #[f0,f1])) (ce:P.cellsOf e=2) (o0:f0.offset=0) (o1:f1.offset=1) (c0:P.cellsOf f0.type=1) (c1:P.cellsOf f1.type=1)
  (h:DataW.Trod enc P W base (fun _=>true) true t (.slice a len cap) d ps):len≤cap∧(len=0∨∃ elems spare,d=.slice elems spare∧elems.length=len):=by
 obtain⟨fuel,hf⟩:=h;rcases open_slice_pairs hu he ce o0 o1 c0 c1 hf with ⟨hcs,_⟩ | ⟨x,l,c,m,n,V0,V1,D0,D1,P0,P1,hcs,_,hl,_,hm,hx,hcell⟩
 ·simp[Value.cells] at hcs;obtain⟨rfl,rfl,rfl⟩:=hcs;exact⟨Nat.le_refl _,.inl rfl⟩
 ·simp[Value.cells] at hcs;obtain⟨rfl,rfl,rfl⟩:=hcs;obtain⟨hx,_⟩:=Prod.mk.inj hx;exact⟨hl,.inr ⟨_,_,hx,by simp⟩⟩
end
theorem bulk_one {H:Type} (d:DataW H):1≤Rows.uptoBulk d:=by
 cases d with
 | lit l=>cases l <;> simp[Rows.uptoBulk]
 | nil=>simp[Rows.uptoBulk]
 | ptr d=>simp[Rows.uptoBulk]
 | slice elems spare=>simp[Rows.uptoBulk]
 | agg parts=>simp[Rows.uptoBulk]
 | iface t d=>simp[Rows.uptoBulk]
 | map entries=>simp[Rows.uptoBulk]
 | held h=>simp[Rows.uptoBulk]
theorem bulk_part {H:Type} {d:DataW H} {l:List (DataW H)} (h:d∈l):Rows.uptoBulk d≤Rows.uptoBulkAll l:=by
 induction l with
 | nil=>cases h
 | cons x r ih =>
  simp only[Rows.uptoBulkAll];rcases List.mem_cons.1 h with rfl | e
  ·omega
  ·have:=ih e;omega
theorem bulk_len {H:Type} (l:List (DataW H)):l.length≤Rows.uptoBulkAll l:=by
 induction l with
 | nil=>simp[Rows.uptoBulkAll]
 | cons x r ih=>have:=bulk_one x;simp only[Rows.uptoBulkAll,List.length_cons];omega
theorem bulk_slice {H:Type} {d:DataW H} {l:List (DataW H)} {len:Nat} (hd:d∈l) (h:len=0∨∃ elems spare,d=.slice elems spare∧elems.length=len) (hk:Rows.uptoSmall H l=true):len≤1048576:=by
 have hb:Rows.uptoBulkAll l≤1048576:=of_decide_eq_true hk;rcases h with h | ⟨elems,spare,rfl,h⟩
 ·omega
 ·have h1:=bulk_part hd;simp only[Rows.uptoBulk] at h1;have h2:=bulk_len elems;omega
end Go.Proofs.YthbbmdnfkkffjaaGreat
