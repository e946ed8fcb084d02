/-
  Parts of the proof, joined by program: aj9, Read, akb.
-/
import Derived.Test.YthbbmdnfkkffjaaGreatY01
import Derived.Maps.AppendAt
import Derived.Deep.Draws
import Derived.Lib.Hide
set_option maxHeartbeats 8000000
set_option maxRecDepth 100000
namespace Go.Proofs.aC
open Go Go.RowKit
structure St (B:Nat) (w0 w:World) (P:HP):Prop where
 below:Below B w0 w
 base:B≤w.heap.size
 sat:Sat B w P
theorem St.aB {B:Nat} {w0 w:World} {P Q:HP} (h:St B w0 w P) (e:P=Q):St B w0 w Q:=e▸h
theorem St.drop {B:Nat} {w0 w:World} {P Q:HP} (h:St B w0 w (star P Q)):St B w0 w P:=⟨h.below,h.base,h.sat.left⟩
theorem St.wH {B:Nat} {w0 w:World} {P Q:HP} (h:St B w0 w (star P Q)):St B w0 w Q:=⟨h.below,h.base,h.sat.right⟩
theorem St.drew {B:Nat} {w0 w:World} {P:HP} (h:St B w0 w P):St B w0 w.drew P:=⟨h.below.drew,h.base,h.sat.heap rfl⟩
theorem St.drewN {B:Nat} {w0 w:World} {P:HP} (h:St B w0 w P) (n:Nat):St B w0 (w.drewN n) P:=⟨⟨h.below.os,h.below.tape,h.below.output,h.below.size,h.below.block⟩,h.base,h.sat.heap rfl⟩
theorem St.alloc {B:Nat} {w0 w:World} {P:HP} (h:St B w0 w P) (o:Obj):St B w0 (w.alloc o) P :=
 ⟨h.below.alloc h.base o,by have:=h.base;simp;omega,h.sat.alloc o⟩
theorem St.iC {B:Nat} {w0 w:World} {P:HP} (h:St B w0 w P) (cs:Array Value) (e:TypeId):St B w0 (w.alloc (.cells cs e)) (star (pt w.heap.size e cs.toList) P) :=
 ⟨h.below.alloc h.base _,by have:=h.base;simp;omega,h.sat.iC h.base cs e⟩
theorem St.aaH {B:Nat} {w0 w:World} {b:Nat} {e:TypeId} {xs:List Value} {F:HP} (h:St B w0 w (star (pt b e xs) F)):B≤b:=(Sat.one h.sat).2
theorem St.bM {B:Nat} {w0 w:World} {b:Nat} {e:TypeId} {xs:List Value} {F:HP} (h:St B w0 w (star (pt b e xs) F)) (i:Nat) (v:Value):St B w0 (w.setCell ⟨b,i,none⟩ v) (star (pt b e (xs.set i v)) F) :=
 ⟨h.below.setCell h.aaH v,by have:=h.base;simpa [World.setCell] using this,h.sat.bM i v⟩
theorem St.Kl {B:Nat} {w0 w:World} {b n c:Nat} {e:TypeId} {sz:Nat} {xs:List Value} {F:HP} (h:St B w0 w (star (sl (some b) n c e sz xs) F)):B≤b:=(h.sat.aR.2.2.2.2 b rfl).1
theorem St.fH {B:Nat} {w0 w:World} {b n c:Nat} {e:TypeId} {sz:Nat} {xs:List Value} {F:HP} (h:St B w0 w (star (sl (some b) n c e sz xs) F)) (i:Nat) (v:Value) (hi:i<xs.length):St B w0 (w.setCell ⟨b,i,none⟩ v) (star (sl (some b) n c e sz (xs.set i v)) F) :=
 ⟨h.below.setCell h.Kl v,by have:=h.base;simpa [World.setCell] using this,h.sat.fH i v hi⟩
theorem St.grow {B:Nat} {w0 w w':World} {P:HP} (h:St B w0 w P) (hb:Below w.heap.size w w'):St B w0 w' P :=
 ⟨h.below.trans ⟨hb.os,hb.tape,hb.output,hb.size,fun k hk=>hb.block k (Nat.lt_of_lt_of_le hk h.base)⟩,Nat.le_trans h.base hb.size,h.sat.kept fun b hb'=>hb.block b hb'⟩
theorem St.aG {B:Nat} {w0 w:World} {b:Nat} {e:TypeId} {xs:List Value} {F:HP} (h:St B w0 w (star (pt b e xs) F)) (i:Nat):w.cell? ⟨b,i,none⟩=xs[i]?:=h.sat.aG i
theorem St.bU {B:Nat} {w0 w:World} {b:Nat} {e:TypeId} {xs:List Value} {F:HP} (h:St B w0 w (star (pt b e xs) F)) (i:Nat):w.frozen? ⟨b,i,none⟩=false:=h.sat.bU i
theorem St.aW {B:Nat} {w0 w:World} {b n c:Nat} {e:TypeId} {sz:Nat} {xs:List Value} {F:HP} (h:St B w0 w (star (sl (some b) n c e sz xs) F)) (i:Nat) (hi:i<xs.length):w.cell? ⟨b,i,none⟩=xs[i]?:=h.sat.aW i hi
theorem St.bZ {B:Nat} {w0 w:World} {b n c:Nat} {e:TypeId} {sz:Nat} {xs:List Value} {F:HP} (h:St B w0 w (star (sl (some b) n c e sz xs) F)) (i:Nat):w.frozen? ⟨b,i,none⟩=false:=h.sat.bZ i
theorem St.start (w:World):St w.heap.size w w emp:=⟨Below.refl _ _,Nat.le_refl _,Sat.emp _ _⟩
theorem St.nest {B:Nat} {w0 w w':World} {P F:HP} (h:St B w0 w F) (k:St w.heap.size w w' P):St B w0 w' (star P F):=by
 refine⟨h.below.trans ⟨k.below.os,k.below.tape,k.below.output,k.below.size,fun i hi=>k.below.block i (Nat.lt_of_lt_of_le hi h.base)⟩,Nat.le_trans h.base k.below.size,?_⟩;obtain⟨h1,p,c1⟩:=k.sat
 obtain⟨h2,q,c2⟩:=h.sat.lt;refine⟨Hp.join h1 h2,⟨h1,h2,?_,rfl,p,q⟩,?_⟩
 ·intro b
  cases e1:h1 b with
  | none=>exact .inl rfl
  | some o =>
   right
   cases e2:h2 b with
   | none=>rfl
   | some o'=>have:=(c1 b o e1).1;have:=(c2 b o' e2).2.1;omega
 ·intro b o hb;unfold Hp.join at hb
  cases e1:h1 b with
  | none =>
   rw[e1] at hb;have:=c2 b o hb;exact⟨this.1,by rw[k.below.block b this.2.1];exact this.2.2⟩
  | some o' =>
   rw[e1] at hb;have:=c1 b o' e1;simp at hb;subst hb;exact⟨Nat.le_trans h.base this.1,this.2⟩
section
variable {P:Program}
theorem lK (w0 w:World) (B:Nat) (t ty e:TypeId) (i:TypeInfo) (z:Value) (size bytes:Nat) (ht:P.underlying t=some (.slice e)) (hi:P.info? e=some i) (hz:i.zero=some z)
  (hsize:i.size=size) (hby:i.bytes=bytes) (hzs:z.cells.size=size) (hsz:0<size)
  (a:Option Nat) (n c:Nat) (xs:List Value) (F:HP) (hst:St B w0 w (star (sl a n c e size xs) F))
  (ad:Addr) (m d:Nat) (news:List Value) (hl:news.length=m*size) (hnews:∀ j u,news[j]?=some u→w.cell? (ad.add j)=some u) (h1:∀ u∈news,u.oneCell'=true)
  (h63:n+m≤maxLen) (hbytes:(n+m)*bytes≤140737488355328) (hm:0<m) :
  ∃ b' c' w',(Builtin.append_ #[t,t] ty #[iB a n c,.slice (some ad) m d]).run P w=.ok (iB (some b') (n+m) c') w'∧St B w0 w' (star (sl (some b') (n+m) c' e size (xs++news)) F):=by
 subst hsize
 subst hby
 have hsmall:n+m≤9223372036854775807:=by simp only[maxLen] at h63;omega
 obtain⟨hx,hnc,hcm,hnone,hsome⟩:=hst.sat.aR;have hlen:(xs++news).length=(n+m)*i.size:=by rw[List.length_append,hx,hl,Nat.add_mul]
 have grown:∀ (old:Nat),old<n+m →
   St B w0 (w.drew.alloc (.cells (xs.toArray++news.toArray++Builtin.zeroCells z.cells (grownCap w (n+m) old e-(n+m))) e)) (star (sl (some w.heap.size) (n+m) (grownCap w (n+m) old e) e i.size (xs++news)) F):=by
  intro old ho;have hge:=grownCap_ge w (n+m) old e;have hcm:grownCap w (n+m) old e≤maxLen:=grownCap_le_maxLen w (n+m) old e h63;have hd:=hst.wH.drew.iC (xs.toArray++news.toArray++Builtin.zeroCells z.cells (grownCap w (n+m) old e-(n+m))) e;refine⟨hd.below,hd.base,hd.sat.pO hlen hge hcm ?_ ?_⟩
  ·simp only[Array.toList_append,List.length_append,Array.length_toList,size_zeroCells,hzs,hl,hx];rw[←Nat.add_mul,←Nat.add_mul];exact Nat.mul_le_mul_right _ (by omega)
  ·simp only[Array.toList_append];rw[←hlen];exact List.take_left
 cases a with
 | none =>
  obtain⟨rfl,rfl⟩:=hnone rfl;have hx0:xs=[]:=List.eq_nil_of_length_eq_zero (by simpa using hx);subst hx0;have hr:=run_append_nil (P:=P) w t ty e i z ht hi hz ad m d news hl hnews hm (by omega) (by have hb:=hbytes;simp only[Nat.zero_add] at hb;omega);have hgr:=grown 0 (by omega);simp only[Nat.zero_add,List.nil_append,Array.empty_append] at hgr ⊢;exact⟨_,_,_,hr,hgr⟩
 | some b =>
  obtain⟨cur,_,_,_,hcur,htake,hp⟩:=hst.sat.wG
  by_cases hroom:n+m≤c
  ·have hfit:n*i.size+news.length≤cur.toArray.size:=by
    rw[hl,←Nat.add_mul,List.size_toArray];exact Nat.le_trans (Nat.mul_le_mul_right _ hroom) hcur
   have hr:=run_append_room (P:=P) w t ty e i ht hi b n c cur.toArray (Sat.one hp).1 ad m d news hl hnews h1 hroom hfit;refine⟨_,_,_,hr,⟨?_,?_,?_⟩⟩
   ·exact hst.below.trans ⟨rfl,rfl,rfl,by simp,fun k hk=>setRow_other w b k _ (fun e=>by have:=hst.Kl;omega)⟩
   ·simpa using hst.base
   ·refine Sat.pO (cur:=(cur.toArray.toList.take (n*i.size)++news++cur.toArray.toList.drop (n*i.size+news.length))) (Sat.put hp (setRow_heap w b _ _ e _ (Sat.one hp).1) fun k hk _=>setRow_other w b k _ hk) hlen hroom hcm ?_ ?_
    ·have:=hcur;simp only[List.length_append,List.length_take,List.length_drop];simp only[List.size_toArray] at hfit;omega
    ·simp only[htake];rw[←hlen];exact List.take_left
  ·have holds:∀ j u,xs[j]?=some u→w.cell? ((⟨b,0,none⟩:Addr).add j)=some u:=by
    intro j u hj;have hadd:(⟨b,0,none⟩:Addr).add j=⟨b,j,none⟩:=by unfold Addr.add;split <;> simp_all
    rw[hadd,hst.aW j (List.getElem?_eq_some_iff.1 hj).1];exact hj
   have hr:=run_append_grow (P:=P) w t ty e i z ht hi hz ⟨b,0,none⟩ n c xs hx holds ad m d news hl hnews (by omega) (by omega) (growslice_fits (by omega) hbytes);exact⟨_,_,_,hr,grown c (by omega)⟩
variable {ops:Array Oper} {rest:List Oper} {o:Oper} {a:Act} {Q:Exit→Act→World→Prop}
theorem aO {w:World} (hgd:o.guard=none) (s x:Operand) (t e:TypeId) (z:Value) (bytes:Nat)
  (ho:o.op=.call { callee:=.builtin .append,args:=#[s,x],argTypes:=#[t,t] })
  (ht:P.underlying t=some (.slice e)) (hinfo:(P.info? e).map (fun i=>(i.zero,i.size,i.bytes))=some (some z,1,bytes)) (hzs:z.cells.size=1)
  {B:Nat} {w0:World} {v:Option Nat} {n c:Nat} {xs:List Value} {F:HP} (hst:St B w0 w (star (sl v n c e 1 xs) F))
  (hs:a.eval s=.slice (v.map fun b=>⟨b,0,none⟩) n c) (y:Value) (hx:a.eval x=.slice (some ⟨w.heap.size,0,none⟩) 1 1) (h1:y.oneCell'=true) (hb:(n+1)*bytes≤140737488355328) (hn:n+1≤maxLen)
  (h:∀ b' c' w',St B w0 w' (star (sl (some b') (n+1) c' e 1 (xs++[y])) F)→wpList P ops Q rest (a.put o.dst (.slice (some ⟨b',0,none⟩) (n+1) c')) w') :
  wpList P ops Q (o :: rest) a (w.alloc (.cells #[y] e)):=by
 obtain⟨i,hi,hzz⟩:=Option.map_eq_some_iff.1 hinfo;simp only[Prod.mk.injEq] at hzz;obtain⟨hz0,hz1,hz2⟩:=hzz;refine wpList_plain hgd fun K hK=>?_;obtain⟨b',c',w',hr,h2⟩:=lK (P:=P) w0 (w.alloc (.cells #[y] e)) B t o.type e i z 1 bytes ht hi hz0 hz1 hz2 hzs (by omega) v n c xs F (hst.alloc _) ⟨w.heap.size,0,none⟩ 1 1 [y] rfl (cell_one_new _ _ _) (by simpa using h1) hn hb (by omega);unfold Oper.wp execOp;simp only[iB] at hr;simp only[ho,resolve,invoke,builtin,Sem.run_bind,Sem.run_pure,Result.andThen_ok,List.map_toArray,List.map_cons,List.map_nil,hs,hx,hr];exact hK _ _ (h b' c' w' h2)
theorem rH {w:World} (t:TypeId) (b i:Nat) (v:Value) (hsz:(P.info? t).map (·.size)=some 1) (h1:v.oneCell'=true) (hc:∃ u,w.cell? ⟨b,i,none⟩=some u) (hf:w.frozen? ⟨b,i,none⟩=false) :
  (Instr.storeAt t (.pointer (some ⟨b,i,none⟩)) v).run P w=.ok () (w.setCell ⟨b,i,none⟩ v):=by
 obtain⟨inf,hi,hs⟩:=Option.map_eq_some_iff.1 hsz;obtain⟨u,hu⟩:=hc
 cases v <;> first | (simp[Value.oneCell'] at h1;done) | simp[Instr.storeAt,Instr.sureAddr,storeVar,sizeOf,typeInfo,hi,hs,Value.cells,storeCells,store,Addr.add,Sem.run,hu,hf]
theorem gU {w:World} (hgd:o.guard=none) (t:TypeId) (x y:Operand) (ho:o.op=.store t x y) (hsz:(P.info? t).map (·.size)=some 1)
  {B:Nat} {w0:World} {b:Nat} {e:TypeId} {xs:List Value} {F:HP} (hst:St B w0 w (star (pt b e xs) F)) (i:Nat) (v:Value) (hx:a.eval x=.pointer (some ⟨b,i,none⟩)) (hy:a.eval y=v) (h1:v.oneCell'=true) (hi:i<xs.length)
  (h:∀ w',St B w0 w' (star (pt b e (xs.set i v)) F)→wpList P ops Q rest (a.put o.dst undef) w') :
  wpList P ops Q (o :: rest) a w:=by
 refine wpList_plain hgd fun K hK=>?_;have hr:=rH (P:=P) (w:=w) t b i v hsz h1 ⟨xs[i],by rw[hst.aG i];simp[hi]⟩ (hst.bU i);unfold Oper.wp execOp;simp only[ho,hx,hy,Sem.run_bind,Sem.run_pure,hr,Result.andThen_ok];exact hK _ _ (h _ (hst.bM i v))
theorem mF {w:World} (hgd:o.guard=none) (t:TypeId) (x y:Operand) (ho:o.op=.store t x y) (hsz:(P.info? t).map (·.size)=some 1)
  {B:Nat} {w0:World} {b n c:Nat} {e:TypeId} {sz:Nat} {xs:List Value} {F:HP} (hst:St B w0 w (star (sl (some b) n c e sz xs) F)) (i:Nat) (v:Value) (hx:a.eval x=.pointer (some ⟨b,i,none⟩)) (hy:a.eval y=v) (h1:v.oneCell'=true) (hi:i<xs.length)
  (h:∀ w',St B w0 w' (star (sl (some b) n c e sz (xs.set i v)) F)→wpList P ops Q rest (a.put o.dst undef) w') :
  wpList P ops Q (o :: rest) a w:=by
 refine wpList_plain hgd fun K hK=>?_;have hr:=rH (P:=P) (w:=w) t b i v hsz h1 ⟨xs[i],by rw[hst.aW i hi];simp[hi]⟩ (hst.bZ i);unfold Oper.wp execOp;simp only[ho,hx,hy,Sem.run_bind,Sem.run_pure,hr,Result.andThen_ok];exact hK _ _ (h _ (hst.fH i v hi))
end
end Go.Proofs.aC
namespace Go.Proofs.aC
open Go Go.RowKit Go.Proofs.au
structure Rd (w:World) (A:Option Addr) (n:Nat) (xs:List Int):Prop where
 len:xs.length=n
 small:n≤140737488355328
 cells:0<n→∃ b o,A=some ⟨b,o,none⟩∧∀ j,j<n→w.cell? ⟨b,o+j,none⟩=some (.int .i64 (gi xs j))
theorem Rd.grow {w w':World} {A:Option Addr} {n:Nat} {xs:List Int} (h:Rd w A n xs) (hb:Below w.heap.size w w'):Rd w' A n xs:=by
 refine⟨h.len,h.small,fun hn=>?_⟩;obtain⟨b,o,e,hc⟩:=h.cells hn;refine⟨b,o,e,fun j hj=>?_⟩;have:=World.block_lt_of_cell? w _ (hc j hj);rw[←hc j hj];exact hb.cell this
theorem Rd.heap {w w':World} {A:Option Addr} {n:Nat} {xs:List Int} (h:Rd w A n xs) (e:w'.heap=w.heap):Rd w' A n xs :=
 ⟨h.len,h.small,fun hn=>by
  obtain⟨b,o,ee,hc⟩:=h.cells hn
  exact⟨b,o,ee,fun j hj=>by rw[←hc j hj];simp[World.cell?,e]⟩⟩
theorem Rd.cell {w:World} {b o n:Nat} {xs:List Int} (h:Rd w (some ⟨b,o,none⟩) n xs) {k:Nat} (hk:k<n):w.cell? ⟨b,o+k,none⟩=some (.int .i64 (gi xs k)):=by
 obtain⟨b',o',e,hc⟩:=h.cells (by omega);obtain⟨rfl,rfl⟩:b=b'∧o=o':=by simpa using e
 exact hc k hk
def ints (xs:List Int):List Value:=xs.map (Value.int .i64)
@[simp] theorem dL (xs:List Int):(ints xs).length=xs.length:=by simp[ints]
theorem iZ (xs:List Int) (i:Nat) (h:i<xs.length):(ints xs)[i]?=some (.int .i64 (gi xs i)):=by
 simp[ints,gi,List.getElem?_map,List.getElem?_eq_getElem h]
theorem uj (xs ys:List Int):ints (xs++ys)=ints xs++ints ys:=by simp[ints]
theorem ints_set (xs:List Int) (i:Nat) (x:Int):(ints xs).set i (.int .i64 x)=ints (xs.set i x):=by simp[ints,List.map_set]
def bO (t:TypeId) (a:Option Nat) (c:Nat) (xs:List Int):HP:=sl a xs.length c t 1 (ints xs)
theorem St.rd {B:Nat} {w0 w:World} {t:TypeId} {a:Option Nat} {c:Nat} {xs:List Int} {F:HP} (h:St B w0 w (star (bO t a c xs) F)) (hs:xs.length≤140737488355328):Rd w (a.map fun b=>⟨b,0,none⟩) xs.length xs:=by
 refine⟨rfl,hs,fun hn=>?_⟩;obtain⟨_,_,_,hnone,hsome⟩:=h.sat.aR
 cases a with
 | none=>have:=hnone rfl;omega
 | some b =>
  refine⟨b,0,rfl,fun j hj=>?_⟩;rw[Nat.zero_add,St.aW (h:St B w0 w (star (sl (some b) _ _ _ _ _) F)) j (by simpa using hj),iZ _ _ hj]
theorem Rd.news {w:World} {A:Addr} {n:Nat} {xs:List Int} (h:Rd w (some A) n xs) (hn:0<n):∀ j u,(ints xs)[j]?=some u→w.cell? (A.add j)=some u:=by
 intro j u hj;obtain⟨b,o,e,hc⟩:=h.cells hn;have hlt:j<xs.length:=by have:=(List.getElem?_eq_some_iff.1 hj).1;simpa using this
 obtain rfl:A=⟨b,o,none⟩:=by simpa using e
 have hadd:(⟨b,o,none⟩:Addr).add j=⟨b,o+j,none⟩:=by unfold Addr.add;split <;> simp_all
 rw[hadd,hc j (by have:=h.len;omega)];rw[iZ xs j hlt] at hj;exact hj
theorem ints_oneCell (xs:List Int):∀ u∈ints xs,u.oneCell'=true:=by
 intro u hu;simp only[ints,List.mem_map] at hu;obtain⟨x,_,rfl⟩:=hu;rfl
section
variable {P:Program}
theorem Hz (w0 w:World) (B:Nat) (t ty e:TypeId) (ht:P.underlying t=some (.slice e)) (hinfo:(P.info? e).map (fun i=>(i.zero,i.size,i.bytes))=some (some (.int .i64 0),1,8))
  (a:Option Nat) (c:Nat) (xs:List Int) (F:HP) (hst:St B w0 w (star (bO e a c xs) F)) (A:Option Addr) (m d:Nat) (ys:List Int) (hr:Rd w A m ys) (hbytes:(xs.length+m)*8≤140737488355328) :
  ∃ a' c' w',(Builtin.append_ #[t,t] ty #[iB a xs.length c,.slice A m d]).run P w=.ok (iB a' (xs++ys).length c') w'∧St B w0 w' (star (bO e a' c' (xs++ys)) F):=by
 obtain⟨i,hi,hzz⟩:=Option.map_eq_some_iff.1 hinfo;simp only[Prod.mk.injEq] at hzz;obtain⟨hz0,hz1,hz2⟩:=hzz
 by_cases hm:m=0
 ·subst hm;obtain rfl:ys=[]:=List.eq_nil_of_length_eq_zero hr.len;refine⟨a,c,w,?_,by simpa using hst⟩;obtain⟨_,hnc,hcm,hnone,hsome⟩:=hst.sat.aR
  cases a with
  | none =>
   obtain⟨h1,rfl⟩:=hnone rfl
   cases A <;> simp[iB,h1,Builtin.append_,run_underlying ht,sizeOf,typeInfo,hi,Builtin.lenOf,Builtin.firstCells,loadCells,loadCellsFrom]
  | some b=>cases A <;> simp[iB,hnc,Builtin.append_,run_underlying ht,sizeOf,typeInfo,hi,Builtin.lenOf,Builtin.firstCells,loadCells,loadCellsFrom,storeCells]
 ·obtain⟨b,o,rfl,hc⟩:=hr.cells (by omega);have hl:=hr.len;obtain⟨b',c',w',h1,h2⟩:=lK (P:=P) w0 w B t ty e i (.int .i64 0) 1 8 ht hi hz0 hz1 hz2 rfl (by omega) a xs.length c (ints xs) F hst ⟨b,o,none⟩ m d (ints ys) (by simpa using hl) (hr.news (by omega)) (ints_oneCell ys) (by simp only[maxLen];omega) hbytes (by omega);refine⟨some b',c',w',?_,?_⟩
  ·rw[h1];simp[hl]
  ·rw[show bO e (some b') c' (xs++ys)=sl (some b') (xs.length+m) c' e 1 (ints xs++ints ys) from by unfold bO;rw[uj];simp[hl]];exact h2
variable {ops:Array Oper} {rest:List Oper} {o:Oper} {a:Act} {Q:Exit→Act→World→Prop}
theorem gG {w:World} (hgd:o.guard=none) (s x:Operand) (t e:TypeId)
  (ho:o.op=.call { callee:=.builtin .append,args:=#[s,x],argTypes:=#[t,t] })
  (ht:P.underlying t=some (.slice e)) (hinfo:(P.info? e).map (fun i=>(i.zero,i.size,i.bytes))=some (some (.int .i64 0),1,8))
  {B:Nat} {w0:World} {v:Option Nat} {c:Nat} {xs:List Int} {F:HP} (hst:St B w0 w (star (bO e v c xs) F)) (n:Nat) (hn:xs.length=n) (A:Option Addr) (m d:Nat) (ys:List Int) (hr:Rd w A m ys)
  (hs:a.eval s=.slice (v.map fun b=>⟨b,0,none⟩) n c) (hx:a.eval x=.slice A m d) (hbytes:(n+m)*8≤140737488355328)
  (h:∀ a' c' w',St B w0 w' (star (bO e a' c' (xs++ys)) F)→wpList P ops Q rest (a.put o.dst (.slice (a'.map fun b=>⟨b,0,none⟩) (n+m) c')) w') :
  wpList P ops Q (o :: rest) a w:=by
 subst hn;refine wpList_plain hgd fun K hK=>?_;obtain⟨a',c',w',hrun,h2⟩:=Hz (P:=P) w0 w B t o.type e ht hinfo v c xs F hst A m d ys hr hbytes;unfold Oper.wp execOp;simp only[iB] at hrun;simp only[ho,resolve,invoke,builtin,Sem.run_bind,Sem.run_pure,Result.andThen_ok,List.map_toArray,List.map_cons,List.map_nil,hs,hx,hrun];have:=h a' c' w' h2;rw[show xs.length+m=(xs++ys).length from by rw[List.length_append,hr.len]] at this;exact hK _ _ this
theorem cO {w:World} (hgd:o.guard=none) (s x:Operand) (t e:TypeId)
  (ho:o.op=.call { callee:=.builtin .append,args:=#[s,x],argTypes:=#[t,t] })
  (ht:P.underlying t=some (.slice e)) (hinfo:(P.info? e).map (fun i=>(i.zero,i.size,i.bytes))=some (some (.int .i64 0),1,8))
  {B:Nat} {w0:World} {v:Option Nat} {c:Nat} {xs:List Int} {F:HP} (hst:St B w0 w (star (bO e v c xs) F)) (n:Nat) (hn:xs.length=n)
  (hs:a.eval s=.slice (v.map fun b=>⟨b,0,none⟩) n c) (y:Int) (hx:a.eval x=.slice (some ⟨w.heap.size,0,none⟩) 1 1) (hb:(n+1)*8≤140737488355328)
  (h:∀ b' c' w',St B w0 w' (star (bO e (some b') c' (xs++[y])) F)→wpList P ops Q rest (a.put o.dst (.slice (some ⟨b',0,none⟩) (n+1) c')) w') :
  wpList P ops Q (o :: rest) a (w.alloc (.cells #[.int .i64 y] e)):=by
 subst hn;refine aO hgd s x t e (.int .i64 0) 8 ho ht hinfo rfl hst hs (.int .i64 y) hx rfl hb (by simp only[maxLen];omega) ?_;intro b' c' w' h2;exact h b' c' w' (by unfold bO;rw[uj];simpa [ints] using h2)
end
section
variable {P:Program}
theorem tJ {w:World} {ops:Array Oper} {o:Oper} {a:Act} {K:Act→World→Prop} {Q:Exit→Act→World→Prop} {E:Prop} (hgd:o.guard=none) (s x:Operand) (t e:TypeId)
  (ho:o.op=.call { callee:=.builtin .append,args:=#[s,x],argTypes:=#[t,t] })
  (ht:P.underlying t=some (.slice e)) (hinfo:(P.info? e).map (fun i=>(i.zero,i.size,i.bytes))=some (some (.int .i64 0),1,8))
  {B:Nat} {w0:World} {v:Option Nat} {c:Nat} {xs:List Int} {F:HP} (hst:St B w0 w (star (bO e v c xs) F)) (n:Nat) (hn:xs.length=n)
  (hs:a.eval s=.slice (v.map fun b=>⟨b,0,none⟩) n c) (ad:Addr) (y:Int) (hx:a.eval x=.slice (some ad) 1 1) (hc:w.cell? ad=some (.int .i64 y)) (hb:(n+1)*8≤140737488355328)
  (h:∀ b' c' w',St B w0 w' (star (bO e (some b') c' (xs++[y])) F)→K (a.put o.dst (.slice (some ⟨b',0,none⟩) (n+1) c')) w') :
  if Region.wanted o (yielded ops a.tmps)=true then Oper.wp P o a w K Q else E:=by
 subst hn;have hw:Region.wanted o (yielded ops a.tmps)=true:=by simp[Region.wanted,hgd]
 rw[if_pos hw];obtain⟨i,hi,hzz⟩:=Option.map_eq_some_iff.1 hinfo;simp only[Prod.mk.injEq] at hzz;obtain⟨hz0,hz1,hz2⟩:=hzz
 obtain⟨b',c',w',hr,h2⟩:=lK (P:=P) w0 w B t o.type e i (.int .i64 0) 1 8 ht hi hz0 hz1 hz2 rfl (by omega) v xs.length c (ints xs) F hst ad 1 1 [.int .i64 y] rfl
  (fun j u hj=>by
   match j,hj with
   | 0,hj=>simp at hj;subst hj;simpa [Addr.add] using hc) (by simp[Value.oneCell']) (by simp only[maxLen];omega) hb (by omega)
 unfold Oper.wp execOp;simp only[iB] at hr;simp only[ho,resolve,invoke,builtin,Sem.run_bind,Sem.run_pure,Result.andThen_ok,List.map_toArray,List.map_cons,List.map_nil,hs,hx,hr];exact h b' c' w' (by unfold bO;rw[uj];simpa [ints] using h2)
end
def bJ (w w':World):Prop:=∃ n,w'=w.drewN n
theorem bJ.refl (w:World):bJ w w:=⟨0,rfl⟩
theorem bJ.step {w w':World} (h:bJ w w') (n:Nat):bJ w (w'.drewN n):=by
 obtain⟨m,rfl⟩:=h;exact⟨m+n,World.drewN_drewN ..⟩
theorem bJ.trans {w w1 w2:World} (h:bJ w w1) (k:bJ w1 w2):bJ w w2:=by
 obtain⟨n,rfl⟩:=k;exact h.step n
theorem bJ.heap {w w':World} (h:bJ w w'):w'.heap=w.heap:=by obtain⟨n,rfl⟩:=h;rfl
theorem bJ.below {w w':World} (h:bJ w w') (B:Nat):Below B w w':=by obtain⟨n,rfl⟩:=h;exact⟨rfl,rfl,rfl,Nat.le_refl _,fun _ _=>rfl⟩
theorem St.drawn {B:Nat} {w0 w w':World} {P:HP} (h:St B w0 w P) (d:bJ w w'):St B w0 w' P:=by obtain⟨n,rfl⟩:=d;exact h.drewN n
theorem Rd.drawn {w w':World} {A:Option Addr} {n:Nat} {xs:List Int} (h:Rd w A n xs) (d:bJ w w'):Rd w' A n xs:=h.heap d.heap
structure um (w:World) (A:Option Addr) (n:Nat) (xss:List (List Int)):Prop where
 len:xss.length=n
 small:n≤140737488355328
 cells:0<n→∃ b o,A=some ⟨b,o,none⟩∧∀ j,j<n→∃ Aj cj,w.cell? ⟨b,o+j,none⟩=some (.slice Aj (gl xss j).length cj)∧Rd w Aj (gl xss j).length (gl xss j)
theorem um.grow {w w':World} {A:Option Addr} {n:Nat} {xss:List (List Int)} (h:um w A n xss) (hb:Below w.heap.size w w'):um w' A n xss:=by
 refine⟨h.len,h.small,fun hn=>?_⟩;obtain⟨b,o,e,hc⟩:=h.cells hn;refine⟨b,o,e,fun j hj=>?_⟩;obtain⟨Aj,cj,hcj,hr⟩:=hc j hj;have:=World.block_lt_of_cell? w _ hcj;exact⟨Aj,cj,by rw[←hcj];exact hb.cell this,hr.grow hb⟩
theorem um.heap {w w':World} {A:Option Addr} {n:Nat} {xss:List (List Int)} (h:um w A n xss) (e:w'.heap=w.heap):um w' A n xss :=
 ⟨h.len,h.small,fun hn=>by
  obtain⟨b,o,ee,hc⟩:=h.cells hn;refine⟨b,o,ee,fun j hj=>?_⟩;obtain⟨Aj,cj,hcj,hr⟩:=hc j hj
  exact⟨Aj,cj,by rw[←hcj];simp[World.cell?,e],hr.heap e⟩⟩
end Go.Proofs.aC
namespace Go.Proofs.aC
open Go Go.RowKit
structure Fl (α:Type) where
 a:Option Nat
 c:Nat
 xs:List α
def vI (x:Int):Value:=.int .i64 x
def vN (x:Nat):Value:=.int .i64 x
def v8 (x:Int):Value:=.int .i8 x
def vL (x:Nat):Value:=.int .u32 x
def v64 (x:Nat):Value:=.int .u64 x
def vB (x:Bool):Value:=.bool x
namespace Fl
variable {α:Type}
def v (f:Fl α):Value:=.slice (f.a.map fun b=>⟨b,0,none⟩) f.xs.length f.c
def hp (f:Fl α) (e:TypeId) (enc:α→Value):HP:=sl f.a f.xs.length f.c e 1 (f.xs.map enc)
def outer (f:Fl (Fl α)) (e:TypeId):HP:=sl f.a f.xs.length f.c e 1 (f.xs.map v)
def rows (f:Fl (Fl α)) (e:TypeId) (enc:α→Value):List HP:=f.xs.map fun r=>r.hp e enc
end Fl
theorem aZ {Ps:List HP} {k:Nat} {P:HP} (h:Ps[k]?=some P):stars Ps=star P (stars (Ps.eraseIdx k)):=(dW h emp).1
section
variable {B:Nat} {w0 w:World} {Ps:List HP} {k:Nat} {P Q F:HP}
theorem St.aX (h:St B w0 w (star (stars Ps) F)) (hk:Ps[k]?=some P):St B w0 w (star P (star (stars (Ps.eraseIdx k)) F)):=h.aB (by rw[aZ hk,gJ])
theorem St.aH (h:St B w0 w (star Q (star (stars (Ps.eraseIdx k)) F))) (hk:k<Ps.length):St B w0 w (star (stars (Ps.set k Q)) F) :=
 h.aB (by rw[(dW (L:=Ps) (k:=k) (P:=Ps[k]) (by simp) Q).2,gJ])
end
theorem St.two {B:Nat} {w0 w:World} {Ps:List HP} {F P Q:HP} {i j:Nat} (h:St B w0 w (star (stars Ps) F)) (hi:Ps[i]?=some P) (hj:Ps[j]?=some Q) (hij:i≠j):∃ G,St B w0 w (star P (star Q G)):=by
 have h1:=h.aX hi;rcases Nat.lt_or_gt_of_ne hij with hlt | hlt
 ·have hj2:(Ps.eraseIdx i)[j-1]?=some Q:=by rw[List.getElem?_eraseIdx_of_ge (by omega),show j-1+1=j by omega];exact hj
  rw[aZ hj2] at h1;exact⟨_,h1.aB (show _=star P (star Q (star (stars ((Ps.eraseIdx i).eraseIdx (j-1))) F)) by ac_rfl)⟩
 ·have hj2:(Ps.eraseIdx i)[j]?=some Q:=by rw[List.getElem?_eraseIdx_of_lt (by omega)];exact hj
  rw[aZ hj2] at h1;exact⟨_,h1.aB (show _=star P (star Q (star (stars ((Ps.eraseIdx i).eraseIdx j)) F)) by ac_rfl)⟩
theorem St.SI {B:Nat} {w0 w:World} {F:HP} {b b' n c n' c' sz sz':Nat} {e e':TypeId} {xs ys:List Value} (h:St B w0 w (star (sl (some b) n c e sz xs) (star (sl (some b') n' c' e' sz' ys) F))):b≠b':=by
 obtain⟨cur,_,_,_,_,_,hp⟩:=h.sat.wG;exact hp.gW
end Go.Proofs.aC
