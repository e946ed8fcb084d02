/-
  Slices of steps: what is appended to them.
-/
import Derived.Test.YthbbmdnfkkffjaaGreatY44
import Derived.Test.YthbbmdnfkkffjaaGreatY04
import Derived.Test.YthbbmdnfkkffjaaGreatY12
import Derived.Deep.Upon
import Derived.Test.YthbbmdnfkkffjaaGreatY01
set_option maxHeartbeats 8000000
set_option maxRecDepth 100000
namespace Go.Proofs.aC
open Go Go.RowKit
section
variable {P:Program} {ops:Array Oper} {rest:List Oper} {o:Oper} {a:Act} {Q:Exit→Act→World→Prop}
theorem SE {w:World} (hgd:o.guard=none) (s x:Operand) (t e:TypeId) (z:Value) (size bytes:Nat)
  (ho:o.op=.call { callee:=.builtin .append,args:=#[s,x],argTypes:=#[t,t] })
  (ht:P.underlying t=some (.slice e)) (hinfo:(P.info? e).map (fun i=>(i.zero,i.size,i.bytes))=some (some z,size,bytes)) (hzs:z.cells.size=size)
  (A:Option Addr) (n:Nat) (olds:List Value) (hol:olds.length=n*size) (holds:∀ b,A=some b→∀ j u,olds[j]?=some u→w.cell? (b.add j)=some u) (hnone:A=none→n=0)
  (hs:a.eval s=.slice A n n) (ad:Addr) (m d:Nat) (news:List Value) (hx:a.eval x=.slice (some ad) m d) (hl:news.length=m*size) (hnews:∀ j u,news[j]?=some u→w.cell? (ad.add j)=some u)
  (hb:(n+m)*bytes≤140737488355328) (hn:n+m≤maxLen) (hm:0<m)
  (h:∀ b' c' w',St w.heap.size w w' (star (sl (some b') (n+m) c' e size (olds++news)) emp)→wpList P ops Q rest (a.put o.dst (.slice (some ⟨b',0,none⟩) (n+m) c')) w') :
  wpList P ops Q (o :: rest) a w:=by
 obtain⟨i,hi,hzz⟩:=Option.map_eq_some_iff.1 hinfo;simp only[Prod.mk.injEq] at hzz;obtain⟨hz0,rfl,rfl⟩:=hzz;refine wpList_plain hgd fun K hK=>?_;have hsmall:n+m≤9223372036854775807:=by simp only[maxLen] at hn;omega
 have hlen:(olds++news).length=(n+m)*i.size:=by rw[List.length_append,hol,hl,Nat.add_mul]
 have grown:∀ (old:Nat),old<n+m →
   St w.heap.size w (w.drew.alloc (.cells (olds.toArray++news.toArray++Builtin.zeroCells z.cells (grownCap w (n+m) old e-(n+m))) e)) (star (sl (some w.heap.size) (n+m) (grownCap w (n+m) old e) e i.size (olds++news)) emp):=by
  intro old ho;have hge:=grownCap_ge w (n+m) old e;have hcm:grownCap w (n+m) old e≤maxLen:=grownCap_le_maxLen w (n+m) old e hn;have hd:=(St.start w).drew.iC (olds.toArray++news.toArray++Builtin.zeroCells z.cells (grownCap w (n+m) old e-(n+m))) e;refine⟨hd.below,hd.base,hd.sat.pO hlen hge hcm ?_ ?_⟩
  ·simp only[Array.toList_append,List.length_append,Array.length_toList,size_zeroCells,hzs,hl,hol];rw[←Nat.add_mul,←Nat.add_mul];exact Nat.mul_le_mul_right _ (by omega)
  ·simp only[Array.toList_append];rw[←hlen];exact List.take_left
 have key:∃ c' w',(Builtin.append_ #[t,t] o.type #[.slice A n n,.slice (some ad) m d]).run P w=.ok (.slice (some ⟨w.heap.size,0,none⟩) (n+m) c') w'∧St w.heap.size w w' (star (sl (some w.heap.size) (n+m) c' e i.size (olds++news)) emp):=by
  cases A with
  | none =>
   have hn0:=hnone rfl;subst hn0;have hx0:olds=[]:=List.eq_nil_of_length_eq_zero (by simpa using hol);subst hx0;have hr:=run_append_nil (P:=P) w t o.type e i z ht hi hz0 ad m d news hl hnews hm (by omega) (by have hb:=hb;simp only[Nat.zero_add] at hb;omega);have hgr:=grown 0 (by omega);simp only[Nat.zero_add,List.nil_append,Array.empty_append] at hgr ⊢;exact⟨_,_,hr,hgr⟩
  | some b =>
   have hr:=run_append_grow (P:=P) w t o.type e i z ht hi hz0 b n n olds hol (holds b rfl) ad m d news hl hnews (by omega) (by omega) (growslice_fits (by omega) hb);exact⟨_,_,hr,grown n (by omega)⟩
 obtain⟨c',w',hr,h2⟩:=key;unfold Oper.wp execOp;simp only[ho,resolve,invoke,builtin,Sem.run_bind,Sem.run_pure,Result.andThen_ok,List.map_toArray,List.map_cons,List.map_nil,hs,hx,hr];exact hK _ _ (h _ c' w' h2)
theorem SF {w:World} (hgd:o.guard=none) (s x:Operand) (t e:TypeId)
  (ho:o.op=.call { callee:=.builtin .append,args:=#[s,x],argTypes:=#[t,t] })
  (ht:P.underlying t=some (.slice e)) (hinfo:(P.info? e).isSome=true)
  (A:Option Addr) (n c:Nat) (hnc:n≤c) (hs:a.eval s=.slice A n c) (Ax:Option Addr) (d:Nat) (hx:a.eval x=.slice Ax 0 d)
  (h:wpList P ops Q rest (a.put o.dst (.slice A n c)) w) :
  wpList P ops Q (o :: rest) a w:=by
 obtain⟨i,hi⟩:=Option.isSome_iff_exists.1 hinfo;refine wpList_plain hgd fun K hK=>?_
 have hr:(Builtin.append_ #[t,t] o.type #[.slice A n c,.slice Ax 0 d]).run P w=.ok (.slice A n c) w:=by
  cases Ax with
  | none=>exact run_append_nothing w t t o.type e i ht hi A n c hnc _ (Src.ofNil w ht d)
  | some b=>exact run_append_nothing w t t o.type e i ht hi A n c hnc _ (Src.ofSlice w ht b 0 d [] (by simp) (fun j u k=>by simp at k) (fun u k=>by cases k))
 unfold Oper.wp execOp;simp only[ho,resolve,invoke,builtin,Sem.run_bind,Sem.run_pure,Result.andThen_ok,List.map_toArray,List.map_cons,List.map_nil,hs,hx,hr];exact hK _ _ h
theorem SG {w:World} (hgd:o.guard=none) (s x:Operand) (t e:TypeId) (z:Value) (size bytes:Nat)
  (ho:o.op=.call { callee:=.builtin .append,args:=#[s,x],argTypes:=#[t,t] })
  (ht:P.underlying t=some (.slice e)) (hinfo:(P.info? e).map (fun i=>(i.zero,i.size,i.bytes))=some (some z,size,bytes)) (hzs:z.cells.size=size) (hsz:0<size)
  {B:Nat} {w0:World} {v:Option Nat} {n c:Nat} {xs:List Value} {F:HP} (hst:St B w0 w (star (sl v n c e size xs) F))
  (hs:a.eval s=.slice (v.map fun b=>⟨b,0,none⟩) n c) (ad:Addr) (m d:Nat) (news:List Value) (hx:a.eval x=.slice (some ad) m d) (hl:news.length=m*size) (hnews:∀ j u,news[j]?=some u→w.cell? (ad.add j)=some u)
  (h1:∀ u∈news,u.oneCell'=true) (hb:(n+m)*bytes≤140737488355328) (hn:n+m≤maxLen) (hm:0<m)
  (h:∀ b' c' w',St B w0 w' (star (sl (some b') (n+m) c' e size (xs++news)) F)→wpList P ops Q rest (a.put o.dst (.slice (some ⟨b',0,none⟩) (n+m) c')) w') :
  wpList P ops Q (o :: rest) a w:=by
 obtain⟨i,hi,hzz⟩:=Option.map_eq_some_iff.1 hinfo;simp only[Prod.mk.injEq] at hzz;obtain⟨hz0,hz1,hz2⟩:=hzz;refine wpList_plain hgd fun K hK=>?_;obtain⟨b',c',w',hr,h2⟩:=lK (P:=P) w0 w B t o.type e i z size bytes ht hi hz0 hz1 hz2 hzs hsz v n c xs F hst ad m d news hl hnews h1 hn hb hm;unfold Oper.wp execOp;simp only[iB] at hr;simp only[ho,resolve,invoke,builtin,Sem.run_bind,Sem.run_pure,Result.andThen_ok,List.map_toArray,List.map_cons,List.map_nil,hs,hx,hr];exact hK _ _ (h b' c' w' h2)
end
structure Ap (B:Nat) (w0 w:World) (e:TypeId) (size:Nat) (A:Option Addr) (n c:Nat) (V:List Value):Prop where
 st:St B w0 w emp
 len:V.length=n*size
 le:n≤c
 val:(n=c∧(∀ b,A=some b→∀ j u,V[j]?=some u→w.cell? (b.add j)=some u)∧(A=none→n=0))∨∃ b,A=some ⟨b,0,none⟩∧St B w0 w (star (sl (some b) n c e size V) emp)
theorem Ap.alloc {B:Nat} {w0 w:World} {e:TypeId} {size:Nat} {A:Option Addr} {n c:Nat} {V:List Value} (h:Ap B w0 w e size A n c V) (o:Obj):Ap B w0 (w.alloc o) e size A n c V:=by
 refine⟨h.st.alloc o,h.len,h.le,?_⟩;rcases h.val with ⟨h1,h2,h3⟩ | ⟨b,h1,h2⟩
 ·refine .inl ⟨h1,fun b hb j u hj=>?_,h3⟩;have:=h2 b hb j u hj;rw[←this];exact World.cell?_of_block (Below.heap_alloc w o _ (World.block_lt_of_cell? w _ this))
 ·exact .inr ⟨b,h1,h2.alloc o⟩
section
variable {P:Program} {ops:Array Oper} {rest:List Oper} {o:Oper} {a:Act} {Q:Exit→Act→World→Prop}
theorem wpList_append_any {w:World} (hgd:o.guard=none) (s x:Operand) (t e:TypeId) (z:Value) (size bytes:Nat)
  (ho:o.op=.call { callee:=.builtin .append,args:=#[s,x],argTypes:=#[t,t] })
  (ht:P.underlying t=some (.slice e)) (hinfo:(P.info? e).map (fun i=>(i.zero,i.size,i.bytes))=some (some z,size,bytes)) (hzs:z.cells.size=size) (hsz:0<size)
  {B:Nat} {w0:World} (A:Option Addr) (n c:Nat) (V:List Value) (hA:Ap B w0 w e size A n c V)
  (hs:a.eval s=.slice A n c) (Ax:Option Addr) (m d:Nat) (news:List Value) (hx:a.eval x=.slice Ax m d) (hl:news.length=m*size) (hnews:∀ b,Ax=some b→∀ j u,news[j]?=some u→w.cell? (b.add j)=some u) (hsome:Ax=none→m=0)
  (h1:∀ u∈news,u.oneCell'=true) (hb:(n+m)*bytes≤140737488355328) (hn:n+m≤maxLen)
  (h:∀ A' c' w',Ap B w0 w' e size A' (n+m) c' (V++news)→wpList P ops Q rest (a.put o.dst (.slice A' (n+m) c')) w') :
  wpList P ops Q (o :: rest) a w:=by
 by_cases hm:m=0
 ·subst hm;have hnil:news=[]:=List.eq_nil_of_length_eq_zero (by simpa using hl);subst hnil;refine SF hgd s x t e ho ht (by rw[←Option.isSome_map,hinfo];rfl) A n c hA.le hs Ax d hx ?_;have:=h A c w (by simpa using hA);simpa using this
 ·cases Ax with
  | none=>exact absurd (hsome rfl) hm
  | some ad =>
   have hlen:(V++news).length=(n+m)*size:=by rw[List.length_append,hA.len,hl,Nat.add_mul]
   have fin:∀ b' c' w',St B w0 w' (star (sl (some b') (n+m) c' e size (V++news)) emp)→wpList P ops Q rest (a.put o.dst (.slice (some ⟨b',0,none⟩) (n+m) c')) w':=fun b' c' w' k=>by
    refine h _ c' w' ⟨k.wH,hlen,(k.sat.aR).2.1,.inr ⟨b',rfl,k⟩⟩
   rcases hA.val with ⟨e1,e2,e3⟩ | ⟨b,e1,e2⟩
   ·subst e1;refine SE hgd s x t e z size bytes ho ht hinfo hzs A n V hA.len e2 e3 hs ad m d news hx hl (hnews ad rfl) hb hn (by omega) fun b' c' w' k=>fin b' c' w' ?_;have:=hA.st.nest k;simpa [aQ] using this
   ·subst e1;exact SG hgd s x t e z size bytes ho ht hinfo hzs hsz e2 hs ad m d news hx hl (hnews ad rfl) h1 hb hn (by omega) fin
end
end Go.Proofs.aC
namespace Go.Proofs.YthbbmdnfkkffjaaGreat
open Go.RowKit Go.Proofs.aC Go.Proofs.aA
open Go.Proofs.au hiding SM
structure LY (w:World) (V:List Value) (l:List Stp):Prop where
 len:V.length=l.length*2
 one:∀ u∈V,u.oneCell'=true
 cells:∀ j,j<l.length→V[j*2]?=some (.int .i64 (gs l j).1)∧∃ Aj cj,V[j*2+1]?=some (.slice Aj (gs l j).2.length cj)∧Rd w Aj (gs l j).2.length (gs l j).2
theorem LY.grow {w w':World} {V:List Value} {l:List Stp} (h:LY w V l) (hb:Below w.heap.size w w'):LY w' V l :=
 ⟨h.len,h.one,fun j hj=>by
  obtain⟨h1,Aj,cj,h2,h3⟩:=h.cells j hj
  exact⟨h1,Aj,cj,h2,h3.grow hb⟩⟩
theorem acB {l k:List Stp} {j:Nat} (h:j<l.length):gs (l++k) j=gs l j:=by simp[gs,List.getD_eq_getElem?_getD,List.getElem?_append_left h]
theorem aac {l k:List Stp} {j:Nat} (h:l.length≤j):gs (l++k) j=gs k (j-l.length):=by simp[gs,List.getD_eq_getElem?_getD,List.getElem?_append_right h]
theorem LY.append {w:World} {V U:List Value} {l k:List Stp} (h:LY w V l) (g:LY w U k):LY w (V++U) (l++k):=by
 have h0:=h.len;refine⟨by rw[List.length_append,List.length_append,h0,g.len];omega,fun u hu=>?_,fun j hj=>?_⟩
 ·rcases List.mem_append.1 hu with m | m
  ·exact h.one u m
  ·exact g.one u m
 ·rw[List.length_append] at hj
  by_cases e:j<l.length
  ·rw[acB e,List.getElem?_append_left (by omega),List.getElem?_append_left (by omega)];exact h.cells j e
  ·rw[aac (by omega),List.getElem?_append_right (by omega),List.getElem?_append_right (by omega),h0];have:=g.cells (j-l.length) (by omega);rw[show (j-l.length)*2=j*2-l.length*2 by omega] at this;rw[show j*2+1-l.length*2=j*2-l.length*2+1 by omega];exact this
theorem LY.nil (w:World):LY w [] []:=⟨rfl,fun u h=>(by cases h),fun j h=>(by cases h)⟩
theorem LY.one' {w:World} {A:Option Addr} {n c:Nat} {x:Int} {xs:List Int} (h:Rd w A n xs):LY w [.int .i64 x,.slice A n c] [(x,xs)]:=by
 have hl:=h.len;subst hl;refine⟨rfl,fun u hu=>?_,fun j hj=>?_⟩
 ·rcases List.mem_cons.1 hu with rfl | hu
  ·rfl
  ·rw[List.mem_singleton] at hu;subst hu;rfl
 ·obtain rfl:j=0:=by simp at hj;omega
  exact⟨rfl,A,c,rfl,h⟩
theorem Uh.stV {w:World} {A:Option Addr} {n:Nat} {l:List Stp} (h:Uh w A n l):∃ V,LY w V l∧∀ b,A=some b→∀ j u,V[j]?=some u→w.cell? (b.add j)=some u:=by
 by_cases hn:0<n
 ·obtain⟨b,o,e,hc⟩:=h.cells hn
  have key:∀ k,k≤n→∃ V,LY w V (l.take k)∧∀ j u,V[j]?=some u→w.cell? ⟨b,o+j,none⟩=some u:=fun k=>by
   induction k with
   | zero=>exact fun _=>⟨[],by rw[List.take_zero];exact LY.nil w,fun j u k=>by simp at k⟩
   | succ k ih =>
    intro hk;obtain⟨V,h1,h2⟩:=ih (by omega);obtain⟨c1,Aj,cj,c2,c3⟩:=hc k (by omega);have hll:=h.len
    have e2:l.take (k+1)=l.take k++[((gs l k).1,(gs l k).2)]:=by
     rw[List.take_succ_eq_append_getElem (by omega),J8 _ _ (by omega)]
    refine⟨V++[.int .i64 (gs l k).1,.slice Aj (gs l k).2.length cj],by rw[e2];exact h1.append (LY.one' c3),fun j u hj=>?_⟩;have hVl:V.length=k*2:=by rw[h1.len,List.length_take];omega
    by_cases e3:j<V.length
    ·rw[List.getElem?_append_left e3] at hj;exact h2 j u hj
    ·rw[List.getElem?_append_right (by omega)] at hj
     have:j-V.length=0∨j-V.length=1:=by
      have:=(List.getElem?_eq_some_iff.1 hj).1;simp at this;omega
     rcases this with q | q
     ·rw[q] at hj;simp only[List.getElem?_cons_zero,Option.some.injEq] at hj;rw[←hj,show j=k*2 by omega];exact c1
     ·rw[q] at hj;simp only[List.getElem?_cons_succ,List.getElem?_cons_zero,Option.some.injEq] at hj;rw[←hj,show j=k*2+1 by omega,←Nat.add_assoc];exact c2
  obtain⟨V,h1,h2⟩:=key n (Nat.le_refl _);rw[←h.len,List.take_length] at h1;refine⟨V,h1,fun b' hb' j u hj=>?_⟩;rw[e] at hb';simp only[Option.some.injEq] at hb';subst hb';rw[Addr.add_lit];exact h2 j u hj
 ·have hl:=h.len;have:l=[]:=List.eq_nil_of_length_eq_zero (by omega);subst this;exact⟨[],LY.nil w,fun b _ j u hj=>by simp at hj⟩
theorem LY.rdS {B:Nat} {w0 w:World} {b n c:Nat} {t:TypeId} {V:List Value} {l:List Stp} {F:HP} (h:St B w0 w (star (sl (some b) n c t 2 V) F)) (g:LY w V l) (hn:l.length=n) (hs:n≤140737488355328):Uh w (some ⟨b,0,none⟩) n l:=by
 refine⟨hn,hs,fun _=>⟨b,0,rfl,fun j hj=>?_⟩⟩;have hl:=g.len;obtain⟨h1,Aj,cj,h2,h3⟩:=g.cells j (by omega);refine⟨?_,Aj,cj,?_,h3⟩
 ·rw[Nat.zero_add,St.aW (h:=h) (j*2) (by omega)];exact h1
 ·rw[Nat.zero_add,St.aW (h:=h) (j*2+1) (by omega)];exact h2
theorem Ap.rdS {B:Nat} {w0 w:World} {A:Option Addr} {n c:Nat} {t:TypeId} {V:List Value} {l:List Stp} (h:Ap B w0 w t 2 A n c V) (g:LY w V l) (hs:n≤140737488355328):Uh w A n l:=by
 have hl:=g.len;have hl2:=h.len;rcases h.val with ⟨_,h1,h2⟩ | ⟨b,rfl,h1⟩
 ·refine⟨by omega,hs,fun hp=>?_⟩
  cases A with
  | none=>have:=h2 rfl;omega
  | some ad =>
   have key:ad=⟨ad.block,ad.off,none⟩:=by
    obtain⟨g1,_⟩:=g.cells 0 (by omega);have h00:=h1 ad rfl (0*2) _ g1;exact Ka (by simpa [Addr.add] using h00)
   refine⟨ad.block,ad.off,by rw[←key],fun j hj=>?_⟩;obtain⟨g1,Aj,cj,g2,g3⟩:=g.cells j (by omega);have k1:=h1 ad rfl _ _ g1;have k2:=h1 ad rfl _ _ g2;rw[key,Addr.add_lit] at k1 k2;exact⟨k1,Aj,cj,by rw[Nat.add_assoc];exact k2,g3⟩
 ·exact g.rdS h1 (by omega) hs
theorem cell_newA (w:World) (cs:List Value) (e:TypeId):∀ b,some (⟨w.heap.size,0,none⟩:Addr)=some b→∀ j u,cs[j]?=some u→(w.alloc (.cells cs.toArray e)).cell? (b.add j)=some u:=fun b hb j u hj=>by
 simp only[Option.some.injEq] at hb;subst hb;rw[Addr.add_lit,Nat.zero_add];exact UM w cs e j u hj
theorem Uh.ap {w:World} {A:Option Addr} {n:Nat} {l:List Stp} (t:TypeId) (h:Uh w A n l):∃ V,LY w V l∧Ap w.heap.size w w t 2 A n n V:=by
 obtain⟨V,h1,h2⟩:=h.stV;refine⟨V,h1,St.start w,by rw[h1.len,h.len],Nat.le_refl _,.inl ⟨rfl,h2,fun hn=>?_⟩⟩;apply Classical.byContradiction;intro hp;obtain⟨b,o,e,_⟩:=h.cells (by omega);rw[e] at hn;cases hn
end Go.Proofs.YthbbmdnfkkffjaaGreat
