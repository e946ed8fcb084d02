/-
  Parts of the proof, joined by program: Keep, Spread, Grow0, Hp1, Hp2.
-/
import Derived.Test.YthbbmdnfkkffjaaGreatZ02
import Derived.Test.YthbbmdnfkkffjaaGreatZ04
import Derived.Test.YthbbmdnfkkffjaaGreatZ03
import Derived.Test.YthbbmdnfkkffjaaGreatRows
import Derived.WalkSpells
import Derived.WalkLawsBesides
import Derived.Deep.LoopGhost
import Derived.Deep.QuietTactic
import Derived.BigQuiet
import Derived.BigRegion
import Derived.Lib.Hide
namespace Go.Proofs.PlaitSep
open Go Go.RowKit Go.Proofs.PlaitPure
theorem zeroCells_q {z:Array Value} {n:Nat} {q:Value→Prop} (h:∀ u∈z,q u):∀ u∈Builtin.zeroCells z n,q u:=by
 intro u hu
 unfold Builtin.zeroCells at hu
 obtain⟨i,hi,rfl⟩:=Array.mem_map.1 hu
 rw[Array.mem_range] at hi
 have hz:0<z.size:=by
  apply Nat.pos_of_ne_zero
  intro e
  rw[e] at hi
  omega
 have hlt:=Nat.mod_lt i hz
 rw[getElem!_pos z _ hlt]
 exact h _ (Array.getElem_mem hlt)
theorem alloc_q {w:World} {cs:Array Value} {e:TypeId} {q:Value→Prop} (h:∀ u∈cs,q u):∀ i v,(w.alloc (.cells cs e)).cell? ⟨w.heap.size,i,none⟩=some v→q v:=by
 intro i v hv
 unfold World.cell? at hv
 rw[heap_alloc_new] at hv
 simp only[Option.isSome_none,Bool.false_eq_true,if_false] at hv
 obtain⟨hi,rfl⟩:=Array.getElem?_eq_some_iff.1 hv
 exact h _ (Array.getElem_mem hi)
section
variable {P:Program}
theorem run_append_slk (w0 w:World) (B:Nat) (t ty e:TypeId) (i:TypeInfo) (z:Value) (size bytes:Nat) (ht:P.underlying t=some (.slice e)) (hi:P.info? e=some i) (hz:i.zero=some z)
  (hsize:i.size=size) (hby:i.bytes=bytes) (hzs:z.cells.size=size) (hsz:0<size)
  (a:Option Nat) (n c:Nat) (xs:List Value) (F:HP) (hst:St B w0 w (star (sl a n c e size xs) F))
  (ad:Addr) (m d:Nat) (news:List Value) (hl:news.length=m*size) (hnews:∀ j u,news[j]?=some u→w.cell? (ad.add j)=some u) (h1:∀ u∈news,u.oneCell'=true)
  (h63:n+m≤maxLen) (hbytes:(n+m)*bytes≤140737488355328) (hm:0<m) :
  ∃ b' c' w',(Builtin.append_ #[t,t] ty #[slv a n c,.slice (some ad) m d]).run P w=.ok (slv (some b') (n+m) c') w'∧St B w0 w' (star (sl (some b') (n+m) c' e size (xs++news)) F)∧(∀ k,k<w.heap.size→a≠some k→w'.heap[k]?=w.heap[k]?) ∧
   (∀ q:Value→Prop,(∀ u∈xs,q u)→(∀ u∈news,q u)→(∀ u∈z.cells,q u)→(∀ b i v,a=some b→w.cell? ⟨b,i,none⟩=some v→q v)→∀ i v,w'.cell? ⟨b',i,none⟩=some v→q v):=by
 subst hsize
 subst hby
 have hsmall:n+m≤9223372036854775807:=by simp only[maxLen] at h63;omega
 obtain⟨hx,hnc,hcm,hnone,hsome⟩:=hst.sat.sl_facts
 have hlen:(xs++news).length=(n+m)*i.size:=by rw[List.length_append,hx,hl,Nat.add_mul]
 have grown:∀ (old:Nat),old<n+m →
   St B w0 (w.drew.alloc (.cells (xs.toArray++news.toArray++Builtin.zeroCells z.cells (grownCap w (n+m) old e-(n+m))) e)) (star (sl (some w.heap.size) (n+m) (grownCap w (n+m) old e) e i.size (xs++news)) F):=by
  intro old ho
  have hge:=grownCap_ge w (n+m) old e
  have hcm:grownCap w (n+m) old e≤maxLen:=grownCap_le_maxLen w (n+m) old e h63
  have hd:=hst.dropl.drew.pt_new (xs.toArray++news.toArray++Builtin.zeroCells z.cells (grownCap w (n+m) old e-(n+m))) e
  refine⟨hd.below,hd.base,hd.sat.pt_sl hlen hge hcm ?_ ?_⟩
  ·simp only[Array.toList_append,List.length_append,Array.length_toList,size_zeroCells,hzs,hl,hx]
   rw[←Nat.add_mul,←Nat.add_mul]
   exact Nat.mul_le_mul_right _ (by omega)
  ·simp only[Array.toList_append]
   rw[←hlen]
   exact List.take_left
 cases a with
 | none =>
  obtain⟨rfl,rfl⟩:=hnone rfl
  have hx0:xs=[]:=List.eq_nil_of_length_eq_zero (by simpa using hx)
  subst hx0
  have hr:=run_append_nil (P:=P) w t ty e i z ht hi hz ad m d news hl hnews hm (by omega) (by have hb:=hbytes;simp only[Nat.zero_add] at hb;omega)
  have hgr:=grown 0 (by omega)
  simp only[Nat.zero_add,List.nil_append,Array.empty_append] at hgr ⊢
  refine⟨_,_,_,hr,hgr,fun k hk _=>heap_alloc_old _ _ hk,fun q _ hq1 hq2 _=>alloc_q (w:=w.drew) fun u hu=>?_⟩
  rcases Array.mem_append.1 hu with hu | hu
  ·exact hq1 u (by simpa using hu)
  ·exact zeroCells_q (fun u hu=>hq2 u hu) u hu
 | some b =>
  obtain⟨cur,_,_,_,hcur,htake,hp⟩:=hst.sat.sl_pt
  by_cases hroom:n+m≤c
  ·have hfit:n*i.size+news.length≤cur.toArray.size:=by
    rw[hl,←Nat.add_mul,List.size_toArray]
    exact Nat.le_trans (Nat.mul_le_mul_right _ hroom) hcur
   have hr:=run_append_room (P:=P) w t ty e i ht hi b n c cur.toArray (Sat.one hp).1 ad m d news hl hnews h1 hroom hfit
   refine⟨_,_,_,hr,⟨?_,?_,?_⟩,fun k _ hne=>setRow_other w b k _ (fun e=>hne (by rw[e])),fun q _ hq1 _ hq3 i v hv=>?_⟩
   ·exact hst.below.trans ⟨rfl,rfl,rfl,by simp,fun k hk=>setRow_other w b k _ (fun e=>by have:=hst.sl_base;omega)⟩
   ·simpa using hst.base
   ·refine Sat.pt_sl (cur:=(cur.toArray.toList.take (n*i.size)++news++cur.toArray.toList.drop (n*i.size+news.length))) (Sat.put hp (setRow_heap w b _ _ e _ (Sat.one hp).1) fun k hk _=>setRow_other w b k _ hk) hlen hroom hcm ?_ ?_
    ·have:=hcur
     simp only[List.length_append,List.length_take,List.length_drop]
     simp only[List.size_toArray] at hfit
     omega
    ·simp only[htake]
     rw[←hlen]
     exact List.take_left
   ·have hb0:=(Sat.one hp).1
    have hcur3:∀ u∈cur,q u:=fun u hu=>by
     obtain⟨j,hj,rfl⟩:=List.getElem_of_mem hu
     refine hq3 b j _ rfl ?_
     unfold World.cell?
     rw[hb0]
     simp[hj]
    unfold World.cell? at hv
    rw[setRow_heap w b _ _ e _ hb0] at hv
    simp only[Option.isSome_none,Bool.false_eq_true,if_false,List.getElem?_toArray] at hv
    have hm:=List.mem_of_getElem? hv
    rcases List.mem_append.1 hm with hm | hm
    ·rcases List.mem_append.1 hm with hm | hm
     ·exact hcur3 v (by simpa using List.mem_of_mem_take hm)
     ·exact hq1 v hm
    ·exact hcur3 v (by simpa using List.mem_of_mem_drop hm)
  ·have holds:∀ j u,xs[j]?=some u→w.cell? ((⟨b,0,none⟩:Addr).add j)=some u:=by
    intro j u hj
    have hadd:(⟨b,0,none⟩:Addr).add j=⟨b,j,none⟩:=by unfold Addr.add;split <;> simp_all
    rw[hadd,hst.sl_cell j (List.getElem?_eq_some_iff.1 hj).1]
    exact hj
   have hr:=run_append_grow (P:=P) w t ty e i z ht hi hz ⟨b,0,none⟩ n c xs hx holds ad m d news hl hnews (by omega) (by omega) (growslice_fits (by omega) hbytes)
   refine⟨_,_,_,hr,grown c (by omega),fun k hk _=>heap_alloc_old _ _ hk,fun q hq0 hq1 hq2 _=>alloc_q (w:=w.drew) fun u hu=>?_⟩
   rcases Array.mem_append.1 hu with hu | hu
   ·rcases Array.mem_append.1 hu with hu | hu
    ·exact hq0 u (by simpa using hu)
    ·exact hq1 u (by simpa using hu)
   ·exact zeroCells_q (fun u hu=>hq2 u hu) u hu
variable {ops:Array Oper} {rest:List Oper} {o:Oper} {a:Act} {Q:Exit→Act→World→Prop}
theorem wpList_append1k {w:World} (hgd:o.guard=none) (s x:Operand) (t e:TypeId) (z:Value) (bytes:Nat)
  (ho:o.op=.call { callee:=.builtin .append,args:=#[s,x],argTypes:=#[t,t] })
  (ht:P.underlying t=some (.slice e)) (hinfo:(P.info? e).map (fun i=>(i.zero,i.size,i.bytes))=some (some z,1,bytes)) (hzs:z.cells.size=1)
  {B:Nat} {w0:World} {v:Option Nat} {n c:Nat} {xs:List Value} {F:HP} (hst:St B w0 w (star (sl v n c e 1 xs) F))
  (hs:a.eval s=.slice (v.map fun b=>⟨b,0,none⟩) n c) (y:Value) (hx:a.eval x=.slice (some ⟨w.heap.size,0,none⟩) 1 1) (h1:y.oneCell'=true) (hb:(n+1)*bytes≤140737488355328) (hn:n+1≤maxLen)
  (h:∀ b' c' w',St B w0 w' (star (sl (some b') (n+1) c' e 1 (xs++[y])) F)→(∀ k,k<w.heap.size→v≠some k→w'.heap[k]?=w.heap[k]?) →
   (∀ q:Value→Prop,(∀ u∈xs,q u)→q y→(∀ u∈z.cells,q u)→(∀ b i u,v=some b→w.cell? ⟨b,i,none⟩=some u→q u)→∀ i u,w'.cell? ⟨b',i,none⟩=some u→q u)→wpList P ops Q rest (a.put o.dst (.slice (some ⟨b',0,none⟩) (n+1) c')) w') :
  wpList P ops Q (o :: rest) a (w.alloc (.cells #[y] e)):=by
 obtain⟨i,hi,hzz⟩:=Option.map_eq_some_iff.1 hinfo
 simp only[Prod.mk.injEq] at hzz
 obtain⟨hz0,hz1,hz2⟩:=hzz
 refine wpList_plain hgd fun K hK=>?_
 obtain⟨b',c',w',hr,h2,h3,h4⟩:=run_append_slk (P:=P) w0 (w.alloc (.cells #[y] e)) B t o.type e i z 1 bytes ht hi hz0 hz1 hz2 hzs (by omega) v n c xs F (hst.alloc _) ⟨w.heap.size,0,none⟩ 1 1 [y] rfl (cell_one_new _ _ _) (by simpa using h1) hn hb (by omega)
 unfold Oper.wp execOp
 simp only[slv] at hr
 simp only[ho,resolve,invoke,builtin,Sem.run_bind,Sem.run_pure,Result.andThen_ok,List.map_toArray,List.map_cons,List.map_nil,hs,hx,hr]
 refine hK _ _ (h b' c' w' h2 (fun k hk hne=>(h3 k (by simp;omega) hne).trans (heap_alloc_old _ _ hk)) fun q q0 q1 q2 q3=>h4 q q0 (by simpa using q1) q2 fun b i u hb hu=>?_)
 subst hb
 refine q3 b i u rfl ?_
 obtain⟨cur,_,_,_,_,_,hp⟩:=hst.sat.sl_pt
 rw[←hu]
 unfold World.cell?
 rw[heap_alloc_old _ _ (Array.getElem?_eq_some_iff.1 (Sat.one hp).1).1]
end
theorem Rd.keep {w w':World} {A:Option Addr} {n:Nat} {xs:List Int} (h:Rd w A n xs) (hk:∀ b o,A=some ⟨b,o,none⟩→0<n→w'.heap[b]?=w.heap[b]?):Rd w' A n xs:=by
 refine⟨h.len,h.small,fun hp=>?_⟩
 obtain⟨b,o,e,hc⟩:=h.cells hp
 refine⟨b,o,e,fun j hj=>?_⟩
 rw[←hc j hj]
 unfold World.cell?
 rw[hk b o e hp]
def NoInt (w:World) (b:Nat):Prop:=∀ i v,w.cell? ⟨b,i,none⟩=some v→∀ x,v≠.int .i64 x
theorem Rd.ne {w:World} {A:Option Addr} {n:Nat} {xs:List Int} {b:Nat} (h:Rd w A n xs) (hb:NoInt w b):∀ b' o,A=some ⟨b',o,none⟩→0<n→b'≠b:=by
 intro b' o e hp hbb
 subst hbb
 obtain⟨b2,o2,e2,hc⟩:=h.cells hp
 rw[e] at e2
 obtain⟨rfl,rfl⟩:b'=b2∧o=o2:=by simpa using e2
 exact hb _ _ (hc 0 hp) _ rfl
theorem Rd.lt {w:World} {A:Option Addr} {n:Nat} {xs:List Int} (h:Rd w A n xs):∀ b o,A=some ⟨b,o,none⟩→0<n→b<w.heap.size:=by
 intro b o e hp
 obtain⟨b2,o2,e2,hc⟩:=h.cells hp
 rw[e] at e2
 obtain⟨rfl,rfl⟩:b=b2∧o=o2:=by simpa using e2
 exact World.block_lt_of_cell? w _ (hc 0 hp)
end Go.Proofs.PlaitSep
namespace Go.Proofs.PlaitSep
open Go Go.RowKit Go.Proofs.PlaitPure
section
variable {P:Program} {ops:Array Oper} {rest:List Oper} {o:Oper} {a:Act} {Q:Exit→Act→World→Prop}
theorem wpList_append_spread {w:World} (hgd:o.guard=none) (s x:Operand) (t e:TypeId) (z:Value) (bytes:Nat)
  (ho:o.op=.call { callee:=.builtin .append,args:=#[s,x],argTypes:=#[t,t] })
  (ht:P.underlying t=some (.slice e)) (hinfo:(P.info? e).map (fun i=>(i.zero,i.size,i.bytes))=some (some z,1,bytes)) (hzs:z.cells.size=1)
  {B:Nat} {w0:World} {v:Option Nat} {n c:Nat} {xs:List Value} {F:HP} (hst:St B w0 w (star (sl v n c e 1 xs) F))
  (hs:a.eval s=.slice (v.map fun b=>⟨b,0,none⟩) n c) (ad:Addr) (m d:Nat) (news:List Value) (hx:a.eval x=.slice (some ad) m d) (hl:news.length=m) (hnews:∀ j u,news[j]?=some u→w.cell? (ad.add j)=some u)
  (h1:∀ u∈news,u.oneCell'=true) (hb:(n+m)*bytes≤140737488355328) (hn:n+m≤maxLen) (hm:0<m)
  (h:∀ b' c' w',St B w0 w' (star (sl (some b') (n+m) c' e 1 (xs++news)) F)→(∀ k,k<w.heap.size→v≠some k→w'.heap[k]?=w.heap[k]?) →
   (∀ q:Value→Prop,(∀ u∈xs,q u)→(∀ u∈news,q u)→(∀ u∈z.cells,q u)→(∀ b i u,v=some b→w.cell? ⟨b,i,none⟩=some u→q u)→∀ i u,w'.cell? ⟨b',i,none⟩=some u→q u) →
   wpList P ops Q rest (a.put o.dst (.slice (some ⟨b',0,none⟩) (n+m) c')) w') :
  wpList P ops Q (o :: rest) a w:=by
 obtain⟨i,hi,hzz⟩:=Option.map_eq_some_iff.1 hinfo
 simp only[Prod.mk.injEq] at hzz
 obtain⟨hz0,hz1,hz2⟩:=hzz
 refine wpList_plain hgd fun K hK=>?_
 obtain⟨b',c',w',hr,h2,h3,h4⟩:=run_append_slk (P:=P) w0 w B t o.type e i z 1 bytes ht hi hz0 hz1 hz2 hzs (by omega) v n c xs F hst ad m d news (by omega) hnews h1 hn hb hm
 unfold Oper.wp execOp
 simp only[slv] at hr
 simp only[ho,resolve,invoke,builtin,Sem.run_bind,Sem.run_pure,Result.andThen_ok,List.map_toArray,List.map_cons,List.map_nil,hs,hx,hr]
 exact hK _ _ (h b' c' w' h2 h3 h4)
end
end Go.Proofs.PlaitSep
namespace Go.Proofs.YthbbmdnfkkffjaaGreat
open Go.RowKit Go.Proofs.PlaitSep Go.Proofs.PlaitPure Go.Proofs.PlaitSat
theorem sl_empty (e:TypeId) (sz:Nat):sl none 0 0 e sz []=emp:=by
 funext h
 apply propext
 exact⟨fun k=>k.2.2.2,fun k=>⟨by simp,rfl,rfl,k⟩⟩
section
variable {B:Nat} {w0 w:World} {p:Nat} {M:MM} {F:HP}
theorem At.push_nils {b' n c':Nat} (hl:M.last.xs=[]→M.last.a=none) (hn:M.watches.xs.length=n) (h:St B w0 w (star (sl (some b') (n+2) c' 27 1 (M.watches.xs.map Fl.v++[.slice none 0 0,.slice none 0 0])) (star (stars ((parts p M).eraseIdx 19)) F))) :
  (w.cell? ⟨p,6,none⟩=some (.slice (M.watches.a.map fun b=>⟨b,0,none⟩) n M.watches.c)∧w.frozen? ⟨p,6,none⟩=false)∧At B w0 (w.setCell ⟨p,6,none⟩ (.slice (some ⟨b',0,none⟩) (n+2) c')) p (M.u_watches ⟨some b',c',M.watches.xs++[⟨none,0,[]⟩,⟨none,0,[]⟩]⟩) F:=by
 subst hn
 obtain⟨X,hX⟩:∃ X,sl (some b') (M.watches.xs.length+2) c' 27 1 (M.watches.xs.map Fl.v++[.slice none 0 0,.slice none 0 0])=X:=⟨_,rfl⟩
 obtain⟨V,hV⟩:∃ V,Value.slice (some ⟨b',0,none⟩) (M.watches.xs.length+2) c'=V:=⟨_,rfl⟩
 rw[hX] at h
 rw[hV]
 have h2:=h.unfocusK (Ps:=parts p M) (k:=19) (by simp[parts])
 have h3:=h2.focusK (Ps:=(parts p M).set 19 X) (k:=0) (P:=pt p 92 (cellsM M)) rfl
 refine⟨⟨h3.pt_cell 6,h3.pt_free 6⟩,?_⟩
 have h4:=h3.pt_set 6 V
 have h5:=h4.unfocusK (Ps:=(parts p M).set 19 X) (k:=0) (by simp[parts])
 refine⟨h5.conseq ?_,hl⟩
 rw[←hX,←hV]
 have e1:(Fl.mk (some b') c' (M.watches.xs++[⟨none,0,[]⟩,⟨none,0,[]⟩])).rows 3 vN=M.watches.rows 3 vN++[emp,emp]:=by simp[Fl.rows,Fl.hp,sl_empty]
 have e2:stars (M.watches.rows 3 vN++[emp,emp])=stars (M.watches.rows 3 vN):=by
  rw[stars_append,show stars [emp,emp]=emp by simp[stars_cons,stars_nil,star_emp],star_emp]
 simp only[e1,e2,parts,cellsM,Fl.hp,Fl.v,Fl.outer,List.map_append,List.map_cons,List.map_nil,List.length_append,List.length_cons,List.length_nil,List.set_cons_succ,List.set_cons_zero,Option.map_some,Option.map_none]
end
end Go.Proofs.YthbbmdnfkkffjaaGreat
namespace Go.Proofs.YthbbmdnfkkffjaaGreat
open Go.RowKit Go.Proofs.PlaitSep Go.Proofs.PlaitPure Go.Proofs.PlaitSat
theorem At.ne2 {B:Nat} {w0 w:World} {p:Nat} {M:MM} {F:HP} (h:At B w0 w p M F) {i j:Nat} {a a':Option Nat} {b b' n c n' c' sz sz':Nat} {e e':TypeId} {xs ys:List Value}
  (hi:(parts p M)[i]?=some (sl a n c e sz xs)) (hj:(parts p M)[j]?=some (sl a' n' c' e' sz' ys)) (hij:i≠j) (ha:a=some b) (ha':a'=some b'):b≠b':=by
 subst ha ha'
 obtain⟨G,hG⟩:=h.st.two hi hj hij
 exact hG.sl_ne
structure HB (S:SM):Prop where
 small:S.value.length≤100000
 vars:∀ x∈S.hl,x<S.value.length
 place:S.place.length=S.value.length
 met:S.met.length=S.value.length
 hl:S.hl.length≤S.value.length
def HeapAt (B:Nat) (w0 w:World) (p:Nat) (M:MM) (F:HP) (S:SM):Prop :=
 ∃ a b c,At B w0 w p (M.u_heap a b c) F∧MM.sv (M.u_heap a b c)=S
section
variable {B:Nat} {w0 w:World} {p:Nat} {M:MM} {F:HP}
set_option maxRecDepth 100000 in
set_option maxHeartbeats 2000000 in
theorem lay_any (i v:Nat) (h:At B w0 w p M F) (hi:i<M.hl.xs.length) (hv:v<M.place.xs.length) (hs:M.hl.xs.length≤1000000) (hs2:M.place.xs.length≤1000000) :
  Calls Tryz.prog 106 #[.pointer (some ⟨p,15,none⟩),.int .i64 i,.int .i64 v] w fun e w'=>e=.returned (.tuple #[])∧∃ a b,At B w0 w' p (M.u_lay a b) F∧MM.sv (M.u_lay a b)=M.sv.lay i v:=by
 obtain⟨bh,hbh⟩:=h.b_hl (by omega)
 obtain⟨bp,hbp⟩:=h.b_place (by omega)
 obtain⟨x,hx⟩:∃ x,M.hl.xs[i]?=some x:=⟨M.hl.xs[i],by simp[hi]⟩
 obtain⟨y,hy⟩:∃ y,M.place.xs[v]?=some y:=⟨M.place.xs[v],by simp[hv]⟩
 obtain⟨d1,d2⟩:=h.r_hl hbh hx
 obtain⟨d3,d4⟩:=h.r_place hbp hy
 have c1:=h.c_hl
 have c2:=h.c_place
 rw[hbh] at c1
 rw[hbp] at c2
 simp only[Option.map_some,vN] at c1 c2 d1 d3
 have n1:¬ bh=bp:=h.ne2 (i:=8) (j:=9) rfl rfl (by decide) hbh hbp
 have n2:¬ bp=bh:=fun e=>n1 e.symm
 have n3:¬ bh=p:=h.n_hl hbh
 have n4:¬ bp=p:=h.n_place hbp
 obtain⟨ln,hln⟩:∃ ln,M.hl.xs.length=ln:=⟨_,rfl⟩
 obtain⟨lp,hlp⟩:∃ lp,M.place.xs.length=lp:=⟨_,rfl⟩
 rw[hln] at c1 hi hs
 rw[hlp] at c2 hv hs2
 have H:=Lib.hid h
 have HLN:=Lib.hid hln
 have HLP:=Lib.hid hlp
 have HBH:=Lib.hid hbh
 have HBP:=Lib.hid hbp
 have i0:(0:Int)≤(i:Int):=by omega
 have i1:(i:Int)<(ln:Int):=by omega
 have v0:(0:Int)≤(v:Int):=by omega
 have v1:(v:Int)<(lp:Int):=by omega
 clear h hx hy hln hlp hbh hbp
 go_enter Tryz.func106,Tryz.ntmps106
 go_wp2
 go_region
 go_end0
 have h1:=(H.out.set_hl HBH.out (by rw[HLN.out];omega) v).set_place (M:=M.u_hl ⟨M.hl.a,M.hl.c,M.hl.xs.set i v⟩) HBP.out (by show v<M.place.xs.length;rw[HLP.out];omega) (i+1)
 exact⟨rfl,_,_,h1.drewN 1,rfl⟩
set_option maxRecDepth 100000 in
set_option maxHeartbeats 2000000 in
theorem ahead_any (a b:Nat) (h:At B w0 w p M F) (ha:a<M.met.xs.length) (hb:b<M.met.xs.length) (hs:M.met.xs.length≤1000000) :
  Calls Tryz.prog 114 #[.pointer (some ⟨p,15,none⟩),.int .i64 a,.int .i64 b] w fun e w'=>e=.returned (.bool (M.sv.ahead a b))∧Drawn w w':=by
 obtain⟨bm,hbm⟩:=h.b_met (by omega)
 obtain⟨d1,_⟩:=h.r_met hbm (gn_some M.met.xs a ha)
 obtain⟨d2,_⟩:=h.r_met hbm (gn_some M.met.xs b hb)
 have c1:=h.c_met
 rw[hbm] at c1
 simp only[Option.map_some,v64] at c1 d1 d2
 obtain⟨ln,hln⟩:∃ ln,M.met.xs.length=ln:=⟨_,rfl⟩
 rw[hln] at c1 ha hb hs
 have hA:M.sv.ahead a b=(decide (gn M.met.xs b<gn M.met.xs a)||(gn M.met.xs a==gn M.met.xs b&&decide (a<b))):=rfl
 obtain⟨x,hx⟩:∃ x,gn M.met.xs a=x:=⟨_,rfl⟩
 obtain⟨y,hy⟩:∃ y,gn M.met.xs b=y:=⟨_,rfl⟩
 rw[hx,hy] at hA
 rw[hx] at d1
 rw[hy] at d2
 have HA:=Lib.hid hA
 have i0:(0:Int)≤(a:Int):=by omega
 have i1:(a:Int)<(ln:Int):=by omega
 have v0:(0:Int)≤(b:Int):=by omega
 have v1:(b:Int)<(ln:Int):=by omega
 clear h hln hbm hA hx hy
 by_cases g1:y<x
 ·have e1:decide ((y:Int)<(x:Int))=true:=by simpa using g1
  go_enter Tryz.func114,Tryz.ntmps114
  go_wp2
  go_quiet (fail)
  go_wp2
  go_ret
  exact⟨by rw[HA.out];simp[g1],⟨_,rfl⟩⟩
 ·have e1:decide ((y:Int)<(x:Int))=false:=by simp;omega
  by_cases g2:x=y
  ·subst g2
   have e2:((x:Int)==(x:Int))=true:=by simp
   by_cases g3:a<b
   ·have e3:decide ((a:Int)<(b:Int))=true:=by simpa using g3
    go_enter Tryz.func114,Tryz.ntmps114
    go_wp2
    go_quiet (fail)
    go_wp2
    go_ret
    exact⟨by rw[HA.out];simp[g3],⟨_,rfl⟩⟩
   ·have e3:decide ((a:Int)<(b:Int))=false:=by simp;omega
    go_enter Tryz.func114,Tryz.ntmps114
    go_wp2
    go_quiet (fail)
    go_wp2
    go_ret
    exact⟨by rw[HA.out];simp[g3],⟨_,rfl⟩⟩
  ·have e2:((x:Int)==(y:Int))=false:=by simp;omega
   go_enter Tryz.func114,Tryz.ntmps114
   go_wp2
   go_quiet (fail)
   go_wp2
   go_ret
   exact⟨by rw[HA.out];simp[g1,g2],⟨_,rfl⟩⟩
theorem ahead_q (a b:Nat) (h:At B w0 w p M F) (ha:a<M.met.xs.length) (hb:b<M.met.xs.length) (hs:M.met.xs.length≤1000000) (r:Bool) (hr:M.sv.ahead a b=r) (t:Nat) :
  Calls Tryz.prog 114 #[.pointer (some ⟨p,15,none⟩),.int .i64 a,.int .i64 b] (w.drewN t) fun e w'=>e=.returned (.bool r)∧∃ m,w'=w.drewN m:=by
 refine (ahead_any a b (h.drewN t) ha hb hs).mono ?_
 rintro e w' ⟨rfl,m,rfl⟩
 rw[hr]
 exact⟨rfl,t+m,World.drewN_drewN ..⟩
end
end Go.Proofs.YthbbmdnfkkffjaaGreat
namespace Go.Proofs.YthbbmdnfkkffjaaGreat
open Go.RowKit Go.Proofs.PlaitSep Go.Proofs.PlaitPure Go.Proofs.PlaitSat
section
variable {B:Nat} {w0 w:World} {p:Nat} {M:MM} {F:HP}
theorem vars_set {l:List Nat} {n i v:Nat} (h:∀ x∈l,x<n) (hv:v<n):∀ x∈l.set i v,x<n:=fun x hx=>by
 rcases List.mem_or_eq_of_mem_set hx with h1 | rfl
 ·exact h x h1
 ·exact hv
theorem upGo_stop {f:Nat} {S:SM} {v i:Nat} (h:(decide (0<i)&&S.ahead v (gn S.hl ((i-1)/2)))=false):SM.upGo f S v i=S.lay i v:=by
 cases f with
 | zero=>rfl
 | succ f=>rw[SM.upGo,h];rfl
set_option maxRecDepth 100000 in
set_option maxHeartbeats 2000000 in
theorem up_any (i:Nat) (h:At B w0 w p M F) (hb:HB M.sv) (hi:i<M.hl.xs.length) :
  Calls Tryz.prog 102 #[.pointer (some ⟨p,15,none⟩),.int .i64 i] w fun e w'=>e=.returned (.tuple #[])∧HeapAt B w0 w' p M F (M.sv.up i):=by
 obtain⟨N,hN⟩:∃ N,M.value.xs.length=N:=⟨_,rfl⟩
 have hv:∀ x∈M.hl.xs,x<N:=by rw[←hN];exact hb.vars
 have hpl:M.place.xs.length=N:=by rw[←hN];exact hb.place
 have hmt:M.met.xs.length=N:=by rw[←hN];exact hb.met
 have hhl:M.hl.xs.length≤N:=by rw[←hN];exact hb.hl
 have hsm:N≤100000:=by rw[←hN];exact hb.small
 obtain⟨ln,hln⟩:∃ ln,M.hl.xs.length=ln:=⟨_,rfl⟩
 obtain⟨bh,hbh⟩:=h.b_hl (by omega)
 obtain⟨d1,d2⟩:=h.r_hl hbh (gn_some M.hl.xs i hi)
 have c1:=h.c_hl
 rw[hbh] at c1
 simp only[Option.map_some,vN] at c1 d1
 have hvv:gn M.hl.xs i<N:=hv _ (gn_mem _ _ hi)
 have hup:M.sv.up i=SM.upGo i M.sv (gn M.hl.xs i) i:=rfl
 obtain⟨v,hvd⟩:∃ v,gn M.hl.xs i=v:=⟨_,rfl⟩
 rw[hvd] at d1 hvv hup
 rw[hln] at c1 hi hhl
 have H:=Lib.hid h
 have HV:=Lib.hid hv
 have HLN:=Lib.hid hln
 have HPL:=Lib.hid hpl
 have HMT:=Lib.hid hmt
 have HUP:=Lib.hid hup
 have i0:(0:Int)≤(i:Int):=by omega
 have i1:(i:Int)<(ln:Int):=by omega
 clear h hb hN hv hpl hmt hbh hln hvd hup
 go_enter Tryz.func102,Tryz.ntmps102
 go_wp2
 go_loopw [1] (fun s1 wr=>∃ (j f:Nat) (a b:Fl Nat),s1=.int .i64 j∧j<ln∧j≤f∧Hid (a.xs.length=ln)∧Hid (b.xs.length=N)∧Hid (∀ x∈a.xs,x<N)∧Hid (At B w0 wr p (M.u_lay a b) F) ∧
  Hid (SM.upGo f (MM.sv (M.u_lay a b)) v j=M.sv.up i)) (fun s1 _=>(intOf s1).toNat)
 case atStart=>exact⟨i,i,M.hl,M.place,rfl,hi,Nat.le_refl _,HLN.out,HPL.out,HV.out,H.out,HUP.out.symm⟩
 case round =>
  obtain⟨j,f,a,b,rfl,hj,hjf,HA,HB,HAV,H2,HG⟩:=hrel
  by_cases hj0:j=0
  ·subst hj0
   have HL:=Lib.hid (lay_any 0 v H2.out (by show 0<a.xs.length;rw[HA.out];exact hj) (by show v<b.xs.length;rw[HB.out];exact hvv) (by show a.xs.length≤_;rw[HA.out];omega) (by show b.xs.length≤_;rw[HB.out];omega))
   have hst:=HG.out
   rw[upGo_stop (by rfl)] at hst
   have HST:=Lib.hid hst
   clear hst
   go_wp2_with fail
   refine HL.out.mono ?_
   rintro e w2 ⟨rfl,h2⟩
   rw[HST.out] at h2
   have HH:=Lib.hid h2
   clear h2
   go_wp2
   go_end0
   obtain⟨a2,b2,h3,h4⟩:=HH.out
   exact⟨rfl,a2,b2,M.met,h3,h4⟩
  ·obtain⟨k,hk⟩:∃ k,(j-1)/2=k:=⟨_,rfl⟩
   have hkj:k<j:=by omega
   have hdv:((j:Int)-1).tdiv 2=(k:Int):=by
    rw[Int.tdiv_eq_ediv_of_nonneg (by omega)]
    omega
   obtain⟨ba,hba⟩:=H2.out.b_hl (by show 0<a.xs.length;rw[HA.out];omega)
   obtain⟨d3,_⟩:=H2.out.r_hl hba (gn_some a.xs k (by rw[HA.out];omega))
   have c3:=H2.out.c_hl
   rw[hba] at c3
   simp only[Option.map_some,vN] at c3 d3
   rw[HA.out] at c3
   have hxN:gn a.xs k<N:=HAV.out _ (gn_mem _ _ (by rw[HA.out];omega))
   obtain⟨x,hx⟩:∃ x,gn a.xs k=x:=⟨_,rfl⟩
   rw[hx] at d3 hxN
   have HX:=Lib.hid hx
   have HK:=Lib.hid hk
   have HAH:=Lib.hid (ahead_any v x H2.out (by show v<M.met.xs.length;rw[HMT.out];exact hvv) (by show x<M.met.xs.length;rw[HMT.out];exact hxN) (by show M.met.xs.length≤_;rw[HMT.out];omega))
   obtain⟨ah,hah⟩:∃ ah,(MM.sv (M.u_lay a b)).ahead v x=ah:=⟨_,rfl⟩
   rw[hah] at HAH
   have HAHD:=Lib.hid hah
   have jp:(0:Int)<(j:Int):=by omega
   have k0:(0:Int)≤(k:Int):=by omega
   have k1:(k:Int)<(ln:Int):=by omega
   clear hx hk hba hah
   go_wp2_with fail
   refine HAH.out.mono ?_
   rintro e w2 ⟨rfl,hd⟩
   have H3:=Lib.hid (H2.out.drawn hd)
   clear hd HAH
   cases ah with
   | false =>
    have hst:=HG.out
    rw[upGo_stop (by
     rw[HK.out]
     show (decide (0<j)&&(MM.sv (M.u_lay a b)).ahead v (gn a.xs k))=false
     rw[HX.out,HAHD.out,Bool.and_false])] at hst
    have HST:=Lib.hid hst
    have HL:=Lib.hid (lay_any j v H3.out (by show j<a.xs.length;rw[HA.out];exact hj) (by show v<b.xs.length;rw[HB.out];exact hvv) (by show a.xs.length≤_;rw[HA.out];omega) (by show b.xs.length≤_;rw[HB.out];omega))
    clear hst
    go_wp2_with fail
    refine HL.out.mono ?_
    rintro e w4 ⟨rfl,h2⟩
    rw[HST.out] at h2
    have HH:=Lib.hid h2
    clear h2
    go_wp2
    go_end0
    obtain⟨a2,b2,h3,h4⟩:=HH.out
    exact⟨rfl,a2,b2,M.met,h3,h4⟩
   | true =>
    obtain⟨f2,rfl⟩:∃ f2,f=f2+1:=⟨f-1,by omega⟩
    have hst:=HG.out
    rw[SM.upGo,HK.out] at hst
    have hc:(decide (0<j)&&(MM.sv (M.u_lay a b)).ahead v (gn (MM.sv (M.u_lay a b)).hl k))=true:=by
     show (decide (0<j)&&(MM.sv (M.u_lay a b)).ahead v (gn a.xs k))=true
     rw[HX.out,HAHD.out];simp;omega
    rw[hc,if_pos rfl,show gn (MM.sv (M.u_lay a b)).hl k=x from HX.out] at hst
    have HST:=Lib.hid hst
    have hba:=H3.out.c_hl
    have c4:=H3.out.c_hl
    obtain⟨ba2,hba2⟩:=H3.out.b_hl (by show 0<a.xs.length;rw[HA.out];omega)
    obtain⟨d4,_⟩:=H3.out.r_hl hba2 (gn_some a.xs k (by rw[HA.out];omega))
    rw[hba2] at c4
    simp only[Option.map_some,vN] at c4 d4
    rw[HA.out] at c4
    rw[HX.out] at d4
    have HL:=Lib.hid (lay_any j x H3.out (by show j<a.xs.length;rw[HA.out];exact hj) (by show x<b.xs.length;rw[HB.out];exact hxN) (by show a.xs.length≤_;rw[HA.out];omega) (by show b.xs.length≤_;rw[HB.out];omega))
    clear hst hc hba hba2 c3 d3
    go_wp2_with fail
    refine HL.out.mono ?_
    rintro e w4 ⟨rfl,a2,b2,h3,h4⟩
    have ha2:a2.xs=a.xs.set j x:=congrArg SM.hl h4
    have hb2:b2.xs=b.xs.set x (j+1):=congrArg SM.place h4
    have H5:=Lib.hid h3
    have HA2:=Lib.hid (show a2.xs.length=ln by rw[ha2,List.length_set];exact HA.out)
    have HB2:=Lib.hid (show b2.xs.length=N by rw[hb2,List.length_set];exact HB.out)
    have HV2:=Lib.hid (show ∀ y∈a2.xs,y<N by rw[ha2];exact vars_set HAV.out hxN)
    have HG2:=Lib.hid (show SM.upGo f2 (MM.sv (M.u_lay a2 b2)) v k=M.sv.up i by rw[←HST.out,←h4])
    clear HL h3 h4 ha2 hb2
    go_wp2
    go_roundw
    case rel=>exact⟨k,f2,a2,b2,rfl,by omega,by omega,HA2.out,HB2.out,HV2.out,H5.out,HG2.out⟩
    case measure=>simp[intOf];omega
end
end Go.Proofs.YthbbmdnfkkffjaaGreat
