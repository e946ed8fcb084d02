/-
  Parts of the proof, joined by program: Pi8, Map, Ref0.
-/
import Derived.Test.YthbbmdnfkkffjaaGreatZ22
import Derived.Test.YthbbmdnfkkffjaaGreatZ17
import Derived.Test.YthbbmdnfkkffjaaGreatZ20
import Derived.Maps.OwnOps
import Derived.Maps.Views
namespace Go.Proofs.YthbbmdnfkkffjaaGreat
open Go.Proofs.PlaitPure Go.Proofs.PlaitSat
theorem nodup_lt {l:List Nat} {n:Nat} (h:l.Nodup) (hb:∀ x∈l,x<n):l.length≤n:=by
 have:=nodup_sub h (L:=List.range n) fun x hx=>List.mem_range.2 (hb x hx)
 rwa [List.length_range] at this
theorem ClI.len {S:SM} (h:ClI S) {r:Nat} (hr:r<S.cls.length):(S.cl r).length≤S.value.length:=by
 have:=nodup_lt (h.nd r hr) fun x hx=>by
  obtain⟨y,hy,rfl⟩:=List.mem_map.1 hx
  exact (h.two r hr y hy).2
 rwa [List.length_map] at this
theorem TrI.nodup {S:SM} (h:TrI S):(S.trail.map (·/2)).Nodup:=by
 rw[List.Nodup,List.pairwise_iff_getElem]
 intro i j hi hj hij e
 rw[List.length_map] at hi hj
 rw[List.getElem_map,List.getElem_map,←gn_eq _ _ hi,←gn_eq _ _ hj] at e
 have:=h.inj i j hi hj e
 omega
theorem TrI.len {S:SM} (h:TrI S):S.trail.length≤S.value.length:=by
 have:=nodup_lt h.nodup fun x hx=>by
  obtain⟨y,hy,rfl⟩:=List.mem_map.1 hx
  exact h.var_lt y hy
 rwa [List.length_map] at this
theorem WaI.len {S:SM} (h:WaI S) (l:Nat):(gN S.watches l).length≤S.cls.length:=nodup_lt (h.nd l) fun x hx=>((h.iff l x).1 hx).1
theorem innerGo_eq {l:Nat}:∀ (f:Nat) (S:SM) (i m:Nat),i+f=(gN S.watches l).length→m≤i→l<S.watches.length→S.isL l=-1→FoI (rowW S l (whole S l i m)) →
  SM.innerGo f S l i m=innerE l f (rowW S l (whole S l i m)) m∧(S.cls.length≤1000000→(gN S.watches l).length≤1000000→innerOk f S l i m)
 | 0,S,i,m,hi,hm,hlw,hf,h=>by
  refine⟨?_,fun _ _=>trivial⟩
  have:whole S l i m=(gN S.watches l).take m:=by unfold whole;rw[List.drop_eq_nil_of_le (by omega),List.append_nil]
  rw[this]
  rfl
 | f+1,S,i,m,hi,hm,hlw,hf,h=>by
  have hil:i<(gN S.watches l).length:=by omega
  obtain⟨ref,href⟩:∃ ref,gn (gN S.watches l) i=ref:=⟨_,rfl⟩
  obtain⟨E,hE⟩:∃ E,rowW S l (whole S l i m)=E:=⟨_,rfl⟩
  have hErow:gN E.watches l=whole S l i m:=by rw[←hE,gN_rowW hlw,if_pos rfl]
  have hEg:gn (gN E.watches l) m=ref:=by rw[hErow,whole_gn hm hil,href]
  have hEm:m<(gN E.watches l).length:=by rw[hErow,whole_len hm (by omega)];omega
  have hEf:E.isL l=-1:=by rw[←hE];exact hf
  rw[hE] at h ⊢
  obtain⟨⟨hr,h2⟩,hc⟩:=look_step h hEf hEm hEg
  have hEc:∀ r,E.cl r=S.cl r:=fun r=>by rw[←hE];rfl
  have hEn:E.cls=S.cls:=by rw[←hE];rfl
  have hEv:E.value=S.value:=by rw[←hE];rfl
  have hS2:2≤(S.cl ref).length:=by rw[←hEc];exact h2
  obtain⟨l1,l2,l3⟩:=look_rowW (x:=whole S l i m) hS2 (by rw[hf];omega:S.isL l<0)
  rw[hE] at l1
  have hEl1:(E.look ref l).1=rowW (S.look ref l).1 l (whole S l i m):=by rw[l1]
  have hEl2:(E.look ref l).2=(S.look ref l).2:=by rw[l1]
  have hlk:S.cls.length≤1000000→(gN S.watches l).length≤1000000→LkRd S ref:=fun hn hrow=>by
   have hsz:=h.tr.sz
   have hsm:=h.hp.hi.hb.small
   rw[hEv] at hsm
   refine⟨⟨hsm,?_,?_,?_,fun r hrm=>?_⟩,by rw[←hEn];exact hr,hn,hS2,?_,?_⟩
   ·rw[←hE] at hsz
    exact⟨hsz.level,hsz.reason,hsz.phase,hsz.occurs,hsz.units,by have:=hsz.watches;change (S.watches.set l _).length=_ at this;rw[List.length_set] at this;exact this⟩
   ·have:=h.tr.vals;rw[hEv] at this;exact this
   ·have:=h.tr.len;rw[hEv] at this;have e:E.trail=S.trail:=by rw[←hE];rfl
    rw[e] at this;omega
   ·obtain⟨j,hj,rfl⟩:=List.getElem_of_mem hrm
    by_cases e:j=l
    ·subst e
     have:S.watches[j]=gN S.watches j:=by simp[gN,hj]
     rw[this];exact hrow
    ·have h1:=h.wa.len j
     rw[hEn,←hE,gN_rowW hlw,if_neg e] at h1
     have:S.watches[j]=gN S.watches j:=by simp[gN,hj]
     rw[this];omega
   ·have:=h.cl.len hr;rw[hEc,hEv] at this;omega
   ·intro x hx;have:=h.cl.two ref hr x (by rw[hEc];exact hx);rw[hEv] at this;exact this.2
  rw[SM.innerGo,innerE,hEg,href]
  rcases hc with ⟨e,hF,hW,hrow,hall⟩ | ⟨e,hF,hW,hcl⟩ | ⟨e,hF,hW,hrow,hokw,hcl⟩
  ·have e':=e
   rw[hEl2] at e'
   rw[e,e']
   simp only[if_true,Bool.false_eq_true,if_false]
   refine⟨?_,fun hn hrw=>?_⟩
   ·rw[hEl1]
    refine Prod.ext ?_ rfl
    show rowW (rowW (S.look ref l).1 l ((gN (S.look ref l).1.watches l).set m ref)) l _=_
    rw[rowW_rowW]
    rw[show gN ((S.look ref l).1.watches.set l ((gN (S.look ref l).1.watches l).set m ref)) l=(gN S.watches l).set m (gn (gN S.watches l) i) by rw[gN_set (by rw[l3];exact hlw),if_pos rfl,l2,href],whole_set hm hil]
   ·refine⟨by rw[href];exact hlk hn hrw,by rw[hf];omega,fun hb=>?_⟩
    unfold innerBad at hb
    rw[href,e'] at hb
    cases hb
  ·have e':=e
   rw[hEl2] at e'
   rw[e,e']
   simp only[if_true,Bool.false_eq_true,if_false]
   have hwh:whole (S.look ref l).1 l (i+1) m=(whole S l i m).eraseIdx m:=by rw[whole_erase hm hil];unfold whole;rw[l2]
   have hX:rowW (E.look ref l).1 l ((gN (E.look ref l).1.watches l).eraseIdx m)=rowW (S.look ref l).1 l (whole (S.look ref l).1 l (i+1) m):=by
    rw[hEl1,gN_rowW (by rw[l3];exact hlw),if_pos rfl,rowW_rowW,hwh]
   have hY:rowW (E.look ref l).1 l ((gN E.watches l).eraseIdx m)=rowW (S.look ref l).1 l (whole (S.look ref l).1 l (i+1) m):=by
    rw[hEl1,hErow,rowW_rowW,hwh]
   rw[hX]
   rw[hY] at hF hW
   have hfT:(S.look ref l).1.isL l=-1:=by
    have:=hW.isL (l:=l) (by omega)
    rw[hEf] at this
    exact this
   obtain⟨a,b⟩:=innerGo_eq f (S.look ref l).1 (i+1) m (by rw[l2];omega) (by omega) (by rw[l3];exact hlw) hfT hF
   refine⟨a,fun hn hrw=>⟨by rw[href];exact hlk hn hrw,by rw[hf];omega,fun _=>?_⟩⟩
   unfold innerU innerM
   rw[href,e']
   simp only[if_true]
   exact b (by have:=hW.clen;rw[hEn] at this;change (S.look ref l).1.cls.length=_ at this;omega) (by rw[l2];exact hrw)
  ·have e':=e
   rw[hEl2] at e'
   rw[e,e']
   simp only[Bool.false_eq_true,if_false]
   obtain⟨U,hU⟩:∃ U,rowW (S.look ref l).1 l ((gN (S.look ref l).1.watches l).set m ref)=U:=⟨_,rfl⟩
   have hUr:gN U.watches l=(gN S.watches l).set m (gn (gN S.watches l) i):=by rw[←hU,gN_rowW (by rw[l3];exact hlw),if_pos rfl,l2,href]
   have hUw:whole U l (i+1) (m+1)=whole S l i m:=by unfold whole;rw[hUr];exact whole_set hm hil
   have hUl:U.watches.length=S.watches.length:=by rw[←hU];show ((S.look ref l).1.watches.set _ _).length=_;rw[List.length_set,l3]
   have hX:rowW U l (whole U l (i+1) (m+1))=(E.look ref l).1:=by rw[hUw,←hU,rowW_rowW,hEl1]
   have hfT:U.isL l=-1:=by
    have:=hW.isL (l:=l) (by omega)
    rw[hEf,hEl1] at this
    rw[←hU];exact this
   obtain⟨a,b⟩:=innerGo_eq f U (i+1) (m+1) (by rw[hUr,List.length_set];omega) (by omega) (by rw[hUl];exact hlw) hfT (by rw[hX];exact hF)
   have hUU:({ (S.look ref l).1 with watches:=(S.look ref l).1.watches.set l ((gN (S.look ref l).1.watches l).set m ref) }:SM)=U:=hU
   rw[hUU]
   refine⟨by rw[a,hX],fun hn hrw=>⟨by rw[href];exact hlk hn hrw,by rw[hf];omega,fun _=>?_⟩⟩
   unfold innerU innerM
   rw[href,e']
   simp only[Bool.false_eq_true,if_false]
   rw[hUU]
   exact b (by have:=hW.clen;rw[hEn,hEl1] at this;rw[←hU];change (S.look ref l).1.cls.length=_ at this;show (S.look ref l).1.cls.length≤_;omega) (by rw[hUr,List.length_set];exact hrw)
end Go.Proofs.YthbbmdnfkkffjaaGreat
namespace Go.Proofs.PlaitSep
open Go Go.RowKit Go.Maps
open Go.WideElems (Fit rd rg pl rd_val elemAt)
def At (D:DataW Unit) (f:Int→Int):Prop:=∀ x:Int,D.atKey (.int .i64 x) (.lit (.int .i64 0))=.lit (.int .i64 (f x))
def upd (f:Int→Int) (y z:Int):Int→Int:=fun u=>if u=y then z else f u
def mp (P:Program) (k e:TypeId) (b n:Nat) (f:Int→Int):HP:=fun h =>
 ∃ es clock,one b (.map es clock) h∧Fit P k (plainElem (H:=Unit) P e) es clock∧es.size≤n∧At (.map ((es.toList.map (rg P k (plainElem (H:=Unit) P e))).foldr DataW.insert [])) f
section
variable {P:Program} {k e t:TypeId} {B b n:Nat} {w w' w0:World} {f:Int→Int} {F:HP}
theorem Sat.mp_own (h:Sat B w (star (mp P k e b n f) F)):∃ D,w.ownsMap P k (plainElem (H:=Unit) P e) b n D∧At D f∧B≤b:=by
 obtain⟨hp,⟨h1,h2,d,rfl,⟨es,clock,p,F',hs,ha⟩,q⟩,c⟩:=h
 have h3:Sat B w (star (PlaitSep.one b (.map es clock)) F):=⟨_,⟨h1,h2,d,rfl,p,q⟩,c⟩
 exact⟨_,⟨es,clock,(Sat.one h3).1,F',hs,rfl⟩,ha,(Sat.one h3).2⟩
theorem Sat.mp_put (h:Sat B w (star (mp P k e b n f) F)) (hg:w.grownBy w' (some b)) {m:Nat} {D:DataW Unit} {g:Int→Int} (ho:w'.ownsMap P k (plainElem (H:=Unit) P e) b m D) (ha:At D g):Sat B w' (star (mp P k e b m g) F):=by
 obtain⟨hp,⟨h1,h2,d,rfl,⟨es,clock,p,F',hs,ha'⟩,q⟩,c⟩:=h
 have h3:Sat B w (star (PlaitSep.one b (.map es clock)) F):=⟨_,⟨h1,h2,d,rfl,p,q⟩,c⟩
 obtain⟨es',clock',hb',F2,hs',rfl⟩:=ho
 have h4:=Sat.put h3 hb' fun i hi hlt=>hg.block i hlt (by simpa using hi)
 obtain⟨hp,⟨h1,h2,d,rfl,p,q⟩,c⟩:=h4
 exact⟨_,⟨h1,h2,d,rfl,⟨es',clock',p,F2,hs',ha⟩,q⟩,c⟩
theorem St.mp_new (h:St B w0 w F):St B w0 (w.alloc (.map #[] 0)) (star (mp P k e w.heap.size 0 fun _=>0) F):=by
 refine⟨h.below.alloc h.base _,by have:=h.base;simp;omega,?_⟩
 have h1:=h.sat.new h.base (.map #[] 0)
 obtain⟨hp,⟨h1,h2,d,rfl,p,q⟩,c⟩:=h1
 obtain⟨es,clock,hb,F',hs,hD⟩:=World.ownsMap_made w P k (plainElem (H:=Unit) P e)
 rw[heap_alloc_new] at hb
 simp only[Option.some.injEq,Obj.map.injEq] at hb
 obtain⟨rfl,rfl⟩:=hb
 exact⟨_,⟨h1,h2,d,rfl,⟨_,_,p,F',hs,fun x=>rfl⟩,q⟩,c⟩
theorem St.mp_look (h:St B w0 w (star (mp P k e b n f) F)) (K:Keyed P k) (ht:P.underlying t=some (.map k e)) (hk:P.underlying k=some (.int .i64)) (he:P.underlying e=some (.int .i64)) (hz:∀ w,(zeroValue e).run P w=.ok (.int .i64 0) w)
  (x:Int) (hx:(Lit.int .i64 x).wf=true):(Instr.lookup t (.map (some b)) (.int .i64 x) false).run P w=.ok (.int .i64 (f x)) w:=by
 obtain⟨D,ho,ha,_⟩:=h.sat.mp_own
 obtain⟨c,hrun,hat,_⟩:=ho.lookup_int K ht he (hz w) (keyOf_int_mk hk hx)
 rw[ha x] at hat
 simp only[DataW.lit.injEq,Lit.int.injEq,true_and] at hat
 rw[hrun,hat]
theorem wpList_map_put {ops:Array Oper} {rest:List Oper} {o:Oper} {a:Act} {Q:Exit→Act→World→Prop} (hg:o.guard=none) (m x v:Operand) (hop:o.op=Op.mapUpdate t m x v)
  (h:St B w0 w (star (mp P k e b n f) F)) (K:Keyed P k) (ht:P.underlying t=some (.map k e)) (hk:P.underlying k=some (.int .i64)) (he:P.underlying e=some (.int .i64)) (hn:n<maxLen)
  (y z:Int) (hm:a.eval m=.map (some b)) (hx:a.eval x=.int .i64 y) (hv:a.eval v=.int .i64 z) (hy:(Lit.int .i64 y).wf=true) (hzw:(Lit.int .i64 z).wf=true)
  (hK:∀ w',St B w0 w' (star (mp P k e b (n+1) (upd f y z)) F)→wpList P ops Q rest (a.put o.dst undef) w') :
  wpList P ops Q (o :: rest) a w:=by
 obtain⟨D,ho,ha,hB⟩:=h.sat.mp_own
 refine wpList_mapUpdate_own w hg m x v t hop k e K ht _ b n D hm ho hn _ _ (.int .i64 y) hx hv (keyOf_int_mk hk hy) (.lit (.int .i64 z)) [] (plainElem_int he hzw) ?_
 intro w' h1 h2
 refine hK w' ⟨h.below.trans ⟨h2.os,h2.tape,h2.output,h2.size,fun i hi=>h2.block i (Nat.lt_of_lt_of_le hi h.base) (by simp;omega)⟩,Nat.le_trans h.base h2.size,h.sat.mp_put h2 h1 ?_⟩
 intro u
 by_cases hu:u=y
 ·subst hu
  rw[show upd f u z u=z from if_pos rfl]
  obtain⟨es,clock,_,_,_,rfl⟩:=ho
  exact Maps.atKey_put_same ⟨_,rfl⟩ (by trivial) _ _
 ·rw[show upd f y z u=f u from if_neg hu,Maps.atKey_put_other (by simpa using hu),ha u]
end
end Go.Proofs.PlaitSep
namespace Go.Proofs.PlaitSep
open Go Go.RowKit Go.Maps
open Go.WideElems (Fit rd rg pl rd_val elemAt)
section
variable {P:Program} {k e t:TypeId} {B b n:Nat} {w w' w0:World} {f:Int→Int} {F:HP}
theorem wpList_insert_own {H:Type} {P:Program} (w:World) {ops:Array Oper} {rest:List Oper} {o:Oper} {a:Act} {Q:Exit→Act→World→Prop}
  (hg:o.guard=none) (m x v:Operand) (t:TypeId) (hop:o.op=Op.insert t m x v)
  (k e:TypeId) (K:Keyed P k) (ht:P.underlying t=some (.map k e)) (R:Value→Option (DataW H×List MemPlace)) (b n:Nat) (D:DataW H)
  (hm:a.eval m=.map (some b)) (hown:w.ownsMap P k R b n D) (hn:n<maxLen) (key val:Value) (kl:Lit) (hx:a.eval x=key) (hv:a.eval v=val) (hkey:keyOf P k key=some kl)
  (d:DataW H) (ps:List MemPlace) (hval:R val=some (d,ps))
  (hK:∀ w',w'.ownsMap P k R b (n+1) (D.put kl d)→w.grownBy w' (some b)→wpList P ops Q rest (a.put o.dst undef) w') :
  wpList P ops Q (o :: rest) a w:=by
 refine wpList_plain hg fun K' hK'=>?_
 obtain⟨w',hrun,r1,r2⟩:=hown.update K ht hn hkey hval
 unfold Oper.wp
 simp[execOp,hop,hm,hx,hv,hrun,Result.andThen]
 exact hK' _ _ (hK w' r1 r2)
theorem wpList_map_ins {ops:Array Oper} {rest:List Oper} {o:Oper} {a:Act} {Q:Exit→Act→World→Prop} (hg:o.guard=none) (m x v:Operand) (hop:o.op=Op.insert t m x v)
  (h:St B w0 w (star (mp P k e b n f) F)) (K:Keyed P k) (ht:P.underlying t=some (.map k e)) (hk:P.underlying k=some (.int .i64)) (he:P.underlying e=some (.int .i64)) (hn:n<maxLen)
  (y z:Int) (hm:a.eval m=.map (some b)) (hx:a.eval x=.int .i64 y) (hv:a.eval v=.int .i64 z) (hy:(Lit.int .i64 y).wf=true) (hzw:(Lit.int .i64 z).wf=true)
  (hK:∀ w',St B w0 w' (star (mp P k e b (n+1) (upd f y z)) F)→wpList P ops Q rest (a.put o.dst undef) w') :
  wpList P ops Q (o :: rest) a w:=by
 obtain⟨D,ho,ha,hB⟩:=h.sat.mp_own
 refine wpList_insert_own w hg m x v t hop k e K ht _ b n D hm ho hn _ _ (.int .i64 y) hx hv (keyOf_int_mk hk hy) (.lit (.int .i64 z)) [] (plainElem_int he hzw) ?_
 intro w' h1 h2
 refine hK w' ⟨h.below.trans ⟨h2.os,h2.tape,h2.output,h2.size,fun i hi=>h2.block i (Nat.lt_of_lt_of_le hi h.base) (by simp;omega)⟩,Nat.le_trans h.base h2.size,h.sat.mp_put h2 h1 ?_⟩
 intro u
 by_cases hu:u=y
 ·subst hu
  rw[show upd f u z u=z from if_pos rfl]
  obtain⟨es,clock,_,_,_,rfl⟩:=ho
  exact Maps.atKey_put_same ⟨_,rfl⟩ (by trivial) _ _
 ·rw[show upd f y z u=f u from if_neg hu,Maps.atKey_put_other (by simpa using hu),ha u]
end
def Stays (B:Nat) (w0:World) (F:HP) (A:Option Addr) (n:Nat) (xs:List Int):Prop:=∀ (w:World) (P:HP),St B w0 w (star P F)→Rd w A n xs
end Go.Proofs.PlaitSep
namespace Go.Proofs.YthbbmdnfkkffjaaGreat
open Go.RowKit Go.Maps Go.Proofs.PlaitSep Go.Proofs.PlaitPure Go.Proofs.PlaitSat
theorem Tryz.keyIntS:Keyed Tryz.prog 3:=int_keyed Tryz.underlying3
theorem Tryz.zeroIntS (w:World):(zeroValue 3).run Tryz.prog w=.ok (.int .i64 0) w:=by kernel_rfl
theorem lit_wfS {x:Int} (h:x.natAbs≤1000000):(Lit.int .i64 x).wf=true:=by
 have e1:IntKind.i64.min=-9223372036854775808:=by decide
 have e2:IntKind.i64.max=9223372036854775807:=by decide
 simp only[Lit.wf,e1,e2,Bool.and_eq_true,decide_eq_true_eq]
 omega
section
variable {B:Nat} {w0 w:World} {p:Nat} {M:MM} {F:HP}
theorem At.rd {A:Option Addr} {n:Nat} {xs:List Int} (hk:Stays B w0 F A n xs) {Y:HP} (h:At B w0 w p M (star Y F)):Rd w A n xs:=hk w (star (stars (parts p M)) Y) (h.st.conseq (by ac_rfl))
theorem At.rd0 {A:Option Addr} {n:Nat} {xs:List Int} (hk:Stays B w0 F A n xs) (h:At B w0 w p M F):Rd w A n xs:=hk w (stars (parts p M)) h.st
theorem Stays.more {A:Option Addr} {n:Nat} {xs:List Int} (h:Stays B w0 F A n xs) (Y:HP):Stays B w0 (star Y F) A n xs:=fun w P k=>h w (star P Y) (k.conseq (by ac_rfl))
structure RfOk (S:SM) (assume:List Int) (l:Nat) (Z:Nat→Prop) (rk:Nat→Nat):Prop where
 small:S.value.length≤100000
 sz:Sz S
 cls:S.cls.length≤1000000
 trl:S.trail.length≤900000
 tr:∀ x∈S.trail,x/2<S.value.length
 l:l/2<S.value.length
 lits:∀ a∈assume,a.natAbs≤65536
 len:assume.length≤1000000
 r:∀ x∈S.trail,gn S.level (x/2)≠0→gi S.reason (x/2)=-1∨∃ r:Nat,gi S.reason (x/2)=r∧r<S.cls.length∧(S.cl r).length≤100000∧∀ y∈S.cl r,y/2<S.value.length
 z:∀ x∈S.trail,gn S.level (x/2)=0→Z (x/2)
 un:UnOk S Z rk
 rk:∀ v,Z v→rk v<S.value.length
def rfF (mt:Fl Bool) (b n:Nat) (f:Int→Int) (zr:Fl Nat) (fr:Fl Int) (F:HP):HP:=star (mt.hp 4 vB) (star (mp Tryz.prog 3 3 b n f) (star (zr.hp 3 vN) (star (fr.hp 3 vI) F)))
theorem rfF_mp (mt:Fl Bool) (b n:Nat) (f:Int→Int) (zr:Fl Nat) (fr:Fl Int) (F:HP):rfF mt b n f zr fr F=star (mp Tryz.prog 3 3 b n f) (star (mt.hp 4 vB) (star (zr.hp 3 vN) (star (fr.hp 3 vI) F))):=by unfold rfF;ac_rfl
theorem rfF_zr (mt:Fl Bool) (b n:Nat) (f:Int→Int) (zr:Fl Nat) (fr:Fl Int) (F:HP):rfF mt b n f zr fr F=star (zr.hp 3 vN) (star (mt.hp 4 vB) (star (mp Tryz.prog 3 3 b n f) (star (fr.hp 3 vI) F))):=by unfold rfF;ac_rfl
theorem rfF_fr (mt:Fl Bool) (b n:Nat) (f:Int→Int) (zr:Fl Nat) (fr:Fl Int) (F:HP):rfF mt b n f zr fr F=star (fr.hp 3 vI) (star (mt.hp 4 vB) (star (mp Tryz.prog 3 3 b n f) (star (zr.hp 3 vN) F))):=by unfold rfF;ac_rfl
def coreGo' (g assume:List Int):List Int:=SM.coreGo g [] assume
def gF (g out:List Int):Int→Int:=fun u=>if u∈out then 2 else if u∈g then 1 else 0
theorem numF_abs (l:Nat):(numF l).natAbs=l/2:=by unfold numF;split <;> omega
end
end Go.Proofs.YthbbmdnfkkffjaaGreat
