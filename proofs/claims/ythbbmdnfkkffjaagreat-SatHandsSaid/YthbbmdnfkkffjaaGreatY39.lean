/-
  Parts of the proof, joined by program: DerM, Mset, Der1, Der2, Der3, Der4.
-/
import Derived.Test.YthbbmdnfkkffjaaGreatY38
import Derived.Test.YthbbmdnfkkffjaaGreatY20
import Derived.Test.YthbbmdnfkkffjaaGreatY30
import Derived.Test.YthbbmdnfkkffjaaGreatY37
import Derived.Test.YthbbmdnfkkffjaaGreatY34
import Derived.Test.YthbbmdnfkkffjaaGreatY01
import Derived.Maps.OwnSet
import Derived.Lib.SlKeysI
import Derived.CallsIn
import Derived.Lib.Hide
set_option maxHeartbeats 8000000
set_option maxRecDepth 100000
namespace Go.Proofs.au
def bP (G D:List (List Int)) (p:Int):Option (List Int) :=
 if p<0∨(G.length:Int)+D.length≤p then none else if p<G.length then qh (gl G p.toNat) else some (gl D (p-G.length).toNat)
def piv (c d:List Int):List Int:=c.filter fun x=>hasB d (-x)
def Ls (c d:List Int) (x:Int):List Int:=(c.filter fun y=>y != x)++d.filter fun y=>y != -x
def rz (c d:List Int):Option (List Int):=match piv c d with
 | [x]=>qh (Ls c d x)
 | _=>none
def jM (G D:List (List Int)):List Int→List Int→Option (List Int)
 | c,[]=>some c
 | c,p :: r=>match bP G D p with
  | none=>none
  | some d=>match rz c d with
   | none=>none
   | some c'=>jM G D c' r
def gy (G D:List (List Int)):List Int→Option (List Int)
 | []=>none
 | p :: r=>match bP G D p with
  | none=>none
  | some c=>jM G D c r
def d9 (G:List (List Int)):List (List Int)→List (List Int)→Option (List (List Int))
 | D,[]=>some D
 | D,s :: r=>match gy G D s with
  | none=>none
  | some c=>d9 G (D++[c]) r
structure gD (c:List Int):Prop where
 rises:kV c
 lits:∀ x∈c,gH x=true
theorem gD.nodup {c:List Int} (h:gD c):c.Nodup:=by
 rw[List.nodup_iff_pairwise_ne];exact h.rises.imp fun {a b} hab=>by omega
theorem lF {x:Int}:gH x=true↔x≠0∧-2147483647≤x∧x≤2147483647:=by simp[gH]
theorem NZ {xs s:List Int} (h:qh xs=some s):∀ x∈xs,gH x=true:=by
 intro x hx
 cases e:gH x with
 | true=>rfl
 | false =>
  have:=yT xs [] ⟨x,hx,e⟩;rw[show qh xs=lQ [] xs from rfl,this] at h
  cases h
theorem nJ {xs s:List Int} (h:qh xs=some s):gD s∧∀ z,z∈s↔z∈xs:=by
 obtain⟨s',h1,h2,h3⟩:=BU (NZ h);rw[h] at h1
 cases h1
 exact⟨⟨h2,fun x hx=>NZ h x ((h3 x).1 hx)⟩,h3⟩
theorem AJ {xs s:List Int} (h:qh xs=some s):s.length≤xs.length:=by
 have key:∀ (xs out s:List Int),lQ out xs=some s→s.length≤out.length+xs.length:=by
  intro xs
  induction xs with
  | nil=>intro out s h;simp only[lQ,Option.some.injEq] at h;subst h;simp
  | cons x r ih =>
   intro out s h;rw[lQ] at h
   split at h
   ·have h1:=ih _ s h;have h2:=DX x out;simp only[List.length_cons];omega
   ·cases h
 have:=key xs [] s h;simpa using this
theorem JW {x:Int} (h:gH x=true):gH (-x)=true:=by rw[lF] at *;omega
theorem ab6 {c d:List Int} {x:Int} (hc:gD c) (hd:gD d):∀ z∈Ls c d x,gH z=true:=by
 intro z hz;unfold Ls at hz;rcases List.mem_append.1 hz with h | h
 ·exact hc.lits z (List.mem_filter.1 h).1
 ·exact hd.lits z (List.mem_filter.1 h).1
theorem Zw {c d:List Int} {x z:Int}:z∈Ls c d x↔(z∈c∧z≠x)∨(z∈d∧z≠-x):=by unfold Ls;simp[List.mem_filter]
theorem Pb {c d:List Int} {x:Int} (hc:gD c) (hd:gD d) (h:piv c d=[x]):∃ e,rz c d=some e∧gD e∧∀ z,z∈e↔(z∈c∧z≠x)∨(z∈d∧z≠-x):=by
 obtain⟨e,h1,h2,h3⟩:=BU (ab6 (x:=x) hc hd);refine⟨e,by unfold rz;rw[h];exact h1,(nJ h1).1,fun z=>?_⟩;rw[h3,Zw]
theorem GD {c d e:List Int} (h:rz c d=some e):gD e:=by
 unfold rz at h
 split at h
 ·exact (nJ h).1
 ·cases h
theorem Pf {c d:List Int} (h:(piv c d).length≠1):rz c d=none:=by
 unfold rz
 split
 ·rename_i e;rw[e] at h;exact absurd rfl h
 ·rfl
theorem CR {G D:List (List Int)} {p:Int} {c:List Int} (hD:∀ d∈D,gD d) (h:bP G D p=some c):gD c:=by
 unfold bP at h
 split at h
 ·cases h
 ·split at h
  ·exact (nJ h).1
  ·cases h
   rename_i h1 h2;rw[jq D _ (by omega)];exact hD _ (List.getElem_mem _)
theorem JX {G D:List (List Int)}:∀ {r c e:List Int},gD c→jM G D c r=some e→gD e
 | [],c,e,hc,h=>by cases h;exact hc
 | p :: r,c,e,hc,h=>by
  unfold jM at h
  split at h
  ·cases h
  ·split at h
   ·cases h
   ·rename_i h2;exact JX (GD h2) h
theorem VT {G D:List (List Int)} {s c:List Int} (hD:∀ d∈D,gD d) (h:gy G D s=some c):gD c:=by
 match s,h with
 | p :: r,h =>
  rw[gy] at h
  split at h
  ·cases h
  ·rename_i h1;exact JX (CR hD h1) h
def qF (c d:List Int):List Int:=d.filter fun l=>hasB c (-l)
theorem Zx {α:Type} {l:List α} {x:α} (hn:l.Nodup) (hx:x∈l) (ho:∀ z∈l,z=x):l=[x]:=by
 match l,hn,hx,ho with
 | [a],_,_,ho=>rw[ho a (by simp)]
 | a :: b :: r,hn,_,ho =>
  have e1:=ho a (by simp);have e2:=ho b (by simp);simp[e1,e2] at hn
theorem Pg {c d:List Int} (hc:c.Nodup) {l:Int} (h:qF c d=[l]):piv c d=[-l]:=by
 have hl:l∈qF c d:=by rw[h];simp
 obtain⟨h1,h2⟩:=List.mem_filter.1 hl;refine Zx (hc.filter _) (List.mem_filter.2 ⟨dO.1 h2,dO.2 (by rw[Int.neg_neg];exact h1)⟩) fun z hz=>?_;obtain⟨z1,z2⟩:=List.mem_filter.1 hz;have:-z∈qF c d:=List.mem_filter.2 ⟨dO.1 z2,dO.2 (by rw[Int.neg_neg];exact z1)⟩;rw[h,List.mem_singleton] at this;omega
theorem Ph {c d:List Int} (hd:d.Nodup) {x:Int} (h:piv c d=[x]):qF c d=[-x]:=by
 have hl:x∈piv c d:=by rw[h];simp
 obtain⟨h1,h2⟩:=List.mem_filter.1 hl;refine Zx (hd.filter _) (List.mem_filter.2 ⟨dO.1 h2,dO.2 (by rw[Int.neg_neg];exact h1)⟩) fun z hz=>?_;obtain⟨z1,z2⟩:=List.mem_filter.1 hz;have:-z∈piv c d:=List.mem_filter.2 ⟨dO.1 z2,dO.2 (by rw[Int.neg_neg];exact z1)⟩;rw[h,List.mem_singleton] at this;omega
theorem VU {c d:List Int} (hc:gD c) (hd:gD d) {l:Int} (h:qF c d=[l]):∃ e,rz c d=some e∧gD e∧∀ z,z∈e↔(z∈c∧z≠-l)∨(z∈d∧z≠l):=by
 obtain⟨e,h1,h2,h3⟩:=Pb hc hd (Pg hc.nodup h);refine⟨e,h1,h2,fun z=>?_⟩;rw[h3,Int.neg_neg]
theorem Iw {c d:List Int} (hd:gD d) (h:(qF c d).length≠1):rz c d=none:=by
 refine Pf fun h1=>h ?_
 match hp:piv c d,h1 with
 | [x],_=>rw[Ph hd.nodup hp];rfl
def vv (G:List (List Int)) (d:List Int):Prop:=∀ x∈d,x∈G.flatten
theorem nK {d L:List Int} (hn:d.Nodup) (h:∀ x∈d,x∈L):d.length≤L.length:=by
 induction d generalizing L with
 | nil=>simp
 | cons x r ih =>
  rw[List.nodup_cons] at hn;have hx:=h x (by simp);have:=ih (L:=L.erase x) hn.2 fun y hy=>(List.mem_erase_of_ne (fun (e:y=x)=>hn.1 (e▸hy))).2 (h y (by simp[hy]));rw[List.length_erase_of_mem hx] at this;have:=List.length_pos_of_mem hx;simp only[List.length_cons];omega
theorem sV {G D:List (List Int)} {p:Int} {c:List Int} (hD:∀ d∈D,vv G d) (h:bP G D p=some c):vv G c:=by
 unfold bP at h
 split at h
 ·cases h
 ·split at h
  ·intro x hx;rw[(nJ h).2] at hx;rw[jq G _ (by omega)] at hx;exact List.mem_flatten.2 ⟨_,List.getElem_mem _,hx⟩
  ·cases h
   rename_i h1 h2;rw[jq D _ (by omega)];exact hD _ (List.getElem_mem _)
theorem BX {G:List (List Int)} {c d e:List Int} (hc:vv G c) (hd:vv G d) (h:rz c d=some e):vv G e:=by
 unfold rz at h
 split at h
 ·intro x hx;rw[(nJ h).2] at hx;unfold Ls at hx;rcases List.mem_append.1 hx with hx | hx
  ·exact hc x (List.mem_filter.1 hx).1
  ·exact hd x (List.mem_filter.1 hx).1
 ·cases h
theorem GH {G D:List (List Int)} (hD:∀ d∈D,vv G d):∀ {r c e:List Int},vv G c→jM G D c r=some e→vv G e
 | [],c,e,hc,h=>by cases h;exact hc
 | p :: r,c,e,hc,h=>by
  unfold jM at h
  split at h
  ·cases h
  ·split at h
   ·cases h
   ·rename_i h1 _ _ h2;exact GH hD (BX hc (sV hD h1) h2) h
theorem R6 {G D:List (List Int)} {s c:List Int} (hD:∀ d∈D,vv G d) (h:gy G D s=some c):vv G c:=by
 match s,h with
 | p :: r,h =>
  rw[gy] at h
  split at h
  ·cases h
  ·rename_i h1;exact GH hD (sV hD h1) h
def AO (G D:List (List Int)):Prop:=∀ d∈D,gD d∧vv G d
theorem AO.snoc {G D:List (List Int)} {s c:List Int} (h:AO G D) (hs:gy G D s=some c):AO G (D++[c]):=by
 intro d hd;rcases List.mem_append.1 hd with hd | hd
 ·exact h d hd
 ·rw[List.mem_singleton.1 hd];exact⟨VT (fun d hd=>(h d hd).1) hs,R6 (fun d hd=>(h d hd).2) hs⟩
theorem AO.len {G D:List (List Int)} (h:AO G D):∀ d∈D,d.length≤G.flatten.length:=fun d hd=>nK (h d hd).1.nodup (h d hd).2
end Go.Proofs.au
namespace Go.Proofs.aC
open Go Go.RowKit Go.Maps Go.Proofs.au
open Go.WideElems (Fit rd rg pl rd_val elemAt)
structure Marks (D:DataW Unit) (s:List Int):Prop where
 has:∀ x:Int,Maps.has D (.int .i64 x)=decide (x∈s)
 val:∀ x:Int,D.atKey (.int .i64 x) (.lit (.int .i64 0))=.lit (.int .i64 (if x∈s then 1 else 0))
theorem Marks.congr {D:DataW Unit} {s t:List Int} (h:Marks D s) (e:∀ x,x∈s↔x∈t):Marks D t :=
 ⟨fun x=>by rw[h.has,decide_eq_decide];exact e x,fun x=>by rw[h.val];simp only[e x]⟩
def ms (P:Program) (k e:TypeId) (b n:Nat) (s:List Int):HP:=fun h =>
 ∃ es clock,one b (.map es clock) h∧Fit P k (plainElem (H:=Unit) P e) es clock∧es.size≤n∧Marks (.map ((es.toList.map (rg P k (plainElem (H:=Unit) P e))).foldr DataW.insert [])) s
theorem Zy {P:Program} {k e:TypeId} {b n:Nat} {s t:List Int} (h:∀ x,x∈s↔x∈t):ms P k e b n s=ms P k e b n t:=by
 funext hp
 apply propext
 constructor
 ·rintro⟨es,clock,h1,h2,h3,h4⟩;exact⟨es,clock,h1,h2,h3,h4.congr h⟩
 ·rintro⟨es,clock,h1,h2,h3,h4⟩;exact⟨es,clock,h1,h2,h3,h4.congr fun x=>(h x).symm⟩
section
variable {P:Program} {k e t:TypeId} {B b n:Nat} {w w' w0:World} {s:List Int} {F:HP}
theorem Sat.GI (h:Sat B w (star (ms P k e b n s) F)):∃ D,w.ownsMap P k (plainElem (H:=Unit) P e) b n D∧Marks D s∧B≤b:=by
 obtain⟨hp,⟨h1,h2,d,rfl,⟨es,clock,p,F',hs,ha⟩,q⟩,c⟩:=h;have h3:Sat B w (star (aC.one b (.map es clock)) F):=⟨_,⟨h1,h2,d,rfl,p,q⟩,c⟩;exact⟨_,⟨es,clock,(Sat.one h3).1,F',hs,rfl⟩,ha,(Sat.one h3).2⟩
theorem Sat.ZA (h:Sat B w (star (ms P k e b n s) F)) (hg:w.grownBy w' (some b)) {m:Nat} {D:DataW Unit} {g:List Int} (ho:w'.ownsMap P k (plainElem (H:=Unit) P e) b m D) (ha:Marks D g):Sat B w' (star (ms P k e b m g) F):=by
 obtain⟨hp,⟨h1,h2,d,rfl,⟨es,clock,p,F',hs,ha'⟩,q⟩,c⟩:=h;have h3:Sat B w (star (aC.one b (.map es clock)) F):=⟨_,⟨h1,h2,d,rfl,p,q⟩,c⟩;obtain⟨es',clock',hb',F2,hs',rfl⟩:=ho;have h4:=Sat.put h3 hb' fun i hi hlt=>hg.block i hlt (by simpa using hi);obtain⟨hp,⟨h1,h2,d,rfl,p,q⟩,c⟩:=h4;exact⟨_,⟨h1,h2,d,rfl,⟨es',clock',p,F2,hs',ha⟩,q⟩,c⟩
theorem St.afb (h:St B w0 w F):St B w0 (w.alloc (.map #[] 0)) (star (ms P k e w.heap.size 0 []) F):=by
 refine⟨h.below.alloc h.base _,by have:=h.base;simp;omega,?_⟩;have h1:=h.sat.new h.base (.map #[] 0);obtain⟨hp,⟨h1,h2,d,rfl,p,q⟩,c⟩:=h1;obtain⟨es,clock,hb,F',hs,hD⟩:=World.ownsMap_made w P k (plainElem (H:=Unit) P e);rw[heap_alloc_new] at hb;simp only[Option.some.injEq,Obj.map.injEq] at hb;obtain⟨rfl,rfl⟩:=hb;exact⟨_,⟨h1,h2,d,rfl,⟨_,_,p,F',hs,⟨fun x=>rfl,fun x=>rfl⟩⟩,q⟩,c⟩
theorem St.ab7 (h:St B w0 w (star (ms P k e b n s) F)) (K:Keyed P k) (ht:P.underlying t=some (.map k e)) (hk:P.underlying k=some (.int .i64)) (he:P.underlying e=some (.int .i64)) (hz:∀ w,(zeroValue e).run P w=.ok (.int .i64 0) w)
  (x:Int) (hx:(Lit.int .i64 x).wf=true):(Instr.lookup t (.map (some b)) (.int .i64 x) false).run P w=.ok (.int .i64 (if x∈s then 1 else 0)) w:=by
 obtain⟨D,ho,ha,_⟩:=h.sat.GI;obtain⟨c,hrun,hat,_⟩:=ho.lookup_int K ht he (hz w) (keyOf_int_mk hk hx);rw[ha.val x] at hat
 simp only[DataW.lit.injEq,Lit.int.injEq,true_and] at hat
 rw[hrun,hat]
theorem wQ {ops:Array Oper} {rest:List Oper} {o:Oper} {a:Act} {Q:Exit→Act→World→Prop} (hg:o.guard=none) (m x v:Operand) (hop:o.op=Op.mapUpdate t m x v)
  (h:St B w0 w (star (ms P k e b n s) F)) (K:Keyed P k) (ht:P.underlying t=some (.map k e)) (hk:P.underlying k=some (.int .i64)) (he:P.underlying e=some (.int .i64)) (hn:n<maxLen)
  (y:Int) (hm:a.eval m=.map (some b)) (hx:a.eval x=.int .i64 y) (hv:a.eval v=.int .i64 1) (hy:(Lit.int .i64 y).wf=true)
  (hK:∀ w',St B w0 w' (star (ms P k e b (n+1) (s++[y])) F)→w.grownBy w' (some b)→wpList P ops Q rest (a.put o.dst undef) w') :
  wpList P ops Q (o :: rest) a w:=by
 obtain⟨D,ho,ha,hB⟩:=h.sat.GI;refine wpList_mapUpdate_own w hg m x v t hop k e K ht _ b n D hm ho hn _ _ (.int .i64 y) hx hv (keyOf_int_mk hk hy) (.lit (.int .i64 1)) [] (plainElem_int he (by decide)) ?_;intro w' h1 h2;refine hK w' ⟨h.below.trans ⟨h2.os,h2.tape,h2.output,h2.size,fun i hi=>h2.block i (Nat.lt_of_lt_of_le hi h.base) (by simp;omega)⟩,Nat.le_trans h.base h2.size,h.sat.ZA h2 h1 ?_⟩ h2;have hmap:Maps.IsMap D:=by obtain⟨es,clock,_,_,_,rfl⟩:=ho;exact⟨_,rfl⟩
 constructor
 ·intro u
  by_cases hu:u=y
  ·subst hu;rw[Maps.has_put_same hmap (by trivial)];simp
  ·rw[Maps.has_put_other (by simpa using hu),ha.has u];simp[hu]
 ·intro u
  by_cases hu:u=y
  ·subst hu;rw[Maps.atKey_put_same hmap (by trivial)];simp
  ·rw[Maps.atKey_put_other (by simpa using hu),ha.val u];simp[hu]
theorem Iy {ops:Array Oper} {rest:List Oper} {o:Oper} {a:Act} {Q:Exit→Act→World→Prop} (hg:o.guard=none) (m x:Operand) (hop:o.op=Op.call { callee:=Callee.builtin Builtin.delete,args:=#[m,x],argTypes:=#[t,k] })
  (h:St B w0 w (star (ms P k e b n s) F)) (K:Keyed P k) (ht:P.underlying t=some (.map k e)) (hk:P.underlying k=some (.int .i64))
  (y:Int) (hm:a.eval m=.map (some b)) (hx:a.eval x=.int .i64 y) (hy:(Lit.int .i64 y).wf=true)
  (hK:∀ w',St B w0 w' (star (ms P k e b n (s.filter fun z=>z != y)) F)→w.grownBy w' (some b)→wpList P ops Q rest (a.put o.dst (.tuple #[])) w') :
  wpList P ops Q (o :: rest) a w:=by
 obtain⟨D,ho,ha,hB⟩:=h.sat.GI;refine wpList_delete_own w hg m x t k hop e K ht _ b n D hm ho _ (.int .i64 y) hx (keyOf_int_mk hk hy) ?_;intro w' h1 h2;have hg2:w.grownBy w' (some b):=h2.grown;refine hK w' ⟨h.below.trans ⟨hg2.os,hg2.tape,hg2.output,hg2.size,fun i hi=>hg2.block i (Nat.lt_of_lt_of_le hi h.base) (by simp;omega)⟩,Nat.le_trans h.base hg2.size,h.sat.ZA hg2 h1 ?_⟩ hg2
 constructor
 ·intro u
  by_cases hu:u=y
  ·subst hu;rw[Maps.has_del_same];simp
  ·rw[Maps.has_del_other (by simpa using hu),ha.has u];simp[hu]
 ·intro u
  by_cases hu:u=y
  ·subst hu;rw[Maps.atKey_del_same];simp
  ·rw[Maps.atKey_del_other (by simpa using hu),ha.val u];simp[hu]
theorem St.afc (h:St B w0 w (star (ms P k e b n s) F)):∃ es clock,w.heap[b]?=some (.map es clock):=by
 obtain⟨D,⟨es,clock,hb,_⟩,_⟩:=h.sat.GI;exact⟨es,clock,hb⟩
theorem ZB {A:Option Addr} {m:Nat} {d:List Int} (hr:Rd w A m d) (h:St B w0 w (star (ms P k e b n s) F)) (hg:w.grownBy w' (some b)):Rd w' A m d:=by
 obtain⟨es,clock,hb⟩:=h.afc;refine⟨hr.len,hr.small,fun hp=>?_⟩;obtain⟨bd,od,e,hc⟩:=hr.cells hp;refine⟨bd,od,e,fun j hj=>?_⟩
 have hne:bd≠b:=fun e=>by
  have h0:=hc 0 hp;subst e;simp[World.cell?,hb] at h0
 rw[←hc j hj];unfold World.cell?;rw[hg.block bd (World.block_lt_of_cell? w _ (hc 0 hp)) (by simpa using hne)]
end
end Go.Proofs.aC
namespace Go.Proofs.YthbbmdnfkkffjaaGreat
open Go.RowKit Go.Shelf Go.Proofs.aC Go.Proofs.au
theorem R7 {xs:List Int} (h:∀ x∈xs,gH x=true):qh xs=some (JU xs):=by
 obtain⟨s,h1,h2,h3⟩:=BU h;obtain⟨w1,w2⟩:=R5 xs;rw[h1,kV.ext h2 w1 fun z=>by rw[h3,w2]]
def ZC (w:World) (xs:List Int) (e:Ending) (w':World):Prop :=
 Below w.heap.size w w'∧(∀ s,qh xs=some s→∃ A c,e=.returned (.tuple #[.slice A s.length c,.bool true])∧Rd w' A s.length s) ∧
  (qh xs=none→e=.returned (.tuple #[.slice none 0 0,.bool false]))
theorem ZE (A:Option Addr) (n c:Nat) (xs:List Int) (w:World) (hr:Rd w A n xs) (hn:n≤1000000) :
  Calls Tryz.prog 117 #[.slice A n c] w (ZC w xs):=by
 have HR:=zH hr;clear hr
 go_enter Tryz.func117,Tryz.ntmps117
 go_wp2
 go_loop [8] (fun v8=>∃ k:Nat,k≤n∧v8=.int .i64 k∧Hid (∀ i,i<k→gH (gi xs i)=true)) (fun v8=>n-(intOf v8).toNat)
 case atStart=>exact⟨0,Nat.zero_le _,rfl,(fun i hi=>absurd hi (Nat.not_lt_zero i):∀ i,i<0→_)⟩
 case round =>
  obtain⟨k,hk,rfl,fA⟩:=hrel
  by_cases hkn:k<n
  ·obtain⟨b,o,hA,hc⟩:=HR.out.cells (by omega);subst hA;have d1:=hc k hkn;obtain⟨x,hx⟩:∃ x,gi xs k=x:=⟨_,rfl⟩;rw[hx] at d1;have hmem:x∈xs:=by rw[←hx,dh xs k (by have:=HR.out.len;omega)];exact List.getElem_mem _
   have k0:(0:Int)≤(k:Int):=by omega
   have k1:(k:Int)<(n:Int):=by omega
   have HX:=zH hx;have hbad:gH x=false→qh xs=none:=fun h=>yT xs [] ⟨x,hmem,h⟩;have HBAD:=zH hbad;clear hc hx hmem hbad
   by_cases h0:x=0
   ·have e0:(x==0)=true:=by simpa using h0
    have hs:=HBAD.out (by rw[h0];decide);have HS:=zH hs;clear hs h0
    go_wp2
    go_ret2
    exact⟨Below.refl _ _,fun s h=>(by rw[HS.out] at h;cases h),fun _=>rfl⟩
   ·have e0:(x==0)=false:=by simpa using h0
    by_cases h1:x< -2147483647
    ·have e1:decide (x< -2147483647)=true:=by simpa using h1
     have hs:=HBAD.out (by simp[gH];omega);have HS:=zH hs;clear hs h0
     go_wp2
     go_ret2
     exact⟨Below.refl _ _,fun s h=>(by rw[HS.out] at h;cases h),fun _=>rfl⟩
    ·have e1:decide (x< -2147483647)=false:=by simpa using h1
     by_cases h2:2147483647<x
     ·have e2:decide (2147483647<x)=true:=by simpa using h2
      have hs:=HBAD.out (by simp[gH];omega);have HS:=zH hs;clear hs h0
      go_wp2
      go_ret2
      exact⟨Below.refl _ _,fun s h=>(by rw[HS.out] at h;cases h),fun _=>rfl⟩
     ·have e2:decide (2147483647<x)=false:=by simpa using h2
      have hok:gH x=true:=lF.2 ⟨h0,by omega,by omega⟩;have ae9:=zH hok;clear hok h0
      go_wp2
      go_round
      case rel =>
       refine⟨k+1,by omega,by go_num,(fun i hi=>?_:∀ i,i<k+1→gH (gi xs i)=true)⟩
       by_cases e:i=k
       ·rw[e,HX.out];exact ae9.out
       ·exact fA.out i (by omega)
      case measure=>simp[intOf];omega
  ·obtain rfl:k=n:=by omega
   have hall:∀ x∈xs,gH x=true:=fun x hx=>by
    obtain⟨i,hi,rfl⟩:=List.getElem_of_mem hx;have:=fA.out i (by have:=HR.out.len;omega)
    rwa [dh xs i hi] at this
   have hs:=R7 hall;have HS:=zH hs;have hl:=HR.out.len;have hwl:(JU xs).length≤xs.length:=AJ hs;have HL:=zH hl;have jK:=zH hwl;clear hall hs hl hwl fA
   go_wp2_with fail
   refine (Ru A k c _).mono ?_
   rintro e w2 ⟨rfl,rfl⟩
   go_wp2_with fail
   refine (Rv A k c xs _ HR.out hn).mono ?_
   rintro e w3 ⟨sa,sc,rfl,h3⟩
   have H3:=zH (h3.aB (aQ _).symm);clear h3;unfold iB
   go_wp2_with fail
   refine (Ny sa sc (sorted xs) H3.out (by rw[iq,HL.out];omega)).mono ?_
   rintro e w4 ⟨rfl,h4⟩
   have hrd:=St.rd (xs:=JU xs) h4 (by have:=jK.out;have:=HL.out;omega);have Gs:=zH hrd;have HB4:=zH h4.below;clear hrd h4;unfold iB
   go_wp2
   go_ret2
   refine⟨HB4.out,fun s h=>?_,fun h=>(by rw[HS.out] at h;cases h)⟩;rw[HS.out] at h
   cases h
   exact⟨_,sc,rfl,Gs.out⟩
theorem Tryz.vw:Go.Maps.Keyed Tryz.prog 3:=Go.Maps.int_keyed Tryz.underlying3
theorem Tryz.ab8 (m:Nat):AnyZI.SortsIn Tryz.prog Tryz.Cy Fence.wide m :=
 ⟨fun blk off cap ss W hH hblk hsz=>callsIn_wide.2 (Tryz.slices_Sort_int blk off cap ss W hH hblk hsz),fun p cap W=>callsIn_wide.2 (Tryz.slices_Sort_int_none p cap W)⟩
theorem ZF (b:Option Nat) (w:World) :
  Calls Tryz.prog 113 #[.map b] w fun e w'=>e=.returned (.func (.func 120) #[] #[.pointer (some ⟨w.heap.size,0,none⟩)])∧w'=w.alloc (.cells #[.map b] 102) :=
 (callsIn_wide (n:=5)).1 (AnyZI.keys_in Tryz.ac8 Fence.wide 5 trivial rfl b w)
theorem GJ {B:Nat} {w0 w:World} {F:HP} {b n:Nat} {s e:List Int} (h:St B w0 w (star (ms Tryz.prog 3 3 b n s) F)) (he:gD e) (hm:∀ z,z∈e↔z∈s) (hl:e.length≤1000000000000) :
  Calls Tryz.prog 112 #[.func (.func 120) #[] #[.pointer (some ⟨w.heap.size,0,none⟩)]] (w.alloc (.cells #[.map (some b)] 102)) fun r w'=>∃ A c,r=.returned (.slice A e.length c)∧Below w.heap.size w w'∧Rd w' A e.length e:=by
 obtain⟨D,hown,hmk,_⟩:=h.sat.GI
 have hperm:e.Perm (intKeys D):=by
  have hc:CollectedI D (fun _=>false) e:=⟨he.nodup,fun x=>by rw[hmk.has x];simp[hm]⟩;exact hc.perm hown Tryz.vw Tryz.underlying3 (fun _=>rfl)
 have hsize:Maps.size D=e.length:=by
  obtain⟨es,clock,_,_,_,rfl⟩:=hown;have:=hperm.length_eq;rw[this];simp[intKeys,Maps.size_eq]
 have hbl:=hown.lt
 have hseq:SeqGives Fence.wide 2 Tryz.prog 120 #[.pointer (some ⟨w.heap.size,0,none⟩)] encZ (fun ss=>ss.Perm (intKeys D)) (Maps.size D) (w.alloc (.cells #[.map (some b)] 102)) :=
  AnyZI.keys_gives (ρ:=Tryz.JF) { Tryz.ac8 with } Fence.wide _ trivial rfl (by omega) w.heap.size b n D _ (by simp) (by simp) (by
   obtain⟨es,clock,hb,Ft,hs,hD⟩:=hown
   exact⟨es,clock,(Below.heap_alloc _ _ b hbl).trans hb,Ft,hs,hD⟩)
 have cS:=AnyZI.sorted_in Tryz.abM Fence.wide 5 trivial trivial trivial trivial rfl (by omega) (Tryz.ab8 _) (enters_of Tryz.func119 (by kernel_rfl) rfl) 120 #[.pointer (some ⟨w.heap.size,0,none⟩)] trivial (enters_of Tryz.func120 (by kernel_rfl) rfl) _ _ (by rw[hsize];unfold maxLen;omega) (by rw[hsize];omega) _ hseq;change CallsIn _ _ Tryz.prog 112 _ _ _ at cS;refine ((callsIn_wide (n:=5)).1 cS).mono ?_
 rintro r w' ⟨v,ss,rfl,hS,hrow,_,hb⟩
 have hpe:ss.Perm e:=hS.trans hperm.symm
 have ab9:ss.mergeSort (fun x y=>decide (x≤y))=e:=by
  have h1:kV (sorted ss):=Lr (hpe.nodup_iff.2 he.nodup);exact kV.ext h1 he.rises fun z=>(GA ss z).trans hpe.mem_iff
 rw[ab9,hpe.length_eq] at hrow;have hbb:Below w.heap.size w w':=((Below.refl _ w).alloc (Nat.le_refl _) _).trans (hb.mono (by simp));obtain⟨a,c,rfl,hst⟩:=St.ofRow hb (Nat.le_refl _) hrow;refine⟨a.map fun b=>⟨b,0,none⟩,c,rfl,hbb,?_⟩;have h2:St _ _ w' (star (bO 3 a c e) emp):=hst.aB (aQ _).symm;exact St.rd h2 (by omega)
end Go.Proofs.YthbbmdnfkkffjaaGreat
namespace Go.Proofs.YthbbmdnfkkffjaaGreat
open Go.RowKit Go.Proofs.aC Go.Proofs.au
def sW (s d:List Int) (j:Nat):Nat:=(qF s (d.take j)).length
def CS (s d:List Int) (j:Nat):Int:=match (qF s (d.take j)).getLast? with
 | none=>0
 | some l=>-l
theorem JY (s d:List Int) (x:Int):qF s (d++[x])=if hasB s (-x) then qF s d++[x] else qF s d:=by
 unfold qF;rw[List.filter_append]
 cases h:hasB s (-x) <;> simp[h]
theorem Pj {s d:List Int} {j:Nat} (h:j<d.length):sW s d (j+1)=if hasB s (-gi d j) then sW s d j+1 else sW s d j:=by
 unfold sW;rw[gV d j h,JY]
 split <;> simp
theorem R9 {s d:List Int} {j:Nat} (h:j<d.length):CS s d (j+1)=if hasB s (-gi d j) then -gi d j else CS s d j:=by
 unfold CS;rw[gV d j h,JY]
 by_cases hb:hasB s (-gi d j)=true
 ·rw[if_pos hb,if_pos hb,List.getLast?_concat]
 ·rw[if_neg hb,if_neg hb]
theorem Lu {x:Int} (h:gH x=true):(Lit.int .i64 x).wf=true:=by
 rw[lF] at h;simp[Lit.wf,IntKind.min,IntKind.max,IntKind.bits,IntKind.signed];omega
theorem acd {B:Nat} {w0 w:World} {F:HP} {b n n':Nat} {s:List Int} (h:St B w0 w (star (ms Tryz.prog 3 3 b n s) F)) (hn:n≤n'):St B w0 w (star (ms Tryz.prog 3 3 b n' s) F):=by
 refine⟨h.below,h.base,?_⟩;obtain⟨hp,⟨h1,h2,d,rfl,⟨es,clock,p,F',hs,ha⟩,q⟩,c⟩:=h.sat
 exact⟨_,⟨h1,h2,d,rfl,⟨es,clock,p,F',by omega,ha⟩,q⟩,c⟩
theorem Pk {w w1 w2:World} {r:Option Nat} (h:w.grownBy w1 r) (k:w1.grownBy w2 r):w.grownBy w2 r :=
 ⟨k.os.trans h.os,k.tape.trans h.tape,k.output.trans h.output,Nat.le_trans h.size k.size,fun i hi hne=>(k.block i (Nat.lt_of_lt_of_le hi h.size) hne).trans (h.block i hi hne)⟩
def ace (B:Nat) (w0 w:World) (b n:Nat) (s d:List Int) (F:HP) (e:Ending) (w':World):Prop :=
 (∀ l,qF s d=[l]→e=.returned (.bool true)∧w.grownBy w' (some b)∧∃ t,St B w0 w' (star (ms Tryz.prog 3 3 b (n+d.length) t) F)∧∀ z,z∈t↔(z∈s∧z≠-l)∨(z∈d∧z≠l)) ∧
 ((qF s d).length≠1→e=.returned (.bool false)∧St B w0 w' F)
theorem Lv {B:Nat} {w0 w:World} {F:HP} {b n:Nat} {s:List Int} (h:St B w0 w (star (ms Tryz.prog 3 3 b n s) F)) (A:Option Addr) (m c:Nat) (d:List Int)
  (hrd:Rd w A m d) (hok:∀ x∈d,gH x=true) (hn:n+m≤1000000000000) (hm:m≤1000000) :
  Calls Tryz.prog 111 #[.map (some b),.slice A m c] w (ace B w0 w b n s d F):=by
 have H:=zH h;have fA:=zH hok;have hlen:=hrd.len;have HLEN:=zH hlen;have HR:=zH hrd;clear h hrd hok hlen
 go_enter Tryz.func111,Tryz.ntmps111
 go_wp2
 go_loop [5,6,13] (fun v5 v6 v13=>∃ j:Nat,j≤m∧v13=.int .i64 j∧(∃ q:Nat,q≤j∧v5=.int .i64 q∧Hid (sW s d j=q))∧∃ x:Int,v6=.int .i64 x∧Hid (CS s d j=x)) (fun _ _ v13=>m-(intOf v13).toNat)
 case atStart=>exact⟨0,Nat.zero_le _,rfl,⟨0,Nat.le_refl _,rfl,(rfl:sW s d 0=0)⟩,0,rfl,(rfl:CS s d 0=0)⟩
 case round =>
  obtain⟨j,hj,rfl,⟨q,hq,rfl,HQ⟩,x,rfl,HX⟩:=hrel
  by_cases hjm:j<m
  ·obtain⟨bd,od,hA,hc⟩:=HR.out.cells (by omega);subst hA;have d1:=hc j hjm;obtain⟨l,hl⟩:∃ l,gi d j=l:=⟨_,rfl⟩;rw[hl] at d1;have GK:gH l=true:=by rw[←hl,dh d j (by rw[HLEN.out];exact hjm)];exact fA.out _ (List.getElem_mem _)
   have hwf:=Lu (JW GK);obtain⟨_,l1,l2⟩:=lF.1 GK;have MG:=St.ab7 H.out Tryz.vw Tryz.underlying102 Tryz.underlying3 Tryz.underlying3 Tryz.vZ (-l) hwf;have hfs:=Pj (s:=s) (d:=d) (j:=j) (by rw[HLEN.out];exact hjm);have hls:=R9 (s:=s) (d:=d) (j:=j) (by rw[HLEN.out];exact hjm);rw[hl] at hfs hls;have hwr:IntKind.i64.wrap (-l)=-l:=IntWalk.i64_in _ (by omega);have j0:(0:Int)≤(j:Int):=by omega
   have j1:(j:Int)<(m:Int):=by omega
   have Wm:=zH hfs;have Qu:=zH hls
   cases hb:hasB s (-l) with
   | true =>
    rw[if_pos (dO.1 hb)] at MG;have HB:=zH hb;clear hc hl GK hwf hfs hls hb
    go_wp2
    go_round
    case rel=>exact⟨j+1,by omega,by go_num,⟨q+1,by omega,by go_num,(by rw[Wm.out,HB.out,HQ.out];rfl:sW s d (j+1)=q+1)⟩,-l,rfl,(by rw[Qu.out,HB.out];rfl:CS s d (j+1)=-l)⟩
    case measure=>simp[intOf];omega
   | false =>
    rw[if_neg (fun h=>by rw[dO.2 h] at hb;cases hb)] at MG;have HB:=zH hb;clear hc hl GK hwf hfs hls hb
    go_wp2
    go_round
    case rel=>exact⟨j+1,by omega,by go_num,⟨q,by omega,rfl,(by rw[Wm.out,HB.out];exact HQ.out:sW s d (j+1)=q)⟩,x,rfl,(by rw[Qu.out,HB.out];exact HX.out:CS s d (j+1)=x)⟩
    case measure=>simp[intOf];omega
  ·obtain rfl:j=m:=by omega
   have htk:d.take j=d:=List.take_of_length_le (by rw[HLEN.out];exact Nat.le_refl _);have hpl:(qF s d).length=q:=by have:=HQ.out;unfold sW at this;rwa [htk] at this
   have Wh:=zH hpl
   by_cases hq1:q=1
   ·subst hq1
    have hone:∃ l,qF s d=[l]∧x=-l:=by
     match hp:qF s d,hpl with
     | [l],_ =>
      refine⟨l,rfl,?_⟩;have:=HX.out;unfold CS at this;rw[htk,hp] at this;exact this.symm
    obtain⟨l,hp,hxl⟩:=hone;subst hxl;have hlm:l∈d:=(List.mem_filter.1 (show l∈qF s d by rw[hp];simp)).1;have GK:=fA.out l hlm;have hwf:=Lu (JW GK);obtain⟨_,l1,l2⟩:=lF.1 GK;have HP:=zH hp;have hwr:IntKind.i64.wrap (- -l)=l:=by rw[Int.neg_neg];exact IntWalk.i64_in _ (by omega)
    clear htk hpl hp hlm GK
    go_wp2_with (refine Iy rfl _ _ rfl H.out Tryz.vw Tryz.underlying102 Tryz.underlying3 (-l) rfl rfl hwf ?_;intro w2 h2 hg2;have H2:=zH h2;have HG2:=zH hg2;clear h2 hg2)
    go_loopw [33] (fun v33 wr=>∃ i:Nat,i≤j∧v33=.int .i64 i∧∃ t:List Int,Hid (w.grownBy wr (some b))∧Hid (St B w0 wr (star (ms Tryz.prog 3 3 b (n+i) t) F))∧Hid (∀ z,z∈t↔(z∈s∧z≠-l)∨(z∈d.take i∧z≠l))) (fun v33 _=>j-(intOf v33).toNat)
    case atStart=>exact⟨0,Nat.zero_le _,rfl,s.filter (fun z=>z != -l),HG2.out,H2.out,(fun z=>by simp[List.mem_filter]:∀ z,z∈s.filter (fun z=>z != -l)↔(z∈s∧z≠-l)∨(z∈d.take 0∧z≠l))⟩
    case round =>
     obtain⟨i,hi,rfl,t,HG,HST,HT⟩:=hrel
     by_cases hij:i<j
     ·obtain⟨bd,od,hA,hc⟩:=(ZB HR.out H.out HG.out).cells (by omega);subst hA;have d1:=hc i hij;obtain⟨y,hy⟩:∃ y,gi d i=y:=⟨_,rfl⟩;rw[hy] at d1;have aiB:gH y=true:=by rw[←hy,dh d i (by rw[HLEN.out];exact hij)];exact fA.out _ (List.getElem_mem _)
      have amE:=Lu aiB;have Zv:d.take (i+1)=d.take i++[y]:=by rw[gV d i (by rw[HLEN.out];exact hij),hy]
      have qH:=zH Zv;have i0:(0:Int)≤(i:Int):=by omega
      have i1:(i:Int)<(j:Int):=by omega
      clear hc hy aiB Zv
      by_cases hyl:y=l
      ·have e0:(y != l)=false:=by simpa using hyl
       go_wp2
       go_roundw
       case rel =>
        refine⟨i+1,by omega,by go_num,t,HG.out,(?_:St B w0 wr (star (ms Tryz.prog 3 3 b (n+(i+1)) t) F)),(fun z=>?_:∀ z,z∈t↔(z∈s∧z≠-l)∨(z∈d.take (i+1)∧z≠l))⟩
        ·exact acd HST.out (by omega)
        ·rw[HT.out,qH.out,List.mem_append,List.mem_singleton]
         constructor
         ·rintro (h | ⟨h1,h2⟩)
          ·exact .inl h
          ·exact .inr ⟨.inl h1,h2⟩
         ·rintro (h | ⟨h1 | h1,h2⟩)
          ·exact .inl h
          ·exact .inr ⟨h1,h2⟩
          ·exact absurd (h1.trans hyl) h2
       case measure=>simp[intOf];omega
      ·have e0:(y != l)=true:=by simpa using hyl
       have Ve:=zH hyl;clear hyl
       go_wp2_with (refine wQ rfl _ _ _ rfl HST.out Tryz.vw Tryz.underlying102 Tryz.underlying3 Tryz.underlying3 (by unfold maxLen;omega) y rfl rfl rfl amE ?_;intro w3 h3 hg3;have H3:=zH h3;have HG3:=zH (Pk HG.out hg3);clear h3 hg3)
       go_roundw
       case rel =>
        refine⟨i+1,by omega,by go_num,t++[y],HG3.out,H3.out,(fun z=>?_:∀ z,z∈t++[y]↔(z∈s∧z≠-l)∨(z∈d.take (i+1)∧z≠l))⟩;rw[qH.out,List.mem_append,List.mem_append,List.mem_singleton,HT.out]
        constructor
        ·rintro ((h | ⟨h1,h2⟩) | h)
         ·exact .inl h
         ·exact .inr ⟨.inl h1,h2⟩
         ·exact .inr ⟨.inr h,by rw[h];exact Ve.out⟩
        ·rintro (h | ⟨h1 | h1,h2⟩)
         ·exact .inl (.inl h)
         ·exact .inl (.inr ⟨h1,h2⟩)
         ·exact .inr h1
       case measure=>simp[intOf];omega
     ·obtain rfl:i=j:=by omega
      have htk:d.take i=d:=List.take_of_length_le (by rw[HLEN.out];exact Nat.le_refl _);have qH:=zH htk;clear htk
      go_wp2
      go_ret
      refine⟨fun l' hl'=>⟨rfl,HG.out,t,?_,?_⟩,fun h=>absurd (by rw[HP.out];rfl) h⟩
      ·rw[HLEN.out];exact HST.out
      ·rw[HP.out] at hl'
       cases hl'
       intro z;rw[HT.out,qH.out]
   ·have e0:((q:Int) != 1)=true:=by simp;omega
    clear htk hpl
    go_wp2
    go_ret
    exact⟨fun l hl=>(by have:=Wh.out;rw[hl] at this;exact absurd this.symm hq1),fun _=>⟨rfl,H.out.wH⟩⟩
structure JZ (V:World) (p:Nat) (AG:Option Addr) (nG cG:Nat) (AD:Option Addr) (nD cD:Nat) (G D:List (List Int)):Prop where
 c0:V.cell? ⟨p,0,none⟩=some (.slice AG nG cG)
 c1:V.cell? ⟨p,1,none⟩=some (.slice AD nD cD)
 rg:um V AG nG G
 rd:um V AD nD D
theorem JZ.grow {V V':World} {p:Nat} {AG:Option Addr} {nG cG:Nat} {AD:Option Addr} {nD cD:Nat} {G D:List (List Int)} (h:JZ V p AG nG cG AD nD cD G D) (hb:Below V.heap.size V V'):JZ V' p AG nG cG AD nD cD G D :=
 ⟨(hb.cell (World.block_lt_of_cell? V _ h.c0)).trans h.c0,(hb.cell (World.block_lt_of_cell? V _ h.c1)).trans h.c1,h.rg.grow hb,h.rd.grow hb⟩
def GL (w:World) (r:Option (List Int)) (e:Ending) (w':World):Prop :=
 Below w.heap.size w w'∧(∀ c,r=some c→∃ A k,e=.returned (.tuple #[.slice A c.length k,.bool true])∧Rd w' A c.length c) ∧
  (r=none→e=.returned (.tuple #[.slice none 0 0,.bool false]))
theorem iT {w w':World} {r:Option (List Int)} (hb:Below w.heap.size w w') (h:r=none):GL w r (.returned (.tuple #[.slice none 0 0,.bool false])) w' :=
 ⟨hb,fun c hc=>(by rw[h] at hc;cases hc),fun _=>rfl⟩
theorem mq (w:World) (n:Nat):Below w.heap.size w (w.drewN n):=⟨rfl,rfl,rfl,Nat.le_refl _,fun _ _=>rfl⟩
theorem Pm (p:Nat) (AG:Option Addr) (nG cG:Nat) (AD:Option Addr) (nD cD:Nat) (G D:List (List Int)) (q:Int) (w:World) (h:JZ w p AG nG cG AD nD cD G D) (hG:nG≤1000000) (hD:nD≤1000000) (hGs:∀ g∈G,g.length≤1000000) :
  Calls Tryz.prog 110 #[.pointer (some ⟨p,0,none⟩),.int .i64 q] w (GL w (bP G D q)):=by
 have c0:=h.c0;have c1:=h.c1;have H:=zH h;have HGS:=zH hGs;have hlG:=h.rg.len;have hlD:=h.rd.len;have HLG:=zH hlG;have HLD:=zH hlD;clear h hGs hlG hlD
 by_cases h0:q<0
 ·have e0:decide (q<0)=true:=by simpa using h0
  have hn:bP G D q=none:=by unfold bP;rw[if_pos (.inl h0)]
  have HN:=zH hn;clear hn
  go_enter Tryz.func110,Tryz.ntmps110
  go_wp2
  go_quiet (fail)
  go_wp2
  go_ret2
  exact iT (mq _ _) HN.out
 ·have e0:decide (q<0)=false:=by simpa using h0
  by_cases h1:(nG:Int)+nD≤q
  ·have e1:decide ((nG:Int)+(nD:Int)≤q)=true:=by simpa using h1
   have hn:bP G D q=none:=by unfold bP;rw[if_pos (.inr (by rw[HLG.out,HLD.out];exact h1))]
   have HN:=zH hn;clear hn
   go_enter Tryz.func110,Tryz.ntmps110
   go_wp2
   go_quiet (fail)
   go_wp2
   go_ret2
   exact iT (mq _ _) HN.out
  ·have e1:decide ((nG:Int)+(nD:Int)≤q)=false:=by simpa using h1
   obtain⟨Q,rfl⟩:∃ Q:Nat,q=Q:=⟨q.toNat,by omega⟩
   by_cases h2:Q<nG
   ·have e2:decide ((Q:Int)<(nG:Int))=true:=by simp;omega
    have hc:bP G D Q=qh (gl G Q):=by
     unfold bP;rw[if_neg (by rw[HLG.out,HLD.out];omega),if_pos (by rw[HLG.out];omega),Int.toNat_natCast]
    obtain⟨bg,og,hA,hcell⟩:=H.out.rg.cells (by omega);subst hA;obtain⟨Aj,cj,d1,kC⟩:=hcell Q h2;have hsm:(gl G Q).length≤1000000:=HGS.out _ (by rw[jq G Q (by rw[HLG.out];exact h2)];exact List.getElem_mem _);obtain⟨xs,hxs⟩:∃ xs,gl G Q=xs:=⟨_,rfl⟩;obtain⟨ln,hln⟩:∃ ln,xs.length=ln:=⟨_,rfl⟩;rw[hxs,hln] at d1 kC hsm;rw[hxs] at hc;have HC:=zH hc;have Gy:=zH kC;have q0:(0:Int)≤(Q:Int):=by omega
    have q1:(Q:Int)<(nG:Int):=by omega
    clear hcell hxs hln hc kC
    go_enter Tryz.func110,Tryz.ntmps110
    go_wp2
    go_quiet (fail)
    go_wp2_with fail
    refine (ZE Aj ln cj xs (w.drewN nq) (Gy.out.drawn ⟨nq,rfl⟩) hsm).mono ?_
    rintro e w2 ⟨hb,hgood,hbad⟩
    have HB:=zH ((mq w nq).trans hb);have jL:=zH hgood;have HBAD:=zH hbad;clear hb hgood hbad
    cases hs:qh xs with
    | none =>
     have he:=HBAD.out hs;subst he;have HS:=zH hs;clear hs
     go_wp2
     go_ret2
     exact iT HB.out (HC.out.trans HS.out)
    | some s =>
     obtain⟨A,k,rfl,hrd⟩:=jL.out s hs;have Gs:=zH hrd;have HS:=zH hs;clear hs hrd
     go_wp2
     go_ret2
     refine⟨HB.out,fun c hc=>?_,fun hc=>(by rw[HC.out,HS.out] at hc;cases hc)⟩;rw[HC.out,HS.out] at hc
     cases hc
     exact⟨A,k,rfl,Gs.out⟩
   ·have e2:decide ((Q:Int)<(nG:Int))=false:=by simp;omega
    have hc:bP G D Q=some (gl D (Q-nG)):=by
     unfold bP;rw[if_neg (by rw[HLG.out,HLD.out];omega),if_neg (by rw[HLG.out];omega),HLG.out]
     congr 2
     omega
    obtain⟨t,ht⟩:∃ t:Nat,(Q:Int)-(nG:Int)=t:=⟨Q-nG,by omega⟩;have htn:t<nD:=by omega
    obtain⟨bg,og,hA,hcell⟩:=H.out.rd.cells (by omega);subst hA;obtain⟨Aj,cj,d1,kC⟩:=hcell t htn;rw[show Q-nG=t by omega] at hc;obtain⟨xs,hxs⟩:∃ xs,gl D t=xs:=⟨_,rfl⟩;obtain⟨ln,hln⟩:∃ ln,xs.length=ln:=⟨_,rfl⟩;rw[hxs,hln] at d1 kC;rw[hxs] at hc;have HC:=zH hc;have fP:=zH hln;have Gy:=zH kC;have q0:(0:Int)≤(t:Int):=by omega
    have q1:(t:Int)<(nD:Int):=by omega
    have hwr:IntKind.i64.wrap ((Q:Int)-(nG:Int))=(t:Int):=by rw[ht];exact IntWalk.i64_in _ (by omega)
    clear hcell hxs hln hc kC
    go_enter Tryz.func110,Tryz.ntmps110
    go_wp2
    go_quiet (fail)
    revert nq;intro nqa
    go_wp2
    go_quiet (fail)
    go_wp2
    go_ret2
    refine⟨(mq w nqa).trans (mq (w.drewN nqa) nq),fun c hc=>?_,fun hc=>(by rw[HC.out] at hc;cases hc)⟩;rw[HC.out] at hc
    cases hc
    exact⟨Aj,cj,by rw[fP.out];rfl,by rw[fP.out];exact Gy.out.heap rfl⟩
end Go.Proofs.YthbbmdnfkkffjaaGreat
