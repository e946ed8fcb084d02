/-
  Parts of the proof, joined by program: Pure, Sm, Sep.
-/
import Derived.WalkKit
import Derived.Lib.Hide
namespace Go.Proofs
theorem zH {p:Prop} (h:p):Go.RowKit.Hid p:=Go.Lib.hid h
end Go.Proofs
set_option maxHeartbeats 8000000
set_option maxRecDepth 100000
namespace Go.Proofs.au
def gi (xs:List Int) (k:Nat):Int:=xs.getD k 0
theorem dh (xs:List Int) (k:Nat) (h:k<xs.length):gi xs k=xs[k]:=by simp[gi,h]
theorem gT (xs:List Int) (k:Nat) (h:k<xs.length):xs[k]?=some (gi xs k):=by simp[gi,h]
def gl (xss:List (List Int)) (k:Nat):List Int:=xss.getD k []
theorem jq (xss:List (List Int)) (k:Nat) (h:k<xss.length):gl xss k=xss[k]:=by simp[gl,h]
theorem gV (xs:List Int) (k:Nat) (h:k<xs.length):xs.take (k+1)=xs.take k++[gi xs k]:=by
 rw[List.take_succ_eq_append_getElem h,dh xs k h]
theorem lI (xss:List (List Int)) (k:Nat) (h:k<xss.length):xss.take (k+1)=xss.take k++[gl xss k]:=by
 rw[List.take_succ_eq_append_getElem h,jq xss k h]
def hasB (xs:List Int) (x:Int):Bool:=xs.contains x
theorem DW {xs:List Int} {x:Int} {k:Nat} (h:k<xs.length):hasB (xs.take (k+1)) x=(hasB (xs.take k) x||gi xs k==x):=by
 rw[gV xs k h];unfold hasB;rw[Bool.eq_iff_iff];simp only[List.contains_iff_mem,List.mem_append,List.mem_singleton,Bool.or_eq_true,beq_iff_eq]
 constructor
 ·rintro (h | h);exact .inl h;exact .inr h.symm
 ·rintro (h | h);exact .inl h;exact .inr h.symm
theorem dO {xs:List Int} {x:Int}:hasB xs x=true↔x∈xs:=by unfold hasB;simp
theorem Kj {xs:List Int} {x:Int} {k:Nat} (h:hasB (xs.take k) x=true):hasB xs x=true :=
 dO.2 (List.mem_of_mem_take (dO.1 h))
def Wd (xs ys:List Int):Bool:=decide (xs=ys)
theorem aaE {xs ys:List Int} (h:xs.length≠ys.length):Wd xs ys=false:=by
 unfold Wd;simp;intro e;exact h (by rw[e])
theorem adA {xs ys:List Int} {k:Nat} (_hk:k<xs.length) (_hl:xs.length=ys.length) (h:gi xs k≠gi ys k):Wd xs ys=false:=by
 unfold Wd;simp;intro e;exact h (by rw[e])
theorem aaF {xs ys:List Int} (hl:xs.length=ys.length) (h:xs.take xs.length=ys.take xs.length):Wd xs ys=true:=by
 unfold Wd;rw[List.take_length,hl,List.take_length] at h;simpa using h
theorem SH {xs ys:List Int}:Wd xs ys=true↔xs=ys:=by unfold Wd;simp
theorem Kk (xs:List Int) (k:Nat) (h:k<xs.length):xs.drop k=gi xs k :: xs.drop (k+1):=by
 rw[dh xs k h];exact List.drop_eq_getElem_cons h
def Bb (k n:Int):Int:=if k.tmod n<0 then k.tmod n+n else k.tmod n
def ins (x:Int):List Int→List Int
 | []=>[x]
 | y :: r=>if y<x then y :: ins x r else if y=x then y :: r else x :: y :: r
def gH (x:Int):Bool:=decide (x≠0∧-2147483647≤x∧x≤2147483647)
def lQ:List Int→List Int→Option (List Int)
 | out,[]=>some out
 | out,x :: r=>if gH x then lQ (ins x out) r else none
def qh (xs:List Int):Option (List Int):=lQ [] xs
theorem Qf {x:Int}:∀ {out:List Int} {j:Nat},j≤out.length→(∀ i,i<j→gi out i<x)→(j<out.length→x<gi out j)→ins x out=out.take j++x :: out.drop j
 | [],j,hj,_,_=>by
  have:j=0:=by simpa using hj
  subst this;rfl
 | y :: r,0,_,_,h=>by
  have h0:x<y:=h (by simp);unfold ins;rw[if_neg (by omega),if_neg (by omega)];rfl
 | y :: r,j+1,hj,ha,h=>by
  have h0:y<x:=ha 0 (by omega);unfold ins;rw[if_pos h0,Qf (out:=r) (j:=j) (by simpa using hj) (fun i hi=>ha (i+1) (by omega)) (fun hi=>h (by simpa using hi))];rfl
theorem IJ {x:Int}:∀ {out:List Int} {j:Nat},j<out.length→(∀ i,i<j→gi out i<x)→gi out j=x→ins x out=out
 | [],j,hj,_,_=>by simp at hj
 | y :: r,0,_,_,h=>by
  have h0:y=x:=h;unfold ins;rw[if_neg (by omega),if_pos h0]
 | y :: r,j+1,hj,ha,h=>by
  have h0:y<x:=ha 0 (by omega);unfold ins;rw[if_pos h0,IJ (out:=r) (j:=j) (by simpa using hj) (fun i hi=>ha (i+1) (by omega)) h]
theorem DX (x:Int):∀ out:List Int,(ins x out).length≤out.length+1
 | []=>by simp[ins]
 | y :: r=>by
  have:=DX x r;unfold ins
  split
  ·simp;omega
  ·split <;> simp
theorem Wv {out xs:List Int} {k:Nat} (h:k<xs.length) (hx:gH (gi xs k)=true):lQ out (xs.drop k)=lQ (ins (gi xs k) out) (xs.drop (k+1)):=by
 rw[Kk xs k h,lQ,if_pos hx]
theorem Uo {out xs:List Int} {k:Nat} (h:k<xs.length) (hx:gH (gi xs k)=false):lQ out (xs.drop k)=none:=by
 rw[Kk xs k h,lQ,if_neg (by simp[hx])]
theorem IK {out xs:List Int} {k:Nat} (h:xs.length≤k):lQ out (xs.drop k)=some out:=by
 rw[List.drop_eq_nil_of_le h];rfl
theorem Ck (out:List Int) (z:Int):out++[z]=out.take out.length++z :: out.drop out.length:=by simp
theorem Qg {out:List Int} {j:Nat} (z:Int) (h0:0<j) (h:j≤out.length):(out.take j++z :: out.drop j).set j (gi out (j-1))=out.take (j-1)++gi out (j-1) :: out.drop (j-1):=by
 obtain⟨i,rfl⟩:∃ i,j=i+1:=⟨j-1,by omega⟩;simp only[Nat.add_sub_cancel];rw[gV out i (by omega),Kk out i (by omega)];rw[List.set_append,if_neg (by simp;omega)];simp only[List.append_assoc,List.singleton_append]
 congr 2
 have:i+1-(out.take i++[gi out i]).length=0:=by simp;omega
 rw[this];rfl
theorem Qh {out:List Int} {j:Nat} (z:Int) (h0:0<j) (h:j≤out.length):gi (out.take j++z :: out.drop j) (j-1)=gi out (j-1):=by
 unfold gi;simp only[List.getD_eq_getElem?_getD];rw[List.getElem?_append_left (by simp;omega),List.getElem?_take,if_pos (by omega)]
theorem IL {out:List Int} {j:Nat} (z x:Int) (h:j≤out.length):(out.take j++z :: out.drop j).set j x=out.take j++x :: out.drop j:=by
 rw[List.set_append,if_neg (by simp;omega)];have:j-(out.take j).length=0:=by simp;omega
 rw[this];rfl
end Go.Proofs.au
namespace Go.Proofs.aA
open Go.Proofs.au
def gn (l:List Nat) (k:Nat):Nat:=l.getD k 0
def gB (l:List Bool) (k:Nat):Bool:=l.getD k false
def gN (l:List (List Nat)) (k:Nat):List Nat:=l.getD k []
theorem fD (l:List Nat) (k:Nat) (h:k<l.length):gn l k=l[k]:=by simp[gn,h]
theorem aM (l:List Nat) (k:Nat) (h:k<l.length):l[k]?=some (gn l k):=by simp[gn,h]
theorem jy (l:List Bool) (k:Nat) (h:k<l.length):l[k]?=some (gB l k):=by simp[gB,h]
theorem aaG (l:List (List Nat)) (k:Nat) (h:k<l.length):l[k]?=some (gN l k):=by simp[gN,h]
theorem aU (l:List Nat) (k:Nat) (h:k<l.length):gn l k∈l:=by rw[fD l k h];exact List.getElem_mem h
structure SM where
 most:Nat
 conf:Nat
 words:Nat
 given:List (List Int)
 fresh:Nat
 cls:List (List Nat×Int)
 aj:List (List Nat)
 value:List Int
 level:List Nat
 reason:List Int
 phase:List Bool
 occurs:List Bool
 trail:List Nat
 ends:List Nat
 next:Nat
 hl:List Nat
 place:List Nat
 met:List Nat
 learned:List (List Int)
 steps:List (List Int)
 units:List Int
 model:List Bool
 core:List Int
 last:List Int
 told:Int
def aJ (n:Int):Nat:=if n<0 then 2*n.natAbs+1 else 2*n.natAbs
def bI (l:Nat):Int:=if l % 2=1 then -((l/2:Nat):Int) else ((l/2:Nat):Int)
def negL (l:Nat):Nat:=if l % 2=1 then l-1 else l+1
namespace SM
variable (S:SM)
def cl (ref:Nat):List Nat:=(S.cls.getD ref ([],0)).1
def id (ref:Nat):Int:=(S.cls.getD ref ([],0)).2
def dB (ref:Nat) (c:List Nat):SM:={ S with cls:=S.cls.set ref (c,S.id ref) }
def ahead (a b:Nat):Bool:=decide (gn S.met b<gn S.met a)||(gn S.met a==gn S.met b&&decide (a<b))
def lay (i v:Nat):SM:={ S with hl:=S.hl.set i v,place:=S.place.set v (i+1) }
def ji:Nat→SM→Nat→Nat→SM
 | 0,S,v,i=>S.lay i v
 | f+1,S,v,i=>if decide (0<i)&&S.ahead v (gn S.hl ((i-1)/2)) then ji f (S.lay i (gn S.hl ((i-1)/2))) v ((i-1)/2) else S.lay i v
def up (i:Nat):SM:=ji i S (gn S.hl i) i
def child (i:Nat):Nat:=if decide (2*i+2<S.hl.length)&&S.ahead (gn S.hl (2*i+2)) (gn S.hl (2*i+1)) then 2*i+2 else 2*i+1
def dH:Nat→SM→Nat→Nat→SM
 | 0,S,v,i=>S.lay i v
 | f+1,S,v,i=>if S.hl.length≤2*i+1 then S.lay i v else if S.ahead (gn S.hl (S.child i)) v then dH f (S.lay i (gn S.hl (S.child i))) v (S.child i) else S.lay i v
def down (i:Nat):SM:=dH S.hl.length S (gn S.hl i) i
def put (v:Nat):SM:=if gn S.place v=0 then up { S with hl:=S.hl++[v] } S.hl.length else S
def taken:SM :=
 if S.hl.length=1 then { S with hl:=[],place:=S.place.set (gn S.hl 0) 0 }
 else (lay { S with hl:=S.hl.take (S.hl.length-1),place:=S.place.set (gn S.hl 0) 0 } 0 (gn S.hl (S.hl.length-1))).down 0
def take:SM×Nat:=if S.hl.length=0 then (S,0) else (S.taken,gn S.hl 0)
def bump (v:Nat):SM:={ S with met:=S.met.set v ((gn S.met v+1) % 18446744073709551616) }
def meet (v:Nat):SM:=if gn S.place v=0 then S.bump v else (S.bump v).up (gn S.place v-1)
def sift:Nat→SM→SM
 | 0,S=>S
 | i+1,S=>sift i (S.down i)
def lS:SM:=sift (S.hl.length/2) { S with met:=S.met.map (·/2) }
def bF (l:Nat):Int:=if l % 2=1 then -(gi S.value (l/2)) else gi S.value (l/2)
def bX (l:Nat) (r:Int):SM :=
 { S with value:=S.value.set (l/2) (if l % 2=1 then -1 else 1),level:=S.level.set (l/2) S.ends.length,reason:=S.reason.set (l/2) r,trail:=S.trail++[l] }
def undo (l:Nat):SM:=put { S with phase:=S.phase.set (l/2) (l % 2==0),value:=S.value.set (l/2) 0,reason:=S.reason.set (l/2) (-1) } (l/2)
def dS (S:SM) (ls:List Nat):SM:=ls.foldl undo S
def back (k:Nat):SM :=
 if S.ends.length≤k then S else
  { S.dS (S.trail.drop (gn S.ends k)) with trail:=S.trail.take (gn S.ends k),ends:=S.ends.take k,next:=gn S.ends k }
def watch (l ref:Nat):SM:={ S with aj:=S.aj.set l (gN S.aj l++[ref]) }
def attach (c:List Nat) (i:Int):SM :=
 if c.length>1 then (watch (watch { S with cls:=S.cls++[(c,i)] } (gn c 0) S.cls.length) (gn c 1) S.cls.length) else { S with cls:=S.cls++[(c,i)] }
def dG (c:List Nat) (i j:Nat):List Nat:=(c.set i (gn c j)).set j (gn c i)
def ug (S:SM):Nat→List Nat→Nat→List Nat×Nat
 | 0,c,m=>(c,m)
 | f+1,c,m=>if 0≤S.bF (gn c (c.length-(f+1))) then ug S f (dG c (c.length-(f+1)) m) (m+1) else ug S f c m
def begins (i:Nat):List Nat×Nat:=S.ug (gl S.given i).length ((gl S.given i).map aJ) 0
def begin_ (i:Nat):SM×Int :=
 if (S.begins i).2=0 then (S.attach (S.begins i).1 i,S.cls.length)
 else if (S.begins i).2=1&&(S.attach (S.begins i).1 i).bF (gn (S.begins i).1 0)==0 then ((S.attach (S.begins i).1 i).bX (gn (S.begins i).1 0) S.cls.length,-1)
 else (S.attach (S.begins i).1 i,-1)
def iK (S:SM):Nat→List Nat→Nat→Option Nat
 | 0,_,_=>none
 | f+1,c,i=>if 0≤S.bF (gn c i) then some i else iK S f c (i+1)
def look (ref l:Nat):SM×Bool×Bool :=
 let c:=if gn (S.cl ref) 0=l then dG (S.cl ref) 0 1 else S.cl ref
 if 0<S.bF (gn c 0) then (S.dB ref c,false,false)
 else match S.iK (c.length-2) c 2 with
  | some i=>((S.dB ref (dG c 1 i)).watch (gn c i) ref,true,false)
  | none=>if S.bF (gn c 0)<0 then (S.dB ref c,false,true) else ((S.dB ref c).bX (gn c 0) ref,false,false)
def kD:Nat→SM→Nat→Nat→Nat→SM×Int
 | 0,S,l,_,m=>({ S with aj:=S.aj.set l ((gN S.aj l).take m) },-1)
 | f+1,S,l,i,m =>
  let ref:=gn (gN S.aj l) i
  let T:=(S.look ref l).1
  let U:=if (S.look ref l).2.1 then T else { T with aj:=T.aj.set l ((gN T.aj l).set m ref) }
  let m2:=if (S.look ref l).2.1 then m else m+1
  if (S.look ref l).2.2 then ({ U with aj:=U.aj.set l ((gN U.aj l).take m2++(gN U.aj l).drop (i+1)) },ref)
  else kD f U l (i+1) m2
def inner (l:Nat):SM×Int:=kD (gN S.aj l).length S l 0 0
def jr:Nat→SM→Option (SM×Int)
 | 0,_=>none
 | f+1,S =>
  if S.next<S.trail.length then
   if (S.inner (negL (gn S.trail S.next))).2=-1 then jr f { (S.inner (negL (gn S.trail S.next))).1 with next:=S.next+1 }
   else some (S.inner (negL (gn S.trail S.next)))
  else some (S,-1)
def step (fr:List Int):SM×Int:=if fr.length=1 then (S,gi fr 0) else ({ S with steps:=S.steps++[fr] },-2-(S.steps.length:Int))
def iU (rec:SM→Nat→SM×Int):SM→Nat→List Nat→List Int→SM×List Int
 | S,_,[],fr=>(S,fr)
 | S,v,l :: r,fr=>if l/2=v then iU rec S v r fr else iU rec (rec S (l/2)).1 v r (fr++[(rec S (l/2)).2])
def bY:Nat→SM→Nat→SM×Int
 | 0,S,v=>(S,gi S.units v)
 | f+1,S,v =>
  if gi S.units v=-1 then
   let R:=iU (bY f) S v (S.cl (gi S.reason v).toNat) [S.id (gi S.reason v).toNat]
   let P:=R.1.step R.2
   ({ P.1 with units:=P.1.units.set v P.2 },P.2)
  else (S,gi S.units v)
def unit (v:Nat):SM×Int:=bY S.value.length S v
def bH:SM→List Nat→List Int→SM×List Int
 | S,[],fr=>(S,fr)
 | S,v :: r,fr=>bH (S.unit v).1 r (fr++[(S.unit v).2])
end SM
structure AM where
 met:List Bool
 zero:List Nat
 lits:List Nat
 fr:List Int
namespace SM
def dF (but:Nat):SM→AM→Nat→List Nat→SM×AM×Nat
 | S,A,n,[]=>(S,A,n)
 | S,A,n,l :: r =>
  if l=but∨gB A.met (l/2)=true then dF but S A n r
  else if gn S.level (l/2)=0 then dF but (S.meet (l/2)) { A with met:=A.met.set (l/2) true,zero:=A.zero++[l/2] } n r
  else if gn S.level (l/2)=S.ends.length then dF but (S.meet (l/2)) { A with met:=A.met.set (l/2) true } (n+1) r
  else dF but (S.meet (l/2)) { A with met:=A.met.set (l/2) true,lits:=A.lits++[l] } n r
def meets (S:SM) (A:AM) (ref but:Nat):SM×AM×Nat:=dF but S A 0 (S.cl ref)
def dY:Nat→SM→AM→Nat→SM×AM
 | 0,S,A,_=>(S,A)
 | i+1,S,A,o =>
  let l:=gn S.trail i
  if gB A.met (l/2)=true then
   if o=1 then (S,{ A with lits:=A.lits.set 0 (negL l) })
   else
    let r:=(gi S.reason (l/2)).toNat
    let R:=S.meets { A with fr:=A.fr++[S.id r] } r l
    dY i R.1 R.2.1 (o-1+R.2.2)
  else dY i S A o
def lT (S:SM):Nat→List Nat→Nat→Nat→List Nat×Nat
 | 0,c,_,h=>(c,h)
 | f+1,c,k,h=>if h<gn S.level (gn c (k+1)/2) then lT S f (dG c 1 (k+1)) (k+1) (gn S.level (gn c (k+1)/2)) else lT S f c (k+1) h
def learn (S:SM) (bad:Nat):SM×List Nat×List Int×Nat :=
 let R:=S.meets { met:=List.replicate S.value.length false,zero:=[],lits:=[0],fr:=[S.id bad] } bad 0
 let P:=dY R.1.trail.length R.1 R.2.1 R.2.2
 let Q:=P.1.bH P.2.zero P.2.fr
 let T:=Q.1.lT (P.2.lits.length-1) P.2.lits 0 0
 (Q.1,T.1,Q.2,T.2)
def keep (S:SM) (c:List Nat) (fr:List Int) (h:Nat):SM :=
 let T:={ S.back h with words:=(S.back h).words+(c.length+2),learned:=(S.back h).learned++[c.map bI] }
 let P:=T.step fr
 let U:=(P.1.attach c P.2).bX (gn c 0) P.1.cls.length
 if U.learned.length % 128=0 then U.lS else U
def ended (S:SM) (bad:Nat):SM :=
 let R:=S.bH ((S.cl bad).map (·/2)) [S.id bad]
 { R.1 with core:=[],last:=R.2,told:=2 }
def fZ (S:SM):Nat→List Bool→List Int→List Int→List Nat→List Int×List Int×List Nat
 | 0,_,g,fr,zero=>(g,fr,zero)
 | i+1,m,g,fr,zero =>
  let x:=gn S.trail i
  if gB m (x/2)=true then
   if gn S.level (x/2)=0 then fZ S i m g fr (zero++[x/2])
   else if gi S.reason (x/2)=-1 then fZ S i m (g++[bI x]) fr zero
   else fZ S i ((S.cl (gi S.reason (x/2)).toNat).foldl (fun m k=>m.set (k/2) true) m) g (fr++[S.id (gi S.reason (x/2)).toNat]) zero
  else fZ S i m g fr zero
def jY (g:List Int):List Int→List Int→List Int
 | out,[]=>out
 | out,a :: r=>if a∈g∧a∉out then jY g (out++[a]) r else jY g out r
def refused (S:SM) (assume:List Int) (l:Nat):SM :=
 let G:=S.fZ S.trail.length ((List.replicate S.value.length false).set (l/2) true) [bI l] [] []
 let R:=S.bH G.2.2 G.2.1
 { R.1 with core:=jY G.1 [] assume,last:=R.2,told:=2 }
def open_ (S:SM):SM:={ S with ends:=S.ends++[S.trail.length] }
def qj:Nat→SM→SM×Bool
 | 0,S=>(S,false)
 | f+1,S =>
  if S.take.2=0 then (S.take.1,false)
  else if gi S.take.1.value S.take.2=0 then ((S.take.1.open_).bX (if gB S.take.1.phase S.take.2 then 2*S.take.2 else 2*S.take.2+1) (-1),true)
  else qj f S.take.1
def y8 (S:SM) (assume:List Int):SM :=
 { S with told:=1,model:=assume.foldl (fun m a=>m.set (aJ a/2) (decide (0<a))) (List.zipWith (fun x o=>decide (0<x)&&o) S.value S.occurs) }
def jv (assume:List Int):Nat→SM→SM×Bool
 | 0,S=>if (qj (S.hl.length+1) S).2 then qj (S.hl.length+1) S else ((qj (S.hl.length+1) S).1.y8 assume,false)
 | f+1,S =>
  let l:=aJ (gi assume S.ends.length)
  if S.bF l=-1 then (S.refused assume l,false)
  else if S.bF l=1 then jv assume f S.open_
  else (S.open_.bX l (-1),true)
def iV (S:SM) (assume:List Int):SM×Bool:=jv assume (assume.length-S.ends.length) S
def kr (S:SM) (bad:Nat):SM×Bool×Int :=
 if S.ends.length=0 then (S.ended bad,false,0)
 else if S.conf≤S.learned.length then (S,false,131)
 else
  let R:=S.learn bad
  if R.1.most<R.1.words+R.2.1.length+2 then (R.1,false,111) else (R.1.keep R.2.1 R.2.2.1 R.2.2.2,true,0)
def follow (S:SM):SM×Int:=(jr (S.value.length+2) S).getD (S,-1)
def lJ:Nat→SM→SM×Bool
 | 0,S=>(S,true)
 | f+1,S =>
  let R:=S.begin_ S.fresh
  let P:=if R.2=-1 then R.1.follow else R
  if P.2=-1 then lJ f { P.1 with fresh:=P.1.fresh+1 } else (P.1.ended P.2.toNat,false)
def start (S:SM):SM×Bool:=lJ (S.given.length-S.fresh) S
def gI (assume:List Int):Nat→SM→Nat→Option (SM×Int)
 | 0,_,_=>none
 | f+1,S,u =>
  let R:=S.follow
  if R.2=-1 then
   let v:=if u≤R.1.learned.length then u+u/2 else u
   let T:=if u≤R.1.learned.length then R.1.back 0 else R.1
   let D:=T.iV assume
   if D.2 then gI assume f D.1 v else some (D.1,0)
  else
   let M:=R.1.kr R.2.toNat
   if M.2.1 then gI assume f M.1 u else some (M.1,M.2.2)
def more (S:SM):SM :=
 let T:={ S with value:=S.value++[0],level:=S.level++[0],reason:=S.reason++[-1],phase:=S.phase++[false],occurs:=S.occurs++[false],aj:=S.aj++[[],[]],units:=S.units++[-1],place:=S.place++[0],met:=S.met++[0] }
 if S.value.length=0 then T else T.put S.value.length
def jZ:Nat→SM→SM
 | 0,S=>S
 | f+1,S=>jZ f S.more
def grow (S:SM) (v:Nat):SM:=jZ (v+1-S.value.length) S
def gP:SM→List Int→SM
 | S,[]=>S
 | S,x :: r=>gP { S.grow (aJ x/2) with occurs:=(S.grow (aJ x/2)).occurs.set (aJ x/2) true } r
def add (S:SM) (l:List Int):SM×Bool :=
 if S.most<S.words+l.length+2 then (S,false) else (gP { S with words:=S.words+(l.length+2),given:=S.given++[l] } l,true)
def new (words conf:Int):SM :=
 grow { most:=(min (max words 1) 262144).toNat,conf:=(min (max conf 1) 2000).toNat,words:=0,given:=[],fresh:=0,cls:=[],aj:=[],value:=[],level:=[],reason:=[],phase:=[],occurs:=[],trail:=[],ends:=[],next:=0,hl:=[],place:=[],met:=[],learned:=[],steps:=[],units:=[],model:=[],core:=[],last:=[],told:=0 } 0
def qI (S:SM) (assume:List Int):Nat:=3*(S.conf+2)*(assume.length+S.value.length+3)
def reset (S:SM) (assume:List Int):SM :=
 let T:=assume.foldl (fun S a=>S.grow (aJ a/2)) S
 { (back { T with learned:=[],core:=[],last:=[],model:=[],told:=0 } 0) with next:=0 }
def solve (S:SM) (assume:List Int):SM×Int×Int :=
 let T:=S.reset assume
 let R:=T.follow
 if R.2=-1 then
  let U:=R.1.start
  if U.2 then
   let V:=(gI assume (qI U.1 assume) U.1 64).getD (U.1,0)
   (V.1.back 0,V.1.told,V.2)
  else (U.1,U.1.told,0)
 else (R.1.ended R.2.toNat,2,0)
end SM
open SM
def K0:SM:=SM.new 1000 100
def K1:SM:=(((((K0.add [1,2]).1).add [-1,2]).1).add [1,-2]).1
def K2:SM:=(K1.solve []).1
def K3:SM:=(K2.solve [-1]).1
def K4:SM:=(K3.add [-1,-2]).1
def K5:SM:=(K4.solve []).1
theorem k2:(K1.solve []).2=(1,0):=by decide +kernel
theorem k2m:K2.model=[false,true,true]:=by decide +kernel
theorem k3:(K2.solve [-1]).2=(2,0):=by decide +kernel
theorem k3c:K3.core=[-1]:=by decide +kernel
theorem k5:(K4.solve []).2=(2,0):=by decide +kernel
end Go.Proofs.aA
namespace Go.Proofs.aC
open Go Go.RowKit
abbrev Hp:=Nat→Option Obj
def HP:=Hp→Prop
def Hp.apart (h k:Hp):Prop:=∀ b,h b=none∨k b=none
def Hp.join (h k:Hp):Hp:=fun b=>match h b with | some o=>some o | none=>k b
theorem Hp.join_comm {h k:Hp} (d:h.apart k):h.join k=k.join h:=by
 funext b
 unfold Hp.join;rcases d b with e | e <;> rw[e]
 ·cases k b <;> rfl
 ·cases h b <;> rfl
theorem Hp.join_assoc (h k l:Hp):(h.join k).join l=h.join (k.join l):=by
 funext b
 unfold Hp.join
 cases h b <;> rfl
theorem Hp.rG {h k:Hp} (d:h.apart k):k.apart h:=fun b=>(d b).symm
theorem Hp.CZ {h k l:Hp} (d:(h.join k).apart l):h.apart l∧k.apart l:=by
 refine⟨fun b=>?_,fun b=>?_⟩ <;> have e:=d b <;> unfold Hp.join at e <;> cases hh:h b <;> simp_all
theorem Hp.Bc {h k l:Hp} (d:h.apart (k.join l)):h.apart k∧h.apart l:=by
 refine⟨fun b=>?_,fun b=>?_⟩ <;> have e:=d b <;> unfold Hp.join at e <;> cases hh:k b <;> simp_all
theorem Hp.wF {h k l:Hp} (a:h.apart l) (c:k.apart l):(h.join k).apart l:=by
 intro b;unfold Hp.join;rcases a b with e | e <;> rcases c b with f | f <;> simp_all
def emp:HP:=fun h=>h=fun _=>none
def star (P Q:HP):HP:=fun h=>∃ h1 h2,Hp.apart h1 h2∧h=Hp.join h1 h2∧P h1∧Q h2
theorem j5 (P Q:HP):star P Q=star Q P:=by
 funext h
 apply propext
 constructor <;> rintro⟨h1,h2,d,rfl,p,q⟩ <;> exact⟨h2,h1,Hp.rG d,Hp.join_comm d,q,p⟩
theorem gJ (P Q R:HP):star (star P Q) R=star P (star Q R):=by
 funext h
 apply propext
 constructor
 ·rintro⟨h12,h3,d,rfl,⟨h1,h2,d',rfl,p,q⟩,r⟩
  have e:=Hp.CZ d;exact⟨h1,Hp.join h2 h3,Hp.rG (Hp.wF (Hp.rG d') (Hp.rG e.1)),Hp.join_assoc ..,p,h2,h3,e.2,rfl,q,r⟩
 ·rintro⟨h1,h23,d,rfl,p,⟨h2,h3,d',rfl,q,r⟩⟩
  have e:=Hp.Bc d;exact⟨Hp.join h1 h2,h3,Hp.wF e.2 d',(Hp.join_assoc ..).symm,⟨h1,h2,e.1,rfl,p,q⟩,r⟩
theorem aQ (P:HP):star P emp=P:=by
 funext h
 apply propext
 constructor
 ·rintro⟨h1,h2,_,rfl,p,rfl⟩
  have:Hp.join h1 (fun _=>none)=h1:=by funext b;unfold Hp.join;cases h1 b <;> rfl
  rw[this];exact p
 ·intro p;refine⟨h,fun _=>none,fun b=>.inr rfl,?_,p,rfl⟩
  funext b;unfold Hp.join;cases h b <;> rfl
theorem iA (P:HP):star emp P=P:=by rw[j5,aQ]
instance:Std.Commutative star:=⟨j5⟩
instance:Std.Associative star:=⟨gJ⟩
def stars:List HP→HP
 | []=>emp
 | P :: L=>star P (stars L)
theorem j6:stars []=emp:=rfl
theorem kW (P:HP) (L:List HP):stars (P :: L)=star P (stars L):=rfl
theorem nA (P:HP):stars [P]=P:=aQ P
theorem iW (L M:List HP):stars (L++M)=star (stars L) (stars M):=by
 induction L with
 | nil=>simp[stars,iA]
 | cons P L ih=>simp[stars,ih,gJ]
theorem dW {L:List HP} {k:Nat} {P:HP} (h:L[k]?=some P) (Q:HP):stars L=star P (stars (L.eraseIdx k))∧stars (L.set k Q)=star Q (stars (L.eraseIdx k)):=by
 induction L generalizing k with
 | nil=>simp at h
 | cons R L ih =>
  cases k with
  | zero=>simp at h;subst h;exact⟨rfl,rfl⟩
  | succ k =>
   have e:=ih (k:=k) (by simpa using h);simp only[List.set_cons_succ,List.eraseIdx_cons_succ,stars,e.1,e.2];exact⟨by ac_rfl,by ac_rfl⟩
def Sat (B:Nat) (w:World) (P:HP):Prop:=∃ h:Hp,P h∧∀ b o,h b=some o→B≤b∧w.heap[b]?=some o
theorem Sat.heap {B:Nat} {w w':World} {P:HP} (h:Sat B w P) (e:w'.heap=w.heap):Sat B w' P:=by
 obtain⟨k,p,c⟩:=h;exact⟨k,p,fun b o x=>by rw[e];exact c b o x⟩
theorem Sat.left {B:Nat} {w:World} {P Q:HP} (h:Sat B w (star P Q)):Sat B w P:=by
 obtain⟨k,⟨h1,h2,d,rfl,p,q⟩,c⟩:=h;exact⟨h1,p,fun b o x=>c b o (by unfold Hp.join;rw[x])⟩
theorem Sat.right {B:Nat} {w:World} {P Q:HP} (h:Sat B w (star P Q)):Sat B w Q:=(j5 P Q▸h).left
theorem Sat.emp (B:Nat) (w:World):Sat B w emp:=⟨fun _=>none,rfl,fun _ _ h=>by cases h⟩
theorem Sat.lt {B:Nat} {w:World} {P:HP} (h:Sat B w P):∃ k:Hp,P k∧∀ b o,k b=some o→B≤b∧b<w.heap.size∧w.heap[b]?=some o:=by
 obtain⟨k,p,c⟩:=h;refine⟨k,p,fun b o x=>⟨(c b o x).1,?_,(c b o x).2⟩⟩;exact (Array.getElem?_eq_some_iff.1 (c b o x).2).1
theorem Sat.kept {B:Nat} {w w':World} {P:HP} (h:Sat B w P) (hk:∀ b,b<w.heap.size→w'.heap[b]?=w.heap[b]?):Sat B w' P:=by
 obtain⟨k,p,c⟩:=h.lt;exact⟨k,p,fun b o x=>⟨(c b o x).1,by rw[hk b (c b o x).2.1];exact (c b o x).2.2⟩⟩
def one (b:Nat) (o:Obj):HP:=fun h=>h=fun c=>if c=b then some o else none
def pt (b:Nat) (e:TypeId) (xs:List Value):HP:=one b (.cells xs.toArray e (0,0))
def sl (a:Option Nat) (n c:Nat) (e:TypeId) (sz:Nat) (xs:List Value):HP:=fun h =>
 xs.length=n*sz∧match a with
 | none=>n=0∧c=0∧emp h
 | some b=>n≤c∧c≤maxLen∧∃ cur:List Value,c*sz≤cur.length∧cur.take (n*sz)=xs∧pt b e cur h
def iB (a:Option Nat) (n c:Nat):Value:=.slice (a.map fun b=>⟨b,0,none⟩) n c
theorem Sat.one {B:Nat} {w:World} {b:Nat} {o:Obj} {F:HP} (h:Sat B w (star (one b o) F)):w.heap[b]?=some o∧B≤b:=by
 obtain⟨k,⟨h1,h2,d,rfl,rfl,q⟩,c⟩:=h;have:=c b o (by unfold Hp.join;simp);exact⟨this.2,this.1⟩
theorem Sat.put {B:Nat} {w w':World} {b:Nat} {o o':Obj} {F:HP} (h:Sat B w (star (aC.one b o) F)) (h1:w'.heap[b]?=some o') (h2:∀ c,c≠b→c<w.heap.size→w'.heap[c]?=w.heap[c]?):Sat B w' (star (aC.one b o') F):=by
 obtain⟨k,⟨k1,k2,d,rfl,rfl,q⟩,c⟩:=h.lt;have hB:=(Sat.one h).2;refine⟨Hp.join (fun c=>if c=b then some o' else none) k2,⟨_,k2,?_,rfl,rfl,q⟩,?_⟩
 ·intro x;have:=d x
  by_cases e:x=b
  ·subst e;simp at this;exact .inr this
  ·left;simp[e]
 ·intro x u hx;unfold Hp.join at hx
  by_cases e:x=b
  ·subst e;simp at hx;subst hx;exact⟨hB,h1⟩
  ·simp[e] at hx;have:=c x u (by unfold Hp.join;simp[e];exact hx);exact⟨this.1,by rw[h2 x e this.2.1];exact this.2.2⟩
theorem Sat.new {B:Nat} {w:World} {F:HP} (h:Sat B w F) (hB:B≤w.heap.size) (o:Obj):Sat B (w.alloc o) (star (aC.one w.heap.size o) F):=by
 obtain⟨k,p,c⟩:=h.lt;refine⟨Hp.join (fun c=>if c=w.heap.size then some o else none) k,⟨_,k,?_,rfl,rfl,p⟩,?_⟩
 ·intro x
  by_cases e:x=w.heap.size
  ·right
   cases hx:k x with
   | none=>rfl
   | some u=>have:=(c x u hx).2.1;omega
  ·left;simp[e]
 ·intro x u hx;unfold Hp.join at hx
  by_cases e:x=w.heap.size
  ·subst e;simp at hx;subst hx;exact⟨hB,heap_alloc_new w _⟩
  ·simp[e] at hx;have:=c x u hx;exact⟨this.1,by rw[heap_alloc_old w _ this.2.1];exact this.2.2⟩
theorem Sat.alloc {B:Nat} {w:World} {F:HP} (h:Sat B w F) (o:Obj):Sat B (w.alloc o) F:=h.kept fun _ hb=>heap_alloc_old w o hb
theorem Sat.aG {B:Nat} {w:World} {b:Nat} {e:TypeId} {xs:List Value} {F:HP} (h:Sat B w (star (pt b e xs) F)) (i:Nat):w.cell? ⟨b,i,none⟩=xs[i]?:=by
 rw[cell_of_row w b i _ _ _ (Sat.one h).1];simp
theorem Sat.bU {B:Nat} {w:World} {b:Nat} {e:TypeId} {xs:List Value} {F:HP} (h:Sat B w (star (pt b e xs) F)) (i:Nat):w.frozen? ⟨b,i,none⟩=false:=by
 simp[World.frozen?,(Sat.one h).1]
theorem heap_setCell_same (w:World) (b i:Nat) (v:Value) (cur:Array Value) (e:TypeId) (fr:Nat×Nat) (h:w.heap[b]?=some (.cells cur e fr)):(w.setCell ⟨b,i,none⟩ v).heap[b]?=some (.cells (cur.setIfInBounds i v) e fr):=by
 simp[World.setCell,Array.getElem?_modify,h]
theorem Sat.bM {B:Nat} {w:World} {b:Nat} {e:TypeId} {xs:List Value} {F:HP} (h:Sat B w (star (pt b e xs) F)) (i:Nat) (v:Value):Sat B (w.setCell ⟨b,i,none⟩ v) (star (pt b e (xs.set i v)) F):=by
 refine Sat.put h ?_ fun c hc _=>Below.heap_setCell w _ v c hc;rw[heap_setCell_same w b i v _ _ _ (Sat.one h).1];simp
theorem Sat.iC {B:Nat} {w:World} {F:HP} (h:Sat B w F) (hB:B≤w.heap.size) (cs:Array Value) (e:TypeId):Sat B (w.alloc (.cells cs e)) (star (pt w.heap.size e cs.toList) F):=by
 simpa [pt] using h.new hB (.cells cs e)
theorem Sat.aR {B:Nat} {w:World} {a:Option Nat} {n c:Nat} {e:TypeId} {sz:Nat} {xs:List Value} {F:HP} (h:Sat B w (star (sl a n c e sz xs) F)) :
  xs.length=n*sz∧n≤c∧c≤maxLen∧(a=none→n=0∧c=0)∧(∀ b,a=some b→B≤b∧b<w.heap.size):=by
 obtain⟨k,p,cc⟩:=h.lt;obtain⟨h1,h2,d,rfl,s,q⟩:=p
 cases a with
 | none=>obtain⟨x,y,z,_⟩:=s;refine⟨x,by omega,by subst z;exact Nat.zero_le _,fun _=>⟨y,z⟩,(fun b hb=>by cases hb)⟩
 | some b =>
  obtain⟨x,y,z,cur,_,_,pp⟩:=s;refine⟨x,y,z,(fun hh=>by cases hh),fun b' hb=>?_⟩;obtain rfl:b=b':=by simpa using hb
  have:=cc b (.cells cur.toArray e (0,0)) (by unfold Hp.join;rw[show h1=_ from pp];simp);exact⟨this.1,this.2.1⟩
theorem Sat.wG {B:Nat} {w:World} {b:Nat} {n c:Nat} {e:TypeId} {sz:Nat} {xs:List Value} {F:HP} (h:Sat B w (star (sl (some b) n c e sz xs) F)) :
  ∃ cur:List Value,xs.length=n*sz∧n≤c∧c≤maxLen∧c*sz≤cur.length∧cur.take (n*sz)=xs∧Sat B w (star (pt b e cur) F):=by
 obtain⟨k,⟨h1,h2,d,rfl,⟨x,y,z,cur,hc,ht,pp⟩,q⟩,cc⟩:=h;exact⟨cur,x,y,z,hc,ht,_,⟨h1,h2,d,rfl,pp,q⟩,cc⟩
theorem Sat.pO {B:Nat} {w:World} {b:Nat} {n c:Nat} {e:TypeId} {sz:Nat} {xs cur:List Value} {F:HP} (h:Sat B w (star (pt b e cur) F)) (hx:xs.length=n*sz) (hn:n≤c) (hc:c≤maxLen) (hcur:c*sz≤cur.length) (ht:cur.take (n*sz)=xs) :
  Sat B w (star (sl (some b) n c e sz xs) F):=by
 obtain⟨k,⟨h1,h2,d,rfl,pp,q⟩,cc⟩:=h;exact⟨_,⟨h1,h2,d,rfl,⟨hx,hn,hc,cur,hcur,ht,pp⟩,q⟩,cc⟩
theorem Sat.aW {B:Nat} {w:World} {b:Nat} {n c:Nat} {e:TypeId} {sz:Nat} {xs:List Value} {F:HP} (h:Sat B w (star (sl (some b) n c e sz xs) F)) (i:Nat) (hi:i<xs.length):w.cell? ⟨b,i,none⟩=xs[i]?:=by
 obtain⟨cur,hx,_,_,_,ht,hp⟩:=h.wG;rw[hp.aG,←ht,List.getElem?_take,if_pos (by omega)]
theorem Sat.bZ {B:Nat} {w:World} {b:Nat} {n c:Nat} {e:TypeId} {sz:Nat} {xs:List Value} {F:HP} (h:Sat B w (star (sl (some b) n c e sz xs) F)) (i:Nat):w.frozen? ⟨b,i,none⟩=false:=by
 obtain⟨cur,hx,_,_,_,ht,hp⟩:=h.wG;exact hp.bU i
theorem Sat.fH {B:Nat} {w:World} {b:Nat} {n c:Nat} {e:TypeId} {sz:Nat} {xs:List Value} {F:HP} (h:Sat B w (star (sl (some b) n c e sz xs) F)) (i:Nat) (v:Value) (_hi:i<xs.length) :
  Sat B (w.setCell ⟨b,i,none⟩ v) (star (sl (some b) n c e sz (xs.set i v)) F):=by
 obtain⟨cur,hx,hn,hc,hcur,ht,hp⟩:=h.wG;refine (hp.bM i v).pO (by simpa using hx) hn hc (by simpa using hcur) ?_;rw[List.take_set,ht]
theorem Sat.wU {B:Nat} {w:World} {a:Option Nat} {n c:Nat} {e:TypeId} {sz:Nat} {xs:List Value} {F:HP} (h:Sat B w (star (sl a n c e sz xs) F)) (m d:Nat) (hm:m≤d) (hmn:m≤n) (hd:d≤c) :
  Sat B w (star (sl a m d e sz (xs.take (m*sz))) F):=by
 cases a with
 | none =>
  obtain⟨k,⟨h1,h2,dd,rfl,⟨x,y,z,u⟩,q⟩,cc⟩:=h;refine⟨_,⟨h1,h2,dd,rfl,⟨?_,by omega,by omega,u⟩,q⟩,cc⟩;have:m=0:=by omega
  subst this;simp
 | some b =>
  obtain⟨cur,hx,hn,hc,hcur,ht,hp⟩:=h.wG;have hms:m*sz≤n*sz:=Nat.mul_le_mul_right _ hmn;refine hp.pO ?_ hm (by omega) (Nat.le_trans (Nat.mul_le_mul_right _ hd) hcur) ?_
  ·rw[List.length_take,hx];omega
  ·rw[←ht,List.take_take,Nat.min_eq_left hms]
theorem Sat.uh {B:Nat} {w:World} {F:HP} (h:Sat B w F) (e:TypeId) (sz:Nat):Sat B w (star (sl none 0 0 e sz []) F):=by
 obtain⟨k,p,c⟩:=h;refine⟨k,⟨fun _=>none,k,fun _=>.inl rfl,?_,⟨by simp,rfl,rfl,rfl⟩,p⟩,c⟩
 funext b
 simp[Hp.join]
theorem Sat.gW {B:Nat} {w:World} {p b n c:Nat} {e e':TypeId} {sz:Nat} {xs ys:List Value} {F:HP} (h:Sat B w (star (pt p e ys) (star (sl (some b) n c e' sz xs) F))):p≠b:=by
 obtain⟨k,⟨h1,h2,d,rfl,q1,h3,h4,d',rfl,⟨x,y,z,cur,hc,ht,pp⟩,q⟩,cc⟩:=h;intro e;subst e;have hh1:h1=_:=q1;have hh3:h3=_:=pp;have:=d p;subst hh1 hh3;simp[Hp.join] at this
end Go.Proofs.aC
