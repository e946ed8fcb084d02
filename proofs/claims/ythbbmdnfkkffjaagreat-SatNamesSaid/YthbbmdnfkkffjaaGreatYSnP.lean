/-
  Clauses whose variables are named otherwise, or turned: the same verdict, as plain lists.
-/
import Derived.Test.YthbbmdnfkkffjaaGreatY44
import Derived.Test.YthbbmdnfkkffjaaGreatY45
import Derived.Test.YthbbmdnfkkffjaaGreatY01
set_option maxHeartbeats 8000000
set_option maxRecDepth 100000
namespace Go.Proofs.YthbbmdnfkkffjaaGreat
open Go.RowKit Go.Proofs.aC Go.Proofs.aA
open Go.Proofs.au hiding SM
structure Wu (P:List Int→Prop) (S:aA.SM) (g:Nat):Prop where
 mem:∀ c,c∈S.given↔∃ x,P x∧dx x=0∧c=bQ x
 ww:S.words≤g
theorem Wu.start (m c:Int):Wu (fun _=>False) (aA.SM.new m c) 0:=⟨fun c=>⟨fun h=>(by cases h),fun ⟨_,h,_⟩=>h.elim⟩,Nat.le_refl _⟩
theorem Wu.mono {P Q:List Int→Prop} {S:aA.SM} {g k:Nat} (h:Wu P S g) (e:∀ x,P x↔Q x) (hk:g≤k):Wu Q S k :=
 ⟨fun c=>(h.mem c).trans (exists_congr fun x=>by rw[e]),Nat.le_trans h.ww hk⟩
theorem Wu.add {P:List Int→Prop} {S:aA.SM} {g K:Nat} (h:Wu P S g) {xs:List Int} {R:aA.SM×Int} (a:afA K S xs R) (hm:g+xs.length+2≤S.most):Wu (fun x=>P x∨x=xs) R.1 (g+(xs.length+2)):=by
 have hw:=h.ww;have hl:=G8 xs
 by_cases h0:dx xs=0
 ·have hR:R.2=0:=by
   apply Classical.byContradiction;intro k;rcases (a.no k).2 with ⟨k1,k2⟩ | ⟨_,_,k2⟩
   ·exact k2 h0
   ·omega
  obtain⟨_,k2,k3⟩:=a.yes hR;refine⟨fun c=>?_,by omega⟩;rw[k2,List.mem_append,h.mem,List.mem_singleton]
  constructor
  ·rintro (⟨x,p,q⟩ | rfl)
   ·exact⟨x,.inl p,q⟩
   ·exact⟨xs,.inr rfl,h0,rfl⟩
  ·rintro⟨x,p | rfl,q⟩
   ·exact .inl ⟨x,p,q⟩
   ·exact .inr q.2
 ·have hR:R.2≠0:=fun k=>h0 (a.yes k).1;rw[(a.no hR).1];refine⟨fun c=>(h.mem c).trans ⟨fun ⟨x,p,q⟩=>⟨x,.inl p,q⟩,?_⟩,by omega⟩
  rintro⟨x,p | rfl,q⟩
  ·exact⟨x,p,q⟩
  ·exact absurd q.1 h0
theorem Wu.ai7 {P:List Int→Prop} {S:aA.SM} {g:Nat} (h:Wu P S g) (a:Nat→Bool):jP a S↔∀ x,P x→dx x=0→∃ y∈x,tr a (aJ y)=true:=by
 constructor
 ·intro k x p q;obtain⟨y,hy,ht⟩:=k _ ((h.mem _).2 ⟨x,p,q,rfl⟩);exact⟨y,dA.1 hy,ht⟩
 ·intro k c hc;obtain⟨x,p,q,rfl⟩:=(h.mem c).1 hc;obtain⟨y,hy,ht⟩:=k x p q;exact⟨y,dA.2 hy,ht⟩
def LP (turn v:Int):Bool:=bits BinOp.and IntKind.i64 (turn/2 ^ (v.toNat-1)) 1==1
def V7 (turn x:Int):Bool:=!(decide (x<0)==LP turn (max x (-x)))
def nmF (turn add x:Int):Int:=if V7 turn x then -(max x (-x)+add) else max x (-x)+add
def Qe (turn add x:Int):Int:=if x=0 then 0 else nmF turn add x
theorem Ul (turn add x:Int):Qe turn add (-x)=-(Qe turn add x):=by
 unfold Qe
 by_cases h0:x=0
 ·rw[if_pos h0,if_pos (by omega)];rfl
 rw[if_neg h0,if_neg (by omega)];have hm:max (-x) (- -x)=max x (-x):=by omega
 have hb:V7 turn (-x)=!V7 turn x:=by
  unfold V7;rw[hm]
  have:decide (-x<0)=!decide (x<0):=by
   by_cases h:x<0
   ·simp[h];omega
   ·simp[h];omega
  rw[this]
  cases decide (x<0) <;> cases LP turn (max x (-x)) <;> rfl
 unfold nmF;rw[hm,hb]
 cases V7 turn x <;> simp
theorem wB (turn:Int) {add x:Int} (h0:0≤add) (hx:x≠0):((Qe turn add x).natAbs:Int)=x.natAbs+add∧decide (0<Qe turn add x)=!V7 turn x:=by
 unfold Qe;rw[if_neg hx];unfold nmF
 cases V7 turn x with
 | true=>rw[if_pos rfl];refine⟨by omega,by simp;omega⟩
 | false=>rw[if_neg (by simp)];refine⟨by omega,by simp;omega⟩
theorem acA (turn:Int) {add x y:Int} (h0:0≤add) (h:Qe turn add x=Qe turn add y):x=y:=by
 by_cases hx:x=0
 ·by_cases hy:y=0
  ·rw[hx,hy]
  ·have:=(wB turn h0 hy).1;rw[←h] at this;unfold Qe at this;rw[if_pos hx] at this;simp at this;omega
 ·by_cases hy:y=0
  ·have:=(wB turn h0 hx).1;rw[h] at this;unfold Qe at this;rw[if_pos hy] at this;simp at this;omega
  ·obtain⟨a1,a2⟩:=wB turn h0 hx;obtain⟨b1,b2⟩:=wB turn h0 hy;rw[h] at a1 a2;have h2:max x (-x)=max y (-y):=by omega
   have h3:V7 turn x=V7 turn y:=by
    rw[a2] at b2
    cases hx2:V7 turn x <;> cases hy2:V7 turn y <;> simp_all
   unfold V7 at h3;rw[h2] at h3
   have h4:decide (x<0)=decide (y<0):=by
    revert h3
    cases decide (x<0) <;> cases decide (y<0) <;> cases LP turn (max y (-y)) <;> simp
   have h5:x<0↔y<0:=by simpa using h4
   omega
def rnC (turn add:Int) (xs:List Int):List Int:=(xs.map (Qe turn add)).reverse
theorem qg {turn add:Int} {xs:List Int} {y:Int}:y∈rnC turn add xs↔∃ x∈xs,Qe turn add x=y:=by unfold rnC;rw[List.mem_reverse,List.mem_map]
theorem wC {xs:List Int}:dx xs=0↔(∀ x∈xs,fC x=true)∧∀ x∈xs,-x∉xs:=by
 constructor
 ·intro h;obtain⟨k1,k2⟩:=Ch h;refine⟨k2,fun x hx hn=>?_⟩;have:=G5 k2 (dA.2 hx) (dA.2 hn);rw[h] at this;cases this
 ·rintro⟨h1,h2⟩
  exact G6 h1 fun x hx hn=>h2 x (dA.1 hx) (dA.1 hn)
theorem PW (turn:Int) {add:Int} (h0:0≤add) (h1:add<500) {xs:List Int} (hx:∀ x∈xs,x.natAbs≤30):dx (rnC turn add xs)=0↔dx xs=0:=by
 have hl:∀ x∈xs,(fC (Qe turn add x)=true↔fC x=true):=fun x hm=>by
  have hb:=hx x hm;rw[bD,bD]
  by_cases hz:x=0
  ·unfold Qe;rw[if_pos hz,hz]
  ·have:=(wB turn h0 hz).1
   constructor
   ·intro _;omega
   ·intro _;omega
 rw[wC,wC]
 constructor
 ·rintro⟨k1,k2⟩
  exact⟨fun x hm=>(hl x hm).1 (k1 _ (qg.2 ⟨x,hm,rfl⟩)),fun x hm hn=>k2 _ (qg.2 ⟨x,hm,rfl⟩) (by rw[←Ul];exact qg.2 ⟨-x,hn,rfl⟩)⟩
 ·rintro⟨k1,k2⟩
  refine⟨fun y hy=>?_,fun y hy hn=>?_⟩
  ·obtain⟨x,hm,rfl⟩:=qg.1 hy;exact (hl x hm).2 (k1 x hm)
  ·obtain⟨x,hm,rfl⟩:=qg.1 hy;obtain⟨z,hz,e⟩:=qg.1 hn;rw[←Ul] at e;rw[acA turn h0 e] at hz;exact k2 x hm hz
theorem ady (turn:Int) {add:Int} (h0:0≤add) (m k:Nat→Bool) (hmk:∀ v:Nat,0<v→m v=xor (k (v+add.toNat)) (LP turn v)) {x:Int} (hx:x≠0):(tr m (aJ x)=true↔tr k (aJ (Qe turn add x))=true):=by
 obtain⟨a1,a2⟩:=wB turn h0 hx;rw[vY m (by omega),vY k (by omega),a2,hmk _ (by omega),show (Qe turn add x).natAbs=x.natAbs+add.toNat by omega];unfold V7;have e:((x.natAbs:Nat):Int)=max x (-x):=by omega
 rw[e]
 have e2:decide (0<x)=!decide (x<0):=by
  by_cases h:x<0
  ·simp[h];omega
  ·simp[h];omega
 rw[e2]
 cases k (x.natAbs+add.toNat) <;> cases LP turn (max x (-x)) <;> cases decide (x<0) <;> simp
theorem CY {S T:aA.SM} {v:Int} (h:Answer [] S T v 0):(v=1∧∃ m,jP m S)∨(v=2∧∀ m,¬ jP m S):=by
 rcases h.out with ⟨e,_,_,_,_,k,_⟩ | ⟨e,_,_,k,_,k2⟩ | ⟨_,_,_,k⟩
 ·exact .inl ⟨e,_,k⟩
 ·refine .inr ⟨e,fun m hm=>?_⟩;obtain⟨y,hy,_⟩:=k2 m hm;rw[List.sublist_nil.1 k] at hy
  cases hy
 ·omega
theorem aaD {P Q:List Int→Prop} {S S1 T T1:aA.SM} {g k:Nat} (hS:Wu P S g) (hT:Wu Q T k) {turn add:Int} (h0:0≤add) (h1:add<500) (hP:∀ x,P x→∀ y∈x,y.natAbs≤30) (hQ:∀ x,Q x↔∃ z,P z∧x=rnC turn add z) {a b:Int} (ha:Answer [] S S1 a 0) (hb:Answer [] T T1 b 0):a=b:=by
 have key:∀ m k:Nat→Bool,(∀ v:Nat,0<v→m v=xor (k (v+add.toNat)) (LP turn v))→(jP m S↔jP k T):=fun m k hmk=>by
  rw[hS.ai7,hT.ai7]
  constructor
  ·intro h x hx ho;obtain⟨z,hz,rfl⟩:=(hQ x).1 hx;rw[PW turn h0 h1 (hP z hz)] at ho;obtain⟨y,hy,ht⟩:=h z hz ho;have hy0:y≠0:=(bD.1 ((wC.1 ho).1 y hy)).1;exact⟨_,qg.2 ⟨y,hy,rfl⟩,(ady turn h0 m k hmk hy0).1 ht⟩
  ·intro h z hz ho;obtain⟨y,hy,ht⟩:=h _ ((hQ _).2 ⟨z,hz,rfl⟩) ((PW turn h0 h1 (hP z hz)).2 ho);obtain⟨x,hx,rfl⟩:=qg.1 hy;have hx0:x≠0:=(bD.1 ((wC.1 ho).1 x hx)).1;exact⟨x,hx,(ady turn h0 m k hmk hx0).2 ht⟩
 have e1:(∃ m,jP m S)↔∃ k,jP k T:=by
  constructor
  ·rintro⟨m,hm⟩
   refine⟨fun u=>xor (m (u-add.toNat)) (LP turn ((u-add.toNat:Nat):Int)),(key m _ fun v _=>?_).1 hm⟩;simp only[Nat.add_sub_cancel]
   cases m v <;> cases LP turn v <;> rfl
  ·rintro⟨k,hk⟩
   exact⟨fun v=>xor (k (v+add.toNat)) (LP turn v),(key _ k fun v _=>rfl).2 hk⟩
 rcases CY ha with ⟨p,q⟩ | ⟨p,q⟩ <;> rcases CY hb with ⟨r,s⟩ | ⟨r,s⟩
 ·rw[p,r]
 ·obtain⟨k,hk⟩:=e1.1 q;exact absurd hk (s k)
 ·obtain⟨k,hk⟩:=e1.2 s;exact absurd hk (q k)
 ·rw[p,r]
end Go.Proofs.YthbbmdnfkkffjaaGreat
