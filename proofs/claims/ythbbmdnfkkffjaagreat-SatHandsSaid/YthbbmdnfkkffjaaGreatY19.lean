/-
  Parts of the proof, joined by program: Pi2, Pi3, Pi4.
-/
import Derived.Test.YthbbmdnfkkffjaaGreatY18
import Derived.Test.YthbbmdnfkkffjaaGreatY01
import Derived.Lib.Hide
set_option maxHeartbeats 8000000
set_option maxRecDepth 100000
namespace Go.Proofs.YthbbmdnfkkffjaaGreat
open Go.Proofs.au Go.Proofs.aA
theorem Yo {l:List Int} {i j:Nat}:gi (l.set i 0) j=if j=i then 0 else gi l j:=by
 by_cases h:i<l.length
 ·exact mW h
 ·rw[List.set_eq_of_length_le (by omega)]
  split
  ·rename_i e;rw[rT (by omega)]
  ·rfl
theorem nR.open_ {S:SM} (h:nR S):nR S.open_:=by
 have hlv:∀ i,i<S.trail.length→dM S.open_ i=dM S i:=fun i hi=>by
  show (S.ends++[S.trail.length]).countP _=_;rw[List.countP_append,List.countP_cons,List.countP_nil];simp only[decide_eq_true_eq];rw[if_neg (by omega)];rfl
 refine⟨⟨h.sz.level,h.sz.reason,h.sz.phase,h.sz.occurs,h.sz.units,h.sz.aj⟩,h.vals,h.two,h.lt,h.is,fun i hi=>?_,h.inj,h.all,?_,?_,fun i hi=>?_⟩
 ·rw[hlv i hi];exact h.jo i hi
 ·intro e he;rcases List.mem_append.1 he with he | he
  ·exact h.ends e he
  ·rw[List.mem_singleton.1 he];exact Nat.le_refl _
 ·show (S.ends++[S.trail.length]).Pairwise _;rw[List.pairwise_append];exact⟨h.mono,List.pairwise_singleton _ _,fun a ha b hb=>by rw[List.mem_singleton.1 hb];exact h.ends a ha⟩
 ·rcases h.why i hi with ⟨a,b⟩ | a
  ·exact .inl ⟨a,List.mem_append_left _ b⟩
  ·exact .inr a
structure MW (S T:SM) (ls:List Nat):Prop where
 Yp:qx S T
 value:∀ v,gi T.value v=if v∈ls.map (·/2) then 0 else gi S.value v
 reason:∀ v,gi T.reason v=if v∈ls.map (·/2) then -1 else gi S.reason v
 phase:∀ v,v∉ls.map (·/2)→gB T.phase v=gB S.phase v
theorem abx {S:SM} {l:Nat} (hr:l/2<S.reason.length):MW S (S.undo l) [l]:=by
 refine⟨Co S l,fun v=>?_,fun v=>?_,fun v hv=>?_⟩
 ·rw[Fu,Yo];simp
 ·rw[yu];show gi (S.reason.set (l/2) (-1)) v=_;rw[mW hr];simp
 ·rw[yu];show gB (S.phase.set (l/2) _) v=_;have:l/2≠v:=fun e=>hv (by simp[e]);simp[gB,List.getD_eq_getElem?_getD,List.getElem?_set_ne this]
theorem MX {α:Type} {P:List α→Prop} (h0:P []) (h1:∀ l x,P l→P (l++[x])) (l:List α):P l:=by
 have:∀ m:List α,P m.reverse:=fun m=>by
  induction m with
  | nil=>exact h0
  | cons x r ih=>rw[List.reverse_cons];exact h1 _ _ ih
 have h:=this l.reverse
 rwa [List.reverse_reverse] at h
theorem Q5 {S:SM}:∀ (ls:List Nat),(∀ l∈ls,l/2<S.reason.length)→MW S (S.dS ls) ls:=by
 refine MX ?_ ?_
 ·intro _;exact⟨rQ S [],fun v=>by simp[SM.dS],fun v=>by simp[SM.dS],fun v _=>rfl⟩
 ·intro ls l ih h;have h1:=ih fun x hx=>h x (List.mem_append_left _ hx);have hrl:(S.dS ls).reason.length=S.reason.length:=h1.Yp.reason;have h2:=abx (S:=S.dS ls) (l:=l) (by rw[hrl];exact h l (by simp));rw[mR];refine⟨by rw[←mR];exact rQ S _,fun v=>?_,fun v=>?_,fun v hv=>?_⟩
  ·rw[h2.value,h1.value];simp only[List.map_append,List.mem_append,List.map_cons,List.map_nil,List.mem_singleton]
   by_cases a:v=l/2 <;> by_cases b:v∈ls.map (·/2) <;> simp[a,b]
  ·rw[h2.reason,h1.reason];simp only[List.map_append,List.mem_append,List.map_cons,List.map_nil,List.mem_singleton]
   by_cases a:v=l/2 <;> by_cases b:v∈ls.map (·/2) <;> simp[a,b]
  ·rw[List.map_append,List.mem_append,not_or] at hv;rw[h2.phase v (by simpa using hv.2),h1.phase v hv.1]
structure aep (S T:SM) (e k:Nat):Prop where
 same:∃ ph va re hl pl,T=SM.wBk S ph va re hl pl (S.trail.take e) (S.ends.take k) e
 value:∀ v,gi T.value v=if v∈(S.trail.drop e).map (·/2) then 0 else gi S.value v
 reason:∀ v,gi T.reason v=if v∈(S.trail.drop e).map (·/2) then -1 else gi S.reason v
 phase:∀ v,v∉(S.trail.drop e).map (·/2)→gB T.phase v=gB S.phase v
theorem uO {l:List Nat} {e x:Nat} (h:x∈l.drop e):∃ i,e≤i∧i<l.length∧gn l i=x:=by
 obtain⟨i,hi,k⟩:=List.getElem_of_mem h;rw[List.length_drop] at hi;exact⟨e+i,by omega,by omega,by rw[fD l (e+i) (by omega),←k,List.getElem_drop]⟩
theorem Ct {l:List Nat} {e i:Nat} (h:e≤i) (hi:i<l.length):gn l i∈l.drop e:=by
 rw[fD l i hi];have:(l.drop e)[i-e]'(by rw[List.length_drop];omega)=l[i]:=by rw[List.getElem_drop];congr 1;omega
 rw[←this];exact List.getElem_mem _
theorem nR.kY {S:SM} (h:nR S):∀ l∈S.trail,l/2<S.value.length:=fun l hl=>by
 obtain⟨i,hi,rfl⟩:=jO hl;exact h.lt i hi
theorem pV {S:SM} (k:Nat) (h:nR S) (hk:k<S.ends.length):aep S (S.back k) (gn S.ends k) k:=by
 have hb:=Q5 (S:=S) (S.trail.drop (gn S.ends k)) fun l hl=>by rw[h.sz.reason];exact h.kY l (List.mem_of_mem_drop hl)
 unfold SM.back;rw[if_neg (by omega)];obtain⟨T,hT⟩:∃ T,S.dS (S.trail.drop (gn S.ends k))=T:=⟨_,rfl⟩;rw[hT] at hb ⊢;refine⟨⟨T.phase,T.value,T.reason,T.hl,T.place,?_⟩,hb.value,hb.reason,hb.phase⟩;have key:∀ X:SM,T=X→({ T with trail:=S.trail.take (gn S.ends k),ends:=S.ends.take k,next:=gn S.ends k }:SM)={ X with trail:=S.trail.take (gn S.ends k),ends:=S.ends.take k,next:=gn S.ends k }:=fun X e=>by rw[e]
 exact key _ hb.Yp.same
theorem vT {l:List Nat} (h:l.Pairwise (·≤·)) {i j:Nat} (hij:i≤j) (hj:j<l.length):gn l i≤gn l j:=by
 rw[fD l i (by omega),fD l j hj];rcases Nat.lt_or_ge i j with a | a
 ·exact List.pairwise_iff_getElem.1 h i j (by omega) hj a
 ·have:i=j:=by omega
  subst this;exact Nat.le_refl _
theorem yC {l:List Nat} (h:l.Pairwise (·≤·)) {k i:Nat} (_hk:k<l.length) (hi:i<gn l k):(l.take k).countP (fun e=>decide (e≤i))=l.countP (fun e=>decide (e≤i)):=by
 conv=>rhs;rw[←List.take_append_drop k l,List.countP_append]
 have:(l.drop k).countP (fun e=>decide (e≤i))=0:=by
  rw[List.countP_eq_zero];intro a ha;obtain⟨j,h1,h2,rfl⟩:=uO ha;have:=vT h h1 h2;simp;omega
 omega
theorem FJ {l:List Nat} {n i:Nat} (h:i<n):gn (l.take n) i=gn l i:=lM h
theorem nR.back {S:SM} (h:nR S) {k:Nat} (hk:k<S.ends.length) (hz:Sz (S.back k)) (hlen:(S.back k).value.length=S.value.length):nR (S.back k):=by
 obtain⟨hs,hv,hr,_⟩:=pV k h hk;obtain⟨e,he⟩:∃ e,gn S.ends k=e:=⟨_,rfl⟩;obtain⟨T,hT⟩:∃ T,S.back k=T:=⟨_,rfl⟩;have hee:e≤S.trail.length:=by rw[←he];exact h.ends _ (aU _ _ hk)
 have hlv:∀ i,i<e→(S.ends.take k).countP (fun e=>decide (e≤i))=dM S i:=fun i hi=>yC h.mono hk (by omega)
 have hin:∀ i,i<e→i∈S.ends→i∈S.ends.take k:=fun i hi hm=>by
  obtain⟨j,hj,rfl⟩:=jO hm
  have:j<k:=by
   apply Classical.byContradiction;intro hc;have:=vT h.mono (by omega:k≤j) hj;omega
  rw[←lM this];exact aU _ _ (by rw[List.length_take];omega)
 rw[hT,he] at hs hv hr;rw[hT] at hz hlen ⊢
 have hnot:∀ i,i<e→gn S.trail i/2∉(S.trail.drop e).map (·/2):=fun i hi hm=>by
  obtain⟨x,hx,hx2⟩:=List.mem_map.1 hm;obtain⟨j,h1,h2,rfl⟩:=uO hx;have:=h.inj j i h2 (by omega) hx2;omega
 obtain⟨ph,va,re,hl,pl,rfl⟩:=hs;have htl:∀ i,i<(S.trail.take e).length→i<e∧i<S.trail.length:=fun i hi=>by rw[List.length_take] at hi;omega
 have hg:∀ i,i<e→gn (S.trail.take e) i=gn S.trail i:=fun i hi=>lM hi;refine⟨hz,?_,?_,?_,?_,?_,?_,?_,?_,?_,?_⟩
 ·intro x hx;obtain⟨i,hi,rfl⟩:=List.getElem_of_mem hx;have:=hv i;change gi va i=_ at this;rw[dh va i hi] at this;change Da va[i];rw[this]
  split
  ·exact .inr (.inr rfl)
  ·exact Tx h.vals i
 ·intro i hi;obtain⟨a,b⟩:=htl i hi;change 2≤gn (S.trail.take e) i;rw[hg i a];exact h.two i b
 ·intro i hi;obtain⟨a,b⟩:=htl i hi;rw[hlen];change gn (S.trail.take e) i/2<_;rw[hg i a];exact h.lt i b
 ·intro i hi;obtain⟨a,b⟩:=htl i hi;have h1:=h.is i b;have h2:=hv (gn S.trail i/2);rw[if_neg (hnot i a)] at h2;change SM.bF _ (gn (S.trail.take e) i)=1;rw[hg i a];unfold SM.bF at h1 ⊢;rw[h2];exact h1
 ·intro i hi;obtain⟨a,b⟩:=htl i hi;change gn S.level (gn (S.trail.take e) i/2)=(S.ends.take k).countP (fun e=>decide (e≤i));rw[hg i a,hlv i a];exact h.jo i b
 ·intro i j hi hj;obtain⟨a,b⟩:=htl i hi;obtain⟨a',b'⟩:=htl j hj;change gn (S.trail.take e) i/2=gn (S.trail.take e) j/2→_;rw[hg i a,hg j a'];exact h.inj i j b b'
 ·intro v hvl h1;rw[hlen] at hvl;rw[hv v] at h1
  by_cases hm:v∈(S.trail.drop e).map (·/2)
  ·rw[if_pos hm] at h1;exact absurd rfl h1
  ·rw[if_neg hm] at h1;obtain⟨i,hi,hvv⟩:=h.all v hvl h1
   have hie:i<e:=by
    apply Classical.byContradiction;intro hc;exact hm (List.mem_map.2 ⟨_,Ct (by omega) hi,hvv⟩)
   refine⟨i,by show i<(S.trail.take e).length;rw[List.length_take];omega,?_⟩;change gn (S.trail.take e) i/2=v;rw[hg i hie];exact hvv
 ·intro x hx;change x∈S.ends.take k at hx;show x≤(S.trail.take e).length;rw[List.length_take];obtain⟨j,hj,rfl⟩:=jO hx;rw[List.length_take] at hj;rw[lM (by omega)];have:=vT h.mono (by omega:j≤k) hk;omega
 ·exact h.mono.sublist (List.take_sublist _ _)
 ·intro i hi;obtain⟨a,b⟩:=htl i hi;have h2:=hr (gn S.trail i/2);rw[if_neg (hnot i a)] at h2;unfold Why;change (gi re (gn (S.trail.take e) i/2)=-1∧i∈S.ends.take k)∨∃ r:Nat,gi re (gn (S.trail.take e) i/2)=r∧r<S.cls.length∧gn (S.trail.take e) i∈S.cl r∧∀ x∈S.cl r,x≠gn (S.trail.take e) i→∃ j,j<i∧gn (S.trail.take e) j=negL x;rw[hg i a];change gi re (gn S.trail i/2)=_ at h2;rw[h2];rcases h.why i b with ⟨c,d⟩ | ⟨r,c1,c2,c3,c4⟩
  ·exact .inl ⟨c,hin i a d⟩
  ·exact .inr ⟨r,c1,c2,c3,fun x hx hne=>by
    obtain⟨j,hj,hx⟩:=c4 x hx hne
    exact⟨j,hj,by rw[hg j (by omega)];exact hx⟩⟩
theorem bG.mem {S:SM} (h:bG S) {v:Nat} (hv:v<S.value.length):v∈S.hl↔gn S.place v≠0:=by
 constructor
 ·intro hm hz;exact h.Tn hz hm
 ·intro hz;obtain⟨a,b⟩:=h.bk v hv hz;rw[←b];exact aU _ _ (by omega)
def Laid (S T:SM):Prop:=T.place.length=S.place.length∧∀ x,gn S.place x≠0→gn T.place x≠0
theorem Laid.refl (S:SM):Laid S S:=⟨rfl,fun _ h=>h⟩
theorem Laid.trans {S T U:SM} (h:Laid S T) (k:Laid T U):Laid S U:=⟨k.1.trans h.1,fun x hx=>k.2 x (h.2 x hx)⟩
theorem kL (S:SM) (i v:Nat):Laid S (S.lay i v):=by
 refine⟨by show (S.place.set v (i+1)).length=_;rw[List.length_set],fun x hx=>?_⟩;show gn (S.place.set v (i+1)) x≠0
 by_cases hv:v<S.place.length
 ·rw[gZ hv];split
  ·omega
  ·exact hx
 ·rw[List.set_eq_of_length_le (by omega)];exact hx
theorem MZ {S:SM} {i v:Nat} (hv:v<S.place.length):gn (S.lay i v).place v≠0:=by
 show gn (S.place.set v (i+1)) v≠0;rw[gZ hv,if_pos rfl];omega
theorem Bz:∀ (f:Nat) (S:SM) (v i:Nat),Laid S (SM.ji f S v i)
 | 0,S,v,i=>kL S i v
 | f+1,S,v,i=>by
  rw[SM.ji]
  split
  ·exact (kL S i _).trans (Bz f _ v _)
  ·exact kL S i v
theorem Jj:∀ (f:Nat) {S:SM} {v i:Nat},v<S.place.length→gn (SM.ji f S v i).place v≠0
 | 0,S,v,i,h=>MZ h
 | f+1,S,v,i,h=>by
  rw[SM.ji]
  split
  ·exact Jj f (by rw[(kL S i _).1];exact h)
  ·exact MZ h
theorem uP:∀ (f:Nat) (S:SM) (v i:Nat),Laid S (SM.dH f S v i)
 | 0,S,v,i=>kL S i v
 | f+1,S,v,i=>by
  rw[SM.dH]
  split
  ·exact kL S i v
  ·split
   ·exact (kL S i _).trans (uP f _ v _)
   ·exact kL S i v
theorem Jk:∀ (n:Nat) (S:SM),Laid S (SM.sift n S)
 | 0,S=>Laid.refl S
 | i+1,S=>by rw[SM.sift];exact (uP _ S _ _).trans (Jk i _)
theorem M0 {S T:SM} (hS:bG S) (hT:bG T) (hl:T.hl.length=S.hl.length) (hv:T.value.length=S.value.length) (hm:Laid S T) (x:Nat):x∈T.hl↔x∈S.hl:=by
 have hsub:∀ y∈S.hl,y∈T.hl:=fun y hy=>by
  have h1:=hS.hb.vars y hy;exact (hT.mem (by omega)).2 (hm.2 y ((hS.mem h1).1 hy))
 refine⟨fun hx=>?_,hsub x⟩;apply Classical.byContradiction;intro hn
 have:=nH (d:=x :: S.hl) (L:=T.hl) (List.nodup_cons.2 ⟨hn,hS.nodup⟩) fun y hy=>by
  rcases List.mem_cons.1 hy with rfl | hy
  ·exact hx
  ·exact hsub y hy
 rw[List.length_cons] at this;omega
structure fK (S:SM):Prop where
 hi:bG S
 nz:0∉S.hl
 all:∀ v,0<v→v<S.value.length→gi S.value v=0→v∈S.hl
theorem fK.same {S T:SM} (h:fK S) (hT:bG T) (hv:T.value=S.value) (hm:∀ x,x∈T.hl↔x∈S.hl):fK T :=
 ⟨hT,fun k=>h.nz ((hm 0).1 k),fun v h0 hl hz=>(hm v).2 (h.all v h0 (by rw[←hv];exact hl) (by rw[←hv];exact hz))⟩
theorem fK.grown {S T:SM} (h:fK S) (hT:bG T) (hl:T.value.length=S.value.length) (hv:∀ v,gi S.value v≠0→gi T.value v≠0) (hm:T.hl=S.hl):fK T :=
 ⟨hT,by rw[hm];exact h.nz,fun v h0 hlt hz=>by rw[hm];exact h.all v h0 (by omega) (Classical.byContradiction fun k=>hv v k hz)⟩
theorem Yq (f:Nat) (S:SM) (v i:Nat):(SM.ji f S v i).value=S.value:=rP f
theorem zU:∀ (f:Nat) (S:SM) (v i:Nat),SM.dH f S v i={ S with hl:=(SM.dH f S v i).hl,place:=(SM.dH f S v i).place }
 | 0,_,_,_=>rfl
 | f+1,S,v,i=>by
  rw[SM.dH]
  split
  ·rfl
  ·split
   ·have:=zU f (S.lay i (gn S.hl (S.child i))) v (S.child i);rw[this];rfl
   ·rfl
structure dQ (S T:SM):Prop where
 same:∃ a b c,T={ S with hl:=a,place:=b,met:=c }
theorem dQ.refl (S:SM):dQ S S:=⟨_,_,_,rfl⟩
theorem dQ.trans {S T U:SM} (h:dQ S T) (k:dQ T U):dQ S U:=by
 obtain⟨a,b,c,rfl⟩:=h.same;obtain⟨a',b',c',rfl⟩:=k.same;exact⟨a',b',c',rfl⟩
theorem Q6 (f:Nat) (S:SM) (v i:Nat):dQ S (SM.ji f S v i):=⟨_,_,_,yt f S v i⟩
theorem zV (f:Nat) (S:SM) (v i:Nat):dQ S (SM.dH f S v i):=⟨_,_,_,zU f S v i⟩
theorem FK:∀ (n:Nat) (S:SM),dQ S (SM.sift n S)
 | 0,S=>dQ.refl S
 | i+1,S=>by rw[SM.sift];exact (zV _ S _ _).trans (FK i _)
theorem nU (S:SM) (v:Nat):dQ S (S.meet v):=by
 unfold SM.meet;have h0:dQ S (S.bump v):=⟨_,_,_,rfl⟩
 split
 ·exact h0
 ·exact h0.trans (Q6 _ _ _ _)
theorem nV (S:SM):dQ S S.lS:=by
 unfold SM.lS;exact dQ.trans (⟨_,_,_,rfl⟩:dQ S { S with met:=S.met.map (·/2) }) (FK _ _)
theorem Tz:∀ (n:Nat) {S:SM},(SM.sift n S).hl.length=S.hl.length
 | 0,_=>rfl
 | i+1,S=>by rw[SM.sift,Tz i];exact qN _
theorem Yr {S:SM} (h:bG S) {v:Nat} (hv:v<S.value.length) (x:Nat):x∈(S.meet v).hl↔x∈S.hl:=by
 have hT:=h.meet hv;refine M0 h hT ?_ ?_ ?_ x
 ·unfold SM.meet;split
  ·rfl
  ·exact Kz _
 ·obtain⟨a,b,c,e⟩:=(nU S v).same;rw[e]
 ·unfold SM.meet;split
  ·exact Laid.refl S
  ·exact Laid.trans (Laid.refl S) (Bz _ (S.bump v) _ _)
theorem Yt {S:SM} (h:bG S) (x:Nat):x∈S.lS.hl↔x∈S.hl:=by
 refine M0 h h.lS ?_ ?_ ?_ x
 ·unfold SM.lS;exact Tz _
 ·obtain⟨a,b,c,e⟩:=(nV S).same;rw[e]
 ·unfold SM.lS;exact Jk _ { S with met:=S.met.map (·/2) }
theorem fK.meet {S:SM} (h:fK S) {v:Nat} (hv:v<S.value.length):fK (S.meet v) :=
 h.same (h.hi.meet hv) (by obtain⟨a,b,c,e⟩:=(nU S v).same;rw[e]) (Yr h.hi hv)
theorem fK.lS {S:SM} (h:fK S):fK S.lS :=
 h.same h.hi.lS (by obtain⟨a,b,c,e⟩:=(nV S).same;rw[e]) (Yt h.hi)
theorem TA {S:SM} (h:bG S) {v:Nat} (hv:v<S.value.length) (x:Nat):x∈(S.put v).hl↔x∈S.hl∨x=v:=by
 have hT:=h.put hv;unfold SM.put at hT ⊢
 by_cases hz:gn S.place v=0
 ·rw[if_pos hz] at hT ⊢;have hpl:v<S.place.length:=by rw[h.hb.place];exact hv
  obtain⟨U,hU⟩:∃ U:SM,{ S with hl:=S.hl++[v] }=U:=⟨_,rfl⟩;rw[hU] at hT ⊢;have e1:U.place=S.place:=by rw[←hU]
  have e2:U.value=S.value:=by rw[←hU]
  have e3:U.hl=S.hl++[v]:=by rw[←hU]
  have e4:gn U.hl S.hl.length=v:=by rw[e3];exact vS
  have hval:(U.up S.hl.length).value=S.value:=by unfold SM.up;rw[Yq,e2]
  have hlaid:Laid U (U.up S.hl.length):=Bz _ _ _ _
  have hlen:(U.up S.hl.length).hl.length=S.hl.length+1:=by
   unfold SM.up;rw[Kz,e3];simp
  have hsv:gn (U.up S.hl.length).place v≠0:=by
   unfold SM.up;rw[e4];exact Jj _ (by rw[e1];exact hpl)
  have hvn:v∉S.hl:=h.Tn hz
  have hsub:∀ y,y∈S.hl∨y=v→y∈(U.up S.hl.length).hl:=fun y hy=>by
   rcases hy with hy | rfl
   ·have h1:=h.hb.vars y hy;exact (hT.mem (by rw[hval];exact h1)).2 (hlaid.2 y (by rw[e1];exact (h.mem h1).1 hy))
   ·exact (hT.mem (by rw[hval];exact hv)).2 hsv
  refine⟨fun hx=>?_,hsub x⟩;apply Classical.byContradiction;intro hn;rw[not_or] at hn
  have:=nH (d:=x :: v :: S.hl) (L:=(U.up S.hl.length).hl) (List.nodup_cons.2 ⟨fun k=>by rcases List.mem_cons.1 k with k | k <;> simp_all,List.nodup_cons.2 ⟨hvn,h.nodup⟩⟩) fun y hy=>by
   rcases List.mem_cons.1 hy with rfl | hy
   ·exact hx
   ·rcases List.mem_cons.1 hy with rfl | hy
    ·exact hsub y (.inr rfl)
    ·exact hsub y (.inl hy)
  rw[List.length_cons,List.length_cons] at this;omega
 ·rw[if_neg hz];exact⟨.inl,fun k=>k.elim id fun e=>e▸(h.mem hv).2 hz⟩
theorem Q7 {S:SM} (h:bG S) (l:Nat):bG { S with phase:=S.phase.set (l/2) (l % 2==0),value:=S.value.set (l/2) 0,reason:=S.reason.set (l/2) (-1) } :=
 h.congr (by show (S.value.set _ _).length=_;rw[List.length_set]) rfl rfl rfl
theorem Yu {S:SM} (h:bG S) {l:Nat} (hl:l/2<S.value.length) (x:Nat):x∈(S.undo l).hl↔x∈S.hl∨x=l/2 :=
 TA (Q7 h l) (by show _<(S.value.set _ _).length;rw[List.length_set];exact hl) x
theorem M7 {S:SM} (h:bG S):∀ (ls:List Nat),(∀ l∈ls,l/2<S.value.length)→∀ x,x∈(S.dS ls).hl↔x∈S.hl∨x∈ls.map (·/2):=by
 refine MX ?_ ?_
 ·intro _ x;simp[SM.dS]
 ·intro ls l ih hl x;have h1:∀ y∈ls,y/2<S.value.length:=fun y hy=>hl y (List.mem_append_left _ hy);obtain⟨a,b⟩:=h.dS ls h1;rw[mR,Yu a (by rw[b];exact hl l (by simp)),ih h1 x];simp[or_assoc]
theorem fK.back {S:SM} (h:fK S) (ht:nR S) {k:Nat} (hk:k<S.ends.length) (hlen:(S.back k).value.length=S.value.length) (hT:bG (S.back k)):fK (S.back k):=by
 have hb:=pV k ht hk
 have hset:∀ x,x∈(S.back k).hl↔x∈S.hl∨x∈(S.trail.drop (gn S.ends k)).map (·/2):=fun x=>by
  unfold SM.back;rw[if_neg (by omega)];exact M7 h.hi _ (fun l hl=>ht.kY l (List.mem_of_mem_drop hl)) x
 refine⟨hT,fun hm=>?_,fun v h0 hl hz=>?_⟩
 ·rcases (hset 0).1 hm with hm | hm
  ·exact h.nz hm
  ·obtain⟨y,hy,e⟩:=List.mem_map.1 hm;obtain⟨i,hi,rfl⟩:=jO (List.mem_of_mem_drop hy);have:=ht.two i hi;omega
 ·rw[hset];rw[hb.value] at hz
  by_cases hm:v∈(S.trail.drop (gn S.ends k)).map (·/2)
  ·exact .inr hm
  ·rw[if_neg hm] at hz;exact .inl (h.all v h0 (by omega) hz)
theorem U5 {S:SM} {x:Nat} (hx:gn S.place x≠0) (hne:x≠gn S.hl 0):gn (S.place.set (gn S.hl 0) 0) x≠0:=by
 rw[fB (Ne.symm hne)];exact hx
theorem Cu (S:SM):dQ S S.taken:=by
 unfold SM.taken
 split
 ·exact⟨_,_,_,rfl⟩
 ·exact dQ.trans (⟨_,_,_,rfl⟩:dQ S (SM.lay { S with hl:=S.hl.take (S.hl.length-1),place:=S.place.set (gn S.hl 0) 0 } 0 (gn S.hl (S.hl.length-1)))) (zV _ _ _ _)
theorem U6 {S:SM} (h:bG S) (hl:S.hl.length≠0) (x:Nat):x∈S.taken.hl↔x∈S.hl∧x≠gn S.hl 0:=by
 have hT:=h.taken hl;have hval:S.taken.value=S.value:=by obtain⟨a,b,c,e⟩:=(Cu S).same;rw[e]
 have hlen:S.taken.hl.length=S.hl.length-1:=by
  unfold SM.taken
  split
  ·rename_i e;show 0=_;omega
  ·show (SM.dH _ _ _ _).hl.length=_;rw[qN];show ((S.hl.take (S.hl.length-1)).set 0 _).length=_;rw[List.length_set,List.length_take];omega
 have hsub:∀ y,y∈S.hl∧y≠gn S.hl 0→y∈S.taken.hl:=fun y ⟨hy,hne⟩=>by
  have h1:=h.hb.vars y hy;refine (hT.mem (by rw[hval];exact h1)).2 ?_;have h2:=U5 ((h.mem h1).1 hy) hne;unfold SM.taken
  split
  ·exact h2
  ·refine (uP _ _ _ _).2 y ?_;exact (kL { S with hl:=S.hl.take (S.hl.length-1),place:=S.place.set (gn S.hl 0) 0 } 0 _).2 y h2
 refine⟨fun hx=>?_,hsub x⟩;apply Classical.byContradiction;intro hn;have h0:gn S.hl 0∈S.hl:=aU _ _ (by omega);have hE:(S.hl.erase (gn S.hl 0)).length=S.hl.length-1:=List.length_erase_of_mem h0
 have:=nH (d:=x :: S.hl.erase (gn S.hl 0)) (L:=S.taken.hl) (List.nodup_cons.2 ⟨fun k=>hn ((h.nodup.mem_erase_iff.1 k).symm),h.nodup.erase _⟩) fun y hy=>by
  rcases List.mem_cons.1 hy with rfl | hy
  ·exact hx
  ·exact hsub y (h.nodup.mem_erase_iff.1 hy).symm
 rw[List.length_cons,hE,hlen] at this;omega
theorem swap_perm {c:List Nat} {i j:Nat} (hi:i<c.length) (hj:j<c.length):(SM.dG c i j).Perm c:=by
 unfold SM.dG;rw[fD c i hi,fD c j hj];exact List.set_set_perm hi hj
theorem rV {c:List Nat} {i j k:Nat} (hi:i<c.length) (hj:j<c.length):gn (SM.dG c i j) k=if k=j then gn c i else if k=i then gn c j else gn c k:=by
 unfold SM.dG;rw[gZ (by rw[List.length_set];exact hj),gZ hi]
def orient (c:List Nat) (l:Nat):List Nat:=if gn c 0=l then SM.dG c 0 1 else c
theorem Cv {c:List Nat} {l:Nat} (h:2≤c.length):(orient c l).Perm c:=by
 unfold orient;split
 ·exact swap_perm (by omega) (by omega)
 ·exact List.Perm.refl _
theorem rW {c:List Nat} {l:Nat}:(orient c l).length=c.length:=by
 unfold orient;split
 ·exact lW c 0 1
 ·rfl
def Two (c d:List Nat):Prop:=(gn c 0=gn d 0∧gn c 1=gn d 1)∨(gn c 0=gn d 1∧gn c 1=gn d 0)
theorem FL {c:List Nat} {l:Nat} (h:2≤c.length):Two (orient c l) c:=by
 unfold orient;split
 ·right;rw[rV (by omega) (by omega),rV (by omega) (by omega)];simp
 ·exact .inl ⟨rfl,rfl⟩
theorem FM {c:List Nat} {l:Nat} (h:2≤c.length) (hl:l=gn c 0∨l=gn c 1):gn (orient c l) 1=l:=by
 unfold orient;split
 ·rw[rV (by omega) (by omega)];simpa using by assumption
 ·rcases hl with hl | hl
  ·exact absurd hl.symm (by assumption)
  ·exact hl.symm
theorem uQ (S:SM) (ref l:Nat):S.look ref l=mJ S ref (orient (S.cl ref) l):=yA S ref l
theorem FN {S:SM} {c:List Nat}:∀ {f i:Nat},SM.iK S f c i=none→∀ k,i≤k→k<i+f→S.bF (gn c k)<0
 | 0,_,_,_,_,_=>by omega
 | f+1,i,h,k,h1,h2=>by
  rw[SM.iK] at h
  split at h
  ·cases h
  ·by_cases e:k=i
   ·subst e;omega
   ·exact FN h k (by omega) (by omega)
inductive uS (S:SM) (ref:Nat) (c:List Nat):SM×Bool×Bool→Prop
 | sat (h:0<S.bF (gn c 0)):uS S ref c (S.dB ref c,false,false)
 | move (i:Nat) (h0:S.bF (gn c 0)≤0) (h1:2≤i) (h2:i<c.length) (h3:0≤S.bF (gn c i)):uS S ref c ((S.dB ref (SM.dG c 1 i)).watch (gn c i) ref,true,false)
 | bad (h:∀ k,2≤k→k<c.length→S.bF (gn c k)<0) (h0:S.bF (gn c 0)<0):uS S ref c (S.dB ref c,false,true)
 | unit (h:∀ k,2≤k→k<c.length→S.bF (gn c k)<0) (h0:S.bF (gn c 0)=0):uS S ref c ((S.dB ref c).bX (gn c 0) ref,false,false)
theorem Jl (S:SM) (ref l:Nat) (h2:2≤(S.cl ref).length):uS S ref (orient (S.cl ref) l) (S.look ref l):=by
 rw[uQ];have hl:2≤(orient (S.cl ref) l).length:=by rw[rW];exact h2
 generalize orient (S.cl ref) l=c at hl;unfold mJ
 split
 ·rename_i h;exact .sat h
 ·rename_i h
  cases hf:S.iK (c.length-2) c 2 with
  | some i =>
   obtain⟨a,b,d⟩:=Fv hf;exact .move i (by omega) a (by omega) d
  | none =>
   have hn:∀ k,2≤k→k<c.length→S.bF (gn c k)<0:=fun k a b=>FN hf k a (by omega);simp only
   split
   ·rename_i h0;exact .bad hn h0
   ·rename_i h0;exact .unit hn (by omega)
structure KQ (S:SM):Prop where
 nd:∀ r,r<S.cls.length→((S.cl r).map (·/2)).Nodup
 two:∀ r,r<S.cls.length→∀ x∈S.cl r,2≤x∧x/2<S.value.length
structure P8 (S:SM):Prop where
 nd:∀ l,(gN S.aj l).Nodup
 iff:∀ l r,r∈gN S.aj l↔(r<S.cls.length∧2≤(S.cl r).length∧(l=gn (S.cl r) 0∨l=gn (S.cl r) 1))
theorem yD {l:List (List Nat)} {i j:Nat} {v:List Nat} (h:i<l.length):gN (l.set i v) j=if j=i then v else gN l j:=by
 by_cases e:j=i
 ·subst e;simp[gN,List.getD_eq_getElem?_getD,h]
 ·rw[if_neg e];simp[gN,List.getD_eq_getElem?_getD,List.getElem?_set_ne (Ne.symm e)]
theorem Yv {l:List (List Nat)} {i:Nat} (h:l.length≤i):gN l i=[]:=by simp[gN,List.getD_eq_getElem?_getD,List.getElem?_eq_none h]
theorem jc {S:SM} {ref r:Nat} {c:List Nat} (h:ref<S.cls.length):(S.dB ref c).cl r=if r=ref then c else S.cl r:=by
 show ((S.cls.set ref (c,S.id ref)).getD r ([],0)).1=_
 by_cases e:r=ref
 ·subst e;simp[List.getD_eq_getElem?_getD,h]
 ·rw[if_neg e];simp[SM.cl,List.getD_eq_getElem?_getD,List.getElem?_set_ne (Ne.symm e)]
theorem Yw {S:SM} {ref r:Nat} {c:List Nat} (h:ref<S.cls.length):(S.dB ref c).id r=S.id r:=by
 show ((S.cls.set ref (c,S.id ref)).getD r ([],0)).2=_
 by_cases e:r=ref
 ·subst e;simp[List.getD_eq_getElem?_getD,h,SM.id]
 ·simp[SM.id,List.getD_eq_getElem?_getD,List.getElem?_set_ne (Ne.symm e)]
theorem KQ.ne {S:SM} (h:KQ S) {r i j:Nat} (hr:r<S.cls.length) (hi:i<(S.cl r).length) (hj:j<(S.cl r).length) (hij:i≠j):gn (S.cl r) i/2≠gn (S.cl r) j/2:=by
 have h1:=h.nd r hr;intro e;rw[fD _ _ hi,fD _ _ hj] at e;exact hij ((List.getElem_inj (h₀:=by simpa using hi) (h₁:=by simpa using hj) h1).1 (by simpa using e))
theorem KQ.turn {S:SM} (h:KQ S) {ref:Nat} {c:List Nat} (hr:ref<S.cls.length) (hp:c.Perm (S.cl ref)):KQ (S.dB ref c):=by
 have hl:(S.dB ref c).cls.length=S.cls.length:=by show (S.cls.set _ _).length=_;rw[List.length_set]
 refine⟨fun r hrl=>?_,fun r hrl x hx=>?_⟩
 ·rw[hl] at hrl;rw[jc hr]
  split
  ·exact (hp.map _).nodup_iff.2 (h.nd ref hr)
  ·exact h.nd r hrl
 ·rw[hl] at hrl;rw[jc hr] at hx
  split at hx
  ·exact h.two ref hr x (hp.mem_iff.1 hx)
  ·exact h.two r hrl x hx
theorem P8.turn {S:SM} (h:P8 S) {ref:Nat} {c:List Nat} (hr:ref<S.cls.length) (hp:c.Perm (S.cl ref)) (h2:Two c (S.cl ref)):P8 (S.dB ref c):=by
 have hl:(S.dB ref c).cls.length=S.cls.length:=by show (S.cls.set _ _).length=_;rw[List.length_set]
 refine⟨h.nd,fun l r=>?_⟩;show r∈gN S.aj l↔_;rw[h.iff,hl,jc hr]
 split
 ·rename_i e;subst e;rw[hp.length_eq];rcases h2 with ⟨a,b⟩ | ⟨a,b⟩ <;> rw[a,b]
  constructor <;> rintro⟨x,y,z⟩ <;> exact⟨x,y,z.symm⟩
 ·rfl
theorem P8.move {S T:SM} (h:P8 S) {ref l k m:Nat} {c:List Nat} (hr:ref<S.cls.length) (hlen:c.length=(S.cl ref).length) (h2:2≤c.length)
  (hl:l=gn (S.cl ref) 0∨l=gn (S.cl ref) 1) (h0:Two (orient (S.cl ref) l) (S.cl ref)) (ho:gn (orient (S.cl ref) l) 1=l)
  (hc0:gn c 0=gn (orient (S.cl ref) l) 0) (hc1:gn c 1=k) (hkl:k≠l) (hk0:k≠gn c 0) (hl0:l≠gn c 0) (hkw:k<S.aj.length) (qz:l<S.aj.length) (hm:m<(gN S.aj l).length) (hg:gn (gN S.aj l) m=ref)
  (hT:T.cls=(S.dB ref c).cls) (hw:T.aj=(S.aj.set k (gN S.aj k++[ref])).set l ((gN S.aj l).eraseIdx m)):P8 T:=by
 have ahe:T.cls.length=S.cls.length:=by rw[hT];show (S.cls.set _ _).length=_;rw[List.length_set]
 have hcl:∀ r,T.cl r=if r=ref then c else S.cl r:=fun r=>by
  rw[←jc hr];show (T.cls.getD r ([],0)).1=_;rw[hT];rfl
 have hrow:∀ j,gN T.aj j=if j=l then (gN S.aj l).eraseIdx m else if j=k then gN S.aj k++[ref] else gN S.aj j:=fun j=>by
  rw[hw,yD (by rw[List.length_set];exact qz),yD hkw]
 have hnl:=h.nd l
 have hme:∀ r,r∈(gN S.aj l).eraseIdx m↔r∈gN S.aj l∧r≠ref:=fun r=>by
  rw[List.mem_eraseIdx_iff_getElem];have hg':(gN S.aj l)[m]=ref:=by rw[←fD _ _ hm,hg]
  constructor
  ·rintro⟨i,hi,hne,rfl⟩
   exact⟨List.getElem_mem _,fun e=>hne ((List.getElem_inj (h₀:=hi) (h₁:=hm) hnl).1 (by rw[e,hg']))⟩
  ·rintro⟨hx,hne⟩
   obtain⟨i,hi,rfl⟩:=List.getElem_of_mem hx;exact⟨i,hi,fun e=>hne (by subst e;exact hg'),rfl⟩
 have hkr:ref∉gN S.aj k:=fun hmem=>by
  obtain⟨_,_,hh⟩:=(h.iff k ref).1 hmem;rcases h0 with ⟨a,b⟩ | ⟨a,b⟩ <;> rw[←a,←b,ho,←hc0] at hh <;> rcases hh with hh | hh <;> first | exact hkl hh | exact hk0 hh
 refine⟨fun j=>?_,fun j r=>?_⟩
 ·rw[hrow]
  split
  ·exact hnl.sublist (List.eraseIdx_sublist _ _)
  ·split
   ·rw[List.nodup_append];exact⟨h.nd k,by simp,fun a ha b hb=>by rw[List.mem_singleton.1 hb];intro e;exact hkr (e▸ha)⟩
   ·exact h.nd j
 ·rw[hrow,ahe,hcl]
  by_cases e:r=ref
  ·subst e;rw[if_pos rfl]
   by_cases e1:j=l
   ·rw[if_pos e1,hme,hc1];subst e1
    constructor
    ·rintro⟨_,hx⟩;exact absurd rfl hx
    ·rintro⟨_,_,hx | hx⟩
     ·exact absurd hx hl0
     ·exact absurd hx.symm hkl
   ·rw[if_neg e1]
    by_cases e2:j=k
    ·rw[if_pos e2];exact⟨fun _=>⟨hr,h2,.inr (by rw[e2,hc1])⟩,fun _=>by simp⟩
    ·rw[if_neg e2,h.iff,hc1,hlen]
     have hz:(j=gn (S.cl r) 0∨j=gn (S.cl r) 1)↔(j=gn c 0∨j=k):=by
      rcases h0 with ⟨a,b⟩ | ⟨a,b⟩ <;> rw[←a,←b,ho,←hc0]
      ·constructor
       ·rintro (x | x)
        ·exact .inl x
        ·exact absurd x e1
       ·rintro (x | x)
        ·exact .inl x
        ·exact absurd x e2
      ·constructor
       ·rintro (x | x)
        ·exact absurd x e1
        ·exact .inl x
       ·rintro (x | x)
        ·exact .inr x
        ·exact absurd x e2
     rw[hz]
  ·rw[if_neg e,←h.iff j r]
   by_cases e1:j=l
   ·rw[if_pos e1,hme,e1];exact⟨fun x=>x.1,fun x=>⟨x,e⟩⟩
   ·rw[if_neg e1]
    by_cases e2:j=k
    ·rw[if_pos e2,e2];simp[e]
    ·rw[if_neg e2]
end Go.Proofs.YthbbmdnfkkffjaaGreat
