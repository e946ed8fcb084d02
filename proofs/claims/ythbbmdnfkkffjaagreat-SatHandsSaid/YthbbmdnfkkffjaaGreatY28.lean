/-
  Parts of the proof, joined by program: Pi29, Pi30, Pi31.
-/
import Derived.Test.YthbbmdnfkkffjaaGreatY26
import Derived.Test.YthbbmdnfkkffjaaGreatY27
import Derived.Test.YthbbmdnfkkffjaaGreatY01
import Derived.Lib.Hide
set_option maxHeartbeats 8000000
set_option maxRecDepth 100000
namespace Go.Proofs.YthbbmdnfkkffjaaGreat
open Go.Proofs.au Go.Proofs.aA
def lw (S:SM):Nat:=(S.learned.map fun c=>c.length+2).sum
def VC (V:Nat→Prop) (S:SM):Prop:=∀ r,r<S.cls.length→∀ x∈S.cl r,V (x/2)
structure New (S T:SM) (E:List (List Nat)):Prop where
 eq:T.learned=S.learned++E.map fun c=>c.map bI
 pw:E.Pairwise fun c d=>¬ c.Perm d
 no:∀ c∈E,∀ r,r<S.cls.length→¬ (S.cl r).Perm c
 at_:∀ c∈E,∃ r,r<T.cls.length∧(T.cl r).Perm c
 nd:∀ c∈E,(c.map (·/2)).Nodup∧0<c.length
 vs:∀ V,VC V S→∀ c∈E,∀ x∈c,V (x/2)
theorem New.none {S T:SM} (h:T.learned=S.learned):∃ E,New S T E:=⟨[],by rw[h];simp,List.Pairwise.nil,fun c k=>(by cases k),fun c k=>(by cases k),fun c k=>(by cases k),fun V _ c k=>(by cases k)⟩
structure iO (S T:SM):Prop where
 same:T.given=S.given∧T.fresh=S.fresh∧T.most=S.most∧T.conf=S.conf∧T.occurs=S.occurs
 kept:T.model=S.model∧T.core=S.core∧T.told=S.told∧T.last=S.last
 gL:T.value.length=S.value.length
 sem:∀ a,kP a S→kP a T
 held:∀ r,r<S.cls.length→r<T.cls.length∧(T.cl r).Perm (S.cl r)
 wl:T.words+lw S=S.words+lw T
 ln:∀ c∈T.learned,c∈S.learned∨∃ d:List Nat,c=d.map bI∧(d.map (·/2)).Nodup∧(∀ x∈d,2≤x∧x/2<S.value.length)∧∀ a,kP a S→∃ l∈d,tr a l=true
 vc:∀ V,VC V S→VC V T
 nw:∃ E,New S T E
theorem iO.refl (S:SM):iO S S:=⟨⟨rfl,rfl,rfl,rfl,rfl⟩,⟨rfl,rfl,rfl,rfl⟩,rfl,fun _ h=>h,fun _ h=>⟨h,List.Perm.refl _⟩,rfl,fun _ h=>.inl h,fun _ h=>h,New.none rfl⟩
theorem iO.trans {S T U:SM} (h:iO S T) (k:iO T U):iO S U:=by
 obtain⟨a1,a2,a3,a4,a5⟩:=h.same;obtain⟨b1,b2,b3,b4,b5⟩:=k.same;obtain⟨c1,c2,c3,c4⟩:=h.kept;obtain⟨d1,d2,d3,d4⟩:=k.kept;refine⟨⟨b1.trans a1,b2.trans a2,b3.trans a3,b4.trans a4,b5.trans a5⟩,⟨d1.trans c1,d2.trans c2,d3.trans c3,d4.trans c4⟩,k.gL.trans h.gL,fun a x=>k.sem a (h.sem a x),fun r hr=>?_,?_,fun c hc=>?_,fun V x=>k.vc V (h.vc V x),?_⟩
 ·obtain⟨x,y⟩:=h.held r hr;obtain⟨u,v⟩:=k.held r x;exact⟨u,v.trans y⟩
 ·have:=h.wl;have:=k.wl;omega
 ·rcases k.ln c hc with x | ⟨d,d1,d2,d3,d4⟩
  ·exact h.ln c x
  ·exact .inr ⟨d,d1,d2,fun x hx=>by rw[←h.gL];exact d3 x hx,fun a x=>d4 a (h.sem a x)⟩
 ·obtain⟨E,e⟩:=h.nw;obtain⟨G,g⟩:=k.nw;refine⟨E++G,by rw[g.eq,e.eq,List.map_append,List.append_assoc],List.pairwise_append.2 ⟨e.pw,g.pw,fun c hc d hd hp=>?_⟩,fun c hc r hr hp=>?_,fun c hc=>?_,fun c hc=>?_,fun V hV c hc=>?_⟩
  ·obtain⟨r,hr,hp2⟩:=e.at_ c hc;exact g.no d hd r hr (hp2.trans hp)
  ·rcases List.mem_append.1 hc with x | x
   ·exact e.no c x r hr hp
   ·obtain⟨u,v⟩:=h.held r hr;exact g.no c x r u (v.trans hp)
  ·rcases List.mem_append.1 hc with x | x
   ·obtain⟨r,hr,hp⟩:=e.at_ c x;obtain⟨u,v⟩:=k.held r hr;exact⟨r,u,v.trans hp⟩
   ·exact g.at_ c x
  ·rcases List.mem_append.1 hc with x | x
   ·exact e.nd c x
   ·exact g.nd c x
  ·rcases List.mem_append.1 hc with x | x
   ·exact e.vs V hV c x
   ·exact g.vs V (h.vc V hV) c x
theorem VC.perm {V:Nat→Prop} {S T:SM} (h:VC V S) (hl:T.cls.length=S.cls.length) (hp:∀ r,(T.cl r).Perm (S.cl r)):VC V T:=fun r hr x hx=>h r (by omega) x ((hp r).mem_iff.1 hx)
theorem kP.perm {a:Nat→Bool} {S T:SM} (h:kP a S) (hl:T.cls.length=S.cls.length) (hp:∀ r,(T.cl r).Perm (S.cl r)):kP a T:=fun r hr=>by
 obtain⟨x,hx,ht⟩:=h r (by omega);exact⟨x,(hp r).mem_iff.2 hx,ht⟩
theorem KY {S:SM} (h:fG S):iO S S.follow.1:=by
 obtain⟨F,_⟩:=iN h;obtain⟨R,hR⟩:∃ R,S.follow=R:=⟨_,rfl⟩;rw[hR] at F ⊢;have hf:=F.fwd;have hp:∀ r,(R.1.cl r).Perm (S.cl r):=fun r=>hf.perm r;have hl:R.1.cls.length=S.cls.length:=hf.mX;have hv:R.1.value.length=S.value.length:=hf.gL;obtain⟨cs,ws,va,le,re,t,e⟩:=hf.same;refine⟨by rw[e];exact⟨rfl,rfl,rfl,rfl,rfl⟩,by rw[e];exact⟨rfl,rfl,rfl,rfl⟩,hv,fun a k=>k.perm hl hp,fun r hr=>⟨by omega,hp r⟩,?_,fun c hc=>.inl (by rw[e] at hc;exact hc),fun V k=>k.perm hl hp,New.none (by rw[e];rfl)⟩;have e1:R.1.words=S.words:=by rw[e];rfl
 have e2:lw R.1=lw S:=by unfold lw;rw[show R.1.learned=S.learned by rw[e];rfl]
 rw[e1,e2]
theorem Al {S T:SM} (h:Beside S T):iO S T:=by
 obtain⟨⟨a,b,c,va,le,re,t,en,e⟩,hv⟩:=h;subst e;exact⟨⟨rfl,rfl,rfl,rfl,rfl⟩,⟨rfl,rfl,rfl,rfl⟩,hv,fun _ h=>h,fun _ h=>⟨h,List.Perm.refl _⟩,rfl,fun _ h=>.inl h,fun _ h=>h,New.none rfl⟩
theorem JA {S T:SM} (h:Wq S T):iO S T:=by
 obtain⟨⟨a,b,c,u,st,e⟩,_,_⟩:=h;subst e;exact⟨⟨rfl,rfl,rfl,rfl,rfl⟩,⟨rfl,rfl,rfl,rfl⟩,rfl,fun _ h=>h,fun _ h=>⟨h,List.Perm.refl _⟩,rfl,fun _ h=>.inl h,fun _ h=>h,New.none rfl⟩
theorem F7 {S:SM} (h:fG S) (k:Nat):iO S (S.back k):=by
 obtain⟨_,_,b3,_,ph,va,re,hl,pl,tr,en,nx,e⟩:=j3 k h.hp.hi h.tr.sz h.tr.kY;rw[e] at b3 ⊢;exact⟨⟨rfl,rfl,rfl,rfl,rfl⟩,⟨rfl,rfl,rfl,rfl⟩,b3,fun _ h=>h,fun _ h=>⟨h,List.Perm.refl _⟩,rfl,fun _ h=>.inl h,fun _ h=>h,New.none rfl⟩
theorem YU (l:List (List Int)) (c:List Int):((l++[c]).map fun c=>c.length+2).sum=(l.map fun c=>c.length+2).sum+(c.length+2):=by
 rw[List.map_append,List.sum_append];simp
theorem Ro {S:SM} (h:fG S) {c:List Nat} {k:Nat} (fr:List Int) (hk:k<S.ends.length) (hnd:(c.map (·/2)).Nodup) (hno:∀ x∈c,2≤x∧x/2<S.value.length) (hc:∀ a,kP a S→∃ l∈c,tr a l=true) (hvc:∀ V,VC V S→∀ x∈c,V (x/2)) (c0:0<c.length) (hnew:∀ r,r<S.cls.length→¬ (S.cl r).Perm c):iO S (S.keep c fr k):=by
 obtain⟨d,⟨⟨ph,va,re,le,hl,pl,mt,ws,st,e⟩,hv,_⟩,_⟩:=kept h (c:=c) fr hk;obtain⟨T,hT⟩:∃ T,S.keep c fr k=T:=⟨_,rfl⟩;rw[hT] at e hv ⊢;have t3:T.cls=S.cls++[(c,d)]:=by rw[e]
 have hcl:∀ r,T.cl r=if r=S.cls.length then c else S.cl r:=fun r=>by
  rw[←jE S c d r];unfold SM.cl;rw[t3,fT]
 have nQ:T.cls.length=S.cls.length+1:=by rw[t3];simp
 refine⟨by rw[e];exact⟨rfl,rfl,rfl,rfl,rfl⟩,by rw[e];exact⟨rfl,rfl,rfl,rfl⟩,hv,fun a ha r hr=>?_,fun r hr=>⟨by omega,by rw[hcl,if_neg (by omega)]⟩,?_,fun x hx=>?_,fun V hV r hr x hx=>?_,[c],?_⟩
 ·rw[hcl]
  split
  ·exact hc a ha
  ·exact ha r (by omega)
 ·have e1:T.words=S.words+(c.length+2):=by rw[e]
  have e2:lw T=lw S+(c.length+2):=by unfold lw;rw[show T.learned=S.learned++[c.map bI] by rw[e],YU];simp
  omega
 ·rw[show T.learned=S.learned++[c.map bI] by rw[e]] at hx;rcases List.mem_append.1 hx with hx | hx
  ·exact .inl hx
  ·rw[List.mem_singleton] at hx;exact .inr ⟨c,hx,hnd,hno,hc⟩
 ·rw[hcl] at hx
  split at hx
  ·exact hvc V hV x hx
  ·exact hV r (by omega) x hx
 ·refine⟨by rw[show T.learned=S.learned++[c.map bI] by rw[e]];rfl,List.pairwise_singleton _ _,fun d hd r hr=>?_,fun d hd=>?_,fun d hd=>?_,fun V hV d hd=>?_⟩ <;> (rw[List.mem_singleton] at hd;subst hd)
  ·exact hnew r hr
  ·exact⟨S.cls.length,by omega,by rw[hcl,if_pos rfl]⟩
  ·exact⟨hnd,c0⟩
  ·exact hvc V hV
theorem fG.abI {S:SM} (h:fG S) (he:S.ends.length≤900000):KX S:=by
 have hs:=h.hp.hi.hb.small;have ht:=h.tr.len;exact⟨h.hp.hi,h.tr.sz,h.tr.kY,by omega,he,fun k=>h.tr.ends _ (aU _ _ k)⟩
theorem JB {S:SM} {k:Nat} (h:S.ends.length≤k):S.back k=S:=by unfold SM.back;rw[if_pos h]
theorem jk.ac5 {asm:List Int} {K:Nat} {S:SM} (h:jk asm K S):jk asm K (S.back 0)∧Full (S.back 0)∧(S.next=S.trail.length→(S.back 0).next=(S.back 0).trail.length)∧(S.back 0).learned=S.learned∧(S.back 0).ends=[]:=by
 by_cases he:S.ends.length=0
 ·rw[JB (by omega)];have:S.ends=[]:=List.length_eq_zero_iff.1 he;exact⟨h,fun e k=>(by rw[this] at k;cases k),fun k=>k,rfl,this⟩
 ·have hk:0<S.ends.length:=by omega
  have hF:=h.fo.back hk;have hbl:=fun {x:Nat} (hx:S.bF x≠0)=>(h.fo.tr.Ah hk (x:=x) hx).1;have hee:=h.fo.tr.ends _ (aU _ _ hk);obtain⟨_,_,b3,_⟩:=j3 0 h.fo.hp.hi h.fo.tr.sz h.fo.tr.kY;obtain⟨⟨ph,va,re,hl,pl,e⟩,_,_,_⟩:=pV 0 h.fo.tr hk;obtain⟨T,hT⟩:∃ T,S.back 0=T:=⟨_,rfl⟩;rw[hT] at hF b3 e ⊢;rw[hT] at hbl;have t1:T.ends=[]:=by rw[e];simp[SM.wBk]
  have t2:T.trail=S.trail.take (gn S.ends 0):=by rw[e];rfl
  have t3:T.next=gn S.ends 0:=by rw[e];rfl
  have t4:T.level=S.level:=by rw[e];rfl
  have t5:T.cls=S.cls:=by rw[e];rfl
  have hx:=h.ex;refine⟨⟨hF,⟨fun r hr=>by unfold SM.id;rw[t5] at hr ⊢;exact hx.ids r hr,by rw[b3,show T.steps=S.steps by rw[e];rfl,show T.units=S.units by rw[e];rfl,show T.words=S.words by rw[e];rfl];exact hx.uI,by rw[show T.words=S.words by rw[e];rfl,show T.most=S.most by rw[e];rfl];exact hx.wm,by rw[show T.most=S.most by rw[e];rfl];exact hx.mo,by rw[show T.fresh=S.fresh by rw[e];rfl,show T.given=S.given by rw[e];rfl];exact hx.fr,by rw[t5,show T.fresh=S.fresh by rw[e];rfl,show T.given=S.given by rw[e];rfl,show T.words=S.words by rw[e];rfl];exact hx.cn,hx.kk⟩,?_,?_,?_,?_,?_,?_,?_⟩,?_,?_,?_,t1⟩
  ·exact h.un.mono (by rw[t5]) (fun r=>by unfold SM.cl;rw[t5]) fun l p q=>⟨by rw[hbl (by omega) (by omega)];exact p,by rw[t4];exact q⟩
  ·intro i _ hie;rw[t1] at hie;cases hie
  ·intro k hk2;rw[t1] at hk2;simp at hk2
  ·intro k hk2;rw[t1] at hk2;simp at hk2
  ·rw[t1];simp
  ·rw[show T.learned=S.learned by rw[e];rfl,show T.conf=S.conf by rw[e];rfl];exact h.lc
  ·rw[show T.conf=S.conf by rw[e];rfl];exact h.cf
  ·intro x hx2;rw[t1] at hx2;cases hx2
  ·intro _;rw[t3,t2,List.length_take];omega
  ·rw[e];rfl
theorem jk.fresh {asm:List Int} {K:Nat} {S:SM} (h:jk asm K S) {c:List Nat} {k:Nat} (kp:Keeps S c k):∀ r,r<S.cls.length→¬ (S.cl r).Perm c:=fun r hr hp=>by
 have hno:∀ x∈S.cl r,S.bF x=-1:=fun x hx=>(kp.no x (hp.mem_iff.1 hx)).2.2
 by_cases h2:2≤(S.cl r).length
 ·have m0:=aU (S.cl r) 0 (by omega);have m1:=aU (S.cl r) 1 (by omega);have hne:gn (S.cl r) 0≠gn (S.cl r) 1:=fun e=>h.fo.cl.ne hr (by omega) (by omega) (show 0≠1 by omega) (by rw[e])
  have key:∀ w,w∈S.cl r→w≠gn c 0→M8 S S.next w:=fun w hw hne=>by
   obtain⟨j,hj,e⟩:=jO (hp.mem_iff.1 hw)
   have hj0:1≤j:=by
    rcases Nat.eq_zero_or_pos j with q | q
    ·subst q;exact absurd e.symm hne
    ·exact q
   have hlow:=kp.low j hj0 hj;rw[e] at hlow;obtain⟨i,hi,ei⟩:=h.fo.tr.jS (hno w hw);have hl:=h.fo.tr.jo i hi;rw[ei,bT] at hl
   have hie:i<gn S.ends k:=by
    apply Classical.byContradiction;intro hn;have:=Af h.fo.tr.mono kp.hk (by omega:gn S.ends k≤i);omega
   have:=h.fo.en _ (aU S.ends k kp.hk);exact⟨i,by omega,hi,ei⟩
  obtain⟨p1,p2⟩:=h.fo.pi r hr h2
  by_cases e:gn (S.cl r) 0=gn c 0
  ·have:=(p2 (key _ m1 (fun q=>hne (e.trans q.symm)))).1;rw[hno _ m0] at this;cases this
  ·have:=(p1 (key _ m0 e)).1;rw[hno _ m1] at this;cases this
 ·obtain⟨a,b,_⟩:=h.un r hr (by omega);rw[hno _ (aU _ _ (by omega))] at b;cases b
theorem Nt {l:List Bool} {i j:Nat} (h:gB (l.set i true) j=true):j=i∨gB l j=true:=by
 by_cases hi:i<l.length
 ·rw[qB hi] at h
  split at h
  ·left;assumption
  ·right;exact h
 ·rw[List.set_eq_of_length_le (by omega)] at h;exact .inr h
theorem jF {V:Nat→Prop} (but:Nat):∀ (ls:List Nat) (S:SM) (A:AM) (n:Nat),(∀ v,gB A.met v=true→V v)→(∀ x∈ls,V (x/2))→(∀ v,gB (SM.dF but S A n ls).2.1.met v=true→V v)∧(SM.dF but S A n ls).1.cls=S.cls
 | [],S,A,n,h,_=>⟨h,rfl⟩
 | l :: r,S,A,n,h,hl=>by
  have hset:∀ v,gB (A.met.set (l/2) true) v=true→V v:=fun v hv=>by
   rcases Nt hv with e | e
   ·rw[e];exact hl l (by simp)
   ·exact h v e
  have hr:∀ x∈r,V (x/2):=fun x hx=>hl x (by simp[hx]);have hm:(S.meet (l/2)).cls=S.cls:=(nU S (l/2)).facts.2.2.2.2.2;rw[SM.dF]
  split
  ·exact jF but r S A n h hr
  ·split
   ·obtain⟨a,b⟩:=jF but r (S.meet (l/2)) { A with met:=A.met.set (l/2) true,zero:=A.zero++[l/2] } n hset hr;exact⟨a,b.trans hm⟩
   ·split
    ·obtain⟨a,b⟩:=jF but r (S.meet (l/2)) { A with met:=A.met.set (l/2) true } (n+1) hset hr;exact⟨a,b.trans hm⟩
    ·obtain⟨a,b⟩:=jF but r (S.meet (l/2)) { A with met:=A.met.set (l/2) true,lits:=A.lits++[l] } n hset hr;exact⟨a,b.trans hm⟩
theorem sI {V:Nat→Prop}:∀ (i:Nat) (S:SM) (A:AM) (o:Nat),(∀ v,gB A.met v=true→V v)→VC V S→jC i S A o→∀ v,gB (SM.dY i S A o).2.met v=true→V v
 | 0,S,A,o,h,_,_=>h
 | i+1,S,A,o,h,hV,hok=>by
  rw[SM.dY];unfold jC at hok;simp only
  split
  ·rename_i hm;rw[if_pos hm] at hok
   split
   ·exact h
   ·rename_i ho;obtain⟨r,e,hr,_,_,_,_,_,hok2⟩:=hok.2 ho;rw[e,Int.toNat_natCast];obtain⟨a,b⟩:=jF (V:=V) (gn S.trail i) (S.cl r) S { A with fr:=A.fr++[S.id r] } 0 h (hV r hr);refine sI i _ _ _ a ?_ hok2;intro r2 hr2 x hx;have hb:(S.meets { A with fr:=A.fr++[S.id r] } r (gn S.trail i)).1.cls=S.cls:=b;unfold SM.cl at hx;rw[hb] at hr2 hx;exact hV r2 hr2 x hx
  ·rename_i hm;rw[if_neg hm] at hok;exact sI i S A o h hV hok
theorem F8 {S:SM} (h:fG S) {bad:Nat} (he:0<S.ends.length) (hb:Bad S bad) {V:Nat→Prop} (hV:VC V S):∀ x∈(S.learn bad).2.1,V (x/2):=by
 obtain⟨hL,hok,_⟩:=su h he hb;obtain⟨A,u,hA,hu,e,hcu,_,_,_⟩:=hL.out;obtain⟨ls,e1,_,e3,_⟩:=hA.l0;obtain⟨m1,m2⟩:=jF (V:=V) 0 (S.cl bad) S (AM.none S bad) 0 (fun v hv=>by rw[show gB (AM.none S bad).met v=false from KV _ _] at hv;cases hv) (hV bad hb.lt)
 have hVL:VC V (dD S bad).1:=fun r hr x hx=>by
  have hb2:(dD S bad).1.cls=S.cls:=m2;unfold SM.cl at hx;rw[hb2] at hr hx;exact hV r hr x hx
 have hm:=sI _ _ _ _ m1 hVL hok
 have hm2:∀ v,gB A.met v=true→V v:=fun v hv=>hm v (by
  have e5:(aV S bad).2.met=A.met:=by rw[e]
  show gB (aV S bad).2.met v=true
  rw[e5];exact hv)
 have hc:(aV S bad).2.lits=negL (gn S.trail u) :: ls:=by rw[e];show A.lits.set 0 _=_;rw[e1];rfl
 have hl:(S.learn bad).2.1=(SM.lT ((aV S bad).1.bH (aV S bad).2.zero (aV S bad).2.fr).1 ((aV S bad).2.lits.length-1) (aV S bad).2.lits 0 0).1:=rfl;have hp:=sD ((aV S bad).1.bH (aV S bad).2.zero (aV S bad).2.fr).1 ((aV S bad).2.lits.length-1) (aV S bad).2.lits 0 0 (by rw[hc,List.length_cons];omega);rw[←hl,hc] at hp;intro x hx;rcases List.mem_cons.1 (hp.mem_iff.1 hx) with rfl | k
 ·rw[bT];refine hm2 _ ?_;unfold cur at hcu;simp only[Bool.and_eq_true] at hcu;exact hcu.1
 ·exact hm2 _ (e3 x k).1
theorem fG.told {S:SM} (h:fG S) (c la:List Int) (t:Int) (m:List Bool):fG { S with core:=c,last:=la,told:=t,model:=m }:=by
 exact⟨h.tr.congr ⟨h.tr.sz.level,h.tr.sz.reason,h.tr.sz.phase,h.tr.sz.occurs,h.tr.sz.units,h.tr.sz.aj⟩ rfl rfl rfl rfl rfl (Nat.le_refl _) (fun _ _ _=>Iff.rfl),⟨h.cl.nd,h.cl.two⟩,⟨h.wa.nd,h.wa.iff⟩,⟨⟨⟨h.hp.hi.hb.small,h.hp.hi.hb.vars,h.hp.hi.hb.place,h.hp.hi.hb.met,h.hp.hi.hb.hl⟩,h.hp.hi.pl,h.hp.hi.bk⟩,h.hp.nz,h.hp.all⟩,h.pi,h.ne,h.en⟩
theorem jk.told {asm:List Int} {K:Nat} {S:SM} (h:jk asm K S) (c la:List Int) (t:Int) (m:List Bool):jk asm K { S with core:=c,last:=la,told:=t,model:=m } :=
 ⟨h.fo.told c la t m,⟨h.ex.ids,h.ex.uI,h.ex.wm,h.ex.mo,h.ex.fr,h.ex.cn,h.ex.kk⟩,h.un,h.re,h.at_,h.lv,h.lt,h.lc,h.cf⟩
theorem Cw {asm:List Int} {K:Nat} {S:SM} (h:jk asm K S) (as2:List Int) (l:Nat):∃ T c la,tX S T∧S.refused as2 l={ T with core:=c,last:=la,told:=2 }:=by
 have hs:=h.fo.hp.hi.hb.small;obtain⟨_,b2,_⟩:=lq S S.trail.length ((List.replicate S.value.length false).set (l/2) true) [bI l] [] [] (Nat.le_refl _) fun v hv=>by cases hv
 obtain⟨G,hG⟩:∃ G,S.fZ S.trail.length ((List.replicate S.value.length false).set (l/2) true) [bI l] [] []=G:=⟨_,rfl⟩;rw[hG] at b2;have hu:=(lV G.2.2 G.2.1 (YK h.fo.tr h.fo.cl h.ex hs) b2 fun v hv=>Nk h.fo.tr hv).1;refine⟨_,SM.jY G.1 [] as2,(S.bH G.2.2 G.2.1).2,hu,?_⟩;rw[←hG];rfl
theorem JC {K:Nat} {S:SM} (h:fG S) (hx:yH K S) {bad:Nat} (h0:S.ends.length=0) (hb:bad<S.cls.length) (hn:∀ x∈S.cl bad,S.bF x=-1):∃ T la,tX S T∧S.ended bad={ T with core:=[],last:=la,told:=2 }:=by
 have hs:=h.hp.hi.hb.small;have he:=h.aeA hx h0 hb hn
 have hu:=(lV ((S.cl bad).map (·/2)) [S.id bad] he.un (fun v hv=>by
  obtain⟨x,hx,rfl⟩:=List.mem_map.1 hv
  exact he.z x hx) fun v hv=>he.rk v hv).1
 exact⟨_,(S.bH ((S.cl bad).map (·/2)) [S.id bad]).2,hu,rfl⟩
inductive Out (asm:List Int) (K:Nat) (S:SM):SM×Int→Prop
 | sat (U:SM) (h:jk asm K U) (al:iO S U) (nx:U.next=U.trail.length) (all:∀ v,0<v→v<U.value.length→gi U.value v≠0) (ae:asm.length≤U.ends.length):Out asm K S (U.y8 asm,0)
 | ref (U:SM) (l:Nat) (h:jk asm K U) (al:iO S U) (no:U.bF l=-1) (el:l=aJ (gi asm U.ends.length)) (ae:U.ends.length<asm.length):Out asm K S (U.refused asm l,0)
 | end_ (U:SM) (bad:Nat) (h:jk asm K U) (al:iO S U) (h0:U.ends.length=0) (hb:zY U bad):Out asm K S (U.ended bad,0)
 | conf (U:SM) (h:jk asm K U) (al:iO S U) (hc:U.conf≤U.learned.length):Out asm K S (U,131)
 | room (U:SM) (d:List Nat) (h:jk asm K U) (al:iO S U) (hn:d.length≤U.value.length) (hr:U.most<U.words+d.length+2) (nd:(d.map (·/2)).Nodup) (vs:∀ V,VC V U→∀ x∈d,V (x/2)):Out asm K S (U,111)
theorem Out.along {asm:List Int} {K:Nat} {S T:SM} {V:SM×Int} (k:iO S T) (h:Out asm K T V):Out asm K S V:=by
 cases h with
 | sat U h al nx all ae=>exact .sat U h (k.trans al) nx all ae
 | ref U l h al no el ae=>exact .ref U l h (k.trans al) no el ae
 | end_ U bad h al h0 hb=>exact .end_ U bad h (k.trans al) h0 hb
 | conf U h al hc=>exact .conf U h (k.trans al) hc
 | room U d h al hn hr nd vs=>exact .room U d h (k.trans al) hn hr nd vs
theorem jk.refused {asm:List Int} {K:Nat} {S:SM} (h:jk asm K S) (l:Nat):jk asm K (S.refused asm l):=by
 obtain⟨T,c,la,k,e⟩:=Cw h asm l;rw[e];exact (h.LW (DN k) (h.fo.hp.AY k)).told c la 2 T.model
theorem jk.ended {asm:List Int} {K:Nat} {S:SM} (h:jk asm K S) {bad:Nat} (h0:S.ends.length=0) (hb:zY S bad):jk asm K (S.ended bad):=by
 obtain⟨T,la,k,e⟩:=JC h.fo h.ex h0 hb.1 hb.2.2;rw[e];exact (h.LW (DN k) (h.fo.hp.AY k)).told [] la 2 T.model
theorem jk.y8 {asm:List Int} {K:Nat} {S:SM} (h:jk asm K S):jk asm K (S.y8 asm) :=
 h.told S.core S.last 1 _
theorem Out.se {asm:List Int} {K:Nat} {S:SM} {V:SM×Int} (h:Out asm K S V):jk asm K V.1:=by
 cases h with
 | sat U h al nx all ae=>exact h.y8
 | ref U l h al no el ae=>exact h.refused l
 | end_ U bad h al h0 hb=>exact h.ended h0 hb
 | conf U h al hc=>exact h
 | room U d h al hn hr nd vs=>exact h
def meas (S:SM) (u:Nat):Nat:=(S.value.length+1)*((S.conf-S.learned.length)+(S.conf+1-u))+(S.value.length-S.trail.length)
theorem TK {n X Y d d':Nat} (h:X<Y) (hd:d≤n):(n+1)*X+d<(n+1)*Y+d':=by
 have:=Nat.mul_le_mul_left (n+1) (show X+1≤Y from h);rw[Nat.mul_add] at this;omega
theorem fG.aeN {K:Nat} {S:SM} (h:fG S) (hx:yH K S):Rc S:=(iN h).2 (by have:=hx.cls;omega)
theorem jk.search {asm:List Int} {K:Nat} (ha:asm.length≤600000):∀ (f:Nat) (S:SM) (u:Nat),jk asm K S→Full S→F5 asm S.value.length→2≤u→u≤4000→meas S u<f →
  jT asm f S u∧∃ V,SM.gI asm f S u=some V∧Out asm K S V
 | 0,S,u,_,_,_,_,_,hm=>by omega
 | f+1,S,u,h,hf,has,hu2,hu,hm=>by
  have hfl:=h.fo.aeN h.ex;obtain⟨F,_⟩:=iN h.fo;obtain⟨h1,hf1,htr,hle,hcf,hvl⟩:=h.follow hf;have hal:=KY h.fo;rw[qC];have Io:∀ P,jT asm (f+1) S u=P→P=jT asm (f+1) S u:=fun P e=>e.symm;unfold jT;clear Io;obtain⟨R,hR⟩:∃ R,S.follow=R:=⟨_,rfl⟩;rw[hR] at F h1 hf1 htr hle hcf hvl hal ⊢;have hlc:=h1.lc;have hc2:=h1.cf;have htl1:=h1.fo.tr.len;have hun:meas S u=(S.value.length+1)*((S.conf-S.learned.length)+(S.conf+1-u))+(S.value.length-S.trail.length):=rfl;rw[hun] at hm
  by_cases hr:R.2=-1
  ·rw[if_pos hr]
   have hnx:R.1.next=R.1.trail.length:=by
    rcases F.out with ⟨_,k⟩ | ⟨r,k,_⟩
    ·exact k
    ·rw[hr] at k;omega
   obtain⟨T,hT⟩:∃ T,anew R.1 u=T:=⟨_,rfl⟩;obtain⟨v,hv⟩:∃ v,sG R.1 u=v:=⟨_,rfl⟩
   have key:jk asm K T∧Full T∧T.next=T.trail.length∧T.learned=R.1.learned∧iO R.1 T∧2≤v∧v≤4000∧(T=R.1∧v=u∨(u<v∧u≤R.1.learned.length)):=by
    rw[←hT,←hv];unfold anew sG
    by_cases UW:u≤R.1.learned.length
    ·rw[if_pos UW,if_pos UW];obtain⟨k1,k2,k3,k4,_⟩:=h1.ac5;exact⟨k1,k2,k3 hnx,k4,F7 h1.fo 0,by omega,by omega,.inr ⟨by omega,UW⟩⟩
    ·rw[if_neg UW,if_neg UW];exact⟨h1,hf1,hnx,rfl,iO.refl _,hu2,hu,.inl ⟨rfl,rfl⟩⟩
   rw[hT,hv];obtain⟨k1,k2,k3,k4,k5,k6,k7,k8⟩:=key;have ah6:F5 asm T.value.length:=by rw[k5.gL,hvl];exact has
   obtain⟨d1,d2⟩:=jk.decide ha (asm.length-T.ends.length) T k1 k3 rfl ah6;obtain⟨D,hD⟩:∃ D,T.iV asm=D:=⟨_,rfl⟩;have hD':SM.jv asm (asm.length-T.ends.length) T=D:=hD;rw[hD'] at d2;rw[hD];have ah7:∀ a∈asm,aJ a/2<T.value.length:=fun a hm=>by rw[dU];exact (ah6 a hm).2.2
   have hbk:u≤R.1.learned.length→KX R.1:=fun _=>h1.fo.abI (by have:=h1.vX ha;omega)
   cases hb:D.2 with
   | true =>
    rw[if_pos rfl];obtain⟨y1,y2,y3,y4⟩:=d2.yes hb;have Vj:=k5.trans (Al y3);have e1:D.1.value.length=S.value.length:=by rw[Vj.gL,hvl]
    have e2:D.1.conf=S.conf:=by rw[Vj.same.2.2.2.1,hcf]
    have e3:D.1.learned=S.learned:=by
     obtain⟨⟨_,_,_,_,_,_,_,_,e⟩,_⟩:=y3;rw[e];show T.learned=_;rw[k4,hle]
    have hms:meas D.1 v<f:=by
     unfold meas;rw[e1,e2,e3];have htl:=y1.fo.tr.len;rw[e1] at htl;rcases k8 with ⟨kT,kv⟩ | ⟨kv,kl⟩
     ·rw[kv];rw[kT] at y4;omega
     ·have:=TK (n:=S.value.length) (X:=(S.conf-S.learned.length)+(S.conf+1-v)) (Y:=(S.conf-S.learned.length)+(S.conf+1-u)) (d:=S.value.length-D.1.trail.length) (d':=S.value.length-S.trail.length) (by omega) (by omega);omega
    obtain⟨z1,V,z2,z3⟩:=jk.search ha f D.1 v y1 y2 (by rw[e1];exact has) k6 k7 hms;refine⟨⟨hfl,by omega,by omega,fun _=>⟨hbk,d1,ah7,fun _=>z1,fun k=>(by cases k)⟩,fun k=>absurd hr k⟩,V,z2,z3.along (hal.trans Vj)⟩
   | false =>
    rw[if_neg (by simp)]
    have hout:Out asm K S (D.1,0):=by
     obtain⟨U,y1,y2,y3,y4⟩:=d2.no hb;have ah8:=hal.trans (k5.trans (Al y2));rcases y4 with ⟨l,q1,q2,q3,q4⟩ | ⟨q1,q2,q3⟩
     ·rw[q4];exact .ref U l y1 ah8 q1 q2 q3
     ·rw[q3];exact .sat U y1 ah8 y3 q1 q2
    refine⟨⟨hfl,by omega,by omega,fun _=>⟨hbk,d1,ah7,fun k=>(by cases k),fun _=>?_⟩,fun k=>absurd hr k⟩,_,rfl,hout⟩;have:=hout.se;exact this.fo.abI (by have:=this.vX ha;omega)
  ·rw[if_neg hr]
   obtain⟨r,hre,hall,hlit⟩:∃ r:Nat,R.2=r∧zY R.1 r∧∃ l∈R.1.cl r,gn R.1.level (l/2)=R.1.ends.length:=by
    rcases F.out with ⟨k,_⟩ | k
    ·exact absurd k hr
    ·exact k
   have hbad:=hall.bad hlit;have hmt:=h1.alR ha hbad;have hrn:R.2.toNat=r:=by rw[hre];exact Int.toNat_natCast r
   rw[hrn]
   have hM:(R.1.kr r).2.1=true→jk asm K (R.1.kr r).1∧Full (R.1.kr r).1∧iO R.1 (R.1.kr r).1∧(R.1.kr r).1.learned.length=R.1.learned.length+1∧R.1.learned.length<R.1.conf:=by
    unfold SM.kr
    split
    ·intro k;cases k
    ·rename_i he
     split
     ·intro k;cases k
     ·rename_i hcl;obtain⟨l1,l2,l3,l4,l5,l6,l7,l8,l9,l10,l11⟩:=h1.learnt ha hbad he;have hent:=fun (a:Nat→Bool) (x:kP a R.1)=>Vd h1.fo (by omega) hbad x;have hvars:=fun (V:Nat→Prop) (x:VC V R.1)=>F8 h1.fo (by omega) hbad x;have Im:=(lesson h1.fo h1.ex (by omega) hbad).LW;have hls:=lesson h1.fo h1.ex (by omega) hbad;obtain⟨L,hL⟩:∃ L,R.1.learn r=L:=⟨_,rfl⟩;rw[hL] at l1 l2 l3 l4 l5 l6 l7 l8 l9 l10 l11 hent hvars Im hls ⊢;simp only
      split
      ·intro k;cases k
      ·rename_i hroom;intro _;obtain⟨s1,s2,s3,s4,s5⟩:=l1.keep L.2.2.1 l8 l10 l11 (by omega) (by rw[l2,l3];omega)
       have ah9:∀ a,kP a L.1→∃ l∈L.2.1,tr a l=true:=fun a x=>hent a (by
        obtain⟨⟨_,_,_,_,_,e⟩,_,_⟩:=Im
        rw[e] at x;exact x)
       have aeO:∀ V,VC V L.1→∀ x∈L.2.1,V (x/2):=fun V hV=>hvars V (by
        obtain⟨⟨_,_,_,_,_,e⟩,_,_⟩:=Im
        rw[e] at hV;exact hV)
       refine⟨s1,s2,(JA Im).trans (Ro l1.fo L.2.2.1 l8.hk l8.nd (fun x hx=>⟨(l8.no x hx).1,(l8.no x hx).2.1⟩) ah9 aeO l8.c0 (l1.fresh l8)),?_,by omega⟩;rw[s3,l2];simp
   have hN:(R.1.kr r).2.1=false→Out asm K R.1 ((R.1.kr r).1,(R.1.kr r).2.2):=by
    unfold SM.kr
    split
    ·rename_i he;intro _;exact .end_ R.1 r h1 (iO.refl _) he hall
    ·rename_i he
     split
     ·rename_i hcl;intro _;exact .conf R.1 h1 (iO.refl _) hcl
     ·obtain⟨l1,l2,l3,l4,l5,l6,l7,l8,_,_,_⟩:=h1.learnt ha hbad he;have hvars:=fun (V:Nat→Prop) (x:VC V R.1)=>F8 h1.fo (by omega) hbad x;have Im:=(lesson h1.fo h1.ex (by omega) hbad).LW;obtain⟨L,hL⟩:∃ L,R.1.learn r=L:=⟨_,rfl⟩;rw[hL] at l1 l2 l3 l4 l5 l6 l7 l8 hvars Im ⊢;simp only
      split
      ·rename_i hroom;intro _
       exact .room L.1 L.2.1 l1 (JA Im) (by rw[l4];exact l5) hroom l8.nd fun V hV=>hvars V (by
        obtain⟨⟨_,_,_,_,_,e⟩,_,_⟩:=Im
        rw[e] at hV;exact hV)
      ·intro k;cases k
   obtain⟨M,hMM⟩:∃ M,R.1.kr r=M:=⟨_,rfl⟩;rw[hMM] at hM hN ⊢
   cases hb:M.2.1 with
   | true =>
    rw[if_pos rfl];obtain⟨y1,y2,y3,y4,y5⟩:=hM hb;have e1:M.1.value.length=S.value.length:=by rw[y3.gL,hvl]
    have e2:M.1.conf=S.conf:=by rw[y3.same.2.2.2.1,hcf]
    have e3:M.1.learned.length=S.learned.length+1:=by rw[y4,hle]
    have hms:meas M.1 u<f:=by
     unfold meas;rw[e1,e2,e3];have htl:=y1.fo.tr.len;rw[e1] at htl;rw[hle,hcf] at y5;have:=TK (n:=S.value.length) (X:=(S.conf-(S.learned.length+1))+(S.conf+1-u)) (Y:=(S.conf-S.learned.length)+(S.conf+1-u)) (d:=S.value.length-M.1.trail.length) (d':=S.value.length-S.trail.length) (by omega) (by omega);omega
    obtain⟨z1,V,z2,z3⟩:=jk.search ha f M.1 u y1 y2 (by rw[e1];exact has) hu2 hu hms;refine⟨⟨hfl,by omega,by omega,fun k=>absurd k hr,fun _=>⟨⟨_,_,hmt⟩,fun _=>z1,fun k=>(by cases k)⟩⟩,V,z2,z3.along (hal.trans y3)⟩
   | false =>
    rw[if_neg (by simp)];have hout:=(hN hb).along hal;refine⟨⟨hfl,by omega,by omega,fun k=>absurd k hr,fun _=>⟨⟨_,_,hmt⟩,fun k=>(by cases k),fun _=>?_⟩⟩,_,rfl,hout⟩;have:=hout.se;exact this.fo.abI (by have:=this.vX ha;omega)
def jP (a:Nat→Bool) (S:SM):Prop:=∀ c∈S.given,∃ x∈c,tr a (aJ x)=true
def VG (V:Nat→Prop) (S:SM):Prop:=∀ c∈S.given,∀ x∈c,V x.natAbs
def Dead (S:SM):Prop:=S.fresh<S.given.length∧∀ x∈gl S.given S.fresh,S.bF (aJ x)=-1
structure Ze (K:Nat) (S:SM):Prop where
 e0:S.ends=[]
 ex:yH K S
 gs:∀ c∈S.given,(c.map Int.natAbs).Nodup∧∀ x∈c,0<x.natAbs∧x.natAbs≤65536∧x.natAbs<S.value.length
 gw:2*S.given.length≤S.words
 gv:∀ i,i<S.fresh→∃ r,r<S.cls.length∧(S.cl r).Perm ((gl S.given i).map aJ)
 en:∀ a,jP a S→kP a S
 cf:S.conf≤2000
 c1:1≤S.conf
 oc:∀ c∈S.given,∀ x∈c,gB S.occurs x.natAbs=true
 vc:∀ V,VG V S→VC V S
structure Al0 (S T:SM):Prop where
 same:T.given=S.given∧T.fresh=S.fresh∧T.most=S.most∧T.conf=S.conf∧T.occurs=S.occurs
 gL:T.value.length=S.value.length
 sem:∀ a,kP a S→kP a T
 held:∀ r,r<S.cls.length→r<T.cls.length∧(T.cl r).Perm (S.cl r)
 vc:∀ V,VC V S→VC V T
theorem iO.al0 {S T:SM} (h:iO S T):Al0 S T:=⟨h.same,h.gL,h.sem,h.held,h.vc⟩
theorem Al0.trans {S T U:SM} (h:Al0 S T) (k:Al0 T U):Al0 S U:=by
 obtain⟨a1,a2,a3,a4,a5⟩:=h.same;obtain⟨b1,b2,b3,b4,b5⟩:=k.same;refine⟨⟨b1.trans a1,b2.trans a2,b3.trans a3,b4.trans a4,b5.trans a5⟩,k.gL.trans h.gL,fun a x=>k.sem a (h.sem a x),fun r hr=>?_,fun V x=>k.vc V (h.vc V x)⟩;obtain⟨x,y⟩:=h.held r hr;obtain⟨u,v⟩:=k.held r x;exact⟨u,v.trans y⟩
theorem Ze.mono {K K2:Nat} {S T:SM} (h:Ze K S) (k:Al0 S T) (e0:T.ends=[]) (ex:yH K2 T) (w:S.words≤T.words):Ze K2 T:=by
 obtain⟨a1,a2,a3,a4,a5⟩:=k.same;refine⟨e0,ex,by rw[a1,k.gL];exact h.gs,by rw[a1];have:=h.gw;omega,fun i hi=>?_,fun a x=>k.sem a (h.en a (by unfold jP at x ⊢;rw[a1] at x;exact x)),by rw[a4];exact h.cf,by rw[a4];exact h.c1,by rw[a1,a5];exact h.oc,fun V x=>k.vc V (h.vc V (by unfold VG at x ⊢;rw[a1] at x;exact x))⟩;rw[a2] at hi;obtain⟨r,hr,hp⟩:=h.gv i hi;obtain⟨u,v⟩:=k.held r hr;exact⟨r,u,by rw[a1];exact v.trans hp⟩
theorem yH.follow {K:Nat} {S:SM} (hx:yH K S) (h:fG S):yH K S.follow.1∧S.follow.1.words=S.words∧S.follow.1.ends=S.ends∧(∀ l,S.bF l≠0→S.follow.1.bF l=S.bF l∧gn S.follow.1.level (l/2)=gn S.level (l/2)):=by
 obtain⟨F,_⟩:=iN h;obtain⟨R,hR⟩:∃ R,S.follow=R:=⟨_,rfl⟩;rw[hR] at F ⊢;have lg:=F.fwd;have hL:∀ l,S.bF l≠0→R.1.bF l=S.bF l:=fun l hl=>lg.bF (S:=nx S R.1.next) hl;have jN:∀ l,S.bF l≠0→gn R.1.level (l/2)=gn S.level (l/2):=fun l hl=>lg.jo (S:=nx S R.1.next) hl;have Nl:∀ r,R.1.id r=S.id r:=fun r=>lg.ids r;have hcl:R.1.cls.length=S.cls.length:=lg.mX;have hvl:R.1.value.length=S.value.length:=lg.gL;obtain⟨cs,ws,va,le,re,t,e⟩:=lg.same;have w1:R.1.words=S.words:=by rw[e];rfl
 have w2:R.1.most=S.most:=by rw[e];rfl
 have w3:R.1.given=S.given:=by rw[e];rfl
 have w4:R.1.fresh=S.fresh:=by rw[e];rfl
 have w5:R.1.steps=S.steps:=by rw[e];rfl
 have w6:R.1.units=S.units:=by rw[e];rfl
 exact⟨⟨fun r hr=>by rw[Nl];exact hx.ids r (by omega),by rw[w5,w6,w1,hvl];exact hx.uI,by rw[w1,w2];exact hx.wm,by rw[w2];exact hx.mo,by rw[w4,w3];exact hx.fr,by rw[hcl,w3,w4,w1];exact hx.cn,hx.kk⟩,w1,lg.ends,fun l hl=>⟨hL l hl,jN l hl⟩⟩
structure Sorted (S:SM) (d:List Nat) (R:List Nat×Nat):Prop where
 perm:R.1.Perm d
 le:R.2≤R.1.length
 yes:∀ j,j<R.2→0≤S.bF (gn R.1 j)
 no:∀ j,R.2≤j→j<R.1.length→S.bF (gn R.1 j)<0
theorem uV (S:SM) (d:List Nat):∀ (f:Nat) (c:List Nat) (m:Nat),f≤c.length→c.Perm d→m≤c.length-f→(∀ j,j<m→0≤S.bF (gn c j))→(∀ j,m≤j→j<c.length-f→S.bF (gn c j)<0)→Sorted S d (SM.ug S f c m)
 | 0,c,m,_,hp,hm,hy,hn=>⟨hp,by show m≤c.length;omega,hy,fun j a b=>hn j a (by show j<c.length-0;exact b)⟩
 | f+1,c,m,hf,hp,hm,hy,hn=>by
  rw[SM.ug];obtain⟨i,hi⟩:∃ i,c.length-(f+1)=i:=⟨_,rfl⟩;rw[hi] at hm hn ⊢;have hil:i<c.length:=by omega
  split
  ·rename_i h0;have hml:m<c.length:=by omega
   have hl:(SM.dG c i m).length=c.length:=lW c i m;have hg:=fun k=>rV (c:=c) (i:=i) (j:=m) (k:=k) hil hml;refine uV S d f _ (m+1) (by omega) ((swap_perm hil hml).trans hp) (by omega) (fun j hj=>?_) fun j a b=>?_
   ·rw[hg]
    split
    ·exact h0
    ·split
     ·rename_i e1 e2;omega
     ·exact hy j (by omega)
   ·rw[hg];rw[if_neg (by omega)]
    split
    ·exact hn m (Nat.le_refl _) (by omega)
    ·exact hn j (by omega) (by omega)
  ·rename_i h0;refine uV S d f c m (by omega) hp (by omega) hy fun j a b=>?_
   by_cases e:j=i
   ·rw[e];omega
   ·exact hn j a (by omega)
theorem Cx (S:SM) (i:Nat):Sorted S ((gl S.given i).map aJ) (S.begins i):=by
 unfold SM.begins;exact uV S _ _ _ 0 (by rw[List.length_map];exact Nat.le_refl _) (List.Perm.refl _) (Nat.zero_le _) (fun j hj=>by omega) fun j a b=>by rw[List.length_map] at b;omega
theorem KZ {l:List (List Int)} {i:Nat} (h:i<l.length):gl l i∈l:=by
 unfold gl;rw[List.getD_eq_getElem?_getD,List.getElem?_eq_getElem h];exact List.getElem_mem h
theorem Vk {K:Nat} {S:SM} (h:Ze K S) (hi:S.fresh<S.given.length):((S.begins S.fresh).1.map (·/2)).Nodup∧∀ x∈(S.begins S.fresh).1,2≤x∧x/2<S.value.length:=by
 have hp:=(Cx S S.fresh).perm;obtain⟨g1,g2⟩:=h.gs _ (KZ hi)
 constructor
 ·rw[(hp.map _).nodup_iff,List.map_map];have:((fun x=>x/2) ∘ aJ)=Int.natAbs:=by funext x;exact dU x
  rw[this];exact g1
 ·intro x hx;obtain⟨y,hy,rfl⟩:=List.mem_map.1 (hp.mem_iff.1 hx);exact⟨Jv (g2 y hy).1,by rw[dU];exact (g2 y hy).2.2⟩
theorem Vl (S:SM) (c:List Nat) (d:Int) (n:Nat):nx (S.attach c d) n=(nx S n).attach c d:=by unfold SM.attach nx SM.watch;split <;> rfl
theorem fG.abJ {S:SM} (h:fG (nx S 0)) {c:List Nat} (d:Int) (hn:(c.map (·/2)).Nodup) (hc:∀ x∈c,2≤x∧x/2<S.value.length):fG (nx (S.attach c d) 0):=by
 rw[Vl];refine h.attach hn hc fun _=>⟨?_,?_⟩
 ·rintro⟨i,hi,_⟩;exact absurd hi (Nat.not_lt_zero i)
 ·rintro⟨i,hi,_⟩;exact absurd hi (Nat.not_lt_zero i)
theorem fG.nx0 {S:SM} (h:fG S) (e0:S.ends=[]):fG (nx S 0):=by
 refine⟨h.tr.congr ⟨h.tr.sz.level,h.tr.sz.reason,h.tr.sz.phase,h.tr.sz.occurs,h.tr.sz.units,h.tr.sz.aj⟩ rfl rfl rfl rfl rfl (Nat.le_refl _) (fun _ _ _=>Iff.rfl),⟨h.cl.nd,h.cl.two⟩,⟨h.wa.nd,h.wa.iff⟩,⟨⟨⟨h.hp.hi.hb.small,h.hp.hi.hb.vars,h.hp.hi.hb.place,h.hp.hi.hb.met,h.hp.hi.hb.hl⟩,h.hp.hi.pl,h.hp.hi.bk⟩,h.hp.nz,h.hp.all⟩,fun r hr h2=>⟨?_,?_⟩,Nat.zero_le _,fun e he=>?_⟩
 ·rintro⟨i,hi,_⟩;exact absurd hi (Nat.not_lt_zero i)
 ·rintro⟨i,hi,_⟩;exact absurd hi (Nat.not_lt_zero i)
 ·have he2:e∈S.ends:=he;rw[e0] at he2;cases he2
theorem Ze.attach {K:Nat} {S:SM} (h:Ze K S) {c:List Nat} (hp:c.Perm ((gl S.given S.fresh).map aJ)) (hi:S.fresh<S.given.length) (hk:K<100000) {T:SM} (e:∃ ws va le re t,T={ S with cls:=S.cls++[(c,(S.fresh:Int))],aj:=ws,value:=va,level:=le,reason:=re,trail:=t }) (hv:T.value.length=S.value.length) :
  Ze (K+1) T∧Ze K { T with fresh:=T.fresh+1 }∧∀ r,T.cl r=if r=S.cls.length then c else S.cl r:=by
 obtain⟨ws,va,le,re,t,e⟩:=e;have hx:=h.ex;have t3:T.cls=S.cls++[(c,(S.fresh:Int))]:=by rw[e]
 have hcl:∀ r,T.cl r=if r=S.cls.length then c else S.cl r:=fun r=>by
  rw[←jE S c S.fresh r];unfold SM.cl;rw[t3,fT]
 have aeB:∀ r,r<S.cls.length+1→T.id r=if r=S.cls.length then (S.fresh:Int) else S.id r:=fun r hr=>by
  rw[←Jt S c S.fresh r hr];unfold SM.id;rw[t3,fT]
 have nQ:T.cls.length=S.cls.length+1:=by rw[t3];simp
 have w1:T.words=S.words:=by rw[e]
 have w2:T.most=S.most:=by rw[e]
 have w3:T.given=S.given:=by rw[e]
 have w4:T.fresh=S.fresh:=by rw[e]
 have w5:T.steps=S.steps:=by rw[e]
 have w6:T.units=S.units:=by rw[e]
 have w7:T.conf=S.conf:=by rw[e]
 have w8:T.occurs=S.occurs:=by rw[e]
 have w9:T.ends=[]:=by rw[e];exact h.e0
 have Nl:∀ r,r<T.cls.length→T.id r≠-1:=fun r hr=>by
  rw[aeB r (by omega)]
  split
  ·omega
  ·exact hx.ids r (by omega)
 have hgv:∀ i,i<S.fresh+1→∃ r,r<T.cls.length∧(T.cl r).Perm ((gl S.given i).map aJ):=fun i hi2=>by
  rcases Nat.lt_or_ge i S.fresh with k | k
  ·obtain⟨r,hr,hp2⟩:=h.gv i k;exact⟨r,by omega,by rw[hcl,if_neg (by omega)];exact hp2⟩
  ·have:i=S.fresh:=by omega
   subst this;exact⟨S.cls.length,by omega,by rw[hcl,if_pos rfl];exact hp⟩
 have hen:∀ a,jP a T→kP a T:=fun a x=>fun r hr=>by
  have x2:jP a S:=by unfold jP at x ⊢;rw[w3] at x;exact x
  rw[hcl]
  split
  ·obtain⟨y,hy,ht⟩:=x2 _ (KZ hi);exact⟨aJ y,hp.mem_iff.2 (List.mem_map_of_mem hy),ht⟩
  ·exact h.en a x2 r (by omega)
 have hvc:∀ V,VG V T→VC V T:=fun V x=>fun r hr y hy=>by
  have x2:VG V S:=by unfold VG at x ⊢;rw[w3] at x;exact x
  rw[hcl] at hy
  split at hy
  ·obtain⟨z,hz,rfl⟩:=List.mem_map.1 (hp.mem_iff.1 hy);rw[dU];exact x2 _ (KZ hi) z hz
  ·exact h.vc V x2 r (by omega) y hy
 have hcn:=hx.cn;have hfr:=hx.fr;have hkk:=hx.kk;have al6:yH (K+1) T:=⟨Nl,by rw[w5,w6,w1,hv];exact hx.uI,by rw[w1,w2];exact hx.wm,by rw[w2];exact hx.mo,by rw[w4,w3];exact hx.fr,by rw[nQ,w3,w4,w1];omega,by omega⟩;have al7:yH K { T with fresh:=T.fresh+1 }:=⟨Nl,by show T.steps.length+T.units.count (-1)≤T.words+T.value.length;rw[w5,w6,w1,hv];exact hx.uI,by show T.words≤T.most;rw[w1,w2];exact hx.wm,by show T.most≤_;rw[w2];exact hx.mo,by show T.fresh+1≤T.given.length;rw[w4,w3];omega,by show 2*(T.cls.length+(T.given.length-(T.fresh+1)))≤T.words+2*K;rw[nQ,w3,w4,w1];omega,by omega⟩
 refine⟨⟨w9,al6,by rw[w3,hv];exact h.gs,by rw[w3,w1];exact h.gw,fun i hi2=>by rw[w3];exact hgv i (by omega),hen,by rw[w7];exact h.cf,by rw[w7];exact h.c1,by rw[w3,w8];exact h.oc,hvc⟩,
  ⟨w9,al7,by show ∀ c∈T.given,_∧∀ x∈c,_∧_∧_<T.value.length;rw[w3,hv];exact h.gs,by show 2*T.given.length≤T.words;rw[w3,w1];exact h.gw,fun i hi2=>by
   have hi3:i<T.fresh+1:=hi2;show ∃ r,r<T.cls.length∧(T.cl r).Perm ((gl T.given i).map aJ)
   rw[w3];exact hgv i (by omega),hen,by show T.conf≤_;rw[w7];exact h.cf,by show 1≤T.conf;rw[w7];exact h.c1,by show ∀ c∈T.given,∀ x∈c,gB T.occurs x.natAbs=true;rw[w3,w8];exact h.oc,hvc⟩,hcl⟩
end Go.Proofs.YthbbmdnfkkffjaaGreat
