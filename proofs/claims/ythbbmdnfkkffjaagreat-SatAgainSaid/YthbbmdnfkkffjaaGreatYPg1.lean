/-
  A search that has a guide: what is set is of the guide, and no clause is met of which all is false.
-/
import Derived.Test.YthbbmdnfkkffjaaGreatY44
import Derived.Test.YthbbmdnfkkffjaaGreatY01
set_option maxHeartbeats 8000000
set_option maxRecDepth 100000
namespace Go.Proofs.YthbbmdnfkkffjaaGreat
open Go.Proofs.aA
open Go.Proofs.au hiding SM
structure Guide (G:Nat→Prop) (S:SM):Prop where
 cons:∀ l,G l→¬ G (negL l)
 cl:∀ r,r<S.cls.length→(∃ x∈S.cl r,G x)∨∃ x∈S.cl r,∃ y∈S.cl r,x≠y∧¬ G (negL x)∧¬ G (negL y)
theorem Guide.perm {G:Nat→Prop} {S T:SM} (h:Guide G S) (hl:T.cls.length=S.cls.length) (hp:∀ r,(T.cl r).Perm (S.cl r)):Guide G T :=
 ⟨h.cons,fun r hr=>by
  rcases h.cl r (by omega) with ⟨x,hx,g⟩ | ⟨x,hx,y,hy,g⟩
  ·exact .inl ⟨x,(hp r).mem_iff.2 hx,g⟩
  ·exact .inr ⟨x,(hp r).mem_iff.2 hx,y,(hp r).mem_iff.2 hy,g⟩⟩
theorem Guide.unit {G:Nat→Prop} {S:SM} (h:Guide G S) {r:Nat} (hr:r<S.cls.length) {x:Nat} (ho:∀ k∈S.cl r,k≠x→G (negL k)):G x:=by
 rcases h.cl r hr with ⟨z,hz,g⟩ | ⟨y,hy,z,hz,hne,g1,g2⟩
 ·by_cases e:z=x
  ·rw[←e];exact g
  ·exact absurd (ho z hz e) (h.cons z g)
 ·by_cases e:y=x
  ·exact absurd (ho z hz fun k=>hne (e.trans k.symm)) g2
  ·exact absurd (ho y hy e) g1
theorem Guide.some {G:Nat→Prop} {S:SM} (h:Guide G S) {r:Nat} (hr:r<S.cls.length) (ho:∀ k∈S.cl r,G (negL k)):False:=by
 rcases h.cl r hr with ⟨z,hz,g⟩ | ⟨y,hy,_,_,_,g1,_⟩
 ·exact h.cons z g (ho z hz)
 ·exact g1 (ho y hy)
def Agr (G:Nat→Prop) (S:SM):Prop:=∀ i,i<S.trail.length→G (gn S.trail i)
theorem agree {G:Nat→Prop} {S:SM} (h:nR S) (g:Guide G S) (hd:∀ i,i<S.trail.length→i∈S.ends→G (gn S.trail i)):Agr G S:=by
 intro i
 induction i using Nat.strongRecOn with
 | _ i ih =>
  intro hi;rcases h.why i hi with ⟨_,k⟩ | ⟨r,_,hr,_,ho⟩
  ·exact hd i hi k
  ·refine g.unit hr fun k hk hne=>?_;obtain⟨j,hj,e⟩:=ho k hk hne;rw[←e];exact ih j hj (by omega)
theorem Agr.false {G:Nat→Prop} {S:SM} (h:Agr G S) (ht:nR S) {l:Nat} (hl:S.bF l=-1):G (negL l):=by
 obtain⟨i,hi,e⟩:=ht.jS hl;rw[←e];exact h i hi
theorem Agr.follow {G:Nat→Prop} {S:SM} (h:fG S) (hf:Full S) (g:Guide G S) (ha:Agr G S):Guide G S.follow.1∧Agr G S.follow.1∧S.follow.2=-1∧S.follow.1.next=S.follow.1.trail.length∧S.follow.1.phase=S.phase∧S.follow.1.ends=S.ends∧(∀ r,(S.follow.1.cl r).Perm (S.cl r))∧S.follow.1.cls.length=S.cls.length:=by
 obtain⟨F,_⟩:=iN h;obtain⟨R,hR⟩:∃ R,S.follow=R:=⟨_,rfl⟩;rw[hR] at F ⊢;have hfw:=F.fwd;have hp:∀ r,(R.1.cl r).Perm (S.cl r):=fun r=>hfw.perm r;have hl:R.1.cls.length=S.cls.length:=hfw.mX;have he:R.1.ends=S.ends:=hfw.ends;have hph:R.1.phase=S.phase:=by obtain⟨_,_,_,_,_,_,e⟩:=hfw.same;rw[e];rfl
 have g2:=g.perm hl hp
 have a2:Agr G R.1:=agree F.fo.tr g2 fun i hi hie=>by
  rw[he] at hie;have h1:=hf i hie;have e:gn R.1.trail i=gn S.trail i:=hfw.gn (S:=nx S R.1.next) h1;rw[e];exact ha i h1
 refine⟨g2,a2,?_⟩;rcases F.out with ⟨o1,o2⟩ | ⟨r,_,hno,_⟩
 ·exact⟨o1,o2,hph,he,hp,hl⟩
 ·exact (g2.some hno.1 fun k hk=>a2.false F.fo.tr (hno.2.2 k hk)).elim
structure Way (G:Nat→Prop) (asm:List Int) (C:SM) (k:Nat):Prop where
 le:k≤asm.length
 pos:∀ j,j<k→G (aJ (gi asm j))
 neg:k<asm.length→∀ (K:Nat) (W:SM),jk asm K W→Agr G W→W.cls.length=C.cls.length→(∀ r,(W.cl r).Perm (C.cl r))→W.next=W.trail.length→W.ends.length=k→W.bF (aJ (gi asm k))=-1
 phase:k=asm.length→∀ W:SM,W.phase=C.phase→Agr G W→W.value.length=C.value.length→(∀ v,gi C.value v≠0→gi W.value v≠0)→∀ v,0<v→v<W.value.length→gi W.value v=0→G (if gB W.phase v then 2*v else 2*v+1)
structure Std (G:Nat→Prop) (C S:SM) (k:Nat) (n:Nat):Prop where
 g:Guide G S
 a:Agr G S
 l:S.cls.length=C.cls.length
 p:∀ r,(S.cl r).Perm (C.cl r)
 ph:S.phase=C.phase
 vl:S.value.length=C.value.length
 kv:∀ v,gi C.value v≠0→gi S.value v≠0
 le:S.ends.length≤k∨k=n
theorem Agr.bX {G:Nat→Prop} {S:SM} (h:Agr G S) {l:Nat} (hl:G l):Agr G (S.open_.bX l (-1)):=by
 have e:(S.open_.bX l (-1)).trail=S.trail++[l]:=rfl;intro i hi;rw[e] at hi ⊢;rw[List.length_append,List.length_singleton] at hi
 by_cases h1:i<S.trail.length
 ·rw[dX h1];exact h i h1
 ·have:i=S.trail.length:=by omega
  subst this;rw[vS];exact hl
theorem Std.set {G:Nat→Prop} {C S:SM} {k n:Nat} (h:Std G C S k n) {l:Nat} (hl:G l) (hk:S.ends.length<k∨k=n):Std G C (S.open_.bX l (-1)) k n:=by
 refine⟨h.g.perm rfl fun r=>List.Perm.refl _,h.a.bX hl,h.l,h.p,h.ph,by rw[←h.vl];exact (pX S.open_ l (-1)).gL,fun v hv=>?_,?_⟩
 ·have h1:=h.kv v hv;have e:(S.open_.bX l (-1)).value=S.value.set (l/2) (if l % 2=1 then -1 else 1):=rfl
  rw[e]
  by_cases hlt:l/2<S.value.length
  ·rw[mW hlt]
   by_cases hvv:v=l/2
   ·rw[if_pos hvv];split <;> omega
   ·rw[if_neg hvv];exact h1
  ·rw[List.set_eq_of_length_le (by omega)];exact h1
 have e:(S.open_.bX l (-1)).ends=S.ends++[S.trail.length]:=rfl;rw[e,List.length_append,List.length_singleton];omega
theorem Std.honly {G:Nat→Prop} {C S T:SM} {k n:Nat} (h:Std G C S k n) (e:dQ S T):Std G C T k n:=by
 obtain⟨a,b,c,rfl⟩:=e.same;exact⟨h.g.perm rfl fun r=>List.Perm.refl _,h.a,h.l,h.p,h.ph,h.vl,h.kv,h.le⟩
theorem Std.pick {G:Nat→Prop} {C:SM} {asm:List Int} {k:Nat} (w:Way G asm C k) (hk:k=asm.length):∀ (f:Nat) (S:SM),Std G C S k asm.length→bG S→(∀ v∈S.hl,v≠0)→(SM.qj f S).2=true→Std G C (SM.qj f S).1 k asm.length
 | 0,S,_,_,_,hb=>by rw[SM.qj] at hb;cases hb
 | f+1,S,h,hi,hz,hb=>by
  rw[SM.qj] at hb ⊢
  by_cases h0:S.hl.length=0
  ·have ht:S.take=(S,0):=by unfold SM.take;rw[if_pos h0]
   rw[ht] at hb;simp only[if_true] at hb
   cases hb
  ·have ht:S.take=(S.taken,gn S.hl 0):=by unfold SM.take;rw[if_neg h0]
   have hmem:gn S.hl 0∈S.hl:=aU _ _ (by omega);have hne:=hz _ hmem;have hvl:=hi.hb.vars _ hmem;have hTi:=hi.taken h0;have hset:=U6 hi h0;have hho:=Cu S;obtain⟨v,hv⟩:∃ v,gn S.hl 0=v:=⟨_,rfl⟩;rw[hv] at ht hne hvl hset;obtain⟨U,hU⟩:∃ U,S.taken=U:=⟨_,rfl⟩;rw[hU] at ht hTi hset hho;rw[ht] at hb ⊢;simp only at hb ⊢;rw[if_neg hne] at hb ⊢;have h2:=h.honly hho;obtain⟨a,b,c,e⟩:=hho.same;have u1:U.value=S.value:=by rw[e]
   by_cases hg:gi U.value v=0
   ·rw[if_pos hg] at hb ⊢;exact h2.set (w.phase hk U h2.ph h2.a h2.vl h2.kv v (by omega) (by rw[u1];exact hvl) hg) (.inr hk)
   ·rw[if_neg hg] at hb ⊢;exact Std.pick w hk f U h2 hTi (fun x hx=>hz x ((hset x).1 hx).1) hb
theorem Std.decide {G:Nat→Prop} {C:SM} {asm:List Int} {k K:Nat} (w:Way G asm C k):∀ (f:Nat) (S:SM),jk asm K S→S.next=S.trail.length→f=asm.length-S.ends.length→Std G C S k asm.length→(SM.jv asm f S).2=true→Std G C (SM.jv asm f S).1 k asm.length
 | 0,S,hs,hn,hf,h,hb=>by
  rw[SM.jv] at hb ⊢
  have hk:k=asm.length:=by
   rcases h.le with q | q
   ·have:=w.le;omega
   ·exact q
  obtain⟨P,hP⟩:∃ P,SM.qj (S.hl.length+1) S=P:=⟨_,rfl⟩;have hp:=Std.pick w hk (S.hl.length+1) S h hs.fo.hp.hi fun v hv e=>hs.fo.hp.nz (e▸hv);rw[hP] at hb hp ⊢
  cases hb2:P.2 with
  | true =>
   rw[if_pos rfl];exact hp hb2
  | false =>
   rw[hb2,if_neg (by simp)] at hb
   cases hb
 | f+1,S,hs,hn,hf,h,hb=>by
  have hA:S.ends.length<asm.length:=by omega
  obtain⟨l,hl⟩:∃ l,aJ (gi asm S.ends.length)=l:=⟨_,rfl⟩;rw[SM.jv,hl] at hb ⊢;change (if S.bF l=-1 then (S.refused asm l,false) else if S.bF l=1 then SM.jv asm f S.open_ else (S.open_.bX l (-1),true)).2=true at hb
  change Std G C (if S.bF l=-1 then (S.refused asm l,false) else if S.bF l=1 then SM.jv asm f S.open_ else (S.open_.bX l (-1),true)).1 k asm.length
  by_cases h1:S.bF l=-1
  ·rw[if_pos h1] at hb;cases hb
  ·rw[if_neg h1] at hb ⊢
   have hlt:S.ends.length<k:=by
    rcases h.le with q | q
    ·apply Classical.byContradiction;intro hq;have e:S.ends.length=k:=by omega
     refine h1 ?_;rw[←hl,e];exact w.neg (by omega) K S hs h.a h.l h.p hn e
    ·omega
   by_cases h2:S.bF l=1
   ·rw[if_pos h2] at hb ⊢;have ho:=hs.open_ hn hA (by rw[hl];exact h2);have e:S.open_.ends=S.ends++[S.trail.length]:=rfl;refine Std.decide w f S.open_ ho hn (by rw[e,List.length_append,List.length_singleton];omega) ⟨h.g.perm rfl fun r=>List.Perm.refl _,h.a,h.l,h.p,h.ph,h.vl,h.kv,.inl (by rw[e,List.length_append,List.length_singleton];omega)⟩ hb
   ·rw[if_neg h2] at hb ⊢;exact h.set (by rw[←hl];exact w.pos _ hlt) (.inl hlt)
end Go.Proofs.YthbbmdnfkkffjaaGreat
