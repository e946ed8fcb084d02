/-
  Parts of the proof, joined by program: Pi11, Pi12, Pi13, Pi14, Pi15, Pi16, Pi17, Pi18, Pi19.
-/
import Derived.Test.YthbbmdnfkkffjaaGreatY22
import Derived.Test.YthbbmdnfkkffjaaGreatY01
import Derived.Lib.Hide
set_option maxHeartbeats 8000000
set_option maxRecDepth 100000
namespace Go.Proofs.YthbbmdnfkkffjaaGreat
open Go.Proofs.au Go.Proofs.aA
theorem Met.FV {S:SM} {A:AM} (ht:nR S) (h:Met S A):A.zero.length≤S.value.length:=jd h.zn fun v hv=>by
 obtain⟨j,hj,rfl⟩:=h.on v ((h.z v).1 hv).1;exact ht.lt j hj
theorem BF {S:SM} {x:Nat} (hx:S.bF x≠0):x/2<S.value.length:=by
 apply Classical.byContradiction;intro k;exact hx (gX.2 (rT (by omega)))
theorem Met.FW {S:SM} {A:AM} (h:Met S A):0<A.lits.length∧A.lits.length≤S.value.length+1:=by
 obtain⟨ls,e,nd,hl,_⟩:=h.l0
 have:=jd (n:=S.value.length) nd fun v hv=>by
  obtain⟨x,hx,rfl⟩:=List.mem_map.1 hv;exact BF (by have:=(hl x hx).2.1;omega)
 rw[List.length_map] at this;rw[e,List.length_cons];omega
def Closed (S:SM) (A:AM) (j:Nat):Prop:=∃ r:Nat,gi S.reason (gn S.trail j/2)=r∧r<S.cls.length∧gn S.trail j∈S.cl r∧∀ x∈S.cl r,gB A.met (x/2)=true∧(x≠gn S.trail j→∃ k,k<j∧gn S.trail k=negL x)
structure LI (S0:SM) (bad:Nat) (S:SM) (A:AM) (i o:Nat):Prop where
 ho:dQ S0 S
 met:Met S0 A
 oc:o=cnt S0 A i
 o1:1≤o
 closed:∀ j,i≤j→j<S0.trail.length→cur S0 A j=true→Closed S0 A j
 bad:∀ x∈S0.cl bad,gB A.met (x/2)=true
structure YH (S0:SM) (bad:Nat) (R:SM×AM):Prop where
 ho:dQ S0 R.1
 out:∃ A u,Met S0 A∧u<S0.trail.length∧R.2={ A with lits:=A.lits.set 0 (negL (gn S0.trail u)) }∧cur S0 A u=true∧(∀ j,j<u→cur S0 A j=false) ∧
  (∀ j,u<j→j<S0.trail.length→cur S0 A j=true→Closed S0 A j)∧∀ x∈S0.cl bad,gB A.met (x/2)=true
theorem FX {S:SM} {A:AM}:∀ {i:Nat},cnt S A i=0→∀ j,j<i→cur S A j=false
 | 0,_,j,hj=>by omega
 | i+1,h,j,hj=>by
  rw[nX] at h
  by_cases e:j=i
  ·subst e
   cases hc:cur S A j
   ·rfl
   ·rw[hc] at h;simp at h
  ·exact FX (i:=i) (by omega) j (by omega)
theorem Ac {S:SM} {A:AM}:∀ {i:Nat},(∀ j,j<i→cur S A j=false)→cnt S A i=0
 | 0,_=>rfl
 | i+1,h=>by rw[nX,Ac (fun j hj=>h j (by omega)),h i (by omega)];rfl
theorem sj {S0:SM} {bad:Nat} (ht:nR S0) (hcl:KQ S0) (hc:0<S0.ends.length) (hsm:S0.value.length≤100000):∀ (i:Nat) (S:SM) (A:AM) (o:Nat),i≤S0.trail.length→LI S0 bad S A i o →
  YH S0 bad (SM.dY i S A o)∧(A.fr.length+i≤900000→jC i S A o)∧(SM.dY i S A o).2.fr.length≤A.fr.length+i
 | 0,S,A,o,hi,h=>by
  have h1:=h.oc;rw[show cnt S0 A 0=0 from rfl] at h1;have:=h.o1;omega
 | i+1,S,A,o,hi,h=>by
  obtain⟨f1,f2,f3,f4,f5,f6⟩:=h.ho.facts;have hit:i<S0.trail.length:=by omega
  have hcs:=nX S0 A i;have ho:=h.oc;have ho1:=h.o1;rw[SM.dY,jC,f3];simp only
  by_cases hm:gB A.met (gn S0.trail i/2)=true
  ·rw[if_pos hm,if_pos hm]
   have hcur:cur S0 A i=true:=by
    cases hq:cur S0 A i
    ·exfalso;rw[hq] at hcs;simp only[Bool.false_eq_true,if_false] at hcs
     have hlv:dM S0 i≠S0.ends.length:=fun e=>by
      unfold cur at hq;rw[hm,ht.jo i hit,e] at hq;simp at hq
     have:cnt S0 A i=0:=Ac fun j hj=>by
      cases hz:cur S0 A j
      ·rfl
      ·unfold cur at hz;simp only[Bool.and_eq_true,beq_iff_eq] at hz;rw[ht.jo j (by omega)] at hz;have:=FI S0 (Nat.le_of_lt hj);have:=nT S0 i;omega
     omega
    ·rfl
   rw[hcur] at hcs;simp only[if_true] at hcs
   by_cases h1:o=1
   ·rw[if_pos h1];refine⟨⟨h.ho,A,i,h.met,hit,rfl,hcur,FX (by omega),fun j hj=>h.closed j (by omega),h.bad⟩,fun _=>⟨by omega,fun k=>absurd h1 k⟩,by show A.fr.length≤_;omega⟩
   ·rw[if_neg h1];rcases ht.why i hit with ⟨_,he⟩ | ⟨r,hr1,hr2,hr3,hr4⟩
    ·exfalso
     have:cnt S0 A i=0:=Ac fun j hj=>by
      cases hz:cur S0 A j
      ·rfl
      ·unfold cur at hz;simp only[Bool.and_eq_true,beq_iff_eq] at hz;rw[ht.jo j (by omega)] at hz;have:=QZ he hj;have:=nT S0 i;omega
     omega
    ·have hcS:S.cl r=S0.cl r:=by unfold SM.cl;rw[f6]
     have hvS:S.value.length=S0.value.length:=by rw[f4]
     have hM:Met S0 { A with fr:=A.fr++[S.id r] }:=⟨h.met.ml,h.met.on,h.met.z,h.met.zn,h.met.l0⟩
     have hms:=jD ht hc (gn S0.trail i) i (by omega) (S0.cl r) S { A with fr:=A.fr++[S.id r] } 0 h.ho hM fun x hx hne=>by
      obtain⟨k,hk,e⟩:=hr4 x hx hne;have h5:=ht.is k (by omega);rw[e,rR] at h5;exact⟨by omega,k,hk,e⟩
     have hme:S.meets { A with fr:=A.fr++[S.id r] } r (gn S0.trail i)=SM.dF (gn S0.trail i) S { A with fr:=A.fr++[S.id r] } 0 (S0.cl r):=by unfold SM.meets;rw[hcS]
     have hrr:(gi S.reason (gn S0.trail i/2)).toNat=r:=by rw[f5,hr1];rfl
     rw[hrr,hme];obtain⟨R,hR⟩:∃ R,SM.dF (gn S0.trail i) S { A with fr:=A.fr++[S.id r] } 0 (S0.cl r)=R:=⟨_,rfl⟩;rw[hR] at hms hme ⊢;have Rh:cnt S0 R.2.1 i=cnt S0 A i+R.2.2:=hms.num
     have abb:∀ j,i≤j→j<S0.trail.length→cur S0 R.2.1 j=true→Closed S0 R.2.1 j:=fun j hj1 hj2 hj3=>by
      by_cases e:j=i
      ·subst e;refine⟨r,hr1,hr2,hr3,fun x hx=>⟨?_,fun hne=>hr4 x hx hne⟩⟩
       by_cases e:x=gn S0.trail j
       ·rw[e];exact hms.sub _ hm
       ·exact hms.all x hx e
      ·have hold:cur S0 A j=true:=by
        unfold cur at hj3 ⊢;simp only[Bool.and_eq_true] at hj3 ⊢;exact⟨hms.new j hj1 hj2 hj3.1,hj3.2⟩
       obtain⟨r',a,b,c,d⟩:=h.closed j (by omega) hj2 hold;exact⟨r',a,b,c,fun x hx=>⟨hms.sub _ (d x hx).1,(d x hx).2⟩⟩
     have hfl:R.2.1.fr.length=A.fr.length+1:=by rw[hms.fr];simp
     obtain⟨g1,g2,g3⟩:=sj ht hcl hc hsm i R.1 R.2.1 (o-1+R.2.2) (by omega) ⟨h.ho.trans hms.ho,hms.met,by omega,by omega,abb,fun x hx=>hms.sub _ (h.bad x hx)⟩;refine⟨g1,fun hfr=>⟨by omega,fun _=>⟨r,by rw[f5,hr1],by rw[f6];exact hr2,?_,?_,?_,?_,?_,?_⟩⟩,by omega⟩
     ·rw[hcS];have:=hcl.len hr2;omega
     ·rw[hcS];intro x hx;rw[hvS];exact (hcl.two r hr2 x hx).2
     ·have:=h.met.FV ht;omega
     ·have:=h.met.FW.2;omega
     ·omega
     ·rw[hme];exact g2 (by omega)
  ·rw[if_neg hm,if_neg hm];have hcur:cur S0 A i=false:=by unfold cur;rw[show gB A.met (gn S0.trail i/2)=false by simpa using hm,Bool.false_and]
   rw[hcur] at hcs;simp only[Bool.false_eq_true,if_false] at hcs
   obtain⟨g1,g2,g3⟩:=sj ht hcl hc hsm i S A o (by omega) ⟨h.ho,h.met,by omega,ho1,fun j hj1 hj2 hj3=>by
    by_cases e:j=i
    ·rw[e,hcur] at hj3;cases hj3
    ·exact h.closed j (by omega) hj2 hj3,h.bad⟩
   exact⟨g1,fun hfr=>g2 (by omega),by omega⟩
structure aez (S:SM) (c:List Nat) (R:List Nat×Nat):Prop where
 perm:R.1.Perm c
 head:gn R.1 0=gn c 0
 le:∀ j,1≤j→j<c.length→gn S.level (gn R.1 j/2)≤R.2
 one:1<c.length→R.2=gn S.level (gn R.1 1/2)
 none:c.length=1→R.2=0
theorem yG (S:SM):∀ (f:Nat) (c:List Nat) (k h:Nat),k+f+1=c.length→(k=0→h=0)→(0<k→h=gn S.level (gn c 1/2))→(∀ j,1≤j→j≤k→gn S.level (gn c j/2)≤h) →
  (∀ x∈c.tail,0<gn S.level (x/2))→aez S c (SM.lT S f c k h)
 | 0,c,k,h,hk,h0,h1,hle,_=>by
  refine⟨List.Perm.refl _,rfl,fun j a b=>hle j a (by omega),fun a=>h1 (by omega),fun a=>h0 (by omega)⟩
 | f+1,c,k,h,hk,h0,h1,hle,hpos=>by
  rw[SM.lT];have hk1:k+1<c.length:=by omega
  have hp:0<gn S.level (gn c (k+1)/2):=hpos _ (by
   rw[fD _ _ hk1];have:c.tail[k]'(by rw[List.length_tail];omega)=c[k+1]:=by rw[List.getElem_tail]
   rw[←this];exact List.getElem_mem _)
  by_cases hlt:h<gn S.level (gn c (k+1)/2)
  ·rw[if_pos hlt];have hsp:(SM.dG c 1 (k+1)).Perm c:=swap_perm (by omega) hk1;have hsl:=lW c 1 (k+1);have hg:∀ j,gn (SM.dG c 1 (k+1)) j=if j=k+1 then gn c 1 else if j=1 then gn c (k+1) else gn c j:=fun j=>rV (by omega) hk1
   have hg0:gn (SM.dG c 1 (k+1)) 0=gn c 0:=by rw[hg,if_neg (by omega),if_neg (by omega)]
   have hg1:gn (SM.dG c 1 (k+1)) 1=gn c (k+1):=by
    rw[hg]
    by_cases e:1=k+1
    ·rw[if_pos e,←e]
    ·rw[if_neg e,if_pos rfl]
   have r:=yG S f (SM.dG c 1 (k+1)) (k+1) (gn S.level (gn c (k+1)/2)) (by omega) (fun e=>by omega) (fun _=>by rw[hg1]) (fun j a b=>by
    rw[hg]
    by_cases e:j=k+1
    ·rw[if_pos e]
     by_cases e0:k=0
     ·subst e0;exact Nat.le_refl _
     ·rw[←h1 (by omega)];omega
    ·rw[if_neg e]
     by_cases e1:j=1
     ·rw[if_pos e1];exact Nat.le_refl _
     ·rw[if_neg e1];have:=hle j a (by omega);omega) (fun x hx=>by
    obtain⟨j,hj,rfl⟩:=List.getElem_of_mem hx;rw[List.length_tail,hsl] at hj;rw[List.getElem_tail,←fD _ _ (by rw[hsl];omega),hg]
    have hall:∀ i,1≤i→i<c.length→0<gn S.level (gn c i/2):=fun i a b=>hpos _ (by
     rw[fD _ _ b];have:c.tail[i-1]'(by rw[List.length_tail];omega)=c[i]:=by rw[List.getElem_tail];congr 1;omega
     rw[←this];exact List.getElem_mem _)
    split
    ·exact hall 1 (by omega) (by omega)
    ·split
     ·exact hp
     ·exact hall _ (by omega) (by omega))
   exact⟨r.perm.trans hsp,r.head.trans hg0,fun j a b=>r.le j a (by omega),fun a=>r.one (by omega),fun a=>r.none (by omega)⟩
  ·rw[if_neg hlt];have hk0:k≠0:=fun e=>by have:=h0 e;omega
   exact yG S f c (k+1) h (by omega) (fun e=>by omega) (fun _=>h1 (by omega)) (fun j a b=>by
    by_cases e:j=k+1
    ·rw[e];omega
    ·exact hle j a (by omega)) hpos
def Zero (S:SM) (v:Nat):Prop:=gn S.level v=0∧∃ j,j<S.trail.length∧gn S.trail j/2=v
def YI (S:SM) (v:Nat):Nat:=(S.trail.map (·/2)).idxOf v
theorem YJ {S:SM} (h:nR S) {j:Nat} (hj:j<S.trail.length):YI S (gn S.trail j/2)=j:=by
 unfold YI;have hl:j<(S.trail.map (·/2)).length:=by rw[List.length_map];exact hj
 have e:gn S.trail j/2=(S.trail.map (·/2))[j]:=by rw[List.getElem_map,fD _ _ hj]
 rw[e];exact h.nodup.idxOf_getElem j hl
theorem Nk {S:SM} (h:nR S) {v:Nat} (hv:Zero S v):YI S v<S.value.length:=by
 obtain⟨_,j,hj,rfl⟩:=hv;rw[YJ h hj];have:=h.len;omega
structure yH (K:Nat) (S:SM):Prop where
 ids:∀ r,r<S.cls.length→S.id r≠-1
 uI:S.steps.length+S.units.count (-1)≤S.words+S.value.length
 wm:S.words≤S.most
 mo:S.most≤262144
 fr:S.fresh≤S.given.length
 cn:2*(S.cls.length+(S.given.length-S.fresh))≤S.words+2*K
 kk:K≤100000
theorem yH.words {K:Nat} {S:SM} (h:yH K S):S.words≤1000000:=by have:=h.wm;have:=h.mo;omega
theorem yH.cls {K:Nat} {S:SM} (h:yH K S):S.cls.length≤800000:=by have:=h.wm;have:=h.mo;have:=h.cn;have:=h.kk;omega
theorem YK {K:Nat} {S:SM} (h:nR S) (hc:KQ S) (he:yH K S) (hs:S.value.length≤100000):zG S (Zero S) (YI S):=by
 refine⟨h.sz.units,h.sz.reason,hs,by have:=he.cls;omega,by have:=he.uI;have:=he.words;omega,he.ids,fun v ⟨_,j,hj,e⟩=>by rw[←e];exact h.lt j hj,fun v ⟨h0,j,hj,e⟩=>?_⟩;subst e;have hl0:dM S j=0:=by rw[←h.jo j hj];exact h0
 rcases h.why j hj with ⟨_,hm⟩ | ⟨r,a,b,c,d⟩
 ·exfalso;have:0<dM S j:=List.countP_pos_iff.2 ⟨j,hm,by simp⟩;omega
 ·refine⟨r,a,b,by have:=hc.len b;omega,fun l hl=>⟨(hc.two r b l hl).2,fun hne=>?_⟩⟩;obtain⟨k,hk,e⟩:=d l hl fun k=>hne (by rw[k]);have hkl:gn S.trail k/2=l/2:=by rw[e,bT]
  refine⟨⟨?_,k,by omega,hkl⟩,?_⟩
  ·rw[←hkl,h.jo k (by omega)];have:=FI S (Nat.le_of_lt hk);omega
  ·rw[←hkl,YJ h (by omega),YJ h hj];exact hk
theorem fG.aeA {K:Nat} {S:SM} (h:fG S) (he:yH K S) {bad:Nat} (h0:S.ends.length=0) (hb:bad<S.cls.length) (hn:∀ x∈S.cl bad,S.bF x=-1):Nj S bad (Zero S) (YI S):=by
 have hs:=h.hp.hi.hb.small;refine⟨YK h.tr h.cl he hs,fun v hv=>Nk h.tr hv,hb,fun l hl=>?_,by have:=h.cl.len hb;omega⟩;have hf:=hn l hl;obtain⟨i,hi,e⟩:=h.tr.jS hf;refine⟨by have:=h.tr.nT (l:=l) (by omega);omega,i,hi,by rw[e,bT]⟩
def AM.none (S:SM) (bad:Nat):AM:={ met:=List.replicate S.value.length false,zero:=[],lits:=[0],fr:=[S.id bad] }
theorem KV (n v:Nat):gB (List.replicate n false) v=false:=by
 unfold gB;rw[List.getD_eq_getElem?_getD,List.getElem?_replicate]
 split <;> rfl
theorem YL (S:SM) (bad:Nat):Met S (AM.none S bad):=by
 have hm:∀ v,¬ gB (AM.none S bad).met v=true:=fun v=>by
  show ¬ gB (List.replicate _ false) v=true;rw[KV];simp
 refine⟨by show (List.replicate _ _).length=_;simp,fun v hv=>absurd hv (hm v),fun v=>?_,List.nodup_nil,[],rfl,List.nodup_nil,(fun x hx=>by cases hx),fun v hv=>absurd hv (hm v)⟩
 constructor
 ·intro hv;cases hv
 ·rintro⟨a,_⟩;exact absurd a (hm v)
structure Bad (S:SM) (bad:Nat):Prop where
 lt:bad<S.cls.length
 no:∀ x∈S.cl bad,S.bF x=-1
 here:∃ l∈S.cl bad,gn S.level (l/2)=S.ends.length
theorem su {S:SM} (h:fG S) {bad:Nat} (he:0<S.ends.length) (hb:Bad S bad) :
  YH S bad (aV S bad)∧jC (dD S bad).1.trail.length (dD S bad).1 (dD S bad).2.1 (dD S bad).2.2∧(aV S bad).2.fr.length≤1+S.trail.length:=by
 have hs:=h.hp.hi.hb.small;have htl:=h.tr.len
 have hm:=jD h.tr he 0 S.trail.length (Nat.le_refl _) (S.cl bad) S (AM.none S bad) 0 (dQ.refl S) (YL S bad) fun x hx _=>by
  obtain⟨i,hi,e⟩:=h.tr.jS (hb.no x hx);exact⟨hb.no x hx,i,hi,e⟩
 have e0:dD S bad=SM.dF 0 S (AM.none S bad) 0 (S.cl bad):=rfl;obtain⟨R,hR⟩:∃ R,dD S bad=R:=⟨_,rfl⟩;rw[←e0,hR] at hm;have hl1:aV S bad=SM.dY R.1.trail.length R.1 R.2.1 R.2.2:=by unfold aV;rw[hR]
 rw[hl1,hR];obtain⟨f1,f2,f3,f4,f5,f6⟩:=hm.ho.facts
 have hz:cnt S (AM.none S bad) S.trail.length=0:=Ac fun j _=>by
  unfold cur;rw[show gB (AM.none S bad).met (gn S.trail j/2)=false from KV _ _,Bool.false_and]
 have Rh:=hm.num;have hall:∀ x∈S.cl bad,gB R.2.1.met (x/2)=true:=fun x hx=>hm.all x hx (by have:=(h.cl.two bad hb.lt x hx).1;omega)
 have h1:1≤R.2.2:=by
  obtain⟨l,hl,hlv⟩:=hb.here;obtain⟨i,hi,e⟩:=h.tr.jS (hb.no l hl)
  have hc:cur S R.2.1 i=true:=by
   unfold cur;rw[e,bT,hall l hl,hlv];simp
  apply Classical.byContradiction;intro hn;have:=FX (S:=S) (A:=R.2.1) (i:=S.trail.length) (by omega) i hi;rw[hc] at this;cases this
 have hfr:R.2.1.fr.length=1:=by rw[hm.fr];rfl
 rw[f3];obtain⟨g1,g2,g3⟩:=sj h.tr h.cl he hs S.trail.length R.1 R.2.1 R.2.2 (Nat.le_refl _) ⟨hm.ho,hm.met,by omega,h1,fun j a b=>by omega,hall⟩;exact⟨g1,g2 (by omega),by omega⟩
theorem alN {K:Nat} {S:SM} (h:fG S) (hx:yH K S) {bad:Nat} (he:0<S.ends.length) (hb:Bad S bad):aec S bad (Zero S) (YI S):=by
 have hs:=h.hp.hi.hb.small;have htl:=h.tr.len;obtain⟨hL,hok,hfr⟩:=su h he hb;obtain⟨A,u,hA,hu,e,_,_,_,_⟩:=hL.out;have hll:(aV S bad).2.lits.length=A.lits.length:=by rw[e];show (A.lits.set 0 _).length=_;rw[List.length_set]
 have hzz:(aV S bad).2.zero=A.zero:=by rw[e]
 refine⟨h.hp.hi,h.tr.sz,hb.lt,by have:=hx.cls;omega,by have:=h.cl.len hb.lt;omega,fun x BG=>(h.cl.two bad hb.lt x BG).2,h.tr.kY,by omega,hok,YK h.tr h.cl hx hs,fun v hv=>Nk h.tr hv,fun v hv=>?_,?_,by omega,?_,?_,fun x BG=>?_⟩
 ·rw[hzz] at hv;obtain⟨a,b⟩:=(hA.z v).1 hv;exact⟨b,hA.on v a⟩
 ·rw[hzz];have:=hA.FV h.tr;omega
 ·rw[hll];have:=hA.FW.2;omega
 ·rw[hll];exact hA.FW.1
 ·rw[e] at BG;rcases List.mem_or_eq_of_mem_set BG with BG | rfl
  ·obtain⟨ls,e1,_,e3,_⟩:=hA.l0;rw[e1] at BG;rcases List.mem_cons.1 BG with rfl | BG
   ·have:=h.tr.lt u hu;omega
   ·exact BF (by have:=(e3 x BG).2.1;omega)
  ·rw[bT];exact h.tr.lt u hu
structure Wq (S T:SM):Prop where
 same:∃ a b c u st,T={ S with hl:=a,place:=b,met:=c,units:=u,steps:=st }
 ulen:T.units.length=S.units.length
 uI:T.steps.length+T.units.count (-1)≤S.steps.length+S.units.count (-1)
theorem fG.LW {S T:SM} (h:fG S) (k:Wq S T) (hp:fK T):fG T:=by
 obtain⟨⟨a,b,c,u,st,rfl⟩,hu,_⟩:=k;exact⟨h.tr.congr ⟨h.tr.sz.level,h.tr.sz.reason,h.tr.sz.phase,h.tr.sz.occurs,hu.trans h.tr.sz.units,h.tr.sz.aj⟩ rfl rfl rfl rfl rfl (Nat.le_refl _) (fun _ _ _=>Iff.rfl),⟨h.cl.nd,h.cl.two⟩,⟨h.wa.nd,h.wa.iff⟩,hp,h.pi,h.ne,h.en⟩
theorem yH.LW {K:Nat} {S T:SM} (h:yH K S) (k:Wq S T):yH K T:=by
 obtain⟨⟨a,b,c,u,st,rfl⟩,hu,hp⟩:=k;exact⟨h.ids,Nat.le_trans hp h.uI,h.wm,h.mo,h.fr,h.cn,h.kk⟩
theorem vW {S T:SM} (h:dQ S T):Wq S T:=by
 obtain⟨a,b,c,rfl⟩:=h.same;exact⟨⟨a,b,c,S.units,S.steps,rfl⟩,rfl,Nat.le_refl _⟩
theorem DN {S T:SM} (h:tX S T):Wq S T:=by
 obtain⟨⟨u,st,rfl⟩,h2,h3,_⟩:=h;exact⟨⟨S.hl,S.place,S.met,u,st,rfl⟩,h2,h3⟩
theorem Wq.trans {S T U:SM} (h:Wq S T) (k:Wq T U):Wq S U:=by
 obtain⟨⟨a,b,c,u,st,rfl⟩,h2,h3⟩:=h;obtain⟨⟨a',b',c',u',st',rfl⟩,k2,k3⟩:=k;exact⟨⟨a',b',c',u',st',rfl⟩,k2.trans h2,Nat.le_trans k3 h3⟩
theorem fK.AY {S T:SM} (h:fK S) (k:tX S T):fK T:=by
 obtain⟨⟨u,st,rfl⟩,_⟩:=k;exact⟨⟨⟨h.hi.hb.small,h.hi.hb.vars,h.hi.hb.place,h.hi.hb.met,h.hi.hb.hl⟩,h.hi.pl,h.hi.bk⟩,h.nz,h.all⟩
theorem kZ (but:Nat):∀ (ls:List Nat) (S:SM) (A:AM) (n:Nat),fK S→(∀ x∈ls,x/2<S.value.length)→fK (SM.dF but S A n ls).1∧dQ S (SM.dF but S A n ls).1
 | [],S,_,_,h,_=>⟨h,dQ.refl S⟩
 | l :: r,S,A,n,h,hl=>by
  have hr:∀ x∈r,x/2<S.value.length:=fun x hx=>hl x (List.mem_cons_of_mem _ hx);have hm:=h.meet (hl l (by simp));have ho:=nU S (l/2);have hr2:∀ x∈r,x/2<(S.meet (l/2)).value.length:=fun x hx=>by rw[ho.facts.2.2.2.1];exact hr x hx
  rw[SM.dF]
  split
  ·exact kZ but r S A n h hr
  ·split
   ·have:=kZ but r _ { A with met:=A.met.set (l/2) true,zero:=A.zero++[l/2] } n hm hr2;exact⟨this.1,ho.trans this.2⟩
   ·split
    ·have:=kZ but r _ { A with met:=A.met.set (l/2) true } (n+1) hm hr2;exact⟨this.1,ho.trans this.2⟩
    ·have:=kZ but r _ { A with met:=A.met.set (l/2) true,lits:=A.lits++[l] } n hm hr2;exact⟨this.1,ho.trans this.2⟩
theorem yI:∀ (i:Nat) (S:SM) (A:AM) (o:Nat),fK S→KQ S→jC i S A o→fK (SM.dY i S A o).1∧dQ S (SM.dY i S A o).1
 | 0,S,A,o,h,_,_=>⟨h,dQ.refl S⟩
 | i+1,S,A,o,h,hc,hok=>by
  rw[SM.dY];rw[jC] at hok;simp only
  by_cases hm:gB A.met (gn S.trail i/2)=true
  ·rw[if_pos hm] at hok ⊢
   by_cases h1:o=1
   ·rw[if_pos h1];exact⟨h,dQ.refl S⟩
   ·rw[if_neg h1];obtain⟨r,hr,hr2,_,hv,_,_,_,hk⟩:=hok.2 h1;rw[show (gi S.reason (gn S.trail i/2)).toNat=r by rw[hr];rfl];obtain⟨a,b⟩:=kZ (gn S.trail i) (S.cl r) S { A with fr:=A.fr++[S.id r] } 0 h hv
    have hcl:KQ (S.meets { A with fr:=A.fr++[S.id r] } r (gn S.trail i)).1:=by
     obtain⟨x,y,z,e⟩:=b.same;unfold SM.meets;rw[e];exact⟨hc.nd,hc.two⟩
    obtain⟨c,d⟩:=yI i _ _ _ a hcl hk;exact⟨c,b.trans d⟩
  ·rw[if_neg hm] at hok ⊢;exact yI i S A o h hc hok
theorem j4 (but:Nat):∀ (ls:List Nat) (S:SM) (A:AM) (n:Nat),(SM.dF but S A n ls).2.1.fr=A.fr
 | [],_,_,_=>rfl
 | l :: r,S,A,n=>by
  rw[SM.dF]
  split
  ·exact j4 but r S A n
  ·split
   ·exact j4 but r _ _ n
   ·split
    ·exact j4 but r _ _ (n+1)
    ·exact j4 but r _ _ n
theorem yJ:∀ (i:Nat) (S:SM) (A:AM) (o:Nat),A.fr.length≤(SM.dY i S A o).2.fr.length
 | 0,_,_,_=>Nat.le_refl _
 | i+1,S,A,o=>by
  rw[SM.dY];simp only
  split
  ·split
   ·exact Nat.le_refl _
   ·refine Nat.le_trans ?_ (yJ i _ _ _);unfold SM.meets;rw[j4];show _≤(A.fr++[_]).length;simp
  ·exact yJ i S A o
theorem YM {l m:List Int} (h:0<l.length):gi (l++m) 0=gi l 0:=by
 cases l with
 | nil=>simp at h
 | cons a r=>rfl
theorem sw:∀ (i:Nat) (S:SM) (A:AM) (o:Nat),0<A.fr.length→gi (SM.dY i S A o).2.fr 0=gi A.fr 0
 | 0,_,_,_,_=>rfl
 | i+1,S,A,o,h=>by
  rw[SM.dY];simp only
  split
  ·split
   ·rfl
   ·have e:(S.meets { A with fr:=A.fr++[S.id (gi S.reason (gn S.trail i/2)).toNat] } (gi S.reason (gn S.trail i/2)).toNat (gn S.trail i)).2.1.fr=A.fr++[S.id (gi S.reason (gn S.trail i/2)).toNat]:=j4 _ _ _ _ _;rw[sw i _ _ _ (by rw[e];simp),e,YM h]
  ·exact sw i S A o h
theorem Ae:∀ (vs:List Nat) (S:SM) (fr:List Int),0<fr.length→gi (S.bH vs fr).2 0=gi fr 0
 | [],_,_,_=>rfl
 | v :: r,S,fr,h=>by
  rw[SM.bH,Ae r _ _ (by simp),YM h]
structure Ri (S:SM) (bad:Nat) (R:SM×List Nat×List Int×Nat):Prop where
 LW:Wq S R.1
 hp:fK R.1
 c0:0<R.2.1.length
 no:∀ x∈R.2.1,2≤x∧x/2<S.value.length∧S.bF x=-1
 nd:(R.2.1.map (·/2)).Nodup
 top:gn S.level (gn R.2.1 0/2)=S.ends.length
 low:∀ j,1≤j→j<R.2.1.length→0<gn S.level (gn R.2.1 j/2)∧gn S.level (gn R.2.1 j/2)≤R.2.2.2
 h:R.2.2.2<S.ends.length
 one:1<R.2.1.length→R.2.2.2=gn S.level (gn R.2.1 1/2)
 none:R.2.1.length=1→R.2.2.2=0
 f0:0<R.2.2.1.length
 fl:R.2.2.1.length≤1+S.trail.length+S.value.length
 fid:gi R.2.2.1 0=S.id bad
theorem lesson {K:Nat} {S:SM} (h:fG S) (hx:yH K S) {bad:Nat} (he:0<S.ends.length) (hb:Bad S bad):Ri S bad (S.learn bad):=by
 have hs:=h.hp.hi.hb.small;obtain⟨hL,hok,hfr⟩:=su h he hb;obtain⟨A,u,hA,hu,e,hcu,_,_,_⟩:=hL.out;obtain⟨p1,p2⟩:=kZ 0 (S.cl bad) S (AM.none S bad) 0 h.hp fun x BG=>(h.cl.two bad hb.lt x BG).2
 have hcl0:KQ (dD S bad).1:=by
  obtain⟨x,y,z,e⟩:=p2.same;show KQ (SM.dF 0 S (AM.none S bad) 0 (S.cl bad)).1;rw[e];exact⟨h.cl.nd,h.cl.two⟩
 obtain⟨q1,q2⟩:=yI _ _ _ _ (show fK (dD S bad).1 from p1) hcl0 hok;have hho:dQ S (aV S bad).1:=hL.ho;have hhp:fK (aV S bad).1:=q1;have hl:S.learn bad=(((aV S bad).1.bH (aV S bad).2.zero (aV S bad).2.fr).1,(((aV S bad).1.bH (aV S bad).2.zero (aV S bad).2.fr).1.lT ((aV S bad).2.lits.length-1) (aV S bad).2.lits 0 0).1,((aV S bad).1.bH (aV S bad).2.zero (aV S bad).2.fr).2,(((aV S bad).1.bH (aV S bad).2.zero (aV S bad).2.fr).1.lT ((aV S bad).2.lits.length-1) (aV S bad).2.lits 0 0).2):=rfl;obtain⟨P,hP⟩:∃ P,aV S bad=P:=⟨_,rfl⟩;rw[hP] at hl hho hhp e hfr;obtain⟨P1,P2⟩:=P;simp only at hl hho hhp e hfr;subst e
 have hun:zG P1 (Zero S) (YI S):=by
  have k:=YK h.tr h.cl hx hs;obtain⟨a,b,c,rfl⟩:=hho.same;exact⟨k.units,k.reason,k.small,k.cls,k.uI,k.ids,k.z,k.r⟩
 have hval:P1.value=S.value:=hho.facts.2.2.2.1
 obtain⟨t1,t2⟩:=lV A.zero A.fr hun (fun v hv=>by
  obtain⟨a,b⟩:=(hA.z v).1 hv
  exact⟨b,hA.on v a⟩) fun v hv=>by rw[hval];exact Nk h.tr hv
 simp only at hl;obtain⟨Q,hQ⟩:∃ Q,P1.bH A.zero A.fr=Q:=⟨_,rfl⟩;rw[hQ] at hl t1 t2
 have jN:Q.1.level=S.level:=by
  obtain⟨⟨x,y,e⟩,_⟩:=t1;rw[e];exact hho.facts.1
 obtain⟨ls,e1,e2,e3,e4⟩:=hA.l0;have hc:A.lits.set 0 (negL (gn S.trail u))=negL (gn S.trail u) :: ls:=by rw[e1];rfl
 have hT:=yG Q.1 ((A.lits.set 0 (negL (gn S.trail u))).length-1) (A.lits.set 0 (negL (gn S.trail u))) 0 0 (by rw[hc,List.length_cons];omega) (fun _=>rfl) (fun k=>by omega) (fun j a b=>by omega) fun x BG=>by
  rw[hc] at BG;rw[jN];exact (e3 x BG).2.2.1
 rw[hl];rw[hc] at hT ⊢;obtain⟨T,hTT⟩:∃ T,Q.1.lT ((negL (gn S.trail u) :: ls).length-1) (negL (gn S.trail u) :: ls) 0 0=T:=⟨_,rfl⟩;rw[hTT] at hT ⊢
 have hcl:gn S.level (gn S.trail u/2)=S.ends.length:=by
  unfold cur at hcu;simp only[Bool.and_eq_true,beq_iff_eq] at hcu;exact hcu.2
 have hlen:=hT.perm.length_eq
 have alO:((negL (gn S.trail u) :: ls).map (·/2)).Nodup:=by
  rw[List.map_cons,List.nodup_cons];refine⟨fun hm=>?_,e2⟩;obtain⟨x,BG,ex⟩:=List.mem_map.1 hm;have:=(e3 x BG).2.2.2;rw[ex,bT,hcl] at this;omega
 have hnd:(T.1.map (·/2)).Nodup:=(hT.perm.map _).nodup_iff.2 alO
 have hin:∀ j,1≤j→j<T.1.length→gn T.1 j∈ls:=fun j a b=>by
  have h1:gn T.1 j∈negL (gn S.trail u) :: ls:=hT.perm.mem_iff.1 (aU _ _ b);rcases List.mem_cons.1 h1 with h1 | h1
  ·exfalso;have h0:gn T.1 0=negL (gn S.trail u):=hT.head;have h2:gn T.1 0/2=gn T.1 j/2:=by rw[h0,h1]
   rw[fD _ _ (by omega),fD _ _ b] at h2;have:=(List.getElem_inj (h₀:=by rw[List.length_map];omega) (h₁:=by rw[List.length_map];exact b) hnd).1 (show (T.1.map (·/2))[0]'(by rw[List.length_map];omega)=(T.1.map (·/2))[j]'(by rw[List.length_map];exact b) by rw[List.getElem_map,List.getElem_map];exact h2);omega
  ·exact h1
 have Im:Wq S Q.1:=(vW hho).trans (DN t1);rw[List.length_cons] at hlen;have hz:=hA.FV h.tr;have h20:(dD S bad).2.1.fr=(AM.none S bad).fr:=j4 0 (S.cl bad) S (AM.none S bad) 0;have h2:(dD S bad).2.1.fr.length=1:=by rw[h20];rfl
 have h3:(SM.dY (dD S bad).1.trail.length (dD S bad).1 (dD S bad).2.1 (dD S bad).2.2).2.fr=A.fr:=congrArg (fun R:SM×AM=>R.2.fr) hP
 have hne:0<A.fr.length:=by
  have h1:=yJ (dD S bad).1.trail.length (dD S bad).1 (dD S bad).2.1 (dD S bad).2.2;rw[h3] at h1;omega
 refine⟨Im,hhp.AY t1,by show 0<T.1.length;omega,fun x BG=>?_,hnd,?_,fun j a b=>?_,?_,fun a=>?_,fun a=>?_,?_,?_,?_⟩
 ·have h1:x∈negL (gn S.trail u) :: ls:=hT.perm.mem_iff.1 BG;rcases List.mem_cons.1 h1 with rfl | h1
  ·exact⟨MV (h.tr.two u hu),by rw[bT];exact h.tr.lt u hu,by rw[rR,h.tr.is u hu]⟩
  ·have h2:=e3 x h1;refine⟨?_,BF (by omega),h2.2.1⟩;obtain⟨i,hi,ei⟩:=h.tr.jS h2.2.1;have:=h.tr.two i hi;have h3:=MV this;rw[ei,Ji] at h3;exact h3
 ·show gn S.level (gn T.1 0/2)=_;rw[hT.head];show gn S.level (negL (gn S.trail u)/2)=_;rw[bT];exact hcl
 ·have h1:=e3 _ (hin j a b);refine⟨h1.2.2.1,?_⟩;have:=hT.le j a (by rw[List.length_cons];change j<T.1.length at b;omega);rw[jN] at this;exact this
 ·show T.2<_
  by_cases k:1<T.1.length
  ·have:=hT.one (by rw[List.length_cons];omega);rw[jN] at this;rw[this];exact (e3 _ (hin 1 (by omega) k)).2.2.2
  ·have:=hT.none (by rw[List.length_cons];omega);omega
 ·have:=hT.one (by rw[List.length_cons];change 1<T.1.length at a;omega);rw[jN] at this;exact this
 ·exact hT.none (by rw[List.length_cons];change T.1.length=1 at a;omega)
 ·show 0<Q.2.length;omega
 ·show Q.2.length≤_;change A.fr.length≤_ at hfr;omega
 ·show gi Q.2 0=_;rw[←hQ,Ae _ _ _ hne,←h3,sw _ _ _ _ (by omega),h20];rfl
theorem fT (S:SM) (c:List Nat) (d:Int):(S.attach c d).cls=S.cls++[(c,d)]:=by unfold SM.attach;split <;> rfl
theorem jE (S:SM) (c:List Nat) (d:Int) (r:Nat):(S.attach c d).cl r=if r=S.cls.length then c else S.cl r:=by
 unfold SM.cl;rw[fT]
 by_cases e:r=S.cls.length
 ·rw[if_pos e,e];simp[List.getD_eq_getElem?_getD]
 ·rw[if_neg e];rcases Nat.lt_or_ge r S.cls.length with h | h
  ·simp[List.getD_eq_getElem?_getD,List.getElem?_append_left h]
  ·simp[List.getD_eq_getElem?_getD,List.getElem?_eq_none (show (S.cls++[(c,d)]).length≤r by simp;omega),List.getElem?_eq_none h]
theorem ko (S:SM) (c:List Nat) (d:Int):∃ ws,S.attach c d={ S with cls:=S.cls++[(c,d)],aj:=ws }∧ws.length=S.aj.length:=by
 unfold SM.attach
 split
 ·exact⟨_,rfl,by show ((S.aj.set _ _).set _ _).length=_;rw[List.length_set,List.length_set]⟩
 ·exact⟨S.aj,rfl,rfl⟩
theorem Rj (S:SM) (c:List Nat) (d:Int) (h2:1<c.length) (h0:gn c 0<S.aj.length) (h1:gn c 1<S.aj.length) (hne:gn c 0≠gn c 1) (j:Nat) :
  gN (S.attach c d).aj j=if j=gn c 0∨j=gn c 1 then gN S.aj j++[S.cls.length] else gN S.aj j:=by
 unfold SM.attach;rw[if_pos h2];show gN ((S.aj.set (gn c 0) (gN S.aj (gn c 0)++[S.cls.length])).set (gn c 1) (gN (S.aj.set (gn c 0) (gN S.aj (gn c 0)++[S.cls.length])) (gn c 1)++[S.cls.length])) j=_;rw[yD (by rw[List.length_set];exact h1),yD h0,yD h0,if_neg (Ne.symm hne)]
 by_cases a:j=gn c 1
 ·subst a;simp
 ·by_cases b:j=gn c 0
  ·subst b;simp[a]
  ·simp[a,b]
theorem KQ.attach {S:SM} (h:KQ S) {c:List Nat} {d:Int} (hn:(c.map (·/2)).Nodup) (hc:∀ x∈c,2≤x∧x/2<S.value.length):KQ (S.attach c d):=by
 have hv:(S.attach c d).value=S.value:=by obtain⟨ws,e,_⟩:=ko S c d;rw[e]
 have hl:(S.attach c d).cls.length=S.cls.length+1:=by rw[fT];simp
 refine⟨fun r hr=>?_,fun r hr x hx=>?_⟩
 ·rw[jE];split
  ·exact hn
  ·exact h.nd r (by omega)
 ·rw[jE] at hx;rw[hv];split at hx
  ·exact hc x hx
  ·exact h.two r (by omega) x hx
theorem P8.attach {S:SM} (h:P8 S) {c:List Nat} {d:Int} (h0:1<c.length→gn c 0<S.aj.length∧gn c 1<S.aj.length∧gn c 0≠gn c 1):P8 (S.attach c d):=by
 have hl:(S.attach c d).cls.length=S.cls.length+1:=by rw[fT];simp
 have hno:∀ j,S.cls.length∉gN S.aj j:=fun j hm=>by have:=((h.iff j _).1 hm).1;omega
 by_cases h2:1<c.length
 ·obtain⟨a,b,e⟩:=h0 h2;have hrow:=Rj S c d h2 a b e;refine⟨fun j=>?_,fun j r=>?_⟩
  ·rw[hrow]
   split
   ·rw[List.nodup_append];exact⟨h.nd j,by simp,fun x hx y hy k=>hno j (by rw[List.mem_singleton.1 hy] at k;rw[←k];exact hx)⟩
   ·exact h.nd j
  ·rw[hrow,hl,jE]
   by_cases k:r=S.cls.length
   ·subst k;rw[if_pos rfl]
    split
    ·rename_i hh;exact⟨fun _=>⟨by omega,by omega,hh⟩,fun _=>by simp⟩
    ·rename_i hh;exact⟨fun hm=>absurd hm (hno j),fun hm=>absurd hm.2.2 hh⟩
   ·rw[if_neg k]
    have:(r∈if j=gn c 0∨j=gn c 1 then gN S.aj j++[S.cls.length] else gN S.aj j)↔r∈gN S.aj j:=by
     split
     ·simp[k]
     ·rfl
    rw[this,h.iff]
    constructor <;> rintro⟨x,y⟩ <;> exact⟨by omega,y⟩
 ·have hw:(S.attach c d).aj=S.aj:=by unfold SM.attach;rw[if_neg h2]
  refine⟨by rw[hw];exact h.nd,fun j r=>?_⟩;rw[hw,hl,jE,h.iff]
  by_cases k:r=S.cls.length
  ·subst k;rw[if_pos rfl]
   constructor
   ·rintro⟨x,_⟩;omega
   ·rintro⟨_,x,_⟩;omega
  ·rw[if_neg k]
   constructor <;> rintro⟨x,y⟩ <;> exact⟨by omega,y⟩
theorem FY {S:SM} (h:S.ends.Pairwise (·≤·)) {k i:Nat} (hk:k<S.ends.length) (hi:i<gn S.ends k):dM S i≤k:=by
 unfold dM;rw[←yC h hk hi];exact Nat.le_trans List.countP_le_length (by rw[List.length_take];omega)
theorem Af {S:SM} (h:S.ends.Pairwise (·≤·)) {k i:Nat} (hk:k<S.ends.length) (hi:gn S.ends k≤i):k+1≤dM S i:=by
 unfold dM
 have e:S.ends.countP (fun e=>decide (e≤i))=(S.ends.take (k+1)).countP (fun e=>decide (e≤i))+(S.ends.drop (k+1)).countP (fun e=>decide (e≤i)):=by
  rw[←List.countP_append,List.take_append_drop]
 have:(S.ends.take (k+1)).countP (fun e=>decide (e≤i))=(S.ends.take (k+1)).length:=by
  rw[List.countP_eq_length];intro a ha;obtain⟨j,hj,rfl⟩:=jO ha;rw[List.length_take] at hj;rw[lM (by omega)];have:=vT h (by omega:j≤k) hk;simp;omega
 rw[List.length_take] at this;omega
theorem fG.back {S:SM} (h:fG S) {k:Nat} (hk:k<S.ends.length):fG (S.back k):=by
 obtain⟨b1,b2,b3,_,_⟩:=j3 k h.hp.hi h.tr.sz h.tr.kY;have hT:=h.tr.back hk b2 b3;obtain⟨hs,hv,hr,_⟩:=pV k h.tr hk;have hH:=h.hp.back h.tr hk b3 b1;have hee:gn S.ends k≤S.next:=h.en _ (aU _ _ hk);have hnt:=h.ne;obtain⟨T,hTe⟩:∃ T,S.back k=T:=⟨_,rfl⟩;rw[hTe] at hT hs hv hr hH b1 b2 b3 ⊢;obtain⟨e,he⟩:∃ e,gn S.ends k=e:=⟨_,rfl⟩;rw[he] at hs hv hr hee
 have alP:∀ i,i<e→T.bF (gn S.trail i)=1:=fun i hi=>by
  have h1:=hT.is i;obtain⟨ph,va,re,hl,pl,rfl⟩:=hs;have h2:=h1 (by show i<(S.trail.take e).length;rw[List.length_take];omega);change SM.bF _ (gn (S.trail.take e) i)=1 at h2;rw[lM hi] at h2;exact h2
 obtain⟨ph,va,re,hl,pl,rfl⟩:=hs
 have key:∀ a b,TB S S.next a b→TB (SM.wBk S ph va re hl pl (S.trail.take e) (S.ends.take k) e) e a b:=fun a b hp hk2=>by
  obtain⟨i,i1,i2,i3⟩:=hk2;change i<(S.trail.take e).length at i2;change gn (S.trail.take e) i=negL a at i3;rw[lM i1] at i3;have hpr:M8 S S.next a:=⟨i,by omega,by omega,i3⟩;obtain⟨c1,c2⟩:=hp hpr;have hav:gn S.trail i/2=a/2:=by rw[i3,bT]
  have hla:gn S.level (a/2)≤k:=by
   rw[←hav,h.tr.jo i (by omega)];exact FY h.tr.mono hk (by omega)
  obtain⟨j,hj,ej⟩:=h.tr.KP c1
  have hje:j<e:=by
   apply Classical.byContradiction;intro hc;have h1:=Af h.tr.mono hk (by omega:gn S.ends k≤j);have h2:=h.tr.jo j hj;rw[ej] at h2;omega
  refine⟨by rw[←ej];exact alP j hje,c2⟩
 refine⟨hT,⟨h.cl.nd,fun r hr x hx=>⟨(h.cl.two r hr x hx).1,by rw[b3];exact (h.cl.two r hr x hx).2⟩⟩,⟨h.wa.nd,h.wa.iff⟩,hH,fun r hr h2=>?_,?_,fun x hx=>?_⟩
 ·obtain⟨a,b⟩:=h.pi r hr h2;exact⟨key _ _ a,key _ _ b⟩
 ·show e≤(S.trail.take e).length;rw[List.length_take];omega
 ·change x∈S.ends.take k at hx;show x≤e;obtain⟨j,hj,rfl⟩:=jO hx;rw[List.length_take] at hj;rw[lM (by omega),←he];exact vT h.tr.mono (by omega) hk
theorem fG.attach {S:SM} (h:fG S) {c:List Nat} {d:Int} (hn:(c.map (·/2)).Nodup) (hc:∀ x∈c,2≤x∧x/2<S.value.length)
  (hp:1<c.length→TB S S.next (gn c 0) (gn c 1)∧TB S S.next (gn c 1) (gn c 0)):fG (S.attach c d):=by
 have hne:1<c.length→gn c 0≠gn c 1:=fun k e=>by
  have:=(List.getElem_inj (h₀:=by rw[List.length_map];omega) (h₁:=by rw[List.length_map];exact k) hn).1 (show (c.map (·/2))[0]'(by rw[List.length_map];omega)=(c.map (·/2))[1]'(by rw[List.length_map];exact k) by rw[List.getElem_map,List.getElem_map,←fD _ _ (by omega),←fD _ _ k,e]);omega
 have hcl:=h.cl.attach (d:=d) hn hc;have hwa:=h.wa.attach (c:=c) (d:=d) fun k=>⟨h.qX (hc _ (aU _ _ (by omega))).2,h.qX (hc _ (aU _ _ k)).2,hne k⟩;have hac:=jE S c d;have hlen:(S.attach c d).cls.length=S.cls.length+1:=by rw[fT];simp
 obtain⟨ws,e,hwl⟩:=ko S c d;rw[e] at hcl hwa hac hlen ⊢;refine⟨h.tr.congr ⟨h.tr.sz.level,h.tr.sz.reason,h.tr.sz.phase,h.tr.sz.occurs,h.tr.sz.units,hwl.trans h.tr.sz.aj⟩ rfl rfl rfl rfl rfl (by rw[hlen];omega) (fun r hr x=>by rw[hac,if_neg (by omega)]),hcl,hwa,⟨⟨⟨h.hp.hi.hb.small,h.hp.hi.hb.vars,h.hp.hi.hb.place,h.hp.hi.hb.met,h.hp.hi.hb.hl⟩,h.hp.hi.pl,h.hp.hi.bk⟩,h.hp.nz,h.hp.all⟩,fun r hr h2=>?_,h.ne,h.en⟩;rw[hac] at h2 ⊢
 split
 ·rename_i k;rw[if_pos k] at h2;exact hp h2
 ·rename_i k;rw[if_neg k] at h2;exact h.pi r (by omega) h2
theorem fG.other {S T:SM} (h:fG S) (hs:∃ w l st,T={ S with words:=w,learned:=l,steps:=st }):fG T:=by
 obtain⟨w,l,st,rfl⟩:=hs;exact⟨h.tr.congr ⟨h.tr.sz.level,h.tr.sz.reason,h.tr.sz.phase,h.tr.sz.occurs,h.tr.sz.units,h.tr.sz.aj⟩ rfl rfl rfl rfl rfl (Nat.le_refl _) (fun _ _ _=>Iff.rfl),⟨h.cl.nd,h.cl.two⟩,⟨h.wa.nd,h.wa.iff⟩,⟨⟨⟨h.hp.hi.hb.small,h.hp.hi.hb.vars,h.hp.hi.hb.place,h.hp.hi.hb.met,h.hp.hi.hb.hl⟩,h.hp.hi.pl,h.hp.hi.bk⟩,h.hp.nz,h.hp.all⟩,h.pi,h.ne,h.en⟩
theorem fG.lS {S:SM} (h:fG S):fG S.lS:=h.LW (vW (nV S)) h.hp.lS
theorem nR.Ah {S:SM} (h:nR S) {k:Nat} (hk:k<S.ends.length) {x:Nat} (hx:S.bF x≠0) :
  (gn S.level (x/2)≤k→(S.back k).bF x=S.bF x)∧(k<gn S.level (x/2)→(S.back k).bF x=0):=by
 have hb:=pV k h hk;have hv:gi S.value (x/2)≠0:=fun e=>hx (gX.2 e);obtain⟨i,hi,e⟩:=h.all _ (BF hx) hv;have hl:=h.jo i hi;rw[e] at hl
 constructor
 ·intro hle
  have hie:i<gn S.ends k:=by
   apply Classical.byContradiction;intro hc;have:=Af h.mono hk (by omega:gn S.ends k≤i);omega
  have hn:x/2∉(S.trail.drop (gn S.ends k)).map (·/2):=fun hm=>by
   obtain⟨y,hy,e2⟩:=List.mem_map.1 hm;obtain⟨j,h1,h2,rfl⟩:=uO hy;have:=h.inj j i h2 hi (by rw[e2,e]);omega
  have h3:=hb.value (x/2);rw[if_neg hn] at h3;unfold SM.bF;rw[h3]
 ·intro hlt
  have hie:gn S.ends k≤i:=by
   apply Classical.byContradiction;intro hc;have:=FY h.mono hk (by omega:i<gn S.ends k);omega
  refine gX.2 ?_;rw[hb.value,if_pos (List.mem_map.2 ⟨_,Ct hie hi,e⟩)]
end Go.Proofs.YthbbmdnfkkffjaaGreat
