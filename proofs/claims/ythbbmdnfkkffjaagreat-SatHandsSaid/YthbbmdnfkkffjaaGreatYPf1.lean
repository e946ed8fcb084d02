/-
  Each step names what is there: the proof's own parts.
-/
import Derived.Test.YthbbmdnfkkffjaaGreatYPgS
import Derived.Test.YthbbmdnfkkffjaaGreatY38
import Derived.Test.YthbbmdnfkkffjaaGreatY01
set_option maxHeartbeats 8000000
set_option maxRecDepth 100000
namespace Go.Proofs.YthbbmdnfkkffjaaGreat
open Go.Proofs.aA
open Go.Proofs.au hiding SM
def Nm (n:Nat) (y:Int):Prop:=y< -1→(-2-y).toNat<n
theorem Nm.mono {n m:Nat} {y:Int} (h:Nm n y) (k:n≤m):Nm m y:=fun e=>Nat.lt_of_lt_of_le (h e) k
def AllNm (n:Nat) (l:List Int):Prop:=∀ y∈l,Nm n y
theorem AllNm.mono {n m:Nat} {l:List Int} (h:AllNm n l) (k:n≤m):AllNm m l:=fun y hy=>(h y hy).mono k
theorem AllNm.snoc {n:Nat} {l:List Int} {y:Int} (h:AllNm n l) (k:Nm n y):AllNm n (l++[y]):=fun z hz=>by
 rcases List.mem_append.1 hz with m | m
 ·exact h z m
 ·rw[List.mem_singleton] at m;subst m;exact k
structure PfI (S:SM):Prop where
 st:∀ x∈S.steps,x.length≤1000000∧AllNm S.steps.length x
 id:∀ r,Nm S.steps.length (S.id r)
 un:∀ v,Nm S.steps.length (gi S.units v)
theorem PfI.same {S T:SM} (h:PfI S) (e1:T.steps=S.steps) (e2:∀ r,T.id r=S.id r) (e3:T.units=S.units):PfI T :=
 ⟨by rw[e1];exact h.st,fun r=>by rw[e1,e2];exact h.id r,fun v=>by rw[e1,e3];exact h.un v⟩
theorem PfI.honly {S T:SM} (h:PfI S) (e:dQ S T):PfI T:=by
 obtain⟨a,b,c,rfl⟩:=e.same;exact⟨h.st,h.id,h.un⟩
theorem PfI.beside {S T:SM} (h:PfI S) (e:Beside S T):PfI T:=by
 obtain⟨a,b,c,va,le,re,t,en,rfl⟩:=e.same;exact⟨h.st,h.id,h.un⟩
theorem id_congr {S T:SM} (e:T.cls=S.cls) (r:Nat):T.id r=S.id r:=by unfold aA.SM.id;rw[e]
structure PfT (S T:SM):Prop where
 pf:PfI T
 le:S.steps.length≤T.steps.length
 cls:T.cls=S.cls
theorem PfT.trans {S T U:SM} (h:PfT S T) (k:PfT T U):PfT S U:=⟨k.pf,Nat.le_trans h.le k.le,k.cls.trans h.cls⟩
theorem step_pf {S:SM} (h:PfI S) {fr:List Int} (hf:AllNm S.steps.length fr) (hl:fr.length≤1000000):PfT S (S.step fr).1∧Nm (S.step fr).1.steps.length (S.step fr).2:=by
 unfold aA.SM.step
 split
 ·rename_i e;exact⟨⟨h,Nat.le_refl _,rfl⟩,hf _ (by rw[dh _ _ (by omega)];exact List.getElem_mem _)⟩
 ·have e:(S.steps++[fr]).length=S.steps.length+1:=by simp
  refine⟨⟨⟨fun x hx=>?_,fun r=>?_,fun v=>?_⟩,by show _≤(S.steps++[fr]).length;omega,rfl⟩,fun _=>?_⟩
  ·have hx2:x∈S.steps++[fr]:=hx;show _∧AllNm (S.steps++[fr]).length x;rcases List.mem_append.1 hx2 with m | m
   ·exact⟨(h.st x m).1,(h.st x m).2.mono (by omega)⟩
   ·rw[List.mem_singleton] at m;subst m;exact⟨hl,hf.mono (by omega)⟩
  ·exact (h.id r).mono (by show _≤(S.steps++[fr]).length;omega)
  ·exact (h.un v).mono (by show _≤(S.steps++[fr]).length;omega)
  ·show _<(S.steps++[fr]).length;omega
def Cl9 (S:SM):Prop:=∀ r,(S.cl r).length≤100000
theorem Cl9.congr {S T:SM} (h:Cl9 S) (e:T.cls=S.cls):Cl9 T:=fun r=>by unfold aA.SM.cl;rw[e];exact h r
theorem unitsF_pf {rec:SM→Nat→SM×Int} (hrec:∀ S v,PfI S→Cl9 S→PfT S (rec S v).1∧Nm (rec S v).1.steps.length (rec S v).2):∀ (l:List Nat) (S:SM) (v:Nat) (fr:List Int),PfI S→Cl9 S→AllNm S.steps.length fr →
  PfT S (SM.iU rec S v l fr).1∧AllNm (SM.iU rec S v l fr).1.steps.length (SM.iU rec S v l fr).2∧(SM.iU rec S v l fr).2.length≤fr.length+l.length
 | [],S,v,fr,h,_,hf=>⟨⟨h,Nat.le_refl _,rfl⟩,hf,Nat.le_refl _⟩
 | l :: r,S,v,fr,h,hc,hf=>by
  rw[SM.iU]
  split
  ·obtain⟨a,b,c⟩:=unitsF_pf hrec r S v fr h hc hf;exact⟨a,b,by rw[List.length_cons];omega⟩
  ·obtain⟨p,q⟩:=hrec S (l/2) h hc;obtain⟨a,b,c⟩:=unitsF_pf hrec r (rec S (l/2)).1 v (fr++[(rec S (l/2)).2]) p.pf (hc.congr p.cls) ((hf.mono p.le).snoc q);exact⟨p.trans a,b,by rw[List.length_append,List.length_singleton] at c;rw[List.length_cons];omega⟩
theorem unitGo_pf:∀ (f:Nat) (S:SM) (v:Nat),PfI S→Cl9 S→PfT S (SM.bY f S v).1∧Nm (SM.bY f S v).1.steps.length (SM.bY f S v).2
 | 0,S,v,h,_=>⟨⟨h,Nat.le_refl _,rfl⟩,h.un v⟩
 | f+1,S,v,h,hc=>by
  rw[SM.bY]
  split
  ·simp only
   obtain⟨p1,p2,p3⟩:=unitsF_pf (unitGo_pf f) (S.cl (gi S.reason v).toNat) S v [S.id (gi S.reason v).toNat] h hc fun y hy=>by
    rw[List.mem_singleton] at hy;subst hy;exact h.id _
   obtain⟨R,hR⟩:∃ R,SM.iU (SM.bY f) S v (S.cl (gi S.reason v).toNat) [S.id (gi S.reason v).toNat]=R:=⟨_,rfl⟩;rw[hR] at p1 p2 p3 ⊢;obtain⟨q1,q2⟩:=step_pf p1.pf p2 (by have:=hc (gi S.reason v).toNat;rw[List.length_singleton] at p3;omega);obtain⟨P,hP⟩:∃ P,R.1.step R.2=P:=⟨_,rfl⟩;rw[hP] at q1 q2 ⊢;refine⟨⟨⟨q1.pf.st,q1.pf.id,fun u=>?_⟩,(p1.trans q1).le,(p1.trans q1).cls⟩,q2⟩;show Nm P.1.steps.length (gi (P.1.units.set v P.2) u)
   by_cases hv:v<P.1.units.length
   ·rw[mW hv]
    split
    ·exact q2
    ·exact q1.pf.un u
   ·rw[List.set_eq_of_length_le (by omega)];exact q1.pf.un u
  ·exact⟨⟨h,Nat.le_refl _,rfl⟩,h.un v⟩
theorem unitAll_pf:∀ (l:List Nat) (S:SM) (fr:List Int),PfI S→Cl9 S→AllNm S.steps.length fr →
  PfT S (S.bH l fr).1∧AllNm (S.bH l fr).1.steps.length (S.bH l fr).2∧(S.bH l fr).2.length=fr.length+l.length
 | [],S,fr,h,_,hf=>⟨⟨h,Nat.le_refl _,rfl⟩,hf,rfl⟩
 | v :: r,S,fr,h,hc,hf=>by
  rw[SM.bH];obtain⟨p,q⟩:=unitGo_pf S.value.length S v h hc;obtain⟨a,b,c⟩:=unitAll_pf r (S.unit v).1 (fr++[(S.unit v).2]) p.pf (hc.congr p.cls) ((hf.mono p.le).snoc q);exact⟨p.trans a,b,by rw[c,List.length_append,List.length_singleton,List.length_cons];omega⟩
theorem meetsGo_nm (but:Nat):∀ (ls:List Nat) (S:SM) (A:AM) (n:Nat),dQ S (SM.dF but S A n ls).1∧(SM.dF but S A n ls).2.1.fr=A.fr
 | [],S,A,n=>⟨dQ.refl S,rfl⟩
 | l :: r,S,A,n=>by
  rw[SM.dF]
  split
  ·exact meetsGo_nm but r S A n
  ·split
   ·obtain⟨a,b⟩:=meetsGo_nm but r (S.meet (l/2)) { A with met:=A.met.set (l/2) true,zero:=A.zero++[l/2] } n;exact⟨(nU S (l/2)).trans a,b⟩
   ·split
    ·obtain⟨a,b⟩:=meetsGo_nm but r (S.meet (l/2)) { A with met:=A.met.set (l/2) true } (n+1);exact⟨(nU S (l/2)).trans a,b⟩
    ·obtain⟨a,b⟩:=meetsGo_nm but r (S.meet (l/2)) { A with met:=A.met.set (l/2) true,lits:=A.lits++[l] } n;exact⟨(nU S (l/2)).trans a,b⟩
theorem learnGo_nm:∀ (i:Nat) (S:SM) (A:AM) (o:Nat),PfI S→AllNm S.steps.length A.fr→dQ S (SM.dY i S A o).1∧AllNm S.steps.length (SM.dY i S A o).2.fr
 | 0,S,A,o,_,hf=>⟨dQ.refl S,hf⟩
 | i+1,S,A,o,h,hf=>by
  rw[SM.dY];simp only
  split
  ·split
   ·exact⟨dQ.refl S,hf⟩
   ·obtain⟨p,q⟩:=meetsGo_nm (gn S.trail i) (S.cl (gi S.reason (gn S.trail i/2)).toNat) S { A with fr:=A.fr++[S.id (gi S.reason (gn S.trail i/2)).toNat] } 0;have hs:(S.meets { A with fr:=A.fr++[S.id (gi S.reason (gn S.trail i/2)).toNat] } (gi S.reason (gn S.trail i/2)).toNat (gn S.trail i))=SM.dF (gn S.trail i) S { A with fr:=A.fr++[S.id (gi S.reason (gn S.trail i/2)).toNat] } 0 (S.cl (gi S.reason (gn S.trail i/2)).toNat):=rfl;rw[hs];obtain⟨M,hM⟩:∃ M,SM.dF (gn S.trail i) S { A with fr:=A.fr++[S.id (gi S.reason (gn S.trail i/2)).toNat] } 0 (S.cl (gi S.reason (gn S.trail i/2)).toNat)=M:=⟨_,rfl⟩;rw[hM] at p q ⊢;have hst:M.1.steps=S.steps:=by obtain⟨a,b,c,e⟩:=p.same;rw[e]
    obtain⟨u,v⟩:=learnGo_nm i M.1 M.2.1 (o-1+M.2.2) (h.honly p) (by rw[q,hst];exact hf.snoc (h.id _));rw[hst] at v;exact⟨p.trans u,v⟩
  ·exact learnGo_nm i S A o h hf
theorem learn_pf {K:Nat} {S:SM} (h:PfI S) (hc:Cl9 S) (hF:fG S) (hx:yH K S) {bad:Nat} (he:0<S.ends.length) (hb:Bad S bad):PfT S (S.learn bad).1∧AllNm (S.learn bad).1.steps.length (S.learn bad).2.2.1∧(S.learn bad).2.2.1.length≤1000000:=by
 have hlr:=alN hF hx he hb;obtain⟨_,_,hfr⟩:=su hF he hb;have htl:=hF.tr.len;have hsm:=hF.hp.hi.hb.small;obtain⟨p,q⟩:=meetsGo_nm 0 (S.cl bad) S (AM.none S bad) 0
 have hst:(dD S bad).1.steps=S.steps:=by
  obtain⟨a,b,c,e⟩:=p.same;show (SM.dF 0 S (AM.none S bad) 0 (S.cl bad)).1.steps=_;rw[e]
 obtain⟨u,v⟩:=learnGo_nm (dD S bad).1.trail.length (dD S bad).1 (dD S bad).2.1 (dD S bad).2.2 (h.honly p) (by
  rw[hst];show AllNm _ (SM.dF 0 S (AM.none S bad) 0 (S.cl bad)).2.1.fr;rw[q];intro y hy;have hy2:y∈[S.id bad]:=hy
  rw[List.mem_singleton] at hy2;subst hy2;exact h.id _)
 have hho:dQ S (aV S bad).1:=(show dQ S (dD S bad).1 from p).trans u;have ad5:(aV S bad).1.steps=S.steps:=by obtain⟨a,b,c,e⟩:=hho.same;rw[e]
 have hcl1:(aV S bad).1.cls=S.cls:=by obtain⟨a,b,c,e⟩:=hho.same;rw[e]
 have hv:AllNm (aV S bad).1.steps.length (aV S bad).2.fr:=by rw[ad5,←hst];exact v
 obtain⟨a,b,c⟩:=unitAll_pf (aV S bad).2.zero (aV S bad).1 (aV S bad).2.fr (h.honly hho) (hc.congr hcl1) hv;have e1:(S.learn bad).1=((aV S bad).1.bH (aV S bad).2.zero (aV S bad).2.fr).1:=rfl;have e2:(S.learn bad).2.2.1=((aV S bad).1.bH (aV S bad).2.zero (aV S bad).2.fr).2:=rfl;rw[e1,e2];refine⟨⟨a.pf,by rw[←ad5];exact a.le,a.cls.trans hcl1⟩,b,?_⟩;have:=hlr.zl;omega
structure LaOk (S:SM):Prop where
 len:S.last.length≤1000000
 nm:AllNm S.steps.length S.last
theorem ended_pf {S:SM} (h:PfI S) (hc:Cl9 S) (bad:Nat):PfI (S.ended bad)∧LaOk (S.ended bad):=by
 obtain⟨a,b,c⟩:=unitAll_pf ((S.cl bad).map (·/2)) S [S.id bad] h hc fun y hy=>by
  rw[List.mem_singleton] at hy;subst hy;exact h.id _
 have hl:=hc bad;rw[List.length_map,List.length_singleton] at c;exact⟨⟨a.pf.st,a.pf.id,a.pf.un⟩,⟨by show (S.bH ((S.cl bad).map (·/2)) [S.id bad]).2.length≤_;omega,b⟩⟩
theorem guilt_nm {S:SM} (h:PfI S):∀ (i:Nat) (m:List Bool) (g fr:List Int) (zero:List Nat),AllNm S.steps.length fr→AllNm S.steps.length (S.fZ i m g fr zero).2.1∧(S.fZ i m g fr zero).2.1.length≤fr.length+i∧(S.fZ i m g fr zero).2.2.length≤zero.length+i
 | 0,m,g,fr,zero,hf=>⟨hf,Nat.le_refl _,Nat.le_refl _⟩
 | i+1,m,g,fr,zero,hf=>by
  rw[SM.fZ]
  split
  ·split
   ·obtain⟨a,b,c⟩:=guilt_nm h i m g fr (zero++[gn S.trail i/2]) hf;exact⟨a,by omega,by rw[List.length_append,List.length_singleton] at c;omega⟩
   ·split
    ·obtain⟨a,b,c⟩:=guilt_nm h i m (g++[aA.bI (gn S.trail i)]) fr zero hf;exact⟨a,by omega,by omega⟩
    ·obtain⟨a,b,c⟩:=guilt_nm h i ((S.cl (gi S.reason (gn S.trail i/2)).toNat).foldl (fun m k=>m.set (k/2) true) m) g (fr++[S.id (gi S.reason (gn S.trail i/2)).toNat]) zero (hf.snoc (h.id _));exact⟨a,by rw[List.length_append,List.length_singleton] at b;omega,by omega⟩
  ·obtain⟨a,b,c⟩:=guilt_nm h i m g fr zero hf;exact⟨a,by omega,by omega⟩
theorem refused_pf {S:SM} (h:PfI S) (hc:Cl9 S) (ht:S.trail.length≤100000) (asm:List Int) (l:Nat):PfI (S.refused asm l)∧LaOk (S.refused asm l):=by
 obtain⟨g1,g2,g3⟩:=guilt_nm h S.trail.length ((List.replicate S.value.length false).set (l/2) true) [aA.bI l] [] [] (fun y hy=>by cases hy);obtain⟨G,hG⟩:∃ G,S.fZ S.trail.length ((List.replicate S.value.length false).set (l/2) true) [aA.bI l] [] []=G:=⟨_,rfl⟩;rw[hG] at g1 g2 g3;obtain⟨a,b,c⟩:=unitAll_pf G.2.2 S G.2.1 h hc g1;have e:S.refused asm l={ (S.bH G.2.2 G.2.1).1 with core:=SM.jY G.1 [] asm,last:=(S.bH G.2.2 G.2.1).2,told:=2 }:=by rw[←hG];rfl
 rw[e];simp only[List.length_nil] at g2 g3;exact⟨⟨a.pf.st,a.pf.id,a.pf.un⟩,⟨by show (S.bH G.2.2 G.2.1).2.length≤_;omega,b⟩⟩
theorem PfI.attach {S:SM} (h:PfI S) (c:List Nat) {d:Int} (hd:Nm S.steps.length d):PfI (S.attach c d):=by
 obtain⟨ws,e,_⟩:=ko S c d;rw[e];refine⟨h.st,fun r=>?_,h.un⟩;show Nm S.steps.length ((S.cls++[(c,d)]).getD r ([],0)).2;rw[List.getD_eq_getElem?_getD]
 by_cases h1:r<S.cls.length
 ·rw[List.getElem?_append_left h1,←List.getD_eq_getElem?_getD];exact h.id r
 ·rw[List.getElem?_append_right (by omega)]
  by_cases h2:r-S.cls.length=0
  ·rw[h2];exact hd
  ·rw[List.getElem?_eq_none (by simp;omega)];intro k;exact absurd k (by decide)
theorem PfI.back {S:SM} (h:PfI S) (hF:fG S) (k:Nat):PfI (S.back k):=by
 obtain⟨_,_,_,_,ph,va,re,hl,pl,tr,en,nx,e⟩:=j3 k hF.hp.hi hF.tr.sz hF.tr.kY;rw[e];exact⟨h.st,h.id,h.un⟩
theorem keep_pf {S:SM} (h:PfI S) (hF:fG S) (c:List Nat) {fr:List Int} (hf:AllNm S.steps.length fr) (hl:fr.length≤1000000) (k:Nat):PfI (S.keep c fr k):=by
 have hb:=h.back hF k
 have hst:(S.back k).steps=S.steps:=by
  obtain⟨_,_,_,_,ph,va,re,hl,pl,tr,en,nx,e⟩:=j3 k hF.hp.hi hF.tr.sz hF.tr.kY;rw[e];rfl
 obtain⟨T,hT⟩:∃ T,({ S.back k with words:=(S.back k).words+(c.length+2),learned:=(S.back k).learned++[c.map aA.bI] }:SM)=T:=⟨_,rfl⟩;have hTp:PfI T:=by rw[←hT];exact⟨hb.st,hb.id,hb.un⟩
 have hTs:T.steps=S.steps:=by rw[←hT];exact hst
 obtain⟨p,q⟩:=step_pf hTp (fr:=fr) (by rw[hTs];exact hf) hl;have e:S.keep c fr k=if (((T.step fr).1.attach c (T.step fr).2).bX (gn c 0) (T.step fr).1.cls.length).learned.length % 128=0 then (((T.step fr).1.attach c (T.step fr).2).bX (gn c 0) (T.step fr).1.cls.length).lS else (((T.step fr).1.attach c (T.step fr).2).bX (gn c 0) (T.step fr).1.cls.length):=by rw[←hT];rfl
 have ha:=p.pf.attach c q;have hs:PfI (((T.step fr).1.attach c (T.step fr).2).bX (gn c 0) (T.step fr).1.cls.length):=⟨ha.st,ha.id,ha.un⟩;rw[e]
 split
 ·exact hs.honly (nV _)
 ·exact hs
theorem PfI.follow {S:SM} (h:PfI S) (hF:fG S):PfI S.follow.1:=by
 have hfe:=ac7 hF;exact h.same hfe.st.1 hfe.ids hfe.st.2
end Go.Proofs.YthbbmdnfkkffjaaGreat
