/-
  Steps name what is there, in each state that a script reaches.
-/
import Derived.Test.YthbbmdnfkkffjaaGreatYPf1
import Derived.Test.YthbbmdnfkkffjaaGreatY01
set_option maxHeartbeats 8000000
set_option maxRecDepth 100000
namespace Go.Proofs.YthbbmdnfkkffjaaGreat
open Go.Proofs.aA
open Go.Proofs.au hiding SM
theorem LaOk.none {S:SM} (h:S.last=[]):LaOk S:=⟨by rw[h];exact Nat.zero_le _,by rw[h];exact fun y hy=>by cases hy⟩
theorem KQ.nine {S:SM} (h:KQ S) (hs:S.value.length≤90000):Cl9 S:=fun r=>by
 by_cases hr:r<S.cls.length
 ·have:=h.len hr;omega
 ·unfold aA.SM.cl;rw[List.getD_eq_getElem?_getD,List.getElem?_eq_none (by omega)];exact Nat.zero_le _
theorem jk.pf {asm:List Int} {K:Nat} (ha:asm.length≤600000):∀ (f:Nat) (S:SM) (u:Nat),jk asm K S→Full S→F5 asm S.value.length→S.value.length≤90000→PfI S→S.last=[]→∀ V,SM.gI asm f S u=some V→PfI V.1∧LaOk V.1
 | 0,S,u,_,_,_,_,_,_,V,hV=>by rw[SM.gI] at hV;cases hV
 | f+1,S,u,h,hf,has,hvs,hp,hla,V,hV=>by
  obtain⟨F,_⟩:=iN h.fo;obtain⟨h1,hf1,htr,hle,hcf,hvl⟩:=h.follow hf;have hal:=KY h.fo;have hp1:=hp.follow h.fo;rw[qC] at hV;obtain⟨R,hR⟩:∃ R,S.follow=R:=⟨_,rfl⟩;rw[hR] at F h1 hf1 htr hle hcf hvl hal hp1 hV;have hla1:R.1.last=[]:=hal.kept.2.2.2.trans hla;have hc1:Cl9 R.1:=h1.fo.cl.nine (by omega)
  by_cases hr:R.2=-1
  ·rw[if_pos hr] at hV
   have hnx:R.1.next=R.1.trail.length:=by
    rcases F.out with ⟨_,k⟩ | ⟨r,k,_⟩
    ·exact k
    ·rw[hr] at k;omega
   obtain⟨T,hT⟩:∃ T,anew R.1 u=T:=⟨_,rfl⟩
   have key:jk asm K T∧T.next=T.trail.length∧iO R.1 T∧PfI T:=by
    rw[←hT];unfold anew
    by_cases UW:u≤R.1.learned.length
    ·rw[if_pos UW];obtain⟨k1,_,k3,_,_⟩:=h1.ac5;exact⟨k1,k3 hnx,F7 h1.fo 0,hp1.back h1.fo 0⟩
    ·rw[if_neg UW];exact⟨h1,hnx,iO.refl _,hp1⟩
   rw[hT] at hV;obtain⟨k1,k3,k5,kp⟩:=key;have ah6:F5 asm T.value.length:=by rw[k5.gL,hvl];exact has
   have hlaT:T.last=[]:=k5.kept.2.2.2.trans hla1;obtain⟨_,d2⟩:=jk.decide ha (asm.length-T.ends.length) T k1 k3 rfl ah6;obtain⟨D,hD⟩:∃ D,T.iV asm=D:=⟨_,rfl⟩;have hD':SM.jv asm (asm.length-T.ends.length) T=D:=hD;rw[hD'] at d2;rw[hD] at hV
   cases hb:D.2 with
   | true =>
    rw[hb,if_pos rfl] at hV;obtain⟨y1,y2,y3,y4⟩:=d2.yes hb;have Vj:=Al y3;exact jk.pf ha f D.1 _ y1 y2 (by rw[Vj.gL];exact ah6) (by rw[Vj.gL,k5.gL,hvl];exact hvs) (kp.beside y3) (Vj.kept.2.2.2.trans hlaT) V hV
   | false =>
    rw[hb,if_neg (by simp)] at hV;simp only[Option.some.injEq] at hV;subst hV;obtain⟨U,y1,y2,y3,y4⟩:=d2.no hb;have Vj:=Al y2;have hpU:=kp.beside y2;have hvU:U.value.length≤90000:=by rw[Vj.gL,k5.gL,hvl];exact hvs
    rcases y4 with ⟨l,q1,q2,q3,q4⟩ | ⟨q1,q2,q3⟩
    ·show PfI D.1∧LaOk D.1;rw[q4];have:=y1.fo.tr.len;exact refused_pf hpU (y1.fo.cl.nine hvU) (by omega) asm l
    ·show PfI D.1∧LaOk D.1;rw[q3];exact⟨⟨hpU.st,hpU.id,hpU.un⟩,LaOk.none (show (U.y8 asm).last=[] from Vj.kept.2.2.2.trans hlaT)⟩
  ·rw[if_neg hr] at hV
   obtain⟨r,hre,hall,hlit⟩:∃ r:Nat,R.2=r∧zY R.1 r∧∃ l∈R.1.cl r,gn R.1.level (l/2)=R.1.ends.length:=by
    rcases F.out with ⟨k,_⟩ | k
    ·exact absurd k hr
    ·exact k
   have hbad:=hall.bad hlit;have hrn:R.2.toNat=r:=by rw[hre];exact Int.toNat_natCast r
   rw[hrn] at hV
   have hM:(R.1.kr r).2.1=true→jk asm K (R.1.kr r).1∧Full (R.1.kr r).1∧iO R.1 (R.1.kr r).1∧PfI (R.1.kr r).1:=by
    unfold aA.SM.kr
    split
    ·intro k;cases k
    ·rename_i he
     split
     ·intro k;cases k
     ·rename_i hcl;obtain⟨l1,l2,l3,l4,l5,l6,l7,l8,l9,l10,l11⟩:=h1.learnt ha hbad he;have hent:=fun (a:Nat→Bool) (x:kP a R.1)=>Vd h1.fo (by omega) hbad x;have hvars:=fun (V:Nat→Prop) (x:VC V R.1)=>F8 h1.fo (by omega) hbad x;have Im:=(lesson h1.fo h1.ex (by omega) hbad).LW;obtain⟨lp,ln,ll⟩:=learn_pf hp1 hc1 h1.fo h1.ex (by omega) hbad;obtain⟨L,hL⟩:∃ L,R.1.learn r=L:=⟨_,rfl⟩;rw[hL] at l1 l2 l3 l4 l5 l6 l7 l8 l9 l10 l11 hent hvars Im lp ln ll ⊢;simp only
      split
      ·intro k;cases k
      ·rename_i hroom;intro _;obtain⟨s1,s2,s3,s4,s5⟩:=l1.keep L.2.2.1 l8 l10 l11 (by omega) (by rw[l2,l3];omega)
       have ah9:∀ a,kP a L.1→∃ l∈L.2.1,tr a l=true:=fun a x=>hent a (by
        obtain⟨⟨_,_,_,_,_,e⟩,_,_⟩:=Im
        rw[e] at x;exact x)
       have aeO:∀ V,VC V L.1→∀ x∈L.2.1,V (x/2):=fun V hV=>hvars V (by
        obtain⟨⟨_,_,_,_,_,e⟩,_,_⟩:=Im
        rw[e] at hV;exact hV)
       exact⟨s1,s2,(JA Im).trans (Ro l1.fo L.2.2.1 l8.hk l8.nd (fun x hx=>⟨(l8.no x hx).1,(l8.no x hx).2.1⟩) ah9 aeO l8.c0 (l1.fresh l8)),keep_pf lp.pf l1.fo L.2.1 ln ll L.2.2.2⟩
   have hN:(R.1.kr r).2.1=false→PfI (R.1.kr r).1∧LaOk (R.1.kr r).1:=by
    unfold aA.SM.kr
    split
    ·intro _;exact ended_pf hp1 hc1 r
    ·rename_i he
     split
     ·intro _;exact⟨hp1,LaOk.none hla1⟩
     ·have Im:=(lesson h1.fo h1.ex (by omega) hbad).LW;obtain⟨lp,_,_⟩:=learn_pf hp1 hc1 h1.fo h1.ex (by omega) hbad;obtain⟨L,hL⟩:∃ L,R.1.learn r=L:=⟨_,rfl⟩;rw[hL] at Im lp ⊢;simp only
      split
      ·intro _;exact⟨lp.pf,LaOk.none ((JA Im).kept.2.2.2.trans hla1)⟩
      ·intro k;cases k
   obtain⟨M,hMM⟩:∃ M,R.1.kr r=M:=⟨_,rfl⟩;rw[hMM] at hM hN hV
   cases hb:M.2.1 with
   | true =>
    rw[hb,if_pos rfl] at hV;obtain⟨y1,y2,y3,y4⟩:=hM hb;exact jk.pf ha f M.1 u y1 y2 (by rw[y3.gL,hvl];exact has) (by rw[y3.gL,hvl];exact hvs) y4 (y3.kept.2.2.2.trans hla1) V hV
   | false =>
    rw[hb,if_neg (by simp)] at hV;simp only[Option.some.injEq] at hV;subst hV;exact hN hb
theorem begin_pf {S:SM} (h:PfI S) (i:Nat):PfI (S.begin_ i).1:=by
 have hd:Nm S.steps.length (i:Int):=fun k=>by omega
 have ha:=h.attach (S.begins i).1 hd;unfold aA.SM.begin_
 split
 ·exact ha
 ·split
  ·exact⟨ha.st,ha.id,ha.un⟩
  ·exact ha
theorem begin_last (S:SM) (i:Nat):(S.begin_ i).1.last=S.last:=by
 obtain⟨ws,e,_⟩:=ko S (S.begins i).1 i;unfold aA.SM.begin_
 split
 ·rw[e]
 ·split
  ·show (S.attach (S.begins i).1 i).last=_;rw[e]
  ·rw[e]
theorem Ze.start_pf {K:Nat} (hk:K<100000):∀ (f:Nat) (S:SM),f=S.given.length-S.fresh→Ze K S→fG S→(F3 S∨Dead S)→S.value.length≤90000→PfI S→S.last=[]→PfI (SM.lJ f S).1∧LaOk (SM.lJ f S).1∧((SM.lJ f S).2=true→(SM.lJ f S).1.last=[])
 | 0,S,_,_,_,_,_,hp,hl=>by rw[SM.lJ];exact⟨hp,LaOk.none hl,fun _=>hl⟩
 | f+1,S,hf,h,hF,hu,hvs,hp,hl=>by
  have hi:S.fresh<S.given.length:=by omega
  have hb:=h.aeQ hF hu hi hk;have hbp:=begin_pf hp S.fresh;have hbl:=begin_last S S.fresh;rw[Aa];have hst:started S=if (S.begin_ S.fresh).2=-1 then (S.begin_ S.fresh).1.follow else S.begin_ S.fresh:=rfl
  obtain⟨R,hR⟩:∃ R,S.begin_ S.fresh=R:=⟨_,rfl⟩;rw[hR] at hb hst hbp hbl;have hRl:R.1.last=[]:=hbl.trans hl;have hRv:R.1.value.length≤90000:=by rw[hb.al.gL];exact hvs
  by_cases h1:R.2=-1
  ·rw[if_pos h1] at hst;obtain⟨y1,y2,y3⟩:=hb.yes h1;have hfe:=ac7 y2;obtain⟨F,_⟩:=iN y2;have hpp:=hbp.follow y2;rw[hst];obtain⟨P,hP⟩:∃ P,R.1.follow=P:=⟨_,rfl⟩;rw[hP] at hfe F hpp ⊢;have hal:=hb.al.trans hfe.al;have hfr:P.1.fresh=S.fresh:=by rw[hfe.fresh,hb.fresh]
   have hPl:P.1.last=[]:=hfe.told.2.2.trans hRl;have hPv:P.1.value.length≤90000:=by rw[hfe.al.gL];exact hRv
   by_cases h2:P.2=-1
   ·rw[if_pos h2];have z1:Ze K { P.1 with fresh:=P.1.fresh+1 }:=y1.fol hfe.plus;have z2:F3 { P.1 with fresh:=P.1.fresh+1 }:=(show F3 P.1 from y3.fol hfe);have hfo:fG { P.1 with fresh:=P.1.fresh+1 }:=F.fo.fresh (P.1.fresh+1);exact Ze.start_pf hk f { P.1 with fresh:=P.1.fresh+1 } (by show f=P.1.given.length-(P.1.fresh+1);rw[hal.same.1,hfr];omega) z1 hfo (.inl z2) hPv ⟨hpp.st,hpp.id,hpp.un⟩ hPl
   ·rw[if_neg h2];obtain⟨a,b⟩:=ended_pf hpp (F.fo.cl.nine hPv) P.2.toNat
    exact⟨a,b,fun k=>by cases k⟩
  ·rw[if_neg h1] at hst;rw[hst,if_neg h1];obtain⟨n1,n2,n3,n4,n5⟩:=hb.no h1;obtain⟨a,b⟩:=ended_pf hbp ((show KQ R.1 from⟨n4.cl.nd,n4.cl.two⟩).nine hRv) R.2.toNat
   exact⟨a,b,fun k=>by cases k⟩
theorem gi_snocU (l:List Int) (v:Nat):gi (l++[-1]) v=gi l v∨gi (l++[-1]) v=-1:=by
 unfold gi;rw[List.getD_eq_getElem?_getD,List.getD_eq_getElem?_getD]
 by_cases h:v<l.length
 ·left;rw[List.getElem?_append_left h]
 ·by_cases h2:v=l.length
  ·right;subst h2;simp
  ·left;rw[List.getElem?_eq_none (by simp;omega),List.getElem?_eq_none (by omega)]
theorem PfI.put {S:SM} (h:PfI S) (v:Nat):PfI (S.put v)∧(S.put v).last=S.last∧(S.put v).steps=S.steps:=by
 have key:∀ (f:Nat) (T:SM) (v i:Nat),dQ T (SM.ji f T v i):=fun f=>by
  induction f with
  | zero=>intro T v i;rw[SM.ji];exact⟨_,_,_,rfl⟩
  | succ f ih =>
   intro T v i;rw[SM.ji]
   split
   ·exact dQ.trans (⟨_,_,_,rfl⟩:dQ T (T.lay i _)) (ih _ _ _)
   ·exact⟨_,_,_,rfl⟩
 have hh:dQ S (S.put v):=by
  unfold aA.SM.put
  split
  ·exact dQ.trans (⟨_,_,_,rfl⟩:dQ S { S with hl:=S.hl++[v] }) (key _ _ _ _)
  ·exact dQ.refl S
 obtain⟨a,b,c,e⟩:=hh.same;exact⟨h.honly hh,by rw[e],by rw[e]⟩
structure PfZ (S:SM):Prop where
 pf:PfI S
 la:LaOk S
theorem PfZ.more {S:SM} (h:PfZ S):PfZ S.more:=by
 unfold aA.SM.more;simp only
 have h1:PfI { S with value:=S.value++[0],level:=S.level++[0],reason:=S.reason++[-1],phase:=S.phase++[false],occurs:=S.occurs++[false],aj:=S.aj++[[],[]],units:=S.units++[-1],place:=S.place++[0],met:=S.met++[0] } :=
  ⟨h.pf.st,h.pf.id,fun v=>by
   show Nm S.steps.length (gi (S.units++[-1]) v);rcases gi_snocU S.units v with e | e
   ·rw[e];exact h.pf.un v
   ·rw[e];intro k;omega⟩
 split
 ·exact⟨h1,⟨h.la.len,h.la.nm⟩⟩
 ·obtain⟨a,b,c⟩:=h1.put S.value.length;refine⟨a,⟨by rw[b];exact h.la.len,by rw[b,c];exact h.la.nm⟩⟩
theorem PfZ.jZ:∀ (f:Nat) (S:SM),PfZ S→PfZ (SM.jZ f S)
 | 0,_,h=>h
 | f+1,S,h=>PfZ.jZ f S.more h.more
theorem PfZ.grow {S:SM} (h:PfZ S) (v:Nat):PfZ (S.grow v):=PfZ.jZ _ _ h
theorem PfZ.gP:∀ (l:List Int) (S:SM),PfZ S→PfZ (SM.gP S l)
 | [],_,h=>h
 | x :: r,S,h=>by
  rw[mY];have h1:=h.grow (aJ x/2);exact PfZ.gP r _ ⟨⟨h1.pf.st,h1.pf.id,h1.pf.un⟩,⟨h1.la.len,h1.la.nm⟩⟩
theorem PfZ.add {S:SM} (h:PfZ S) (l:List Int):PfZ (S.add l).1:=by
 unfold aA.SM.add
 split
 ·exact h
 ·exact PfZ.gP l _ ⟨⟨h.pf.st,h.pf.id,h.pf.un⟩,⟨h.la.len,h.la.nm⟩⟩
theorem PfZ.gq:∀ (l:List Int) (S:SM),PfZ S→PfZ (YthbbmdnfkkffjaaGreat.gq S l)
 | [],_,h=>h
 | x :: r,S,h=>by
  have e1:YthbbmdnfkkffjaaGreat.gq S (x :: r)=YthbbmdnfkkffjaaGreat.gq (S.grow (aJ x/2)) r:=by unfold YthbbmdnfkkffjaaGreat.gq;rw[List.foldl_cons]
  rw[e1];exact PfZ.gq r _ (h.grow _)
theorem PfZ.new (m c:Int):PfZ (aA.SM.new m c):=by
 rw[Vr];refine PfZ.grow ⟨⟨fun x hx=>(by cases hx),fun r=>?_,fun v=>?_⟩,LaOk.none rfl⟩ 0
 ·intro k;exact absurd k (by show ¬ (([]:List (List Nat×Int)).getD r ([],0)).2< -1;simp)
 ·intro k;exact absurd k (by show ¬ (([]:List Int).getD v 0)< -1;simp)
theorem PfZ.solve {K:Nat} {S:SM} (hz:PfZ S) (h:Zs K S) (hk:K<100000) {asm:List Int} (ha:asm.length≤600000) (has:∀ a∈asm,0<a.natAbs∧a.natAbs≤65536):PfZ (S.solve asm).1:=by
 obtain⟨_,g2,g3,g4⟩:=h.gq asm S (fun x hx=>(has x hx).2);have hzA:=hz.gq asm;obtain⟨A,hA⟩:∃ A,YthbbmdnfkkffjaaGreat.gq S asm=A:=⟨_,rfl⟩;rw[hA] at g2 g3 g4 hzA;obtain⟨w1,w2,w3⟩:=g2.amd
 have hrs:S.reset asm=nx (je A) 0:=by
  rw[Nr,hA,JB (by show A.ends.length≤0;rw[g2.ze.e0];exact Nat.le_refl _)];rfl
 have t6:∀ x∈asm,x.natAbs<(nx (je A) 0).value.length:=g4;have t8:(nx (je A) 0).value.length≤90000:=by have:=g2.vs;show A.value.length≤_;omega
 have hp0:PfI (nx (je A) 0):=⟨hzA.pf.st,hzA.pf.id,hzA.pf.un⟩;have hl0:(nx (je A) 0).last=[]:=rfl;have t7:(nx (je A) 0).learned=[]:=rfl;obtain⟨Z,hZ⟩:∃ Z,nx (je A) 0=Z:=⟨_,rfl⟩;rw[hZ] at w1 w2 w3 hrs t6 t7 t8 hp0 hl0;have hfe:=ac7 w2;obtain⟨F,_⟩:=iN w2;have hpR:=hp0.follow w2;rw[solve_eq,hrs];obtain⟨R,hR⟩:∃ R,Z.follow=R:=⟨_,rfl⟩;rw[hR] at hfe F hpR ⊢;have zR:=w1.fol hfe;have uR:F3 R.1∨Dead R.1:=w3.elim (fun k=>.inl (k.fol hfe)) fun k=>.inr (k.fol hfe);have hRl:R.1.last=[]:=hfe.told.2.2.trans hl0;have hRv:R.1.value.length≤90000:=by rw[hfe.al.gL];exact t8
 by_cases hr:R.2=-1
 ·rw[if_pos hr];obtain⟨_,p2⟩:=Ze.start hk (R.1.given.length-R.1.fresh) R.1 rfl zR F.fo uR;obtain⟨q1,q2,q3⟩:=Ze.start_pf hk (R.1.given.length-R.1.fresh) R.1 rfl zR F.fo uR hRv hpR hRl;have hst:R.1.start=SM.lJ (R.1.given.length-R.1.fresh) R.1:=rfl;rw[←hst] at p2 q1 q2 q3;obtain⟨U,hU⟩:∃ U,R.1.start=U:=⟨_,rfl⟩;rw[hU] at p2 q1 q2 q3 ⊢
  cases hb:U.2 with
  | true =>
   rw[if_pos rfl];obtain⟨y1,y2,y3,y4,y5,y6,y7⟩:=p2.yes hb;obtain⟨f1,f2,f3⟩:=y1.rest;obtain⟨_,d2,_⟩:=hfe.al.rest;obtain⟨z1,z2⟩:=y2.sei y3 y4 (f2.trans (d2.trans t7)) asm;have Vs:F5 asm U.1.value.length:=fun x hx=>⟨(has x hx).1,(has x hx).2,by rw[y1.gL,hfe.al.gL];exact t6 x hx⟩
   have hms:meas U.1 64<SM.qI U.1 asm:=by
    unfold meas SM.qI;exact abP _ _ _ _ _ (by omega) (by omega)
   obtain⟨_,V,s2',s3'⟩:=jk.search ha (SM.qI U.1 asm) U.1 64 z1 z2 Vs (by omega) (by omega) hms;obtain⟨u1,u2⟩:=jk.pf ha (SM.qI U.1 asm) U.1 64 z1 z2 Vs (by rw[y1.gL];exact hRv) q1 (q3 hb) V s2';rw[s2'];simp only[Option.getD_some];have hse:=s3'.se;have hpb:=u1.back hse.fo 0;refine⟨hpb,?_⟩;obtain⟨_,_,_,_,ph,va,re,hl,pl,tr,en,nx,e⟩:=j3 0 hse.fo.hp.hi hse.fo.tr.sz hse.fo.tr.kY;rw[e];exact⟨u2.len,u2.nm⟩
  | false =>
   rw[if_neg (by simp)];exact⟨q1,q2⟩
 ·rw[if_neg hr];obtain⟨a,b⟩:=ended_pf hpR (F.fo.cl.nine hRv) R.2.toNat
  exact⟨a,b⟩
theorem PfZ.fU {S:SM} (h:PfZ S) (xs:List Int):PfZ (YthbbmdnfkkffjaaGreat.fU S xs).1:=by
 unfold YthbbmdnfkkffjaaGreat.fU
 split
 ·split
  ·exact h.add _
  ·exact h.add _
 ·exact h
theorem PfZ.bK {K:Nat} {S:SM} (hz:PfZ S) (h:Zs K S) (hk:K<100000) {xs:List Int} (hl:xs.length≤600000):PfZ (YthbbmdnfkkffjaaGreat.bK S xs).1:=by
 unfold YthbbmdnfkkffjaaGreat.bK
 split
 ·rename_i ha;exact hz.solve h hk hl fun a hm=>by have:=bD.1 (List.all_eq_true.1 ha a hm);omega
 ·exact hz
theorem PfZ.nd {K:Nat} {S:SM} (hz:PfZ S) (h:Zs K S):ae4 S S.last :=
 ⟨by have:=h.ze.ex.uI;have:=h.ze.ex.words;have:=h.ze.ex.wm;have:=h.ze.ex.mo;have:=h.vs;omega,fun x hx=>hz.pf.st x hx,⟨hz.la.len,hz.la.nm⟩⟩
end Go.Proofs.YthbbmdnfkkffjaaGreat
