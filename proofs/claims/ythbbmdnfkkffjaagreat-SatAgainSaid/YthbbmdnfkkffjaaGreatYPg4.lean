/-
  The same Solve asked again tells a verdict, where it told one.
-/
import Derived.Test.YthbbmdnfkkffjaaGreatYPg3
import Derived.Test.YthbbmdnfkkffjaaGreatY01
set_option maxHeartbeats 8000000
set_option maxRecDepth 100000
namespace Go.Proofs.YthbbmdnfkkffjaaGreat
open Go.Proofs.aA
open Go.Proofs.au hiding SM
theorem solve_eq (S:SM) (asm:List Int):S.solve asm=if (S.reset asm).follow.2=-1 then (if (S.reset asm).follow.1.start.2=true then ((((SM.gI asm (SM.qI (S.reset asm).follow.1.start.1 asm) (S.reset asm).follow.1.start.1 64).getD ((S.reset asm).follow.1.start.1,0)).1.back 0),((SM.gI asm (SM.qI (S.reset asm).follow.1.start.1 asm) (S.reset asm).follow.1.start.1 64).getD ((S.reset asm).follow.1.start.1,0)).1.told,((SM.gI asm (SM.qI (S.reset asm).follow.1.start.1 asm) (S.reset asm).follow.1.start.1 64).getD ((S.reset asm).follow.1.start.1,0)).2) else ((S.reset asm).follow.1.start.1,(S.reset asm).follow.1.start.1.told,0)) else ((S.reset asm).follow.1.ended (S.reset asm).follow.2.toNat,2,0):=rfl
theorem Zs.lead {K:Nat} {S:SM} (h:Zs K S) (hk:K<100000) {asm:List Int} (ha:asm.length≤600000) (has:∀ a∈asm,0<a.natAbs∧a.natAbs≤65536) (h0:(S.solve asm).2.2=0):Lead asm (S.solve asm).1:=by
 obtain⟨_,g2,g3,g4⟩:=h.gq asm S (fun x hx=>(has x hx).2);obtain⟨A,hA⟩:∃ A,YthbbmdnfkkffjaaGreat.gq S asm=A:=⟨_,rfl⟩;rw[hA] at g2 g3 g4;obtain⟨w1,w2,w3⟩:=g2.amd
 have hrs:S.reset asm=nx (je A) 0:=by
  rw[Nr,hA,JB (by show A.ends.length≤0;rw[g2.ze.e0];exact Nat.le_refl _)];rfl
 have t6:∀ x∈asm,x.natAbs<(nx (je A) 0).value.length:=g4;obtain⟨Z,hZ⟩:∃ Z,nx (je A) 0=Z:=⟨_,rfl⟩;have t7:(nx (je A) 0).learned=[]:=rfl;rw[hZ] at w1 w2 w3 hrs t6 t7;have hfe:=ac7 w2;obtain⟨F,_⟩:=iN w2;rw[solve_eq,hrs] at h0 ⊢;obtain⟨R,hR⟩:∃ R,Z.follow=R:=⟨_,rfl⟩;rw[hR] at hfe F h0 ⊢;have zR:=w1.fol hfe;have uR:F3 R.1∨Dead R.1:=w3.elim (fun k=>.inl (k.fol hfe)) fun k=>.inr (k.fol hfe)
 by_cases hr:R.2=-1
 ·rw[if_pos hr] at h0 ⊢;obtain⟨_,p2⟩:=Ze.start hk (R.1.given.length-R.1.fresh) R.1 rfl zR F.fo uR;have pb:=Ze.start_bad hk (R.1.given.length-R.1.fresh) R.1 rfl zR F.fo uR;have hst:R.1.start=SM.lJ (R.1.given.length-R.1.fresh) R.1:=rfl;rw[←hst] at p2 pb;obtain⟨U,hU⟩:∃ U,R.1.start=U:=⟨_,rfl⟩;rw[hU] at p2 pb h0 ⊢
  cases hb:U.2 with
  | true =>
   rw[hb,if_pos rfl] at h0;rw[if_pos rfl];obtain⟨y1,y2,y3,y4,y5,y6,y7⟩:=p2.yes hb;obtain⟨f1,f2,f3⟩:=y1.rest;obtain⟨_,d2,_⟩:=hfe.al.rest;obtain⟨z1,z2⟩:=y2.sei y3 y4 (f2.trans (d2.trans t7)) asm;have Vs:F5 asm U.1.value.length:=fun x hx=>⟨(has x hx).1,(has x hx).2,by rw[y1.gL,hfe.al.gL];exact t6 x hx⟩
   have hms:meas U.1 64<SM.qI U.1 asm:=by
    unfold meas SM.qI;exact abP _ _ _ _ _ (by omega) (by omega)
   obtain⟨_,V,s2',_⟩:=jk.search ha (SM.qI U.1 asm) U.1 64 z1 z2 Vs (by omega) (by omega) hms;have hl:=jk.left ha (SM.qI U.1 asm) U.1 64 z1 z2 Vs y5 V s2';rw[s2'] at h0 ⊢;simp only[Option.getD_some] at h0 ⊢;exact (hl h0).lead
  | false =>
   rw[if_neg (by simp)];exact .bad (pb hb)
 ·rw[if_neg hr]
  obtain⟨r,hre,hall,_⟩:∃ r:Nat,R.2=r∧zY R.1 r∧∃ l∈R.1.cl r,gn R.1.level (l/2)=R.1.ends.length:=by
   rcases F.out with ⟨k,_⟩ | k
   ·exact absurd k hr
   ·exact k
  have hrn:R.2.toNat=r:=by rw[hre];exact Int.toNat_natCast r
  rw[hrn];obtain⟨u,st,la,e⟩:=zR.ended_same (F.fo.nx0 zR.e0) uR hall.1 hall.2.2;show Lead asm (R.1.ended r);rw[e];exact .bad (BadC.same (.inl ⟨r,hall⟩))
theorem growAll_same:∀ (l:List Int) (S:SM),(∀ x∈l,x.natAbs<S.value.length)→YthbbmdnfkkffjaaGreat.gq S l=S
 | [],_,_=>rfl
 | x :: r,S,h=>by
  have e:S.grow x.natAbs=S:=by
   unfold SM.grow;have:x.natAbs+1-S.value.length=0:=by have:=h x (by simp);omega
   rw[this];rfl
  have e1:YthbbmdnfkkffjaaGreat.gq S (x :: r)=YthbbmdnfkkffjaaGreat.gq (S.grow x.natAbs) r:=by unfold YthbbmdnfkkffjaaGreat.gq;rw[List.foldl_cons,dU]
  rw[e1,e];exact growAll_same r S fun y hy=>h y (by simp[hy])
theorem Lead.solve {K:Nat} {T:SM} {asm:List Int} (h:Lead asm T) (hz:Zs K T) (hk:K<100000) (ha:asm.length≤600000) (has:∀ a∈asm,0<a.natAbs∧a.natAbs≤65536) (hav:∀ x∈asm,x.natAbs<T.value.length):(T.solve asm).2.2=0:=by
 obtain⟨w1,w2,w3⟩:=hz.amd
 have hrs:T.reset asm=nx (je T) 0:=by
  rw[Nr,growAll_same asm T hav,JB (by show T.ends.length≤0;rw[hz.ze.e0];exact Nat.le_refl _)];rfl
 have hfe:=ac7 w2;obtain⟨F,_⟩:=iN w2;rw[solve_eq,hrs]
 cases h with
 | bad hb =>
  rcases hb with ⟨r,q1,q2,q3⟩ | hd
  ·have ht:=w2.tells (r:=r) q1 q2 q3;rw[if_neg ht]
  ·have hd2:Dead (nx (je T) 0).follow.1:=Dead.fol (S:=nx (je T) 0) hd hfe;have hs:=hd2.start
   by_cases hr:(nx (je T) 0).follow.2=-1
   ·rw[if_pos hr,hs,if_neg (by simp)]
   ·rw[if_neg hr]
 | way G k g a w fr =>
  have hF0:Full (nx (je T) 0):=fun e hx=>by
   have:(nx (je T) 0).ends=[]:=hz.ze.e0;rw[this] at hx;cases hx
  have g0:Guide G (nx (je T) 0):=g.perm rfl fun r=>List.Perm.refl _;obtain⟨g2,a2,o1,o2,o3,o4,o5,o6⟩:=Agr.follow w2 hF0 g0 a;have hen:(nx (je T) 0).ends=[]:=hz.ze.e0;have zR:=w1.fol hfe
  have hfr:(nx (je T) 0).follow.1.fresh=(nx (je T) 0).follow.1.given.length:=by
   rw[hfe.fresh,hfe.al.same.1];exact fr
  have uR:F3 (nx (je T) 0).follow.1:=by
   rcases w3 with q | q
   ·exact q.fol hfe
   ·exact absurd (show T.fresh<T.given.length from q.1) (by omega)
  have hlr:(nx (je T) 0).follow.1.learned=[]:=hfe.al.rest.2.1;obtain⟨z1,z2⟩:=zR.sei F.fo uR hlr asm
  have hkv:∀ v,gi T.value v≠0→gi (nx (je T) 0).follow.1.value v≠0:=fun v hv=>by
   have:=(F.fwd.keep v (show gi (nx (nx (je T) 0) (nx (je T) 0).follow.1.next).value v≠0 from hv)).1;rw[this];exact hv
  have hvl:(nx (je T) 0).follow.1.value.length=T.value.length:=hfe.al.gL;have st:Std G T (nx (je T) 0).follow.1 k asm.length:=⟨g2,a2,o6,o5,o3,hvl,hkv,.inl (by rw[o4,hen];exact Nat.zero_le _)⟩;rw[if_pos o1]
  have hss:(nx (je T) 0).follow.1.start=((nx (je T) 0).follow.1,true):=by
   have e:(nx (je T) 0).follow.1.start=SM.lJ ((nx (je T) 0).follow.1.given.length-(nx (je T) 0).follow.1.fresh) (nx (je T) 0).follow.1:=rfl;rw[e,hfr,Nat.sub_self,SM.lJ]
  rw[hss,if_pos rfl];obtain⟨R,hR⟩:∃ R,(nx (je T) 0).follow.1=R:=⟨_,rfl⟩;rw[hR] at z1 z2 st hvl hlr ⊢;have hasR:F5 asm R.value.length:=fun x hx=>⟨(has x hx).1,(has x hx).2,by rw[hvl];exact hav x hx⟩
  have hms:meas R 64<SM.qI R asm:=by
   unfold meas SM.qI;exact abP _ _ _ _ _ (by omega) (by omega)
  obtain⟨V,v1,v2⟩:=Std.search ha w (SM.qI R asm) R 64 z1 z2 hasR st hlr (by omega) hms;simp only;rw[v1];simp only[Option.getD_some];exact v2
end Go.Proofs.YthbbmdnfkkffjaaGreat
