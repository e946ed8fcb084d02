/-
  A guided search ends with a verdict; how a search that told one ended.
-/
import Derived.Test.YthbbmdnfkkffjaaGreatYPg1
import Derived.Test.YthbbmdnfkkffjaaGreatY01
set_option maxHeartbeats 8000000
set_option maxRecDepth 100000
namespace Go.Proofs.YthbbmdnfkkffjaaGreat
open Go.Proofs.aA
open Go.Proofs.au hiding SM
theorem Std.search {G:Nat→Prop} {C:SM} {asm:List Int} {k K:Nat} (ha:asm.length≤600000) (w:Way G asm C k):∀ (f:Nat) (S:SM) (u:Nat),jk asm K S→Full S→F5 asm S.value.length→Std G C S k asm.length→S.learned=[]→2≤u→meas S u<f→∃ V,SM.gI asm f S u=some V∧V.2=0
 | 0,S,u,_,_,_,_,_,_,hm=>by omega
 | f+1,S,u,h,hf,has,st,hle0,hu2,hm=>by
  obtain⟨g2,a2,o1,o2,o3,o4,o5,o6⟩:=Agr.follow h.fo hf st.g st.a;obtain⟨h1,hf1,htr,hle,hcf,hvl⟩:=h.follow hf;have hfw:=(iN h.fo).1.fwd;rw[qC];obtain⟨R,hR⟩:∃ R,S.follow=R:=⟨_,rfl⟩;rw[hR] at g2 a2 o1 o2 o3 o4 o5 o6 h1 hf1 htr hle hcf hvl hfw ⊢;rw[if_pos o1];have hl0:R.1.learned.length=0:=by rw[hle,hle0];rfl
  have e1:anew R.1 u=R.1:=by unfold anew;rw[if_neg (by omega)]
  have e2:sG R.1 u=u:=by unfold sG;rw[if_neg (by omega)]
  rw[e1,e2];have hasR:F5 asm R.1.value.length:=by rw[hvl];exact has
  have stR:Std G C R.1 k asm.length:=⟨g2,a2,by rw[o6];exact st.l,fun r=>(o5 r).trans (st.p r),by rw[o3];exact st.ph,by rw[hvl];exact st.vl,fun v hv=>by
   have h2:=st.kv v hv
   rw[(hfw.keep v (show gi (nx S R.1.next).value v≠0 from h2)).1];exact h2,by rw[o4];exact st.le⟩
  obtain⟨d1,d2⟩:=jk.decide ha (asm.length-R.1.ends.length) R.1 h1 o2 rfl hasR;have d3:=Std.decide w (asm.length-R.1.ends.length) R.1 h1 o2 rfl stR;obtain⟨D,hD⟩:∃ D,R.1.iV asm=D:=⟨_,rfl⟩;have hD':SM.jv asm (asm.length-R.1.ends.length) R.1=D:=hD;rw[hD'] at d2 d3;rw[hD]
  cases hb:D.2 with
  | true =>
   rw[if_pos rfl];obtain⟨y1,y2,y3,y4⟩:=d2.yes hb;have e3:D.1.value.length=S.value.length:=by rw[y3.gL,hvl]
   have e4:D.1.conf=S.conf∧D.1.learned=S.learned:=by
    obtain⟨⟨_,_,_,_,_,_,_,_,e⟩,_⟩:=y3;rw[e];exact⟨hcf,hle⟩
   refine Std.search ha w f D.1 u y1 y2 (by rw[e3];exact has) (d3 hb) (by rw[e4.2];exact hle0) hu2 ?_;unfold meas at hm ⊢;rw[e3,e4.1,e4.2];have htl:=y1.fo.tr.len;rw[e3] at htl;omega
  | false =>
   rw[if_neg (by simp)];exact⟨_,rfl,rfl⟩
inductive Left (asm:List Int) (K:Nat):SM→Prop
 | sat (U:SM) (h:jk asm K U) (fr:U.fresh=U.given.length) (nx:U.next=U.trail.length) (all:∀ v,0<v→v<U.value.length→gi U.value v≠0) (ae:asm.length≤U.ends.length):Left asm K (U.y8 asm)
 | ref (U:SM) (l:Nat) (h:jk asm K U) (fr:U.fresh=U.given.length) (nx:U.next=U.trail.length) (no:U.bF l=-1) (el:l=aJ (gi asm U.ends.length)) (ae:U.ends.length<asm.length):Left asm K (U.refused asm l)
 | end_ (U:SM) (bad:Nat) (h:jk asm K U) (fr:U.fresh=U.given.length) (h0:U.ends.length=0) (hb:zY U bad):Left asm K (U.ended bad)
theorem iO.fr {S T:SM} (h:iO S T) (k:S.fresh=S.given.length):T.fresh=T.given.length:=by rw[h.same.1,h.same.2.1];exact k
theorem jk.left {asm:List Int} {K:Nat} (ha:asm.length≤600000):∀ (f:Nat) (S:SM) (u:Nat),jk asm K S→Full S→F5 asm S.value.length→S.fresh=S.given.length→∀ V,SM.gI asm f S u=some V→V.2=0→Left asm K V.1
 | 0,S,u,_,_,_,_,V,hV,_=>by rw[SM.gI] at hV;cases hV
 | f+1,S,u,h,hf,has,hfr,V,hV,h0=>by
  obtain⟨F,_⟩:=iN h.fo;obtain⟨h1,hf1,htr,hle,hcf,hvl⟩:=h.follow hf;have hal:=KY h.fo;rw[qC] at hV;obtain⟨R,hR⟩:∃ R,S.follow=R:=⟨_,rfl⟩;rw[hR] at F h1 hf1 htr hle hcf hvl hal hV;have hfr1:=hal.fr hfr
  by_cases hr:R.2=-1
  ·rw[if_pos hr] at hV
   have hnx:R.1.next=R.1.trail.length:=by
    rcases F.out with ⟨_,k⟩ | ⟨r,k,_⟩
    ·exact k
    ·rw[hr] at k;omega
   obtain⟨T,hT⟩:∃ T,anew R.1 u=T:=⟨_,rfl⟩
   have key:jk asm K T∧T.next=T.trail.length∧iO R.1 T:=by
    rw[←hT];unfold anew
    by_cases UW:u≤R.1.learned.length
    ·rw[if_pos UW];obtain⟨k1,_,k3,_,_⟩:=h1.ac5;exact⟨k1,k3 hnx,F7 h1.fo 0⟩
    ·rw[if_neg UW];exact⟨h1,hnx,iO.refl _⟩
   rw[hT] at hV;obtain⟨k1,k3,k5⟩:=key;have ah6:F5 asm T.value.length:=by rw[k5.gL,hvl];exact has
   have hfrT:=k5.fr hfr1;obtain⟨_,d2⟩:=jk.decide ha (asm.length-T.ends.length) T k1 k3 rfl ah6;obtain⟨D,hD⟩:∃ D,T.iV asm=D:=⟨_,rfl⟩;have hD':SM.jv asm (asm.length-T.ends.length) T=D:=hD;rw[hD'] at d2;rw[hD] at hV
   cases hb:D.2 with
   | true =>
    rw[hb,if_pos rfl] at hV;obtain⟨y1,y2,y3,y4⟩:=d2.yes hb;have Vj:=Al y3;exact jk.left ha f D.1 _ y1 y2 (by rw[Vj.gL];exact ah6) (Vj.fr hfrT) V hV h0
   | false =>
    rw[hb,if_neg (by simp)] at hV;simp only[Option.some.injEq] at hV;subst hV;obtain⟨U,y1,y2,y3,y4⟩:=d2.no hb;have hfrU:=(Al y2).fr hfrT;rcases y4 with ⟨l,q1,q2,q3,q4⟩ | ⟨q1,q2,q3⟩
    ·show Left asm K D.1;rw[q4];exact .ref U l y1 hfrU y3 q1 q2 q3
    ·show Left asm K D.1;rw[q3];exact .sat U y1 hfrU y3 q1 q2
  ·rw[if_neg hr] at hV
   obtain⟨r,hre,hall,hlit⟩:∃ r:Nat,R.2=r∧zY R.1 r∧∃ l∈R.1.cl r,gn R.1.level (l/2)=R.1.ends.length:=by
    rcases F.out with ⟨k,_⟩ | k
    ·exact absurd k hr
    ·exact k
   have hbad:=hall.bad hlit;have hrn:R.2.toNat=r:=by rw[hre];exact Int.toNat_natCast r
   rw[hrn] at hV
   have hM:(R.1.kr r).2.1=true→jk asm K (R.1.kr r).1∧Full (R.1.kr r).1∧iO R.1 (R.1.kr r).1:=by
    unfold SM.kr
    split
    ·intro k;cases k
    ·rename_i he
     split
     ·intro k;cases k
     ·rename_i hcl;obtain⟨l1,l2,l3,l4,l5,l6,l7,l8,l9,l10,l11⟩:=h1.learnt ha hbad he;have hent:=fun (a:Nat→Bool) (x:kP a R.1)=>Vd h1.fo (by omega) hbad x;have hvars:=fun (V:Nat→Prop) (x:VC V R.1)=>F8 h1.fo (by omega) hbad x;have Im:=(lesson h1.fo h1.ex (by omega) hbad).LW;obtain⟨L,hL⟩:∃ L,R.1.learn r=L:=⟨_,rfl⟩;rw[hL] at l1 l2 l3 l4 l5 l6 l7 l8 l9 l10 l11 hent hvars Im ⊢;simp only
      split
      ·intro k;cases k
      ·rename_i hroom;intro _;obtain⟨s1,s2,s3,s4,s5⟩:=l1.keep L.2.2.1 l8 l10 l11 (by omega) (by rw[l2,l3];omega)
       have ah9:∀ a,kP a L.1→∃ l∈L.2.1,tr a l=true:=fun a x=>hent a (by
        obtain⟨⟨_,_,_,_,_,e⟩,_,_⟩:=Im
        rw[e] at x;exact x)
       have aeO:∀ V,VC V L.1→∀ x∈L.2.1,V (x/2):=fun V hV=>hvars V (by
        obtain⟨⟨_,_,_,_,_,e⟩,_,_⟩:=Im
        rw[e] at hV;exact hV)
       exact⟨s1,s2,(JA Im).trans (Ro l1.fo L.2.2.1 l8.hk l8.nd (fun x hx=>⟨(l8.no x hx).1,(l8.no x hx).2.1⟩) ah9 aeO l8.c0 (l1.fresh l8))⟩
   have hN:(R.1.kr r).2.1=false→(R.1.kr r).2.2=0→Left asm K (R.1.kr r).1:=by
    unfold SM.kr
    split
    ·rename_i he;intro _ _;exact .end_ R.1 r h1 hfr1 he hall
    ·split
     ·intro _ k;cases k
     ·simp only
      split
      ·intro _ k;cases k
      ·intro k;cases k
   obtain⟨M,hMM⟩:∃ M,R.1.kr r=M:=⟨_,rfl⟩;rw[hMM] at hM hN hV
   cases hb:M.2.1 with
   | true =>
    rw[hb,if_pos rfl] at hV;obtain⟨y1,y2,y3⟩:=hM hb;exact jk.left ha f M.1 u y1 y2 (by rw[y3.gL,hvl];exact has) (y3.fr hfr1) V hV h0
   | false =>
    rw[hb,if_neg (by simp)] at hV;simp only[Option.some.injEq] at hV;subst hV;exact hN hb h0
def BadC (T:SM):Prop:=(∃ r,r<T.cls.length∧2≤(T.cl r).length∧∀ x∈T.cl r,T.bF x=-1)∨Dead T
theorem Ze.ended_same {K:Nat} {S:SM} (h:Ze K S) (hF:fG (nx S 0)) (hu:F3 S∨Dead S) {bad:Nat} (hb:bad<S.cls.length) (hn:∀ x∈S.cl bad,S.bF x=-1):∃ u st la,S.ended bad={ S with units:=u,steps:=st,core:=[],last:=la,told:=2 }:=by
 have hen:=(h.ended hF hu hb hn).1
 have hu2:=(lV ((S.cl bad).map (·/2)) [S.id bad] hen.un (fun v hv=>by
  obtain⟨x,hx,rfl⟩:=List.mem_map.1 hv
  exact hen.z x hx) fun v hv=>hen.rk v hv).1
 obtain⟨⟨u,st,et⟩,_,_,_⟩:=hu2;refine⟨u,st,(S.bH ((S.cl bad).map (·/2)) [S.id bad]).2,?_⟩;have e:S.ended bad={ (S.bH ((S.cl bad).map (·/2)) [S.id bad]).1 with core:=[],last:=(S.bH ((S.cl bad).map (·/2)) [S.id bad]).2,told:=2 }:=rfl;rw[e,et];rfl
theorem BadC.same {S:SM} (h:BadC S) {u:List Int} {st:List (List Int)} {la:List Int}:BadC { S with units:=u,steps:=st,core:=[],last:=la,told:=2 }:=h
theorem Ze.start_bad {K:Nat} (hk:K<100000):∀ (f:Nat) (S:SM),f=S.given.length-S.fresh→Ze K S→fG S→(F3 S∨Dead S)→(SM.lJ f S).2=false→BadC (SM.lJ f S).1
 | 0,S,_,_,_,_,hb=>by rw[SM.lJ] at hb;cases hb
 | f+1,S,hf,h,hF,hu,hb0=>by
  have hi:S.fresh<S.given.length:=by omega
  have hb:=h.aeQ hF hu hi hk;rw[Aa] at hb0 ⊢;have hst:started S=if (S.begin_ S.fresh).2=-1 then (S.begin_ S.fresh).1.follow else S.begin_ S.fresh:=rfl
  obtain⟨R,hR⟩:∃ R,S.begin_ S.fresh=R:=⟨_,rfl⟩;rw[hR] at hb hst
  by_cases h1:R.2=-1
  ·rw[if_pos h1] at hst;obtain⟨y1,y2,y3⟩:=hb.yes h1;have hfe:=ac7 y2;obtain⟨F,_⟩:=iN y2;rw[hst] at hb0 ⊢;obtain⟨P,hP⟩:∃ P,R.1.follow=P:=⟨_,rfl⟩;rw[hP] at hfe F hb0 ⊢;have hal:=hb.al.trans hfe.al;have hfr:P.1.fresh=S.fresh:=by rw[hfe.fresh,hb.fresh]
   by_cases h2:P.2=-1
   ·rw[if_pos h2] at hb0 ⊢;have z1:Ze K { P.1 with fresh:=P.1.fresh+1 }:=y1.fol hfe.plus;have z2:F3 { P.1 with fresh:=P.1.fresh+1 }:=(show F3 P.1 from y3.fol hfe);have hfo:fG { P.1 with fresh:=P.1.fresh+1 }:=F.fo.fresh (P.1.fresh+1);exact Ze.start_bad hk f { P.1 with fresh:=P.1.fresh+1 } (by show f=P.1.given.length-(P.1.fresh+1);rw[hal.same.1,hfr];omega) z1 hfo (.inl z2) hb0
   ·rw[if_neg h2]
    obtain⟨r,hre,hall,_⟩:∃ r:Nat,P.2=r∧zY P.1 r∧∃ l∈P.1.cl r,gn P.1.level (l/2)=P.1.ends.length:=by
     rcases F.out with ⟨k,_⟩ | k
     ·exact absurd k h2
     ·exact k
    have hrn:P.2.toNat=r:=by rw[hre];exact Int.toNat_natCast r
    rw[hrn];have zP:=hb.ze.fol hfe;obtain⟨u,st,la,e⟩:=zP.ended_same (F.fo.nx0 zP.e0) (.inl (y3.fol hfe)) hall.1 hall.2.2;rw[e];exact BadC.same (.inl ⟨r,hall⟩)
  ·rw[if_neg h1] at hst;rw[hst,if_neg h1];obtain⟨n1,n2,n3,n4,n5⟩:=hb.no h1;have hrn:R.2.toNat=S.cls.length:=by rw[n1];exact Int.toNat_natCast _
   rw[hrn];obtain⟨u,st,la,e⟩:=hb.ze.ended_same n4 (.inr n5) n2 n3;rw[e];exact BadC.same (.inr n5)
theorem fG.tells {S:SM} (h:fG S) {r:Nat} (hr:r<S.cls.length) (h2:2≤(S.cl r).length) (hn:∀ x∈S.cl r,S.bF x=-1):S.follow.2≠-1:=by
 obtain⟨F,_⟩:=iN h;have hfe:=ac7 h;obtain⟨R,hR⟩:∃ R,S.follow=R:=⟨_,rfl⟩;rw[hR] at F hfe ⊢;intro hm
 have hnx:R.1.next=R.1.trail.length:=by
  rcases F.out with ⟨_,k⟩ | ⟨r,k,_⟩
  ·exact k
  ·rw[hm] at k;omega
 have hp:=hfe.perm r
 have h3:∀ x∈R.1.cl r,R.1.bF x=-1:=fun x hx=>by
  have h4:=hn x (hp.mem_iff.1 hx);rw[(hfe.bF x (by omega)).1];exact h4
 have h5:2≤(R.1.cl r).length:=by rw[hp.length_eq];exact h2
 have m0:=h3 _ (aU (R.1.cl r) 0 (by omega));have m1:=h3 _ (aU (R.1.cl r) 1 (by omega));obtain⟨i,hi,e⟩:=F.fo.tr.jS m0;have:=((F.fo.pi r (by rw[hfe.mX];exact hr) h5).1 ⟨i,by omega,hi,e⟩).1;omega
theorem Dead.begins {S:SM} (h:Dead S):(S.begins S.fresh).2=0:=by
 have hs:=Cx S S.fresh;apply Classical.byContradiction;intro hne;have hle:=hs.le;have h1:=hs.yes 0 (by omega);obtain⟨y,hy,e⟩:=List.mem_map.1 (hs.perm.mem_iff.1 (aU (S.begins S.fresh).1 0 (by omega)));have:=h.2 y hy;rw[e] at this;omega
theorem Dead.start {S:SM} (h:Dead S):S.start.2=false:=by
 have hf:S.given.length-S.fresh=(S.given.length-S.fresh-1)+1:=by have:=h.1;omega
 have e:S.start=SM.lJ (S.given.length-S.fresh) S:=rfl;rw[e,hf,Aa];have hst:started S=if (S.begin_ S.fresh).2=-1 then (S.begin_ S.fresh).1.follow else S.begin_ S.fresh:=rfl
 have hb:S.begin_ S.fresh=(S.attach (S.begins S.fresh).1 S.fresh,(S.cls.length:Int)):=by unfold SM.begin_;rw[if_pos h.begins]
 have hne:((S.cls.length:Nat):Int)≠-1:=by omega
 rw[hst,hb,if_neg hne];rw[if_neg hne]
end Go.Proofs.YthbbmdnfkkffjaaGreat
