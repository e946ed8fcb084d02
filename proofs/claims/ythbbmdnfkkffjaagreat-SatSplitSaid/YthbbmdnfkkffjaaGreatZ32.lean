/-
  Parts of the proof, joined by program: Pi30, Pi31, Pi32.
-/
import Derived.Test.YthbbmdnfkkffjaaGreatZ31
namespace Go.Proofs.YthbbmdnfkkffjaaGreat
open Go.Proofs.PlaitPure Go.Proofs.PlaitSat
inductive Out (asm:List Int) (K:Nat) (S:SM):SM×Int→Prop
 | sat (U:SM) (h:SeI asm K U) (al:Along S U) (nx:U.next=U.trail.length) (all:∀ v,0<v→v<U.value.length→gi U.value v≠0) (ae:asm.length≤U.ends.length):Out asm K S (U.sated asm,0)
 | ref (U:SM) (l:Nat) (h:SeI asm K U) (al:Along S U) (no:U.isL l=-1) (el:l=packF (gi asm U.ends.length)) (ae:U.ends.length<asm.length):Out asm K S (U.refused asm l,0)
 | end_ (U:SM) (bad:Nat) (h:SeI asm K U) (al:Along S U) (h0:U.ends.length=0) (hb:AllNo U bad):Out asm K S (U.ended bad,0)
 | conf (U:SM) (h:SeI asm K U) (al:Along S U) (hc:U.conf≤U.learned.length):Out asm K S (U,131)
 | room (U:SM) (n:Nat) (h:SeI asm K U) (al:Along S U) (hn:n≤U.value.length) (hr:U.most<U.words+n+2):Out asm K S (U,111)
theorem Out.along {asm:List Int} {K:Nat} {S T:SM} {V:SM×Int} (k:Along S T) (h:Out asm K T V):Out asm K S V:=by
 cases h with
 | sat U h al nx all ae=>exact .sat U h (k.trans al) nx all ae
 | ref U l h al no el ae=>exact .ref U l h (k.trans al) no el ae
 | end_ U bad h al h0 hb=>exact .end_ U bad h (k.trans al) h0 hb
 | conf U h al hc=>exact .conf U h (k.trans al) hc
 | room U n h al hn hr=>exact .room U n h (k.trans al) hn hr
theorem SeI.refused {asm:List Int} {K:Nat} {S:SM} (h:SeI asm K S) (l:Nat):SeI asm K (S.refused asm l):=by
 obtain⟨T,c,la,k,e⟩:=refused_unt h asm l
 rw[e]
 exact (h.sim (sim_unt k) (h.fo.hp.unt k)).told c la 2 T.model
theorem SeI.ended {asm:List Int} {K:Nat} {S:SM} (h:SeI asm K S) {bad:Nat} (h0:S.ends.length=0) (hb:AllNo S bad):SeI asm K (S.ended bad):=by
 obtain⟨T,la,k,e⟩:=ended_unt h.fo h.ex h0 hb.1 hb.2.2
 rw[e]
 exact (h.sim (sim_unt k) (h.fo.hp.unt k)).told [] la 2 T.model
theorem SeI.sated {asm:List Int} {K:Nat} {S:SM} (h:SeI asm K S):SeI asm K (S.sated asm) :=
 h.told S.core S.last 1 _
theorem Out.se {asm:List Int} {K:Nat} {S:SM} {V:SM×Int} (h:Out asm K S V):SeI asm K V.1:=by
 cases h with
 | sat U h al nx all ae=>exact h.sated
 | ref U l h al no el ae=>exact h.refused l
 | end_ U bad h al h0 hb=>exact h.ended h0 hb
 | conf U h al hc=>exact h
 | room U n h al hn hr=>exact h
def meas (S:SM) (u:Nat):Nat:=(S.value.length+1)*((S.conf-S.learned.length)+(S.conf+1-u))+(S.value.length-S.trail.length)
theorem meas_lt {n X Y d d':Nat} (h:X<Y) (hd:d≤n):(n+1)*X+d<(n+1)*Y+d':=by
 have:=Nat.mul_le_mul_left (n+1) (show X+1≤Y from h)
 rw[Nat.mul_add] at this
 omega
theorem FoI.flOk {K:Nat} {S:SM} (h:FoI S) (hx:ExI K S):FlOk S:=(follow_fold h).2 (by have:=hx.cls;omega)
theorem SeI.search {asm:List Int} {K:Nat} (ha:asm.length≤600000):∀ (f:Nat) (S:SM) (u:Nat),SeI asm K S→Full S→AsOk asm S.value.length→2≤u→u≤4000→meas S u<f →
  searchOk asm f S u∧∃ V,SM.searchGo asm f S u=some V∧Out asm K S V
 | 0,S,u,_,_,_,_,_,hm=>by omega
 | f+1,S,u,h,hf,has,hu2,hu,hm=>by
  have hfl:=h.fo.flOk h.ex
  obtain⟨F,_⟩:=follow_fold h.fo
  obtain⟨h1,hf1,htr,hle,hcf,hvl⟩:=h.follow hf
  have hal:=along_follow h.fo
  rw[searchGo_succ]
  have hsok:∀ P,searchOk asm (f+1) S u=P→P=searchOk asm (f+1) S u:=fun P e=>e.symm
  unfold searchOk
  clear hsok
  obtain⟨R,hR⟩:∃ R,S.follow=R:=⟨_,rfl⟩
  rw[hR] at F h1 hf1 htr hle hcf hvl hal ⊢
  have hlc:=h1.lc
  have hc2:=h1.cf
  have htl1:=h1.fo.tr.len
  have hun:meas S u=(S.value.length+1)*((S.conf-S.learned.length)+(S.conf+1-u))+(S.value.length-S.trail.length):=rfl
  rw[hun] at hm
  by_cases hr:R.2=-1
  ·rw[if_pos hr]
   have hnx:R.1.next=R.1.trail.length:=by
    rcases F.out with ⟨_,k⟩ | ⟨r,k,_⟩
    ·exact k
    ·rw[hr] at k;omega
   obtain⟨T,hT⟩:∃ T,anew R.1 u=T:=⟨_,rfl⟩
   obtain⟨v,hv⟩:∃ v,laterU R.1 u=v:=⟨_,rfl⟩
   have key:SeI asm K T∧Full T∧T.next=T.trail.length∧T.learned=R.1.learned∧Along R.1 T∧2≤v∧v≤4000∧(T=R.1∧v=u∨(u<v∧u≤R.1.learned.length)):=by
    rw[←hT,←hv]
    unfold anew laterU
    by_cases hul:u≤R.1.learned.length
    ·rw[if_pos hul,if_pos hul]
     obtain⟨k1,k2,k3,k4,_⟩:=h1.back0
     exact⟨k1,k2,k3 hnx,k4,along_back h1.fo 0,by omega,by omega,.inr ⟨by omega,hul⟩⟩
    ·rw[if_neg hul,if_neg hul]
     exact⟨h1,hf1,hnx,rfl,Along.refl _,hu2,hu,.inl ⟨rfl,rfl⟩⟩
   rw[hT,hv]
   obtain⟨k1,k2,k3,k4,k5,k6,k7,k8⟩:=key
   have hasT:AsOk asm T.value.length:=by rw[k5.vlen,hvl];exact has
   obtain⟨d1,d2⟩:=SeI.decide ha (asm.length-T.ends.length) T k1 k3 rfl hasT
   obtain⟨D,hD⟩:∃ D,T.decide_ asm=D:=⟨_,rfl⟩
   have hD':SM.decideGo asm (asm.length-T.ends.length) T=D:=hD
   rw[hD'] at d2
   rw[hD]
   have hasv:∀ a∈asm,packF a/2<T.value.length:=fun a hm=>by rw[packF_half];exact (hasT a hm).2.2
   have hbk:u≤R.1.learned.length→BkOk R.1:=fun _=>h1.fo.bkOk (by have:=h1.ends_le ha;omega)
   cases hb:D.2 with
   | true =>
    rw[if_pos rfl]
    obtain⟨y1,y2,y3,y4⟩:=d2.yes hb
    have hal2:=k5.trans (along_beside y3)
    have e1:D.1.value.length=S.value.length:=by rw[hal2.vlen,hvl]
    have e2:D.1.conf=S.conf:=by rw[hal2.same.2.2.2.1,hcf]
    have e3:D.1.learned=S.learned:=by
     obtain⟨⟨_,_,_,_,_,_,_,_,e⟩,_⟩:=y3
     rw[e];show T.learned=_;rw[k4,hle]
    have hms:meas D.1 v<f:=by
     unfold meas
     rw[e1,e2,e3]
     have htl:=y1.fo.tr.len
     rw[e1] at htl
     rcases k8 with ⟨kT,kv⟩ | ⟨kv,kl⟩
     ·rw[kv]
      rw[kT] at y4
      omega
     ·have:=meas_lt (n:=S.value.length) (X:=(S.conf-S.learned.length)+(S.conf+1-v)) (Y:=(S.conf-S.learned.length)+(S.conf+1-u)) (d:=S.value.length-D.1.trail.length) (d':=S.value.length-S.trail.length) (by omega) (by omega)
      omega
    obtain⟨z1,V,z2,z3⟩:=SeI.search ha f D.1 v y1 y2 (by rw[e1];exact has) k6 k7 hms
    refine⟨⟨hfl,by omega,by omega,fun _=>⟨hbk,d1,hasv,fun _=>z1,fun k=>(by cases k)⟩,fun k=>absurd hr k⟩,V,z2,z3.along (hal.trans hal2)⟩
   | false =>
    rw[if_neg (by simp)]
    have hout:Out asm K S (D.1,0):=by
     obtain⟨U,y1,y2,y3,y4⟩:=d2.no hb
     have hal3:=hal.trans (k5.trans (along_beside y2))
     rcases y4 with ⟨l,q1,q2,q3,q4⟩ | ⟨q1,q2,q3⟩
     ·rw[q4];exact .ref U l y1 hal3 q1 q2 q3
     ·rw[q3];exact .sat U y1 hal3 y3 q1 q2
    refine⟨⟨hfl,by omega,by omega,fun _=>⟨hbk,d1,hasv,fun k=>(by cases k),fun _=>?_⟩,fun k=>absurd hr k⟩,_,rfl,hout⟩
    have:=hout.se
    exact this.fo.bkOk (by have:=this.ends_le ha;omega)
  ·rw[if_neg hr]
   obtain⟨r,hre,hall,hlit⟩:∃ r:Nat,R.2=r∧AllNo R.1 r∧∃ l∈R.1.cl r,gn R.1.level (l/2)=R.1.ends.length:=by
    rcases F.out with ⟨k,_⟩ | k
    ·exact absurd k hr
    ·exact k
   have hbad:=hall.bad hlit
   have hmt:=h1.mtOk ha hbad
   have hrn:R.2.toNat=r:=by rw[hre];exact Int.toNat_natCast r
   rw[hrn]
   have hM:(R.1.metF r).2.1=true→SeI asm K (R.1.metF r).1∧Full (R.1.metF r).1∧Along R.1 (R.1.metF r).1∧(R.1.metF r).1.learned.length=R.1.learned.length+1∧R.1.learned.length<R.1.conf:=by
    unfold SM.metF
    split
    ·intro k;cases k
    ·rename_i he
     split
     ·intro k;cases k
     ·rename_i hcl
      obtain⟨l1,l2,l3,l4,l5,l6,l7,l8,l9,l10,l11⟩:=h1.learnt ha hbad he
      have hent:=fun (a:Nat→Bool) (x:ModC a R.1)=>learn_ent h1.fo (by omega) hbad x
      have hsim:=(lesson h1.fo h1.ex (by omega) hbad).sim
      have hls:=lesson h1.fo h1.ex (by omega) hbad
      obtain⟨L,hL⟩:∃ L,R.1.learn r=L:=⟨_,rfl⟩
      rw[hL] at l1 l2 l3 l4 l5 l6 l7 l8 l9 l10 l11 hent hsim hls ⊢
      simp only
      split
      ·intro k;cases k
      ·rename_i hroom
       intro _
       obtain⟨s1,s2,s3,s4,s5⟩:=l1.keep L.2.2.1 l8 l10 l11 (by omega) (by rw[l2,l3];omega)
       have hent2:∀ a,ModC a L.1→∃ l∈L.2.1,tr a l=true:=fun a x=>hent a (by
        obtain⟨⟨_,_,_,_,_,e⟩,_,_⟩:=hsim
        rw[e] at x;exact x)
       refine⟨s1,s2,(along_sim hsim).trans (along_keep l1.fo L.2.2.1 l8.hk l8.nd (fun x hx=>⟨(l8.no x hx).1,(l8.no x hx).2.1⟩) hent2),?_,by omega⟩
       rw[s3,l2];simp
   have hN:(R.1.metF r).2.1=false→Out asm K R.1 ((R.1.metF r).1,(R.1.metF r).2.2):=by
    unfold SM.metF
    split
    ·rename_i he
     intro _
     exact .end_ R.1 r h1 (Along.refl _) he hall
    ·rename_i he
     split
     ·rename_i hcl
      intro _
      exact .conf R.1 h1 (Along.refl _) hcl
     ·obtain⟨l1,l2,l3,l4,l5,l6,l7,_,_,_,_⟩:=h1.learnt ha hbad he
      have hsim:=(lesson h1.fo h1.ex (by omega) hbad).sim
      obtain⟨L,hL⟩:∃ L,R.1.learn r=L:=⟨_,rfl⟩
      rw[hL] at l1 l2 l3 l4 l5 l6 l7 hsim ⊢
      simp only
      split
      ·rename_i hroom
       intro _
       exact .room L.1 L.2.1.length l1 (along_sim hsim) (by rw[l4];exact l5) hroom
      ·intro k;cases k
   obtain⟨M,hMM⟩:∃ M,R.1.metF r=M:=⟨_,rfl⟩
   rw[hMM] at hM hN ⊢
   cases hb:M.2.1 with
   | true =>
    rw[if_pos rfl]
    obtain⟨y1,y2,y3,y4,y5⟩:=hM hb
    have e1:M.1.value.length=S.value.length:=by rw[y3.vlen,hvl]
    have e2:M.1.conf=S.conf:=by rw[y3.same.2.2.2.1,hcf]
    have e3:M.1.learned.length=S.learned.length+1:=by rw[y4,hle]
    have hms:meas M.1 u<f:=by
     unfold meas
     rw[e1,e2,e3]
     have htl:=y1.fo.tr.len
     rw[e1] at htl
     rw[hle,hcf] at y5
     have:=meas_lt (n:=S.value.length) (X:=(S.conf-(S.learned.length+1))+(S.conf+1-u)) (Y:=(S.conf-S.learned.length)+(S.conf+1-u)) (d:=S.value.length-M.1.trail.length) (d':=S.value.length-S.trail.length) (by omega) (by omega)
     omega
    obtain⟨z1,V,z2,z3⟩:=SeI.search ha f M.1 u y1 y2 (by rw[e1];exact has) hu2 hu hms
    refine⟨⟨hfl,by omega,by omega,fun k=>absurd k hr,fun _=>⟨⟨_,_,hmt⟩,fun _=>z1,fun k=>(by cases k)⟩⟩,V,z2,z3.along (hal.trans y3)⟩
   | false =>
    rw[if_neg (by simp)]
    have hout:=(hN hb).along hal
    refine⟨⟨hfl,by omega,by omega,fun k=>absurd k hr,fun _=>⟨⟨_,_,hmt⟩,fun k=>(by cases k),fun _=>?_⟩⟩,_,rfl,hout⟩
    have:=hout.se
    exact this.fo.bkOk (by have:=this.ends_le ha;omega)
end Go.Proofs.YthbbmdnfkkffjaaGreat
namespace Go.Proofs.YthbbmdnfkkffjaaGreat
open Go.Proofs.PlaitPure Go.Proofs.PlaitSat
def ModG (a:Nat→Bool) (S:SM):Prop:=∀ c∈S.given,∃ x∈c,tr a (packF x)=true
def Dead (S:SM):Prop:=S.fresh<S.given.length∧∀ x∈gl S.given S.fresh,S.isL (packF x)=-1
structure Ze (K:Nat) (S:SM):Prop where
 e0:S.ends=[]
 ex:ExI K S
 gs:∀ c∈S.given,(c.map Int.natAbs).Nodup∧∀ x∈c,0<x.natAbs∧x.natAbs≤65536∧x.natAbs<S.value.length
 gw:2*S.given.length≤S.words
 gv:∀ i,i<S.fresh→∃ r,r<S.cls.length∧(S.cl r).Perm ((gl S.given i).map packF)
 en:∀ a,ModG a S→ModC a S
 cf:S.conf≤2000
 c1:1≤S.conf
 oc:∀ c∈S.given,∀ x∈c,gB S.occurs x.natAbs=true
structure Al0 (S T:SM):Prop where
 same:T.given=S.given∧T.fresh=S.fresh∧T.most=S.most∧T.conf=S.conf∧T.occurs=S.occurs
 vlen:T.value.length=S.value.length
 sem:∀ a,ModC a S→ModC a T
 held:∀ r,r<S.cls.length→r<T.cls.length∧(T.cl r).Perm (S.cl r)
theorem Along.al0 {S T:SM} (h:Along S T):Al0 S T:=⟨h.same,h.vlen,h.sem,h.held⟩
theorem Al0.trans {S T U:SM} (h:Al0 S T) (k:Al0 T U):Al0 S U:=by
 obtain⟨a1,a2,a3,a4,a5⟩:=h.same
 obtain⟨b1,b2,b3,b4,b5⟩:=k.same
 refine⟨⟨b1.trans a1,b2.trans a2,b3.trans a3,b4.trans a4,b5.trans a5⟩,k.vlen.trans h.vlen,fun a x=>k.sem a (h.sem a x),fun r hr=>?_⟩
 obtain⟨x,y⟩:=h.held r hr
 obtain⟨u,v⟩:=k.held r x
 exact⟨u,v.trans y⟩
theorem Ze.mono {K K2:Nat} {S T:SM} (h:Ze K S) (k:Al0 S T) (e0:T.ends=[]) (ex:ExI K2 T) (w:S.words≤T.words):Ze K2 T:=by
 obtain⟨a1,a2,a3,a4,a5⟩:=k.same
 refine⟨e0,ex,by rw[a1,k.vlen];exact h.gs,by rw[a1];have:=h.gw;omega,fun i hi=>?_,fun a x=>k.sem a (h.en a (by unfold ModG at x ⊢;rw[a1] at x;exact x)),by rw[a4];exact h.cf,by rw[a4];exact h.c1,by rw[a1,a5];exact h.oc⟩
 rw[a2] at hi
 obtain⟨r,hr,hp⟩:=h.gv i hi
 obtain⟨u,v⟩:=k.held r hr
 exact⟨r,u,by rw[a1];exact v.trans hp⟩
theorem ExI.follow {K:Nat} {S:SM} (hx:ExI K S) (h:FoI S):ExI K S.follow.1∧S.follow.1.words=S.words∧S.follow.1.ends=S.ends∧(∀ l,S.isL l≠0→S.follow.1.isL l=S.isL l∧gn S.follow.1.level (l/2)=gn S.level (l/2)):=by
 obtain⟨F,_⟩:=follow_fold h
 obtain⟨R,hR⟩:∃ R,S.follow=R:=⟨_,rfl⟩
 rw[hR] at F ⊢
 have hfwd:=F.fwd
 have hL:∀ l,S.isL l≠0→R.1.isL l=S.isL l:=fun l hl=>hfwd.isL (S:=nx S R.1.next) hl
 have hlev:∀ l,S.isL l≠0→gn R.1.level (l/2)=gn S.level (l/2):=fun l hl=>hfwd.lev (S:=nx S R.1.next) hl
 have hids:∀ r,R.1.id r=S.id r:=fun r=>hfwd.ids r
 have hcl:R.1.cls.length=S.cls.length:=hfwd.clen
 have hvl:R.1.value.length=S.value.length:=hfwd.vlen
 obtain⟨cs,ws,va,le,re,t,e⟩:=hfwd.same
 have w1:R.1.words=S.words:=by rw[e];rfl
 have w2:R.1.most=S.most:=by rw[e];rfl
 have w3:R.1.given=S.given:=by rw[e];rfl
 have w4:R.1.fresh=S.fresh:=by rw[e];rfl
 have w5:R.1.steps=S.steps:=by rw[e];rfl
 have w6:R.1.units=S.units:=by rw[e];rfl
 exact⟨⟨fun r hr=>by rw[hids];exact hx.ids r (by omega),by rw[w5,w6,w1,hvl];exact hx.pot,by rw[w1,w2];exact hx.wm,by rw[w2];exact hx.mo,by rw[w4,w3];exact hx.fr,by rw[hcl,w3,w4,w1];exact hx.cn,hx.kk⟩,w1,hfwd.ends,fun l hl=>⟨hL l hl,hlev l hl⟩⟩
structure Sorted (S:SM) (d:List Nat) (R:List Nat×Nat):Prop where
 perm:R.1.Perm d
 le:R.2≤R.1.length
 yes:∀ j,j<R.2→0≤S.isL (gn R.1 j)
 no:∀ j,R.2≤j→j<R.1.length→S.isL (gn R.1 j)<0
theorem sortGo_spec (S:SM) (d:List Nat):∀ (f:Nat) (c:List Nat) (m:Nat),f≤c.length→c.Perm d→m≤c.length-f→(∀ j,j<m→0≤S.isL (gn c j))→(∀ j,m≤j→j<c.length-f→S.isL (gn c j)<0)→Sorted S d (SM.sortGo S f c m)
 | 0,c,m,_,hp,hm,hy,hn=>⟨hp,by show m≤c.length;omega,hy,fun j a b=>hn j a (by show j<c.length-0;exact b)⟩
 | f+1,c,m,hf,hp,hm,hy,hn=>by
  rw[SM.sortGo]
  obtain⟨i,hi⟩:∃ i,c.length-(f+1)=i:=⟨_,rfl⟩
  rw[hi] at hm hn ⊢
  have hil:i<c.length:=by omega
  split
  ·rename_i h0
   have hml:m<c.length:=by omega
   have hl:(SM.swapN c i m).length=c.length:=swap_len c i m
   have hg:=fun k=>swap_gn (c:=c) (i:=i) (j:=m) (k:=k) hil hml
   refine sortGo_spec S d f _ (m+1) (by omega) ((swap_perm hil hml).trans hp) (by omega) (fun j hj=>?_) fun j a b=>?_
   ·rw[hg]
    split
    ·exact h0
    ·split
     ·rename_i e1 e2;omega
     ·exact hy j (by omega)
   ·rw[hg]
    rw[if_neg (by omega)]
    split
    ·exact hn m (Nat.le_refl _) (by omega)
    ·exact hn j (by omega) (by omega)
  ·rename_i h0
   refine sortGo_spec S d f c m (by omega) hp (by omega) hy fun j a b=>?_
   by_cases e:j=i
   ·rw[e];omega
   ·exact hn j a (by omega)
theorem begins_spec (S:SM) (i:Nat):Sorted S ((gl S.given i).map packF) (S.begins i):=by
 unfold SM.begins
 exact sortGo_spec S _ _ _ 0 (by rw[List.length_map];exact Nat.le_refl _) (List.Perm.refl _) (Nat.zero_le _) (fun j hj=>by omega) fun j a b=>by rw[List.length_map] at b;omega
theorem gl_mem {l:List (List Int)} {i:Nat} (h:i<l.length):gl l i∈l:=by
 unfold gl;rw[List.getD_eq_getElem?_getD,List.getElem?_eq_getElem h];exact List.getElem_mem h
theorem begins_ok {K:Nat} {S:SM} (h:Ze K S) (hi:S.fresh<S.given.length):((S.begins S.fresh).1.map (·/2)).Nodup∧∀ x∈(S.begins S.fresh).1,2≤x∧x/2<S.value.length:=by
 have hp:=(begins_spec S S.fresh).perm
 obtain⟨g1,g2⟩:=h.gs _ (gl_mem hi)
 constructor
 ·rw[(hp.map _).nodup_iff,List.map_map]
  have:((fun x=>x/2) ∘ packF)=Int.natAbs:=by funext x;exact packF_half x
  rw[this];exact g1
 ·intro x hx
  obtain⟨y,hy,rfl⟩:=List.mem_map.1 (hp.mem_iff.1 hx)
  exact⟨packF_two (g2 y hy).1,by rw[packF_half];exact (g2 y hy).2.2⟩
theorem nx_attach (S:SM) (c:List Nat) (d:Int) (n:Nat):nx (S.attach c d) n=(nx S n).attach c d:=by unfold SM.attach nx SM.watch;split <;> rfl
theorem FoI.attach0 {S:SM} (h:FoI (nx S 0)) {c:List Nat} (d:Int) (hn:(c.map (·/2)).Nodup) (hc:∀ x∈c,2≤x∧x/2<S.value.length):FoI (nx (S.attach c d) 0):=by
 rw[nx_attach]
 refine h.attach hn hc fun _=>⟨?_,?_⟩
 ·rintro⟨i,hi,_⟩;exact absurd hi (Nat.not_lt_zero i)
 ·rintro⟨i,hi,_⟩;exact absurd hi (Nat.not_lt_zero i)
theorem FoI.nx0 {S:SM} (h:FoI S) (e0:S.ends=[]):FoI (nx S 0):=by
 refine⟨h.tr.congr ⟨h.tr.sz.level,h.tr.sz.reason,h.tr.sz.phase,h.tr.sz.occurs,h.tr.sz.units,h.tr.sz.watches⟩ rfl rfl rfl rfl rfl (Nat.le_refl _) (fun _ _ _=>Iff.rfl),⟨h.cl.nd,h.cl.two⟩,⟨h.wa.nd,h.wa.iff⟩,⟨⟨⟨h.hp.hi.hb.small,h.hp.hi.hb.vars,h.hp.hi.hb.place,h.hp.hi.hb.met,h.hp.hi.hb.hl⟩,h.hp.hi.pl,h.hp.hi.bk⟩,h.hp.nz,h.hp.all⟩,fun r hr h2=>⟨?_,?_⟩,Nat.zero_le _,fun e he=>?_⟩
 ·rintro⟨i,hi,_⟩;exact absurd hi (Nat.not_lt_zero i)
 ·rintro⟨i,hi,_⟩;exact absurd hi (Nat.not_lt_zero i)
 ·have he2:e∈S.ends:=he
  rw[e0] at he2;cases he2
theorem Ze.attach {K:Nat} {S:SM} (h:Ze K S) {c:List Nat} (hp:c.Perm ((gl S.given S.fresh).map packF)) (hi:S.fresh<S.given.length) (hk:K<100000) {T:SM} (e:∃ ws va le re t,T={ S with cls:=S.cls++[(c,(S.fresh:Int))],watches:=ws,value:=va,level:=le,reason:=re,trail:=t }) (hv:T.value.length=S.value.length) :
  Ze (K+1) T∧Ze K { T with fresh:=T.fresh+1 }∧∀ r,T.cl r=if r=S.cls.length then c else S.cl r:=by
 obtain⟨ws,va,le,re,t,e⟩:=e
 have hx:=h.ex
 have t3:T.cls=S.cls++[(c,(S.fresh:Int))]:=by rw[e]
 have hcl:∀ r,T.cl r=if r=S.cls.length then c else S.cl r:=fun r=>by
  rw[←attach_cl S c S.fresh r];unfold SM.cl;rw[t3,attach_cls]
 have hidr:∀ r,r<S.cls.length+1→T.id r=if r=S.cls.length then (S.fresh:Int) else S.id r:=fun r hr=>by
  rw[←attach_id S c S.fresh r hr];unfold SM.id;rw[t3,attach_cls]
 have hcll:T.cls.length=S.cls.length+1:=by rw[t3];simp
 have w1:T.words=S.words:=by rw[e]
 have w2:T.most=S.most:=by rw[e]
 have w3:T.given=S.given:=by rw[e]
 have w4:T.fresh=S.fresh:=by rw[e]
 have w5:T.steps=S.steps:=by rw[e]
 have w6:T.units=S.units:=by rw[e]
 have w7:T.conf=S.conf:=by rw[e]
 have w8:T.occurs=S.occurs:=by rw[e]
 have w9:T.ends=[]:=by rw[e];exact h.e0
 have hids:∀ r,r<T.cls.length→T.id r≠-1:=fun r hr=>by
  rw[hidr r (by omega)]
  split
  ·omega
  ·exact hx.ids r (by omega)
 have hgv:∀ i,i<S.fresh+1→∃ r,r<T.cls.length∧(T.cl r).Perm ((gl S.given i).map packF):=fun i hi2=>by
  rcases Nat.lt_or_ge i S.fresh with k | k
  ·obtain⟨r,hr,hp2⟩:=h.gv i k
   exact⟨r,by omega,by rw[hcl,if_neg (by omega)];exact hp2⟩
  ·have:i=S.fresh:=by omega
   subst this
   exact⟨S.cls.length,by omega,by rw[hcl,if_pos rfl];exact hp⟩
 have hen:∀ a,ModG a T→ModC a T:=fun a x=>fun r hr=>by
  have x2:ModG a S:=by unfold ModG at x ⊢;rw[w3] at x;exact x
  rw[hcl]
  split
  ·obtain⟨y,hy,ht⟩:=x2 _ (gl_mem hi)
   exact⟨packF y,hp.mem_iff.2 (List.mem_map_of_mem hy),ht⟩
  ·exact h.en a x2 r (by omega)
 have hcn:=hx.cn
 have hfr:=hx.fr
 have hkk:=hx.kk
 have hex1:ExI (K+1) T:=⟨hids,by rw[w5,w6,w1,hv];exact hx.pot,by rw[w1,w2];exact hx.wm,by rw[w2];exact hx.mo,by rw[w4,w3];exact hx.fr,by rw[hcll,w3,w4,w1];omega,by omega⟩
 have hex2:ExI K { T with fresh:=T.fresh+1 }:=⟨hids,by show T.steps.length+T.units.count (-1)≤T.words+T.value.length;rw[w5,w6,w1,hv];exact hx.pot,by show T.words≤T.most;rw[w1,w2];exact hx.wm,by show T.most≤_;rw[w2];exact hx.mo,by show T.fresh+1≤T.given.length;rw[w4,w3];omega,by show 2*(T.cls.length+(T.given.length-(T.fresh+1)))≤T.words+2*K;rw[hcll,w3,w4,w1];omega,by omega⟩
 refine⟨⟨w9,hex1,by rw[w3,hv];exact h.gs,by rw[w3,w1];exact h.gw,fun i hi2=>by rw[w3];exact hgv i (by omega),hen,by rw[w7];exact h.cf,by rw[w7];exact h.c1,by rw[w3,w8];exact h.oc⟩,
  ⟨w9,hex2,by show ∀ c∈T.given,_∧∀ x∈c,_∧_∧_<T.value.length;rw[w3,hv];exact h.gs,by show 2*T.given.length≤T.words;rw[w3,w1];exact h.gw,fun i hi2=>by
   have hi3:i<T.fresh+1:=hi2
   show ∃ r,r<T.cls.length∧(T.cl r).Perm ((gl T.given i).map packF)
   rw[w3];exact hgv i (by omega),hen,by show T.conf≤_;rw[w7];exact h.cf,by show 1≤T.conf;rw[w7];exact h.c1,by show ∀ c∈T.given,∀ x∈c,gB T.occurs x.natAbs=true;rw[w3,w8];exact h.oc⟩,hcl⟩
end Go.Proofs.YthbbmdnfkkffjaaGreat
namespace Go.Proofs.YthbbmdnfkkffjaaGreat
open Go.Proofs.PlaitPure Go.Proofs.PlaitSat
structure Al1 (S T:SM):Prop where
 same:T.given=S.given∧T.most=S.most∧T.conf=S.conf∧T.occurs=S.occurs
 rest:T.words=S.words∧T.learned=S.learned∧T.model=S.model
 vlen:T.value.length=S.value.length
theorem Al1.refl (S:SM):Al1 S S:=⟨⟨rfl,rfl,rfl,rfl⟩,⟨rfl,rfl,rfl⟩,rfl⟩
theorem Al1.trans {S T U:SM} (h:Al1 S T) (k:Al1 T U):Al1 S U:=by
 obtain⟨a1,a2,a3,a4⟩:=h.same
 obtain⟨b1,b2,b3,b4⟩:=k.same
 obtain⟨c1,c2,c3⟩:=h.rest
 obtain⟨d1,d2,d3⟩:=k.rest
 exact⟨⟨b1.trans a1,b2.trans a2,b3.trans a3,b4.trans a4⟩,⟨d1.trans c1,d2.trans c2,d3.trans c3⟩,k.vlen.trans h.vlen⟩
structure FolEq (S T:SM):Prop where
 al:Al1 S T
 fresh:T.fresh=S.fresh
 told:T.told=S.told∧T.core=S.core∧T.last=S.last
 st:T.steps=S.steps∧T.units=S.units
 clen:T.cls.length=S.cls.length
 ids:∀ r,T.id r=S.id r
 perm:∀ r,(T.cl r).Perm (S.cl r)
 ends:T.ends=S.ends
 isL:∀ l,S.isL l≠0→T.isL l=S.isL l∧gn T.level (l/2)=gn S.level (l/2)
theorem folEq {S:SM} (h:FoI S):FolEq S S.follow.1:=by
 obtain⟨F,_⟩:=follow_fold h
 obtain⟨R,hR⟩:∃ R,S.follow=R:=⟨_,rfl⟩
 rw[hR] at F ⊢
 have hfwd:=F.fwd
 have hL:∀ l,S.isL l≠0→R.1.isL l=S.isL l:=fun l hl=>hfwd.isL (S:=nx S R.1.next) hl
 have hlev:∀ l,S.isL l≠0→gn R.1.level (l/2)=gn S.level (l/2):=fun l hl=>hfwd.lev (S:=nx S R.1.next) hl
 have hids:∀ r,R.1.id r=S.id r:=fun r=>hfwd.ids r
 have hcl:R.1.cls.length=S.cls.length:=hfwd.clen
 have hvl:R.1.value.length=S.value.length:=hfwd.vlen
 have hperm:∀ r,(R.1.cl r).Perm (S.cl r):=fun r=>hfwd.perm r
 have hen:R.1.ends=S.ends:=hfwd.ends
 obtain⟨cs,ws,va,le,re,t,e⟩:=hfwd.same
 exact⟨⟨by rw[e];exact⟨rfl,rfl,rfl,rfl⟩,by rw[e];exact⟨rfl,rfl,rfl⟩,hvl⟩,by rw[e];rfl,by rw[e];exact⟨rfl,rfl,rfl⟩,by rw[e];exact⟨rfl,rfl⟩,hcl,hids,hperm,hen,fun l hl=>⟨hL l hl,hlev l hl⟩⟩
theorem ExI.move {K:Nat} {S T:SM} (hx:ExI K S) (ids:∀ r,T.id r=S.id r) (hcl:T.cls.length=S.cls.length) (hst:T.steps=S.steps∧T.units=S.units) (hw:T.words=S.words) (hm:T.most=S.most) (hg:T.given=S.given) (hf:T.fresh=S.fresh) (hv:T.value.length=S.value.length):ExI K T :=
 ⟨fun r hr=>by rw[ids];exact hx.ids r (by omega),by rw[hst.1,hst.2,hw,hv];exact hx.pot,by rw[hw,hm];exact hx.wm,by rw[hm];exact hx.mo,by rw[hf,hg];exact hx.fr,by rw[hcl,hg,hf,hw];exact hx.cn,hx.kk⟩
theorem FolEq.al0 {S T:SM} (h:FolEq S T):Al0 S T :=
 ⟨⟨h.al.same.1,h.fresh,h.al.same.2.1,h.al.same.2.2.1,h.al.same.2.2.2⟩,h.al.vlen,fun _ k=>k.perm h.clen h.perm,fun r hr=>⟨by rw[h.clen];exact hr,h.perm r⟩⟩
theorem Ze.fol {K:Nat} {S T:SM} (h:Ze K S) (k:FolEq S T):Ze K T :=
 h.mono k.al0 (by rw[k.ends];exact h.e0) (h.ex.move k.ids k.clen k.st k.al.rest.1 k.al.same.2.1 k.al.same.1 k.fresh k.al.vlen) (by rw[k.al.rest.1];exact Nat.le_refl _)
theorem FolEq.plus {S T:SM} (h:FolEq S T):FolEq { S with fresh:=S.fresh+1 } { T with fresh:=T.fresh+1 }:=by
 obtain⟨⟨a,b,c⟩,d,e,f,g,i,j,k,l⟩:=h
 exact⟨⟨a,b,c⟩,congrArg (·+1) d,e,f,g,i,j,k,l⟩
theorem UnI.fol {S T:SM} (h:UnI S) (k:FolEq S T):UnI T:=h.mono k.clen k.perm fun l a b=>by
 obtain⟨x,y⟩:=k.isL l (by omega)
 rw[x,y];exact⟨a,b⟩
theorem Dead.fol {S T:SM} (h:Dead S) (k:FolEq S T):Dead T:=by
 obtain⟨a,b⟩:=h
 unfold Dead
 rw[k.fresh,k.al.same.1]
 refine⟨a,fun x hx=>?_⟩
 have:=b x hx
 rw[(k.isL _ (by omega)).1];exact this
theorem lev0 {S:SM} (h:TrI S) (e0:S.ends=[]) {l:Nat} (hl:S.isL l≠0):gn S.level (l/2)=0:=by
 have:=h.lev_le hl
 rw[e0] at this
 simpa using this
theorem UnI.snoc {S T:SM} (h:UnI S) {c:List Nat} (hcl:∀ r,T.cl r=if r=S.cls.length then c else S.cl r) (hl:T.cls.length=S.cls.length+1) (hk:∀ l,S.isL l=1→gn S.level (l/2)=0→T.isL l=1∧gn T.level (l/2)=0)
  (hc:c.length≤1→c.length=1∧T.isL (gn c 0)=1∧gn T.level (gn c 0/2)=0):UnI T:=fun r hr hrl=>by
 rw[hcl] at hrl ⊢
 split at hrl
 ·rename_i e;rw[if_pos e];exact hc hrl
 ·rename_i e;rw[if_neg e]
  obtain⟨a,b,d⟩:=h r (by omega) hrl
  exact⟨a,hk _ b d⟩
structure Begun1 (K:Nat) (S:SM) (R:SM×Int):Prop where
 al:Al1 S R.1
 told:R.1.told=S.told∧R.1.core=S.core
 fresh:R.1.fresh=S.fresh
 ze:Ze (K+1) R.1
 no:R.2≠-1→R.2=(S.cls.length:Nat)∧S.cls.length<R.1.cls.length∧(∀ x∈R.1.cl S.cls.length,R.1.isL x=-1)∧FoI (nx R.1 0)∧Dead R.1
 yes:R.2=-1→Ze K { R.1 with fresh:=R.1.fresh+1 }∧FoI R.1∧UnI R.1
theorem Ze.begin1 {K:Nat} {S:SM} (h:Ze K S) (hF:FoI S) (hu:UnI S∨Dead S) (hi:S.fresh<S.given.length) (hk:K<100000):Begun1 K S (S.begin_ S.fresh):=by
 obtain⟨hn,hc⟩:=begins_ok h hi
 have hs:=begins_spec S S.fresh
 have hm0:Dead S→(S.begins S.fresh).2=0:=fun ⟨_,hd⟩=>by
  apply Classical.byContradiction;intro hne
  have hle:=hs.le
  have h1:=hs.yes 0 (by omega)
  obtain⟨y,hy,e⟩:=List.mem_map.1 (hs.perm.mem_iff.1 (gn_mem (S.begins S.fresh).1 0 (by omega)))
  have:=hd y hy
  rw[e] at this
  omega
 unfold SM.begin_
 obtain⟨R,hR⟩:∃ R,S.begins S.fresh=R:=⟨_,rfl⟩
 rw[hR] at hs hn hc hm0 ⊢
 obtain⟨c,m⟩:=R
 simp only at hs hn hc hm0 ⊢
 have hsy:=hs.yes
 have hsn:=hs.no
 have hsl:=hs.le
 have hsp:=hs.perm
 simp only at hsy hsn hsl hsp
 obtain⟨ws,ea,hwl⟩:=attach_same S c S.fresh
 obtain⟨z1,z2,z3⟩:=h.attach hsp hi hk (T:=S.attach c S.fresh) ⟨ws,S.value,S.level,S.reason,S.trail,ea⟩ (by rw[ea])
 have hL:∀ l,(S.attach c S.fresh).isL l=S.isL l:=fun l=>by rw[ea];rfl
 have hlv:(S.attach c S.fresh).level=S.level:=by rw[ea]
 have hcll:(S.attach c S.fresh).cls.length=S.cls.length+1:=by rw[attach_cls];simp
 by_cases hm:m=0
 ·rw[if_pos hm]
  refine⟨⟨by rw[ea];exact⟨rfl,rfl,rfl,rfl⟩,by rw[ea];exact⟨rfl,rfl,rfl⟩,by rw[ea]⟩,by rw[ea];exact⟨rfl,rfl⟩,by rw[ea],z1,fun _=>⟨rfl,by rw[hcll];omega,fun x hx=>?_,(hF.nx0 h.e0).attach0 _ hn hc,?_⟩,fun k=>by exfalso;have k2:((S.cls.length:Nat):Int)=-1:=k;omega⟩
  ·rw[z3,if_pos rfl] at hx
   obtain⟨j,hj,rfl⟩:=mem_gn hx
   rw[hL]
   have h1:=hsn j (by omega) hj
   rcases isL_val hF.tr.vals (gn c j) with k | k | k <;> omega
  ·unfold Dead
   have e1:(S.attach c S.fresh).fresh=S.fresh:=by rw[ea]
   have e2:(S.attach c S.fresh).given=S.given:=by rw[ea]
   rw[e1,e2]
   refine⟨hi,fun x hx=>?_⟩
   rw[hL]
   obtain⟨j,hj,ej⟩:=mem_gn (hsp.mem_iff.2 (List.mem_map_of_mem hx:packF x∈_))
   rw[←ej]
   have h1:=hsn j (by omega) hj
   rcases isL_val hF.tr.vals (gn c j) with k | k | k <;> omega
 ·rw[if_neg hm]
  have hU:UnI S:=hu.resolve_right fun k=>hm (hm0 k)
  have c0:0<c.length:=by omega
  have hy0:=hsy 0 (by omega)
  by_cases hb:(decide (m=1)&&(S.attach c S.fresh).isL (gn c 0)==0)=true
  ·rw[if_pos hb]
   simp only[Bool.and_eq_true,decide_eq_true_eq,beq_iff_eq] at hb
   obtain⟨hm1,hz⟩:=hb
   rw[hL] at hz
   have hcv:=(hc _ (gn_mem _ _ c0)).2
   have hF2:=hF.attach_set (c:=c) (d:=S.fresh) c0 hn hc hz (fun j a b=>by
    have h1:=hsn j (by omega) b
    rcases isL_val hF.tr.vals (gn c j) with k | k | k <;> omega) (fun h1=>by
    have h2:=hsn 1 (by omega) h1
    rw[lev0 hF.tr h.e0 (by omega),h.e0];rfl)
   obtain⟨A,hA⟩:∃ A,S.attach c S.fresh=A:=⟨_,rfl⟩
   rw[hA] at hF2 hL hlv hcll ea z3 ⊢
   have hvA:gn c 0/2<A.value.length:=by rw[ea];exact hcv
   have hlA:gn c 0/2<A.level.length:=by rw[hlv,hF.tr.sz.level];exact hcv
   have hvl:(A.setL (gn c 0) (S.cls.length:Nat)).value.length=S.value.length:=by
    rw[(beside_setL A _ _).vlen,ea]
   obtain⟨z4,z5,z6⟩:=h.attach hsp hi hk (T:=A.setL (gn c 0) (S.cls.length:Nat)) ⟨ws,_,_,_,_,by rw[ea];rfl⟩ hvl
   have hcc:(A.setL (gn c 0) (S.cls.length:Nat)).cls.length=S.cls.length+1:=hcll
   refine⟨⟨by rw[ea];exact⟨rfl,rfl,rfl,rfl⟩,by rw[ea];exact⟨rfl,rfl,rfl⟩,hvl⟩,by rw[ea];exact⟨rfl,rfl⟩,by rw[ea];rfl,z4,fun k=>absurd rfl k,fun _=>⟨z5,hF2,?_⟩⟩
   refine hU.snoc z6 hcc (fun l p q=>?_) fun hc1=>⟨by omega,by rw[isL_setL hvA,if_pos rfl],?_⟩
   ·have hne:l/2≠gn c 0/2:=fun e=>by
     have:=isL_zero.1 hz
     rw[←e] at this
     rw[isL_zero.2 this] at p
     cases p
    constructor
    ·rw[isL_setL hvA,if_neg (fun e=>hne (by rw[e])),if_neg (fun e=>hne (by rw[e,negL_half])),hL];exact p
    ·show gn (A.level.set _ _) _=_
     rw[gn_set hlA,if_neg hne,hlv];exact q
   ·show gn (A.level.set _ _) _=_
    rw[gn_set hlA,if_pos rfl,ea]
    show S.ends.length=0
    rw[h.e0];rfl
  ·rw[if_neg hb]
   simp only[Bool.and_eq_true,decide_eq_true_eq,beq_iff_eq,not_and] at hb
   have hcase:2≤m∨(m=1∧S.isL (gn c 0)=1):=by
    by_cases e:m=1
    ·right
     refine⟨e,?_⟩
     have:=hb e
     rw[hL] at this
     rcases isL_val hF.tr.vals (gn c 0) with k | k | k <;> omega
    ·left;omega
   have hF2:=hF.attach (c:=c) (d:=S.fresh) hn hc fun h1=>⟨fun hp=>by
     have:=hp.false hF.tr
     rw[this] at hy0;omega,fun hp=>by
     have h2:=hp.false hF.tr
     rcases hcase with k | ⟨k1,k2⟩
     ·have:=hsy 1 (by omega)
      omega
     ·exact⟨k2,by rw[lev0 hF.tr h.e0 (by omega)];exact Nat.zero_le _⟩⟩
   refine⟨⟨by rw[ea];exact⟨rfl,rfl,rfl,rfl⟩,by rw[ea];exact⟨rfl,rfl,rfl⟩,by rw[ea]⟩,by rw[ea];exact⟨rfl,rfl⟩,by rw[ea],z1,fun k=>absurd rfl k,fun _=>⟨z2,hF2,?_⟩⟩
   refine hU.snoc z3 hcll (fun l p q=>by rw[hL,hlv];exact⟨p,q⟩) fun hc1=>⟨by omega,?_⟩
   rcases hcase with k | ⟨k1,k2⟩
   ·omega
   ·rw[hL,hlv];exact⟨k2,lev0 hF.tr h.e0 (by omega)⟩
end Go.Proofs.YthbbmdnfkkffjaaGreat
