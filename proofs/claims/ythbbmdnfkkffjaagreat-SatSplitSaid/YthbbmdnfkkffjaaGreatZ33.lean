/-
  Parts of the proof, joined by program: Pi33, Pi34, New.
-/
import Derived.Test.YthbbmdnfkkffjaaGreatZ32
import Derived.Test.YthbbmdnfkkffjaaGreatZ31
namespace Go.Proofs.YthbbmdnfkkffjaaGreat
open Go.Proofs.PlaitPure Go.Proofs.PlaitSat
theorem FoI.fresh {S:SM} (h:FoI S) (n:Nat):FoI { S with fresh:=n } :=
 ⟨h.tr.congr ⟨h.tr.sz.level,h.tr.sz.reason,h.tr.sz.phase,h.tr.sz.occurs,h.tr.sz.units,h.tr.sz.watches⟩ rfl rfl rfl rfl rfl (Nat.le_refl _) (fun _ _ _=>Iff.rfl),⟨h.cl.nd,h.cl.two⟩,⟨h.wa.nd,h.wa.iff⟩,⟨⟨⟨h.hp.hi.hb.small,h.hp.hi.hb.vars,h.hp.hi.hb.place,h.hp.hi.hb.met,h.hp.hi.hb.hl⟩,h.hp.hi.pl,h.hp.hi.bk⟩,h.hp.nz,h.hp.all⟩,h.pi,h.ne,h.en⟩
structure Ends (K:Nat) (S R:SM):Prop where
 al:Al1 S R
 ze:Ze K R
 fo:FoI (nx R 0)
 un:UnI R∨Dead R
 told:R.told=2∧R.core=[]
 no:∀ a,¬ ModG a R
theorem Ze.ended {K:Nat} {S:SM} (h:Ze K S) (hF:FoI (nx S 0)) (hu:UnI S∨Dead S) {bad:Nat} (hb:bad<S.cls.length) (hn:∀ x∈S.cl bad,S.isL x=-1) :
  EnOk S bad (Zero S) (rkT S)∧Ends K S (S.ended bad):=by
 have hx0:ExI K (nx S 0):=⟨h.ex.ids,h.ex.pot,h.ex.wm,h.ex.mo,h.ex.fr,h.ex.cn,h.ex.kk⟩
 have hk:=hF.enOk hx0 (bad:=bad) (by show S.ends.length=0;rw[h.e0];rfl) hb hn
 have hen:EnOk S bad (Zero S) (rkT S):=⟨⟨hk.un.units,hk.un.reason,hk.un.small,hk.un.cls,hk.un.pot,hk.un.ids,hk.un.z,hk.un.r⟩,hk.rk,hk.lt,hk.z,hk.len⟩
 have hu2:=(unitAll_unt ((S.cl bad).map (·/2)) [S.id bad] hen.un (fun v hv=>by
  obtain⟨x,hx,rfl⟩:=List.mem_map.1 hv
  exact hen.z x hx) fun v hv=>hen.rk v hv).1
 refine⟨hen,?_⟩
 have e:S.ended bad={ (S.unitAll ((S.cl bad).map (·/2)) [S.id bad]).1 with core:=[],last:=(S.unitAll ((S.cl bad).map (·/2)) [S.id bad]).2,told:=2 }:=rfl
 rw[e]
 obtain⟨T,hT⟩:∃ T,(S.unitAll ((S.cl bad).map (·/2)) [S.id bad]).1=T:=⟨_,rfl⟩
 obtain⟨la,hla⟩:∃ la,(S.unitAll ((S.cl bad).map (·/2)) [S.id bad]).2=la:=⟨_,rfl⟩
 rw[hT] at hu2
 rw[hT,hla]
 have hF2:FoI (nx T 0):=by
  refine hF.sim ?_ ?_
  ·obtain⟨⟨u,st,et⟩,h1,h2,_⟩:=hu2
   subst et
   exact⟨⟨_,_,_,u,st,rfl⟩,h1,h2⟩
  ·have h3:=hF.hp
   obtain⟨⟨u,st,et⟩,_,_,_⟩:=hu2
   subst et
   exact⟨⟨⟨h3.hi.hb.small,h3.hi.hb.vars,h3.hi.hb.place,h3.hi.hb.met,h3.hi.hb.hl⟩,h3.hi.pl,h3.hi.bk⟩,h3.nz,h3.all⟩
 have hex:ExI K T:=h.ex.sim (sim_unt hu2)
 obtain⟨⟨u,st,et⟩,h1,h2,_⟩:=hu2
 have hze:Ze K { T with core:=[],last:=la,told:=2 }:=by
  refine h.mono (T:={ T with core:=[],last:=la,told:=2 }) ?_ (by subst et;exact h.e0) ⟨hex.ids,hex.pot,hex.wm,hex.mo,hex.fr,hex.cn,hex.kk⟩ (by subst et;exact Nat.le_refl _)
  subst et
  exact⟨⟨rfl,rfl,rfl,rfl,rfl⟩,rfl,fun _ k=>k,fun r k=>⟨k,List.Perm.refl _⟩⟩
 refine⟨?_,hze,hF2.told [] la 2 T.model,?_,⟨rfl,rfl⟩,fun a x=>?_⟩
 ·subst et
  exact⟨⟨rfl,rfl,rfl,rfl⟩,⟨rfl,rfl,rfl⟩,rfl⟩
 ·subst et
  rcases hu with k | k
  ·exact .inl k
  ·exact .inr k
 ·subst et
  have x2:ModC a S:=h.en a x
  obtain⟨l,hl,ht⟩:=x2 bad hb
  have hf:=hn l hl
  have htr:TrI S:=hF.tr.congr ⟨hF.tr.sz.level,hF.tr.sz.reason,hF.tr.sz.phase,hF.tr.sz.occurs,hF.tr.sz.units,hF.tr.sz.watches⟩ rfl rfl rfl rfl rfl (Nat.le_refl _) (fun _ _ _=>Iff.rfl)
  rw[x2.zero_no htr hf (lev0 htr h.e0 (by omega))] at ht
  cases ht
theorem Ends.al1 {K:Nat} {S T R:SM} (k:Al1 S T) (h:Ends K T R):Ends K S R:=⟨k.trans h.al,h.ze,h.fo,h.un,h.told,h.no⟩
theorem Ze.bgOk {K:Nat} {S:SM} (h:Ze K S) (hF:FoI S) (hi:S.fresh<S.given.length):BgOk S S.fresh:=by
 have hw:=h.ex.words
 have hg:=h.gw
 have hc:=h.ex.cls
 have hs:=hF.hp.hi.hb.small
 obtain⟨g1,g2⟩:=h.gs _ (gl_mem hi)
 refine⟨by omega,fun x hx=>(g2 x hx).2.1,?_,hF.lkOk (by omega),fun x hx=>by rw[packF_half];exact (g2 x hx).2.2,by omega⟩
 have:=nodup_lt (n:=S.value.length) g1 fun v hv=>by
  obtain⟨x,hx,rfl⟩:=List.mem_map.1 hv
  exact (g2 x hx).2.2
 rw[List.length_map] at this
 omega
structure Starts (K:Nat) (S:SM) (R:SM×Bool):Prop where
 yes:R.2=true→Al1 S R.1∧Ze K R.1∧FoI R.1∧UnI R.1∧R.1.fresh=R.1.given.length∧R.1.told=S.told∧R.1.core=S.core
 no:R.2=false→Ends (K+1) S R.1
theorem Ze.start {K:Nat} (hk:K<100000):∀ (f:Nat) (S:SM),f=S.given.length-S.fresh→Ze K S→FoI S→(UnI S∨Dead S)→startOk f S∧Starts K S (SM.startGo f S)
 | 0,S,hf,h,hF,hu=>by
  have hw:=h.ex.words
  have hg:=h.gw
  have hfr:=h.ex.fr
  rw[SM.startGo]
  exact⟨by show S.given.length≤_;omega,fun _=>⟨Al1.refl S,h,hF,hu.resolve_right fun k=>by have:=k.1;omega,by show S.fresh=S.given.length;omega,rfl,rfl⟩,fun k=>by cases k⟩
 | f+1,S,hf,h,hF,hu=>by
  have hi:S.fresh<S.given.length:=by omega
  have hb:=h.begin1 hF hu hi hk
  have hbg:=h.bgOk hF hi
  rw[startGo_succ]
  unfold startOk
  have hst:started S=if (S.begin_ S.fresh).2=-1 then (S.begin_ S.fresh).1.follow else S.begin_ S.fresh:=rfl
  obtain⟨R,hR⟩:∃ R,S.begin_ S.fresh=R:=⟨_,rfl⟩
  rw[hR] at hb hst ⊢
  by_cases h1:R.2=-1
  ·rw[if_pos h1] at hst
   obtain⟨y1,y2,y3⟩:=hb.yes h1
   have hfl:=y2.flOk hb.ze.ex
   have hfe:=folEq y2
   obtain⟨F,_⟩:=follow_fold y2
   rw[hst]
   obtain⟨P,hP⟩:∃ P,R.1.follow=P:=⟨_,rfl⟩
   rw[hP] at hfe F ⊢
   have hal:=hb.al.trans hfe.al
   have hfr:P.1.fresh=S.fresh:=by rw[hfe.fresh,hb.fresh]
   by_cases h2:P.2=-1
   ·rw[if_pos h2]
    have z1:Ze K { P.1 with fresh:=P.1.fresh+1 }:=y1.fol hfe.plus
    have z2:UnI { P.1 with fresh:=P.1.fresh+1 }:=(show UnI P.1 from y3.fol hfe)
    have hfo:FoI { P.1 with fresh:=P.1.fresh+1 }:=F.fo.fresh (P.1.fresh+1)
    obtain⟨s1,s2⟩:=Ze.start hk f { P.1 with fresh:=P.1.fresh+1 } (by show f=P.1.given.length-(P.1.fresh+1);rw[hal.same.1,hfr];omega) z1 hfo (.inl z2)
    have hal2:Al1 S { P.1 with fresh:=P.1.fresh+1 }:=hal.trans ⟨⟨rfl,rfl,rfl,rfl⟩,⟨rfl,rfl,rfl⟩,rfl⟩
    refine⟨⟨hbg,fun _=>hfl,fun _=>⟨s1,hal.same.1,hfr⟩,fun k=>absurd h2 k⟩,fun k=>?_,fun k=>(s2.no k).al1 hal2⟩
    obtain⟨a1,a2,a3,a4,a5,a6,a7⟩:=s2.yes k
    exact⟨hal2.trans a1,a2,a3,a4,a5,a6.trans (hfe.told.1.trans hb.told.1),a7.trans (hfe.told.2.1.trans hb.told.2)⟩
   ·rw[if_neg h2]
    obtain⟨r,hre,hall,_⟩:∃ r:Nat,P.2=r∧AllNo P.1 r∧∃ l∈P.1.cl r,gn P.1.level (l/2)=P.1.ends.length:=by
     rcases F.out with ⟨k,_⟩ | k
     ·exact absurd k h2
     ·exact k
    have hrn:P.2.toNat=r:=by rw[hre];exact Int.toNat_natCast r
    rw[hrn]
    have zP:=hb.ze.fol hfe
    obtain⟨e1,e2⟩:=zP.ended (F.fo.nx0 zP.e0) (.inl (y3.fol hfe)) hall.1 hall.2.2
    exact⟨⟨hbg,fun _=>hfl,fun k=>absurd k h2,fun _=>⟨by omega,_,_,e1⟩⟩,fun k=>(by cases k),fun _=>e2.al1 hal⟩
  ·rw[if_neg h1] at hst
   rw[hst,if_neg h1]
   obtain⟨n1,n2,n3,n4,n5⟩:=hb.no h1
   have hrn:R.2.toNat=S.cls.length:=by rw[n1];exact Int.toNat_natCast _
   rw[hrn]
   obtain⟨e1,e2⟩:=hb.ze.ended n4 (.inr n5) n2 n3
   exact⟨⟨hbg,fun k=>absurd k h1,fun k=>absurd k h1,fun _=>⟨by omega,_,_,e1⟩⟩,fun k=>(by cases k),fun _=>e2.al1 hb.al⟩
end Go.Proofs.YthbbmdnfkkffjaaGreat
namespace Go.Proofs.YthbbmdnfkkffjaaGreat
open Go.Proofs.PlaitPure Go.Proofs.PlaitSat
structure Zs (K:Nat) (S:SM):Prop where
 ze:Ze K S
 fo:FoI (nx S 0)
 un:UnI S∨Dead S
 vs:S.value.length≤65537
structure Gr (S T:SM):Prop where
 same:T.given=S.given∧T.fresh=S.fresh∧T.most=S.most∧T.conf=S.conf∧T.words=S.words
 rest:T.learned=S.learned∧T.model=S.model∧T.told=S.told∧T.core=S.core
 cls:T.cls=S.cls
 le:S.value.length≤T.value.length
 isL:∀ l,T.isL l=S.isL l
 oc:∀ v,gB T.occurs v=gB S.occurs v
theorem Gr.refl (S:SM):Gr S S:=⟨⟨rfl,rfl,rfl,rfl,rfl⟩,⟨rfl,rfl,rfl,rfl⟩,rfl,Nat.le_refl _,fun _=>rfl,fun _=>rfl⟩
theorem Gr.trans {S T U:SM} (h:Gr S T) (k:Gr T U):Gr S U:=by
 obtain⟨a1,a2,a3,a4,a5⟩:=h.same
 obtain⟨b1,b2,b3,b4,b5⟩:=k.same
 obtain⟨c1,c2,c3,c4⟩:=h.rest
 obtain⟨d1,d2,d3,d4⟩:=k.rest
 exact⟨⟨b1.trans a1,b2.trans a2,b3.trans a3,b4.trans a4,b5.trans a5⟩,⟨d1.trans c1,d2.trans c2,d3.trans c3,d4.trans c4⟩,k.cls.trans h.cls,Nat.le_trans h.le k.le,fun l=>(k.isL l).trans (h.isL l),fun v=>(k.oc v).trans (h.oc v)⟩
theorem gi_snoc0 (l:List Int) (v:Nat):gi (l++[0]) v=gi l v:=by
 unfold gi
 rw[List.getD_eq_getElem?_getD,List.getD_eq_getElem?_getD]
 by_cases h:v<l.length
 ·rw[List.getElem?_append_left h]
 ·rw[List.getElem?_append_right (by omega),List.getElem?_eq_none (show l.length≤v by omega)]
  by_cases e:v-l.length=0
  ·rw[e];rfl
  ·rw[List.getElem?_eq_none (by simp;omega)]
theorem gi_snocL (l:List Int) (x:Int) {v:Nat} (h:v<l.length):gi (l++[x]) v=gi l v:=by
 unfold gi
 rw[List.getD_eq_getElem?_getD,List.getD_eq_getElem?_getD,List.getElem?_append_left h]
theorem gB_snoc0 (l:List Bool) (v:Nat):gB (l++[false]) v=gB l v:=by
 unfold gB
 rw[List.getD_eq_getElem?_getD,List.getD_eq_getElem?_getD]
 by_cases h:v<l.length
 ·rw[List.getElem?_append_left h]
 ·rw[List.getElem?_append_right (by omega),List.getElem?_eq_none (show l.length≤v by omega)]
  by_cases e:v-l.length=0
  ·rw[e];rfl
  ·rw[List.getElem?_eq_none (by simp;omega)]
theorem gN_snoc (l:List (List Nat)) (v:Nat):gN (l++[[],[]]) v=gN l v:=by
 unfold gN
 rw[List.getD_eq_getElem?_getD,List.getD_eq_getElem?_getD]
 by_cases h:v<l.length
 ·rw[List.getElem?_append_left h]
 ·rw[List.getElem?_append_right (by omega),List.getElem?_eq_none (show l.length≤v by omega)]
  match hk:v-l.length with
  | 0=>rfl
  | 1=>rfl
  | n+2=>rw[List.getElem?_eq_none (by simp)]
theorem more1_isL (S:SM) (l:Nat):(more1 S).isL l=S.isL l:=by
 unfold SM.isL
 show (if l % 2=1 then -(gi (S.value++[0]) (l/2)) else gi (S.value++[0]) (l/2))=_
 rw[gi_snoc0]
theorem more1_hinv {S:SM} (h:HInv S) (hv:S.value.length<65537):HInv (more1 S):=by
 have hlen:(more1 S).value.length=S.value.length+1:=by show (S.value++[0]).length=_;simp
 have hpl:=h.hb.place
 have hhl:(more1 S).hl=S.hl:=rfl
 have hp:(more1 S).place=S.place++[0]:=rfl
 have hm:(more1 S).met=S.met++[0]:=rfl
 refine⟨⟨by omega,fun x hx=>?_,?_,?_,?_⟩,fun i hi=>?_,fun v hv2 hz=>?_⟩
 ·rw[hhl] at hx
  have:=h.hb.vars x hx
  omega
 ·rw[hp,hlen];simp;exact hpl
 ·rw[hm,hlen];simp;exact h.hb.met
 ·rw[hhl,hlen];have:=h.hb.hl;omega
 ·rw[hhl] at hi ⊢
  rw[hp,gn_app_left (by rw[hpl];exact h.hb.vars _ (gn_mem _ _ hi))]
  exact h.pl i hi
 ·rw[hp] at hz ⊢
  rw[hhl]
  by_cases e:v<S.place.length
  ·rw[gn_app_left e] at hz ⊢
   exact h.bk v (by omega) hz
  ·exfalso
   have:v=S.place.length:=by omega
   rw[this,gn_last] at hz
   exact hz rfl
theorem Zs.more1 {K:Nat} {S:SM} (h:Zs K S) (hv:S.value.length<65537):TrI (nx (more1 S) 0)∧ClI (nx (more1 S) 0)∧WaI (nx (more1 S) 0)∧HInv (more1 S):=by
 have ht:=h.fo.tr
 have hz:=ht.sz
 have hlen:(YthbbmdnfkkffjaaGreat.more1 S).value.length=S.value.length+1:=by show (S.value++[0]).length=_;simp
 obtain⟨A,hA⟩:∃ A,YthbbmdnfkkffjaaGreat.more1 S=A:=⟨_,rfl⟩
 have a1:A.value=S.value++[0]:=by rw[←hA];rfl
 have a2:A.level=S.level++[0]:=by rw[←hA];rfl
 have a3:A.reason=S.reason++[-1]:=by rw[←hA];rfl
 have a4:A.phase=S.phase++[false]:=by rw[←hA];rfl
 have a5:A.occurs=S.occurs++[false]:=by rw[←hA];rfl
 have a6:A.watches=S.watches++[[],[]]:=by rw[←hA];rfl
 have a7:A.units=S.units++[-1]:=by rw[←hA];rfl
 have a8:A.trail=S.trail:=by rw[←hA];rfl
 have a9:A.ends=S.ends:=by rw[←hA];rfl
 have a10:A.cls=S.cls:=by rw[←hA];rfl
 have aL:∀ l,A.isL l=S.isL l:=fun l=>by rw[←hA];exact more1_isL S l
 have acl:∀ r,A.cl r=S.cl r:=fun r=>by unfold SM.cl;rw[a10]
 have z1:S.level.length=S.value.length:=hz.level
 have z2:S.reason.length=S.value.length:=hz.reason
 have z3:S.phase.length=S.value.length:=hz.phase
 have z4:S.occurs.length=S.value.length:=hz.occurs
 have z5:S.units.length=S.value.length:=hz.units
 have z6:S.watches.length=2*S.value.length:=hz.watches
 have hi:=more1_hinv (S:=S) ⟨⟨h.fo.hp.hi.hb.small,h.fo.hp.hi.hb.vars,h.fo.hp.hi.hb.place,h.fo.hp.hi.hb.met,h.fo.hp.hi.hb.hl⟩,h.fo.hp.hi.pl,h.fo.hp.hi.bk⟩ hv
 rw[hA] at hlen hi ⊢
 have hlt:∀ i,i<S.trail.length→gn S.trail i/2<S.value.length:=ht.lt
 refine⟨⟨⟨?_,?_,?_,?_,?_,?_⟩,?_,?_,?_,?_,?_,?_,?_,?_,?_,?_⟩,⟨?_,?_⟩,⟨?_,?_⟩,hi⟩
 ·show A.level.length=A.value.length;rw[a1,a2];simp[z1]
 ·show A.reason.length=A.value.length;rw[a1,a3];simp[z2]
 ·show A.phase.length=A.value.length;rw[a1,a4];simp[z3]
 ·show A.occurs.length=A.value.length;rw[a1,a5];simp[z4]
 ·show A.units.length=A.value.length;rw[a1,a7];simp[z5]
 ·show A.watches.length=2*A.value.length;rw[a1,a6];simp[z6];omega
 ·intro x hx
  have hx2:x∈S.value++[0]:=by rw[←a1];exact hx
  rcases List.mem_append.1 hx2 with k | k
  ·exact ht.vals x k
  ·rw[List.mem_singleton] at k;rw[k];exact .inr (.inr rfl)
 ·show ∀ i,i<A.trail.length→2≤gn A.trail i;rw[a8];exact ht.two
 ·show ∀ i,i<A.trail.length→gn A.trail i/2<A.value.length
  rw[a8,hlen];intro i hi2;have:=hlt i hi2;omega
 ·show ∀ i,i<A.trail.length→A.isL (gn A.trail i)=1
  rw[a8];intro i hi2;rw[aL];exact ht.is i hi2
 ·show ∀ i,i<A.trail.length→gn A.level (gn A.trail i/2)=levAt A i
  rw[a8,a2];intro i hi2
  rw[gn_app_left (by rw[z1];exact hlt i hi2),levAt_same a9]
  exact ht.lev i hi2
 ·show ∀ i j,i<A.trail.length→j<A.trail.length→_→_
  rw[a8];intro i j p q e
  have e2:gn A.trail i/2=gn A.trail j/2:=e
  rw[a8] at e2
  exact ht.inj i j p q e2
 ·show ∀ v,v<A.value.length→gi A.value v≠0→∃ i,i<A.trail.length∧gn A.trail i/2=v
  rw[a8,a1];intro v hv2 hz2
  rw[gi_snoc0] at hz2
  have:v<S.value.length:=by
   apply Classical.byContradiction;intro k;exact hz2 (pgi_out (by omega))
  exact ht.all v this hz2
 ·show ∀ e∈A.ends,e≤A.trail.length;rw[a9,a8];exact ht.ends
 ·show A.ends.Pairwise (·≤·);rw[a9];exact ht.mono
 ·intro i hi2
  have hi3:i<S.trail.length:=by rw[←a8];exact hi2
  have hw:=ht.why i hi3
  unfold Why at hw ⊢
  show (gi A.reason (gn A.trail i/2)=-1∧i∈A.ends)∨∃ r:Nat,gi A.reason (gn A.trail i/2)=r∧r<A.cls.length∧gn A.trail i∈A.cl r∧∀ k∈A.cl r,k≠gn A.trail i→∃ j,j<i∧gn A.trail j=negL k
  rw[a3,a8,a9,a10,gi_snocL _ _ (by rw[z2];exact hlt i hi3)]
  rcases hw with k | ⟨r,k1,k2,k3,k4⟩
  ·exact .inl k
  ·exact .inr ⟨r,k1,k2,by rw[acl];exact k3,fun x hx=>by rw[acl] at hx;exact k4 x hx⟩
 ·intro r hr
  show ((A.cl r).map (·/2)).Nodup
  rw[acl];exact h.fo.cl.nd r (by have hr2:r<A.cls.length:=hr;rw[a10] at hr2;exact hr2)
 ·intro r hr x hx
  have hx2:x∈A.cl r:=hx
  rw[acl] at hx2
  have:=h.fo.cl.two r (by have hr2:r<A.cls.length:=hr;rw[a10] at hr2;exact hr2) x hx2
  have h3:x/2<S.value.length:=this.2
  exact⟨this.1,by show _<A.value.length;omega⟩
 ·intro l
  show (gN A.watches l).Nodup
  rw[a6,gN_snoc];exact h.fo.wa.nd l
 ·intro l r
  show r∈gN A.watches l↔(r<A.cls.length∧2≤(A.cl r).length∧(l=gn (A.cl r) 0∨l=gn (A.cl r) 1))
  rw[a6,gN_snoc,a10,acl]
  exact h.fo.wa.iff l r
theorem Zs.more {K:Nat} {S:SM} (h:Zs K S) (hv:S.value.length<65537):GrOk S∧Zs K S.more∧Gr S S.more∧S.more.value.length=S.value.length+1:=by
 obtain⟨t1,t2,t3,t4⟩:=h.more1 hv
 have hz:=h.fo.tr.sz
 have z1:S.level.length=S.value.length:=hz.level
 have z2:S.reason.length=S.value.length:=hz.reason
 have z3:S.phase.length=S.value.length:=hz.phase
 have z4:S.occurs.length=S.value.length:=hz.occurs
 have z5:S.units.length=S.value.length:=hz.units
 have z6:S.watches.length=2*S.value.length:=hz.watches
 have z7:S.place.length=S.value.length:=h.fo.hp.hi.hb.place
 have z8:S.met.length=S.value.length:=h.fo.hp.hi.hb.met
 have z9:S.hl.length≤S.value.length:=h.fo.hp.hi.hb.hl
 refine⟨⟨by omega,by omega,by omega,by omega,by omega,by omega,by omega,by omega,by omega,fun _=>⟨t4.hb,by omega⟩⟩,?_⟩
 have hlen:(YthbbmdnfkkffjaaGreat.more1 S).value.length=S.value.length+1:=by show (S.value++[0]).length=_;simp
 have hgr:Gr S (YthbbmdnfkkffjaaGreat.more1 S):=⟨⟨rfl,rfl,rfl,rfl,rfl⟩,⟨rfl,rfl,rfl,rfl⟩,rfl,by omega,more1_isL S,fun v=>gB_snoc0 S.occurs v⟩
 have hpd:∀ v,gi (YthbbmdnfkkffjaaGreat.more1 S).value v=gi S.value v:=fun v=>gi_snoc0 S.value v
 have hun:(YthbbmdnfkkffjaaGreat.more1 S).units=S.units++[-1]:=rfl
 have hst:(YthbbmdnfkkffjaaGreat.more1 S).steps=S.steps:=rfl
 have hen:(YthbbmdnfkkffjaaGreat.more1 S).ends=S.ends:=rfl
 have hhl:(YthbbmdnfkkffjaaGreat.more1 S).hl=S.hl:=rfl
 have hlvl:(YthbbmdnfkkffjaaGreat.more1 S).level=S.level++[0]:=rfl
 have key:HOnly (YthbbmdnfkkffjaaGreat.more1 S) S.more∧HpAll S.more:=by
  rw[more_eq]
  by_cases e:S.value.length=0
  ·rw[if_pos e]
   refine⟨HOnly.refl _,t4,?_,fun v h0 hl hz=>by omega⟩
   rw[hhl];exact h.fo.hp.nz
  ·rw[if_neg e]
   have hN:S.value.length<(YthbbmdnfkkffjaaGreat.more1 S).value.length:=by omega
   have hp:=t4.put hN
   have hs:=put_set t4 hN
   have hv2:=put_value (YthbbmdnfkkffjaaGreat.more1 S) S.value.length
   refine⟨⟨_,_,_,put_frame _ _⟩,hp,fun k=>?_,fun v h0 hl hz=>?_⟩
   ·rcases (hs 0).1 k with k | k
    ·rw[hhl] at k;exact h.fo.hp.nz k
    ·omega
   ·rw[hv2] at hl hz
    rw[hpd] at hz
    refine (hs v).2 ?_
    by_cases e2:v=S.value.length
    ·exact .inr e2
    ·left;rw[hhl];exact h.fo.hp.all v h0 (by show v<S.value.length;omega) hz
 obtain⟨A,hA⟩:∃ A,YthbbmdnfkkffjaaGreat.more1 S=A:=⟨_,rfl⟩
 rw[hA] at t1 t2 t3 t4 hlen hgr hpd hun hst hen hlvl key
 obtain⟨⟨hl,pl,mt,e⟩,hpa⟩:=key
 obtain⟨T,hT⟩:∃ T,S.more=T:=⟨_,rfl⟩
 rw[hT] at e hpa ⊢
 have hgr2:Gr S T:=hgr.trans (by rw[e];exact⟨⟨rfl,rfl,rfl,rfl,rfl⟩,⟨rfl,rfl,rfl,rfl⟩,rfl,Nat.le_refl _,fun _=>rfl,fun _=>rfl⟩)
 have hlen2:T.value.length=S.value.length+1:=by rw[e];exact hlen
 have hfo:FoI (nx T 0):=by
  refine⟨?_,?_,?_,?_,fun r hr h2=>⟨?_,?_⟩,Nat.zero_le _,fun x hx=>?_⟩
  ·rw[e]
   exact t1.congr ⟨t1.sz.level,t1.sz.reason,t1.sz.phase,t1.sz.occurs,t1.sz.units,t1.sz.watches⟩ rfl rfl rfl rfl rfl (Nat.le_refl _) (fun _ _ _=>Iff.rfl)
  ·rw[e];exact⟨t2.nd,t2.two⟩
  ·rw[e];exact⟨t3.nd,t3.iff⟩
  ·exact⟨⟨⟨hpa.hi.hb.small,hpa.hi.hb.vars,hpa.hi.hb.place,hpa.hi.hb.met,hpa.hi.hb.hl⟩,hpa.hi.pl,hpa.hi.bk⟩,hpa.nz,hpa.all⟩
  ·rintro⟨i,hi,_⟩;exact absurd hi (Nat.not_lt_zero i)
  ·rintro⟨i,hi,_⟩;exact absurd hi (Nat.not_lt_zero i)
  ·have hx2:x∈T.ends:=hx
   rw[e] at hx2
   have hx3:x∈A.ends:=hx2
   rw[hen,h.ze.e0] at hx3
   cases hx3
 obtain⟨g1,g2,g3,g4,g5⟩:=hgr2.same
 have gcl:∀ r,T.cl r=S.cl r:=fun r=>by unfold SM.cl;rw[hgr2.cls]
 have gid:∀ r,T.id r=S.id r:=fun r=>by unfold SM.id;rw[hgr2.cls]
 have hx:=h.ze.ex
 have hwv:T.value.length=S.value.length+1:=hlen2
 have hxT:ExI K T:=by
  refine⟨fun r hr=>by rw[gid];rw[hgr2.cls] at hr;exact hx.ids r hr,?_,by rw[g5,g3];exact hx.wm,by rw[g3];exact hx.mo,by rw[g2,g1];exact hx.fr,by rw[hgr2.cls,g1,g2,g5];exact hx.cn,hx.kk⟩
  have e1:T.steps=S.steps:=by rw[e];exact hst
  have e2:T.units=S.units++[-1]:=by rw[e];exact hun
  rw[e1,e2,g5,hlen2,List.count_append]
  have:=hx.pot
  simp
  omega
 refine⟨⟨⟨?_,hxT,?_,by rw[g1,g5];exact h.ze.gw,?_,?_,by rw[g4];exact h.ze.cf,by rw[g4];exact h.ze.c1,?_⟩,hfo,?_,by omega⟩,hgr2,hlen2⟩
 ·rw[e];show A.ends=[];rw[hen];exact h.ze.e0
 ·rw[g1]
  intro c hc
  obtain⟨u,v⟩:=h.ze.gs c hc
  exact⟨u,fun x hx2=>⟨(v x hx2).1,(v x hx2).2.1,by have:=(v x hx2).2.2;omega⟩⟩
 ·intro i hi
  rw[g2] at hi
  obtain⟨r,hr,hp⟩:=h.ze.gv i hi
  exact⟨r,by rw[hgr2.cls];exact hr,by rw[gcl,g1];exact hp⟩
 ·intro a x r hr
  rw[gcl]
  rw[hgr2.cls] at hr
  exact h.ze.en a (by unfold ModG at x ⊢;rw[g1] at x;exact x) r hr
 ·rw[g1]
  intro c hc x hx2
  rw[hgr2.oc];exact h.ze.oc c hc x hx2
 ·rcases h.un with k | ⟨k1,k2⟩
  ·left
   refine k.mono (by rw[hgr2.cls]) (fun r=>by rw[gcl]) fun l p q=>⟨by rw[hgr2.isL];exact p,?_⟩
   have htr:TrI S:=h.fo.tr.congr ⟨hz.level,hz.reason,hz.phase,hz.occurs,hz.units,hz.watches⟩ rfl rfl rfl rfl rfl (Nat.le_refl _) (fun _ _ _=>Iff.rfl)
   have hlt:l/2<S.value.length:=isL_lt (by omega:S.isL l≠0)
   have e1:T.level=S.level++[0]:=by rw[e];exact hlvl
   rw[e1,gn_app_left (by rw[htr.sz.level];exact hlt)]
   exact q
  ·right
   refine⟨by rw[g2,g1];exact k1,fun x hx2=>?_⟩
   rw[hgr2.isL]
   rw[g1,g2] at hx2
   exact k2 x hx2
theorem Zs.growGo {K:Nat}:∀ (f:Nat) (S:SM),Zs K S→S.value.length+f≤65537→growOk f S∧Zs K (SM.growGo f S)∧Gr S (SM.growGo f S)∧(SM.growGo f S).value.length=S.value.length+f
 | 0,S,h,_=>⟨trivial,h,Gr.refl S,rfl⟩
 | f+1,S,h,hv=>by
  obtain⟨a,b,c,d⟩:=h.more (by omega)
  obtain⟨p,q,r,s⟩:=Zs.growGo f S.more b (by omega)
  rw[SM.growGo]
  exact⟨⟨a,p⟩,q,c.trans r,by omega⟩
theorem Zs.grow {K:Nat} {S:SM} (h:Zs K S) {v:Nat} (hv:v≤65536):growOk (v+1-S.value.length) S∧Zs K (S.grow v)∧Gr S (S.grow v)∧v<(S.grow v).value.length:=by
 have hvs:=h.vs
 obtain⟨a,b,c,d⟩:=Zs.growGo (v+1-S.value.length) S h (by omega)
 exact⟨a,b,c,by show v<(SM.growGo (v+1-S.value.length) S).value.length;omega⟩
end Go.Proofs.YthbbmdnfkkffjaaGreat
namespace Go.Proofs.YthbbmdnfkkffjaaGreat
open Go.RowKit Go.Proofs.PlaitSep Go.Proofs.PlaitPure Go.Proofs.PlaitSat
def MM.nil (most conf:Nat):MM where
 most:=most
 conf:=conf
 words:=0
 given:=⟨none,0,[]⟩
 fresh:=0
 cls:=⟨none,0,[]⟩
 watches:=⟨none,0,[]⟩
 value:=⟨none,0,[]⟩
 level:=⟨none,0,[]⟩
 reason:=⟨none,0,[]⟩
 phase:=⟨none,0,[]⟩
 occurs:=⟨none,0,[]⟩
 trail:=⟨none,0,[]⟩
 ends:=⟨none,0,[]⟩
 next:=0
 hl:=⟨none,0,[]⟩
 place:=⟨none,0,[]⟩
 met:=⟨none,0,[]⟩
 learned:=⟨none,0,[]⟩
 steps:=⟨none,0,[]⟩
 units:=⟨none,0,[]⟩
 model:=⟨none,0,[]⟩
 core:=⟨none,0,[]⟩
 last:=⟨none,0,[]⟩
 told:=0
def new0 (words conf:Int):SM:=MM.sv (MM.nil (min (max words 1) 262144).toNat (min (max conf 1) 2000).toNat)
theorem new_eq (words conf:Int):SM.new words conf=(new0 words conf).grow 0:=rfl
theorem grow0_ok (words conf:Int):growOk 1 (new0 words conf):=by
 refine⟨⟨?_,?_,?_,?_,?_,?_,?_,?_,?_,fun h=>absurd h (by show ¬ 0<0;omega)⟩,trivial⟩ <;> (show 0≤_;omega)
theorem At.start (w:World) (F:HP) (a b:Nat) (hw:St w.heap.size w w F):At w.heap.size w (w.alloc (.cells (cellsM (MM.nil a b)).toArray 92)) w.heap.size (MM.nil a b) F:=by
 have h1:=hw.pt_new (cellsM (MM.nil a b)).toArray 92
 refine⟨h1.conseq ?_,fun _=>rfl⟩
 simp only[parts,Fl.hp,Fl.outer,Fl.rows,clsV,clsH,MM.nil,List.map_nil,List.length_nil,List.flatMap_nil,sl_empty,stars_cons,stars_nil,star_emp]
section
variable {B:Nat} {w0 w:World} {p:Nat} {M:MM} {F:HP}
set_option maxRecDepth 100000 in
set_option maxHeartbeats 4000000 in
theorem SNew_any (a b:Int) (w:World) :
  Calls Tryz.prog 41 #[.int .i64 a,.int .i64 b] w fun e w'=>∃ p M,e=.returned (.pointer (some ⟨p,0,none⟩))∧At w.heap.size w w' p M emp∧M.sv=SM.new a b:=by
 obtain⟨x,hx⟩:∃ x,(min (max a 1) 262144).toNat=x:=⟨_,rfl⟩
 obtain⟨y,hy⟩:∃ y,(min (max b 1) 2000).toNat=y:=⟨_,rfl⟩
 have hx2:min (max a 1) 262144=(x:Int):=by rw[←hx];omega
 have hy2:min (max b 1) 2000=(y:Int):=by rw[←hy];omega
 have h0:=At.start w emp x y (St.start w)
 have HN:=Lib.hid (show SM.new a b=(MM.sv (MM.nil x y)).grow 0 by rw[new_eq];unfold new0;rw[hx,hy])
 have hok:=grow0_ok a b
 unfold new0 at hok
 rw[hx,hy] at hok
 have HOK:=Lib.hid hok
 have hg:=grow_any 0 h0 hok (by omega)
 have hg2:∀ v1 v2:Int,v1=x→v2=y→Calls Tryz.prog 61 #[.pointer (some ⟨w.heap.size,0,none⟩),.int .i64 0] (w.alloc (Obj.cells #[.int .i64 v1,.int .i64 v2,.int .i64 0,.slice none 0 0,.int .i64 0,.slice none 0 0,.slice none 0 0,.slice none 0 0,.slice none 0 0,.slice none 0 0,.slice none 0 0,.slice none 0 0,.slice none 0 0,.slice none 0 0,.int .i64 0,.slice none 0 0,.slice none 0 0,.slice none 0 0,.slice none 0 0,.slice none 0 0,.slice none 0 0,.slice none 0 0,.slice none 0 0,.slice none 0 0,.int .i64 0] 92)) fun e w'=>e=.returned (.tuple #[])∧∃ M',At w.heap.size w w' w.heap.size M' emp∧M'.sv=(MM.sv (MM.nil x y)).grow 0:=by
  rintro v1 v2 rfl rfl
  exact hg
 have HG:=Lib.hid hg2
 clear h0 hok hx hy hg hg2
 go_enter Tryz.func41,Tryz.ntmps41
 go_wp2_with fail
 all_goals
  refine (HG.out _ _ (by omega) (by omega)).mono ?_
  rintro e w' ⟨rfl,M',h1,h2⟩
  have H1:=Lib.hid h1
  have H2:=Lib.hid h2
  clear h1 h2
  go_wp2
  go_ret
  exact⟨w.heap.size,M',rfl,H1.out,by rw[HN.out];exact H2.out⟩
set_option maxRecDepth 100000 in
set_option maxHeartbeats 4000000 in
theorem SValue_any (v:Int) (h:At B w0 w p M F) (hl:M.sv.model.length≤1000000) :
  Calls Tryz.prog 45 #[.pointer (some ⟨p,0,none⟩),.int .i64 v] w fun e w'=>e=.returned (.bool (decide (0<v)&&decide (v<M.sv.model.length)&&gB M.sv.model v.toNat))∧Drawn w w':=by
 obtain⟨n,hn⟩:∃ n,M.model.xs.length=n:=⟨_,rfl⟩
 have hn2:M.sv.model.length=n:=hn
 have c:=h.c_model
 rw[hn] at c
 rw[hn2] at hl ⊢
 by_cases h0:0<v
 ·obtain⟨k,rfl⟩:∃ k:Nat,v=k:=⟨v.toNat,by omega⟩
  have e1:decide ((0:Int)<(k:Int))=true:=by simpa using h0
  by_cases h1:k<n
  ·have e2:decide ((k:Int)<(n:Int))=true:=by simp;omega
   obtain⟨b,hb⟩:=h.b_model (by omega)
   obtain⟨x,hx⟩:∃ x,gB M.model.xs k=x:=⟨_,rfl⟩
   obtain⟨k1,_⟩:=h.r_model hb (i:=k) (x:=x) (by rw[←hx];exact gB_some _ _ (by omega))
   simp only[vB] at k1
   rw[hb] at c
   simp only[Option.map_some] at c
   have i0:(0:Int)≤(k:Int):=by omega
   have i1:(k:Int)<(n:Int):=by omega
   have HX:=Lib.hid (show gB M.sv.model (k:Int).toNat=x from hx)
   clear h hx hb hn hn2
   go_enter Tryz.func45,Tryz.ntmps45
   go_wp2
   try (go_quiet (fail))
   try go_wp2
   go_ret
   exact⟨by rw[HX.out,e1,e2];rfl,Drawn.refl _⟩
  ·have e2:decide ((k:Int)<(n:Int))=false:=by simp;omega
   clear h hn hn2
   go_enter Tryz.func45,Tryz.ntmps45
   go_wp2
   go_ret
   exact⟨by first | rfl | (rw[e1,e2];rfl),Drawn.refl _⟩
 ·have e1:decide (0<v)=false:=by simpa using h0
  clear h hn hn2
  go_enter Tryz.func45,Tryz.ntmps45
  go_wp2
  go_ret
  exact⟨by first | rfl | (simp[h0];rfl),Drawn.refl _⟩
end
end Go.Proofs.YthbbmdnfkkffjaaGreat
