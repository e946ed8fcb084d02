/-
  Parts of the proof, joined by program: Pi32, Pi33, Pi34, New.
-/
import Derived.Test.YthbbmdnfkkffjaaGreatY28
import Derived.Test.YthbbmdnfkkffjaaGreatY27
import Derived.Test.YthbbmdnfkkffjaaGreatY01
import Derived.Lib.Hide
set_option maxHeartbeats 8000000
set_option maxRecDepth 100000
namespace Go.Proofs.YthbbmdnfkkffjaaGreat
open Go.Proofs.au Go.Proofs.aA
structure Vm (S T:SM):Prop where
 same:T.given=S.given∧T.most=S.most∧T.conf=S.conf∧T.occurs=S.occurs
 rest:T.words=S.words∧T.learned=S.learned∧T.model=S.model
 gL:T.value.length=S.value.length
 held:∀ r,r<S.cls.length→r<T.cls.length∧(T.cl r).Perm (S.cl r)
theorem Vm.refl (S:SM):Vm S S:=⟨⟨rfl,rfl,rfl,rfl⟩,⟨rfl,rfl,rfl⟩,rfl,fun _r k=>⟨k,List.Perm.refl _⟩⟩
theorem Vm.trans {S T U:SM} (h:Vm S T) (k:Vm T U):Vm S U:=by
 obtain⟨a1,a2,a3,a4⟩:=h.same;obtain⟨b1,b2,b3,b4⟩:=k.same;obtain⟨c1,c2,c3⟩:=h.rest;obtain⟨d1,d2,d3⟩:=k.rest
 exact⟨⟨b1.trans a1,b2.trans a2,b3.trans a3,b4.trans a4⟩,⟨d1.trans c1,d2.trans c2,d3.trans c3⟩,k.gL.trans h.gL,fun r hr=>by
  obtain⟨u,v⟩:=h.held r hr;obtain⟨x,y⟩:=k.held r u
  exact⟨x,y.trans v⟩⟩
structure Am (S T:SM):Prop where
 al:Vm S T
 fresh:T.fresh=S.fresh
 told:T.told=S.told∧T.core=S.core∧T.last=S.last
 st:T.steps=S.steps∧T.units=S.units
 mX:T.cls.length=S.cls.length
 ids:∀ r,T.id r=S.id r
 perm:∀ r,(T.cl r).Perm (S.cl r)
 ends:T.ends=S.ends
 bF:∀ l,S.bF l≠0→T.bF l=S.bF l∧gn T.level (l/2)=gn S.level (l/2)
theorem ac7 {S:SM} (h:fG S):Am S S.follow.1:=by
 obtain⟨F,_⟩:=iN h;obtain⟨R,hR⟩:∃ R,S.follow=R:=⟨_,rfl⟩;rw[hR] at F ⊢;have lg:=F.fwd;have hL:∀ l,S.bF l≠0→R.1.bF l=S.bF l:=fun l hl=>lg.bF (S:=nx S R.1.next) hl;have jN:∀ l,S.bF l≠0→gn R.1.level (l/2)=gn S.level (l/2):=fun l hl=>lg.jo (S:=nx S R.1.next) hl;have Nl:∀ r,R.1.id r=S.id r:=fun r=>lg.ids r;have hcl:R.1.cls.length=S.cls.length:=lg.mX;have hvl:R.1.value.length=S.value.length:=lg.gL;have hperm:∀ r,(R.1.cl r).Perm (S.cl r):=fun r=>lg.perm r;have hen:R.1.ends=S.ends:=lg.ends;obtain⟨cs,ws,va,le,re,t,e⟩:=lg.same;exact⟨⟨by rw[e];exact⟨rfl,rfl,rfl,rfl⟩,by rw[e];exact⟨rfl,rfl,rfl⟩,hvl,fun r k=>⟨by omega,hperm r⟩⟩,by rw[e];rfl,by rw[e];exact⟨rfl,rfl,rfl⟩,by rw[e];exact⟨rfl,rfl⟩,hcl,Nl,hperm,hen,fun l hl=>⟨hL l hl,jN l hl⟩⟩
theorem yH.move {K:Nat} {S T:SM} (hx:yH K S) (ids:∀ r,T.id r=S.id r) (hcl:T.cls.length=S.cls.length) (hst:T.steps=S.steps∧T.units=S.units) (hw:T.words=S.words) (hm:T.most=S.most) (hg:T.given=S.given) (hf:T.fresh=S.fresh) (hv:T.value.length=S.value.length):yH K T :=
 ⟨fun r hr=>by rw[ids];exact hx.ids r (by omega),by rw[hst.1,hst.2,hw,hv];exact hx.uI,by rw[hw,hm];exact hx.wm,by rw[hm];exact hx.mo,by rw[hf,hg];exact hx.fr,by rw[hcl,hg,hf,hw];exact hx.cn,hx.kk⟩
theorem Am.al0 {S T:SM} (h:Am S T):Al0 S T :=
 ⟨⟨h.al.same.1,h.fresh,h.al.same.2.1,h.al.same.2.2.1,h.al.same.2.2.2⟩,h.al.gL,fun _ k=>k.perm h.mX h.perm,fun r hr=>⟨by rw[h.mX];exact hr,h.perm r⟩,fun _ k=>k.perm h.mX h.perm⟩
theorem Ze.fol {K:Nat} {S T:SM} (h:Ze K S) (k:Am S T):Ze K T :=
 h.mono k.al0 (by rw[k.ends];exact h.e0) (h.ex.move k.ids k.mX k.st k.al.rest.1 k.al.same.2.1 k.al.same.1 k.fresh k.al.gL) (by rw[k.al.rest.1];exact Nat.le_refl _)
theorem Am.plus {S T:SM} (h:Am S T):Am { S with fresh:=S.fresh+1 } { T with fresh:=T.fresh+1 }:=by
 obtain⟨⟨a,b,c,c2⟩,d,e,f,g,i,j,k,l⟩:=h;exact⟨⟨a,b,c,c2⟩,congrArg (·+1) d,e,f,g,i,j,k,l⟩
theorem F3.fol {S T:SM} (h:F3 S) (k:Am S T):F3 T:=h.mono k.mX k.perm fun l a b=>by
 obtain⟨x,y⟩:=k.bF l (by omega);rw[x,y];exact⟨a,b⟩
theorem Dead.fol {S T:SM} (h:Dead S) (k:Am S T):Dead T:=by
 obtain⟨a,b⟩:=h;unfold Dead;rw[k.fresh,k.al.same.1];refine⟨a,fun x hx=>?_⟩;have:=b x hx;rw[(k.bF _ (by omega)).1];exact this
theorem YV {S:SM} (h:nR S) (e0:S.ends=[]) {l:Nat} (hl:S.bF l≠0):gn S.level (l/2)=0:=by
 have:=h.nT hl;rw[e0] at this;simpa using this
theorem F3.snoc {S T:SM} (h:F3 S) {c:List Nat} (hcl:∀ r,T.cl r=if r=S.cls.length then c else S.cl r) (hl:T.cls.length=S.cls.length+1) (hk:∀ l,S.bF l=1→gn S.level (l/2)=0→T.bF l=1∧gn T.level (l/2)=0)
  (hc:c.length≤1→c.length=1∧T.bF (gn c 0)=1∧gn T.level (gn c 0/2)=0):F3 T:=fun r hr hrl=>by
 rw[hcl] at hrl ⊢
 split at hrl
 ·rename_i e;rw[if_pos e];exact hc hrl
 ·rename_i e;rw[if_neg e];obtain⟨a,b,d⟩:=h r (by omega) hrl;exact⟨a,hk _ b d⟩
structure aeP (K:Nat) (S:SM) (R:SM×Int):Prop where
 al:Vm S R.1
 told:R.1.told=S.told∧R.1.core=S.core
 fresh:R.1.fresh=S.fresh
 ze:Ze (K+1) R.1
 no:R.2≠-1→R.2=(S.cls.length:Nat)∧S.cls.length<R.1.cls.length∧(∀ x∈R.1.cl S.cls.length,R.1.bF x=-1)∧fG (nx R.1 0)∧Dead R.1
 yes:R.2=-1→Ze K { R.1 with fresh:=R.1.fresh+1 }∧fG R.1∧F3 R.1
theorem Ze.aeQ {K:Nat} {S:SM} (h:Ze K S) (hF:fG S) (hu:F3 S∨Dead S) (hi:S.fresh<S.given.length) (hk:K<100000):aeP K S (S.begin_ S.fresh):=by
 obtain⟨hn,hc⟩:=Vk h hi;have hs:=Cx S S.fresh
 have hm0:Dead S→(S.begins S.fresh).2=0:=fun ⟨_,hd⟩=>by
  apply Classical.byContradiction;intro hne;have hle:=hs.le;have h1:=hs.yes 0 (by omega);obtain⟨y,hy,e⟩:=List.mem_map.1 (hs.perm.mem_iff.1 (aU (S.begins S.fresh).1 0 (by omega)));have:=hd y hy;rw[e] at this;omega
 unfold SM.begin_;obtain⟨R,hR⟩:∃ R,S.begins S.fresh=R:=⟨_,rfl⟩;rw[hR] at hs hn hc hm0 ⊢;obtain⟨c,m⟩:=R;simp only at hs hn hc hm0 ⊢;have hsy:=hs.yes;have hsn:=hs.no;have hsl:=hs.le;have hsp:=hs.perm;simp only at hsy hsn hsl hsp;obtain⟨ws,ea,hwl⟩:=ko S c S.fresh;obtain⟨z1,z2,z3⟩:=h.attach hsp hi hk (T:=S.attach c S.fresh) ⟨ws,S.value,S.level,S.reason,S.trail,ea⟩ (by rw[ea]);have hL:∀ l,(S.attach c S.fresh).bF l=S.bF l:=fun l=>by rw[ea];rfl
 have hlv:(S.attach c S.fresh).level=S.level:=by rw[ea]
 have nQ:(S.attach c S.fresh).cls.length=S.cls.length+1:=by rw[fT];simp
 by_cases hm:m=0
 ·rw[if_pos hm];refine⟨⟨by rw[ea];exact⟨rfl,rfl,rfl,rfl⟩,by rw[ea];exact⟨rfl,rfl,rfl⟩,by rw[ea],fun r k=>⟨by rw[nQ];omega,by rw[z3,if_neg (by omega)]⟩⟩,by rw[ea];exact⟨rfl,rfl⟩,by rw[ea],z1,fun _=>⟨rfl,by rw[nQ];omega,fun x hx=>?_,(hF.nx0 h.e0).abJ _ hn hc,?_⟩,fun k=>by exfalso;have k2:((S.cls.length:Nat):Int)=-1:=k;omega⟩
  ·rw[z3,if_pos rfl] at hx;obtain⟨j,hj,rfl⟩:=jO hx;rw[hL];have h1:=hsn j (by omega) hj;rcases rU hF.tr.vals (gn c j) with k | k | k <;> omega
  ·unfold Dead;have e1:(S.attach c S.fresh).fresh=S.fresh:=by rw[ea]
   have e2:(S.attach c S.fresh).given=S.given:=by rw[ea]
   rw[e1,e2];refine⟨hi,fun x hx=>?_⟩;rw[hL];obtain⟨j,hj,ej⟩:=jO (hsp.mem_iff.2 (List.mem_map_of_mem hx:aJ x∈_));rw[←ej];have h1:=hsn j (by omega) hj;rcases rU hF.tr.vals (gn c j) with k | k | k <;> omega
 ·rw[if_neg hm];have hU:F3 S:=hu.resolve_right fun k=>hm (hm0 k);have c0:0<c.length:=by omega
  have hy0:=hsy 0 (by omega)
  by_cases hb:(decide (m=1)&&(S.attach c S.fresh).bF (gn c 0)==0)=true
  ·rw[if_pos hb];simp only[Bool.and_eq_true,decide_eq_true_eq,beq_iff_eq] at hb;obtain⟨hm1,hz⟩:=hb;rw[hL] at hz;have hcv:=(hc _ (aU _ _ c0)).2
   have hF2:=hF.FZ (c:=c) (d:=S.fresh) c0 hn hc hz (fun j a b=>by
    have h1:=hsn j (by omega) b
    rcases rU hF.tr.vals (gn c j) with k | k | k <;> omega) (fun h1=>by
    have h2:=hsn 1 (by omega) h1
    rw[YV hF.tr h.e0 (by omega),h.e0];rfl)
   obtain⟨A,hA⟩:∃ A,S.attach c S.fresh=A:=⟨_,rfl⟩;rw[hA] at hF2 hL hlv nQ ea z3 ⊢;have hvA:gn c 0/2<A.value.length:=by rw[ea];exact hcv
   have hlA:gn c 0/2<A.level.length:=by rw[hlv,hF.tr.sz.level];exact hcv
   have hvl:(A.bX (gn c 0) (S.cls.length:Nat)).value.length=S.value.length:=by
    rw[(pX A _ _).gL,ea]
   obtain⟨z4,z5,z6⟩:=h.attach hsp hi hk (T:=A.bX (gn c 0) (S.cls.length:Nat)) ⟨ws,_,_,_,_,by rw[ea];rfl⟩ hvl;have hcc:(A.bX (gn c 0) (S.cls.length:Nat)).cls.length=S.cls.length+1:=nQ;refine⟨⟨by rw[ea];exact⟨rfl,rfl,rfl,rfl⟩,by rw[ea];exact⟨rfl,rfl,rfl⟩,hvl,fun r k=>⟨by rw[hcc];omega,by rw[z6,if_neg (by omega)]⟩⟩,by rw[ea];exact⟨rfl,rfl⟩,by rw[ea];rfl,z4,fun k=>absurd rfl k,fun _=>⟨z5,hF2,?_⟩⟩;refine hU.snoc z6 hcc (fun l p q=>?_) fun hc1=>⟨by omega,by rw[lY hvA,if_pos rfl],?_⟩
   ·have hne:l/2≠gn c 0/2:=fun e=>by
     have:=gX.1 hz;rw[←e] at this;rw[gX.2 this] at p
     cases p
    constructor
    ·rw[lY hvA,if_neg (fun e=>hne (by rw[e])),if_neg (fun e=>hne (by rw[e,bT])),hL];exact p
    ·show gn (A.level.set _ _) _=_;rw[gZ hlA,if_neg hne,hlv];exact q
   ·show gn (A.level.set _ _) _=_;rw[gZ hlA,if_pos rfl,ea];show S.ends.length=0;rw[h.e0];rfl
  ·rw[if_neg hb];simp only[Bool.and_eq_true,decide_eq_true_eq,beq_iff_eq,not_and] at hb
   have hcase:2≤m∨(m=1∧S.bF (gn c 0)=1):=by
    by_cases e:m=1
    ·right;refine⟨e,?_⟩;have:=hb e;rw[hL] at this;rcases rU hF.tr.vals (gn c 0) with k | k | k <;> omega
    ·left;omega
   have hF2:=hF.attach (c:=c) (d:=S.fresh) hn hc fun h1=>⟨fun hp=>by
     have:=hp.false hF.tr
     rw[this] at hy0;omega,fun hp=>by
     have h2:=hp.false hF.tr;rcases hcase with k | ⟨k1,k2⟩
     ·have:=hsy 1 (by omega);omega
     ·exact⟨k2,by rw[YV hF.tr h.e0 (by omega)];exact Nat.zero_le _⟩⟩
   refine⟨⟨by rw[ea];exact⟨rfl,rfl,rfl,rfl⟩,by rw[ea];exact⟨rfl,rfl,rfl⟩,by rw[ea],fun r k=>⟨by rw[nQ];omega,by rw[z3,if_neg (by omega)]⟩⟩,by rw[ea];exact⟨rfl,rfl⟩,by rw[ea],z1,fun k=>absurd rfl k,fun _=>⟨z2,hF2,?_⟩⟩;refine hU.snoc z3 nQ (fun l p q=>by rw[hL,hlv];exact⟨p,q⟩) fun hc1=>⟨by omega,?_⟩;rcases hcase with k | ⟨k1,k2⟩
   ·omega
   ·rw[hL,hlv];exact⟨k2,YV hF.tr h.e0 (by omega)⟩
theorem fG.fresh {S:SM} (h:fG S) (n:Nat):fG { S with fresh:=n } :=
 ⟨h.tr.congr ⟨h.tr.sz.level,h.tr.sz.reason,h.tr.sz.phase,h.tr.sz.occurs,h.tr.sz.units,h.tr.sz.aj⟩ rfl rfl rfl rfl rfl (Nat.le_refl _) (fun _ _ _=>Iff.rfl),⟨h.cl.nd,h.cl.two⟩,⟨h.wa.nd,h.wa.iff⟩,⟨⟨⟨h.hp.hi.hb.small,h.hp.hi.hb.vars,h.hp.hi.hb.place,h.hp.hi.hb.met,h.hp.hi.hb.hl⟩,h.hp.hi.pl,h.hp.hi.bk⟩,h.hp.nz,h.hp.all⟩,h.pi,h.ne,h.en⟩
structure Ends (K:Nat) (S R:SM):Prop where
 al:Vm S R
 ze:Ze K R
 fo:fG (nx R 0)
 un:F3 R∨Dead R
 told:R.told=2∧R.core=[]
 no:∀ a,¬ jP a R
theorem Ze.ended {K:Nat} {S:SM} (h:Ze K S) (hF:fG (nx S 0)) (hu:F3 S∨Dead S) {bad:Nat} (hb:bad<S.cls.length) (hn:∀ x∈S.cl bad,S.bF x=-1) :
  Nj S bad (Zero S) (YI S)∧Ends K S (S.ended bad):=by
 have hx0:yH K (nx S 0):=⟨h.ex.ids,h.ex.uI,h.ex.wm,h.ex.mo,h.ex.fr,h.ex.cn,h.ex.kk⟩;have hk:=hF.aeA hx0 (bad:=bad) (by show S.ends.length=0;rw[h.e0];rfl) hb hn;have hen:Nj S bad (Zero S) (YI S):=⟨⟨hk.un.units,hk.un.reason,hk.un.small,hk.un.cls,hk.un.uI,hk.un.ids,hk.un.z,hk.un.r⟩,hk.rk,hk.lt,hk.z,hk.len⟩
 have hu2:=(lV ((S.cl bad).map (·/2)) [S.id bad] hen.un (fun v hv=>by
  obtain⟨x,hx,rfl⟩:=List.mem_map.1 hv
  exact hen.z x hx) fun v hv=>hen.rk v hv).1
 refine⟨hen,?_⟩;have e:S.ended bad={ (S.bH ((S.cl bad).map (·/2)) [S.id bad]).1 with core:=[],last:=(S.bH ((S.cl bad).map (·/2)) [S.id bad]).2,told:=2 }:=rfl;rw[e];obtain⟨T,hT⟩:∃ T,(S.bH ((S.cl bad).map (·/2)) [S.id bad]).1=T:=⟨_,rfl⟩;obtain⟨la,hla⟩:∃ la,(S.bH ((S.cl bad).map (·/2)) [S.id bad]).2=la:=⟨_,rfl⟩;rw[hT] at hu2;rw[hT,hla]
 have hF2:fG (nx T 0):=by
  refine hF.LW ?_ ?_
  ·obtain⟨⟨u,st,et⟩,h1,h2,_⟩:=hu2;subst et;exact⟨⟨_,_,_,u,st,rfl⟩,h1,h2⟩
  ·have h3:=hF.hp;obtain⟨⟨u,st,et⟩,_,_,_⟩:=hu2;subst et;exact⟨⟨⟨h3.hi.hb.small,h3.hi.hb.vars,h3.hi.hb.place,h3.hi.hb.met,h3.hi.hb.hl⟩,h3.hi.pl,h3.hi.bk⟩,h3.nz,h3.all⟩
 have hex:yH K T:=h.ex.LW (DN hu2);obtain⟨⟨u,st,et⟩,h1,h2,_⟩:=hu2
 have hze:Ze K { T with core:=[],last:=la,told:=2 }:=by
  refine h.mono (T:={ T with core:=[],last:=la,told:=2 }) ?_ (by subst et;exact h.e0) ⟨hex.ids,hex.uI,hex.wm,hex.mo,hex.fr,hex.cn,hex.kk⟩ (by subst et;exact Nat.le_refl _);subst et;exact⟨⟨rfl,rfl,rfl,rfl,rfl⟩,rfl,fun _ k=>k,fun r k=>⟨k,List.Perm.refl _⟩,fun _ k=>k⟩
 refine⟨?_,hze,hF2.told [] la 2 T.model,?_,⟨rfl,rfl⟩,fun a x=>?_⟩
 ·subst et;exact⟨⟨rfl,rfl,rfl,rfl⟩,⟨rfl,rfl,rfl⟩,rfl,fun r k=>⟨k,List.Perm.refl _⟩⟩
 ·subst et;rcases hu with k | k
  ·exact .inl k
  ·exact .inr k
 ·subst et;have x2:kP a S:=h.en a x;obtain⟨l,hl,ht⟩:=x2 bad hb;have hf:=hn l hl;have htr:nR S:=hF.tr.congr ⟨hF.tr.sz.level,hF.tr.sz.reason,hF.tr.sz.phase,hF.tr.sz.occurs,hF.tr.sz.units,hF.tr.sz.aj⟩ rfl rfl rfl rfl rfl (Nat.le_refl _) (fun _ _ _=>Iff.rfl);rw[x2.TH htr hf (YV htr h.e0 (by omega))] at ht
  cases ht
theorem Ends.al1 {K:Nat} {S T R:SM} (k:Vm S T) (h:Ends K T R):Ends K S R:=⟨k.trans h.al,h.ze,h.fo,h.un,h.told,h.no⟩
theorem Ze.al9 {K:Nat} {S:SM} (h:Ze K S) (hF:fG S) (hi:S.fresh<S.given.length):aho S S.fresh:=by
 have hw:=h.ex.words;have hg:=h.gw;have hc:=h.ex.cls;have hs:=hF.hp.hi.hb.small;obtain⟨g1,g2⟩:=h.gs _ (KZ hi);refine⟨by omega,fun x hx=>(g2 x hx).2.1,?_,hF.ahX (by omega),fun x hx=>by rw[dU];exact (g2 x hx).2.2,by omega⟩
 have:=jd (n:=S.value.length) g1 fun v hv=>by
  obtain⟨x,hx,rfl⟩:=List.mem_map.1 hv;exact (g2 x hx).2.2
 rw[List.length_map] at this;omega
structure Starts (K:Nat) (S:SM) (R:SM×Bool):Prop where
 yes:R.2=true→Vm S R.1∧Ze K R.1∧fG R.1∧F3 R.1∧R.1.fresh=R.1.given.length∧R.1.told=S.told∧R.1.core=S.core
 no:R.2=false→Ends (K+1) S R.1
theorem Ze.start {K:Nat} (hk:K<100000):∀ (f:Nat) (S:SM),f=S.given.length-S.fresh→Ze K S→fG S→(F3 S∨Dead S)→pW f S∧Starts K S (SM.lJ f S)
 | 0,S,hf,h,hF,hu=>by
  have hw:=h.ex.words;have hg:=h.gw;have hfr:=h.ex.fr;rw[SM.lJ];exact⟨by show S.given.length≤_;omega,fun _=>⟨Vm.refl S,h,hF,hu.resolve_right fun k=>by have:=k.1;omega,by show S.fresh=S.given.length;omega,rfl,rfl⟩,fun k=>by cases k⟩
 | f+1,S,hf,h,hF,hu=>by
  have hi:S.fresh<S.given.length:=by omega
  have hb:=h.aeQ hF hu hi hk;have hbg:=h.al9 hF hi;rw[Aa];unfold pW;have hst:started S=if (S.begin_ S.fresh).2=-1 then (S.begin_ S.fresh).1.follow else S.begin_ S.fresh:=rfl
  obtain⟨R,hR⟩:∃ R,S.begin_ S.fresh=R:=⟨_,rfl⟩;rw[hR] at hb hst ⊢
  by_cases h1:R.2=-1
  ·rw[if_pos h1] at hst;obtain⟨y1,y2,y3⟩:=hb.yes h1;have hfl:=y2.aeN hb.ze.ex;have hfe:=ac7 y2;obtain⟨F,_⟩:=iN y2;rw[hst];obtain⟨P,hP⟩:∃ P,R.1.follow=P:=⟨_,rfl⟩;rw[hP] at hfe F ⊢;have hal:=hb.al.trans hfe.al;have hfr:P.1.fresh=S.fresh:=by rw[hfe.fresh,hb.fresh]
   by_cases h2:P.2=-1
   ·rw[if_pos h2];have z1:Ze K { P.1 with fresh:=P.1.fresh+1 }:=y1.fol hfe.plus;have z2:F3 { P.1 with fresh:=P.1.fresh+1 }:=(show F3 P.1 from y3.fol hfe);have hfo:fG { P.1 with fresh:=P.1.fresh+1 }:=F.fo.fresh (P.1.fresh+1);obtain⟨s1,s2⟩:=Ze.start hk f { P.1 with fresh:=P.1.fresh+1 } (by show f=P.1.given.length-(P.1.fresh+1);rw[hal.same.1,hfr];omega) z1 hfo (.inl z2);have Vj:Vm S { P.1 with fresh:=P.1.fresh+1 }:=hal.trans ⟨⟨rfl,rfl,rfl,rfl⟩,⟨rfl,rfl,rfl⟩,rfl,fun r k=>⟨k,List.Perm.refl _⟩⟩;refine⟨⟨hbg,fun _=>hfl,fun _=>⟨s1,hal.same.1,hfr⟩,fun k=>absurd h2 k⟩,fun k=>?_,fun k=>(s2.no k).al1 Vj⟩;obtain⟨a1,a2,a3,a4,a5,a6,a7⟩:=s2.yes k;exact⟨Vj.trans a1,a2,a3,a4,a5,a6.trans (hfe.told.1.trans hb.told.1),a7.trans (hfe.told.2.1.trans hb.told.2)⟩
   ·rw[if_neg h2]
    obtain⟨r,hre,hall,_⟩:∃ r:Nat,P.2=r∧zY P.1 r∧∃ l∈P.1.cl r,gn P.1.level (l/2)=P.1.ends.length:=by
     rcases F.out with ⟨k,_⟩ | k
     ·exact absurd k h2
     ·exact k
    have hrn:P.2.toNat=r:=by rw[hre];exact Int.toNat_natCast r
    rw[hrn];have zP:=hb.ze.fol hfe;obtain⟨e1,e2⟩:=zP.ended (F.fo.nx0 zP.e0) (.inl (y3.fol hfe)) hall.1 hall.2.2;exact⟨⟨hbg,fun _=>hfl,fun k=>absurd k h2,fun _=>⟨by omega,_,_,e1⟩⟩,fun k=>(by cases k),fun _=>e2.al1 hal⟩
  ·rw[if_neg h1] at hst;rw[hst,if_neg h1];obtain⟨n1,n2,n3,n4,n5⟩:=hb.no h1;have hrn:R.2.toNat=S.cls.length:=by rw[n1];exact Int.toNat_natCast _
   rw[hrn];obtain⟨e1,e2⟩:=hb.ze.ended n4 (.inr n5) n2 n3;exact⟨⟨hbg,fun k=>absurd k h1,fun k=>absurd k h1,fun _=>⟨by omega,_,_,e1⟩⟩,fun k=>(by cases k),fun _=>e2.al1 hb.al⟩
structure Zs (K:Nat) (S:SM):Prop where
 ze:Ze K S
 fo:fG (nx S 0)
 un:F3 S∨Dead S
 vs:S.value.length≤65537
structure Gr (S T:SM):Prop where
 same:T.given=S.given∧T.fresh=S.fresh∧T.most=S.most∧T.conf=S.conf∧T.words=S.words
 rest:T.learned=S.learned∧T.model=S.model∧T.told=S.told∧T.core=S.core
 cls:T.cls=S.cls
 le:S.value.length≤T.value.length
 bF:∀ l,T.bF l=S.bF l
 oc:∀ v,gB T.occurs v=gB S.occurs v
theorem Gr.refl (S:SM):Gr S S:=⟨⟨rfl,rfl,rfl,rfl,rfl⟩,⟨rfl,rfl,rfl,rfl⟩,rfl,Nat.le_refl _,fun _=>rfl,fun _=>rfl⟩
theorem Gr.trans {S T U:SM} (h:Gr S T) (k:Gr T U):Gr S U:=by
 obtain⟨a1,a2,a3,a4,a5⟩:=h.same;obtain⟨b1,b2,b3,b4,b5⟩:=k.same;obtain⟨c1,c2,c3,c4⟩:=h.rest;obtain⟨d1,d2,d3,d4⟩:=k.rest;exact⟨⟨b1.trans a1,b2.trans a2,b3.trans a3,b4.trans a4,b5.trans a5⟩,⟨d1.trans c1,d2.trans c2,d3.trans c3,d4.trans c4⟩,k.cls.trans h.cls,Nat.le_trans h.le k.le,fun l=>(k.bF l).trans (h.bF l),fun v=>(k.oc v).trans (h.oc v)⟩
theorem F9 (l:List Int) (v:Nat):gi (l++[0]) v=gi l v:=by
 unfold gi;rw[List.getD_eq_getElem?_getD,List.getD_eq_getElem?_getD]
 by_cases h:v<l.length
 ·rw[List.getElem?_append_left h]
 ·rw[List.getElem?_append_right (by omega),List.getElem?_eq_none (show l.length≤v by omega)]
  by_cases e:v-l.length=0
  ·rw[e];rfl
  ·rw[List.getElem?_eq_none (by simp;omega)]
theorem YW (l:List Int) (x:Int) {v:Nat} (h:v<l.length):gi (l++[x]) v=gi l v:=by
 unfold gi;rw[List.getD_eq_getElem?_getD,List.getD_eq_getElem?_getD,List.getElem?_append_left h]
theorem YX (l:List Bool) (v:Nat):gB (l++[false]) v=gB l v:=by
 unfold gB;rw[List.getD_eq_getElem?_getD,List.getD_eq_getElem?_getD]
 by_cases h:v<l.length
 ·rw[List.getElem?_append_left h]
 ·rw[List.getElem?_append_right (by omega),List.getElem?_eq_none (show l.length≤v by omega)]
  by_cases e:v-l.length=0
  ·rw[e];rfl
  ·rw[List.getElem?_eq_none (by simp;omega)]
theorem TL (l:List (List Nat)) (v:Nat):gN (l++[[],[]]) v=gN l v:=by
 unfold gN;rw[List.getD_eq_getElem?_getD,List.getD_eq_getElem?_getD]
 by_cases h:v<l.length
 ·rw[List.getElem?_append_left h]
 ·rw[List.getElem?_append_right (by omega),List.getElem?_eq_none (show l.length≤v by omega)]
  match hk:v-l.length with
  | 0=>rfl
  | 1=>rfl
  | n+2=>rw[List.getElem?_eq_none (by simp)]
theorem JD (S:SM) (l:Nat):(fQ S).bF l=S.bF l:=by
 unfold SM.bF;show (if l % 2=1 then -(gi (S.value++[0]) (l/2)) else gi (S.value++[0]) (l/2))=_
 rw[F9]
theorem Rp {S:SM} (h:bG S) (hv:S.value.length<65537):bG (fQ S):=by
 have hlen:(fQ S).value.length=S.value.length+1:=by show (S.value++[0]).length=_;simp
 have hpl:=h.hb.place;have I4:(fQ S).hl=S.hl:=rfl;have hp:(fQ S).place=S.place++[0]:=rfl;have hm:(fQ S).met=S.met++[0]:=rfl;refine⟨⟨by omega,fun x hx=>?_,?_,?_,?_⟩,fun i hi=>?_,fun v hv2 hz=>?_⟩
 ·rw[I4] at hx;have:=h.hb.vars x hx;omega
 ·rw[hp,hlen];simp;exact hpl
 ·rw[hm,hlen];simp;exact h.hb.met
 ·rw[I4,hlen];have:=h.hb.hl;omega
 ·rw[I4] at hi ⊢;rw[hp,dX (by rw[hpl];exact h.hb.vars _ (aU _ _ hi))];exact h.pl i hi
 ·rw[hp] at hz ⊢;rw[I4]
  by_cases e:v<S.place.length
  ·rw[dX e] at hz ⊢;exact h.bk v (by omega) hz
  ·exfalso;have:v=S.place.length:=by omega
   rw[this,vS] at hz;exact hz rfl
theorem Zs.fQ {K:Nat} {S:SM} (h:Zs K S) (hv:S.value.length<65537):nR (nx (fQ S) 0)∧KQ (nx (fQ S) 0)∧P8 (nx (fQ S) 0)∧bG (fQ S):=by
 have ht:=h.fo.tr;have hz:=ht.sz;have hlen:(YthbbmdnfkkffjaaGreat.fQ S).value.length=S.value.length+1:=by show (S.value++[0]).length=_;simp
 obtain⟨A,hA⟩:∃ A,YthbbmdnfkkffjaaGreat.fQ S=A:=⟨_,rfl⟩;have a1:A.value=S.value++[0]:=by rw[←hA];rfl
 have a2:A.level=S.level++[0]:=by rw[←hA];rfl
 have a3:A.reason=S.reason++[-1]:=by rw[←hA];rfl
 have a4:A.phase=S.phase++[false]:=by rw[←hA];rfl
 have a5:A.occurs=S.occurs++[false]:=by rw[←hA];rfl
 have a6:A.aj=S.aj++[[],[]]:=by rw[←hA];rfl
 have a7:A.units=S.units++[-1]:=by rw[←hA];rfl
 have a8:A.trail=S.trail:=by rw[←hA];rfl
 have a9:A.ends=S.ends:=by rw[←hA];rfl
 have a10:A.cls=S.cls:=by rw[←hA];rfl
 have aL:∀ l,A.bF l=S.bF l:=fun l=>by rw[←hA];exact JD S l
 have acl:∀ r,A.cl r=S.cl r:=fun r=>by unfold SM.cl;rw[a10]
 have z1:S.level.length=S.value.length:=hz.level;have z2:S.reason.length=S.value.length:=hz.reason;have z3:S.phase.length=S.value.length:=hz.phase;have z4:S.occurs.length=S.value.length:=hz.occurs;have z5:S.units.length=S.value.length:=hz.units;have z6:S.aj.length=2*S.value.length:=hz.aj;have hi:=Rp (S:=S) ⟨⟨h.fo.hp.hi.hb.small,h.fo.hp.hi.hb.vars,h.fo.hp.hi.hb.place,h.fo.hp.hi.hb.met,h.fo.hp.hi.hb.hl⟩,h.fo.hp.hi.pl,h.fo.hp.hi.bk⟩ hv;rw[hA] at hlen hi ⊢;have hlt:∀ i,i<S.trail.length→gn S.trail i/2<S.value.length:=ht.lt;refine⟨⟨⟨?_,?_,?_,?_,?_,?_⟩,?_,?_,?_,?_,?_,?_,?_,?_,?_,?_⟩,⟨?_,?_⟩,⟨?_,?_⟩,hi⟩
 ·show A.level.length=A.value.length;rw[a1,a2];simp[z1]
 ·show A.reason.length=A.value.length;rw[a1,a3];simp[z2]
 ·show A.phase.length=A.value.length;rw[a1,a4];simp[z3]
 ·show A.occurs.length=A.value.length;rw[a1,a5];simp[z4]
 ·show A.units.length=A.value.length;rw[a1,a7];simp[z5]
 ·show A.aj.length=2*A.value.length;rw[a1,a6];simp[z6];omega
 ·intro x hx;have hx2:x∈S.value++[0]:=by rw[←a1];exact hx
  rcases List.mem_append.1 hx2 with k | k
  ·exact ht.vals x k
  ·rw[List.mem_singleton] at k;rw[k];exact .inr (.inr rfl)
 ·show ∀ i,i<A.trail.length→2≤gn A.trail i;rw[a8];exact ht.two
 ·show ∀ i,i<A.trail.length→gn A.trail i/2<A.value.length;rw[a8,hlen];intro i hi2;have:=hlt i hi2;omega
 ·show ∀ i,i<A.trail.length→A.bF (gn A.trail i)=1;rw[a8];intro i hi2;rw[aL];exact ht.is i hi2
 ·show ∀ i,i<A.trail.length→gn A.level (gn A.trail i/2)=dM A i;rw[a8,a2];intro i hi2;rw[dX (by rw[z1];exact hlt i hi2),F4 a9];exact ht.jo i hi2
 ·show ∀ i j,i<A.trail.length→j<A.trail.length→_→_;rw[a8];intro i j p q e;have e2:gn A.trail i/2=gn A.trail j/2:=e;rw[a8] at e2;exact ht.inj i j p q e2
 ·show ∀ v,v<A.value.length→gi A.value v≠0→∃ i,i<A.trail.length∧gn A.trail i/2=v;rw[a8,a1];intro v hv2 hz2;rw[F9] at hz2
  have:v<S.value.length:=by
   apply Classical.byContradiction;intro k;exact hz2 (rT (by omega))
  exact ht.all v this hz2
 ·show ∀ e∈A.ends,e≤A.trail.length;rw[a9,a8];exact ht.ends
 ·show A.ends.Pairwise (·≤·);rw[a9];exact ht.mono
 ·intro i hi2;have hi3:i<S.trail.length:=by rw[←a8];exact hi2
  have hw:=ht.why i hi3;unfold Why at hw ⊢;show (gi A.reason (gn A.trail i/2)=-1∧i∈A.ends)∨∃ r:Nat,gi A.reason (gn A.trail i/2)=r∧r<A.cls.length∧gn A.trail i∈A.cl r∧∀ k∈A.cl r,k≠gn A.trail i→∃ j,j<i∧gn A.trail j=negL k;rw[a3,a8,a9,a10,YW _ _ (by rw[z2];exact hlt i hi3)];rcases hw with k | ⟨r,k1,k2,k3,k4⟩
  ·exact .inl k
  ·exact .inr ⟨r,k1,k2,by rw[acl];exact k3,fun x hx=>by rw[acl] at hx;exact k4 x hx⟩
 ·intro r hr;show ((A.cl r).map (·/2)).Nodup;rw[acl];exact h.fo.cl.nd r (by have hr2:r<A.cls.length:=hr;rw[a10] at hr2;exact hr2)
 ·intro r hr x hx;have hx2:x∈A.cl r:=hx;rw[acl] at hx2;have:=h.fo.cl.two r (by have hr2:r<A.cls.length:=hr;rw[a10] at hr2;exact hr2) x hx2;have h3:x/2<S.value.length:=this.2;exact⟨this.1,by show _<A.value.length;omega⟩
 ·intro l;show (gN A.aj l).Nodup;rw[a6,TL];exact h.fo.wa.nd l
 ·intro l r;show r∈gN A.aj l↔(r<A.cls.length∧2≤(A.cl r).length∧(l=gn (A.cl r) 0∨l=gn (A.cl r) 1));rw[a6,TL,a10,acl];exact h.fo.wa.iff l r
theorem Zs.more {K:Nat} {S:SM} (h:Zs K S) (hv:S.value.length<65537):agm S∧Zs K S.more∧Gr S S.more∧S.more.value.length=S.value.length+1:=by
 obtain⟨t1,t2,t3,t4⟩:=h.fQ hv;have hz:=h.fo.tr.sz;have z1:S.level.length=S.value.length:=hz.level;have z2:S.reason.length=S.value.length:=hz.reason;have z3:S.phase.length=S.value.length:=hz.phase;have z4:S.occurs.length=S.value.length:=hz.occurs;have z5:S.units.length=S.value.length:=hz.units;have z6:S.aj.length=2*S.value.length:=hz.aj;have z7:S.place.length=S.value.length:=h.fo.hp.hi.hb.place;have z8:S.met.length=S.value.length:=h.fo.hp.hi.hb.met;have z9:S.hl.length≤S.value.length:=h.fo.hp.hi.hb.hl;refine⟨⟨by omega,by omega,by omega,by omega,by omega,by omega,by omega,by omega,by omega,fun _=>⟨t4.hb,by omega⟩⟩,?_⟩;have hlen:(YthbbmdnfkkffjaaGreat.fQ S).value.length=S.value.length+1:=by show (S.value++[0]).length=_;simp
 have hgr:Gr S (YthbbmdnfkkffjaaGreat.fQ S):=⟨⟨rfl,rfl,rfl,rfl,rfl⟩,⟨rfl,rfl,rfl,rfl⟩,rfl,by omega,JD S,fun v=>YX S.occurs v⟩;have hpd:∀ v,gi (YthbbmdnfkkffjaaGreat.fQ S).value v=gi S.value v:=fun v=>F9 S.value v;have hun:(YthbbmdnfkkffjaaGreat.fQ S).units=S.units++[-1]:=rfl;have hst:(YthbbmdnfkkffjaaGreat.fQ S).steps=S.steps:=rfl;have hen:(YthbbmdnfkkffjaaGreat.fQ S).ends=S.ends:=rfl;have I4:(YthbbmdnfkkffjaaGreat.fQ S).hl=S.hl:=rfl;have aib:(YthbbmdnfkkffjaaGreat.fQ S).level=S.level++[0]:=rfl
 have key:dQ (YthbbmdnfkkffjaaGreat.fQ S) S.more∧fK S.more:=by
  rw[Dy]
  by_cases e:S.value.length=0
  ·rw[if_pos e];refine⟨dQ.refl _,t4,?_,fun v h0 hl hz=>by omega⟩;rw[I4];exact h.fo.hp.nz
  ·rw[if_neg e];have hN:S.value.length<(YthbbmdnfkkffjaaGreat.fQ S).value.length:=by omega
   have hp:=t4.put hN;have hs:=TA t4 hN;have hv2:=I7 (YthbbmdnfkkffjaaGreat.fQ S) S.value.length;refine⟨⟨_,_,_,I8 _ _⟩,hp,fun k=>?_,fun v h0 hl hz=>?_⟩
   ·rcases (hs 0).1 k with k | k
    ·rw[I4] at k;exact h.fo.hp.nz k
    ·omega
   ·rw[hv2] at hl hz;rw[hpd] at hz;refine (hs v).2 ?_
    by_cases e2:v=S.value.length
    ·exact .inr e2
    ·left;rw[I4];exact h.fo.hp.all v h0 (by show v<S.value.length;omega) hz
 obtain⟨A,hA⟩:∃ A,YthbbmdnfkkffjaaGreat.fQ S=A:=⟨_,rfl⟩;rw[hA] at t1 t2 t3 t4 hlen hgr hpd hun hst hen aib key;obtain⟨⟨hl,pl,mt,e⟩,hpa⟩:=key;obtain⟨T,hT⟩:∃ T,S.more=T:=⟨_,rfl⟩;rw[hT] at e hpa ⊢;have BJ:Gr S T:=hgr.trans (by rw[e];exact⟨⟨rfl,rfl,rfl,rfl,rfl⟩,⟨rfl,rfl,rfl,rfl⟩,rfl,Nat.le_refl _,fun _=>rfl,fun _=>rfl⟩);have YZ:T.value.length=S.value.length+1:=by rw[e];exact hlen
 have hfo:fG (nx T 0):=by
  refine⟨?_,?_,?_,?_,fun r hr h2=>⟨?_,?_⟩,Nat.zero_le _,fun x hx=>?_⟩
  ·rw[e];exact t1.congr ⟨t1.sz.level,t1.sz.reason,t1.sz.phase,t1.sz.occurs,t1.sz.units,t1.sz.aj⟩ rfl rfl rfl rfl rfl (Nat.le_refl _) (fun _ _ _=>Iff.rfl)
  ·rw[e];exact⟨t2.nd,t2.two⟩
  ·rw[e];exact⟨t3.nd,t3.iff⟩
  ·exact⟨⟨⟨hpa.hi.hb.small,hpa.hi.hb.vars,hpa.hi.hb.place,hpa.hi.hb.met,hpa.hi.hb.hl⟩,hpa.hi.pl,hpa.hi.bk⟩,hpa.nz,hpa.all⟩
  ·rintro⟨i,hi,_⟩;exact absurd hi (Nat.not_lt_zero i)
  ·rintro⟨i,hi,_⟩;exact absurd hi (Nat.not_lt_zero i)
  ·have hx2:x∈T.ends:=hx;rw[e] at hx2;have hx3:x∈A.ends:=hx2;rw[hen,h.ze.e0] at hx3
   cases hx3
 obtain⟨g1,g2,g3,g4,g5⟩:=BJ.same;have gcl:∀ r,T.cl r=S.cl r:=fun r=>by unfold SM.cl;rw[BJ.cls]
 have gid:∀ r,T.id r=S.id r:=fun r=>by unfold SM.id;rw[BJ.cls]
 have hx:=h.ze.ex;have hwv:T.value.length=S.value.length+1:=YZ
 have hxT:yH K T:=by
  refine⟨fun r hr=>by rw[gid];rw[BJ.cls] at hr;exact hx.ids r hr,?_,by rw[g5,g3];exact hx.wm,by rw[g3];exact hx.mo,by rw[g2,g1];exact hx.fr,by rw[BJ.cls,g1,g2,g5];exact hx.cn,hx.kk⟩;have e1:T.steps=S.steps:=by rw[e];exact hst
  have e2:T.units=S.units++[-1]:=by rw[e];exact hun
  rw[e1,e2,g5,YZ,List.count_append];have:=hx.uI;simp;omega
 refine⟨⟨⟨?_,hxT,?_,by rw[g1,g5];exact h.ze.gw,?_,?_,by rw[g4];exact h.ze.cf,by rw[g4];exact h.ze.c1,?_,fun V hV r hr x hx2=>by
  rw[gcl] at hx2;rw[BJ.cls] at hr
  exact h.ze.vc V (by unfold VG at hV ⊢;rw[g1] at hV;exact hV) r hr x hx2⟩,hfo,?_,by omega⟩,BJ,YZ⟩
 ·rw[e];show A.ends=[];rw[hen];exact h.ze.e0
 ·rw[g1];intro c hc;obtain⟨u,v⟩:=h.ze.gs c hc;exact⟨u,fun x hx2=>⟨(v x hx2).1,(v x hx2).2.1,by have:=(v x hx2).2.2;omega⟩⟩
 ·intro i hi;rw[g2] at hi;obtain⟨r,hr,hp⟩:=h.ze.gv i hi;exact⟨r,by rw[BJ.cls];exact hr,by rw[gcl,g1];exact hp⟩
 ·intro a x r hr;rw[gcl];rw[BJ.cls] at hr;exact h.ze.en a (by unfold jP at x ⊢;rw[g1] at x;exact x) r hr
 ·rw[g1];intro c hc x hx2;rw[BJ.oc];exact h.ze.oc c hc x hx2
 ·rcases h.un with k | ⟨k1,k2⟩
  ·left;refine k.mono (by rw[BJ.cls]) (fun r=>by rw[gcl]) fun l p q=>⟨by rw[BJ.bF];exact p,?_⟩;have htr:nR S:=h.fo.tr.congr ⟨hz.level,hz.reason,hz.phase,hz.occurs,hz.units,hz.aj⟩ rfl rfl rfl rfl rfl (Nat.le_refl _) (fun _ _ _=>Iff.rfl);have hlt:l/2<S.value.length:=BF (by omega:S.bF l≠0);have e1:T.level=S.level++[0]:=by rw[e];exact aib
   rw[e1,dX (by rw[htr.sz.level];exact hlt)];exact q
  ·right;refine⟨by rw[g2,g1];exact k1,fun x hx2=>?_⟩;rw[BJ.bF];rw[g1,g2] at hx2;exact k2 x hx2
theorem Zs.jZ {K:Nat}:∀ (f:Nat) (S:SM),Zs K S→S.value.length+f≤65537→qw f S∧Zs K (SM.jZ f S)∧Gr S (SM.jZ f S)∧(SM.jZ f S).value.length=S.value.length+f
 | 0,S,h,_=>⟨trivial,h,Gr.refl S,rfl⟩
 | f+1,S,h,hv=>by
  obtain⟨a,b,c,d⟩:=h.more (by omega);obtain⟨p,q,r,s⟩:=Zs.jZ f S.more b (by omega);rw[SM.jZ];exact⟨⟨a,p⟩,q,c.trans r,by omega⟩
theorem Zs.grow {K:Nat} {S:SM} (h:Zs K S) {v:Nat} (hv:v≤65536):qw (v+1-S.value.length) S∧Zs K (S.grow v)∧Gr S (S.grow v)∧v<(S.grow v).value.length:=by
 have hvs:=h.vs;obtain⟨a,b,c,d⟩:=Zs.jZ (v+1-S.value.length) S h (by omega);exact⟨a,b,c,by show v<(SM.jZ (v+1-S.value.length) S).value.length;omega⟩
end Go.Proofs.YthbbmdnfkkffjaaGreat
namespace Go.Proofs.YthbbmdnfkkffjaaGreat
open Go.RowKit Go.Proofs.aC Go.Proofs.au Go.Proofs.aA
def MM.nil (most conf:Nat):MM where
 most:=most
 conf:=conf
 words:=0
 given:=⟨none,0,[]⟩
 fresh:=0
 cls:=⟨none,0,[]⟩
 aj:=⟨none,0,[]⟩
 value:=⟨none,0,[]⟩
 level:=⟨none,0,[]⟩
 reason:=⟨none,0,[]⟩
 phase:=⟨none,0,[]⟩
 occurs:=⟨none,0,[]⟩
 trail:=⟨none,0,[]⟩
 ends:=⟨none,0,[]⟩
 next:=0
 hl:=⟨none,0,[]⟩
 place:=⟨none,0,[]⟩
 met:=⟨none,0,[]⟩
 learned:=⟨none,0,[]⟩
 steps:=⟨none,0,[]⟩
 units:=⟨none,0,[]⟩
 model:=⟨none,0,[]⟩
 core:=⟨none,0,[]⟩
 last:=⟨none,0,[]⟩
 told:=0
def abL (words conf:Int):SM:=MM.sv (MM.nil (min (max words 1) 262144).toNat (min (max conf 1) 2000).toNat)
theorem aeR (words conf:Int):SM.new words conf=(abL words conf).grow 0:=rfl
theorem Y0 (words conf:Int):qw 1 (abL words conf):=by
 refine⟨⟨?_,?_,?_,?_,?_,?_,?_,?_,?_,fun h=>absurd h (by show ¬ 0<0;omega)⟩,trivial⟩ <;> (show 0≤_;omega)
theorem At.start (w:World) (F:HP) (a b:Nat) (hw:St w.heap.size w w F):At w.heap.size w (w.alloc (.cells (aI (MM.nil a b)).toArray 92)) w.heap.size (MM.nil a b) F:=by
 have h1:=hw.iC (aI (MM.nil a b)).toArray 92;refine⟨h1.aB ?_,fun _=>rfl⟩;simp only[parts,Fl.hp,Fl.outer,Fl.rows,jA,nN,MM.nil,List.map_nil,List.length_nil,List.flatMap_nil,gK,kW,j6,aQ]
section
variable {B:Nat} {w0 w:World} {p:Nat} {M:MM} {F:HP}
theorem Y2 (a b:Int) (w:World) :
  Calls Tryz.prog 41 #[.int .i64 a,.int .i64 b] w fun e w'=>∃ p M,e=.returned (.pointer (some ⟨p,0,none⟩))∧At w.heap.size w w' p M emp∧M.sv=SM.new a b:=by
 obtain⟨x,hx⟩:∃ x,(min (max a 1) 262144).toNat=x:=⟨_,rfl⟩;obtain⟨y,hy⟩:∃ y,(min (max b 1) 2000).toNat=y:=⟨_,rfl⟩;have hx2:min (max a 1) 262144=(x:Int):=by rw[←hx];omega
 have hy2:min (max b 1) 2000=(y:Int):=by rw[←hy];omega
 have h0:=At.start w emp x y (St.start w);have HN:=zH (show SM.new a b=(MM.sv (MM.nil x y)).grow 0 by rw[aeR];unfold abL;rw[hx,hy]);have hok:=Y0 a b;unfold abL at hok;rw[hx,hy] at hok;have fA:=zH hok;have hg:=Fh 0 h0 hok (by omega)
 have hg2:∀ v1 v2:Int,v1=x→v2=y→Calls Tryz.prog 61 #[.pointer (some ⟨w.heap.size,0,none⟩),.int .i64 0] (w.alloc (Obj.cells #[.int .i64 v1,.int .i64 v2,.int .i64 0,.slice none 0 0,.int .i64 0,.slice none 0 0,.slice none 0 0,.slice none 0 0,.slice none 0 0,.slice none 0 0,.slice none 0 0,.slice none 0 0,.slice none 0 0,.slice none 0 0,.int .i64 0,.slice none 0 0,.slice none 0 0,.slice none 0 0,.slice none 0 0,.slice none 0 0,.slice none 0 0,.slice none 0 0,.slice none 0 0,.slice none 0 0,.int .i64 0] 92)) fun e w'=>e=.returned (.tuple #[])∧∃ M',At w.heap.size w w' w.heap.size M' emp∧M'.sv=(MM.sv (MM.nil x y)).grow 0:=by
  rintro v1 v2 rfl rfl
  exact hg
 have HG:=zH hg2;clear h0 hok hx hy hg hg2
 go_enter Tryz.func41,Tryz.ntmps41
 go_wp2_with fail
 all_goals
  refine (HG.out _ _ (by omega) (by omega)).mono ?_
  rintro e w' ⟨rfl,M',h1,h2⟩
  have H1:=zH h1;have H2:=zH h2;clear h1 h2
  go_wp2
  go_ret
  exact⟨w.heap.size,M',rfl,H1.out,by rw[HN.out];exact H2.out⟩
theorem Rq (v:Int) (h:At B w0 w p M F) (hl:M.sv.model.length≤1000000) :
  Calls Tryz.prog 45 #[.pointer (some ⟨p,0,none⟩),.int .i64 v] w fun e w'=>e=.returned (.bool (decide (0<v)&&decide (v<M.sv.model.length)&&gB M.sv.model v.toNat))∧bJ w w':=by
 obtain⟨n,hn⟩:∃ n,M.model.xs.length=n:=⟨_,rfl⟩;have hn2:M.sv.model.length=n:=hn;have c:=h.zh;rw[hn] at c;rw[hn2] at hl ⊢
 by_cases h0:0<v
 ·obtain⟨k,rfl⟩:∃ k:Nat,v=k:=⟨v.toNat,by omega⟩;have e1:decide ((0:Int)<(k:Int))=true:=by simpa using h0
  by_cases h1:k<n
  ·have e2:decide ((k:Int)<(n:Int))=true:=by simp;omega
   obtain⟨b,hb⟩:=h.aaL (by omega);obtain⟨x,hx⟩:∃ x,gB M.model.xs k=x:=⟨_,rfl⟩;obtain⟨k1,_⟩:=h.Kw hb (i:=k) (x:=x) (by rw[←hx];exact jy _ _ (by omega));simp only[vB] at k1;rw[hb] at c;simp only[Option.map_some] at c;have i0:(0:Int)≤(k:Int):=by omega
   have i1:(k:Int)<(n:Int):=by omega
   have HX:=zH (show gB M.sv.model (k:Int).toNat=x from hx);clear h hx hb hn hn2
   go_enter Tryz.func45,Tryz.ntmps45
   go_wp2
   try (go_quiet (fail))
   try go_wp2
   go_ret
   exact⟨by rw[HX.out,e1,e2];rfl,bJ.refl _⟩
  ·have e2:decide ((k:Int)<(n:Int))=false:=by simp;omega
   clear h hn hn2
   go_enter Tryz.func45,Tryz.ntmps45
   go_wp2
   go_ret
   exact⟨by first | rfl | (rw[e1,e2];rfl),bJ.refl _⟩
 ·have e1:decide (0<v)=false:=by simpa using h0
  clear h hn hn2
  go_enter Tryz.func45,Tryz.ntmps45
  go_wp2
  go_ret
  exact⟨by first | rfl | (simp[h0];rfl),bJ.refl _⟩
end
end Go.Proofs.YthbbmdnfkkffjaaGreat
