/-
  Parts of the proof, joined by program: Pi20, Pi21, Pi22, Pi23, Pi24, Pi25.
-/
import Derived.Test.YthbbmdnfkkffjaaGreatY23
import Derived.Test.YthbbmdnfkkffjaaGreatY01
import Derived.Lib.Hide
set_option maxHeartbeats 8000000
set_option maxRecDepth 100000
namespace Go.Proofs.YthbbmdnfkkffjaaGreat
open Go.Proofs.au Go.Proofs.aA
structure Keeps (S:SM) (c:List Nat) (h:Nat):Prop where
 hk:h<S.ends.length
 c0:0<c.length
 no:∀ x∈c,2≤x∧x/2<S.value.length∧S.bF x=-1
 nd:(c.map (·/2)).Nodup
 top:gn S.level (gn c 0/2)=S.ends.length
 low:∀ j,1≤j→j<c.length→gn S.level (gn c j/2)≤h
 one:1<c.length→h=gn S.level (gn c 1/2)
theorem Keeps.back {S:SM} (hF:fG S) {c:List Nat} {h:Nat} (k:Keeps S c h):(S.back h).bF (gn c 0)=0∧∀ j,1≤j→j<c.length→(S.back h).bF (gn c j)=-1:=by
 refine⟨?_,fun j a b=>?_⟩
 ·have h1:=(k.no _ (aU _ _ k.c0)).2.2;exact (hF.tr.Ah k.hk (x:=gn c 0) (by omega)).2 (by rw[k.top];exact k.hk)
 ·have h1:=(k.no _ (aU _ _ b)).2.2;rw[(hF.tr.Ah k.hk (x:=gn c j) (by omega)).1 (k.low j a b)];exact h1
theorem fG.FZ {S:SM} (h:fG S) {c:List Nat} {d:Int} (c0:0<c.length) (hn:(c.map (·/2)).Nodup) (hc:∀ x∈c,2≤x∧x/2<S.value.length) (hu:S.bF (gn c 0)=0)
  (hf:∀ j,1≤j→j<c.length→S.bF (gn c j)=-1) (hl:1<c.length→gn S.level (gn c 1/2)=S.ends.length):fG ((S.attach c d).bX (gn c 0) (S.cls.length:Nat)):=by
 obtain⟨t2,tl⟩:=hc _ (aU _ _ c0)
 have hne:1<c.length→gn c 0≠gn c 1:=fun k e=>by
  have:=hf 1 (Nat.le_refl _) k;rw[←e,hu] at this;cases this
 have hcl:=h.cl.attach (d:=d) hn hc;have hwa:=h.wa.attach (c:=c) (d:=d) fun k=>⟨h.qX tl,h.qX (hc _ (aU _ _ k)).2,hne k⟩;have hac:=jE S c d;have hlen:(S.attach c d).cls.length=S.cls.length+1:=by rw[fT];simp
 obtain⟨ws,e,hwl⟩:=ko S c d;rw[e] at hcl hwa hac hlen ⊢;obtain⟨A,hA⟩:∃ A,({ S with cls:=S.cls++[(c,d)],aj:=ws }:SM)=A:=⟨_,rfl⟩;rw[hA] at hcl hwa hac hlen ⊢;have hv:A.value=S.value:=by rw[←hA]
 have hL:∀ l,A.bF l=S.bF l:=fun l=>by unfold SM.bF;rw[hv]
 have htr:nR A:=by
  subst hA;exact h.tr.congr ⟨h.tr.sz.level,h.tr.sz.reason,h.tr.sz.phase,h.tr.sz.occurs,h.tr.sz.units,hwl.trans h.tr.sz.aj⟩ rfl rfl rfl rfl rfl (by rw[hlen];omega) (fun r hr x=>by rw[hac,if_neg (by omega)])
 have hhp:fK A:=by
  subst hA;exact⟨⟨⟨h.hp.hi.hb.small,h.hp.hi.hb.vars,h.hp.hi.hb.place,h.hp.hi.hb.met,h.hp.hi.hb.hl⟩,h.hp.hi.pl,h.hp.hi.bk⟩,h.hp.nz,h.hp.all⟩
 have hall:∀ x∈c,x≠gn c 0→A.bF x=-1:=fun x hx hxe=>by
  obtain⟨j,hj,rfl⟩:=jO hx;rw[hL];exact hf j (by rcases Nat.eq_zero_or_pos j with e | e;exact absurd (by rw[e]) hxe;exact e) hj
 have hAl:gn c 0/2<A.value.length:=by rw[hv];exact tl
 have hT:=htr.bX (l:=gn c 0) (r:=((S.cls.length:Nat):Int)) t2 hAl (by rw[hL];exact hu) (.inr ⟨S.cls.length,rfl,by omega,by rw[hac,if_pos rfl];exact aU _ _ c0,by rw[hac,if_pos rfl];exact hall⟩);have hfw:=zW (S:=A) (l:=gn c 0) (r:=((S.cls.length:Nat):Int)) hAl htr.sz.level (by rw[hL];exact hu);have hAt:A.trail=S.trail:=by rw[←hA]
 have hAn:A.next=S.next:=by rw[←hA]
 have hAe:A.ends=S.ends:=by rw[←hA]
 have ahq:A.level=S.level:=by rw[←hA]
 refine⟨hT,⟨hcl.nd,fun r hr x hx=>?_⟩,⟨hwa.nd,hwa.iff⟩,hhp.bX hAl,fun r hr h2=>?_,?_,?_⟩
 ·rw[hfw.gL];exact hcl.two r hr x hx
 ·change r<A.cls.length at hr;change 2≤(A.cl r).length at h2;show TB _ A.next (gn (A.cl r) 0) (gn (A.cl r) 1)∧TB _ A.next (gn (A.cl r) 1) (gn (A.cl r) 0);rw[hac] at h2 ⊢;have hne2:A.next≤A.trail.length:=by rw[hAn,hAt];exact h.ne
  by_cases k:r=S.cls.length
  ·rw[if_pos k] at h2 ⊢;refine⟨fun hp=>?_,fun _=>⟨by rw[lY hAl,if_pos rfl],?_⟩⟩
   ·have:=((hfw.proc hne2).1 hp).false htr;rw[hL,hu] at this;cases this
   ·have h3:gn (A.bX (gn c 0) ((S.cls.length:Nat):Int)).level (gn c 0/2)=A.ends.length:=by
     show gn (A.level.set _ _) _=_;rw[gZ (by rw[htr.sz.level];exact hAl),if_pos rfl]
    rw[h3,hfw.jo (l:=gn c 1) (by rw[hL,hf 1 (Nat.le_refl _) h2];omega),ahq,hl h2,hAe];exact Nat.le_refl _
  ·rw[if_neg k] at h2 ⊢;obtain⟨a,b⟩:=h.pi r (by omega) h2
   have tr:∀ x y,TB S S.next x y→TB A A.next x y:=fun x y hp=>by
    intro ⟨i,i1,i2,i3⟩;rw[hAn] at i1;rw[hAt] at i2 i3;obtain⟨p,q⟩:=hp ⟨i,i1,i2,i3⟩;exact⟨by rw[hL];exact p,by rw[ahq];exact q⟩
   exact⟨hfw.pi1 htr hne2 (tr _ _ a),hfw.pi1 htr hne2 (tr _ _ b)⟩
 ·show A.next≤_;have:=hfw.le;have:=h.ne;rw[hAn];rw[hAt] at *;omega
 ·show ∀ x∈A.ends,x≤A.next;rw[hAe,hAn];exact h.en
theorem yK (S:SM) (fr:List Int):∃ st,(S.step fr).1={ S with steps:=st }∧st.length≤S.steps.length+1:=by
 unfold SM.step
 split
 ·exact⟨S.steps,rfl,by omega⟩
 ·exact⟨_,rfl,by simp⟩
theorem fG.keep {S:SM} (hF:fG S) {c:List Nat} {h:Nat} (fr:List Int) (k:Keeps S c h):fG (S.keep c fr h):=by
 obtain⟨b1,b2⟩:=k.back hF;have hB:=hF.back k.hk;have hb:=pV h hF.tr k.hk;obtain⟨T,hT⟩:∃ T,S.back h=T:=⟨_,rfl⟩
 have hlv:T.level=S.level∧T.ends.length=h∧T.value.length=S.value.length:=by
  obtain⟨_,_,b3,_,_⟩:=j3 h hF.hp.hi hF.tr.sz hF.tr.kY;obtain⟨ph,va,re,hl,pl,e⟩:=hb.same;rw[hT] at b3 e;refine⟨by rw[e];rfl,?_,b3⟩;rw[e];show (S.ends.take h).length=h;rw[List.length_take];have:=k.hk;omega
 unfold SM.keep;rw[hT] at b1 b2 hB ⊢;obtain⟨st,e,_⟩:=yK { T with words:=T.words+(c.length+2),learned:=T.learned++[c.map bI] } fr;simp only;rw[e];have hO:fG ({ T with words:=T.words+(c.length+2),learned:=T.learned++[c.map bI],steps:=st }:SM):=hB.other ⟨_,_,_,rfl⟩;have hA:=hO.FZ (c:=c) (d:=(SM.step { T with words:=T.words+(c.length+2),learned:=T.learned++[c.map bI] } fr).2) k.c0 k.nd (fun x hx=>⟨(k.no x hx).1,by show _<T.value.length;rw[hlv.2.2];exact (k.no x hx).2.1⟩) b1 b2 (fun hh=>by show gn T.level _=T.ends.length;rw[hlv.1,hlv.2.1];exact (k.one hh).symm)
 split
 ·exact hA.lS
 ·exact hA
theorem Ri.keeps {S:SM} {bad:Nat} {R:SM×List Nat×List Int×Nat} (h:Ri S bad R):Keeps R.1 R.2.1 R.2.2.2:=by
 obtain⟨a,b,c,u,st,e⟩:=h.LW.same;have e1:R.1.ends=S.ends:=by rw[e]
 have e2:R.1.level=S.level:=by rw[e]
 have e3:R.1.value=S.value:=by rw[e]
 have hL:∀ l,R.1.bF l=S.bF l:=fun l=>by unfold SM.bF;rw[e3]
 exact⟨by rw[e1];exact h.h,h.c0,fun x hx=>by rw[e3,hL];exact h.no x hx,h.nd,by rw[e1,e2];exact h.top,fun j x y=>by rw[e2];exact (h.low j x y).2,fun x=>by rw[e2];exact h.one x⟩
theorem alQ {K:Nat} {S:SM} (h:fG S) (hx:yH K S) {c:List Nat} {fr:List Int} {k:Nat} (hk:Keeps S c k) (he:S.ends.length≤800000) (hl:S.learned.length≤900000) (f0:0<fr.length) (fl:fr.length≤1000000):abr S c fr k:=by
 have hs:=h.hp.hi.hb.small;have ht:=h.tr.len;have hw:=hx.words;have hp:=hx.uI;have hc:=hx.cls
 have hcl:c.length≤S.value.length:=by
  have:=jd (n:=S.value.length) hk.nd fun v hv=>by
   obtain⟨x,BG,rfl⟩:=List.mem_map.1 hv;exact (hk.no x BG).2.1
  rwa [List.length_map] at this
 refine⟨h.hp.hi,h.tr.sz,h.tr.kY,by omega,by omega,fun a=>h.tr.ends _ (aU _ _ a),by have:=hk.hk;omega,by omega,hk.c0,by omega,fun x BG=>(hk.no x BG).2.1,hl,f0,fl,by omega,by omega,fun r hr=>?_⟩;obtain⟨j,hj,rfl⟩:=List.getElem_of_mem hr;have:S.aj[j]=gN S.aj j:=by simp[gN,hj]
 rw[this];have:=h.wa.len j;omega
structure Kept (S T:SM) (c:List Nat) (h:Nat) (d:Int):Prop where
 same:∃ ph va le re hl pl mt ws st,T={ S with phase:=ph,value:=va,level:=le,reason:=re,hl:=hl,place:=pl,met:=mt,trail:=S.trail.take (gn S.ends h)++[gn c 0],ends:=S.ends.take h,next:=gn S.ends h,aj:=ws,steps:=st,words:=S.words+(c.length+2),learned:=S.learned++[c.map bI],cls:=S.cls++[(c,d)] }
 gL:T.value.length=S.value.length
 steps:T.steps.length≤S.steps.length+1
theorem abE (S:SM) (fr:List Int):(S.step fr).2=gi fr 0∨(S.step fr).2≤-2:=by
 unfold SM.step
 split
 ·exact .inl rfl
 ·exact .inr (by show -2-((S.steps.length:Nat):Int)≤-2;omega)
theorem kept {S:SM} (hF:fG S) {c:List Nat} {h:Nat} (fr:List Int) (hk:h<S.ends.length):∃ d,Kept S (S.keep c fr h) c h d∧((d=gi fr 0)∨d≤-2):=by
 obtain⟨_,_,b3,_,_⟩:=j3 h hF.hp.hi hF.tr.sz hF.tr.kY;obtain⟨⟨ph,va,re,hl,pl,e⟩,_,_,_⟩:=pV h hF.tr hk;obtain⟨T,hT⟩:∃ T,S.back h=T:=⟨_,rfl⟩;rw[hT] at b3 e;obtain⟨d,hd⟩:∃ d,(SM.step { T with words:=T.words+(c.length+2),learned:=T.learned++[c.map bI] } fr).2=d:=⟨_,rfl⟩;have hdd:=abE { T with words:=T.words+(c.length+2),learned:=T.learned++[c.map bI] } fr;rw[hd] at hdd;refine⟨d,?_,hdd⟩;unfold SM.keep;rw[hT];obtain⟨st,e1,hs⟩:=yK { T with words:=T.words+(c.length+2),learned:=T.learned++[c.map bI] } fr;simp only;rw[e1,hd];obtain⟨ws,e2,_⟩:=ko { T with words:=T.words+(c.length+2),learned:=T.learned++[c.map bI],steps:=st } c d;rw[e2]
 have hbase:∀ (U:SM) (r:Int),U=SM.bX { T with words:=T.words+(c.length+2),learned:=T.learned++[c.map bI],steps:=st,cls:=T.cls++[(c,d)],aj:=ws } (gn c 0) r→Kept S U c h d:=fun U r hU=>by
  subst hU;subst e;refine⟨⟨_,_,_,_,_,_,_,_,_,rfl⟩,?_,hs⟩;show (List.set va _ _).length=_;rw[List.length_set];exact b3
 split
 ·obtain⟨V,hV⟩:∃ V,SM.bX { T with words:=T.words+(c.length+2),learned:=T.learned++[c.map bI],steps:=st,cls:=T.cls++[(c,d)],aj:=ws } (gn c 0) (T.cls.length:Nat)=V:=⟨_,rfl⟩;have k:=hbase V _ hV.symm;show Kept S (SM.lS (SM.bX { T with words:=T.words+(c.length+2),learned:=T.learned++[c.map bI],steps:=st,cls:=T.cls++[(c,d)],aj:=ws } (gn c 0) (T.cls.length:Nat))) c h d;rw[hV];obtain⟨k1,k2,k3⟩:=k;obtain⟨a,b,m,e3⟩:=(nV V).same;rw[e3];obtain⟨_,_,_,_,_,_,_,_,_,rfl⟩:=k1;exact⟨⟨_,_,_,_,_,_,_,_,_,rfl⟩,k2,k3⟩
 ·exact hbase _ _ rfl
def tr (a:Nat→Bool) (l:Nat):Bool:=if l % 2=1 then !(a (l/2)) else a (l/2)
theorem uT (a:Nat→Bool) (l:Nat):tr a (negL l)=!(tr a l):=by
 unfold tr;rw[bT]
 by_cases h:l % 2=1
 ·rw[if_pos h,if_neg (fun k=>(uN l).1 k h)];simp
 ·rw[if_neg h,if_pos ((uN l).2 h)]
def kP (a:Nat→Bool) (S:SM):Prop:=∀ r,r<S.cls.length→∃ l∈S.cl r,tr a l=true
theorem kP.last {a:Nat→Bool} {S:SM} (h:kP a S) {r l:Nat} (hr:r<S.cls.length) (hf:∀ x∈S.cl r,x≠l→tr a x=false):tr a l=true:=by
 obtain⟨x,hx,ht⟩:=h r hr
 by_cases e:x=l
 ·rw[←e];exact ht
 ·rw[hf x hx e] at ht;cases ht
theorem kP.zero {a:Nat→Bool} {S:SM} (h:kP a S) (ht:nR S):∀ (n i:Nat),i<n→i<S.trail.length→dM S i=0→tr a (gn S.trail i)=true
 | 0,_,hn,_,_=>by omega
 | n+1,i,hn,hi,h0=>by
  rcases ht.why i hi with ⟨_,hm⟩ | ⟨r,_,b,_,d⟩
  ·have:0<dM S i:=List.countP_pos_iff.2 ⟨i,hm,by simp⟩;omega
  ·refine h.last b fun x hx hne=>?_;obtain⟨k,hk,e⟩:=d x hx hne;have:=kP.zero h ht n k (by omega) (by omega) (by have:=FI S (Nat.le_of_lt hk);omega);rw[e,uT] at this;simpa using this
theorem kP.YN {a:Nat→Bool} {S:SM} (h:kP a S) (ht:nR S) {l:Nat} (hl:S.bF l=1) (h0:gn S.level (l/2)=0):tr a l=true:=by
 obtain⟨i,hi,rfl⟩:=ht.KP hl;exact h.zero ht (i+1) i (by omega) hi (by rw[←ht.jo i hi];exact h0)
theorem kP.TH {a:Nat→Bool} {S:SM} (h:kP a S) (ht:nR S) {l:Nat} (hl:S.bF l=-1) (h0:gn S.level (l/2)=0):tr a l=false:=by
 have:=h.YN ht (l:=negL l) (by rw[rR,hl];rfl) (by rw[bT];exact h0);rw[uT] at this;simpa using this
theorem sD (S:SM):∀ (f:Nat) (c:List Nat) (k h:Nat),k+f+1≤c.length→(S.lT f c k h).1.Perm c
 | 0,c,k,h,_=>List.Perm.refl c
 | f+1,c,k,h,hk=>by
  rw[SM.lT];have hp:(SM.dG c 1 (k+1)).Perm c:=swap_perm (by omega) (by omega)
  split
  ·exact (sD S f _ (k+1) _ (by rw[hp.length_eq];omega)).trans hp
  ·exact sD S f c (k+1) h (by omega)
theorem Vd {S:SM} (h:fG S) {bad:Nat} (he:0<S.ends.length) (hb:Bad S bad) {a:Nat→Bool} (ha:kP a S):∃ l∈(S.learn bad).2.1,tr a l=true:=by
 obtain⟨hL,_,_⟩:=su h he hb;obtain⟨A,u,hA,hu,e,hcu,hlow,hcl,hbad⟩:=hL.out;obtain⟨ls,e1,_,e3,e4⟩:=hA.l0;have hc:(aV S bad).2.lits=negL (gn S.trail u) :: ls:=by rw[e];show A.lits.set 0 _=_;rw[e1];rfl
 have hl:(S.learn bad).2.1=(SM.lT ((aV S bad).1.bH (aV S bad).2.zero (aV S bad).2.fr).1 ((aV S bad).2.lits.length-1) (aV S bad).2.lits 0 0).1:=rfl;have hp:=sD ((aV S bad).1.bH (aV S bad).2.zero (aV S bad).2.fr).1 ((aV S bad).2.lits.length-1) (aV S bad).2.lits 0 0 (by rw[hc,List.length_cons];omega);rw[←hl,hc] at hp;apply Classical.byContradiction;intro hno
 have hf:∀ x,x∈negL (gn S.trail u) :: ls→tr a x=false:=fun x hx=>by
  cases hx2:tr a x with
  | false=>rfl
  | true=>exact absurd ⟨x,hp.mem_iff.2 hx,hx2⟩ hno
 have key:∀ (n j:Nat),j<n→j<S.trail.length→gB A.met (gn S.trail j/2)=true→tr a (gn S.trail j)=true:=by
  intro n
  induction n with
  | zero=>intro j hj;omega
  | succ n ih =>
   intro j hj hjl hm
   by_cases h0:gn S.level (gn S.trail j/2)=0
   ·exact ha.zero h.tr (j+1) j (by omega) hjl (by rw[←h.tr.jo j hjl];exact h0)
   ·by_cases h1:gn S.level (gn S.trail j/2)<S.ends.length
    ·obtain⟨x,hx,hxv⟩:=e4 _ hm (by omega) h1;have hxf:=(e3 x hx).2.1;have hx0:=hf x (List.mem_cons_of_mem _ hx);rcases Bw hxv with rfl | rfl
     ·rw[h.tr.is j hjl] at hxf;cases hxf
     ·rw[uT] at hx0;simpa using hx0
    ·have hlv:gn S.level (gn S.trail j/2)=S.ends.length:=by
      have:=h.tr.jo j hjl;have:=nT S j;omega
     have hcur:cur S A j=true:=by unfold cur;rw[hm,hlv];simp
     rcases Nat.lt_trichotomy j u with k | rfl | k
     ·rw[hlow j k] at hcur;cases hcur
     ·have:=hf (negL (gn S.trail j)) List.mem_cons_self;rw[uT] at this;simpa using this
     ·obtain⟨r,_,hr,_,d⟩:=hcl j k hjl hcur;refine ha.last hr fun x hx hne=>?_;obtain⟨y1,y2⟩:=d x hx;obtain⟨m,hm1,hm2⟩:=y2 hne;have:=ih m (by omega) (by omega) (by rw[hm2,bT];exact y1);rw[hm2,uT] at this;simpa using this
 obtain⟨x,hx,hxt⟩:=ha bad hb.lt;obtain⟨i,hi,e⟩:=h.tr.jS (hb.no x hx);have:=key (i+1) i (by omega) hi (by rw[e,bT];exact hbad x hx);rw[e,uT,hxt] at this
 cases this
def F3 (S:SM):Prop:=∀ r,r<S.cls.length→(S.cl r).length≤1→(S.cl r).length=1∧S.bF (gn (S.cl r) 0)=1∧gn S.level (gn (S.cl r) 0/2)=0
structure jk (asm:List Int) (K:Nat) (S:SM):Prop where
 fo:fG S
 ex:yH K S
 un:F3 S
 re:∀ i,i<S.trail.length→i∈S.ends→dM S i≤asm.length→gn S.trail i=aJ (gi asm (dM S i-1))
 at_:∀ k,k<S.ends.length→k<asm.length→S.bF (aJ (gi asm k))=1∧gn S.level (aJ (gi asm k)/2)≤k+1
 lv:∀ k,k<S.ends.length→k≤asm.length+gn S.ends k
 lt:S.ends.length≤asm.length+S.trail.length
 lc:S.learned.length≤S.conf
 cf:S.conf≤2000
def Full (S:SM):Prop:=∀ e∈S.ends,e<S.trail.length
theorem YO {c d:List Nat} (h:c.Perm d) (hl:d.length≤1):c=d:=by
 match d,h,hl with
 | [],h,_=>exact h.eq_nil
 | [x],h,_=>exact h.eq_singleton
theorem F3.mono {S T:SM} (h:F3 S) (hc:T.cls.length=S.cls.length) (hp:∀ r,(T.cl r).Perm (S.cl r)) (hk:∀ l,S.bF l=1→gn S.level (l/2)=0→T.bF l=1∧gn T.level (l/2)=0):F3 T:=fun r hr hl=>by
 have e:T.cl r=S.cl r:=YO (hp r) (by rw[←(hp r).length_eq];exact hl);rw[e] at hl ⊢;obtain⟨a,b,c⟩:=h r (by omega) hl;exact⟨a,hk _ b c⟩
theorem F4 {S T:SM} (h:T.ends=S.ends) (i:Nat):dM T i=dM S i:=by unfold dM;rw[h]
theorem jk.follow {asm:List Int} {K:Nat} {S:SM} (h:jk asm K S) (hf:Full S):jk asm K S.follow.1∧Full S.follow.1∧S.trail.length≤S.follow.1.trail.length∧S.follow.1.learned=S.learned∧S.follow.1.conf=S.conf∧S.follow.1.value.length=S.value.length:=by
 obtain⟨F,_⟩:=iN h.fo;obtain⟨R,hR⟩:∃ R,S.follow=R:=⟨_,rfl⟩;rw[hR] at F ⊢;have lg:=F.fwd;have hle:=lg.le;have hen:R.1.ends=S.ends:=lg.ends;have hg:∀ i,i<S.trail.length→gn R.1.trail i=gn S.trail i:=fun i hi=>lg.gn (S:=nx S R.1.next) hi;have hL:∀ l,S.bF l≠0→R.1.bF l=S.bF l:=fun l hl=>lg.bF (S:=nx S R.1.next) hl;have jN:∀ l,S.bF l≠0→gn R.1.level (l/2)=gn S.level (l/2):=fun l hl=>lg.jo (S:=nx S R.1.next) hl;have Nl:∀ r,R.1.id r=S.id r:=fun r=>lg.ids r;have hperm:∀ r,(R.1.cl r).Perm (S.cl r):=fun r=>lg.perm r;have hcl:R.1.cls.length=S.cls.length:=lg.mX;have hvl:R.1.value.length=S.value.length:=lg.gL;have hle':S.trail.length≤R.1.trail.length:=hle;obtain⟨cs,ws,va,le,re,t,e⟩:=lg.same;have e1:R.1.learned=S.learned:=by rw[e];rfl
 have e2:R.1.conf=S.conf:=by rw[e];rfl
 refine⟨⟨F.fo,?_,?_,?_,?_,?_,?_,?_,?_⟩,?_,hle',e1,e2,hvl⟩
 ·have hx:=h.ex;have w1:R.1.words=S.words:=by rw[e];rfl
  have w2:R.1.most=S.most:=by rw[e];rfl
  have w3:R.1.given=S.given:=by rw[e];rfl
  have w4:R.1.fresh=S.fresh:=by rw[e];rfl
  have w5:R.1.steps=S.steps:=by rw[e];rfl
  have w6:R.1.units=S.units:=by rw[e];rfl
  exact⟨fun r hr=>by rw[Nl];exact hx.ids r (by omega),by rw[w5,w6,w1,hvl];exact hx.uI,by rw[w1,w2];exact hx.wm,by rw[w2];exact hx.mo,by rw[w4,w3];exact hx.fr,by rw[hcl,w3,w4,w1];exact hx.cn,hx.kk⟩
 ·exact h.un.mono hcl hperm fun l a b=>⟨by rw[hL l (by omega)];exact a,by rw[jN l (by omega)];exact b⟩
 ·intro i hi hie hl;rw[hen] at hie;have hi2:=hf i hie;rw[F4 hen] at hl ⊢;rw[hg i hi2];exact h.re i hi2 hie hl
 ·intro k hk hka;rw[hen] at hk;obtain⟨a,b⟩:=h.at_ k hk hka;rw[hL _ (by omega),jN _ (by omega)];exact⟨a,b⟩
 ·rw[hen];exact h.lv
 ·rw[hen];have:=h.lt;omega
 ·rw[e1,e2];exact h.lc
 ·rw[e2];exact h.cf
 ·intro x hx;rw[hen] at hx;have:=hf x hx;omega
structure YP (S T:SM) (c:List Nat) (h:Nat):Prop where
 low:∀ l,S.bF l≠0→gn S.level (l/2)≤h→T.bF l=S.bF l∧gn T.level (l/2)=gn S.level (l/2)
 now:T.bF (gn c 0)=1∧gn T.level (gn c 0/2)=h
theorem ahr {S:SM} (hF:fG S) {c:List Nat} {h:Nat} (fr:List Int) (k:Keeps S c h):YP S (S.keep c fr h) c h:=by
 obtain⟨b1,b2⟩:=k.back hF;have hb:=pV h hF.tr k.hk;have hlow:∀ l,S.bF l≠0→gn S.level (l/2)≤h→(S.back h).bF l=S.bF l:=fun l hl hle=>(hF.tr.Ah k.hk hl).1 hle;obtain⟨T,hT⟩:∃ T,S.back h=T:=⟨_,rfl⟩
 have hlv:T.level=S.level∧T.ends.length=h∧T.value.length=S.value.length:=by
  obtain⟨_,_,b3,_,_⟩:=j3 h hF.hp.hi hF.tr.sz hF.tr.kY;obtain⟨ph,va,re,hl,pl,e⟩:=hb.same;rw[hT] at b3 e;refine⟨by rw[e];rfl,?_,b3⟩;rw[e];show (S.ends.take h).length=h;rw[List.length_take];have:=k.hk;omega
 rw[hT] at hlow;unfold SM.keep;rw[hT] at b1 b2 ⊢;obtain⟨st,e,_⟩:=yK { T with words:=T.words+(c.length+2),learned:=T.learned++[c.map bI] } fr;simp only;rw[e];obtain⟨d,hd⟩:∃ d,(SM.step { T with words:=T.words+(c.length+2),learned:=T.learned++[c.map bI] } fr).2=d:=⟨_,rfl⟩;rw[hd];obtain⟨ws,e2,hw⟩:=ko { T with words:=T.words+(c.length+2),learned:=T.learned++[c.map bI],steps:=st } c d;rw[e2];obtain⟨A,hA⟩:∃ A:SM,({ T with words:=T.words+(c.length+2),learned:=T.learned++[c.map bI],steps:=st,cls:=T.cls++[(c,d)],aj:=ws }:SM)=A:=⟨_,rfl⟩
 have e3:∀ (r:Int) (V:SM),V=A.bX (gn c 0) r→YP S V c h:=fun r V hV=>by
  subst hV;have hAv:A.value=T.value:=by rw[←hA]
  have hAl:A.level=T.level:=by rw[←hA]
  have hAe:A.ends=T.ends:=by rw[←hA]
  have hc:=(k.no _ (aU _ _ k.c0)).2;have hcv:gn c 0/2<A.value.length:=by rw[hAv,hlv.2.2];exact hc.1
  have hcl:gn c 0/2<A.level.length:=by rw[hAl,hlv.1,hF.tr.sz.level];exact hc.1
  refine⟨fun l hl hle=>?_,?_,?_⟩
  ·have hne:l/2≠gn c 0/2:=fun e=>by
    rw[e,k.top] at hle;have:=k.hk;omega
   constructor
   ·rw[lY hcv,if_neg (fun e=>hne (by rw[e])),if_neg (fun e=>hne (by rw[e,bT]))];rw[←hlow l hl hle];unfold SM.bF;rw[hAv]
   ·show gn (A.level.set _ _) _=_;rw[gZ hcl,if_neg hne,hAl,hlv.1]
  ·rw[lY hcv,if_pos rfl]
  ·show gn (A.level.set _ _) _=_;rw[gZ hcl,if_pos rfl,hAe,hlv.2.1]
 rw[show ({ T with words:=T.words+(c.length+2),learned:=T.learned++[c.map bI],steps:=st,cls:=T.cls++[(c,d)],aj:=ws }:SM)=A from hA]
 split
 ·obtain⟨V,hV⟩:∃ V,A.bX (gn c 0) (T.cls.length:Nat)=V:=⟨_,rfl⟩;have hk2:=e3 _ V hV.symm;show YP S (SM.lS (A.bX (gn c 0) (T.cls.length:Nat))) c h;rw[hV];obtain⟨x,y,z,e5⟩:=(nV V).same;rw[e5];exact⟨hk2.low,hk2.now⟩
 ·exact e3 _ _ rfl
theorem Jt (S:SM) (c:List Nat) (d:Int) (r:Nat) (hr:r<S.cls.length+1):(S.attach c d).id r=if r=S.cls.length then d else S.id r:=by
 unfold SM.id;rw[fT]
 by_cases e:r=S.cls.length
 ·rw[if_pos e,e];simp[List.getD_eq_getElem?_getD]
 ·rw[if_neg e];rw[List.getD_eq_getElem?_getD,List.getElem?_append_left (by omega),←List.getD_eq_getElem?_getD]
theorem Keeps.strict {S:SM} (hF:fG S) {c:List Nat} {h:Nat} (k:Keeps S c h) (h1:c.length=1→h=0):∀ e∈S.ends.take h,e<gn S.ends h:=fun e he=>by
 have hk:=k.hk;have hc:=k.c0;obtain⟨j,hj,rfl⟩:=jO he;rw[List.length_take] at hj;rw[FJ (by omega)]
 by_cases hc1:c.length=1
 ·have:=h1 hc1;omega
 ·have ho:=k.one (by omega);have hf:=(k.no _ (aU _ _ (show 1<c.length by omega))).2.2;obtain⟨i,hi,e⟩:=hF.tr.jS hf;have hl:=hF.tr.jo i hi;rw[e,bT,←ho] at hl
  have a1:gn S.ends (h-1)≤i:=by
   apply Classical.byContradiction;intro hn;have:=FY hF.tr.mono (show h-1<S.ends.length by omega) (by omega:i<gn S.ends (h-1));omega
  have a2:i<gn S.ends h:=by
   apply Classical.byContradiction;intro hn;have:=Af hF.tr.mono hk (by omega:gn S.ends h≤i);omega
  have a3:=vT hF.tr.mono (show j≤h-1 by omega) (by omega);omega
theorem jk.keep {asm:List Int} {K:Nat} {S:SM} (hS:jk asm K S) {c:List Nat} {h:Nat} (fr:List Int) (k:Keeps S c h) (hid:gi fr 0≠-1) (h1:c.length=1→h=0) (room:S.words+c.length+2≤S.most) (hl:S.learned.length<S.conf) :
  jk asm K (S.keep c fr h)∧Full (S.keep c fr h)∧(S.keep c fr h).learned=S.learned++[c.map bI]∧(S.keep c fr h).conf=S.conf∧(S.keep c fr h).value.length=S.value.length:=by
 have hst:=k.strict hS.fo h1;have hF:=hS.fo.keep fr k;obtain⟨d,hk,hd⟩:=kept hS.fo (c:=c) fr k.hk;have hk2:=ahr hS.fo fr k;obtain⟨T,hT⟩:∃ T,S.keep c fr h=T:=⟨_,rfl⟩;rw[hT] at hF hk hk2 ⊢;have hhk:=k.hk;have hhe:=hS.fo.tr.ends _ (aU _ _ hhk);obtain⟨⟨ph,va,le,re,hl2,pl,mt,ws,st,e⟩,hvl,hsl⟩:=hk;have t1:T.trail=S.trail.take (gn S.ends h)++[gn c 0]:=by rw[e]
 have t2:T.ends=S.ends.take h:=by rw[e]
 have t3:T.cls=S.cls++[(c,d)]:=by rw[e]
 have t4:T.words=S.words+(c.length+2):=by rw[e]
 have t5:T.learned=S.learned++[c.map bI]:=by rw[e]
 have t6:T.conf=S.conf:=by rw[e]
 have t7:T.most=S.most:=by rw[e]
 have t8:T.given=S.given:=by rw[e]
 have t9:T.fresh=S.fresh:=by rw[e]
 have t10:T.units=S.units:=by rw[e]
 have hcl:∀ r,T.cl r=if r=S.cls.length then c else S.cl r:=fun r=>by
  rw[←jE S c d r];unfold SM.cl;rw[t3,fT]
 have aeB:∀ r,r<S.cls.length+1→T.id r=if r=S.cls.length then d else S.id r:=fun r hr=>by
  rw[←Jt S c d r hr];unfold SM.id;rw[t3,fT]
 have nQ:T.cls.length=S.cls.length+1:=by rw[t3];simp
 have htl:T.trail.length=gn S.ends h+1:=by rw[t1,List.length_append,List.length_take];simp;omega
 have hel:T.ends.length=h:=by rw[t2,List.length_take];omega
 have hx:=hS.ex;refine⟨⟨hF,⟨fun r hr=>?_,?_,?_,?_,?_,?_,hx.kk⟩,fun r hr hrl=>?_,fun i hi hie Bu=>?_,fun j hj hja=>?_,fun j hj=>?_,?_,?_,?_⟩,?_,t5,t6,hvl⟩
 ·rw[aeB r (by omega)]
  split
  ·rcases hd with hd | hd
   ·rw[hd];exact hid
   ·omega
  ·exact hx.ids r (by omega)
 ·have:=hx.uI;rw[t10,t4,hvl];omega
 ·rw[t4,t7];omega
 ·rw[t7];exact hx.mo
 ·rw[t9,t8];exact hx.fr
 ·have:=hx.cn;rw[nQ,t8,t9,t4];have:=k.c0;omega
 ·rw[hcl] at hrl ⊢
  split at hrl
  ·rename_i er;rw[if_pos er];have hc1:c.length=1:=by have:=k.c0;omega
   exact⟨hc1,hk2.now.1,by rw[hk2.now.2];exact h1 hc1⟩
  ·rename_i er;rw[if_neg er];obtain⟨a,b,g⟩:=hS.un r (by omega) hrl;obtain⟨x,y⟩:=hk2.low _ (by omega) (by omega:gn S.level (gn (S.cl r) 0/2)≤h);exact⟨a,by rw[x];exact b,by rw[y];exact g⟩
 ·rw[t2] at hie;have hi2:=hst i hie;have hlv:dM T i=dM S i:=by unfold dM;rw[t2];exact yC hS.fo.tr.mono hhk hi2
  rw[hlv] at Bu ⊢;have:gn T.trail i=gn S.trail i:=by rw[t1,dX (by rw[List.length_take];omega),FJ hi2]
  rw[this];exact hS.re i (by omega) (List.mem_of_mem_take hie) Bu
 ·obtain⟨a,b⟩:=hS.at_ j (by omega) hja;obtain⟨x,y⟩:=hk2.low _ (by omega) (by omega:gn S.level (aJ (gi asm j)/2)≤h);rw[x,y];exact⟨a,b⟩
 ·rw[hel] at hj;rw[t2,FJ hj];exact hS.lv j (by omega)
 ·have:=hS.lv h hhk;omega
 ·rw[t5,t6];simp;omega
 ·rw[t6];exact hS.cf
 ·intro x hx;rw[t2] at hx;have:=hst x hx;omega
theorem jk.LW {asm:List Int} {K:Nat} {S T:SM} (h:jk asm K S) (k:Wq S T) (hp:fK T):jk asm K T:=by
 have h1:=h.fo.LW k hp;have h2:=h.ex.LW k;obtain⟨a,b,c,u,st,e⟩:=k.same;subst e;exact⟨h1,h2,h.un,h.re,h.at_,h.lv,h.lt,h.lc,h.cf⟩
theorem zY.bad {S:SM} {r:Nat} (h:zY S r) (hl:∃ l∈S.cl r,gn S.level (l/2)=S.ends.length):Bad S r:=⟨h.1,h.2.2,hl⟩
theorem jk.vX {asm:List Int} {K:Nat} {S:SM} (h:jk asm K S) (ha:asm.length≤600000):S.ends.length≤700000:=by
 have:=h.lt;have:=h.fo.tr.len;have:=h.fo.hp.hi.hb.small;omega
theorem jk.learnt {asm:List Int} {K:Nat} {S:SM} (h:jk asm K S) (ha:asm.length≤600000) {bad:Nat} (hb:Bad S bad) (he:S.ends.length≠0) :
  jk asm K (S.learn bad).1∧(S.learn bad).1.learned=S.learned∧(S.learn bad).1.conf=S.conf∧(S.learn bad).1.value=S.value∧(S.learn bad).2.1.length≤S.value.length∧(S.learn bad).1.words=S.words∧(S.learn bad).1.most=S.most ∧
   Keeps (S.learn bad).1 (S.learn bad).2.1 (S.learn bad).2.2.2∧abr (S.learn bad).1 (S.learn bad).2.1 (S.learn bad).2.2.1 (S.learn bad).2.2.2∧gi (S.learn bad).2.2.1 0≠-1∧((S.learn bad).2.1.length=1→(S.learn bad).2.2.2=0):=by
 have hL:=lesson h.fo h.ex (by omega) hb;have hs:=h.LW hL.LW hL.hp;have hk:=hL.keeps;have hfl:=hL.fl;have htl:=h.fo.tr.len;have hsm:=h.fo.hp.hi.hb.small;obtain⟨R,hR⟩:∃ R,S.learn bad=R:=⟨_,rfl⟩;rw[hR] at hL hs hk hfl ⊢;have hkp:=alQ hs.fo hs.ex hk (by have:=hs.vX ha;omega) (by have:=hs.lc;have:=hs.cf;omega) hL.f0 (by omega);obtain⟨a,b,c,u,st,e⟩:=hL.LW.same;refine⟨hs,by rw[e],by rw[e],by rw[e],?_,by rw[e],by rw[e],hk,hkp,by rw[hL.fid];exact h.ex.ids bad hb.lt,hL.none⟩
 have:=jd (n:=S.value.length) hL.nd fun v hv=>by
  obtain⟨x,hx,rfl⟩:=List.mem_map.1 hv;exact (hL.no x hx).2.1
 rwa [List.length_map] at this
theorem jk.alR {asm:List Int} {K:Nat} {S:SM} (h:jk asm K S) (ha:asm.length≤600000) {bad:Nat} (hb:Bad S bad):aey S bad (Zero S) (YI S):=by
 refine⟨fun he=>h.fo.aeA h.ex he hb.lt hb.no,fun he hl=>?_⟩;obtain⟨_,_,_,_,l1,l2,_,_,l3,_,_⟩:=h.learnt ha hb he;have hw:=h.ex.words;have hsm:=h.fo.hp.hi.hb.small;exact⟨alN h.fo h.ex (by omega) hb,by omega,by omega,fun _=>l3⟩
end Go.Proofs.YthbbmdnfkkffjaaGreat
