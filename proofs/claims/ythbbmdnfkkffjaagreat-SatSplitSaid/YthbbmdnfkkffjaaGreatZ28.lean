/-
  Parts of the proof, joined by program: Pi23, Pi24, Pi25.
-/
import Derived.Test.YthbbmdnfkkffjaaGreatZ27
namespace Go.Proofs.YthbbmdnfkkffjaaGreat
open Go.Proofs.PlaitPure Go.Proofs.PlaitSat
def tr (a:Nat→Bool) (l:Nat):Bool:=if l % 2=1 then !(a (l/2)) else a (l/2)
theorem tr_neg (a:Nat→Bool) (l:Nat):tr a (negL l)=!(tr a l):=by
 unfold tr
 rw[negL_half]
 by_cases h:l % 2=1
 ·rw[if_pos h,if_neg (fun k=>(negL_odd l).1 k h)];simp
 ·rw[if_neg h,if_pos ((negL_odd l).2 h)]
def ModC (a:Nat→Bool) (S:SM):Prop:=∀ r,r<S.cls.length→∃ l∈S.cl r,tr a l=true
theorem ModC.last {a:Nat→Bool} {S:SM} (h:ModC a S) {r l:Nat} (hr:r<S.cls.length) (hf:∀ x∈S.cl r,x≠l→tr a x=false):tr a l=true:=by
 obtain⟨x,hx,ht⟩:=h r hr
 by_cases e:x=l
 ·rw[←e];exact ht
 ·rw[hf x hx e] at ht;cases ht
theorem ModC.zero {a:Nat→Bool} {S:SM} (h:ModC a S) (ht:TrI S):∀ (n i:Nat),i<n→i<S.trail.length→levAt S i=0→tr a (gn S.trail i)=true
 | 0,_,hn,_,_=>by omega
 | n+1,i,hn,hi,h0=>by
  rcases ht.why i hi with ⟨_,hm⟩ | ⟨r,_,b,_,d⟩
  ·have:0<levAt S i:=List.countP_pos_iff.2 ⟨i,hm,by simp⟩
   omega
  ·refine h.last b fun x hx hne=>?_
   obtain⟨k,hk,e⟩:=d x hx hne
   have:=ModC.zero h ht n k (by omega) (by omega) (by have:=lev_mono S (Nat.le_of_lt hk);omega)
   rw[e,tr_neg] at this
   simpa using this
theorem ModC.zero_lit {a:Nat→Bool} {S:SM} (h:ModC a S) (ht:TrI S) {l:Nat} (hl:S.isL l=1) (h0:gn S.level (l/2)=0):tr a l=true:=by
 obtain⟨i,hi,rfl⟩:=ht.at_true hl
 exact h.zero ht (i+1) i (by omega) hi (by rw[←ht.lev i hi];exact h0)
theorem ModC.zero_no {a:Nat→Bool} {S:SM} (h:ModC a S) (ht:TrI S) {l:Nat} (hl:S.isL l=-1) (h0:gn S.level (l/2)=0):tr a l=false:=by
 have:=h.zero_lit ht (l:=negL l) (by rw[isL_neg,hl];rfl) (by rw[negL_half];exact h0)
 rw[tr_neg] at this
 simpa using this
theorem topGo_perm (S:SM):∀ (f:Nat) (c:List Nat) (k h:Nat),k+f+1≤c.length→(S.topGo f c k h).1.Perm c
 | 0,c,k,h,_=>List.Perm.refl c
 | f+1,c,k,h,hk=>by
  rw[SM.topGo]
  have hp:(SM.swapN c 1 (k+1)).Perm c:=swap_perm (by omega) (by omega)
  split
  ·exact (topGo_perm S f _ (k+1) _ (by rw[hp.length_eq];omega)).trans hp
  ·exact topGo_perm S f c (k+1) h (by omega)
theorem learn_ent {S:SM} (h:FoI S) {bad:Nat} (he:0<S.ends.length) (hb:Bad S bad) {a:Nat→Bool} (ha:ModC a S):∃ l∈(S.learn bad).2.1,tr a l=true:=by
 obtain⟨hL,_,_⟩:=learn_spec h he hb
 obtain⟨A,u,hA,hu,e,hcu,hlow,hcl,hbad⟩:=hL.out
 obtain⟨ls,e1,_,e3,e4⟩:=hA.l0
 have hc:(learn1 S bad).2.lits=negL (gn S.trail u) :: ls:=by rw[e];show A.lits.set 0 _=_;rw[e1];rfl
 have hl:(S.learn bad).2.1=(SM.topGo ((learn1 S bad).1.unitAll (learn1 S bad).2.zero (learn1 S bad).2.fr).1 ((learn1 S bad).2.lits.length-1) (learn1 S bad).2.lits 0 0).1:=rfl
 have hp:=topGo_perm ((learn1 S bad).1.unitAll (learn1 S bad).2.zero (learn1 S bad).2.fr).1 ((learn1 S bad).2.lits.length-1) (learn1 S bad).2.lits 0 0 (by rw[hc,List.length_cons];omega)
 rw[←hl,hc] at hp
 apply Classical.byContradiction
 intro hno
 have hf:∀ x,x∈negL (gn S.trail u) :: ls→tr a x=false:=fun x hx=>by
  cases hx2:tr a x with
  | false=>rfl
  | true=>exact absurd ⟨x,hp.mem_iff.2 hx,hx2⟩ hno
 have key:∀ (n j:Nat),j<n→j<S.trail.length→gB A.met (gn S.trail j/2)=true→tr a (gn S.trail j)=true:=by
  intro n
  induction n with
  | zero=>intro j hj;omega
  | succ n ih =>
   intro j hj hjl hm
   by_cases h0:gn S.level (gn S.trail j/2)=0
   ·exact ha.zero h.tr (j+1) j (by omega) hjl (by rw[←h.tr.lev j hjl];exact h0)
   ·by_cases h1:gn S.level (gn S.trail j/2)<S.ends.length
    ·obtain⟨x,hx,hxv⟩:=e4 _ hm (by omega) h1
     have hxf:=(e3 x hx).2.1
     have hx0:=hf x (List.mem_cons_of_mem _ hx)
     rcases lit_cases hxv with rfl | rfl
     ·rw[h.tr.is j hjl] at hxf;cases hxf
     ·rw[tr_neg] at hx0;simpa using hx0
    ·have hlv:gn S.level (gn S.trail j/2)=S.ends.length:=by
      have:=h.tr.lev j hjl
      have:=lev_le S j
      omega
     have hcur:cur S A j=true:=by unfold cur;rw[hm,hlv];simp
     rcases Nat.lt_trichotomy j u with k | rfl | k
     ·rw[hlow j k] at hcur;cases hcur
     ·have:=hf (negL (gn S.trail j)) List.mem_cons_self
      rw[tr_neg] at this;simpa using this
     ·obtain⟨r,_,hr,_,d⟩:=hcl j k hjl hcur
      refine ha.last hr fun x hx hne=>?_
      obtain⟨y1,y2⟩:=d x hx
      obtain⟨m,hm1,hm2⟩:=y2 hne
      have:=ih m (by omega) (by omega) (by rw[hm2,negL_half];exact y1)
      rw[hm2,tr_neg] at this
      simpa using this
 obtain⟨x,hx,hxt⟩:=ha bad hb.lt
 obtain⟨i,hi,e⟩:=h.tr.at_false (hb.no x hx)
 have:=key (i+1) i (by omega) hi (by rw[e,negL_half];exact hbad x hx)
 rw[e,tr_neg,hxt] at this
 cases this
end Go.Proofs.YthbbmdnfkkffjaaGreat
namespace Go.Proofs.YthbbmdnfkkffjaaGreat
open Go.Proofs.PlaitPure Go.Proofs.PlaitSat
def UnI (S:SM):Prop:=∀ r,r<S.cls.length→(S.cl r).length≤1→(S.cl r).length=1∧S.isL (gn (S.cl r) 0)=1∧gn S.level (gn (S.cl r) 0/2)=0
structure SeI (asm:List Int) (K:Nat) (S:SM):Prop where
 fo:FoI S
 ex:ExI K S
 un:UnI S
 re:∀ i,i<S.trail.length→i∈S.ends→levAt S i≤asm.length→gn S.trail i=packF (gi asm (levAt S i-1))
 at_:∀ k,k<S.ends.length→k<asm.length→S.isL (packF (gi asm k))=1∧gn S.level (packF (gi asm k)/2)≤k+1
 lv:∀ k,k<S.ends.length→k≤asm.length+gn S.ends k
 lt:S.ends.length≤asm.length+S.trail.length
 lc:S.learned.length≤S.conf
 cf:S.conf≤2000
def Full (S:SM):Prop:=∀ e∈S.ends,e<S.trail.length
theorem perm_one {c d:List Nat} (h:c.Perm d) (hl:d.length≤1):c=d:=by
 match d,h,hl with
 | [],h,_=>exact h.eq_nil
 | [x],h,_=>exact h.eq_singleton
theorem UnI.mono {S T:SM} (h:UnI S) (hc:T.cls.length=S.cls.length) (hp:∀ r,(T.cl r).Perm (S.cl r)) (hk:∀ l,S.isL l=1→gn S.level (l/2)=0→T.isL l=1∧gn T.level (l/2)=0):UnI T:=fun r hr hl=>by
 have e:T.cl r=S.cl r:=perm_one (hp r) (by rw[←(hp r).length_eq];exact hl)
 rw[e] at hl ⊢
 obtain⟨a,b,c⟩:=h r (by omega) hl
 exact⟨a,hk _ b c⟩
theorem levAt_same {S T:SM} (h:T.ends=S.ends) (i:Nat):levAt T i=levAt S i:=by unfold levAt;rw[h]
theorem SeI.follow {asm:List Int} {K:Nat} {S:SM} (h:SeI asm K S) (hf:Full S):SeI asm K S.follow.1∧Full S.follow.1∧S.trail.length≤S.follow.1.trail.length∧S.follow.1.learned=S.learned∧S.follow.1.conf=S.conf∧S.follow.1.value.length=S.value.length:=by
 obtain⟨F,_⟩:=follow_fold h.fo
 obtain⟨R,hR⟩:∃ R,S.follow=R:=⟨_,rfl⟩
 rw[hR] at F ⊢
 have hfwd:=F.fwd
 have hle:=hfwd.le
 have hen:R.1.ends=S.ends:=hfwd.ends
 have hg:∀ i,i<S.trail.length→gn R.1.trail i=gn S.trail i:=fun i hi=>hfwd.gn (S:=nx S R.1.next) hi
 have hL:∀ l,S.isL l≠0→R.1.isL l=S.isL l:=fun l hl=>hfwd.isL (S:=nx S R.1.next) hl
 have hlev:∀ l,S.isL l≠0→gn R.1.level (l/2)=gn S.level (l/2):=fun l hl=>hfwd.lev (S:=nx S R.1.next) hl
 have hids:∀ r,R.1.id r=S.id r:=fun r=>hfwd.ids r
 have hperm:∀ r,(R.1.cl r).Perm (S.cl r):=fun r=>hfwd.perm r
 have hcl:R.1.cls.length=S.cls.length:=hfwd.clen
 have hvl:R.1.value.length=S.value.length:=hfwd.vlen
 have hle':S.trail.length≤R.1.trail.length:=hle
 obtain⟨cs,ws,va,le,re,t,e⟩:=hfwd.same
 have e1:R.1.learned=S.learned:=by rw[e];rfl
 have e2:R.1.conf=S.conf:=by rw[e];rfl
 refine⟨⟨F.fo,?_,?_,?_,?_,?_,?_,?_,?_⟩,?_,hle',e1,e2,hvl⟩
 ·have hx:=h.ex
  have w1:R.1.words=S.words:=by rw[e];rfl
  have w2:R.1.most=S.most:=by rw[e];rfl
  have w3:R.1.given=S.given:=by rw[e];rfl
  have w4:R.1.fresh=S.fresh:=by rw[e];rfl
  have w5:R.1.steps=S.steps:=by rw[e];rfl
  have w6:R.1.units=S.units:=by rw[e];rfl
  exact⟨fun r hr=>by rw[hids];exact hx.ids r (by omega),by rw[w5,w6,w1,hvl];exact hx.pot,by rw[w1,w2];exact hx.wm,by rw[w2];exact hx.mo,by rw[w4,w3];exact hx.fr,by rw[hcl,w3,w4,w1];exact hx.cn,hx.kk⟩
 ·exact h.un.mono hcl hperm fun l a b=>⟨by rw[hL l (by omega)];exact a,by rw[hlev l (by omega)];exact b⟩
 ·intro i hi hie hl
  rw[hen] at hie
  have hi2:=hf i hie
  rw[levAt_same hen] at hl ⊢
  rw[hg i hi2]
  exact h.re i hi2 hie hl
 ·intro k hk hka
  rw[hen] at hk
  obtain⟨a,b⟩:=h.at_ k hk hka
  rw[hL _ (by omega),hlev _ (by omega)]
  exact⟨a,b⟩
 ·rw[hen];exact h.lv
 ·rw[hen];have:=h.lt;omega
 ·rw[e1,e2];exact h.lc
 ·rw[e2];exact h.cf
 ·intro x hx
  rw[hen] at hx
  have:=hf x hx
  omega
structure Kept2 (S T:SM) (c:List Nat) (h:Nat):Prop where
 low:∀ l,S.isL l≠0→gn S.level (l/2)≤h→T.isL l=S.isL l∧gn T.level (l/2)=gn S.level (l/2)
 now:T.isL (gn c 0)=1∧gn T.level (gn c 0/2)=h
theorem kept2 {S:SM} (hF:FoI S) {c:List Nat} {h:Nat} (fr:List Int) (k:Keeps S c h):Kept2 S (S.keep c fr h) c h:=by
 obtain⟨b1,b2⟩:=k.back hF
 have hb:=back_by h hF.tr k.hk
 have hlow:∀ l,S.isL l≠0→gn S.level (l/2)≤h→(S.back h).isL l=S.isL l:=fun l hl hle=>(hF.tr.back_isL k.hk hl).1 hle
 obtain⟨T,hT⟩:∃ T,S.back h=T:=⟨_,rfl⟩
 have hlv:T.level=S.level∧T.ends.length=h∧T.value.length=S.value.length:=by
  obtain⟨_,_,b3,_,_⟩:=back_facts h hF.hp.hi hF.tr.sz hF.tr.var_lt
  obtain⟨ph,va,re,hl,pl,e⟩:=hb.same
  rw[hT] at b3 e
  refine⟨by rw[e];rfl,?_,b3⟩
  rw[e]
  show (S.ends.take h).length=h
  rw[List.length_take];have:=k.hk;omega
 rw[hT] at hlow
 unfold SM.keep
 rw[hT] at b1 b2 ⊢
 obtain⟨st,e,_⟩:=step_other { T with words:=T.words+(c.length+2),learned:=T.learned++[c.map numF] } fr
 simp only
 rw[e]
 obtain⟨d,hd⟩:∃ d,(SM.step { T with words:=T.words+(c.length+2),learned:=T.learned++[c.map numF] } fr).2=d:=⟨_,rfl⟩
 rw[hd]
 obtain⟨ws,e2,hw⟩:=attach_same { T with words:=T.words+(c.length+2),learned:=T.learned++[c.map numF],steps:=st } c d
 rw[e2]
 obtain⟨A,hA⟩:∃ A:SM,({ T with words:=T.words+(c.length+2),learned:=T.learned++[c.map numF],steps:=st,cls:=T.cls++[(c,d)],watches:=ws }:SM)=A:=⟨_,rfl⟩
 have e3:∀ (r:Int) (V:SM),V=A.setL (gn c 0) r→Kept2 S V c h:=fun r V hV=>by
  subst hV
  have hAv:A.value=T.value:=by rw[←hA]
  have hAl:A.level=T.level:=by rw[←hA]
  have hAe:A.ends=T.ends:=by rw[←hA]
  have hc:=(k.no _ (gn_mem _ _ k.c0)).2
  have hcv:gn c 0/2<A.value.length:=by rw[hAv,hlv.2.2];exact hc.1
  have hcl:gn c 0/2<A.level.length:=by rw[hAl,hlv.1,hF.tr.sz.level];exact hc.1
  refine⟨fun l hl hle=>?_,?_,?_⟩
  ·have hne:l/2≠gn c 0/2:=fun e=>by
    rw[e,k.top] at hle
    have:=k.hk
    omega
   constructor
   ·rw[isL_setL hcv,if_neg (fun e=>hne (by rw[e])),if_neg (fun e=>hne (by rw[e,negL_half]))]
    rw[←hlow l hl hle]
    unfold SM.isL
    rw[hAv]
   ·show gn (A.level.set _ _) _=_
    rw[gn_set hcl,if_neg hne,hAl,hlv.1]
  ·rw[isL_setL hcv,if_pos rfl]
  ·show gn (A.level.set _ _) _=_
   rw[gn_set hcl,if_pos rfl,hAe,hlv.2.1]
 rw[show ({ T with words:=T.words+(c.length+2),learned:=T.learned++[c.map numF],steps:=st,cls:=T.cls++[(c,d)],watches:=ws }:SM)=A from hA]
 split
 ·obtain⟨V,hV⟩:∃ V,A.setL (gn c 0) (T.cls.length:Nat)=V:=⟨_,rfl⟩
  have hk2:=e3 _ V hV.symm
  show Kept2 S (SM.fade (A.setL (gn c 0) (T.cls.length:Nat))) c h
  rw[hV]
  obtain⟨x,y,z,e5⟩:=(honly_fade V).same
  rw[e5]
  exact⟨hk2.low,hk2.now⟩
 ·exact e3 _ _ rfl
end Go.Proofs.YthbbmdnfkkffjaaGreat
namespace Go.Proofs.YthbbmdnfkkffjaaGreat
open Go.Proofs.PlaitPure Go.Proofs.PlaitSat
theorem attach_id (S:SM) (c:List Nat) (d:Int) (r:Nat) (hr:r<S.cls.length+1):(S.attach c d).id r=if r=S.cls.length then d else S.id r:=by
 unfold SM.id
 rw[attach_cls]
 by_cases e:r=S.cls.length
 ·rw[if_pos e,e];simp[List.getD_eq_getElem?_getD]
 ·rw[if_neg e];rw[List.getD_eq_getElem?_getD,List.getElem?_append_left (by omega),←List.getD_eq_getElem?_getD]
theorem Keeps.strict {S:SM} (hF:FoI S) {c:List Nat} {h:Nat} (k:Keeps S c h) (h1:c.length=1→h=0):∀ e∈S.ends.take h,e<gn S.ends h:=fun e he=>by
 have hk:=k.hk
 have hc:=k.c0
 obtain⟨j,hj,rfl⟩:=mem_gn he
 rw[List.length_take] at hj
 rw[gn_take' (by omega)]
 by_cases hc1:c.length=1
 ·have:=h1 hc1;omega
 ·have ho:=k.one (by omega)
  have hf:=(k.no _ (gn_mem _ _ (show 1<c.length by omega))).2.2
  obtain⟨i,hi,e⟩:=hF.tr.at_false hf
  have hl:=hF.tr.lev i hi
  rw[e,negL_half,←ho] at hl
  have a1:gn S.ends (h-1)≤i:=by
   apply Classical.byContradiction;intro hn
   have:=levAt_lt hF.tr.mono (show h-1<S.ends.length by omega) (by omega:i<gn S.ends (h-1))
   omega
  have a2:i<gn S.ends h:=by
   apply Classical.byContradiction;intro hn
   have:=levAt_ge hF.tr.mono hk (by omega:gn S.ends h≤i)
   omega
  have a3:=mono_gn hF.tr.mono (show j≤h-1 by omega) (by omega)
  omega
theorem SeI.keep {asm:List Int} {K:Nat} {S:SM} (hS:SeI asm K S) {c:List Nat} {h:Nat} (fr:List Int) (k:Keeps S c h) (hid:gi fr 0≠-1) (h1:c.length=1→h=0) (room:S.words+c.length+2≤S.most) (hl:S.learned.length<S.conf) :
  SeI asm K (S.keep c fr h)∧Full (S.keep c fr h)∧(S.keep c fr h).learned=S.learned++[c.map numF]∧(S.keep c fr h).conf=S.conf∧(S.keep c fr h).value.length=S.value.length:=by
 have hst:=k.strict hS.fo h1
 have hF:=hS.fo.keep fr k
 obtain⟨d,hk,hd⟩:=kept hS.fo (c:=c) fr k.hk
 have hk2:=kept2 hS.fo fr k
 obtain⟨T,hT⟩:∃ T,S.keep c fr h=T:=⟨_,rfl⟩
 rw[hT] at hF hk hk2 ⊢
 have hhk:=k.hk
 have hhe:=hS.fo.tr.ends _ (gn_mem _ _ hhk)
 obtain⟨⟨ph,va,le,re,hl2,pl,mt,ws,st,e⟩,hvl,hsl⟩:=hk
 have t1:T.trail=S.trail.take (gn S.ends h)++[gn c 0]:=by rw[e]
 have t2:T.ends=S.ends.take h:=by rw[e]
 have t3:T.cls=S.cls++[(c,d)]:=by rw[e]
 have t4:T.words=S.words+(c.length+2):=by rw[e]
 have t5:T.learned=S.learned++[c.map numF]:=by rw[e]
 have t6:T.conf=S.conf:=by rw[e]
 have t7:T.most=S.most:=by rw[e]
 have t8:T.given=S.given:=by rw[e]
 have t9:T.fresh=S.fresh:=by rw[e]
 have t10:T.units=S.units:=by rw[e]
 have hcl:∀ r,T.cl r=if r=S.cls.length then c else S.cl r:=fun r=>by
  rw[←attach_cl S c d r];unfold SM.cl;rw[t3,attach_cls]
 have hidr:∀ r,r<S.cls.length+1→T.id r=if r=S.cls.length then d else S.id r:=fun r hr=>by
  rw[←attach_id S c d r hr];unfold SM.id;rw[t3,attach_cls]
 have hcll:T.cls.length=S.cls.length+1:=by rw[t3];simp
 have htl:T.trail.length=gn S.ends h+1:=by rw[t1,List.length_append,List.length_take];simp;omega
 have hel:T.ends.length=h:=by rw[t2,List.length_take];omega
 have hx:=hS.ex
 refine⟨⟨hF,⟨fun r hr=>?_,?_,?_,?_,?_,?_,hx.kk⟩,fun r hr hrl=>?_,fun i hi hie hli=>?_,fun j hj hja=>?_,fun j hj=>?_,?_,?_,?_⟩,?_,t5,t6,hvl⟩
 ·rw[hidr r (by omega)]
  split
  ·rcases hd with hd | hd
   ·rw[hd];exact hid
   ·omega
  ·exact hx.ids r (by omega)
 ·have:=hx.pot
  rw[t10,t4,hvl];omega
 ·rw[t4,t7];omega
 ·rw[t7];exact hx.mo
 ·rw[t9,t8];exact hx.fr
 ·have:=hx.cn
  rw[hcll,t8,t9,t4];have:=k.c0;omega
 ·rw[hcl] at hrl ⊢
  split at hrl
  ·rename_i er
   rw[if_pos er]
   have hc1:c.length=1:=by have:=k.c0;omega
   exact⟨hc1,hk2.now.1,by rw[hk2.now.2];exact h1 hc1⟩
  ·rename_i er
   rw[if_neg er]
   obtain⟨a,b,g⟩:=hS.un r (by omega) hrl
   obtain⟨x,y⟩:=hk2.low _ (by omega) (by omega:gn S.level (gn (S.cl r) 0/2)≤h)
   exact⟨a,by rw[x];exact b,by rw[y];exact g⟩
 ·rw[t2] at hie
  have hi2:=hst i hie
  have hlv:levAt T i=levAt S i:=by unfold levAt;rw[t2];exact levAt_take hS.fo.tr.mono hhk hi2
  rw[hlv] at hli ⊢
  have:gn T.trail i=gn S.trail i:=by rw[t1,gn_app_left (by rw[List.length_take];omega),gn_take' hi2]
  rw[this]
  exact hS.re i (by omega) (List.mem_of_mem_take hie) hli
 ·obtain⟨a,b⟩:=hS.at_ j (by omega) hja
  obtain⟨x,y⟩:=hk2.low _ (by omega) (by omega:gn S.level (packF (gi asm j)/2)≤h)
  rw[x,y]
  exact⟨a,b⟩
 ·rw[hel] at hj
  rw[t2,gn_take' hj]
  exact hS.lv j (by omega)
 ·have:=hS.lv h hhk
  omega
 ·rw[t5,t6];simp;omega
 ·rw[t6];exact hS.cf
 ·intro x hx
  rw[t2] at hx
  have:=hst x hx
  omega
theorem SeI.sim {asm:List Int} {K:Nat} {S T:SM} (h:SeI asm K S) (k:Sim S T) (hp:HpAll T):SeI asm K T:=by
 have h1:=h.fo.sim k hp
 have h2:=h.ex.sim k
 obtain⟨a,b,c,u,st,e⟩:=k.same
 subst e
 exact⟨h1,h2,h.un,h.re,h.at_,h.lv,h.lt,h.lc,h.cf⟩
theorem AllNo.bad {S:SM} {r:Nat} (h:AllNo S r) (hl:∃ l∈S.cl r,gn S.level (l/2)=S.ends.length):Bad S r:=⟨h.1,h.2.2,hl⟩
theorem SeI.ends_le {asm:List Int} {K:Nat} {S:SM} (h:SeI asm K S) (ha:asm.length≤600000):S.ends.length≤700000:=by
 have:=h.lt
 have:=h.fo.tr.len
 have:=h.fo.hp.hi.hb.small
 omega
theorem SeI.learnt {asm:List Int} {K:Nat} {S:SM} (h:SeI asm K S) (ha:asm.length≤600000) {bad:Nat} (hb:Bad S bad) (he:S.ends.length≠0) :
  SeI asm K (S.learn bad).1∧(S.learn bad).1.learned=S.learned∧(S.learn bad).1.conf=S.conf∧(S.learn bad).1.value=S.value∧(S.learn bad).2.1.length≤S.value.length∧(S.learn bad).1.words=S.words∧(S.learn bad).1.most=S.most ∧
   Keeps (S.learn bad).1 (S.learn bad).2.1 (S.learn bad).2.2.2∧KpOk (S.learn bad).1 (S.learn bad).2.1 (S.learn bad).2.2.1 (S.learn bad).2.2.2∧gi (S.learn bad).2.2.1 0≠-1∧((S.learn bad).2.1.length=1→(S.learn bad).2.2.2=0):=by
 have hL:=lesson h.fo h.ex (by omega) hb
 have hs:=h.sim hL.sim hL.hp
 have hk:=hL.keeps
 have hfl:=hL.fl
 have htl:=h.fo.tr.len
 have hsm:=h.fo.hp.hi.hb.small
 obtain⟨R,hR⟩:∃ R,S.learn bad=R:=⟨_,rfl⟩
 rw[hR] at hL hs hk hfl ⊢
 have hkp:=kpOk hs.fo hs.ex hk (by have:=hs.ends_le ha;omega) (by have:=hs.lc;have:=hs.cf;omega) hL.f0 (by omega)
 obtain⟨a,b,c,u,st,e⟩:=hL.sim.same
 refine⟨hs,by rw[e],by rw[e],by rw[e],?_,by rw[e],by rw[e],hk,hkp,by rw[hL.fid];exact h.ex.ids bad hb.lt,hL.none⟩
 have:=nodup_lt (n:=S.value.length) hL.nd fun v hv=>by
  obtain⟨x,hx,rfl⟩:=List.mem_map.1 hv
  exact (hL.no x hx).2.1
 rwa [List.length_map] at this
theorem SeI.mtOk {asm:List Int} {K:Nat} {S:SM} (h:SeI asm K S) (ha:asm.length≤600000) {bad:Nat} (hb:Bad S bad):MtOk S bad (Zero S) (rkT S):=by
 refine⟨fun he=>h.fo.enOk h.ex he hb.lt hb.no,fun he hl=>?_⟩
 obtain⟨_,_,_,_,l1,l2,_,_,l3,_,_⟩:=h.learnt ha hb he
 have hw:=h.ex.words
 have hsm:=h.fo.hp.hi.hb.small
 exact⟨lrOk h.fo h.ex (by omega) hb,by omega,by omega,fun _=>l3⟩
end Go.Proofs.YthbbmdnfkkffjaaGreat
