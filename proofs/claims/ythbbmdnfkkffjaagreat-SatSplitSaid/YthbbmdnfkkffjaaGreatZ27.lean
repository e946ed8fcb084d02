/-
  Parts of the proof, joined by program: Pi15, Pi16, Pi17, Pi18, Pi19, Pi20, Pi21, Pi22.
-/
import Derived.Test.YthbbmdnfkkffjaaGreatZ26
namespace Go.Proofs.YthbbmdnfkkffjaaGreat
open Go.Proofs.PlaitPure Go.Proofs.PlaitSat
structure Sim (S T:SM):Prop where
 same:∃ a b c u st,T={ S with hl:=a,place:=b,met:=c,units:=u,steps:=st }
 ulen:T.units.length=S.units.length
 pot:T.steps.length+T.units.count (-1)≤S.steps.length+S.units.count (-1)
theorem FoI.sim {S T:SM} (h:FoI S) (k:Sim S T) (hp:HpAll T):FoI T:=by
 obtain⟨⟨a,b,c,u,st,rfl⟩,hu,_⟩:=k
 exact⟨h.tr.congr ⟨h.tr.sz.level,h.tr.sz.reason,h.tr.sz.phase,h.tr.sz.occurs,hu.trans h.tr.sz.units,h.tr.sz.watches⟩ rfl rfl rfl rfl rfl (Nat.le_refl _) (fun _ _ _=>Iff.rfl),⟨h.cl.nd,h.cl.two⟩,⟨h.wa.nd,h.wa.iff⟩,hp,h.pi,h.ne,h.en⟩
theorem ExI.sim {K:Nat} {S T:SM} (h:ExI K S) (k:Sim S T):ExI K T:=by
 obtain⟨⟨a,b,c,u,st,rfl⟩,hu,hp⟩:=k
 exact⟨h.ids,Nat.le_trans hp h.pot,h.wm,h.mo,h.fr,h.cn,h.kk⟩
theorem sim_honly {S T:SM} (h:HOnly S T):Sim S T:=by
 obtain⟨a,b,c,rfl⟩:=h.same
 exact⟨⟨a,b,c,S.units,S.steps,rfl⟩,rfl,Nat.le_refl _⟩
theorem sim_unt {S T:SM} (h:Unt S T):Sim S T:=by
 obtain⟨⟨u,st,rfl⟩,h2,h3,_⟩:=h
 exact⟨⟨S.hl,S.place,S.met,u,st,rfl⟩,h2,h3⟩
theorem Sim.trans {S T U:SM} (h:Sim S T) (k:Sim T U):Sim S U:=by
 obtain⟨⟨a,b,c,u,st,rfl⟩,h2,h3⟩:=h
 obtain⟨⟨a',b',c',u',st',rfl⟩,k2,k3⟩:=k
 exact⟨⟨a',b',c',u',st',rfl⟩,k2.trans h2,Nat.le_trans k3 h3⟩
theorem HpAll.unt {S T:SM} (h:HpAll S) (k:Unt S T):HpAll T:=by
 obtain⟨⟨u,st,rfl⟩,_⟩:=k
 exact⟨⟨⟨h.hi.hb.small,h.hi.hb.vars,h.hi.hb.place,h.hi.hb.met,h.hi.hb.hl⟩,h.hi.pl,h.hi.bk⟩,h.nz,h.all⟩
theorem meetsGo_hp (but:Nat):∀ (ls:List Nat) (S:SM) (A:AM) (n:Nat),HpAll S→(∀ x∈ls,x/2<S.value.length)→HpAll (SM.meetsGo but S A n ls).1∧HOnly S (SM.meetsGo but S A n ls).1
 | [],S,_,_,h,_=>⟨h,HOnly.refl S⟩
 | l :: r,S,A,n,h,hl=>by
  have hr:∀ x∈r,x/2<S.value.length:=fun x hx=>hl x (List.mem_cons_of_mem _ hx)
  have hm:=h.meet (hl l (by simp))
  have ho:=honly_meet S (l/2)
  have hr2:∀ x∈r,x/2<(S.meet (l/2)).value.length:=fun x hx=>by rw[ho.facts.2.2.2.1];exact hr x hx
  rw[SM.meetsGo]
  split
  ·exact meetsGo_hp but r S A n h hr
  ·split
   ·have:=meetsGo_hp but r _ { A with met:=A.met.set (l/2) true,zero:=A.zero++[l/2] } n hm hr2
    exact⟨this.1,ho.trans this.2⟩
   ·split
    ·have:=meetsGo_hp but r _ { A with met:=A.met.set (l/2) true } (n+1) hm hr2
     exact⟨this.1,ho.trans this.2⟩
    ·have:=meetsGo_hp but r _ { A with met:=A.met.set (l/2) true,lits:=A.lits++[l] } n hm hr2
     exact⟨this.1,ho.trans this.2⟩
theorem learnGo_hp:∀ (i:Nat) (S:SM) (A:AM) (o:Nat),HpAll S→ClI S→learnOk i S A o→HpAll (SM.learnGo i S A o).1∧HOnly S (SM.learnGo i S A o).1
 | 0,S,A,o,h,_,_=>⟨h,HOnly.refl S⟩
 | i+1,S,A,o,h,hc,hok=>by
  rw[SM.learnGo]
  rw[learnOk] at hok
  simp only
  by_cases hm:gB A.met (gn S.trail i/2)=true
  ·rw[if_pos hm] at hok ⊢
   by_cases h1:o=1
   ·rw[if_pos h1];exact⟨h,HOnly.refl S⟩
   ·rw[if_neg h1]
    obtain⟨r,hr,hr2,_,hv,_,_,_,hk⟩:=hok.2 h1
    rw[show (gi S.reason (gn S.trail i/2)).toNat=r by rw[hr];rfl]
    obtain⟨a,b⟩:=meetsGo_hp (gn S.trail i) (S.cl r) S { A with fr:=A.fr++[S.id r] } 0 h hv
    have hcl:ClI (S.meets { A with fr:=A.fr++[S.id r] } r (gn S.trail i)).1:=by
     obtain⟨x,y,z,e⟩:=b.same
     unfold SM.meets
     rw[e]
     exact⟨hc.nd,hc.two⟩
    obtain⟨c,d⟩:=learnGo_hp i _ _ _ a hcl hk
    exact⟨c,b.trans d⟩
  ·rw[if_neg hm] at hok ⊢
   exact learnGo_hp i S A o h hc hok
theorem meetsGo_fr (but:Nat):∀ (ls:List Nat) (S:SM) (A:AM) (n:Nat),(SM.meetsGo but S A n ls).2.1.fr=A.fr
 | [],_,_,_=>rfl
 | l :: r,S,A,n=>by
  rw[SM.meetsGo]
  split
  ·exact meetsGo_fr but r S A n
  ·split
   ·exact meetsGo_fr but r _ _ n
   ·split
    ·exact meetsGo_fr but r _ _ (n+1)
    ·exact meetsGo_fr but r _ _ n
theorem learnGo_fr:∀ (i:Nat) (S:SM) (A:AM) (o:Nat),A.fr.length≤(SM.learnGo i S A o).2.fr.length
 | 0,_,_,_=>Nat.le_refl _
 | i+1,S,A,o=>by
  rw[SM.learnGo]
  simp only
  split
  ·split
   ·exact Nat.le_refl _
   ·refine Nat.le_trans ?_ (learnGo_fr i _ _ _)
    unfold SM.meets
    rw[meetsGo_fr]
    show _≤(A.fr++[_]).length
    simp
  ·exact learnGo_fr i S A o
theorem gi_app {l m:List Int} (h:0<l.length):gi (l++m) 0=gi l 0:=by
 cases l with
 | nil=>simp at h
 | cons a r=>rfl
theorem learnGo_head:∀ (i:Nat) (S:SM) (A:AM) (o:Nat),0<A.fr.length→gi (SM.learnGo i S A o).2.fr 0=gi A.fr 0
 | 0,_,_,_,_=>rfl
 | i+1,S,A,o,h=>by
  rw[SM.learnGo]
  simp only
  split
  ·split
   ·rfl
   ·have e:(S.meets { A with fr:=A.fr++[S.id (gi S.reason (gn S.trail i/2)).toNat] } (gi S.reason (gn S.trail i/2)).toNat (gn S.trail i)).2.1.fr=A.fr++[S.id (gi S.reason (gn S.trail i/2)).toNat]:=meetsGo_fr _ _ _ _ _
    rw[learnGo_head i _ _ _ (by rw[e];simp),e,gi_app h]
  ·exact learnGo_head i S A o h
theorem unitAll_head:∀ (vs:List Nat) (S:SM) (fr:List Int),0<fr.length→gi (S.unitAll vs fr).2 0=gi fr 0
 | [],_,_,_=>rfl
 | v :: r,S,fr,h=>by
  rw[SM.unitAll,unitAll_head r _ _ (by simp),gi_app h]
structure Lesson (S:SM) (bad:Nat) (R:SM×List Nat×List Int×Nat):Prop where
 sim:Sim S R.1
 hp:HpAll R.1
 c0:0<R.2.1.length
 no:∀ x∈R.2.1,2≤x∧x/2<S.value.length∧S.isL x=-1
 nd:(R.2.1.map (·/2)).Nodup
 top:gn S.level (gn R.2.1 0/2)=S.ends.length
 low:∀ j,1≤j→j<R.2.1.length→0<gn S.level (gn R.2.1 j/2)∧gn S.level (gn R.2.1 j/2)≤R.2.2.2
 h:R.2.2.2<S.ends.length
 one:1<R.2.1.length→R.2.2.2=gn S.level (gn R.2.1 1/2)
 none:R.2.1.length=1→R.2.2.2=0
 f0:0<R.2.2.1.length
 fl:R.2.2.1.length≤1+S.trail.length+S.value.length
 fid:gi R.2.2.1 0=S.id bad
theorem lesson {K:Nat} {S:SM} (h:FoI S) (hx:ExI K S) {bad:Nat} (he:0<S.ends.length) (hb:Bad S bad):Lesson S bad (S.learn bad):=by
 have hs:=h.hp.hi.hb.small
 obtain⟨hL,hok,hfr⟩:=learn_spec h he hb
 obtain⟨A,u,hA,hu,e,hcu,_,_,_⟩:=hL.out
 obtain⟨p1,p2⟩:=meetsGo_hp 0 (S.cl bad) S (AM.none S bad) 0 h.hp fun x hxx=>(h.cl.two bad hb.lt x hxx).2
 have hcl0:ClI (learn0 S bad).1:=by
  obtain⟨x,y,z,e⟩:=p2.same
  show ClI (SM.meetsGo 0 S (AM.none S bad) 0 (S.cl bad)).1
  rw[e]
  exact⟨h.cl.nd,h.cl.two⟩
 obtain⟨q1,q2⟩:=learnGo_hp _ _ _ _ (show HpAll (learn0 S bad).1 from p1) hcl0 hok
 have hho:HOnly S (learn1 S bad).1:=hL.ho
 have hhp:HpAll (learn1 S bad).1:=q1
 have hl:S.learn bad=(((learn1 S bad).1.unitAll (learn1 S bad).2.zero (learn1 S bad).2.fr).1,(((learn1 S bad).1.unitAll (learn1 S bad).2.zero (learn1 S bad).2.fr).1.topGo ((learn1 S bad).2.lits.length-1) (learn1 S bad).2.lits 0 0).1,((learn1 S bad).1.unitAll (learn1 S bad).2.zero (learn1 S bad).2.fr).2,(((learn1 S bad).1.unitAll (learn1 S bad).2.zero (learn1 S bad).2.fr).1.topGo ((learn1 S bad).2.lits.length-1) (learn1 S bad).2.lits 0 0).2):=rfl
 obtain⟨P,hP⟩:∃ P,learn1 S bad=P:=⟨_,rfl⟩
 rw[hP] at hl hho hhp e hfr
 obtain⟨P1,P2⟩:=P
 simp only at hl hho hhp e hfr
 subst e
 have hun:UnOk P1 (Zero S) (rkT S):=by
  have k:=unOk h.tr h.cl hx hs
  obtain⟨a,b,c,rfl⟩:=hho.same
  exact⟨k.units,k.reason,k.small,k.cls,k.pot,k.ids,k.z,k.r⟩
 have hval:P1.value=S.value:=hho.facts.2.2.2.1
 obtain⟨t1,t2⟩:=unitAll_unt A.zero A.fr hun (fun v hv=>by
  obtain⟨a,b⟩:=(hA.z v).1 hv
  exact⟨b,hA.on v a⟩) fun v hv=>by rw[hval];exact rk_lt h.tr hv
 simp only at hl
 obtain⟨Q,hQ⟩:∃ Q,P1.unitAll A.zero A.fr=Q:=⟨_,rfl⟩
 rw[hQ] at hl t1 t2
 have hlev:Q.1.level=S.level:=by
  obtain⟨⟨x,y,e⟩,_⟩:=t1
  rw[e];exact hho.facts.1
 obtain⟨ls,e1,e2,e3,e4⟩:=hA.l0
 have hc:A.lits.set 0 (negL (gn S.trail u))=negL (gn S.trail u) :: ls:=by rw[e1];rfl
 have hT:=topGo_spec Q.1 ((A.lits.set 0 (negL (gn S.trail u))).length-1) (A.lits.set 0 (negL (gn S.trail u))) 0 0 (by rw[hc,List.length_cons];omega) (fun _=>rfl) (fun k=>by omega) (fun j a b=>by omega) fun x hxx=>by
  rw[hc] at hxx
  rw[hlev];exact (e3 x hxx).2.2.1
 rw[hl]
 rw[hc] at hT ⊢
 obtain⟨T,hTT⟩:∃ T,Q.1.topGo ((negL (gn S.trail u) :: ls).length-1) (negL (gn S.trail u) :: ls) 0 0=T:=⟨_,rfl⟩
 rw[hTT] at hT ⊢
 have hcl:gn S.level (gn S.trail u/2)=S.ends.length:=by
  unfold cur at hcu
  simp only[Bool.and_eq_true,beq_iff_eq] at hcu
  exact hcu.2
 have hlen:=hT.perm.length_eq
 have hnd0:((negL (gn S.trail u) :: ls).map (·/2)).Nodup:=by
  rw[List.map_cons,List.nodup_cons]
  refine⟨fun hm=>?_,e2⟩
  obtain⟨x,hxx,ex⟩:=List.mem_map.1 hm
  have:=(e3 x hxx).2.2.2
  rw[ex,negL_half,hcl] at this
  omega
 have hnd:(T.1.map (·/2)).Nodup:=(hT.perm.map _).nodup_iff.2 hnd0
 have hin:∀ j,1≤j→j<T.1.length→gn T.1 j∈ls:=fun j a b=>by
  have h1:gn T.1 j∈negL (gn S.trail u) :: ls:=hT.perm.mem_iff.1 (gn_mem _ _ b)
  rcases List.mem_cons.1 h1 with h1 | h1
  ·exfalso
   have h0:gn T.1 0=negL (gn S.trail u):=hT.head
   have h2:gn T.1 0/2=gn T.1 j/2:=by rw[h0,h1]
   rw[gn_eq _ _ (by omega),gn_eq _ _ b] at h2
   have:=(List.getElem_inj (h₀:=by rw[List.length_map];omega) (h₁:=by rw[List.length_map];exact b) hnd).1 (show (T.1.map (·/2))[0]'(by rw[List.length_map];omega)=(T.1.map (·/2))[j]'(by rw[List.length_map];exact b) by rw[List.getElem_map,List.getElem_map];exact h2)
   omega
  ·exact h1
 have hsim:Sim S Q.1:=(sim_honly hho).trans (sim_unt t1)
 rw[List.length_cons] at hlen
 have hz:=hA.zero_len h.tr
 have h20:(learn0 S bad).2.1.fr=(AM.none S bad).fr:=meetsGo_fr 0 (S.cl bad) S (AM.none S bad) 0
 have h2:(learn0 S bad).2.1.fr.length=1:=by rw[h20];rfl
 have h3:(SM.learnGo (learn0 S bad).1.trail.length (learn0 S bad).1 (learn0 S bad).2.1 (learn0 S bad).2.2).2.fr=A.fr:=congrArg (fun R:SM×AM=>R.2.fr) hP
 have hne:0<A.fr.length:=by
  have h1:=learnGo_fr (learn0 S bad).1.trail.length (learn0 S bad).1 (learn0 S bad).2.1 (learn0 S bad).2.2
  rw[h3] at h1
  omega
 refine⟨hsim,hhp.unt t1,by show 0<T.1.length;omega,fun x hxx=>?_,hnd,?_,fun j a b=>?_,?_,fun a=>?_,fun a=>?_,?_,?_,?_⟩
 ·have h1:x∈negL (gn S.trail u) :: ls:=hT.perm.mem_iff.1 hxx
  rcases List.mem_cons.1 h1 with rfl | h1
  ·exact⟨negL_two (h.tr.two u hu),by rw[negL_half];exact h.tr.lt u hu,by rw[isL_neg,h.tr.is u hu]⟩
  ·have h2:=e3 x h1
   refine⟨?_,isL_lt (by omega),h2.2.1⟩
   obtain⟨i,hi,ei⟩:=h.tr.at_false h2.2.1
   have:=h.tr.two i hi
   have h3:=negL_two this
   rw[ei,negL_negL] at h3
   exact h3
 ·show gn S.level (gn T.1 0/2)=_
  rw[hT.head]
  show gn S.level (negL (gn S.trail u)/2)=_
  rw[negL_half];exact hcl
 ·have h1:=e3 _ (hin j a b)
  refine⟨h1.2.2.1,?_⟩
  have:=hT.le j a (by rw[List.length_cons];change j<T.1.length at b;omega)
  rw[hlev] at this
  exact this
 ·show T.2<_
  by_cases k:1<T.1.length
  ·have:=hT.one (by rw[List.length_cons];omega)
   rw[hlev] at this
   rw[this]
   exact (e3 _ (hin 1 (by omega) k)).2.2.2
  ·have:=hT.none (by rw[List.length_cons];omega)
   omega
 ·have:=hT.one (by rw[List.length_cons];change 1<T.1.length at a;omega)
  rw[hlev] at this;exact this
 ·exact hT.none (by rw[List.length_cons];change T.1.length=1 at a;omega)
 ·show 0<Q.2.length
  omega
 ·show Q.2.length≤_
  change A.fr.length≤_ at hfr
  omega
 ·show gi Q.2 0=_
  rw[←hQ,unitAll_head _ _ _ hne,←h3,learnGo_head _ _ _ _ (by omega),h20]
  rfl
end Go.Proofs.YthbbmdnfkkffjaaGreat
namespace Go.Proofs.YthbbmdnfkkffjaaGreat
open Go.Proofs.PlaitPure Go.Proofs.PlaitSat
theorem attach_cls (S:SM) (c:List Nat) (d:Int):(S.attach c d).cls=S.cls++[(c,d)]:=by unfold SM.attach;split <;> rfl
theorem attach_cl (S:SM) (c:List Nat) (d:Int) (r:Nat):(S.attach c d).cl r=if r=S.cls.length then c else S.cl r:=by
 unfold SM.cl
 rw[attach_cls]
 by_cases e:r=S.cls.length
 ·rw[if_pos e,e];simp[List.getD_eq_getElem?_getD]
 ·rw[if_neg e]
  rcases Nat.lt_or_ge r S.cls.length with h | h
  ·simp[List.getD_eq_getElem?_getD,List.getElem?_append_left h]
  ·simp[List.getD_eq_getElem?_getD,List.getElem?_eq_none (show (S.cls++[(c,d)]).length≤r by simp;omega),List.getElem?_eq_none h]
theorem attach_same (S:SM) (c:List Nat) (d:Int):∃ ws,S.attach c d={ S with cls:=S.cls++[(c,d)],watches:=ws }∧ws.length=S.watches.length:=by
 unfold SM.attach
 split
 ·exact⟨_,rfl,by show ((S.watches.set _ _).set _ _).length=_;rw[List.length_set,List.length_set]⟩
 ·exact⟨S.watches,rfl,rfl⟩
theorem attach_row (S:SM) (c:List Nat) (d:Int) (h2:1<c.length) (h0:gn c 0<S.watches.length) (h1:gn c 1<S.watches.length) (hne:gn c 0≠gn c 1) (j:Nat) :
  gN (S.attach c d).watches j=if j=gn c 0∨j=gn c 1 then gN S.watches j++[S.cls.length] else gN S.watches j:=by
 unfold SM.attach
 rw[if_pos h2]
 show gN ((S.watches.set (gn c 0) (gN S.watches (gn c 0)++[S.cls.length])).set (gn c 1) (gN (S.watches.set (gn c 0) (gN S.watches (gn c 0)++[S.cls.length])) (gn c 1)++[S.cls.length])) j=_
 rw[gN_set (by rw[List.length_set];exact h1),gN_set h0,gN_set h0,if_neg (Ne.symm hne)]
 by_cases a:j=gn c 1
 ·subst a;simp
 ·by_cases b:j=gn c 0
  ·subst b;simp[a]
  ·simp[a,b]
theorem ClI.attach {S:SM} (h:ClI S) {c:List Nat} {d:Int} (hn:(c.map (·/2)).Nodup) (hc:∀ x∈c,2≤x∧x/2<S.value.length):ClI (S.attach c d):=by
 have hv:(S.attach c d).value=S.value:=by obtain⟨ws,e,_⟩:=attach_same S c d;rw[e]
 have hl:(S.attach c d).cls.length=S.cls.length+1:=by rw[attach_cls];simp
 refine⟨fun r hr=>?_,fun r hr x hx=>?_⟩
 ·rw[attach_cl];split
  ·exact hn
  ·exact h.nd r (by omega)
 ·rw[attach_cl] at hx;rw[hv];split at hx
  ·exact hc x hx
  ·exact h.two r (by omega) x hx
theorem WaI.attach {S:SM} (h:WaI S) {c:List Nat} {d:Int} (h0:1<c.length→gn c 0<S.watches.length∧gn c 1<S.watches.length∧gn c 0≠gn c 1):WaI (S.attach c d):=by
 have hl:(S.attach c d).cls.length=S.cls.length+1:=by rw[attach_cls];simp
 have hno:∀ j,S.cls.length∉gN S.watches j:=fun j hm=>by have:=((h.iff j _).1 hm).1;omega
 by_cases h2:1<c.length
 ·obtain⟨a,b,e⟩:=h0 h2
  have hrow:=attach_row S c d h2 a b e
  refine⟨fun j=>?_,fun j r=>?_⟩
  ·rw[hrow]
   split
   ·rw[List.nodup_append]
    exact⟨h.nd j,by simp,fun x hx y hy k=>hno j (by rw[List.mem_singleton.1 hy] at k;rw[←k];exact hx)⟩
   ·exact h.nd j
  ·rw[hrow,hl,attach_cl]
   by_cases k:r=S.cls.length
   ·subst k
    rw[if_pos rfl]
    split
    ·rename_i hh;exact⟨fun _=>⟨by omega,by omega,hh⟩,fun _=>by simp⟩
    ·rename_i hh;exact⟨fun hm=>absurd hm (hno j),fun hm=>absurd hm.2.2 hh⟩
   ·rw[if_neg k]
    have:(r∈if j=gn c 0∨j=gn c 1 then gN S.watches j++[S.cls.length] else gN S.watches j)↔r∈gN S.watches j:=by
     split
     ·simp[k]
     ·rfl
    rw[this,h.iff]
    constructor <;> rintro⟨x,y⟩ <;> exact⟨by omega,y⟩
 ·have hw:(S.attach c d).watches=S.watches:=by unfold SM.attach;rw[if_neg h2]
  refine⟨by rw[hw];exact h.nd,fun j r=>?_⟩
  rw[hw,hl,attach_cl,h.iff]
  by_cases k:r=S.cls.length
  ·subst k
   rw[if_pos rfl]
   constructor
   ·rintro⟨x,_⟩;omega
   ·rintro⟨_,x,_⟩;omega
  ·rw[if_neg k]
   constructor <;> rintro⟨x,y⟩ <;> exact⟨by omega,y⟩
end Go.Proofs.YthbbmdnfkkffjaaGreat
namespace Go.Proofs.YthbbmdnfkkffjaaGreat
open Go.Proofs.PlaitPure Go.Proofs.PlaitSat
theorem levAt_lt {S:SM} (h:S.ends.Pairwise (·≤·)) {k i:Nat} (hk:k<S.ends.length) (hi:i<gn S.ends k):levAt S i≤k:=by
 unfold levAt
 rw[←levAt_take h hk hi]
 exact Nat.le_trans List.countP_le_length (by rw[List.length_take];omega)
theorem levAt_ge {S:SM} (h:S.ends.Pairwise (·≤·)) {k i:Nat} (hk:k<S.ends.length) (hi:gn S.ends k≤i):k+1≤levAt S i:=by
 unfold levAt
 have e:S.ends.countP (fun e=>decide (e≤i))=(S.ends.take (k+1)).countP (fun e=>decide (e≤i))+(S.ends.drop (k+1)).countP (fun e=>decide (e≤i)):=by
  rw[←List.countP_append,List.take_append_drop]
 have:(S.ends.take (k+1)).countP (fun e=>decide (e≤i))=(S.ends.take (k+1)).length:=by
  rw[List.countP_eq_length]
  intro a ha
  obtain⟨j,hj,rfl⟩:=mem_gn ha
  rw[List.length_take] at hj
  rw[gn_take (by omega)]
  have:=mono_gn h (by omega:j≤k) hk
  simp;omega
 rw[List.length_take] at this
 omega
theorem FoI.back {S:SM} (h:FoI S) {k:Nat} (hk:k<S.ends.length):FoI (S.back k):=by
 obtain⟨b1,b2,b3,_,_⟩:=back_facts k h.hp.hi h.tr.sz h.tr.var_lt
 have hT:=h.tr.back hk b2 b3
 obtain⟨hs,hv,hr,_⟩:=back_by k h.tr hk
 have hH:=h.hp.back h.tr hk b3 b1
 have hee:gn S.ends k≤S.next:=h.en _ (gn_mem _ _ hk)
 have hnt:=h.ne
 obtain⟨T,hTe⟩:∃ T,S.back k=T:=⟨_,rfl⟩
 rw[hTe] at hT hs hv hr hH b1 b2 b3 ⊢
 obtain⟨e,he⟩:∃ e,gn S.ends k=e:=⟨_,rfl⟩
 rw[he] at hs hv hr hee
 have hisT:∀ i,i<e→T.isL (gn S.trail i)=1:=fun i hi=>by
  have h1:=hT.is i
  obtain⟨ph,va,re,hl,pl,rfl⟩:=hs
  have h2:=h1 (by show i<(S.trail.take e).length;rw[List.length_take];omega)
  change SM.isL _ (gn (S.trail.take e) i)=1 at h2
  rw[gn_take hi] at h2
  exact h2
 obtain⟨ph,va,re,hl,pl,rfl⟩:=hs
 have key:∀ a b,PI1 S S.next a b→PI1 (SM.wBk S ph va re hl pl (S.trail.take e) (S.ends.take k) e) e a b:=fun a b hp hk2=>by
  obtain⟨i,i1,i2,i3⟩:=hk2
  change i<(S.trail.take e).length at i2
  change gn (S.trail.take e) i=negL a at i3
  rw[gn_take i1] at i3
  have hpr:Proc S S.next a:=⟨i,by omega,by omega,i3⟩
  obtain⟨c1,c2⟩:=hp hpr
  have hav:gn S.trail i/2=a/2:=by rw[i3,negL_half]
  have hla:gn S.level (a/2)≤k:=by
   rw[←hav,h.tr.lev i (by omega)]
   exact levAt_lt h.tr.mono hk (by omega)
  obtain⟨j,hj,ej⟩:=h.tr.at_true c1
  have hje:j<e:=by
   apply Classical.byContradiction;intro hc
   have h1:=levAt_ge h.tr.mono hk (by omega:gn S.ends k≤j)
   have h2:=h.tr.lev j hj
   rw[ej] at h2
   omega
  refine⟨by rw[←ej];exact hisT j hje,c2⟩
 refine⟨hT,⟨h.cl.nd,fun r hr x hx=>⟨(h.cl.two r hr x hx).1,by rw[b3];exact (h.cl.two r hr x hx).2⟩⟩,⟨h.wa.nd,h.wa.iff⟩,hH,fun r hr h2=>?_,?_,fun x hx=>?_⟩
 ·obtain⟨a,b⟩:=h.pi r hr h2
  exact⟨key _ _ a,key _ _ b⟩
 ·show e≤(S.trail.take e).length
  rw[List.length_take];omega
 ·change x∈S.ends.take k at hx
  show x≤e
  obtain⟨j,hj,rfl⟩:=mem_gn hx
  rw[List.length_take] at hj
  rw[gn_take (by omega),←he]
  exact mono_gn h.tr.mono (by omega) hk
end Go.Proofs.YthbbmdnfkkffjaaGreat
namespace Go.Proofs.YthbbmdnfkkffjaaGreat
open Go.Proofs.PlaitPure Go.Proofs.PlaitSat
theorem FoI.attach {S:SM} (h:FoI S) {c:List Nat} {d:Int} (hn:(c.map (·/2)).Nodup) (hc:∀ x∈c,2≤x∧x/2<S.value.length)
  (hp:1<c.length→PI1 S S.next (gn c 0) (gn c 1)∧PI1 S S.next (gn c 1) (gn c 0)):FoI (S.attach c d):=by
 have hne:1<c.length→gn c 0≠gn c 1:=fun k e=>by
  have:=(List.getElem_inj (h₀:=by rw[List.length_map];omega) (h₁:=by rw[List.length_map];exact k) hn).1 (show (c.map (·/2))[0]'(by rw[List.length_map];omega)=(c.map (·/2))[1]'(by rw[List.length_map];exact k) by rw[List.getElem_map,List.getElem_map,←gn_eq _ _ (by omega),←gn_eq _ _ k,e])
  omega
 have hcl:=h.cl.attach (d:=d) hn hc
 have hwa:=h.wa.attach (c:=c) (d:=d) fun k=>⟨h.watch_lt (hc _ (gn_mem _ _ (by omega))).2,h.watch_lt (hc _ (gn_mem _ _ k)).2,hne k⟩
 have hac:=attach_cl S c d
 have hlen:(S.attach c d).cls.length=S.cls.length+1:=by rw[attach_cls];simp
 obtain⟨ws,e,hwl⟩:=attach_same S c d
 rw[e] at hcl hwa hac hlen ⊢
 refine⟨h.tr.congr ⟨h.tr.sz.level,h.tr.sz.reason,h.tr.sz.phase,h.tr.sz.occurs,h.tr.sz.units,hwl.trans h.tr.sz.watches⟩ rfl rfl rfl rfl rfl (by rw[hlen];omega) (fun r hr x=>by rw[hac,if_neg (by omega)]),hcl,hwa,⟨⟨⟨h.hp.hi.hb.small,h.hp.hi.hb.vars,h.hp.hi.hb.place,h.hp.hi.hb.met,h.hp.hi.hb.hl⟩,h.hp.hi.pl,h.hp.hi.bk⟩,h.hp.nz,h.hp.all⟩,fun r hr h2=>?_,h.ne,h.en⟩
 rw[hac] at h2 ⊢
 split
 ·rename_i k
  rw[if_pos k] at h2
  exact hp h2
 ·rename_i k
  rw[if_neg k] at h2
  exact h.pi r (by omega) h2
end Go.Proofs.YthbbmdnfkkffjaaGreat
namespace Go.Proofs.YthbbmdnfkkffjaaGreat
open Go.Proofs.PlaitPure Go.Proofs.PlaitSat
theorem FoI.other {S T:SM} (h:FoI S) (hs:∃ w l st,T={ S with words:=w,learned:=l,steps:=st }):FoI T:=by
 obtain⟨w,l,st,rfl⟩:=hs
 exact⟨h.tr.congr ⟨h.tr.sz.level,h.tr.sz.reason,h.tr.sz.phase,h.tr.sz.occurs,h.tr.sz.units,h.tr.sz.watches⟩ rfl rfl rfl rfl rfl (Nat.le_refl _) (fun _ _ _=>Iff.rfl),⟨h.cl.nd,h.cl.two⟩,⟨h.wa.nd,h.wa.iff⟩,⟨⟨⟨h.hp.hi.hb.small,h.hp.hi.hb.vars,h.hp.hi.hb.place,h.hp.hi.hb.met,h.hp.hi.hb.hl⟩,h.hp.hi.pl,h.hp.hi.bk⟩,h.hp.nz,h.hp.all⟩,h.pi,h.ne,h.en⟩
theorem FoI.fade {S:SM} (h:FoI S):FoI S.fade:=h.sim (sim_honly (honly_fade S)) h.hp.fade
theorem TrI.back_isL {S:SM} (h:TrI S) {k:Nat} (hk:k<S.ends.length) {x:Nat} (hx:S.isL x≠0) :
  (gn S.level (x/2)≤k→(S.back k).isL x=S.isL x)∧(k<gn S.level (x/2)→(S.back k).isL x=0):=by
 have hb:=back_by k h hk
 have hv:gi S.value (x/2)≠0:=fun e=>hx (isL_zero.2 e)
 obtain⟨i,hi,e⟩:=h.all _ (isL_lt hx) hv
 have hl:=h.lev i hi
 rw[e] at hl
 constructor
 ·intro hle
  have hie:i<gn S.ends k:=by
   apply Classical.byContradiction;intro hc
   have:=levAt_ge h.mono hk (by omega:gn S.ends k≤i)
   omega
  have hn:x/2∉(S.trail.drop (gn S.ends k)).map (·/2):=fun hm=>by
   obtain⟨y,hy,e2⟩:=List.mem_map.1 hm
   obtain⟨j,h1,h2,rfl⟩:=mem_drop_gn hy
   have:=h.inj j i h2 hi (by rw[e2,e])
   omega
  have h3:=hb.value (x/2)
  rw[if_neg hn] at h3
  unfold SM.isL
  rw[h3]
 ·intro hlt
  have hie:gn S.ends k≤i:=by
   apply Classical.byContradiction;intro hc
   have:=levAt_lt h.mono hk (by omega:i<gn S.ends k)
   omega
  refine isL_zero.2 ?_
  rw[hb.value,if_pos (List.mem_map.2 ⟨_,gn_mem_drop hie hi,e⟩)]
end Go.Proofs.YthbbmdnfkkffjaaGreat
namespace Go.Proofs.YthbbmdnfkkffjaaGreat
open Go.Proofs.PlaitPure Go.Proofs.PlaitSat
structure Keeps (S:SM) (c:List Nat) (h:Nat):Prop where
 hk:h<S.ends.length
 c0:0<c.length
 no:∀ x∈c,2≤x∧x/2<S.value.length∧S.isL x=-1
 nd:(c.map (·/2)).Nodup
 top:gn S.level (gn c 0/2)=S.ends.length
 low:∀ j,1≤j→j<c.length→gn S.level (gn c j/2)≤h
 one:1<c.length→h=gn S.level (gn c 1/2)
theorem Keeps.back {S:SM} (hF:FoI S) {c:List Nat} {h:Nat} (k:Keeps S c h):(S.back h).isL (gn c 0)=0∧∀ j,1≤j→j<c.length→(S.back h).isL (gn c j)=-1:=by
 refine⟨?_,fun j a b=>?_⟩
 ·have h1:=(k.no _ (gn_mem _ _ k.c0)).2.2
  exact (hF.tr.back_isL k.hk (x:=gn c 0) (by omega)).2 (by rw[k.top];exact k.hk)
 ·have h1:=(k.no _ (gn_mem _ _ b)).2.2
  rw[(hF.tr.back_isL k.hk (x:=gn c j) (by omega)).1 (k.low j a b)]
  exact h1
theorem FoI.attach_set {S:SM} (h:FoI S) {c:List Nat} {d:Int} (c0:0<c.length) (hn:(c.map (·/2)).Nodup) (hc:∀ x∈c,2≤x∧x/2<S.value.length) (hu:S.isL (gn c 0)=0)
  (hf:∀ j,1≤j→j<c.length→S.isL (gn c j)=-1) (hl:1<c.length→gn S.level (gn c 1/2)=S.ends.length):FoI ((S.attach c d).setL (gn c 0) (S.cls.length:Nat)):=by
 obtain⟨t2,tl⟩:=hc _ (gn_mem _ _ c0)
 have hne:1<c.length→gn c 0≠gn c 1:=fun k e=>by
  have:=hf 1 (Nat.le_refl _) k
  rw[←e,hu] at this;cases this
 have hcl:=h.cl.attach (d:=d) hn hc
 have hwa:=h.wa.attach (c:=c) (d:=d) fun k=>⟨h.watch_lt tl,h.watch_lt (hc _ (gn_mem _ _ k)).2,hne k⟩
 have hac:=attach_cl S c d
 have hlen:(S.attach c d).cls.length=S.cls.length+1:=by rw[attach_cls];simp
 obtain⟨ws,e,hwl⟩:=attach_same S c d
 rw[e] at hcl hwa hac hlen ⊢
 obtain⟨A,hA⟩:∃ A,({ S with cls:=S.cls++[(c,d)],watches:=ws }:SM)=A:=⟨_,rfl⟩
 rw[hA] at hcl hwa hac hlen ⊢
 have hv:A.value=S.value:=by rw[←hA]
 have hL:∀ l,A.isL l=S.isL l:=fun l=>by unfold SM.isL;rw[hv]
 have htr:TrI A:=by
  subst hA
  exact h.tr.congr ⟨h.tr.sz.level,h.tr.sz.reason,h.tr.sz.phase,h.tr.sz.occurs,h.tr.sz.units,hwl.trans h.tr.sz.watches⟩ rfl rfl rfl rfl rfl (by rw[hlen];omega) (fun r hr x=>by rw[hac,if_neg (by omega)])
 have hhp:HpAll A:=by
  subst hA
  exact⟨⟨⟨h.hp.hi.hb.small,h.hp.hi.hb.vars,h.hp.hi.hb.place,h.hp.hi.hb.met,h.hp.hi.hb.hl⟩,h.hp.hi.pl,h.hp.hi.bk⟩,h.hp.nz,h.hp.all⟩
 have hall:∀ x∈c,x≠gn c 0→A.isL x=-1:=fun x hx hxe=>by
  obtain⟨j,hj,rfl⟩:=mem_gn hx
  rw[hL]
  exact hf j (by rcases Nat.eq_zero_or_pos j with e | e;exact absurd (by rw[e]) hxe;exact e) hj
 have hAl:gn c 0/2<A.value.length:=by rw[hv];exact tl
 have hT:=htr.setL (l:=gn c 0) (r:=((S.cls.length:Nat):Int)) t2 hAl (by rw[hL];exact hu) (.inr ⟨S.cls.length,rfl,by omega,by rw[hac,if_pos rfl];exact gn_mem _ _ c0,by rw[hac,if_pos rfl];exact hall⟩)
 have hfw:=fwd_setL (S:=A) (l:=gn c 0) (r:=((S.cls.length:Nat):Int)) hAl htr.sz.level (by rw[hL];exact hu)
 have hAt:A.trail=S.trail:=by rw[←hA]
 have hAn:A.next=S.next:=by rw[←hA]
 have hAe:A.ends=S.ends:=by rw[←hA]
 have hAlv:A.level=S.level:=by rw[←hA]
 refine⟨hT,⟨hcl.nd,fun r hr x hx=>?_⟩,⟨hwa.nd,hwa.iff⟩,hhp.setL hAl,fun r hr h2=>?_,?_,?_⟩
 ·rw[hfw.vlen];exact hcl.two r hr x hx
 ·change r<A.cls.length at hr
  change 2≤(A.cl r).length at h2
  show PI1 _ A.next (gn (A.cl r) 0) (gn (A.cl r) 1)∧PI1 _ A.next (gn (A.cl r) 1) (gn (A.cl r) 0)
  rw[hac] at h2 ⊢
  have hne2:A.next≤A.trail.length:=by rw[hAn,hAt];exact h.ne
  by_cases k:r=S.cls.length
  ·rw[if_pos k] at h2 ⊢
   refine⟨fun hp=>?_,fun _=>⟨by rw[isL_setL hAl,if_pos rfl],?_⟩⟩
   ·have:=((hfw.proc hne2).1 hp).false htr
    rw[hL,hu] at this;cases this
   ·have h3:gn (A.setL (gn c 0) ((S.cls.length:Nat):Int)).level (gn c 0/2)=A.ends.length:=by
     show gn (A.level.set _ _) _=_
     rw[gn_set (by rw[htr.sz.level];exact hAl),if_pos rfl]
    rw[h3,hfw.lev (l:=gn c 1) (by rw[hL,hf 1 (Nat.le_refl _) h2];omega),hAlv,hl h2,hAe]
    exact Nat.le_refl _
  ·rw[if_neg k] at h2 ⊢
   obtain⟨a,b⟩:=h.pi r (by omega) h2
   have tr:∀ x y,PI1 S S.next x y→PI1 A A.next x y:=fun x y hp=>by
    intro ⟨i,i1,i2,i3⟩
    rw[hAn] at i1
    rw[hAt] at i2 i3
    obtain⟨p,q⟩:=hp ⟨i,i1,i2,i3⟩
    exact⟨by rw[hL];exact p,by rw[hAlv];exact q⟩
   exact⟨hfw.pi1 htr hne2 (tr _ _ a),hfw.pi1 htr hne2 (tr _ _ b)⟩
 ·show A.next≤_
  have:=hfw.le;have:=h.ne;rw[hAn];rw[hAt] at *;omega
 ·show ∀ x∈A.ends,x≤A.next
  rw[hAe,hAn];exact h.en
end Go.Proofs.YthbbmdnfkkffjaaGreat
namespace Go.Proofs.YthbbmdnfkkffjaaGreat
open Go.Proofs.PlaitPure Go.Proofs.PlaitSat
theorem step_other (S:SM) (fr:List Int):∃ st,(S.step fr).1={ S with steps:=st }∧st.length≤S.steps.length+1:=by
 unfold SM.step
 split
 ·exact⟨S.steps,rfl,by omega⟩
 ·exact⟨_,rfl,by simp⟩
theorem FoI.keep {S:SM} (hF:FoI S) {c:List Nat} {h:Nat} (fr:List Int) (k:Keeps S c h):FoI (S.keep c fr h):=by
 obtain⟨b1,b2⟩:=k.back hF
 have hB:=hF.back k.hk
 have hb:=back_by h hF.tr k.hk
 obtain⟨T,hT⟩:∃ T,S.back h=T:=⟨_,rfl⟩
 have hlv:T.level=S.level∧T.ends.length=h∧T.value.length=S.value.length:=by
  obtain⟨_,_,b3,_,_⟩:=back_facts h hF.hp.hi hF.tr.sz hF.tr.var_lt
  obtain⟨ph,va,re,hl,pl,e⟩:=hb.same
  rw[hT] at b3 e
  refine⟨by rw[e];rfl,?_,b3⟩
  rw[e]
  show (S.ends.take h).length=h
  rw[List.length_take];have:=k.hk;omega
 unfold SM.keep
 rw[hT] at b1 b2 hB ⊢
 obtain⟨st,e,_⟩:=step_other { T with words:=T.words+(c.length+2),learned:=T.learned++[c.map numF] } fr
 simp only
 rw[e]
 have hO:FoI ({ T with words:=T.words+(c.length+2),learned:=T.learned++[c.map numF],steps:=st }:SM):=hB.other ⟨_,_,_,rfl⟩
 have hA:=hO.attach_set (c:=c) (d:=(SM.step { T with words:=T.words+(c.length+2),learned:=T.learned++[c.map numF] } fr).2) k.c0 k.nd (fun x hx=>⟨(k.no x hx).1,by show _<T.value.length;rw[hlv.2.2];exact (k.no x hx).2.1⟩) b1 b2 (fun hh=>by show gn T.level _=T.ends.length;rw[hlv.1,hlv.2.1];exact (k.one hh).symm)
 split
 ·exact hA.fade
 ·exact hA
end Go.Proofs.YthbbmdnfkkffjaaGreat
namespace Go.Proofs.YthbbmdnfkkffjaaGreat
open Go.Proofs.PlaitPure Go.Proofs.PlaitSat
theorem Lesson.keeps {S:SM} {bad:Nat} {R:SM×List Nat×List Int×Nat} (h:Lesson S bad R):Keeps R.1 R.2.1 R.2.2.2:=by
 obtain⟨a,b,c,u,st,e⟩:=h.sim.same
 have e1:R.1.ends=S.ends:=by rw[e]
 have e2:R.1.level=S.level:=by rw[e]
 have e3:R.1.value=S.value:=by rw[e]
 have hL:∀ l,R.1.isL l=S.isL l:=fun l=>by unfold SM.isL;rw[e3]
 exact⟨by rw[e1];exact h.h,h.c0,fun x hx=>by rw[e3,hL];exact h.no x hx,h.nd,by rw[e1,e2];exact h.top,fun j x y=>by rw[e2];exact (h.low j x y).2,fun x=>by rw[e2];exact h.one x⟩
theorem kpOk {K:Nat} {S:SM} (h:FoI S) (hx:ExI K S) {c:List Nat} {fr:List Int} {k:Nat} (hk:Keeps S c k) (he:S.ends.length≤800000) (hl:S.learned.length≤900000) (f0:0<fr.length) (fl:fr.length≤1000000):KpOk S c fr k:=by
 have hs:=h.hp.hi.hb.small
 have ht:=h.tr.len
 have hw:=hx.words
 have hp:=hx.pot
 have hc:=hx.cls
 have hcl:c.length≤S.value.length:=by
  have:=nodup_lt (n:=S.value.length) hk.nd fun v hv=>by
   obtain⟨x,hxx,rfl⟩:=List.mem_map.1 hv
   exact (hk.no x hxx).2.1
  rwa [List.length_map] at this
 refine⟨h.hp.hi,h.tr.sz,h.tr.var_lt,by omega,by omega,fun a=>h.tr.ends _ (gn_mem _ _ a),by have:=hk.hk;omega,by omega,hk.c0,by omega,fun x hxx=>(hk.no x hxx).2.1,hl,f0,fl,by omega,by omega,fun r hr=>?_⟩
 obtain⟨j,hj,rfl⟩:=List.getElem_of_mem hr
 have:S.watches[j]=gN S.watches j:=by simp[gN,hj]
 rw[this]
 have:=h.wa.len j
 omega
structure Kept (S T:SM) (c:List Nat) (h:Nat) (d:Int):Prop where
 same:∃ ph va le re hl pl mt ws st,T={ S with phase:=ph,value:=va,level:=le,reason:=re,hl:=hl,place:=pl,met:=mt,trail:=S.trail.take (gn S.ends h)++[gn c 0],ends:=S.ends.take h,next:=gn S.ends h,watches:=ws,steps:=st,words:=S.words+(c.length+2),learned:=S.learned++[c.map numF],cls:=S.cls++[(c,d)] }
 vlen:T.value.length=S.value.length
 steps:T.steps.length≤S.steps.length+1
theorem step_id (S:SM) (fr:List Int):(S.step fr).2=gi fr 0∨(S.step fr).2≤-2:=by
 unfold SM.step
 split
 ·exact .inl rfl
 ·exact .inr (by show -2-((S.steps.length:Nat):Int)≤-2;omega)
theorem kept {S:SM} (hF:FoI S) {c:List Nat} {h:Nat} (fr:List Int) (hk:h<S.ends.length):∃ d,Kept S (S.keep c fr h) c h d∧((d=gi fr 0)∨d≤-2):=by
 obtain⟨_,_,b3,_,_⟩:=back_facts h hF.hp.hi hF.tr.sz hF.tr.var_lt
 obtain⟨⟨ph,va,re,hl,pl,e⟩,_,_,_⟩:=back_by h hF.tr hk
 obtain⟨T,hT⟩:∃ T,S.back h=T:=⟨_,rfl⟩
 rw[hT] at b3 e
 obtain⟨d,hd⟩:∃ d,(SM.step { T with words:=T.words+(c.length+2),learned:=T.learned++[c.map numF] } fr).2=d:=⟨_,rfl⟩
 have hdd:=step_id { T with words:=T.words+(c.length+2),learned:=T.learned++[c.map numF] } fr
 rw[hd] at hdd
 refine⟨d,?_,hdd⟩
 unfold SM.keep
 rw[hT]
 obtain⟨st,e1,hs⟩:=step_other { T with words:=T.words+(c.length+2),learned:=T.learned++[c.map numF] } fr
 simp only
 rw[e1,hd]
 obtain⟨ws,e2,_⟩:=attach_same { T with words:=T.words+(c.length+2),learned:=T.learned++[c.map numF],steps:=st } c d
 rw[e2]
 have hbase:∀ (U:SM) (r:Int),U=SM.setL { T with words:=T.words+(c.length+2),learned:=T.learned++[c.map numF],steps:=st,cls:=T.cls++[(c,d)],watches:=ws } (gn c 0) r→Kept S U c h d:=fun U r hU=>by
  subst hU
  subst e
  refine⟨⟨_,_,_,_,_,_,_,_,_,rfl⟩,?_,hs⟩
  show (List.set va _ _).length=_
  rw[List.length_set];exact b3
 split
 ·obtain⟨V,hV⟩:∃ V,SM.setL { T with words:=T.words+(c.length+2),learned:=T.learned++[c.map numF],steps:=st,cls:=T.cls++[(c,d)],watches:=ws } (gn c 0) (T.cls.length:Nat)=V:=⟨_,rfl⟩
  have k:=hbase V _ hV.symm
  show Kept S (SM.fade (SM.setL { T with words:=T.words+(c.length+2),learned:=T.learned++[c.map numF],steps:=st,cls:=T.cls++[(c,d)],watches:=ws } (gn c 0) (T.cls.length:Nat))) c h d
  rw[hV]
  obtain⟨k1,k2,k3⟩:=k
  obtain⟨a,b,m,e3⟩:=(honly_fade V).same
  rw[e3]
  obtain⟨_,_,_,_,_,_,_,_,_,rfl⟩:=k1
  exact⟨⟨_,_,_,_,_,_,_,_,_,rfl⟩,k2,k3⟩
 ·exact hbase _ _ rfl
end Go.Proofs.YthbbmdnfkkffjaaGreat
