/-
  Parts of the proof, joined by program: Pi36, Pi37, amb, aij, amc.
-/
import Derived.Test.YthbbmdnfkkffjaaGreatY31
import Derived.Test.YthbbmdnfkkffjaaGreatY01
import Derived.Test.YthbbmdnfkkffjaaGreatY30
import Derived.Deep.RegionHeld3
import Derived.Lib.Hide
set_option maxHeartbeats 8000000
set_option maxRecDepth 100000
namespace Go.Proofs.YthbbmdnfkkffjaaGreat
open Go.Proofs.au Go.Proofs.aA
theorem vY (b:Nat→Bool) {x:Int} (h:0<x.natAbs):tr b (aJ x)=true↔b x.natAbs=decide (0<x):=by
 unfold tr;rw[dU];unfold aJ
 by_cases e:x<0
 ·rw[if_pos e,if_pos (by omega)];have:decide (0<x)=false:=by simp;omega
  rw[this];simp
 ·rw[if_neg e,if_neg (by omega)];have:decide (0<x)=true:=by simp;omega
  rw[this]
theorem Za (S:SM) {x:Int} (_h:0<x.natAbs):S.bF (aJ x)=if x<0 then -(gi S.value x.natAbs) else gi S.value x.natAbs:=by
 unfold SM.bF;rw[dU];unfold aJ
 by_cases e:x<0
 ·rw[if_pos e,if_pos (by omega),if_pos e]
 ·rw[if_neg e,if_neg (by omega),if_neg e]
theorem jk.all_true {asm:List Int} {K:Nat} {U:SM} (h:jk asm K U) (nx:U.next=U.trail.length) (all:∀ v,0<v→v<U.value.length→gi U.value v≠0):∀ r,r<U.cls.length→∃ x∈U.cl r,U.bF x=1:=fun r hr=>by
 by_cases h2:2≤(U.cl r).length
 ·have m0:=aU (U.cl r) 0 (by omega);have m1:=aU (U.cl r) 1 (by omega);have k0:=h.fo.cl.two r hr _ m0;rcases rU h.fo.tr.vals (gn (U.cl r) 0) with k | k | k
  ·exact⟨_,m0,k⟩
  ·obtain⟨i,hi,e⟩:=h.fo.tr.jS k;exact⟨_,m1,((h.fo.pi r hr h2).1 ⟨i,by omega,hi,e⟩).1⟩
  ·exact absurd (gX.1 k) (all _ (by omega) k0.2)
 ·obtain⟨a,b,_⟩:=h.un r hr (by omega);exact⟨_,aU _ _ (by omega),b⟩
theorem Zb (value:List Int) (occurs:List Bool) (h:occurs.length=value.length) (v:Nat):gB (List.zipWith (fun x o=>decide (0<x)&&o) value occurs) v=(decide (0<gi value v)&&gB occurs v):=by
 unfold gB gi;rw[List.getD_eq_getElem?_getD,List.getD_eq_getElem?_getD,List.getD_eq_getElem?_getD,List.getElem?_zipWith]
 by_cases hv:v<value.length
 ·rw[List.getElem?_eq_getElem hv,List.getElem?_eq_getElem (by omega)];rfl
 ·rw[List.getElem?_eq_none (by omega),List.getElem?_eq_none (by omega)];simp
theorem CB {value:List Int}:∀ (asm:List Int) (m:List Bool),m.length=value.length→(∀ a∈asm,0<a.natAbs∧a.natAbs<value.length∧decide (0<a)=decide (0<gi value a.natAbs)) →
  (asm.foldl (fun m a=>m.set (aJ a/2) (decide (0<a))) m).length=value.length∧∀ v,gB (asm.foldl (fun m a=>m.set (aJ a/2) (decide (0<a))) m) v=if v∈asm.map Int.natAbs then decide (0<gi value v) else gB m v
 | [],m,hm,_=>⟨hm,fun v=>by simp⟩
 | a :: r,m,hm,ha=>by
  obtain⟨h1,h2,h3⟩:=ha a (by simp);obtain⟨p,q⟩:=CB r (m.set (aJ a/2) (decide (0<a))) (by rw[List.length_set];exact hm) fun x hx=>ha x (by simp[hx]);refine⟨p,fun v=>?_⟩;rw[List.foldl_cons,q];rw[dU,qB (by omega)]
  by_cases e1:v∈r.map Int.natAbs
  ·rw[if_pos e1,if_pos (by simp at e1 ⊢;exact .inr e1)]
  ·rw[if_neg e1]
   by_cases e2:v=a.natAbs
   ·rw[if_pos e2,if_pos (by simp[e2]),e2];exact h3
   ·rw[if_neg e2,if_neg (by simp at e1 ⊢;exact⟨fun k=>e2 k,e1⟩)]
theorem yM (g:List Int):∀ (asm out:List Int),∃ s,SM.jY g out asm=out++s∧s.Sublist asm∧(out.Nodup→(out++s).Nodup)
 | [],out=>⟨[],by simp[SM.jY],List.Sublist.refl _,fun h=>by simpa using h⟩
 | a :: r,out=>by
  rw[SM.jY]
  split
  ·rename_i h;obtain⟨s,e,p,q⟩:=yM g r (out++[a]);refine⟨a :: s,by rw[e];simp,p.cons_cons a,fun k=>?_⟩;have:=q (by rw[List.nodup_append];exact⟨k,by simp,fun x hx y hy=>by rw[List.mem_singleton] at hy;subst hy;exact fun e=>h.2 (e▸hx)⟩);simpa using this
  ·obtain⟨s,e,p,q⟩:=yM g r out;exact⟨s,e,p.cons a,q⟩
structure Answer (asm:List Int) (S T:SM) (v e:Int):Prop where
 given:T.given=S.given
 cm:T.conf=S.conf∧T.most=S.most
 words:T.words=S.words+lw T
 le:S.value.length≤T.value.length
 av:∀ x∈asm,x.natAbs<T.value.length
 ln:∀ c∈T.learned,∃ d:List Nat,c=d.map bI∧(d.map (·/2)).Nodup∧(∀ x∈d,2≤x∧x/2<T.value.length)∧∀ a,jP a S→∃ l∈d,tr a l=true
 lc:T.learned.length≤T.conf
 held:∀ r,r<S.cls.length→r<T.cls.length∧(T.cl r).Perm (S.cl r)
 nw:∃ E:List (List Nat),T.learned=E.map (fun c=>c.map bI)∧E.Pairwise (fun c d=>¬ c.Perm d)∧(∀ c∈E,∀ r,r<S.cls.length→¬ (S.cl r).Perm c)∧(∀ c∈E,∃ r,r<T.cls.length∧(T.cl r).Perm c)∧(∀ c∈E,(c.map (·/2)).Nodup∧0<c.length)∧(∀ V,VG V S→∀ c∈E,∀ x∈c,V (x/2))∧∀ c∈E,∀ g∈S.given,¬ (g.map aJ).Perm c
 out:(v=1∧e=0∧T.core=[]∧T.model.length=T.value.length∧gB T.model 0=false∧jP (gB T.model) S∧∀ x∈asm,tr (gB T.model) (aJ x)=true) ∨
  (v=2∧e=0∧T.model=[]∧T.core.Sublist asm∧T.core.Nodup∧∀ a,jP a S→∃ y∈T.core,tr a (aJ y)=false) ∨
  (v=0∧T.core=[]∧T.model=[]∧((e=131∧T.learned.length=T.conf)∨(e=111∧T.most<T.words+T.value.length+2∧∃ d:List Nat,T.most<T.words+d.length+2∧(d.map (·/2)).Nodup∧∀ V,VG V S→∀ x∈d,V (x/2))))
theorem yH.up {K:Nat} {S:SM} (h:yH K S) (hk:K<100000):yH (K+1) S:=⟨h.ids,h.uI,h.wm,h.mo,h.fr,by have:=h.cn;omega,by omega⟩
theorem Ze.up {K:Nat} {S:SM} (h:Ze K S) (hk:K<100000):Ze (K+1) S:=⟨h.e0,h.ex.up hk,h.gs,h.gw,h.gv,h.en,h.cf,h.c1,h.oc,h.vc⟩
theorem Ze.sei {K:Nat} {S:SM} (h:Ze K S) (hF:fG S) (hu:F3 S) (hl:S.learned=[]) (asm:List Int):jk asm K S∧Full S:=by
 have he:=h.e0;refine⟨⟨hF,h.ex,hu,fun i _ hie=>(by rw[he] at hie;cases hie),fun k hk=>(by rw[he] at hk;simp at hk),fun k hk=>(by rw[he] at hk;simp at hk),by rw[he];simp,by rw[hl];simp,h.cf⟩,fun e hx=>(by rw[he] at hx;cases hx)⟩
theorem abP (nv c A X d:Nat) (hX:X≤2*c+1) (hd:d≤nv):(nv+1)*X+d<3*(c+2)*(A+nv+3):=by
 have h1:(nv+1)*(X+2)≤(A+nv+3)*(3*(c+2)):=Nat.mul_le_mul (by omega) (by omega);rw[Nat.mul_comm (A+nv+3)] at h1;rw[Nat.mul_add] at h1;omega
theorem New.to {S U V:SM} {E:List (List Nat)} (h:New S U E) (e:V.learned=U.learned) (held:∀ r,r<U.cls.length→r<V.cls.length∧(V.cl r).Perm (U.cl r)):New S V E :=
 ⟨by rw[e];exact h.eq,h.pw,h.no,fun c hc=>by
  obtain⟨r,hr,hp⟩:=h.at_ c hc;obtain⟨u,v⟩:=held r hr
  exact⟨r,u,v.trans hp⟩,h.nd,h.vs⟩
theorem Out.tell {asm:List Int} {K:Nat} {S:SM} {V:SM×Int} (h:Out asm K S V) (hz:Ze K S) (hfr:S.fresh=S.given.length) (has:F5 asm S.value.length) (h0:S.told=0∧S.core=[]∧S.model=[]∧S.learned=[]) :
  Al0 S V.1∧(∃ E,New S V.1 E)∧V.1.words=S.words+lw V.1∧(∀ c∈V.1.learned,∃ d:List Nat,c=d.map bI∧(d.map (·/2)).Nodup∧(∀ x∈d,2≤x∧x/2<S.value.length)∧∀ a,kP a S→∃ l∈d,tr a l=true) ∧
  ((V.1.told=1∧V.2=0∧V.1.core=[]∧V.1.model.length=V.1.value.length∧gB V.1.model 0=false∧jP (gB V.1.model) S∧∀ x∈asm,tr (gB V.1.model) (aJ x)=true) ∨
  (V.1.told=2∧V.2=0∧V.1.model=[]∧V.1.core.Sublist asm∧V.1.core.Nodup∧∀ a,kP a S→∃ y∈V.1.core,tr a (aJ y)=false) ∨
  (V.1.told=0∧V.1.core=[]∧V.1.model=[]∧((V.2=131∧V.1.learned.length=V.1.conf)∨(V.2=111∧V.1.most<V.1.words+V.1.value.length+2∧∃ d:List Nat,V.1.most<V.1.words+d.length+2∧(d.map (·/2)).Nodup∧∀ W,VC W S→∀ x∈d,W (x/2))))):=by
 obtain⟨o1,o2,o3,o4⟩:=h0
 have qz:∀ {U},iO S U→U.words=S.words+lw U:=fun {U} al=>by
  have:=al.wl;have e:lw S=0:=by unfold lw;rw[o4];rfl
  omega
 have hln:∀ {U},iO S U→∀ c∈U.learned,∃ d:List Nat,c=d.map bI∧(d.map (·/2)).Nodup∧(∀ x∈d,2≤x∧x/2<S.value.length)∧∀ a,kP a S→∃ l∈d,tr a l=true:=fun {U} al c hc=>by
  rcases al.ln c hc with k | k
  ·rw[o4] at k;cases k
  ·exact k
 cases h with
 | sat U h al nx all ae =>
  refine⟨al.al0.trans ⟨⟨rfl,rfl,rfl,rfl,rfl⟩,rfl,fun _ k=>k,fun r k=>⟨k,List.Perm.refl _⟩,fun _ k=>k⟩,(by obtain⟨E,hE⟩:=al.nw;exact⟨E,hE.to rfl fun r k=>⟨k,List.Perm.refl _⟩⟩),@qz U al,@hln U al,.inl ?_⟩;have hal:=h.all_true nx all;have Vs:F5 asm U.value.length:=by rw[al.gL];exact has
  have hv:∀ {x:Int},0<x.natAbs→U.bF (aJ x)=1→decide (0<x)=decide (0<gi U.value x.natAbs):=fun {x} hx k=>by
   rw[Za U hx] at k
   split at k
   ·have e1:decide (0<x)=false:=by simp;omega
    have e2:decide (0<gi U.value x.natAbs)=false:=by simp;omega
    rw[e1,e2]
   ·have e1:decide (0<x)=true:=by simp;omega
    have e2:decide (0<gi U.value x.natAbs)=true:=by simp;omega
    rw[e1,e2]
  have abQ:∀ x∈asm,0<x.natAbs∧x.natAbs<U.value.length∧decide (0<x)=decide (0<gi U.value x.natAbs):=fun x hx=>by
   obtain⟨k,hk,rfl⟩:=List.getElem_of_mem hx;obtain⟨p,_,q⟩:=Vs _ hx;refine⟨p,q,hv p ?_⟩;have:=(h.at_ k (by omega) hk).1;rw[dh _ _ hk] at this;exact this
  have hol:U.occurs.length=U.value.length:=h.fo.tr.sz.occurs;obtain⟨p,q⟩:=CB asm (List.zipWith (fun x o=>decide (0<x)&&o) U.value U.occurs) (by rw[List.length_zipWith,hol];exact Nat.min_self _) abQ;have hm:(U.y8 asm).model=asm.foldl (fun m a=>m.set (aJ a/2) (decide (0<a))) (List.zipWith (fun x o=>decide (0<x)&&o) U.value U.occurs):=rfl;refine⟨rfl,rfl,al.kept.2.1.trans o2,by rw[hm];exact p,?_,fun c hc=>?_,fun x hx=>?_⟩
  ·rw[hm,q,if_neg (fun k=>by
    obtain⟨x,hx,e⟩:=List.mem_map.1 k;have:=(abQ x hx).1
    omega),Zb _ _ hol]
   have hz0:gi U.value 0=0:=by
    apply Classical.byContradiction;intro k
    have hl:0<U.value.length:=by
     apply Classical.byContradiction;intro j;exact k (rT (by omega))
    obtain⟨i,hi,e⟩:=h.fo.tr.all 0 hl k;have:=h.fo.tr.two i hi;omega
   rw[hz0];rfl
  ·obtain⟨i,hi,rfl⟩:=List.getElem_of_mem hc;obtain⟨r,hr,hp⟩:=hz.gv i (by omega);obtain⟨hr2,hp2⟩:=al.held r hr;obtain⟨l,hl,ht⟩:=hal r hr2;have e:gl S.given i=S.given[i]:=by unfold gl;rw[List.getD_eq_getElem?_getD,List.getElem?_eq_getElem hi];rfl
   rw[e] at hp;obtain⟨x,hx,rfl⟩:=List.mem_map.1 (hp.mem_iff.1 (hp2.mem_iff.1 hl));have hx0:=((hz.gs _ hc).2 x hx).1;refine⟨x,hx,(vY _ hx0).2 ?_⟩;have hoc:gB U.occurs x.natAbs=true:=by rw[al.same.2.2.2.2];exact hz.oc _ hc x hx
   rw[hm,q,hv hx0 ht,Zb _ _ hol,hoc]
   split <;> simp
  ·refine (vY _ (abQ x hx).1).2 ?_;rw[hm,q,if_pos (List.mem_map_of_mem hx)];exact (abQ x hx).2.2.symm
 | ref U l h al no el ae =>
  obtain⟨T,c,la,k,e⟩:=Cw h asm l;have hcore:(U.refused asm l).core=SM.jY (U.fZ U.trail.length ((List.replicate U.value.length false).set (l/2) true) [bI l] [] []).1 [] asm:=rfl;obtain⟨s,s1,s2,s3⟩:=yM (U.fZ U.trail.length ((List.replicate U.value.length false).set (l/2) true) [bI l] [] []).1 asm [];rw[List.nil_append] at s1 s3;have Vs:F5 asm U.value.length:=by rw[al.gL];exact has
  have key:Al0 U (U.refused asm l)∧(U.refused asm l).words=U.words∧(U.refused asm l).learned=U.learned∧(U.refused asm l).model=U.model∧(U.refused asm l).told=2:=by
   rw[e];obtain⟨⟨u,st,et⟩,_,_,_⟩:=k;subst et;exact⟨⟨⟨rfl,rfl,rfl,rfl,rfl⟩,rfl,fun _ k=>k,fun r k=>⟨k,List.Perm.refl _⟩,fun _ k=>k⟩,rfl,rfl,rfl,rfl⟩
  obtain⟨k1,k2,k3,k4,k5⟩:=key;refine⟨al.al0.trans k1,(by obtain⟨E,hE⟩:=al.nw;exact⟨E,hE.to k3 k1.held⟩),?_,by show ∀ c∈(U.refused asm l).learned,_;rw[k3];exact hln al,.inr (.inl ⟨k5,rfl,by show (U.refused asm l).model=[];rw[k4];exact al.kept.1.trans o3,?_,?_,fun a ha=>?_⟩)⟩
  ·show (U.refused asm l).words=S.words+lw (U.refused asm l);unfold lw;rw[k2,k3];exact qz al
  ·show (U.refused asm l).core.Sublist asm;rw[hcore,s1];exact s2
  ·show (U.refused asm l).core.Nodup;rw[hcore,s1];exact s3 List.nodup_nil
  ·exact h.core Vs no ae el (al.sem a ha)
 | end_ U bad h al h0 hb =>
  obtain⟨T,la,k,e⟩:=JC h.fo h.ex h0 hb.1 hb.2.2
  have key:Al0 U (U.ended bad)∧(U.ended bad).words=U.words∧(U.ended bad).learned=U.learned∧(U.ended bad).model=U.model∧(U.ended bad).told=2∧(U.ended bad).core=[]:=by
   rw[e];obtain⟨⟨u,st,et⟩,_,_,_⟩:=k;subst et;exact⟨⟨⟨rfl,rfl,rfl,rfl,rfl⟩,rfl,fun _ k=>k,fun r k=>⟨k,List.Perm.refl _⟩,fun _ k=>k⟩,rfl,rfl,rfl,rfl,rfl⟩
  obtain⟨k1,k2,k3,k4,k5,k6⟩:=key;refine⟨al.al0.trans k1,(by obtain⟨E,hE⟩:=al.nw;exact⟨E,hE.to k3 k1.held⟩),?_,by show ∀ c∈(U.ended bad).learned,_;rw[k3];exact hln al,.inr (.inl ⟨k5,rfl,by show (U.ended bad).model=[];rw[k4];exact al.kept.1.trans o3,by show (U.ended bad).core.Sublist asm;rw[k6];exact List.nil_sublist _,by show (U.ended bad).core.Nodup;rw[k6];exact List.nodup_nil,fun a ha=>?_⟩)⟩
  ·show (U.ended bad).words=S.words+lw (U.ended bad);unfold lw;rw[k2,k3];exact qz al
  ·exfalso;have x2:=al.sem a ha;obtain⟨l,hl,ht⟩:=x2 bad hb.1;have hf:=hb.2.2 l hl;rw[x2.TH h.fo.tr hf (YV h.fo.tr (List.length_eq_zero_iff.1 h0) (by omega))] at ht
   cases ht
 | conf U h al hc =>
  refine⟨al.al0,al.nw,qz al,hln al,.inr (.inr ⟨al.kept.2.2.1.trans o1,al.kept.2.1.trans o2,al.kept.1.trans o3,.inl ⟨rfl,?_⟩⟩)⟩;have:=h.lc;show U.learned.length=U.conf;omega
 | room U d h al hn hr nd vs =>
  refine⟨al.al0,al.nw,qz al,hln al,.inr (.inr ⟨al.kept.2.2.1.trans o1,al.kept.2.1.trans o2,al.kept.1.trans o3,.inr ⟨rfl,?_,d,hr,nd,fun W hW=>vs W (al.vc W hW)⟩⟩)⟩;show U.most<U.words+U.value.length+2;omega
theorem Zs.up {K:Nat} {S:SM} (h:Zs K S) (hk:K<100000):Zs (K+1) S:=⟨h.ze.up hk,h.fo,h.un,h.vs⟩
theorem Zs.amd {K:Nat} {S:SM} (h:Zs K S):Ze K (nx (je S) 0)∧fG (nx (je S) 0)∧(F3 (nx (je S) 0)∨Dead (nx (je S) 0)):=by
 have h1:=(h.fo.told [] [] 0 []).other ⟨S.words,[],S.steps,rfl⟩;refine⟨h.ze.mono ⟨⟨rfl,rfl,rfl,rfl,rfl⟩,rfl,fun _ k=>k,fun r k=>⟨k,List.Perm.refl _⟩,fun _ k=>k⟩ h.ze.e0 ⟨h.ze.ex.ids,h.ze.ex.uI,h.ze.ex.wm,h.ze.ex.mo,h.ze.ex.fr,h.ze.ex.cn,h.ze.ex.kk⟩ (Nat.le_refl _),h1,?_⟩;rcases h.un with k | k
 ·exact .inl k
 ·exact .inr k
theorem Ends.answer {K:Nat} {S0 S R:SM} {asm:List Int} (h:Ends K S R) (hg:S.given=S0.given) (hc:S.conf=S0.conf∧S.most=S0.most) (hw:S.words=S0.words) (hle:S0.value.length≤S.value.length) (hav:∀ x∈asm,x.natAbs<S.value.length) (hl:S.learned=[]∧S.model=[]) (hh:∀ r,r<S0.cls.length→r<S.cls.length∧(S.cl r).Perm (S0.cl r)):Answer asm S0 R 2 0:=by
 obtain⟨a1,a2,a3,a4⟩:=h.al.same;obtain⟨b1,b2,b3⟩:=h.al.rest;have hg2:R.given=S0.given:=a1.trans hg;have hl2:R.learned=[]:=b2.trans hl.1;refine⟨hg2,⟨a3.trans hc.1,a2.trans hc.2⟩,?_,by rw[h.al.gL];exact hle,by rw[h.al.gL];exact hav,fun c k=>(by rw[hl2] at k;cases k),by rw[hl2];exact Nat.zero_le _,fun r hr=>?_,⟨[],by rw[hl2];rfl,List.Pairwise.nil,fun c k=>(by cases k),fun c k=>(by cases k),fun c k=>(by cases k),fun V _ c k=>(by cases k),fun c k=>(by cases k)⟩,.inr (.inl ⟨rfl,rfl,b3.trans hl.2,by rw[h.told.2];exact List.nil_sublist _,by rw[h.told.2];exact List.nodup_nil,fun a ha=>?_⟩)⟩
 ·have:lw R=0:=by unfold lw;rw[hl2];rfl
  rw[this,b1,hw];rfl
 ·obtain⟨u,v⟩:=hh r hr;obtain⟨x,y⟩:=h.al.held r u;exact⟨x,y.trans v⟩
 ·exact absurd (by unfold jP at ha ⊢;rw[hg2];exact ha) (h.no a)
theorem Zs.solve {K:Nat} {S:SM} (h:Zs K S) (hk:K<100000) {asm:List Int} (ha:asm.length≤600000) (has:∀ a∈asm,0<a.natAbs∧a.natAbs≤65536) :
  BI S asm∧Zs (K+1) (S.solve asm).1∧Answer asm S (S.solve asm).1 (S.solve asm).2.1 (S.solve asm).2.2:=by
 obtain⟨g1,g2,g3,g4⟩:=h.gq asm S (fun x hx=>(has x hx).2);obtain⟨A,hA⟩:∃ A,YthbbmdnfkkffjaaGreat.gq S asm=A:=⟨_,rfl⟩;rw[hA] at g2 g3 g4;obtain⟨w1,w2,w3⟩:=g2.amd
 have hrs:S.reset asm=nx (je A) 0:=by
  rw[Nr,hA,JB (by show A.ends.length≤0;rw[g2.ze.e0];exact Nat.le_refl _)];rfl
 have hbk:KX (je (YthbbmdnfkkffjaaGreat.gq S asm)):=by
  rw[hA];have hb:=w2.abI (by show A.ends.length≤_;rw[g2.ze.e0];simp);exact⟨⟨⟨hb.hi.hb.small,hb.hi.hb.vars,hb.hi.hb.place,hb.hi.hb.met,hb.hi.hb.hl⟩,hb.hi.pl,hb.hi.bk⟩,⟨hb.sz.level,hb.sz.reason,hb.sz.phase,hb.sz.occurs,hb.sz.units,hb.sz.aj⟩,hb.tr,hb.trl,hb.el,hb.en⟩
 obtain⟨s1,s2,s3,s4,s5⟩:=g3.same;have t1:(nx (je A) 0).given=S.given:=s1;have t2:(nx (je A) 0).conf=S.conf:=s4;have t3:(nx (je A) 0).most=S.most:=s3;have t4:(nx (je A) 0).words=S.words:=s5;have t5:S.value.length≤(nx (je A) 0).value.length:=g3.le;have t6:∀ x∈asm,x.natAbs<(nx (je A) 0).value.length:=g4;have t7:(nx (je A) 0).learned=[]∧(nx (je A) 0).model=[]∧(nx (je A) 0).told=0∧(nx (je A) 0).core=[]:=⟨rfl,rfl,rfl,rfl⟩;have t8:(nx (je A) 0).value.length≤65537:=g2.vs
 have t9:∀ r,r<S.cls.length→r<(nx (je A) 0).cls.length∧((nx (je A) 0).cl r).Perm (S.cl r):=fun r hr=>by
  have e1:(nx (je A) 0).cls=S.cls:=g3.cls;have e2:(nx (je A) 0).cl r=S.cl r:=by unfold SM.cl;rw[e1]
  rw[e1,e2];exact⟨hr,List.Perm.refl _⟩
 obtain⟨Z,hZ⟩:∃ Z,nx (je A) 0=Z:=⟨_,rfl⟩;rw[hZ] at w1 w2 w3 hrs t1 t2 t3 t4 t5 t6 t7 t8 t9;have hfl:=w2.aeN w1.ex;have hfe:=ac7 w2;obtain⟨F,_⟩:=iN w2;have hsv:S.solve asm=if (S.reset asm).follow.2=-1 then (if (S.reset asm).follow.1.start.2=true then ((((SM.gI asm (SM.qI (S.reset asm).follow.1.start.1 asm) (S.reset asm).follow.1.start.1 64).getD ((S.reset asm).follow.1.start.1,0)).1.back 0),((SM.gI asm (SM.qI (S.reset asm).follow.1.start.1 asm) (S.reset asm).follow.1.start.1 64).getD ((S.reset asm).follow.1.start.1,0)).1.told,((SM.gI asm (SM.qI (S.reset asm).follow.1.start.1 asm) (S.reset asm).follow.1.start.1 64).getD ((S.reset asm).follow.1.start.1,0)).2) else ((S.reset asm).follow.1.start.1,(S.reset asm).follow.1.start.1.told,0)) else ((S.reset asm).follow.1.ended (S.reset asm).follow.2.toNat,2,0):=rfl
 rw[hsv]
 have hsk:∀ (P:Prop),((Rc (S.reset asm))→((S.reset asm).follow.2≠-1→∃ Z rk,Nj (S.reset asm).follow.1 (S.reset asm).follow.2.toNat Z rk) →
   ((S.reset asm).follow.2=-1→pW ((S.reset asm).follow.1.given.length-(S.reset asm).follow.1.fresh) (S.reset asm).follow.1∧(S.reset asm).follow.1.given.length≤1000000∧(S.reset asm).follow.1.fresh≤(S.reset asm).follow.1.given.length) →
   ((S.reset asm).follow.2=-1→(S.reset asm).follow.1.start.2=true→jT asm (SM.qI (S.reset asm).follow.1.start.1 asm) (S.reset asm).follow.1.start.1 64)→BI S asm):=fun _ a b c d=>⟨by omega,fun x hx=>(has x hx).2,by exact g1,hbk,a,b,c,d⟩
 have Rx:=hsk True;clear hsk hsv;rw[hrs] at Rx ⊢;obtain⟨R,hR⟩:∃ R,Z.follow=R:=⟨_,rfl⟩;rw[hR] at hfe F Rx ⊢;have zR:=w1.fol hfe;have uR:F3 R.1∨Dead R.1:=w3.elim (fun k=>.inl (k.fol hfe)) fun k=>.inr (k.fol hfe);obtain⟨c1,c2,c3,c4⟩:=hfe.al.same;obtain⟨d1,d2,d3⟩:=hfe.al.rest;have q1:R.1.given=S.given:=c1.trans t1;have q2:R.1.conf=S.conf∧R.1.most=S.most:=⟨c3.trans t2,c2.trans t3⟩;have q3:R.1.words=S.words:=d1.trans t4;have q4:S.value.length≤R.1.value.length:=by rw[hfe.al.gL];exact t5
 have q5:∀ x∈asm,x.natAbs<R.1.value.length:=by rw[hfe.al.gL];exact t6
 have q6:R.1.learned=[]∧R.1.model=[]:=⟨d2.trans t7.1,d3.trans t7.2.1⟩;have q7:R.1.value.length≤65537:=by rw[hfe.al.gL];exact t8
 have q8:R.1.told=0∧R.1.core=[]:=⟨hfe.told.1.trans t7.2.2.1,hfe.told.2.1.trans t7.2.2.2⟩
 have q9:∀ r,r<S.cls.length→r<R.1.cls.length∧(R.1.cl r).Perm (S.cl r):=fun r hr=>by
  obtain⟨u,v⟩:=t9 r hr;exact⟨by rw[hfe.mX];exact u,(hfe.perm r).trans v⟩
 by_cases hr:R.2=-1
 ·rw[if_pos hr];obtain⟨p1,p2⟩:=Ze.start hk (R.1.given.length-R.1.fresh) R.1 rfl zR F.fo uR;have hgl:R.1.given.length≤1000000:=by have:=zR.gw;have:=zR.ex.words;omega
  have hst:R.1.start=SM.lJ (R.1.given.length-R.1.fresh) R.1:=rfl;rw[←hst] at p2;obtain⟨U,hU⟩:∃ U,R.1.start=U:=⟨_,rfl⟩;rw[hU] at p2 Rx ⊢
  cases hb:U.2 with
  | true =>
   rw[if_pos rfl];obtain⟨y1,y2,y3,y4,y5,y6,y7⟩:=p2.yes hb;obtain⟨e1,e2,e3,e4⟩:=y1.same;obtain⟨f1,f2,f3⟩:=y1.rest;obtain⟨z1,z2⟩:=y2.sei y3 y4 (f2.trans q6.1) asm;have Vs:F5 asm U.1.value.length:=fun x hx=>⟨(has x hx).1,(has x hx).2,by rw[y1.gL];exact q5 x hx⟩
   have hms:meas U.1 64<SM.qI U.1 asm:=by
    unfold meas SM.qI;exact abP _ _ _ _ _ (by omega) (by omega)
   obtain⟨s1',V,s2',s3'⟩:=jk.search ha (SM.qI U.1 asm) U.1 64 z1 z2 Vs (by omega) (by omega) hms;rw[s2'];simp only[Option.getD_some];obtain⟨v1,v0,v2,v3,v4⟩:=s3'.tell y2 y5 Vs ⟨y6.trans q8.1,y7.trans q8.2,f3.trans q6.2,f2.trans q6.1⟩;have hse:=s3'.se;obtain⟨b1,_,_,b4,b5⟩:=hse.ac5;have hal:=F7 hse.fo 0;obtain⟨V1,V2⟩:=V;simp only at v1 v0 v2 v3 v4 hse b1 b4 b5 hal ⊢;obtain⟨T,hT⟩:∃ T,V1.back 0=T:=⟨_,rfl⟩;rw[hT] at b1 b4 b5 hal ⊢;obtain⟨k1,k2,k3,k4⟩:=hal.kept;obtain⟨l1,l2,l3,l4,l5⟩:=hal.same;obtain⟨m1,m2,m3,m4,m5⟩:=v1.same;have hwT:T.words=V1.words:=by have:=hal.wl;unfold lw at this;rw[b4] at this;omega
   have hlT:lw T=lw V1:=by unfold lw;rw[b4]
   have hvl:T.value.length=R.1.value.length:=by rw[hal.gL,v1.gL,y1.gL]
   have hzT:Ze K T:=y2.mono (v1.trans hal.al0) b5 b1.ex (by omega);refine⟨Rx hfl (fun k=>absurd hr k) (fun _=>⟨p1,hgl,zR.ex.fr⟩) (fun _ _=>s1'),(Zs.mk hzT (b1.fo.nx0 b5) (.inl b1.un) (by rw[hvl];exact q7)).up hk,?_⟩;refine⟨by rw[l1,m1,e1];exact q1,⟨by rw[l4,m4,e3];exact q2.1,by rw[l3,m3,e2];exact q2.2⟩,by omega,by rw[hvl];exact q4,by rw[hvl];exact q5,fun c hc=>?_,b1.lc,?_,?_,?_⟩
   ·rw[b4] at hc;obtain⟨d,d1',d2',d3',d4'⟩:=v3 c hc;refine⟨d,d1',d2',fun x hx=>by rw[hvl,←y1.gL];exact d3' x hx,fun a x=>d4' a (y2.en a ?_)⟩;unfold jP at x ⊢;rw[e1,q1];exact x
   ·intro r hr;obtain⟨u,v⟩:=q9 r hr;obtain⟨x,y⟩:=y1.held r u;obtain⟨x2,y2'⟩:=v1.held r x;obtain⟨x3,y3'⟩:=hal.held r x2;exact⟨x3,y3'.trans (y2'.trans (y.trans v))⟩
   ·obtain⟨E,hE⟩:=v0;have hE2:=hE.to b4 hal.held;refine⟨E,by rw[hE2.eq,f2,q6.1];rfl,hE2.pw,fun c hc r hr hp=>?_,hE2.at_,hE2.nd,fun V hV=>hE2.vs V (y2.vc V (by unfold VG at hV ⊢;rw[e1,q1];exact hV)),fun c hc g hg hp=>?_⟩
    ·obtain⟨u,v⟩:=q9 r hr;obtain⟨x,y⟩:=y1.held r u;exact hE2.no c hc r x ((y.trans v).trans hp)
    ·rw[←q1,←e1] at hg;obtain⟨i,hi,rfl⟩:=List.getElem_of_mem hg;obtain⟨r,hr,hp2⟩:=y2.gv i (by omega);rw[jq _ _ hi] at hp2;exact hE2.no c hc r hr (hp2.trans hp)
   ·rcases v4 with ⟨o1,o2,o3,o4,o5,o6,o7⟩ | ⟨o1,o2,o3,o4,o5,o6⟩ | ⟨o1,o2,o3,o4⟩
    ·left;refine⟨o1,o2,by rw[k2];exact o3,by rw[k1,hal.gL];exact o4,by rw[k1];exact o5,?_,by rw[k1];exact o7⟩;rw[k1];unfold jP at o6 ⊢;rw[e1,q1] at o6;exact o6
    ·right;left;refine⟨o1,o2,by rw[k1];exact o3,by rw[k2];exact o4,by rw[k2];exact o5,fun a x=>?_⟩;rw[k2];refine o6 a (y2.en a ?_);unfold jP at x ⊢;rw[e1,q1];exact x
    ·right;right;refine⟨o1,by rw[k2];exact o2,by rw[k1];exact o3,?_⟩;rw[b4,l4,l3,hwT,hal.gL];rcases o4 with o4 | ⟨o4,o5,d,o6,o7,o8⟩
     ·exact .inl o4
     ·exact .inr ⟨o4,o5,d,o6,o7,fun V hV=>o8 V (y2.vc V (by unfold VG at hV ⊢;rw[e1,q1];exact hV))⟩
  | false =>
   rw[if_neg (by simp)];have hE:=p2.no hb;refine⟨Rx hfl (fun k=>absurd hr k) (fun _=>⟨p1,hgl,zR.ex.fr⟩) (fun _ k=>(by rw[hb] at k;cases k)),⟨hE.ze,hE.fo,hE.un,by rw[hE.al.gL];exact q7⟩,?_⟩;rw[show (U.1,U.1.told,(0:Int)).2.1=U.1.told from rfl,hE.told.1];exact hE.answer q1 q2 q3 q4 q5 q6 q9
 ·rw[if_neg hr]
  obtain⟨r,hre,hall,_⟩:∃ r:Nat,R.2=r∧zY R.1 r∧∃ l∈R.1.cl r,gn R.1.level (l/2)=R.1.ends.length:=by
   rcases F.out with ⟨k,_⟩ | k
   ·exact absurd k hr
   ·exact k
  have hrn:R.2.toNat=r:=by rw[hre];exact Int.toNat_natCast r
  rw[hrn] at Rx ⊢;obtain⟨e1,e2⟩:=zR.ended (F.fo.nx0 zR.e0) uR hall.1 hall.2.2;exact⟨Rx hfl (fun _=>⟨_,_,e1⟩) (fun k=>absurd k hr) (fun k=>absurd k hr),(Zs.mk e2.ze e2.fo e2.un (by rw[e2.al.gL];exact q7)).up hk,e2.answer q1 q2 q3 q4 q5 q6 q9⟩
end Go.Proofs.YthbbmdnfkkffjaaGreat
namespace Go.Proofs.au
structure Cl where
 p:Nat
 q:Nat
 lits:List Int
 deriving DecidableEq,Inhabited
def Cl.words (c:Cl):List Int:=(c.p:Int) :: (c.q:Int) :: c.lits
theorem Cl.mZ (c:Cl):c.words.length=c.lits.length+2:=rfl
structure SM where
 most:Nat
 cls:List Cl
 aj:List (List Nat)
 deriving DecidableEq,Inhabited
def SM.words (S:SM):List Int:=S.cls.flatMap Cl.words
def SM.begin (S:SM) (i:Nat):Nat:=((S.cls.take i).flatMap Cl.words).length
def SM.begins (S:SM):List Int:=(List.range S.cls.length).map fun (i:Nat)=>(S.begin i:Int)
def SM.K9 (S:SM) (i:Nat):Bool:=decide ((S.cls.getD i default).lits.length<2)
def SM.short (S:SM):List Int:=((List.range S.cls.length).filter S.K9).map fun (i:Nat)=>(i:Int)
def SM.cl (S:SM) (i:Nat):Cl:=S.cls.getD i default
theorem SM.ac9 (S:SM) {i:Nat} (h:i<S.cls.length):S.cl i=S.cls[i]:=by simp[SM.cl,h]
theorem SM.yN (S:SM) {i:Nat} (h:i<S.cls.length):S.begin (i+1)=S.begin i+((S.cl i).lits.length+2):=by
 unfold SM.begin;rw[List.take_succ_eq_append_getElem h,List.flatMap_append,List.length_append,S.ac9 h];simp[Cl.mZ]
theorem SM.Vt (S:SM) {i:Nat} (h:S.cls.length≤i):S.begin i=S.words.length:=by
 unfold SM.begin SM.words;rw[List.take_of_length_le h]
theorem SM.Gd (S:SM) {i:Nat} (h:i<S.cls.length):S.begin i+((S.cl i).lits.length+2)≤S.words.length:=by
 rw[←S.yN h];unfold SM.begin SM.words
 have:(S.cls.flatMap Cl.words).length=((S.cls.take (i+1)).flatMap Cl.words).length+((S.cls.drop (i+1)).flatMap Cl.words).length:=by
  rw[←List.length_append,←List.flatMap_append,List.take_append_drop]
 omega
theorem SM.wM (S:SM):S.cls.length≤S.words.length:=by
 unfold SM.words
 induction S.cls with
 | nil=>simp
 | cons c l ih =>
  rw[List.flatMap_cons,List.length_append,Cl.mZ,List.length_cons];omega
theorem SM.jf (S:SM):S.begins.length=S.cls.length:=by simp[SM.begins]
theorem SM.JH (S:SM) {i:Nat} (h:i<S.cls.length):gi S.begins i=S.begin i:=by
 simp[gi,SM.begins,List.getD_eq_getElem?_getD,h]
theorem SM.Zc (S:SM) {i j:Nat} (h:i<S.cls.length) (hj:j<(S.cl i).lits.length+2):gi S.words (S.begin i+j)=gi (S.cl i).words j:=by
 have e:S.words=(S.cls.take i).flatMap Cl.words++((S.cl i).words++(S.cls.drop (i+1)).flatMap Cl.words):=by
  unfold SM.words
  conv=>lhs;rw[←List.take_append_drop i S.cls]
  rw[List.flatMap_append,List.drop_eq_getElem_cons h,List.flatMap_cons,S.ac9 h]
 unfold gi;simp only[List.getD_eq_getElem?_getD];rw[e,List.getElem?_append_right (by unfold SM.begin;omega)];have:S.begin i+j-((S.cls.take i).flatMap Cl.words).length=j:=by unfold SM.begin;omega
 rw[this,List.getElem?_append_left (by rw[Cl.mZ];omega)]
def idx (l:Int):Nat:=if l<0 then 2*(-l).toNat+1 else 2*l.toNat
def fC (l:Int):Bool:=decide (l≠0∧-65536≤l∧l≤65536)
theorem bD {l:Int}:fC l=true↔l≠0∧-65536≤l∧l≤65536:=by simp[fC]
theorem Gf {l:Int} (h:-65536≤l) (h':l≤65536):idx l≤131073:=by unfold idx;split <;> omega
structure RM where
 out:List Int
 value:List Int
 next:Nat
 deriving DecidableEq,Inhabited
def RM.is (R:RM) (l:Int):Int:=if l<0 then-gi R.value (-l).toNat else gi R.value l.toNat
def RM.set (R:RM) (l:Int):RM:={ R with out:=R.out++[l],value:=if l<0 then R.value.set (-l).toNat (-1) else R.value.set l.toNat 1 }
structure RM.ok (R:RM):Prop where
 len:R.value.length=65537
 val:∀ i,-1≤gi R.value i∧gi R.value i≤1
 out:R.out.length≤1000000
theorem RM.aeU {R:RM} (ho:R.ok) (l:Int) (hn:R.out.length+1≤1000000):(R.set l).ok:=by
 have hset:∀ (xs:List Int) (k:Nat) (v:Int),(-1≤v∧v≤1)→(∀ i,-1≤gi xs i∧gi xs i≤1)→∀ i,-1≤gi (xs.set k v) i∧gi (xs.set k v) i≤1:=by
  intro xs k v hv ha i;unfold gi;simp only[List.getD_eq_getElem?_getD,List.getElem?_set]
  split
  ·split
   ·simpa using hv
   ·simp
  ·have:=ha i;unfold gi at this;simpa [List.getD_eq_getElem?_getD] using this
 refine⟨?_,?_,by simpa [RM.set] using hn⟩
 ·unfold RM.set;simp only
  split <;> simp[ho.len]
 ·intro i;unfold RM.set;simp only
  split
  ·exact hset _ _ _ (by omega) ho.val i
  ·exact hset _ _ _ (by omega) ho.val i
def mO (i:Nat):Nat:=if i % 2=0 then i+2 else i+1
def La (W:List (List Nat)) (n:Nat):List (List Nat):=W++List.replicate (n-W.length) []
def BN (W:List (List Nat)) (i ref:Nat):List (List Nat):=(La W (mO i)).set i ((La W (mO i)).getD i []++[ref])
def SM.watch (S:SM) (l:Int) (ref:Nat):SM:={ S with aj:=BN S.aj (idx l) ref }
theorem CF (W:List (List Nat)) (n:Nat):(La W n).length=max W.length n:=by simp[La];omega
theorem Gg (i:Nat):i<mO i:=by unfold mO;split <;> omega
end Go.Proofs.au
namespace Go.Proofs.YthbbmdnfkkffjaaGreat
open Go.RowKit Go.Proofs.aC Go.Proofs.au
def iX (l:List Nat):List Int:=l.map fun (i:Nat)=>(i:Int)
@[simp] theorem Gh (l:List Nat):(iX l).length=l.length:=by simp[iX]
structure sK where
 wv:Option Nat
 wc:Nat
 bv:Option Nat
 bc:Nat
 av:Option Nat
 ac:Nat
 sv:Option Nat
 sc:Nat
 W:List (Option Nat×Nat×List Nat)
def outer (W:List (Option Nat×Nat×List Nat)):List Value:=W.map fun x=>iB x.1 x.2.2.length x.2.1
def inner (W:List (Option Nat×Nat×List Nat)):List HP:=W.map fun x=>bO 3 x.1 x.2.1 (iX x.2.2)
def storeCells (L:sK) (S:SM):List Value :=
 [.int .i64 S.most,iB L.wv S.words.length L.wc,iB L.bv S.cls.length L.bc,iB L.av L.W.length L.ac,iB L.sv S.short.length L.sc]
def iY (p:Nat) (L:sK) (S:SM):HP :=
 star (pt p 116 (storeCells L S)) (star (bO 3 L.wv L.wc S.words) (star (bO 3 L.bv L.bc S.begins) (star (sl L.av L.W.length L.ac 27 1 (outer L.W)) (star (bO 3 L.sv L.sc S.short) (stars (inner L.W))))))
structure bC (B:Nat) (w0 w:World) (p:Nat) (L:sK) (S:SM) (F:HP):Prop where
 st:St B w0 w (star (iY p L S) F)
 ws:L.W.map (fun x=>x.2.2)=S.aj
theorem bC.drawn {B:Nat} {w0 w w':World} {p:Nat} {L:sK} {S:SM} {F:HP} (h:bC B w0 w p L S F) (d:bJ w w'):bC B w0 w' p L S F:=⟨h.st.drawn d,h.ws⟩
section
variable {B:Nat} {w0 w:World} {p:Nat} {L:sK} {S:SM} {F:HP}
theorem bC.qJ (h:bC B w0 w p L S F):St B w0 w (star (pt p 116 (storeCells L S)) (star (star (bO 3 L.wv L.wc S.words) (star (bO 3 L.bv L.bc S.begins) (star (sl L.av L.W.length L.ac 27 1 (outer L.W)) (star (bO 3 L.sv L.sc S.short) (stars (inner L.W)))))) F)) :=
 h.st.aB (by unfold iY;ac_rfl)
theorem bC.Zd (h:bC B w0 w p L S F):St B w0 w (star (bO 3 L.wv L.wc S.words) (star (star (pt p 116 (storeCells L S)) (star (bO 3 L.bv L.bc S.begins) (star (sl L.av L.W.length L.ac 27 1 (outer L.W)) (star (bO 3 L.sv L.sc S.short) (stars (inner L.W)))))) F)) :=
 h.st.aB (by unfold iY;ac_rfl)
theorem bC.DR (h:bC B w0 w p L S F):St B w0 w (star (bO 3 L.bv L.bc S.begins) (star (star (pt p 116 (storeCells L S)) (star (bO 3 L.wv L.wc S.words) (star (sl L.av L.W.length L.ac 27 1 (outer L.W)) (star (bO 3 L.sv L.sc S.short) (stars (inner L.W)))))) F)) :=
 h.st.aB (by unfold iY;ac_rfl)
theorem bC.Zf (h:bC B w0 w p L S F):St B w0 w (star (sl L.av L.W.length L.ac 27 1 (outer L.W)) (star (star (pt p 116 (storeCells L S)) (star (bO 3 L.wv L.wc S.words) (star (bO 3 L.bv L.bc S.begins) (star (bO 3 L.sv L.sc S.short) (stars (inner L.W)))))) F)) :=
 h.st.aB (by unfold iY;ac_rfl)
theorem bC.ame (h:bC B w0 w p L S F):L.W.length=S.aj.length:=by rw[←h.ws];simp
theorem Lb (t:TypeId):bO t none 0 []=emp:=by
 funext h
 apply propext;exact⟨fun k=>k.2.2.2,fun k=>⟨rfl,rfl,rfl,k⟩⟩
theorem Lc (W V:List (Option Nat×Nat×List Nat)):inner (W++V)=inner W++inner V:=by simp[inner]
theorem Ld (W V:List (Option Nat×Nat×List Nat)):outer (W++V)=outer W++outer V:=by simp[outer]
theorem Ao (W:List (Option Nat×Nat×List Nat)):(outer W).length=W.length:=by simp[outer]
end
theorem JI {a:Option Addr} {n n' c c':Nat} (h:n=n') (h':c=c'):Ending.returned (.slice a n c)=.returned (.slice a n' c'):=by rw[h,h']
theorem abR (l:Int) (w:World) :
  Calls Tryz.prog 100 #[.int .i64 l] w fun e w'=>e=.returned (.bool (fC l))∧w=w':=by
 cases hb:fC l
 all_goals
  have HB:=zH hb;clear hb
  by_cases h1:l=0
  ·have hd1:(l != 0)=false:=by simpa using h1
   have H1:=zH h1;clear h1
   go_enter Tryz.func100,Tryz.ntmps100
   go_wp2
   go_ret
   first | exact⟨rfl,rfl⟩ | (have:=bD.1 HB.out;have:=H1.out;omega)
  ·have hd1:(l != 0)=true:=by simpa using h1
   have H1:=zH h1;clear h1
   by_cases h2:-65536≤l
   ·have hd2:decide (-65536≤l)=true:=by simpa using h2
    by_cases h3:l≤65536
    ·have hd3:decide (l≤65536)=true:=by simpa using h3
     go_enter Tryz.func100,Tryz.ntmps100
     go_wp2
     go_ret
     first | exact⟨rfl,rfl⟩ | (have:=bD.2 ⟨H1.out,h2,h3⟩;rw[HB.out] at this;cases this)
    ·have hd3:decide (l≤65536)=false:=by simpa using h3
     go_enter Tryz.func100,Tryz.ntmps100
     go_wp2
     go_ret
     first | exact⟨rfl,rfl⟩ | (have:=bD.1 HB.out;omega)
   ·have hd2:decide (-65536≤l)=false:=by simpa using h2
    go_enter Tryz.func100,Tryz.ntmps100
    go_wp2
    go_ret
    first | exact⟨rfl,rfl⟩ | (have:=bD.1 HB.out;omega)
theorem or_one (m:Nat):m ||| 1=if m % 2=0 then m+1 else m:=by
 have h1:(m ||| 1)/2=m/2:=by rw[Nat.or_div_two];simp
 have h2:(m ||| 1) % 2=1:=by rw[Nat.or_mod_two_eq_one];simp
 split <;> omega
theorem CG (m:Nat) (h:m<18446744073709551616):bits .or .u64 (m:Int) 1=((if m % 2=0 then m+1 else m:Nat):Int):=by
 have:=u64_or_nat m 1 h (by omega);rw[or_one] at this;exact this
theorem Vu (l:Int) (w:World) (h1:-65536≤l) (h2:l≤65536) :
  Calls Tryz.prog 101 #[.int .i64 l] w fun e w'=>e=.returned (.int .u64 (idx l:Nat))∧w=w':=by
 by_cases h3:l<0
 ·go_enter Tryz.func101,Tryz.ntmps101
  go_wp2
  go_ret
  refine⟨K6 ?_,rfl⟩;rw[show (-l*2:Int)=((2*(-l).toNat:Nat):Int) from by omega,CG _ (by omega),if_pos (by omega),idx,if_pos h3]
 ·go_enter Tryz.func101,Tryz.ntmps101
  go_wp2
  go_ret
  refine⟨K6 ?_,rfl⟩;rw[idx,if_neg (by omega)];omega
section
variable {B:Nat} {w0 w:World} {p:Nat} {L:sK} {S:SM} {F:HP}
theorem Ry (ref:Nat) (h:bC B w0 w p L S F) (hr:ref<S.cls.length) (hw:S.words.length≤262144) :
  Calls Tryz.prog 84 #[.pointer (some ⟨p,0,none⟩),.int .i64 ref] w fun e w' =>
   (∃ wb,L.wv=some wb∧e=.returned (.slice (some ⟨wb,S.begin ref,none⟩) ((S.cl ref).lits.length+2) ((S.cl ref).lits.length+2)))∧bJ w w':=by
 have hbl:=S.Gd hr;obtain⟨_,hwc,_,hwn,_⟩:=(h.Zd).sat.aR;obtain⟨_,_,_,hbn,_⟩:=(h.DR).sat.aR
 obtain⟨wb,hwb⟩:∃ wb,L.wv=some wb:=by
  cases e:L.wv with
  | none=>have:=(hwn e).1;omega
  | some wb=>exact⟨wb,rfl⟩
 obtain⟨bb,hbb⟩:∃ bb,L.bv=some bb:=by
  cases e:L.bv with
  | none=>have:=(hbn e).1;rw[S.jf] at this;omega
  | some bb=>exact⟨bb,rfl⟩
 have hlen:=S.wM;have c1:=h.qJ.aG 1;have c2:=h.qJ.aG 2;simp only[storeCells,iB,hwb,hbb,Option.map_some] at c1 c2;obtain⟨n,hn⟩:∃ n,S.cls.length=n:=⟨_,rfl⟩;obtain⟨bg,hbg⟩:∃ bg,S.begin ref=bg:=⟨_,rfl⟩;obtain⟨k,hk⟩:∃ k,(S.cl ref).lits.length=k:=⟨_,rfl⟩;obtain⟨m,hm⟩:∃ m,S.words.length=m:=⟨_,rfl⟩
 have e1:w.cell? ⟨bb,ref,none⟩=some (.int .i64 (bg:Nat)):=by
  have hh:=h.DR;rw[hbb] at hh;rw[St.aW (h:=hh) ref (by rw[dL,S.jf];exact hr),iZ _ _ (by rw[S.jf];exact hr),S.JH hr,hbg]
 have e2:ref+1<n→w.cell? ⟨bb,ref+1,none⟩=some (.int .i64 (bg+k+2:Nat)):=by
  intro hr2;have hh:=h.DR;rw[hbb] at hh;rw[St.aW (h:=hh) (ref+1) (by rw[dL,S.jf];omega),iZ _ _ (by rw[S.jf];omega),S.JH (by omega),S.yN hr,hbg,hk];rfl
 have hlast:ref+1=n→bg+k+2=m:=by
  intro e;have h1:=S.yN hr;rw[S.Vt (by omega),hm,hbg,hk] at h1;omega
 rw[hbg,hk];rw[hn] at c2 hr hlen;rw[hm] at c1 hw hbl hwc hlen;rw[hbg,hk] at hbl;have HWB:=zH hwb;have HL:=zH hlast;clear hbg hk hn hm hwb hbb hwn hbn hlast h
 by_cases hr2:ref+1<n
 ·have e2':=e2 hr2;have hi1:((ref:Int)+1<(n:Int)):=by omega
  have hr1:(ref:Int)<(n:Int):=by omega
  have hr0:(0:Int)≤(ref:Int):=by omega
  clear e2
  go_enter Tryz.func84,Tryz.ntmps84
  go_wp2
  go_quiet (fail)
  go_wp2
  go_ret
  exact⟨⟨wb,HWB.out,JI (by omega) (by omega)⟩,_,rfl⟩
 ·have hi1:¬ ((ref:Int)+1<(n:Int)):=by omega
  have hr1:(ref:Int)<(n:Int):=by omega
  have hr0:(0:Int)≤(ref:Int):=by omega
  have yZ:(bg:Int)≤(m:Int):=by omega
  have hbm':bg≠m:=by omega
  clear e2
  go_enter Tryz.func84,Tryz.ntmps84
  go_wp2
  go_quiet (fail)
  go_wp2
  have:=HL.out (by omega)
  go_ret
  exact⟨⟨wb,HWB.out,JI (by omega) (by omega)⟩,_,rfl⟩
end
end Go.Proofs.YthbbmdnfkkffjaaGreat
