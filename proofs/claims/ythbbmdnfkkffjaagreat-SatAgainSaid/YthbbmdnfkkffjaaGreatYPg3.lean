/-
  The guide that a search leaves.
-/
import Derived.Test.YthbbmdnfkkffjaaGreatYPg2
import Derived.Test.YthbbmdnfkkffjaaGreatY01
set_option maxHeartbeats 8000000
set_option maxRecDepth 100000
namespace Go.Proofs.YthbbmdnfkkffjaaGreat
open Go.Proofs.aA
open Go.Proofs.au hiding SM
theorem undo_phase (S:SM) (l:Nat):(S.undo l).phase=S.phase.set (l/2) (l % 2==0):=by
 rw[yu]
theorem undoAll_phase {S:SM}:∀ (ls:List Nat),(ls.map (·/2)).Nodup→(∀ l∈ls,l/2<S.phase.length)→(S.dS ls).phase.length=S.phase.length∧∀ l∈ls,gB (S.dS ls).phase (l/2)=(l % 2==0):=by
 refine MX ?_ ?_
 ·exact fun _ _=>⟨rfl,fun l hl=>by cases hl⟩
 ·intro ls x ih hn hl;rw[List.map_append,List.nodup_append] at hn;obtain⟨p,q⟩:=ih hn.1 fun l h=>hl l (List.mem_append_left _ h);rw[mR,undo_phase];refine⟨by rw[List.length_set];exact p,fun l h=>?_⟩;have hx:=hl x (by simp);rw[qB (by omega)];rcases List.mem_append.1 h with m | m
  ·rw[if_neg fun e=>hn.2.2 (l/2) (List.mem_map_of_mem m) (x/2) (by simp) e];exact q l m
  ·rw[List.mem_singleton] at m;subst m;rw[if_pos rfl]
theorem drop_halves {S:SM} (h:nR S) (e:Nat):((S.trail.drop e).map (·/2)).Nodup:=by
 have h1:(S.trail.map (·/2)).Nodup:=by
  rw[List.Nodup,List.pairwise_iff_getElem];intro i j hi hj hij e;rw[List.length_map] at hi hj;rw[List.getElem_map,List.getElem_map] at e;have:=h.inj i j hi hj (by rw[fD _ _ hi,fD _ _ hj];exact e);omega
 exact (h1.sublist ((List.drop_sublist e S.trail).map _))
theorem back0_phase {S:SM} (h:nR S) {v:Nat} (h1:gi S.value v≠0) (h2:gi (S.back 0).value v=0):S.bF (if gB (S.back 0).phase v then 2*v else 2*v+1)=1:=by
 by_cases he:S.ends.length=0
 ·rw[JB (by omega)] at h2;exact absurd h2 h1
 ·have hk:0<S.ends.length:=by omega
  have hb:=pV 0 h hk;rw[hb.value] at h2
  have hm:v∈(S.trail.drop (gn S.ends 0)).map (·/2):=by
   apply Classical.byContradiction;intro k;rw[if_neg k] at h2;exact h1 h2
  obtain⟨l,hl,e⟩:=List.mem_map.1 hm;have hp:=(undoAll_phase (S:=S) (S.trail.drop (gn S.ends 0)) (drop_halves h _) fun l hl=>by rw[h.sz.phase];exact h.kY l (List.mem_of_mem_drop hl)).2 l hl;have hph:(S.back 0).phase=(S.dS (S.trail.drop (gn S.ends 0))).phase:=by unfold SM.back;rw[if_neg (by omega)]
  rw[hph,←e,hp];obtain⟨i,hi,rfl⟩:=jO (List.mem_of_mem_drop hl)
  have Bu:(if (gn S.trail i % 2==0)=true then 2*(gn S.trail i/2) else 2*(gn S.trail i/2)+1)=gn S.trail i:=by
   by_cases e2:gn S.trail i % 2=0
   ·rw[if_pos (by simpa using e2)];omega
   ·rw[if_neg (by simpa using e2)];omega
  rw[Bu];exact h.is i hi
theorem back0_same {S:SM} (h:fG S):(S.back 0).cls=S.cls∧(S.back 0).value.length=S.value.length∧(S.back 0).given=S.given∧(S.back 0).fresh=S.fresh∧∀ i,i<(S.back 0).trail.length→i<S.trail.length∧gn (S.back 0).trail i=gn S.trail i:=by
 by_cases he:S.ends.length=0
 ·rw[JB (by omega)];exact⟨rfl,rfl,rfl,rfl,fun i hi=>⟨hi,rfl⟩⟩
 ·have hk:0<S.ends.length:=by omega
  obtain⟨_,_,b3,_⟩:=j3 0 h.hp.hi h.tr.sz h.tr.kY;obtain⟨⟨ph,va,re,hl,pl,e⟩,_,_,_⟩:=pV 0 h.tr hk;have t:(S.back 0).trail=S.trail.take (gn S.ends 0):=by rw[e];rfl
  refine⟨by rw[e];rfl,b3,by rw[e];rfl,by rw[e];rfl,fun i hi=>?_⟩;rw[t] at hi ⊢;rw[List.length_take] at hi;have h1:i<S.trail.length:=by omega
  refine⟨h1,?_⟩;rw[fD _ _ (by rw[List.length_take];omega),fD _ _ h1,List.getElem_take]
theorem closed_unit {W:SM} (h:fG W) (hu:F3 W) (hn:W.next=W.trail.length) {r:Nat} (hr:r<W.cls.length) {x:Nat} (hx:x∈W.cl r) (ho:∀ k∈W.cl r,k≠x→W.bF k=-1):W.bF x=1:=by
 by_cases h2:2≤(W.cl r).length
 ·have m0:=aU (W.cl r) 0 (by omega);have m1:=aU (W.cl r) 1 (by omega);have hne:gn (W.cl r) 0≠gn (W.cl r) 1:=fun e=>h.cl.ne hr (by omega) (by omega) (show 0≠1 by omega) (by rw[e])
  have hpr:∀ y,W.bF y=-1→M8 W W.next y:=fun y hy=>by
   obtain⟨i,hi,e⟩:=h.tr.jS hy;exact⟨i,by omega,hi,e⟩
  obtain⟨p1,p2⟩:=h.pi r hr h2
  by_cases e:gn (W.cl r) 0=x
  ·have f1:=ho _ m1 fun k=>hne (e.trans k.symm);rw[←e];exact (p2 (hpr _ f1)).1
  ·have f0:=ho _ m0 e;have t1:=(p1 (hpr _ f0)).1
   by_cases e1:gn (W.cl r) 1=x
   ·rw[←e1];exact t1
   ·rw[ho _ m1 e1] at t1;cases t1
 ·obtain⟨a,b,_⟩:=hu r hr (by omega);obtain⟨i,hi,e⟩:=jO hx;have:i=0:=by omega
  subst this;rw[←e];exact b
theorem trail_guide {U:SM} (h:fG U) (hu:F3 U) (hn:U.next=U.trail.length):Guide (fun l=>U.bF l=1) U:=by
 refine⟨fun l k=>by rw[rR,k];decide,fun r hr=>?_⟩
 by_cases ht:∃ x∈U.cl r,U.bF x=1
 ·exact .inl ht
 ·right;have hno:∀ x∈U.cl r,U.bF x≠1:=fun x hx k=>ht ⟨x,hx,k⟩
  have h2:2≤(U.cl r).length:=by
   apply Classical.byContradiction;intro k;obtain⟨a,b,_⟩:=hu r hr (by omega);exact hno _ (aU _ _ (by omega)) b
  have m0:=aU (U.cl r) 0 (by omega);have m1:=aU (U.cl r) 1 (by omega);have hne:gn (U.cl r) 0≠gn (U.cl r) 1:=fun e=>h.cl.ne hr (by omega) (by omega) (show 0≠1 by omega) (by rw[e])
  have hpr:∀ y,U.bF y=-1→M8 U U.next y:=fun y hy=>by
   obtain⟨i,hi,e⟩:=h.tr.jS hy;exact⟨i,by omega,hi,e⟩
  obtain⟨p1,p2⟩:=h.pi r hr h2;refine⟨_,m0,_,m1,hne,fun k=>?_,fun k=>?_⟩
  ·have k0:U.bF (gn (U.cl r) 0)=-1:=by rw[rR] at k;omega
   exact hno _ m1 (p1 (hpr _ k0)).1
  ·have k1:U.bF (gn (U.cl r) 1)=-1:=by rw[rR] at k;omega
   exact hno _ m0 (p2 (hpr _ k1)).1
inductive Lead (asm:List Int) (T:SM):Prop
 | bad (h:BadC T)
 | way (G:Nat→Prop) (k:Nat) (g:Guide G T) (a:Agr G T) (w:Way G asm T k) (fr:T.fresh=T.given.length)
theorem Left.lead {asm:List Int} {K:Nat} {V:SM} (h:Left asm K V):Lead asm (V.back 0):=by
 cases h with
 | sat U h fr nx all ae =>
  have hF:=h.fo;obtain⟨b1,b2,b3,b4,b5⟩:=back0_same h.y8.fo;obtain⟨T,hT⟩:∃ T,(U.y8 asm).back 0=T:=⟨_,rfl⟩;have hcl:∀ r,T.cl r=U.cl r:=fun r=>by unfold aA.SM.cl;rw[←hT,b1];rfl
  have hph:=fun (v:Nat) (p:gi (U.y8 asm).value v≠0) (q:gi T.value v=0)=>by
   rw[←hT] at q;exact back0_phase (S:=U.y8 asm) h.y8.fo.tr p q
  rw[hT] at b1 b2 b3 b4 b5 hph ⊢;refine .way (fun l=>U.bF l=1) asm.length ((trail_guide hF h.un nx).perm (by rw[b1];rfl) fun r=>by rw[hcl]) (fun i hi=>?_) ⟨Nat.le_refl _,fun j hj=>(h.at_ j (by omega) hj).1,fun k=>absurd k (Nat.lt_irrefl _),fun _ W hW _ hl hkv v hv hvl hz=>?_⟩ (by rw[b3,b4];exact fr)
  ·obtain⟨c1,c2⟩:=b5 i hi;show U.bF (gn T.trail i)=1;rw[c2];exact hF.tr.is i c1
  ·have hv2:v<U.value.length:=by rw[hl,b2] at hvl;exact hvl
   have hz2:gi T.value v=0:=by
    apply Classical.byContradiction;intro k;exact hkv v k hz
   rw[hW];exact hph v (all v hv hv2) hz2
 | ref U l h fr nx no el ae =>
  have hF:=h.fo;obtain⟨N,c,la,hun,e⟩:=Cw h asm l;obtain⟨⟨u,st,et⟩,_,_,_⟩:=hun;have hV:=(h.refused l).fo;obtain⟨b1,b2,b3,b4,b5⟩:=back0_same hV;have f1:(U.refused asm l).cls=U.cls:=by rw[e,et];rfl
  have f2:(U.refused asm l).trail=U.trail:=by rw[e,et];rfl
  have f3:(U.refused asm l).fresh=U.fresh∧(U.refused asm l).given=U.given:=by rw[e,et];exact⟨rfl,rfl⟩
  obtain⟨T,hT⟩:∃ T,(U.refused asm l).back 0=T:=⟨_,rfl⟩;rw[hT] at b1 b2 b3 b4 b5 ⊢;have hcl:∀ r,T.cl r=U.cl r:=fun r=>by unfold aA.SM.cl;rw[b1,f1]
  have nQ:T.cls.length=U.cls.length:=by rw[b1,f1]
  refine .way (fun l=>U.bF l=1) U.ends.length ((trail_guide hF h.un nx).perm nQ fun r=>by rw[hcl]) (fun i hi=>?_) ⟨by omega,fun j hj=>(h.at_ j hj (by omega)).1,fun hk K2 W hW hA hl hp hnx hen=>?_,fun k=>by omega⟩ (by rw[b3,b4,f3.1,f3.2];exact fr)
  ·obtain⟨c1,c2⟩:=b5 i hi;show U.bF (gn T.trail i)=1;rw[c2,f2];rw[f2] at c1;exact hF.tr.is i c1
  ·have key:∀ i,i<U.trail.length→W.bF (gn U.trail i)=1:=by
    intro i
    induction i using Nat.strongRecOn with
    | _ i ih =>
     intro hi;rcases hF.tr.why i hi with ⟨_,k⟩ | ⟨r,_,hr,hm,ho⟩
     ·have hlv:dM U i≤U.ends.length:=by unfold dM;exact List.countP_le_length
      have hpos:0<U.ends.length:=List.length_pos_of_mem k;have hre:=h.re i hi k (by omega);rw[hre];exact (hW.at_ (dM U i-1) (by omega) (by omega)).1
     ·have hmW:gn U.trail i∈W.cl r:=(hp r).mem_iff.2 (by rw[hcl];exact hm);refine closed_unit hW.fo hW.un hnx (by omega) hmW fun k hk hne=>?_;obtain⟨j,hj,ej⟩:=ho k (by rw[←hcl];exact (hp r).mem_iff.1 hk) hne;have:=ih j hj (by omega);rw[ej,rR] at this;omega
   obtain⟨i,hi,ei⟩:=hF.tr.jS no;have:=key i hi;rw[ei,rR] at this;rw[←el];omega
 | end_ U bad h fr h0 hb =>
  obtain⟨N,la,hun,e⟩:=JC h.fo h.ex h0 hb.1 hb.2.2;obtain⟨⟨u,st,et⟩,_,_,_⟩:=hun;have f1:(U.ended bad).ends=U.ends:=by rw[e,et];rfl
  rw[JB (by rw[f1];omega)];refine .bad (.inl ⟨bad,?_⟩);rw[e,et];exact hb
end Go.Proofs.YthbbmdnfkkffjaaGreat
