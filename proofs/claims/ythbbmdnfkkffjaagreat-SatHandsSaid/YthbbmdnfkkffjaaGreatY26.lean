/-
  Parts of the proof, joined by program: Pi26, Pi27, Pi28, Nil.
-/
import Derived.Test.YthbbmdnfkkffjaaGreatY24
import Derived.Test.YthbbmdnfkkffjaaGreatY25
import Derived.Test.YthbbmdnfkkffjaaGreatY01
import Derived.Lib.Hide
set_option maxHeartbeats 8000000
set_option maxRecDepth 100000
namespace Go.Proofs.YthbbmdnfkkffjaaGreat
open Go.Proofs.au Go.Proofs.aA
theorem fG.ahX {S:SM} (h:fG S) (hc:S.cls.length≤1000000):MF S:=by
 have hs:=h.hp.hi.hb.small;have ht:=h.tr.len;refine⟨hs,h.tr.sz,h.tr.vals,by omega,fun r hr=>?_⟩;obtain⟨j,hj,rfl⟩:=List.getElem_of_mem hr;have:S.aj[j]=gN S.aj j:=by simp[gN,hj]
 rw[this];have:=h.wa.len j;omega
theorem fG.ahY {S:SM} (h:fG S) (hc:S.cls.length≤1000000) (he:S.ends.length≤900000):YQ S:=⟨h.ahX hc,h.hp.hi.hb,he⟩
theorem fG.open_ {S:SM} (h:fG S) (hn:S.next=S.trail.length):fG S.open_:=by
 have hL:∀ l,S.open_.bF l=S.bF l:=fun _=>rfl;refine⟨h.tr.open_,⟨h.cl.nd,h.cl.two⟩,⟨h.wa.nd,h.wa.iff⟩,⟨⟨⟨h.hp.hi.hb.small,h.hp.hi.hb.vars,h.hp.hi.hb.place,h.hp.hi.hb.met,h.hp.hi.hb.hl⟩,h.hp.hi.pl,h.hp.hi.bk⟩,h.hp.nz,h.hp.all⟩,h.pi,h.ne,fun e he=>?_⟩;rcases List.mem_append.1 he with he | he
 ·exact h.en e he
 ·simp at he;show e≤S.next;omega
structure Beside (S T:SM):Prop where
 same:∃ a b c va le re t en,T={ S with hl:=a,place:=b,met:=c,value:=va,level:=le,reason:=re,trail:=t,ends:=en }
 gL:T.value.length=S.value.length
theorem Beside.refl (S:SM):Beside S S:=⟨⟨_,_,_,_,_,_,_,_,rfl⟩,rfl⟩
theorem Beside.trans {S T U:SM} (h:Beside S T) (k:Beside T U):Beside S U:=by
 refine⟨?_,k.gL.trans h.gL⟩;obtain⟨_,_,_,_,_,_,_,_,rfl⟩:=h.same;obtain⟨_,_,_,_,_,_,_,_,rfl⟩:=k.same;exact⟨_,_,_,_,_,_,_,_,rfl⟩
theorem sF {S T:SM} (h:dQ S T):Beside S T:=by
 obtain⟨a,b,c,rfl⟩:=h.same;exact⟨⟨_,_,_,_,_,_,_,_,rfl⟩,rfl⟩
theorem mg (S:SM):Beside S S.open_:=⟨⟨_,_,_,_,_,_,_,_,rfl⟩,rfl⟩
theorem pX (S:SM) (l:Nat) (r:Int):Beside S (S.bX l r):=⟨⟨_,_,_,_,_,_,_,_,rfl⟩,by unfold SM.bX;simp⟩
theorem jk.set {asm:List Int} {K:Nat} {S:SM} (h:jk asm K S) (hn:S.next=S.trail.length) {l:Nat} (h2:2≤l) (hl:l/2<S.value.length) (h0:S.bF l=0)
  (hk:S.ends.length<asm.length→l=aJ (gi asm S.ends.length)):jk asm K (S.open_.bX l (-1))∧Full (S.open_.bX l (-1))∧(S.open_.bX l (-1)).trail.length=S.trail.length+1:=by
 obtain⟨O,hO⟩:∃ O,S.open_=O:=⟨_,rfl⟩;have ho:=h.fo.open_ hn;rw[hO] at ho;have o1:O.trail=S.trail:=by rw[←hO];rfl
 have o2:O.ends=S.ends++[S.trail.length]:=by rw[←hO];rfl
 have o3:O.value=S.value:=by rw[←hO];rfl
 have o4:O.level=S.level:=by rw[←hO];rfl
 have oL:∀ x,O.bF x=S.bF x:=fun x=>by rw[←hO];rfl
 have hl':l/2<O.value.length:=by rw[o3];exact hl
 have hF:=ho.bX (l:=l) (r:=-1) h2 hl' (by rw[oL];exact h0) (.inl ⟨rfl,by rw[o2,o1];simp⟩);have hfw:=zW (S:=O) (l:=l) (r:=-1) hl' ho.tr.sz.level (by rw[oL];exact h0);have hb:Beside S (O.bX l (-1)):=by rw[←hO];exact (mg S).trans (pX _ _ _)
 rw[hO]
 have hlow:∀ x,S.bF x≠0→(O.bX l (-1)).bF x=S.bF x∧gn (O.bX l (-1)).level (x/2)=gn S.level (x/2):=fun x hx=>by
  have h1:=hfw.bF (l:=x) (by rw[oL];exact hx);have h2:=hfw.jo (l:=x) (by rw[oL];exact hx);rw[oL] at h1;rw[o4] at h2;exact⟨h1,h2⟩
 have ahZ:(O.bX l (-1)).bF l=1:=by rw[lY hl',if_pos rfl]
 have ah0:gn (O.bX l (-1)).level (l/2)=S.ends.length+1:=by
  show gn (O.level.set _ _) _=_;rw[gZ (by rw[o4,h.fo.tr.sz.level];exact hl),if_pos rfl,o2];simp
 obtain⟨T,hT⟩:∃ T,O.bX l (-1)=T:=⟨_,rfl⟩;have t1:T.trail=S.trail++[l]:=by rw[←hT,←o1];rfl
 have t2:T.ends=S.ends++[S.trail.length]:=by rw[←hT,←o2];rfl
 rw[hT] at hF hb hlow ahZ ah0 ⊢;have htl:T.trail.length=S.trail.length+1:=by rw[t1];simp
 have hel:T.ends.length=S.ends.length+1:=by rw[t2];simp
 have hx:=h.ex;obtain⟨⟨a,b,c,va,le,re,t,en,e⟩,hvl⟩:=hb;have hcl:T.cls=S.cls:=by rw[e]
 refine⟨⟨hF,⟨fun r hr=>by unfold SM.id;rw[hcl] at hr ⊢;exact hx.ids r hr,?_,?_,?_,?_,?_,hx.kk⟩,?_,fun i hi hie Bu=>?_,fun k hk2 hka=>?_,fun k hk2=>?_,?_,?_,?_⟩,fun x hx2=>?_,htl⟩
 ·have:T.steps=S.steps∧T.units=S.units∧T.words=S.words:=by rw[e];exact⟨rfl,rfl,rfl⟩
  rw[this.1,this.2.1,this.2.2,hvl];exact hx.uI
 ·have:T.words=S.words∧T.most=S.most:=by rw[e];exact⟨rfl,rfl⟩
  rw[this.1,this.2];exact hx.wm
 ·have:T.most=S.most:=by rw[e]
  rw[this];exact hx.mo
 ·have:T.fresh=S.fresh∧T.given=S.given:=by rw[e];exact⟨rfl,rfl⟩
  rw[this.1,this.2];exact hx.fr
 ·have:T.fresh=S.fresh∧T.given=S.given∧T.words=S.words:=by rw[e];exact⟨rfl,rfl,rfl⟩
  rw[hcl,this.1,this.2.1,this.2.2];exact hx.cn
 ·exact h.un.mono (by rw[hcl]) (fun r=>by unfold SM.cl;rw[hcl]) fun x p q=>by
   obtain⟨u,v⟩:=hlow x (by omega);rw[u,v];exact⟨p,q⟩
 ·have hcase:i<S.trail.length∨i=S.trail.length:=by omega
  rcases hcase with hi2 | rfl
  ·have aeI:i∈S.ends:=by
    rw[t2] at hie;rcases List.mem_append.1 hie with k | k
    ·exact k
    ·simp at k;omega
   have hlv:dM T i=dM S i:=by
    unfold dM;rw[t2,List.countP_append,List.countP_cons,List.countP_nil];simp only[decide_eq_true_eq];rw[if_neg (by omega)];omega
   rw[hlv] at Bu ⊢;rw[t1,dX hi2];exact h.re i hi2 aeI Bu
  ·have hlv:dM T S.trail.length=S.ends.length+1:=by
    rw[FT fun x hx2=>?_,hel];rw[t2] at hx2;rcases List.mem_append.1 hx2 with k | k
    ·exact h.fo.tr.ends x k
    ·simp at k;omega
   rw[hlv] at Bu ⊢;rw[t1,vS,hk (by omega)];rfl
 ·rcases Nat.lt_or_ge k S.ends.length with hk3 | hk3
  ·obtain⟨u,v⟩:=h.at_ k hk3 hka;obtain⟨p,q⟩:=hlow _ (by omega:S.bF (aJ (gi asm k))≠0);rw[p,q];exact⟨u,v⟩
  ·have:k=S.ends.length:=by omega
   subst this;rw[←hk hka,ah0];exact⟨ahZ,Nat.le_refl _⟩
 ·rcases Nat.lt_or_ge k S.ends.length with hk3 | hk3
  ·rw[t2,dX hk3];exact h.lv k hk3
  ·have:k=S.ends.length:=by omega
   subst this;rw[t2,vS];exact h.lt
 ·have:=h.lt;omega
 ·have:T.learned=S.learned∧T.conf=S.conf:=by rw[e];exact⟨rfl,rfl⟩
  rw[this.1,this.2];exact h.lc
 ·have:T.conf=S.conf:=by rw[e]
  rw[this];exact h.cf
 ·rw[t2] at hx2;rcases List.mem_append.1 hx2 with k | k
  ·have:=h.fo.tr.ends x k;omega
  ·simp at k;omega
structure aeJ (asm:List Int) (K:Nat) (S:SM) (R:SM×Bool):Prop where
 yes:R.2=true→jk asm K R.1∧Full R.1∧Beside S R.1∧R.1.trail.length=S.trail.length+1
 no:R.2=false→jk asm K R.1∧dQ S R.1∧∀ v,0<v→v<S.value.length→gi S.value v≠0
theorem jk.pick {asm:List Int} {K:Nat} (ha:asm.length≤600000):∀ (f:Nat) (S:SM),jk asm K S→S.next=S.trail.length→asm.length≤S.ends.length→S.hl.length<f→BH f S∧aeJ asm K S (SM.qj f S)
 | 0,S,_,_,_,hf=>by omega
 | f+1,S,h,hn,hA,hf=>by
  have hcl:=h.ex.cls;have hel:=h.vX ha;have hdc:=h.fo.ahY (by omega) (by omega);rw[SM.qj]
  by_cases h0:S.hl.length=0
  ·have ht:S.take=(S,0):=by unfold SM.take;rw[if_pos h0]
   rw[ht];simp only[if_true];refine⟨⟨hdc,by rw[ht];exact hdc,fun k=>by rw[ht] at k;exact absurd rfl k⟩,⟨fun k=>(by cases k),fun _=>⟨h,dQ.refl S,fun v hv hvl hz=>?_⟩⟩⟩;have hnil:S.hl=[]:=List.length_eq_zero_iff.1 h0;have:=h.fo.hp.all v hv hvl hz;rw[hnil] at this
   cases this
  ·have ht:S.take=(S.taken,gn S.hl 0):=by unfold SM.take;rw[if_neg h0]
   have hmem:gn S.hl 0∈S.hl:=aU _ _ (by omega);have hne:gn S.hl 0≠0:=fun e=>h.fo.hp.nz (by rw[←e];exact hmem);have hvl:=h.fo.hp.hi.hb.vars _ hmem;have hTi:=h.fo.hp.hi.taken h0;have hset:=U6 h.fo.hp.hi h0;have hho:=Cu S
   have htl:S.taken.hl.length<S.hl.length:=by
    have hT2:=nH (d:=gn S.hl 0 :: S.taken.hl) (L:=S.hl) (List.nodup_cons.2 ⟨fun k=>((hset _).1 k).2 rfl,hTi.nodup⟩) fun y hy=>by
     rcases List.mem_cons.1 hy with rfl | hy
     ·exact hmem
     ·exact ((hset y).1 hy).1
    rw[List.length_cons] at hT2;omega
   obtain⟨v,hv⟩:∃ v,gn S.hl 0=v:=⟨_,rfl⟩;rw[hv] at ht hne hvl hset hmem;obtain⟨U,hU⟩:∃ U,S.taken=U:=⟨_,rfl⟩;rw[hU] at ht hTi hset hho htl;rw[ht];simp only;rw[if_neg hne];obtain⟨a,b,c,e⟩:=hho.same;have u1:U.value=S.value:=by rw[e]
   have u2:U.phase=S.phase:=by rw[e]
   have ah2:YQ U:=by
    have hz:=hdc.lk;subst e;exact⟨⟨hz.small,⟨hz.sz.level,hz.sz.reason,hz.sz.phase,hz.sz.occurs,hz.sz.units,hz.sz.aj⟩,hz.vals,hz.trail,hz.rows⟩,hTi.hb,hdc.el⟩
   by_cases hg:gi S.value v=0
   ·have hg2:gi U.value v=0:=by rw[u1];exact hg
    rw[if_pos hg2];refine⟨⟨hdc,by rw[ht];exact ah2,fun _=>⟨by rw[ht];show v<U.value.length;rw[u1];exact hvl,fun k=>by rw[ht] at k;exact absurd hg2 k⟩⟩,⟨fun _=>?_,fun k=>(by cases k)⟩⟩;obtain⟨l,hl⟩:∃ l,(if gB U.phase v=true then 2*v else 2*v+1)=l:=⟨_,rfl⟩
    have hlv:l/2=v∧2≤l:=by rw[←hl];split <;> omega
    show jk asm K (U.open_.bX (if gB U.phase v=true then 2*v else 2*v+1) (-1))∧_
    rw[hl];obtain⟨s1,s2,s3⟩:=h.set hn (l:=l) hlv.2 (by rw[hlv.1];exact hvl) (gX.2 (by rw[hlv.1];exact hg)) (fun k=>by omega);have hh:dQ (S.open_.bX l (-1)) (U.open_.bX l (-1)):=⟨a,b,c,by rw[e];rfl⟩;have hbs:Beside S (S.open_.bX l (-1)):=(mg S).trans (pX _ _ _);have hval:(S.open_.bX l (-1)).value=S.value.set (l/2) (if l % 2=1 then -1 else 1):=rfl
    have I4:(U.open_.bX l (-1)).hl=U.hl:=rfl;have hpl:(U.open_.bX l (-1)).place=U.place:=rfl;have hmt:(U.open_.bX l (-1)).met=U.met:=rfl;have hvv:(U.open_.bX l (-1)).value=U.value.set (l/2) (if l % 2=1 then -1 else 1):=rfl
    have hpa:fK (U.open_.bX l (-1)):=by
     refine⟨hTi.congr (by rw[hvv,List.length_set]) I4 hpl hmt,by rw[I4];exact fun k=>h.fo.hp.nz ((hset 0).1 k).1,fun x hx0 hxl hxz=>?_⟩;rw[I4];rw[hvv,List.length_set,u1] at hxl;rw[hvv,u1,hlv.1,mW hvl] at hxz
     by_cases hxv:x=v
     ·rw[if_pos hxv] at hxz;split at hxz <;> cases hxz
     ·rw[if_neg hxv] at hxz;exact (hset x).2 ⟨h.fo.hp.all x hx0 hxl hxz,hxv⟩
    refine⟨s1.LW (vW hh) hpa,?_,hbs.trans (sF hh),?_⟩
    ·have q1:(U.open_.bX l (-1)).ends=(S.open_.bX l (-1)).ends:=hh.facts.2.1;have q2:(U.open_.bX l (-1)).trail=(S.open_.bX l (-1)).trail:=hh.facts.2.2.1;unfold Full;rw[q1,q2];exact s2
    ·rw[hh.facts.2.2.1];exact s3
   ·have hg2:¬ gi U.value v=0:=by rw[u1];exact hg
    rw[if_neg hg2]
    have hpa:fK U:=by
     refine⟨hTi,fun k=>h.fo.hp.nz ((hset 0).1 k).1,fun x hx0 hxl hxz=>?_⟩;rw[u1] at hxl hxz;exact (hset x).2 ⟨h.fo.hp.all x hx0 hxl hxz,fun k=>hg (by rw[←k];exact hxz)⟩
    have hS2:jk asm K U:=h.LW (vW hho) hpa;have e1:U.next=U.trail.length:=by rw[e];exact hn
    have e2:asm.length≤U.ends.length:=by rw[e];exact hA
    obtain⟨p1,p2⟩:=jk.pick ha f U hS2 e1 e2 (by omega);refine⟨⟨hdc,by rw[ht];exact ah2,fun _=>⟨by rw[ht];show v<U.value.length;rw[u1];exact hvl,fun _=>by rw[ht];exact p1⟩⟩,⟨fun k=>?_,fun k=>?_⟩⟩
    ·obtain⟨y1,y2,y3,y4⟩:=p2.yes k;exact⟨y1,y2,(sF hho).trans y3,by rw[y4,hho.facts.2.2.1]⟩
    ·obtain⟨y1,y2,y3⟩:=p2.no k;exact⟨y1,hho.trans y2,fun x hx0 hxl=>by rw[←u1];exact y3 x hx0 (by rw[u1];exact hxl)⟩
def F5 (asm:List Int) (n:Nat):Prop:=∀ a∈asm,0<a.natAbs∧a.natAbs≤65536∧a.natAbs<n
theorem dU (a:Int):aJ a/2=a.natAbs:=by unfold aJ;split <;> omega
theorem Jv {a:Int} (h:0<a.natAbs):2≤aJ a:=by unfold aJ;split <;> omega
theorem F5.at {asm:List Int} {n k:Nat} (h:F5 asm n) (hk:k<asm.length):2≤aJ (gi asm k)∧aJ (gi asm k)/2<n:=by
 have:=h (gi asm k) (by rw[dh _ _ hk];exact List.getElem_mem hk);exact⟨Jv this.1,by rw[dU];exact this.2.2⟩
theorem jk.al2 {asm:List Int} {K:Nat} {S:SM} (h:jk asm K S) (ha:asm.length≤600000) (has:F5 asm S.value.length) {l:Nat} (hl:l/2<S.value.length):aev S asm l (Zero S) (YI S):=by
 have hs:=h.fo.hp.hi.hb.small;have ht:=h.fo.tr.len;have hc:=h.ex.cls;refine⟨hs,h.fo.tr.sz,by omega,by omega,h.fo.tr.kY,hl,fun a hm=>(has a hm).2.1,by omega,fun x hx _=>?_,fun x hx h0=>?_,YK h.fo.tr h.fo.cl h.ex hs,fun v hv=>Nk h.fo.tr hv⟩
 ·obtain⟨i,hi,rfl⟩:=jO hx;rcases h.fo.tr.why i hi with ⟨a,_⟩ | ⟨r,a,b,_,_⟩
  ·exact .inl a
  ·exact .inr ⟨r,a,b,by have:=h.fo.cl.len b;omega,fun y hy=>(h.fo.cl.two r b y hy).2⟩
 ·obtain⟨i,hi,rfl⟩:=jO hx;exact⟨h0,i,hi,rfl⟩
theorem jk.open_ {asm:List Int} {K:Nat} {S:SM} (h:jk asm K S) (hn:S.next=S.trail.length) (hA:S.ends.length<asm.length) (hl:S.bF (aJ (gi asm S.ends.length))=1):jk asm K S.open_:=by
 have t2:S.open_.ends=S.ends++[S.trail.length]:=rfl;have hx:=h.ex;refine⟨h.fo.open_ hn,⟨hx.ids,hx.uI,hx.wm,hx.mo,hx.fr,hx.cn,hx.kk⟩,h.un,fun i hi hie Bu=>?_,fun k hk hka=>?_,fun k hk=>?_,?_,h.lc,h.cf⟩
 ·have hi':i<S.trail.length:=hi
  have aeI:i∈S.ends:=by
   rw[t2] at hie;rcases List.mem_append.1 hie with k | k
   ·exact k
   ·simp at k;omega
  have hlv:dM S.open_ i=dM S i:=by
   unfold dM;rw[t2,List.countP_append,List.countP_cons,List.countP_nil];simp only[decide_eq_true_eq];rw[if_neg (by omega)];omega
  rw[hlv] at Bu ⊢;exact h.re i hi aeI Bu
 ·rw[t2,List.length_append,List.length_singleton] at hk;rcases Nat.lt_or_ge k S.ends.length with hk3 | hk3
  ·exact h.at_ k hk3 hka
  ·have:k=S.ends.length:=by omega
   subst this;have:=h.fo.tr.nT (l:=aJ (gi asm S.ends.length)) (by omega);exact⟨hl,by show gn S.level _≤_;omega⟩
 ·rw[t2,List.length_append,List.length_singleton] at hk;rcases Nat.lt_or_ge k S.ends.length with hk3 | hk3
  ·rw[t2,dX hk3];exact h.lv k hk3
  ·have:k=S.ends.length:=by omega
   subst this;rw[t2,vS];exact h.lt
 ·rw[t2,List.length_append,List.length_singleton];omega
structure TJ (asm:List Int) (K:Nat) (S:SM) (R:SM×Bool):Prop where
 yes:R.2=true→jk asm K R.1∧Full R.1∧Beside S R.1∧S.trail.length<R.1.trail.length
 no:R.2=false→∃ U,jk asm K U∧Beside S U∧U.next=U.trail.length ∧
  ((∃ l,U.bF l=-1∧l=aJ (gi asm U.ends.length)∧U.ends.length<asm.length∧R.1=U.refused asm l) ∨
   ((∀ v,0<v→v<U.value.length→gi U.value v≠0)∧asm.length≤U.ends.length∧R.1=U.y8 asm))
theorem jk.decide {asm:List Int} {K:Nat} (ha:asm.length≤600000):∀ (f:Nat) (S:SM),jk asm K S→S.next=S.trail.length→f=asm.length-S.ends.length→F5 asm S.value.length→Ju asm f S∧TJ asm K S (SM.jv asm f S)
 | 0,S,h,hn,hf,_=>by
  obtain⟨p1,p2⟩:=jk.pick ha (S.hl.length+1) S h hn (by omega) (by omega);refine⟨p1,?_⟩;rw[SM.jv];obtain⟨P,hP⟩:∃ P,SM.qj (S.hl.length+1) S=P:=⟨_,rfl⟩;rw[hP] at p2 ⊢
  cases hb:P.2 with
  | true =>
   rw[if_pos rfl];obtain⟨y1,y2,y3,y4⟩:=p2.yes hb;exact⟨fun _=>⟨y1,y2,y3,by omega⟩,fun k=>by rw[hb] at k;cases k⟩
  | false =>
   rw[if_neg (by simp)];obtain⟨y1,y2,y3⟩:=p2.no hb;obtain⟨a,b,c,e⟩:=y2.same;refine⟨fun k=>(by cases k),fun _=>⟨P.1,y1,sF y2,by rw[e];exact hn,.inr ⟨fun v hv hvl=>?_,by rw[e];show asm.length≤S.ends.length;omega,rfl⟩⟩⟩;have hv2:P.1.value=S.value:=by rw[e]
   rw[hv2] at hvl ⊢;exact y3 v hv hvl
 | f+1,S,h,hn,hf,has=>by
  have hcl:=h.ex.cls;have hel:=h.vX ha;have hdc:=h.fo.ahY (by omega) (by omega);have hA:S.ends.length<asm.length:=by omega
  obtain⟨l,hl⟩:∃ l,aJ (gi asm S.ends.length)=l:=⟨_,rfl⟩;obtain⟨l2,lv⟩:=has.at hA;rw[hl] at l2 lv;rw[SM.jv,hl];show Ju asm (f+1) S∧TJ asm K S (if S.bF l=-1 then (S.refused asm l,false) else if S.bF l=1 then SM.jv asm f S.open_ else (S.open_.bX l (-1),true))
  by_cases h1:S.bF l=-1
  ·rw[if_pos h1];refine⟨⟨hdc,by rw[hl];exact lv,fun _=>⟨_,_,by rw[hl];exact h.al2 ha has lv⟩,fun k=>absurd h1 (by rw[hl] at k;exact k)⟩,⟨fun k=>(by cases k),fun _=>⟨S,h,Beside.refl S,hn,.inl ⟨l,h1,hl.symm,hA,rfl⟩⟩⟩⟩
  ·rw[if_neg h1]
   by_cases h2:S.bF l=1
   ·rw[if_pos h2];have ho:=h.open_ hn hA (by rw[hl];exact h2);obtain⟨p1,p2⟩:=jk.decide ha f S.open_ ho hn (by show f=asm.length-(S.ends++[S.trail.length]).length;rw[List.length_append,List.length_singleton];omega) has;refine⟨⟨hdc,by rw[hl];exact lv,fun k=>absurd (by rw[hl] at k;exact k) h1,fun _ _=>p1⟩,⟨fun k=>?_,fun k=>?_⟩⟩
    ·obtain⟨y1,y2,y3,y4⟩:=p2.yes k;exact⟨y1,y2,(mg S).trans y3,y4⟩
    ·obtain⟨U,y1,y2,y3⟩:=p2.no k;exact⟨U,y1,(mg S).trans y2,y3⟩
   ·rw[if_neg h2]
    have h3:S.bF l=0:=by
     rcases rU h.fo.tr.vals l with k | k | k
     ·exact absurd k h2
     ·exact absurd k h1
     ·exact k
    obtain⟨s1,s2,s3⟩:=h.set hn l2 lv h3 fun _=>hl.symm;exact⟨⟨hdc,by rw[hl];exact lv,fun k=>absurd (by rw[hl] at k;exact k) h1,fun _ k=>absurd (by rw[hl] at k;exact k) h2⟩,⟨fun _=>⟨s1,s2,(mg S).trans (pX _ _ _),by show S.trail.length<(S.open_.bX l (-1)).trail.length;omega⟩,fun k=>(by cases k)⟩⟩
theorem Vf {x:Nat} (h:2≤x):aJ (bI x)=x:=by
 unfold aJ bI
 by_cases e:x % 2=1
 ·rw[if_pos e,if_pos (by omega)];omega
 ·rw[if_neg e,if_neg (by omega)];omega
theorem Jw {a:Int} (_h:0<a.natAbs):bI (aJ a)=a:=by
 unfold aJ bI
 by_cases e:a<0
 ·rw[if_pos e,if_pos (by omega)];omega
 ·rw[if_neg e,if_neg (by omega)];omega
theorem Jy {N:Nat}:∀ (ks:List Nat) (m:List Bool),m.length=N→(∀ k∈ks,k/2<N)→(ks.foldl (fun m k=>m.set (k/2) true) m).length=N∧(∀ v,gB m v=true→gB (ks.foldl (fun m k=>m.set (k/2) true) m) v=true)∧∀ k∈ks,gB (ks.foldl (fun m k=>m.set (k/2) true) m) (k/2)=true
 | [],m,hm,_=>⟨hm,fun _ h=>h,fun k hk=>by cases hk⟩
 | k :: r,m,hm,hk=>by
  have hkl:=hk k (by simp);obtain⟨a,b,c⟩:=Jy (N:=N) r (m.set (k/2) true) (by rw[List.length_set];exact hm) fun x hx=>hk x (by simp[hx])
  have hset:∀ v,gB m v=true→gB (m.set (k/2) true) v=true:=fun v hv=>by
   rw[qB (by omega)];split
   ·rfl
   ·exact hv
  refine⟨a,fun v hv=>b v (hset v hv),fun x hx=>?_⟩;rcases List.mem_cons.1 hx with rfl | hx
  ·exact b _ (by rw[qB (by omega),if_pos rfl])
  ·exact c x hx
theorem lq (S:SM):∀ (i:Nat) (m:List Bool) (g fr:List Int) (zero:List Nat),i≤S.trail.length→(∀ v∈zero,Zero S v) →
  (∀ y∈g,y∈(S.fZ i m g fr zero).1)∧(∀ v∈(S.fZ i m g fr zero).2.2,Zero S v)∧∀ y∈(S.fZ i m g fr zero).1,y∈g∨∃ j,j<S.trail.length∧y=bI (gn S.trail j)∧gi S.reason (gn S.trail j/2)=-1
 | 0,m,g,fr,zero,_,hz=>⟨fun _ h=>h,hz,fun _ h=>.inl h⟩
 | i+1,m,g,fr,zero,hi,hz=>by
  rw[SM.fZ]
  split
  ·split
   ·rename_i h0
    obtain⟨a,b,c⟩:=lq S i m g fr (zero++[gn S.trail i/2]) (by omega) fun v hv=>by
     rcases List.mem_append.1 hv with k | k
     ·exact hz v k
     ·rw[List.mem_singleton] at k;subst k;exact⟨h0,i,by omega,rfl⟩
    exact⟨a,b,c⟩
   ·split
    ·rename_i hr;obtain⟨a,b,c⟩:=lq S i m (g++[bI (gn S.trail i)]) fr zero (by omega) hz;refine⟨fun y hy=>a y (List.mem_append_left _ hy),b,fun y hy=>?_⟩;rcases c y hy with k | k
     ·rcases List.mem_append.1 k with k | k
      ·exact .inl k
      ·rw[List.mem_singleton] at k;exact .inr ⟨i,by omega,k,hr⟩
     ·exact .inr k
    ·exact lq S i _ g _ zero (by omega) hz
  ·exact lq S i m g fr zero (by omega) hz
theorem nY {S:SM} (ht:nR S) (hc:KQ S) {a:Nat→Bool} (ha:kP a S):∀ (i:Nat) (m:List Bool) (g fr:List Int) (zero:List Nat),i≤S.trail.length→(∀ v∈zero,Zero S v)→m.length=S.value.length →
  (∀ y∈(S.fZ i m g fr zero).1,tr a (aJ y)=true)→∀ j,j<i→gB m (gn S.trail j/2)=true→tr a (gn S.trail j)=true
 | 0,m,g,fr,zero,_,_,_,_,j,hj,_=>by omega
 | i+1,m,g,fr,zero,hi,hz,hm,hg,j,hj,hjm=>by
  rw[SM.fZ] at hg;have hcase:j<i∨j=i:=by omega
  split at hg
  ·split at hg
   ·rename_i h0
    have hz2:∀ v∈zero++[gn S.trail i/2],Zero S v:=fun v hv=>by
     rcases List.mem_append.1 hv with k | k
     ·exact hz v k
     ·rw[List.mem_singleton] at k;subst k;exact⟨h0,i,by omega,rfl⟩
    rcases hcase with k | rfl
    ·exact nY ht hc ha i m g fr _ (by omega) hz2 hm hg j k hjm
    ·exact ha.zero ht (j+1) j (by omega) (by omega) (by rw[←ht.jo j (by omega)];exact h0)
   ·split at hg
    ·rename_i hr;rcases hcase with k | rfl
     ·exact nY ht hc ha i m _ fr zero (by omega) hz hm hg j k hjm
     ·have:=hg (bI (gn S.trail j)) ((lq S j m (g++[bI (gn S.trail j)]) fr zero (by omega) hz).1 _ (by simp));rw[Vf (ht.two j (by omega))] at this;exact this
    ·rename_i h0 hr;rcases ht.why i (by omega) with ⟨k,_⟩ | ⟨r,e1,e2,_,e4⟩
     ·exact absurd k hr
     ·rw[e1] at hg;simp only[Int.toNat_natCast] at hg;obtain⟨p,q,s⟩:=Jy (N:=S.value.length) (S.cl r) m hm fun x hx=>(hc.two r e2 x hx).2;have ih:=nY ht hc ha i _ g _ zero (by omega) hz p hg;rcases hcase with k | rfl
      ·exact ih j k (q _ hjm)
      ·refine ha.last e2 fun x hx hne=>?_;obtain⟨n,hn,e⟩:=e4 x hx hne;have:=ih n hn (by rw[e,bT];exact s x hx);rw[e,uT] at this;simpa using this
  ·rename_i hnm;rcases hcase with k | rfl
   ·exact nY ht hc ha i m g fr zero (by omega) hz hm hg j k hjm
   ·exact absurd hjm hnm
theorem yL (g:List Int):∀ (asm out:List Int) (y:Int),y∈SM.jY g out asm↔y∈out∨(y∈asm∧y∈g)
 | [],out,y=>by simp[SM.jY]
 | x :: r,out,y=>by
  rw[SM.jY]
  split
  ·rename_i h;rw[yL g r];simp only[List.mem_append,List.mem_cons,List.not_mem_nil,or_false]
   constructor
   ·rintro ((k | k) | k)
    ·exact .inl k
    ·subst k;exact .inr ⟨.inl rfl,h.1⟩
    ·exact .inr ⟨.inr k.1,k.2⟩
   ·rintro (k | ⟨k | k,k2⟩)
    ·exact .inl (.inl k)
    ·exact .inl (.inr k)
    ·exact .inr ⟨k,k2⟩
  ·rename_i h;rw[yL g r];simp only[List.mem_cons]
   constructor
   ·rintro (k | k)
    ·exact .inl k
    ·exact .inr ⟨.inr k.1,k.2⟩
   ·rintro (k | ⟨k | k,k2⟩)
    ·exact .inl k
    ·subst k;exact .inl (Classical.byContradiction fun q=>h ⟨k2,q⟩)
    ·exact .inr ⟨k,k2⟩
theorem jk.core {asm:List Int} {K:Nat} {S:SM} (h:jk asm K S) (has:F5 asm S.value.length) {l:Nat} (hl:S.bF l=-1) (hk:S.ends.length<asm.length) (e:l=aJ (gi asm S.ends.length)) {a:Nat→Bool} (ha:kP a S) :
  ∃ y∈(S.refused asm l).core,tr a (aJ y)=false:=by
 apply Classical.byContradiction;intro hno;have hmem:gi asm S.ends.length∈asm:=by rw[dh _ _ hk];exact List.getElem_mem hk
 have h0:=has _ hmem;have hln:bI l=gi asm S.ends.length:=by rw[e];exact Jw h0.1
 obtain⟨m,hm⟩:∃ m,(List.replicate S.value.length false).set (l/2) true=m:=⟨_,rfl⟩;have hml:m.length=S.value.length:=by rw[←hm];simp
 obtain⟨b1,_,b3⟩:=lq S S.trail.length m [bI l] [] [] (Nat.le_refl _) fun v hv=>by cases hv
 have hcore:(S.refused asm l).core=SM.jY (S.fZ S.trail.length m [bI l] [] []).1 [] asm:=by rw[←hm];rfl
 have hall:∀ y∈(S.fZ S.trail.length m [bI l] [] []).1,tr a (aJ y)=true:=fun y hy=>by
  cases ht:tr a (aJ y) with
  | true=>rfl
  | false =>
   refine absurd ⟨y,?_,ht⟩ hno;rw[hcore,yL];refine .inr ⟨?_,hy⟩;rcases b3 y hy with k | ⟨j,hj,ey,hr⟩
   ·rw[List.mem_singleton] at k;rw[k,hln];exact hmem
   ·rcases h.fo.tr.why j hj with ⟨_,k⟩ | ⟨r,k,_⟩
    ·have hle:=nT S j;have hpos:0<dM S j:=List.countP_pos_iff.2 ⟨j,k,by simp⟩;have h3:=h.re j hj k (by omega);have hlt:dM S j-1<asm.length:=by omega
     have hm2:gi asm (dM S j-1)∈asm:=by rw[dh _ _ hlt];exact List.getElem_mem hlt
     rw[ey,h3,Jw (has _ hm2).1];exact hm2
    ·rw[hr] at k;omega
 obtain⟨i,hi,ei⟩:=h.fo.tr.jS hl;have hlv:l/2<S.value.length:=BF (by omega);have h1:=nY h.fo.tr h.fo.cl ha S.trail.length m [bI l] [] [] (Nat.le_refl _) (fun v hv=>by cases hv) hml hall i hi (by rw[ei,bT,←hm,qB (by simpa using hlv),if_pos rfl]);have h2:=hall (bI l) (b1 _ (by simp));rw[ei,uT] at h1;rw[hln,←e] at h2;rw[h2] at h1
 cases h1
end Go.Proofs.YthbbmdnfkkffjaaGreat
namespace Go.Proofs.YthbbmdnfkkffjaaGreat
open Go.RowKit Go.Proofs.aC Go.Proofs.au Go.Proofs.aA
section
variable {B:Nat} {w0 w:World} {p:Nat} {M:MM} {F:HP}
theorem At.Nq (h:At B w0 w p M F):At B w0 (w.setCell ⟨p,18,none⟩ (.slice none 0 0)) p (M.fq ⟨none,0,[]⟩) F:=by
 obtain⟨R,hR⟩:∃ R,(((parts p M).eraseIdx 22).eraseIdx 21).eraseIdx 0=R:=⟨_,rfl⟩
 have e1:stars (parts p M)=star (stars (M.learned.rows 3 vI)) (star (M.learned.outer 27) (star (pt p 92 (aI M)) (stars R))):=by
  rw[aZ (Ps:=parts p M) (k:=22) rfl,aZ (Ps:=(parts p M).eraseIdx 22) (k:=21) rfl,aZ (Ps:=((parts p M).eraseIdx 22).eraseIdx 21) (k:=0) rfl,hR]
 have h1:St B w0 w (star (pt p 92 (aI M)) (star (stars R) (star F (star (stars (M.learned.rows 3 vI)) (M.learned.outer 27))))):=h.st.aB (by rw[e1];ac_rfl);have h2:=h1.bM 18 (.slice none 0 0);have h3:=(h2.aB (show _=star (star (pt p 92 ((aI M).set 18 (.slice none 0 0))) (star (stars R) F)) (star (stars (M.learned.rows 3 vI)) (M.learned.outer 27)) by ac_rfl)).drop;refine⟨h3.aB ?_,h.bA⟩;have hR2:(((parts p (M.fq ⟨none,0,[]⟩)).eraseIdx 22).eraseIdx 21).eraseIdx 0=R:=by rw[←hR];rfl
 have e2:stars (parts p (M.fq ⟨none,0,[]⟩))=star (stars ((M.fq ⟨none,0,[]⟩).learned.rows 3 vI)) (star ((M.fq ⟨none,0,[]⟩).learned.outer 27) (star (pt p 92 (aI (M.fq ⟨none,0,[]⟩))) (stars R))):=by
  rw[aZ (Ps:=parts p (M.fq ⟨none,0,[]⟩)) (k:=22) rfl,aZ (Ps:=(parts p (M.fq ⟨none,0,[]⟩)).eraseIdx 22) (k:=21) rfl,aZ (Ps:=((parts p (M.fq ⟨none,0,[]⟩)).eraseIdx 22).eraseIdx 21) (k:=0) rfl,hR2]
 rw[e2,show (M.fq ⟨none,0,[]⟩).learned.outer 27=emp from gK _ _,show stars ((M.fq ⟨none,0,[]⟩).learned.rows 3 vI)=emp from rfl,iA,iA];show star (pt p 92 ((aI M).set 18 (.slice none 0 0))) (star (stars R) F)=star (star (pt p 92 ((aI M).set 18 (.slice none 0 0))) (stars R)) F
 ac_rfl
theorem At.YT (h:At B w0 w p M F):At B w0 (w.setCell ⟨p,23,none⟩ (.slice none 0 0)) p (M.DY ⟨none,0,[]⟩) F :=
 At.zB (a:=none) (n:=0) (c:=0) (xs:=[]) (h.frame (by rw[show sl none 0 0 3 1 (([]:List Int).map vI)=emp from gK _ _,iA])) rfl (fun _=>rfl)
theorem At.Vg (h:At B w0 w p M F):At B w0 (w.setCell ⟨p,21,none⟩ (.slice none 0 0)) p (M.kH ⟨none,0,[]⟩) F :=
 At.IV (a:=none) (n:=0) (c:=0) (xs:=[]) (h.frame (by rw[show sl none 0 0 4 1 (([]:List Bool).map vB)=emp from gK _ _,iA])) rfl
end
end Go.Proofs.YthbbmdnfkkffjaaGreat
