/-
  Parts of the proof, joined by program: Pi5, Pi6, Pi7, Pi8, Map.
-/
import Derived.Test.YthbbmdnfkkffjaaGreatY19
import Derived.Test.YthbbmdnfkkffjaaGreatY15
import Derived.Test.YthbbmdnfkkffjaaGreatY16
import Derived.Test.YthbbmdnfkkffjaaGreatY01
import Derived.Maps.OwnOps
import Derived.Maps.Views
import Derived.Lib.Hide
set_option maxHeartbeats 8000000
set_option maxRecDepth 100000
namespace Go.Proofs.YthbbmdnfkkffjaaGreat
open Go.Proofs.au Go.Proofs.aA
def M8 (S:SM) (n a:Nat):Prop:=∃ i,i<n∧i<S.trail.length∧gn S.trail i=negL a
def TB (S:SM) (n a b:Nat):Prop:=M8 S n a→S.bF b=1∧gn S.level (b/2)≤gn S.level (a/2)
structure fG (S:SM):Prop where
 tr:nR S
 cl:KQ S
 wa:P8 S
 hp:fK S
 pi:∀ r,r<S.cls.length→2≤(S.cl r).length→TB S S.next (gn (S.cl r) 0) (gn (S.cl r) 1)∧TB S S.next (gn (S.cl r) 1) (gn (S.cl r) 0)
 ne:S.next≤S.trail.length
 en:∀ e∈S.ends,e≤S.next
structure rX (S T:SM):Prop where
 same:∃ cs ws va le re t,T={ S with cls:=cs,aj:=ws,value:=va,level:=le,reason:=re,trail:=S.trail++t }
 gL:T.value.length=S.value.length
 mX:T.cls.length=S.cls.length
 KR:T.aj.length=S.aj.length
 ids:∀ r,T.id r=S.id r
 perm:∀ r,(T.cl r).Perm (S.cl r)
 keep:∀ v,gi S.value v≠0→gi T.value v=gi S.value v∧gn T.level v=gn S.level v
theorem rX.refl (S:SM):rX S S:=⟨⟨S.cls,S.aj,S.value,S.level,S.reason,[],by simp⟩,rfl,rfl,rfl,fun _=>rfl,fun _=>List.Perm.refl _,fun _ _=>⟨rfl,rfl⟩⟩
theorem rX.trans {S T U:SM} (h:rX S T) (k:rX T U):rX S U:=by
 refine⟨?_,k.gL.trans h.gL,k.mX.trans h.mX,k.KR.trans h.KR,fun r=>(k.ids r).trans (h.ids r),fun r=>(k.perm r).trans (h.perm r),fun v hv=>?_⟩
 ·obtain⟨cs,ws,va,le,re,t,rfl⟩:=h.same;obtain⟨cs',ws',va',le',re',t',rfl⟩:=k.same;exact⟨cs',ws',va',le',re',t++t',by simp[List.append_assoc]⟩
 ·obtain⟨a,b⟩:=h.keep v hv;obtain⟨c,d⟩:=k.keep v (by rw[a];exact hv);exact⟨c.trans a,d.trans b⟩
theorem rX.trail {S T:SM} (h:rX S T):∃ t,T.trail=S.trail++t:=by obtain⟨_,_,_,_,_,t,rfl⟩:=h.same;exact⟨t,rfl⟩
theorem rX.ends {S T:SM} (h:rX S T):T.ends=S.ends:=by obtain⟨_,_,_,_,_,t,rfl⟩:=h.same;rfl
theorem rX.next {S T:SM} (h:rX S T):T.next=S.next:=by obtain⟨_,_,_,_,_,t,rfl⟩:=h.same;rfl
theorem rX.gn {S T:SM} (h:rX S T) {i:Nat} (hi:i<S.trail.length):gn T.trail i=aA.gn S.trail i:=by
 obtain⟨t,e⟩:=h.trail;rw[e];exact dX hi
theorem rX.le {S T:SM} (h:rX S T):S.trail.length≤T.trail.length:=by obtain⟨t,e⟩:=h.trail;rw[e];simp
theorem rX.bF {S T:SM} (h:rX S T) {l:Nat} (hl:S.bF l≠0):T.bF l=S.bF l:=by
 have:=(h.keep (l/2) (fun e=>hl (gX.2 e))).1;unfold SM.bF;rw[this]
theorem rX.jo {S T:SM} (h:rX S T) {l:Nat} (hl:S.bF l≠0):aA.gn T.level (l/2)=aA.gn S.level (l/2):=(h.keep (l/2) (fun e=>hl (gX.2 e))).2
theorem M8.false {S:SM} (h:nR S) {n a:Nat} (k:M8 S n a):S.bF a=-1:=by
 obtain⟨i,_,hi,e⟩:=k;have:=h.is i hi;rw[e,rR] at this;omega
theorem rX.proc {S T:SM} (h:rX S T) {n a:Nat} (hn:n≤S.trail.length):M8 T n a↔M8 S n a:=by
 constructor
 ·rintro⟨i,a,b,c⟩;exact⟨i,a,by omega,by rw[←h.gn (by omega)];exact c⟩
 ·rintro⟨i,a,b,c⟩;exact⟨i,a,by have:=h.le;omega,by rw[h.gn b];exact c⟩
theorem rX.pi1 {S T:SM} (h:rX S T) (hs:nR S) {n a b:Nat} (hn:n≤S.trail.length) (hp:TB S n a b):TB T n a b:=fun hk=>by
 have hk':=(h.proc hn).1 hk;obtain⟨h1,h2⟩:=hp hk';have h3:=hk'.false hs;exact⟨by rw[h.bF (by omega)];exact h1,by rw[h.jo (by omega),h.jo (by omega)];exact h2⟩
theorem nR.congr {S T:SM} (h:nR S) (hz:Sz T) (hv:T.value=S.value) (hl:T.level=S.level) (hr:T.reason=S.reason) (ht:T.trail=S.trail) (he:T.ends=S.ends)
  (hc:S.cls.length≤T.cls.length) (hm:∀ r,r<S.cls.length→∀ x,x∈T.cl r↔x∈S.cl r):nR T:=by
 have hL:∀ l,T.bF l=S.bF l:=fun l=>by unfold SM.bF;rw[hv]
 refine⟨hz,by rw[hv];exact h.vals,by rw[ht];exact h.two,by rw[ht,hv];exact h.lt,fun i hi=>?_,fun i hi=>?_,by rw[ht];exact h.inj,by rw[ht,hv];exact h.all,by rw[ht,he];exact h.ends,by rw[he];exact h.mono,fun i hi=>?_⟩
 ·rw[hL,ht];rw[ht] at hi;exact h.is i hi
 ·rw[ht] at hi ⊢;unfold dM;rw[hl,he];exact h.jo i hi
 ·rw[ht] at hi;unfold Why;rw[hr,ht,he];rcases h.why i hi with a | ⟨r,a,b,c,d⟩
  ·exact .inl a
  ·exact .inr ⟨r,a,by omega,(hm r b _).2 c,fun x hx hne=>d x ((hm r b x).1 hx) hne⟩
theorem BA {S:SM} {ref:Nat} {c:List Nat} (hr:ref<S.cls.length) (hp:c.Perm (S.cl ref)):rX S (S.dB ref c):=by
 refine⟨⟨_,S.aj,S.value,S.level,S.reason,[],by unfold SM.dB;rw[List.append_nil]⟩,rfl,?_,rfl,fun r=>Yw hr,fun r=>?_,fun _ _=>⟨rfl,rfl⟩⟩
 ·show (S.cls.set _ _).length=_;rw[List.length_set]
 ·rw[jc hr];split
  ·rename_i e;rw[e];exact hp
  ·exact List.Perm.refl _
theorem zW {S:SM} {l:Nat} {r:Int} (hl:l/2<S.value.length) (jN:S.level.length=S.value.length) (h0:S.bF l=0):rX S (S.bX l r):=by
 refine⟨⟨S.cls,S.aj,_,_,_,[l],rfl⟩,by show (S.value.set _ _).length=_;rw[List.length_set],rfl,rfl,fun _=>rfl,fun _=>List.Perm.refl _,fun v hv=>?_⟩;have hne:v≠l/2:=fun e=>hv (by rw[e];exact gX.1 h0)
 constructor
 ·show gi (S.value.set _ _) v=_;rw[mW hl,if_neg hne]
 ·show gn (S.level.set _ _) v=_;rw[gZ (by rw[jN];exact hl),if_neg hne]
theorem fG.turn {S:SM} (h:fG S) {ref:Nat} {c:List Nat} (hr:ref<S.cls.length) (hp:c.Perm (S.cl ref)) (h2:Two c (S.cl ref)):fG (S.dB ref c):=by
 have hf:=BA hr hp;refine⟨h.tr.congr ⟨h.tr.sz.level,h.tr.sz.reason,h.tr.sz.phase,h.tr.sz.occurs,h.tr.sz.units,h.tr.sz.aj⟩ rfl rfl rfl rfl rfl (by rw[hf.mX];exact Nat.le_refl _) (fun r _ x=>(hf.perm r).mem_iff),h.cl.turn hr hp,h.wa.turn hr hp h2,⟨h.hp.hi.congr rfl rfl rfl rfl,h.hp.nz,h.hp.all⟩,fun r hrl hlen=>?_,h.ne,h.en⟩;rw[hf.mX] at hrl;rw[(hf.perm r).length_eq] at hlen;obtain⟨a,b⟩:=h.pi r hrl hlen;have a':=hf.pi1 h.tr h.ne a;have b':=hf.pi1 h.tr h.ne b;rw[jc hr]
 split
 ·rename_i e;subst e;rcases h2 with ⟨x,y⟩ | ⟨x,y⟩ <;> rw[x,y]
  ·exact⟨a',b'⟩
  ·exact⟨b',a'⟩
 ·exact⟨a',b'⟩
theorem fK.bX {S:SM} (h:fK S) {l:Nat} {r:Int} (hl:l/2<S.value.length):fK (S.bX l r):=by
 have hlen:(S.bX l r).value.length=S.value.length:=by show (S.value.set _ _).length=_;rw[List.length_set]
 refine h.grown (h.hi.congr hlen rfl rfl rfl) hlen (fun v hv=>?_) rfl;show gi (S.value.set _ _) v≠0;rw[mW hl]
 split
 ·split <;> omega
 ·exact hv
theorem fG.bX {S:SM} (h:fG S) {l:Nat} {r:Int} (h2:2≤l) (hl:l/2<S.value.length) (h0:S.bF l=0)
  (hr:(r=-1∧S.trail.length∈S.ends)∨∃ k:Nat,r=k∧k<S.cls.length∧l∈S.cl k∧∀ x∈S.cl k,x≠l→S.bF x=-1):fG (S.bX l r):=by
 have hf:=zW (r:=r) hl h.tr.sz.level h0;refine⟨h.tr.bX h2 hl h0 hr,⟨h.cl.nd,fun k hk x hx=>?_⟩,⟨h.wa.nd,h.wa.iff⟩,h.hp.bX hl,fun k hk hlen=>?_,?_,h.en⟩
 ·rw[hf.gL];exact h.cl.two k hk x hx
 ·obtain⟨a,b⟩:=h.pi k hk hlen;exact⟨hf.pi1 h.tr h.ne a,hf.pi1 h.tr h.ne b⟩
 ·have:=hf.le;have:=h.ne;show S.next≤_;omega
def OkW (S:SM) (l r:Nat):Prop:=(gn (S.cl r) 0=l→S.bF (gn (S.cl r) 1)=1)∧(gn (S.cl r) 1=l→S.bF (gn (S.cl r) 0)=1)
theorem fG.qX {S:SM} (h:fG S) {l:Nat} (hl:l/2<S.value.length):l<S.aj.length:=by rw[h.tr.sz.aj];omega
theorem fG.move {S T:SM} (h:fG S) {ref l k m i:Nat} (hr:ref<S.cls.length) (h2:2≤(S.cl ref).length) (hl:l=gn (S.cl ref) 0∨l=gn (S.cl ref) 1)
  (hm:m<(gN S.aj l).length) (hg:gn (gN S.aj l) m=ref) (hf:S.bF l=-1) (hi1:2≤i) (hi2:i<(S.cl ref).length) (hk:gn (orient (S.cl ref) l) i=k) (hk0:0≤S.bF k)
  (hT:T={ (S.dB ref (SM.dG (orient (S.cl ref) l) 1 i)) with aj:=(S.aj.set k (gN S.aj k++[ref])).set l ((gN S.aj l).eraseIdx m) }) :
  fG T∧rX S T∧(∀ r,r≠ref→T.cl r=S.cl r)∧T.value=S.value:=by
 have hol:(orient (S.cl ref) l).length=(S.cl ref).length:=rW;have hop:=Cv (l:=l) h2;have Jm:=FL (l:=l) h2;have ho1:=FM h2 hl;have hcl':=h.cl.turn hr hop
 have hne:∀ a b,a<(S.cl ref).length→b<(S.cl ref).length→a≠b→gn (orient (S.cl ref) l) a≠gn (orient (S.cl ref) l) b:=fun a b ha hb hab e=>by
  have:=hcl'.ne (r:=ref) (i:=a) (j:=b) (by show _<(S.cls.set _ _).length;rw[List.length_set];exact hr) (by rw[jc hr,if_pos rfl,hol];exact ha) (by rw[jc hr,if_pos rfl,hol];exact hb) hab;rw[jc hr,if_pos rfl,e] at this;exact this rfl
 obtain⟨o,hoo⟩:∃ o,orient (S.cl ref) l=o:=⟨_,rfl⟩;have hO:orient (S.cl ref) l=o:=hoo;rw[hoo] at hol hop Jm ho1 hk hT hne;have hsp:(SM.dG o 1 i).Perm (S.cl ref):=(swap_perm (by omega) (by omega)).trans hop;have hg0:gn (SM.dG o 1 i) 0=gn o 0:=by rw[rV (by omega) (by omega),if_neg (by omega),if_neg (by omega)]
 have hg1:gn (SM.dG o 1 i) 1=k:=by rw[rV (by omega) (by omega),if_neg (by omega),if_pos rfl];exact hk
 have hkm:k∈S.cl ref:=hop.mem_iff.1 (by rw[←hk];exact aU _ _ (by omega));have hlm:l∈S.cl ref:=hop.mem_iff.1 (by rw[←ho1];exact aU _ _ (by omega));have hkl:k≠l:=by rw[←hk,←ho1];exact hne i 1 (by omega) (by omega) (by omega)
 have hk0':k≠gn (SM.dG o 1 i) 0:=by rw[hg0,←hk];exact hne i 0 (by omega) (by omega) (by omega)
 have hl0':l≠gn (SM.dG o 1 i) 0:=by rw[hg0,←ho1];exact hne 1 0 (by omega) (by omega) (by omega)
 have hkw:=h.qX (h.cl.two ref hr k hkm).2;have qz:=h.qX (h.cl.two ref hr l hlm).2;have hf1:=BA hr hsp;have hcls:T.cls=(S.dB ref (SM.dG o 1 i)).cls:=by rw[hT]
 have hval:T.value=S.value:=by rw[hT];rfl
 have hwl:T.aj.length=S.aj.length:=by rw[hT];simp
 have hfw:rX S T:=by
  refine⟨⟨T.cls,T.aj,S.value,S.level,S.reason,[],by rw[hT,List.append_nil];rfl⟩,by rw[hval],by rw[hcls];exact hf1.mX,hwl,fun r=>?_,fun r=>?_,fun v _=>⟨by rw[hval],by rw[hT];rfl⟩⟩
  ·rw[←hf1.ids r];unfold SM.id;rw[hcls]
  ·have:=hf1.perm r;unfold SM.cl at this ⊢;rw[hcls];exact this
 have ahg:∀ r,T.cl r=if r=ref then SM.dG o 1 i else S.cl r:=fun r=>by rw[←jc hr];unfold SM.cl;rw[hcls]
 have hwa:P8 T:=P8.move (c:=SM.dG o 1 i) (k:=k) (m:=m) h.wa hr (by rw[lW,hol]) (by rw[lW,hol];exact h2) hl (by rw[hO];exact Jm) (by rw[hO];exact ho1) (by rw[hO];exact hg0) hg1 hkl hk0' hl0' hkw qz hm hg hcls (by rw[hT])
 have hz:Sz T:=by
  have hzz:=h.tr.sz;exact⟨by rw[hT];exact hzz.level,by rw[hT];exact hzz.reason,by rw[hT];exact hzz.phase,by rw[hT];exact hzz.occurs,by rw[hT];exact hzz.units,by rw[hwl,hval];exact hzz.aj⟩
 have hnx:T.next=S.next:=hfw.next;refine⟨⟨h.tr.congr hz hval (by rw[hT];rfl) (by rw[hT];rfl) (by rw[hT];rfl) (by rw[hT];rfl) (by rw[hfw.mX];exact Nat.le_refl _) (fun r _ x=>(hfw.perm r).mem_iff),?_,hwa,?_,fun r hrl hlen=>?_,?_,?_⟩,hfw,fun r hrr=>by rw[ahg,if_neg hrr],hval⟩
 ·have:=h.cl.turn hr hsp;refine⟨fun r hrl=>?_,fun r hrl x hx=>?_⟩
  ·rw[hcls] at hrl;have h3:=this.nd r hrl;unfold SM.cl at h3 ⊢;rw[hcls];exact h3
  ·rw[hcls] at hrl;rw[hval];exact this.two r hrl x (by unfold SM.cl at hx ⊢;rw[←hcls];exact hx)
 ·refine⟨h.hp.hi.congr (by rw[hval]) (by rw[hT];rfl) (by rw[hT];rfl) (by rw[hT];rfl),?_,?_⟩
  ·rw[show T.hl=S.hl by rw[hT];rfl];exact h.hp.nz
  ·rw[show T.hl=S.hl by rw[hT];rfl,hval];exact h.hp.all
 ·rw[hfw.mX] at hrl;rw[(hfw.perm r).length_eq] at hlen;obtain⟨a,b⟩:=h.pi r hrl hlen;rw[hnx,ahg]
  split
  ·rename_i e;subst e;rw[hg0,hg1]
   have hno:¬ M8 S S.next (gn o 0):=fun hp=>by
    rcases Jm with ⟨x,y⟩ | ⟨x,y⟩
    ·have:=(a (by rw[←x];exact hp)).1;rw[←y,ho1,hf] at this;cases this
    ·have:=(b (by rw[←x];exact hp)).1;rw[←y,ho1,hf] at this;cases this
   refine⟨fun hp=>absurd ((hfw.proc h.ne).1 hp) hno,fun hp=>?_⟩;have:=((hfw.proc h.ne).1 hp).false h.tr;omega
  ·exact⟨hfw.pi1 h.tr h.ne a,hfw.pi1 h.tr h.ne b⟩
 ·have:=h.ne;rw[hnx];have:=hfw.le;omega
 ·rw[hnx,hfw.ends];exact h.en
def kM (S:SM) (l:Nat) (r:List Nat):SM:={ S with aj:=S.aj.set l r }
def kN (l:Nat):Nat→SM→Nat→SM×Int
 | 0,S,_=>(S,-1)
 | f+1,S,m =>
  if (S.look (gn (gN S.aj l) m) l).2.2 then ((S.look (gn (gN S.aj l) m) l).1,gn (gN S.aj l) m)
  else if (S.look (gn (gN S.aj l) m) l).2.1 then kN l f (kM (S.look (gn (gN S.aj l) m) l).1 l ((gN (S.look (gn (gN S.aj l) m) l).1.aj l).eraseIdx m)) m
  else kN l f (S.look (gn (gN S.aj l) m) l).1 (m+1)
theorem abz (S:SM) (l r:Nat) (x:List Nat):(kM S l x).cl r=S.cl r:=rfl
theorem Na (S:SM) (l k:Nat) (x:List Nat):(kM S l x).bF k=S.bF k:=rfl
theorem zX {S:SM} {l j:Nat} {x:List Nat} (hl:l<S.aj.length):gN (kM S l x).aj j=if j=l then x else gN S.aj j:=yD hl
theorem FP (S:SM) (l:Nat) (x:List Nat):∀ (f:Nat) (c:List Nat) (i:Nat),(kM S l x).iK f c i=S.iK f c i
 | 0,_,_=>rfl
 | f+1,c,i=>by
  unfold SM.iK;rw[Na,FP S l x f]
theorem BD {S:SM} {ref l:Nat} {x:List Nat} (h2:2≤(S.cl ref).length) (hf:S.bF l<0) :
  (kM S l x).look ref l=(kM (S.look ref l).1 l x,(S.look ref l).2)∧gN (S.look ref l).1.aj l=gN S.aj l∧(S.look ref l).1.aj.length=S.aj.length:=by
 rw[uQ,uQ,abz];have hl:2≤(orient (S.cl ref) l).length:=by rw[rW];exact h2
 generalize orient (S.cl ref) l=c at hl;unfold mJ;rw[FP,Na]
 split
 ·exact⟨rfl,rfl,rfl⟩
 ·cases hw:S.iK (c.length-2) c 2 with
  | some i =>
   obtain⟨_,_,hi⟩:=Fv hw;have hne:gn c i≠l:=fun e=>by rw[e] at hi;omega
   simp only;refine⟨?_,?_,?_⟩
   ·unfold SM.watch kM SM.dB;simp only
    have e1:gN (S.aj.set l x) (gn c i)=gN S.aj (gn c i):=by
     simp[gN,List.getD_eq_getElem?_getD,List.getElem?_set_ne (Ne.symm hne)]
    rw[e1,List.set_comm _ _ (Ne.symm hne)];rfl
   ·show gN (S.aj.set (gn c i) _) l=_;simp[gN,List.getD_eq_getElem?_getD,List.getElem?_set_ne hne]
   ·show (S.aj.set (gn c i) _).length=_;rw[List.length_set]
  | none =>
   simp only
   split
   ·exact⟨rfl,rfl,rfl⟩
   ·exact⟨rfl,rfl,rfl⟩
def Wide (S:SM) (l i:Nat):Prop:=∀ j,i≤j→j<(gN S.aj l).length→2≤(S.cl (gn (gN S.aj l) j)).length
theorem vU (S:SM) (l:Nat) (x y:List Nat):kM (kM S l x) l y=kM S l y:=by unfold kM;simp
theorem Yx {S:SM} {ref l:Nat} (h2:2≤(S.cl ref).length) (h:(S.look ref l).2.2=true):(S.look ref l).2.1=false:=by
 have hc:=Jl S ref l h2;revert h hc;generalize S.look ref l=R;intro h hc
 cases hc with
 | sat _=>cases h
 | move _ _ _ _ _=>cases h
 | bad _ _=>rfl
 | unit _ _=>cases h
theorem fG.val {S:SM} (h:fG S) (l:Nat):S.bF l=1∨S.bF l=-1∨S.bF l=0:=rU h.tr.vals l
theorem Jo {S:SM} {l m ref:Nat} (h:fG S) (hf:S.bF l=-1) (hm:m<(gN S.aj l).length) (hg:gn (gN S.aj l) m=ref) :
  (ref<S.cls.length∧2≤(S.cl ref).length) ∧
  (((S.look ref l).2=(false,true)∧fG (S.look ref l).1∧rX S (S.look ref l).1∧gN (S.look ref l).1.aj l=gN S.aj l∧∀ x∈(S.look ref l).1.cl ref,(S.look ref l).1.bF x=-1) ∨
   ((S.look ref l).2=(true,false)∧fG (kM (S.look ref l).1 l ((gN S.aj l).eraseIdx m))∧rX S (kM (S.look ref l).1 l ((gN S.aj l).eraseIdx m))∧∀ r,r≠ref→(S.look ref l).1.cl r=S.cl r) ∨
   ((S.look ref l).2=(false,false)∧fG (S.look ref l).1∧rX S (S.look ref l).1∧gN (S.look ref l).1.aj l=gN S.aj l∧OkW (S.look ref l).1 l ref∧∀ r,r≠ref→(S.look ref l).1.cl r=S.cl r)):=by
 obtain⟨hr,h2,hl⟩:=(h.wa.iff l ref).1 (by rw[←hg];exact aU _ _ hm);refine⟨⟨hr,h2⟩,?_⟩;have hol:(orient (S.cl ref) l).length=(S.cl ref).length:=rW;have hop:=Cv (l:=l) h2;have Jm:=FL (l:=l) h2;have ho1:=FM h2 hl;have acV:=fun k i=>fG.move (T:={ (S.dB ref (SM.dG (orient (S.cl ref) l) 1 i)) with aj:=(S.aj.set k (gN S.aj k++[ref])).set l ((gN S.aj l).eraseIdx m) }) (k:=k) (i:=i) h hr h2 hl hm hg hf;have hc:=Jl S ref l h2;revert hc;generalize S.look ref l=R;generalize orient (S.cl ref) l=c at hol hop Jm ho1 acV;intro hc;have hF:=h.turn hr hop Jm;have hW:=BA hr hop;have hcr:(S.dB ref c).cl ref=c:=by rw[jc hr,if_pos rfl]
 have hcn:∀ r,r≠ref→(S.dB ref c).cl r=S.cl r:=fun r hrr=>by rw[jc hr,if_neg hrr]
 have acW:gn c 0≠l:=fun e=>by
  have hz:=hF.cl.ne (r:=ref) (i:=0) (j:=1) (by rw[hW.mX];exact hr) (by rw[hcr];omega) (by rw[hcr];omega) (by omega);rw[hcr,ho1,e] at hz;exact hz rfl
 cases hc with
 | sat h0 =>
  refine .inr (.inr ⟨rfl,hF,hW,rfl,?_,hcn⟩);unfold OkW;rw[hcr];refine⟨fun e=>absurd e acW,fun _=>?_⟩;show S.bF (gn c 0)=1;rcases h.val (gn c 0) with e | e | e <;> omega
 | move i h0 h1 h3 h4 =>
  obtain⟨a,b,d,_⟩:=acV (gn c i) i h1 (by omega) rfl h4 rfl;refine .inr (.inl ⟨rfl,a,b,d⟩)
 | bad hn h0 =>
  refine .inl ⟨rfl,hF,hW,rfl,fun x hx=>?_⟩;rw[hcr] at hx;obtain⟨k,hk,rfl⟩:=jO hx;show S.bF (gn c k)=-1
  have:S.bF (gn c k)<0:=by
   rcases Nat.lt_or_ge k 2 with hk2 | hk2
   ·have:k=0∨k=1:=by omega
    rcases this with rfl | rfl
    ·exact h0
    ·rw[ho1,hf];omega
   ·exact hn k hk2 hk
  rcases h.val (gn c k) with e | e | e <;> omega
 | unit hn h0 =>
  have hm0:gn c 0∈S.cl ref:=hop.mem_iff.1 (aU _ _ (by omega));obtain⟨t2,tl⟩:=h.cl.two ref hr _ hm0
  have hfalse:∀ x∈(S.dB ref c).cl ref,x≠gn c 0→(S.dB ref c).bF x=-1:=fun x hx hne=>by
   rw[hcr] at hx;obtain⟨k,hk,rfl⟩:=jO hx;show S.bF (gn c k)=-1
   have:S.bF (gn c k)<0:=by
    rcases Nat.lt_or_ge k 2 with hk2 | hk2
    ·have:k=0∨k=1:=by omega
     rcases this with rfl | rfl
     ·exact absurd rfl hne
     ·rw[ho1,hf];omega
    ·exact hn k hk2 hk
   rcases h.val (gn c k) with e | e | e <;> omega
  have hS:=hF.bX (l:=gn c 0) (r:=(ref:Int)) t2 (by show _<S.value.length;exact tl) h0 (.inr ⟨ref,rfl,by rw[hW.mX];exact hr,by rw[hcr];exact aU _ _ (by omega),hfalse⟩);have hfs:=zW (S:=S.dB ref c) (l:=gn c 0) (r:=(ref:Int)) (by show _<S.value.length;exact tl) h.tr.sz.level h0;refine .inr (.inr ⟨rfl,hS,hW.trans hfs,rfl,?_,fun r hrr=>hcn r hrr⟩);unfold OkW;rw[show ((S.dB ref c).bX (gn c 0) (ref:Int)).cl ref=c from hcr];refine⟨fun e=>absurd e acW,fun _=>?_⟩;rw[lY (by show _<S.value.length;exact tl),if_pos rfl]
theorem OkW.fwd {S T:SM} (h:rX S T) {l r:Nat} (hc:T.cl r=S.cl r) (k:OkW S l r):OkW T l r:=by
 unfold OkW at k ⊢;rw[hc];exact⟨fun e=>by have:=k.1 e;rw[h.bF (by omega)];exact this,fun e=>by have:=k.2 e;rw[h.bF (by omega)];exact this⟩
theorem Nb {l:List Nat} {m j:Nat} (h:j<m):gn (l.eraseIdx m) j=gn l j:=by
 simp[gn,List.getD_eq_getElem?_getD,List.getElem?_eraseIdx_of_lt h]
theorem aer {S:SM} (h:P8 S) {l i j:Nat} (hi:i<(gN S.aj l).length) (hj:j<(gN S.aj l).length) (hij:i≠j):gn (gN S.aj l) i≠gn (gN S.aj l) j:=by
 rw[fD _ _ hi,fD _ _ hj];intro e;exact hij ((List.getElem_inj (h₀:=hi) (h₁:=hj) (h.nd l)).1 e)
def zY (S:SM) (r:Nat):Prop:=r<S.cls.length∧2≤(S.cl r).length∧∀ x∈S.cl r,S.bF x=-1
theorem yE {l:Nat}:∀ (f:Nat) (S:SM) (m:Nat),m+f=(gN S.aj l).length→fG S→S.bF l=-1→l<S.aj.length→(∀ j,j<m→OkW S l (gn (gN S.aj l) j)) →
  fG (kN l f S m).1∧rX S (kN l f S m).1 ∧
  (((kN l f S m).2=-1∧∀ r∈gN (kN l f S m).1.aj l,OkW (kN l f S m).1 l r) ∨
   ∃ r:Nat,(kN l f S m).2=r∧zY (kN l f S m).1 r∧l∈(kN l f S m).1.cl r)
 | 0,S,m,hm,h,hf,qz,hok=>by
  refine⟨h,rX.refl S,.inl ⟨rfl,fun r hr=>?_⟩⟩;obtain⟨j,hj,rfl⟩:=jO hr;change j<(gN S.aj l).length at hj;exact hok j (by omega)
 | f+1,S,m,hm,h,hf,qz,hok=>by
  have hml:m<(gN S.aj l).length:=by omega
  obtain⟨ref,href⟩:∃ ref,gn (gN S.aj l) m=ref:=⟨_,rfl⟩;obtain⟨⟨hr,h2⟩,hc⟩:=Jo h hf hml href;have hne:∀ j,j<m→gn (gN S.aj l) j≠ref:=fun j hj=>by rw[←href];exact aer h.wa (by omega) hml (by omega)
  rw[kN,href];rcases hc with ⟨e,hF,hW,hrow,hall⟩ | ⟨e,hF,hW,hcl⟩ | ⟨e,hF,hW,hrow,ahh,hcl⟩
  ·rw[e];simp only[if_true];refine⟨hF,hW,.inr ⟨ref,rfl,⟨by rw[hW.mX];exact hr,by rw[(hW.perm ref).length_eq];exact h2,hall⟩,?_⟩⟩;have:=((h.wa.iff l ref).1 (by rw[←href];exact aU _ _ hml)).2.2;rw[(hW.perm ref).mem_iff];rcases this with e | e <;> rw[e] <;> exact aU _ _ (by omega)
  ·rw[e];have hrow:gN (S.look ref l).1.aj l=gN S.aj l:=(BD (x:=[]) h2 (by rw[hf];omega)).2.1;simp only[if_true,Bool.false_eq_true,if_false];rw[hrow];obtain⟨T,hT⟩:∃ T,kM (S.look ref l).1 l ((gN S.aj l).eraseIdx m)=T:=⟨_,rfl⟩
   have hTr:gN T.aj l=(gN S.aj l).eraseIdx m:=by
    rw[←hT,zX (by rw[(BD (x:=[]) h2 (by rw[hf];omega)).2.2];exact qz),if_pos rfl]
   have hTc:∀ r,r≠ref→T.cl r=S.cl r:=fun r hrr=>by rw[←hT];exact hcl r hrr
   rw[hT] at hF hW ⊢;have hfT:T.bF l=-1:=by rw[hW.bF (by omega)];exact hf
   obtain⟨a,b,c⟩:=yE f T m (by rw[hTr,List.length_eraseIdx,if_pos hml];omega) hF hfT (by rw[hW.KR];exact qz) fun j hj=>by
    rw[hTr,Nb hj];exact (hok j hj).fwd hW (hTc _ (hne j hj))
   exact⟨a,hW.trans b,c⟩
  ·rw[e];simp only[Bool.false_eq_true,if_false];have hfT:(S.look ref l).1.bF l=-1:=by rw[hW.bF (by omega)];exact hf
   obtain⟨a,b,c⟩:=yE f (S.look ref l).1 (m+1) (by rw[hrow];omega) hF hfT (by rw[hW.KR];exact qz) fun j hj=>by
    rw[hrow]
    by_cases e1:j=m
    ·rw[e1,href];exact ahh
    ·exact (hok j (by omega)).fwd hW (hcl _ (hne j (by omega)))
   exact⟨a,hW.trans b,c⟩
def whole (S:SM) (l i m:Nat):List Nat:=(gN S.aj l).take m++(gN S.aj l).drop i
theorem U7 {S:SM} {l i m:Nat} (hm:m≤i) (hi:i≤(gN S.aj l).length):(whole S l i m).length=m+((gN S.aj l).length-i):=by
 unfold whole;rw[List.length_append,List.length_take,List.length_drop];omega
theorem Yy {S:SM} {l i m:Nat} (hm:m≤i) (hi:i<(gN S.aj l).length):gn (whole S l i m) m=gn (gN S.aj l) i:=by
 unfold whole;have:((gN S.aj l).take m).length=m:=by rw[List.length_take];omega
 rw[rO (by omega),this,Nat.sub_self];simp[gn,List.getD_eq_getElem?_getD]
theorem Nc {S:SM} {l i m:Nat} (hm:m≤i) (hi:i<(gN S.aj l).length):(whole S l i m).eraseIdx m=(gN S.aj l).take m++(gN S.aj l).drop (i+1):=by
 unfold whole;have:((gN S.aj l).take m).length=m:=by rw[List.length_take];omega
 rw[List.eraseIdx_append_of_length_le (by omega),this,Nat.sub_self,List.drop_eq_getElem_cons hi];rfl
theorem Jp {S:SM} {l i m:Nat} (hm:m≤i) (hi:i<(gN S.aj l).length):(((gN S.aj l).set m (gn (gN S.aj l) i)).take (m+1)++((gN S.aj l).set m (gn (gN S.aj l) i)).drop (i+1))=whole S l i m:=by
 unfold whole;rw[List.drop_set_of_lt (by omega),List.drop_eq_getElem_cons hi,List.take_succ_eq_append_getElem (by rw[List.length_set];omega),List.getElem_set_self,List.take_set,List.set_eq_of_length_le (by rw[List.length_take];omega),fD _ _ hi,List.append_assoc];rfl
theorem Jq {S:SM} {l:Nat} (hl:l<S.aj.length):kM S l (gN S.aj l)=S:=by
 unfold kM
 have:S.aj.set l (gN S.aj l)=S.aj:=by
  apply List.ext_getElem?;intro j
  by_cases e:l=j
  ·subst e;rw[List.getElem?_set_self hl,aaG _ _ hl]
  ·rw[List.getElem?_set_ne e]
 rw[this]
theorem jd {l:List Nat} {n:Nat} (h:l.Nodup) (hb:∀ x∈l,x<n):l.length≤n:=by
 have:=nH h (L:=List.range n) fun x hx=>List.mem_range.2 (hb x hx)
 rwa [List.length_range] at this
theorem KQ.len {S:SM} (h:KQ S) {r:Nat} (hr:r<S.cls.length):(S.cl r).length≤S.value.length:=by
 have:=jd (h.nd r hr) fun x hx=>by
  obtain⟨y,hy,rfl⟩:=List.mem_map.1 hx;exact (h.two r hr y hy).2
 rwa [List.length_map] at this
theorem nR.nodup {S:SM} (h:nR S):(S.trail.map (·/2)).Nodup:=by
 rw[List.Nodup,List.pairwise_iff_getElem];intro i j hi hj hij e;rw[List.length_map] at hi hj;rw[List.getElem_map,List.getElem_map,←fD _ _ hi,←fD _ _ hj] at e;have:=h.inj i j hi hj e;omega
theorem nR.len {S:SM} (h:nR S):S.trail.length≤S.value.length:=by
 have:=jd h.nodup fun x hx=>by
  obtain⟨y,hy,rfl⟩:=List.mem_map.1 hx;exact h.kY y hy
 rwa [List.length_map] at this
theorem P8.len {S:SM} (h:P8 S) (l:Nat):(gN S.aj l).length≤S.cls.length:=jd (h.nd l) fun x hx=>((h.iff l x).1 hx).1
theorem yF {l:Nat}:∀ (f:Nat) (S:SM) (i m:Nat),i+f=(gN S.aj l).length→m≤i→l<S.aj.length→S.bF l=-1→fG (kM S l (whole S l i m)) →
  SM.kD f S l i m=kN l f (kM S l (whole S l i m)) m∧(S.cls.length≤1000000→(gN S.aj l).length≤1000000→lN f S l i m)
 | 0,S,i,m,hi,hm,qz,hf,h=>by
  refine⟨?_,fun _ _=>trivial⟩;have:whole S l i m=(gN S.aj l).take m:=by unfold whole;rw[List.drop_eq_nil_of_le (by omega),List.append_nil]
  rw[this];rfl
 | f+1,S,i,m,hi,hm,qz,hf,h=>by
  have hil:i<(gN S.aj l).length:=by omega
  obtain⟨ref,href⟩:∃ ref,gn (gN S.aj l) i=ref:=⟨_,rfl⟩;obtain⟨E,hE⟩:∃ E,kM S l (whole S l i m)=E:=⟨_,rfl⟩;have Yz:gN E.aj l=whole S l i m:=by rw[←hE,zX qz,if_pos rfl]
  have hEg:gn (gN E.aj l) m=ref:=by rw[Yz,Yy hm hil,href]
  have hEm:m<(gN E.aj l).length:=by rw[Yz,U7 hm (by omega)];omega
  have hEf:E.bF l=-1:=by rw[←hE];exact hf
  rw[hE] at h ⊢;obtain⟨⟨hr,h2⟩,hc⟩:=Jo h hEf hEm hEg;have hEc:∀ r,E.cl r=S.cl r:=fun r=>by rw[←hE];rfl
  have hEn:E.cls=S.cls:=by rw[←hE];rfl
  have hEv:E.value=S.value:=by rw[←hE];rfl
  have hS2:2≤(S.cl ref).length:=by rw[←hEc];exact h2
  obtain⟨l1,l2,l3⟩:=BD (x:=whole S l i m) hS2 (by rw[hf];omega:S.bF l<0);rw[hE] at l1;have U8:(E.look ref l).1=kM (S.look ref l).1 l (whole S l i m):=by rw[l1]
  have aeu:(E.look ref l).2=(S.look ref l).2:=by rw[l1]
  have hlk:S.cls.length≤1000000→(gN S.aj l).length≤1000000→agT S ref:=fun hn hrow=>by
   have hsz:=h.tr.sz;have hsm:=h.hp.hi.hb.small;rw[hEv] at hsm;refine⟨⟨hsm,?_,?_,?_,fun r hrm=>?_⟩,by rw[←hEn];exact hr,hn,hS2,?_,?_⟩
   ·rw[←hE] at hsz;exact⟨hsz.level,hsz.reason,hsz.phase,hsz.occurs,hsz.units,by have:=hsz.aj;change (S.aj.set l _).length=_ at this;rw[List.length_set] at this;exact this⟩
   ·have:=h.tr.vals;rw[hEv] at this;exact this
   ·have:=h.tr.len;rw[hEv] at this;have e:E.trail=S.trail:=by rw[←hE];rfl
    rw[e] at this;omega
   ·obtain⟨j,hj,rfl⟩:=List.getElem_of_mem hrm
    by_cases e:j=l
    ·subst e;have:S.aj[j]=gN S.aj j:=by simp[gN,hj]
     rw[this];exact hrow
    ·have h1:=h.wa.len j;rw[hEn,←hE,zX qz,if_neg e] at h1;have:S.aj[j]=gN S.aj j:=by simp[gN,hj]
     rw[this];omega
   ·have:=h.cl.len hr;rw[hEc,hEv] at this;omega
   ·intro x hx;have:=h.cl.two ref hr x (by rw[hEc];exact hx);rw[hEv] at this;exact this.2
  rw[SM.kD,kN,hEg,href];rcases hc with ⟨e,hF,hW,hrow,hall⟩ | ⟨e,hF,hW,hcl⟩ | ⟨e,hF,hW,hrow,ahh,hcl⟩
  ·have e':=e;rw[aeu] at e';rw[e,e'];simp only[if_true,Bool.false_eq_true,if_false];refine⟨?_,fun hn hrw=>?_⟩
   ·rw[U8];refine Prod.ext ?_ rfl;show kM (kM (S.look ref l).1 l ((gN (S.look ref l).1.aj l).set m ref)) l _=_;rw[vU];rw[show gN ((S.look ref l).1.aj.set l ((gN (S.look ref l).1.aj l).set m ref)) l=(gN S.aj l).set m (gn (gN S.aj l) i) by rw[yD (by rw[l3];exact qz),if_pos rfl,l2,href],Jp hm hil]
   ·refine⟨by rw[href];exact hlk hn hrw,by rw[hf];omega,fun hb=>?_⟩;unfold uM at hb;rw[href,e'] at hb
    cases hb
  ·have e':=e;rw[aeu] at e';rw[e,e'];simp only[if_true,Bool.false_eq_true,if_false];have hwh:whole (S.look ref l).1 l (i+1) m=(whole S l i m).eraseIdx m:=by rw[Nc hm hil];unfold whole;rw[l2]
   have hX:kM (E.look ref l).1 l ((gN (E.look ref l).1.aj l).eraseIdx m)=kM (S.look ref l).1 l (whole (S.look ref l).1 l (i+1) m):=by
    rw[U8,zX (by rw[l3];exact qz),if_pos rfl,vU,hwh]
   have hY:kM (E.look ref l).1 l ((gN E.aj l).eraseIdx m)=kM (S.look ref l).1 l (whole (S.look ref l).1 l (i+1) m):=by
    rw[U8,Yz,vU,hwh]
   rw[hX];rw[hY] at hF hW
   have hfT:(S.look ref l).1.bF l=-1:=by
    have:=hW.bF (l:=l) (by omega);rw[hEf] at this;exact this
   obtain⟨a,b⟩:=yF f (S.look ref l).1 (i+1) m (by rw[l2];omega) (by omega) (by rw[l3];exact qz) hfT hF;refine⟨a,fun hn hrw=>⟨by rw[href];exact hlk hn hrw,by rw[hf];omega,fun _=>?_⟩⟩;unfold qy yB;rw[href,e'];simp only[if_true];exact b (by have:=hW.mX;rw[hEn] at this;change (S.look ref l).1.cls.length=_ at this;omega) (by rw[l2];exact hrw)
  ·have e':=e;rw[aeu] at e';rw[e,e'];simp only[Bool.false_eq_true,if_false];obtain⟨U,hU⟩:∃ U,kM (S.look ref l).1 l ((gN (S.look ref l).1.aj l).set m ref)=U:=⟨_,rfl⟩;have hUr:gN U.aj l=(gN S.aj l).set m (gn (gN S.aj l) i):=by rw[←hU,zX (by rw[l3];exact qz),if_pos rfl,l2,href]
   have hUw:whole U l (i+1) (m+1)=whole S l i m:=by unfold whole;rw[hUr];exact Jp hm hil
   have hUl:U.aj.length=S.aj.length:=by rw[←hU];show ((S.look ref l).1.aj.set _ _).length=_;rw[List.length_set,l3]
   have hX:kM U l (whole U l (i+1) (m+1))=(E.look ref l).1:=by rw[hUw,←hU,vU,U8]
   have hfT:U.bF l=-1:=by
    have:=hW.bF (l:=l) (by omega);rw[hEf,U8] at this;rw[←hU];exact this
   obtain⟨a,b⟩:=yF f U (i+1) (m+1) (by rw[hUr,List.length_set];omega) (by omega) (by rw[hUl];exact qz) hfT (by rw[hX];exact hF);have hUU:({ (S.look ref l).1 with aj:=(S.look ref l).1.aj.set l ((gN (S.look ref l).1.aj l).set m ref) }:SM)=U:=hU;rw[hUU];refine⟨by rw[a,hX],fun hn hrw=>⟨by rw[href];exact hlk hn hrw,by rw[hf];omega,fun _=>?_⟩⟩;unfold qy yB;rw[href,e'];simp only[Bool.false_eq_true,if_false];rw[hUU];exact b (by have:=hW.mX;rw[hEn,U8] at this;rw[←hU];change (S.look ref l).1.cls.length=_ at this;show (S.look ref l).1.cls.length≤_;omega) (by rw[hUr,List.length_set];exact hrw)
end Go.Proofs.YthbbmdnfkkffjaaGreat
namespace Go.Proofs.aC
open Go Go.RowKit Go.Maps
open Go.WideElems (Fit rd rg pl rd_val elemAt)
def At (D:DataW Unit) (f:Int→Int):Prop:=∀ x:Int,D.atKey (.int .i64 x) (.lit (.int .i64 0))=.lit (.int .i64 (f x))
def upd (f:Int→Int) (y z:Int):Int→Int:=fun u=>if u=y then z else f u
def mp (P:Program) (k e:TypeId) (b n:Nat) (f:Int→Int):HP:=fun h =>
 ∃ es clock,one b (.map es clock) h∧Fit P k (plainElem (H:=Unit) P e) es clock∧es.size≤n∧At (.map ((es.toList.map (rg P k (plainElem (H:=Unit) P e))).foldr DataW.insert [])) f
section
variable {P:Program} {k e t:TypeId} {B b n:Nat} {w w' w0:World} {f:Int→Int} {F:HP}
theorem Sat.Q8 (h:Sat B w (star (mp P k e b n f) F)):∃ D,w.ownsMap P k (plainElem (H:=Unit) P e) b n D∧At D f∧B≤b:=by
 obtain⟨hp,⟨h1,h2,d,rfl,⟨es,clock,p,F',hs,ha⟩,q⟩,c⟩:=h;have h3:Sat B w (star (aC.one b (.map es clock)) F):=⟨_,⟨h1,h2,d,rfl,p,q⟩,c⟩;exact⟨_,⟨es,clock,(Sat.one h3).1,F',hs,rfl⟩,ha,(Sat.one h3).2⟩
theorem Sat.YA (h:Sat B w (star (mp P k e b n f) F)) (hg:w.grownBy w' (some b)) {m:Nat} {D:DataW Unit} {g:Int→Int} (ho:w'.ownsMap P k (plainElem (H:=Unit) P e) b m D) (ha:At D g):Sat B w' (star (mp P k e b m g) F):=by
 obtain⟨hp,⟨h1,h2,d,rfl,⟨es,clock,p,F',hs,ha'⟩,q⟩,c⟩:=h;have h3:Sat B w (star (aC.one b (.map es clock)) F):=⟨_,⟨h1,h2,d,rfl,p,q⟩,c⟩;obtain⟨es',clock',hb',F2,hs',rfl⟩:=ho;have h4:=Sat.put h3 hb' fun i hi hlt=>hg.block i hlt (by simpa using hi);obtain⟨hp,⟨h1,h2,d,rfl,p,q⟩,c⟩:=h4;exact⟨_,⟨h1,h2,d,rfl,⟨es',clock',p,F2,hs',ha⟩,q⟩,c⟩
theorem St.YB (h:St B w0 w F):St B w0 (w.alloc (.map #[] 0)) (star (mp P k e w.heap.size 0 fun _=>0) F):=by
 refine⟨h.below.alloc h.base _,by have:=h.base;simp;omega,?_⟩;have h1:=h.sat.new h.base (.map #[] 0);obtain⟨hp,⟨h1,h2,d,rfl,p,q⟩,c⟩:=h1;obtain⟨es,clock,hb,F',hs,hD⟩:=World.ownsMap_made w P k (plainElem (H:=Unit) P e);rw[heap_alloc_new] at hb;simp only[Option.some.injEq,Obj.map.injEq] at hb;obtain⟨rfl,rfl⟩:=hb;exact⟨_,⟨h1,h2,d,rfl,⟨_,_,p,F',hs,fun x=>rfl⟩,q⟩,c⟩
theorem St.vV (h:St B w0 w (star (mp P k e b n f) F)) (K:Keyed P k) (ht:P.underlying t=some (.map k e)) (hk:P.underlying k=some (.int .i64)) (he:P.underlying e=some (.int .i64)) (hz:∀ w,(zeroValue e).run P w=.ok (.int .i64 0) w)
  (x:Int) (hx:(Lit.int .i64 x).wf=true):(Instr.lookup t (.map (some b)) (.int .i64 x) false).run P w=.ok (.int .i64 (f x)) w:=by
 obtain⟨D,ho,ha,_⟩:=h.sat.Q8;obtain⟨c,hrun,hat,_⟩:=ho.lookup_int K ht he (hz w) (keyOf_int_mk hk hx);rw[ha x] at hat
 simp only[DataW.lit.injEq,Lit.int.injEq,true_and] at hat
 rw[hrun,hat]
theorem iG {ops:Array Oper} {rest:List Oper} {o:Oper} {a:Act} {Q:Exit→Act→World→Prop} (hg:o.guard=none) (m x v:Operand) (hop:o.op=Op.mapUpdate t m x v)
  (h:St B w0 w (star (mp P k e b n f) F)) (K:Keyed P k) (ht:P.underlying t=some (.map k e)) (hk:P.underlying k=some (.int .i64)) (he:P.underlying e=some (.int .i64)) (hn:n<maxLen)
  (y z:Int) (hm:a.eval m=.map (some b)) (hx:a.eval x=.int .i64 y) (hv:a.eval v=.int .i64 z) (hy:(Lit.int .i64 y).wf=true) (hzw:(Lit.int .i64 z).wf=true)
  (hK:∀ w',St B w0 w' (star (mp P k e b (n+1) (upd f y z)) F)→wpList P ops Q rest (a.put o.dst undef) w') :
  wpList P ops Q (o :: rest) a w:=by
 obtain⟨D,ho,ha,hB⟩:=h.sat.Q8;refine wpList_mapUpdate_own w hg m x v t hop k e K ht _ b n D hm ho hn _ _ (.int .i64 y) hx hv (keyOf_int_mk hk hy) (.lit (.int .i64 z)) [] (plainElem_int he hzw) ?_;intro w' h1 h2;refine hK w' ⟨h.below.trans ⟨h2.os,h2.tape,h2.output,h2.size,fun i hi=>h2.block i (Nat.lt_of_lt_of_le hi h.base) (by simp;omega)⟩,Nat.le_trans h.base h2.size,h.sat.YA h2 h1 ?_⟩;intro u
 by_cases hu:u=y
 ·subst hu;rw[show upd f u z u=z from if_pos rfl];obtain⟨es,clock,_,_,_,rfl⟩:=ho;exact Maps.atKey_put_same ⟨_,rfl⟩ (by trivial) _ _
 ·rw[show upd f y z u=f u from if_neg hu,Maps.atKey_put_other (by simpa using hu),ha u]
end
end Go.Proofs.aC
