/-
  Parts of the proof, joined by program: Pi4, Pi5, Pi6, Pi7.
-/
import Derived.Test.YthbbmdnfkkffjaaGreatZ21
import Derived.Test.YthbbmdnfkkffjaaGreatZ16
namespace Go.Proofs.YthbbmdnfkkffjaaGreat
open Go.Proofs.PlaitPure Go.Proofs.PlaitSat
theorem swap_perm {c:List Nat} {i j:Nat} (hi:i<c.length) (hj:j<c.length):(SM.swapN c i j).Perm c:=by
 unfold SM.swapN
 rw[gn_eq c i hi,gn_eq c j hj]
 exact List.set_set_perm hi hj
theorem swap_gn {c:List Nat} {i j k:Nat} (hi:i<c.length) (hj:j<c.length):gn (SM.swapN c i j) k=if k=j then gn c i else if k=i then gn c j else gn c k:=by
 unfold SM.swapN
 rw[gn_set (by rw[List.length_set];exact hj),gn_set hi]
def orient (c:List Nat) (l:Nat):List Nat:=if gn c 0=l then SM.swapN c 0 1 else c
theorem orient_perm {c:List Nat} {l:Nat} (h:2≤c.length):(orient c l).Perm c:=by
 unfold orient;split
 ·exact swap_perm (by omega) (by omega)
 ·exact List.Perm.refl _
theorem orient_len {c:List Nat} {l:Nat}:(orient c l).length=c.length:=by
 unfold orient;split
 ·exact swap_len c 0 1
 ·rfl
def Two (c d:List Nat):Prop:=(gn c 0=gn d 0∧gn c 1=gn d 1)∨(gn c 0=gn d 1∧gn c 1=gn d 0)
theorem orient_two {c:List Nat} {l:Nat} (h:2≤c.length):Two (orient c l) c:=by
 unfold orient;split
 ·right;rw[swap_gn (by omega) (by omega),swap_gn (by omega) (by omega)];simp
 ·exact .inl ⟨rfl,rfl⟩
theorem orient_one {c:List Nat} {l:Nat} (h:2≤c.length) (hl:l=gn c 0∨l=gn c 1):gn (orient c l) 1=l:=by
 unfold orient;split
 ·rw[swap_gn (by omega) (by omega)];simpa using by assumption
 ·rcases hl with hl | hl
  ·exact absurd hl.symm (by assumption)
  ·exact hl.symm
theorem look_orient (S:SM) (ref l:Nat):S.look ref l=lookC S ref (orient (S.cl ref) l):=look_lookC S ref l
theorem findW_none {S:SM} {c:List Nat}:∀ {f i:Nat},SM.findW S f c i=none→∀ k,i≤k→k<i+f→S.isL (gn c k)<0
 | 0,_,_,_,_,_=>by omega
 | f+1,i,h,k,h1,h2=>by
  rw[SM.findW] at h
  split at h
  ·cases h
  ·by_cases e:k=i
   ·subst e;omega
   ·exact findW_none h k (by omega) (by omega)
inductive LookCase (S:SM) (ref:Nat) (c:List Nat):SM×Bool×Bool→Prop
 | sat (h:0<S.isL (gn c 0)):LookCase S ref c (S.setCl ref c,false,false)
 | move (i:Nat) (h0:S.isL (gn c 0)≤0) (h1:2≤i) (h2:i<c.length) (h3:0≤S.isL (gn c i)):LookCase S ref c ((S.setCl ref (SM.swapN c 1 i)).watch (gn c i) ref,true,false)
 | bad (h:∀ k,2≤k→k<c.length→S.isL (gn c k)<0) (h0:S.isL (gn c 0)<0):LookCase S ref c (S.setCl ref c,false,true)
 | unit (h:∀ k,2≤k→k<c.length→S.isL (gn c k)<0) (h0:S.isL (gn c 0)=0):LookCase S ref c ((S.setCl ref c).setL (gn c 0) ref,false,false)
theorem look_case (S:SM) (ref l:Nat) (h2:2≤(S.cl ref).length):LookCase S ref (orient (S.cl ref) l) (S.look ref l):=by
 rw[look_orient]
 have hl:2≤(orient (S.cl ref) l).length:=by rw[orient_len];exact h2
 generalize orient (S.cl ref) l=c at hl
 unfold lookC
 split
 ·rename_i h;exact .sat h
 ·rename_i h
  cases hf:S.findW (c.length-2) c 2 with
  | some i =>
   obtain⟨a,b,d⟩:=findW_at hf
   exact .move i (by omega) a (by omega) d
  | none =>
   have hn:∀ k,2≤k→k<c.length→S.isL (gn c k)<0:=fun k a b=>findW_none hf k a (by omega)
   simp only
   split
   ·rename_i h0;exact .bad hn h0
   ·rename_i h0;exact .unit hn (by omega)
structure ClI (S:SM):Prop where
 nd:∀ r,r<S.cls.length→((S.cl r).map (·/2)).Nodup
 two:∀ r,r<S.cls.length→∀ x∈S.cl r,2≤x∧x/2<S.value.length
structure WaI (S:SM):Prop where
 nd:∀ l,(gN S.watches l).Nodup
 iff:∀ l r,r∈gN S.watches l↔(r<S.cls.length∧2≤(S.cl r).length∧(l=gn (S.cl r) 0∨l=gn (S.cl r) 1))
theorem gN_set {l:List (List Nat)} {i j:Nat} {v:List Nat} (h:i<l.length):gN (l.set i v) j=if j=i then v else gN l j:=by
 by_cases e:j=i
 ·subst e;simp[gN,List.getD_eq_getElem?_getD,h]
 ·rw[if_neg e];simp[gN,List.getD_eq_getElem?_getD,List.getElem?_set_ne (Ne.symm e)]
theorem gN_out {l:List (List Nat)} {i:Nat} (h:l.length≤i):gN l i=[]:=by simp[gN,List.getD_eq_getElem?_getD,List.getElem?_eq_none h]
theorem cl_setCl {S:SM} {ref r:Nat} {c:List Nat} (h:ref<S.cls.length):(S.setCl ref c).cl r=if r=ref then c else S.cl r:=by
 show ((S.cls.set ref (c,S.id ref)).getD r ([],0)).1=_
 by_cases e:r=ref
 ·subst e;simp[List.getD_eq_getElem?_getD,h]
 ·rw[if_neg e];simp[SM.cl,List.getD_eq_getElem?_getD,List.getElem?_set_ne (Ne.symm e)]
theorem id_setCl {S:SM} {ref r:Nat} {c:List Nat} (h:ref<S.cls.length):(S.setCl ref c).id r=S.id r:=by
 show ((S.cls.set ref (c,S.id ref)).getD r ([],0)).2=_
 by_cases e:r=ref
 ·subst e;simp[List.getD_eq_getElem?_getD,h,SM.id]
 ·simp[SM.id,List.getD_eq_getElem?_getD,List.getElem?_set_ne (Ne.symm e)]
theorem ClI.ne {S:SM} (h:ClI S) {r i j:Nat} (hr:r<S.cls.length) (hi:i<(S.cl r).length) (hj:j<(S.cl r).length) (hij:i≠j):gn (S.cl r) i/2≠gn (S.cl r) j/2:=by
 have h1:=h.nd r hr
 intro e
 rw[gn_eq _ _ hi,gn_eq _ _ hj] at e
 exact hij ((List.getElem_inj (h₀:=by simpa using hi) (h₁:=by simpa using hj) h1).1 (by simpa using e))
theorem ClI.turn {S:SM} (h:ClI S) {ref:Nat} {c:List Nat} (hr:ref<S.cls.length) (hp:c.Perm (S.cl ref)):ClI (S.setCl ref c):=by
 have hl:(S.setCl ref c).cls.length=S.cls.length:=by show (S.cls.set _ _).length=_;rw[List.length_set]
 refine⟨fun r hrl=>?_,fun r hrl x hx=>?_⟩
 ·rw[hl] at hrl
  rw[cl_setCl hr]
  split
  ·exact (hp.map _).nodup_iff.2 (h.nd ref hr)
  ·exact h.nd r hrl
 ·rw[hl] at hrl
  rw[cl_setCl hr] at hx
  split at hx
  ·exact h.two ref hr x (hp.mem_iff.1 hx)
  ·exact h.two r hrl x hx
theorem WaI.turn {S:SM} (h:WaI S) {ref:Nat} {c:List Nat} (hr:ref<S.cls.length) (hp:c.Perm (S.cl ref)) (h2:Two c (S.cl ref)):WaI (S.setCl ref c):=by
 have hl:(S.setCl ref c).cls.length=S.cls.length:=by show (S.cls.set _ _).length=_;rw[List.length_set]
 refine⟨h.nd,fun l r=>?_⟩
 show r∈gN S.watches l↔_
 rw[h.iff,hl,cl_setCl hr]
 split
 ·rename_i e
  subst e
  rw[hp.length_eq]
  rcases h2 with ⟨a,b⟩ | ⟨a,b⟩ <;> rw[a,b]
  constructor <;> rintro⟨x,y,z⟩ <;> exact⟨x,y,z.symm⟩
 ·rfl
theorem WaI.move {S T:SM} (h:WaI S) {ref l k m:Nat} {c:List Nat} (hr:ref<S.cls.length) (hlen:c.length=(S.cl ref).length) (h2:2≤c.length)
  (hl:l=gn (S.cl ref) 0∨l=gn (S.cl ref) 1) (h0:Two (orient (S.cl ref) l) (S.cl ref)) (ho:gn (orient (S.cl ref) l) 1=l)
  (hc0:gn c 0=gn (orient (S.cl ref) l) 0) (hc1:gn c 1=k) (hkl:k≠l) (hk0:k≠gn c 0) (hl0:l≠gn c 0) (hkw:k<S.watches.length) (hlw:l<S.watches.length) (hm:m<(gN S.watches l).length) (hg:gn (gN S.watches l) m=ref)
  (hT:T.cls=(S.setCl ref c).cls) (hw:T.watches=(S.watches.set k (gN S.watches k++[ref])).set l ((gN S.watches l).eraseIdx m)):WaI T:=by
 have hlenT:T.cls.length=S.cls.length:=by rw[hT];show (S.cls.set _ _).length=_;rw[List.length_set]
 have hcl:∀ r,T.cl r=if r=ref then c else S.cl r:=fun r=>by
  rw[←cl_setCl hr];show (T.cls.getD r ([],0)).1=_;rw[hT];rfl
 have hrow:∀ j,gN T.watches j=if j=l then (gN S.watches l).eraseIdx m else if j=k then gN S.watches k++[ref] else gN S.watches j:=fun j=>by
  rw[hw,gN_set (by rw[List.length_set];exact hlw),gN_set hkw]
 have hnl:=h.nd l
 have hme:∀ r,r∈(gN S.watches l).eraseIdx m↔r∈gN S.watches l∧r≠ref:=fun r=>by
  rw[List.mem_eraseIdx_iff_getElem]
  have hg':(gN S.watches l)[m]=ref:=by rw[←gn_eq _ _ hm,hg]
  constructor
  ·rintro⟨i,hi,hne,rfl⟩
   exact⟨List.getElem_mem _,fun e=>hne ((List.getElem_inj (h₀:=hi) (h₁:=hm) hnl).1 (by rw[e,hg']))⟩
  ·rintro⟨hx,hne⟩
   obtain⟨i,hi,rfl⟩:=List.getElem_of_mem hx
   exact⟨i,hi,fun e=>hne (by subst e;exact hg'),rfl⟩
 have hkr:ref∉gN S.watches k:=fun hmem=>by
  obtain⟨_,_,hh⟩:=(h.iff k ref).1 hmem
  rcases h0 with ⟨a,b⟩ | ⟨a,b⟩ <;> rw[←a,←b,ho,←hc0] at hh <;> rcases hh with hh | hh <;> first | exact hkl hh | exact hk0 hh
 refine⟨fun j=>?_,fun j r=>?_⟩
 ·rw[hrow]
  split
  ·exact hnl.sublist (List.eraseIdx_sublist _ _)
  ·split
   ·rw[List.nodup_append]
    exact⟨h.nd k,by simp,fun a ha b hb=>by rw[List.mem_singleton.1 hb];intro e;exact hkr (e▸ha)⟩
   ·exact h.nd j
 ·rw[hrow,hlenT,hcl]
  by_cases e:r=ref
  ·subst e
   rw[if_pos rfl]
   by_cases e1:j=l
   ·rw[if_pos e1,hme,hc1]
    subst e1
    constructor
    ·rintro⟨_,hx⟩;exact absurd rfl hx
    ·rintro⟨_,_,hx | hx⟩
     ·exact absurd hx hl0
     ·exact absurd hx.symm hkl
   ·rw[if_neg e1]
    by_cases e2:j=k
    ·rw[if_pos e2]
     exact⟨fun _=>⟨hr,h2,.inr (by rw[e2,hc1])⟩,fun _=>by simp⟩
    ·rw[if_neg e2,h.iff,hc1,hlen]
     have hz:(j=gn (S.cl r) 0∨j=gn (S.cl r) 1)↔(j=gn c 0∨j=k):=by
      rcases h0 with ⟨a,b⟩ | ⟨a,b⟩ <;> rw[←a,←b,ho,←hc0]
      ·constructor
       ·rintro (x | x)
        ·exact .inl x
        ·exact absurd x e1
       ·rintro (x | x)
        ·exact .inl x
        ·exact absurd x e2
      ·constructor
       ·rintro (x | x)
        ·exact absurd x e1
        ·exact .inl x
       ·rintro (x | x)
        ·exact .inr x
        ·exact absurd x e2
     rw[hz]
  ·rw[if_neg e,←h.iff j r]
   by_cases e1:j=l
   ·rw[if_pos e1,hme,e1]
    exact⟨fun x=>x.1,fun x=>⟨x,e⟩⟩
   ·rw[if_neg e1]
    by_cases e2:j=k
    ·rw[if_pos e2,e2];simp[e]
    ·rw[if_neg e2]
end Go.Proofs.YthbbmdnfkkffjaaGreat
namespace Go.Proofs.YthbbmdnfkkffjaaGreat
open Go.Proofs.PlaitPure Go.Proofs.PlaitSat
def Proc (S:SM) (n a:Nat):Prop:=∃ i,i<n∧i<S.trail.length∧gn S.trail i=negL a
def PI1 (S:SM) (n a b:Nat):Prop:=Proc S n a→S.isL b=1∧gn S.level (b/2)≤gn S.level (a/2)
structure FoI (S:SM):Prop where
 tr:TrI S
 cl:ClI S
 wa:WaI S
 hp:HpAll S
 pi:∀ r,r<S.cls.length→2≤(S.cl r).length→PI1 S S.next (gn (S.cl r) 0) (gn (S.cl r) 1)∧PI1 S S.next (gn (S.cl r) 1) (gn (S.cl r) 0)
 ne:S.next≤S.trail.length
 en:∀ e∈S.ends,e≤S.next
structure Fwd (S T:SM):Prop where
 same:∃ cs ws va le re t,T={ S with cls:=cs,watches:=ws,value:=va,level:=le,reason:=re,trail:=S.trail++t }
 vlen:T.value.length=S.value.length
 clen:T.cls.length=S.cls.length
 wlen:T.watches.length=S.watches.length
 ids:∀ r,T.id r=S.id r
 perm:∀ r,(T.cl r).Perm (S.cl r)
 keep:∀ v,gi S.value v≠0→gi T.value v=gi S.value v∧gn T.level v=gn S.level v
theorem Fwd.refl (S:SM):Fwd S S:=⟨⟨S.cls,S.watches,S.value,S.level,S.reason,[],by simp⟩,rfl,rfl,rfl,fun _=>rfl,fun _=>List.Perm.refl _,fun _ _=>⟨rfl,rfl⟩⟩
theorem Fwd.trans {S T U:SM} (h:Fwd S T) (k:Fwd T U):Fwd S U:=by
 refine⟨?_,k.vlen.trans h.vlen,k.clen.trans h.clen,k.wlen.trans h.wlen,fun r=>(k.ids r).trans (h.ids r),fun r=>(k.perm r).trans (h.perm r),fun v hv=>?_⟩
 ·obtain⟨cs,ws,va,le,re,t,rfl⟩:=h.same
  obtain⟨cs',ws',va',le',re',t',rfl⟩:=k.same
  exact⟨cs',ws',va',le',re',t++t',by simp[List.append_assoc]⟩
 ·obtain⟨a,b⟩:=h.keep v hv
  obtain⟨c,d⟩:=k.keep v (by rw[a];exact hv)
  exact⟨c.trans a,d.trans b⟩
theorem Fwd.trail {S T:SM} (h:Fwd S T):∃ t,T.trail=S.trail++t:=by obtain⟨_,_,_,_,_,t,rfl⟩:=h.same;exact⟨t,rfl⟩
theorem Fwd.ends {S T:SM} (h:Fwd S T):T.ends=S.ends:=by obtain⟨_,_,_,_,_,t,rfl⟩:=h.same;rfl
theorem Fwd.next {S T:SM} (h:Fwd S T):T.next=S.next:=by obtain⟨_,_,_,_,_,t,rfl⟩:=h.same;rfl
theorem Fwd.gn {S T:SM} (h:Fwd S T) {i:Nat} (hi:i<S.trail.length):gn T.trail i=PlaitSat.gn S.trail i:=by
 obtain⟨t,e⟩:=h.trail;rw[e];exact gn_app_left hi
theorem Fwd.le {S T:SM} (h:Fwd S T):S.trail.length≤T.trail.length:=by obtain⟨t,e⟩:=h.trail;rw[e];simp
theorem Fwd.isL {S T:SM} (h:Fwd S T) {l:Nat} (hl:S.isL l≠0):T.isL l=S.isL l:=by
 have:=(h.keep (l/2) (fun e=>hl (isL_zero.2 e))).1
 unfold SM.isL;rw[this]
theorem Fwd.lev {S T:SM} (h:Fwd S T) {l:Nat} (hl:S.isL l≠0):PlaitSat.gn T.level (l/2)=PlaitSat.gn S.level (l/2):=(h.keep (l/2) (fun e=>hl (isL_zero.2 e))).2
theorem Proc.false {S:SM} (h:TrI S) {n a:Nat} (k:Proc S n a):S.isL a=-1:=by
 obtain⟨i,_,hi,e⟩:=k
 have:=h.is i hi
 rw[e,isL_neg] at this
 omega
theorem Fwd.proc {S T:SM} (h:Fwd S T) {n a:Nat} (hn:n≤S.trail.length):Proc T n a↔Proc S n a:=by
 constructor
 ·rintro⟨i,a,b,c⟩;exact⟨i,a,by omega,by rw[←h.gn (by omega)];exact c⟩
 ·rintro⟨i,a,b,c⟩;exact⟨i,a,by have:=h.le;omega,by rw[h.gn b];exact c⟩
theorem Fwd.pi1 {S T:SM} (h:Fwd S T) (hs:TrI S) {n a b:Nat} (hn:n≤S.trail.length) (hp:PI1 S n a b):PI1 T n a b:=fun hk=>by
 have hk':=(h.proc hn).1 hk
 obtain⟨h1,h2⟩:=hp hk'
 have h3:=hk'.false hs
 exact⟨by rw[h.isL (by omega)];exact h1,by rw[h.lev (by omega),h.lev (by omega)];exact h2⟩
theorem TrI.congr {S T:SM} (h:TrI S) (hz:Sz T) (hv:T.value=S.value) (hl:T.level=S.level) (hr:T.reason=S.reason) (ht:T.trail=S.trail) (he:T.ends=S.ends)
  (hc:S.cls.length≤T.cls.length) (hm:∀ r,r<S.cls.length→∀ x,x∈T.cl r↔x∈S.cl r):TrI T:=by
 have hL:∀ l,T.isL l=S.isL l:=fun l=>by unfold SM.isL;rw[hv]
 refine⟨hz,by rw[hv];exact h.vals,by rw[ht];exact h.two,by rw[ht,hv];exact h.lt,fun i hi=>?_,fun i hi=>?_,by rw[ht];exact h.inj,by rw[ht,hv];exact h.all,by rw[ht,he];exact h.ends,by rw[he];exact h.mono,fun i hi=>?_⟩
 ·rw[hL,ht];rw[ht] at hi;exact h.is i hi
 ·rw[ht] at hi ⊢;unfold levAt;rw[hl,he];exact h.lev i hi
 ·rw[ht] at hi
  unfold Why
  rw[hr,ht,he]
  rcases h.why i hi with a | ⟨r,a,b,c,d⟩
  ·exact .inl a
  ·exact .inr ⟨r,a,by omega,(hm r b _).2 c,fun x hx hne=>d x ((hm r b x).1 hx) hne⟩
theorem fwd_setCl {S:SM} {ref:Nat} {c:List Nat} (hr:ref<S.cls.length) (hp:c.Perm (S.cl ref)):Fwd S (S.setCl ref c):=by
 refine⟨⟨_,S.watches,S.value,S.level,S.reason,[],by unfold SM.setCl;rw[List.append_nil]⟩,rfl,?_,rfl,fun r=>id_setCl hr,fun r=>?_,fun _ _=>⟨rfl,rfl⟩⟩
 ·show (S.cls.set _ _).length=_;rw[List.length_set]
 ·rw[cl_setCl hr];split
  ·rename_i e;rw[e];exact hp
  ·exact List.Perm.refl _
theorem fwd_setL {S:SM} {l:Nat} {r:Int} (hl:l/2<S.value.length) (hlev:S.level.length=S.value.length) (h0:S.isL l=0):Fwd S (S.setL l r):=by
 refine⟨⟨S.cls,S.watches,_,_,_,[l],rfl⟩,by show (S.value.set _ _).length=_;rw[List.length_set],rfl,rfl,fun _=>rfl,fun _=>List.Perm.refl _,fun v hv=>?_⟩
 have hne:v≠l/2:=fun e=>hv (by rw[e];exact isL_zero.1 h0)
 constructor
 ·show gi (S.value.set _ _) v=_;rw[pgi_set hl,if_neg hne]
 ·show gn (S.level.set _ _) v=_;rw[gn_set (by rw[hlev];exact hl),if_neg hne]
theorem FoI.turn {S:SM} (h:FoI S) {ref:Nat} {c:List Nat} (hr:ref<S.cls.length) (hp:c.Perm (S.cl ref)) (h2:Two c (S.cl ref)):FoI (S.setCl ref c):=by
 have hf:=fwd_setCl hr hp
 refine⟨h.tr.congr ⟨h.tr.sz.level,h.tr.sz.reason,h.tr.sz.phase,h.tr.sz.occurs,h.tr.sz.units,h.tr.sz.watches⟩ rfl rfl rfl rfl rfl (by rw[hf.clen];exact Nat.le_refl _) (fun r _ x=>(hf.perm r).mem_iff),h.cl.turn hr hp,h.wa.turn hr hp h2,⟨h.hp.hi.congr rfl rfl rfl rfl,h.hp.nz,h.hp.all⟩,fun r hrl hlen=>?_,h.ne,h.en⟩
 rw[hf.clen] at hrl
 rw[(hf.perm r).length_eq] at hlen
 obtain⟨a,b⟩:=h.pi r hrl hlen
 have a':=hf.pi1 h.tr h.ne a
 have b':=hf.pi1 h.tr h.ne b
 rw[cl_setCl hr]
 split
 ·rename_i e
  subst e
  rcases h2 with ⟨x,y⟩ | ⟨x,y⟩ <;> rw[x,y]
  ·exact⟨a',b'⟩
  ·exact⟨b',a'⟩
 ·exact⟨a',b'⟩
theorem HpAll.setL {S:SM} (h:HpAll S) {l:Nat} {r:Int} (hl:l/2<S.value.length):HpAll (S.setL l r):=by
 have hlen:(S.setL l r).value.length=S.value.length:=by show (S.value.set _ _).length=_;rw[List.length_set]
 refine h.grown (h.hi.congr hlen rfl rfl rfl) hlen (fun v hv=>?_) rfl
 show gi (S.value.set _ _) v≠0
 rw[pgi_set hl]
 split
 ·split <;> omega
 ·exact hv
theorem FoI.setL {S:SM} (h:FoI S) {l:Nat} {r:Int} (h2:2≤l) (hl:l/2<S.value.length) (h0:S.isL l=0)
  (hr:(r=-1∧S.trail.length∈S.ends)∨∃ k:Nat,r=k∧k<S.cls.length∧l∈S.cl k∧∀ x∈S.cl k,x≠l→S.isL x=-1):FoI (S.setL l r):=by
 have hf:=fwd_setL (r:=r) hl h.tr.sz.level h0
 refine⟨h.tr.setL h2 hl h0 hr,⟨h.cl.nd,fun k hk x hx=>?_⟩,⟨h.wa.nd,h.wa.iff⟩,h.hp.setL hl,fun k hk hlen=>?_,?_,h.en⟩
 ·rw[hf.vlen];exact h.cl.two k hk x hx
 ·obtain⟨a,b⟩:=h.pi k hk hlen
  exact⟨hf.pi1 h.tr h.ne a,hf.pi1 h.tr h.ne b⟩
 ·have:=hf.le;have:=h.ne;show S.next≤_;omega
def OkW (S:SM) (l r:Nat):Prop:=(gn (S.cl r) 0=l→S.isL (gn (S.cl r) 1)=1)∧(gn (S.cl r) 1=l→S.isL (gn (S.cl r) 0)=1)
theorem FoI.watch_lt {S:SM} (h:FoI S) {l:Nat} (hl:l/2<S.value.length):l<S.watches.length:=by rw[h.tr.sz.watches];omega
theorem FoI.move {S T:SM} (h:FoI S) {ref l k m i:Nat} (hr:ref<S.cls.length) (h2:2≤(S.cl ref).length) (hl:l=gn (S.cl ref) 0∨l=gn (S.cl ref) 1)
  (hm:m<(gN S.watches l).length) (hg:gn (gN S.watches l) m=ref) (hf:S.isL l=-1) (hi1:2≤i) (hi2:i<(S.cl ref).length) (hk:gn (orient (S.cl ref) l) i=k) (hk0:0≤S.isL k)
  (hT:T={ (S.setCl ref (SM.swapN (orient (S.cl ref) l) 1 i)) with watches:=(S.watches.set k (gN S.watches k++[ref])).set l ((gN S.watches l).eraseIdx m) }) :
  FoI T∧Fwd S T∧(∀ r,r≠ref→T.cl r=S.cl r)∧T.value=S.value:=by
 have hol:(orient (S.cl ref) l).length=(S.cl ref).length:=orient_len
 have hop:=orient_perm (l:=l) h2
 have hotwo:=orient_two (l:=l) h2
 have ho1:=orient_one h2 hl
 have hcl':=h.cl.turn hr hop
 have hne:∀ a b,a<(S.cl ref).length→b<(S.cl ref).length→a≠b→gn (orient (S.cl ref) l) a≠gn (orient (S.cl ref) l) b:=fun a b ha hb hab e=>by
  have:=hcl'.ne (r:=ref) (i:=a) (j:=b) (by show _<(S.cls.set _ _).length;rw[List.length_set];exact hr) (by rw[cl_setCl hr,if_pos rfl,hol];exact ha) (by rw[cl_setCl hr,if_pos rfl,hol];exact hb) hab
  rw[cl_setCl hr,if_pos rfl,e] at this
  exact this rfl
 obtain⟨o,hoo⟩:∃ o,orient (S.cl ref) l=o:=⟨_,rfl⟩
 have hO:orient (S.cl ref) l=o:=hoo
 rw[hoo] at hol hop hotwo ho1 hk hT hne
 have hsp:(SM.swapN o 1 i).Perm (S.cl ref):=(swap_perm (by omega) (by omega)).trans hop
 have hg0:gn (SM.swapN o 1 i) 0=gn o 0:=by rw[swap_gn (by omega) (by omega),if_neg (by omega),if_neg (by omega)]
 have hg1:gn (SM.swapN o 1 i) 1=k:=by rw[swap_gn (by omega) (by omega),if_neg (by omega),if_pos rfl];exact hk
 have hkm:k∈S.cl ref:=hop.mem_iff.1 (by rw[←hk];exact gn_mem _ _ (by omega))
 have hlm:l∈S.cl ref:=hop.mem_iff.1 (by rw[←ho1];exact gn_mem _ _ (by omega))
 have hkl:k≠l:=by rw[←hk,←ho1];exact hne i 1 (by omega) (by omega) (by omega)
 have hk0':k≠gn (SM.swapN o 1 i) 0:=by rw[hg0,←hk];exact hne i 0 (by omega) (by omega) (by omega)
 have hl0':l≠gn (SM.swapN o 1 i) 0:=by rw[hg0,←ho1];exact hne 1 0 (by omega) (by omega) (by omega)
 have hkw:=h.watch_lt (h.cl.two ref hr k hkm).2
 have hlw:=h.watch_lt (h.cl.two ref hr l hlm).2
 have hf1:=fwd_setCl hr hsp
 have hcls:T.cls=(S.setCl ref (SM.swapN o 1 i)).cls:=by rw[hT]
 have hval:T.value=S.value:=by rw[hT];rfl
 have hwl:T.watches.length=S.watches.length:=by rw[hT];simp
 have hfw:Fwd S T:=by
  refine⟨⟨T.cls,T.watches,S.value,S.level,S.reason,[],by rw[hT,List.append_nil];rfl⟩,by rw[hval],by rw[hcls];exact hf1.clen,hwl,fun r=>?_,fun r=>?_,fun v _=>⟨by rw[hval],by rw[hT];rfl⟩⟩
  ·rw[←hf1.ids r];unfold SM.id;rw[hcls]
  ·have:=hf1.perm r;unfold SM.cl at this ⊢;rw[hcls];exact this
 have hclT:∀ r,T.cl r=if r=ref then SM.swapN o 1 i else S.cl r:=fun r=>by rw[←cl_setCl hr];unfold SM.cl;rw[hcls]
 have hwa:WaI T:=WaI.move (c:=SM.swapN o 1 i) (k:=k) (m:=m) h.wa hr (by rw[swap_len,hol]) (by rw[swap_len,hol];exact h2) hl (by rw[hO];exact hotwo) (by rw[hO];exact ho1) (by rw[hO];exact hg0) hg1 hkl hk0' hl0' hkw hlw hm hg hcls (by rw[hT])
 have hz:Sz T:=by
  have hzz:=h.tr.sz
  exact⟨by rw[hT];exact hzz.level,by rw[hT];exact hzz.reason,by rw[hT];exact hzz.phase,by rw[hT];exact hzz.occurs,by rw[hT];exact hzz.units,by rw[hwl,hval];exact hzz.watches⟩
 have hnx:T.next=S.next:=hfw.next
 refine⟨⟨h.tr.congr hz hval (by rw[hT];rfl) (by rw[hT];rfl) (by rw[hT];rfl) (by rw[hT];rfl) (by rw[hfw.clen];exact Nat.le_refl _) (fun r _ x=>(hfw.perm r).mem_iff),?_,hwa,?_,fun r hrl hlen=>?_,?_,?_⟩,hfw,fun r hrr=>by rw[hclT,if_neg hrr],hval⟩
 ·have:=h.cl.turn hr hsp
  refine⟨fun r hrl=>?_,fun r hrl x hx=>?_⟩
  ·rw[hcls] at hrl;have h3:=this.nd r hrl;unfold SM.cl at h3 ⊢;rw[hcls];exact h3
  ·rw[hcls] at hrl;rw[hval];exact this.two r hrl x (by unfold SM.cl at hx ⊢;rw[←hcls];exact hx)
 ·refine⟨h.hp.hi.congr (by rw[hval]) (by rw[hT];rfl) (by rw[hT];rfl) (by rw[hT];rfl),?_,?_⟩
  ·rw[show T.hl=S.hl by rw[hT];rfl];exact h.hp.nz
  ·rw[show T.hl=S.hl by rw[hT];rfl,hval];exact h.hp.all
 ·rw[hfw.clen] at hrl
  rw[(hfw.perm r).length_eq] at hlen
  obtain⟨a,b⟩:=h.pi r hrl hlen
  rw[hnx,hclT]
  split
  ·rename_i e
   subst e
   rw[hg0,hg1]
   have hno:¬ Proc S S.next (gn o 0):=fun hp=>by
    rcases hotwo with ⟨x,y⟩ | ⟨x,y⟩
    ·have:=(a (by rw[←x];exact hp)).1;rw[←y,ho1,hf] at this;cases this
    ·have:=(b (by rw[←x];exact hp)).1;rw[←y,ho1,hf] at this;cases this
   refine⟨fun hp=>absurd ((hfw.proc h.ne).1 hp) hno,fun hp=>?_⟩
   have:=((hfw.proc h.ne).1 hp).false h.tr
   omega
  ·exact⟨hfw.pi1 h.tr h.ne a,hfw.pi1 h.tr h.ne b⟩
 ·have:=h.ne;rw[hnx];have:=hfw.le;omega
 ·rw[hnx,hfw.ends];exact h.en
end Go.Proofs.YthbbmdnfkkffjaaGreat
namespace Go.Proofs.YthbbmdnfkkffjaaGreat
open Go.Proofs.PlaitPure Go.Proofs.PlaitSat
def rowW (S:SM) (l:Nat) (r:List Nat):SM:={ S with watches:=S.watches.set l r }
def innerE (l:Nat):Nat→SM→Nat→SM×Int
 | 0,S,_=>(S,-1)
 | f+1,S,m =>
  if (S.look (gn (gN S.watches l) m) l).2.2 then ((S.look (gn (gN S.watches l) m) l).1,gn (gN S.watches l) m)
  else if (S.look (gn (gN S.watches l) m) l).2.1 then innerE l f (rowW (S.look (gn (gN S.watches l) m) l).1 l ((gN (S.look (gn (gN S.watches l) m) l).1.watches l).eraseIdx m)) m
  else innerE l f (S.look (gn (gN S.watches l) m) l).1 (m+1)
theorem rowW_cl (S:SM) (l r:Nat) (x:List Nat):(rowW S l x).cl r=S.cl r:=rfl
theorem rowW_isL (S:SM) (l k:Nat) (x:List Nat):(rowW S l x).isL k=S.isL k:=rfl
theorem gN_rowW {S:SM} {l j:Nat} {x:List Nat} (hl:l<S.watches.length):gN (rowW S l x).watches j=if j=l then x else gN S.watches j:=gN_set hl
theorem findW_rowW (S:SM) (l:Nat) (x:List Nat):∀ (f:Nat) (c:List Nat) (i:Nat),(rowW S l x).findW f c i=S.findW f c i
 | 0,_,_=>rfl
 | f+1,c,i=>by
  unfold SM.findW
  rw[rowW_isL,findW_rowW S l x f]
theorem look_rowW {S:SM} {ref l:Nat} {x:List Nat} (h2:2≤(S.cl ref).length) (hf:S.isL l<0) :
  (rowW S l x).look ref l=(rowW (S.look ref l).1 l x,(S.look ref l).2)∧gN (S.look ref l).1.watches l=gN S.watches l∧(S.look ref l).1.watches.length=S.watches.length:=by
 rw[look_orient,look_orient,rowW_cl]
 have hl:2≤(orient (S.cl ref) l).length:=by rw[orient_len];exact h2
 generalize orient (S.cl ref) l=c at hl
 unfold lookC
 rw[findW_rowW,rowW_isL]
 split
 ·exact⟨rfl,rfl,rfl⟩
 ·cases hw:S.findW (c.length-2) c 2 with
  | some i =>
   obtain⟨_,_,hi⟩:=findW_at hw
   have hne:gn c i≠l:=fun e=>by rw[e] at hi;omega
   simp only
   refine⟨?_,?_,?_⟩
   ·unfold SM.watch rowW SM.setCl
    simp only
    have e1:gN (S.watches.set l x) (gn c i)=gN S.watches (gn c i):=by
     simp[gN,List.getD_eq_getElem?_getD,List.getElem?_set_ne (Ne.symm hne)]
    rw[e1,List.set_comm _ _ (Ne.symm hne)]
    rfl
   ·show gN (S.watches.set (gn c i) _) l=_
    simp[gN,List.getD_eq_getElem?_getD,List.getElem?_set_ne hne]
   ·show (S.watches.set (gn c i) _).length=_
    rw[List.length_set]
  | none =>
   simp only
   split
   ·exact⟨rfl,rfl,rfl⟩
   ·exact⟨rfl,rfl,rfl⟩
def Wide (S:SM) (l i:Nat):Prop:=∀ j,i≤j→j<(gN S.watches l).length→2≤(S.cl (gn (gN S.watches l) j)).length
theorem rowW_rowW (S:SM) (l:Nat) (x y:List Nat):rowW (rowW S l x) l y=rowW S l y:=by unfold rowW;simp
theorem look_bad_stays {S:SM} {ref l:Nat} (h2:2≤(S.cl ref).length) (h:(S.look ref l).2.2=true):(S.look ref l).2.1=false:=by
 have hc:=look_case S ref l h2
 revert h hc
 generalize S.look ref l=R
 intro h hc
 cases hc with
 | sat _=>cases h
 | move _ _ _ _ _=>cases h
 | bad _ _=>rfl
 | unit _ _=>cases h
theorem FoI.val {S:SM} (h:FoI S) (l:Nat):S.isL l=1∨S.isL l=-1∨S.isL l=0:=isL_val h.tr.vals l
theorem look_step {S:SM} {l m ref:Nat} (h:FoI S) (hf:S.isL l=-1) (hm:m<(gN S.watches l).length) (hg:gn (gN S.watches l) m=ref) :
  (ref<S.cls.length∧2≤(S.cl ref).length) ∧
  (((S.look ref l).2=(false,true)∧FoI (S.look ref l).1∧Fwd S (S.look ref l).1∧gN (S.look ref l).1.watches l=gN S.watches l∧∀ x∈(S.look ref l).1.cl ref,(S.look ref l).1.isL x=-1) ∨
   ((S.look ref l).2=(true,false)∧FoI (rowW (S.look ref l).1 l ((gN S.watches l).eraseIdx m))∧Fwd S (rowW (S.look ref l).1 l ((gN S.watches l).eraseIdx m))∧∀ r,r≠ref→(S.look ref l).1.cl r=S.cl r) ∨
   ((S.look ref l).2=(false,false)∧FoI (S.look ref l).1∧Fwd S (S.look ref l).1∧gN (S.look ref l).1.watches l=gN S.watches l∧OkW (S.look ref l).1 l ref∧∀ r,r≠ref→(S.look ref l).1.cl r=S.cl r)):=by
 obtain⟨hr,h2,hl⟩:=(h.wa.iff l ref).1 (by rw[←hg];exact gn_mem _ _ hm)
 refine⟨⟨hr,h2⟩,?_⟩
 have hol:(orient (S.cl ref) l).length=(S.cl ref).length:=orient_len
 have hop:=orient_perm (l:=l) h2
 have hotwo:=orient_two (l:=l) h2
 have ho1:=orient_one h2 hl
 have hmove:=fun k i=>FoI.move (T:={ (S.setCl ref (SM.swapN (orient (S.cl ref) l) 1 i)) with watches:=(S.watches.set k (gN S.watches k++[ref])).set l ((gN S.watches l).eraseIdx m) }) (k:=k) (i:=i) h hr h2 hl hm hg hf
 have hc:=look_case S ref l h2
 revert hc
 generalize S.look ref l=R
 generalize orient (S.cl ref) l=c at hol hop hotwo ho1 hmove
 intro hc
 have hF:=h.turn hr hop hotwo
 have hW:=fwd_setCl hr hop
 have hcr:(S.setCl ref c).cl ref=c:=by rw[cl_setCl hr,if_pos rfl]
 have hcn:∀ r,r≠ref→(S.setCl ref c).cl r=S.cl r:=fun r hrr=>by rw[cl_setCl hr,if_neg hrr]
 have hne01:gn c 0≠l:=fun e=>by
  have hz:=hF.cl.ne (r:=ref) (i:=0) (j:=1) (by rw[hW.clen];exact hr) (by rw[hcr];omega) (by rw[hcr];omega) (by omega)
  rw[hcr,ho1,e] at hz
  exact hz rfl
 cases hc with
 | sat h0 =>
  refine .inr (.inr ⟨rfl,hF,hW,rfl,?_,hcn⟩)
  unfold OkW
  rw[hcr]
  refine⟨fun e=>absurd e hne01,fun _=>?_⟩
  show S.isL (gn c 0)=1
  rcases h.val (gn c 0) with e | e | e <;> omega
 | move i h0 h1 h3 h4 =>
  obtain⟨a,b,d,_⟩:=hmove (gn c i) i h1 (by omega) rfl h4 rfl
  refine .inr (.inl ⟨rfl,a,b,d⟩)
 | bad hn h0 =>
  refine .inl ⟨rfl,hF,hW,rfl,fun x hx=>?_⟩
  rw[hcr] at hx
  obtain⟨k,hk,rfl⟩:=mem_gn hx
  show S.isL (gn c k)=-1
  have:S.isL (gn c k)<0:=by
   rcases Nat.lt_or_ge k 2 with hk2 | hk2
   ·have:k=0∨k=1:=by omega
    rcases this with rfl | rfl
    ·exact h0
    ·rw[ho1,hf];omega
   ·exact hn k hk2 hk
  rcases h.val (gn c k) with e | e | e <;> omega
 | unit hn h0 =>
  have hm0:gn c 0∈S.cl ref:=hop.mem_iff.1 (gn_mem _ _ (by omega))
  obtain⟨t2,tl⟩:=h.cl.two ref hr _ hm0
  have hfalse:∀ x∈(S.setCl ref c).cl ref,x≠gn c 0→(S.setCl ref c).isL x=-1:=fun x hx hne=>by
   rw[hcr] at hx
   obtain⟨k,hk,rfl⟩:=mem_gn hx
   show S.isL (gn c k)=-1
   have:S.isL (gn c k)<0:=by
    rcases Nat.lt_or_ge k 2 with hk2 | hk2
    ·have:k=0∨k=1:=by omega
     rcases this with rfl | rfl
     ·exact absurd rfl hne
     ·rw[ho1,hf];omega
    ·exact hn k hk2 hk
   rcases h.val (gn c k) with e | e | e <;> omega
  have hS:=hF.setL (l:=gn c 0) (r:=(ref:Int)) t2 (by show _<S.value.length;exact tl) h0 (.inr ⟨ref,rfl,by rw[hW.clen];exact hr,by rw[hcr];exact gn_mem _ _ (by omega),hfalse⟩)
  have hfs:=fwd_setL (S:=S.setCl ref c) (l:=gn c 0) (r:=(ref:Int)) (by show _<S.value.length;exact tl) h.tr.sz.level h0
  refine .inr (.inr ⟨rfl,hS,hW.trans hfs,rfl,?_,fun r hrr=>hcn r hrr⟩)
  unfold OkW
  rw[show ((S.setCl ref c).setL (gn c 0) (ref:Int)).cl ref=c from hcr]
  refine⟨fun e=>absurd e hne01,fun _=>?_⟩
  rw[isL_setL (by show _<S.value.length;exact tl),if_pos rfl]
end Go.Proofs.YthbbmdnfkkffjaaGreat
namespace Go.Proofs.YthbbmdnfkkffjaaGreat
open Go.Proofs.PlaitPure Go.Proofs.PlaitSat
theorem OkW.fwd {S T:SM} (h:Fwd S T) {l r:Nat} (hc:T.cl r=S.cl r) (k:OkW S l r):OkW T l r:=by
 unfold OkW at k ⊢
 rw[hc]
 exact⟨fun e=>by have:=k.1 e;rw[h.isL (by omega)];exact this,fun e=>by have:=k.2 e;rw[h.isL (by omega)];exact this⟩
theorem gn_erase_lt {l:List Nat} {m j:Nat} (h:j<m):gn (l.eraseIdx m) j=gn l j:=by
 simp[gn,List.getD_eq_getElem?_getD,List.getElem?_eraseIdx_of_lt h]
theorem row_ne {S:SM} (h:WaI S) {l i j:Nat} (hi:i<(gN S.watches l).length) (hj:j<(gN S.watches l).length) (hij:i≠j):gn (gN S.watches l) i≠gn (gN S.watches l) j:=by
 rw[gn_eq _ _ hi,gn_eq _ _ hj]
 intro e
 exact hij ((List.getElem_inj (h₀:=hi) (h₁:=hj) (h.nd l)).1 e)
def AllNo (S:SM) (r:Nat):Prop:=r<S.cls.length∧2≤(S.cl r).length∧∀ x∈S.cl r,S.isL x=-1
theorem innerE_run {l:Nat}:∀ (f:Nat) (S:SM) (m:Nat),m+f=(gN S.watches l).length→FoI S→S.isL l=-1→l<S.watches.length→(∀ j,j<m→OkW S l (gn (gN S.watches l) j)) →
  FoI (innerE l f S m).1∧Fwd S (innerE l f S m).1 ∧
  (((innerE l f S m).2=-1∧∀ r∈gN (innerE l f S m).1.watches l,OkW (innerE l f S m).1 l r) ∨
   ∃ r:Nat,(innerE l f S m).2=r∧AllNo (innerE l f S m).1 r∧l∈(innerE l f S m).1.cl r)
 | 0,S,m,hm,h,hf,hlw,hok=>by
  refine⟨h,Fwd.refl S,.inl ⟨rfl,fun r hr=>?_⟩⟩
  obtain⟨j,hj,rfl⟩:=mem_gn hr
  change j<(gN S.watches l).length at hj
  exact hok j (by omega)
 | f+1,S,m,hm,h,hf,hlw,hok=>by
  have hml:m<(gN S.watches l).length:=by omega
  obtain⟨ref,href⟩:∃ ref,gn (gN S.watches l) m=ref:=⟨_,rfl⟩
  obtain⟨⟨hr,h2⟩,hc⟩:=look_step h hf hml href
  have hne:∀ j,j<m→gn (gN S.watches l) j≠ref:=fun j hj=>by rw[←href];exact row_ne h.wa (by omega) hml (by omega)
  rw[innerE,href]
  rcases hc with ⟨e,hF,hW,hrow,hall⟩ | ⟨e,hF,hW,hcl⟩ | ⟨e,hF,hW,hrow,hokw,hcl⟩
  ·rw[e]
   simp only[if_true]
   refine⟨hF,hW,.inr ⟨ref,rfl,⟨by rw[hW.clen];exact hr,by rw[(hW.perm ref).length_eq];exact h2,hall⟩,?_⟩⟩
   have:=((h.wa.iff l ref).1 (by rw[←href];exact gn_mem _ _ hml)).2.2
   rw[(hW.perm ref).mem_iff]
   rcases this with e | e <;> rw[e] <;> exact gn_mem _ _ (by omega)
  ·rw[e]
   have hrow:gN (S.look ref l).1.watches l=gN S.watches l:=(look_rowW (x:=[]) h2 (by rw[hf];omega)).2.1
   simp only[if_true,Bool.false_eq_true,if_false]
   rw[hrow]
   obtain⟨T,hT⟩:∃ T,rowW (S.look ref l).1 l ((gN S.watches l).eraseIdx m)=T:=⟨_,rfl⟩
   have hTr:gN T.watches l=(gN S.watches l).eraseIdx m:=by
    rw[←hT,gN_rowW (by rw[(look_rowW (x:=[]) h2 (by rw[hf];omega)).2.2];exact hlw),if_pos rfl]
   have hTc:∀ r,r≠ref→T.cl r=S.cl r:=fun r hrr=>by rw[←hT];exact hcl r hrr
   rw[hT] at hF hW ⊢
   have hfT:T.isL l=-1:=by rw[hW.isL (by omega)];exact hf
   obtain⟨a,b,c⟩:=innerE_run f T m (by rw[hTr,List.length_eraseIdx,if_pos hml];omega) hF hfT (by rw[hW.wlen];exact hlw) fun j hj=>by
    rw[hTr,gn_erase_lt hj]
    exact (hok j hj).fwd hW (hTc _ (hne j hj))
   exact⟨a,hW.trans b,c⟩
  ·rw[e]
   simp only[Bool.false_eq_true,if_false]
   have hfT:(S.look ref l).1.isL l=-1:=by rw[hW.isL (by omega)];exact hf
   obtain⟨a,b,c⟩:=innerE_run f (S.look ref l).1 (m+1) (by rw[hrow];omega) hF hfT (by rw[hW.wlen];exact hlw) fun j hj=>by
    rw[hrow]
    by_cases e1:j=m
    ·rw[e1,href];exact hokw
    ·exact (hok j (by omega)).fwd hW (hcl _ (hne j (by omega)))
   exact⟨a,hW.trans b,c⟩
def whole (S:SM) (l i m:Nat):List Nat:=(gN S.watches l).take m++(gN S.watches l).drop i
theorem whole_len {S:SM} {l i m:Nat} (hm:m≤i) (hi:i≤(gN S.watches l).length):(whole S l i m).length=m+((gN S.watches l).length-i):=by
 unfold whole;rw[List.length_append,List.length_take,List.length_drop];omega
theorem whole_gn {S:SM} {l i m:Nat} (hm:m≤i) (hi:i<(gN S.watches l).length):gn (whole S l i m) m=gn (gN S.watches l) i:=by
 unfold whole
 have:((gN S.watches l).take m).length=m:=by rw[List.length_take];omega
 rw[gn_app_right (by omega),this,Nat.sub_self]
 simp[gn,List.getD_eq_getElem?_getD]
theorem whole_erase {S:SM} {l i m:Nat} (hm:m≤i) (hi:i<(gN S.watches l).length):(whole S l i m).eraseIdx m=(gN S.watches l).take m++(gN S.watches l).drop (i+1):=by
 unfold whole
 have:((gN S.watches l).take m).length=m:=by rw[List.length_take];omega
 rw[List.eraseIdx_append_of_length_le (by omega),this,Nat.sub_self,List.drop_eq_getElem_cons hi]
 rfl
theorem whole_set {S:SM} {l i m:Nat} (hm:m≤i) (hi:i<(gN S.watches l).length):(((gN S.watches l).set m (gn (gN S.watches l) i)).take (m+1)++((gN S.watches l).set m (gn (gN S.watches l) i)).drop (i+1))=whole S l i m:=by
 unfold whole
 rw[List.drop_set_of_lt (by omega),List.drop_eq_getElem_cons hi,List.take_succ_eq_append_getElem (by rw[List.length_set];omega),List.getElem_set_self,List.take_set,List.set_eq_of_length_le (by rw[List.length_take];omega),gn_eq _ _ hi,List.append_assoc]
 rfl
theorem rowW_self {S:SM} {l:Nat} (hl:l<S.watches.length):rowW S l (gN S.watches l)=S:=by
 unfold rowW
 have:S.watches.set l (gN S.watches l)=S.watches:=by
  apply List.ext_getElem?
  intro j
  by_cases e:l=j
  ·subst e;rw[List.getElem?_set_self hl,gN_some _ _ hl]
  ·rw[List.getElem?_set_ne e]
 rw[this]
end Go.Proofs.YthbbmdnfkkffjaaGreat
