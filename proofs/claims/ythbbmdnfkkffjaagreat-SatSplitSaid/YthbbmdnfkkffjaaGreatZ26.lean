/-
  Parts of the proof, joined by program: Pi10, Pi11, Pi12, Pi13, Pi14.
-/
import Derived.Test.YthbbmdnfkkffjaaGreatZ25
namespace Go.Proofs.YthbbmdnfkkffjaaGreat
open Go.Proofs.PlaitPure Go.Proofs.PlaitSat
theorem gB_set {l:List Bool} {i j:Nat} {v:Bool} (h:i<l.length):gB (l.set i v) j=if j=i then v else gB l j:=by
 by_cases e:j=i
 ·subst e;simp[gB,List.getD_eq_getElem?_getD,h]
 ·rw[if_neg e];simp[gB,List.getD_eq_getElem?_getD,List.getElem?_set_ne (Ne.symm e)]
structure Met (S:SM) (A:AM):Prop where
 ml:A.met.length=S.value.length
 on:∀ v,gB A.met v=true→∃ j,j<S.trail.length∧gn S.trail j/2=v
 z:∀ v,v∈A.zero↔gB A.met v=true∧gn S.level v=0
 zn:A.zero.Nodup
 l0:∃ ls,A.lits=0 :: ls∧(ls.map (·/2)).Nodup∧(∀ x∈ls,gB A.met (x/2)=true∧S.isL x=-1∧0<gn S.level (x/2)∧gn S.level (x/2)<S.ends.length) ∧
  ∀ v,gB A.met v=true→0<gn S.level v→gn S.level v<S.ends.length→∃ x∈ls,x/2=v
def cur (S:SM) (A:AM) (j:Nat):Bool:=gB A.met (gn S.trail j/2)&&gn S.level (gn S.trail j/2)==S.ends.length
def cnt (S:SM) (A:AM) (i:Nat):Nat:=(List.range i).countP (cur S A)
theorem cnt_succ (S:SM) (A:AM) (i:Nat):cnt S A (i+1)=cnt S A i+if cur S A i=true then 1 else 0:=by
 unfold cnt
 rw[List.range_succ,List.countP_append,List.countP_cons,List.countP_nil]
 simp
theorem cnt_same {S:SM} {A B:AM}:∀ {i:Nat},(∀ j,j<i→cur S A j=cur S B j)→cnt S A i=cnt S B i
 | 0,_=>rfl
 | i+1,h=>by rw[cnt_succ,cnt_succ,cnt_same (i:=i) (fun j hj=>h j (by omega)),h i (by omega)]
theorem cnt_one {S:SM} {A B:AM} {k:Nat}:∀ {i:Nat},k<i→(∀ j,j<i→j≠k→cur S A j=cur S B j)→cur S A k=false→cur S B k=true→cnt S B i=cnt S A i+1
 | 0,hk,_,_,_=>by omega
 | i+1,hk,h,h1,h2=>by
  rw[cnt_succ,cnt_succ]
  by_cases e:k=i
  ·subst e
   rw[h1,h2,cnt_same (A:=A) (B:=B) (i:=k) (fun j hj=>h j (by omega) (by omega))]
   simp
  ·rw[cnt_one (k:=k) (i:=i) (by omega) (fun j hj=>h j (by omega)) h1 h2,h i (by omega) (by omega)]
   omega
structure Meets (S0 S:SM) (A:AM) (ls:List Nat) (but i n:Nat) (R:SM×AM×Nat):Prop where
 ho:HOnly S R.1
 met:Met S0 R.2.1
 sub:∀ v,gB A.met v=true→gB R.2.1.met v=true
 all:∀ x∈ls,x≠but→gB R.2.1.met (x/2)=true
 fr:R.2.1.fr=A.fr
 num:cnt S0 R.2.1 i+n=cnt S0 A i+R.2.2
 new:∀ j,i≤j→j<S0.trail.length→gB R.2.1.met (gn S0.trail j/2)=true→gB A.met (gn S0.trail j/2)=true
theorem met_set {S:SM} {A B:AM} {v:Nat} (h:Met S A) (hv:v<S.value.length) (hB:B.met=A.met.set v true) (u:Nat):gB B.met u=true↔u=v∨gB A.met u=true:=by
 rw[hB,gB_set (by rw[h.ml];exact hv)]
 by_cases e:u=v
 ·simp[e]
 ·simp[e]
theorem cur_set {S:SM} {A B:AM} {v k j:Nat} (ht:TrI S) (h:Met S A) (hv:v<S.value.length) (hB:B.met=A.met.set v true) (hk:k<S.trail.length) (hkv:gn S.trail k/2=v) (hj:j<S.trail.length) (hne:j≠k):cur S A j=cur S B j:=by
 have h1:gn S.trail j/2≠v:=fun e=>hne (ht.inj j k hj hk (by rw[e,hkv]))
 unfold cur
 rw[hB,gB_set (by rw[h.ml];exact hv),if_neg h1]
theorem Met.on_set {S:SM} {A B:AM} {v k:Nat} (h:Met S A) (hv:v<S.value.length) (hB:B.met=A.met.set v true) (hk:k<S.trail.length) (hkv:gn S.trail k/2=v):∀ u,gB B.met u=true→∃ j,j<S.trail.length∧gn S.trail j/2=u:=fun u hu=>by
 rcases (met_set h hv hB u).1 hu with rfl | hu
 ·exact⟨k,hk,hkv⟩
 ·exact h.on u hu
theorem Met.zero {S:SM} {A:AM} {v k:Nat} (h:Met S A) (hv:v<S.value.length) (hk:k<S.trail.length) (hkv:gn S.trail k/2=v) (hn:gB A.met v=false) (h0:gn S.level v=0) :
  Met S { A with met:=A.met.set v true,zero:=A.zero++[v] }:=by
 have hs:=met_set (B:={ A with met:=A.met.set v true,zero:=A.zero++[v] }) h hv rfl
 obtain⟨ls,e1,e2,e3,e4⟩:=h.l0
 refine⟨by show (A.met.set v true).length=_;rw[List.length_set];exact h.ml,h.on_set hv rfl hk hkv,fun u=>?_,?_,ls,e1,e2,fun x hx=>?_,fun u hu h1 h2=>?_⟩
 ·rw[hs]
  show u∈A.zero++[v]↔_
  rw[List.mem_append,h.z,List.mem_singleton]
  constructor
  ·rintro (⟨a,b⟩ | rfl)
   ·exact⟨.inr a,b⟩
   ·exact⟨.inl rfl,h0⟩
  ·rintro⟨rfl | a,b⟩
   ·exact .inr rfl
   ·exact .inl ⟨a,b⟩
 ·show (A.zero++[v]).Nodup
  rw[List.nodup_append]
  refine⟨h.zn,by simp,fun a ha b hb e=>?_⟩
  rw[List.mem_singleton.1 hb] at e
  subst e
  have:=((h.z a).1 ha).1
  rw[hn] at this;cases this
 ·obtain⟨a,b,c,d⟩:=e3 x hx
  exact⟨(hs _).2 (.inr a),b,c,d⟩
 ·rcases (hs u).1 hu with rfl | hu
  ·omega
  ·exact e4 u hu h1 h2
theorem Met.now {S:SM} {A:AM} {v k:Nat} (h:Met S A) (hv:v<S.value.length) (hk:k<S.trail.length) (hkv:gn S.trail k/2=v) (h0:gn S.level v≠0) (h1:gn S.level v=S.ends.length) :
  Met S { A with met:=A.met.set v true }:=by
 have hs:=met_set (B:={ A with met:=A.met.set v true }) h hv rfl
 obtain⟨ls,e1,e2,e3,e4⟩:=h.l0
 refine⟨by show (A.met.set v true).length=_;rw[List.length_set];exact h.ml,h.on_set hv rfl hk hkv,fun u=>?_,h.zn,ls,e1,e2,fun x hx=>?_,fun u hu h2 h3=>?_⟩
 ·rw[hs]
  show u∈A.zero↔_
  rw[h.z]
  constructor
  ·rintro⟨a,b⟩;exact⟨.inr a,b⟩
  ·rintro⟨rfl | a,b⟩
   ·exact absurd b h0
   ·exact⟨a,b⟩
 ·obtain⟨a,b,c,d⟩:=e3 x hx
  exact⟨(hs _).2 (.inr a),b,c,d⟩
 ·rcases (hs u).1 hu with rfl | hu
  ·omega
  ·exact e4 u hu h2 h3
theorem Met.low {S:SM} {A:AM} {l k:Nat} (h:Met S A) (hv:l/2<S.value.length) (hk:k<S.trail.length) (hkv:gn S.trail k/2=l/2) (hf:S.isL l=-1) (hn:gB A.met (l/2)=false) (h0:gn S.level (l/2)≠0) (h1:gn S.level (l/2)<S.ends.length) :
  Met S { A with met:=A.met.set (l/2) true,lits:=A.lits++[l] }:=by
 have hs:=met_set (B:={ A with met:=A.met.set (l/2) true,lits:=A.lits++[l] }) h hv rfl
 obtain⟨ls,e1,e2,e3,e4⟩:=h.l0
 refine⟨by show (A.met.set _ true).length=_;rw[List.length_set];exact h.ml,h.on_set hv rfl hk hkv,fun u=>?_,h.zn,ls++[l],by show A.lits++[l]=_;rw[e1];rfl,?_,fun x hx=>?_,fun u hu h2 h3=>?_⟩
 ·rw[hs]
  show u∈A.zero↔_
  rw[h.z]
  constructor
  ·rintro⟨a,b⟩;exact⟨.inr a,b⟩
  ·rintro⟨rfl | a,b⟩
   ·exact absurd b h0
   ·exact⟨a,b⟩
 ·rw[List.map_append,List.nodup_append]
  refine⟨e2,by simp,fun a ha b hb e=>?_⟩
  obtain⟨x,hx,rfl⟩:=List.mem_map.1 ha
  have:=(e3 x hx).1
  rw[List.map_cons,List.map_nil,List.mem_singleton] at hb
  rw[e,hb,hn] at this
  cases this
 ·rcases List.mem_append.1 hx with hx | hx
  ·obtain⟨a,b,c,d⟩:=e3 x hx
   exact⟨(hs _).2 (.inr a),b,c,d⟩
  ·rw[List.mem_singleton.1 hx]
   exact⟨(hs _).2 (.inl rfl),hf,by omega,h1⟩
 ·rcases (hs u).1 hu with rfl | hu
  ·exact⟨l,by simp,rfl⟩
  ·obtain⟨x,hx,e⟩:=e4 u hu h2 h3
   exact⟨x,List.mem_append_left _ hx,e⟩
theorem HOnly.facts {S T:SM} (h:HOnly S T):T.level=S.level∧T.ends=S.ends∧T.trail=S.trail∧T.value=S.value∧T.reason=S.reason∧T.cls=S.cls:=by
 obtain⟨a,b,c,rfl⟩:=h.same;exact⟨rfl,rfl,rfl,rfl,rfl,rfl⟩
theorem Meets.next {S0 S S1:SM} {A A1:AM} {l but i n n1:Nat} {ls:List Nat} {R:SM×AM×Nat} (h:Meets S0 S1 A1 ls but i n1 R) (ho:HOnly S S1) (hs:∀ v,gB A.met v=true→gB A1.met v=true)
  (hl:l≠but→gB A1.met (l/2)=true) (hf:A1.fr=A.fr) (hc:cnt S0 A1 i+n=cnt S0 A i+n1) (hn:∀ j,i≤j→j<S0.trail.length→gB A1.met (gn S0.trail j/2)=true→gB A.met (gn S0.trail j/2)=true):Meets S0 S A (l :: ls) but i n R:=by
 refine⟨ho.trans h.ho,h.met,fun v hv=>h.sub v (hs v hv),fun x hx hne=>?_,h.fr.trans hf,by have:=h.num;omega,fun j h1 h2 h3=>hn j h1 h2 (h.new j h1 h2 h3)⟩
 rcases List.mem_cons.1 hx with rfl | hx
 ·exact h.sub _ (hl hne)
 ·exact h.all x hx hne
theorem meetsGo_spec {S0:SM} (ht:TrI S0) (hc:0<S0.ends.length) (but i:Nat) (hi:i≤S0.trail.length):∀ (ls:List Nat) (S:SM) (A:AM) (n:Nat),HOnly S0 S→Met S0 A →
  (∀ x∈ls,x≠but→S0.isL x=-1∧∃ k,k<i∧gn S0.trail k=negL x)→Meets S0 S A ls but i n (SM.meetsGo but S A n ls)
 | [],S,A,n,ho,hA,_=>⟨HOnly.refl S,hA,fun _ h=>h,(fun x hx=>by cases hx),rfl,rfl,fun _ _ _ h=>h⟩
 | l :: r,S,A,n,ho,hA,hls=>by
  obtain⟨f1,f2,f3,f4,f5,f6⟩:=ho.facts
  have hr:∀ x∈r,x≠but→S0.isL x=-1∧∃ k,k<i∧gn S0.trail k=negL x:=fun x hx=>hls x (List.mem_cons_of_mem _ hx)
  rw[SM.meetsGo,f1,f2]
  by_cases hb:l=but∨gB A.met (l/2)=true
  ·rw[if_pos hb]
   refine (meetsGo_spec ht hc but i hi r S A n ho hA hr).next (HOnly.refl S) (fun _ h=>h) (fun hne=>?_) rfl rfl (fun _ _ _ h=>h)
   exact hb.resolve_left hne
  ·rw[if_neg hb]
   rw[not_or] at hb
   obtain⟨hf,k,hk,hke⟩:=hls l (by simp) hb.1
   have hmf:gB A.met (l/2)=false:=by simpa using hb.2
   have hkt:k<S0.trail.length:=by omega
   have hkv:gn S0.trail k/2=l/2:=by rw[hke,negL_half]
   have hv:l/2<S0.value.length:=by rw[←hkv];exact ht.lt k hkt
   have hom:HOnly S (S.meet (l/2)):=honly_meet S _
   have ho':=ho.trans hom
   have hsub:∀ {B:AM},B.met=A.met.set (l/2) true→(∀ v,gB A.met v=true→gB B.met v=true)∧gB B.met (l/2)=true:=fun hB=>⟨fun v hv'=>(met_set hA hv hB v).2 (.inr hv'),(met_set hA hv hB _).2 (.inl rfl)⟩
   have hnew:∀ {B:AM},B.met=A.met.set (l/2) true→∀ j,i≤j→j<S0.trail.length→gB B.met (gn S0.trail j/2)=true→gB A.met (gn S0.trail j/2)=true:=fun hB j h1 h2 h3=>by
    rcases (met_set hA hv hB _).1 h3 with e | e
    ·have:=ht.inj j k h2 hkt (by rw[e,hkv]);omega
    ·exact e
   have hother:∀ {B:AM},B.met=A.met.set (l/2) true→∀ j,j<i→j≠k→cur S0 A j=cur S0 B j:=fun hB j h1 h2=>cur_set ht hA hv hB hkt hkv (by omega) h2
   by_cases h0:gn S0.level (l/2)=0
   ·rw[if_pos h0]
    have hB:=Met.zero hA hv hkt hkv hmf h0
    refine (meetsGo_spec ht hc but i hi r _ _ n ho' hB hr).next hom (hsub rfl).1 (fun _=>(hsub rfl).2) rfl ?_ (hnew rfl)
    have:cnt S0 { A with met:=A.met.set (l/2) true,zero:=A.zero++[l/2] } i=cnt S0 A i:=(cnt_same fun j hj=>by
     by_cases e:j=k
     ·subst e
      unfold cur
      rw[hkv,h0]
      have:((0:Nat)==S0.ends.length)=false:=by simp;omega
      rw[this,Bool.and_false,Bool.and_false]
     ·exact hother rfl j hj e).symm
    omega
   ·rw[if_neg h0]
    by_cases h1:gn S0.level (l/2)=S0.ends.length
    ·rw[if_pos h1]
     have hB:=Met.now hA hv hkt hkv h0 h1
     refine (meetsGo_spec ht hc but i hi r _ _ (n+1) ho' hB hr).next hom (hsub rfl).1 (fun _=>(hsub rfl).2) rfl ?_ (hnew rfl)
     have:cnt S0 { A with met:=A.met.set (l/2) true } i=cnt S0 A i+1:=by
      refine cnt_one (k:=k) hk (fun j hj hne=>hother rfl j hj hne) ?_ ?_
      ·unfold cur;rw[hkv,hmf,Bool.false_and]
      ·unfold cur;rw[hkv,(hsub (B:={ A with met:=A.met.set (l/2) true }) rfl).2,h1];simp
     omega
    ·rw[if_neg h1]
     have hle:=ht.lev_le (l:=l) (by omega)
     have hB:=Met.low hA hv hkt hkv hf hmf h0 (by omega)
     refine (meetsGo_spec ht hc but i hi r _ _ n ho' hB hr).next hom (hsub rfl).1 (fun _=>(hsub rfl).2) rfl ?_ (hnew rfl)
     have:cnt S0 { A with met:=A.met.set (l/2) true,lits:=A.lits++[l] } i=cnt S0 A i:=(cnt_same fun j hj=>by
      by_cases e:j=k
      ·subst e
       unfold cur
       rw[hkv]
       have:(gn S0.level (l/2)==S0.ends.length)=false:=by simp;omega
       rw[this,Bool.and_false,Bool.and_false]
      ·exact hother rfl j hj e).symm
     omega
end Go.Proofs.YthbbmdnfkkffjaaGreat
namespace Go.Proofs.YthbbmdnfkkffjaaGreat
open Go.Proofs.PlaitPure Go.Proofs.PlaitSat
theorem Met.zero_len {S:SM} {A:AM} (ht:TrI S) (h:Met S A):A.zero.length≤S.value.length:=nodup_lt h.zn fun v hv=>by
 obtain⟨j,hj,rfl⟩:=h.on v ((h.z v).1 hv).1
 exact ht.lt j hj
theorem isL_lt {S:SM} {x:Nat} (hx:S.isL x≠0):x/2<S.value.length:=by
 apply Classical.byContradiction;intro k
 exact hx (isL_zero.2 (pgi_out (by omega)))
theorem Met.lits_len {S:SM} {A:AM} (h:Met S A):0<A.lits.length∧A.lits.length≤S.value.length+1:=by
 obtain⟨ls,e,nd,hl,_⟩:=h.l0
 have:=nodup_lt (n:=S.value.length) nd fun v hv=>by
  obtain⟨x,hx,rfl⟩:=List.mem_map.1 hv
  exact isL_lt (by have:=(hl x hx).2.1;omega)
 rw[List.length_map] at this
 rw[e,List.length_cons]
 omega
def Closed (S:SM) (A:AM) (j:Nat):Prop:=∃ r:Nat,gi S.reason (gn S.trail j/2)=r∧r<S.cls.length∧gn S.trail j∈S.cl r∧∀ x∈S.cl r,gB A.met (x/2)=true∧(x≠gn S.trail j→∃ k,k<j∧gn S.trail k=negL x)
structure LI (S0:SM) (bad:Nat) (S:SM) (A:AM) (i o:Nat):Prop where
 ho:HOnly S0 S
 met:Met S0 A
 oc:o=cnt S0 A i
 o1:1≤o
 closed:∀ j,i≤j→j<S0.trail.length→cur S0 A j=true→Closed S0 A j
 bad:∀ x∈S0.cl bad,gB A.met (x/2)=true
structure Learnt (S0:SM) (bad:Nat) (R:SM×AM):Prop where
 ho:HOnly S0 R.1
 out:∃ A u,Met S0 A∧u<S0.trail.length∧R.2={ A with lits:=A.lits.set 0 (negL (gn S0.trail u)) }∧cur S0 A u=true∧(∀ j,j<u→cur S0 A j=false) ∧
  (∀ j,u<j→j<S0.trail.length→cur S0 A j=true→Closed S0 A j)∧∀ x∈S0.cl bad,gB A.met (x/2)=true
theorem cnt_zero {S:SM} {A:AM}:∀ {i:Nat},cnt S A i=0→∀ j,j<i→cur S A j=false
 | 0,_,j,hj=>by omega
 | i+1,h,j,hj=>by
  rw[cnt_succ] at h
  by_cases e:j=i
  ·subst e
   cases hc:cur S A j
   ·rfl
   ·rw[hc] at h;simp at h
  ·exact cnt_zero (i:=i) (by omega) j (by omega)
theorem cnt_none {S:SM} {A:AM}:∀ {i:Nat},(∀ j,j<i→cur S A j=false)→cnt S A i=0
 | 0,_=>rfl
 | i+1,h=>by rw[cnt_succ,cnt_none (fun j hj=>h j (by omega)),h i (by omega)];rfl
theorem learnGo_spec {S0:SM} {bad:Nat} (ht:TrI S0) (hcl:ClI S0) (hc:0<S0.ends.length) (hsm:S0.value.length≤100000):∀ (i:Nat) (S:SM) (A:AM) (o:Nat),i≤S0.trail.length→LI S0 bad S A i o →
  Learnt S0 bad (SM.learnGo i S A o)∧(A.fr.length+i≤900000→learnOk i S A o)∧(SM.learnGo i S A o).2.fr.length≤A.fr.length+i
 | 0,S,A,o,hi,h=>by
  have h1:=h.oc
  rw[show cnt S0 A 0=0 from rfl] at h1
  have:=h.o1
  omega
 | i+1,S,A,o,hi,h=>by
  obtain⟨f1,f2,f3,f4,f5,f6⟩:=h.ho.facts
  have hit:i<S0.trail.length:=by omega
  have hcs:=cnt_succ S0 A i
  have ho:=h.oc
  have ho1:=h.o1
  rw[SM.learnGo,learnOk,f3]
  simp only
  by_cases hm:gB A.met (gn S0.trail i/2)=true
  ·rw[if_pos hm,if_pos hm]
   have hcur:cur S0 A i=true:=by
    cases hq:cur S0 A i
    ·exfalso
     rw[hq] at hcs
     simp only[Bool.false_eq_true,if_false] at hcs
     have hlv:levAt S0 i≠S0.ends.length:=fun e=>by
      unfold cur at hq
      rw[hm,ht.lev i hit,e] at hq
      simp at hq
     have:cnt S0 A i=0:=cnt_none fun j hj=>by
      cases hz:cur S0 A j
      ·rfl
      ·unfold cur at hz
       simp only[Bool.and_eq_true,beq_iff_eq] at hz
       rw[ht.lev j (by omega)] at hz
       have:=lev_mono S0 (Nat.le_of_lt hj)
       have:=lev_le S0 i
       omega
     omega
    ·rfl
   rw[hcur] at hcs
   simp only[if_true] at hcs
   by_cases h1:o=1
   ·rw[if_pos h1]
    refine⟨⟨h.ho,A,i,h.met,hit,rfl,hcur,cnt_zero (by omega),fun j hj=>h.closed j (by omega),h.bad⟩,fun _=>⟨by omega,fun k=>absurd h1 k⟩,by show A.fr.length≤_;omega⟩
   ·rw[if_neg h1]
    rcases ht.why i hit with ⟨_,he⟩ | ⟨r,hr1,hr2,hr3,hr4⟩
    ·exfalso
     have:cnt S0 A i=0:=cnt_none fun j hj=>by
      cases hz:cur S0 A j
      ·rfl
      ·unfold cur at hz
       simp only[Bool.and_eq_true,beq_iff_eq] at hz
       rw[ht.lev j (by omega)] at hz
       have:=lev_strict he hj
       have:=lev_le S0 i
       omega
     omega
    ·have hcS:S.cl r=S0.cl r:=by unfold SM.cl;rw[f6]
     have hvS:S.value.length=S0.value.length:=by rw[f4]
     have hM:Met S0 { A with fr:=A.fr++[S.id r] }:=⟨h.met.ml,h.met.on,h.met.z,h.met.zn,h.met.l0⟩
     have hms:=meetsGo_spec ht hc (gn S0.trail i) i (by omega) (S0.cl r) S { A with fr:=A.fr++[S.id r] } 0 h.ho hM fun x hx hne=>by
      obtain⟨k,hk,e⟩:=hr4 x hx hne
      have h5:=ht.is k (by omega)
      rw[e,isL_neg] at h5
      exact⟨by omega,k,hk,e⟩
     have hme:S.meets { A with fr:=A.fr++[S.id r] } r (gn S0.trail i)=SM.meetsGo (gn S0.trail i) S { A with fr:=A.fr++[S.id r] } 0 (S0.cl r):=by unfold SM.meets;rw[hcS]
     have hrr:(gi S.reason (gn S0.trail i/2)).toNat=r:=by rw[f5,hr1];rfl
     rw[hrr,hme]
     obtain⟨R,hR⟩:∃ R,SM.meetsGo (gn S0.trail i) S { A with fr:=A.fr++[S.id r] } 0 (S0.cl r)=R:=⟨_,rfl⟩
     rw[hR] at hms hme ⊢
     have hnum:cnt S0 R.2.1 i=cnt S0 A i+R.2.2:=hms.num
     have hcl2:∀ j,i≤j→j<S0.trail.length→cur S0 R.2.1 j=true→Closed S0 R.2.1 j:=fun j hj1 hj2 hj3=>by
      by_cases e:j=i
      ·subst e
       refine⟨r,hr1,hr2,hr3,fun x hx=>⟨?_,fun hne=>hr4 x hx hne⟩⟩
       by_cases e:x=gn S0.trail j
       ·rw[e];exact hms.sub _ hm
       ·exact hms.all x hx e
      ·have hold:cur S0 A j=true:=by
        unfold cur at hj3 ⊢
        simp only[Bool.and_eq_true] at hj3 ⊢
        exact⟨hms.new j hj1 hj2 hj3.1,hj3.2⟩
       obtain⟨r',a,b,c,d⟩:=h.closed j (by omega) hj2 hold
       exact⟨r',a,b,c,fun x hx=>⟨hms.sub _ (d x hx).1,(d x hx).2⟩⟩
     have hfl:R.2.1.fr.length=A.fr.length+1:=by rw[hms.fr];simp
     obtain⟨g1,g2,g3⟩:=learnGo_spec ht hcl hc hsm i R.1 R.2.1 (o-1+R.2.2) (by omega) ⟨h.ho.trans hms.ho,hms.met,by omega,by omega,hcl2,fun x hx=>hms.sub _ (h.bad x hx)⟩
     refine⟨g1,fun hfr=>⟨by omega,fun _=>⟨r,by rw[f5,hr1],by rw[f6];exact hr2,?_,?_,?_,?_,?_,?_⟩⟩,by omega⟩
     ·rw[hcS];have:=hcl.len hr2;omega
     ·rw[hcS];intro x hx;rw[hvS];exact (hcl.two r hr2 x hx).2
     ·have:=h.met.zero_len ht;omega
     ·have:=h.met.lits_len.2;omega
     ·omega
     ·rw[hme];exact g2 (by omega)
  ·rw[if_neg hm,if_neg hm]
   have hcur:cur S0 A i=false:=by unfold cur;rw[show gB A.met (gn S0.trail i/2)=false by simpa using hm,Bool.false_and]
   rw[hcur] at hcs
   simp only[Bool.false_eq_true,if_false] at hcs
   obtain⟨g1,g2,g3⟩:=learnGo_spec ht hcl hc hsm i S A o (by omega) ⟨h.ho,h.met,by omega,ho1,fun j hj1 hj2 hj3=>by
    by_cases e:j=i
    ·rw[e,hcur] at hj3;cases hj3
    ·exact h.closed j (by omega) hj2 hj3,h.bad⟩
   exact⟨g1,fun hfr=>g2 (by omega),by omega⟩
end Go.Proofs.YthbbmdnfkkffjaaGreat
namespace Go.Proofs.YthbbmdnfkkffjaaGreat
open Go.Proofs.PlaitPure Go.Proofs.PlaitSat
structure Topped (S:SM) (c:List Nat) (R:List Nat×Nat):Prop where
 perm:R.1.Perm c
 head:gn R.1 0=gn c 0
 le:∀ j,1≤j→j<c.length→gn S.level (gn R.1 j/2)≤R.2
 one:1<c.length→R.2=gn S.level (gn R.1 1/2)
 none:c.length=1→R.2=0
theorem topGo_spec (S:SM):∀ (f:Nat) (c:List Nat) (k h:Nat),k+f+1=c.length→(k=0→h=0)→(0<k→h=gn S.level (gn c 1/2))→(∀ j,1≤j→j≤k→gn S.level (gn c j/2)≤h) →
  (∀ x∈c.tail,0<gn S.level (x/2))→Topped S c (SM.topGo S f c k h)
 | 0,c,k,h,hk,h0,h1,hle,_=>by
  refine⟨List.Perm.refl _,rfl,fun j a b=>hle j a (by omega),fun a=>h1 (by omega),fun a=>h0 (by omega)⟩
 | f+1,c,k,h,hk,h0,h1,hle,hpos=>by
  rw[SM.topGo]
  have hk1:k+1<c.length:=by omega
  have hp:0<gn S.level (gn c (k+1)/2):=hpos _ (by
   rw[gn_eq _ _ hk1]
   have:c.tail[k]'(by rw[List.length_tail];omega)=c[k+1]:=by rw[List.getElem_tail]
   rw[←this];exact List.getElem_mem _)
  by_cases hlt:h<gn S.level (gn c (k+1)/2)
  ·rw[if_pos hlt]
   have hsp:(SM.swapN c 1 (k+1)).Perm c:=swap_perm (by omega) hk1
   have hsl:=swap_len c 1 (k+1)
   have hg:∀ j,gn (SM.swapN c 1 (k+1)) j=if j=k+1 then gn c 1 else if j=1 then gn c (k+1) else gn c j:=fun j=>swap_gn (by omega) hk1
   have hg0:gn (SM.swapN c 1 (k+1)) 0=gn c 0:=by rw[hg,if_neg (by omega),if_neg (by omega)]
   have hg1:gn (SM.swapN c 1 (k+1)) 1=gn c (k+1):=by
    rw[hg]
    by_cases e:1=k+1
    ·rw[if_pos e,←e]
    ·rw[if_neg e,if_pos rfl]
   have r:=topGo_spec S f (SM.swapN c 1 (k+1)) (k+1) (gn S.level (gn c (k+1)/2)) (by omega) (fun e=>by omega) (fun _=>by rw[hg1]) (fun j a b=>by
    rw[hg]
    by_cases e:j=k+1
    ·rw[if_pos e]
     by_cases e0:k=0
     ·subst e0;exact Nat.le_refl _
     ·rw[←h1 (by omega)];omega
    ·rw[if_neg e]
     by_cases e1:j=1
     ·rw[if_pos e1];exact Nat.le_refl _
     ·rw[if_neg e1];have:=hle j a (by omega);omega) (fun x hx=>by
    obtain⟨j,hj,rfl⟩:=List.getElem_of_mem hx
    rw[List.length_tail,hsl] at hj
    rw[List.getElem_tail,←gn_eq _ _ (by rw[hsl];omega),hg]
    have hall:∀ i,1≤i→i<c.length→0<gn S.level (gn c i/2):=fun i a b=>hpos _ (by
     rw[gn_eq _ _ b]
     have:c.tail[i-1]'(by rw[List.length_tail];omega)=c[i]:=by rw[List.getElem_tail];congr 1;omega
     rw[←this];exact List.getElem_mem _)
    split
    ·exact hall 1 (by omega) (by omega)
    ·split
     ·exact hp
     ·exact hall _ (by omega) (by omega))
   exact⟨r.perm.trans hsp,r.head.trans hg0,fun j a b=>r.le j a (by omega),fun a=>r.one (by omega),fun a=>r.none (by omega)⟩
  ·rw[if_neg hlt]
   have hk0:k≠0:=fun e=>by have:=h0 e;omega
   exact topGo_spec S f c (k+1) h (by omega) (fun e=>by omega) (fun _=>h1 (by omega)) (fun j a b=>by
    by_cases e:j=k+1
    ·rw[e];omega
    ·exact hle j a (by omega)) hpos
end Go.Proofs.YthbbmdnfkkffjaaGreat
namespace Go.Proofs.YthbbmdnfkkffjaaGreat
open Go.Proofs.PlaitPure Go.Proofs.PlaitSat
def Zero (S:SM) (v:Nat):Prop:=gn S.level v=0∧∃ j,j<S.trail.length∧gn S.trail j/2=v
def rkT (S:SM) (v:Nat):Nat:=(S.trail.map (·/2)).idxOf v
theorem rk_at {S:SM} (h:TrI S) {j:Nat} (hj:j<S.trail.length):rkT S (gn S.trail j/2)=j:=by
 unfold rkT
 have hl:j<(S.trail.map (·/2)).length:=by rw[List.length_map];exact hj
 have e:gn S.trail j/2=(S.trail.map (·/2))[j]:=by rw[List.getElem_map,gn_eq _ _ hj]
 rw[e]
 exact h.nodup.idxOf_getElem j hl
theorem rk_lt {S:SM} (h:TrI S) {v:Nat} (hv:Zero S v):rkT S v<S.value.length:=by
 obtain⟨_,j,hj,rfl⟩:=hv
 rw[rk_at h hj]
 have:=h.len
 omega
structure ExI (K:Nat) (S:SM):Prop where
 ids:∀ r,r<S.cls.length→S.id r≠-1
 pot:S.steps.length+S.units.count (-1)≤S.words+S.value.length
 wm:S.words≤S.most
 mo:S.most≤262144
 fr:S.fresh≤S.given.length
 cn:2*(S.cls.length+(S.given.length-S.fresh))≤S.words+2*K
 kk:K≤100000
theorem ExI.words {K:Nat} {S:SM} (h:ExI K S):S.words≤1000000:=by have:=h.wm;have:=h.mo;omega
theorem ExI.cls {K:Nat} {S:SM} (h:ExI K S):S.cls.length≤800000:=by have:=h.wm;have:=h.mo;have:=h.cn;have:=h.kk;omega
theorem unOk {K:Nat} {S:SM} (h:TrI S) (hc:ClI S) (he:ExI K S) (hs:S.value.length≤100000):UnOk S (Zero S) (rkT S):=by
 refine⟨h.sz.units,h.sz.reason,hs,by have:=he.cls;omega,by have:=he.pot;have:=he.words;omega,he.ids,fun v ⟨_,j,hj,e⟩=>by rw[←e];exact h.lt j hj,fun v ⟨h0,j,hj,e⟩=>?_⟩
 subst e
 have hl0:levAt S j=0:=by rw[←h.lev j hj];exact h0
 rcases h.why j hj with ⟨_,hm⟩ | ⟨r,a,b,c,d⟩
 ·exfalso
  have:0<levAt S j:=List.countP_pos_iff.2 ⟨j,hm,by simp⟩
  omega
 ·refine⟨r,a,b,by have:=hc.len b;omega,fun l hl=>⟨(hc.two r b l hl).2,fun hne=>?_⟩⟩
  obtain⟨k,hk,e⟩:=d l hl fun k=>hne (by rw[k])
  have hkl:gn S.trail k/2=l/2:=by rw[e,negL_half]
  refine⟨⟨?_,k,by omega,hkl⟩,?_⟩
  ·rw[←hkl,h.lev k (by omega)]
   have:=lev_mono S (Nat.le_of_lt hk)
   omega
  ·rw[←hkl,rk_at h (by omega),rk_at h hj];exact hk
theorem FoI.enOk {K:Nat} {S:SM} (h:FoI S) (he:ExI K S) {bad:Nat} (h0:S.ends.length=0) (hb:bad<S.cls.length) (hn:∀ x∈S.cl bad,S.isL x=-1):EnOk S bad (Zero S) (rkT S):=by
 have hs:=h.hp.hi.hb.small
 refine⟨unOk h.tr h.cl he hs,fun v hv=>rk_lt h.tr hv,hb,fun l hl=>?_,by have:=h.cl.len hb;omega⟩
 have hf:=hn l hl
 obtain⟨i,hi,e⟩:=h.tr.at_false hf
 refine⟨by have:=h.tr.lev_le (l:=l) (by omega);omega,i,hi,by rw[e,negL_half]⟩
end Go.Proofs.YthbbmdnfkkffjaaGreat
namespace Go.Proofs.YthbbmdnfkkffjaaGreat
open Go.Proofs.PlaitPure Go.Proofs.PlaitSat
def AM.none (S:SM) (bad:Nat):AM:={ met:=List.replicate S.value.length false,zero:=[],lits:=[0],fr:=[S.id bad] }
theorem gB_none (n v:Nat):gB (List.replicate n false) v=false:=by
 unfold gB
 rw[List.getD_eq_getElem?_getD,List.getElem?_replicate]
 split <;> rfl
theorem met_none (S:SM) (bad:Nat):Met S (AM.none S bad):=by
 have hm:∀ v,¬ gB (AM.none S bad).met v=true:=fun v=>by
  show ¬ gB (List.replicate _ false) v=true
  rw[gB_none];simp
 refine⟨by show (List.replicate _ _).length=_;simp,fun v hv=>absurd hv (hm v),fun v=>?_,List.nodup_nil,[],rfl,List.nodup_nil,(fun x hx=>by cases hx),fun v hv=>absurd hv (hm v)⟩
 constructor
 ·intro hv;cases hv
 ·rintro⟨a,_⟩;exact absurd a (hm v)
structure Bad (S:SM) (bad:Nat):Prop where
 lt:bad<S.cls.length
 no:∀ x∈S.cl bad,S.isL x=-1
 here:∃ l∈S.cl bad,gn S.level (l/2)=S.ends.length
theorem learn_spec {S:SM} (h:FoI S) {bad:Nat} (he:0<S.ends.length) (hb:Bad S bad) :
  Learnt S bad (learn1 S bad)∧learnOk (learn0 S bad).1.trail.length (learn0 S bad).1 (learn0 S bad).2.1 (learn0 S bad).2.2∧(learn1 S bad).2.fr.length≤1+S.trail.length:=by
 have hs:=h.hp.hi.hb.small
 have htl:=h.tr.len
 have hm:=meetsGo_spec h.tr he 0 S.trail.length (Nat.le_refl _) (S.cl bad) S (AM.none S bad) 0 (HOnly.refl S) (met_none S bad) fun x hx _=>by
  obtain⟨i,hi,e⟩:=h.tr.at_false (hb.no x hx)
  exact⟨hb.no x hx,i,hi,e⟩
 have e0:learn0 S bad=SM.meetsGo 0 S (AM.none S bad) 0 (S.cl bad):=rfl
 obtain⟨R,hR⟩:∃ R,learn0 S bad=R:=⟨_,rfl⟩
 rw[←e0,hR] at hm
 have hl1:learn1 S bad=SM.learnGo R.1.trail.length R.1 R.2.1 R.2.2:=by unfold learn1;rw[hR]
 rw[hl1,hR]
 obtain⟨f1,f2,f3,f4,f5,f6⟩:=hm.ho.facts
 have hz:cnt S (AM.none S bad) S.trail.length=0:=cnt_none fun j _=>by
  unfold cur
  rw[show gB (AM.none S bad).met (gn S.trail j/2)=false from gB_none _ _,Bool.false_and]
 have hnum:=hm.num
 have hall:∀ x∈S.cl bad,gB R.2.1.met (x/2)=true:=fun x hx=>hm.all x hx (by have:=(h.cl.two bad hb.lt x hx).1;omega)
 have h1:1≤R.2.2:=by
  obtain⟨l,hl,hlv⟩:=hb.here
  obtain⟨i,hi,e⟩:=h.tr.at_false (hb.no l hl)
  have hc:cur S R.2.1 i=true:=by
   unfold cur
   rw[e,negL_half,hall l hl,hlv];simp
  apply Classical.byContradiction
  intro hn
  have:=cnt_zero (S:=S) (A:=R.2.1) (i:=S.trail.length) (by omega) i hi
  rw[hc] at this;cases this
 have hfr:R.2.1.fr.length=1:=by rw[hm.fr];rfl
 rw[f3]
 obtain⟨g1,g2,g3⟩:=learnGo_spec h.tr h.cl he hs S.trail.length R.1 R.2.1 R.2.2 (Nat.le_refl _) ⟨hm.ho,hm.met,by omega,h1,fun j a b=>by omega,hall⟩
 exact⟨g1,g2 (by omega),by omega⟩
theorem lrOk {K:Nat} {S:SM} (h:FoI S) (hx:ExI K S) {bad:Nat} (he:0<S.ends.length) (hb:Bad S bad):LrOk S bad (Zero S) (rkT S):=by
 have hs:=h.hp.hi.hb.small
 have htl:=h.tr.len
 obtain⟨hL,hok,hfr⟩:=learn_spec h he hb
 obtain⟨A,u,hA,hu,e,_,_,_,_⟩:=hL.out
 have hll:(learn1 S bad).2.lits.length=A.lits.length:=by rw[e];show (A.lits.set 0 _).length=_;rw[List.length_set]
 have hzz:(learn1 S bad).2.zero=A.zero:=by rw[e]
 refine⟨h.hp.hi,h.tr.sz,hb.lt,by have:=hx.cls;omega,by have:=h.cl.len hb.lt;omega,fun x hxx=>(h.cl.two bad hb.lt x hxx).2,h.tr.var_lt,by omega,hok,unOk h.tr h.cl hx hs,fun v hv=>rk_lt h.tr hv,fun v hv=>?_,?_,by omega,?_,?_,fun x hxx=>?_⟩
 ·rw[hzz] at hv
  obtain⟨a,b⟩:=(hA.z v).1 hv
  exact⟨b,hA.on v a⟩
 ·rw[hzz];have:=hA.zero_len h.tr;omega
 ·rw[hll];have:=hA.lits_len.2;omega
 ·rw[hll];exact hA.lits_len.1
 ·rw[e] at hxx
  rcases List.mem_or_eq_of_mem_set hxx with hxx | rfl
  ·obtain⟨ls,e1,_,e3,_⟩:=hA.l0
   rw[e1] at hxx
   rcases List.mem_cons.1 hxx with rfl | hxx
   ·have:=h.tr.lt u hu;omega
   ·exact isL_lt (by have:=(e3 x hxx).2.1;omega)
  ·rw[negL_half];exact h.tr.lt u hu
end Go.Proofs.YthbbmdnfkkffjaaGreat
